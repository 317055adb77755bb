/- Contracts over the abstract states: rows out of readers. -/
import Derived.Test.YteoofihjmldllaaGreatDoorR6
import Derived.Test.YteoofihjmldllaaGreatDoorR34
set_option linter.unusedVariables false
set_option linter.unusedSimpArgs false
set_option maxRecDepth 100000
namespace Go.Proofs.YteoofihjmldllaaGreatDoor
open Go Go.Ab

section
variable (H : Hp) (k : Nat)


end

end Go.Proofs.YteoofihjmldllaaGreatDoor

/- Contracts over the abstract states: the same values, schemas and rows; both readers' ends; ValueTakes. -/
set_option linter.unusedVariables false
set_option linter.unusedSimpArgs false
set_option maxRecDepth 100000
namespace Go.Proofs.YteoofihjmldllaaGreatDoor
open Go Go.Ab

def Col.ok (a : Col) : Prop := (Lit.int .i64 a.kind).wf = true ∧ (Lit.int .i64 a.way).wf = true
theorem Col.sc {a : Col} (h : a.ok) : (scals [.int .i64, .bool, .int .i64] (cc a).cells.toList).isSome = true := by
 obtain ⟨h1, h2⟩ := h
 show (scals [.int .i64, .bool, .int .i64] [.int .i64 a.kind, .bool a.null, .int .i64 a.way]).isSome = true
 simp [scals, scal, h1, h2]
theorem itS_ok {s : List Col × Rd} (h1 : s.2.ok) (h2 : ∀ a ∈ s.1, a.ok) (i : Nat) : (itR sStep s i).2.ok ∧ ∀ a ∈ (itR sStep s i).1, a.ok := by
 induction i with
 | zero => exact ⟨h1, h2⟩
 | succ i ih =>
  refine ⟨colStep_ok ih.1, fun a ha => ?_⟩
  rcases List.mem_append.1 ha with ha | ha
  ·exact ih.2 a ha
  ·rw [List.mem_singleton.1 ha]
   have a1 := Rd.fix1_ok ih.1
   have a2 := Rd.fix1_ok a1.1
   have a3 := Rd.fix1_ok a2.1
   exact ⟨wf_i64 (n := ((itR sStep s i).2.fix1.1 : Int)) Wz Wz, wf_i64 (n := ((itR sStep s i).2.fix1.2.fix1.2.fix1.1 : Int) - 1) Wz Wz⟩
theorem runR_it {α : Type} (f : α × Rd → α × Rd) : ∀ (n : Nat) (s : α × Rd), ∃ i, runR f n s = itR f s i
 | 0, s => ⟨0, rfl⟩
 | n + 1, s => by
  rw [runR]
  split
  ·exact ⟨0, rfl⟩
  ·obtain ⟨i, h⟩ := runR_it f n (f s)
   refine ⟨i + 1, h.trans ?_⟩
   clear h
   induction i with
   | zero => rfl
   | succ i ih => exact congrArg f ih
theorem takeSch_ok {r : Rd} (h : r.ok) : (takeSch r).2.ok ∧ (∀ a ∈ (takeSch r).1, a.ok) ∧ (takeSch r).2.bs = r.bs := by
 obtain ⟨i, hi⟩ := runR_it sStep r.fix1.1 ([], r.fix1.2)
 have h1 := itS_ok (s := ([], r.fix1.2)) (Rd.fix1_ok h).1 (fun a ha => by cases ha) i
 have hb := itS_bs ([], r.fix1.2) i
 have e : schRun r = itR sStep ([], r.fix1.2) i := hi
 unfold takeSch
 rw [e]
 refine ⟨Rd.fail_ok h1.1 (schemaI_le _).1 (schemaI_le _).2, fun a ha => ?_, by show (Rd.fail _ _).bs = _; rw [Rd.fail_bs, hb, Rd.fix1_bs]⟩
 simp only at ha
 split at ha
 ·cases ha
 ·exact h1.2 a ha
theorem takeSch_le {r : Rd} (h : r.ok) : (takeSch r).1.length ≤ 255 := by
 have h0 : ∀ (n : Nat) (s : List Col × Rd), (runR sStep n s).1.length ≤ s.1.length + n := by
  intro n
  induction n with
  | zero => intro s; exact Nat.le_refl _
  | succ n ih =>
   intro s
   rw [runR]
   split
   ·omega
   ·have := ih (sStep s)
    have e : (sStep s).1.length = s.1.length + 1 := by show (s.1 ++ [_]).length = _; rw [List.length_append]; rfl
    omega
 have h1 := h0 r.fix1.1 ([], r.fix1.2)
 have h2 := (Rd.fix1_ok h).2
 have h3 : (schRun r).1.length ≤ 0 + r.fix1.1 := h1
 unfold takeSch
 simp only
 split
 ·exact Nat.zero_le _
 ·omega
abbrev cD0 : Col := ⟨0, false, 0⟩
section
variable (H : Hp) (k : Nat)

theorem same_s (cols : List Col) (A B : Option Addr) (c d : Nat) (hA : SLC H 3 A cols.length c (cols3 cols)) (hB : SLC H 3 B cols.length d (cols3 cols)) (hl : cols.length ≤ 9223372036854775807) (ho : ∀ v ∈ cols, v.ok) : ACalls Tryz.prog 2 52 [.slice A cols.length c, .slice B cols.length d] H k (Same H k (.bool true)) := by
 refine ACalls.fresh fun hf => ?_
 refine ACalls.body Tryz.func52 rfl (Nat.le_of_ble_eq_true rfl) ?_
 refine Sz ?_
 refine Rz [0] Kz rfl ?_
 refine Nz ?_
 refine Ez ?_
 refine Sz ?_
 refine Sz ?_
 refine Rz [0, 1, 2, 3, 4] Kz rfl ?_
 refine Mz ?_
 refine Oz rfl rfl rfl (AOp.len' rfl rfl ?_)
 refine Mz ?_
 refine Oz rfl rfl rfl (AOp.len' rfl rfl ?_)
 refine Oz rfl rfl rfl (AOp.bin' rfl rfl rfl rfl ?_)
 refine Ez ?_
 refine ACode.cond rfl (fun c0 => absurd c0 (by simp)) (fun c0 => ?_)
 refine ACode.skip ?_
 refine Sz ?_
 refine Sz ?_
 refine Rz [0] Kz rfl ?_
 refine Nz ?_
 refine Ez ?_
 refine ACode.block ?_
 refine ACode.count0 (fun i => [(5, .int .i64 (i : Int))]) [(0, _), (1, _)] (cols.length) (fun _ => True) (.cons rfl .nil) (.cons rfl (.cons rfl .nil)) trivial (fun i0 kL0 HL0 hiL0 hkL0 hsL0 hfL0 hxL0 => ?_)
 show ACode _ _ _ _ _ ⟨_, _, _⟩
 have tsL0 := SubS.of hsL0
 refine Sz ?_
 refine Sz ?_
 refine Rz [0, 1, 2, 3] Kz rfl ?_
 refine Mz ?_
 refine Mz ?_
 refine Oz rfl rfl rfl (AOp.len' rfl rfl ?_)
 refine Oz rfl rfl rfl (AOp.bin' rfl rfl rfl rfl ?_)
 refine Ez ?_
 refine ACode.cond rfl (fun c1 => ?_) (fun c1 => ?_)
 ·try simp only [Cz] at c1
  have hi : i0 < cols.length := by omega
  have hok : (cols.getD i0 cD0).ok := ho _ (getD_mem hi)
  refine ACode.skip ?_
  refine Sz ?_
  refine ACode.block ?_
  refine Sz ?_
  obtain ⟨n6_2, o6_2, s6_2, hq6_2, hp6_2⟩ := slcElG (fun a => (cc a).cells.toList) cD0 hA.cells (fun _ => rfl) Dz hi
  obtain ⟨n6_6, o6_6, s6_6, hq6_6, hp6_6⟩ := slcElG (fun a => (cc a).cells.toList) cD0 hB.cells (fun _ => rfl) Dz hi
  refine ACode.draw' 9 [(0, 17), (1, 18), (2, 19), (3, 20), (4, 21), (5, 22), (6, 23), (7, 24), (8, 25)] mixed Kz ?_
  refine Draw.step [(0, none)] rfl Kz rfl (fun kq hkq => AOp.move' (.inl rfl) rfl Vz) ?_
  refine Draw.step [(5, none)] rfl Kz rfl (fun kq hkq => AOp.move' (.inl rfl) rfl Vz) ?_
  refine Draw.step [(17, some 0), (18, some 1)] rfl Kz rfl (fun kq hkq => AOp.indexP (aslcAt_sub subA hq6_2) rfl rfl rfl Vz) ?_
  refine Draw.step [(19, some 2)] rfl Kz rfl (fun kq hkq => AOp.loadPA (v := cc (cols.getD i0 cD0)) (hp6_2.sub subA) rfl rfl rfl rfl (by first | rfl | (simp; done)) Dz Vz) ?_
  refine Draw.step [(1, none)] rfl Kz rfl (fun kq hkq => AOp.move' (.inl rfl) rfl Vz) ?_
  refine Draw.step [(5, none)] rfl Kz rfl (fun kq hkq => AOp.move' (.inl rfl) rfl Vz) ?_
  refine Draw.step [(21, some 4), (22, some 5)] rfl Kz rfl (fun kq hkq => AOp.indexP (aslcAt_sub subA hq6_6) rfl rfl rfl Vz) ?_
  refine Draw.step [(23, some 6)] rfl Kz rfl (fun kq hkq => AOp.loadPA (v := cc (cols.getD i0 cD0)) (hp6_6.sub subA) rfl rfl rfl rfl (by first | rfl | (simp; done)) Dz Vz) ?_
  refine Draw.step [(20, some 3), (24, some 7)] rfl Kz rfl (fun kq hkq => AOp.neAgg true rfl rfl rfl (Col.sc hok) (Col.sc hok) ⟨fun _ => rfl, fun _ => rfl⟩ Vz) ?_
  refine Draw.done fun kq hkq => ?_
  show aOps _ _ _ _ [] ⟨_, _, _⟩
  refine Ez ?_
  refine ACode.cond rfl (fun c2 => absurd c2 (by simp)) (fun c2 => ?_)
  refine ACode.skip ?_
  refine Rz [0, 1, 2] Kz rfl ?_
  refine Mz ?_
  refine Oz rfl rfl rfl (AOp.add rfl rfl rfl (i64_wrap Wz Wz) ?_)
  refine Nz ?_
  refine Ez ?_
  first | refine thenA_n ?_ | simp only [thenA, blockA, if_true]
  exact NextR.mk Wz Wz (.cons rfl .nil) (.cons rfl (.cons rfl .nil)) subA trivial
 ·try simp only [Cz] at c1
  refine ACode.exit ?_
  refine Sz ?_
  refine Rz [0] Kz rfl ?_
  refine Nz ?_
  refine Ez ?_
  refine ACode.ret ?_
  exact RetQ.one rfl rfl subA stays (fun hk => ⟨rfl, rfl, by omega⟩)
end

end Go.Proofs.YteoofihjmldllaaGreatDoor

/- Replies: plain Lean, and in memory. No condition. -/
set_option linter.unusedVariables false
set_option linter.unusedSimpArgs false
set_option maxRecDepth 100000
namespace Go.Proofs.YteoofihjmldllaaGreatDoor
open Go Go.Ab
/-- A shipped block. -/
structure Sp where
 h : Hd
 opn : Bool
 dead : List UInt8
 chunks : List (List UInt8)
abbrev spc (x : Sp) (s1 s2 s3 : Value) : List Value := hdc x.h s1 ++ [.bool x.opn, s2, s3]
abbrev spblk (x : Sp) (s1 s2 s3 : Value) : Blk := { cells := spc x s1 s2 s3, elem := 51, kind := .fix }
theorem spc_len (x : Sp) (s1 s2 s3 : Value) : (spc x s1 s2 s3).length = 38 := by rw [spc, List.length_append, hdc_len]; rfl
theorem spc_head (x : Sp) (s1 s2 s3 : Value) : (spc x s1 s2 s3).take 35 = hdc x.h s1 := List.take_left' (hdc_len _ _)
theorem spc_at (x : Sp) (s1 s2 s3 : Value) : (spc x s1 s2 s3)[35]? = some (.bool x.opn) ∧ (spc x s1 s2 s3)[36]? = some s2 ∧ (spc x s1 s2 s3)[37]? = some s3 := by
 have h : ∀ j, (spc x s1 s2 s3)[35 + j]? = [Value.bool x.opn, s2, s3][j]? := fun j => by
  rw [spc, List.getElem?_append_right (by rw [hdc_len]; omega), hdc_len, Nat.add_sub_cancel_left]
 exact ⟨h 0, h 1, h 2⟩
/-- Its cells in memory. -/
def SpC (H : Hp) (x : Sp) (cs : List Value) : Prop := ∃ (A1 : Option Addr) (c1 : Nat) (A2 : Option Addr) (c2 : Nat) (A3 : Option Addr) (c3 : Nat) (vs : List Value), cs = spc x (.slice A1 x.h.cols.length c1) (.slice A2 x.dead.length c2) (.slice A3 vs.length c3) ∧ SLC H 40 A1 x.h.cols.length c1 (chs x.h.cols) ∧ SLC H 1 A2 x.dead.length c2 (x.dead.map bv) ∧ SLC H 1 A3 vs.length c3 vs ∧ Bws H vs x.chunks
theorem SpC.sub {H H' : Hp} {x : Sp} {cs : List Value} (h : SpC H x cs) (hs : Ab.Sub H H') : SpC H' x cs := by
 obtain ⟨A1, c1, A2, c2, A3, c3, vs, h1, h2, h3, h4, h5⟩ := h
 exact ⟨A1, c1, A2, c2, A3, c3, vs, h1, h2.sub hs, h3.sub hs, h4.sub hs, h5.sub hs⟩
theorem SpC.len {H : Hp} {x : Sp} {cs : List Value} (h : SpC H x cs) : cs.length = 38 := by
 obtain ⟨A1, c1, A2, c2, A3, c3, vs, h1, _⟩ := h
 rw [h1, spc_len]
def spD : Sp := ⟨hdD, false, [], []⟩
/-- Shipped blocks behind each other. -/
structure Sps (H : Hp) (bs : List Value) (l : List Sp) : Prop where
 len : bs.length = l.length * 38
 at_ : ∀ i, i < l.length → SpC H (l.getD i spD) ((bs.drop (i * 38)).take 38)
theorem Sps.nil {H : Hp} : Sps H [] [] := ⟨rfl, fun i h => absurd h (Nat.not_lt_zero i)⟩
theorem Sps.sub {H H' : Hp} {bs : List Value} {l : List Sp} (h : Sps H bs l) (hs : Ab.Sub H H') : Sps H' bs l := ⟨h.len, fun i hi => (h.at_ i hi).sub hs⟩
/-- A reply. -/
structure Rp where
 size : Int
 root : Dg
 ent : Ent
 path : List Dg
 sch : List Col
 blocks : List Sp
abbrev rpc (r : Rp) (s1 s2 s3 : Value) : List Value := .int .i64 r.size :: (r.root.l.map bv ++ (entc r.ent ++ [s1, s2, s3]))
abbrev rpv (r : Rp) (s1 s2 s3 : Value) : Value := .agg (rpc r s1 s2 s3).toArray
abbrev rpblk (r : Rp) (s1 s2 s3 : Value) : Blk := { cells := rpc r s1 s2 s3, elem := 30, kind := .fix }
theorem rpc_len (r : Rp) (s1 s2 s3 : Value) : (rpc r s1 s2 s3).length = 101 := by rw [rpc, List.length_cons, List.length_append, List.length_append, hcs_one, entc_len]; rfl
theorem rpv_size (r : Rp) (s1 s2 s3 : Value) : (rpv r s1 s2 s3).cells.size = 101 := by show (rpc r s1 s2 s3).toArray.size = 101; rw [List.size_toArray, rpc_len]
theorem rpc_root (r : Rp) (s1 s2 s3 : Value) : ((rpc r s1 s2 s3).drop 1).take 32 = r.root.l.map bv := List.take_left' (hcs_one _)
theorem rpc_ent (r : Rp) (s1 s2 s3 : Value) : ((rpc r s1 s2 s3).drop 33).take 65 = entc r.ent := by
 show ((r.root.l.map bv ++ (entc r.ent ++ [s1, s2, s3])).drop 32).take 65 = _
 rw [List.drop_left' (hcs_one _), List.take_left' (entc_len _)]
theorem rpc_at (r : Rp) (s1 s2 s3 : Value) : (rpc r s1 s2 s3)[98]? = some s1 ∧ (rpc r s1 s2 s3)[99]? = some s2 ∧ (rpc r s1 s2 s3)[100]? = some s3 := by
 have h : ∀ j, (rpc r s1 s2 s3)[98 + j]? = [s1, s2, s3][j]? := fun j => by
  rw [rpc, show 98 + j = (97 + j) + 1 by omega, List.getElem?_cons_succ, List.getElem?_append_right (by rw [hcs_one]; omega), List.getElem?_append_right (by rw [hcs_one, entc_len]; omega), hcs_one, entc_len]
  congr 1
  omega
 exact ⟨h 0, h 1, h 2⟩
def RpV (H : Hp) (r : Rp) (v : Value) : Prop := ∃ (A1 : Option Addr) (c1 : Nat) (A2 : Option Addr) (c2 : Nat) (A3 : Option Addr) (c3 : Nat) (bs : List Value), v = rpv r (.slice A1 r.path.length c1) (.slice A2 r.sch.length c2) (.slice A3 r.blocks.length c3) ∧ SLC H 32 A1 r.path.length c1 (hcs r.path) ∧ SLC H 3 A2 r.sch.length c2 (cols3 r.sch) ∧ SLC H 38 A3 r.blocks.length c3 bs ∧ Sps H bs r.blocks
theorem RpV.sub {H H' : Hp} {r : Rp} {v : Value} (h : RpV H r v) (hs : Ab.Sub H H') : RpV H' r v := by
 obtain ⟨A1, c1, A2, c2, A3, c3, bs, h1, h2, h3, h4, h5⟩ := h
 exact ⟨A1, c1, A2, c2, A3, c3, bs, h1, h2.sub hs, h3.sub hs, h4.sub hs, h5.sub hs⟩
structure Sp.ok (x : Sp) : Prop where
 z : ∀ c ∈ x.h.cols, c.z.ok
 cl : x.h.cols.length ≤ 9223372036854775807
 dl : x.dead.length ≤ 9223372036854775807
 kl : x.chunks.length ≤ 9223372036854775807
 kb : ∀ y ∈ x.chunks, y.length ≤ 9223372036854775807
structure Rp.ok (r : Rp) : Prop where
 e : (Lit.int .i64 r.ent.g).wf = true
 pl : r.path.length ≤ 9223372036854775807
 sl : r.sch.length ≤ 9223372036854775807
 so : ∀ a ∈ r.sch, a.ok
 bl : r.blocks.length ≤ 9223372036854775807
 b : ∀ x ∈ r.blocks, x.ok
theorem ent_sc {e : Ent} (h : (Lit.int .i64 e.g).wf = true) : (scals (List.replicate 32 (.int .u8) ++ ([.int .i64] ++ List.replicate 32 (.int .u8))) (entc e).toArray.toList).isSome = true :=
 scals_app (hv_sc e.s) (scals_app (x := [.int .i64 e.g]) (by simp [scals, scal, h]) (hv_sc e.r))
theorem Sps.el {H : Hp} {A : Option Addr} {c i : Nat} {bs : List Value} {l : List Sp} (hS : SLC H 38 A l.length c bs) (hl : Sps H bs l) (hi : i < l.length) :
  ∃ (n off : Nat) (sp : Option Nat) (A1 : Option Addr) (c1 : Nat) (A2 : Option Addr) (c2 : Nat) (A3 : Option Addr) (c3 : Nat) (vs : List Value), aslcAt H 38 i (.slice A l.length c) = some (ptr n off sp) ∧ PAt H n off sp (spc (l.getD i spD) (.slice A1 (l.getD i spD).h.cols.length c1) (.slice A2 (l.getD i spD).dead.length c2) (.slice A3 vs.length c3)) ∧ SLC H 40 A1 (l.getD i spD).h.cols.length c1 (chs (l.getD i spD).h.cols) ∧ SLC H 1 A2 (l.getD i spD).dead.length c2 ((l.getD i spD).dead.map bv) ∧ SLC H 1 A3 vs.length c3 vs ∧ Bws H vs (l.getD i spD).chunks := by
 have h38 : (i + 1) * 38 ≤ bs.length := by rw [hl.len]; omega
 obtain ⟨n, off, sp, h1, h2⟩ := slcPt hS.cells h38 Dz
 obtain ⟨A1, c1, A2, c2, A3, c3, vs, h3, h4, h5, h6, h7⟩ := hl.at_ i hi
 rw [h3] at h2
 exact ⟨n, off, sp, A1, c1, A2, c2, A3, c3, vs, h1, h2, h4, h5, h6, h7⟩
theorem spv_size (x : Sp) (s1 s2 s3 : Value) : (Value.agg (spc x s1 s2 s3).toArray).cells.size = 38 := by show (spc x s1 s2 s3).toArray.size = 38; rw [List.size_toArray, spc_len]
theorem spc_one (x : Sp) (s1 s2 s3 : Value) (h1 : s1.oneCell' = true) (h2 : s2.oneCell' = true) (h3 : s3.oneCell' = true) : (spc x s1 s2 s3).all (·.oneCell') = true := by
 rw [List.all_eq_true]
 intro v hv
 simp only [spc, hdc, List.mem_append, List.mem_cons, List.mem_map, List.not_mem_nil, or_false] at hv
 rcases hv with (rfl | rfl | ⟨a, _, rfl⟩ | rfl) | rfl | rfl | rfl
 all_goals first | rfl | assumption
end Go.Proofs.YteoofihjmldllaaGreatDoor
