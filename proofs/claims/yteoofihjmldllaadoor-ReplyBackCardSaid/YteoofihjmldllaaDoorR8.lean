/- Contracts over the abstract states: rows out of readers. -/
import Derived.Test.YteoofihjmldllaaDoorR6
set_option linter.unusedVariables false
set_option linter.unusedSimpArgs false
set_option maxRecDepth 100000
namespace Go.Proofs.YteoofihjmldllaaDoor
open Go Go.Ab

section
variable (H : Hp) (k : Nat)

end

end Go.Proofs.YteoofihjmldllaaDoor

/- Contracts over the abstract states: the same values, schemas and rows; both readers' ends; ValueTakes. -/
set_option linter.unusedVariables false
set_option linter.unusedSimpArgs false
set_option maxRecDepth 100000
namespace Go.Proofs.YteoofihjmldllaaDoor
open Go Go.Ab

def Col.ok (a : Col) : Prop := (Lit.int .i64 a.kind).wf = true ∧ (Lit.int .i64 a.way).wf = true
theorem Col.sc {a : Col} (h : a.ok) : (scals [.int .i64, .bool, .int .i64] (cc a).cells.toList).isSome = true := by
 obtain ⟨h1, h2⟩ := h
 show (scals [.int .i64, .bool, .int .i64] [.int .i64 a.kind, .bool a.null, .int .i64 a.way]).isSome = true
 simp [scals, scal, h1, h2]
theorem itS_ok {s : List Col × Rd} (h1 : s.2.ok) (h2 : ∀ a ∈ s.1, a.ok) (i : Nat) : (itR sStep s i).2.ok ∧ ∀ a ∈ (itR sStep s i).1, a.ok := by
 induction i with
 | zero => exact ⟨h1, h2⟩
 | succ i ih =>
  refine ⟨colStep_ok ih.1, fun a ha => ?_⟩
  rcases List.mem_append.1 ha with ha | ha
  ·exact ih.2 a ha
  ·rw [List.mem_singleton.1 ha]
   have a1 := Rd.fix1_ok ih.1
   have a2 := Rd.fix1_ok a1.1
   have a3 := Rd.fix1_ok a2.1
   exact ⟨wf_i64 (n := ((itR sStep s i).2.fix1.1 : Int)) Wz Wz, wf_i64 (n := ((itR sStep s i).2.fix1.2.fix1.2.fix1.1 : Int) - 1) Wz Wz⟩
theorem runR_it {α : Type} (f : α × Rd → α × Rd) : ∀ (n : Nat) (s : α × Rd), ∃ i, runR f n s = itR f s i
 | 0, s => ⟨0, rfl⟩
 | n + 1, s => by
  rw [runR]
  split
  ·exact ⟨0, rfl⟩
  ·obtain ⟨i, h⟩ := runR_it f n (f s)
   refine ⟨i + 1, h.trans ?_⟩
   clear h
   induction i with
   | zero => rfl
   | succ i ih => exact congrArg f ih
theorem takeSch_ok {r : Rd} (h : r.ok) : (takeSch r).2.ok ∧ (∀ a ∈ (takeSch r).1, a.ok) ∧ (takeSch r).2.bs = r.bs := by
 obtain ⟨i, hi⟩ := runR_it sStep r.fix1.1 ([], r.fix1.2)
 have h1 := itS_ok (s := ([], r.fix1.2)) (Rd.fix1_ok h).1 (fun a ha => by cases ha) i
 have hb := itS_bs ([], r.fix1.2) i
 have e : schRun r = itR sStep ([], r.fix1.2) i := hi
 unfold takeSch
 rw [e]
 refine ⟨Rd.fail_ok h1.1 (schemaI_le _).1 (schemaI_le _).2, fun a ha => ?_, by show (Rd.fail _ _).bs = _; rw [Rd.fail_bs, hb, Rd.fix1_bs]⟩
 simp only at ha
 split at ha
 ·cases ha
 ·exact h1.2 a ha
theorem takeSch_le {r : Rd} (h : r.ok) : (takeSch r).1.length ≤ 255 := by
 have h0 : ∀ (n : Nat) (s : List Col × Rd), (runR sStep n s).1.length ≤ s.1.length + n := by
  intro n
  induction n with
  | zero => intro s; exact Nat.le_refl _
  | succ n ih =>
   intro s
   rw [runR]
   split
   ·omega
   ·have := ih (sStep s)
    have e : (sStep s).1.length = s.1.length + 1 := by show (s.1 ++ [_]).length = _; rw [List.length_append]; rfl
    omega
 have h1 := h0 r.fix1.1 ([], r.fix1.2)
 have h2 := (Rd.fix1_ok h).2
 have h3 : (schRun r).1.length ≤ 0 + r.fix1.1 := h1
 unfold takeSch
 simp only
 split
 ·exact Nat.zero_le _
 ·omega
abbrev cD0 : Col := ⟨0, false, 0⟩
section
variable (H : Hp) (k : Nat)

theorem same_s (cols : List Col) (A B : Option Addr) (c d : Nat) (hA : SLC H 3 A cols.length c (cols3 cols)) (hB : SLC H 3 B cols.length d (cols3 cols)) (hl : cols.length ≤ 9223372036854775807) (ho : ∀ v ∈ cols, v.ok) : ACalls Tryd.prog 3 55 [.slice A cols.length c, .slice B cols.length d] H k (Same H k (.bool true)) := by
 refine ACalls.fresh fun hf => ?_
 refine ACalls.body Tryd.func55 rfl (Nat.le_of_ble_eq_true rfl) ?_
 refine Sz ?_
 refine Rz [0] Kz rfl ?_
 refine Nz ?_
 refine Ez ?_
 refine Sz ?_
 refine Sz ?_
 refine Rz [0, 1, 2, 3, 4] Kz rfl ?_
 refine Mz ?_
 refine Oz rfl rfl rfl (AOp.len' rfl rfl ?_)
 refine Mz ?_
 refine Oz rfl rfl rfl (AOp.len' rfl rfl ?_)
 refine Oz rfl rfl rfl (AOp.bin' rfl rfl rfl rfl ?_)
 refine Ez ?_
 refine ACode.cond rfl (fun c0 => absurd c0 (by simp)) (fun c0 => ?_)
 refine ACode.skip ?_
 refine Sz ?_
 refine Sz ?_
 refine Rz [0] Kz rfl ?_
 refine Nz ?_
 refine Ez ?_
 refine ACode.block ?_
 refine ACode.count0 (fun i => [(5, .int .i64 (i : Int))]) [(0, _), (1, _)] (cols.length) (fun _ => True) (.cons rfl .nil) (.cons rfl (.cons rfl .nil)) trivial (fun i0 kL0 HL0 hiL0 hkL0 hsL0 hfL0 hxL0 => ?_)
 show ACode _ _ _ _ _ ⟨_, _, _⟩
 have tsL0 := SubS.of hsL0
 refine Sz ?_
 refine Sz ?_
 refine Rz [0, 1, 2, 3] Kz rfl ?_
 refine Mz ?_
 refine Mz ?_
 refine Oz rfl rfl rfl (AOp.len' rfl rfl ?_)
 refine Oz rfl rfl rfl (AOp.bin' rfl rfl rfl rfl ?_)
 refine Ez ?_
 refine ACode.cond rfl (fun c1 => ?_) (fun c1 => ?_)
 ·try simp only [Cz] at c1
  have hi : i0 < cols.length := by omega
  have hok : (cols.getD i0 cD0).ok := ho _ (getD_mem hi)
  refine ACode.skip ?_
  refine Sz ?_
  refine ACode.block ?_
  refine Sz ?_
  obtain ⟨n6_2, o6_2, s6_2, hq6_2, hp6_2⟩ := slcElG (fun a => (cc a).cells.toList) cD0 hA.cells (fun _ => rfl) Dz hi
  obtain ⟨n6_6, o6_6, s6_6, hq6_6, hp6_6⟩ := slcElG (fun a => (cc a).cells.toList) cD0 hB.cells (fun _ => rfl) Dz hi
  refine ACode.draw' 9 [(0, 17), (1, 18), (2, 19), (3, 20), (4, 21), (5, 22), (6, 23), (7, 24), (8, 25)] mixed Kz ?_
  refine Draw.step [(0, none)] rfl Kz rfl (fun kq hkq => AOp.move' (.inl rfl) rfl Vz) ?_
  refine Draw.step [(5, none)] rfl Kz rfl (fun kq hkq => AOp.move' (.inl rfl) rfl Vz) ?_
  refine Draw.step [(17, some 0), (18, some 1)] rfl Kz rfl (fun kq hkq => AOp.indexP (aslcAt_sub subA hq6_2) rfl rfl rfl Vz) ?_
  refine Draw.step [(19, some 2)] rfl Kz rfl (fun kq hkq => AOp.loadPA (v := cc (cols.getD i0 cD0)) (hp6_2.sub subA) rfl rfl rfl rfl (by first | rfl | (simp; done)) Dz Vz) ?_
  refine Draw.step [(1, none)] rfl Kz rfl (fun kq hkq => AOp.move' (.inl rfl) rfl Vz) ?_
  refine Draw.step [(5, none)] rfl Kz rfl (fun kq hkq => AOp.move' (.inl rfl) rfl Vz) ?_
  refine Draw.step [(21, some 4), (22, some 5)] rfl Kz rfl (fun kq hkq => AOp.indexP (aslcAt_sub subA hq6_6) rfl rfl rfl Vz) ?_
  refine Draw.step [(23, some 6)] rfl Kz rfl (fun kq hkq => AOp.loadPA (v := cc (cols.getD i0 cD0)) (hp6_6.sub subA) rfl rfl rfl rfl (by first | rfl | (simp; done)) Dz Vz) ?_
  refine Draw.step [(20, some 3), (24, some 7)] rfl Kz rfl (fun kq hkq => AOp.neAgg true rfl rfl rfl (Col.sc hok) (Col.sc hok) ⟨fun _ => rfl, fun _ => rfl⟩ Vz) ?_
  refine Draw.done fun kq hkq => ?_
  show aOps _ _ _ _ [] ⟨_, _, _⟩
  refine Ez ?_
  refine ACode.cond rfl (fun c2 => absurd c2 (by simp)) (fun c2 => ?_)
  refine ACode.skip ?_
  refine Rz [0, 1, 2] Kz rfl ?_
  refine Mz ?_
  refine Oz rfl rfl rfl (AOp.add rfl rfl rfl (i64_wrap Wz Wz) ?_)
  refine Nz ?_
  refine Ez ?_
  first | refine thenA_n ?_ | simp only [thenA, blockA, if_true]
  exact NextR.mk Wz Wz (.cons rfl .nil) (.cons rfl (.cons rfl .nil)) subA trivial
 ·try simp only [Cz] at c1
  refine ACode.exit ?_
  refine Sz ?_
  refine Rz [0] Kz rfl ?_
  refine Nz ?_
  refine Ez ?_
  refine ACode.ret ?_
  exact RetQ.one rfl rfl subA stays (fun hk => ⟨rfl, rfl, by omega⟩)

end

end Go.Proofs.YteoofihjmldllaaDoor
