/- Replies: plain Lean, and in memory. No condition. -/
import Derived.Test.YteoofihjmldllaaDoorR34
import Derived.Test.YteoofihjmldllaaDoorR8
import Derived.Test.YteoofihjmldllaaDoorP5
import Derived.Test.YteoofihjmldllaaDoorV9
import Derived.Test.YteoofihjmldllaaDoorAbG
import Derived.Test.YteoofihjmldllaaDoorF2
set_option linter.unusedVariables false
set_option linter.unusedSimpArgs false
set_option maxRecDepth 100000
namespace Go.Proofs.YteoofihjmldllaaDoor
open Go Go.Ab
/-- A shipped block. -/
structure Sp where
  h : Hd
  opn : Bool
  dead : List UInt8
  chunks : List (List UInt8)
abbrev spc (x : Sp) (s1 s2 s3 : Value) : List Value := hdc x.h s1 ++ [.bool x.opn, s2, s3]
abbrev spblk (x : Sp) (s1 s2 s3 : Value) : Blk := { cells := spc x s1 s2 s3, elem := 84, kind := .fix }
theorem spc_len (x : Sp) (s1 s2 s3 : Value) : (spc x s1 s2 s3).length = 38 := by rw [spc, List.length_append, hdc_len]; rfl
theorem spc_head (x : Sp) (s1 s2 s3 : Value) : (spc x s1 s2 s3).take 35 = hdc x.h s1 := List.take_left' (hdc_len _ _)
theorem spc_at (x : Sp) (s1 s2 s3 : Value) : (spc x s1 s2 s3)[35]? = some (.bool x.opn) ∧ (spc x s1 s2 s3)[36]? = some s2 ∧ (spc x s1 s2 s3)[37]? = some s3 := by
  have h : ∀ j, (spc x s1 s2 s3)[35 + j]? = [Value.bool x.opn, s2, s3][j]? := fun j => by
    rw [spc, List.getElem?_append_right (by rw [hdc_len]; omega), hdc_len, Nat.add_sub_cancel_left]
  exact ⟨h 0, h 1, h 2⟩
/-- Its cells in memory. -/
def SpC (H : Hp) (x : Sp) (cs : List Value) : Prop := ∃ (A1 : Option Addr) (c1 : Nat) (A2 : Option Addr) (c2 : Nat) (A3 : Option Addr) (c3 : Nat) (vs : List Value), cs = spc x (.slice A1 x.h.cols.length c1) (.slice A2 x.dead.length c2) (.slice A3 vs.length c3) ∧ SLC H 40 A1 x.h.cols.length c1 (chs x.h.cols) ∧ SLC H 1 A2 x.dead.length c2 (x.dead.map bv) ∧ SLC H 1 A3 vs.length c3 vs ∧ Bws H vs x.chunks
theorem SpC.sub {H H' : Hp} {x : Sp} {cs : List Value} (h : SpC H x cs) (hs : Ab.Sub H H') : SpC H' x cs := by
  obtain ⟨A1, c1, A2, c2, A3, c3, vs, h1, h2, h3, h4, h5⟩ := h
  exact ⟨A1, c1, A2, c2, A3, c3, vs, h1, h2.sub hs, h3.sub hs, h4.sub hs, h5.sub hs⟩
theorem SpC.len {H : Hp} {x : Sp} {cs : List Value} (h : SpC H x cs) : cs.length = 38 := by
  obtain ⟨A1, c1, A2, c2, A3, c3, vs, h1, _⟩ := h
  rw [h1, spc_len]
def spD : Sp := ⟨hdD, false, [], []⟩
/-- Shipped blocks behind each other. -/
structure Sps (H : Hp) (bs : List Value) (l : List Sp) : Prop where
  len : bs.length = l.length * 38
  at_ : ∀ i, i < l.length → SpC H (l.getD i spD) ((bs.drop (i * 38)).take 38)
theorem Sps.nil {H : Hp} : Sps H [] [] := ⟨rfl, fun i h => absurd h (Nat.not_lt_zero i)⟩
theorem Sps.sub {H H' : Hp} {bs : List Value} {l : List Sp} (h : Sps H bs l) (hs : Ab.Sub H H') : Sps H' bs l := ⟨h.len, fun i hi => (h.at_ i hi).sub hs⟩
/-- A reply. -/
structure Rp where
  size : Int
  root : Dg
  ent : Ent
  path : List Dg
  sch : List Col
  blocks : List Sp
abbrev rpc (r : Rp) (s1 s2 s3 : Value) : List Value := .int .i64 r.size :: (r.root.l.map bv ++ (entc r.ent ++ [s1, s2, s3]))
abbrev rpv (r : Rp) (s1 s2 s3 : Value) : Value := .agg (rpc r s1 s2 s3).toArray
abbrev rpblk (r : Rp) (s1 s2 s3 : Value) : Blk := { cells := rpc r s1 s2 s3, elem := 71, kind := .fix }
theorem rpc_len (r : Rp) (s1 s2 s3 : Value) : (rpc r s1 s2 s3).length = 101 := by rw [rpc, List.length_cons, List.length_append, List.length_append, hcs_one, entc_len]; rfl
theorem rpv_size (r : Rp) (s1 s2 s3 : Value) : (rpv r s1 s2 s3).cells.size = 101 := by show (rpc r s1 s2 s3).toArray.size = 101; rw [List.size_toArray, rpc_len]
theorem rpc_root (r : Rp) (s1 s2 s3 : Value) : ((rpc r s1 s2 s3).drop 1).take 32 = r.root.l.map bv := List.take_left' (hcs_one _)
theorem rpc_ent (r : Rp) (s1 s2 s3 : Value) : ((rpc r s1 s2 s3).drop 33).take 65 = entc r.ent := by
  show ((r.root.l.map bv ++ (entc r.ent ++ [s1, s2, s3])).drop 32).take 65 = _
  rw [List.drop_left' (hcs_one _), List.take_left' (entc_len _)]
theorem rpc_at (r : Rp) (s1 s2 s3 : Value) : (rpc r s1 s2 s3)[98]? = some s1 ∧ (rpc r s1 s2 s3)[99]? = some s2 ∧ (rpc r s1 s2 s3)[100]? = some s3 := by
  have h : ∀ j, (rpc r s1 s2 s3)[98 + j]? = [s1, s2, s3][j]? := fun j => by
    rw [rpc, show 98 + j = (97 + j) + 1 by omega, List.getElem?_cons_succ, List.getElem?_append_right (by rw [hcs_one]; omega), List.getElem?_append_right (by rw [hcs_one, entc_len]; omega), hcs_one, entc_len]
    congr 1
    omega
  exact ⟨h 0, h 1, h 2⟩
def RpV (H : Hp) (r : Rp) (v : Value) : Prop := ∃ (A1 : Option Addr) (c1 : Nat) (A2 : Option Addr) (c2 : Nat) (A3 : Option Addr) (c3 : Nat) (bs : List Value), v = rpv r (.slice A1 r.path.length c1) (.slice A2 r.sch.length c2) (.slice A3 r.blocks.length c3) ∧ SLC H 32 A1 r.path.length c1 (hcs r.path) ∧ SLC H 3 A2 r.sch.length c2 (cols3 r.sch) ∧ SLC H 38 A3 r.blocks.length c3 bs ∧ Sps H bs r.blocks
theorem RpV.sub {H H' : Hp} {r : Rp} {v : Value} (h : RpV H r v) (hs : Ab.Sub H H') : RpV H' r v := by
  obtain ⟨A1, c1, A2, c2, A3, c3, bs, h1, h2, h3, h4, h5⟩ := h
  exact ⟨A1, c1, A2, c2, A3, c3, bs, h1, h2.sub hs, h3.sub hs, h4.sub hs, h5.sub hs⟩
structure Sp.ok (x : Sp) : Prop where
  z : ∀ c ∈ x.h.cols, c.z.ok
  cl : x.h.cols.length ≤ 9223372036854775807
  dl : x.dead.length ≤ 9223372036854775807
  kl : x.chunks.length ≤ 9223372036854775807
  kb : ∀ y ∈ x.chunks, y.length ≤ 9223372036854775807
structure Rp.ok (r : Rp) : Prop where
  e : (Lit.int .i64 r.ent.g).wf = true
  pl : r.path.length ≤ 9223372036854775807
  sl : r.sch.length ≤ 9223372036854775807
  so : ∀ a ∈ r.sch, a.ok
  bl : r.blocks.length ≤ 9223372036854775807
  b : ∀ x ∈ r.blocks, x.ok
theorem ent_sc {e : Ent} (h : (Lit.int .i64 e.g).wf = true) : (scals (List.replicate 32 (.int .u8) ++ ([.int .i64] ++ List.replicate 32 (.int .u8))) (entc e).toArray.toList).isSome = true :=
  scals_app (hv_sc e.s) (scals_app (x := [.int .i64 e.g]) (by simp [scals, scal, h]) (hv_sc e.r))
theorem Sps.el {H : Hp} {A : Option Addr} {c i : Nat} {bs : List Value} {l : List Sp} (hS : SLC H 38 A l.length c bs) (hl : Sps H bs l) (hi : i < l.length) :
    ∃ (n off : Nat) (sp : Option Nat) (A1 : Option Addr) (c1 : Nat) (A2 : Option Addr) (c2 : Nat) (A3 : Option Addr) (c3 : Nat) (vs : List Value), aslcAt H 38 i (.slice A l.length c) = some (ptr n off sp) ∧ PAt H n off sp (spc (l.getD i spD) (.slice A1 (l.getD i spD).h.cols.length c1) (.slice A2 (l.getD i spD).dead.length c2) (.slice A3 vs.length c3)) ∧ SLC H 40 A1 (l.getD i spD).h.cols.length c1 (chs (l.getD i spD).h.cols) ∧ SLC H 1 A2 (l.getD i spD).dead.length c2 ((l.getD i spD).dead.map bv) ∧ SLC H 1 A3 vs.length c3 vs ∧ Bws H vs (l.getD i spD).chunks := by
  have h38 : (i + 1) * 38 ≤ bs.length := by rw [hl.len]; omega
  obtain ⟨n, off, sp, h1, h2⟩ := slcPt hS.cells h38 Dz
  obtain ⟨A1, c1, A2, c2, A3, c3, vs, h3, h4, h5, h6, h7⟩ := hl.at_ i hi
  rw [h3] at h2
  exact ⟨n, off, sp, A1, c1, A2, c2, A3, c3, vs, h1, h2, h4, h5, h6, h7⟩
theorem spv_size (x : Sp) (s1 s2 s3 : Value) : (Value.agg (spc x s1 s2 s3).toArray).cells.size = 38 := by show (spc x s1 s2 s3).toArray.size = 38; rw [List.size_toArray, spc_len]
theorem spc_one (x : Sp) (s1 s2 s3 : Value) (h1 : s1.oneCell' = true) (h2 : s2.oneCell' = true) (h3 : s3.oneCell' = true) : (spc x s1 s2 s3).all (·.oneCell') = true := by
  rw [List.all_eq_true]
  intro v hv
  simp only [spc, hdc, List.mem_append, List.mem_cons, List.mem_map, List.not_mem_nil, or_false] at hv
  rcases hv with (rfl | rfl | ⟨a, _, rfl⟩ | rfl) | rfl | rfl | rfl
  all_goals first | rfl | assumption
end Go.Proofs.YteoofihjmldllaaDoor

/- Contracts over the abstract states: forms of digests and entries. -/
set_option linter.unusedVariables false
set_option linter.unusedSimpArgs false
set_option maxRecDepth 100000
namespace Go.Proofs.YteoofihjmldllaaDoor
open Go Go.Ab

theorem entc_g (e : Ent) : (entc e)[32]? = some (.int .i64 e.g) := by
  rw [entc, List.getElem?_append_right (by rw [hcs_one]; exact Nat.le_refl _), hcs_one]
  rfl
theorem src33 {H : Hp} {n : Nat} {e : Ent} (hn : H n = some (ebk e)) : srcOf H 1 (.slice (some ⟨n, 33, none⟩) 32 32) = some (e.r.l.length, e.r.l.map bv) := by
  rw [e.r.h]
  refine srcOf_slc (SLC.part hn (Nat.le_refl _) (by show 33 + 32 * 1 ≤ (entc e).length; rw [entc_len]; decide) ?_).cells
  have := mid_take (e.s.l.map bv ++ [.int .i64 e.g]) (e.r.l.map bv) [] 33 32 (by rw [List.length_append, hcs_one]; rfl) (hcs_one _)
  rw [List.append_nil, List.append_assoc] at this
  exact this
theorem slc0 {H : Hp} {n : Nat} {e : Ent} (hn : H n = some (ebk e)) : SLC H 1 (some ⟨n, 0, none⟩) 32 32 (e.s.l.map bv) := by
  refine SLC.part hn (Nat.le_refl _) (by show 0 + 32 * 1 ≤ (entc e).length; rw [entc_len]; decide) ?_
  exact mid_take [] (e.s.l.map bv) _ 0 32 rfl (hcs_one _)

section
variable {P : Program} {NG : Nat} {fr : Fr} {H : Hp} {nk : Nat} {R : Value → Hp → Nat → Prop} {o : Oper}
theorem eqNilS_run {w : World} {t e : TypeId} {ad : Addr} {l c : Nat} (d : Nat) (hu : P.underlying t = some (.slice e)) : (Op.equalIn (d + 1) t (.slice (some ad) l c) (.slice none 0 0)).run P w = .ok false w := by
  rw [Op.equalIn, Sem.run_bind, run_underlying hu]
  rfl
/-- A slice that is there is not nil. -/
theorem AOp.eqNilS {t t' e : TypeId} {z : Nat} {x y : Operand} {n off l c : Nat} {sp : Option Nat} (ho : o.op = .binOp .eql t x y t') [hd : SlInfo P t e z] (hx : aeval NG fr x = some (.slice (some ⟨n, off, sp⟩) l c)) (hy : aeval NG fr y = some (.slice none 0 0)) (hs : sp = none ∨ 0 < l)
    (hR : R (.bool false) H nk) : AOp P NG o ⟨fr, H, nk⟩ R := by
  refine AOp.quiet _ hR fun N B w0 G a w hs1 => ⟨.bool false, ?_, .plain rfl⟩
  have hp := aeval_rel hs1 hx
  have hq := (aeval_rel hs1 hy).plain_ rfl
  have hu := (slB_inv hd.h).1
  obtain ⟨ad, c', hA⟩ : ∃ ad c', a.eval x = .slice (some ad) l c' := by
    generalize a.eval x = p at hp
    cases hp with
    | plain h => simp [isPlain] at h
    | exact hg => exact ⟨_, _, rfl⟩
    | loose hg hc hA => rcases hs with hs | hs; · cases hs
                        · exact ⟨_, _, by rw [hA hs]⟩
    | grow hg hl =>
      rcases hs with hs | hs
      · cases hs
      · rcases hl with ⟨h0, _⟩ | ⟨r, _, hA, _⟩
        · omega
        · exact ⟨_, _, by rw [hA]⟩
    | gcut hg hl =>
      rcases hs with hs | hs
      · cases hs
      · obtain ⟨r, _, hA, _⟩ := hl.2 hs
        exact ⟨_, _, by rw [hA]⟩
  have h1 := eqNilS_run (P := P) (w := w) (t := t) (ad := ad) (l := l) (c := c') 9999 hu
  have h2 : (eqGuard .eql t x y (.slice (some ad) l c') (.slice none 0 0)).run P w = .ok () w := by simp [eqGuard]
  have h3 : (binOp .eql t (.slice (some ad) l c') (.slice none 0 0)).run P w = .ok (.bool false) w := by
    simp only [binOp]
    simp [Op.equal, Op.maxDepth, h1]
  simp only [execOp, ho, hA, hq]
  rw [Sem.run_bind, Sem.run_bind, h2]
  simp only [Result.andThen_ok, h3]
  rfl
end
section
variable (H : Hp) (k : Nat)

theorem clone_b (b : List UInt8) (n off : Nat) (sp : Option Nat) (l c : Nat) (hl : b.length = l) (hs : SLC H 1 (some ⟨n, off, sp⟩) l c (b.map bv)) (h0 : 0 < l) (hb : l ≤ 549755813888) : ACalls Tryd.prog 3 37 [.slice (some ⟨n, off, sp⟩) l c] H k (NewB H k 5 b) := by
  refine ACalls.fresh fun hf => ?_
  refine ACalls.body Tryd.func37 rfl (Nat.le_of_ble_eq_true rfl) ?_
  subst hl
  refine Sz ?_
  refine Rz [0] Kz rfl ?_
  refine Nz ?_
  refine Ez ?_
  refine Sz ?_
  refine Sz ?_
  refine Rz [0, 1] Kz rfl ?_
  refine Mz ?_
  refine Oz rfl rfl rfl (AOp.eqNilS rfl rfl rfl (.inr h0) ?_)
  refine Ez ?_
  refine ACode.cond rfl (fun c0 => absurd c0 (by simp)) (fun c0 => ?_)
  refine ACode.skip ?_
  refine Sz ?_
  refine Rz [0, 1, 2, 3] Kz rfl ?_
  refine Oz rfl rfl rfl (AOp.buildB [] rfl Dz rfl rfl ?_)
  refine Mz ?_
  refine Oz rfl rfl rfl ?_
  refine AOp.appendB (ps := ?ns1) rfl rfl rfl ?hn1 ?hsrc1 ?ht1 ?hw1 ?hz1 ?hR1
  (case hn1 => exact hpB)
  (case hsrc1 => refine srcOf_slc (SLC.sub hs ?_).cells; exact subB)
  (case ht1 => exact srcOk_sl)
  (case hw1 => (first | omega | (simp only [List.length_cons, List.length_nil]; omega) | (simp only [List.length_append, List.length_cons, List.length_nil]; omega) | (simp; omega)))
  (case hz1 => (first | omega | (simp only [List.length_cons, List.length_nil]; omega) | (simp only [List.length_append, List.length_cons, List.length_nil]; omega) | (simp; omega)))
  refine Nz ?_
  refine Ez ?_
  refine ACode.ret ?_
  exact RetQ.one (H'' := upd H k (some (gb b))) rfl rfl subB stays_upd (fun hk => ⟨k, by omega, by omega, rfl, rfl⟩)

theorem put_e (e : Ent) (hg : good e = true) : ACalls Tryd.prog 3 73 [entv e] H k (NewB H k 5 (formB e)) := by
  refine ACalls.fresh fun hf => ?_
  refine ACalls.body Tryd.func73 rfl (Nat.le_of_ble_eq_true rfl) ?_
  have hg2 := good_le hg
  have hsl := e.s.h
  have hrl := e.r.h
  obtain ⟨g, hgg⟩ : ∃ g : Nat, e.g = g := ⟨e.g.toNat, by omega⟩
  have hgn : e.g.toNat = g := by omega
  have hvl := varB_len g Wz
  refine Sz ?_
  refine Rz [0, 1] Kz rfl ?_
  refine Oz rfl rfl rfl (AOp.boxV rfl rfl ?_)
  refine Nz ?_
  refine Ez ?_
  refine Sz ?_
  refine ACode.drawM0 8 [(0, 4), (1, 5), (2, 6), (3, 7), (4, 8), (5, 9), (6, 10), (7, 3)] [2] [([], []), ([], []), ([2], []), ([], []), ([], []), ([], []), ([2], []), ([], [])] mixed Kz Kz Dz ?_
  refine DrawM.q 0 [(1, none)] rfl rfl Kz rfl rfl (fun Hc kq hkq hF hSb hfr => AOp.fieldAddr' rfl Dz rfl Vz) ?_
  refine DrawM.q 1 [(4, some 0)] rfl rfl Kz rfl rfl (fun Hc kq hkq hF hSb hfr => AOp.sliceP rfl rfl Vz) ?_
  refine DrawM.new 2 _ _ [(5, some 1)] rfl Dz rfl Kz rfl rfl RenOk.grow (fun Hc kq hkq hF hSb hfr => AOp.call' rfl rfl rfl (clone_b _ _ e.s.l _ 0 none 32 32 e.s.h (slc0 (by repeat (first | assumption | exact upd_same _ _ _ | refine Uz ?_ | exact hF 2 Dz | refine hSb _ _ ?_))) Dz Dz) Iz) ?_
  refine DrawM.q 3 [(1, none)] rfl rfl Kz rfl rfl (fun Hc kq hkq hF hSb hfr => AOp.fieldAddr' rfl Dz rfl Vz) ?_
  refine DrawM.q 4 [(7, some 3)] rfl rfl Kz rfl rfl (fun Hc kq hkq hF hSb hfr => have tSb := SubS.of hSb; AOp.load1 (b := ebk e) (v := .int .i64 e.g) rfl rfl hpB (entc_g e) Vz) ?_
  rw [hgg]
  refine DrawM.q 5 [(8, some 4)] rfl rfl Kz rfl rfl (fun Hc kq hkq hF hSb hfr => AOp.convU64 (a := g) rfl rfl Wz Vz) ?_
  refine DrawM.wr 6 2 _ [(6, some 2), (9, some 5)] rfl rfl Kz rfl rfl (fun Hc kq hkq hF hSb hfr => AOp.call' rfl rfl rfl (putVar 3 _ _ _ e.s.l g (by repeat (first | assumption | exact upd_same _ _ _ | refine Uz ?_ | exact hF 2 Dz | refine hSb _ _ ?_)) Wz Wz) Iz) ?_
  refine DrawM.q 7 [(10, some 6)] rfl rfl Kz rfl rfl (fun Hc kq hkq hF hSb hfr => AOp.move' (.inr rfl) rfl Vz) ?_
  refine DrawM.done fun kq hkq => ?_
  show aOps _ _ _ _ [] ⟨_, (upd _ (_ + 2) _), _⟩
  refine Ez (Sz (Rz [0, 1, 2, 3, 4] Kz rfl ?_))
  refine Mz ?_
  refine Fz ?_
  refine Oz rfl rfl rfl (AOp.sliceP rfl rfl ?_)
  refine Oz rfl rfl rfl (AOp.appendB (ps := e.r.l) rfl rfl rfl hpB (src33 (e := e) hpB) srcOk_sl (by simp only [List.length_append]; omega) (by simp only [List.length_append]; omega) ?_)
  refine Nz ?_
  refine Ez ?_
  refine ACode.ret ?_
  have e9 : e.s.l ++ varB g ++ e.r.l = formB e := by rw [formB, hgn, List.append_assoc]
  rw [e9]
  exact RetQ.one (H'' := upd H _ (some (gb (formB e)))) rfl rfl subB stays_upd (fun hk => ⟨_, by omega, by omega, rfl, rfl⟩)
end

end Go.Proofs.YteoofihjmldllaaDoor
