/- Contracts over the abstract states: forms of digests and entries. -/
import Derived.Test.YteoofihjmldllaaGreatDoorP5
import Derived.Test.YteoofihjmldllaaGreatDoorV9
import Derived.Test.YteoofihjmldllaaGreatDoorAbG
import Derived.Test.YteoofihjmldllaaGreatDoorF2
set_option linter.unusedVariables false
set_option linter.unusedSimpArgs false
set_option maxRecDepth 100000
namespace Go.Proofs.YteoofihjmldllaaGreatDoor
open Go Go.Ab

theorem take_elD {α : Type} (l : List α) (d : α) {i : Nat} (h : i < l.length) : l.take (i + 1) = l.take i ++ [l.getD i d] := by
  rw [List.take_succ_eq_append_getElem h, getD_el h]
theorem entc_g (e : Ent) : (entc e)[32]? = some (.int .i64 e.g) := by
  rw [entc, List.getElem?_append_right (by rw [hcs_one]; exact Nat.le_refl _), hcs_one]
  rfl
theorem src33 {H : Hp} {n : Nat} {e : Ent} (hn : H n = some (ebk e)) : srcOf H 1 (.slice (some ⟨n, 33, none⟩) 32 32) = some (e.r.l.length, e.r.l.map bv) := by
  rw [e.r.h]
  refine srcOf_slc (SLC.part hn (Nat.le_refl _) (by show 33 + 32 * 1 ≤ (entc e).length; rw [entc_len]; decide) ?_).cells
  have := mid_take (e.s.l.map bv ++ [.int .i64 e.g]) (e.r.l.map bv) [] 33 32 (by rw [List.length_append, hcs_one]; rfl) (hcs_one _)
  rw [List.append_nil, List.append_assoc] at this
  exact this
theorem slc0 {H : Hp} {n : Nat} {e : Ent} (hn : H n = some (ebk e)) : SLC H 1 (some ⟨n, 0, none⟩) 32 32 (e.s.l.map bv) := by
  refine SLC.part hn (Nat.le_refl _) (by show 0 + 32 * 1 ≤ (entc e).length; rw [entc_len]; decide) ?_
  exact mid_take [] (e.s.l.map bv) _ 0 32 rfl (hcs_one _)

section
variable {P : Program} {NG : Nat} {fr : Fr} {H : Hp} {nk : Nat} {R : Value → Hp → Nat → Prop} {o : Oper}
theorem eqNilS_run {w : World} {t e : TypeId} {ad : Addr} {l c : Nat} (d : Nat) (hu : P.underlying t = some (.slice e)) : (Op.equalIn (d + 1) t (.slice (some ad) l c) (.slice none 0 0)).run P w = .ok false w := by
  rw [Op.equalIn, Sem.run_bind, run_underlying hu]
  rfl
/-- A slice that is there is not nil. -/
theorem AOp.eqNilS {t t' e : TypeId} {z : Nat} {x y : Operand} {n off l c : Nat} {sp : Option Nat} (ho : o.op = .binOp .eql t x y t') [hd : SlInfo P t e z] (hx : aeval NG fr x = some (.slice (some ⟨n, off, sp⟩) l c)) (hy : aeval NG fr y = some (.slice none 0 0)) (hs : sp = none ∨ 0 < l)
    (hR : R (.bool false) H nk) : AOp P NG o ⟨fr, H, nk⟩ R := by
  refine AOp.quiet _ hR fun N B w0 G a w hs1 => ⟨.bool false, ?_, .plain rfl⟩
  have hp := aeval_rel hs1 hx
  have hq := (aeval_rel hs1 hy).plain_ rfl
  have hu := (slB_inv hd.h).1
  obtain ⟨ad, c', hA⟩ : ∃ ad c', a.eval x = .slice (some ad) l c' := by
    generalize a.eval x = p at hp
    cases hp with
    | plain h => simp [isPlain] at h
    | exact hg => exact ⟨_, _, rfl⟩
    | loose hg hc hA => rcases hs with hs | hs; · cases hs
                        · exact ⟨_, _, by rw [hA hs]⟩
    | grow hg hl =>
      rcases hs with hs | hs
      · cases hs
      · rcases hl with ⟨h0, _⟩ | ⟨r, _, hA, _⟩
        · omega
        · exact ⟨_, _, by rw [hA]⟩
    | gcut hg hl =>
      rcases hs with hs | hs
      · cases hs
      · obtain ⟨r, _, hA, _⟩ := hl.2 hs
        exact ⟨_, _, by rw [hA]⟩
  have h1 := eqNilS_run (P := P) (w := w) (t := t) (ad := ad) (l := l) (c := c') 9999 hu
  have h2 : (eqGuard .eql t x y (.slice (some ad) l c') (.slice none 0 0)).run P w = .ok () w := by simp [eqGuard]
  have h3 : (binOp .eql t (.slice (some ad) l c') (.slice none 0 0)).run P w = .ok (.bool false) w := by
    simp only [binOp]
    simp [Op.equal, Op.maxDepth, h1]
  simp only [execOp, ho, hA, hq]
  rw [Sem.run_bind, Sem.run_bind, h2]
  simp only [Result.andThen_ok, h3]
  rfl
end
section
variable (H : Hp) (k : Nat)

theorem bytesOf_b (d : Dg) : ACalls Tryz.prog 2 61 [hv d] H k (NewB H k 5 d.l) := by
  refine ACalls.fresh fun hf => ?_
  refine ACalls.body Tryz.func61 rfl (Nat.le_of_ble_eq_true rfl) ?_
  have hdl := d.h
  refine Sz ?_
  refine Rz [0, 1] Kz rfl ?_
  refine Oz rfl rfl rfl (AOp.boxV rfl rfl ?_)
  refine Nz ?_
  refine Ez (Sz (Rz [0] Kz rfl ?_))
  refine Nz ?_
  refine Ez ?_
  refine Sz ?_
  refine Sz ?_
  refine Rz [0] Kz rfl ?_
  refine Nz ?_
  refine Ez ?_
  refine ACode.block ?_
  refine ACode.adopt (t := 3) 5 1 Dz rfl ?_
  refine ACode.count (fun i => [(4, .int .i64 (i : Int)), (3, gsl (k + 1) (d.l.take i).length)]) [(1, _), (2, _)] (fun i => upd (upd H k (some (dblk d.l))) (k + 1) (some (gb (d.l.take i)))) (32) (fun _ => True) (.cons rfl (.cons rfl .nil)) (.cons rfl (.cons rfl .nil)) subB trivial (fun i0 kL0 HL0 hiL0 hkL0 hsL0 hfL0 hxL0 => ?_)
  show ACode _ _ _ _ _ ⟨_, _, _⟩
  have tsL0 := SubS.of hsL0
  refine Sz ?_
  refine Sz ?_
  refine Rz [0, 1] Kz rfl ?_
  refine Mz ?_
  refine Oz rfl rfl rfl (AOp.bin' rfl rfl rfl rfl ?_)
  refine Ez ?_
  refine ACode.cond rfl (fun c0 => ?_) (fun c0 => ?_)
  · try simp only [Cz] at c0
    refine ACode.skip ?_
    refine Sz ?_
    refine ACode.block ?_
    have hx2 : (d.l.take i0).length = i0 := by rw [List.length_take]; omega
    refine Rz [0, 1, 2, 3, 4, 5, 6] Kz rfl ?_
    refine Mz ?_
    refine Mz ?_
    refine Oz rfl rfl rfl (AOp.indexA Wz rfl rfl rfl ?_)
    refine Oz rfl rfl rfl ?_
    refine AOp.loadM bv (d.l) 0 (b := ?b1) ?hn1 ?hv1 ?hw1 rfl rfl ?hR1
    (case hn1 => exact hpB)
    (case hv1 => rfl)
    (case hw1 => exact Wz)
    refine Oz rfl rfl rfl (AOp.buildB [_] rfl Dz rfl rfl ?_)
    refine Oz rfl rfl rfl ?_
    refine AOp.appendB (ps := ?ns2) rfl rfl rfl ?hn2 ?hsrc2 ?ht2 ?hw2 ?hz2 ?hR2
    (case hn2 => exact hpB)
    (case hsrc2 => refine srcOf_gb (e := 5) ?e12; (case e12 => exact hpB))
    (case ht2 => exact srcOk_sl)
    (case hw2 => (first | omega | (simp only [List.length_cons, List.length_nil]; omega) | (simp only [List.length_append, List.length_cons, List.length_nil]; omega) | (simp; omega)))
    (case hz2 => (first | omega | (simp only [List.length_cons, List.length_nil]; omega) | (simp only [List.length_append, List.length_cons, List.length_nil]; omega) | (simp; omega)))
    refine Nz ?_
    refine Ez ?_
    refine Rz [0, 1, 2] Kz rfl ?_
    refine Mz ?_
    refine Oz rfl rfl rfl (AOp.add rfl rfl rfl (i64_wrap Wz Wz) ?_)
    refine Nz ?_
    refine Ez ?_
    have e4 := take_elD d.l 0 (i := i0) Wz
    first | refine thenA_n ?_ | simp only [thenA, blockA, if_true]
    exact NextR.mk Wz Wz (.cons rfl (.cons (show _ = some (gsl (k + 1) _) by rw [e4]; rfl) .nil)) (.cons rfl (.cons rfl .nil)) (by rw [e4]; exact subB) trivial
  · try simp only [Cz] at c0
    refine ACode.exit ?_
    refine Sz ?_
    refine Rz [0, 1] Kz rfl ?_
    refine Mz ?_
    refine Nz ?_
    refine Ez ?_
    refine ACode.ret ?_
    have e8 : i0 = 32 := by omega
    subst e8
    have e9 : d.l.take 32 = d.l := List.take_of_length_le Wz
    rw [e9] at hsL0 tsL0 ⊢
    exact RetQ.one (H'' := upd H (k + 1) (some (gb d.l))) rfl rfl subB stays_upd (fun hk => ⟨k + 1, by omega, by omega, rfl, rfl⟩)

theorem bytesOf9 (d : Dg) : ACalls Tryz.prog 2 24 [hv d] H k (NewB H k 5 d.l) := by
  refine ACalls.fresh fun hf => ?_
  refine ACalls.body Tryz.func24 rfl (Nat.le_of_ble_eq_true rfl) ?_
  have hdl := d.h
  refine Sz ?_
  refine Rz [0, 1] Kz rfl ?_
  refine Oz rfl rfl rfl (AOp.boxV rfl rfl ?_)
  refine Nz ?_
  refine Ez (Sz (Rz [0] Kz rfl ?_))
  refine Nz ?_
  refine Ez ?_
  refine Sz ?_
  refine Sz ?_
  refine Rz [0] Kz rfl ?_
  refine Nz ?_
  refine Ez ?_
  refine ACode.block ?_
  refine ACode.adopt (t := 3) 5 1 Dz rfl ?_
  refine ACode.count (fun i => [(4, .int .i64 (i : Int)), (3, gsl (k + 1) (d.l.take i).length)]) [(1, _), (2, _)] (fun i => upd (upd H k (some (dblk d.l))) (k + 1) (some (gb (d.l.take i)))) (32) (fun _ => True) (.cons rfl (.cons rfl .nil)) (.cons rfl (.cons rfl .nil)) subB trivial (fun i0 kL0 HL0 hiL0 hkL0 hsL0 hfL0 hxL0 => ?_)
  show ACode _ _ _ _ _ ⟨_, _, _⟩
  have tsL0 := SubS.of hsL0
  refine Sz ?_
  refine Sz ?_
  refine Rz [0, 1] Kz rfl ?_
  refine Mz ?_
  refine Oz rfl rfl rfl (AOp.bin' rfl rfl rfl rfl ?_)
  refine Ez ?_
  refine ACode.cond rfl (fun c0 => ?_) (fun c0 => ?_)
  · try simp only [Cz] at c0
    refine ACode.skip ?_
    refine Sz ?_
    refine ACode.block ?_
    have hx2 : (d.l.take i0).length = i0 := by rw [List.length_take]; omega
    refine Rz [0, 1, 2, 3, 4, 5, 6] Kz rfl ?_
    refine Mz ?_
    refine Mz ?_
    refine Oz rfl rfl rfl (AOp.indexA Wz rfl rfl rfl ?_)
    refine Oz rfl rfl rfl ?_
    refine AOp.loadM bv (d.l) 0 (b := ?b3) ?hn3 ?hv3 ?hw3 rfl rfl ?hR3
    (case hn3 => exact hpB)
    (case hv3 => rfl)
    (case hw3 => exact Wz)
    refine Oz rfl rfl rfl (AOp.buildB [_] rfl Dz rfl rfl ?_)
    refine Oz rfl rfl rfl ?_
    refine AOp.appendB (ps := ?ns4) rfl rfl rfl ?hn4 ?hsrc4 ?ht4 ?hw4 ?hz4 ?hR4
    (case hn4 => exact hpB)
    (case hsrc4 => refine srcOf_gb (e := 5) ?e14; (case e14 => exact hpB))
    (case ht4 => exact srcOk_sl)
    (case hw4 => (first | omega | (simp only [List.length_cons, List.length_nil]; omega) | (simp only [List.length_append, List.length_cons, List.length_nil]; omega) | (simp; omega)))
    (case hz4 => (first | omega | (simp only [List.length_cons, List.length_nil]; omega) | (simp only [List.length_append, List.length_cons, List.length_nil]; omega) | (simp; omega)))
    refine Nz ?_
    refine Ez ?_
    refine Rz [0, 1, 2] Kz rfl ?_
    refine Mz ?_
    refine Oz rfl rfl rfl (AOp.add rfl rfl rfl (i64_wrap Wz Wz) ?_)
    refine Nz ?_
    refine Ez ?_
    have e4 := take_elD d.l 0 (i := i0) Wz
    first | refine thenA_n ?_ | simp only [thenA, blockA, if_true]
    exact NextR.mk Wz Wz (.cons rfl (.cons (show _ = some (gsl (k + 1) _) by rw [e4]; rfl) .nil)) (.cons rfl (.cons rfl .nil)) (by rw [e4]; exact subB) trivial
  · try simp only [Cz] at c0
    refine ACode.exit ?_
    refine Sz ?_
    refine Rz [0, 1] Kz rfl ?_
    refine Mz ?_
    refine Nz ?_
    refine Ez ?_
    refine ACode.ret ?_
    have e8 : i0 = 32 := by omega
    subst e8
    have e9 : d.l.take 32 = d.l := List.take_of_length_le Wz
    rw [e9] at hsL0 tsL0 ⊢
    exact RetQ.one (H'' := upd H (k + 1) (some (gb d.l))) rfl rfl subB stays_upd (fun hk => ⟨k + 1, by omega, by omega, rfl, rfl⟩)

theorem clone_b (b : List UInt8) (n off : Nat) (sp : Option Nat) (l c : Nat) (hl : b.length = l) (hs : SLC H 1 (some ⟨n, off, sp⟩) l c (b.map bv)) (h0 : 0 < l) (hb : l ≤ 549755813888) : ACalls Tryz.prog 2 57 [.slice (some ⟨n, off, sp⟩) l c] H k (NewB H k 5 b) := by
  refine ACalls.fresh fun hf => ?_
  refine ACalls.body Tryz.func57 rfl (Nat.le_of_ble_eq_true rfl) ?_
  subst hl
  refine Sz ?_
  refine Rz [0] Kz rfl ?_
  refine Nz ?_
  refine Ez ?_
  refine Sz ?_
  refine Sz ?_
  refine Rz [0, 1] Kz rfl ?_
  refine Mz ?_
  refine Oz rfl rfl rfl (AOp.eqNilS rfl rfl rfl (.inr h0) ?_)
  refine Ez ?_
  refine ACode.cond rfl (fun c0 => absurd c0 (by simp)) (fun c0 => ?_)
  refine ACode.skip ?_
  refine Sz ?_
  refine Rz [0, 1, 2, 3] Kz rfl ?_
  refine Oz rfl rfl rfl (AOp.buildB [] rfl Dz rfl rfl ?_)
  refine Mz ?_
  refine Oz rfl rfl rfl ?_
  refine AOp.appendB (ps := ?ns5) rfl rfl rfl ?hn5 ?hsrc5 ?ht5 ?hw5 ?hz5 ?hR5
  (case hn5 => exact hpB)
  (case hsrc5 => refine srcOf_slc (SLC.sub hs ?_).cells; exact subB)
  (case ht5 => exact srcOk_sl)
  (case hw5 => (first | omega | (simp only [List.length_cons, List.length_nil]; omega) | (simp only [List.length_append, List.length_cons, List.length_nil]; omega) | (simp; omega)))
  (case hz5 => (first | omega | (simp only [List.length_cons, List.length_nil]; omega) | (simp only [List.length_append, List.length_cons, List.length_nil]; omega) | (simp; omega)))
  refine Nz ?_
  refine Ez ?_
  refine ACode.ret ?_
  exact RetQ.one (H'' := upd H k (some (gb b))) rfl rfl subB stays_upd (fun hk => ⟨k, by omega, by omega, rfl, rfl⟩)

theorem put_e (e : Ent) (hg : good e = true) : ACalls Tryz.prog 2 18 [entv e] H k (NewB H k 5 (formB e)) := by
  refine ACalls.fresh fun hf => ?_
  refine ACalls.body Tryz.func18 rfl (Nat.le_of_ble_eq_true rfl) ?_
  have hg2 := good_le hg
  have hsl := e.s.h
  have hrl := e.r.h
  obtain ⟨g, hgg⟩ : ∃ g : Nat, e.g = g := ⟨e.g.toNat, by omega⟩
  have hgn : e.g.toNat = g := by omega
  have hvl := varB_len g Wz
  refine Sz ?_
  refine Rz [0, 1] Kz rfl ?_
  refine Oz rfl rfl rfl (AOp.boxV rfl rfl ?_)
  refine Nz ?_
  refine Ez ?_
  refine Sz ?_
  refine ACode.drawM0 8 [(0, 4), (1, 5), (2, 6), (3, 7), (4, 8), (5, 9), (6, 10), (7, 3)] [2] [([], []), ([], []), ([2], []), ([], []), ([], []), ([], []), ([2], []), ([], [])] mixed Kz Kz Dz ?_
  refine DrawM.q 0 [(1, none)] rfl rfl Kz rfl rfl (fun Hc kq hkq hF hSb hfr => AOp.fieldAddr' rfl Dz rfl Vz) ?_
  refine DrawM.q 1 [(4, some 0)] rfl rfl Kz rfl rfl (fun Hc kq hkq hF hSb hfr => AOp.sliceP rfl rfl Vz) ?_
  refine DrawM.new 2 _ _ [(5, some 1)] rfl Dz rfl Kz rfl rfl RenOk.grow (fun Hc kq hkq hF hSb hfr => AOp.call' rfl rfl rfl (clone_b _ _ e.s.l _ 0 none 32 32 e.s.h (slc0 (by repeat (first | assumption | exact upd_same _ _ _ | refine Uz ?_ | exact hF 2 Dz | refine hSb _ _ ?_))) Dz Dz) Iz) ?_
  refine DrawM.q 3 [(1, none)] rfl rfl Kz rfl rfl (fun Hc kq hkq hF hSb hfr => AOp.fieldAddr' rfl Dz rfl Vz) ?_
  refine DrawM.q 4 [(7, some 3)] rfl rfl Kz rfl rfl (fun Hc kq hkq hF hSb hfr => have tSb := SubS.of hSb; AOp.load1 (b := ebk e) (v := .int .i64 e.g) rfl rfl hpB (entc_g e) Vz) ?_
  rw [hgg]
  refine DrawM.q 5 [(8, some 4)] rfl rfl Kz rfl rfl (fun Hc kq hkq hF hSb hfr => AOp.convU64 (a := g) rfl rfl Wz Vz) ?_
  refine DrawM.wr 6 2 _ [(6, some 2), (9, some 5)] rfl rfl Kz rfl rfl (fun Hc kq hkq hF hSb hfr => AOp.call' rfl rfl rfl (putVar 2 _ _ _ e.s.l g (by repeat (first | assumption | exact upd_same _ _ _ | refine Uz ?_ | exact hF 2 Dz | refine hSb _ _ ?_)) Wz Wz) Iz) ?_
  refine DrawM.q 7 [(10, some 6)] rfl rfl Kz rfl rfl (fun Hc kq hkq hF hSb hfr => AOp.move' (.inr rfl) rfl Vz) ?_
  refine DrawM.done fun kq hkq => ?_
  show aOps _ _ _ _ [] ⟨_, (upd _ (_ + 2) _), _⟩
  refine Ez (Sz (Rz [0, 1, 2, 3, 4] Kz rfl ?_))
  refine Mz ?_
  refine Fz ?_
  refine Oz rfl rfl rfl (AOp.sliceP rfl rfl ?_)
  refine Oz rfl rfl rfl (AOp.appendB (ps := e.r.l) rfl rfl rfl hpB (src33 (e := e) hpB) srcOk_sl (by simp only [List.length_append]; omega) (by simp only [List.length_append]; omega) ?_)
  refine Nz ?_
  refine Ez ?_
  refine ACode.ret ?_
  have e9 : e.s.l ++ varB g ++ e.r.l = formB e := by rw [formB, hgn, List.append_assoc]
  rw [e9]
  exact RetQ.one (H'' := upd H _ (some (gb (formB e)))) rfl rfl subB stays_upd (fun hk => ⟨_, by omega, by omega, rfl, rfl⟩)

theorem refput_e (e : Ent) (hg : good e = true) : ACalls Tryz.prog 2 26 [entv e] H k (NewB H k 5 (formB e)) := by
  refine ACalls.fresh fun hf => ?_
  refine ACalls.body Tryz.func26 rfl (Nat.le_of_ble_eq_true rfl) ?_
  have hg2 := good_le hg
  have hsl := e.s.h
  have hrl := e.r.h
  obtain ⟨g, hgg⟩ : ∃ g : Nat, e.g = g := ⟨e.g.toNat, by omega⟩
  have hgn : e.g.toNat = g := by omega
  have hvl := varB_len g Wz
  have e33 : (ebk e).cells = (e.s.l.map bv ++ [.int .i64 e.g]) ++ (e.r.l.map bv ++ []) := by rw [List.append_nil, List.append_assoc]; rfl
  refine Sz ?_
  refine Rz [0, 1] Kz rfl ?_
  refine Oz rfl rfl rfl (AOp.boxV rfl rfl ?_)
  refine Nz ?_
  refine Ez ?_
  refine Sz ?_
  refine ACode.drawM0 9 [(0, 4), (1, 5), (2, 6), (3, 7), (4, 8), (5, 9), (6, 10), (7, 11), (8, 3)] [2, 6] [([], []), ([], []), ([2], []), ([], []), ([], []), ([], []), ([6], []), ([2], [6]), ([], [])] mixed Kz Kz Dz ?_
  refine DrawM.q 0 [(1, none)] rfl rfl Kz rfl rfl (fun Hc kq hkq hF hSb hfr => AOp.fieldAddr' rfl Dz rfl Vz) ?_
  refine DrawM.q 1 [(4, some 0)] rfl rfl Kz rfl rfl (fun Hc kq hkq hF hSb hfr => have tSb := SubS.of hSb; AOp.loadPart (b := ebk e) e.s [] (.int .i64 e.g :: e.r.l.map bv) hpB rfl rfl rfl rfl Vz) ?_
  refine DrawM.new 2 _ _ [(5, some 1)] rfl Dz rfl Kz rfl rfl RenOk.grow (fun Hc kq hkq hF hSb hfr => AOp.call' rfl rfl rfl (bytesOf_b _ _ e.s) Iz) ?_
  refine DrawM.q 3 [(1, none)] rfl rfl Kz rfl rfl (fun Hc kq hkq hF hSb hfr => AOp.fieldAddr' rfl Dz rfl Vz) ?_
  refine DrawM.q 4 [(7, some 3)] rfl rfl Kz rfl rfl (fun Hc kq hkq hF hSb hfr => have tSb := SubS.of hSb; AOp.load1 (b := ebk e) (v := .int .i64 e.g) rfl rfl hpB (entc_g e) Vz) ?_
  rw [hgg]
  refine DrawM.q 5 [(8, some 4)] rfl rfl Kz rfl rfl (fun Hc kq hkq hF hSb hfr => AOp.convU64 (a := g) rfl rfl Wz Vz) ?_
  refine DrawM.new 6 _ _ [(9, some 5)] rfl Dz rfl Kz rfl rfl RenOk.grow (fun Hc kq hkq hF hSb hfr => AOp.call' rfl rfl rfl (refVar 2 g Wz _ _) Iz) ?_
  refine DrawM.wr 7 2 _ [(6, some 2), (10, some 6)] rfl rfl Kz rfl rfl (fun Hc kq hkq hF hSb hfr => (by refine AOp.appendB (ps := ?ns6) rfl rfl rfl ?hn6 ?hsrc6 ?ht6 ?hw6 ?hz6 ?hR6; (case hn6 => repeat (first | assumption | exact upd_same _ _ _ | refine Uz ?_ | exact hF 2 Dz | exact hF 6 Dz | refine hSb _ _ ?_)); (case hsrc6 => refine srcOf_gb (e := 5) ?e16; (case e16 => repeat (first | assumption | exact upd_same _ _ _ | refine Uz ?_ | exact hF 2 Dz | exact hF 6 Dz | refine hSb _ _ ?_))); (case ht6 => exact srcOk_sl); (case hw6 => (first | omega | (simp only [List.length_cons, List.length_nil]; omega) | (simp only [List.length_append, List.length_cons, List.length_nil]; omega) | (simp; omega))); (case hz6 => (first | omega | (simp only [List.length_cons, List.length_nil]; omega) | (simp only [List.length_append, List.length_cons, List.length_nil]; omega) | (simp; omega))); exact Vz)) ?_
  refine DrawM.q 8 [(11, some 7)] rfl rfl Kz rfl rfl (fun Hc kq hkq hF hSb hfr => AOp.move' (.inr rfl) rfl Vz) ?_
  refine DrawM.done fun kq hkq => ?_
  show aOps _ _ _ _ [] ⟨_, (upd (upd _ (_ + 6) _) (_ + 2) _), _⟩
  refine Ez (Sz (Rz [0, 1, 2, 3, 4, 5] Kz rfl ?_))
  refine Mz ?_
  refine Fz ?_
  refine Oz rfl rfl rfl (AOp.loadPart (b := ebk e) e.r (e.s.l.map bv ++ [.int .i64 e.g]) [] hpB e33 (by rw [List.length_append, hcs_one]; rfl) rfl rfl ?_)
  refine Oz rfl rfl rfl ?_
  refine AOp.call' rfl rfl rfl (bytesOf_b _ _ e.r) ?_
  rintro _ _ kr ⟨q2, hq1, hq2, rfl, rfl⟩
  refine Oz rfl rfl rfl ?_
  refine AOp.appendB (ps := ?ns7) rfl rfl rfl ?hn7 ?hsrc7 ?ht7 ?hw7 ?hz7 ?hR7
  (case hn7 => exact hpB)
  (case hsrc7 => refine srcOf_gb (e := 5) ?e17; (case e17 => exact hpB))
  (case ht7 => exact srcOk_sl)
  (case hw7 => (first | omega | (simp only [List.length_cons, List.length_nil]; omega) | (simp only [List.length_append, List.length_cons, List.length_nil]; omega) | (simp; omega)))
  (case hz7 => (first | omega | (simp only [List.length_cons, List.length_nil]; omega) | (simp only [List.length_append, List.length_cons, List.length_nil]; omega) | (simp; omega)))
  refine Nz ?_
  refine Ez ?_
  refine ACode.ret ?_
  have e9 : e.s.l ++ varB g ++ e.r.l = formB e := by rw [formB, hgn, List.append_assoc]
  rw [e9]
  exact RetQ.one (H'' := upd H _ (some (gb (formB e)))) rfl rfl subB stays_upd (fun hk => ⟨_, by omega, by omega, rfl, rfl⟩)
end

end Go.Proofs.YteoofihjmldllaaGreatDoor
