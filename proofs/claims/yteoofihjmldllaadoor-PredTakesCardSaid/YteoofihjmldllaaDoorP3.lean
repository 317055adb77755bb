/- Contracts over the abstract states: predicates: what operators have, comparisons, the truth of a row. -/
import Derived.Test.YteoofihjmldllaaDoorP2
import Derived.Test.YteoofihjmldllaaDoorF2
set_option linter.unusedVariables false
set_option linter.unusedSimpArgs false
set_option maxRecDepth 100000
namespace Go.Proofs.YteoofihjmldllaaDoor
open Go Go.Ab

section
variable (H : Hp) (k : Nat)
abbrev pv (op col : Int) (A : Option Addr) (l c : Nat) (B : Option Addr) (m d : Nat) : Value := .agg #[.int .i64 op, .int .i64 col, .slice A l c, .slice B m d]
/-- The first value that is one. -/
def idxV (p : Val → Bool) : List Val → Int
  | [] => -1
  | v :: vs => if p v then 0 else (if idxV p vs < 0 then -1 else idxV p vs + 1)
theorem idxV_no {p : Val → Bool} : ∀ {vs : List Val}, vs.any p = false → idxV p vs = -1
  | [], _ => rfl
  | v :: vs, h => by
    rw [List.any_cons, Bool.or_eq_false_iff] at h
    rw [idxV, if_neg (by rw [h.1]; decide), idxV_no h.2]
    rfl
theorem idxV_at {p : Val → Bool} : ∀ {vs : List Val} {i : Nat}, (vs.take i).any p = false → i < vs.length → p (vs.getD i vD) = true → idxV p vs = i
  | v :: vs, 0, _, _, h => by rw [idxV, if_pos (show p v = true from h)]; rfl
  | v :: vs, i + 1, h, hi, hp => by
    rw [List.take_succ_cons, List.any_cons, Bool.or_eq_false_iff] at h
    have := idxV_at h.2 (by simpa using hi) hp
    rw [idxV, if_neg (by rw [h.1]; decide), this, if_neg (by omega)]
    omega
theorem idxV_any (p : Val → Bool) (vs : List Val) : decide (idxV p vs ≥ 0) = vs.any p := by
  cases h : vs.any p with
  | false => rw [idxV_no h]; rfl
  | true =>
    have key : ∀ vs : List Val, vs.any p = true → 0 ≤ idxV p vs := by
      intro vs
      induction vs with
      | nil => intro h; cases h
      | cons v vs ih =>
        intro h
        rw [idxV]
        split
        · decide
        · rename_i hn
          rw [List.any_cons, Bool.eq_false_iff.2 hn, Bool.false_or] at h
          rw [if_neg (by have := ih h; omega)]
          have := ih h
          omega
    exact decide_eq_true (key vs h)
theorem any_stepD {p : Val → Bool} {l : List Val} {i : Nat} (hi : i < l.length) (h : (l.take i).any p = false) (hp : p (l.getD i vD) = false) : (l.take (i + 1)).any p = false := by
  rw [List.getD_eq_getElem?_getD, List.getElem?_eq_getElem hi] at hp
  exact any_step hi h hp
theorem getD_i {l : List Val} {i : Nat} (hi : i < l.length) : l[i] = l.getD i vD := by rw [List.getD_eq_getElem?_getD, List.getElem?_eq_getElem hi]; rfl
/-- A value of a slice of values. -/
theorem slcV {H : Hp} {i : Nat} {v : Value} {l : List Val} (h : slcCells H 3 v = some (vals3 l)) (hi : i < l.length) : ∃ n off sp, aslcAt H 3 i v = some (ptr n off sp) ∧ PAt H n off sp (vv (l.getD i vD)).cells.toList := by
  obtain ⟨n, off, sp, h1, h2⟩ := slcEl h (fun _ => rfl) (by decide) hi
  rw [getD_i hi] at h2
  exact ⟨n, off, sp, h1, h2⟩

theorem known_b (op : Int) : ACalls Tryd.prog 3 88 [.int .i64 op] H k (Same H k (.bool (known op))) := by
  refine ACalls.fresh fun hf => ?_
  refine ACalls.body Tryd.func88 rfl (Nat.le_of_ble_eq_true rfl) ?_
  refine ACode.seq ?_
  refine ACode.region' [0] (by kernel_rfl) rfl ?_
  refine aOps_1 rfl rfl rfl (AOp.move' (.inr rfl) rfl ?_)
  refine aOps_end ?_
  show ACode _ _ _ _ _ _
  refine ACode.seq ?_
  refine ACode.region' [0, 1, 2, 3, 4, 5, 6] (by kernel_rfl) rfl ?_
  refine aOps_1 rfl rfl rfl (AOp.move' (.inl rfl) rfl ?_)
  refine aOps_1 rfl rfl rfl (AOp.bin' rfl rfl rfl rfl ?_)
  refine aOps_1 rfl rfl rfl (AOp.move' (.inl rfl) rfl ?_)
  refine aOps_gd0 rfl rfl (wantT rfl rfl rfl) (fun hc => AOp.slots [(0, _)] (.cons rfl .nil) (AOp.move' (.inl rfl) rfl ⟨rfl, rfl, rfl⟩)) ?_
  refine aOps_gd0 rfl rfl (wantT rfl rfl rfl) (fun hc => AOp.slots [(6, _)] (.cons (gvT rfl hc) .nil) (AOp.bin' rfl rfl rfl rfl ⟨rfl, rfl, rfl⟩)) ?_
  refine aOps_1 rfl rfl rfl (AOp.pickAnd rfl rfl rfl (fun hb => gvE rfl hb) ?_)
  refine aOps_1 rfl rfl rfl (AOp.move' (.inr rfl) rfl ?_)
  refine aOps_end ?_
  show ACode _ _ _ _ _ _
  refine ACode.ret ?_
  exact RetQ.one rfl rfl subA stays (fun hk => ⟨rfl, rfl, by omega⟩)

theorem truth_b (b : Bool) : ACalls Tryd.prog 3 120 [.bool b] H k (Same H k (.int .i64 (truthI b))) := by
  refine ACalls.fresh fun hf => ?_
  refine ACalls.body Tryd.func120 rfl (Nat.le_of_ble_eq_true rfl) ?_
  refine ACode.seq ?_
  refine ACode.region' [0] (by kernel_rfl) rfl ?_
  refine aOps_1 rfl rfl rfl (AOp.move' (.inr rfl) rfl ?_)
  refine aOps_end ?_
  show ACode _ _ _ _ _ _
  refine ACode.seq ?_
  refine ACode.seq ?_
  refine ACode.region' [0] (by kernel_rfl) rfl ?_
  refine aOps_1 rfl rfl rfl (AOp.move' (.inl rfl) rfl ?_)
  refine aOps_end ?_
  show ACode _ _ _ _ _ _
  refine ACode.cond rfl (fun c0 => ?_) (fun c0 => ?_)
  · try simp only [decide_eq_true_eq, decide_eq_false_iff_not, beq_iff_eq, beq_eq_false_iff_ne, ne_eq, bne_iff_ne, Bool.not_eq_true', Bool.not_eq_false', Int.not_lt, Int.not_le, gt_iff_lt, ge_iff_le, bne_eq_false_iff_eq, Bool.not_eq_eq_eq_not, Bool.not_true, Bool.not_false] at c0
    refine ACode.seq ?_
    refine ACode.region' [0] (by kernel_rfl) rfl ?_
    refine aOps_1 rfl rfl rfl (AOp.move' (.inr rfl) rfl ?_)
    refine aOps_end ?_
    show ACode _ _ _ _ _ _
    refine ACode.ret ?_
    exact RetQ.one rfl rfl subA stays (fun hk => ⟨(by rw [c0]; rfl), rfl, by omega⟩)
  · try simp only [decide_eq_true_eq, decide_eq_false_iff_not, beq_iff_eq, beq_eq_false_iff_ne, ne_eq, bne_iff_ne, Bool.not_eq_true', Bool.not_eq_false', Int.not_lt, Int.not_le, gt_iff_lt, ge_iff_le, bne_eq_false_iff_eq, Bool.not_eq_eq_eq_not, Bool.not_true, Bool.not_false] at c0
    refine ACode.skip ?_
    show ACode _ _ _ _ _ _
    refine ACode.seq ?_
    refine ACode.region' [0] (by kernel_rfl) rfl ?_
    refine aOps_1 rfl rfl rfl (AOp.move' (.inr rfl) rfl ?_)
    refine aOps_end ?_
    show ACode _ _ _ _ _ _
    refine ACode.ret ?_
    exact RetQ.one rfl rfl subA stays (fun hk => ⟨(by rw [show b = false by simpa using c0]; rfl), rfl, by omega⟩)

theorem formed_b (ht : H 0 = some shBlk) (op col : Int) (hop : -9223372036854775808 ≤ op ∧ op ≤ 9223372036854775807) (vals : List Val) (A : Option Addr) (c : Nat) (hA : slcCells H 3 (.slice A vals.length c) = some (vals3 vals)) (hl : vals.length ≤ 9223372036854775807) (B : Option Addr) (m d : Nat) (hm : m ≤ 9223372036854775807) : ACalls Tryd.prog 3 121 [pv op col A vals.length c B m d] H k (Same H k (.bool (formedP op col vals.length m))) := by
  refine ACalls.fresh fun hf => ?_
  refine ACalls.body Tryd.func121 rfl (Nat.le_of_ble_eq_true rfl) ?_
  have h0k := old_lt hf ht
  refine ACode.seq ?_
  refine ACode.region' [0, 1] (by kernel_rfl) rfl ?_
  refine aOps_1 rfl rfl rfl (AOp.boxV rfl rfl ?_)
  refine aOps_1 rfl rfl rfl (AOp.move' (.inr rfl) rfl ?_)
  refine aOps_end ?_
  show ACode _ _ _ _ _ _
  refine ACode.seq ?_
  refine ACode.seq ?_
  refine ACode.region' [0, 1, 2, 3] (by kernel_rfl) rfl ?_
  refine aOps_1 rfl rfl rfl (AOp.fieldAddr' rfl (by decide) rfl ?_)
  refine aOps_1 rfl rfl rfl ?_
  refine AOp.load1 (b := ?b1) (v := ?v1) rfl rfl ?hn1 ?hv1 ?hR1
  (case hn1 => exact hpA)
  (case hv1 => rfl)
  refine aOps_q rfl rfl rfl (AOp.call' rfl rfl rfl (known_b _ _ op) (fun _ _ _ h => h)) (fun kq hkq => ?_)
  refine aOps_1 rfl rfl rfl (AOp.un' rfl rfl rfl ?_)
  refine aOps_end ?_
  show ACode _ _ _ _ _ _
  refine ACode.cond rfl (fun c0 => ?_) (fun c0 => ?_)
  · try simp only [decide_eq_true_eq, decide_eq_false_iff_not, beq_iff_eq, beq_eq_false_iff_ne, ne_eq, bne_iff_ne, Bool.not_eq_true', Bool.not_eq_false', Int.not_lt, Int.not_le, gt_iff_lt, ge_iff_le, bne_eq_false_iff_eq, Bool.not_eq_eq_eq_not, Bool.not_true, Bool.not_false] at c0
    have hkn : known op = false := by simpa using c0
    have hno : formedP op col vals.length m = false := by rw [formedP, hkn]; rfl
    refine ACode.seq ?_
    refine ACode.region' [0] (by kernel_rfl) rfl ?_
    refine aOps_1 rfl rfl rfl (AOp.move' (.inr rfl) rfl ?_)
    refine aOps_end ?_
    show ACode _ _ _ _ _ _
    refine ACode.ret ?_
    exact RetQ.one rfl rfl subA stays (fun hk => ⟨(by rw [hno]), rfl, by omega⟩)
  · try simp only [decide_eq_true_eq, decide_eq_false_iff_not, beq_iff_eq, beq_eq_false_iff_ne, ne_eq, bne_iff_ne, Bool.not_eq_true', Bool.not_eq_false', Int.not_lt, Int.not_le, gt_iff_lt, ge_iff_le, bne_eq_false_iff_eq, Bool.not_eq_eq_eq_not, Bool.not_true, Bool.not_false] at c0
    have hkn : known op = true := by simpa using c0
    obtain ⟨o, rfl, ho⟩ := known_nat hkn
    refine ACode.skip ?_
    show ACode _ _ _ _ _ _
    refine ACode.seq ?_
    refine ACode.drawM0 14 [(0, 10), (1, 11), (2, 12), (3, 13), (4, 14), (5, 15), (6, 16), (7, 17), (8, 18), (9, 19), (10, 3), (12, 4), (13, 5)] [10] [([], []), ([], []), ([], []), ([], []), ([], []), ([], []), ([], []), ([], []), ([], []), ([], []), ([10], []), ([10], []), ([], []), ([], [])] mixed (by kernel_rfl) (by kernel_rfl) (by decide) ?_
    refine DrawM.q 0 [(1, none)] rfl rfl (by kernel_rfl) rfl rfl (fun Hc kq hkq hF hSb hfr => AOp.fieldAddr' rfl (by decide) rfl ⟨rfl, rfl, Nat.le_refl _⟩) ?_
    refine DrawM.q 1 [(10, some 0)] rfl rfl (by kernel_rfl) rfl rfl (fun Hc kq hkq hF hSb hfr => have tSb := SubS.of hSb; (by refine AOp.load1 (b := ?b2) (v := ?v2) rfl rfl ?hn2 ?hv2 ?hR2; (case hn2 => exact hpA); (case hv2 => rfl); exact ⟨rfl, rfl, Nat.le_refl _⟩)) ?_
    refine DrawM.q 2 [(11, some 1)] rfl rfl (by kernel_rfl) rfl rfl (fun Hc kq hkq hF hSb hfr => AOp.indexAddr_arr' rfl rfl rfl (by omega) (by omega) ⟨rfl, rfl, Nat.le_refl _⟩) ?_
    refine DrawM.q 3 [(12, some 2)] rfl rfl (by kernel_rfl) rfl rfl (fun Hc kq hkq hF hSb hfr => have tSb := SubS.of hSb; AOp.loadN (b := shBlk) (cs := shc (sh o)) rfl rfl hpA (by show _ + 5 ≤ 65; omega) (by show (shT.drop (0 + (o : Int).toNat * 5)).take 5 = _; rw [show 0 + (o : Int).toNat * 5 = o * 5 by omega]; exact sh_at ho) ⟨rfl, rfl, Nat.le_refl _⟩) ?_
    refine DrawM.q 4 [(1, none)] rfl rfl (by kernel_rfl) rfl rfl (fun Hc kq hkq hF hSb hfr => AOp.fieldAddr' rfl (by decide) rfl ⟨rfl, rfl, Nat.le_refl _⟩) ?_
    refine DrawM.q 5 [(14, some 4)] rfl rfl (by kernel_rfl) rfl rfl (fun Hc kq hkq hF hSb hfr => have tSb := SubS.of hSb; (by refine AOp.load1 (b := ?b3) (v := ?v3) rfl rfl ?hn3 ?hv3 ?hR3; (case hn3 => exact hpA); (case hv3 => rfl); exact ⟨rfl, rfl, Nat.le_refl _⟩)) ?_
    refine DrawM.q 6 [(15, some 5)] rfl rfl (by kernel_rfl) rfl rfl (fun Hc kq hkq hF hSb hfr => AOp.len' rfl rfl ⟨rfl, rfl, Nat.le_refl _⟩) ?_
    refine DrawM.q 7 [(1, none)] rfl rfl (by kernel_rfl) rfl rfl (fun Hc kq hkq hF hSb hfr => AOp.fieldAddr' rfl (by decide) rfl ⟨rfl, rfl, Nat.le_refl _⟩) ?_
    refine DrawM.q 8 [(17, some 7)] rfl rfl (by kernel_rfl) rfl rfl (fun Hc kq hkq hF hSb hfr => have tSb := SubS.of hSb; (by refine AOp.load1 (b := ?b4) (v := ?v4) rfl rfl ?hn4 ?hv4 ?hR4; (case hn4 => exact hpA); (case hv4 => rfl); exact ⟨rfl, rfl, Nat.le_refl _⟩)) ?_
    refine DrawM.q 9 [(18, some 8)] rfl rfl (by kernel_rfl) rfl rfl (fun Hc kq hkq hF hSb hfr => AOp.len' rfl rfl ⟨rfl, rfl, Nat.le_refl _⟩) ?_
    refine DrawM.new 10 _ _ [] rfl (by decide) rfl (by kernel_rfl) rfl rfl RenOk.ptr (fun Hc kq hkq hF hSb hfr => AOp.alloc' rfl ⟨kq, Nat.le_refl _, Nat.lt_succ_self _, rfl, rfl⟩) ?_
    refine DrawM.wr 11 10 _ [(3, some 10), (13, some 3)] rfl rfl (by kernel_rfl) rfl rfl (fun Hc kq hkq hF hSb hfr => (by refine AOp.storeAll (b := ?b5) rfl rfl rfl ?hn5 ?hk5 rfl ?hw5 ?ho5 ?hl5 ?hR5; (case hn5 => repeat (first | assumption | exact upd_same _ _ _ | refine (upd_other _ _ (by omega)).trans ?_ | exact hF 10 (by decide) | refine hSb _ _ ?_)); (case hk5 => rfl); (case hw5 => first | rfl | (simp; done)); (case ho5 => first | rfl | decide | (simp; done)); (case hl5 => first | rfl | (simp; done)); exact ⟨rfl, rfl, Nat.le_refl _⟩)) ?_
    refine DrawM.q 12 [(16, some 6)] rfl rfl (by kernel_rfl) rfl rfl (fun Hc kq hkq hF hSb hfr => AOp.move' (.inr rfl) rfl ⟨rfl, rfl, Nat.le_refl _⟩) ?_
    refine DrawM.q 13 [(19, some 9)] rfl rfl (by kernel_rfl) rfl rfl (fun Hc kq hkq hF hSb hfr => AOp.move' (.inr rfl) rfl ⟨rfl, rfl, Nat.le_refl _⟩) ?_
    refine DrawM.done fun kq hkq => ?_
    show aOps _ _ _ _ [] ⟨_, (upd _ (_ + 10) _), _⟩
    refine aOps_end ?_
    show ACode _ _ _ _ _ _
    refine ACode.seq ?_
    refine ACode.region' [0, 1, 2, 3, 4, 5, 6, 7, 8, 9, 10, 11, 12, 13, 14, 15, 16, 17, 18, 19, 20, 21, 22, 23, 24, 25, 26, 27, 28, 29, 30, 31] (by kernel_rfl) rfl ?_
    refine aOps_1 rfl rfl rfl (AOp.move' (.inl rfl) rfl ?_)
    refine aOps_1 rfl rfl rfl (AOp.fieldAddr' rfl (by decide) rfl ?_)
    refine aOps_1 rfl rfl rfl ?_
    refine AOp.load1 (b := ?b6) (v := ?v6) rfl rfl ?hn6 ?hv6 ?hR6
    (case hn6 => exact hpA)
    (case hv6 => rfl)
    refine aOps_1 rfl rfl rfl (AOp.bin' rfl rfl rfl rfl ?_)
    refine aOps_1 rfl rfl rfl (AOp.move' (.inl rfl) rfl ?_)
    refine aOps_gd0 rfl rfl (wantT rfl rfl rfl) (fun hc => AOp.slots [(4, _)] (.cons rfl .nil) (AOp.move' (.inl rfl) rfl ⟨rfl, rfl, rfl⟩)) ?_
    refine aOps_gd0 rfl rfl (wantT rfl rfl rfl) (fun hc => AOp.slots [(3, _)] (.cons rfl .nil) (AOp.fieldAddr' rfl (by decide) rfl ⟨rfl, rfl, rfl⟩)) ?_
    refine aOps_gd0 rfl rfl (wantT rfl rfl rfl) (fun hc => AOp.slots [(26, _)] (.cons (gvT rfl hc) .nil) ((by refine AOp.load1 (b := ?b7) (v := ?v7) rfl rfl ?hn7 ?hv7 ?hR7; (case hn7 => exact hpA); (case hv7 => rfl); exact ⟨rfl, rfl, rfl⟩))) ?_
    refine aOps_gd0 rfl rfl (wantT rfl rfl rfl) (fun hc => AOp.slots [(25, _), (27, _)] (.cons (gvT rfl hc) (.cons (gvT rfl hc) .nil)) (AOp.bin' rfl rfl rfl rfl ⟨rfl, rfl, rfl⟩)) ?_
    refine aOps_1 rfl rfl rfl (AOp.pickAnd rfl rfl rfl (fun hb => gvE rfl hb) ?_)
    refine aOps_1 rfl rfl rfl (AOp.move' (.inl rfl) rfl ?_)
    refine aOps_gd0 rfl rfl (wantT rfl rfl rfl) (fun hc => AOp.slots [(5, _)] (.cons rfl .nil) (AOp.move' (.inl rfl) rfl ⟨rfl, rfl, rfl⟩)) ?_
    refine aOps_gd0 rfl rfl (wantT rfl rfl rfl) (fun hc => AOp.slots [(3, _)] (.cons rfl .nil) (AOp.fieldAddr' rfl (by decide) rfl ⟨rfl, rfl, rfl⟩)) ?_
    refine aOps_gd0 rfl rfl (wantT rfl rfl rfl) (fun hc => AOp.slots [(32, _)] (.cons (gvT rfl hc) .nil) ((by refine AOp.load1 (b := ?b8) (v := ?v8) rfl rfl ?hn8 ?hv8 ?hR8; (case hn8 => exact hpA); (case hv8 => rfl); exact ⟨rfl, rfl, rfl⟩))) ?_
    refine aOps_gd0 rfl rfl (wantT rfl rfl rfl) (fun hc => AOp.slots [(31, _), (33, _)] (.cons (gvT rfl hc) (.cons (gvT rfl hc) .nil)) (AOp.bin' rfl rfl rfl rfl ⟨rfl, rfl, rfl⟩)) ?_
    refine aOps_1 rfl rfl rfl (AOp.pickAnd rfl rfl rfl (fun hb => gvE rfl hb) ?_)
    refine aOps_1 rfl rfl rfl (AOp.move' (.inl rfl) rfl ?_)
    refine aOps_gd0 rfl rfl (wantT rfl rfl rfl) (fun hc => AOp.slots [(5, _)] (.cons rfl .nil) (AOp.move' (.inl rfl) rfl ⟨rfl, rfl, rfl⟩)) ?_
    refine aOps_gd0 rfl rfl (wantT rfl rfl rfl) (fun hc => AOp.slots [(3, _)] (.cons rfl .nil) (AOp.fieldAddr' rfl (by decide) rfl ⟨rfl, rfl, rfl⟩)) ?_
    refine aOps_gd0 rfl rfl (wantT rfl rfl rfl) (fun hc => AOp.slots [(38, _)] (.cons (gvT rfl hc) .nil) ((by refine AOp.load1 (b := ?b9) (v := ?v9) rfl rfl ?hn9 ?hv9 ?hR9; (case hn9 => exact hpA); (case hv9 => rfl); exact ⟨rfl, rfl, rfl⟩))) ?_
    refine aOps_gd0 rfl rfl (wantT rfl rfl rfl) (fun hc => AOp.slots [(37, _), (39, _)] (.cons (gvT rfl hc) (.cons (gvT rfl hc) .nil)) (AOp.bin' rfl rfl rfl rfl ⟨rfl, rfl, rfl⟩)) ?_
    refine aOps_1 rfl rfl rfl (AOp.pickAnd rfl rfl rfl (fun hb => gvE rfl hb) ?_)
    refine aOps_1 rfl rfl rfl (AOp.move' (.inl rfl) rfl ?_)
    refine aOps_gd0 rfl rfl (wantT rfl rfl rfl) (fun hc => AOp.slots [(3, _)] (.cons rfl .nil) (AOp.fieldAddr' rfl (by decide) rfl ⟨rfl, rfl, rfl⟩)) ?_
    refine aOps_gd0 rfl rfl (wantT rfl rfl rfl) (fun hc => AOp.slots [(43, _)] (.cons (gvT rfl hc) .nil) ((by refine AOp.load1 (b := ?b10) (v := ?v10) rfl rfl ?hn10 ?hv10 ?hR10; (case hn10 => exact hpA); (case hv10 => rfl); exact ⟨rfl, rfl, rfl⟩))) ?_
    refine aOps_gd0 rfl rfl (wantT rfl rfl rfl) (fun hc => AOp.slots [(44, _)] (.cons (gvT rfl hc) .nil) (AOp.move' (.inl rfl) rfl ⟨rfl, rfl, rfl⟩)) ?_
    refine aOps_gd0 rfl rfl (wantGF rfl rfl rfl) (fun hc => AOp.slots [(1, _)] (.cons rfl .nil) (AOp.fieldAddr' rfl (by decide) rfl ⟨rfl, rfl, rfl⟩)) ?_
    refine aOps_gd0 rfl rfl (wantGF rfl rfl rfl) (fun hc => AOp.slots [(46, _)] (.cons (gvT rfl hc) .nil) ((by refine AOp.load1 (b := ?b11) (v := ?v11) rfl rfl ?hn11 ?hv11 ?hR11; (case hn11 => exact hpA); (case hv11 => rfl); exact ⟨rfl, rfl, rfl⟩))) ?_
    refine aOps_gd0 rfl rfl (wantGF rfl rfl rfl) (fun hc => AOp.slots [(47, _)] (.cons (gvT rfl hc) .nil) (AOp.bin' rfl rfl rfl rfl ⟨rfl, rfl, rfl⟩)) ?_
    refine aOps_gd0 rfl rfl (wantT rfl rfl rfl) (fun hc => AOp.pickOr rfl rfl (gvE rfl hc) (fun hb => gvE rfl (and_mk hc (t_not hb))) ⟨rfl, rfl, rfl⟩) ?_
    refine aOps_1 rfl rfl rfl (AOp.pickAnd rfl rfl rfl (fun hb => gvE rfl hb) ?_)
    refine aOps_1 rfl rfl rfl (AOp.move' (.inr rfl) rfl ?_)
    refine aOps_end ?_
    show ACode _ _ _ _ _ _
    refine ACode.ret ?_
    exact RetQ.one rfl rfl subA stays (fun hk => ⟨(by rw [formedP, hkn, Int.toNat_natCast]; rfl), rfl, by omega⟩)

theorem compared_b (op c : Int) : ACalls Tryd.prog 3 125 [.int .i64 op, .int .i64 c] H k (Same H k (.int .i64 (truthI (cmpdB op c)))) := by
  refine ACalls.fresh fun hf => ?_
  refine ACalls.body Tryd.func125 rfl (Nat.le_of_ble_eq_true rfl) ?_
  refine ACode.seq ?_
  refine ACode.region' [0] (by kernel_rfl) rfl ?_
  refine aOps_1 rfl rfl rfl (AOp.move' (.inr rfl) rfl ?_)
  refine aOps_end ?_
  show ACode _ _ _ _ _ _
  refine ACode.seq ?_
  refine ACode.region' [0] (by kernel_rfl) rfl ?_
  refine aOps_1 rfl rfl rfl (AOp.move' (.inr rfl) rfl ?_)
  refine aOps_end ?_
  show ACode _ _ _ _ _ _
  refine ACode.seq ?_
  refine ACode.seq ?_
  refine ACode.region' [0] (by kernel_rfl) rfl ?_
  refine aOps_1 rfl rfl rfl (AOp.move' (.inl rfl) rfl ?_)
  refine aOps_end ?_
  show ACode _ _ _ _ _ _
  refine ACode.block ?_
  refine ACode.seq ?_
  refine ACode.block ?_
  refine ACode.seq ?_
  refine ACode.block ?_
  refine ACode.seq ?_
  refine ACode.block ?_
  refine ACode.seq ?_
  refine ACode.block ?_
  refine ACode.seq ?_
  refine ACode.block ?_
  refine ACode.seq ?_
  refine ACode.block ?_
  refine ACode.seq ?_
  refine ACode.seq ?_
  refine ACode.seq ?_
  refine ACode.region' [0, 1] (by kernel_rfl) rfl ?_
  refine aOps_1 rfl rfl rfl (AOp.bin' rfl rfl rfl rfl ?_)
  refine aOps_1 rfl rfl rfl (AOp.move' (.inr rfl) rfl ?_)
  refine aOps_end ?_
  show ACode _ _ _ _ _ _
  refine ACode.cond rfl (fun c0 => ?_) (fun c0 => ?_)
  · try simp only [decide_eq_true_eq, decide_eq_false_iff_not, beq_iff_eq, beq_eq_false_iff_ne, ne_eq, bne_iff_ne, Bool.not_eq_true', Bool.not_eq_false', Int.not_lt, Int.not_le, gt_iff_lt, ge_iff_le, bne_eq_false_iff_eq, Bool.not_eq_eq_eq_not, Bool.not_true, Bool.not_false] at c0
    refine ACode.exit ?_
    show ACode _ _ _ _ _ _
    refine ACode.region' [0, 1, 2] (by kernel_rfl) rfl ?_
    refine aOps_1 rfl rfl rfl (AOp.move' (.inl rfl) rfl ?_)
    refine aOps_1 rfl rfl rfl (AOp.bin' rfl rfl rfl rfl ?_)
    refine aOps_1 rfl rfl rfl (AOp.move' (.inr rfl) rfl ?_)
    refine aOps_end ?_
    show ACode _ _ _ _ _ _
    refine ACode.seq ?_
    refine ACode.region' [0, 1, 2, 3, 4, 5] (by kernel_rfl) rfl ?_
    refine aOps_1 rfl rfl rfl (AOp.move' (.inl rfl) rfl ?_)
    refine aOps_1 rfl rfl rfl (AOp.move' (.inl rfl) rfl ?_)
    refine aOps_gd0 rfl rfl (wantF rfl rfl rfl) (fun hc => AOp.slots [(1, _)] (.cons rfl .nil) (AOp.move' (.inl rfl) rfl ⟨rfl, rfl, rfl⟩)) ?_
    refine aOps_gd0 rfl rfl (wantF rfl rfl rfl) (fun hc => AOp.slots [(23, _)] (.cons (gvT rfl hc) .nil) (AOp.bin' rfl rfl rfl rfl ⟨rfl, rfl, rfl⟩)) ?_
    refine aOps_1 rfl rfl rfl (AOp.pickOr rfl rfl rfl (fun hb => gvE rfl (t_not hb)) ?_)
    refine aOps_1 rfl rfl rfl (AOp.move' (.inr rfl) rfl ?_)
    refine aOps_end ?_
    show ACode _ _ _ _ _ _
    refine ACode.exit ?_
    show ACode _ _ _ _ _ _
    refine ACode.seq ?_
    refine ACode.region' [0, 1, 2] (by kernel_rfl) rfl ?_
    refine aOps_1 rfl rfl rfl (AOp.move' (.inl rfl) rfl ?_)
    refine aOps_q rfl rfl rfl (AOp.call' rfl rfl rfl (truth_b _ _ _) (fun _ _ _ h => h)) (fun kq hkq => ?_)
    refine aOps_1 rfl rfl rfl (AOp.move' (.inr rfl) rfl ?_)
    refine aOps_end ?_
    show ACode _ _ _ _ _ _
    refine ACode.ret ?_
    exact RetQ.one rfl rfl subA stays (fun hk => ⟨(by rw [cmpdB, if_pos c0]; try rfl), rfl, by omega⟩)
  · try simp only [decide_eq_true_eq, decide_eq_false_iff_not, beq_iff_eq, beq_eq_false_iff_ne, ne_eq, bne_iff_ne, Bool.not_eq_true', Bool.not_eq_false', Int.not_lt, Int.not_le, gt_iff_lt, ge_iff_le, bne_eq_false_iff_eq, Bool.not_eq_eq_eq_not, Bool.not_true, Bool.not_false] at c0
    refine ACode.skip ?_
    show ACode _ _ _ _ _ _
    refine ACode.seq ?_
    refine ACode.seq ?_
    refine ACode.region' [0, 1] (by kernel_rfl) rfl ?_
    refine aOps_1 rfl rfl rfl (AOp.bin' rfl rfl rfl rfl ?_)
    refine aOps_1 rfl rfl rfl (AOp.move' (.inr rfl) rfl ?_)
    refine aOps_end ?_
    show ACode _ _ _ _ _ _
    refine ACode.cond rfl (fun c1 => ?_) (fun c1 => ?_)
    · try simp only [decide_eq_true_eq, decide_eq_false_iff_not, beq_iff_eq, beq_eq_false_iff_ne, ne_eq, bne_iff_ne, Bool.not_eq_true', Bool.not_eq_false', Int.not_lt, Int.not_le, gt_iff_lt, ge_iff_le, bne_eq_false_iff_eq, Bool.not_eq_eq_eq_not, Bool.not_true, Bool.not_false] at c1
      refine ACode.exit ?_
      show ACode _ _ _ _ _ _
      refine ACode.seq ?_
      refine ACode.region' [0, 1, 2, 3, 4, 5] (by kernel_rfl) rfl ?_
      refine aOps_1 rfl rfl rfl (AOp.move' (.inl rfl) rfl ?_)
      refine aOps_1 rfl rfl rfl (AOp.move' (.inl rfl) rfl ?_)
      refine aOps_gd0 rfl rfl (wantF rfl rfl rfl) (fun hc => AOp.slots [(1, _)] (.cons rfl .nil) (AOp.move' (.inl rfl) rfl ⟨rfl, rfl, rfl⟩)) ?_
      refine aOps_gd0 rfl rfl (wantF rfl rfl rfl) (fun hc => AOp.slots [(23, _)] (.cons (gvT rfl hc) .nil) (AOp.bin' rfl rfl rfl rfl ⟨rfl, rfl, rfl⟩)) ?_
      refine aOps_1 rfl rfl rfl (AOp.pickOr rfl rfl rfl (fun hb => gvE rfl (t_not hb)) ?_)
      refine aOps_1 rfl rfl rfl (AOp.move' (.inr rfl) rfl ?_)
      refine aOps_end ?_
      show ACode _ _ _ _ _ _
      refine ACode.exit ?_
      show ACode _ _ _ _ _ _
      refine ACode.seq ?_
      refine ACode.region' [0, 1, 2] (by kernel_rfl) rfl ?_
      refine aOps_1 rfl rfl rfl (AOp.move' (.inl rfl) rfl ?_)
      refine aOps_q rfl rfl rfl (AOp.call' rfl rfl rfl (truth_b _ _ _) (fun _ _ _ h => h)) (fun kq hkq => ?_)
      refine aOps_1 rfl rfl rfl (AOp.move' (.inr rfl) rfl ?_)
      refine aOps_end ?_
      show ACode _ _ _ _ _ _
      refine ACode.ret ?_
      exact RetQ.one rfl rfl subA stays (fun hk => ⟨(by rw [cmpdB, if_neg c0, if_pos c1]; try rfl), rfl, by omega⟩)
    · try simp only [decide_eq_true_eq, decide_eq_false_iff_not, beq_iff_eq, beq_eq_false_iff_ne, ne_eq, bne_iff_ne, Bool.not_eq_true', Bool.not_eq_false', Int.not_lt, Int.not_le, gt_iff_lt, ge_iff_le, bne_eq_false_iff_eq, Bool.not_eq_eq_eq_not, Bool.not_true, Bool.not_false] at c1
      refine ACode.skip ?_
      show ACode _ _ _ _ _ _
      refine ACode.seq ?_
      refine ACode.seq ?_
      refine ACode.region' [0, 1] (by kernel_rfl) rfl ?_
      refine aOps_1 rfl rfl rfl (AOp.bin' rfl rfl rfl rfl ?_)
      refine aOps_1 rfl rfl rfl (AOp.move' (.inr rfl) rfl ?_)
      refine aOps_end ?_
      show ACode _ _ _ _ _ _
      refine ACode.cond rfl (fun c2 => ?_) (fun c2 => ?_)
      · try simp only [decide_eq_true_eq, decide_eq_false_iff_not, beq_iff_eq, beq_eq_false_iff_ne, ne_eq, bne_iff_ne, Bool.not_eq_true', Bool.not_eq_false', Int.not_lt, Int.not_le, gt_iff_lt, ge_iff_le, bne_eq_false_iff_eq, Bool.not_eq_eq_eq_not, Bool.not_true, Bool.not_false] at c2
        refine ACode.exit ?_
        show ACode _ _ _ _ _ _
        refine ACode.region' [0, 1, 2] (by kernel_rfl) rfl ?_
        refine aOps_1 rfl rfl rfl (AOp.move' (.inl rfl) rfl ?_)
        refine aOps_1 rfl rfl rfl (AOp.bin' rfl rfl rfl rfl ?_)
        refine aOps_1 rfl rfl rfl (AOp.move' (.inr rfl) rfl ?_)
        refine aOps_end ?_
        show ACode _ _ _ _ _ _
        refine ACode.seq ?_
        refine ACode.region' [0, 1, 2, 3, 4, 5] (by kernel_rfl) rfl ?_
        refine aOps_1 rfl rfl rfl (AOp.move' (.inl rfl) rfl ?_)
        refine aOps_1 rfl rfl rfl (AOp.move' (.inl rfl) rfl ?_)
        refine aOps_gd0 rfl rfl (wantF rfl rfl rfl) (fun hc => AOp.slots [(1, _)] (.cons rfl .nil) (AOp.move' (.inl rfl) rfl ⟨rfl, rfl, rfl⟩)) ?_
        refine aOps_gd0 rfl rfl (wantF rfl rfl rfl) (fun hc => AOp.slots [(30, _)] (.cons (gvT rfl hc) .nil) (AOp.bin' rfl rfl rfl rfl ⟨rfl, rfl, rfl⟩)) ?_
        refine aOps_1 rfl rfl rfl (AOp.pickOr rfl rfl rfl (fun hb => gvE rfl (t_not hb)) ?_)
        refine aOps_1 rfl rfl rfl (AOp.move' (.inr rfl) rfl ?_)
        refine aOps_end ?_
        show ACode _ _ _ _ _ _
        refine ACode.exit ?_
        show ACode _ _ _ _ _ _
        refine ACode.seq ?_
        refine ACode.region' [0, 1, 2] (by kernel_rfl) rfl ?_
        refine aOps_1 rfl rfl rfl (AOp.move' (.inl rfl) rfl ?_)
        refine aOps_q rfl rfl rfl (AOp.call' rfl rfl rfl (truth_b _ _ _) (fun _ _ _ h => h)) (fun kq hkq => ?_)
        refine aOps_1 rfl rfl rfl (AOp.move' (.inr rfl) rfl ?_)
        refine aOps_end ?_
        show ACode _ _ _ _ _ _
        refine ACode.ret ?_
        exact RetQ.one rfl rfl subA stays (fun hk => ⟨(by rw [cmpdB, if_neg c0, if_neg c1, if_pos c2]; try rfl), rfl, by omega⟩)
      · try simp only [decide_eq_true_eq, decide_eq_false_iff_not, beq_iff_eq, beq_eq_false_iff_ne, ne_eq, bne_iff_ne, Bool.not_eq_true', Bool.not_eq_false', Int.not_lt, Int.not_le, gt_iff_lt, ge_iff_le, bne_eq_false_iff_eq, Bool.not_eq_eq_eq_not, Bool.not_true, Bool.not_false] at c2
        refine ACode.skip ?_
        show ACode _ _ _ _ _ _
        refine ACode.seq ?_
        refine ACode.seq ?_
        refine ACode.region' [0, 1] (by kernel_rfl) rfl ?_
        refine aOps_1 rfl rfl rfl (AOp.bin' rfl rfl rfl rfl ?_)
        refine aOps_1 rfl rfl rfl (AOp.move' (.inr rfl) rfl ?_)
        refine aOps_end ?_
        show ACode _ _ _ _ _ _
        refine ACode.cond rfl (fun c3 => ?_) (fun c3 => ?_)
        · try simp only [decide_eq_true_eq, decide_eq_false_iff_not, beq_iff_eq, beq_eq_false_iff_ne, ne_eq, bne_iff_ne, Bool.not_eq_true', Bool.not_eq_false', Int.not_lt, Int.not_le, gt_iff_lt, ge_iff_le, bne_eq_false_iff_eq, Bool.not_eq_eq_eq_not, Bool.not_true, Bool.not_false] at c3
          refine ACode.exit ?_
          show ACode _ _ _ _ _ _
          refine ACode.seq ?_
          refine ACode.region' [0, 1, 2, 3, 4, 5] (by kernel_rfl) rfl ?_
          refine aOps_1 rfl rfl rfl (AOp.move' (.inl rfl) rfl ?_)
          refine aOps_1 rfl rfl rfl (AOp.move' (.inl rfl) rfl ?_)
          refine aOps_gd0 rfl rfl (wantF rfl rfl rfl) (fun hc => AOp.slots [(1, _)] (.cons rfl .nil) (AOp.move' (.inl rfl) rfl ⟨rfl, rfl, rfl⟩)) ?_
          refine aOps_gd0 rfl rfl (wantF rfl rfl rfl) (fun hc => AOp.slots [(30, _)] (.cons (gvT rfl hc) .nil) (AOp.bin' rfl rfl rfl rfl ⟨rfl, rfl, rfl⟩)) ?_
          refine aOps_1 rfl rfl rfl (AOp.pickOr rfl rfl rfl (fun hb => gvE rfl (t_not hb)) ?_)
          refine aOps_1 rfl rfl rfl (AOp.move' (.inr rfl) rfl ?_)
          refine aOps_end ?_
          show ACode _ _ _ _ _ _
          refine ACode.exit ?_
          show ACode _ _ _ _ _ _
          refine ACode.seq ?_
          refine ACode.region' [0, 1, 2] (by kernel_rfl) rfl ?_
          refine aOps_1 rfl rfl rfl (AOp.move' (.inl rfl) rfl ?_)
          refine aOps_q rfl rfl rfl (AOp.call' rfl rfl rfl (truth_b _ _ _) (fun _ _ _ h => h)) (fun kq hkq => ?_)
          refine aOps_1 rfl rfl rfl (AOp.move' (.inr rfl) rfl ?_)
          refine aOps_end ?_
          show ACode _ _ _ _ _ _
          refine ACode.ret ?_
          exact RetQ.one rfl rfl subA stays (fun hk => ⟨(by rw [cmpdB, if_neg c0, if_neg c1, if_neg c2, if_pos c3]; try rfl), rfl, by omega⟩)
        · try simp only [decide_eq_true_eq, decide_eq_false_iff_not, beq_iff_eq, beq_eq_false_iff_ne, ne_eq, bne_iff_ne, Bool.not_eq_true', Bool.not_eq_false', Int.not_lt, Int.not_le, gt_iff_lt, ge_iff_le, bne_eq_false_iff_eq, Bool.not_eq_eq_eq_not, Bool.not_true, Bool.not_false] at c3
          refine ACode.skip ?_
          show ACode _ _ _ _ _ _
          refine ACode.seq ?_
          refine ACode.seq ?_
          refine ACode.region' [0, 1] (by kernel_rfl) rfl ?_
          refine aOps_1 rfl rfl rfl (AOp.bin' rfl rfl rfl rfl ?_)
          refine aOps_1 rfl rfl rfl (AOp.move' (.inr rfl) rfl ?_)
          refine aOps_end ?_
          show ACode _ _ _ _ _ _
          refine ACode.cond rfl (fun c4 => ?_) (fun c4 => ?_)
          · try simp only [decide_eq_true_eq, decide_eq_false_iff_not, beq_iff_eq, beq_eq_false_iff_ne, ne_eq, bne_iff_ne, Bool.not_eq_true', Bool.not_eq_false', Int.not_lt, Int.not_le, gt_iff_lt, ge_iff_le, bne_eq_false_iff_eq, Bool.not_eq_eq_eq_not, Bool.not_true, Bool.not_false] at c4
            refine ACode.exit ?_
            show ACode _ _ _ _ _ _
            refine ACode.seq ?_
            refine ACode.region' [0, 1, 2] (by kernel_rfl) rfl ?_
            refine aOps_1 rfl rfl rfl (AOp.move' (.inl rfl) rfl ?_)
            refine aOps_1 rfl rfl rfl (AOp.bin' rfl rfl rfl rfl ?_)
            refine aOps_1 rfl rfl rfl (AOp.move' (.inr rfl) rfl ?_)
            refine aOps_end ?_
            show ACode _ _ _ _ _ _
            refine ACode.exit ?_
            show ACode _ _ _ _ _ _
            refine ACode.seq ?_
            refine ACode.region' [0, 1, 2] (by kernel_rfl) rfl ?_
            refine aOps_1 rfl rfl rfl (AOp.move' (.inl rfl) rfl ?_)
            refine aOps_q rfl rfl rfl (AOp.call' rfl rfl rfl (truth_b _ _ _) (fun _ _ _ h => h)) (fun kq hkq => ?_)
            refine aOps_1 rfl rfl rfl (AOp.move' (.inr rfl) rfl ?_)
            refine aOps_end ?_
            show ACode _ _ _ _ _ _
            refine ACode.ret ?_
            exact RetQ.one rfl rfl subA stays (fun hk => ⟨(by rw [cmpdB, if_neg c0, if_neg c1, if_neg c2, if_neg c3, if_pos c4]), rfl, by omega⟩)
          · try simp only [decide_eq_true_eq, decide_eq_false_iff_not, beq_iff_eq, beq_eq_false_iff_ne, ne_eq, bne_iff_ne, Bool.not_eq_true', Bool.not_eq_false', Int.not_lt, Int.not_le, gt_iff_lt, ge_iff_le, bne_eq_false_iff_eq, Bool.not_eq_eq_eq_not, Bool.not_true, Bool.not_false] at c4
            refine ACode.skip ?_
            show ACode _ _ _ _ _ _
            refine ACode.seq ?_
            refine ACode.region' [0, 1] (by kernel_rfl) rfl ?_
            refine aOps_1 rfl rfl rfl (AOp.bin' rfl rfl rfl rfl ?_)
            refine aOps_1 rfl rfl rfl (AOp.move' (.inr rfl) rfl ?_)
            refine aOps_end ?_
            show ACode _ _ _ _ _ _
            refine ACode.cond rfl (fun c5 => ?_) (fun c5 => ?_)
            · try simp only [decide_eq_true_eq, decide_eq_false_iff_not, beq_iff_eq, beq_eq_false_iff_ne, ne_eq, bne_iff_ne, Bool.not_eq_true', Bool.not_eq_false', Int.not_lt, Int.not_le, gt_iff_lt, ge_iff_le, bne_eq_false_iff_eq, Bool.not_eq_eq_eq_not, Bool.not_true, Bool.not_false] at c5
              refine ACode.exit ?_
              show ACode _ _ _ _ _ _
              refine ACode.seq ?_
              refine ACode.region' [0, 1, 2] (by kernel_rfl) rfl ?_
              refine aOps_1 rfl rfl rfl (AOp.move' (.inl rfl) rfl ?_)
              refine aOps_1 rfl rfl rfl (AOp.bin' rfl rfl rfl rfl ?_)
              refine aOps_1 rfl rfl rfl (AOp.move' (.inr rfl) rfl ?_)
              refine aOps_end ?_
              show ACode _ _ _ _ _ _
              refine ACode.exit ?_
              show ACode _ _ _ _ _ _
              refine ACode.seq ?_
              refine ACode.region' [0, 1, 2] (by kernel_rfl) rfl ?_
              refine aOps_1 rfl rfl rfl (AOp.move' (.inl rfl) rfl ?_)
              refine aOps_q rfl rfl rfl (AOp.call' rfl rfl rfl (truth_b _ _ _) (fun _ _ _ h => h)) (fun kq hkq => ?_)
              refine aOps_1 rfl rfl rfl (AOp.move' (.inr rfl) rfl ?_)
              refine aOps_end ?_
              show ACode _ _ _ _ _ _
              refine ACode.ret ?_
              exact RetQ.one rfl rfl subA stays (fun hk => ⟨(by rw [cmpdB, if_neg c0, if_neg c1, if_neg c2, if_neg c3, if_neg c4, if_pos c5]), rfl, by omega⟩)
            · try simp only [decide_eq_true_eq, decide_eq_false_iff_not, beq_iff_eq, beq_eq_false_iff_ne, ne_eq, bne_iff_ne, Bool.not_eq_true', Bool.not_eq_false', Int.not_lt, Int.not_le, gt_iff_lt, ge_iff_le, bne_eq_false_iff_eq, Bool.not_eq_eq_eq_not, Bool.not_true, Bool.not_false] at c5
              refine ACode.skip ?_
              show ACode _ _ _ _ _ _
              refine ACode.exit ?_
              show ACode _ _ _ _ _ _
              refine ACode.seq ?_
              refine ACode.region' [0, 1, 2] (by kernel_rfl) rfl ?_
              refine aOps_1 rfl rfl rfl (AOp.move' (.inl rfl) rfl ?_)
              refine aOps_q rfl rfl rfl (AOp.call' rfl rfl rfl (truth_b _ _ _) (fun _ _ _ h => h)) (fun kq hkq => ?_)
              refine aOps_1 rfl rfl rfl (AOp.move' (.inr rfl) rfl ?_)
              refine aOps_end ?_
              show ACode _ _ _ _ _ _
              refine ACode.ret ?_
              exact RetQ.one rfl rfl subA stays (fun hk => ⟨(by rw [cmpdB, if_neg c0, if_neg c1, if_neg c2, if_neg c3, if_neg c4, if_neg c5]), rfl, by omega⟩)

theorem same_val (u v : Val) (q : Nat) (hq : H q = some { cells := (vv u).cells.toList, elem := 59, kind := .fix }) : ACalls Tryd.prog 3 123 [vv v, .pointer (some ⟨q, 0, none⟩)] H k (Same H k (.bool (cmpV u v == 0))) := by
  refine ACalls.fresh fun hf => ?_
  refine ACalls.body Tryd.func123 rfl (Nat.le_of_ble_eq_true rfl) ?_
  have hqk := old_lt hf hq
  refine ACode.seq ?_
  refine ACode.region' [0, 1] (by kernel_rfl) rfl ?_
  refine aOps_1 rfl rfl rfl (AOp.boxV rfl rfl ?_)
  refine aOps_1 rfl rfl rfl (AOp.move' (.inr rfl) rfl ?_)
  refine aOps_end ?_
  show ACode _ _ _ _ _ _
  refine ACode.seq ?_
  refine ACode.region' [0, 1, 2, 3, 4] (by kernel_rfl) rfl ?_
  refine aOps_1 rfl rfl rfl (AOp.loadAll (b := { cells := (vv u).cells.toList, elem := 59, kind := .fix }) (v := vv u) rfl rfl hpA rfl rfl rfl ?_)
  refine aOps_1 rfl rfl rfl ?_
  refine AOp.loadAll (b := ?b12) (v := vv v) rfl rfl ?hn12 ?hv12 ?hw12 ?hz12 ?hR12
  (case hn12 => exact hpA)
  (case hv12 => rfl)
  (case hw12 => rfl)
  (case hz12 => first | rfl | (simp; done))
  refine aOps_q rfl rfl rfl (AOp.call' rfl rfl rfl (cmp_val 3 _ _ u v) (fun _ _ _ h => h)) (fun kq hkq => ?_)
  refine aOps_1 rfl rfl rfl (AOp.bin' rfl rfl rfl rfl ?_)
  refine aOps_1 rfl rfl rfl (AOp.move' (.inr rfl) rfl ?_)
  refine aOps_end ?_
  show ACode _ _ _ _ _ _
  refine ACode.ret ?_
  exact RetQ.one rfl rfl subA stays (fun hk => ⟨rfl, rfl, by omega⟩)

theorem indexFunc_b (fid : Nat) (fn : Func) [hfn : FnInfo Tryd.prog fid fn] (caps : Array Value) (p : Val → Bool) (vals : List Val) (A : Option Addr) (c : Nat) (hA : slcCells H 3 (.slice A vals.length c) = some (vals3 vals)) (hl : vals.length ≤ 9223372036854775807) (hp : ∀ v ∈ vals, ∀ (H2 : Hp) (k2 : Nat), Ab.Sub H H2 → ACalls Tryd.prog 3 fid ([vv v] ++ caps.toList) H2 k2 (Same H2 k2 (.bool (p v)))) : ACalls Tryd.prog 3 141 [.slice A vals.length c, .func (.func fid) #[] caps] H k (Same H k (.int .i64 (idxV p vals))) := by
  refine ACalls.fresh fun hf => ?_
  refine ACalls.body Tryd.func141 rfl (Nat.le_of_ble_eq_true rfl) ?_
  refine ACode.seq ?_
  refine ACode.region' [0] (by kernel_rfl) rfl ?_
  refine aOps_1 rfl rfl rfl (AOp.move' (.inr rfl) rfl ?_)
  refine aOps_end ?_
  show ACode _ _ _ _ _ _
  refine ACode.seq ?_
  refine ACode.seq ?_
  refine ACode.region' [0, 1, 2] (by kernel_rfl) rfl ?_
  refine aOps_1 rfl rfl rfl (AOp.move' (.inl rfl) rfl ?_)
  refine aOps_1 rfl rfl rfl (AOp.len' rfl rfl ?_)
  refine aOps_1 rfl rfl rfl (AOp.move' (.inl rfl) rfl ?_)
  refine aOps_end ?_
  show ACode _ _ _ _ _ _
  refine ACode.block ?_
  refine ACode.count0 (fun i => [(8, .int .i64 (i : Int))]) [(0, _), (1, _), (7, _)] (vals.length) (fun i => (vals.take i).any p = false) (.cons rfl .nil) (.cons rfl (.cons rfl (.cons rfl .nil))) rfl (fun i0 kL0 HL0 hiL0 hkL0 hsL0 hfL0 hxL0 => ?_)
  show ACode _ _ _ _ _ ⟨_, _, _⟩
  have tsL0 := SubS.of hsL0
  refine ACode.seq ?_
  refine ACode.region' [0] (by kernel_rfl) rfl ?_
  refine aOps_1 rfl rfl rfl (AOp.bin' rfl rfl rfl rfl ?_)
  refine aOps_end ?_
  show ACode _ _ _ _ _ _
  refine ACode.seq ?_
  refine ACode.cond rfl (fun c0 => ?_) (fun c0 => ?_)
  · try simp only [decide_eq_true_eq, decide_eq_false_iff_not, beq_iff_eq, beq_eq_false_iff_ne, ne_eq, bne_iff_ne, Bool.not_eq_true', Bool.not_eq_false', Int.not_lt, Int.not_le, gt_iff_lt, ge_iff_le, bne_eq_false_iff_eq, Bool.not_eq_eq_eq_not, Bool.not_true, Bool.not_false] at c0
    refine ACode.skip ?_
    show ACode _ _ _ _ _ _
    refine ACode.seq ?_
    refine ACode.block ?_
    refine ACode.seq ?_
    refine ACode.region' [0, 1] (by kernel_rfl) rfl ?_
    refine aOps_1 rfl rfl rfl (AOp.move' (.inl rfl) rfl ?_)
    refine aOps_1 rfl rfl rfl (AOp.move' (.inr rfl) rfl ?_)
    refine aOps_end ?_
    show ACode _ _ _ _ _ _
    refine ACode.seq ?_
    have hm0 : vals.getD i0 vD ∈ vals := by rw [← getD_i (by omega)]; exact List.getElem_mem _
    obtain ⟨n4_3, o4_3, s4_3, hq4_3, hp4_3⟩ := slcV hA (show i0 < vals.length by omega)
    refine ACode.region' [0, 1, 2, 3, 4, 5] (by kernel_rfl) rfl ?_
    refine aOps_1 rfl rfl rfl (AOp.move' (.inl rfl) rfl ?_)
    refine aOps_1 rfl rfl rfl (AOp.move' (.inl rfl) rfl ?_)
    refine aOps_1 rfl rfl rfl (AOp.move' (.inl rfl) rfl ?_)
    refine aOps_1 rfl rfl rfl (AOp.indexP (aslcAt_sub subA hq4_3) rfl rfl rfl ?_)
    refine aOps_1 rfl rfl rfl (AOp.loadPA (v := vv (vals.getD i0 vD)) (hp4_3.sub subA) rfl rfl rfl rfl (by first | rfl | (simp; done)) (by decide) ?_)
    refine aOps_q rfl rfl rfl (AOp.call' rfl rfl rfl (hp _ hm0 _ _ subA) (fun _ _ _ h => h)) (fun kq hkq => ?_)
    refine aOps_end ?_
    show ACode _ _ _ _ _ _
    refine ACode.cond rfl (fun c1 => ?_) (fun c1 => ?_)
    · try simp only [decide_eq_true_eq, decide_eq_false_iff_not, beq_iff_eq, beq_eq_false_iff_ne, ne_eq, bne_iff_ne, Bool.not_eq_true', Bool.not_eq_false', Int.not_lt, Int.not_le, gt_iff_lt, ge_iff_le, bne_eq_false_iff_eq, Bool.not_eq_eq_eq_not, Bool.not_true, Bool.not_false] at c1
      refine ACode.seq ?_
      refine ACode.region' [0, 1] (by kernel_rfl) rfl ?_
      refine aOps_1 rfl rfl rfl (AOp.move' (.inl rfl) rfl ?_)
      refine aOps_1 rfl rfl rfl (AOp.move' (.inr rfl) rfl ?_)
      refine aOps_end ?_
      show ACode _ _ _ _ _ _
      refine ACode.ret ?_
      exact RetQ.one rfl rfl subA stays (fun hk => ⟨(by rw [idxV_at hxL0 (by omega) c1]), rfl, by omega⟩)
    · try simp only [decide_eq_true_eq, decide_eq_false_iff_not, beq_iff_eq, beq_eq_false_iff_ne, ne_eq, bne_iff_ne, Bool.not_eq_true', Bool.not_eq_false', Int.not_lt, Int.not_le, gt_iff_lt, ge_iff_le, bne_eq_false_iff_eq, Bool.not_eq_eq_eq_not, Bool.not_true, Bool.not_false] at c1
      refine ACode.skip ?_
      show ACode _ _ _ _ _ _
      refine ACode.region' [0, 1] (by kernel_rfl) rfl ?_
      refine aOps_1 rfl rfl rfl (AOp.add rfl rfl rfl (i64_wrap (by omega) (by omega)) ?_)
      refine aOps_1 rfl rfl rfl (AOp.move' (.inl rfl) rfl ?_)
      refine aOps_end ?_
      first | refine thenA_n ?_ | simp only [thenA, blockA, if_true]
      exact NextR.mk (by omega) (by omega) (.cons rfl .nil) (.cons rfl (.cons rfl (.cons rfl .nil))) subA (any_stepD (by omega) hxL0 (by simpa using c1))
  · try simp only [decide_eq_true_eq, decide_eq_false_iff_not, beq_iff_eq, beq_eq_false_iff_ne, ne_eq, bne_iff_ne, Bool.not_eq_true', Bool.not_eq_false', Int.not_lt, Int.not_le, gt_iff_lt, ge_iff_le, bne_eq_false_iff_eq, Bool.not_eq_eq_eq_not, Bool.not_true, Bool.not_false] at c0
    refine ACode.exit ?_
    show ACode _ _ _ _ _ _
    refine ACode.seq ?_
    refine ACode.region' [0] (by kernel_rfl) rfl ?_
    refine aOps_1 rfl rfl rfl (AOp.move' (.inr rfl) rfl ?_)
    refine aOps_end ?_
    show ACode _ _ _ _ _ _
    refine ACode.ret ?_
    exact RetQ.one rfl rfl subA stays (fun hk => ⟨(by rw [idxV_no (p := p) (vs := vals) (by rw [← hxL0, List.take_of_length_le (by omega)])]), rfl, by omega⟩)

theorem containsFunc_b (fid : Nat) (fn : Func) [hfn : FnInfo Tryd.prog fid fn] (caps : Array Value) (p : Val → Bool) (vals : List Val) (A : Option Addr) (c : Nat) (hA : slcCells H 3 (.slice A vals.length c) = some (vals3 vals)) (hl : vals.length ≤ 9223372036854775807) (hp : ∀ v ∈ vals, ∀ (H2 : Hp) (k2 : Nat), Ab.Sub H H2 → ACalls Tryd.prog 3 fid ([vv v] ++ caps.toList) H2 k2 (Same H2 k2 (.bool (p v)))) : ACalls Tryd.prog 3 122 [.slice A vals.length c, .func (.func fid) #[] caps] H k (Same H k (.bool (vals.any p))) := by
  refine ACalls.fresh fun hf => ?_
  refine ACalls.body Tryd.func122 rfl (Nat.le_of_ble_eq_true rfl) ?_
  refine ACode.seq ?_
  refine ACode.region' [0] (by kernel_rfl) rfl ?_
  refine aOps_1 rfl rfl rfl (AOp.move' (.inr rfl) rfl ?_)
  refine aOps_end ?_
  show ACode _ _ _ _ _ _
  refine ACode.seq ?_
  refine ACode.region' [0, 1, 2, 3, 4] (by kernel_rfl) rfl ?_
  refine aOps_1 rfl rfl rfl (AOp.move' (.inl rfl) rfl ?_)
  refine aOps_1 rfl rfl rfl (AOp.move' (.inl rfl) rfl ?_)
  refine aOps_q rfl rfl rfl (AOp.call' rfl rfl rfl (indexFunc_b _ _ fid fn caps p vals A c (slcCells_sub subA hA) hl (fun v hv H2 k2 hs => hp v hv H2 k2 (sub_trans subA hs))) (fun _ _ _ h => h)) (fun kq hkq => ?_)
  refine aOps_1 rfl rfl rfl (AOp.bin' rfl rfl rfl rfl ?_)
  refine aOps_1 rfl rfl rfl (AOp.move' (.inr rfl) rfl ?_)
  refine aOps_end ?_
  show ACode _ _ _ _ _ _
  refine ACode.ret ?_
  exact RetQ.one rfl rfl subA stays (fun hk => ⟨(by rw [idxV_any]), rfl, by omega⟩)

theorem ofValue_b (ht : H 0 = some shBlk) (op col : Int) (hop : -9223372036854775808 ≤ op ∧ op ≤ 9223372036854775807) (vals : List Val) (A : Option Addr) (c : Nat) (hA : slcCells H 3 (.slice A vals.length c) = some (vals3 vals)) (hl : vals.length ≤ 9223372036854775807) (B : Option Addr) (m d : Nat) (hm : m ≤ 9223372036854775807) (o : Nat) (ho : o < 13) (hoo : op = o) (hc : (sh o).col = true) (v : Val) : ACalls Tryd.prog 3 89 [pv op col A vals.length c B m d, vv v] H k (Same H k (.int .i64 (ofValueP op col vals m v))) := by
  refine ACalls.fresh fun hf => ?_
  refine ACalls.body Tryd.func89 rfl (Nat.le_of_ble_eq_true rfl) ?_
  have h0k := old_lt hf ht
  subst hoo
  have hco := colops ho hc
  refine ACode.seq ?_
  refine ACode.region' [0, 1, 2] (by kernel_rfl) rfl ?_
  refine aOps_1 rfl rfl rfl (AOp.boxV rfl rfl ?_)
  refine aOps_1 rfl rfl rfl (AOp.boxV rfl rfl ?_)
  refine aOps_1 rfl rfl rfl (AOp.move' (.inr rfl) rfl ?_)
  refine aOps_end ?_
  show ACode _ _ _ _ _ _
  refine ACode.seq ?_
  refine ACode.region' [0, 1, 2, 3] (by kernel_rfl) rfl ?_
  refine aOps_1 rfl rfl rfl (AOp.fieldAddr' rfl (by decide) rfl ?_)
  refine aOps_1 rfl rfl rfl ?_
  refine AOp.load1 (b := ?b13) (v := ?v13) rfl rfl ?hn13 ?hv13 ?hR13
  (case hn13 => exact hpA)
  (case hv13 => rfl)
  refine aOps_1 rfl rfl rfl (AOp.bin' rfl rfl rfl rfl ?_)
  refine aOps_1 rfl rfl rfl (AOp.move' (.inr rfl) rfl ?_)
  refine aOps_end ?_
  show ACode _ _ _ _ _ _
  refine ACode.seq ?_
  refine ACode.block ?_
  refine ACode.seq ?_
  refine ACode.region' [0, 1, 2, 3] (by kernel_rfl) rfl ?_
  refine aOps_1 rfl rfl rfl (AOp.fieldAddr' rfl (by decide) rfl ?_)
  refine aOps_1 rfl rfl rfl ?_
  refine AOp.load1 (b := ?b14) (v := ?v14) rfl rfl ?hn14 ?hv14 ?hR14
  (case hn14 => exact hpA)
  (case hv14 => rfl)
  refine aOps_1 rfl rfl rfl (AOp.bin' rfl rfl rfl rfl ?_)
  refine aOps_1 rfl rfl rfl (AOp.move' (.inr rfl) rfl ?_)
  refine aOps_end ?_
  show ACode _ _ _ _ _ _
  refine ACode.cond rfl (fun c0 => ?_) (fun c0 => ?_)
  · try simp only [decide_eq_true_eq, decide_eq_false_iff_not, beq_iff_eq, beq_eq_false_iff_ne, ne_eq, bne_iff_ne, Bool.not_eq_true', Bool.not_eq_false', Int.not_lt, Int.not_le, gt_iff_lt, ge_iff_le, bne_eq_false_iff_eq, Bool.not_eq_eq_eq_not, Bool.not_true, Bool.not_false] at c0
    refine ACode.seq ?_
    refine ACode.region' [0, 1, 2] (by kernel_rfl) rfl ?_
    refine aOps_1 rfl rfl rfl (AOp.move' (.inl rfl) rfl ?_)
    refine aOps_q rfl rfl rfl (AOp.call' rfl rfl rfl (truth_b _ _ _) (fun _ _ _ h => h)) (fun kq hkq => ?_)
    refine aOps_1 rfl rfl rfl (AOp.move' (.inr rfl) rfl ?_)
    refine aOps_end ?_
    show ACode _ _ _ _ _ _
    refine ACode.ret ?_
    exact RetQ.one rfl rfl subA stays (fun hk => ⟨(by rw [ofValueP, if_pos c0]), rfl, by omega⟩)
  · try simp only [decide_eq_true_eq, decide_eq_false_iff_not, beq_iff_eq, beq_eq_false_iff_ne, ne_eq, bne_iff_ne, Bool.not_eq_true', Bool.not_eq_false', Int.not_lt, Int.not_le, gt_iff_lt, ge_iff_le, bne_eq_false_iff_eq, Bool.not_eq_eq_eq_not, Bool.not_true, Bool.not_false] at c0
    refine ACode.seq ?_
    refine ACode.region' [0, 1, 2, 3, 4, 5, 6] (by kernel_rfl) rfl ?_
    refine aOps_1 rfl rfl rfl (AOp.move' (.inl rfl) rfl ?_)
    refine aOps_1 rfl rfl rfl (AOp.move' (.inl rfl) rfl ?_)
    refine aOps_gd0 rfl rfl (wantF rfl rfl rfl) (fun hc => AOp.slots [(2, _)] (.cons rfl .nil) ((by refine AOp.loadAll (b := ?b15) (v := pv (o : Int) col A vals.length c B m d) rfl rfl ?hn15 ?hv15 ?hw15 ?hz15 ?hR15; (case hn15 => exact hpA); (case hv15 => rfl); (case hw15 => rfl); (case hz15 => first | rfl | (simp; done)); exact ⟨rfl, rfl, rfl⟩))) ?_
    refine aOps_gd rfl rfl (wantF rfl rfl rfl) (fun hc => AOp.slots [(18, _)] (.cons (gvT rfl hc) .nil) (AOp.call' rfl rfl rfl (formed_b _ _ hpA (o : Int) col hop vals A c (slcCells_sub subA hA) hl B m d hm) (fun _ _ _ h => h))) (fun kq hkq => ?_)
    refine aOps_gd0 rfl rfl (wantF rfl rfl rfl) (fun hc => AOp.slots [(19, _)] (.cons (gvT rfl hc) .nil) (AOp.un' rfl rfl rfl ⟨rfl, rfl, rfl⟩)) ?_
    refine aOps_1 rfl rfl rfl (AOp.pickOr rfl rfl rfl (fun hb => gvE rfl (t_not hb)) ?_)
    refine aOps_1 rfl rfl rfl (AOp.move' (.inr rfl) rfl ?_)
    refine aOps_end ?_
    show ACode _ _ _ _ _ _
    refine ACode.cond rfl (fun c1 => ?_) (fun c1 => ?_)
    · try simp only [decide_eq_true_eq, decide_eq_false_iff_not, beq_iff_eq, beq_eq_false_iff_ne, ne_eq, bne_iff_ne, Bool.not_eq_true', Bool.not_eq_false', Int.not_lt, Int.not_le, gt_iff_lt, ge_iff_le, bne_eq_false_iff_eq, Bool.not_eq_eq_eq_not, Bool.not_true, Bool.not_false] at c1
      refine ACode.seq ?_
      refine ACode.region' [0] (by kernel_rfl) rfl ?_
      refine aOps_1 rfl rfl rfl (AOp.move' (.inr rfl) rfl ?_)
      refine aOps_end ?_
      show ACode _ _ _ _ _ _
      refine ACode.ret ?_
      exact RetQ.one rfl rfl subA stays (fun hk => ⟨(by rw [ofValueP, if_neg c0, if_pos c1]), rfl, by omega⟩)
    · try simp only [decide_eq_true_eq, decide_eq_false_iff_not, beq_iff_eq, beq_eq_false_iff_ne, ne_eq, bne_iff_ne, Bool.not_eq_true', Bool.not_eq_false', Int.not_lt, Int.not_le, gt_iff_lt, ge_iff_le, bne_eq_false_iff_eq, Bool.not_eq_eq_eq_not, Bool.not_true, Bool.not_false] at c1
      have hfm : formedP (o : Int) col vals.length m = true := by { cases h : formedP (o : Int) col vals.length m with | true => rfl | false => rw [h] at c1; simp at c1 }
      have hfv := formed_vals hfm ho
      have hv0 : (v.kind == 0) = false := by { cases h : (v.kind == 0) with | false => rfl | true => rw [h] at c1; simp at c1 }
      refine ACode.seq ?_
      refine ACode.region' [0, 1, 2, 3] (by kernel_rfl) rfl ?_
      refine aOps_1 rfl rfl rfl (AOp.fieldAddr' rfl (by decide) rfl ?_)
      refine aOps_1 rfl rfl rfl ?_
      refine AOp.load1 (b := ?b16) (v := ?v16) rfl rfl ?hn16 ?hv16 ?hR16
      (case hn16 => exact hpA)
      (case hv16 => rfl)
      refine aOps_1 rfl rfl rfl (AOp.bin' rfl rfl rfl rfl ?_)
      refine aOps_1 rfl rfl rfl (AOp.move' (.inr rfl) rfl ?_)
      refine aOps_end ?_
      show ACode _ _ _ _ _ _
      refine ACode.cond rfl (fun c2 => ?_) (fun c2 => ?_)
      · try simp only [decide_eq_true_eq, decide_eq_false_iff_not, beq_iff_eq, beq_eq_false_iff_ne, ne_eq, bne_iff_ne, Bool.not_eq_true', Bool.not_eq_false', Int.not_lt, Int.not_le, gt_iff_lt, ge_iff_le, bne_eq_false_iff_eq, Bool.not_eq_eq_eq_not, Bool.not_true, Bool.not_false] at c2
        refine ACode.seq ?_
        refine ACode.region' [0, 1, 2, 3, 4, 5] (by kernel_rfl) rfl ?_
        refine aOps_1 rfl rfl rfl (AOp.fieldAddr' rfl (by decide) rfl ?_)
        refine aOps_1 rfl rfl rfl ?_
        refine AOp.load1 (b := ?b17) (v := ?v17) rfl rfl ?hn17 ?hv17 ?hR17
        (case hn17 => exact hpA)
        (case hv17 => rfl)
        refine aOps_1 rfl rfl rfl (AOp.makeFunc' rfl rfl ?_)
        refine aOps_q rfl rfl rfl (AOp.call' rfl rfl rfl (containsFunc_b _ _ 123 _ #[.pointer (some ⟨k + 1, 0, none⟩)] (fun x => cmpV v x == 0) vals A c (slcCells_sub subA hA) hl (fun x hx H2 k2 hs2 => same_val H2 k2 v x (k + 1) (hs2 _ _ hpA))) (fun _ _ _ h => h)) (fun kq hkq => ?_)
        refine aOps_q rfl rfl rfl (AOp.call' rfl rfl rfl (truth_b _ _ _) (fun _ _ _ h => h)) (fun kq hkq => ?_)
        refine aOps_1 rfl rfl rfl (AOp.move' (.inr rfl) rfl ?_)
        refine aOps_end ?_
        show ACode _ _ _ _ _ _
        refine ACode.ret ?_
        exact RetQ.one rfl rfl subA stays (fun hk => ⟨(by rw [ofValueP, if_neg c0, if_neg (by rw [hv0, hfm]; decide), if_pos c2]), rfl, by omega⟩)
      · try simp only [decide_eq_true_eq, decide_eq_false_iff_not, beq_iff_eq, beq_eq_false_iff_ne, ne_eq, bne_iff_ne, Bool.not_eq_true', Bool.not_eq_false', Int.not_lt, Int.not_le, gt_iff_lt, ge_iff_le, bne_eq_false_iff_eq, Bool.not_eq_eq_eq_not, Bool.not_true, Bool.not_false] at c2
        refine ACode.seq ?_
        refine ACode.region' [0, 1, 2, 3] (by kernel_rfl) rfl ?_
        refine aOps_1 rfl rfl rfl (AOp.fieldAddr' rfl (by decide) rfl ?_)
        refine aOps_1 rfl rfl rfl ?_
        refine AOp.load1 (b := ?b18) (v := ?v18) rfl rfl ?hn18 ?hv18 ?hR18
        (case hn18 => exact hpA)
        (case hv18 => rfl)
        refine aOps_1 rfl rfl rfl (AOp.bin' rfl rfl rfl rfl ?_)
        refine aOps_1 rfl rfl rfl (AOp.move' (.inr rfl) rfl ?_)
        refine aOps_end ?_
        show ACode _ _ _ _ _ _
        refine ACode.cond rfl (fun c3 => ?_) (fun c3 => ?_)
        · try simp only [decide_eq_true_eq, decide_eq_false_iff_not, beq_iff_eq, beq_eq_false_iff_ne, ne_eq, bne_iff_ne, Bool.not_eq_true', Bool.not_eq_false', Int.not_lt, Int.not_le, gt_iff_lt, ge_iff_le, bne_eq_false_iff_eq, Bool.not_eq_eq_eq_not, Bool.not_true, Bool.not_false] at c3
          have o8 : o = 8 := by omega
          have h2 : 2 ≤ vals.length := by { have := hfv.1; rw [o8] at this; exact this }
          refine ACode.seq ?_
          obtain ⟨n9_3, o9_3, s9_3, hq9_3, hp9_3⟩ := slcV hA (show 0 < vals.length by omega)
          obtain ⟨n9_11, o9_11, s9_11, hq9_11, hp9_11⟩ := slcV hA (show 1 < vals.length by omega)
          refine ACode.draw' 18 [(0, 35), (1, 36), (2, 37), (3, 38), (4, 39), (5, 40), (6, 41), (7, 42), (8, 43), (9, 44), (10, 45), (11, 46), (12, 47), (13, 48), (14, 49), (15, 50), (16, 51), (17, 4)] mixed (by kernel_rfl) ?_
          refine Draw.step [(3, none)] rfl (by kernel_rfl) rfl (fun kq hkq => (by refine AOp.loadAll (b := ?b19) (v := vv v) rfl rfl ?hn19 ?hv19 ?hw19 ?hz19 ?hR19; (case hn19 => exact hpA); (case hv19 => rfl); (case hw19 => rfl); (case hz19 => first | rfl | (simp; done)); exact ⟨rfl, rfl, Nat.le_refl _⟩)) ?_
          refine Draw.step [(2, none)] rfl (by kernel_rfl) rfl (fun kq hkq => AOp.fieldAddr' rfl (by decide) rfl ⟨rfl, rfl, Nat.le_refl _⟩) ?_
          refine Draw.step [(36, some 1)] rfl (by kernel_rfl) rfl (fun kq hkq => (by refine AOp.load1 (b := ?b20) (v := ?v20) rfl rfl ?hn20 ?hv20 ?hR20; (case hn20 => exact hpA); (case hv20 => rfl); exact ⟨rfl, rfl, Nat.le_refl _⟩)) ?_
          refine Draw.step [(37, some 2)] rfl (by kernel_rfl) rfl (fun kq hkq => AOp.indexP (aslcAt_sub subA hq9_3) rfl rfl rfl ⟨rfl, rfl, Nat.le_refl _⟩) ?_
          refine Draw.step [(38, some 3)] rfl (by kernel_rfl) rfl (fun kq hkq => AOp.loadPA (v := vv (vals.getD 0 vD)) (hp9_3.sub subA) rfl rfl rfl rfl (by first | rfl | (simp; done)) (by decide) ⟨rfl, rfl, Nat.le_refl _⟩) ?_
          refine Draw.step [(35, some 0), (39, some 4)] rfl (by kernel_rfl) rfl (fun kq hkq => AOp.call' rfl rfl rfl (cmp_val 3 _ _ v (vals.getD 0 vD)) (fun _ _ _ h => h)) ?_
          refine Draw.step [(40, some 5)] rfl (by kernel_rfl) rfl (fun kq hkq => AOp.bin' rfl rfl rfl rfl ⟨rfl, rfl, Nat.le_refl _⟩) ?_
          refine Draw.step [(41, some 6)] rfl (by kernel_rfl) rfl (fun kq hkq => AOp.move' (.inl rfl) rfl ⟨rfl, rfl, Nat.le_refl _⟩) ?_
          refine Draw.gd [(3, none), (42, some 7)] rfl (by kernel_rfl) (wantT rfl rfl rfl) (fun kq hkq hc => AOp.slots [(3, _)] (.cons rfl .nil) ((by refine AOp.loadAll (b := ?b21) (v := vv v) rfl rfl ?hn21 ?hv21 ?hw21 ?hz21 ?hR21; (case hn21 => exact hpA); (case hv21 => rfl); (case hw21 => rfl); (case hz21 => first | rfl | (simp; done)); exact ⟨rfl, rfl, Nat.le_refl _⟩))) ?_
          refine Draw.gd [(2, none), (42, some 7)] rfl (by kernel_rfl) (wantT rfl rfl rfl) (fun kq hkq hc => AOp.slots [(2, _)] (.cons rfl .nil) (AOp.fieldAddr' rfl (by decide) rfl ⟨rfl, rfl, Nat.le_refl _⟩)) ?_
          refine Draw.gd [(44, some 9), (42, some 7)] rfl (by kernel_rfl) (wantT rfl rfl rfl) (fun kq hkq hc => AOp.slots [(44, _)] (.cons (gvT rfl hc) .nil) ((by refine AOp.load1 (b := ?b22) (v := ?v22) rfl rfl ?hn22 ?hv22 ?hR22; (case hn22 => exact hpA); (case hv22 => rfl); exact ⟨rfl, rfl, Nat.le_refl _⟩))) ?_
          refine Draw.gd [(45, some 10), (42, some 7)] rfl (by kernel_rfl) (wantT rfl rfl rfl) (fun kq hkq hc => AOp.slots [(45, _)] (.cons (gvT rfl hc) .nil) (AOp.indexP (aslcAt_sub subA hq9_11) rfl rfl rfl ⟨rfl, rfl, Nat.le_refl _⟩)) ?_
          refine Draw.gd [(46, some 11), (42, some 7)] rfl (by kernel_rfl) (wantT rfl rfl rfl) (fun kq hkq hc => AOp.slots [(46, _)] (.cons (gvT rfl hc) .nil) (AOp.loadPA (v := vv (vals.getD 1 vD)) (hp9_11.sub subA) rfl rfl rfl rfl (by first | rfl | (simp; done)) (by decide) ⟨rfl, rfl, Nat.le_refl _⟩)) ?_
          refine Draw.gd [(43, some 8), (47, some 12), (42, some 7)] rfl (by kernel_rfl) (wantT rfl rfl rfl) (fun kq hkq hc => AOp.slots [(43, _), (47, _)] (.cons (gvT rfl hc) (.cons (gvT rfl hc) .nil)) (AOp.call' rfl rfl rfl (cmp_val 3 _ _ v (vals.getD 1 vD)) (fun _ _ _ h => h))) ?_
          refine Draw.gd [(48, some 13), (42, some 7)] rfl (by kernel_rfl) (wantT rfl rfl rfl) (fun kq hkq hc => AOp.slots [(48, _)] (.cons (gvT rfl hc) .nil) (AOp.bin' rfl rfl rfl rfl ⟨rfl, rfl, Nat.le_refl _⟩)) ?_
          refine Draw.step [(42, some 7), (49, some 14)] rfl (by kernel_rfl) rfl (fun kq hkq => AOp.pickAnd rfl rfl rfl (fun hb => gvE rfl hb) ⟨rfl, rfl, Nat.le_refl _⟩) ?_
          refine Draw.step [(50, some 15)] rfl (by kernel_rfl) rfl (fun kq hkq => AOp.call' rfl rfl rfl (truth_b _ _ _) (fun _ _ _ h => h)) ?_
          refine Draw.step [(51, some 16)] rfl (by kernel_rfl) rfl (fun kq hkq => AOp.move' (.inr rfl) rfl ⟨rfl, rfl, Nat.le_refl _⟩) ?_
          refine Draw.done fun kq hkq => ?_
          show aOps _ _ _ _ [] ⟨_, _, _⟩
          refine aOps_end ?_
          show ACode _ _ _ _ _ _
          refine ACode.ret ?_
          exact RetQ.one rfl rfl subA stays (fun hk => ⟨(by rw [ofValueP, if_neg c0, if_neg (by rw [hv0, hfm]; decide), if_neg c2, if_pos c3]; rfl), rfl, by omega⟩)
        · try simp only [decide_eq_true_eq, decide_eq_false_iff_not, beq_iff_eq, beq_eq_false_iff_ne, ne_eq, bne_iff_ne, Bool.not_eq_true', Bool.not_eq_false', Int.not_lt, Int.not_le, gt_iff_lt, ge_iff_le, bne_eq_false_iff_eq, Bool.not_eq_eq_eq_not, Bool.not_true, Bool.not_false] at c3
          have h1 : 1 ≤ vals.length := by { have h3 := hfv.1; have h4 : ∀ o, o < 9 → 1 ≤ o → o ≠ 7 → o ≠ 8 → (sh o).v = 1 := (by decide); rw [h4 o (by omega) (by omega) (by omega) (by omega)] at h3; exact h3 }
          refine ACode.skip ?_
          show ACode _ _ _ _ _ _
          refine ACode.seq ?_
          obtain ⟨n10_5, o10_5, s10_5, hq10_5, hp10_5⟩ := slcV hA (show 0 < vals.length by omega)
          refine ACode.draw' 10 [(0, 52), (1, 53), (2, 54), (3, 55), (4, 56), (5, 57), (6, 58), (7, 59), (8, 60), (9, 4)] mixed (by kernel_rfl) ?_
          refine Draw.step [(2, none)] rfl (by kernel_rfl) rfl (fun kq hkq => AOp.fieldAddr' rfl (by decide) rfl ⟨rfl, rfl, Nat.le_refl _⟩) ?_
          refine Draw.step [(52, some 0)] rfl (by kernel_rfl) rfl (fun kq hkq => (by refine AOp.load1 (b := ?b23) (v := ?v23) rfl rfl ?hn23 ?hv23 ?hR23; (case hn23 => exact hpA); (case hv23 => rfl); exact ⟨rfl, rfl, Nat.le_refl _⟩)) ?_
          refine Draw.step [(3, none)] rfl (by kernel_rfl) rfl (fun kq hkq => (by refine AOp.loadAll (b := ?b24) (v := vv v) rfl rfl ?hn24 ?hv24 ?hw24 ?hz24 ?hR24; (case hn24 => exact hpA); (case hv24 => rfl); (case hw24 => rfl); (case hz24 => first | rfl | (simp; done)); exact ⟨rfl, rfl, Nat.le_refl _⟩)) ?_
          refine Draw.step [(2, none)] rfl (by kernel_rfl) rfl (fun kq hkq => AOp.fieldAddr' rfl (by decide) rfl ⟨rfl, rfl, Nat.le_refl _⟩) ?_
          refine Draw.step [(55, some 3)] rfl (by kernel_rfl) rfl (fun kq hkq => (by refine AOp.load1 (b := ?b25) (v := ?v25) rfl rfl ?hn25 ?hv25 ?hR25; (case hn25 => exact hpA); (case hv25 => rfl); exact ⟨rfl, rfl, Nat.le_refl _⟩)) ?_
          refine Draw.step [(56, some 4)] rfl (by kernel_rfl) rfl (fun kq hkq => AOp.indexP (aslcAt_sub subA hq10_5) rfl rfl rfl ⟨rfl, rfl, Nat.le_refl _⟩) ?_
          refine Draw.step [(57, some 5)] rfl (by kernel_rfl) rfl (fun kq hkq => AOp.loadPA (v := vv (vals.getD 0 vD)) (hp10_5.sub subA) rfl rfl rfl rfl (by first | rfl | (simp; done)) (by decide) ⟨rfl, rfl, Nat.le_refl _⟩) ?_
          refine Draw.step [(54, some 2), (58, some 6)] rfl (by kernel_rfl) rfl (fun kq hkq => AOp.call' rfl rfl rfl (cmp_val 3 _ _ v (vals.getD 0 vD)) (fun _ _ _ h => h)) ?_
          refine Draw.step [(53, some 1), (59, some 7)] rfl (by kernel_rfl) rfl (fun kq hkq => AOp.call' rfl rfl rfl (compared_b _ _ _ _) (fun _ _ _ h => h)) ?_
          refine Draw.step [(60, some 8)] rfl (by kernel_rfl) rfl (fun kq hkq => AOp.move' (.inr rfl) rfl ⟨rfl, rfl, Nat.le_refl _⟩) ?_
          refine Draw.done fun kq hkq => ?_
          show aOps _ _ _ _ [] ⟨_, _, _⟩
          refine aOps_end ?_
          show ACode _ _ _ _ _ _
          refine ACode.ret ?_
          exact RetQ.one rfl rfl subA stays (fun hk => ⟨(by rw [ofValueP, if_neg c0, if_neg (by rw [hv0, hfm]; decide), if_neg c2, if_neg c3]; rfl), rfl, by omega⟩)
end

end Go.Proofs.YteoofihjmldllaaDoor
