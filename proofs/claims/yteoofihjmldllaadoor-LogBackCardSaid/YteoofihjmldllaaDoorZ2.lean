/- Contracts over the abstract states: how great a predicate is; the document's form of predicates, and which truths may be. -/
import Derived.Test.YteoofihjmldllaaDoorZS
import Derived.Test.YteoofihjmldllaaDoorZ1
set_option linter.unusedVariables false
set_option linter.unusedSimpArgs false
set_option maxRecDepth 100000
namespace Go.Proofs.YteoofihjmldllaaDoor
open Go Go.Ab

section
variable (H : Hp) (k : Nat)

theorem rcol_b (op : Int) : ACalls Tryd.prog 3 109 [.int .i64 op] H k (Same H k (.bool (colO op))) := by
  refine ACalls.fresh fun hf => ?_
  refine ACalls.body Tryd.func109 rfl (Nat.le_of_ble_eq_true rfl) ?_
  refine ACode.seq ?_
  refine ACode.region' [0] (by kernel_rfl) rfl ?_
  refine aOps_1 rfl rfl rfl (AOp.move' (.inr rfl) rfl ?_)
  refine aOps_end ?_
  show ACode _ _ _ _ _ _
  refine ACode.seq ?_
  refine ACode.region' [0, 1, 2, 3, 4, 5, 6] (by kernel_rfl) rfl ?_
  refine aOps_1 rfl rfl rfl (AOp.move' (.inl rfl) rfl ?_)
  refine aOps_1 rfl rfl rfl (AOp.bin' rfl rfl rfl rfl ?_)
  refine aOps_1 rfl rfl rfl (AOp.move' (.inl rfl) rfl ?_)
  refine aOps_gd0 rfl rfl (wantT rfl rfl rfl) (fun hc => AOp.slots [(0, _)] (.cons rfl .nil) (AOp.move' (.inl rfl) rfl ⟨rfl, rfl, rfl⟩)) ?_
  refine aOps_gd0 rfl rfl (wantT rfl rfl rfl) (fun hc => AOp.slots [(6, _)] (.cons (gvT rfl hc) .nil) (AOp.bin' rfl rfl rfl rfl ⟨rfl, rfl, rfl⟩)) ?_
  refine aOps_1 rfl rfl rfl (AOp.pickAnd rfl rfl rfl (fun hb => gvE rfl hb) ?_)
  refine aOps_1 rfl rfl rfl (AOp.move' (.inr rfl) rfl ?_)
  refine aOps_end ?_
  show ACode _ _ _ _ _ _
  refine ACode.ret ?_
  exact RetQ.one rfl rfl subA stays (fun hk => ⟨rfl, rfl, by omega⟩)

theorem rformed_b (op col : Int) (vals : List Val) (A : Option Addr) (c : Nat) (B : Option Addr) (m d : Nat) (hl : vals.length ≤ 9223372036854775807) (hm : m ≤ 9223372036854775807) : ACalls Tryd.prog 3 108 [pv op col A vals.length c B m d] H k (Same H k (.bool (formedP op col vals.length m))) := by
  refine ACalls.fresh fun hf => ?_
  refine ACalls.body Tryd.func108 rfl (Nat.le_of_ble_eq_true rfl) ?_
  refine ACode.seq ?_
  refine ACode.region' [0, 1] (by kernel_rfl) rfl ?_
  refine aOps_1 rfl rfl rfl (AOp.boxV rfl rfl ?_)
  refine aOps_1 rfl rfl rfl (AOp.move' (.inr rfl) rfl ?_)
  refine aOps_end ?_
  show ACode _ _ _ _ _ _
  refine ACode.seq ?_
  refine ACode.draw' 8 [(0, 5), (1, 6), (2, 7), (3, 8), (4, 9), (5, 10), (6, 3), (7, 4)] mixed (by kernel_rfl) ?_
  refine Draw.step [(1, none)] rfl (by kernel_rfl) rfl (fun kq hkq => AOp.fieldAddr' rfl (by decide) rfl ⟨rfl, rfl, Nat.le_refl _⟩) ?_
  refine Draw.step [(5, some 0)] rfl (by kernel_rfl) rfl (fun kq hkq => (by refine AOp.load1 (b := ?b1) (v := ?v1) rfl rfl ?hn1 ?hv1 ?hR1; (case hn1 => exact hpA); (case hv1 => rfl); exact ⟨rfl, rfl, Nat.le_refl _⟩)) ?_
  refine Draw.step [(6, some 1)] rfl (by kernel_rfl) rfl (fun kq hkq => AOp.len' rfl rfl ⟨rfl, rfl, Nat.le_refl _⟩) ?_
  refine Draw.step [(1, none)] rfl (by kernel_rfl) rfl (fun kq hkq => AOp.fieldAddr' rfl (by decide) rfl ⟨rfl, rfl, Nat.le_refl _⟩) ?_
  refine Draw.step [(8, some 3)] rfl (by kernel_rfl) rfl (fun kq hkq => (by refine AOp.load1 (b := ?b2) (v := ?v2) rfl rfl ?hn2 ?hv2 ?hR2; (case hn2 => exact hpA); (case hv2 => rfl); exact ⟨rfl, rfl, Nat.le_refl _⟩)) ?_
  refine Draw.step [(9, some 4)] rfl (by kernel_rfl) rfl (fun kq hkq => AOp.len' rfl rfl ⟨rfl, rfl, Nat.le_refl _⟩) ?_
  refine Draw.step [(7, some 2)] rfl (by kernel_rfl) rfl (fun kq hkq => AOp.move' (.inr rfl) rfl ⟨rfl, rfl, Nat.le_refl _⟩) ?_
  refine Draw.step [(10, some 5)] rfl (by kernel_rfl) rfl (fun kq hkq => AOp.move' (.inr rfl) rfl ⟨rfl, rfl, Nat.le_refl _⟩) ?_
  refine Draw.done fun kq hkq => ?_
  show aOps _ _ _ _ [] ⟨_, _, _⟩
  refine aOps_end ?_
  show ACode _ _ _ _ _ _
  refine ACode.seq ?_
  refine ACode.seq ?_
  refine ACode.region' [0, 1, 2, 3, 4, 5, 6, 7, 8] (by kernel_rfl) rfl ?_
  refine aOps_1 rfl rfl rfl (AOp.fieldAddr' rfl (by decide) rfl ?_)
  refine aOps_1 rfl rfl rfl ?_
  refine AOp.load1 (b := ?b3) (v := ?v3) rfl rfl ?hn3 ?hv3 ?hR3
  (case hn3 => exact hpA)
  (case hv3 => rfl)
  refine aOps_q rfl rfl rfl (AOp.call' rfl rfl rfl (rcol_b _ _ op) (fun _ _ _ h => h)) (fun kq hkq => ?_)
  refine aOps_1 rfl rfl rfl (AOp.un' rfl rfl rfl ?_)
  refine aOps_1 rfl rfl rfl (AOp.move' (.inl rfl) rfl ?_)
  refine aOps_gd0 rfl rfl (wantT rfl rfl rfl) (fun hc => AOp.slots [(1, _)] (.cons rfl .nil) (AOp.fieldAddr' rfl (by decide) rfl ⟨rfl, rfl, rfl⟩)) ?_
  refine aOps_gd0 rfl rfl (wantT rfl rfl rfl) (fun hc => AOp.slots [(16, _)] (.cons (gvT rfl hc) .nil) ((by refine AOp.load1 (b := ?b4) (v := ?v4) rfl rfl ?hn4 ?hv4 ?hR4; (case hn4 => exact hpA); (case hv4 => rfl); exact ⟨rfl, rfl, rfl⟩))) ?_
  refine aOps_gd0 rfl rfl (wantT rfl rfl rfl) (fun hc => AOp.slots [(17, _)] (.cons (gvT rfl hc) .nil) (AOp.bin' rfl rfl rfl rfl ⟨rfl, rfl, rfl⟩)) ?_
  refine aOps_1 rfl rfl rfl (AOp.pickAnd rfl rfl rfl (fun hb => gvE rfl hb) ?_)
  refine aOps_end ?_
  show ACode _ _ _ _ _ _
  refine ACode.cond rfl (fun c0 => ?_) (fun c0 => ?_)
  · try simp only [decide_eq_true_eq, decide_eq_false_iff_not, beq_iff_eq, beq_eq_false_iff_ne, ne_eq, bne_iff_ne, Bool.not_eq_true', Bool.not_eq_false', Int.not_lt, Int.not_le, gt_iff_lt, ge_iff_le, bne_eq_false_iff_eq, Bool.not_eq_eq_eq_not, Bool.not_true, Bool.not_false] at c0
    refine ACode.seq ?_
    refine ACode.region' [0] (by kernel_rfl) rfl ?_
    refine aOps_1 rfl rfl rfl (AOp.move' (.inr rfl) rfl ?_)
    refine aOps_end ?_
    show ACode _ _ _ _ _ _
    refine ACode.ret ?_
    exact RetQ.one rfl rfl subA stays (fun hk => ⟨(by rw [formed_eq, formR, if_pos c0]), rfl, by omega⟩)
  · try simp only [decide_eq_true_eq, decide_eq_false_iff_not, beq_iff_eq, beq_eq_false_iff_ne, ne_eq, bne_iff_ne, Bool.not_eq_true', Bool.not_eq_false', Int.not_lt, Int.not_le, gt_iff_lt, ge_iff_le, bne_eq_false_iff_eq, Bool.not_eq_eq_eq_not, Bool.not_true, Bool.not_false] at c0
    have hc0 : ¬ (!colO op && (col != 0)) = true := by rw [c0]; decide
    refine ACode.skip ?_
    show ACode _ _ _ _ _ _
    refine ACode.seq ?_
    refine ACode.seq ?_
    refine ACode.region' [0, 1] (by kernel_rfl) rfl ?_
    refine aOps_1 rfl rfl rfl (AOp.fieldAddr' rfl (by decide) rfl ?_)
    refine aOps_1 rfl rfl rfl ?_
    refine AOp.load1 (b := ?b5) (v := ?v5) rfl rfl ?hn5 ?hv5 ?hR5
    (case hn5 => exact hpA)
    (case hv5 => rfl)
    refine aOps_end ?_
    show ACode _ _ _ _ _ _
    refine ACode.block ?_
    refine ACode.seq ?_
    refine ACode.seq ?_
    refine ACode.region' [0, 1] (by kernel_rfl) rfl ?_
    refine aOps_1 rfl rfl rfl (AOp.bin' rfl rfl rfl rfl ?_)
    refine aOps_1 rfl rfl rfl (AOp.move' (.inr rfl) rfl ?_)
    refine aOps_end ?_
    show ACode _ _ _ _ _ _
    refine ACode.cond rfl (fun c1 => ?_) (fun c1 => ?_)
    · try simp only [decide_eq_true_eq, decide_eq_false_iff_not, beq_iff_eq, beq_eq_false_iff_ne, ne_eq, bne_iff_ne, Bool.not_eq_true', Bool.not_eq_false', Int.not_lt, Int.not_le, gt_iff_lt, ge_iff_le, bne_eq_false_iff_eq, Bool.not_eq_eq_eq_not, Bool.not_true, Bool.not_false] at c1
      subst c1
      refine ACode.skip ?_
      show ACode _ _ _ _ _ _
      refine ACode.cond rfl (fun c2 => ?_) (fun c2 => absurd c2 (by decide))
      refine ACode.seq ?_
      refine ACode.region' [0, 1, 2, 3, 4, 5, 6] (by kernel_rfl) rfl ?_
      refine aOps_1 rfl rfl rfl (AOp.move' (.inl rfl) rfl ?_)
      refine aOps_1 rfl rfl rfl (AOp.bin' rfl rfl rfl rfl ?_)
      refine aOps_1 rfl rfl rfl (AOp.move' (.inl rfl) rfl ?_)
      refine aOps_gd0 rfl rfl (wantT rfl rfl rfl) (fun hc => AOp.slots [(4, _)] (.cons rfl .nil) (AOp.move' (.inl rfl) rfl ⟨rfl, rfl, rfl⟩)) ?_
      refine aOps_gd0 rfl rfl (wantT rfl rfl rfl) (fun hc => AOp.slots [(28, _)] (.cons (gvT rfl hc) .nil) (AOp.bin' rfl rfl rfl rfl ⟨rfl, rfl, rfl⟩)) ?_
      refine aOps_1 rfl rfl rfl (AOp.pickAnd rfl rfl rfl (fun hb => gvE rfl hb) ?_)
      refine aOps_1 rfl rfl rfl (AOp.move' (.inr rfl) rfl ?_)
      refine aOps_end ?_
      show ACode _ _ _ _ _ _
      refine ACode.ret ?_
      exact RetQ.one rfl rfl subA stays (fun hk => ⟨(by rw [formed_eq, formR, if_neg hc0]; rfl), rfl, by omega⟩)
    · try simp only [decide_eq_true_eq, decide_eq_false_iff_not, beq_iff_eq, beq_eq_false_iff_ne, ne_eq, bne_iff_ne, Bool.not_eq_true', Bool.not_eq_false', Int.not_lt, Int.not_le, gt_iff_lt, ge_iff_le, bne_eq_false_iff_eq, Bool.not_eq_eq_eq_not, Bool.not_true, Bool.not_false] at c1
      refine ACode.region' [0, 1] (by kernel_rfl) rfl ?_
      refine aOps_1 rfl rfl rfl (AOp.bin' rfl rfl rfl rfl ?_)
      refine aOps_1 rfl rfl rfl (AOp.move' (.inr rfl) rfl ?_)
      refine aOps_end ?_
      show ACode _ _ _ _ _ _
      refine ACode.cond rfl (fun c2 => ?_) (fun c2 => ?_)
      · try simp only [decide_eq_true_eq, decide_eq_false_iff_not, beq_iff_eq, beq_eq_false_iff_ne, ne_eq, bne_iff_ne, Bool.not_eq_true', Bool.not_eq_false', Int.not_lt, Int.not_le, gt_iff_lt, ge_iff_le, bne_eq_false_iff_eq, Bool.not_eq_eq_eq_not, Bool.not_true, Bool.not_false] at c2
        subst c2
        refine ACode.seq ?_
        refine ACode.region' [0, 1, 2, 3, 4, 5, 6] (by kernel_rfl) rfl ?_
        refine aOps_1 rfl rfl rfl (AOp.move' (.inl rfl) rfl ?_)
        refine aOps_1 rfl rfl rfl (AOp.bin' rfl rfl rfl rfl ?_)
        refine aOps_1 rfl rfl rfl (AOp.move' (.inl rfl) rfl ?_)
        refine aOps_gd0 rfl rfl (wantT rfl rfl rfl) (fun hc => AOp.slots [(4, _)] (.cons rfl .nil) (AOp.move' (.inl rfl) rfl ⟨rfl, rfl, rfl⟩)) ?_
        refine aOps_gd0 rfl rfl (wantT rfl rfl rfl) (fun hc => AOp.slots [(28, _)] (.cons (gvT rfl hc) .nil) (AOp.bin' rfl rfl rfl rfl ⟨rfl, rfl, rfl⟩)) ?_
        refine aOps_1 rfl rfl rfl (AOp.pickAnd rfl rfl rfl (fun hb => gvE rfl hb) ?_)
        refine aOps_1 rfl rfl rfl (AOp.move' (.inr rfl) rfl ?_)
        refine aOps_end ?_
        show ACode _ _ _ _ _ _
        refine ACode.ret ?_
        exact RetQ.one rfl rfl subA stays (fun hk => ⟨(by rw [formed_eq, formR, if_neg hc0]; rfl), rfl, by omega⟩)
      · try simp only [decide_eq_true_eq, decide_eq_false_iff_not, beq_iff_eq, beq_eq_false_iff_ne, ne_eq, bne_iff_ne, Bool.not_eq_true', Bool.not_eq_false', Int.not_lt, Int.not_le, gt_iff_lt, ge_iff_le, bne_eq_false_iff_eq, Bool.not_eq_eq_eq_not, Bool.not_true, Bool.not_false] at c2
        refine ACode.seq ?_
        refine ACode.seq ?_
        refine ACode.region' [0, 1] (by kernel_rfl) rfl ?_
        refine aOps_1 rfl rfl rfl (AOp.bin' rfl rfl rfl rfl ?_)
        refine aOps_1 rfl rfl rfl (AOp.move' (.inr rfl) rfl ?_)
        refine aOps_end ?_
        show ACode _ _ _ _ _ _
        refine ACode.cond rfl (fun c3 => ?_) (fun c3 => ?_)
        · try simp only [decide_eq_true_eq, decide_eq_false_iff_not, beq_iff_eq, beq_eq_false_iff_ne, ne_eq, bne_iff_ne, Bool.not_eq_true', Bool.not_eq_false', Int.not_lt, Int.not_le, gt_iff_lt, ge_iff_le, bne_eq_false_iff_eq, Bool.not_eq_eq_eq_not, Bool.not_true, Bool.not_false] at c3
          subst c3
          refine ACode.skip ?_
          show ACode _ _ _ _ _ _
          refine ACode.cond rfl (fun c8 => ?_) (fun c8 => absurd c8 (by decide))
          refine ACode.seq ?_
          refine ACode.region' [0, 1, 2, 3, 4, 5, 6] (by kernel_rfl) rfl ?_
          refine aOps_1 rfl rfl rfl (AOp.move' (.inl rfl) rfl ?_)
          refine aOps_1 rfl rfl rfl (AOp.bin' rfl rfl rfl rfl ?_)
          refine aOps_1 rfl rfl rfl (AOp.move' (.inl rfl) rfl ?_)
          refine aOps_gd0 rfl rfl (wantT rfl rfl rfl) (fun hc => AOp.slots [(4, _)] (.cons rfl .nil) (AOp.move' (.inl rfl) rfl ⟨rfl, rfl, rfl⟩)) ?_
          refine aOps_gd0 rfl rfl (wantT rfl rfl rfl) (fun hc => AOp.slots [(41, _)] (.cons (gvT rfl hc) .nil) (AOp.bin' rfl rfl rfl rfl ⟨rfl, rfl, rfl⟩)) ?_
          refine aOps_1 rfl rfl rfl (AOp.pickAnd rfl rfl rfl (fun hb => gvE rfl hb) ?_)
          refine aOps_1 rfl rfl rfl (AOp.move' (.inr rfl) rfl ?_)
          refine aOps_end ?_
          show ACode _ _ _ _ _ _
          refine ACode.ret ?_
          exact RetQ.one rfl rfl subA stays (fun hk => ⟨(by rw [formed_eq, formR, if_neg hc0]; rfl), rfl, by omega⟩)
        · try simp only [decide_eq_true_eq, decide_eq_false_iff_not, beq_iff_eq, beq_eq_false_iff_ne, ne_eq, bne_iff_ne, Bool.not_eq_true', Bool.not_eq_false', Int.not_lt, Int.not_le, gt_iff_lt, ge_iff_le, bne_eq_false_iff_eq, Bool.not_eq_eq_eq_not, Bool.not_true, Bool.not_false] at c3
          refine ACode.seq ?_
          refine ACode.region' [0, 1] (by kernel_rfl) rfl ?_
          refine aOps_1 rfl rfl rfl (AOp.bin' rfl rfl rfl rfl ?_)
          refine aOps_1 rfl rfl rfl (AOp.move' (.inr rfl) rfl ?_)
          refine aOps_end ?_
          show ACode _ _ _ _ _ _
          refine ACode.cond rfl (fun c4 => ?_) (fun c4 => ?_)
          · try simp only [decide_eq_true_eq, decide_eq_false_iff_not, beq_iff_eq, beq_eq_false_iff_ne, ne_eq, bne_iff_ne, Bool.not_eq_true', Bool.not_eq_false', Int.not_lt, Int.not_le, gt_iff_lt, ge_iff_le, bne_eq_false_iff_eq, Bool.not_eq_eq_eq_not, Bool.not_true, Bool.not_false] at c4
            subst c4
            refine ACode.skip ?_
            show ACode _ _ _ _ _ _
            refine ACode.cond rfl (fun c8 => ?_) (fun c8 => absurd c8 (by decide))
            refine ACode.seq ?_
            refine ACode.region' [0, 1, 2, 3, 4, 5, 6] (by kernel_rfl) rfl ?_
            refine aOps_1 rfl rfl rfl (AOp.move' (.inl rfl) rfl ?_)
            refine aOps_1 rfl rfl rfl (AOp.bin' rfl rfl rfl rfl ?_)
            refine aOps_1 rfl rfl rfl (AOp.move' (.inl rfl) rfl ?_)
            refine aOps_gd0 rfl rfl (wantT rfl rfl rfl) (fun hc => AOp.slots [(4, _)] (.cons rfl .nil) (AOp.move' (.inl rfl) rfl ⟨rfl, rfl, rfl⟩)) ?_
            refine aOps_gd0 rfl rfl (wantT rfl rfl rfl) (fun hc => AOp.slots [(41, _)] (.cons (gvT rfl hc) .nil) (AOp.bin' rfl rfl rfl rfl ⟨rfl, rfl, rfl⟩)) ?_
            refine aOps_1 rfl rfl rfl (AOp.pickAnd rfl rfl rfl (fun hb => gvE rfl hb) ?_)
            refine aOps_1 rfl rfl rfl (AOp.move' (.inr rfl) rfl ?_)
            refine aOps_end ?_
            show ACode _ _ _ _ _ _
            refine ACode.ret ?_
            exact RetQ.one rfl rfl subA stays (fun hk => ⟨(by rw [formed_eq, formR, if_neg hc0]; rfl), rfl, by omega⟩)
          · try simp only [decide_eq_true_eq, decide_eq_false_iff_not, beq_iff_eq, beq_eq_false_iff_ne, ne_eq, bne_iff_ne, Bool.not_eq_true', Bool.not_eq_false', Int.not_lt, Int.not_le, gt_iff_lt, ge_iff_le, bne_eq_false_iff_eq, Bool.not_eq_eq_eq_not, Bool.not_true, Bool.not_false] at c4
            refine ACode.seq ?_
            refine ACode.region' [0, 1] (by kernel_rfl) rfl ?_
            refine aOps_1 rfl rfl rfl (AOp.bin' rfl rfl rfl rfl ?_)
            refine aOps_1 rfl rfl rfl (AOp.move' (.inr rfl) rfl ?_)
            refine aOps_end ?_
            show ACode _ _ _ _ _ _
            refine ACode.cond rfl (fun c5 => ?_) (fun c5 => ?_)
            · try simp only [decide_eq_true_eq, decide_eq_false_iff_not, beq_iff_eq, beq_eq_false_iff_ne, ne_eq, bne_iff_ne, Bool.not_eq_true', Bool.not_eq_false', Int.not_lt, Int.not_le, gt_iff_lt, ge_iff_le, bne_eq_false_iff_eq, Bool.not_eq_eq_eq_not, Bool.not_true, Bool.not_false] at c5
              subst c5
              refine ACode.skip ?_
              show ACode _ _ _ _ _ _
              refine ACode.cond rfl (fun c8 => ?_) (fun c8 => absurd c8 (by decide))
              refine ACode.seq ?_
              refine ACode.region' [0, 1, 2, 3, 4, 5, 6] (by kernel_rfl) rfl ?_
              refine aOps_1 rfl rfl rfl (AOp.move' (.inl rfl) rfl ?_)
              refine aOps_1 rfl rfl rfl (AOp.bin' rfl rfl rfl rfl ?_)
              refine aOps_1 rfl rfl rfl (AOp.move' (.inl rfl) rfl ?_)
              refine aOps_gd0 rfl rfl (wantT rfl rfl rfl) (fun hc => AOp.slots [(4, _)] (.cons rfl .nil) (AOp.move' (.inl rfl) rfl ⟨rfl, rfl, rfl⟩)) ?_
              refine aOps_gd0 rfl rfl (wantT rfl rfl rfl) (fun hc => AOp.slots [(41, _)] (.cons (gvT rfl hc) .nil) (AOp.bin' rfl rfl rfl rfl ⟨rfl, rfl, rfl⟩)) ?_
              refine aOps_1 rfl rfl rfl (AOp.pickAnd rfl rfl rfl (fun hb => gvE rfl hb) ?_)
              refine aOps_1 rfl rfl rfl (AOp.move' (.inr rfl) rfl ?_)
              refine aOps_end ?_
              show ACode _ _ _ _ _ _
              refine ACode.ret ?_
              exact RetQ.one rfl rfl subA stays (fun hk => ⟨(by rw [formed_eq, formR, if_neg hc0]; rfl), rfl, by omega⟩)
            · try simp only [decide_eq_true_eq, decide_eq_false_iff_not, beq_iff_eq, beq_eq_false_iff_ne, ne_eq, bne_iff_ne, Bool.not_eq_true', Bool.not_eq_false', Int.not_lt, Int.not_le, gt_iff_lt, ge_iff_le, bne_eq_false_iff_eq, Bool.not_eq_eq_eq_not, Bool.not_true, Bool.not_false] at c5
              refine ACode.seq ?_
              refine ACode.region' [0, 1] (by kernel_rfl) rfl ?_
              refine aOps_1 rfl rfl rfl (AOp.bin' rfl rfl rfl rfl ?_)
              refine aOps_1 rfl rfl rfl (AOp.move' (.inr rfl) rfl ?_)
              refine aOps_end ?_
              show ACode _ _ _ _ _ _
              refine ACode.cond rfl (fun c6 => ?_) (fun c6 => ?_)
              · try simp only [decide_eq_true_eq, decide_eq_false_iff_not, beq_iff_eq, beq_eq_false_iff_ne, ne_eq, bne_iff_ne, Bool.not_eq_true', Bool.not_eq_false', Int.not_lt, Int.not_le, gt_iff_lt, ge_iff_le, bne_eq_false_iff_eq, Bool.not_eq_eq_eq_not, Bool.not_true, Bool.not_false] at c6
                subst c6
                refine ACode.skip ?_
                show ACode _ _ _ _ _ _
                refine ACode.cond rfl (fun c8 => ?_) (fun c8 => absurd c8 (by decide))
                refine ACode.seq ?_
                refine ACode.region' [0, 1, 2, 3, 4, 5, 6] (by kernel_rfl) rfl ?_
                refine aOps_1 rfl rfl rfl (AOp.move' (.inl rfl) rfl ?_)
                refine aOps_1 rfl rfl rfl (AOp.bin' rfl rfl rfl rfl ?_)
                refine aOps_1 rfl rfl rfl (AOp.move' (.inl rfl) rfl ?_)
                refine aOps_gd0 rfl rfl (wantT rfl rfl rfl) (fun hc => AOp.slots [(4, _)] (.cons rfl .nil) (AOp.move' (.inl rfl) rfl ⟨rfl, rfl, rfl⟩)) ?_
                refine aOps_gd0 rfl rfl (wantT rfl rfl rfl) (fun hc => AOp.slots [(41, _)] (.cons (gvT rfl hc) .nil) (AOp.bin' rfl rfl rfl rfl ⟨rfl, rfl, rfl⟩)) ?_
                refine aOps_1 rfl rfl rfl (AOp.pickAnd rfl rfl rfl (fun hb => gvE rfl hb) ?_)
                refine aOps_1 rfl rfl rfl (AOp.move' (.inr rfl) rfl ?_)
                refine aOps_end ?_
                show ACode _ _ _ _ _ _
                refine ACode.ret ?_
                exact RetQ.one rfl rfl subA stays (fun hk => ⟨(by rw [formed_eq, formR, if_neg hc0]; rfl), rfl, by omega⟩)
              · try simp only [decide_eq_true_eq, decide_eq_false_iff_not, beq_iff_eq, beq_eq_false_iff_ne, ne_eq, bne_iff_ne, Bool.not_eq_true', Bool.not_eq_false', Int.not_lt, Int.not_le, gt_iff_lt, ge_iff_le, bne_eq_false_iff_eq, Bool.not_eq_eq_eq_not, Bool.not_true, Bool.not_false] at c6
                refine ACode.seq ?_
                refine ACode.region' [0, 1] (by kernel_rfl) rfl ?_
                refine aOps_1 rfl rfl rfl (AOp.bin' rfl rfl rfl rfl ?_)
                refine aOps_1 rfl rfl rfl (AOp.move' (.inr rfl) rfl ?_)
                refine aOps_end ?_
                show ACode _ _ _ _ _ _
                refine ACode.cond rfl (fun c7 => ?_) (fun c7 => ?_)
                · try simp only [decide_eq_true_eq, decide_eq_false_iff_not, beq_iff_eq, beq_eq_false_iff_ne, ne_eq, bne_iff_ne, Bool.not_eq_true', Bool.not_eq_false', Int.not_lt, Int.not_le, gt_iff_lt, ge_iff_le, bne_eq_false_iff_eq, Bool.not_eq_eq_eq_not, Bool.not_true, Bool.not_false] at c7
                  subst c7
                  refine ACode.skip ?_
                  show ACode _ _ _ _ _ _
                  refine ACode.cond rfl (fun c8 => ?_) (fun c8 => absurd c8 (by decide))
                  refine ACode.seq ?_
                  refine ACode.region' [0, 1, 2, 3, 4, 5, 6] (by kernel_rfl) rfl ?_
                  refine aOps_1 rfl rfl rfl (AOp.move' (.inl rfl) rfl ?_)
                  refine aOps_1 rfl rfl rfl (AOp.bin' rfl rfl rfl rfl ?_)
                  refine aOps_1 rfl rfl rfl (AOp.move' (.inl rfl) rfl ?_)
                  refine aOps_gd0 rfl rfl (wantT rfl rfl rfl) (fun hc => AOp.slots [(4, _)] (.cons rfl .nil) (AOp.move' (.inl rfl) rfl ⟨rfl, rfl, rfl⟩)) ?_
                  refine aOps_gd0 rfl rfl (wantT rfl rfl rfl) (fun hc => AOp.slots [(41, _)] (.cons (gvT rfl hc) .nil) (AOp.bin' rfl rfl rfl rfl ⟨rfl, rfl, rfl⟩)) ?_
                  refine aOps_1 rfl rfl rfl (AOp.pickAnd rfl rfl rfl (fun hb => gvE rfl hb) ?_)
                  refine aOps_1 rfl rfl rfl (AOp.move' (.inr rfl) rfl ?_)
                  refine aOps_end ?_
                  show ACode _ _ _ _ _ _
                  refine ACode.ret ?_
                  exact RetQ.one rfl rfl subA stays (fun hk => ⟨(by rw [formed_eq, formR, if_neg hc0]; rfl), rfl, by omega⟩)
                · try simp only [decide_eq_true_eq, decide_eq_false_iff_not, beq_iff_eq, beq_eq_false_iff_ne, ne_eq, bne_iff_ne, Bool.not_eq_true', Bool.not_eq_false', Int.not_lt, Int.not_le, gt_iff_lt, ge_iff_le, bne_eq_false_iff_eq, Bool.not_eq_eq_eq_not, Bool.not_true, Bool.not_false] at c7
                  refine ACode.region' [0, 1] (by kernel_rfl) rfl ?_
                  refine aOps_1 rfl rfl rfl (AOp.bin' rfl rfl rfl rfl ?_)
                  refine aOps_1 rfl rfl rfl (AOp.move' (.inr rfl) rfl ?_)
                  refine aOps_end ?_
                  show ACode _ _ _ _ _ _
                  refine ACode.cond rfl (fun c8 => ?_) (fun c8 => ?_)
                  · try simp only [decide_eq_true_eq, decide_eq_false_iff_not, beq_iff_eq, beq_eq_false_iff_ne, ne_eq, bne_iff_ne, Bool.not_eq_true', Bool.not_eq_false', Int.not_lt, Int.not_le, gt_iff_lt, ge_iff_le, bne_eq_false_iff_eq, Bool.not_eq_eq_eq_not, Bool.not_true, Bool.not_false] at c8
                    subst c8
                    refine ACode.seq ?_
                    refine ACode.region' [0, 1, 2, 3, 4, 5, 6] (by kernel_rfl) rfl ?_
                    refine aOps_1 rfl rfl rfl (AOp.move' (.inl rfl) rfl ?_)
                    refine aOps_1 rfl rfl rfl (AOp.bin' rfl rfl rfl rfl ?_)
                    refine aOps_1 rfl rfl rfl (AOp.move' (.inl rfl) rfl ?_)
                    refine aOps_gd0 rfl rfl (wantT rfl rfl rfl) (fun hc => AOp.slots [(4, _)] (.cons rfl .nil) (AOp.move' (.inl rfl) rfl ⟨rfl, rfl, rfl⟩)) ?_
                    refine aOps_gd0 rfl rfl (wantT rfl rfl rfl) (fun hc => AOp.slots [(41, _)] (.cons (gvT rfl hc) .nil) (AOp.bin' rfl rfl rfl rfl ⟨rfl, rfl, rfl⟩)) ?_
                    refine aOps_1 rfl rfl rfl (AOp.pickAnd rfl rfl rfl (fun hb => gvE rfl hb) ?_)
                    refine aOps_1 rfl rfl rfl (AOp.move' (.inr rfl) rfl ?_)
                    refine aOps_end ?_
                    show ACode _ _ _ _ _ _
                    refine ACode.ret ?_
                    exact RetQ.one rfl rfl subA stays (fun hk => ⟨(by rw [formed_eq, formR, if_neg hc0]; rfl), rfl, by omega⟩)
                  · try simp only [decide_eq_true_eq, decide_eq_false_iff_not, beq_iff_eq, beq_eq_false_iff_ne, ne_eq, bne_iff_ne, Bool.not_eq_true', Bool.not_eq_false', Int.not_lt, Int.not_le, gt_iff_lt, ge_iff_le, bne_eq_false_iff_eq, Bool.not_eq_eq_eq_not, Bool.not_true, Bool.not_false] at c8
                    refine ACode.seq ?_
                    refine ACode.region' [0, 1] (by kernel_rfl) rfl ?_
                    refine aOps_1 rfl rfl rfl (AOp.bin' rfl rfl rfl rfl ?_)
                    refine aOps_1 rfl rfl rfl (AOp.move' (.inr rfl) rfl ?_)
                    refine aOps_end ?_
                    show ACode _ _ _ _ _ _
                    refine ACode.cond rfl (fun c9 => ?_) (fun c9 => ?_)
                    · try simp only [decide_eq_true_eq, decide_eq_false_iff_not, beq_iff_eq, beq_eq_false_iff_ne, ne_eq, bne_iff_ne, Bool.not_eq_true', Bool.not_eq_false', Int.not_lt, Int.not_le, gt_iff_lt, ge_iff_le, bne_eq_false_iff_eq, Bool.not_eq_eq_eq_not, Bool.not_true, Bool.not_false] at c9
                      subst c9
                      refine ACode.seq ?_
                      refine ACode.region' [0, 1, 2, 3, 4, 5, 6] (by kernel_rfl) rfl ?_
                      refine aOps_1 rfl rfl rfl (AOp.move' (.inl rfl) rfl ?_)
                      refine aOps_1 rfl rfl rfl (AOp.bin' rfl rfl rfl rfl ?_)
                      refine aOps_1 rfl rfl rfl (AOp.move' (.inl rfl) rfl ?_)
                      refine aOps_gd0 rfl rfl (wantT rfl rfl rfl) (fun hc => AOp.slots [(4, _)] (.cons rfl .nil) (AOp.move' (.inl rfl) rfl ⟨rfl, rfl, rfl⟩)) ?_
                      refine aOps_gd0 rfl rfl (wantT rfl rfl rfl) (fun hc => AOp.slots [(49, _)] (.cons (gvT rfl hc) .nil) (AOp.bin' rfl rfl rfl rfl ⟨rfl, rfl, rfl⟩)) ?_
                      refine aOps_1 rfl rfl rfl (AOp.pickAnd rfl rfl rfl (fun hb => gvE rfl hb) ?_)
                      refine aOps_1 rfl rfl rfl (AOp.move' (.inr rfl) rfl ?_)
                      refine aOps_end ?_
                      show ACode _ _ _ _ _ _
                      refine ACode.ret ?_
                      exact RetQ.one rfl rfl subA stays (fun hk => ⟨(by rw [formed_eq, formR, if_neg hc0]; rfl), rfl, by omega⟩)
                    · try simp only [decide_eq_true_eq, decide_eq_false_iff_not, beq_iff_eq, beq_eq_false_iff_ne, ne_eq, bne_iff_ne, Bool.not_eq_true', Bool.not_eq_false', Int.not_lt, Int.not_le, gt_iff_lt, ge_iff_le, bne_eq_false_iff_eq, Bool.not_eq_eq_eq_not, Bool.not_true, Bool.not_false] at c9
                      refine ACode.seq ?_
                      refine ACode.region' [0, 1] (by kernel_rfl) rfl ?_
                      refine aOps_1 rfl rfl rfl (AOp.bin' rfl rfl rfl rfl ?_)
                      refine aOps_1 rfl rfl rfl (AOp.move' (.inr rfl) rfl ?_)
                      refine aOps_end ?_
                      show ACode _ _ _ _ _ _
                      refine ACode.cond rfl (fun c10 => ?_) (fun c10 => ?_)
                      · try simp only [decide_eq_true_eq, decide_eq_false_iff_not, beq_iff_eq, beq_eq_false_iff_ne, ne_eq, bne_iff_ne, Bool.not_eq_true', Bool.not_eq_false', Int.not_lt, Int.not_le, gt_iff_lt, ge_iff_le, bne_eq_false_iff_eq, Bool.not_eq_eq_eq_not, Bool.not_true, Bool.not_false] at c10
                        subst c10
                        refine ACode.seq ?_
                        refine ACode.region' [0, 1, 2, 3, 4, 5, 6] (by kernel_rfl) rfl ?_
                        refine aOps_1 rfl rfl rfl (AOp.move' (.inl rfl) rfl ?_)
                        refine aOps_1 rfl rfl rfl (AOp.bin' rfl rfl rfl rfl ?_)
                        refine aOps_1 rfl rfl rfl (AOp.move' (.inl rfl) rfl ?_)
                        refine aOps_gd0 rfl rfl (wantT rfl rfl rfl) (fun hc => AOp.slots [(4, _)] (.cons rfl .nil) (AOp.move' (.inl rfl) rfl ⟨rfl, rfl, rfl⟩)) ?_
                        refine aOps_gd0 rfl rfl (wantT rfl rfl rfl) (fun hc => AOp.slots [(57, _)] (.cons (gvT rfl hc) .nil) (AOp.bin' rfl rfl rfl rfl ⟨rfl, rfl, rfl⟩)) ?_
                        refine aOps_1 rfl rfl rfl (AOp.pickAnd rfl rfl rfl (fun hb => gvE rfl hb) ?_)
                        refine aOps_1 rfl rfl rfl (AOp.move' (.inr rfl) rfl ?_)
                        refine aOps_end ?_
                        show ACode _ _ _ _ _ _
                        refine ACode.ret ?_
                        exact RetQ.one rfl rfl subA stays (fun hk => ⟨(by rw [formed_eq, formR, if_neg hc0]; rfl), rfl, by omega⟩)
                      · try simp only [decide_eq_true_eq, decide_eq_false_iff_not, beq_iff_eq, beq_eq_false_iff_ne, ne_eq, bne_iff_ne, Bool.not_eq_true', Bool.not_eq_false', Int.not_lt, Int.not_le, gt_iff_lt, ge_iff_le, bne_eq_false_iff_eq, Bool.not_eq_eq_eq_not, Bool.not_true, Bool.not_false] at c10
                        refine ACode.seq ?_
                        refine ACode.seq ?_
                        refine ACode.region' [0, 1] (by kernel_rfl) rfl ?_
                        refine aOps_1 rfl rfl rfl (AOp.bin' rfl rfl rfl rfl ?_)
                        refine aOps_1 rfl rfl rfl (AOp.move' (.inr rfl) rfl ?_)
                        refine aOps_end ?_
                        show ACode _ _ _ _ _ _
                        refine ACode.cond rfl (fun c11 => ?_) (fun c11 => ?_)
                        · try simp only [decide_eq_true_eq, decide_eq_false_iff_not, beq_iff_eq, beq_eq_false_iff_ne, ne_eq, bne_iff_ne, Bool.not_eq_true', Bool.not_eq_false', Int.not_lt, Int.not_le, gt_iff_lt, ge_iff_le, bne_eq_false_iff_eq, Bool.not_eq_eq_eq_not, Bool.not_true, Bool.not_false] at c11
                          subst c11
                          refine ACode.skip ?_
                          show ACode _ _ _ _ _ _
                          refine ACode.cond rfl (fun c12 => ?_) (fun c12 => absurd c12 (by decide))
                          refine ACode.seq ?_
                          refine ACode.region' [0, 1, 2, 3, 4, 5, 6, 7, 8, 9, 10] (by kernel_rfl) rfl ?_
                          refine aOps_1 rfl rfl rfl (AOp.move' (.inl rfl) rfl ?_)
                          refine aOps_1 rfl rfl rfl (AOp.bin' rfl rfl rfl rfl ?_)
                          refine aOps_1 rfl rfl rfl (AOp.move' (.inl rfl) rfl ?_)
                          refine aOps_gd0 rfl rfl (wantT rfl rfl rfl) (fun hc => AOp.slots [(4, _)] (.cons rfl .nil) (AOp.move' (.inl rfl) rfl ⟨rfl, rfl, rfl⟩)) ?_
                          refine aOps_gd0 rfl rfl (wantT rfl rfl rfl) (fun hc => AOp.slots [(66, _)] (.cons (gvT rfl hc) .nil) (AOp.bin' rfl rfl rfl rfl ⟨rfl, rfl, rfl⟩)) ?_
                          refine aOps_1 rfl rfl rfl (AOp.pickAnd rfl rfl rfl (fun hb => gvE rfl hb) ?_)
                          refine aOps_1 rfl rfl rfl (AOp.move' (.inl rfl) rfl ?_)
                          refine aOps_gd0 rfl rfl (wantT rfl rfl rfl) (fun hc => AOp.slots [(4, _)] (.cons rfl .nil) (AOp.move' (.inl rfl) rfl ⟨rfl, rfl, rfl⟩)) ?_
                          refine aOps_gd0 rfl rfl (wantT rfl rfl rfl) (fun hc => AOp.slots [(70, _)] (.cons (gvT rfl hc) .nil) (AOp.bin' rfl rfl rfl rfl ⟨rfl, rfl, rfl⟩)) ?_
                          refine aOps_1 rfl rfl rfl (AOp.pickAnd rfl rfl rfl (fun hb => gvE rfl hb) ?_)
                          refine aOps_1 rfl rfl rfl (AOp.move' (.inr rfl) rfl ?_)
                          refine aOps_end ?_
                          show ACode _ _ _ _ _ _
                          refine ACode.ret ?_
                          exact RetQ.one rfl rfl subA stays (fun hk => ⟨(by rw [formed_eq, formR, if_neg hc0]; rfl), rfl, by omega⟩)
                        · try simp only [decide_eq_true_eq, decide_eq_false_iff_not, beq_iff_eq, beq_eq_false_iff_ne, ne_eq, bne_iff_ne, Bool.not_eq_true', Bool.not_eq_false', Int.not_lt, Int.not_le, gt_iff_lt, ge_iff_le, bne_eq_false_iff_eq, Bool.not_eq_eq_eq_not, Bool.not_true, Bool.not_false] at c11
                          refine ACode.region' [0, 1] (by kernel_rfl) rfl ?_
                          refine aOps_1 rfl rfl rfl (AOp.bin' rfl rfl rfl rfl ?_)
                          refine aOps_1 rfl rfl rfl (AOp.move' (.inr rfl) rfl ?_)
                          refine aOps_end ?_
                          show ACode _ _ _ _ _ _
                          refine ACode.cond rfl (fun c12 => ?_) (fun c12 => ?_)
                          · try simp only [decide_eq_true_eq, decide_eq_false_iff_not, beq_iff_eq, beq_eq_false_iff_ne, ne_eq, bne_iff_ne, Bool.not_eq_true', Bool.not_eq_false', Int.not_lt, Int.not_le, gt_iff_lt, ge_iff_le, bne_eq_false_iff_eq, Bool.not_eq_eq_eq_not, Bool.not_true, Bool.not_false] at c12
                            subst c12
                            refine ACode.seq ?_
                            refine ACode.region' [0, 1, 2, 3, 4, 5, 6, 7, 8, 9, 10] (by kernel_rfl) rfl ?_
                            refine aOps_1 rfl rfl rfl (AOp.move' (.inl rfl) rfl ?_)
                            refine aOps_1 rfl rfl rfl (AOp.bin' rfl rfl rfl rfl ?_)
                            refine aOps_1 rfl rfl rfl (AOp.move' (.inl rfl) rfl ?_)
                            refine aOps_gd0 rfl rfl (wantT rfl rfl rfl) (fun hc => AOp.slots [(4, _)] (.cons rfl .nil) (AOp.move' (.inl rfl) rfl ⟨rfl, rfl, rfl⟩)) ?_
                            refine aOps_gd0 rfl rfl (wantT rfl rfl rfl) (fun hc => AOp.slots [(66, _)] (.cons (gvT rfl hc) .nil) (AOp.bin' rfl rfl rfl rfl ⟨rfl, rfl, rfl⟩)) ?_
                            refine aOps_1 rfl rfl rfl (AOp.pickAnd rfl rfl rfl (fun hb => gvE rfl hb) ?_)
                            refine aOps_1 rfl rfl rfl (AOp.move' (.inl rfl) rfl ?_)
                            refine aOps_gd0 rfl rfl (wantT rfl rfl rfl) (fun hc => AOp.slots [(4, _)] (.cons rfl .nil) (AOp.move' (.inl rfl) rfl ⟨rfl, rfl, rfl⟩)) ?_
                            refine aOps_gd0 rfl rfl (wantT rfl rfl rfl) (fun hc => AOp.slots [(70, _)] (.cons (gvT rfl hc) .nil) (AOp.bin' rfl rfl rfl rfl ⟨rfl, rfl, rfl⟩)) ?_
                            refine aOps_1 rfl rfl rfl (AOp.pickAnd rfl rfl rfl (fun hb => gvE rfl hb) ?_)
                            refine aOps_1 rfl rfl rfl (AOp.move' (.inr rfl) rfl ?_)
                            refine aOps_end ?_
                            show ACode _ _ _ _ _ _
                            refine ACode.ret ?_
                            exact RetQ.one rfl rfl subA stays (fun hk => ⟨(by rw [formed_eq, formR, if_neg hc0]; rfl), rfl, by omega⟩)
                          · try simp only [decide_eq_true_eq, decide_eq_false_iff_not, beq_iff_eq, beq_eq_false_iff_ne, ne_eq, bne_iff_ne, Bool.not_eq_true', Bool.not_eq_false', Int.not_lt, Int.not_le, gt_iff_lt, ge_iff_le, bne_eq_false_iff_eq, Bool.not_eq_eq_eq_not, Bool.not_true, Bool.not_false] at c12
                            refine ACode.seq ?_
                            refine ACode.region' [0, 1] (by kernel_rfl) rfl ?_
                            refine aOps_1 rfl rfl rfl (AOp.bin' rfl rfl rfl rfl ?_)
                            refine aOps_1 rfl rfl rfl (AOp.move' (.inr rfl) rfl ?_)
                            refine aOps_end ?_
                            show ACode _ _ _ _ _ _
                            refine ACode.cond rfl (fun c13 => ?_) (fun c13 => ?_)
                            · try simp only [decide_eq_true_eq, decide_eq_false_iff_not, beq_iff_eq, beq_eq_false_iff_ne, ne_eq, bne_iff_ne, Bool.not_eq_true', Bool.not_eq_false', Int.not_lt, Int.not_le, gt_iff_lt, ge_iff_le, bne_eq_false_iff_eq, Bool.not_eq_eq_eq_not, Bool.not_true, Bool.not_false] at c13
                              subst c13
                              refine ACode.seq ?_
                              refine ACode.region' [0, 1, 2, 3, 4, 5, 6] (by kernel_rfl) rfl ?_
                              refine aOps_1 rfl rfl rfl (AOp.move' (.inl rfl) rfl ?_)
                              refine aOps_1 rfl rfl rfl (AOp.bin' rfl rfl rfl rfl ?_)
                              refine aOps_1 rfl rfl rfl (AOp.move' (.inl rfl) rfl ?_)
                              refine aOps_gd0 rfl rfl (wantT rfl rfl rfl) (fun hc => AOp.slots [(4, _)] (.cons rfl .nil) (AOp.move' (.inl rfl) rfl ⟨rfl, rfl, rfl⟩)) ?_
                              refine aOps_gd0 rfl rfl (wantT rfl rfl rfl) (fun hc => AOp.slots [(78, _)] (.cons (gvT rfl hc) .nil) (AOp.bin' rfl rfl rfl rfl ⟨rfl, rfl, rfl⟩)) ?_
                              refine aOps_1 rfl rfl rfl (AOp.pickAnd rfl rfl rfl (fun hb => gvE rfl hb) ?_)
                              refine aOps_1 rfl rfl rfl (AOp.move' (.inr rfl) rfl ?_)
                              refine aOps_end ?_
                              show ACode _ _ _ _ _ _
                              refine ACode.ret ?_
                              exact RetQ.one rfl rfl subA stays (fun hk => ⟨(by rw [formed_eq, formR, if_neg hc0]; rfl), rfl, by omega⟩)
                            · try simp only [decide_eq_true_eq, decide_eq_false_iff_not, beq_iff_eq, beq_eq_false_iff_ne, ne_eq, bne_iff_ne, Bool.not_eq_true', Bool.not_eq_false', Int.not_lt, Int.not_le, gt_iff_lt, ge_iff_le, bne_eq_false_iff_eq, Bool.not_eq_eq_eq_not, Bool.not_true, Bool.not_false] at c13
                              refine ACode.skip ?_
                              show ACode _ _ _ _ _ _
                              refine ACode.seq ?_
                              refine ACode.region' [0] (by kernel_rfl) rfl ?_
                              refine aOps_1 rfl rfl rfl (AOp.move' (.inr rfl) rfl ?_)
                              refine aOps_end ?_
                              show ACode _ _ _ _ _ _
                              refine ACode.ret ?_
                              exact RetQ.one rfl rfl subA stays (fun hk => ⟨(by rw [formed_eq, formR, if_neg hc0, if_neg (by omega), if_neg (by omega), if_neg (by omega), if_neg (by omega), if_neg (by omega), if_neg (by omega)]), rfl, by omega⟩)

end

end Go.Proofs.YteoofihjmldllaaDoor
