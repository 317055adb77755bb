/- Contracts over the abstract states: the example, how great leaves are, sameness; the statement on a tree's parts. -/
import Derived.Test.YtipaiielkpifoaaDoorS14
set_option linter.unusedVariables false
set_option linter.unusedSimpArgs false
set_option maxRecDepth 100000
namespace Go.Proofs.YtipaiielkpifoaaDoor
open Go Go.Ab

theorem bv_inj' {a b : UInt8} (h : (a.toNat : Int) = (b.toNat : Int)) : a = b := UInt8.toNat_inj.1 (by omega)
section
variable (H : Hp) (k : Nat)

theorem same_b (xs ys : List UInt8) (A B : Option Addr) (c d : Nat) (hx : SLC H 1 A xs.length c (xs.map bv)) (hy : SLC H 1 B ys.length d (ys.map bv)) (hl : xs.length ≤ 9223372036854775807) : ACalls Tryd.prog 1 51 [.slice A xs.length c, .slice B ys.length d] H k (Same H k (.bool (decide (xs = ys)))) := by
  refine ACalls.fresh fun hf => ?_
  refine ACalls.body Tryd.func51 rfl (Nat.le_of_ble_eq_true rfl) ?_
  refine ACode.seq ?_
  refine ACode.region' [0] (by kernel_rfl) rfl ?_
  refine aOps_1 rfl rfl rfl (AOp.move' (.inr rfl) rfl ?_)
  refine aOps_end ?_
  show ACode _ _ _ _ _ _
  refine ACode.seq ?_
  refine ACode.seq ?_
  refine ACode.region' [0, 1, 2, 3, 4] (by kernel_rfl) rfl ?_
  refine aOps_1 rfl rfl rfl (AOp.move' (.inl rfl) rfl ?_)
  refine aOps_1 rfl rfl rfl (AOp.len' rfl rfl ?_)
  refine aOps_1 rfl rfl rfl (AOp.move' (.inl rfl) rfl ?_)
  refine aOps_1 rfl rfl rfl (AOp.len' rfl rfl ?_)
  refine aOps_1 rfl rfl rfl (AOp.bin' rfl rfl rfl rfl ?_)
  refine aOps_end ?_
  show ACode _ _ _ _ _ _
  refine ACode.cond rfl (fun c0 => ?_) (fun c0 => ?_)
  · try simp only [decide_eq_true_eq, decide_eq_false_iff_not, beq_iff_eq, beq_eq_false_iff_ne, ne_eq, bne_iff_ne, Bool.not_eq_true', Bool.not_eq_false', Int.not_lt, Int.not_le, gt_iff_lt, ge_iff_le, bne_eq_false_iff_eq, Bool.not_eq_eq_eq_not, Bool.not_true, Bool.not_false] at c0
    refine ACode.seq ?_
    refine ACode.region' [0] (by kernel_rfl) rfl ?_
    refine aOps_1 rfl rfl rfl (AOp.move' (.inr rfl) rfl ?_)
    refine aOps_end ?_
    show ACode _ _ _ _ _ _
    refine ACode.ret ?_
    exact RetQ.one rfl rfl (by (repeat (first | exact sub_refl _ | assumption | refine sub_upd' ?_ (by ((repeat refine (upd_other _ _ (by omega)).trans ?_); first | exact hf _ (by omega))) | refine sub_over (by assumption) | refine sub_over0 ?_ | refine sub_trans (sub_same (by assumption)) ?_ | refine sub_dropu ?_ | refine sub_drop ?_ | refine sub_put ?_ (by repeat (first | assumption | exact upd_same _ _ _ | refine (upd_other _ _ (by omega)).trans ?_))))) stays (fun hk => ⟨(by rw [decide_eq_false]; intro e; subst e; omega), rfl, by omega⟩)
  · try simp only [decide_eq_true_eq, decide_eq_false_iff_not, beq_iff_eq, beq_eq_false_iff_ne, ne_eq, bne_iff_ne, Bool.not_eq_true', Bool.not_eq_false', Int.not_lt, Int.not_le, gt_iff_lt, ge_iff_le, bne_eq_false_iff_eq, Bool.not_eq_eq_eq_not, Bool.not_true, Bool.not_false] at c0
    refine ACode.skip ?_
    show ACode _ _ _ _ _ _
    refine ACode.seq ?_
    refine ACode.seq ?_
    refine ACode.region' [0] (by kernel_rfl) rfl ?_
    refine aOps_1 rfl rfl rfl (AOp.move' (.inr rfl) rfl ?_)
    refine aOps_end ?_
    show ACode _ _ _ _ _ _
    refine ACode.block ?_
    refine ACode.count0 (fun i => [(5, .int .i64 (i : Int))]) [(0, _), (1, _), (6, _), (7, _), (8, _), (9, _), (10, _)] (xs.length) (fun i => xs.take i = ys.take i) (.cons rfl .nil) (.cons rfl (.cons rfl (.cons rfl (.cons rfl (.cons rfl (.cons rfl (.cons rfl .nil))))))) rfl (fun i0 kL0 HL0 hiL0 hkL0 hsL0 hfL0 hxL0 => ?_)
    show ACode _ _ _ _ _ ⟨_, _, _⟩
    refine ACode.seq ?_
    refine ACode.seq ?_
    refine ACode.region' [0, 1, 2, 3] (by kernel_rfl) rfl ?_
    refine aOps_1 rfl rfl rfl (AOp.move' (.inl rfl) rfl ?_)
    refine aOps_1 rfl rfl rfl (AOp.move' (.inl rfl) rfl ?_)
    refine aOps_1 rfl rfl rfl (AOp.len' rfl rfl ?_)
    refine aOps_1 rfl rfl rfl (AOp.bin' rfl rfl rfl rfl ?_)
    refine aOps_end ?_
    show ACode _ _ _ _ _ _
    refine ACode.cond rfl (fun c1 => ?_) (fun c1 => ?_)
    · try simp only [decide_eq_true_eq, decide_eq_false_iff_not, beq_iff_eq, beq_eq_false_iff_ne, ne_eq, bne_iff_ne, Bool.not_eq_true', Bool.not_eq_false', Int.not_lt, Int.not_le, gt_iff_lt, ge_iff_le, bne_eq_false_iff_eq, Bool.not_eq_eq_eq_not, Bool.not_true, Bool.not_false] at c1
      refine ACode.skip ?_
      show ACode _ _ _ _ _ _
      refine ACode.seq ?_
      refine ACode.block ?_
      refine ACode.seq ?_
      have hlen : xs.length = ys.length := by omega
      obtain ⟨n6_2, o6_2, s6_2, hq6_2, hp6_2⟩ := slcElD bv (i := i0) 0 hx.cells (by omega)
      obtain ⟨n6_6, o6_6, s6_6, hq6_6, hp6_6⟩ := slcElD bv (i := i0) 0 hy.cells (by omega)
      refine ACode.draw' 9 [(0, 17), (1, 18), (2, 19), (3, 20), (4, 21), (5, 22), (6, 23), (7, 24), (8, 25)] mixed (by kernel_rfl) ?_
      refine Draw.step [(0, none)] rfl (by kernel_rfl) rfl (fun kq hkq => AOp.move' (.inl rfl) rfl ⟨rfl, rfl, Nat.le_refl _⟩) ?_
      refine Draw.step [(5, none)] rfl (by kernel_rfl) rfl (fun kq hkq => AOp.move' (.inl rfl) rfl ⟨rfl, rfl, Nat.le_refl _⟩) ?_
      refine Draw.step [(17, some 0), (18, some 1)] rfl (by kernel_rfl) rfl (fun kq hkq => AOp.indexP (aslcAt_sub (by (repeat (first | exact sub_refl _ | assumption | refine sub_upd' ?_ (by ((repeat refine (upd_other _ _ (by omega)).trans ?_); first | exact hf _ (by omega) | exact hfL0 _ (by omega))) | refine sub_trans ?_ hsL0 | refine sub_over (by assumption) | refine sub_over0 ?_ | refine sub_trans (sub_same (by assumption)) ?_ | refine sub_dropu ?_ | refine sub_drop ?_ | refine sub_put ?_ (by repeat (first | assumption | exact upd_same _ _ _ | refine (upd_other _ _ (by omega)).trans ?_ | refine hsL0 _ _ ?_))))) hq6_2) rfl rfl rfl ⟨rfl, rfl, Nat.le_refl _⟩) ?_
      refine Draw.step [(19, some 2)] rfl (by kernel_rfl) rfl (fun kq hkq => AOp.loadP0 (hp6_2.sub (by (repeat (first | exact sub_refl _ | assumption | refine sub_upd' ?_ (by ((repeat refine (upd_other _ _ (by omega)).trans ?_); first | exact hf _ (by omega) | exact hfL0 _ (by omega))) | refine sub_trans ?_ hsL0 | refine sub_over (by assumption) | refine sub_over0 ?_ | refine sub_trans (sub_same (by assumption)) ?_ | refine sub_dropu ?_ | refine sub_drop ?_ | refine sub_put ?_ (by repeat (first | assumption | exact upd_same _ _ _ | refine (upd_other _ _ (by omega)).trans ?_ | refine hsL0 _ _ ?_)))))) rfl rfl rfl ⟨rfl, rfl, Nat.le_refl _⟩) ?_
      refine Draw.step [(1, none)] rfl (by kernel_rfl) rfl (fun kq hkq => AOp.move' (.inl rfl) rfl ⟨rfl, rfl, Nat.le_refl _⟩) ?_
      refine Draw.step [(5, none)] rfl (by kernel_rfl) rfl (fun kq hkq => AOp.move' (.inl rfl) rfl ⟨rfl, rfl, Nat.le_refl _⟩) ?_
      refine Draw.step [(21, some 4), (22, some 5)] rfl (by kernel_rfl) rfl (fun kq hkq => AOp.indexP (aslcAt_sub (by (repeat (first | exact sub_refl _ | assumption | refine sub_upd' ?_ (by ((repeat refine (upd_other _ _ (by omega)).trans ?_); first | exact hf _ (by omega) | exact hfL0 _ (by omega))) | refine sub_trans ?_ hsL0 | refine sub_over (by assumption) | refine sub_over0 ?_ | refine sub_trans (sub_same (by assumption)) ?_ | refine sub_dropu ?_ | refine sub_drop ?_ | refine sub_put ?_ (by repeat (first | assumption | exact upd_same _ _ _ | refine (upd_other _ _ (by omega)).trans ?_ | refine hsL0 _ _ ?_))))) hq6_6) rfl rfl rfl ⟨rfl, rfl, Nat.le_refl _⟩) ?_
      refine Draw.step [(23, some 6)] rfl (by kernel_rfl) rfl (fun kq hkq => AOp.loadP0 (hp6_6.sub (by (repeat (first | exact sub_refl _ | assumption | refine sub_upd' ?_ (by ((repeat refine (upd_other _ _ (by omega)).trans ?_); first | exact hf _ (by omega) | exact hfL0 _ (by omega))) | refine sub_trans ?_ hsL0 | refine sub_over (by assumption) | refine sub_over0 ?_ | refine sub_trans (sub_same (by assumption)) ?_ | refine sub_dropu ?_ | refine sub_drop ?_ | refine sub_put ?_ (by repeat (first | assumption | exact upd_same _ _ _ | refine (upd_other _ _ (by omega)).trans ?_ | refine hsL0 _ _ ?_)))))) rfl rfl rfl ⟨rfl, rfl, Nat.le_refl _⟩) ?_
      refine Draw.step [(20, some 3), (24, some 7)] rfl (by kernel_rfl) rfl (fun kq hkq => AOp.bin' rfl rfl rfl rfl ⟨rfl, rfl, Nat.le_refl _⟩) ?_
      refine Draw.done fun kq hkq => ?_
      show aOps _ _ _ _ [] ⟨_, _, _⟩
      refine aOps_end ?_
      show ACode _ _ _ _ _ _
      refine ACode.cond rfl (fun c2 => ?_) (fun c2 => ?_)
      · try simp only [decide_eq_true_eq, decide_eq_false_iff_not, beq_iff_eq, beq_eq_false_iff_ne, ne_eq, bne_iff_ne, Bool.not_eq_true', Bool.not_eq_false', Int.not_lt, Int.not_le, gt_iff_lt, ge_iff_le, bne_eq_false_iff_eq, Bool.not_eq_eq_eq_not, Bool.not_true, Bool.not_false] at c2
        refine ACode.seq ?_
        refine ACode.region' [0] (by kernel_rfl) rfl ?_
        refine aOps_1 rfl rfl rfl (AOp.move' (.inr rfl) rfl ?_)
        refine aOps_end ?_
        show ACode _ _ _ _ _ _
        refine ACode.ret ?_
        exact RetQ.one rfl rfl (by (repeat (first | exact sub_refl _ | assumption | refine sub_upd' ?_ (by ((repeat refine (upd_other _ _ (by omega)).trans ?_); first | exact hf _ (by omega) | exact hfL0 _ (by omega))) | refine sub_trans ?_ hsL0 | refine sub_over (by assumption) | refine sub_over0 ?_ | refine sub_trans (sub_same (by assumption)) ?_ | refine sub_dropu ?_ | refine sub_drop ?_ | refine sub_put ?_ (by repeat (first | assumption | exact upd_same _ _ _ | refine (upd_other _ _ (by omega)).trans ?_ | refine hsL0 _ _ ?_))))) stays (fun hk => ⟨(by rw [decide_eq_false]; intro e; subst e; exact c2 rfl), rfl, by omega⟩)
      · try simp only [decide_eq_true_eq, decide_eq_false_iff_not, beq_iff_eq, beq_eq_false_iff_ne, ne_eq, bne_iff_ne, Bool.not_eq_true', Bool.not_eq_false', Int.not_lt, Int.not_le, gt_iff_lt, ge_iff_le, bne_eq_false_iff_eq, Bool.not_eq_eq_eq_not, Bool.not_true, Bool.not_false] at c2
        refine ACode.skip ?_
        show ACode _ _ _ _ _ _
        refine ACode.region' [0, 1, 2] (by kernel_rfl) rfl ?_
        refine aOps_1 rfl rfl rfl (AOp.move' (.inl rfl) rfl ?_)
        refine aOps_1 rfl rfl rfl (AOp.add rfl rfl rfl (i64_wrap (by omega) (by omega)) ?_)
        refine aOps_1 rfl rfl rfl (AOp.move' (.inr rfl) rfl ?_)
        refine aOps_end ?_
        first | refine thenA_n ?_ | simp only [thenA, blockA, if_true]
        exact NextR.mk (by omega) (by omega) (.cons rfl .nil) (.cons rfl (.cons rfl (.cons rfl (.cons rfl (.cons rfl (.cons rfl (.cons rfl .nil))))))) (by (repeat (first | exact sub_refl _ | assumption | refine sub_upd' ?_ (by ((repeat refine (upd_other _ _ (by omega)).trans ?_); first | exact hf _ (by omega) | exact hfL0 _ (by omega))) | refine sub_trans ?_ hsL0 | refine sub_over (by assumption) | refine sub_over0 ?_ | refine sub_trans (sub_same (by assumption)) ?_ | refine sub_dropu ?_ | refine sub_drop ?_ | refine sub_put ?_ (by repeat (first | assumption | exact upd_same _ _ _ | refine (upd_other _ _ (by omega)).trans ?_ | refine hsL0 _ _ ?_))))) (by rw [take_el xs 0 (by omega), take_el ys 0 (by omega), hxL0, bv_inj' c2])
    · try simp only [decide_eq_true_eq, decide_eq_false_iff_not, beq_iff_eq, beq_eq_false_iff_ne, ne_eq, bne_iff_ne, Bool.not_eq_true', Bool.not_eq_false', Int.not_lt, Int.not_le, gt_iff_lt, ge_iff_le, bne_eq_false_iff_eq, Bool.not_eq_eq_eq_not, Bool.not_true, Bool.not_false] at c1
      refine ACode.exit ?_
      show ACode _ _ _ _ _ _
      refine ACode.seq ?_
      refine ACode.region' [0] (by kernel_rfl) rfl ?_
      refine aOps_1 rfl rfl rfl (AOp.move' (.inr rfl) rfl ?_)
      refine aOps_end ?_
      show ACode _ _ _ _ _ _
      refine ACode.ret ?_
      exact RetQ.one rfl rfl (by (repeat (first | exact sub_refl _ | assumption | refine sub_upd' ?_ (by ((repeat refine (upd_other _ _ (by omega)).trans ?_); first | exact hf _ (by omega) | exact hfL0 _ (by omega))) | refine sub_trans ?_ hsL0 | refine sub_over (by assumption) | refine sub_over0 ?_ | refine sub_trans (sub_same (by assumption)) ?_ | refine sub_dropu ?_ | refine sub_drop ?_ | refine sub_put ?_ (by repeat (first | assumption | exact upd_same _ _ _ | refine (upd_other _ _ (by omega)).trans ?_ | refine hsL0 _ _ ?_))))) stays (fun hk => ⟨(by rw [decide_eq_true]; have e1 := List.take_of_length_le (l := xs) (i := i0) (by omega); have e2 := List.take_of_length_le (l := ys) (i := i0) (by omega); rw [← e1, ← e2]; exact hxL0), rfl, by omega⟩)
end

end Go.Proofs.YtipaiielkpifoaaDoor
