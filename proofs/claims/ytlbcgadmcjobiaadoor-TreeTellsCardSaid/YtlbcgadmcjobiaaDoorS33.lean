/- Contracts over the abstract states: the texts that are digested for a root; whether texts clash. -/
import Derived.Test.YtlbcgadmcjobiaaDoorS15
import Derived.Test.YtlbcgadmcjobiaaDoorS32
import Derived.Test.YtlbcgadmcjobiaaDoorF1
set_option linter.unusedVariables false
set_option linter.unusedSimpArgs false
set_option maxRecDepth 100000
namespace Go.Proofs.YtlbcgadmcjobiaaDoor
open Go Go.Ab

section
variable (H : Hp) (k : Nat)
theorem resH_of {H' : Hp} {k q n : Nat} {b : Blk} (hn : H' n = some b) (h1 : k ≤ n) (h2 : n ≠ q) : resH H' k q n = some b := by
  unfold resH
  rw [if_pos ⟨h1, h2⟩]
  exact hn
theorem resH_into {H1 H2 : Hp} {k k2 q q2 : Nat} (h : ∀ n b, k ≤ n → n ≠ q → H1 n = some b → H2 n = some b) (hk : k2 ≤ k) (hq : ∀ n b, k ≤ n → n ≠ q → H1 n = some b → n ≠ q2) : Ab.Sub (resH H1 k q) (resH H2 k2 q2) := fun n b hb => by
  unfold resH at hb
  split at hb
  · rename_i hc
    exact resH_of (h n b hc.1 hc.2 hb) (Nat.le_trans hk hc.1) (hq n b hc.1 hc.2 hb)
  · cases hb
theorem stays_sub {A B : Hp} (h : Ab.Sub A B) : ∀ n b, A n = some b → ∃ b', B n = some b' := fun n b hn => ⟨b, h n b hn⟩
theorem Lvs.one {H : Hp} {vs : List Value} {ls : List (List UInt8)} (h : Lvs H vs ls) : ∀ u ∈ vs, u.oneCell' = true := fun u hu => by
  obtain ⟨i, hi, rfl⟩ := List.getElem_of_mem hu
  obtain ⟨A, c, h1, _⟩ := h.at_ i (by rw [← h.len]; exact hi)
  rw [getD_el hi] at h1
  rw [h1]
  rfl
theorem textsT_len2 : ∀ (N : Nat) (l : List (List UInt8)), l.length < N → 1 ≤ l.length → (textsT l).length ≤ 2 * l.length - 1
  | 0, l, h, _ => by omega
  | N + 1, l, h, h1 => by
    by_cases h2 : 2 ≤ l.length
    · obtain ⟨s1, s2, s3⟩ := spN_spec h2
      have e1 := textsT_len2 N (l.take (spN l.length)) (by rw [List.length_take]; omega) (by rw [List.length_take]; omega)
      have e2 := textsT_len2 N (l.drop (spN l.length)) (by rw [List.length_drop]; omega) (by rw [List.length_drop]; omega)
      rw [List.length_take] at e1
      rw [List.length_drop] at e2
      rw [textsT_two h2, List.length_append, List.length_append]
      simp only [List.length_cons, List.length_nil]
      omega
    · match l, h1, h2 with
      | [x], _, _ => rw [textsT_one]; simp
      | x :: y :: r, _, h2 => exact absurd (by simp) h2
theorem textsT_len (l : List (List UInt8)) : (textsT l).length ≤ 2 * l.length + 1 := by
  by_cases h : 1 ≤ l.length
  · have := textsT_len2 (l.length + 1) l (by omega) h
    omega
  · have : l = [] := List.length_eq_zero_iff.1 (by omega)
    rw [this, textsT_nil]
    simp

theorem ofLeaf_b (b : List UInt8) (A : Option Addr) (c : Nat) (hs : SLC H 1 A b.length c (b.map bv)) (hl : b.length ≤ 549755813000) : ACalls Tryd.prog 1 54 [.slice A b.length c] H k (NewB H k 5 (0 :: b)) := by
  refine ACalls.fresh fun hf => ?_
  refine ACalls.body Tryd.func54 rfl (Nat.le_of_ble_eq_true rfl) ?_
  refine ACode.seq ?_
  refine ACode.region' [0] (by kernel_rfl) rfl ?_
  refine aOps_1 rfl rfl rfl (AOp.move' (.inr rfl) rfl ?_)
  refine aOps_end ?_
  show ACode _ _ _ _ _ _
  refine ACode.seq ?_
  refine ACode.region' [0, 1, 2, 3] (by kernel_rfl) rfl ?_
  refine aOps_1 rfl rfl rfl (AOp.buildB [0] rfl (by decide) rfl rfl ?_)
  refine aOps_1 rfl rfl rfl (AOp.move' (.inl rfl) rfl ?_)
  refine aOps_1 rfl rfl rfl ?_
  refine AOp.appendB (ps := ?ns1) rfl rfl rfl ?hn1 ?hsrc1 ?ht1 ?hw1 ?hz1 ?hR1
  (case hn1 => repeat (first | assumption | exact upd_same _ _ _ | refine (upd_other _ _ (by omega)).trans ?_))
  (case hsrc1 => refine srcOf_slc (SLC.sub hs ?_).cells; (repeat (first | exact sub_refl _ | assumption | refine sub_upd' ?_ (by ((repeat refine (upd_other _ _ (by omega)).trans ?_); first | exact hf _ (by omega))) | refine sub_over (by assumption) | refine sub_over0 ?_ | refine sub_trans (sub_same (by assumption)) ?_ | refine sub_dropu ?_ | refine sub_drop ?_ | refine sub_put ?_ (by repeat (first | assumption | exact upd_same _ _ _ | refine (upd_other _ _ (by omega)).trans ?_)))))
  (case ht1 => exact srcOk_sl)
  (case hw1 => (first | omega | (simp only [List.length_cons, List.length_nil]; omega) | (simp only [List.length_append, List.length_cons, List.length_nil]; omega) | (simp; omega)))
  (case hz1 => (first | omega | (simp only [List.length_cons, List.length_nil]; omega) | (simp only [List.length_append, List.length_cons, List.length_nil]; omega) | (simp; omega)))
  refine aOps_1 rfl rfl rfl (AOp.move' (.inr rfl) rfl ?_)
  refine aOps_end ?_
  show ACode _ _ _ _ _ _
  refine ACode.ret ?_
  exact RetQ.one (H'' := upd H k (some (gb (0 :: b)))) rfl rfl (by (repeat (first | exact sub_refl _ | assumption | refine sub_upd' ?_ (by ((repeat refine (upd_other _ _ (by omega)).trans ?_); first | exact hf _ (by omega))) | refine sub_over (by assumption) | refine sub_over0 ?_ | refine sub_trans (sub_same (by assumption)) ?_ | refine sub_dropu ?_ | refine sub_drop ?_ | refine sub_put ?_ (by repeat (first | assumption | exact upd_same _ _ _ | refine (upd_other _ _ (by omega)).trans ?_))))) stays_upd (fun hk => ⟨k, by omega, by omega, rfl, rfl⟩)

theorem ofNode_b (x y : Dg) : ACalls Tryd.prog 1 55 [hv x, hv y] H k (NewB H k 5 (nodeB x y)) := by
  refine ACalls.fresh fun hf => ?_
  refine ACalls.body Tryd.func55 rfl (Nat.le_of_ble_eq_true rfl) ?_
  have hxl := x.h
  have hyl := y.h
  refine ACode.seq ?_
  refine ACode.region' [0, 1, 2] (by kernel_rfl) rfl ?_
  refine aOps_1 rfl rfl rfl (AOp.boxV rfl rfl ?_)
  refine aOps_1 rfl rfl rfl (AOp.boxV rfl rfl ?_)
  refine aOps_1 rfl rfl rfl (AOp.move' (.inr rfl) rfl ?_)
  refine aOps_end ?_
  show ACode _ _ _ _ _ _
  refine ACode.seq ?_
  refine ACode.region' [0, 1] (by kernel_rfl) rfl ?_
  refine aOps_1 rfl rfl rfl (AOp.buildB [1] rfl (by decide) rfl rfl ?_)
  refine aOps_1 rfl rfl rfl (AOp.move' (.inr rfl) rfl ?_)
  refine aOps_end ?_
  show ACode _ _ _ _ _ _
  refine ACode.seq ?_
  refine ACode.seq ?_
  refine ACode.region' [0] (by kernel_rfl) rfl ?_
  refine aOps_1 rfl rfl rfl (AOp.move' (.inr rfl) rfl ?_)
  refine aOps_end ?_
  show ACode _ _ _ _ _ _
  refine ACode.block ?_
  refine ACode.count (fun i => [(6, .int .i64 (i : Int)), (5, gsl (k + 2) (1 :: x.l.take i).length)]) [(0, _), (1, _), (2, _), (3, _), (4, _), (8, _)] (fun i => upd (upd (upd H k (some (dblk x.l))) (k + 1) (some (dblk y.l))) (k + 2) (some (gb (1 :: x.l.take i)))) (32) (fun _ => True) (.cons rfl (.cons rfl .nil)) (.cons rfl (.cons rfl (.cons rfl (.cons rfl (.cons rfl (.cons rfl .nil)))))) (by (repeat (first | exact sub_refl _ | assumption | refine sub_upd' ?_ (by ((repeat refine (upd_other _ _ (by omega)).trans ?_); first | exact hf _ (by omega))) | refine sub_over (by assumption) | refine sub_over0 ?_ | refine sub_trans (sub_same (by assumption)) ?_ | refine sub_dropu ?_ | refine sub_drop ?_ | refine sub_put ?_ (by repeat (first | assumption | exact upd_same _ _ _ | refine (upd_other _ _ (by omega)).trans ?_))))) trivial (fun i0 kL0 HL0 hiL0 hkL0 hsL0 hfL0 hxL0 => ?_)
  show ACode _ _ _ _ _ ⟨_, _, _⟩
  refine ACode.seq ?_
  refine ACode.seq ?_
  refine ACode.region' [0, 1] (by kernel_rfl) rfl ?_
  refine aOps_1 rfl rfl rfl (AOp.move' (.inl rfl) rfl ?_)
  refine aOps_1 rfl rfl rfl (AOp.bin' rfl rfl rfl rfl ?_)
  refine aOps_end ?_
  show ACode _ _ _ _ _ _
  refine ACode.cond rfl (fun c0 => ?_) (fun c0 => ?_)
  · try simp only [decide_eq_true_eq, decide_eq_false_iff_not, beq_iff_eq, beq_eq_false_iff_ne, ne_eq, bne_iff_ne, Bool.not_eq_true', Bool.not_eq_false', Int.not_lt, Int.not_le, gt_iff_lt, ge_iff_le, bne_eq_false_iff_eq, Bool.not_eq_eq_eq_not, Bool.not_true, Bool.not_false] at c0
    refine ACode.skip ?_
    show ACode _ _ _ _ _ _
    refine ACode.seq ?_
    refine ACode.block ?_
    have hx2 : (x.l.take i0).length = i0 := by rw [List.length_take]; omega
    have hx3 : (1 :: x.l.take i0).length = i0 + 1 := by rw [List.length_cons, hx2]
    refine ACode.region' [0, 1, 2, 3, 4, 5, 6] (by kernel_rfl) rfl ?_
    refine aOps_1 rfl rfl rfl (AOp.move' (.inl rfl) rfl ?_)
    refine aOps_1 rfl rfl rfl (AOp.move' (.inl rfl) rfl ?_)
    refine aOps_1 rfl rfl rfl (AOp.indexA (by omega) rfl rfl rfl ?_)
    refine aOps_1 rfl rfl rfl ?_
    refine AOp.loadM bv (x.l) 0 (b := ?b2) ?hn2 ?hv2 ?hw2 rfl rfl ?hR2
    (case hn2 => repeat (first | assumption | exact upd_same _ _ _ | refine (upd_other _ _ (by omega)).trans ?_ | refine hsL0 _ _ ?_))
    (case hv2 => rfl)
    (case hw2 => exact (by omega))
    refine aOps_1 rfl rfl rfl (AOp.buildB [_] rfl (by decide) rfl rfl ?_)
    refine aOps_1 rfl rfl rfl ?_
    refine AOp.appendB (ps := ?ns3) rfl rfl rfl ?hn3 ?hsrc3 ?ht3 ?hw3 ?hz3 ?hR3
    (case hn3 => repeat (first | assumption | exact upd_same _ _ _ | refine (upd_other _ _ (by omega)).trans ?_ | refine hsL0 _ _ ?_))
    (case hsrc3 => refine srcOf_gb (e := 5) ?e13; (case e13 => repeat (first | assumption | exact upd_same _ _ _ | refine (upd_other _ _ (by omega)).trans ?_ | refine hsL0 _ _ ?_)))
    (case ht3 => exact srcOk_sl)
    (case hw3 => (first | omega | (simp only [List.length_cons, List.length_nil]; omega) | (simp only [List.length_append, List.length_cons, List.length_nil]; omega) | (simp; omega)))
    (case hz3 => (first | omega | (simp only [List.length_cons, List.length_nil]; omega) | (simp only [List.length_append, List.length_cons, List.length_nil]; omega) | (simp; omega)))
    refine aOps_1 rfl rfl rfl (AOp.move' (.inr rfl) rfl ?_)
    refine aOps_end ?_
    show ACode _ _ _ _ _ _
    refine ACode.region' [0, 1, 2] (by kernel_rfl) rfl ?_
    refine aOps_1 rfl rfl rfl (AOp.move' (.inl rfl) rfl ?_)
    refine aOps_1 rfl rfl rfl (AOp.add rfl rfl rfl (i64_wrap (by omega) (by omega)) ?_)
    refine aOps_1 rfl rfl rfl (AOp.move' (.inr rfl) rfl ?_)
    refine aOps_end ?_
    have e4 : (1 :: x.l.take (i0 + 1)) = (1 :: x.l.take i0) ++ [x.l.getD i0 0] := by rw [take_el x.l 0 (by omega)]; rfl
    first | refine thenA_n ?_ | simp only [thenA, blockA, if_true]
    exact NextR.mk (by omega) (by omega) (.cons rfl (.cons (show _ = some (gsl (k + 2) _) by rw [e4]; rfl) .nil)) (.cons rfl (.cons rfl (.cons rfl (.cons rfl (.cons rfl (.cons rfl .nil)))))) (by rw [e4]; (repeat (first | exact sub_refl _ | assumption | refine sub_upd' ?_ (by ((repeat refine (upd_other _ _ (by omega)).trans ?_); first | exact hf _ (by omega) | exact hfL0 _ (by omega))) | refine sub_trans ?_ hsL0 | refine sub_over (by assumption) | refine sub_over0 ?_ | refine sub_trans (sub_same (by assumption)) ?_ | refine sub_dropu ?_ | refine sub_drop ?_ | refine sub_put ?_ (by repeat (first | assumption | exact upd_same _ _ _ | refine (upd_other _ _ (by omega)).trans ?_ | refine hsL0 _ _ ?_))))) trivial
  · try simp only [decide_eq_true_eq, decide_eq_false_iff_not, beq_iff_eq, beq_eq_false_iff_ne, ne_eq, bne_iff_ne, Bool.not_eq_true', Bool.not_eq_false', Int.not_lt, Int.not_le, gt_iff_lt, ge_iff_le, bne_eq_false_iff_eq, Bool.not_eq_eq_eq_not, Bool.not_true, Bool.not_false] at c0
    refine ACode.exit ?_
    show ACode _ _ _ _ _ _
    refine ACode.seq ?_
    refine ACode.seq ?_
    refine ACode.region' [0] (by kernel_rfl) rfl ?_
    refine aOps_1 rfl rfl rfl (AOp.move' (.inr rfl) rfl ?_)
    refine aOps_end ?_
    show ACode _ _ _ _ _ _
    refine ACode.block ?_
    obtain rfl : i0 = 32 := by omega
    have ex : x.l.take 32 = x.l := List.take_of_length_le (by omega)
    rw [ex] at hsL0
    rw [ex]
    refine ACode.count (fun i => [(7, .int .i64 (i : Int)), (5, gsl (k + 2) (1 :: (x.l ++ y.l.take i)).length)]) [(0, _), (1, _), (2, _), (3, _), (4, _), (6, _), (8, _), (9, _), (10, _)] (fun i => upd (upd (upd H k (some (dblk x.l))) (k + 1) (some (dblk y.l))) (k + 2) (some (gb (1 :: (x.l ++ y.l.take i))))) (32) (fun _ => True) (.cons rfl (.cons (show _ = some (gsl (k + 2) _) by rw [List.take_zero, List.append_nil]; rfl) .nil)) (.cons rfl (.cons rfl (.cons rfl (.cons rfl (.cons rfl (.cons rfl (.cons rfl (.cons rfl (.cons rfl .nil))))))))) (by rw [List.take_zero, List.append_nil]; (repeat (first | exact sub_refl _ | assumption | refine sub_upd' ?_ (by ((repeat refine (upd_other _ _ (by omega)).trans ?_); first | exact hf _ (by omega) | exact hfL0 _ (by omega))) | refine sub_trans ?_ hsL0 | refine sub_over (by assumption) | refine sub_over0 ?_ | refine sub_trans (sub_same (by assumption)) ?_ | refine sub_dropu ?_ | refine sub_drop ?_ | refine sub_put ?_ (by repeat (first | assumption | exact upd_same _ _ _ | refine (upd_other _ _ (by omega)).trans ?_ | refine hsL0 _ _ ?_))))) trivial (fun i1 kL1 HL1 hiL1 hkL1 hsL1 hfL1 hxL1 => ?_)
    show ACode _ _ _ _ _ ⟨_, _, _⟩
    refine ACode.seq ?_
    refine ACode.seq ?_
    refine ACode.region' [0, 1] (by kernel_rfl) rfl ?_
    refine aOps_1 rfl rfl rfl (AOp.move' (.inl rfl) rfl ?_)
    refine aOps_1 rfl rfl rfl (AOp.bin' rfl rfl rfl rfl ?_)
    refine aOps_end ?_
    show ACode _ _ _ _ _ _
    refine ACode.cond rfl (fun c1 => ?_) (fun c1 => ?_)
    · try simp only [decide_eq_true_eq, decide_eq_false_iff_not, beq_iff_eq, beq_eq_false_iff_ne, ne_eq, bne_iff_ne, Bool.not_eq_true', Bool.not_eq_false', Int.not_lt, Int.not_le, gt_iff_lt, ge_iff_le, bne_eq_false_iff_eq, Bool.not_eq_eq_eq_not, Bool.not_true, Bool.not_false] at c1
      refine ACode.skip ?_
      show ACode _ _ _ _ _ _
      refine ACode.seq ?_
      refine ACode.block ?_
      have hy2 : (y.l.take i1).length = i1 := by rw [List.length_take]; omega
      have hy3 : (1 :: (x.l ++ y.l.take i1)).length = i1 + 33 := by rw [List.length_cons, List.length_append]; omega
      refine ACode.region' [0, 1, 2, 3, 4, 5, 6] (by kernel_rfl) rfl ?_
      refine aOps_1 rfl rfl rfl (AOp.move' (.inl rfl) rfl ?_)
      refine aOps_1 rfl rfl rfl (AOp.move' (.inl rfl) rfl ?_)
      refine aOps_1 rfl rfl rfl (AOp.indexA (by omega) rfl rfl rfl ?_)
      refine aOps_1 rfl rfl rfl ?_
      refine AOp.loadM bv (y.l) 0 (b := ?b4) ?hn4 ?hv4 ?hw4 rfl rfl ?hR4
      (case hn4 => repeat (first | assumption | exact upd_same _ _ _ | refine (upd_other _ _ (by omega)).trans ?_ | refine hsL1 _ _ ?_ | refine hsL0 _ _ ?_))
      (case hv4 => rfl)
      (case hw4 => exact (by omega))
      refine aOps_1 rfl rfl rfl (AOp.buildB [_] rfl (by decide) rfl rfl ?_)
      refine aOps_1 rfl rfl rfl ?_
      refine AOp.appendB (ps := ?ns5) rfl rfl rfl ?hn5 ?hsrc5 ?ht5 ?hw5 ?hz5 ?hR5
      (case hn5 => repeat (first | assumption | exact upd_same _ _ _ | refine (upd_other _ _ (by omega)).trans ?_ | refine hsL1 _ _ ?_ | refine hsL0 _ _ ?_))
      (case hsrc5 => refine srcOf_gb (e := 5) ?e15; (case e15 => repeat (first | assumption | exact upd_same _ _ _ | refine (upd_other _ _ (by omega)).trans ?_ | refine hsL1 _ _ ?_ | refine hsL0 _ _ ?_)))
      (case ht5 => exact srcOk_sl)
      (case hw5 => (first | omega | (simp only [List.length_cons, List.length_nil]; omega) | (simp only [List.length_append, List.length_cons, List.length_nil]; omega) | (simp; omega)))
      (case hz5 => (first | omega | (simp only [List.length_cons, List.length_nil]; omega) | (simp only [List.length_append, List.length_cons, List.length_nil]; omega) | (simp; omega)))
      refine aOps_1 rfl rfl rfl (AOp.move' (.inr rfl) rfl ?_)
      refine aOps_end ?_
      show ACode _ _ _ _ _ _
      refine ACode.region' [0, 1, 2] (by kernel_rfl) rfl ?_
      refine aOps_1 rfl rfl rfl (AOp.move' (.inl rfl) rfl ?_)
      refine aOps_1 rfl rfl rfl (AOp.add rfl rfl rfl (i64_wrap (by omega) (by omega)) ?_)
      refine aOps_1 rfl rfl rfl (AOp.move' (.inr rfl) rfl ?_)
      refine aOps_end ?_
      have e5 : (1 :: (x.l ++ y.l.take (i1 + 1))) = (1 :: (x.l ++ y.l.take i1)) ++ [y.l.getD i1 0] := by rw [take_el y.l 0 (by omega)]; simp
      first | refine thenA_n ?_ | simp only [thenA, blockA, if_true]
      exact NextR.mk (by omega) (by omega) (.cons rfl (.cons (show _ = some (gsl (k + 2) _) by rw [e5]; rfl) .nil)) (.cons rfl (.cons rfl (.cons rfl (.cons rfl (.cons rfl (.cons rfl (.cons rfl (.cons rfl (.cons rfl .nil))))))))) (by rw [e5]; (repeat (first | exact sub_refl _ | assumption | refine sub_upd' ?_ (by ((repeat refine (upd_other _ _ (by omega)).trans ?_); first | exact hf _ (by omega) | exact hfL0 _ (by omega) | exact hfL1 _ (by omega))) | refine sub_trans ?_ hsL1 | refine sub_trans ?_ hsL0 | refine sub_over (by assumption) | refine sub_over0 ?_ | refine sub_trans (sub_same (by assumption)) ?_ | refine sub_dropu ?_ | refine sub_drop ?_ | refine sub_put ?_ (by repeat (first | assumption | exact upd_same _ _ _ | refine (upd_other _ _ (by omega)).trans ?_ | refine hsL1 _ _ ?_ | refine hsL0 _ _ ?_))))) trivial
    · try simp only [decide_eq_true_eq, decide_eq_false_iff_not, beq_iff_eq, beq_eq_false_iff_ne, ne_eq, bne_iff_ne, Bool.not_eq_true', Bool.not_eq_false', Int.not_lt, Int.not_le, gt_iff_lt, ge_iff_le, bne_eq_false_iff_eq, Bool.not_eq_eq_eq_not, Bool.not_true, Bool.not_false] at c1
      refine ACode.exit ?_
      show ACode _ _ _ _ _ _
      refine ACode.seq ?_
      obtain rfl : i1 = 32 := by omega
      have ey : y.l.take 32 = y.l := List.take_of_length_le (by omega)
      rw [ey] at hsL1
      rw [ey]
      refine ACode.region' [0, 1] (by kernel_rfl) rfl ?_
      refine aOps_1 rfl rfl rfl (AOp.move' (.inl rfl) rfl ?_)
      refine aOps_1 rfl rfl rfl (AOp.move' (.inr rfl) rfl ?_)
      refine aOps_end ?_
      show ACode _ _ _ _ _ _
      refine ACode.ret ?_
      exact RetQ.one (H'' := upd H (k + 2) (some (gb (nodeB x y)))) rfl rfl (by (repeat (first | exact sub_refl _ | assumption | refine sub_upd' ?_ (by ((repeat refine (upd_other _ _ (by omega)).trans ?_); first | exact hf _ (by omega) | exact hfL0 _ (by omega) | exact hfL1 _ (by omega))) | refine sub_trans ?_ hsL1 | refine sub_trans ?_ hsL0 | refine sub_over (by assumption) | refine sub_over0 ?_ | refine sub_trans (sub_same (by assumption)) ?_ | refine sub_dropu ?_ | refine sub_drop ?_ | refine sub_put ?_ (by repeat (first | assumption | exact upd_same _ _ _ | refine (upd_other _ _ (by omega)).trans ?_ | refine hsL1 _ _ ?_ | refine hsL0 _ _ ?_))))) stays_upd (fun hk => ⟨k + 2, by omega, by omega, rfl, rfl⟩)

theorem texts_b : ∀ (N : Nat) (ls : List (List UInt8)) (vs : List Value) (A : Option Addr) (c : Nat) (H : Hp) (k : Nat), H 0 = some tabBlk → SLC H 1 A vs.length c vs → Lvs H vs ls → vs.length ≤ 1073741824 → (∀ x ∈ ls, x.length ≤ 549755813000) → vs.length < N → ACalls Tryd.prog 1 25 [.slice A vs.length c] H k (NewT H k 22 (textsT ls)) := by
  intro N
  induction N
  case zero => intro ls vs A c H k ht hs hL hl hb hN; omega
  rename_i N ih
  intro ls vs A c H k ht hs hL hl hb hN
  refine ACalls.fresh fun hf => ?_
  refine ACalls.body Tryd.func25 rfl (Nat.le_of_ble_eq_true rfl) ?_
  have h0k := old_lt hf ht
  have hvl := hL.len
  refine ACode.seq ?_
  refine ACode.region' [0] (by kernel_rfl) rfl ?_
  refine aOps_1 rfl rfl rfl (AOp.move' (.inr rfl) rfl ?_)
  refine aOps_end ?_
  show ACode _ _ _ _ _ _
  refine ACode.seq ?_
  refine ACode.seq ?_
  refine ACode.region' [0, 1, 2] (by kernel_rfl) rfl ?_
  refine aOps_1 rfl rfl rfl (AOp.move' (.inl rfl) rfl ?_)
  refine aOps_1 rfl rfl rfl (AOp.len' rfl rfl ?_)
  refine aOps_1 rfl rfl rfl (AOp.bin' rfl rfl rfl rfl ?_)
  refine aOps_end ?_
  show ACode _ _ _ _ _ _
  refine ACode.cond rfl (fun c0 => ?_) (fun c0 => ?_)
  · try simp only [decide_eq_true_eq, decide_eq_false_iff_not, beq_iff_eq, beq_eq_false_iff_ne, ne_eq, bne_iff_ne, Bool.not_eq_true', Bool.not_eq_false', Int.not_lt, Int.not_le, gt_iff_lt, ge_iff_le, bne_eq_false_iff_eq, Bool.not_eq_eq_eq_not, Bool.not_true, Bool.not_false] at c0
    obtain rfl : ls = [] := List.length_eq_zero_iff.1 (by omega)
    rw [textsT_nil]
    refine ACode.seq ?_
    refine ACode.region' [0, 1] (by kernel_rfl) rfl ?_
    refine aOps_1 rfl rfl rfl (AOp.buildG1 (vals := [_]) rfl (by decide) rfl rfl (by intro u hu; simp at hu; first | (rcases hu with rfl | rfl | rfl <;> rfl) | (rcases hu with rfl | rfl <;> rfl) | (subst hu; rfl) | (rcases hu with rfl | rfl | rfl | rfl <;> rfl)) ?_)
    refine aOps_1 rfl rfl rfl (AOp.move' (.inr rfl) rfl ?_)
    refine aOps_end ?_
    show ACode _ _ _ _ _ _
    refine ACode.ret ?_
    refine RetQ.one rfl rfl (sub_refl _) (stays_sub (by (repeat (first | exact sub_refl _ | assumption | refine sub_upd' ?_ (by ((repeat refine (upd_other _ _ (by omega)).trans ?_); first | exact hf _ (by omega) | exact hfL8 _ (by omega) | exact hfL9 _ (by omega))) | refine sub_trans ?_ hsL9 | refine sub_trans ?_ hsL8 | refine sub_over (by assumption) | refine sub_over0 ?_ | refine sub_trans (sub_same (by assumption)) ?_ | refine sub_dropu ?_ | refine sub_drop ?_ | refine sub_put ?_ (by repeat (first | assumption | exact upd_same _ _ _ | refine (upd_other _ _ (by omega)).trans ?_ | refine hsL9 _ _ ?_ | refine hsL8 _ _ ?_)))))) (fun hk => ⟨k, [.slice none 0 0], by omega, by omega, ?_, by (repeat (first | exact sub_refl _ | assumption | refine sub_upd' ?_ (by ((repeat refine (upd_other _ _ (by omega)).trans ?_); first | exact hf _ (by omega) | exact hfL8 _ (by omega) | exact hfL9 _ (by omega))) | refine sub_trans ?_ hsL9 | refine sub_trans ?_ hsL8 | refine sub_over (by assumption) | refine sub_over0 ?_ | refine sub_trans (sub_same (by assumption)) ?_ | refine sub_dropu ?_ | refine sub_drop ?_ | refine sub_put ?_ (by repeat (first | assumption | exact upd_same _ _ _ | refine (upd_other _ _ (by omega)).trans ?_ | refine hsL9 _ _ ?_ | refine hsL8 _ _ ?_)))), ?_, upd_same _ _ _, ?_⟩)
    · first | rfl | (simp; done) | (simp; omega)
    · intro n hn; (repeat refine (upd_other _ _ (by omega)).trans ?_); first | exact hf _ (by omega) | exact hfL9 _ (by omega)
    · exact Lvs.cons (l := []) SLC.nil Lvs.nil
  · try simp only [decide_eq_true_eq, decide_eq_false_iff_not, beq_iff_eq, beq_eq_false_iff_ne, ne_eq, bne_iff_ne, Bool.not_eq_true', Bool.not_eq_false', Int.not_lt, Int.not_le, gt_iff_lt, ge_iff_le, bne_eq_false_iff_eq, Bool.not_eq_eq_eq_not, Bool.not_true, Bool.not_false] at c0
    refine ACode.skip ?_
    show ACode _ _ _ _ _ _
    refine ACode.seq ?_
    refine ACode.seq ?_
    refine ACode.region' [0, 1, 2] (by kernel_rfl) rfl ?_
    refine aOps_1 rfl rfl rfl (AOp.move' (.inl rfl) rfl ?_)
    refine aOps_1 rfl rfl rfl (AOp.len' rfl rfl ?_)
    refine aOps_1 rfl rfl rfl (AOp.bin' rfl rfl rfl rfl ?_)
    refine aOps_end ?_
    show ACode _ _ _ _ _ _
    refine ACode.cond rfl (fun c1 => ?_) (fun c1 => ?_)
    · try simp only [decide_eq_true_eq, decide_eq_false_iff_not, beq_iff_eq, beq_eq_false_iff_ne, ne_eq, bne_iff_ne, Bool.not_eq_true', Bool.not_eq_false', Int.not_lt, Int.not_le, gt_iff_lt, ge_iff_le, bne_eq_false_iff_eq, Bool.not_eq_eq_eq_not, Bool.not_true, Bool.not_false] at c1
      have hl1 : ls.length = 1 := by omega
      obtain ⟨b, rfl⟩ := List.length_eq_one_iff.1 hl1
      obtain ⟨A1, d1, e1, hc1⟩ := hL.at_ 0 (by simp)
      rw [textsT_one]
      refine ACode.seq ?_
      obtain ⟨n4_1, o4_1, s4_1, hq4_1, hp4_1⟩ := e1 ▸ slcElV hs.cells (show 0 < vs.length by omega)
      refine ACode.region' [0, 1, 2, 3, 4, 5] (by kernel_rfl) rfl ?_
      refine aOps_1 rfl rfl rfl (AOp.move' (.inl rfl) rfl ?_)
      refine aOps_1 rfl rfl rfl (AOp.indexP (aslcAt_sub (by (repeat (first | exact sub_refl _ | assumption | refine sub_upd' ?_ (by ((repeat refine (upd_other _ _ (by omega)).trans ?_); first | exact hf _ (by omega) | exact hfL8 _ (by omega) | exact hfL9 _ (by omega))) | refine sub_trans ?_ hsL9 | refine sub_trans ?_ hsL8 | refine sub_over (by assumption) | refine sub_over0 ?_ | refine sub_trans (sub_same (by assumption)) ?_ | refine sub_dropu ?_ | refine sub_drop ?_ | refine sub_put ?_ (by repeat (first | assumption | exact upd_same _ _ _ | refine (upd_other _ _ (by omega)).trans ?_ | refine hsL9 _ _ ?_ | refine hsL8 _ _ ?_))))) hq4_1) rfl rfl rfl ?_)
      refine aOps_1 rfl rfl rfl (AOp.loadP0 (hp4_1.sub (by (repeat (first | exact sub_refl _ | assumption | refine sub_upd' ?_ (by ((repeat refine (upd_other _ _ (by omega)).trans ?_); first | exact hf _ (by omega) | exact hfL8 _ (by omega) | exact hfL9 _ (by omega))) | refine sub_trans ?_ hsL9 | refine sub_trans ?_ hsL8 | refine sub_over (by assumption) | refine sub_over0 ?_ | refine sub_trans (sub_same (by assumption)) ?_ | refine sub_dropu ?_ | refine sub_drop ?_ | refine sub_put ?_ (by repeat (first | assumption | exact upd_same _ _ _ | refine (upd_other _ _ (by omega)).trans ?_ | refine hsL9 _ _ ?_ | refine hsL8 _ _ ?_)))))) rfl rfl rfl ?_)
      refine aOps_1 rfl rfl rfl ?_
      refine AOp.call' rfl rfl rfl (ofLeaf_b _ _ b A1 d1 (hc1.sub (by (repeat (first | exact sub_refl _ | assumption | refine sub_upd' ?_ (by ((repeat refine (upd_other _ _ (by omega)).trans ?_); first | exact hf _ (by omega) | exact hfL8 _ (by omega) | exact hfL9 _ (by omega))) | refine sub_trans ?_ hsL9 | refine sub_trans ?_ hsL8 | refine sub_over (by assumption) | refine sub_over0 ?_ | refine sub_trans (sub_same (by assumption)) ?_ | refine sub_dropu ?_ | refine sub_drop ?_ | refine sub_put ?_ (by repeat (first | assumption | exact upd_same _ _ _ | refine (upd_other _ _ (by omega)).trans ?_ | refine hsL9 _ _ ?_ | refine hsL8 _ _ ?_)))))) (hb b (by simp))) ?_
      rintro _ _ kq0 ⟨q, hqa, hqb, rfl, rfl⟩
      refine aOps_1 rfl rfl rfl (AOp.buildG1 (vals := [_]) rfl (by decide) rfl rfl (by intro u hu; simp at hu; first | (rcases hu with rfl | rfl | rfl <;> rfl) | (rcases hu with rfl | rfl <;> rfl) | (subst hu; rfl) | (rcases hu with rfl | rfl | rfl | rfl <;> rfl)) ?_)
      refine aOps_1 rfl rfl rfl (AOp.move' (.inr rfl) rfl ?_)
      refine aOps_end ?_
      show ACode _ _ _ _ _ _
      refine ACode.ret ?_
      refine RetQ.one rfl rfl (sub_refl _) (stays_sub (by (repeat (first | exact sub_refl _ | assumption | refine sub_upd' ?_ (by ((repeat refine (upd_other _ _ (by omega)).trans ?_); first | exact hf _ (by omega) | exact hfL8 _ (by omega) | exact hfL9 _ (by omega))) | refine sub_trans ?_ hsL9 | refine sub_trans ?_ hsL8 | refine sub_over (by assumption) | refine sub_over0 ?_ | refine sub_trans (sub_same (by assumption)) ?_ | refine sub_dropu ?_ | refine sub_drop ?_ | refine sub_put ?_ (by repeat (first | assumption | exact upd_same _ _ _ | refine (upd_other _ _ (by omega)).trans ?_ | refine hsL9 _ _ ?_ | refine hsL8 _ _ ?_)))))) (fun hk => ⟨kq0, [gsl q (0 :: b).length], by omega, by omega, ?_, by (repeat (first | exact sub_refl _ | assumption | refine sub_upd' ?_ (by ((repeat refine (upd_other _ _ (by omega)).trans ?_); first | exact hf _ (by omega) | exact hfL8 _ (by omega) | exact hfL9 _ (by omega))) | refine sub_trans ?_ hsL9 | refine sub_trans ?_ hsL8 | refine sub_over (by assumption) | refine sub_over0 ?_ | refine sub_trans (sub_same (by assumption)) ?_ | refine sub_dropu ?_ | refine sub_drop ?_ | refine sub_put ?_ (by repeat (first | assumption | exact upd_same _ _ _ | refine (upd_other _ _ (by omega)).trans ?_ | refine hsL9 _ _ ?_ | refine hsL8 _ _ ?_)))), ?_, upd_same _ _ _, ?_⟩)
      · first | rfl | (simp; done) | (simp; omega)
      · intro n hn; (repeat refine (upd_other _ _ (by omega)).trans ?_); first | exact hf _ (by omega) | exact hfL9 _ (by omega)
      · exact Lvs.cons (SLC.gb (resH_of ((upd_other _ _ (by omega)).trans (upd_same _ _ _)) (by omega) (by omega))) Lvs.nil
    · try simp only [decide_eq_true_eq, decide_eq_false_iff_not, beq_iff_eq, beq_eq_false_iff_ne, ne_eq, bne_iff_ne, Bool.not_eq_true', Bool.not_eq_false', Int.not_lt, Int.not_le, gt_iff_lt, ge_iff_le, bne_eq_false_iff_eq, Bool.not_eq_eq_eq_not, Bool.not_true, Bool.not_false] at c1
      have h2 : 2 ≤ vs.length := by omega
      obtain ⟨sp1, sp2, sp3⟩ := spN_spec h2
      have htl : (vs.take (spN vs.length)).length = spN vs.length := by rw [List.length_take]; omega
      have hdl : (vs.drop (spN vs.length)).length = vs.length - spN vs.length := List.length_drop
      have htx := textsT_two (l := ls) (by omega)
      rw [← hvl] at htx
      have htl2 : (ls.take (spN vs.length)).length = spN vs.length := by rw [List.length_take]; omega
      have hdl2 : (ls.drop (spN vs.length)).length = vs.length - spN vs.length := by rw [List.length_drop]; omega
      have tl1 := textsT_len (ls.take (spN vs.length))
      have tl2 := textsT_len (ls.drop (spN vs.length))
      refine ACode.skip ?_
      show ACode _ _ _ _ _ _
      refine ACode.seq ?_
      refine ACode.region' [0, 1, 2, 3] (by kernel_rfl) rfl ?_
      refine aOps_1 rfl rfl rfl (AOp.move' (.inl rfl) rfl ?_)
      refine aOps_1 rfl rfl rfl (AOp.len' rfl rfl ?_)
      refine aOps_q rfl rfl rfl (AOp.call' rfl rfl rfl (refsplit_b _ _ vs.length h2 (by omega)) (fun _ _ _ h => h)) (fun kq hkq => ?_)
      refine aOps_1 rfl rfl rfl (AOp.move' (.inr rfl) rfl ?_)
      refine aOps_end ?_
      show ACode _ _ _ _ _ _
      refine ACode.seq ?_
      obtain ⟨A6_2, c6_2, hq6_2, hs6_2⟩ := SLC.cutL hs (spN vs.length) none (by omega) (by intro x hx; cases hx <;> omega)
      obtain ⟨A6_6, c6_6, hq6_6, hs6_6⟩ := SLC.cutR hs (spN vs.length) none (by omega) (by intro x hx; cases hx <;> omega)
      refine ACode.drawF [(0, 20), (1, 21), (2, 22), (4, 24), (5, 25), (6, 26)] [3, 7, 8, 9] mixed (by kernel_rfl) (sub_refl _) ?_
      refine DrawF.q 0 20 [(0, none)] rfl (by kernel_rfl) rfl (fun Hc kq hSb => AOp.move' (.inl rfl) rfl ⟨rfl, rfl, rfl⟩) ?_
      refine DrawF.q 1 21 [(3, none)] rfl (by kernel_rfl) rfl (fun Hc kq hSb => AOp.move' (.inl rfl) rfl ⟨rfl, rfl, rfl⟩) ?_
      refine DrawF.q 2 22 [(20, some 0), (21, some 1)] rfl (by kernel_rfl) rfl (fun Hc kq hSb => AOp.cutQ (aslice_sub (by (repeat (first | exact sub_refl _ | assumption | refine sub_upd' ?_ (by ((repeat refine (upd_other _ _ (by omega)).trans ?_); first | exact hf _ (by omega) | exact hfL8 _ (by omega) | exact hfL9 _ (by omega))) | refine sub_trans ?_ hSb | refine sub_trans ?_ hsL9 | refine sub_trans ?_ hsL8 | refine sub_over (by assumption) | refine sub_over0 ?_ | refine sub_trans (sub_same (by assumption)) ?_ | refine sub_dropu ?_ | refine sub_drop ?_ | refine sub_put ?_ (by repeat (first | assumption | exact upd_same _ _ _ | refine (upd_other _ _ (by omega)).trans ?_ | refine hSb _ _ ?_ | refine hsL9 _ _ ?_ | refine hsL8 _ _ ?_))))) hq6_2) rfl rfl (bnd_no rfl) (bnd_at rfl rfl) mx_no ⟨rfl, rfl, rfl⟩) ?_
      refine DrawF.q 4 24 [(0, none)] rfl (by kernel_rfl) rfl (fun Hc kq hSb => AOp.move' (.inl rfl) rfl ⟨rfl, rfl, rfl⟩) ?_
      refine DrawF.q 5 25 [(3, none)] rfl (by kernel_rfl) rfl (fun Hc kq hSb => AOp.move' (.inl rfl) rfl ⟨rfl, rfl, rfl⟩) ?_
      refine DrawF.q 6 26 [(24, some 4), (25, some 5)] rfl (by kernel_rfl) rfl (fun Hc kq hSb => AOp.cutQ (aslice_sub (by (repeat (first | exact sub_refl _ | assumption | refine sub_upd' ?_ (by ((repeat refine (upd_other _ _ (by omega)).trans ?_); first | exact hf _ (by omega) | exact hfL8 _ (by omega) | exact hfL9 _ (by omega))) | refine sub_trans ?_ hSb | refine sub_trans ?_ hsL9 | refine sub_trans ?_ hsL8 | refine sub_over (by assumption) | refine sub_over0 ?_ | refine sub_trans (sub_same (by assumption)) ?_ | refine sub_dropu ?_ | refine sub_drop ?_ | refine sub_put ?_ (by repeat (first | assumption | exact upd_same _ _ _ | refine (upd_other _ _ (by omega)).trans ?_ | refine hSb _ _ ?_ | refine hsL9 _ _ ?_ | refine hsL8 _ _ ?_))))) hq6_6) rfl rfl (bnd_at rfl rfl) (bnd_no rfl) mx_no ⟨rfl, rfl, rfl⟩) ?_
      refine DrawF.done ?_
      show aOpsF _ _ _ _ _ _ [3, 7, 8, 9] ⟨_, _, _⟩
      refine aOpsF_1 [22] rfl rfl (by kernel_rfl) rfl ?_
      refine AOp.call' rfl rfl rfl (ih (ls.take (spN vs.length)) (vs.take (spN vs.length)) A6_2 c6_2 _ _ (by repeat (first | assumption | exact upd_same _ _ _ | refine (upd_other _ _ (by omega)).trans ?_ | refine hsL9 _ _ ?_ | refine hsL8 _ _ ?_)) (hs6_2.sub (by (repeat (first | exact sub_refl _ | assumption | refine sub_upd' ?_ (by ((repeat refine (upd_other _ _ (by omega)).trans ?_); first | exact hf _ (by omega) | exact hfL8 _ (by omega) | exact hfL9 _ (by omega))) | refine sub_trans ?_ hsL9 | refine sub_trans ?_ hsL8 | refine sub_over (by assumption) | refine sub_over0 ?_ | refine sub_trans (sub_same (by assumption)) ?_ | refine sub_dropu ?_ | refine sub_drop ?_ | refine sub_put ?_ (by repeat (first | assumption | exact upd_same _ _ _ | refine (upd_other _ _ (by omega)).trans ?_ | refine hsL9 _ _ ?_ | refine hsL8 _ _ ?_)))))) ((hL.take _).sub (by (repeat (first | exact sub_refl _ | assumption | refine sub_upd' ?_ (by ((repeat refine (upd_other _ _ (by omega)).trans ?_); first | exact hf _ (by omega) | exact hfL8 _ (by omega) | exact hfL9 _ (by omega))) | refine sub_trans ?_ hsL9 | refine sub_trans ?_ hsL8 | refine sub_over (by assumption) | refine sub_over0 ?_ | refine sub_trans (sub_same (by assumption)) ?_ | refine sub_dropu ?_ | refine sub_drop ?_ | refine sub_put ?_ (by repeat (first | assumption | exact upd_same _ _ _ | refine (upd_other _ _ (by omega)).trans ?_ | refine hsL9 _ _ ?_ | refine hsL8 _ _ ?_)))))) (by omega) (fun x hx => hb x (List.mem_of_mem_take hx)) (by omega)) ?_
      rintro _ H1 k1 ⟨q1, vs1, h1a, h1b, rfl, hsL8, hfL8, hq1, hL1⟩
      have hv1 := hL1.len
      refine ⟨by (repeat (first | exact sub_refl _ | assumption | refine sub_upd' ?_ (by ((repeat refine (upd_other _ _ (by omega)).trans ?_); first | exact hf _ (by omega) | exact hfL8 _ (by omega) | exact hfL9 _ (by omega))) | refine sub_trans ?_ hsL9 | refine sub_trans ?_ hsL8 | refine sub_over (by assumption) | refine sub_over0 ?_ | refine sub_trans (sub_same (by assumption)) ?_ | refine sub_dropu ?_ | refine sub_drop ?_ | refine sub_put ?_ (by repeat (first | assumption | exact upd_same _ _ _ | refine (upd_other _ _ (by omega)).trans ?_ | refine hsL9 _ _ ?_ | refine hsL8 _ _ ?_)))), ?_⟩
      refine aOpsF_1 [26] rfl rfl (by kernel_rfl) rfl ?_
      refine AOp.call' rfl rfl rfl (ih (ls.drop (spN vs.length)) (vs.drop (spN vs.length)) A6_6 c6_6 _ _ (by repeat (first | assumption | exact upd_same _ _ _ | refine (upd_other _ _ (by omega)).trans ?_ | refine hsL9 _ _ ?_ | refine hsL8 _ _ ?_)) (hs6_6.sub (by (repeat (first | exact sub_refl _ | assumption | refine sub_upd' ?_ (by ((repeat refine (upd_other _ _ (by omega)).trans ?_); first | exact hf _ (by omega) | exact hfL8 _ (by omega) | exact hfL9 _ (by omega))) | refine sub_trans ?_ hsL9 | refine sub_trans ?_ hsL8 | refine sub_over (by assumption) | refine sub_over0 ?_ | refine sub_trans (sub_same (by assumption)) ?_ | refine sub_dropu ?_ | refine sub_drop ?_ | refine sub_put ?_ (by repeat (first | assumption | exact upd_same _ _ _ | refine (upd_other _ _ (by omega)).trans ?_ | refine hsL9 _ _ ?_ | refine hsL8 _ _ ?_)))))) ((hL.drop _).sub (by (repeat (first | exact sub_refl _ | assumption | refine sub_upd' ?_ (by ((repeat refine (upd_other _ _ (by omega)).trans ?_); first | exact hf _ (by omega) | exact hfL8 _ (by omega) | exact hfL9 _ (by omega))) | refine sub_trans ?_ hsL9 | refine sub_trans ?_ hsL8 | refine sub_over (by assumption) | refine sub_over0 ?_ | refine sub_trans (sub_same (by assumption)) ?_ | refine sub_dropu ?_ | refine sub_drop ?_ | refine sub_put ?_ (by repeat (first | assumption | exact upd_same _ _ _ | refine (upd_other _ _ (by omega)).trans ?_ | refine hsL9 _ _ ?_ | refine hsL8 _ _ ?_)))))) (by omega) (fun x hx => hb x (List.mem_of_mem_drop hx)) (by omega)) ?_
      rintro _ H2 k2 ⟨q2, vs2, h2a, h2b, rfl, hsL9, hfL9, hq2, hL2⟩
      have hv2 := hL2.len
      refine ⟨by (repeat (first | exact sub_refl _ | assumption | refine sub_upd' ?_ (by ((repeat refine (upd_other _ _ (by omega)).trans ?_); first | exact hf _ (by omega) | exact hfL8 _ (by omega) | exact hfL9 _ (by omega))) | refine sub_trans ?_ hsL9 | refine sub_trans ?_ hsL8 | refine sub_over (by assumption) | refine sub_over0 ?_ | refine sub_trans (sub_same (by assumption)) ?_ | refine sub_dropu ?_ | refine sub_drop ?_ | refine sub_put ?_ (by repeat (first | assumption | exact upd_same _ _ _ | refine (upd_other _ _ (by omega)).trans ?_ | refine hsL9 _ _ ?_ | refine hsL8 _ _ ?_)))), ?_⟩
      refine aOpsF_1 [23, 27] rfl rfl (by kernel_rfl) rfl (AOp.append' (b := { cells := vs1, elem := 22, kind := .grow }) (m := vs2.length) (news := vs2) rfl rfl rfl (hsL9 _ _ hq1) (srcOf_grow (b := { cells := vs2, elem := 22, kind := .grow }) hq2 rfl (by simp)) rfl rfl rfl (by simp) srcOk_sl (Lvs.one hL2) (by omega) (by omega) ?_)
      refine ⟨by (repeat (first | exact sub_refl _ | assumption | refine sub_upd' ?_ (by ((repeat refine (upd_other _ _ (by omega)).trans ?_); first | exact hf _ (by omega) | exact hfL8 _ (by omega) | exact hfL9 _ (by omega))) | refine sub_trans ?_ hsL9 | refine sub_trans ?_ hsL8 | refine sub_over (by assumption) | refine sub_over0 ?_ | refine sub_trans (sub_same (by assumption)) ?_ | refine sub_dropu ?_ | refine sub_drop ?_ | refine sub_put ?_ (by repeat (first | assumption | exact upd_same _ _ _ | refine (upd_other _ _ (by omega)).trans ?_ | refine hsL9 _ _ ?_ | refine hsL8 _ _ ?_)))), ?_⟩
      refine aOpsF_1 [28] rfl rfl (by kernel_rfl) rfl (AOp.move' (.inr rfl) rfl ?_)
      refine ⟨by (repeat (first | exact sub_refl _ | assumption | refine sub_upd' ?_ (by ((repeat refine (upd_other _ _ (by omega)).trans ?_); first | exact hf _ (by omega) | exact hfL8 _ (by omega) | exact hfL9 _ (by omega))) | refine sub_trans ?_ hsL9 | refine sub_trans ?_ hsL8 | refine sub_over (by assumption) | refine sub_over0 ?_ | refine sub_trans (sub_same (by assumption)) ?_ | refine sub_dropu ?_ | refine sub_drop ?_ | refine sub_put ?_ (by repeat (first | assumption | exact upd_same _ _ _ | refine (upd_other _ _ (by omega)).trans ?_ | refine hsL9 _ _ ?_ | refine hsL8 _ _ ?_)))), ?_⟩
      refine aOpsF_end ?_
      show ACode _ _ _ _ _ _
      refine ACode.seq ?_
      obtain ⟨A7_3, c7_3, hq7_3, hs7_3⟩ := SLC.cutL hs (spN vs.length) none (by omega) (by intro x hx; cases hx <;> omega)
      obtain ⟨A7_7, c7_7, hq7_7, hs7_7⟩ := SLC.cutR hs (spN vs.length) none (by omega) (by intro x hx; cases hx <;> omega)
      refine ACode.drawF (Hq := H) [(0, 29), (1, 30), (2, 31), (3, 32), (5, 34), (6, 35), (7, 36)] [4, 8, 9, 10, 11, 12] mixed (by kernel_rfl) (by (repeat (first | exact sub_refl _ | assumption | refine sub_upd' ?_ (by ((repeat refine (upd_other _ _ (by omega)).trans ?_); first | exact hf _ (by omega) | exact hfL8 _ (by omega) | exact hfL9 _ (by omega))) | refine sub_trans ?_ hsL9 | refine sub_trans ?_ hsL8 | refine sub_over (by assumption) | refine sub_over0 ?_ | refine sub_trans (sub_same (by assumption)) ?_ | refine sub_dropu ?_ | refine sub_drop ?_ | refine sub_put ?_ (by repeat (first | assumption | exact upd_same _ _ _ | refine (upd_other _ _ (by omega)).trans ?_ | refine hsL9 _ _ ?_ | refine hsL8 _ _ ?_))))) ?_
      refine DrawF.q 0 29 [(4, none)] rfl (by kernel_rfl) rfl (fun Hc kq hSb => AOp.move' (.inl rfl) rfl ⟨rfl, rfl, rfl⟩) ?_
      refine DrawF.q 1 30 [(0, none)] rfl (by kernel_rfl) rfl (fun Hc kq hSb => AOp.move' (.inl rfl) rfl ⟨rfl, rfl, rfl⟩) ?_
      refine DrawF.q 2 31 [(3, none)] rfl (by kernel_rfl) rfl (fun Hc kq hSb => AOp.move' (.inl rfl) rfl ⟨rfl, rfl, rfl⟩) ?_
      refine DrawF.q 3 32 [(30, some 1), (31, some 2)] rfl (by kernel_rfl) rfl (fun Hc kq hSb => AOp.cutQ (aslice_sub (by (repeat (first | exact sub_refl _ | assumption | refine sub_upd' ?_ (by ((repeat refine (upd_other _ _ (by omega)).trans ?_); first | exact hf _ (by omega) | exact hfL8 _ (by omega) | exact hfL9 _ (by omega))) | refine sub_trans ?_ hSb | refine sub_trans ?_ hsL9 | refine sub_trans ?_ hsL8 | refine sub_over (by assumption) | refine sub_over0 ?_ | refine sub_trans (sub_same (by assumption)) ?_ | refine sub_dropu ?_ | refine sub_drop ?_ | refine sub_put ?_ (by repeat (first | assumption | exact upd_same _ _ _ | refine (upd_other _ _ (by omega)).trans ?_ | refine hSb _ _ ?_ | refine hsL9 _ _ ?_ | refine hsL8 _ _ ?_))))) hq7_3) rfl rfl (bnd_no rfl) (bnd_at rfl rfl) mx_no ⟨rfl, rfl, rfl⟩) ?_
      refine DrawF.q 5 34 [(0, none)] rfl (by kernel_rfl) rfl (fun Hc kq hSb => AOp.move' (.inl rfl) rfl ⟨rfl, rfl, rfl⟩) ?_
      refine DrawF.q 6 35 [(3, none)] rfl (by kernel_rfl) rfl (fun Hc kq hSb => AOp.move' (.inl rfl) rfl ⟨rfl, rfl, rfl⟩) ?_
      refine DrawF.q 7 36 [(34, some 5), (35, some 6)] rfl (by kernel_rfl) rfl (fun Hc kq hSb => AOp.cutQ (aslice_sub (by (repeat (first | exact sub_refl _ | assumption | refine sub_upd' ?_ (by ((repeat refine (upd_other _ _ (by omega)).trans ?_); first | exact hf _ (by omega) | exact hfL8 _ (by omega) | exact hfL9 _ (by omega))) | refine sub_trans ?_ hSb | refine sub_trans ?_ hsL9 | refine sub_trans ?_ hsL8 | refine sub_over (by assumption) | refine sub_over0 ?_ | refine sub_trans (sub_same (by assumption)) ?_ | refine sub_dropu ?_ | refine sub_drop ?_ | refine sub_put ?_ (by repeat (first | assumption | exact upd_same _ _ _ | refine (upd_other _ _ (by omega)).trans ?_ | refine hSb _ _ ?_ | refine hsL9 _ _ ?_ | refine hsL8 _ _ ?_))))) hq7_7) rfl rfl (bnd_at rfl rfl) (bnd_no rfl) mx_no ⟨rfl, rfl, rfl⟩) ?_
      refine DrawF.done ?_
      show aOpsF _ _ _ _ _ _ [4, 8, 9, 10, 11, 12] ⟨_, _, _⟩
      refine aOpsF_1 [32] rfl rfl (by kernel_rfl) rfl ?_
      refine AOp.call' rfl rfl rfl (refroot_b (vs.length + 1) (ls.take (spN vs.length)) (vs.take (spN vs.length)) A7_3 c7_3 _ _ (by repeat (first | assumption | exact upd_same _ _ _ | refine (upd_other _ _ (by omega)).trans ?_ | refine hsL9 _ _ ?_ | refine hsL8 _ _ ?_)) (hs7_3.sub (by (repeat (first | exact sub_refl _ | assumption | refine sub_upd' ?_ (by ((repeat refine (upd_other _ _ (by omega)).trans ?_); first | exact hf _ (by omega) | exact hfL8 _ (by omega) | exact hfL9 _ (by omega))) | refine sub_trans ?_ hsL9 | refine sub_trans ?_ hsL8 | refine sub_over (by assumption) | refine sub_over0 ?_ | refine sub_trans (sub_same (by assumption)) ?_ | refine sub_dropu ?_ | refine sub_drop ?_ | refine sub_put ?_ (by repeat (first | assumption | exact upd_same _ _ _ | refine (upd_other _ _ (by omega)).trans ?_ | refine hsL9 _ _ ?_ | refine hsL8 _ _ ?_)))))) ((hL.take _).sub (by (repeat (first | exact sub_refl _ | assumption | refine sub_upd' ?_ (by ((repeat refine (upd_other _ _ (by omega)).trans ?_); first | exact hf _ (by omega) | exact hfL8 _ (by omega) | exact hfL9 _ (by omega))) | refine sub_trans ?_ hsL9 | refine sub_trans ?_ hsL8 | refine sub_over (by assumption) | refine sub_over0 ?_ | refine sub_trans (sub_same (by assumption)) ?_ | refine sub_dropu ?_ | refine sub_drop ?_ | refine sub_put ?_ (by repeat (first | assumption | exact upd_same _ _ _ | refine (upd_other _ _ (by omega)).trans ?_ | refine hsL9 _ _ ?_ | refine hsL8 _ _ ?_)))))) (by omega) (fun x hx => hb x (List.mem_of_mem_take hx)) (by omega)) ?_
      rintro _ _ ka ⟨rfl, rfl, hka⟩
      refine ⟨by (repeat (first | exact sub_refl _ | assumption | refine sub_upd' ?_ (by ((repeat refine (upd_other _ _ (by omega)).trans ?_); first | exact hf _ (by omega) | exact hfL8 _ (by omega) | exact hfL9 _ (by omega))) | refine sub_trans ?_ hsL9 | refine sub_trans ?_ hsL8 | refine sub_over (by assumption) | refine sub_over0 ?_ | refine sub_trans (sub_same (by assumption)) ?_ | refine sub_dropu ?_ | refine sub_drop ?_ | refine sub_put ?_ (by repeat (first | assumption | exact upd_same _ _ _ | refine (upd_other _ _ (by omega)).trans ?_ | refine hsL9 _ _ ?_ | refine hsL8 _ _ ?_)))), ?_⟩
      refine aOpsF_1 [36] rfl rfl (by kernel_rfl) rfl ?_
      refine AOp.call' rfl rfl rfl (refroot_b (vs.length + 1) (ls.drop (spN vs.length)) (vs.drop (spN vs.length)) A7_7 c7_7 _ _ (by repeat (first | assumption | exact upd_same _ _ _ | refine (upd_other _ _ (by omega)).trans ?_ | refine hsL9 _ _ ?_ | refine hsL8 _ _ ?_)) (hs7_7.sub (by (repeat (first | exact sub_refl _ | assumption | refine sub_upd' ?_ (by ((repeat refine (upd_other _ _ (by omega)).trans ?_); first | exact hf _ (by omega) | exact hfL8 _ (by omega) | exact hfL9 _ (by omega))) | refine sub_trans ?_ hsL9 | refine sub_trans ?_ hsL8 | refine sub_over (by assumption) | refine sub_over0 ?_ | refine sub_trans (sub_same (by assumption)) ?_ | refine sub_dropu ?_ | refine sub_drop ?_ | refine sub_put ?_ (by repeat (first | assumption | exact upd_same _ _ _ | refine (upd_other _ _ (by omega)).trans ?_ | refine hsL9 _ _ ?_ | refine hsL8 _ _ ?_)))))) ((hL.drop _).sub (by (repeat (first | exact sub_refl _ | assumption | refine sub_upd' ?_ (by ((repeat refine (upd_other _ _ (by omega)).trans ?_); first | exact hf _ (by omega) | exact hfL8 _ (by omega) | exact hfL9 _ (by omega))) | refine sub_trans ?_ hsL9 | refine sub_trans ?_ hsL8 | refine sub_over (by assumption) | refine sub_over0 ?_ | refine sub_trans (sub_same (by assumption)) ?_ | refine sub_dropu ?_ | refine sub_drop ?_ | refine sub_put ?_ (by repeat (first | assumption | exact upd_same _ _ _ | refine (upd_other _ _ (by omega)).trans ?_ | refine hsL9 _ _ ?_ | refine hsL8 _ _ ?_)))))) (by omega) (fun x hx => hb x (List.mem_of_mem_drop hx)) (by omega)) ?_
      rintro _ _ kb ⟨rfl, rfl, hkb⟩
      refine ⟨by (repeat (first | exact sub_refl _ | assumption | refine sub_upd' ?_ (by ((repeat refine (upd_other _ _ (by omega)).trans ?_); first | exact hf _ (by omega) | exact hfL8 _ (by omega) | exact hfL9 _ (by omega))) | refine sub_trans ?_ hsL9 | refine sub_trans ?_ hsL8 | refine sub_over (by assumption) | refine sub_over0 ?_ | refine sub_trans (sub_same (by assumption)) ?_ | refine sub_dropu ?_ | refine sub_drop ?_ | refine sub_put ?_ (by repeat (first | assumption | exact upd_same _ _ _ | refine (upd_other _ _ (by omega)).trans ?_ | refine hsL9 _ _ ?_ | refine hsL8 _ _ ?_)))), ?_⟩
      refine aOpsF_1 [33, 37] rfl rfl (by kernel_rfl) rfl ?_
      refine AOp.call' rfl rfl rfl (ofNode_b _ _ _ _) ?_
      rintro _ _ k3 ⟨q3, h3a, h3b, rfl, rfl⟩
      refine ⟨by (repeat (first | exact sub_refl _ | assumption | refine sub_upd' ?_ (by ((repeat refine (upd_other _ _ (by omega)).trans ?_); first | exact hf _ (by omega) | exact hfL8 _ (by omega) | exact hfL9 _ (by omega))) | refine sub_trans ?_ hsL9 | refine sub_trans ?_ hsL8 | refine sub_over (by assumption) | refine sub_over0 ?_ | refine sub_trans (sub_same (by assumption)) ?_ | refine sub_dropu ?_ | refine sub_drop ?_ | refine sub_put ?_ (by repeat (first | assumption | exact upd_same _ _ _ | refine (upd_other _ _ (by omega)).trans ?_ | refine hsL9 _ _ ?_ | refine hsL8 _ _ ?_)))), ?_⟩
      refine aOpsF_1 [38] rfl rfl (by kernel_rfl) rfl (AOp.buildG1 (vals := [_]) rfl (by decide) rfl rfl (by intro u hu; simp at hu; first | (rcases hu with rfl | rfl | rfl <;> rfl) | (rcases hu with rfl | rfl <;> rfl) | (subst hu; rfl) | (rcases hu with rfl | rfl | rfl | rfl <;> rfl)) ?_)
      refine ⟨by (repeat (first | exact sub_refl _ | assumption | refine sub_upd' ?_ (by ((repeat refine (upd_other _ _ (by omega)).trans ?_); first | exact hf _ (by omega) | exact hfL8 _ (by omega) | exact hfL9 _ (by omega))) | refine sub_trans ?_ hsL9 | refine sub_trans ?_ hsL8 | refine sub_over (by assumption) | refine sub_over0 ?_ | refine sub_trans (sub_same (by assumption)) ?_ | refine sub_dropu ?_ | refine sub_drop ?_ | refine sub_put ?_ (by repeat (first | assumption | exact upd_same _ _ _ | refine (upd_other _ _ (by omega)).trans ?_ | refine hsL9 _ _ ?_ | refine hsL8 _ _ ?_)))), ?_⟩
      refine aOpsF_1 [29, 39] rfl rfl (by kernel_rfl) rfl (AOp.append' (b := { cells := (vs1 ++ vs2), elem := 22, kind := .grow }) (m := 1) (news := [gsl q3 (nodeB (root (ls.take (spN vs.length))) (root (ls.drop (spN vs.length)))).length]) rfl rfl rfl (by repeat (first | assumption | exact upd_same _ _ _ | refine (upd_other _ _ (by omega)).trans ?_ | refine hsL9 _ _ ?_ | refine hsL8 _ _ ?_)) (srcOf_grow (b := { cells := [gsl q3 (nodeB (root (ls.take (spN vs.length))) (root (ls.drop (spN vs.length)))).length], elem := 22, kind := .grow }) (by repeat (first | assumption | exact upd_same _ _ _ | refine (upd_other _ _ (by omega)).trans ?_ | refine hsL9 _ _ ?_ | refine hsL8 _ _ ?_)) rfl rfl) rfl rfl rfl (by simp) srcOk_sl (by intro u hu; simp at hu; subst hu; rfl) (by omega) (by omega) ?_)
      refine ⟨by (repeat (first | exact sub_refl _ | assumption | refine sub_upd' ?_ (by ((repeat refine (upd_other _ _ (by omega)).trans ?_); first | exact hf _ (by omega) | exact hfL8 _ (by omega) | exact hfL9 _ (by omega))) | refine sub_trans ?_ hsL9 | refine sub_trans ?_ hsL8 | refine sub_over (by assumption) | refine sub_over0 ?_ | refine sub_trans (sub_same (by assumption)) ?_ | refine sub_dropu ?_ | refine sub_drop ?_ | refine sub_put ?_ (by repeat (first | assumption | exact upd_same _ _ _ | refine (upd_other _ _ (by omega)).trans ?_ | refine hsL9 _ _ ?_ | refine hsL8 _ _ ?_)))), ?_⟩
      refine aOpsF_1 [40] rfl rfl (by kernel_rfl) rfl (AOp.move' (.inr rfl) rfl ?_)
      refine ⟨by (repeat (first | exact sub_refl _ | assumption | refine sub_upd' ?_ (by ((repeat refine (upd_other _ _ (by omega)).trans ?_); first | exact hf _ (by omega) | exact hfL8 _ (by omega) | exact hfL9 _ (by omega))) | refine sub_trans ?_ hsL9 | refine sub_trans ?_ hsL8 | refine sub_over (by assumption) | refine sub_over0 ?_ | refine sub_trans (sub_same (by assumption)) ?_ | refine sub_dropu ?_ | refine sub_drop ?_ | refine sub_put ?_ (by repeat (first | assumption | exact upd_same _ _ _ | refine (upd_other _ _ (by omega)).trans ?_ | refine hsL9 _ _ ?_ | refine hsL8 _ _ ?_)))), ?_⟩
      refine aOpsF_end ?_
      show ACode _ _ _ _ _ _
      refine ACode.ret ?_
      refine RetQ.one rfl rfl (sub_refl _) (stays_sub (by (repeat (first | exact sub_refl _ | assumption | refine sub_upd' ?_ (by ((repeat refine (upd_other _ _ (by omega)).trans ?_); first | exact hf _ (by omega) | exact hfL8 _ (by omega) | exact hfL9 _ (by omega))) | refine sub_trans ?_ hsL9 | refine sub_trans ?_ hsL8 | refine sub_over (by assumption) | refine sub_over0 ?_ | refine sub_trans (sub_same (by assumption)) ?_ | refine sub_dropu ?_ | refine sub_drop ?_ | refine sub_put ?_ (by repeat (first | assumption | exact upd_same _ _ _ | refine (upd_other _ _ (by omega)).trans ?_ | refine hsL9 _ _ ?_ | refine hsL8 _ _ ?_)))))) (fun hk => ⟨q1, vs1 ++ vs2 ++ [gsl q3 (nodeB (root (ls.take (spN vs.length))) (root (ls.drop (spN vs.length)))).length], by omega, by omega, ?_, by (repeat (first | exact sub_refl _ | assumption | refine sub_upd' ?_ (by ((repeat refine (upd_other _ _ (by omega)).trans ?_); first | exact hf _ (by omega) | exact hfL8 _ (by omega) | exact hfL9 _ (by omega))) | refine sub_trans ?_ hsL9 | refine sub_trans ?_ hsL8 | refine sub_over (by assumption) | refine sub_over0 ?_ | refine sub_trans (sub_same (by assumption)) ?_ | refine sub_dropu ?_ | refine sub_drop ?_ | refine sub_put ?_ (by repeat (first | assumption | exact upd_same _ _ _ | refine (upd_other _ _ (by omega)).trans ?_ | refine hsL9 _ _ ?_ | refine hsL8 _ _ ?_)))), ?_, upd_same _ _ _, ?_⟩)
      · first | rfl | (simp; done) | (simp; omega)
      · intro n hn; (repeat refine (upd_other _ _ (by omega)).trans ?_); first | exact hf _ (by omega) | exact hfL9 _ (by omega)
      · rw [htx]
        refine Lvs.append (Lvs.append (hL1.sub (resH_into (fun n b g1 g2 hn => ?_) (by omega) (fun _ _ _ h _ => h))) (hL2.sub (resH_into (fun n b g1 g2 hn => ?_) (by omega) (fun n b g1 g2 hn => by omega)))) (Lvs.cons (SLC.gb (e := 5) (bs := (nodeB (root (ls.take (spN vs.length))) (root (ls.drop (spN vs.length))))) (resH_of (b := gb (nodeB (root (ls.take (spN vs.length))) (root (ls.drop (spN vs.length))))) ?_ (by omega) (by omega))) Lvs.nil)
        · have hn1 : n < k1 := Nat.lt_of_not_le fun h => by rw [hfL8 n h] at hn; cases hn
          (repeat refine (upd_other _ _ (by omega)).trans ?_); exact hsL9 _ _ hn
        · have hn1 : n < k2 := Nat.lt_of_not_le fun h => by rw [hfL9 n h] at hn; cases hn
          (repeat refine (upd_other _ _ (by omega)).trans ?_); exact hn
        · (repeat refine (upd_other _ _ (by omega)).trans ?_); exact upd_same _ _ _
end

end Go.Proofs.YtlbcgadmcjobiaaDoor
