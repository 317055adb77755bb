/- Contracts over the abstract states: whether a proof is one. -/
import Derived.Test.YtipaiielkpifoaaDoorS27
set_option linter.unusedVariables false
set_option linter.unusedSimpArgs false
set_option maxRecDepth 100000
namespace Go.Proofs.YtipaiielkpifoaaDoor
open Go Go.Ab

section
variable {m n : Int} {a b : Dg} {p : List Dg}
theorem checkZ_no (h : ¬ (mayZ m n = true ∧ (p.length : Int) = sizeZ m n)) : checkZ m n a b p = false := by
  unfold checkZ
  by_cases hm : mayZ m n = true
  · rw [if_pos hm]
    have hs : ¬ (p.length : Int) = sizeZ m n := fun e => h ⟨hm, e⟩
    rw [sizeZ, if_pos hm] at hs
    by_cases h0 : m = 0
    · rw [if_pos h0] at hs
      rw [if_pos h0]
      exact decide_eq_false fun e => hs (by rw [e.1]; rfl)
    · rw [if_neg h0] at hs
      rw [if_neg h0]
      exact decide_eq_false fun e => hs (by rw [e.1])
  · rw [if_neg hm]
theorem checkZ_0 (h1 : mayZ m n = true) (h0 : m = 0) (hl : (p.length : Int) = sizeZ m n) : checkZ m n a b p = decide (a = root []) := by
  rw [sizeZ, if_pos h1, if_pos h0] at hl
  rw [checkZ, if_pos h1, if_pos h0, root_nil]
  congr 1
  rw [eq_iff_iff]
  exact ⟨fun h => h.2, fun h => ⟨by omega, h⟩⟩
theorem sizeZ_nat {x y : Nat} (h1 : mayZ (x : Int) (y : Int) = true) (h0 : x ≠ 0) : sizeZ (x : Int) (y : Int) = (sizeN x y false : Int) := by
  rw [sizeZ, if_pos h1, if_neg (by omega), Int.toNat_natCast, Int.toNat_natCast]
theorem checkZ_n {x y : Nat} (h1 : mayZ (x : Int) (y : Int) = true) (h0 : x ≠ 0) (hl : p.length = sizeN x y false) : checkZ (x : Int) (y : Int) a b p = decide (putT x y a p false = (a, b)) := by
  rw [checkZ, if_pos h1, if_neg (by omega), Int.toNat_natCast, Int.toNat_natCast]
  congr 1
  rw [eq_iff_iff]
  exact ⟨fun h => h.2, fun h => ⟨hl, h⟩⟩
end
section
variable (H : Hp) (k : Nat)

theorem check_b (ht : H 0 = some tabBlk) (m n : Int) (hm1 : -9223372036854775808 ≤ m) (hm2 : m ≤ 9223372036854775807) (hn1 : -9223372036854775808 ≤ n) (hn2 : n ≤ 9223372036854775807) (a b : Dg) (p : List Dg) (A : Option Addr) (c : Nat) (hs : SLC H 32 A p.length c (hcs p)) (hpl : p.length ≤ 9223372036854775807) : ACalls Tryd.prog 1 38 [.int .i64 m, .int .i64 n, hv a, hv b, .slice A p.length c] H k (Same H k (.bool (checkZ m n a b p))) := by
  refine ACalls.fresh fun hf => ?_
  refine ACalls.body Tryd.func38 rfl (Nat.le_of_ble_eq_true rfl) ?_
  have h0k := old_lt hf ht
  refine ACode.seq ?_
  refine ACode.region' [0, 1, 2] (by kernel_rfl) rfl ?_
  refine aOps_1 rfl rfl rfl (AOp.boxV rfl rfl ?_)
  refine aOps_1 rfl rfl rfl (AOp.boxV rfl rfl ?_)
  refine aOps_1 rfl rfl rfl (AOp.move' (.inr rfl) rfl ?_)
  refine aOps_end ?_
  show ACode _ _ _ _ _ _
  refine ACode.seq ?_
  refine ACode.block ?_
  refine ACode.seq ?_
  refine ACode.region' [0, 1, 2, 3, 4, 5, 6, 7, 8, 9, 10, 11, 12] (by kernel_rfl) rfl ?_
  refine aOps_1 rfl rfl rfl (AOp.move' (.inl rfl) rfl ?_)
  refine aOps_1 rfl rfl rfl (AOp.move' (.inl rfl) rfl ?_)
  refine aOps_q rfl rfl rfl (AOp.call' rfl rfl rfl (may_b _ _ m n hm1 hm2 hn1 hn2) (fun _ _ _ h => h)) (fun kq hkq => ?_)
  refine aOps_1 rfl rfl rfl (AOp.un' rfl rfl rfl ?_)
  refine aOps_1 rfl rfl rfl (AOp.move' (.inl rfl) rfl ?_)
  refine aOps_gd0 rfl rfl (wantF rfl rfl rfl) (fun hc => AOp.slots [(4, _)] (.cons rfl .nil) (AOp.move' (.inl rfl) rfl ⟨rfl, rfl, rfl⟩)) ?_
  refine aOps_gd0 rfl rfl (wantF rfl rfl rfl) (fun hc => AOp.slots [(17, _)] (.cons (gvT rfl hc) .nil) (AOp.len' rfl rfl ⟨rfl, rfl, rfl⟩)) ?_
  refine aOps_gd0 rfl rfl (wantF rfl rfl rfl) (fun hc => AOp.slots [(0, _)] (.cons rfl .nil) (AOp.move' (.inl rfl) rfl ⟨rfl, rfl, rfl⟩)) ?_
  refine aOps_gd0 rfl rfl (wantF rfl rfl rfl) (fun hc => AOp.slots [(1, _)] (.cons rfl .nil) (AOp.move' (.inl rfl) rfl ⟨rfl, rfl, rfl⟩)) ?_
  refine aOps_gd rfl rfl (wantF rfl rfl rfl) (fun hc => AOp.slots [(19, _), (20, _)] (.cons (gvT rfl hc) (.cons (gvT rfl hc) .nil)) (AOp.call' rfl rfl rfl (size_b _ _ m n hm1 hm2 hn1 hn2) (fun _ _ _ h => h))) (fun kq hkq => ?_)
  refine aOps_gd0 rfl rfl (wantF rfl rfl rfl) (fun hc => AOp.slots [(18, _), (21, _)] (.cons (gvT rfl hc) (.cons (gvT rfl hc) .nil)) (AOp.bin' rfl rfl rfl rfl ⟨rfl, rfl, rfl⟩)) ?_
  refine aOps_1 rfl rfl rfl (AOp.pickOr rfl rfl rfl (fun hb => gvE rfl (t_not hb)) ?_)
  refine aOps_1 rfl rfl rfl (AOp.move' (.inr rfl) rfl ?_)
  refine aOps_end ?_
  show ACode _ _ _ _ _ _
  refine ACode.cond rfl (fun c0 => ?_) (fun c0 => ?_)
  · try simp only [decide_eq_true_eq, decide_eq_false_iff_not, beq_iff_eq, beq_eq_false_iff_ne, ne_eq, bne_iff_ne, Bool.not_eq_true', Bool.not_eq_false', Int.not_lt, Int.not_le, gt_iff_lt, ge_iff_le, bne_eq_false_iff_eq, Bool.not_eq_eq_eq_not, Bool.not_true, Bool.not_false] at c0
    have hno : checkZ m n a b p = false := checkZ_no (by rintro ⟨e1, e2⟩; rw [e1, e2] at c0; simp at c0)
    refine ACode.seq ?_
    refine ACode.region' [0] (by kernel_rfl) rfl ?_
    refine aOps_1 rfl rfl rfl (AOp.move' (.inr rfl) rfl ?_)
    refine aOps_end ?_
    show ACode _ _ _ _ _ _
    refine ACode.ret ?_
    exact RetQ.one rfl rfl (by (repeat (first | exact sub_refl _ | assumption | refine sub_upd' ?_ (by ((repeat refine (upd_other _ _ (by omega)).trans ?_); first | exact hf _ (by omega))) | refine sub_over (by assumption) | refine sub_over0 ?_ | refine sub_trans (sub_same (by assumption)) ?_ | refine sub_dropu ?_ | refine sub_drop ?_ | refine sub_put ?_ (by repeat (first | assumption | exact upd_same _ _ _ | refine (upd_other _ _ (by omega)).trans ?_))))) stays (fun hk => ⟨(by rw [hno]), rfl, by omega⟩)
  · try simp only [decide_eq_true_eq, decide_eq_false_iff_not, beq_iff_eq, beq_eq_false_iff_ne, ne_eq, bne_iff_ne, Bool.not_eq_true', Bool.not_eq_false', Int.not_lt, Int.not_le, gt_iff_lt, ge_iff_le, bne_eq_false_iff_eq, Bool.not_eq_eq_eq_not, Bool.not_true, Bool.not_false] at c0
    simp only [Bool.or_eq_false_iff, Bool.not_eq_false', bne_eq_false_iff_eq] at c0
    obtain ⟨hmy, hsz⟩ := c0
    have hmz := hmy
    unfold mayZ at hmz
    rw [decide_eq_true_eq] at hmz
    refine ACode.seq ?_
    refine ACode.region' [0, 1, 2] (by kernel_rfl) rfl ?_
    refine aOps_1 rfl rfl rfl (AOp.move' (.inl rfl) rfl ?_)
    refine aOps_1 rfl rfl rfl (AOp.bin' rfl rfl rfl rfl ?_)
    refine aOps_1 rfl rfl rfl (AOp.move' (.inr rfl) rfl ?_)
    refine aOps_end ?_
    show ACode _ _ _ _ _ _
    refine ACode.cond rfl (fun c1 => ?_) (fun c1 => ?_)
    · try simp only [decide_eq_true_eq, decide_eq_false_iff_not, beq_iff_eq, beq_eq_false_iff_ne, ne_eq, bne_iff_ne, Bool.not_eq_true', Bool.not_eq_false', Int.not_lt, Int.not_le, gt_iff_lt, ge_iff_le, bne_eq_false_iff_eq, Bool.not_eq_eq_eq_not, Bool.not_true, Bool.not_false] at c1
      refine ACode.seq ?_
      refine ACode.draw' 4 [(0, 27), (1, 28), (2, 29), (3, 10)] mixed (by kernel_rfl) ?_
      refine Draw.step [(7, none)] rfl (by kernel_rfl) rfl (fun kq hkq => (by refine AOp.loadAll (b := ?b1) (v := hv a) rfl rfl ?hn1 ?hv1 ?hw1 ?hz1 ?hR1; (case hn1 => repeat (first | assumption | exact upd_same _ _ _ | refine (upd_other _ _ (by omega)).trans ?_)); (case hv1 => rfl); (case hw1 => rfl); (case hz1 => first | rfl | exact hv_size _ | exact hcs_one _ | exact (aw_size _).trans rfl | exact one_wv _ | exact one_bv _ | exact rv_size _ | exact bvv_size _ | exact rcs_arr _ _ _ rfl | exact rcs_one _ _ _ rfl | (rw [rcs_len]; rfl) | (simp; done)); exact ⟨rfl, rfl, Nat.le_refl _⟩)) ?_
      refine Draw.step [] rfl (by kernel_rfl) rfl (fun kq hkq => AOp.call' rfl rfl rfl (root_b 1 [] [] none 0 _ _ (by repeat (first | assumption | exact upd_same _ _ _ | refine (upd_other _ _ (by omega)).trans ?_)) SLC.nil Lvs.nil (by decide) (fun x hx => by cases hx) (by decide)) (fun _ _ _ h => h)) ?_
      refine Draw.step [(27, some 0), (28, some 1)] rfl (by kernel_rfl) rfl (fun kq hkq => AOp.eqAgg (decide (a = root [])) rfl rfl rfl (hv_sc _) (hv_sc _) (hv_iff _ _) ⟨rfl, rfl, Nat.le_refl _⟩) ?_
      refine Draw.step [(29, some 2)] rfl (by kernel_rfl) rfl (fun kq hkq => AOp.move' (.inr rfl) rfl ⟨rfl, rfl, Nat.le_refl _⟩) ?_
      refine Draw.done fun kq hkq => ?_
      show aOps _ _ _ _ [] ⟨_, _, _⟩
      refine aOps_end ?_
      show ACode _ _ _ _ _ _
      refine ACode.ret ?_
      exact RetQ.one rfl rfl (by (repeat (first | exact sub_refl _ | assumption | refine sub_upd' ?_ (by ((repeat refine (upd_other _ _ (by omega)).trans ?_); first | exact hf _ (by omega))) | refine sub_over (by assumption) | refine sub_over0 ?_ | refine sub_trans (sub_same (by assumption)) ?_ | refine sub_dropu ?_ | refine sub_drop ?_ | refine sub_put ?_ (by repeat (first | assumption | exact upd_same _ _ _ | refine (upd_other _ _ (by omega)).trans ?_))))) stays (fun hk => ⟨(by rw [checkZ_0 hmy (by omega) (by omega)]; rfl), rfl, by omega⟩)
    · try simp only [decide_eq_true_eq, decide_eq_false_iff_not, beq_iff_eq, beq_eq_false_iff_ne, ne_eq, bne_iff_ne, Bool.not_eq_true', Bool.not_eq_false', Int.not_lt, Int.not_le, gt_iff_lt, ge_iff_le, bne_eq_false_iff_eq, Bool.not_eq_eq_eq_not, Bool.not_true, Bool.not_false] at c1
      obtain ⟨x, rfl⟩ : ∃ x : Nat, m = x := ⟨m.toNat, by omega⟩
      obtain ⟨y, rfl⟩ : ∃ y : Nat, n = y := ⟨n.toNat, by omega⟩
      rw [sizeZ_nat hmy (by omega)] at hsz
      have hsn : p.length = sizeN x y false := by omega
      refine ACode.skip ?_
      show ACode _ _ _ _ _ _
      refine ACode.seq ?_
      refine ACode.draw' 10 [(0, 30), (1, 31), (2, 32), (3, 33), (4, 34), (5, 35), (6, 36), (7, 37), (8, 38), (9, 10)] mixed (by kernel_rfl) ?_
      refine Draw.step [(0, none)] rfl (by kernel_rfl) rfl (fun kq hkq => AOp.move' (.inl rfl) rfl ⟨rfl, rfl, Nat.le_refl _⟩) ?_
      refine Draw.step [(1, none)] rfl (by kernel_rfl) rfl (fun kq hkq => AOp.move' (.inl rfl) rfl ⟨rfl, rfl, Nat.le_refl _⟩) ?_
      refine Draw.step [(7, none)] rfl (by kernel_rfl) rfl (fun kq hkq => (by refine AOp.loadAll (b := ?b2) (v := hv a) rfl rfl ?hn2 ?hv2 ?hw2 ?hz2 ?hR2; (case hn2 => repeat (first | assumption | exact upd_same _ _ _ | refine (upd_other _ _ (by omega)).trans ?_)); (case hv2 => rfl); (case hw2 => rfl); (case hz2 => first | rfl | exact hv_size _ | exact hcs_one _ | exact (aw_size _).trans rfl | exact one_wv _ | exact one_bv _ | exact rv_size _ | exact bvv_size _ | exact rcs_arr _ _ _ rfl | exact rcs_one _ _ _ rfl | (rw [rcs_len]; rfl) | (simp; done)); exact ⟨rfl, rfl, Nat.le_refl _⟩)) ?_
      refine Draw.step [(4, none)] rfl (by kernel_rfl) rfl (fun kq hkq => AOp.move' (.inl rfl) rfl ⟨rfl, rfl, Nat.le_refl _⟩) ?_
      refine Draw.step [(30, some 0), (31, some 1), (32, some 2), (33, some 3)] rfl (by kernel_rfl) rfl (fun kq hkq => AOp.call' rfl rfl rfl (put_b (y + 1) x y a p false A c _ _ (by repeat (first | assumption | exact upd_same _ _ _ | refine (upd_other _ _ (by omega)).trans ?_)) (hs.sub (by (repeat (first | exact sub_refl _ | assumption | refine sub_upd' ?_ (by ((repeat refine (upd_other _ _ (by omega)).trans ?_); first | exact hf _ (by omega))) | refine sub_over (by assumption) | refine sub_over0 ?_ | refine sub_trans (sub_same (by assumption)) ?_ | refine sub_dropu ?_ | refine sub_drop ?_ | refine sub_put ?_ (by repeat (first | assumption | exact upd_same _ _ _ | refine (upd_other _ _ (by omega)).trans ?_)))))) (by omega) (by omega) (by omega) hsn (by omega)) (fun _ _ _ h => h)) ?_
      refine Draw.step [(7, none)] rfl (by kernel_rfl) rfl (fun kq hkq => (by refine AOp.loadAll (b := ?b3) (v := hv a) rfl rfl ?hn3 ?hv3 ?hw3 ?hz3 ?hR3; (case hn3 => repeat (first | assumption | exact upd_same _ _ _ | refine (upd_other _ _ (by omega)).trans ?_)); (case hv3 => rfl); (case hw3 => rfl); (case hz3 => first | rfl | exact hv_size _ | exact hcs_one _ | exact (aw_size _).trans rfl | exact one_wv _ | exact one_bv _ | exact rv_size _ | exact bvv_size _ | exact rcs_arr _ _ _ rfl | exact rcs_one _ _ _ rfl | (rw [rcs_len]; rfl) | (simp; done)); exact ⟨rfl, rfl, Nat.le_refl _⟩)) ?_
      refine Draw.step [(8, none)] rfl (by kernel_rfl) rfl (fun kq hkq => (by refine AOp.loadAll (b := ?b4) (v := hv b) rfl rfl ?hn4 ?hv4 ?hw4 ?hz4 ?hR4; (case hn4 => repeat (first | assumption | exact upd_same _ _ _ | refine (upd_other _ _ (by omega)).trans ?_)); (case hv4 => rfl); (case hw4 => rfl); (case hz4 => first | rfl | exact hv_size _ | exact hcs_one _ | exact (aw_size _).trans rfl | exact one_wv _ | exact one_bv _ | exact rv_size _ | exact bvv_size _ | exact rcs_arr _ _ _ rfl | exact rcs_one _ _ _ rfl | (rw [rcs_len]; rfl) | (simp; done)); exact ⟨rfl, rfl, Nat.le_refl _⟩)) ?_
      refine Draw.step [(35, some 5), (36, some 6)] rfl (by kernel_rfl) rfl (fun kq hkq => AOp.buildR _ _ rfl (by simp) rfl ⟨rfl, rfl, Nat.le_refl _⟩) ?_
      refine Draw.step [(34, some 4), (37, some 7)] rfl (by kernel_rfl) rfl (fun kq hkq => AOp.eqAgg (decide (putT x y a p false = (a, b))) rfl rfl rfl (rv_sc _) (rv_sc (a, b)) (rv_iff _ _) ⟨rfl, rfl, Nat.le_refl _⟩) ?_
      refine Draw.step [(38, some 8)] rfl (by kernel_rfl) rfl (fun kq hkq => AOp.move' (.inr rfl) rfl ⟨rfl, rfl, Nat.le_refl _⟩) ?_
      refine Draw.done fun kq hkq => ?_
      show aOps _ _ _ _ [] ⟨_, _, _⟩
      refine aOps_end ?_
      show ACode _ _ _ _ _ _
      refine ACode.ret ?_
      exact RetQ.one rfl rfl (by (repeat (first | exact sub_refl _ | assumption | refine sub_upd' ?_ (by ((repeat refine (upd_other _ _ (by omega)).trans ?_); first | exact hf _ (by omega))) | refine sub_over (by assumption) | refine sub_over0 ?_ | refine sub_trans (sub_same (by assumption)) ?_ | refine sub_dropu ?_ | refine sub_drop ?_ | refine sub_put ?_ (by repeat (first | assumption | exact upd_same _ _ _ | refine (upd_other _ _ (by omega)).trans ?_))))) stays (fun hk => ⟨(by rw [checkZ_n hmy (by omega) hsn]; rfl), rfl, by omega⟩)

end

end Go.Proofs.YtipaiielkpifoaaDoor
