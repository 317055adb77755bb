/- Contracts over the abstract states: fixed numbers, heads, whether texts clash as the document says; what is found. -/
import Derived.Test.YtipaiielkpifoaaDoorL3
set_option linter.unusedVariables false
set_option linter.unusedSimpArgs false
set_option maxRecDepth 100000
namespace Go.Proofs.YtipaiielkpifoaaDoor
open Go Go.Ab

/-- A fixed number's bytes, the lowest first. -/
def fixT : Nat → Nat → List UInt8
  | _, 0 => []
  | v, n + 1 => UInt8.ofNat v :: fixT (v / 256) n
theorem fixT_len : ∀ (n v : Nat), (fixT v n).length = n
  | 0, v => rfl
  | n + 1, v => by rw [fixT, List.length_cons, fixT_len n]
theorem fixT_at : ∀ (n v i : Nat), i < n → (fixT v n).getD i 0 = UInt8.ofNat (v / 256 ^ i)
  | 0, v, i, h => by omega
  | n + 1, v, 0, h => by rw [fixT, Nat.pow_zero, Nat.div_one]; rfl
  | n + 1, v, i + 1, h => by
    have := fixT_at n (v / 256) i (by omega)
    rw [Nat.pow_succ, Nat.mul_comm, ← Nat.div_div_eq_div_mul, ← this]
    rfl
def szN (s : Int) : Nat := (s % 18446744073709551616).toNat
theorem szN_lt (s : Int) : szN s < 18446744073709551616 := by unfold szN; omega
theorem szN_wrap (s : Int) : IntKind.u64.wrap s = (szN s : Int) := by rw [IntKind.wrap_u64, szN]; omega
theorem ofNat_mod (x : Nat) : UInt8.ofNat (x % 256) = UInt8.ofNat x := UInt8.toNat_inj.1 (by rw [UInt8.toNat_ofNat', UInt8.toNat_ofNat']; omega)
abbrev fix8 (s : Int) : List UInt8 := fixT (szN s) 8
def headB (s : Int) (d : Dg) : List UInt8 := 3 :: (fix8 s ++ d.l)
def headD (s : Int) (d : Dg) : Dg := shaD (headB s d)
section
variable (H : Hp) (k : Nat)

theorem putFix_b (v : Nat) (hv : v < 18446744073709551616) : ACalls Tryd.prog 1 73 [.slice none 0 0, .int .u64 (v : Int), .int .i64 8] H k (NewB H k 5 (fixT v 8)) := by
  refine ACalls.fresh fun hf => ?_
  refine ACalls.body Tryd.func73 rfl (Nat.le_of_ble_eq_true rfl) ?_
  refine ACode.seq ?_
  refine ACode.region' [0] (by kernel_rfl) rfl ?_
  refine aOps_1 rfl rfl rfl (AOp.move' (.inr rfl) rfl ?_)
  refine aOps_end ?_
  show ACode _ _ _ _ _ _
  refine ACode.seq ?_
  refine ACode.seq ?_
  refine ACode.region' [0, 1, 2, 3] (by kernel_rfl) rfl ?_
  refine aOps_1 rfl rfl rfl (AOp.move' (.inl rfl) rfl ?_)
  refine aOps_1 rfl rfl rfl (AOp.min2 rfl rfl rfl ?_)
  refine aOps_1 rfl rfl rfl (AOp.max2 rfl rfl rfl ?_)
  rw [show max (0 : Int) (min 8 8) = 8 from rfl]
  refine aOps_1 rfl rfl rfl (AOp.move' (.inl rfl) rfl ?_)
  refine aOps_end ?_
  show ACode _ _ _ _ _ _
  refine ACode.block ?_
  refine ACode.adopt (t := 0) 5 1 (by decide) rfl ?_
  refine ACode.count (fun i => [(10, .int .i64 (i : Int)), (0, gsl k ((fixT v 8).take i).length), (1, .int .u64 ((v / 256 ^ i : Nat) : Int))]) [(2, _), (6, _), (7, _), (8, _), (9, _)] (fun i => upd H k (some (gb ((fixT v 8).take i)))) (8) (fun _ => True) (.cons rfl (.cons (show _ = some (gsl k _) by rw [List.take_zero]; rfl) (.cons (show _ = some (Value.int .u64 ((v / 256 ^ 0 : Nat) : Int)) by rw [Nat.pow_zero, Nat.div_one]; rfl) .nil))) (.cons rfl (.cons rfl (.cons rfl (.cons rfl (.cons rfl .nil))))) (by (repeat (first | exact sub_refl _ | assumption | refine sub_upd' ?_ (by ((repeat refine (upd_other _ _ (by omega)).trans ?_); first | exact hf _ (by omega))) | refine sub_over (by assumption) | refine sub_over0 ?_ | refine sub_trans (sub_same (by assumption)) ?_ | refine sub_dropu ?_ | refine sub_drop ?_ | refine sub_put ?_ (by repeat (first | assumption | exact upd_same _ _ _ | refine (upd_other _ _ (by omega)).trans ?_))))) trivial (fun i0 kL0 HL0 hiL0 hkL0 hsL0 hfL0 hxL0 => ?_)
  show ACode _ _ _ _ _ ⟨_, _, _⟩
  refine ACode.seq ?_
  refine ACode.region' [0] (by kernel_rfl) rfl ?_
  refine aOps_1 rfl rfl rfl (AOp.bin' rfl rfl rfl rfl ?_)
  refine aOps_end ?_
  show ACode _ _ _ _ _ _
  refine ACode.seq ?_
  refine ACode.cond rfl (fun c0 => ?_) (fun c0 => ?_)
  · try simp only [decide_eq_true_eq, decide_eq_false_iff_not, beq_iff_eq, beq_eq_false_iff_ne, ne_eq, bne_iff_ne, Bool.not_eq_true', Bool.not_eq_false', Int.not_lt, Int.not_le, gt_iff_lt, ge_iff_le, bne_eq_false_iff_eq, Bool.not_eq_eq_eq_not, Bool.not_true, Bool.not_false] at c0
    refine ACode.skip ?_
    show ACode _ _ _ _ _ _
    refine ACode.seq ?_
    refine ACode.block ?_
    refine ACode.seq ?_
    have hln : ((fixT v 8).take i0).length = i0 := by rw [List.length_take, fixT_len]; omega
    refine ACode.region' [0, 1, 2, 3, 4, 5] (by kernel_rfl) rfl ?_
    refine aOps_1 rfl rfl rfl (AOp.move' (.inl rfl) rfl ?_)
    refine aOps_1 rfl rfl rfl (AOp.move' (.inl rfl) rfl ?_)
    refine aOps_1 rfl rfl rfl (AOp.toU8 rfl rfl ?_)
    rw [byteI_nat]
    refine aOps_1 rfl rfl rfl (AOp.buildB [_] rfl (by decide) rfl rfl ?_)
    refine aOps_1 rfl rfl rfl ?_
    refine AOp.appendB (ps := ?ns1) rfl rfl rfl ?hn1 ?hsrc1 ?ht1 ?hw1 ?hz1 ?hR1
    (case hn1 => repeat (first | assumption | exact upd_same _ _ _ | refine (upd_other _ _ (by omega)).trans ?_ | refine hsL0 _ _ ?_))
    (case hsrc1 => refine srcOf_gb (e := 5) ?e11; (case e11 => repeat (first | assumption | exact upd_same _ _ _ | refine (upd_other _ _ (by omega)).trans ?_ | refine hsL0 _ _ ?_)))
    (case ht1 => exact srcOk_sl)
    (case hw1 => (first | omega | (simp only [List.length_cons, List.length_nil]; omega) | (simp only [List.length_append, List.length_cons, List.length_nil]; omega) | (simp; omega)))
    (case hz1 => (first | omega | (simp only [List.length_cons, List.length_nil]; omega) | (simp only [List.length_append, List.length_cons, List.length_nil]; omega) | (simp; omega)))
    refine aOps_1 rfl rfl rfl (AOp.move' (.inr rfl) rfl ?_)
    refine aOps_end ?_
    show ACode _ _ _ _ _ _
    refine ACode.region' [0, 1, 2] (by kernel_rfl) rfl ?_
    refine aOps_1 rfl rfl rfl (AOp.move' (.inl rfl) rfl ?_)
    refine aOps_1 rfl rfl rfl (AOp.bin' rfl rfl rfl rfl ?_)
    refine aOps_1 rfl rfl rfl (AOp.move' (.inr rfl) rfl ?_)
    refine aOps_end ?_
    show ACode _ _ _ _ _ _
    refine ACode.region' [0, 1] (by kernel_rfl) rfl ?_
    refine aOps_1 rfl rfl rfl (AOp.add rfl rfl rfl (i64_wrap (by omega) (by omega)) ?_)
    refine aOps_1 rfl rfl rfl (AOp.move' (.inl rfl) rfl ?_)
    refine aOps_end ?_
    have e4 : ((fixT v 8).take (i0 + 1)) = ((fixT v 8).take i0) ++ [UInt8.ofNat (v / 256 ^ i0)] := by rw [take_el (fixT v 8) 0 (by rw [fixT_len]; omega), fixT_at 8 v i0 (by omega)]
    first | refine thenA_n ?_ | simp only [thenA, blockA, if_true]
    exact NextR.mk (by omega) (by omega) (.cons rfl (.cons (show _ = some (gsl k _) by rw [e4]; rfl) (.cons (show _ = some (Value.int .u64 _) by rw [show ((v / 256 ^ (i0 + 1) : Nat) : Int) = ((v / 256 ^ i0 : Nat) : Int).fdiv 256 by rw [Int.fdiv_eq_ediv_of_nonneg _ (by decide), Nat.pow_succ, ← Nat.div_div_eq_div_mul]; rfl]; rfl) .nil))) (.cons rfl (.cons rfl (.cons rfl (.cons rfl (.cons rfl .nil))))) (by exact sub_over_eq (y := some (gb ((fixT v 8).take i0))) (by (repeat (first | exact sub_refl _ | assumption | refine sub_upd' ?_ (by ((repeat refine (upd_other _ _ (by omega)).trans ?_); first | exact hf _ (by omega) | exact hfL0 _ (by omega))) | refine sub_trans ?_ hsL0 | refine sub_over (by assumption) | refine sub_over0 ?_ | refine sub_trans (sub_same (by assumption)) ?_ | refine sub_dropu ?_ | refine sub_drop ?_ | refine sub_put ?_ (by repeat (first | assumption | exact upd_same _ _ _ | refine (upd_other _ _ (by omega)).trans ?_ | refine hsL0 _ _ ?_))))) (by rw [e4])) trivial
  · try simp only [decide_eq_true_eq, decide_eq_false_iff_not, beq_iff_eq, beq_eq_false_iff_ne, ne_eq, bne_iff_ne, Bool.not_eq_true', Bool.not_eq_false', Int.not_lt, Int.not_le, gt_iff_lt, ge_iff_le, bne_eq_false_iff_eq, Bool.not_eq_eq_eq_not, Bool.not_true, Bool.not_false] at c0
    refine ACode.exit ?_
    show ACode _ _ _ _ _ _
    refine ACode.seq ?_
    refine ACode.region' [0, 1] (by kernel_rfl) rfl ?_
    refine aOps_1 rfl rfl rfl (AOp.move' (.inl rfl) rfl ?_)
    refine aOps_1 rfl rfl rfl (AOp.move' (.inr rfl) rfl ?_)
    refine aOps_end ?_
    show ACode _ _ _ _ _ _
    refine ACode.ret ?_
    have e8 : i0 = 8 := by omega
    subst e8
    have e9 : ((fixT v 8).take 8) = fixT v 8 := List.take_of_length_le (by rw [fixT_len]; exact Nat.le_refl _)
    rw [e9] at hsL0 ⊢
    exact RetQ.one (H'' := upd H k (some (gb (fixT v 8)))) rfl rfl hsL0 stays_upd (fun hk => ⟨k, by omega, by omega, rfl, rfl⟩)

theorem refFix_b (v : Nat) (hv : v < 18446744073709551616) : ACalls Tryd.prog 1 83 [.int .u64 (v : Int), .int .i64 8] H k (NewB H k 5 (fixT v 8)) := by
  refine ACalls.fresh fun hf => ?_
  refine ACalls.body Tryd.func83 rfl (Nat.le_of_ble_eq_true rfl) ?_
  refine ACode.seq ?_
  refine ACode.region' [0] (by kernel_rfl) rfl ?_
  refine aOps_1 rfl rfl rfl (AOp.move' (.inr rfl) rfl ?_)
  refine aOps_end ?_
  show ACode _ _ _ _ _ _
  refine ACode.seq ?_
  refine ACode.region' [0] (by kernel_rfl) rfl ?_
  refine aOps_1 rfl rfl rfl (AOp.move' (.inr rfl) rfl ?_)
  refine aOps_end ?_
  show ACode _ _ _ _ _ _
  refine ACode.seq ?_
  refine ACode.seq ?_
  refine ACode.region' [0] (by kernel_rfl) rfl ?_
  refine aOps_1 rfl rfl rfl (AOp.move' (.inr rfl) rfl ?_)
  refine aOps_end ?_
  show ACode _ _ _ _ _ _
  refine ACode.block ?_
  refine ACode.adopt (t := 5) 5 1 (by decide) rfl ?_
  refine ACode.count (fun i => [(6, .int .i64 (i : Int)), (5, gsl k ((fixT v 8).take i).length), (0, .int .u64 ((v / 256 ^ i : Nat) : Int))]) [(1, _), (4, _)] (fun i => upd H k (some (gb ((fixT v 8).take i)))) (8) (fun _ => True) (.cons rfl (.cons (show _ = some (gsl k _) by rw [List.take_zero]; rfl) (.cons (show _ = some (Value.int .u64 ((v / 256 ^ 0 : Nat) : Int)) by rw [Nat.pow_zero, Nat.div_one]; rfl) .nil))) (.cons rfl (.cons rfl .nil)) (by (repeat (first | exact sub_refl _ | assumption | refine sub_upd' ?_ (by ((repeat refine (upd_other _ _ (by omega)).trans ?_); first | exact hf _ (by omega))) | refine sub_over (by assumption) | refine sub_over0 ?_ | refine sub_trans (sub_same (by assumption)) ?_ | refine sub_dropu ?_ | refine sub_drop ?_ | refine sub_put ?_ (by repeat (first | assumption | exact upd_same _ _ _ | refine (upd_other _ _ (by omega)).trans ?_))))) trivial (fun i0 kL0 HL0 hiL0 hkL0 hsL0 hfL0 hxL0 => ?_)
  show ACode _ _ _ _ _ ⟨_, _, _⟩
  refine ACode.seq ?_
  refine ACode.seq ?_
  refine ACode.region' [0, 1, 2, 3, 4, 5, 6] (by kernel_rfl) rfl ?_
  refine aOps_1 rfl rfl rfl (AOp.move' (.inl rfl) rfl ?_)
  refine aOps_1 rfl rfl rfl (AOp.move' (.inl rfl) rfl ?_)
  refine aOps_1 rfl rfl rfl (AOp.bin' rfl rfl rfl rfl ?_)
  refine aOps_1 rfl rfl rfl (AOp.move' (.inl rfl) rfl ?_)
  refine aOps_gd0 rfl rfl (wantT rfl rfl rfl) (fun hc => AOp.slots [(6, _)] (.cons rfl .nil) (AOp.move' (.inl rfl) rfl ⟨rfl, rfl, rfl⟩)) ?_
  refine aOps_gd0 rfl rfl (wantT rfl rfl rfl) (fun hc => AOp.slots [(11, _)] (.cons (gvT rfl hc) .nil) (AOp.bin' rfl rfl rfl rfl ⟨rfl, rfl, rfl⟩)) ?_
  refine aOps_1 rfl rfl rfl (AOp.pickAnd rfl rfl rfl (fun hb => gvE rfl hb) ?_)
  refine aOps_end ?_
  show ACode _ _ _ _ _ _
  refine ACode.cond rfl (fun c0 => ?_) (fun c0 => ?_)
  · try simp only [decide_eq_true_eq, decide_eq_false_iff_not, beq_iff_eq, beq_eq_false_iff_ne, ne_eq, bne_iff_ne, Bool.not_eq_true', Bool.not_eq_false', Int.not_lt, Int.not_le, gt_iff_lt, ge_iff_le, bne_eq_false_iff_eq, Bool.not_eq_eq_eq_not, Bool.not_true, Bool.not_false] at c0
    simp only [Bool.and_eq_true, decide_eq_true_eq] at c0
    refine ACode.skip ?_
    show ACode _ _ _ _ _ _
    refine ACode.seq ?_
    refine ACode.block ?_
    refine ACode.seq ?_
    have hln : ((fixT v 8).take i0).length = i0 := by rw [List.length_take, fixT_len]; omega
    refine ACode.region' [0, 1, 2, 3, 4, 5, 6] (by kernel_rfl) rfl ?_
    refine aOps_1 rfl rfl rfl (AOp.move' (.inl rfl) rfl ?_)
    refine aOps_1 rfl rfl rfl (AOp.move' (.inl rfl) rfl ?_)
    refine aOps_1 rfl rfl rfl (AOp.bin' rfl rfl rfl rfl ?_)
    refine aOps_1 rfl rfl rfl (AOp.toU8 rfl rfl ?_)
    rw [show ((v / 256 ^ i0 : Nat) : Int).tmod 256 = ((v / 256 ^ i0 % 256 : Nat) : Int) from rfl, byteI_nat, ofNat_mod]
    refine aOps_1 rfl rfl rfl (AOp.buildB [_] rfl (by decide) rfl rfl ?_)
    refine aOps_1 rfl rfl rfl ?_
    refine AOp.appendB (ps := ?ns2) rfl rfl rfl ?hn2 ?hsrc2 ?ht2 ?hw2 ?hz2 ?hR2
    (case hn2 => repeat (first | assumption | exact upd_same _ _ _ | refine (upd_other _ _ (by omega)).trans ?_ | refine hsL0 _ _ ?_))
    (case hsrc2 => refine srcOf_gb (e := 5) ?e12; (case e12 => repeat (first | assumption | exact upd_same _ _ _ | refine (upd_other _ _ (by omega)).trans ?_ | refine hsL0 _ _ ?_)))
    (case ht2 => exact srcOk_sl)
    (case hw2 => (first | omega | (simp only [List.length_cons, List.length_nil]; omega) | (simp only [List.length_append, List.length_cons, List.length_nil]; omega) | (simp; omega)))
    (case hz2 => (first | omega | (simp only [List.length_cons, List.length_nil]; omega) | (simp only [List.length_append, List.length_cons, List.length_nil]; omega) | (simp; omega)))
    refine aOps_1 rfl rfl rfl (AOp.move' (.inr rfl) rfl ?_)
    refine aOps_end ?_
    show ACode _ _ _ _ _ _
    refine ACode.region' [0, 1, 2] (by kernel_rfl) rfl ?_
    refine aOps_1 rfl rfl rfl (AOp.move' (.inl rfl) rfl ?_)
    refine aOps_1 rfl rfl rfl (AOp.bin' (z := .int .u64 ((v / 256 ^ (i0 + 1) : Nat) : Int)) rfl rfl rfl (by have hlt : v / 256 ^ i0 ≤ v := Nat.div_le_self _ _; show some (Value.int .u64 (IntKind.u64.wrap (((v / 256 ^ i0 : Nat) : Int).tdiv 256))) = _; rw [div_pow256]; generalize v / 256 ^ i0 = m at hlt ⊢; rw [show ((m : Nat) : Int).tdiv 256 = ((m / 256 : Nat) : Int) from rfl, IntKind.wrap_u64]; congr 2; omega) ?_)
    refine aOps_1 rfl rfl rfl (AOp.move' (.inr rfl) rfl ?_)
    refine aOps_end ?_
    show ACode _ _ _ _ _ _
    refine ACode.region' [0, 1, 2] (by kernel_rfl) rfl ?_
    refine aOps_1 rfl rfl rfl (AOp.move' (.inl rfl) rfl ?_)
    refine aOps_1 rfl rfl rfl (AOp.add rfl rfl rfl (i64_wrap (by omega) (by omega)) ?_)
    refine aOps_1 rfl rfl rfl (AOp.move' (.inr rfl) rfl ?_)
    refine aOps_end ?_
    have e4 : ((fixT v 8).take (i0 + 1)) = ((fixT v 8).take i0) ++ [UInt8.ofNat (v / 256 ^ i0)] := by rw [take_el (fixT v 8) 0 (by rw [fixT_len]; omega), fixT_at 8 v i0 (by omega)]
    first | refine thenA_n ?_ | simp only [thenA, blockA, if_true]
    exact NextR.mk (by omega) (by omega) (.cons rfl (.cons (show _ = some (gsl k _) by rw [e4]; rfl) (.cons rfl .nil))) (.cons rfl (.cons rfl .nil)) (by exact sub_over_eq (y := some (gb ((fixT v 8).take i0))) (by (repeat (first | exact sub_refl _ | assumption | refine sub_upd' ?_ (by ((repeat refine (upd_other _ _ (by omega)).trans ?_); first | exact hf _ (by omega) | exact hfL0 _ (by omega))) | refine sub_trans ?_ hsL0 | refine sub_over (by assumption) | refine sub_over0 ?_ | refine sub_trans (sub_same (by assumption)) ?_ | refine sub_dropu ?_ | refine sub_drop ?_ | refine sub_put ?_ (by repeat (first | assumption | exact upd_same _ _ _ | refine (upd_other _ _ (by omega)).trans ?_ | refine hsL0 _ _ ?_))))) (by rw [e4])) trivial
  · try simp only [decide_eq_true_eq, decide_eq_false_iff_not, beq_iff_eq, beq_eq_false_iff_ne, ne_eq, bne_iff_ne, Bool.not_eq_true', Bool.not_eq_false', Int.not_lt, Int.not_le, gt_iff_lt, ge_iff_le, bne_eq_false_iff_eq, Bool.not_eq_eq_eq_not, Bool.not_true, Bool.not_false] at c0
    simp only [Bool.and_eq_false_iff, decide_eq_false_iff_not] at c0
    refine ACode.exit ?_
    show ACode _ _ _ _ _ _
    refine ACode.seq ?_
    refine ACode.region' [0, 1] (by kernel_rfl) rfl ?_
    refine aOps_1 rfl rfl rfl (AOp.move' (.inl rfl) rfl ?_)
    refine aOps_1 rfl rfl rfl (AOp.move' (.inr rfl) rfl ?_)
    refine aOps_end ?_
    show ACode _ _ _ _ _ _
    refine ACode.ret ?_
    have e8 : i0 = 8 := by omega
    subst e8
    have e9 : ((fixT v 8).take 8) = fixT v 8 := List.take_of_length_le (by rw [fixT_len]; exact Nat.le_refl _)
    rw [e9] at hsL0 ⊢
    exact RetQ.one (H'' := upd H k (some (gb (fixT v 8)))) rfl rfl hsL0 stays_upd (fun hk => ⟨k, by omega, by omega, rfl, rfl⟩)

theorem bytesOf_b (d : Dg) : ACalls Tryd.prog 1 84 [hv d] H k (NewB H k 5 d.l) := by
  refine ACalls.fresh fun hf => ?_
  refine ACalls.body Tryd.func84 rfl (Nat.le_of_ble_eq_true rfl) ?_
  have hdl := d.h
  refine ACode.seq ?_
  refine ACode.region' [0, 1] (by kernel_rfl) rfl ?_
  refine aOps_1 rfl rfl rfl (AOp.boxV rfl rfl ?_)
  refine aOps_1 rfl rfl rfl (AOp.move' (.inr rfl) rfl ?_)
  refine aOps_end ?_
  show ACode _ _ _ _ _ _
  refine ACode.seq ?_
  refine ACode.region' [0] (by kernel_rfl) rfl ?_
  refine aOps_1 rfl rfl rfl (AOp.move' (.inr rfl) rfl ?_)
  refine aOps_end ?_
  show ACode _ _ _ _ _ _
  refine ACode.seq ?_
  refine ACode.seq ?_
  refine ACode.region' [0] (by kernel_rfl) rfl ?_
  refine aOps_1 rfl rfl rfl (AOp.move' (.inr rfl) rfl ?_)
  refine aOps_end ?_
  show ACode _ _ _ _ _ _
  refine ACode.block ?_
  refine ACode.adopt (t := 3) 5 1 (by decide) rfl ?_
  refine ACode.count (fun i => [(4, .int .i64 (i : Int)), (3, gsl (k + 1) (d.l.take i).length)]) [(0, _), (1, _), (2, _)] (fun i => upd (upd H k (some (dblk d.l))) (k + 1) (some (gb (d.l.take i)))) (32) (fun _ => True) (.cons rfl (.cons rfl .nil)) (.cons rfl (.cons rfl (.cons rfl .nil))) (by (repeat (first | exact sub_refl _ | assumption | refine sub_upd' ?_ (by ((repeat refine (upd_other _ _ (by omega)).trans ?_); first | exact hf _ (by omega))) | refine sub_over (by assumption) | refine sub_over0 ?_ | refine sub_trans (sub_same (by assumption)) ?_ | refine sub_dropu ?_ | refine sub_drop ?_ | refine sub_put ?_ (by repeat (first | assumption | exact upd_same _ _ _ | refine (upd_other _ _ (by omega)).trans ?_))))) trivial (fun i0 kL0 HL0 hiL0 hkL0 hsL0 hfL0 hxL0 => ?_)
  show ACode _ _ _ _ _ ⟨_, _, _⟩
  refine ACode.seq ?_
  refine ACode.seq ?_
  refine ACode.region' [0, 1] (by kernel_rfl) rfl ?_
  refine aOps_1 rfl rfl rfl (AOp.move' (.inl rfl) rfl ?_)
  refine aOps_1 rfl rfl rfl (AOp.bin' rfl rfl rfl rfl ?_)
  refine aOps_end ?_
  show ACode _ _ _ _ _ _
  refine ACode.cond rfl (fun c0 => ?_) (fun c0 => ?_)
  · try simp only [decide_eq_true_eq, decide_eq_false_iff_not, beq_iff_eq, beq_eq_false_iff_ne, ne_eq, bne_iff_ne, Bool.not_eq_true', Bool.not_eq_false', Int.not_lt, Int.not_le, gt_iff_lt, ge_iff_le, bne_eq_false_iff_eq, Bool.not_eq_eq_eq_not, Bool.not_true, Bool.not_false] at c0
    refine ACode.skip ?_
    show ACode _ _ _ _ _ _
    refine ACode.seq ?_
    refine ACode.block ?_
    have hx2 : (d.l.take i0).length = i0 := by rw [List.length_take]; omega
    refine ACode.region' [0, 1, 2, 3, 4, 5, 6] (by kernel_rfl) rfl ?_
    refine aOps_1 rfl rfl rfl (AOp.move' (.inl rfl) rfl ?_)
    refine aOps_1 rfl rfl rfl (AOp.move' (.inl rfl) rfl ?_)
    refine aOps_1 rfl rfl rfl (AOp.indexA (by omega) rfl rfl rfl ?_)
    refine aOps_1 rfl rfl rfl ?_
    refine AOp.loadM bv (d.l) 0 (b := ?b3) ?hn3 ?hv3 ?hw3 rfl rfl ?hR3
    (case hn3 => repeat (first | assumption | exact upd_same _ _ _ | refine (upd_other _ _ (by omega)).trans ?_ | refine hsL0 _ _ ?_))
    (case hv3 => rfl)
    (case hw3 => exact (by omega))
    refine aOps_1 rfl rfl rfl (AOp.buildB [_] rfl (by decide) rfl rfl ?_)
    refine aOps_1 rfl rfl rfl ?_
    refine AOp.appendB (ps := ?ns4) rfl rfl rfl ?hn4 ?hsrc4 ?ht4 ?hw4 ?hz4 ?hR4
    (case hn4 => repeat (first | assumption | exact upd_same _ _ _ | refine (upd_other _ _ (by omega)).trans ?_ | refine hsL0 _ _ ?_))
    (case hsrc4 => refine srcOf_gb (e := 5) ?e14; (case e14 => repeat (first | assumption | exact upd_same _ _ _ | refine (upd_other _ _ (by omega)).trans ?_ | refine hsL0 _ _ ?_)))
    (case ht4 => exact srcOk_sl)
    (case hw4 => (first | omega | (simp only [List.length_cons, List.length_nil]; omega) | (simp only [List.length_append, List.length_cons, List.length_nil]; omega) | (simp; omega)))
    (case hz4 => (first | omega | (simp only [List.length_cons, List.length_nil]; omega) | (simp only [List.length_append, List.length_cons, List.length_nil]; omega) | (simp; omega)))
    refine aOps_1 rfl rfl rfl (AOp.move' (.inr rfl) rfl ?_)
    refine aOps_end ?_
    show ACode _ _ _ _ _ _
    refine ACode.region' [0, 1, 2] (by kernel_rfl) rfl ?_
    refine aOps_1 rfl rfl rfl (AOp.move' (.inl rfl) rfl ?_)
    refine aOps_1 rfl rfl rfl (AOp.add rfl rfl rfl (i64_wrap (by omega) (by omega)) ?_)
    refine aOps_1 rfl rfl rfl (AOp.move' (.inr rfl) rfl ?_)
    refine aOps_end ?_
    have e4 := take_el d.l 0 (i := i0) (by omega)
    first | refine thenA_n ?_ | simp only [thenA, blockA, if_true]
    exact NextR.mk (by omega) (by omega) (.cons rfl (.cons (show _ = some (gsl (k + 1) _) by rw [e4]; rfl) .nil)) (.cons rfl (.cons rfl (.cons rfl .nil))) (by rw [e4]; (repeat (first | exact sub_refl _ | assumption | refine sub_upd' ?_ (by ((repeat refine (upd_other _ _ (by omega)).trans ?_); first | exact hf _ (by omega) | exact hfL0 _ (by omega))) | refine sub_trans ?_ hsL0 | refine sub_over (by assumption) | refine sub_over0 ?_ | refine sub_trans (sub_same (by assumption)) ?_ | refine sub_dropu ?_ | refine sub_drop ?_ | refine sub_put ?_ (by repeat (first | assumption | exact upd_same _ _ _ | refine (upd_other _ _ (by omega)).trans ?_ | refine hsL0 _ _ ?_))))) trivial
  · try simp only [decide_eq_true_eq, decide_eq_false_iff_not, beq_iff_eq, beq_eq_false_iff_ne, ne_eq, bne_iff_ne, Bool.not_eq_true', Bool.not_eq_false', Int.not_lt, Int.not_le, gt_iff_lt, ge_iff_le, bne_eq_false_iff_eq, Bool.not_eq_eq_eq_not, Bool.not_true, Bool.not_false] at c0
    refine ACode.exit ?_
    show ACode _ _ _ _ _ _
    refine ACode.seq ?_
    refine ACode.region' [0, 1] (by kernel_rfl) rfl ?_
    refine aOps_1 rfl rfl rfl (AOp.move' (.inl rfl) rfl ?_)
    refine aOps_1 rfl rfl rfl (AOp.move' (.inr rfl) rfl ?_)
    refine aOps_end ?_
    show ACode _ _ _ _ _ _
    refine ACode.ret ?_
    have e8 : i0 = 32 := by omega
    subst e8
    have e9 : d.l.take 32 = d.l := List.take_of_length_le (by omega)
    rw [e9] at hsL0 ⊢
    exact RetQ.one (H'' := upd H (k + 1) (some (gb d.l))) rfl rfl (by (repeat (first | exact sub_refl _ | assumption | refine sub_upd' ?_ (by ((repeat refine (upd_other _ _ (by omega)).trans ?_); first | exact hf _ (by omega) | exact hfL0 _ (by omega))) | refine sub_trans ?_ hsL0 | refine sub_over (by assumption) | refine sub_over0 ?_ | refine sub_trans (sub_same (by assumption)) ?_ | refine sub_dropu ?_ | refine sub_drop ?_ | refine sub_put ?_ (by repeat (first | assumption | exact upd_same _ _ _ | refine (upd_other _ _ (by omega)).trans ?_ | refine hsL0 _ _ ?_))))) stays_upd (fun hk => ⟨k + 1, by omega, by omega, rfl, rfl⟩)

theorem headof_b (ht : H 0 = some tabBlk) (s : Int) (d : Dg) : ACalls Tryd.prog 1 39 [.int .i64 s, hv d] H k (Same H k (hv (headD s d))) := by
  refine ACalls.fresh fun hf => ?_
  refine ACalls.body Tryd.func39 rfl (Nat.le_of_ble_eq_true rfl) ?_
  have h0k := old_lt hf ht
  have hdl := d.h
  refine ACode.seq ?_
  refine ACode.region' [0, 1] (by kernel_rfl) rfl ?_
  refine aOps_1 rfl rfl rfl (AOp.boxV rfl rfl ?_)
  refine aOps_1 rfl rfl rfl (AOp.alloc' rfl ?_)
  refine aOps_end ?_
  show ACode _ _ _ _ _ _
  refine ACode.seq ?_
  refine ACode.drawM0 4 [(0, 5), (1, 6), (2, 7), (3, 8)] [2] [([], []), ([], []), ([2], []), ([], [])] mixed (by kernel_rfl) (by kernel_rfl) (by decide) ?_
  refine DrawM.q 0 [(0, none)] rfl rfl (by kernel_rfl) rfl rfl (fun Hc kq hkq hF hSb hfr => AOp.move' (.inl rfl) rfl ⟨rfl, rfl, Nat.le_refl _⟩) ?_
  refine DrawM.q 1 [(5, some 0)] rfl rfl (by kernel_rfl) rfl rfl (fun Hc kq hkq hF hSb hfr => AOp.convInt (k' := .u64) rfl rfl ⟨rfl, rfl, Nat.le_refl _⟩) ?_
  rw [szN_wrap]
  refine DrawM.new 2 _ _ [(6, some 1)] rfl (by decide) rfl (by kernel_rfl) rfl rfl RenOk.grow (fun Hc kq hkq hF hSb hfr => AOp.call' rfl rfl rfl (putFix_b _ _ (szN s) (szN_lt s)) (fun _ _ _ h => h)) ?_
  refine DrawM.q 3 [(3, none)] rfl rfl (by kernel_rfl) rfl rfl (fun Hc kq hkq hF hSb hfr => AOp.sliceA rfl rfl ⟨rfl, rfl, Nat.le_refl _⟩) ?_
  refine DrawM.done fun kq hkq => ?_
  show aOps _ _ _ _ [4, 5, 6] ⟨_, (upd _ (_ + 2) _), _⟩
  refine aOps_1 rfl rfl rfl (AOp.buildG1 (vals := [_, _]) rfl (by decide) rfl rfl (by intro u hu; simp at hu; first | (rcases hu with rfl | rfl | rfl <;> rfl) | (rcases hu with rfl | rfl <;> rfl) | (subst hu; rfl) | (rcases hu with rfl | rfl | rfl | rfl <;> rfl)) ?_)
  refine aOps_q rfl rfl rfl (AOp.call' rfl rfl rfl (tagged_b _ _ (by repeat (first | assumption | exact upd_same _ _ _ | refine (upd_other _ _ (by omega)).trans ?_)) 3 [fix8 s, d.l] [gsl (k + 2 + 2) (fix8 s).length, .slice (some ⟨k, 0, none⟩) 32 32] (some ⟨kq, 0, some 1⟩) 2 (SLC.grow (n := kq) (l := 2) (b := { cells := [gsl (k + 2 + 2) (fix8 s).length, .slice (some ⟨k, 0, none⟩) 32 32], elem := 25, kind := .grow }) (by repeat (first | assumption | exact upd_same _ _ _ | refine (upd_other _ _ (by omega)).trans ?_)) rfl rfl) (Lvs.cons (SLC.gb (e := 5) (by repeat (first | assumption | exact upd_same _ _ _ | refine (upd_other _ _ (by omega)).trans ?_))) (Lvs.dg (by repeat (first | assumption | exact upd_same _ _ _ | refine (upd_other _ _ (by omega)).trans ?_)) Lvs.nil)) (by simp) (by simp [fixT_len, d.h])) (fun _ _ _ h => h)) (fun kq hkq => ?_)
  rw [show shaD (3 :: [fix8 s, d.l].flatten) = headD s d by simp [headD, headB]]
  generalize headD s d = D
  refine aOps_0 rfl rfl rfl ?_
  refine AOp.storeAll (b := ?b5) rfl rfl rfl ?hn5 ?hk5 rfl ?hw5 ?ho5 ?hl5 ?hR5
  (case hn5 => repeat (first | assumption | exact upd_same _ _ _ | refine (upd_other _ _ (by omega)).trans ?_))
  (case hk5 => rfl)
  (case hw5 => first | rfl | exact hv_size _ | exact hcs_one _ | exact (aw_size _).trans rfl | exact one_wv _ | exact one_bv _ | (simp; done))
  (case ho5 => first | rfl | exact hv_size _ | exact hcs_one _ | exact (aw_size _).trans rfl | exact one_wv _ | exact one_bv _ | decide | (simp; done))
  (case hl5 => first | rfl | exact hv_size _ | exact hcs_one _ | exact (aw_size _).trans rfl | exact one_wv _ | exact one_bv _ | (simp; done))
  refine aOps_end ?_
  show ACode _ _ _ _ _ _
  refine ACode.ret ?_
  exact RetQ.cell rfl rfl (aloadAll (b := dblk D.l) (v := hv D) (upd_same _ _ _) rfl rfl (hv_size _)) (by (repeat (first | exact sub_refl _ | assumption | refine sub_upd' ?_ (by ((repeat refine (upd_other _ _ (by omega)).trans ?_); first | exact hf _ (by omega))) | refine sub_over (by assumption) | refine sub_over0 ?_ | refine sub_trans (sub_same (by assumption)) ?_ | refine sub_dropu ?_ | refine sub_drop ?_ | refine sub_put ?_ (by repeat (first | assumption | exact upd_same _ _ _ | refine (upd_other _ _ (by omega)).trans ?_))))) stays (fun hk => ⟨rfl, rfl, by omega⟩)

theorem refheadof_b (s : Int) (d : Dg) : ACalls Tryd.prog 1 53 [.int .i64 s, hv d] H k (Same H k (hv (headD s d))) := by
  refine ACalls.fresh fun hf => ?_
  refine ACalls.body Tryd.func53 rfl (Nat.le_of_ble_eq_true rfl) ?_
  have hdl := d.h
  refine ACode.seq ?_
  refine ACode.region' [0, 1] (by kernel_rfl) rfl ?_
  refine aOps_1 rfl rfl rfl (AOp.boxV rfl rfl ?_)
  refine aOps_1 rfl rfl rfl (AOp.alloc' rfl ?_)
  refine aOps_end ?_
  show ACode _ _ _ _ _ _
  refine ACode.seq ?_
  refine ACode.drawM0 5 [(0, 5), (1, 6), (2, 7), (3, 8), (4, 9)] [2, 4] [([], []), ([], []), ([2], []), ([], []), ([4], [])] mixed (by kernel_rfl) (by kernel_rfl) (by decide) ?_
  refine DrawM.q 0 [(0, none)] rfl rfl (by kernel_rfl) rfl rfl (fun Hc kq hkq hF hSb hfr => AOp.move' (.inl rfl) rfl ⟨rfl, rfl, Nat.le_refl _⟩) ?_
  refine DrawM.q 1 [(5, some 0)] rfl rfl (by kernel_rfl) rfl rfl (fun Hc kq hkq hF hSb hfr => AOp.convInt (k' := .u64) rfl rfl ⟨rfl, rfl, Nat.le_refl _⟩) ?_
  rw [szN_wrap]
  refine DrawM.new 2 _ _ [(6, some 1)] rfl (by decide) rfl (by kernel_rfl) rfl rfl RenOk.grow (fun Hc kq hkq hF hSb hfr => AOp.call' rfl rfl rfl (refFix_b _ _ (szN s) (szN_lt s)) (fun _ _ _ h => h)) ?_
  refine DrawM.q 3 [(3, none)] rfl rfl (by kernel_rfl) rfl rfl (fun Hc kq hkq hF hSb hfr => (by refine AOp.loadAll (b := ?b6) (v := hv d) rfl rfl ?hn6 ?hv6 ?hw6 ?hz6 ?hR6; (case hn6 => repeat (first | assumption | exact upd_same _ _ _ | refine (upd_other _ _ (by omega)).trans ?_ | refine hSb _ _ ?_)); (case hv6 => rfl); (case hw6 => rfl); (case hz6 => first | rfl | exact hv_size _ | exact hcs_one _ | exact (aw_size _).trans rfl | exact one_wv _ | exact one_bv _ | (simp; done)); exact ⟨rfl, rfl, Nat.le_refl _⟩)) ?_
  refine DrawM.new 4 _ _ [(8, some 3)] rfl (by decide) rfl (by kernel_rfl) rfl rfl RenOk.grow (fun Hc kq hkq hF hSb hfr => AOp.call' rfl rfl rfl (bytesOf_b _ _ d) (fun _ _ _ h => h)) ?_
  refine DrawM.done fun kq hkq => ?_
  show aOps _ _ _ _ [5, 6, 7] ⟨_, (upd (upd _ (_ + 4) _) (_ + 2) _), _⟩
  refine aOps_1 rfl rfl rfl (AOp.buildG1 (vals := [_, _]) rfl (by decide) rfl rfl (by intro u hu; simp at hu; first | (rcases hu with rfl | rfl | rfl <;> rfl) | (rcases hu with rfl | rfl <;> rfl) | (subst hu; rfl) | (rcases hu with rfl | rfl | rfl | rfl <;> rfl)) ?_)
  refine aOps_q rfl rfl rfl (AOp.call' rfl rfl rfl (reftagged_b _ _ 3 [fix8 s, d.l] [gsl (k + 2 + 2) (fix8 s).length, gsl (k + 2 + 4) d.l.length] (some ⟨kq, 0, some 1⟩) 2 (SLC.grow (n := kq) (l := 2) (b := { cells := [gsl (k + 2 + 2) (fix8 s).length, gsl (k + 2 + 4) d.l.length], elem := 25, kind := .grow }) (by repeat (first | assumption | exact upd_same _ _ _ | refine (upd_other _ _ (by omega)).trans ?_)) rfl rfl) (Lvs.cons (SLC.gb (e := 5) (by repeat (first | assumption | exact upd_same _ _ _ | refine (upd_other _ _ (by omega)).trans ?_))) (Lvs.cons (SLC.gb (e := 5) (by repeat (first | assumption | exact upd_same _ _ _ | refine (upd_other _ _ (by omega)).trans ?_))) Lvs.nil)) (by simp) (by simp [fixT_len, d.h])) (fun _ _ _ h => h)) (fun kq hkq => ?_)
  rw [show shaD (3 :: [fix8 s, d.l].flatten) = headD s d by simp [headD, headB]]
  generalize headD s d = D
  refine aOps_0 rfl rfl rfl ?_
  refine AOp.storeAll (b := ?b7) rfl rfl rfl ?hn7 ?hk7 rfl ?hw7 ?ho7 ?hl7 ?hR7
  (case hn7 => repeat (first | assumption | exact upd_same _ _ _ | refine (upd_other _ _ (by omega)).trans ?_))
  (case hk7 => rfl)
  (case hw7 => first | rfl | exact hv_size _ | exact hcs_one _ | exact (aw_size _).trans rfl | exact one_wv _ | exact one_bv _ | (simp; done))
  (case ho7 => first | rfl | exact hv_size _ | exact hcs_one _ | exact (aw_size _).trans rfl | exact one_wv _ | exact one_bv _ | decide | (simp; done))
  (case hl7 => first | rfl | exact hv_size _ | exact hcs_one _ | exact (aw_size _).trans rfl | exact one_wv _ | exact one_bv _ | (simp; done))
  refine aOps_end ?_
  show ACode _ _ _ _ _ _
  refine ACode.ret ?_
  exact RetQ.cell rfl rfl (aloadAll (b := dblk D.l) (v := hv D) (upd_same _ _ _) rfl rfl (hv_size _)) (by (repeat (first | exact sub_refl _ | assumption | refine sub_upd' ?_ (by ((repeat refine (upd_other _ _ (by omega)).trans ?_); first | exact hf _ (by omega))) | refine sub_over (by assumption) | refine sub_over0 ?_ | refine sub_trans (sub_same (by assumption)) ?_ | refine sub_dropu ?_ | refine sub_drop ?_ | refine sub_put ?_ (by repeat (first | assumption | exact upd_same _ _ _ | refine (upd_other _ _ (by omega)).trans ?_))))) stays (fun hk => ⟨rfl, rfl, by omega⟩)

end

end Go.Proofs.YtipaiielkpifoaaDoor
