/- Contracts over the abstract states: short numbers, copies, an entry's form; a ledger is made, an entry is added. -/
import Derived.Test.YtipaiielkpifoaaDoorL5
import Derived.Test.YtipaiielkpifoaaDoorL14
import Derived.Test.YtipaiielkpifoaaDoorS17
import Derived.Test.YtipaiielkpifoaaDoorF2
set_option linter.unusedVariables false
set_option linter.unusedSimpArgs false
set_option maxRecDepth 100000
namespace Go.Proofs.YtipaiielkpifoaaDoor
open Go Go.Ab

section
variable (H : Hp) (k : Nat)
abbrev u64 (n : Nat) : Value := .int .u64 (n : Int)
abbrev sl (n l : Nat) : Value := gsl n l
abbrev ebk (e : Ent) : Blk := { cells := entc e, elem := 38, kind := .fix }
theorem src33 {H : Hp} {n : Nat} {e : Ent} (hn : H n = some (ebk e)) : srcOf H 1 (.slice (some ⟨n, 33, none⟩) 32 32) = some (e.r.l.length, e.r.l.map bv) := by
  rw [e.r.h]
  refine srcOf_slc (SLC.part hn (Nat.le_refl _) (by show 33 + 32 * 1 ≤ (entc e).length; rw [entc_len]; decide) ?_).cells
  have := mid_take (e.s.l.map bv ++ [.int .i64 e.g]) (e.r.l.map bv) [] 33 32 (by rw [List.length_append, hcs_one]; rfl) (hcs_one _)
  rw [List.append_nil, List.append_assoc] at this
  exact this
theorem slc0 {H : Hp} {n : Nat} {e : Ent} (hn : H n = some (ebk e)) : SLC H 1 (some ⟨n, 0, none⟩) 32 32 (e.s.l.map bv) := by
  refine SLC.part hn (Nat.le_refl _) (by show 0 + 32 * 1 ≤ (entc e).length; rw [entc_len]; decide) ?_
  exact mid_take [] (e.s.l.map bv) _ 0 32 rfl (hcs_one _)
abbrev T74 : Nat := 79
abbrev TL : Nat := 76

theorem putVar (n : Nat) (bs : List UInt8) (v : Nat) (hn : H n = some (gb bs)) (hv : v < 18446744073709551616) (hl : bs.length ≤ 1099511627776) : ACalls Tryd.prog 1 76 [sl n bs.length, u64 v] H k (fun r H' k' => r = sl n (bs ++ varB v).length ∧ H' = upd H n (some (gb (bs ++ varB v))) ∧ k ≤ k') := by
  refine ACalls.fresh fun hf => ?_
  refine ACalls.body Tryd.func76 rfl (Nat.le_of_ble_eq_true rfl) ?_
  have hnk := old_lt hf hn
  have hvl := varB_len v hv
  refine ACode.seq ?_
  refine ACode.region' [0] (by kernel_rfl) rfl ?_
  refine aOps_1 rfl rfl rfl (AOp.move' (.inr rfl) rfl ?_)
  refine aOps_end ?_
  show ACode _ _ _ _ _ _
  refine ACode.seq ?_
  refine ACode.block ?_
  refine ACode.count (fun i => [(0, sl n (bs ++ (varB v).take i).length), (1, u64 (v / 128 ^ i))]) [(4, _)] (fun i => upd H n (some (gb (bs ++ (varB v).take i)))) ((varB v).length - 1) (fun _ => True) (.cons (show _ = some (sl n (bs ++ (varB v).take 0).length) by rw [List.take_zero, List.append_nil]; rfl) (.cons (show _ = some (u64 (v / 128 ^ 0)) by rw [Nat.pow_zero, Nat.div_one]; rfl) .nil)) (.cons rfl .nil) (by exact sub_same (by simpa using hn)) trivial (fun i0 kL0 HL0 hiL0 hkL0 hsL0 hfL0 hxL0 => ?_)
  show ACode _ _ _ _ _ ⟨_, _, _⟩
  refine ACode.seq ?_
  refine ACode.seq ?_
  refine ACode.region' [0, 1] (by kernel_rfl) rfl ?_
  refine aOps_1 rfl rfl rfl (AOp.move' (.inl rfl) rfl ?_)
  refine aOps_1 rfl rfl rfl (AOp.bin' rfl rfl rfl rfl ?_)
  refine aOps_end ?_
  show ACode _ _ _ _ _ _
  refine ACode.cond rfl (fun c0 => ?_) (fun c0 => ?_)
  · try simp only [decide_eq_true_eq, decide_eq_false_iff_not, beq_iff_eq, beq_eq_false_iff_ne, ne_eq, bne_iff_ne, Bool.not_eq_true', Bool.not_eq_false', Int.not_lt, Int.not_le, gt_iff_lt, ge_iff_le, bne_eq_false_iff_eq, Bool.not_eq_eq_eq_not, Bool.not_true, Bool.not_false] at c0
    refine ACode.skip ?_
    show ACode _ _ _ _ _ _
    refine ACode.seq ?_
    refine ACode.block ?_
    refine ACode.region' [0, 1, 2, 3, 4, 5, 6] (by kernel_rfl) rfl ?_
    refine aOps_1 rfl rfl rfl (AOp.move' (.inl rfl) rfl ?_)
    refine aOps_1 rfl rfl rfl (AOp.move' (.inl rfl) rfl ?_)
    refine aOps_1 rfl rfl rfl (AOp.toU8 rfl rfl ?_)
    refine aOps_1 rfl rfl rfl (AOp.bin' (z := bv (UInt8.ofNat (v / 128 ^ i0 % 128 + 128))) rfl rfl rfl (congrArg (fun z => some (Value.int .u8 z)) (by rw [byteI_nat]; exact or128' _)) ?_)
    refine aOps_1 rfl rfl rfl (AOp.buildB [_] rfl (by decide) rfl rfl ?_)
    refine aOps_1 rfl rfl rfl ?_
    refine AOp.appendB (ps := ?ns1) rfl rfl rfl ?hn1 ?hsrc1 ?ht1 ?hw1 ?hz1 ?hR1
    (case hn1 => repeat (first | assumption | exact upd_same _ _ _ | refine (upd_other _ _ (by omega)).trans ?_ | refine hsL0 _ _ ?_))
    (case hsrc1 => refine srcOf_gb (e := 5) ?e11; (case e11 => repeat (first | assumption | exact upd_same _ _ _ | refine (upd_other _ _ (by omega)).trans ?_ | refine hsL0 _ _ ?_)))
    (case ht1 => exact srcOk_sl)
    (case hw1 => (first | omega | (simp only [List.length_cons, List.length_nil]; omega) | (simp only [List.length_append, List.length_cons, List.length_nil]; omega) | (simp; omega)))
    (case hz1 => (first | omega | (simp only [List.length_cons, List.length_nil]; omega) | (simp only [List.length_append, List.length_cons, List.length_nil]; omega) | (simp; omega)))
    refine aOps_1 rfl rfl rfl (AOp.move' (.inr rfl) rfl ?_)
    refine aOps_end ?_
    show ACode _ _ _ _ _ _
    refine ACode.region' [0, 1, 2] (by kernel_rfl) rfl ?_
    refine aOps_1 rfl rfl rfl (AOp.move' (.inl rfl) rfl ?_)
    refine aOps_1 rfl rfl rfl (AOp.bin' rfl rfl rfl rfl ?_)
    refine aOps_1 rfl rfl rfl (AOp.move' (.inr rfl) rfl ?_)
    refine aOps_end ?_
    obtain ⟨hb1, hb2⟩ := varB_at i0 v hiL0 (by exact_mod_cast c0)
    have hb3 : (bs ++ (varB v).take (i0 + 1)).length = (bs ++ (varB v).take i0).length + 1 := by rw [hb2, ← List.append_assoc, List.length_append]; rfl
    have hb4 : ((v / 128 ^ (i0 + 1) : Nat) : Int) = ((v / 128 ^ i0 : Nat) : Int).fdiv 128 := by rw [Int.fdiv_eq_ediv_of_nonneg _ (by decide), Nat.pow_succ, ← Nat.div_div_eq_div_mul]; rfl
    first | refine thenA_n ?_ | simp only [thenA, blockA, if_true]
    exact NextR.mk (by omega) (by omega) (.cons (show _ = some (sl n _) by rw [hb2, ← List.append_assoc]; rfl) (.cons (show _ = some (Value.int .u64 _) by rw [hb4]; rfl) .nil)) (.cons rfl .nil) (by exact sub_over_eq (y := some (gb (bs ++ (varB v).take i0))) (by (repeat (first | exact sub_refl _ | assumption | refine sub_upd' ?_ (by ((repeat refine (upd_other _ _ (by omega)).trans ?_); first | exact hf _ (by omega) | exact hfL0 _ (by omega))) | refine sub_trans ?_ hsL0 | refine sub_over (by assumption) | refine sub_over0 ?_ | refine sub_trans (sub_same (by assumption)) ?_ | refine sub_dropu ?_ | refine sub_drop ?_ | refine sub_put ?_ (by repeat (first | assumption | exact upd_same _ _ _ | refine (upd_other _ _ (by omega)).trans ?_ | refine hsL0 _ _ ?_))))) (by rw [hb2, List.append_assoc])) trivial
  · try simp only [decide_eq_true_eq, decide_eq_false_iff_not, beq_iff_eq, beq_eq_false_iff_ne, ne_eq, bne_iff_ne, Bool.not_eq_true', Bool.not_eq_false', Int.not_lt, Int.not_le, gt_iff_lt, ge_iff_le, bne_eq_false_iff_eq, Bool.not_eq_eq_eq_not, Bool.not_true, Bool.not_false] at c0
    refine ACode.exit ?_
    show ACode _ _ _ _ _ _
    refine ACode.seq ?_
    refine ACode.region' [0, 1, 2, 3, 4, 5] (by kernel_rfl) rfl ?_
    refine aOps_1 rfl rfl rfl (AOp.move' (.inl rfl) rfl ?_)
    refine aOps_1 rfl rfl rfl (AOp.move' (.inl rfl) rfl ?_)
    refine aOps_1 rfl rfl rfl (AOp.toU8 rfl rfl ?_)
    refine aOps_1 rfl rfl rfl (AOp.buildB [_] rfl (by decide) rfl rfl ?_)
    refine aOps_1 rfl rfl rfl ?_
    refine AOp.appendB (ps := ?ns2) rfl rfl rfl ?hn2 ?hsrc2 ?ht2 ?hw2 ?hz2 ?hR2
    (case hn2 => repeat (first | assumption | exact upd_same _ _ _ | refine (upd_other _ _ (by omega)).trans ?_ | refine hsL0 _ _ ?_))
    (case hsrc2 => refine srcOf_gb (e := 5) ?e12; (case e12 => repeat (first | assumption | exact upd_same _ _ _ | refine (upd_other _ _ (by omega)).trans ?_ | refine hsL0 _ _ ?_)))
    (case ht2 => exact srcOk_sl)
    (case hw2 => (first | omega | (simp only [List.length_cons, List.length_nil]; omega) | (simp only [List.length_append, List.length_cons, List.length_nil]; omega) | (simp; omega)))
    (case hz2 => (first | omega | (simp only [List.length_cons, List.length_nil]; omega) | (simp only [List.length_append, List.length_cons, List.length_nil]; omega) | (simp; omega)))
    refine aOps_1 rfl rfl rfl (AOp.move' (.inr rfl) rfl ?_)
    refine aOps_end ?_
    show ACode _ _ _ _ _ _
    refine ACode.ret ?_
    have hb := varB_last i0 v hiL0 (by exact_mod_cast c0)
    have hb3 : (bs ++ varB v).length = (bs ++ (varB v).take i0).length + 1 := by have := congrArg List.length hb; simp only [List.length_append, List.length_singleton] at this ⊢; omega
    exact RetQ.one rfl rfl (sub_over_eq (y := some (gb (bs ++ (varB v).take i0))) (by (repeat (first | exact sub_refl _ | assumption | refine sub_upd' ?_ (by ((repeat refine (upd_other _ _ (by omega)).trans ?_); first | exact hf _ (by omega) | exact hfL0 _ (by omega))) | refine sub_trans ?_ hsL0 | refine sub_over (by assumption) | refine sub_over0 ?_ | refine sub_trans (sub_same (by assumption)) ?_ | refine sub_dropu ?_ | refine sub_drop ?_ | refine sub_put ?_ (by repeat (first | assumption | exact upd_same _ _ _ | refine (upd_other _ _ (by omega)).trans ?_ | refine hsL0 _ _ ?_))))) (by rw [byteI_nat, List.append_assoc, ← hb])) stays_upd (fun hk => ⟨by rw [byteI_nat, List.append_assoc, ← hb], rfl, by omega⟩)

theorem refVar (v : Nat) (hv : v < 18446744073709551616) (H : Hp) (k : Nat) : ACalls Tryd.prog 1 85 [u64 v] H k (NewB H k 5 (varB v)) := by
  induction v using Nat.strongRecOn generalizing H k
  rename_i v ih
  refine ACalls.fresh fun hf => ?_
  refine ACalls.body Tryd.func85 rfl (Nat.le_of_ble_eq_true rfl) ?_
  refine ACode.seq ?_
  refine ACode.region' [0] (by kernel_rfl) rfl ?_
  refine aOps_1 rfl rfl rfl (AOp.move' (.inr rfl) rfl ?_)
  refine aOps_end ?_
  show ACode _ _ _ _ _ _
  refine ACode.seq ?_
  refine ACode.seq ?_
  refine ACode.region' [0, 1] (by kernel_rfl) rfl ?_
  refine aOps_1 rfl rfl rfl (AOp.move' (.inl rfl) rfl ?_)
  refine aOps_1 rfl rfl rfl (AOp.bin' rfl rfl rfl rfl ?_)
  refine aOps_end ?_
  show ACode _ _ _ _ _ _
  refine ACode.cond rfl (fun c0 => ?_) (fun c0 => ?_)
  · try simp only [decide_eq_true_eq, decide_eq_false_iff_not, beq_iff_eq, beq_eq_false_iff_ne, ne_eq, bne_iff_ne, Bool.not_eq_true', Bool.not_eq_false', Int.not_lt, Int.not_le, gt_iff_lt, ge_iff_le, bne_eq_false_iff_eq, Bool.not_eq_eq_eq_not, Bool.not_true, Bool.not_false] at c0
    refine ACode.seq ?_
    refine ACode.region' [0, 1, 2, 3] (by kernel_rfl) rfl ?_
    refine aOps_1 rfl rfl rfl (AOp.move' (.inl rfl) rfl ?_)
    refine aOps_1 rfl rfl rfl (AOp.toU8 rfl rfl ?_)
    refine aOps_1 rfl rfl rfl (AOp.buildB [_] rfl (by decide) rfl rfl ?_)
    refine aOps_1 rfl rfl rfl (AOp.move' (.inr rfl) rfl ?_)
    refine aOps_end ?_
    show ACode _ _ _ _ _ _
    refine ACode.ret ?_
    exact RetQ.one (H'' := upd H k (some (gb (varB v)))) rfl rfl (sub_over_eq (y := none) (sub_drop (sub_refl _)) (by rw [varB_small (by omega), byteI_nat])) stays_upd (fun hk => ⟨k, Nat.le_refl _, by omega, by rw [varB_small (by omega), byteI_nat], rfl⟩)
  · try simp only [decide_eq_true_eq, decide_eq_false_iff_not, beq_iff_eq, beq_eq_false_iff_ne, ne_eq, bne_iff_ne, Bool.not_eq_true', Bool.not_eq_false', Int.not_lt, Int.not_le, gt_iff_lt, ge_iff_le, bne_eq_false_iff_eq, Bool.not_eq_eq_eq_not, Bool.not_true, Bool.not_false] at c0
    refine ACode.skip ?_
    show ACode _ _ _ _ _ _
    refine ACode.seq ?_
    refine ACode.region' [0, 1, 2, 3, 4, 5, 6, 7, 8, 9] (by kernel_rfl) rfl ?_
    refine aOps_1 rfl rfl rfl (AOp.move' (.inl rfl) rfl ?_)
    refine aOps_1 rfl rfl rfl (AOp.bin' rfl rfl rfl rfl ?_)
    refine aOps_1 rfl rfl rfl (AOp.bin' rfl rfl rfl rfl ?_)
    refine aOps_1 rfl rfl rfl (AOp.toU8 rfl rfl ?_)
    refine aOps_1 rfl rfl rfl (AOp.buildB [_] rfl (by decide) rfl rfl ?_)
    refine aOps_1 rfl rfl rfl (AOp.move' (.inl rfl) rfl ?_)
    refine aOps_1 rfl rfl rfl (AOp.bin' (z := u64 (v / 128)) rfl rfl rfl (by show some (Value.int .u64 (IntKind.u64.wrap ((v : Int).tdiv 128))) = _; rw [IntKind.wrap_u64, Int.tdiv_eq_ediv_of_nonneg (by omega)]; congr 2; omega) ?_)
    refine aOps_1 rfl rfl rfl ?_
    refine AOp.call' rfl rfl rfl (ih (v / 128) (by omega) (by omega) _ _) ?_
    rintro _ _ kq ⟨q, hq1, hq2, rfl, rfl⟩
    have hvl := varB_len (v / 128) (by omega)
    refine aOps_1 rfl rfl rfl ?_
    refine AOp.appendB (ps := ?ns3) rfl rfl rfl ?hn3 ?hsrc3 ?ht3 ?hw3 ?hz3 ?hR3
    (case hn3 => repeat (first | assumption | exact upd_same _ _ _ | refine (upd_other _ _ (by omega)).trans ?_))
    (case hsrc3 => refine srcOf_gb (e := 5) ?e13; (case e13 => repeat (first | assumption | exact upd_same _ _ _ | refine (upd_other _ _ (by omega)).trans ?_)))
    (case ht3 => exact srcOk_sl)
    (case hw3 => (first | omega | (simp only [List.length_cons, List.length_nil]; omega) | (simp only [List.length_append, List.length_cons, List.length_nil]; omega) | (simp; omega)))
    (case hz3 => (first | omega | (simp only [List.length_cons, List.length_nil]; omega) | (simp only [List.length_append, List.length_cons, List.length_nil]; omega) | (simp; omega)))
    refine aOps_1 rfl rfl rfl (AOp.move' (.inr rfl) rfl ?_)
    refine aOps_end ?_
    show ACode _ _ _ _ _ _
    refine ACode.ret ?_
    have hb : byteI (IntKind.u64.wrap (128 + (v : Int).tmod 128)) = UInt8.ofNat (v % 128 + 128) := by rw [← byteI_nat, IntKind.wrap_u64, Int.tmod_eq_emod_of_nonneg (by omega)]; congr 1; omega
    have hl : (varB v).length = 1 + (varB (v / 128)).length := by rw [varB_big (by omega), List.length_cons, Nat.add_comm]
    exact RetQ.one (H'' := upd H k (some (gb (varB v)))) rfl rfl (sub_over_eq (y := none) (sub_drop (by (repeat (first | exact sub_refl _ | assumption | refine sub_upd' ?_ (by ((repeat refine (upd_other _ _ (by omega)).trans ?_); first | exact hf _ (by omega))) | refine sub_over (by assumption) | refine sub_over0 ?_ | refine sub_trans (sub_same (by assumption)) ?_ | refine sub_dropu ?_ | refine sub_drop ?_ | refine sub_put ?_ (by repeat (first | assumption | exact upd_same _ _ _ | refine (upd_other _ _ (by omega)).trans ?_)))))) (by rw [varB_big (show ¬ v < 128 by omega), hb]; rfl)) stays_upd (fun hk => ⟨k, Nat.le_refl _, by omega, by rw [varB_big (show ¬ v < 128 by omega), hb]; rfl, rfl⟩)

theorem clone_b (b : List UInt8) (n off : Nat) (sp : Option Nat) (l c : Nat) (hl : b.length = l) (hs : SLC H 1 (some ⟨n, off, sp⟩) l c (b.map bv)) (h0 : 0 < l) (hb : l ≤ 549755813888) : ACalls Tryd.prog 1 63 [.slice (some ⟨n, off, sp⟩) l c] H k (NewB H k 5 b) := by
  refine ACalls.fresh fun hf => ?_
  refine ACalls.body Tryd.func63 rfl (Nat.le_of_ble_eq_true rfl) ?_
  subst hl
  refine ACode.seq ?_
  refine ACode.region' [0] (by kernel_rfl) rfl ?_
  refine aOps_1 rfl rfl rfl (AOp.move' (.inr rfl) rfl ?_)
  refine aOps_end ?_
  show ACode _ _ _ _ _ _
  refine ACode.seq ?_
  refine ACode.seq ?_
  refine ACode.region' [0, 1] (by kernel_rfl) rfl ?_
  refine aOps_1 rfl rfl rfl (AOp.move' (.inl rfl) rfl ?_)
  refine aOps_1 rfl rfl rfl (AOp.eqNilS rfl rfl rfl (.inr h0) ?_)
  refine aOps_end ?_
  show ACode _ _ _ _ _ _
  refine ACode.cond rfl (fun c0 => absurd c0 (by simp)) (fun c0 => ?_)
  refine ACode.skip ?_
  show ACode _ _ _ _ _ _
  refine ACode.seq ?_
  refine ACode.region' [0, 1, 2, 3] (by kernel_rfl) rfl ?_
  refine aOps_1 rfl rfl rfl (AOp.buildB [] rfl (by decide) rfl rfl ?_)
  refine aOps_1 rfl rfl rfl (AOp.move' (.inl rfl) rfl ?_)
  refine aOps_1 rfl rfl rfl ?_
  refine AOp.appendB (ps := ?ns4) rfl rfl rfl ?hn4 ?hsrc4 ?ht4 ?hw4 ?hz4 ?hR4
  (case hn4 => repeat (first | assumption | exact upd_same _ _ _ | refine (upd_other _ _ (by omega)).trans ?_))
  (case hsrc4 => refine srcOf_slc (SLC.sub hs ?_).cells; (repeat (first | exact sub_refl _ | assumption | refine sub_upd' ?_ (by ((repeat refine (upd_other _ _ (by omega)).trans ?_); first | exact hf _ (by omega))) | refine sub_over (by assumption) | refine sub_over0 ?_ | refine sub_trans (sub_same (by assumption)) ?_ | refine sub_dropu ?_ | refine sub_drop ?_ | refine sub_put ?_ (by repeat (first | assumption | exact upd_same _ _ _ | refine (upd_other _ _ (by omega)).trans ?_)))))
  (case ht4 => exact srcOk_sl)
  (case hw4 => (first | omega | (simp only [List.length_cons, List.length_nil]; omega) | (simp only [List.length_append, List.length_cons, List.length_nil]; omega) | (simp; omega)))
  (case hz4 => (first | omega | (simp only [List.length_cons, List.length_nil]; omega) | (simp only [List.length_append, List.length_cons, List.length_nil]; omega) | (simp; omega)))
  refine aOps_1 rfl rfl rfl (AOp.move' (.inr rfl) rfl ?_)
  refine aOps_end ?_
  show ACode _ _ _ _ _ _
  refine ACode.ret ?_
  exact RetQ.one (H'' := upd H k (some (gb b))) rfl rfl (by (repeat (first | exact sub_refl _ | assumption | refine sub_upd' ?_ (by ((repeat refine (upd_other _ _ (by omega)).trans ?_); first | exact hf _ (by omega))) | refine sub_over (by assumption) | refine sub_over0 ?_ | refine sub_trans (sub_same (by assumption)) ?_ | refine sub_dropu ?_ | refine sub_drop ?_ | refine sub_put ?_ (by repeat (first | assumption | exact upd_same _ _ _ | refine (upd_other _ _ (by omega)).trans ?_))))) stays_upd (fun hk => ⟨k, by omega, by omega, rfl, rfl⟩)

theorem put_e (e : Ent) (hg : good e = true) : ACalls Tryd.prog 1 42 [entv e] H k (NewB H k 5 (formB e)) := by
  refine ACalls.fresh fun hf => ?_
  refine ACalls.body Tryd.func42 rfl (Nat.le_of_ble_eq_true rfl) ?_
  have hg2 := good_le hg
  have hsl := e.s.h
  have hrl := e.r.h
  obtain ⟨g, hgg⟩ : ∃ g : Nat, e.g = g := ⟨e.g.toNat, by omega⟩
  have hgn : e.g.toNat = g := by omega
  have hvl := varB_len g (by omega)
  refine ACode.seq ?_
  refine ACode.region' [0, 1] (by kernel_rfl) rfl ?_
  refine aOps_1 rfl rfl rfl (AOp.boxV rfl rfl ?_)
  refine aOps_1 rfl rfl rfl (AOp.move' (.inr rfl) rfl ?_)
  refine aOps_end ?_
  show ACode _ _ _ _ _ _
  refine ACode.seq ?_
  refine ACode.drawM0 8 [(0, 4), (1, 5), (2, 6), (3, 7), (4, 8), (5, 9), (6, 10), (7, 3)] [2] [([], []), ([], []), ([2], []), ([], []), ([], []), ([], []), ([2], []), ([], [])] mixed (by kernel_rfl) (by kernel_rfl) (by decide) ?_
  refine DrawM.q 0 [(1, none)] rfl rfl (by kernel_rfl) rfl rfl (fun Hc kq hkq hF hSb hfr => AOp.fieldAddr' rfl (by decide) rfl ⟨rfl, rfl, Nat.le_refl _⟩) ?_
  refine DrawM.q 1 [(4, some 0)] rfl rfl (by kernel_rfl) rfl rfl (fun Hc kq hkq hF hSb hfr => AOp.sliceP rfl rfl ⟨rfl, rfl, Nat.le_refl _⟩) ?_
  refine DrawM.new 2 _ _ [(5, some 1)] rfl (by decide) rfl (by kernel_rfl) rfl rfl RenOk.grow (fun Hc kq hkq hF hSb hfr => AOp.call' rfl rfl rfl (clone_b _ _ e.s.l _ 0 none 32 32 e.s.h (slc0 (by repeat (first | assumption | exact upd_same _ _ _ | refine (upd_other _ _ (by omega)).trans ?_ | exact hF 2 (by decide) | refine hSb _ _ ?_))) (by decide) (by decide)) (fun _ _ _ h => h)) ?_
  refine DrawM.q 3 [(1, none)] rfl rfl (by kernel_rfl) rfl rfl (fun Hc kq hkq hF hSb hfr => AOp.fieldAddr' rfl (by decide) rfl ⟨rfl, rfl, Nat.le_refl _⟩) ?_
  refine DrawM.q 4 [(7, some 3)] rfl rfl (by kernel_rfl) rfl rfl (fun Hc kq hkq hF hSb hfr => AOp.load1 (b := ebk e) (v := .int .i64 e.g) rfl rfl (by repeat (first | assumption | exact upd_same _ _ _ | refine (upd_other _ _ (by omega)).trans ?_ | refine hSb _ _ ?_)) (entc_g e) ⟨rfl, rfl, Nat.le_refl _⟩) ?_
  rw [hgg]
  refine DrawM.q 5 [(8, some 4)] rfl rfl (by kernel_rfl) rfl rfl (fun Hc kq hkq hF hSb hfr => AOp.convU64 (a := g) rfl rfl (by omega) ⟨rfl, rfl, Nat.le_refl _⟩) ?_
  refine DrawM.wr 6 2 _ [(6, some 2), (9, some 5)] rfl rfl (by kernel_rfl) rfl rfl (fun Hc kq hkq hF hSb hfr => AOp.call' rfl rfl rfl (putVar _ _ _ e.s.l g (by repeat (first | assumption | exact upd_same _ _ _ | refine (upd_other _ _ (by omega)).trans ?_ | exact hF 2 (by decide) | refine hSb _ _ ?_)) (by omega) (by omega)) (fun _ _ _ h => h)) ?_
  refine DrawM.q 7 [(10, some 6)] rfl rfl (by kernel_rfl) rfl rfl (fun Hc kq hkq hF hSb hfr => AOp.move' (.inr rfl) rfl ⟨rfl, rfl, Nat.le_refl _⟩) ?_
  refine DrawM.done fun kq hkq => ?_
  show aOps _ _ _ _ [] ⟨_, (upd _ (_ + 2) _), _⟩
  refine aOps_end ?_
  show ACode _ _ _ _ _ _
  refine ACode.seq ?_
  refine ACode.region' [0, 1, 2, 3, 4] (by kernel_rfl) rfl ?_
  refine aOps_1 rfl rfl rfl (AOp.move' (.inl rfl) rfl ?_)
  refine aOps_1 rfl rfl rfl (AOp.fieldAddr' rfl (by decide) rfl ?_)
  refine aOps_1 rfl rfl rfl (AOp.sliceP rfl rfl ?_)
  refine aOps_1 rfl rfl rfl (AOp.appendB (ps := e.r.l) rfl rfl rfl (by repeat (first | assumption | exact upd_same _ _ _ | refine (upd_other _ _ (by omega)).trans ?_)) (src33 (e := e) (by repeat (first | assumption | exact upd_same _ _ _ | refine (upd_other _ _ (by omega)).trans ?_))) srcOk_sl (by simp only [List.length_append]; omega) (by simp only [List.length_append]; omega) ?_)
  refine aOps_1 rfl rfl rfl (AOp.move' (.inr rfl) rfl ?_)
  refine aOps_end ?_
  show ACode _ _ _ _ _ _
  refine ACode.ret ?_
  have e9 : e.s.l ++ varB g ++ e.r.l = formB e := by rw [formB, hgn, List.append_assoc]
  rw [e9]
  exact RetQ.one (H'' := upd H _ (some (gb (formB e)))) rfl rfl (by (repeat (first | exact sub_refl _ | assumption | refine sub_upd' ?_ (by ((repeat refine (upd_other _ _ (by omega)).trans ?_); first | exact hf _ (by omega))) | refine sub_over (by assumption) | refine sub_over0 ?_ | refine sub_trans (sub_same (by assumption)) ?_ | refine sub_dropu ?_ | refine sub_drop ?_ | refine sub_put ?_ (by repeat (first | assumption | exact upd_same _ _ _ | refine (upd_other _ _ (by omega)).trans ?_))))) stays_upd (fun hk => ⟨_, by omega, by omega, rfl, rfl⟩)

theorem refput_e (e : Ent) (hg : good e = true) : ACalls Tryd.prog 1 57 [entv e] H k (NewB H k 5 (formB e)) := by
  refine ACalls.fresh fun hf => ?_
  refine ACalls.body Tryd.func57 rfl (Nat.le_of_ble_eq_true rfl) ?_
  have hg2 := good_le hg
  have hsl := e.s.h
  have hrl := e.r.h
  obtain ⟨g, hgg⟩ : ∃ g : Nat, e.g = g := ⟨e.g.toNat, by omega⟩
  have hgn : e.g.toNat = g := by omega
  have hvl := varB_len g (by omega)
  have e33 : (ebk e).cells = (e.s.l.map bv ++ [.int .i64 e.g]) ++ (e.r.l.map bv ++ []) := by rw [List.append_nil, List.append_assoc]; rfl
  refine ACode.seq ?_
  refine ACode.region' [0, 1] (by kernel_rfl) rfl ?_
  refine aOps_1 rfl rfl rfl (AOp.boxV rfl rfl ?_)
  refine aOps_1 rfl rfl rfl (AOp.move' (.inr rfl) rfl ?_)
  refine aOps_end ?_
  show ACode _ _ _ _ _ _
  refine ACode.seq ?_
  refine ACode.drawM0 9 [(0, 4), (1, 5), (2, 6), (3, 7), (4, 8), (5, 9), (6, 10), (7, 11), (8, 3)] [2, 6] [([], []), ([], []), ([2], []), ([], []), ([], []), ([], []), ([6], []), ([2], [6]), ([], [])] mixed (by kernel_rfl) (by kernel_rfl) (by decide) ?_
  refine DrawM.q 0 [(1, none)] rfl rfl (by kernel_rfl) rfl rfl (fun Hc kq hkq hF hSb hfr => AOp.fieldAddr' rfl (by decide) rfl ⟨rfl, rfl, Nat.le_refl _⟩) ?_
  refine DrawM.q 1 [(4, some 0)] rfl rfl (by kernel_rfl) rfl rfl (fun Hc kq hkq hF hSb hfr => AOp.loadPart (b := ebk e) e.s [] (.int .i64 e.g :: e.r.l.map bv) (by repeat (first | assumption | exact upd_same _ _ _ | refine (upd_other _ _ (by omega)).trans ?_ | refine hSb _ _ ?_)) rfl rfl rfl rfl ⟨rfl, rfl, Nat.le_refl _⟩) ?_
  refine DrawM.new 2 _ _ [(5, some 1)] rfl (by decide) rfl (by kernel_rfl) rfl rfl RenOk.grow (fun Hc kq hkq hF hSb hfr => AOp.call' rfl rfl rfl (bytesOf_b _ _ e.s) (fun _ _ _ h => h)) ?_
  refine DrawM.q 3 [(1, none)] rfl rfl (by kernel_rfl) rfl rfl (fun Hc kq hkq hF hSb hfr => AOp.fieldAddr' rfl (by decide) rfl ⟨rfl, rfl, Nat.le_refl _⟩) ?_
  refine DrawM.q 4 [(7, some 3)] rfl rfl (by kernel_rfl) rfl rfl (fun Hc kq hkq hF hSb hfr => AOp.load1 (b := ebk e) (v := .int .i64 e.g) rfl rfl (by repeat (first | assumption | exact upd_same _ _ _ | refine (upd_other _ _ (by omega)).trans ?_ | refine hSb _ _ ?_)) (entc_g e) ⟨rfl, rfl, Nat.le_refl _⟩) ?_
  rw [hgg]
  refine DrawM.q 5 [(8, some 4)] rfl rfl (by kernel_rfl) rfl rfl (fun Hc kq hkq hF hSb hfr => AOp.convU64 (a := g) rfl rfl (by omega) ⟨rfl, rfl, Nat.le_refl _⟩) ?_
  refine DrawM.new 6 _ _ [(9, some 5)] rfl (by decide) rfl (by kernel_rfl) rfl rfl RenOk.grow (fun Hc kq hkq hF hSb hfr => AOp.call' rfl rfl rfl (refVar g (by omega) _ _) (fun _ _ _ h => h)) ?_
  refine DrawM.wr 7 2 _ [(6, some 2), (10, some 6)] rfl rfl (by kernel_rfl) rfl rfl (fun Hc kq hkq hF hSb hfr => (by refine AOp.appendB (ps := ?ns5) rfl rfl rfl ?hn5 ?hsrc5 ?ht5 ?hw5 ?hz5 ?hR5; (case hn5 => repeat (first | assumption | exact upd_same _ _ _ | refine (upd_other _ _ (by omega)).trans ?_ | exact hF 2 (by decide) | exact hF 6 (by decide) | refine hSb _ _ ?_)); (case hsrc5 => refine srcOf_gb (e := 5) ?e15; (case e15 => repeat (first | assumption | exact upd_same _ _ _ | refine (upd_other _ _ (by omega)).trans ?_ | exact hF 2 (by decide) | exact hF 6 (by decide) | refine hSb _ _ ?_))); (case ht5 => exact srcOk_sl); (case hw5 => (first | omega | (simp only [List.length_cons, List.length_nil]; omega) | (simp only [List.length_append, List.length_cons, List.length_nil]; omega) | (simp; omega))); (case hz5 => (first | omega | (simp only [List.length_cons, List.length_nil]; omega) | (simp only [List.length_append, List.length_cons, List.length_nil]; omega) | (simp; omega))); exact ⟨rfl, rfl, Nat.le_refl _⟩)) ?_
  refine DrawM.q 8 [(11, some 7)] rfl rfl (by kernel_rfl) rfl rfl (fun Hc kq hkq hF hSb hfr => AOp.move' (.inr rfl) rfl ⟨rfl, rfl, Nat.le_refl _⟩) ?_
  refine DrawM.done fun kq hkq => ?_
  show aOps _ _ _ _ [] ⟨_, (upd (upd _ (_ + 6) _) (_ + 2) _), _⟩
  refine aOps_end ?_
  show ACode _ _ _ _ _ _
  refine ACode.seq ?_
  refine ACode.region' [0, 1, 2, 3, 4, 5] (by kernel_rfl) rfl ?_
  refine aOps_1 rfl rfl rfl (AOp.move' (.inl rfl) rfl ?_)
  refine aOps_1 rfl rfl rfl (AOp.fieldAddr' rfl (by decide) rfl ?_)
  refine aOps_1 rfl rfl rfl (AOp.loadPart (b := ebk e) e.r (e.s.l.map bv ++ [.int .i64 e.g]) [] (by repeat (first | assumption | exact upd_same _ _ _ | refine (upd_other _ _ (by omega)).trans ?_)) e33 (by rw [List.length_append, hcs_one]; rfl) rfl rfl ?_)
  refine aOps_1 rfl rfl rfl ?_
  refine AOp.call' rfl rfl rfl (bytesOf_b _ _ e.r) ?_
  rintro _ _ kr ⟨q2, hq1, hq2, rfl, rfl⟩
  refine aOps_1 rfl rfl rfl ?_
  refine AOp.appendB (ps := ?ns6) rfl rfl rfl ?hn6 ?hsrc6 ?ht6 ?hw6 ?hz6 ?hR6
  (case hn6 => repeat (first | assumption | exact upd_same _ _ _ | refine (upd_other _ _ (by omega)).trans ?_))
  (case hsrc6 => refine srcOf_gb (e := 5) ?e16; (case e16 => repeat (first | assumption | exact upd_same _ _ _ | refine (upd_other _ _ (by omega)).trans ?_)))
  (case ht6 => exact srcOk_sl)
  (case hw6 => (first | omega | (simp only [List.length_cons, List.length_nil]; omega) | (simp only [List.length_append, List.length_cons, List.length_nil]; omega) | (simp; omega)))
  (case hz6 => (first | omega | (simp only [List.length_cons, List.length_nil]; omega) | (simp only [List.length_append, List.length_cons, List.length_nil]; omega) | (simp; omega)))
  refine aOps_1 rfl rfl rfl (AOp.move' (.inr rfl) rfl ?_)
  refine aOps_end ?_
  show ACode _ _ _ _ _ _
  refine ACode.ret ?_
  have e9 : e.s.l ++ varB g ++ e.r.l = formB e := by rw [formB, hgn, List.append_assoc]
  rw [e9]
  exact RetQ.one (H'' := upd H _ (some (gb (formB e)))) rfl rfl (by (repeat (first | exact sub_refl _ | assumption | refine sub_upd' ?_ (by ((repeat refine (upd_other _ _ (by omega)).trans ?_); first | exact hf _ (by omega))) | refine sub_over (by assumption) | refine sub_over0 ?_ | refine sub_trans (sub_same (by assumption)) ?_ | refine sub_dropu ?_ | refine sub_drop ?_ | refine sub_put ?_ (by repeat (first | assumption | exact upd_same _ _ _ | refine (upd_other _ _ (by omega)).trans ?_))))) stays_upd (fun hk => ⟨_, by omega, by omega, rfl, rfl⟩)

theorem right_b (e : Ent) : ACalls Tryd.prog 1 54 [entv e] H k (Same H k (.bool (good e))) := by
  refine ACalls.fresh fun hf => ?_
  refine ACalls.body Tryd.func54 rfl (Nat.le_of_ble_eq_true rfl) ?_
  refine ACode.seq ?_
  refine ACode.region' [0, 1] (by kernel_rfl) rfl ?_
  refine aOps_1 rfl rfl rfl (AOp.boxV rfl rfl ?_)
  refine aOps_1 rfl rfl rfl (AOp.move' (.inr rfl) rfl ?_)
  refine aOps_end ?_
  show ACode _ _ _ _ _ _
  refine ACode.seq ?_
  refine ACode.region' [0, 1, 2, 3, 4, 5, 6, 7, 8] (by kernel_rfl) rfl ?_
  refine aOps_1 rfl rfl rfl (AOp.fieldAddr' rfl (by decide) rfl ?_)
  refine aOps_1 rfl rfl rfl (AOp.load1 (b := ebk e) (v := .int .i64 e.g) rfl rfl (by repeat (first | assumption | exact upd_same _ _ _ | refine (upd_other _ _ (by omega)).trans ?_)) (entc_g e) ?_)
  refine aOps_1 rfl rfl rfl (AOp.bin' rfl rfl rfl rfl ?_)
  refine aOps_1 rfl rfl rfl (AOp.move' (.inl rfl) rfl ?_)
  refine aOps_gd0 rfl rfl (wantT rfl rfl rfl) (fun hc => AOp.slots [(1, _)] (.cons rfl .nil) (AOp.fieldAddr' rfl (by decide) rfl ⟨rfl, rfl, rfl⟩)) ?_
  refine aOps_gd0 rfl rfl (wantT rfl rfl rfl) (fun hc => AOp.slots [(7, _)] (.cons (gvT rfl hc) .nil) (AOp.load1 (b := ebk e) (v := .int .i64 e.g) rfl rfl (by repeat (first | assumption | exact upd_same _ _ _ | refine (upd_other _ _ (by omega)).trans ?_)) (entc_g e) ⟨rfl, rfl, rfl⟩)) ?_
  refine aOps_gd0 rfl rfl (wantT rfl rfl rfl) (fun hc => AOp.slots [(8, _)] (.cons (gvT rfl hc) .nil) (AOp.bin' rfl rfl rfl rfl ⟨rfl, rfl, rfl⟩)) ?_
  refine aOps_1 rfl rfl rfl (AOp.pickAnd rfl rfl rfl (fun hb => gvE rfl hb) ?_)
  refine aOps_1 rfl rfl rfl (AOp.move' (.inr rfl) rfl ?_)
  refine aOps_end ?_
  show ACode _ _ _ _ _ _
  refine ACode.ret ?_
  exact RetQ.one rfl rfl (by (repeat (first | exact sub_refl _ | assumption | refine sub_upd' ?_ (by ((repeat refine (upd_other _ _ (by omega)).trans ?_); first | exact hf _ (by omega))) | refine sub_over (by assumption) | refine sub_over0 ?_ | refine sub_trans (sub_same (by assumption)) ?_ | refine sub_dropu ?_ | refine sub_drop ?_ | refine sub_put ?_ (by repeat (first | assumption | exact upd_same _ _ _ | refine (upd_other _ _ (by omega)).trans ?_))))) stays (fun hk => ⟨rfl, rfl, by omega⟩)

/-- A new ledger: its variable, and the array of its entries. -/
def NewL (H : Hp) (k : Nat) (v : Value) (H' : Hp) (k' : Nat) : Prop := ∃ n q, k ≤ n ∧ n < q ∧ q < k' ∧ v = .pointer (some ⟨n, 0, none⟩) ∧ H' = upd (upd H q (some (kblk T74 [] []))) n (some (lblk TL q 0))

theorem new_l : ACalls Tryd.prog 1 17 [] H k (NewL H k) := by
  refine ACalls.fresh fun hf => ?_
  refine ACalls.body Tryd.func17 rfl (Nat.le_of_ble_eq_true rfl) ?_
  refine ACode.seq ?_
  refine ACode.region' [0] (by kernel_rfl) rfl ?_
  refine aOps_1 rfl rfl rfl (AOp.move' (.inr rfl) rfl ?_)
  refine aOps_end ?_
  show ACode _ _ _ _ _ _
  refine ACode.seq ?_
  refine ACode.region' [0, 1, 2] (by kernel_rfl) rfl ?_
  refine aOps_1 rfl rfl rfl (AOp.buildS (cells := #[_]) rfl rfl rfl ?_)
  refine aOps_1 rfl rfl rfl (AOp.boxV rfl rfl ?_)
  refine aOps_1 rfl rfl rfl (AOp.move' (.inr rfl) rfl ?_)
  refine aOps_end ?_
  show ACode _ _ _ _ _ _
  refine ACode.adoptCell (n := k) (ty := TL) T74 66 (by decide) (upd_same _ _ _) ?_
  refine ACode.ret ?_
  exact RetQ.one (H'' := upd (upd H (k + 1) (some (kblk T74 [] []))) k (some (lblk TL (k + 1) 0))) rfl rfl (sub_over0 (sub_over0 (sub_upf hf (Nat.le_refl _) (sub_refl _)))) (stays_sub (by (repeat (first | exact sub_refl _ | assumption | refine sub_upd' ?_ (by ((repeat refine (upd_other _ _ (by omega)).trans ?_); first | exact hf _ (by omega))) | refine sub_over (by assumption) | refine sub_over0 ?_ | refine sub_trans (sub_same (by assumption)) ?_ | refine sub_dropu ?_ | refine sub_drop ?_ | refine sub_put ?_ (by repeat (first | assumption | exact upd_same _ _ _ | refine (upd_other _ _ (by omega)).trans ?_)))))) (fun hk => ⟨k, k + 1, Nat.le_refl _, Nat.lt_succ_self _, by omega, rfl, rfl⟩)

theorem add_bad (e : Ent) (hg : good e = false) (n : Nat) : ACalls Tryd.prog 1 18 [.pointer (some ⟨n, 0, none⟩), entv e] H k (Same H k (.int .i64 1)) := by
  refine ACalls.fresh fun hf => ?_
  refine ACalls.body Tryd.func18 rfl (Nat.le_of_ble_eq_true rfl) ?_
  refine ACode.seq ?_
  refine ACode.region' [0, 1] (by kernel_rfl) rfl ?_
  refine aOps_1 rfl rfl rfl (AOp.boxV rfl rfl ?_)
  refine aOps_1 rfl rfl rfl (AOp.move' (.inr rfl) rfl ?_)
  refine aOps_end ?_
  show ACode _ _ _ _ _ _
  refine ACode.seq ?_
  refine ACode.seq ?_
  refine ACode.region' [0, 1, 2, 3, 4, 5, 6] (by kernel_rfl) rfl ?_
  refine aOps_1 rfl rfl rfl (AOp.move' (.inl rfl) rfl ?_)
  refine aOps_1 rfl rfl rfl (AOp.eqNilP rfl rfl rfl ?_)
  refine aOps_1 rfl rfl rfl (AOp.move' (.inl rfl) rfl ?_)
  refine aOps_gd0 rfl rfl (wantF rfl rfl rfl) (fun hc => AOp.slots [(3, _)] (.cons rfl .nil) ((by refine AOp.loadAll (b := ?b7) (v := entv e) rfl rfl ?hn7 ?hv7 ?hw7 ?hz7 ?hR7; (case hn7 => repeat (first | assumption | exact upd_same _ _ _ | refine (upd_other _ _ (by omega)).trans ?_)); (case hv7 => rfl); (case hw7 => rfl); (case hz7 => first | rfl | exact hv_size _ | exact hcs_one _ | exact (aw_size _).trans rfl | exact one_wv _ | exact one_bv _ | exact entv_size _ | exact entc_one _ | (simp; done)); exact ⟨rfl, rfl, rfl⟩))) ?_
  refine aOps_gd rfl rfl (wantF rfl rfl rfl) (fun hc => AOp.slots [(8, _)] (.cons (gvT rfl hc) .nil) (AOp.call' rfl rfl rfl (right_b _ _ e) (fun _ _ _ h => h))) (fun kq hkq => ?_)
  refine aOps_gd0 rfl rfl (wantF rfl rfl rfl) (fun hc => AOp.slots [(9, _)] (.cons (gvT rfl hc) .nil) (AOp.un' rfl rfl rfl ⟨rfl, rfl, rfl⟩)) ?_
  refine aOps_1 rfl rfl rfl (AOp.pickOr rfl rfl rfl (fun hb => gvE rfl (t_not hb)) ?_)
  refine aOps_end ?_
  show ACode _ _ _ _ _ _
  refine ACode.cond rfl (fun c0 => ?_) (fun c0 => absurd c0 (by rw [hg] at c0; simp at c0))
  refine ACode.seq ?_
  refine ACode.region' [0] (by kernel_rfl) rfl ?_
  refine aOps_1 rfl rfl rfl (AOp.move' (.inr rfl) rfl ?_)
  refine aOps_end ?_
  show ACode _ _ _ _ _ _
  refine ACode.ret ?_
  exact RetQ.one rfl rfl (by (repeat (first | exact sub_refl _ | assumption | refine sub_upd' ?_ (by ((repeat refine (upd_other _ _ (by omega)).trans ?_); first | exact hf _ (by omega))) | refine sub_over (by assumption) | refine sub_over0 ?_ | refine sub_trans (sub_same (by assumption)) ?_ | refine sub_dropu ?_ | refine sub_drop ?_ | refine sub_put ?_ (by repeat (first | assumption | exact upd_same _ _ _ | refine (upd_other _ _ (by omega)).trans ?_))))) stays (fun hk => ⟨rfl, rfl, by omega⟩)

theorem add_good (e : Ent) (hg : good e = true) (n q : Nat) (hnq : n ≠ q) (es : List Ent) (vs : List Value) (hl : es.length = vs.length) (hm : es.length ≤ 1000000000) (hn : H n = some (lblk TL q es.length)) (hq : H q = some (kblk T74 es vs)) : ACalls Tryd.prog 1 18 [.pointer (some ⟨n, 0, none⟩), entv e] H k (fun v H' k' => ∃ f, k ≤ f ∧ f < k' ∧ v = .int .i64 0 ∧ H' = upd (upd (upd H f (some (gb (formB e)))) q (some (kblk T74 (es ++ [e]) (vs ++ [gsl f (formB e).length])))) n (some (lblk TL q (es ++ [e]).length))) := by
  refine ACalls.fresh fun hf => ?_
  refine ACalls.body Tryd.func18 rfl (Nat.le_of_ble_eq_true rfl) ?_
  have hnk := old_lt hf hn
  have hqk := old_lt hf hq
  have hfl := formB_len e hg
  have hkl := kcs_len es vs hl
  refine ACode.seq ?_
  refine ACode.region' [0, 1] (by kernel_rfl) rfl ?_
  refine aOps_1 rfl rfl rfl (AOp.boxV rfl rfl ?_)
  refine aOps_1 rfl rfl rfl (AOp.move' (.inr rfl) rfl ?_)
  refine aOps_end ?_
  show ACode _ _ _ _ _ _
  refine ACode.seq ?_
  refine ACode.seq ?_
  refine ACode.region' [0, 1, 2, 3, 4, 5, 6] (by kernel_rfl) rfl ?_
  refine aOps_1 rfl rfl rfl (AOp.move' (.inl rfl) rfl ?_)
  refine aOps_1 rfl rfl rfl (AOp.eqNilP rfl rfl rfl ?_)
  refine aOps_1 rfl rfl rfl (AOp.move' (.inl rfl) rfl ?_)
  refine aOps_gd0 rfl rfl (wantF rfl rfl rfl) (fun hc => AOp.slots [(3, _)] (.cons rfl .nil) ((by refine AOp.loadAll (b := ?b8) (v := entv e) rfl rfl ?hn8 ?hv8 ?hw8 ?hz8 ?hR8; (case hn8 => repeat (first | assumption | exact upd_same _ _ _ | refine (upd_other _ _ (by omega)).trans ?_)); (case hv8 => rfl); (case hw8 => rfl); (case hz8 => first | rfl | exact hv_size _ | exact hcs_one _ | exact (aw_size _).trans rfl | exact one_wv _ | exact one_bv _ | exact entv_size _ | exact entc_one _ | (simp; done)); exact ⟨rfl, rfl, rfl⟩))) ?_
  refine aOps_gd rfl rfl (wantF rfl rfl rfl) (fun hc => AOp.slots [(8, _)] (.cons (gvT rfl hc) .nil) (AOp.call' rfl rfl rfl (right_b _ _ e) (fun _ _ _ h => h))) (fun kq hkq => ?_)
  refine aOps_gd0 rfl rfl (wantF rfl rfl rfl) (fun hc => AOp.slots [(9, _)] (.cons (gvT rfl hc) .nil) (AOp.un' rfl rfl rfl ⟨rfl, rfl, rfl⟩)) ?_
  refine aOps_1 rfl rfl rfl (AOp.pickOr rfl rfl rfl (fun hb => gvE rfl (t_not hb)) ?_)
  refine aOps_end ?_
  show ACode _ _ _ _ _ _
  refine ACode.cond rfl (fun c0 => absurd c0 (by rw [hg] at c0; simp at c0)) (fun c0 => ?_)
  refine ACode.skip ?_
  show ACode _ _ _ _ _ _
  refine ACode.seq ?_
  refine ACode.any mixed (by kernel_rfl) ?_
  refine AnyA.split 13 (by kernel_rfl) (by kernel_rfl) (by decide) (by decide) (Nat.le_of_ble_eq_true rfl) ?_
  refine AnyA.float (Hq := upd (upd H k (some (ebk e))) q none) [(0, 12), (1, 13), (2, 14), (3, 15), (4, 16), (5, 17), (6, 18), (11, 23), (12, 24)] [7, 8, 9, 10] (by kernel_rfl) (Nat.le_of_ble_eq_true rfl) (by kernel_rfl) (by (repeat (first | exact sub_refl _ | assumption | refine sub_upd' ?_ (by ((repeat refine (upd_other _ _ (by omega)).trans ?_); first | exact hf _ (by omega))) | refine sub_over (by assumption) | refine sub_over0 ?_ | refine sub_trans (sub_same (by assumption)) ?_ | refine sub_dropu ?_ | refine sub_drop ?_ | refine sub_put ?_ (by repeat (first | assumption | exact upd_same _ _ _ | refine (upd_other _ _ (by omega)).trans ?_))))) ?_
  refine DrawF.q 0 12 [(0, none)] rfl (by kernel_rfl) rfl (fun Hc kq hSb => AOp.move' (.inl rfl) rfl ⟨rfl, rfl, rfl⟩) ?_
  refine DrawF.q 1 13 [(0, none)] rfl (by kernel_rfl) rfl (fun Hc kq hSb => AOp.move' (.inl rfl) rfl ⟨rfl, rfl, rfl⟩) ?_
  refine DrawF.q 2 14 [(13, some 1)] rfl (by kernel_rfl) rfl (fun Hc kq hSb => AOp.nilCheck' rfl rfl ⟨rfl, rfl, rfl⟩) ?_
  refine DrawF.q 3 15 [(14, some 2)] rfl (by kernel_rfl) rfl (fun Hc kq hSb => AOp.fieldAddr' rfl (by decide) rfl ⟨rfl, rfl, rfl⟩) ?_
  refine DrawF.q 4 16 [(15, some 3)] rfl (by kernel_rfl) rfl (fun Hc kq hSb => (by refine AOp.load1 (b := ?b9) (v := ?v9) rfl rfl ?hn9 ?hv9 ?hR9; (case hn9 => repeat (first | assumption | exact upd_same _ _ _ | refine (upd_other _ _ (by omega)).trans ?_ | refine hSb _ _ ?_)); (case hv9 => rfl); exact ⟨rfl, rfl, rfl⟩)) ?_
  refine DrawF.q 5 17 [(3, none)] rfl (by kernel_rfl) rfl (fun Hc kq hSb => (by refine AOp.loadAll (b := ?b10) (v := entv e) rfl rfl ?hn10 ?hv10 ?hw10 ?hz10 ?hR10; (case hn10 => repeat (first | assumption | exact upd_same _ _ _ | refine (upd_other _ _ (by omega)).trans ?_ | refine hSb _ _ ?_)); (case hv10 => rfl); (case hw10 => rfl); (case hz10 => first | rfl | exact hv_size _ | exact hcs_one _ | exact (aw_size _).trans rfl | exact one_wv _ | exact one_bv _ | exact entv_size _ | exact entc_one _ | (simp; done)); exact ⟨rfl, rfl, rfl⟩)) ?_
  refine DrawF.q 6 18 [(3, none)] rfl (by kernel_rfl) rfl (fun Hc kq hSb => (by refine AOp.loadAll (b := ?b11) (v := entv e) rfl rfl ?hn11 ?hv11 ?hw11 ?hz11 ?hR11; (case hn11 => repeat (first | assumption | exact upd_same _ _ _ | refine (upd_other _ _ (by omega)).trans ?_ | refine hSb _ _ ?_)); (case hv11 => rfl); (case hw11 => rfl); (case hz11 => first | rfl | exact hv_size _ | exact hcs_one _ | exact (aw_size _).trans rfl | exact one_wv _ | exact one_bv _ | exact entv_size _ | exact entc_one _ | (simp; done)); exact ⟨rfl, rfl, rfl⟩)) ?_
  refine DrawF.q 11 23 [(12, some 0)] rfl (by kernel_rfl) rfl (fun Hc kq hSb => AOp.nilCheck' rfl rfl ⟨rfl, rfl, rfl⟩) ?_
  refine DrawF.q 12 24 [(23, some 11)] rfl (by kernel_rfl) rfl (fun Hc kq hSb => AOp.fieldAddr' rfl (by decide) rfl ⟨rfl, rfl, rfl⟩) ?_
  refine DrawF.done ?_
  show aOpsF _ _ _ _ _ _ [7, 8, 9, 10] ⟨_, _, _⟩
  refine aOpsF_1 [18] rfl rfl (by kernel_rfl) rfl ?_
  refine AOp.call' rfl rfl rfl (put_e _ _ e hg) ?_
  rintro _ _ ka ⟨f, hf1, hf2, rfl, rfl⟩
  refine ⟨by (repeat (first | exact sub_refl _ | assumption | refine sub_upd' ?_ (by ((repeat refine (upd_other _ _ (by omega)).trans ?_); first | exact hf _ (by omega))) | refine sub_over (by assumption) | refine sub_over0 ?_ | refine sub_trans (sub_same (by assumption)) ?_ | refine sub_dropu ?_ | refine sub_drop ?_ | refine sub_put ?_ (by repeat (first | assumption | exact upd_same _ _ _ | refine (upd_other _ _ (by omega)).trans ?_)))), ?_⟩
  refine aOpsF_1 [17, 19] rfl rfl (by kernel_rfl) rfl (AOp.buildK e _ rfl rfl rfl rfl ?_)
  refine ⟨by (repeat (first | exact sub_refl _ | assumption | refine sub_upd' ?_ (by ((repeat refine (upd_other _ _ (by omega)).trans ?_); first | exact hf _ (by omega))) | refine sub_over (by assumption) | refine sub_over0 ?_ | refine sub_trans (sub_same (by assumption)) ?_ | refine sub_dropu ?_ | refine sub_drop ?_ | refine sub_put ?_ (by repeat (first | assumption | exact upd_same _ _ _ | refine (upd_other _ _ (by omega)).trans ?_)))), ?_⟩
  refine aOpsF_1 [20] rfl rfl (by kernel_rfl) rfl (AOp.buildH (entc e ++ [gsl f (formB e).length]) rfl (by rw [List.length_append, entc_len]; rfl) (by decide) (by decide) rfl rfl ?_)
  refine ⟨by (repeat (first | exact sub_refl _ | assumption | refine sub_upd' ?_ (by ((repeat refine (upd_other _ _ (by omega)).trans ?_); first | exact hf _ (by omega))) | refine sub_over (by assumption) | refine sub_over0 ?_ | refine sub_trans (sub_same (by assumption)) ?_ | refine sub_dropu ?_ | refine sub_drop ?_ | refine sub_put ?_ (by repeat (first | assumption | exact upd_same _ _ _ | refine (upd_other _ _ (by omega)).trans ?_)))), ?_⟩
  refine aOpsF_1 [16, 21] rfl rfl (by kernel_rfl) rfl (AOp.append' (b := kblk T74 es vs) (m := 1) (news := entc e ++ [gsl f (formB e).length]) rfl rfl rfl (by repeat (first | assumption | exact upd_same _ _ _ | refine (upd_other _ _ (by omega)).trans ?_)) (srcOf_grow (b := { cells := entc e ++ [gsl f (formB e).length], elem := T74, kind := .grow, esz := 66 }) (by repeat (first | assumption | exact upd_same _ _ _ | refine (upd_other _ _ (by omega)).trans ?_)) rfl (by rw [List.length_append, entc_len]; rfl)) rfl rfl rfl (by rw [hkl]) srcOk_sl (by intro u hu; rcases List.mem_append.1 hu with h | h; exact List.all_eq_true.1 (entc_one e) u h; simp at h; subst h; rfl) (by omega) (by omega) ?_)
  rw [← kcs_snoc es vs e _ hl]
  refine ⟨by (repeat (first | exact sub_refl _ | assumption | refine sub_upd' ?_ (by ((repeat refine (upd_other _ _ (by omega)).trans ?_); first | exact hf _ (by omega))) | refine sub_over (by assumption) | refine sub_over0 ?_ | refine sub_trans (sub_same (by assumption)) ?_ | refine sub_dropu ?_ | refine sub_drop ?_ | refine sub_put ?_ (by repeat (first | assumption | exact upd_same _ _ _ | refine (upd_other _ _ (by omega)).trans ?_)))), ?_⟩
  refine aOpsF_end ?_
  refine AnyA.float (Hq := (fun _ => none)) [] [13] (by kernel_rfl) (Nat.le_of_ble_eq_true rfl) (by kernel_rfl) (sub_none _) ?_
  refine DrawF.done ?_
  show aOpsF _ _ _ _ _ _ [13] ⟨_, _, _⟩
  refine aOpsF_0 [24, 22] rfl rfl (by kernel_rfl) rfl ?_
  refine AOp.store1 (b := ?b12) rfl rfl rfl ?hn12 ?hk12 rfl rfl ?hl12 ?hR12
  (case hn12 => repeat (first | assumption | exact upd_same _ _ _ | refine (upd_other _ _ (by omega)).trans ?_))
  (case hk12 => rfl)
  (case hl12 => simp)
  refine ⟨sub_none _, ?_⟩
  refine aOpsF_end ?_
  show ACode _ _ _ _ _ _
  refine ACode.seq ?_
  refine ACode.region' [0] (by kernel_rfl) rfl ?_
  refine aOps_1 rfl rfl rfl (AOp.move' (.inr rfl) rfl ?_)
  refine aOps_end ?_
  show ACode _ _ _ _ _ _
  refine ACode.ret ?_
  have e1 : es.length + 1 = (es ++ [e]).length := by rw [List.length_append]; rfl
  exact RetQ.one (H'' := upd (upd (upd H f (some (gb (formB e)))) q (some (kblk T74 (es ++ [e]) (vs ++ [gsl f (formB e).length])))) n (some (lblk TL q (es.length + 1)))) rfl rfl (by (repeat (first | exact sub_refl _ | assumption | refine sub_upd' ?_ (by ((repeat refine (upd_other _ _ (by omega)).trans ?_); first | exact hf _ (by omega))) | refine sub_over (by assumption) | refine sub_over0 ?_ | refine sub_trans (sub_same (by assumption)) ?_ | refine sub_dropu ?_ | refine sub_drop ?_ | refine sub_put ?_ (by repeat (first | assumption | exact upd_same _ _ _ | refine (upd_other _ _ (by omega)).trans ?_))))) (fun m c hm => by by_cases h1 : m = n; exact ⟨_, by rw [h1]; exact upd_same _ _ _⟩; by_cases h2 : m = q; exact ⟨_, by rw [h2, upd_other _ _ (fun h => hnq h.symm)]; exact upd_same _ _ _⟩; exact ⟨c, by rw [upd_other _ _ h1, upd_other _ _ h2, upd_other _ _ (fun h => by rw [h, hf f (by omega)] at hm; cases hm)]; exact hm⟩) (fun hk => ⟨f, by omega, by omega, rfl, by rw [← e1]⟩)
end

end Go.Proofs.YtipaiielkpifoaaDoor
