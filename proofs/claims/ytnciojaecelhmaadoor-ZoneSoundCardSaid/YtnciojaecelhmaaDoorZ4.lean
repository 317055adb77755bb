/- Contracts over the abstract states: copies of values, truths turned about, whether a predicate is formed, which truths may be. -/
import Derived.Test.YtnciojaecelhmaaDoorZ3
set_option linter.unusedVariables false
set_option linter.unusedSimpArgs false
set_option maxRecDepth 100000
namespace Go.Proofs.YtnciojaecelhmaaDoor
open Go Go.Ab

abbrev allBlk : Blk := { cells := [.bool true, .bool true, .bool true], elem := 92, kind := .ro }
abbrev fixV (vals : List Val) : Blk := { cells := vals3 vals, elem := 43, kind := .fix }
theorem vals3_one (vals : List Val) : ∀ u ∈ vals3 vals, u.oneCell' = true := by
  intro u hu
  rw [vals3, List.mem_flatMap] at hu
  obtain ⟨v, _, hv⟩ := hu
  have hv : u ∈ ([.int .i64 v.kind, .int .i64 v.n, .string v.s] : List Value) := hv
  simp only [List.mem_cons, List.not_mem_nil, or_false] at hv
  rcases hv with rfl | rfl | rfl <;> rfl
/-- A new slice of values of its own. -/
def NewF3 (H : Hp) (k : Nat) (vals : List Val) (v : Value) (H' : Hp) (k' : Nat) : Prop := ∃ q, k ≤ q ∧ q < k' ∧ v = .slice (some ⟨q, 0, some 0⟩) vals.length vals.length ∧ H' = upd H q (some (fixV vals))
def Nil3 (H : Hp) (k : Nat) (v : Value) (H' : Hp) (k' : Nat) : Prop := ∃ A c, v = .slice A 0 c ∧ (∀ X, slcCells X 3 (.slice A 0 c) = some (vals3 [])) ∧ H' = H ∧ k ≤ k'
section
variable (H : Hp) (k : Nat)

theorem clone1_b (vals : List Val) (A : Option Addr) (c : Nat) (hA : slcCells H 3 (.slice A vals.length c) = some (vals3 vals)) (hl : vals.length ≤ 1000000) (h0 : 0 < vals.length) : ACalls Tryd.prog 3 114 [.slice A vals.length c] H k (NewF3 H k vals) := by
  refine ACalls.fresh fun hf => ?_
  refine ACalls.body Tryd.func114 rfl (Nat.le_of_ble_eq_true rfl) ?_
  refine ACode.seq ?_
  refine ACode.region' [0] (by kernel_rfl) rfl ?_
  refine aOps_1 rfl rfl rfl (AOp.move' (.inr rfl) rfl ?_)
  refine aOps_end ?_
  show ACode _ _ _ _ _ _
  refine ACode.seq ?_
  refine ACode.seq ?_
  refine ACode.region' [0, 1] (by kernel_rfl) rfl ?_
  refine aOps_1 rfl rfl rfl (AOp.move' (.inl rfl) rfl ?_)
  refine aOps_1 rfl rfl rfl (AOp.eqNilX rfl rfl rfl (fun b hb => ?_))
  rw [hb h0]
  refine aOps_end ?_
  show ACode _ _ _ _ _ _
  refine ACode.cond rfl (fun c0 => absurd c0 (by simp)) (fun c0 => ?_)
  refine ACode.skip ?_
  show ACode _ _ _ _ _ _
  refine ACode.seq ?_
  refine ACode.region' [0, 1, 2, 3] (by kernel_rfl) rfl ?_
  refine aOps_1 rfl rfl rfl (AOp.buildSl (cells := #[]) rfl (by decide) rfl rfl ?_)
  refine aOps_1 rfl rfl rfl (AOp.move' (.inl rfl) rfl ?_)
  refine aOps_1 rfl rfl rfl (AOp.appendN (news := vals3 vals) rfl rfl rfl (srcOf_slc (slcCells_sub (by (repeat (first | exact sub_refl _ | assumption | refine sub_upd' ?_ (by ((repeat refine (upd_other _ _ (by omega)).trans ?_); first | exact hf _ (by omega))) | refine sub_over (by assumption) | refine sub_over0 ?_ | refine sub_trans (sub_same (by assumption)) ?_ | refine sub_dropu ?_ | refine sub_drop ?_ | refine sub_put ?_ (by repeat (first | assumption | exact upd_same _ _ _ | refine (upd_other _ _ (by omega)).trans ?_))))) hA)) (by intro ad h; cases h; rfl) h0 srcOk_sl (vals3_one vals) (by omega) (by omega) ?_)
  refine aOps_1 rfl rfl rfl (AOp.move' (.inr rfl) rfl ?_)
  refine aOps_end ?_
  show ACode _ _ _ _ _ _
  refine ACode.ret ?_
  exact RetQ.one rfl rfl (by (repeat (first | exact sub_refl _ | assumption | refine sub_upd' ?_ (by ((repeat refine (upd_other _ _ (by omega)).trans ?_); first | exact hf _ (by omega))) | refine sub_over (by assumption) | refine sub_over0 ?_ | refine sub_trans (sub_same (by assumption)) ?_ | refine sub_dropu ?_ | refine sub_drop ?_ | refine sub_put ?_ (by repeat (first | assumption | exact upd_same _ _ _ | refine (upd_other _ _ (by omega)).trans ?_))))) (fun n b hn => ⟨b, (upd_other _ _ (by have := old_lt hf hn; omega)).trans hn⟩) (fun hk => ⟨k + 1, by omega, by omega, rfl, rfl⟩)

theorem clone0_b (A : Option Addr) (c : Nat) (hA : slcCells H 3 (.slice A 0 c) = some (vals3 [])) : ACalls Tryd.prog 3 114 [.slice A 0 c] H k (Nil3 H k) := by
  refine ACalls.fresh fun hf => ?_
  refine ACalls.body Tryd.func114 rfl (Nat.le_of_ble_eq_true rfl) ?_
  refine ACode.seq ?_
  refine ACode.region' [0] (by kernel_rfl) rfl ?_
  refine aOps_1 rfl rfl rfl (AOp.move' (.inr rfl) rfl ?_)
  refine aOps_end ?_
  show ACode _ _ _ _ _ _
  refine ACode.seq ?_
  refine ACode.seq ?_
  refine ACode.region' [0, 1] (by kernel_rfl) rfl ?_
  refine aOps_1 rfl rfl rfl (AOp.move' (.inl rfl) rfl ?_)
  refine aOps_1 rfl rfl rfl (AOp.eqNilX rfl rfl rfl (fun b hb => ?_))
  refine aOps_end ?_
  show ACode _ _ _ _ _ _
  refine ACode.cond rfl (fun c0 => ?_) (fun c0 => ?_)
  · try simp only [decide_eq_true_eq, decide_eq_false_iff_not, beq_iff_eq, beq_eq_false_iff_ne, ne_eq, bne_iff_ne, Bool.not_eq_true', Bool.not_eq_false', Int.not_lt, Int.not_le, gt_iff_lt, ge_iff_le, bne_eq_false_iff_eq, Bool.not_eq_eq_eq_not, Bool.not_true, Bool.not_false] at c0
    refine ACode.seq ?_
    refine ACode.region' [0] (by kernel_rfl) rfl ?_
    refine aOps_1 rfl rfl rfl (AOp.move' (.inr rfl) rfl ?_)
    refine aOps_end ?_
    show ACode _ _ _ _ _ _
    refine ACode.ret ?_
    exact RetQ.one rfl rfl (by (repeat (first | exact sub_refl _ | assumption | refine sub_upd' ?_ (by ((repeat refine (upd_other _ _ (by omega)).trans ?_); first | exact hf _ (by omega))) | refine sub_over (by assumption) | refine sub_over0 ?_ | refine sub_trans (sub_same (by assumption)) ?_ | refine sub_dropu ?_ | refine sub_drop ?_ | refine sub_put ?_ (by repeat (first | assumption | exact upd_same _ _ _ | refine (upd_other _ _ (by omega)).trans ?_))))) stays (fun hk => ⟨_, _, rfl, fun X => rfl, rfl, by omega⟩)
  · try simp only [decide_eq_true_eq, decide_eq_false_iff_not, beq_iff_eq, beq_eq_false_iff_ne, ne_eq, bne_iff_ne, Bool.not_eq_true', Bool.not_eq_false', Int.not_lt, Int.not_le, gt_iff_lt, ge_iff_le, bne_eq_false_iff_eq, Bool.not_eq_eq_eq_not, Bool.not_true, Bool.not_false] at c0
    refine ACode.skip ?_
    show ACode _ _ _ _ _ _
    refine ACode.seq ?_
    refine ACode.region' [0, 1, 2, 3] (by kernel_rfl) rfl ?_
    refine aOps_1 rfl rfl rfl (AOp.buildSl (cells := #[]) rfl (by decide) rfl rfl ?_)
    refine aOps_1 rfl rfl rfl (AOp.move' (.inl rfl) rfl ?_)
    refine aOps_1 rfl rfl rfl (AOp.append0' (m := 0) (news := vals3 []) rfl rfl rfl (srcOf_slc (slcCells_sub (by (repeat (first | exact sub_refl _ | assumption | refine sub_upd' ?_ (by ((repeat refine (upd_other _ _ (by omega)).trans ?_); first | exact hf _ (by omega))) | refine sub_over (by assumption) | refine sub_over0 ?_ | refine sub_trans (sub_same (by assumption)) ?_ | refine sub_dropu ?_ | refine sub_drop ?_ | refine sub_put ?_ (by repeat (first | assumption | exact upd_same _ _ _ | refine (upd_other _ _ (by omega)).trans ?_))))) hA)) (by intro ad h; cases h; rfl) srcOk_sl (vals3_one []) (by omega) (by omega) ?_)
    refine aOps_1 rfl rfl rfl (AOp.move' (.inr rfl) rfl ?_)
    refine aOps_end ?_
    show ACode _ _ _ _ _ _
    refine ACode.ret ?_
    exact RetQ.one rfl rfl (by (repeat (first | exact sub_refl _ | assumption | refine sub_upd' ?_ (by ((repeat refine (upd_other _ _ (by omega)).trans ?_); first | exact hf _ (by omega))) | refine sub_over (by assumption) | refine sub_over0 ?_ | refine sub_trans (sub_same (by assumption)) ?_ | refine sub_dropu ?_ | refine sub_drop ?_ | refine sub_put ?_ (by repeat (first | assumption | exact upd_same _ _ _ | refine (upd_other _ _ (by omega)).trans ?_))))) stays (fun hk => ⟨_, _, rfl, fun X => rfl, rfl, by omega⟩)

theorem reverse_b (n : Nat) (ty : TypeId) (x : T3) (hn : H n = some (tblk ty x)) : ACalls Tryd.prog 3 91 [.slice (some ⟨n, 0, none⟩) 3 3] H k (fun v H' k' => v = .tuple #[] ∧ k ≤ k' ∧ H' = upd H n (some (tblk ty x.rev))) := by
  refine ACalls.fresh fun hf => ?_
  refine ACalls.body Tryd.func91 rfl (Nat.le_of_ble_eq_true rfl) ?_
  have hnk := old_lt hf hn
  refine ACode.seq ?_
  refine ACode.region' [0, 1, 2, 3, 4] (by kernel_rfl) rfl ?_
  refine aOps_1 rfl rfl rfl (AOp.move' (.inl rfl) rfl ?_)
  refine aOps_1 rfl rfl rfl (AOp.len' rfl rfl ?_)
  refine aOps_1 rfl rfl rfl (AOp.sub rfl rfl rfl (i64_wrap (by omega) (by omega)) ?_)
  refine aOps_1 rfl rfl rfl (AOp.move' (.inr rfl) rfl ?_)
  refine aOps_1 rfl rfl rfl (AOp.move' (.inr rfl) rfl ?_)
  refine aOps_end ?_
  show ACode _ _ _ _ _ _
  refine ACode.block ?_
  refine ACode.count (fun i => [(2, .int .i64 (i : Int)), (3, .int .i64 (2 - (i : Int)))]) [(0, _)] (fun i => upd H n (some (tblk ty (if i = 0 then x else x.rev)))) (1) (fun _ => True) (.cons rfl (.cons rfl .nil)) (.cons rfl .nil) (by show Ab.Sub (upd H n (some (tblk ty x))) H; exact sub_same hn) trivial (fun i0 kL0 HL0 hiL0 hkL0 hsL0 hfL0 hxL0 => ?_)
  show ACode _ _ _ _ _ ⟨_, _, _⟩
  refine ACode.seq ?_
  refine ACode.seq ?_
  refine ACode.region' [0, 1, 2] (by kernel_rfl) rfl ?_
  refine aOps_1 rfl rfl rfl (AOp.move' (.inl rfl) rfl ?_)
  refine aOps_1 rfl rfl rfl (AOp.move' (.inl rfl) rfl ?_)
  refine aOps_1 rfl rfl rfl (AOp.bin' rfl rfl rfl rfl ?_)
  refine aOps_end ?_
  show ACode _ _ _ _ _ _
  refine ACode.cond rfl (fun c0 => ?_) (fun c0 => ?_)
  · try simp only [decide_eq_true_eq, decide_eq_false_iff_not, beq_iff_eq, beq_eq_false_iff_ne, ne_eq, bne_iff_ne, Bool.not_eq_true', Bool.not_eq_false', Int.not_lt, Int.not_le, gt_iff_lt, ge_iff_le, bne_eq_false_iff_eq, Bool.not_eq_eq_eq_not, Bool.not_true, Bool.not_false] at c0
    obtain rfl : i0 = 0 := by omega
    have hn0 : HL0 n = some (tblk ty x) := hsL0 _ _ (upd_same _ _ _)
    have hnL : n < kL0 := by omega
    refine ACode.skip ?_
    show ACode _ _ _ _ _ _
    refine ACode.seq ?_
    refine ACode.block ?_
    refine ACode.drawM 16 [(0, 14), (1, 15), (2, 16), (3, 17), (4, 18), (5, 19), (6, 20), (7, 21), (8, 22), (9, 23), (10, 24), (11, 25), (12, 26), (14, 27)] [n] [16] [([], []), ([], []), ([], []), ([], []), ([], []), ([], []), ([], []), ([], [16]), ([], []), ([], []), ([], []), ([], [16]), ([], []), ([16], []), ([], []), ([16], [])] (upd (fun _ => none) 16 (some (tblk ty x))) (upd HL0 n none) mixed (by kernel_rfl) (by kernel_rfl) (by simp) (fun b hb => by rw [List.mem_singleton.1 hb]; exact hnL) (fun c hc => by rw [List.mem_singleton.1 hc]; exact hn0) old_only1 ?_
    refine DrawM.q 0 [(0, none)] rfl rfl (by kernel_rfl) rfl rfl (fun Hc kq hkq hF hSb hfr => AOp.move' (.inl rfl) rfl ⟨rfl, rfl, Nat.le_refl _⟩) ?_
    refine DrawM.q 1 [(2, none)] rfl rfl (by kernel_rfl) rfl rfl (fun Hc kq hkq hF hSb hfr => AOp.move' (.inl rfl) rfl ⟨rfl, rfl, Nat.le_refl _⟩) ?_
    refine DrawM.q 2 [(0, none)] rfl rfl (by kernel_rfl) rfl rfl (fun Hc kq hkq hF hSb hfr => AOp.move' (.inl rfl) rfl ⟨rfl, rfl, Nat.le_refl _⟩) ?_
    refine DrawM.q 3 [(3, none)] rfl rfl (by kernel_rfl) rfl rfl (fun Hc kq hkq hF hSb hfr => AOp.move' (.inl rfl) rfl ⟨rfl, rfl, Nat.le_refl _⟩) ?_
    refine DrawM.q 4 [(0, none)] rfl rfl (by kernel_rfl) rfl rfl (fun Hc kq hkq hF hSb hfr => AOp.move' (.inl rfl) rfl ⟨rfl, rfl, Nat.le_refl _⟩) ?_
    refine DrawM.q 5 [(3, none)] rfl rfl (by kernel_rfl) rfl rfl (fun Hc kq hkq hF hSb hfr => AOp.move' (.inl rfl) rfl ⟨rfl, rfl, Nat.le_refl _⟩) ?_
    refine DrawM.q 6 [(18, some 4), (19, some 5)] rfl rfl (by kernel_rfl) rfl rfl (fun Hc kq hkq hF hSb hfr => AOp.indexP (i := 2) rfl rfl rfl rfl ⟨rfl, rfl, Nat.le_refl _⟩) ?_
    refine DrawM.q 7 [(20, some 6)] rfl rfl (by kernel_rfl) rfl rfl (fun Hc kq hkq hF hSb hfr => (by refine AOp.load1 (b := ?b1) (v := ?v1) rfl rfl ?hn1 ?hv1 ?hR1; (case hn1 => repeat (first | assumption | exact upd_same _ _ _ | refine (upd_other _ _ (by omega)).trans ?_ | exact hF 16 (by decide) | refine hSb _ _ ?_ | refine hsL0 _ _ ?_)); (case hv1 => rfl); exact ⟨rfl, rfl, Nat.le_refl _⟩)) ?_
    refine DrawM.q 8 [(0, none)] rfl rfl (by kernel_rfl) rfl rfl (fun Hc kq hkq hF hSb hfr => AOp.move' (.inl rfl) rfl ⟨rfl, rfl, Nat.le_refl _⟩) ?_
    refine DrawM.q 9 [(2, none)] rfl rfl (by kernel_rfl) rfl rfl (fun Hc kq hkq hF hSb hfr => AOp.move' (.inl rfl) rfl ⟨rfl, rfl, Nat.le_refl _⟩) ?_
    refine DrawM.q 10 [(22, some 8), (23, some 9)] rfl rfl (by kernel_rfl) rfl rfl (fun Hc kq hkq hF hSb hfr => AOp.indexP (i := 0) rfl rfl rfl rfl ⟨rfl, rfl, Nat.le_refl _⟩) ?_
    refine DrawM.q 11 [(24, some 10)] rfl rfl (by kernel_rfl) rfl rfl (fun Hc kq hkq hF hSb hfr => (by refine AOp.load1 (b := ?b2) (v := ?v2) rfl rfl ?hn2 ?hv2 ?hR2; (case hn2 => repeat (first | assumption | exact upd_same _ _ _ | refine (upd_other _ _ (by omega)).trans ?_ | exact hF 16 (by decide) | refine hSb _ _ ?_ | refine hsL0 _ _ ?_)); (case hv2 => rfl); exact ⟨rfl, rfl, Nat.le_refl _⟩)) ?_
    refine DrawM.q 12 [(14, some 0), (15, some 1)] rfl rfl (by kernel_rfl) rfl rfl (fun Hc kq hkq hF hSb hfr => AOp.indexP (i := 0) rfl rfl rfl rfl ⟨rfl, rfl, Nat.le_refl _⟩) ?_
    refine DrawM.wr 13 16 _ [(26, some 12), (21, some 7)] rfl rfl (by kernel_rfl) rfl rfl (fun Hc kq hkq hF hSb hfr => (by refine AOp.store1 (b := ?b3) rfl rfl rfl ?hn3 ?hk3 rfl rfl ?hl3 ?hR3; (case hn3 => repeat (first | assumption | exact upd_same _ _ _ | refine (upd_other _ _ (by omega)).trans ?_ | exact hF 16 (by decide) | refine hSb _ _ ?_ | refine hsL0 _ _ ?_)); (case hk3 => rfl); (case hl3 => first | (simp; done) | exact Nat.le_of_ble_eq_true rfl); exact ⟨rfl, rfl, Nat.le_refl _⟩)) ?_
    refine DrawM.q 14 [(16, some 2), (17, some 3)] rfl rfl (by kernel_rfl) rfl rfl (fun Hc kq hkq hF hSb hfr => AOp.indexP (i := 2) rfl rfl rfl rfl ⟨rfl, rfl, Nat.le_refl _⟩) ?_
    refine DrawM.wr 15 16 _ [(27, some 14), (25, some 11)] rfl rfl (by kernel_rfl) rfl rfl (fun Hc kq hkq hF hSb hfr => (by refine AOp.store1 (b := ?b4) rfl rfl rfl ?hn4 ?hk4 rfl rfl ?hl4 ?hR4; (case hn4 => repeat (first | assumption | exact upd_same _ _ _ | refine (upd_other _ _ (by omega)).trans ?_ | exact hF 16 (by decide) | refine hSb _ _ ?_ | refine hsL0 _ _ ?_)); (case hk4 => rfl); (case hl4 => first | (simp; done) | exact Nat.le_of_ble_eq_true rfl); exact ⟨rfl, rfl, Nat.le_refl _⟩)) ?_
    refine DrawM.done fun kq hkq => ?_
    show aOps _ _ _ _ [] ⟨_, (upd _ n _), _⟩
    refine aOps_end ?_
    show ACode _ _ _ _ _ _
    refine ACode.region' [0, 1, 2, 3, 4, 5] (by kernel_rfl) rfl ?_
    refine aOps_1 rfl rfl rfl (AOp.move' (.inl rfl) rfl ?_)
    refine aOps_1 rfl rfl rfl (AOp.add rfl rfl rfl (i64_wrap (by omega) (by omega)) ?_)
    refine aOps_1 rfl rfl rfl (AOp.move' (.inl rfl) rfl ?_)
    refine aOps_1 rfl rfl rfl (AOp.sub rfl rfl rfl (i64_wrap (by omega) (by omega)) ?_)
    refine aOps_1 rfl rfl rfl (AOp.move' (.inr rfl) rfl ?_)
    refine aOps_1 rfl rfl rfl (AOp.move' (.inr rfl) rfl ?_)
    refine aOps_end ?_
    first | refine thenA_n ?_ | simp only [thenA, blockA, if_true]
    exact NextR.mk (by omega) (by omega) (.cons rfl (.cons rfl .nil)) (.cons rfl .nil) (by show Ab.Sub (upd H n (some (tblk ty x.rev))) _; exact sub_over hsL0) trivial
  · try simp only [decide_eq_true_eq, decide_eq_false_iff_not, beq_iff_eq, beq_eq_false_iff_ne, ne_eq, bne_iff_ne, Bool.not_eq_true', Bool.not_eq_false', Int.not_lt, Int.not_le, gt_iff_lt, ge_iff_le, bne_eq_false_iff_eq, Bool.not_eq_eq_eq_not, Bool.not_true, Bool.not_false] at c0
    obtain rfl : i0 = 1 := by omega
    refine ACode.exit ?_
    simp only [thenA, blockA, if_true]
    exact RetQ.none_ rfl (by show Ab.Sub (upd H n (some (tblk ty x.rev))) _; exact hsL0) (stays_upd) (fun hk => ⟨rfl, by omega, rfl⟩)
end

end Go.Proofs.YtnciojaecelhmaaDoor
