/- Contracts over the abstract states: the statements on digests. -/
import Derived.Test.YtlbcgadmcjobiaaDoorS7
set_option linter.unusedVariables false
set_option linter.unusedSimpArgs false
set_option maxRecDepth 100000
namespace Go.Proofs.YtlbcgadmcjobiaaDoor
open Go Go.Ab

abbrev hexNil : List UInt8 := [101, 51, 98, 48, 99, 52, 52, 50, 57, 56, 102, 99, 49, 99, 49, 52, 57, 97, 102, 98, 102, 52, 99, 56, 57, 57, 54, 102, 98, 57, 50, 52, 50, 55, 97, 101, 52, 49, 101, 52, 54, 52, 57, 98, 57, 51, 52, 99, 97, 52, 57, 53, 57, 57, 49, 98, 55, 56, 53, 50, 98, 56, 53, 53]
abbrev hexAbc : List UInt8 := [98, 97, 55, 56, 49, 54, 98, 102, 56, 102, 48, 49, 99, 102, 101, 97, 52, 49, 52, 49, 52, 48, 100, 101, 53, 100, 97, 101, 50, 50, 50, 51, 98, 48, 48, 51, 54, 49, 97, 51, 57, 54, 49, 55, 55, 97, 57, 99, 98, 52, 49, 48, 102, 102, 54, 49, 102, 50, 48, 48, 49, 53, 97, 100]
theorem awake1 : hexB (shaB []) = hexNil := by decide +kernel
theorem awake2 : hexB (shaB [97, 98, 99]) = hexAbc := by decide +kernel
theorem sum_nil : ∃ d : Dg, hexB d.l = hexNil ∧ ∀ (H : Hp) (k : Nat), H 0 = some tabBlk → ACalls Tryd.prog 1 13 [.slice none 0 0] H k (Same H k (hv d)) :=
  ⟨shaD [], awake1, fun H k ht => sum_b H k ht [] none 0 SLC.nil (by decide)⟩
theorem sum_abc : ∃ d : Dg, hexB d.l = hexAbc ∧ ∀ (H : Hp) (k : Nat) (A : Option Addr) (c : Nat), H 0 = some tabBlk → SLC H 1 A 3 c ([97, 98, 99].map bv) → ACalls Tryd.prog 1 13 [.slice A 3 c] H k (Same H k (hv d)) :=
  ⟨shaD [97, 98, 99], awake2, fun H k A c ht hs => sum_b H k ht [97, 98, 99] A c hs (by decide)⟩
theorem digs_inj : ∀ m : Nat, m < 16 → ∀ n : Nat, n < 16 → digs.getD m 0 = digs.getD n 0 → m = n := by decide +kernel
theorem digs_one : ∀ n : Nat, n < 16 → (digs.drop n).take (n + 1 - n) = [digs.getD n 0] := by decide +kernel
theorem hexC_inj {a b : UInt8} (h : hexC a = hexC b) : a = b := by
  simp only [hexC, List.cons.injEq, and_true] at h
  have ha := a.toNat_lt
  have hb := b.toNat_lt
  have h1 := digs_inj _ (by omega) _ (by omega) h.1
  have h2 := digs_inj _ (by omega) _ (by omega) h.2
  exact UInt8.toNat_inj.1 (by omega)
theorem hexB_inj : ∀ {a b : List UInt8}, hexB a = hexB b → a = b
  | [], [], _ => rfl
  | [], _ :: _, h => by simp [hexB, hexC] at h
  | _ :: _, [], h => by simp [hexB, hexC] at h
  | x :: a, y :: b, h => by
    have h' : hexC x ++ hexB a = hexC y ++ hexB b := h
    obtain ⟨h1, h2⟩ := List.append_inj h' rfl
    rw [hexC_inj h1, hexB_inj h2]
theorem hex_same (a b : Dg) : decide (hexB a.l = hexB b.l) = decide (a = b) := by
  rw [Bool.eq_iff_iff, decide_eq_true_eq, decide_eq_true_eq]
  exact ⟨fun h => Dg.ext_ (hexB_inj h), fun h => by rw [h]⟩
theorem flat_bound {ls : List (List UInt8)} {m : Nat} : ∀ i, i ≤ ls.length → (∀ j, j < i → (ls.getD j []).length ≤ m) → (ls.take i).flatten.length ≤ m * i
  | 0, _, _ => by simp
  | i + 1, h, hm => by
    rw [flat_take (by omega), List.length_append]
    have := flat_bound i (by omega) fun j hj => hm j (by omega)
    have := hm i (by omega)
    rw [Nat.mul_add]
    omega
section
variable (H : Hp) (k : Nat)

theorem refhex_b (d : Dg) : ACalls Tryd.prog 1 17 [hv d] H k (Same H k (.string ⟨(hexB d.l).toArray⟩)) := by
  refine ACalls.fresh fun hf => ?_
  refine ACalls.body Tryd.func17 rfl (Nat.le_of_ble_eq_true rfl) ?_
  have hdl := d.h
  refine ACode.seq ?_
  refine ACode.region' [0, 1] (by kernel_rfl) rfl ?_
  refine aOps_1 rfl rfl rfl (AOp.boxV rfl rfl ?_)
  refine aOps_1 rfl rfl rfl (AOp.move' (.inr rfl) rfl ?_)
  refine aOps_end ?_
  show ACode _ _ _ _ _ _
  refine ACode.seq ?_
  refine ACode.region' [0] (by kernel_rfl) rfl ?_
  refine aOps_1 rfl rfl rfl (AOp.move' (.inr rfl) rfl ?_)
  refine aOps_end ?_
  show ACode _ _ _ _ _ _
  refine ACode.seq ?_
  refine ACode.region' [0] (by kernel_rfl) rfl ?_
  refine aOps_1 rfl rfl rfl (AOp.move' (.inr rfl) rfl ?_)
  refine aOps_end ?_
  show ACode _ _ _ _ _ _
  refine ACode.seq ?_
  refine ACode.seq ?_
  refine ACode.region' [0] (by kernel_rfl) rfl ?_
  refine aOps_1 rfl rfl rfl (AOp.move' (.inr rfl) rfl ?_)
  refine aOps_end ?_
  show ACode _ _ _ _ _ _
  refine ACode.block ?_
  refine ACode.count0 (fun i => [(5, .int .i64 (i : Int)), (3, .string ⟨(hexB (d.l.take i)).toArray⟩)]) [(0, _), (1, _), (2, _), (4, _)] (32) (fun _ => True) (.cons rfl (.cons rfl .nil)) (.cons rfl (.cons rfl (.cons rfl (.cons rfl .nil)))) trivial (fun i0 kL0 HL0 hiL0 hkL0 hsL0 hfL0 hxL0 => ?_)
  show ACode _ _ _ _ _ ⟨_, _, _⟩
  refine ACode.seq ?_
  refine ACode.seq ?_
  refine ACode.region' [0, 1] (by kernel_rfl) rfl ?_
  refine aOps_1 rfl rfl rfl (AOp.move' (.inl rfl) rfl ?_)
  refine aOps_1 rfl rfl rfl (AOp.bin' rfl rfl rfl rfl ?_)
  refine aOps_end ?_
  show ACode _ _ _ _ _ _
  refine ACode.cond rfl (fun c0 => ?_) (fun c0 => ?_)
  · try simp only [decide_eq_true_eq, decide_eq_false_iff_not, beq_iff_eq, beq_eq_false_iff_ne, ne_eq, bne_iff_ne, Bool.not_eq_true', Bool.not_eq_false', Int.not_lt, Int.not_le, gt_iff_lt, ge_iff_le, bne_eq_false_iff_eq, Bool.not_eq_eq_eq_not, Bool.not_true, Bool.not_false] at c0
    refine ACode.skip ?_
    show ACode _ _ _ _ _ _
    refine ACode.seq ?_
    refine ACode.block ?_
    refine ACode.seq ?_
    have hcl := UInt8.toNat_lt (d.l.getD i0 0)
    have h1 : (d.l.getD i0 0).toNat / 16 < 16 := by omega
    have h2 : (d.l.getD i0 0).toNat % 16 < 16 := by omega
    have hel := hexB_len (d.l.take i0)
    have htl : (d.l.take i0).length ≤ 32 := by rw [List.length_take]; omega
    refine ACode.draw' 12 [(0, 12), (1, 13), (2, 14), (3, 15), (4, 16), (5, 17), (6, 18), (7, 19), (8, 20), (9, 21), (10, 6), (11, 7)] mixed (by kernel_rfl) ?_
    refine Draw.step [(5, none)] rfl (by kernel_rfl) rfl (fun kq hkq => AOp.move' (.inl rfl) rfl ⟨rfl, rfl, Nat.le_refl _⟩) ?_
    refine Draw.step [(1, none), (12, some 0)] rfl (by kernel_rfl) rfl (fun kq hkq => AOp.indexA (by omega) rfl rfl rfl ⟨rfl, rfl, Nat.le_refl _⟩) ?_
    refine Draw.step [(13, some 1)] rfl (by kernel_rfl) rfl (fun kq hkq => (by refine AOp.loadM bv (d.l) 0 (b := ?b1) ?hn1 ?hv1 ?hw1 rfl rfl ?hR1; (case hn1 => repeat (first | assumption | exact upd_same _ _ _ | refine (upd_other _ _ (by omega)).trans ?_ | refine hsL0 _ _ ?_)); (case hv1 => rfl); (case hw1 => exact (by omega)); exact ⟨rfl, rfl, Nat.le_refl _⟩)) ?_
    refine Draw.step [(14, some 2)] rfl (by kernel_rfl) rfl (fun kq hkq => AOp.convInt rfl rfl ⟨rfl, rfl, Nat.le_refl _⟩) ?_
    rw [show IntKind.i64.wrap ((d.l.getD i0 0).toNat : Int) = ((d.l.getD i0 0).toNat : Int) from i64_wrap (by omega) (by omega)]
    refine Draw.step [(15, some 3)] rfl (by kernel_rfl) rfl (fun kq hkq => AOp.bin' rfl rfl rfl rfl ⟨rfl, rfl, Nat.le_refl _⟩) ?_
    rw [show IntKind.i64.wrap (((d.l.getD i0 0).toNat : Int).tdiv 16) = (((d.l.getD i0 0).toNat / 16 : Nat) : Int) by rw [show ((d.l.getD i0 0).toNat : Int).tdiv 16 = (((d.l.getD i0 0).toNat / 16 : Nat) : Int) from rfl]; exact i64_wrap (by omega) (by omega)]
    refine Draw.step [(5, none)] rfl (by kernel_rfl) rfl (fun kq hkq => AOp.move' (.inl rfl) rfl ⟨rfl, rfl, Nat.le_refl _⟩) ?_
    refine Draw.step [(1, none), (17, some 5)] rfl (by kernel_rfl) rfl (fun kq hkq => AOp.indexA (by omega) rfl rfl rfl ⟨rfl, rfl, Nat.le_refl _⟩) ?_
    refine Draw.step [(18, some 6)] rfl (by kernel_rfl) rfl (fun kq hkq => (by refine AOp.loadM bv (d.l) 0 (b := ?b2) ?hn2 ?hv2 ?hw2 rfl rfl ?hR2; (case hn2 => repeat (first | assumption | exact upd_same _ _ _ | refine (upd_other _ _ (by omega)).trans ?_ | refine hsL0 _ _ ?_)); (case hv2 => rfl); (case hw2 => exact (by omega)); exact ⟨rfl, rfl, Nat.le_refl _⟩)) ?_
    refine Draw.step [(19, some 7)] rfl (by kernel_rfl) rfl (fun kq hkq => AOp.convInt rfl rfl ⟨rfl, rfl, Nat.le_refl _⟩) ?_
    rw [show IntKind.i64.wrap ((d.l.getD i0 0).toNat : Int) = ((d.l.getD i0 0).toNat : Int) from i64_wrap (by omega) (by omega)]
    refine Draw.step [(20, some 8)] rfl (by kernel_rfl) rfl (fun kq hkq => AOp.bin' rfl rfl rfl rfl ⟨rfl, rfl, Nat.le_refl _⟩) ?_
    rw [show ((d.l.getD i0 0).toNat : Int).tmod 16 = (((d.l.getD i0 0).toNat % 16 : Nat) : Int) from rfl]
    refine Draw.step [(16, some 4)] rfl (by kernel_rfl) rfl (fun kq hkq => AOp.move' (.inr rfl) rfl ⟨rfl, rfl, Nat.le_refl _⟩) ?_
    refine Draw.step [(21, some 9)] rfl (by kernel_rfl) rfl (fun kq hkq => AOp.move' (.inr rfl) rfl ⟨rfl, rfl, Nat.le_refl _⟩) ?_
    refine Draw.done fun kq hkq => ?_
    show aOps _ _ _ _ [] ⟨_, _, _⟩
    refine aOps_end ?_
    show ACode _ _ _ _ _ _
    refine ACode.draw' 14 [(0, 22), (1, 23), (2, 24), (3, 25), (4, 26), (5, 27), (6, 28), (7, 29), (8, 30), (9, 31), (10, 32), (11, 33), (12, 34), (13, 3)] mixed (by kernel_rfl) ?_
    refine Draw.step [(3, none)] rfl (by kernel_rfl) rfl (fun kq hkq => AOp.move' (.inl rfl) rfl ⟨rfl, rfl, Nat.le_refl _⟩) ?_
    refine Draw.step [(4, none)] rfl (by kernel_rfl) rfl (fun kq hkq => AOp.move' (.inl rfl) rfl ⟨rfl, rfl, Nat.le_refl _⟩) ?_
    refine Draw.step [(6, none)] rfl (by kernel_rfl) rfl (fun kq hkq => AOp.move' (.inl rfl) rfl ⟨rfl, rfl, Nat.le_refl _⟩) ?_
    refine Draw.step [(6, none)] rfl (by kernel_rfl) rfl (fun kq hkq => AOp.move' (.inl rfl) rfl ⟨rfl, rfl, Nat.le_refl _⟩) ?_
    refine Draw.step [(25, some 3)] rfl (by kernel_rfl) rfl (fun kq hkq => AOp.add rfl rfl rfl (i64_wrap (by omega) (by omega)) ⟨rfl, rfl, Nat.le_refl _⟩) ?_
    rw [show (((d.l.getD i0 0).toNat / 16 : Nat) : Int) + 1 = (((d.l.getD i0 0).toNat / 16 + 1 : Nat) : Int) by omega]
    refine Draw.step [(23, some 1), (24, some 2), (26, some 4)] rfl (by kernel_rfl) rfl (fun kq hkq => AOp.sliceS digs rfl rfl rfl rfl (Nat.le_succ _) (by show _ ≤ 16; omega) ⟨rfl, rfl, Nat.le_refl _⟩) ?_
    refine Draw.step [(22, some 0), (27, some 5)] rfl (by kernel_rfl) rfl (fun kq hkq => AOp.addS (hexB (d.l.take i0)) _ rfl rfl rfl (by rw [digs_one _ h1, List.length_singleton]; omega) ⟨rfl, rfl, Nat.le_refl _⟩) ?_
    refine Draw.step [(4, none)] rfl (by kernel_rfl) rfl (fun kq hkq => AOp.move' (.inl rfl) rfl ⟨rfl, rfl, Nat.le_refl _⟩) ?_
    refine Draw.step [(7, none)] rfl (by kernel_rfl) rfl (fun kq hkq => AOp.move' (.inl rfl) rfl ⟨rfl, rfl, Nat.le_refl _⟩) ?_
    refine Draw.step [(7, none)] rfl (by kernel_rfl) rfl (fun kq hkq => AOp.move' (.inl rfl) rfl ⟨rfl, rfl, Nat.le_refl _⟩) ?_
    refine Draw.step [(31, some 9)] rfl (by kernel_rfl) rfl (fun kq hkq => AOp.add rfl rfl rfl (i64_wrap (by omega) (by omega)) ⟨rfl, rfl, Nat.le_refl _⟩) ?_
    rw [show (((d.l.getD i0 0).toNat % 16 : Nat) : Int) + 1 = (((d.l.getD i0 0).toNat % 16 + 1 : Nat) : Int) by omega]
    refine Draw.step [(29, some 7), (30, some 8), (32, some 10)] rfl (by kernel_rfl) rfl (fun kq hkq => AOp.sliceS digs rfl rfl rfl rfl (Nat.le_succ _) (by show _ ≤ 16; omega) ⟨rfl, rfl, Nat.le_refl _⟩) ?_
    refine Draw.step [(28, some 6), (33, some 11)] rfl (by kernel_rfl) rfl (fun kq hkq => AOp.addS _ _ rfl rfl rfl (by rw [digs_one _ h1, digs_one _ h2, List.length_append, List.length_singleton, List.length_singleton]; omega) ⟨rfl, rfl, Nat.le_refl _⟩) ?_
    refine Draw.step [(34, some 12)] rfl (by kernel_rfl) rfl (fun kq hkq => AOp.move' (.inr rfl) rfl ⟨rfl, rfl, Nat.le_refl _⟩) ?_
    refine Draw.done fun kq hkq => ?_
    show aOps _ _ _ _ [] ⟨_, _, _⟩
    refine aOps_end ?_
    show ACode _ _ _ _ _ _
    refine ACode.region' [0, 1, 2] (by kernel_rfl) rfl ?_
    refine aOps_1 rfl rfl rfl (AOp.move' (.inl rfl) rfl ?_)
    refine aOps_1 rfl rfl rfl (AOp.add rfl rfl rfl (i64_wrap (by omega) (by omega)) ?_)
    refine aOps_1 rfl rfl rfl (AOp.move' (.inr rfl) rfl ?_)
    refine aOps_end ?_
    have hht := hex_take d.l (i := i0) (by omega)
    first | refine thenA_n ?_ | simp only [thenA, blockA, if_true]
    exact NextR.mk (by omega) (by omega) (.cons rfl (.cons (show _ = some (Value.string _) by rw [hht, digs_one _ h1, digs_one _ h2, List.append_assoc]; rfl) .nil)) (.cons rfl (.cons rfl (.cons rfl (.cons rfl .nil)))) (by (repeat (first | exact sub_refl _ | assumption | refine sub_upd' ?_ (by ((repeat refine (upd_other _ _ (by omega)).trans ?_); first | exact hf _ (by omega) | exact hfL0 _ (by omega))) | refine sub_trans ?_ hsL0 | refine sub_over (by assumption) | refine sub_over0 ?_ | refine sub_trans (sub_same (by assumption)) ?_ | refine sub_put ?_ (by repeat (first | assumption | exact upd_same _ _ _ | refine (upd_other _ _ (by omega)).trans ?_ | refine hsL0 _ _ ?_))))) trivial
  · try simp only [decide_eq_true_eq, decide_eq_false_iff_not, beq_iff_eq, beq_eq_false_iff_ne, ne_eq, bne_iff_ne, Bool.not_eq_true', Bool.not_eq_false', Int.not_lt, Int.not_le, gt_iff_lt, ge_iff_le, bne_eq_false_iff_eq, Bool.not_eq_eq_eq_not, Bool.not_true, Bool.not_false] at c0
    refine ACode.exit ?_
    show ACode _ _ _ _ _ _
    refine ACode.seq ?_
    have htk : d.l.take i0 = d.l := List.take_of_length_le (by omega)
    refine ACode.region' [0, 1] (by kernel_rfl) rfl ?_
    refine aOps_1 rfl rfl rfl (AOp.move' (.inl rfl) rfl ?_)
    refine aOps_1 rfl rfl rfl (AOp.move' (.inr rfl) rfl ?_)
    refine aOps_end ?_
    show ACode _ _ _ _ _ _
    refine ACode.ret ?_
    exact RetQ.one rfl rfl (by (repeat (first | exact sub_refl _ | assumption | refine sub_upd' ?_ (by ((repeat refine (upd_other _ _ (by omega)).trans ?_); first | exact hf _ (by omega) | exact hfL0 _ (by omega))) | refine sub_trans ?_ hsL0 | refine sub_over (by assumption) | refine sub_over0 ?_ | refine sub_trans (sub_same (by assumption)) ?_ | refine sub_put ?_ (by repeat (first | assumption | exact upd_same _ _ _ | refine (upd_other _ _ (by omega)).trans ?_ | refine hsL0 _ _ ?_))))) stays (fun hk => ⟨(by rw [htk]), rfl, by omega⟩)

theorem awake05 (ht : H 0 = some tabBlk) : ACalls Tryd.prog 1 15 [] H k (Same H k (.bool true)) := by
  refine ACalls.fresh fun hf => ?_
  refine ACalls.body Tryd.func15 rfl (Nat.le_of_ble_eq_true rfl) ?_
  have h0k := old_lt hf ht
  obtain ⟨d1, h1, s1⟩ := sum_nil
  obtain ⟨d2, h2, s2⟩ := sum_abc
  refine ACode.seq ?_
  refine ACode.region' [0] (by kernel_rfl) rfl ?_
  refine aOps_1 rfl rfl rfl (AOp.move' (.inr rfl) rfl ?_)
  refine aOps_end ?_
  show ACode _ _ _ _ _ _
  refine ACode.seq ?_
  refine ACode.region' [0, 1, 2, 3, 4, 5, 6, 7, 8, 9, 10] (by kernel_rfl) rfl ?_
  refine aOps_q rfl rfl rfl (AOp.call' rfl rfl rfl (s1 _ _ (by repeat (first | assumption | exact upd_same _ _ _ | refine (upd_other _ _ (by omega)).trans ?_))) (fun _ _ _ h => h)) (fun kq hkq => ?_)
  refine aOps_q rfl rfl rfl (AOp.call' rfl rfl rfl (hex_b _ _ d1) (fun _ _ _ h => h)) (fun kq hkq => ?_)
  refine aOps_1 rfl rfl rfl (AOp.eqS (hexB d1.l) hexNil rfl rfl rfl ?_)
  rw [h1, show decide (hexNil = hexNil) = true from decide_eq_true rfl]
  refine aOps_1 rfl rfl rfl (AOp.move' (.inl rfl) rfl ?_)
  refine aOps_w rfl rfl rfl (AOp.buildF1 (vals := [97, 98, 99].map bv) rfl (by decide) rfl rfl (bv_ones _) ?_)
  refine aOps_w rfl rfl rfl (AOp.convB rfl rfl (by repeat (first | assumption | exact upd_same _ _ _ | refine (upd_other _ _ (by omega)).trans ?_)) rfl ?_)
  refine aOps_wq rfl rfl rfl (AOp.call' rfl rfl rfl (s2 _ _ _ _ (by repeat (first | assumption | exact upd_same _ _ _ | refine (upd_other _ _ (by omega)).trans ?_)) (SLC.fix (l := 3) (b := { cells := [97, 98, 99].map bv, elem := 5, kind := .fix }) (by repeat (first | assumption | exact upd_same _ _ _ | refine (upd_other _ _ (by omega)).trans ?_)) rfl)) (fun _ _ _ h => h)) (fun kq hkq => ?_)
  refine aOps_wq rfl rfl rfl (AOp.call' rfl rfl rfl (hex_b _ _ d2) (fun _ _ _ h => h)) (fun kq hkq => ?_)
  refine aOps_w rfl rfl rfl (AOp.eqS (hexB d2.l) hexAbc rfl rfl rfl ?_)
  rw [h2, show decide (hexAbc = hexAbc) = true from decide_eq_true rfl]
  refine aOps_1 rfl rfl rfl (AOp.pickAnd rfl rfl rfl (fun _ => rfl) ?_)
  refine aOps_1 rfl rfl rfl (AOp.move' (.inr rfl) rfl ?_)
  refine aOps_end ?_
  show ACode _ _ _ _ _ _
  refine ACode.ret ?_
  exact RetQ.one rfl rfl (by (repeat (first | exact sub_refl _ | assumption | refine sub_upd' ?_ (by ((repeat refine (upd_other _ _ (by omega)).trans ?_); first | exact hf _ (by omega))) | refine sub_over (by assumption) | refine sub_over0 ?_ | refine sub_trans (sub_same (by assumption)) ?_ | refine sub_put ?_ (by repeat (first | assumption | exact upd_same _ _ _ | refine (upd_other _ _ (by omega)).trans ?_))))) stays (fun hk => ⟨rfl, rfl, by omega⟩)

theorem shaSums (ht : H 0 = some tabBlk) (b : List UInt8) (A : Option Addr) (c : Nat) (hs : SLC H 1 A b.length c (b.map bv)) (hl : b.length ≤ 9223372036854775807) : ACalls Tryd.prog 1 3 [.slice A b.length c] H k (Same H k (.bool true)) := by
  refine ACalls.fresh fun hf => ?_
  refine ACalls.body Tryd.func3 rfl (Nat.le_of_ble_eq_true rfl) ?_
  have h0k := old_lt hf ht
  refine ACode.seq ?_
  refine ACode.region' [0] (by kernel_rfl) rfl ?_
  refine aOps_1 rfl rfl rfl (AOp.move' (.inr rfl) rfl ?_)
  refine aOps_end ?_
  show ACode _ _ _ _ _ _
  refine ACode.seq ?_
  refine ACode.region' [0, 1, 2, 3, 4, 5, 6, 7, 8, 9, 10, 11, 12, 13] (by kernel_rfl) rfl ?_
  refine aOps_1 rfl rfl rfl (AOp.move' (.inl rfl) rfl ?_)
  refine aOps_1 rfl rfl rfl (AOp.len' rfl rfl ?_)
  refine aOps_1 rfl rfl rfl (AOp.bin' rfl rfl rfl rfl ?_)
  refine aOps_1 rfl rfl rfl (AOp.move' (.inl rfl) rfl ?_)
  refine aOps_gd0 rfl rfl (wantF rfl rfl rfl) (fun hc => AOp.slots [(0, _)] (.cons rfl .nil) (AOp.move' (.inl rfl) rfl ⟨rfl, rfl, rfl⟩)) ?_
  refine aOps_gd rfl rfl (wantF rfl rfl rfl) (fun hc => AOp.slots [(7, _)] (.cons (gvT rfl hc) .nil) (AOp.call' rfl rfl rfl (sum_b _ _ (by repeat (first | assumption | exact upd_same _ _ _ | refine (upd_other _ _ (by omega)).trans ?_)) b A c (hs.sub (by (repeat (first | exact sub_refl _ | assumption | refine sub_upd' ?_ (by ((repeat refine (upd_other _ _ (by omega)).trans ?_); first | exact hf _ (by omega))) | refine sub_over (by assumption) | refine sub_over0 ?_ | refine sub_trans (sub_same (by assumption)) ?_ | refine sub_put ?_ (by repeat (first | assumption | exact upd_same _ _ _ | refine (upd_other _ _ (by omega)).trans ?_)))))) (by simp only [Bool.not_eq_true', decide_eq_false_iff_not] at hc; omega)) (fun _ _ _ h => h))) (fun kq hkq => ?_)
  refine aOps_gd0 rfl rfl (wantF rfl rfl rfl) (fun hc => AOp.slots [(0, _)] (.cons rfl .nil) (AOp.move' (.inl rfl) rfl ⟨rfl, rfl, rfl⟩)) ?_
  refine aOps_gd rfl rfl (wantF rfl rfl rfl) (fun hc => AOp.slots [(9, _)] (.cons (gvT rfl hc) .nil) (AOp.call' rfl rfl rfl (refsum_b _ _ b A c (hs.sub (by (repeat (first | exact sub_refl _ | assumption | refine sub_upd' ?_ (by ((repeat refine (upd_other _ _ (by omega)).trans ?_); first | exact hf _ (by omega))) | refine sub_over (by assumption) | refine sub_over0 ?_ | refine sub_trans (sub_same (by assumption)) ?_ | refine sub_put ?_ (by repeat (first | assumption | exact upd_same _ _ _ | refine (upd_other _ _ (by omega)).trans ?_)))))) (by simp only [Bool.not_eq_true', decide_eq_false_iff_not] at hc; omega)) (fun _ _ _ h => h))) (fun kq hkq => ?_)
  refine aOps_gd0 rfl rfl (wantF rfl rfl rfl) (fun hc => AOp.slots [(8, _), (10, _)] (.cons (gvT rfl hc) (.cons (gvT rfl hc) .nil)) (AOp.eqAgg (decide (shaD b = shaD b)) rfl rfl rfl (hv_sc _) (hv_sc _) (hv_iff _ _) ⟨rfl, rfl, rfl⟩)) ?_
  refine aOps_1 rfl rfl rfl (AOp.pickOr rfl rfl rfl (fun hb => gvE rfl (t_not hb)) ?_)
  refine aOps_1 rfl rfl rfl (AOp.move' (.inl rfl) rfl ?_)
  refine aOps_gd rfl rfl (wantT rfl rfl rfl) (fun hc => AOp.slots [] .nil (AOp.call' rfl rfl rfl (awake05 _ _ (by repeat (first | assumption | exact upd_same _ _ _ | refine (upd_other _ _ (by omega)).trans ?_))) (fun _ _ _ h => h))) (fun kq hkq => ?_)
  refine aOps_1 rfl rfl rfl (AOp.pickAnd rfl rfl rfl (fun hb => gvE rfl hb) ?_)
  refine aOps_1 rfl rfl rfl (AOp.move' (.inr rfl) rfl ?_)
  refine aOps_end ?_
  show ACode _ _ _ _ _ _
  refine ACode.ret ?_
  exact RetQ.one rfl rfl (by (repeat (first | exact sub_refl _ | assumption | refine sub_upd' ?_ (by ((repeat refine (upd_other _ _ (by omega)).trans ?_); first | exact hf _ (by omega))) | refine sub_over (by assumption) | refine sub_over0 ?_ | refine sub_trans (sub_same (by assumption)) ?_ | refine sub_put ?_ (by repeat (first | assumption | exact upd_same _ _ _ | refine (upd_other _ _ (by omega)).trans ?_))))) stays (fun hk => ⟨(by simp), rfl, by omega⟩)
end

end Go.Proofs.YtlbcgadmcjobiaaDoor
