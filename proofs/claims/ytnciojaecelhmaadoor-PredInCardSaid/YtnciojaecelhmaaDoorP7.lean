/- Contracts over the abstract states: the statement that one of several is the one or the other. -/
import Derived.Test.YtnciojaecelhmaaDoorP6
set_option linter.unusedVariables false
set_option linter.unusedSimpArgs false
set_option maxRecDepth 100000
namespace Go.Proofs.YtnciojaecelhmaaDoor
open Go Go.Ab

theorem flatMap_cut {α : Type} {f : α → List Value} {z : Nat} (hz : ∀ a, (f a).length = z) : ∀ (l : List α) (i n : Nat), ((l.flatMap f).drop (i * z)).take (n * z) = ((l.drop i).take n).flatMap f
  | [], i, n => by simp
  | a :: l, 0, 0 => by simp
  | a :: l, 0, n + 1 => by
    have := flatMap_cut hz l 0 n
    rw [Nat.zero_mul, List.drop_zero, List.drop_zero] at this
    rw [Nat.zero_mul, List.drop_zero, List.flatMap_cons, Nat.succ_mul, Nat.add_comm, List.take_add, List.take_left' (hz a), List.drop_left' (hz a), this, List.drop_zero, List.take_succ_cons, List.flatMap_cons]
  | a :: l, i + 1, n => by
    have := flatMap_cut hz l i n
    rw [Nat.succ_mul, Nat.add_comm, ← List.drop_drop, List.flatMap_cons, List.drop_left' (hz a), this, List.drop_succ_cons]
theorem SLC.cutV {H : Hp} {c0 : Nat} {A0 : Option Addr} {vals : List Val} (hS : SLC H 3 A0 vals.length c0 (vals3 vals)) (l h : Nat) (h1 : l ≤ h) (h2 : h ≤ vals.length) :
    ∃ A c, aslice H 3 l h none (.slice A0 vals.length c0) = some (.slice A ((vals.drop l).take (h - l)).length c) ∧ SLC H 3 A ((vals.drop l).take (h - l)).length c (vals3 ((vals.drop l).take (h - l))) := by
  obtain ⟨A, c, h3, h4⟩ := SLC.cut hS l h none h1 h2 (by intro x hx; cases hx)
  have e : ((vals.drop l).take (h - l)).length = h - l := by rw [List.length_take, List.length_drop]; omega
  have h5 := flatMap_cut (f := fun a : Val => (vv a).cells.toList) (z := 3) (fun _ => rfl) vals l (h - l)
  rw [show vals3 vals = vals.flatMap (fun a : Val => (vv a).cells.toList) from rfl, h5] at h4
  exact ⟨A, c, by rw [e]; exact h3, by rw [e]; exact h4⟩
theorem one_at {vals : List Val} {i : Nat} (h : i < vals.length) : (vals.drop i).take (i + 1 - i) = [vals.getD i vD] := by
  rw [Nat.add_sub_cancel_left, List.drop_eq_getElem_cons h, List.take_succ_cons, List.take_zero, getD_i h]
theorem eqs_take {x : Nat} {vals : List Val} {i : Nat} (h : i < vals.length) : (eqs x vals).take (i + 1) = (eqs x vals).take i ++ [.mk ((1 : Nat) : Int) (x : Int) [vals.getD i vD] []] := by
  rw [eqs, List.take_succ_eq_append_getElem (by simpa using h), List.getElem_map, getD_i h]
abbrev gpk (bs : List Value) : Blk := { cells := bs, elem := 29, kind := .grow, esz := 4 }
section
variable (H : Hp) (k : Nat)

theorem predIn_b (ht : H 0 = some shBlk) (cols : List Col) (C : Option Addr) (e : Nat) (hC : slcCells H 3 (.slice C cols.length e) = some (cols3 cols)) (hcn : cols.length ≤ 9223372036854775807) (vals : List Val) (A : Option Addr) (c : Nat) (hA : SLC H 3 A vals.length c (vals3 vals)) (hvl : vals.length ≤ 9223372036854775807) (hvo : ∀ v ∈ vals, v.ok) (row : List Val) (R : Option Addr) (rc : Nat) (hR : SLC H 3 R row.length rc (vals3 row)) (hrl : row.length ≤ 9223372036854775807) (y : Int) (hy1 : -9223372036854775808 ≤ y) (hy2 : y ≤ 9223372036854775807) : ACalls Tryd.prog 3 3 [.slice C cols.length e, .slice A vals.length c, .slice R row.length rc, .int .i64 y] H k (Same H k (.bool true)) := by
  refine ACalls.fresh fun hf => ?_
  refine ACalls.body Tryd.func3 rfl (Nat.le_of_ble_eq_true rfl) ?_
  have h0k := old_lt hf ht
  refine ACode.seq ?_
  refine ACode.region' [0] (by kernel_rfl) rfl ?_
  refine aOps_1 rfl rfl rfl (AOp.move' (.inr rfl) rfl ?_)
  refine aOps_end ?_
  show ACode _ _ _ _ _ _
  refine ACode.seq ?_
  refine ACode.seq ?_
  refine ACode.region' [0, 1, 2, 3, 4, 5, 6, 7, 8, 9, 10, 11, 12, 13, 14, 15, 16, 17, 18, 19, 20, 21, 22, 23] (by kernel_rfl) rfl ?_
  refine aOps_1 rfl rfl rfl (AOp.move' (.inl rfl) rfl ?_)
  refine aOps_1 rfl rfl rfl (AOp.len' rfl rfl ?_)
  refine aOps_1 rfl rfl rfl (AOp.bin' rfl rfl rfl rfl ?_)
  refine aOps_1 rfl rfl rfl (AOp.move' (.inl rfl) rfl ?_)
  refine aOps_gd0 rfl rfl (wantF rfl rfl rfl) (fun hc => AOp.slots [(1, _)] (.cons rfl .nil) (AOp.move' (.inl rfl) rfl ⟨rfl, rfl, rfl⟩)) ?_
  refine aOps_gd0 rfl rfl (wantF rfl rfl rfl) (fun hc => AOp.slots [(19, _)] (.cons (gvT rfl hc) .nil) (AOp.len' rfl rfl ⟨rfl, rfl, rfl⟩)) ?_
  refine aOps_gd0 rfl rfl (wantF rfl rfl rfl) (fun hc => AOp.slots [(20, _)] (.cons (gvT rfl hc) .nil) (AOp.bin' rfl rfl rfl rfl ⟨rfl, rfl, rfl⟩)) ?_
  refine aOps_1 rfl rfl rfl (AOp.pickOr rfl rfl rfl (fun hb => gvE rfl (t_not hb)) ?_)
  refine aOps_1 rfl rfl rfl (AOp.move' (.inl rfl) rfl ?_)
  refine aOps_gd0 rfl rfl (wantF rfl rfl rfl) (fun hc => AOp.slots [(1, _)] (.cons rfl .nil) (AOp.move' (.inl rfl) rfl ⟨rfl, rfl, rfl⟩)) ?_
  refine aOps_gd0 rfl rfl (wantF rfl rfl rfl) (fun hc => AOp.slots [(24, _)] (.cons (gvT rfl hc) .nil) (AOp.len' rfl rfl ⟨rfl, rfl, rfl⟩)) ?_
  refine aOps_gd0 rfl rfl (wantF rfl rfl rfl) (fun hc => AOp.slots [(25, _)] (.cons (gvT rfl hc) .nil) (AOp.bin' rfl rfl rfl rfl ⟨rfl, rfl, rfl⟩)) ?_
  refine aOps_1 rfl rfl rfl (AOp.pickOr rfl rfl rfl (fun hb => gvE rfl (t_not hb)) ?_)
  refine aOps_1 rfl rfl rfl (AOp.move' (.inl rfl) rfl ?_)
  refine aOps_gd0 rfl rfl (wantF rfl rfl rfl) (fun hc => AOp.slots [(0, _)] (.cons rfl .nil) (AOp.move' (.inl rfl) rfl ⟨rfl, rfl, rfl⟩)) ?_
  refine aOps_gd0 rfl rfl (wantF rfl rfl rfl) (fun hc => AOp.slots [(2, _)] (.cons rfl .nil) (AOp.move' (.inl rfl) rfl ⟨rfl, rfl, rfl⟩)) ?_
  refine aOps_gd rfl rfl (wantF rfl rfl rfl) (fun hc => AOp.slots [(29, _), (30, _)] (.cons (gvT rfl hc) (.cons (gvT rfl hc) .nil)) (AOp.call' rfl rfl rfl (refrow_vals 3 _ _ cols row C e (slcCells_sub (by (repeat (first | exact sub_refl _ | assumption | refine sub_upd' ?_ (by ((repeat refine (upd_other _ _ (by omega)).trans ?_); first | exact hf _ (by omega))) | refine sub_over (by assumption) | refine sub_over0 ?_ | refine sub_trans (sub_same (by assumption)) ?_ | refine sub_dropu ?_ | refine sub_drop ?_ | refine sub_put ?_ (by repeat (first | assumption | exact upd_same _ _ _ | refine (upd_other _ _ (by omega)).trans ?_))))) hC) R rc (slcCells_sub (by (repeat (first | exact sub_refl _ | assumption | refine sub_upd' ?_ (by ((repeat refine (upd_other _ _ (by omega)).trans ?_); first | exact hf _ (by omega))) | refine sub_over (by assumption) | refine sub_over0 ?_ | refine sub_trans (sub_same (by assumption)) ?_ | refine sub_dropu ?_ | refine sub_drop ?_ | refine sub_put ?_ (by repeat (first | assumption | exact upd_same _ _ _ | refine (upd_other _ _ (by omega)).trans ?_))))) hR.cells) hrl) (fun _ _ _ h => h))) (fun kq hkq => ?_)
  refine aOps_gd0 rfl rfl (wantF rfl rfl rfl) (fun hc => AOp.slots [(31, _)] (.cons (gvT rfl hc) .nil) (AOp.bin' rfl rfl rfl rfl ⟨rfl, rfl, rfl⟩)) ?_
  refine aOps_1 rfl rfl rfl (AOp.pickOr rfl rfl rfl (fun hb => gvE rfl (t_not hb)) ?_)
  refine aOps_1 rfl rfl rfl (AOp.move' (.inl rfl) rfl ?_)
  refine aOps_gd0 rfl rfl (wantF rfl rfl rfl) (fun hc => AOp.slots [(0, _)] (.cons rfl .nil) (AOp.move' (.inl rfl) rfl ⟨rfl, rfl, rfl⟩)) ?_
  refine aOps_gd0 rfl rfl (wantF rfl rfl rfl) (fun hc => AOp.slots [(35, _)] (.cons (gvT rfl hc) .nil) (AOp.len' rfl rfl ⟨rfl, rfl, rfl⟩)) ?_
  refine aOps_gd0 rfl rfl (wantF rfl rfl rfl) (fun hc => AOp.slots [(36, _)] (.cons (gvT rfl hc) .nil) (AOp.bin' rfl rfl rfl rfl ⟨rfl, rfl, rfl⟩)) ?_
  refine aOps_1 rfl rfl rfl (AOp.pickOr rfl rfl rfl (fun hb => gvE rfl (t_not hb)) ?_)
  refine aOps_end ?_
  show ACode _ _ _ _ _ _
  refine ACode.cond rfl (fun c0 => ?_) (fun c0 => ?_)
  · try simp only [decide_eq_true_eq, decide_eq_false_iff_not, beq_iff_eq, beq_eq_false_iff_ne, ne_eq, bne_iff_ne, Bool.not_eq_true', Bool.not_eq_false', Int.not_lt, Int.not_le, gt_iff_lt, ge_iff_le, bne_eq_false_iff_eq, Bool.not_eq_eq_eq_not, Bool.not_true, Bool.not_false] at c0
    refine ACode.seq ?_
    refine ACode.region' [0, 1] (by kernel_rfl) rfl ?_
    refine aOps_q rfl rfl rfl (AOp.call' rfl rfl rfl (awake16 _ _ (by repeat (first | assumption | exact upd_same _ _ _ | refine (upd_other _ _ (by omega)).trans ?_))) (fun _ _ _ h => h)) (fun kq hkq => ?_)
    refine aOps_1 rfl rfl rfl (AOp.move' (.inr rfl) rfl ?_)
    refine aOps_end ?_
    show ACode _ _ _ _ _ _
    refine ACode.ret ?_
    exact RetQ.one rfl rfl (by (repeat (first | exact sub_refl _ | assumption | refine sub_upd' ?_ (by ((repeat refine (upd_other _ _ (by omega)).trans ?_); first | exact hf _ (by omega))) | refine sub_over (by assumption) | refine sub_over0 ?_ | refine sub_trans (sub_same (by assumption)) ?_ | refine sub_dropu ?_ | refine sub_drop ?_ | refine sub_put ?_ (by repeat (first | assumption | exact upd_same _ _ _ | refine (upd_other _ _ (by omega)).trans ?_))))) stays (fun hk => ⟨rfl, rfl, by omega⟩)
  · try simp only [decide_eq_true_eq, decide_eq_false_iff_not, beq_iff_eq, beq_eq_false_iff_ne, ne_eq, bne_iff_ne, Bool.not_eq_true', Bool.not_eq_false', Int.not_lt, Int.not_le, gt_iff_lt, ge_iff_le, bne_eq_false_iff_eq, Bool.not_eq_eq_eq_not, Bool.not_true, Bool.not_false] at c0
    simp only [Bool.or_eq_false_iff, decide_eq_false_iff_not, beq_eq_false_iff_ne, bne_eq_false_iff_eq] at c0
    obtain ⟨⟨⟨⟨c01, c02⟩, c03⟩, c04⟩, c05⟩ := c0
    have hrow := rowI_len c04
    refine ACode.skip ?_
    show ACode _ _ _ _ _ _
    refine ACode.seq ?_
    refine ACode.region' [0, 1, 2, 3, 4] (by kernel_rfl) rfl ?_
    refine aOps_1 rfl rfl rfl (AOp.move' (.inl rfl) rfl ?_)
    refine aOps_1 rfl rfl rfl (AOp.move' (.inl rfl) rfl ?_)
    refine aOps_1 rfl rfl rfl (AOp.len' rfl rfl ?_)
    refine aOps_q rfl rfl rfl (AOp.call' rfl rfl rfl (pick_b _ _ y (cols.length : Int) (by omega) (by omega) hy1 hy2) (fun _ _ _ h => h)) (fun kp hkp => ?_)
    have hr1 := Int.emod_nonneg y (show (cols.length : Int) ≠ 0 by omega)
    have hr2 := Int.emod_lt_of_pos y (show 0 < (cols.length : Int) by omega)
    obtain ⟨x, hx⟩ : ∃ x : Nat, y % (cols.length : Int) = x := ⟨(y % (cols.length : Int)).toNat, by omega⟩
    rw [hx]
    have hxr : x < row.length := by omega
    refine aOps_1 rfl rfl rfl (AOp.move' (.inr rfl) rfl ?_)
    refine aOps_end ?_
    show ACode _ _ _ _ _ _
    refine ACode.seq ?_
    refine ACode.region' [0, 1, 2, 3, 4] (by kernel_rfl) rfl ?_
    refine aOps_1 rfl rfl rfl (AOp.move' (.inl rfl) rfl ?_)
    refine aOps_1 rfl rfl rfl (AOp.move' (.inl rfl) rfl ?_)
    refine aOps_1 rfl rfl rfl (AOp.buildS (cells := #[.int .i64 7, .int .i64 (x : Int), .slice A vals.length c, .slice none 0 0]) rfl rfl rfl ?_)
    refine aOps_1 rfl rfl rfl (AOp.alloc' rfl ?_)
    refine aOps_0 rfl rfl rfl ?_
    refine AOp.storeAll (b := ?b1) rfl rfl rfl ?hn1 ?hk1 rfl ?hw1 ?ho1 ?hl1 ?hR1
    (case hn1 => repeat (first | assumption | exact upd_same _ _ _ | refine (upd_other _ _ (by omega)).trans ?_))
    (case hk1 => rfl)
    (case hw1 => first | rfl | (simp; done))
    (case ho1 => first | rfl | decide | (simp; done))
    (case hl1 => first | rfl | (simp; done))
    refine aOps_end ?_
    show ACode _ _ _ _ _ _
    refine ACode.seq ?_
    refine ACode.region' [0, 1, 2] (by kernel_rfl) rfl ?_
    refine aOps_1 rfl rfl rfl (AOp.buildS (cells := #[.int .i64 11, .int .i64 0, .slice none 0 0, .slice none 0 0]) rfl rfl rfl ?_)
    refine aOps_1 rfl rfl rfl (AOp.alloc' rfl ?_)
    refine aOps_0 rfl rfl rfl ?_
    refine AOp.storeAll (b := ?b2) rfl rfl rfl ?hn2 ?hk2 rfl ?hw2 ?ho2 ?hl2 ?hR2
    (case hn2 => repeat (first | assumption | exact upd_same _ _ _ | refine (upd_other _ _ (by omega)).trans ?_))
    (case hk2 => rfl)
    (case hw2 => first | rfl | (simp; done))
    (case ho2 => first | rfl | decide | (simp; done))
    (case hl2 => first | rfl | (simp; done))
    refine aOps_end ?_
    show ACode _ _ _ _ _ _
    refine ACode.seq ?_
    refine ACode.seq ?_
    refine ACode.adoptAt (n := kp + 1) 3 29 4 (by decide) (upd_same _ _ _) rfl ?_
    refine ACode.region' [0] (by kernel_rfl) rfl ?_
    refine aOps_1 rfl rfl rfl (AOp.move' (.inr rfl) rfl ?_)
    refine aOps_end ?_
    show ACode _ _ _ _ _ _
    refine ACode.block ?_
    refine ACode.countG (γ := List Value) (fun i g => [(12, .int .i64 (i : Int))]) [(0, _), (1, _), (2, _), (3, _), (8, _), (9, _), (10, _), (11, _), (15, _), (16, _), (17, _), (18, _), (19, _), (20, _), (21, _), (22, _), (23, _), (24, _), (25, _), (26, _), (27, _), (28, _), (29, _), (30, _), (31, _), (32, _), (33, _), (34, _), (35, _), (36, _), (37, _), (38, _), (40, _), (41, _), (42, _), (43, _), (44, _), (45, _), (46, _), (47, _)] (fun i g => upd (upd (upd H kp (some (pbk 7 (x : Int) A vals.length c none 0 0))) (kp + 2) (some (gpk g))) (kp + 1) (some (pbk 11 0 none 0 0 (some ⟨kp + 2, 0, some 1⟩) i i))) (vals.length) (fun i g => PdVs H ((eqs x vals).take i) g) ([]) (.cons rfl .nil) (.cons rfl (.cons rfl (.cons rfl (.cons rfl (.cons rfl (.cons rfl (.cons rfl (.cons rfl (.cons rfl (.cons rfl (.cons rfl (.cons rfl (.cons rfl (.cons rfl (.cons rfl (.cons rfl (.cons rfl (.cons rfl (.cons rfl (.cons rfl (.cons rfl (.cons rfl (.cons rfl (.cons rfl (.cons rfl (.cons rfl (.cons rfl (.cons rfl (.cons rfl (.cons rfl (.cons rfl (.cons rfl (.cons rfl (.cons rfl (.cons rfl (.cons rfl (.cons rfl (.cons rfl (.cons rfl (.cons rfl .nil)))))))))))))))))))))))))))))))))))))))) (by (repeat (first | exact sub_refl _ | assumption | refine sub_upd' ?_ (by ((repeat refine (upd_other _ _ (by omega)).trans ?_); first | exact hf _ (by omega))) | refine sub_over (by assumption) | refine sub_over0 ?_ | refine sub_trans (sub_same (by assumption)) ?_ | refine sub_dropu ?_ | refine sub_drop ?_ | refine sub_put ?_ (by repeat (first | assumption | exact upd_same _ _ _ | refine (upd_other _ _ (by omega)).trans ?_))))) PdVs.nil (fun i0 g0 kL0 HL0 hiL0 hkL0 hsL0 hfL0 hxL0 => ?_)
    show ACode _ _ _ _ _ ⟨_, _, _⟩
    refine ACode.seq ?_
    refine ACode.seq ?_
    refine ACode.region' [0, 1, 2, 3] (by kernel_rfl) rfl ?_
    refine aOps_1 rfl rfl rfl (AOp.move' (.inl rfl) rfl ?_)
    refine aOps_1 rfl rfl rfl (AOp.move' (.inl rfl) rfl ?_)
    refine aOps_1 rfl rfl rfl (AOp.len' rfl rfl ?_)
    refine aOps_1 rfl rfl rfl (AOp.bin' rfl rfl rfl rfl ?_)
    refine aOps_end ?_
    show ACode _ _ _ _ _ _
    refine ACode.cond rfl (fun c1 => ?_) (fun c1 => ?_)
    · try simp only [decide_eq_true_eq, decide_eq_false_iff_not, beq_iff_eq, beq_eq_false_iff_ne, ne_eq, bne_iff_ne, Bool.not_eq_true', Bool.not_eq_false', Int.not_lt, Int.not_le, gt_iff_lt, ge_iff_le, bne_eq_false_iff_eq, Bool.not_eq_eq_eq_not, Bool.not_true, Bool.not_false] at c1
      refine ACode.skip ?_
      show ACode _ _ _ _ _ _
      refine ACode.seq ?_
      refine ACode.block ?_
      have hn11 : HL0 (kp + 1) = some (pbk 11 0 none 0 0 (some ⟨kp + 2, 0, some 1⟩) i0 i0) := hsL0 _ _ (upd_same _ _ _)
      have hq0 : HL0 (kp + 2) = some (gpk g0) := hsL0 _ _ ((upd_other _ _ (by omega)).trans (upd_same _ _ _))
      have hgl := hxL0.len
      have hetl : ((eqs x vals).take i0).length = i0 := by rw [List.length_take, List.length_map]; omega
      rw [hetl] at hgl
      obtain ⟨A1, c1x, q1, g1⟩ := SLC.cutV hA i0 (i0 + 1) (by omega) (by omega)
      rw [one_at (by omega)] at q1 g1
      have hH : Ab.Sub H HL0 := sub_trans (by repeat (first | exact sub_refl _ | refine sub_upf hf (by omega) ?_)) hsL0
      have hqs : Ab.Sub (upd HL0 (kp + 2) none) HL0 := sub_drop (sub_refl _)
      refine ACode.any mixed (by kernel_rfl) ?_
      refine AnyA.split 12 (by kernel_rfl) (by kernel_rfl) (by decide) (by decide) (Nat.le_of_ble_eq_true rfl) ?_
      refine AnyA.float (Hq := upd HL0 (kp + 2) none) [(0, 54), (1, 55), (2, 56), (3, 57), (4, 58), (5, 59), (6, 60), (7, 61), (8, 62), (11, 65)] [9, 10] (by kernel_rfl) (Nat.le_of_ble_eq_true rfl) (by kernel_rfl) (by (repeat (first | exact sub_refl _ | assumption | refine sub_upd' ?_ (by ((repeat refine (upd_other _ _ (by omega)).trans ?_); first | exact hf _ (by omega) | exact hfL0 _ (by omega))) | refine sub_trans ?_ hsL0 | refine sub_over (by assumption) | refine sub_over0 ?_ | refine sub_trans (sub_same (by assumption)) ?_ | refine sub_dropu ?_ | refine sub_drop ?_ | refine sub_put ?_ (by repeat (first | assumption | exact upd_same _ _ _ | refine (upd_other _ _ (by omega)).trans ?_ | refine hsL0 _ _ ?_))))) ?_
      refine DrawF.q 0 54 [(11, none)] rfl (by kernel_rfl) rfl (fun Hc kq hSb => AOp.fieldAddr' rfl (by decide) rfl ⟨rfl, rfl, rfl⟩) ?_
      refine DrawF.q 1 55 [(54, some 0)] rfl (by kernel_rfl) rfl (fun Hc kq hSb => AOp.load1 (b := pbk 11 0 none 0 0 (some ⟨kp + 2, 0, some 1⟩) i0 i0) (v := .slice (some ⟨kp + 2, 0, some 1⟩) i0 i0) rfl rfl (by repeat (first | assumption | exact upd_same _ _ _ | refine (upd_other _ _ (by omega)).trans ?_ | refine hSb _ _ ?_ | refine hsL0 _ _ ?_)) rfl ⟨rfl, rfl, rfl⟩) ?_
      refine DrawF.q 2 56 [(9, none)] rfl (by kernel_rfl) rfl (fun Hc kq hSb => AOp.move' (.inl rfl) rfl ⟨rfl, rfl, rfl⟩) ?_
      refine DrawF.q 3 57 [(1, none)] rfl (by kernel_rfl) rfl (fun Hc kq hSb => AOp.move' (.inl rfl) rfl ⟨rfl, rfl, rfl⟩) ?_
      refine DrawF.q 4 58 [(12, none)] rfl (by kernel_rfl) rfl (fun Hc kq hSb => AOp.move' (.inl rfl) rfl ⟨rfl, rfl, rfl⟩) ?_
      refine DrawF.q 5 59 [(12, none)] rfl (by kernel_rfl) rfl (fun Hc kq hSb => AOp.move' (.inl rfl) rfl ⟨rfl, rfl, rfl⟩) ?_
      refine DrawF.q 6 60 [(59, some 5)] rfl (by kernel_rfl) rfl (fun Hc kq hSb => AOp.add rfl rfl rfl (i64_wrap (by omega) (by omega)) ⟨rfl, rfl, rfl⟩) ?_
      refine DrawF.q 7 61 [(57, some 3), (58, some 4), (60, some 6)] rfl (by kernel_rfl) rfl (fun Hc kq hSb => AOp.cutQ (aslice_sub (by (repeat (first | exact sub_refl _ | assumption | refine sub_upd' ?_ (by ((repeat refine (upd_other _ _ (by omega)).trans ?_); first | exact hf _ (by omega) | exact hfL0 _ (by omega))) | refine sub_trans ?_ hSb | refine sub_trans ?_ hsL0 | refine sub_over (by assumption) | refine sub_over0 ?_ | refine sub_trans (sub_same (by assumption)) ?_ | refine sub_dropu ?_ | refine sub_drop ?_ | refine sub_put ?_ (by repeat (first | assumption | exact upd_same _ _ _ | refine (upd_other _ _ (by omega)).trans ?_ | refine hSb _ _ ?_ | refine hsL0 _ _ ?_))))) q1) rfl rfl (bnd_at rfl rfl) (bnd_at rfl rfl) mx_no ⟨rfl, rfl, rfl⟩) ?_
      refine DrawF.q 8 62 [(56, some 2), (61, some 7)] rfl (by kernel_rfl) rfl (fun Hc kq hSb => AOp.buildS (cells := #[.int .i64 1, .int .i64 (x : Int), .slice A1 1 c1x, .slice none 0 0]) rfl rfl rfl ⟨rfl, rfl, rfl⟩) ?_
      refine DrawF.q 11 65 [(11, none)] rfl (by kernel_rfl) rfl (fun Hc kq hSb => AOp.fieldAddr' rfl (by decide) rfl ⟨rfl, rfl, rfl⟩) ?_
      refine DrawF.done ?_
      show aOpsF _ _ _ _ _ _ [9, 10] ⟨_, _, _⟩
      refine aOpsF_1 [62] rfl rfl (by kernel_rfl) rfl (AOp.buildH (pv 1 (x : Int) A1 1 c1x none 0 0).cells.toList rfl rfl (by show 0 < 4; decide) (by show 4 ≤ 16777216; decide) rfl rfl ?_)
      refine ⟨by (repeat (first | exact sub_refl _ | assumption | refine sub_upd' ?_ (by ((repeat refine (upd_other _ _ (by omega)).trans ?_); first | exact hf _ (by omega) | exact hfL0 _ (by omega))) | refine sub_trans ?_ hsL0 | refine sub_over (by assumption) | refine sub_over0 ?_ | refine sub_trans (sub_same (by assumption)) ?_ | refine sub_dropu ?_ | refine sub_drop ?_ | refine sub_put ?_ (by repeat (first | assumption | exact upd_same _ _ _ | refine (upd_other _ _ (by omega)).trans ?_ | refine hsL0 _ _ ?_)))), ?_⟩
      refine aOpsF_1 [55, 63] rfl rfl (by kernel_rfl) rfl (AOp.append' (b := gpk g0) (m := 1) (news := (pv 1 (x : Int) A1 1 c1x none 0 0).cells.toList) rfl rfl rfl (by repeat (first | assumption | exact upd_same _ _ _ | refine (upd_other _ _ (by omega)).trans ?_ | refine hsL0 _ _ ?_)) (srcOf_grow (b := gpk (pv 1 (x : Int) A1 1 c1x none 0 0).cells.toList) (by repeat (first | assumption | exact upd_same _ _ _ | refine (upd_other _ _ (by omega)).trans ?_ | refine hsL0 _ _ ?_)) rfl rfl) rfl rfl rfl (by show i0 * 4 = g0.length; omega) srcOk_sl (fun u hu => List.all_eq_true.1 (show (pv 1 (x : Int) A1 1 c1x none 0 0).cells.toList.all (·.oneCell') = true from rfl) u hu) (by omega) (by omega) ?_)
      refine ⟨by (repeat (first | exact sub_refl _ | assumption | refine sub_upd' ?_ (by ((repeat refine (upd_other _ _ (by omega)).trans ?_); first | exact hf _ (by omega) | exact hfL0 _ (by omega))) | refine sub_trans ?_ hsL0 | refine sub_over (by assumption) | refine sub_over0 ?_ | refine sub_trans (sub_same (by assumption)) ?_ | refine sub_dropu ?_ | refine sub_drop ?_ | refine sub_put ?_ (by repeat (first | assumption | exact upd_same _ _ _ | refine (upd_other _ _ (by omega)).trans ?_ | refine hsL0 _ _ ?_)))), ?_⟩
      refine aOpsF_end ?_
      refine AnyA.float (Hq := (fun _ => none)) [] [12] (by kernel_rfl) (Nat.le_of_ble_eq_true rfl) (by kernel_rfl) (sub_none _) ?_
      refine DrawF.done ?_
      show aOpsF _ _ _ _ _ _ [12] ⟨_, _, _⟩
      refine aOpsF_0 [65, 64] rfl rfl (by kernel_rfl) rfl ?_
      refine AOp.store1 (b := ?b3) rfl rfl rfl ?hn3 ?hk3 rfl rfl ?hl3 ?hR3
      (case hn3 => repeat (first | assumption | exact upd_same _ _ _ | refine (upd_other _ _ (by omega)).trans ?_ | refine hsL0 _ _ ?_))
      (case hk3 => rfl)
      (case hl3 => simp)
      refine ⟨sub_none _, ?_⟩
      refine aOpsF_end ?_
      show ACode _ _ _ _ _ _
      refine ACode.region' [0, 1, 2] (by kernel_rfl) rfl ?_
      refine aOps_1 rfl rfl rfl (AOp.move' (.inl rfl) rfl ?_)
      refine aOps_1 rfl rfl rfl (AOp.add rfl rfl rfl (i64_wrap (by omega) (by omega)) ?_)
      refine aOps_1 rfl rfl rfl (AOp.move' (.inr rfl) rfl ?_)
      refine aOps_end ?_
      first | refine thenA_n ?_ | simp only [thenA, blockA, if_true]
      exact NextG.mk (by omega) (by omega) (g0 ++ (pv 1 (x : Int) A1 1 c1x none 0 0).cells.toList) (.cons rfl .nil) (.cons rfl (.cons rfl (.cons rfl (.cons rfl (.cons rfl (.cons rfl (.cons rfl (.cons rfl (.cons rfl (.cons rfl (.cons rfl (.cons rfl (.cons rfl (.cons rfl (.cons rfl (.cons rfl (.cons rfl (.cons rfl (.cons rfl (.cons rfl (.cons rfl (.cons rfl (.cons rfl (.cons rfl (.cons rfl (.cons rfl (.cons rfl (.cons rfl (.cons rfl (.cons rfl (.cons rfl (.cons rfl (.cons rfl (.cons rfl (.cons rfl (.cons rfl (.cons rfl (.cons rfl (.cons rfl (.cons rfl .nil)))))))))))))))))))))))))))))))))))))))) (by (repeat (first | exact sub_refl _ | assumption | refine sub_upd' ?_ (by ((repeat refine (upd_other _ _ (by omega)).trans ?_); first | exact hf _ (by omega) | exact hfL0 _ (by omega))) | refine sub_trans ?_ hsL0 | refine sub_over (by assumption) | refine sub_over0 ?_ | refine sub_trans (sub_same (by assumption)) ?_ | refine sub_dropu ?_ | refine sub_drop ?_ | refine sub_put ?_ (by repeat (first | assumption | exact upd_same _ _ _ | refine (upd_other _ _ (by omega)).trans ?_ | refine hsL0 _ _ ?_))))) (by rw [eqs_take (by omega)]; exact PdVs.snoc (PdV.intro (vals := [vals.getD i0 vD]) (of := []) g1.cells (by show 1 ≤ 9223372036854775807; decide) (by decide) (by decide) (by omega) (by intro v hv; rw [List.mem_singleton.1 hv]; exact hvo _ (by rw [← getD_i (by omega)]; exact List.getElem_mem _)) SLC.nil PdVs.nil) hxL0)
    · try simp only [decide_eq_true_eq, decide_eq_false_iff_not, beq_iff_eq, beq_eq_false_iff_ne, ne_eq, bne_iff_ne, Bool.not_eq_true', Bool.not_eq_false', Int.not_lt, Int.not_le, gt_iff_lt, ge_iff_le, bne_eq_false_iff_eq, Bool.not_eq_eq_eq_not, Bool.not_true, Bool.not_false] at c1
      refine ACode.exit ?_
      show ACode _ _ _ _ _ _
      refine ACode.seq ?_
      have hi : i0 = vals.length := by omega
      subst hi
      have heql : (eqs x vals).length = vals.length := List.length_map _
      rw [List.take_of_length_le (by omega)] at hxL0
      have hH : Ab.Sub H HL0 := sub_trans (by repeat (first | exact sub_refl _ | refine sub_upf hf (by omega) ?_)) hsL0
      have hxx := hxL0.sub hH
      have hgs : SLC HL0 4 (some ⟨kp + 2, 0, some 1⟩) (eqs x vals).length (eqs x vals).length g0 := SLC.grow (b := gpk g0) (hsL0 _ _ ((upd_other _ _ (by omega)).trans (upd_same _ _ _))) rfl (by show (eqs x vals).length * 4 = g0.length; rw [hxL0.len])
      have hP11 : PdV HL0 (Pd.mk 11 0 [] (eqs x vals)) (pv 11 0 none 0 0 (some ⟨kp + 2, 0, some 1⟩) vals.length vals.length) := by { have h := PdV.intro (op := 11) (col := 0) (A := none) (c := 0) (vals := []) (of := eqs x vals) (bs := g0) (H := HL0) rfl (by decide) (by rw [heql]; omega) (by decide) (by decide) (by intro v hv; cases hv) hgs hxx; rw [heql] at h; exact h }
      have hm0 : vals.getD 0 vD ∈ vals := by rw [← getD_i (by omega)]; exact List.getElem_mem _
      have hm1 : vals.getD 1 vD ∈ vals := by rw [← getD_i (by omega)]; exact List.getElem_mem _
      have ho3 : ∀ v ∈ [vals.getD 0 vD], v.ok := by intro v hv; rw [List.mem_singleton.1 hv]; exact hvo _ hm0
      have ho4 : ∀ v ∈ [vals.getD 1 vD], v.ok := by intro v hv; rw [List.mem_singleton.1 hv]; exact hvo _ hm1
      have ho2 : ∀ v ∈ [vals.getD 0 vD, vals.getD 1 vD], v.ok := by intro v hv; rcases List.mem_cons.1 hv with h | h; rw [h]; exact hvo _ hm0; exact ho4 v h
      obtain ⟨A2, c2, q2, g2⟩ := SLC.cutV hA 0 2 (by omega) (by omega)
      obtain ⟨A3, c3, q3, g3⟩ := SLC.cutV hA 0 (0 + 1) (by omega) (by omega)
      obtain ⟨A4, c4, q4, g4⟩ := SLC.cutV hA 1 (1 + 1) (by omega) (by omega)
      rw [one_at (by omega)] at q3 g3 q4 g4
      have e2 : (vals.drop 0).take (2 - 0) = [vals.getD 0 vD, vals.getD 1 vD] := by rw [List.drop_zero, List.take_succ_eq_append_getElem (by omega), List.take_succ_eq_append_getElem (by omega), getD_i (by omega), getD_i (by omega)]; rfl
      rw [e2] at q2 g2
      refine ACode.region' [0, 1, 2, 3, 4, 5] (by kernel_rfl) rfl ?_
      refine aOps_1 rfl rfl rfl (AOp.move' (.inl rfl) rfl ?_)
      refine aOps_1 rfl rfl rfl (AOp.move' (.inl rfl) rfl ?_)
      refine aOps_1 rfl rfl rfl (AOp.cutQ (aslice_sub (by (repeat (first | exact sub_refl _ | assumption | refine sub_upd' ?_ (by ((repeat refine (upd_other _ _ (by omega)).trans ?_); first | exact hf _ (by omega) | exact hfL0 _ (by omega))) | refine sub_trans ?_ hsL0 | refine sub_over (by assumption) | refine sub_over0 ?_ | refine sub_trans (sub_same (by assumption)) ?_ | refine sub_dropu ?_ | refine sub_drop ?_ | refine sub_put ?_ (by repeat (first | assumption | exact upd_same _ _ _ | refine (upd_other _ _ (by omega)).trans ?_ | refine hsL0 _ _ ?_))))) q2) rfl rfl (bnd_no rfl) (bnd_at rfl rfl) mx_no ?_)
      refine aOps_1 rfl rfl rfl (AOp.buildS (cells := #[.int .i64 8, .int .i64 (x : Int), .slice A2 2 c2, .slice none 0 0]) rfl rfl rfl ?_)
      refine aOps_1 rfl rfl rfl (AOp.alloc' rfl ?_)
      refine aOps_0 rfl rfl rfl ?_
      refine AOp.storeAll (b := ?b4) rfl rfl rfl ?hn4 ?hk4 rfl ?hw4 ?ho4 ?hl4 ?hR4
      (case hn4 => repeat (first | assumption | exact upd_same _ _ _ | refine (upd_other _ _ (by omega)).trans ?_ | refine hsL0 _ _ ?_))
      (case hk4 => rfl)
      (case hw4 => first | rfl | (simp; done))
      (case ho4 => first | rfl | decide | (simp; done))
      (case hl4 => first | rfl | (simp; done))
      refine aOps_end ?_
      show ACode _ _ _ _ _ _
      refine ACode.seq ?_
      refine ACode.drawM0 12 [(0, 70), (1, 71), (2, 72), (3, 73), (4, 74), (5, 75), (6, 76), (7, 77), (8, 78), (9, 79), (10, 14)] [8, 10] [([], []), ([], []), ([], []), ([], []), ([], []), ([], []), ([], []), ([], []), ([8], []), ([], []), ([10], []), ([10], [])] mixed (by kernel_rfl) (by kernel_rfl) (by decide) ?_
      refine DrawM.q 0 [(9, none)] rfl rfl (by kernel_rfl) rfl rfl (fun Hc kq hkq hF hSb hfr => AOp.move' (.inl rfl) rfl ⟨rfl, rfl, Nat.le_refl _⟩) ?_
      refine DrawM.q 1 [(1, none)] rfl rfl (by kernel_rfl) rfl rfl (fun Hc kq hkq hF hSb hfr => AOp.move' (.inl rfl) rfl ⟨rfl, rfl, Nat.le_refl _⟩) ?_
      refine DrawM.q 2 [(71, some 1)] rfl rfl (by kernel_rfl) rfl rfl (fun Hc kq hkq hF hSb hfr => AOp.cutQ (aslice_sub (by (repeat (first | exact sub_refl _ | assumption | refine sub_upd' ?_ (by ((repeat refine (upd_other _ _ (by omega)).trans ?_); first | exact hf _ (by omega) | exact hfL0 _ (by omega))) | refine sub_trans ?_ hSb | refine sub_trans ?_ hsL0 | refine sub_over (by assumption) | refine sub_over0 ?_ | refine sub_trans (sub_same (by assumption)) ?_ | refine sub_dropu ?_ | refine sub_drop ?_ | refine sub_put ?_ (by repeat (first | assumption | exact upd_same _ _ _ | refine (upd_other _ _ (by omega)).trans ?_ | refine hSb _ _ ?_ | refine hsL0 _ _ ?_))))) q3) rfl rfl (bnd_no rfl) (bnd_at rfl rfl) mx_no ⟨rfl, rfl, Nat.le_refl _⟩) ?_
      refine DrawM.q 3 [(70, some 0), (72, some 2)] rfl rfl (by kernel_rfl) rfl rfl (fun Hc kq hkq hF hSb hfr => AOp.buildS (cells := #[.int .i64 6, .int .i64 (x : Int), .slice A3 1 c3, .slice none 0 0]) rfl rfl rfl ⟨rfl, rfl, Nat.le_refl _⟩) ?_
      refine DrawM.q 4 [(9, none)] rfl rfl (by kernel_rfl) rfl rfl (fun Hc kq hkq hF hSb hfr => AOp.move' (.inl rfl) rfl ⟨rfl, rfl, Nat.le_refl _⟩) ?_
      refine DrawM.q 5 [(1, none)] rfl rfl (by kernel_rfl) rfl rfl (fun Hc kq hkq hF hSb hfr => AOp.move' (.inl rfl) rfl ⟨rfl, rfl, Nat.le_refl _⟩) ?_
      refine DrawM.q 6 [(75, some 5)] rfl rfl (by kernel_rfl) rfl rfl (fun Hc kq hkq hF hSb hfr => AOp.cutQ (aslice_sub (by (repeat (first | exact sub_refl _ | assumption | refine sub_upd' ?_ (by ((repeat refine (upd_other _ _ (by omega)).trans ?_); first | exact hf _ (by omega) | exact hfL0 _ (by omega))) | refine sub_trans ?_ hSb | refine sub_trans ?_ hsL0 | refine sub_over (by assumption) | refine sub_over0 ?_ | refine sub_trans (sub_same (by assumption)) ?_ | refine sub_dropu ?_ | refine sub_drop ?_ | refine sub_put ?_ (by repeat (first | assumption | exact upd_same _ _ _ | refine (upd_other _ _ (by omega)).trans ?_ | refine hSb _ _ ?_ | refine hsL0 _ _ ?_))))) q4) rfl rfl (bnd_at rfl rfl) (bnd_at rfl rfl) mx_no ⟨rfl, rfl, Nat.le_refl _⟩) ?_
      refine DrawM.q 7 [(74, some 4), (76, some 6)] rfl rfl (by kernel_rfl) rfl rfl (fun Hc kq hkq hF hSb hfr => AOp.buildS (cells := #[.int .i64 4, .int .i64 (x : Int), .slice A4 1 c4, .slice none 0 0]) rfl rfl rfl ⟨rfl, rfl, Nat.le_refl _⟩) ?_
      refine DrawM.new 8 _ _ [(73, some 3), (77, some 7)] rfl (by decide) rfl (by kernel_rfl) rfl rfl RenOk.grow (fun Hc kq hkq hF hSb hfr => AOp.buildH2 (pv 6 (x : Int) A3 1 c3 none 0 0).cells.toList (pv 4 (x : Int) A4 1 c4 none 0 0).cells.toList rfl rfl rfl rfl (by show 0 < 4; decide) (by show 4 ≤ 1000000; decide) rfl rfl ⟨kq, Nat.le_refl _, Nat.lt_succ_self _, rfl, rfl⟩) ?_
      refine DrawM.q 9 [(78, some 8)] rfl rfl (by kernel_rfl) rfl rfl (fun Hc kq hkq hF hSb hfr => AOp.buildS (cells := #[.int .i64 10, .int .i64 0, .slice none 0 0, .slice (some ⟨_, 0, some 1⟩) 2 2]) rfl rfl rfl ⟨rfl, rfl, Nat.le_refl _⟩) ?_
      refine DrawM.new 10 _ _ [] rfl (by decide) rfl (by kernel_rfl) rfl rfl RenOk.ptr (fun Hc kq hkq hF hSb hfr => AOp.alloc' rfl ⟨kq, Nat.le_refl _, Nat.lt_succ_self _, rfl, rfl⟩) ?_
      refine DrawM.wr 11 10 _ [(14, some 10), (79, some 9)] rfl rfl (by kernel_rfl) rfl rfl (fun Hc kq hkq hF hSb hfr => (by refine AOp.storeAll (b := ?b5) rfl rfl rfl ?hn5 ?hk5 rfl ?hw5 ?ho5 ?hl5 ?hR5; (case hn5 => repeat (first | assumption | exact upd_same _ _ _ | refine (upd_other _ _ (by omega)).trans ?_ | exact hF 10 (by decide) | refine hSb _ _ ?_ | refine hsL0 _ _ ?_)); (case hk5 => rfl); (case hw5 => first | rfl | (simp; done)); (case ho5 => first | rfl | decide | (simp; done)); (case hl5 => first | rfl | (simp; done)); exact ⟨rfl, rfl, Nat.le_refl _⟩)) ?_
      refine DrawM.done fun kq hkq => ?_
      show aOps _ _ _ _ [] ⟨_, (upd (upd _ (_ + 10) _) (_ + 8) _), _⟩
      refine aOps_end ?_
      show ACode _ _ _ _ _ _
      refine ACode.seq ?_
      refine ACode.draw' 20 [(0, 80), (1, 81), (2, 82), (3, 83), (4, 84), (5, 85), (6, 86), (7, 87), (8, 88), (9, 89), (10, 90), (11, 91), (12, 92), (13, 93), (14, 94), (15, 95), (16, 96), (17, 97), (18, 98), (19, 8)] mixed (by kernel_rfl) ?_
      refine Draw.step [(10, none)] rfl (by kernel_rfl) rfl (fun kq hkq => (by refine AOp.loadAll (b := ?b6) (v := pv 7 (x : Int) A vals.length c none 0 0) rfl rfl ?hn6 ?hv6 ?hw6 ?hz6 ?hR6; (case hn6 => repeat (first | assumption | exact upd_same _ _ _ | refine (upd_other _ _ (by omega)).trans ?_ | refine hsL0 _ _ ?_)); (case hv6 => rfl); (case hw6 => rfl); (case hz6 => first | rfl | (simp; done)); exact ⟨rfl, rfl, Nat.le_refl _⟩)) ?_
      refine Draw.step [(2, none)] rfl (by kernel_rfl) rfl (fun kq hkq => AOp.move' (.inl rfl) rfl ⟨rfl, rfl, Nat.le_refl _⟩) ?_
      refine Draw.step [(80, some 0), (81, some 1)] rfl (by kernel_rfl) rfl (fun kq hkq => AOp.call' rfl rfl rfl (eval_c (SizeOf.sizeOf (Pd.mk ((7 : Nat) : Int) (x : Int) vals []) + 1) (Pd.mk ((7 : Nat) : Int) (x : Int) vals []) _ row R rc _ _ (by repeat (first | assumption | exact upd_same _ _ _ | refine (upd_other _ _ (by omega)).trans ?_ | refine hsL0 _ _ ?_)) ((PdV.intro (vals := vals) (of := []) hA.cells hvl (by decide) (by decide) (by omega) hvo SLC.nil PdVs.nil : PdV H (Pd.mk ((7 : Nat) : Int) (x : Int) vals []) (pv 7 (x : Int) A vals.length c none 0 0)).sub (by (repeat (first | exact sub_refl _ | assumption | refine sub_upd' ?_ (by ((repeat refine (upd_other _ _ (by omega)).trans ?_); first | exact hf _ (by omega) | exact hfL0 _ (by omega))) | refine sub_trans ?_ hsL0 | refine sub_over (by assumption) | refine sub_over0 ?_ | refine sub_trans (sub_same (by assumption)) ?_ | refine sub_dropu ?_ | refine sub_drop ?_ | refine sub_put ?_ (by repeat (first | assumption | exact upd_same _ _ _ | refine (upd_other _ _ (by omega)).trans ?_ | refine hsL0 _ _ ?_)))))) (slcCells_sub (by (repeat (first | exact sub_refl _ | assumption | refine sub_upd' ?_ (by ((repeat refine (upd_other _ _ (by omega)).trans ?_); first | exact hf _ (by omega) | exact hfL0 _ (by omega))) | refine sub_trans ?_ hsL0 | refine sub_over (by assumption) | refine sub_over0 ?_ | refine sub_trans (sub_same (by assumption)) ?_ | refine sub_dropu ?_ | refine sub_drop ?_ | refine sub_put ?_ (by repeat (first | assumption | exact upd_same _ _ _ | refine (upd_other _ _ (by omega)).trans ?_ | refine hsL0 _ _ ?_))))) hR.cells) hrl (Nat.lt_succ_self _)) (fun _ _ _ h => h)) ?_
      refine Draw.step [(11, none)] rfl (by kernel_rfl) rfl (fun kq hkq => (by refine AOp.loadAll (b := ?b7) (v := pv 11 0 none 0 0 (some ⟨kp + 2, 0, some 1⟩) vals.length vals.length) rfl rfl ?hn7 ?hv7 ?hw7 ?hz7 ?hR7; (case hn7 => repeat (first | assumption | exact upd_same _ _ _ | refine (upd_other _ _ (by omega)).trans ?_ | refine hsL0 _ _ ?_)); (case hv7 => rfl); (case hw7 => rfl); (case hz7 => first | rfl | (simp; done)); exact ⟨rfl, rfl, Nat.le_refl _⟩)) ?_
      refine Draw.step [(2, none)] rfl (by kernel_rfl) rfl (fun kq hkq => AOp.move' (.inl rfl) rfl ⟨rfl, rfl, Nat.le_refl _⟩) ?_
      refine Draw.step [(83, some 3), (84, some 4)] rfl (by kernel_rfl) rfl (fun kq hkq => AOp.call' rfl rfl rfl (eval_c (SizeOf.sizeOf (Pd.mk 11 0 [] (eqs x vals)) + 1) (Pd.mk 11 0 [] (eqs x vals)) _ row R rc _ _ (by repeat (first | assumption | exact upd_same _ _ _ | refine (upd_other _ _ (by omega)).trans ?_ | refine hsL0 _ _ ?_)) (hP11.sub (by (repeat (first | exact sub_refl _ | assumption | refine sub_upd' ?_ (by ((repeat refine (upd_other _ _ (by omega)).trans ?_); first | exact hf _ (by omega) | exact hfL0 _ (by omega))) | refine sub_trans ?_ hsL0 | refine sub_over (by assumption) | refine sub_over0 ?_ | refine sub_trans (sub_same (by assumption)) ?_ | refine sub_dropu ?_ | refine sub_drop ?_ | refine sub_put ?_ (by repeat (first | assumption | exact upd_same _ _ _ | refine (upd_other _ _ (by omega)).trans ?_ | refine hsL0 _ _ ?_)))))) (slcCells_sub (by (repeat (first | exact sub_refl _ | assumption | refine sub_upd' ?_ (by ((repeat refine (upd_other _ _ (by omega)).trans ?_); first | exact hf _ (by omega) | exact hfL0 _ (by omega))) | refine sub_trans ?_ hsL0 | refine sub_over (by assumption) | refine sub_over0 ?_ | refine sub_trans (sub_same (by assumption)) ?_ | refine sub_dropu ?_ | refine sub_drop ?_ | refine sub_put ?_ (by repeat (first | assumption | exact upd_same _ _ _ | refine (upd_other _ _ (by omega)).trans ?_ | refine hsL0 _ _ ?_))))) hR.cells) hrl (Nat.lt_succ_self _)) (fun _ _ _ h => h)) ?_
      refine Draw.step [(82, some 2), (85, some 5)] rfl (by kernel_rfl) rfl (fun kq hkq => AOp.bin' rfl rfl rfl rfl ⟨rfl, rfl, Nat.le_refl _⟩) ?_
      refine Draw.step [(86, some 6)] rfl (by kernel_rfl) rfl (fun kq hkq => AOp.move' (.inl rfl) rfl ⟨rfl, rfl, Nat.le_refl _⟩) ?_
      refine Draw.gd [(13, none), (87, some 7)] rfl (by kernel_rfl) (wantT rfl rfl rfl) (fun kq hkq hc => AOp.slots [(13, _)] (.cons rfl .nil) ((by refine AOp.loadAll (b := ?b8) (v := pv 8 (x : Int) A2 2 c2 none 0 0) rfl rfl ?hn8 ?hv8 ?hw8 ?hz8 ?hR8; (case hn8 => repeat (first | assumption | exact upd_same _ _ _ | refine (upd_other _ _ (by omega)).trans ?_ | refine hsL0 _ _ ?_)); (case hv8 => rfl); (case hw8 => rfl); (case hz8 => first | rfl | (simp; done)); exact ⟨rfl, rfl, Nat.le_refl _⟩))) ?_
      refine Draw.gd [(2, none), (87, some 7)] rfl (by kernel_rfl) (wantT rfl rfl rfl) (fun kq hkq hc => AOp.slots [(2, _)] (.cons rfl .nil) (AOp.move' (.inl rfl) rfl ⟨rfl, rfl, Nat.le_refl _⟩)) ?_
      refine Draw.gd [(88, some 8), (89, some 9), (87, some 7)] rfl (by kernel_rfl) (wantT rfl rfl rfl) (fun kq hkq hc => AOp.slots [(88, _), (89, _)] (.cons (gvT rfl hc) (.cons (gvT rfl hc) .nil)) (AOp.call' rfl rfl rfl (eval_c (SizeOf.sizeOf (Pd.mk ((8 : Nat) : Int) (x : Int) [vals.getD 0 vD, vals.getD 1 vD] []) + 1) (Pd.mk ((8 : Nat) : Int) (x : Int) [vals.getD 0 vD, vals.getD 1 vD] []) _ row R rc _ _ (by repeat (first | assumption | exact upd_same _ _ _ | refine (upd_other _ _ (by omega)).trans ?_ | refine hsL0 _ _ ?_)) ((PdV.intro (vals := [vals.getD 0 vD, vals.getD 1 vD]) (of := []) g2.cells (by show 2 ≤ 9223372036854775807; decide) (by decide) (by decide) (by omega) ho2 SLC.nil PdVs.nil : PdV H (Pd.mk ((8 : Nat) : Int) (x : Int) [vals.getD 0 vD, vals.getD 1 vD] []) (pv 8 (x : Int) A2 2 c2 none 0 0)).sub (by (repeat (first | exact sub_refl _ | assumption | refine sub_upd' ?_ (by ((repeat refine (upd_other _ _ (by omega)).trans ?_); first | exact hf _ (by omega) | exact hfL0 _ (by omega))) | refine sub_trans ?_ hsL0 | refine sub_over (by assumption) | refine sub_over0 ?_ | refine sub_trans (sub_same (by assumption)) ?_ | refine sub_dropu ?_ | refine sub_drop ?_ | refine sub_put ?_ (by repeat (first | assumption | exact upd_same _ _ _ | refine (upd_other _ _ (by omega)).trans ?_ | refine hsL0 _ _ ?_)))))) (slcCells_sub (by (repeat (first | exact sub_refl _ | assumption | refine sub_upd' ?_ (by ((repeat refine (upd_other _ _ (by omega)).trans ?_); first | exact hf _ (by omega) | exact hfL0 _ (by omega))) | refine sub_trans ?_ hsL0 | refine sub_over (by assumption) | refine sub_over0 ?_ | refine sub_trans (sub_same (by assumption)) ?_ | refine sub_dropu ?_ | refine sub_drop ?_ | refine sub_put ?_ (by repeat (first | assumption | exact upd_same _ _ _ | refine (upd_other _ _ (by omega)).trans ?_ | refine hsL0 _ _ ?_))))) hR.cells) hrl (Nat.lt_succ_self _)) (fun _ _ _ h => h))) ?_
      refine Draw.gd [(14, none), (87, some 7)] rfl (by kernel_rfl) (wantT rfl rfl rfl) (fun kq hkq hc => AOp.slots [(14, _)] (.cons rfl .nil) ((by refine AOp.loadAll (b := ?b9) (v := ?v9) rfl rfl ?hn9 ?hv9 ?hw9 ?hz9 ?hR9; (case hn9 => repeat (first | assumption | exact upd_same _ _ _ | refine (upd_other _ _ (by omega)).trans ?_ | refine hsL0 _ _ ?_)); (case hv9 => rfl); (case hw9 => rfl); (case hz9 => first | rfl | (simp; done)); exact ⟨rfl, rfl, Nat.le_refl _⟩))) ?_
      refine Draw.gd [(2, none), (87, some 7)] rfl (by kernel_rfl) (wantT rfl rfl rfl) (fun kq hkq hc => AOp.slots [(2, _)] (.cons rfl .nil) (AOp.move' (.inl rfl) rfl ⟨rfl, rfl, Nat.le_refl _⟩)) ?_
      refine Draw.gd [(91, some 11), (92, some 12), (87, some 7)] rfl (by kernel_rfl) (wantT rfl rfl rfl) (fun kq hkq hc => AOp.slots [(91, _), (92, _)] (.cons (gvT rfl hc) (.cons (gvT rfl hc) .nil)) (AOp.call' rfl rfl rfl (eval_c (SizeOf.sizeOf (Pd.mk 10 0 [] [Pd.mk ((6 : Nat) : Int) (x : Int) [vals.getD 0 vD] [], Pd.mk ((4 : Nat) : Int) (x : Int) [vals.getD 1 vD] []]) + 1) (Pd.mk 10 0 [] [Pd.mk ((6 : Nat) : Int) (x : Int) [vals.getD 0 vD] [], Pd.mk ((4 : Nat) : Int) (x : Int) [vals.getD 1 vD] []]) _ row R rc _ _ (by repeat (first | assumption | exact upd_same _ _ _ | refine (upd_other _ _ (by omega)).trans ?_ | refine hsL0 _ _ ?_)) (PdV.intro (vals := []) (bs := [.int .i64 6, .int .i64 (x : Int), .slice A3 1 c3, .slice none 0 0, .int .i64 4, .int .i64 (x : Int), .slice A4 1 c4, .slice none 0 0]) rfl (by decide) (by show 2 ≤ 9223372036854775807; decide) (by decide) (by decide) (by intro v hv; cases hv) (SLC.grow (n := _) (l := 2) (b := gpk [.int .i64 6, .int .i64 (x : Int), .slice A3 1 c3, .slice none 0 0, .int .i64 4, .int .i64 (x : Int), .slice A4 1 c4, .slice none 0 0]) (by repeat (first | assumption | exact upd_same _ _ _ | refine (upd_other _ _ (by omega)).trans ?_ | refine hsL0 _ _ ?_)) rfl rfl) (PdVs.cons (v := pv 6 (x : Int) A3 1 c3 none 0 0) ((PdV.intro (vals := [vals.getD 0 vD]) (of := []) g3.cells (by show 1 ≤ 9223372036854775807; decide) (by decide) (by decide) (by omega) ho3 SLC.nil PdVs.nil).sub (by (repeat (first | exact sub_refl _ | assumption | refine sub_upd' ?_ (by ((repeat refine (upd_other _ _ (by omega)).trans ?_); first | exact hf _ (by omega) | exact hfL0 _ (by omega))) | refine sub_trans ?_ hsL0 | refine sub_over (by assumption) | refine sub_over0 ?_ | refine sub_trans (sub_same (by assumption)) ?_ | refine sub_dropu ?_ | refine sub_drop ?_ | refine sub_put ?_ (by repeat (first | assumption | exact upd_same _ _ _ | refine (upd_other _ _ (by omega)).trans ?_ | refine hsL0 _ _ ?_)))))) (PdVs.cons (v := pv 4 (x : Int) A4 1 c4 none 0 0) (r := []) ((PdV.intro (vals := [vals.getD 1 vD]) (of := []) g4.cells (by show 1 ≤ 9223372036854775807; decide) (by decide) (by decide) (by omega) ho4 SLC.nil PdVs.nil).sub (by (repeat (first | exact sub_refl _ | assumption | refine sub_upd' ?_ (by ((repeat refine (upd_other _ _ (by omega)).trans ?_); first | exact hf _ (by omega) | exact hfL0 _ (by omega))) | refine sub_trans ?_ hsL0 | refine sub_over (by assumption) | refine sub_over0 ?_ | refine sub_trans (sub_same (by assumption)) ?_ | refine sub_dropu ?_ | refine sub_drop ?_ | refine sub_put ?_ (by repeat (first | assumption | exact upd_same _ _ _ | refine (upd_other _ _ (by omega)).trans ?_ | refine hsL0 _ _ ?_)))))) PdVs.nil))) (slcCells_sub (by (repeat (first | exact sub_refl _ | assumption | refine sub_upd' ?_ (by ((repeat refine (upd_other _ _ (by omega)).trans ?_); first | exact hf _ (by omega) | exact hfL0 _ (by omega))) | refine sub_trans ?_ hsL0 | refine sub_over (by assumption) | refine sub_over0 ?_ | refine sub_trans (sub_same (by assumption)) ?_ | refine sub_dropu ?_ | refine sub_drop ?_ | refine sub_put ?_ (by repeat (first | assumption | exact upd_same _ _ _ | refine (upd_other _ _ (by omega)).trans ?_ | refine hsL0 _ _ ?_))))) hR.cells) hrl (Nat.lt_succ_self _)) (fun _ _ _ h => h))) ?_
      refine Draw.gd [(90, some 10), (93, some 13), (87, some 7)] rfl (by kernel_rfl) (wantT rfl rfl rfl) (fun kq hkq hc => AOp.slots [(90, _), (93, _)] (.cons (gvT rfl hc) (.cons (gvT rfl hc) .nil)) (AOp.bin' rfl rfl rfl rfl ⟨rfl, rfl, Nat.le_refl _⟩)) ?_
      refine Draw.step [(87, some 7), (94, some 14)] rfl (by kernel_rfl) rfl (fun kq hkq => AOp.pickAnd rfl rfl rfl (fun hb => gvE rfl hb) ⟨rfl, rfl, Nat.le_refl _⟩) ?_
      refine Draw.step [(95, some 15)] rfl (by kernel_rfl) rfl (fun kq hkq => AOp.move' (.inl rfl) rfl ⟨rfl, rfl, Nat.le_refl _⟩) ?_
      refine Draw.gd [(96, some 16)] rfl (by kernel_rfl) (wantT rfl rfl rfl) (fun kq hkq hc => AOp.slots [] .nil (AOp.call' rfl rfl rfl (awake16 _ _ (by repeat (first | assumption | exact upd_same _ _ _ | refine (upd_other _ _ (by omega)).trans ?_ | refine hsL0 _ _ ?_))) (fun _ _ _ h => h))) ?_
      refine Draw.step [(96, some 16), (97, some 17)] rfl (by kernel_rfl) rfl (fun kq hkq => AOp.pickAnd rfl rfl rfl (fun hb => gvE rfl hb) ⟨rfl, rfl, Nat.le_refl _⟩) ?_
      refine Draw.step [(98, some 18)] rfl (by kernel_rfl) rfl (fun kq hkq => AOp.move' (.inr rfl) rfl ⟨rfl, rfl, Nat.le_refl _⟩) ?_
      refine Draw.done fun kq hkq => ?_
      show aOps _ _ _ _ [] ⟨_, _, _⟩
      refine aOps_end ?_
      show ACode _ _ _ _ _ _
      refine ACode.ret ?_
      exact RetQ.one rfl rfl (by (repeat (first | exact sub_refl _ | assumption | refine sub_upd' ?_ (by ((repeat refine (upd_other _ _ (by omega)).trans ?_); first | exact hf _ (by omega) | exact hfL0 _ (by omega))) | refine sub_trans ?_ hsL0 | refine sub_over (by assumption) | refine sub_over0 ?_ | refine sub_trans (sub_same (by assumption)) ?_ | refine sub_dropu ?_ | refine sub_drop ?_ | refine sub_put ?_ (by repeat (first | assumption | exact upd_same _ _ _ | refine (upd_other _ _ (by omega)).trans ?_ | refine hsL0 _ _ ?_))))) stays (fun hk => ⟨(by rw [in_or hxr (by omega) (by omega), between_and _ _ hxr]; simp), rfl, by omega⟩)
end

end Go.Proofs.YtnciojaecelhmaaDoor
