/- Contracts over the abstract states: the statement on roots and paths. -/
import Derived.Test.YtlbcgadmcjobiaaDoorS21
set_option linter.unusedVariables false
set_option linter.unusedSimpArgs false
set_option maxRecDepth 100000
namespace Go.Proofs.YtlbcgadmcjobiaaDoor
open Go Go.Ab

section
variable (H : Hp) (k : Nat)

theorem treeRoots_in2 (ht : H 0 = some tabBlk) (ls : List (List UInt8)) (vs : List Value) (A : Option Addr) (c : Nat) (hs : SLC H 1 A vs.length c vs) (hL : Lvs H vs ls) (hl : vs.length ≤ 9223372036854775807) (a : Nat) (n : Int) (hn1 : -9223372036854775808 ≤ n) (hn2 : n ≤ 9223372036854775807) (hin : a < vs.length) (h2v : 2 ≤ vs.length) : ACalls Tryd.prog 1 9 [.slice A vs.length c, .int .i64 (a : Int), .int .i64 n] H k (Same H k (.bool true)) := by
  refine ACalls.fresh fun hf => ?_
  refine ACalls.body Tryd.func9 rfl (Nat.le_of_ble_eq_true rfl) ?_
  have h0k := old_lt hf ht
  have hvl := hL.len
  refine ACode.seq ?_
  refine ACode.region' [0] (by kernel_rfl) rfl ?_
  refine aOps_1 rfl rfl rfl (AOp.move' (.inr rfl) rfl ?_)
  refine aOps_end ?_
  show ACode _ _ _ _ _ _
  refine ACode.seq ?_
  refine ACode.seq ?_
  refine ACode.region' [0, 1, 2, 3, 4, 5] (by kernel_rfl) rfl ?_
  refine aOps_1 rfl rfl rfl (AOp.move' (.inl rfl) rfl ?_)
  refine aOps_q rfl rfl rfl (AOp.call' rfl rfl rfl (great_l _ _ ls vs A c (hs.sub (by (repeat (first | exact sub_refl _ | assumption | refine sub_upd' ?_ (by ((repeat refine (upd_other _ _ (by omega)).trans ?_); first | exact hf _ (by omega))) | refine sub_over (by assumption) | refine sub_over0 ?_ | refine sub_trans (sub_same (by assumption)) ?_ | refine sub_dropu ?_ | refine sub_drop ?_ | refine sub_put ?_ (by repeat (first | assumption | exact upd_same _ _ _ | refine (upd_other _ _ (by omega)).trans ?_)))))) (hL.sub (by (repeat (first | exact sub_refl _ | assumption | refine sub_upd' ?_ (by ((repeat refine (upd_other _ _ (by omega)).trans ?_); first | exact hf _ (by omega))) | refine sub_over (by assumption) | refine sub_over0 ?_ | refine sub_trans (sub_same (by assumption)) ?_ | refine sub_dropu ?_ | refine sub_drop ?_ | refine sub_put ?_ (by repeat (first | assumption | exact upd_same _ _ _ | refine (upd_other _ _ (by omega)).trans ?_)))))) (by omega) 30 60) (fun _ _ _ h => h)) (fun kq hkq => ?_)
  refine aOps_1 rfl rfl rfl (AOp.move' (.inl rfl) rfl ?_)
  refine aOps_gd0 rfl rfl (wantF rfl rfl rfl) (fun hc => AOp.slots [(2, _)] (.cons rfl .nil) (AOp.move' (.inl rfl) rfl ⟨rfl, rfl, rfl⟩)) ?_
  refine aOps_gd0 rfl rfl (wantF rfl rfl rfl) (fun hc => AOp.slots [(13, _)] (.cons (gvT rfl hc) .nil) (AOp.bin' rfl rfl rfl rfl ⟨rfl, rfl, rfl⟩)) ?_
  refine aOps_1 rfl rfl rfl (AOp.pickOr rfl rfl rfl (fun hb => gvE rfl (t_not hb)) ?_)
  refine aOps_end ?_
  show ACode _ _ _ _ _ _
  refine ACode.cond rfl (fun c0 => ?_) (fun c0 => ?_)
  · try simp only [decide_eq_true_eq, decide_eq_false_iff_not, beq_iff_eq, beq_eq_false_iff_ne, ne_eq, bne_iff_ne, Bool.not_eq_true', Bool.not_eq_false', Int.not_lt, Int.not_le, gt_iff_lt, ge_iff_le, bne_eq_false_iff_eq, Bool.not_eq_eq_eq_not, Bool.not_true, Bool.not_false] at c0
    simp only [Bool.or_eq_true, decide_eq_true_eq] at c0
    refine ACode.seq ?_
    refine ACode.region' [0, 1] (by kernel_rfl) rfl ?_
    refine aOps_q rfl rfl rfl (AOp.call' rfl rfl rfl (awake19 _ _ (by repeat (first | assumption | exact upd_same _ _ _ | refine (upd_other _ _ (by omega)).trans ?_))) (fun _ _ _ h => h)) (fun kq hkq => ?_)
    refine aOps_1 rfl rfl rfl (AOp.move' (.inr rfl) rfl ?_)
    refine aOps_end ?_
    show ACode _ _ _ _ _ _
    refine ACode.ret ?_
    exact RetQ.one rfl rfl (by (repeat (first | exact sub_refl _ | assumption | refine sub_upd' ?_ (by ((repeat refine (upd_other _ _ (by omega)).trans ?_); first | exact hf _ (by omega))) | refine sub_over (by assumption) | refine sub_over0 ?_ | refine sub_trans (sub_same (by assumption)) ?_ | refine sub_dropu ?_ | refine sub_drop ?_ | refine sub_put ?_ (by repeat (first | assumption | exact upd_same _ _ _ | refine (upd_other _ _ (by omega)).trans ?_))))) stays (fun hk => ⟨rfl, rfl, by omega⟩)
  · try simp only [decide_eq_true_eq, decide_eq_false_iff_not, beq_iff_eq, beq_eq_false_iff_ne, ne_eq, bne_iff_ne, Bool.not_eq_true', Bool.not_eq_false', Int.not_lt, Int.not_le, gt_iff_lt, ge_iff_le, bne_eq_false_iff_eq, Bool.not_eq_eq_eq_not, Bool.not_true, Bool.not_false] at c0
    simp only [Bool.or_eq_false_iff, decide_eq_false_iff_not] at c0
    obtain ⟨g1, g2⟩ := c0
    obtain ⟨g4, g5⟩ := greatL_of g1
    have hb : ∀ x ∈ ls, x.length ≤ 549755813000 := fun x hx => Nat.le_trans (g5 x hx) (by decide)
    refine ACode.skip ?_
    show ACode _ _ _ _ _ _
    refine ACode.seq ?_
    refine ACode.region' [0, 1, 2, 3, 4, 5, 6, 7] (by kernel_rfl) rfl ?_
    refine aOps_1 rfl rfl rfl (AOp.move' (.inl rfl) rfl ?_)
    refine aOps_1 rfl rfl rfl (AOp.move' (.inl rfl) rfl ?_)
    refine aOps_1 rfl rfl rfl ?_
    refine AOp.call' rfl rfl rfl (path_b (vs.length + 1) ls vs A c (a : Int) _ _ (by repeat (first | assumption | exact upd_same _ _ _ | refine (upd_other _ _ (by omega)).trans ?_)) (hs.sub (by (repeat (first | exact sub_refl _ | assumption | refine sub_upd' ?_ (by ((repeat refine (upd_other _ _ (by omega)).trans ?_); first | exact hf _ (by omega))) | refine sub_over (by assumption) | refine sub_over0 ?_ | refine sub_trans (sub_same (by assumption)) ?_ | refine sub_dropu ?_ | refine sub_drop ?_ | refine sub_put ?_ (by repeat (first | assumption | exact upd_same _ _ _ | refine (upd_other _ _ (by omega)).trans ?_)))))) (hL.sub (by (repeat (first | exact sub_refl _ | assumption | refine sub_upd' ?_ (by ((repeat refine (upd_other _ _ (by omega)).trans ?_); first | exact hf _ (by omega))) | refine sub_over (by assumption) | refine sub_over0 ?_ | refine sub_trans (sub_same (by assumption)) ?_ | refine sub_dropu ?_ | refine sub_drop ?_ | refine sub_put ?_ (by repeat (first | assumption | exact upd_same _ _ _ | refine (upd_other _ _ (by omega)).trans ?_)))))) (by omega) hb (by omega) (by omega) (by omega)) ?_
    rintro _ _ kq0 ⟨q, hq1, hq2, rfl, rfl⟩
    refine aOps_1 rfl rfl rfl (AOp.move' (.inl rfl) rfl ?_)
    refine aOps_1 rfl rfl rfl (AOp.extract' rfl rfl rfl ?_)
    refine aOps_1 rfl rfl rfl (AOp.extract' rfl rfl rfl ?_)
    refine aOps_1 rfl rfl rfl (AOp.move' (.inr rfl) rfl ?_)
    refine aOps_1 rfl rfl rfl (AOp.move' (.inr rfl) rfl ?_)
    refine aOps_end ?_
    show ACode _ _ _ _ _ _
    refine ACode.seq ?_
    refine ACode.region' [0, 1, 2, 3, 4, 5, 6, 7, 8] (by kernel_rfl) rfl ?_
    refine aOps_1 rfl rfl rfl (AOp.move' (.inl rfl) rfl ?_)
    refine aOps_1 rfl rfl rfl (AOp.bin' rfl rfl rfl rfl ?_)
    refine aOps_1 rfl rfl rfl (AOp.move' (.inl rfl) rfl ?_)
    refine aOps_gd0 rfl rfl (wantT rfl rfl rfl) (fun hc => AOp.slots [(1, _)] (.cons rfl .nil) (AOp.move' (.inl rfl) rfl ⟨rfl, rfl, rfl⟩)) ?_
    refine aOps_gd0 rfl rfl (wantT rfl rfl rfl) (fun hc => AOp.slots [(0, _)] (.cons rfl .nil) (AOp.move' (.inl rfl) rfl ⟨rfl, rfl, rfl⟩)) ?_
    refine aOps_gd0 rfl rfl (wantT rfl rfl rfl) (fun hc => AOp.slots [(27, _)] (.cons (gvT rfl hc) .nil) (AOp.len' rfl rfl ⟨rfl, rfl, rfl⟩)) ?_
    refine aOps_gd0 rfl rfl (wantT rfl rfl rfl) (fun hc => AOp.slots [(26, _), (28, _)] (.cons (gvT rfl hc) (.cons (gvT rfl hc) .nil)) (AOp.bin' rfl rfl rfl rfl ⟨rfl, rfl, rfl⟩)) ?_
    refine aOps_1 rfl rfl rfl (AOp.pickAnd rfl rfl rfl (fun hb => gvE rfl hb) ?_)
    refine aOps_1 rfl rfl rfl (AOp.move' (.inr rfl) rfl ?_)
    refine aOps_end ?_
    show ACode _ _ _ _ _ _
    refine ACode.seq ?_
    refine ACode.seq ?_
    have g8 : (decide ((a : Int) ≥ 0) && decide ((a : Int) < (vs.length : Int))) = true := by simp; omega
    rw [g8, inZ_yes (n := vs.length) (i := a) (by omega)]
    have hpl : (pathZ ls (a : Int)).length ≤ ls.length := by rw [pathZ_nat (by omega)]; exact pathT_le _ _
    refine ACode.region' [0, 1, 2, 3, 4, 5, 6, 7, 8, 9, 10, 11, 12, 13, 14, 15, 16, 17, 18, 19, 20, 21, 22, 23, 24, 25, 26, 27, 28, 29, 30, 31, 32, 33, 34, 35, 36, 37, 38, 39, 40, 41, 42, 43, 44, 45] (by kernel_rfl) rfl ?_
    refine aOps_1 rfl rfl rfl (AOp.move' (.inl rfl) rfl ?_)
    refine aOps_1 rfl rfl rfl (AOp.move' (.inl rfl) rfl ?_)
    refine aOps_1 rfl rfl rfl (AOp.neBool rfl rfl rfl ?_)
    refine aOps_1 rfl rfl rfl (AOp.move' (.inl rfl) rfl ?_)
    refine aOps_w rfl rfl rfl (AOp.move' (.inl rfl) rfl ?_)
    refine aOps_w rfl rfl rfl (AOp.move' (.inl rfl) rfl ?_)
    refine aOps_w rfl rfl rfl (AOp.move' (.inl rfl) rfl ?_)
    refine aOps_w rfl rfl rfl (AOp.move' (.inl rfl) rfl ?_)
    refine aOps_w rfl rfl rfl (AOp.move' (.inl rfl) rfl ?_)
    refine aOps_w rfl rfl rfl ?_
    refine AOp.call' rfl rfl rfl (refpath_b (vs.length + 1) ls vs A c a _ _ (by repeat (first | assumption | exact upd_same _ _ _ | refine (upd_other _ _ (by omega)).trans ?_)) (hs.sub (by (repeat (first | exact sub_refl _ | assumption | refine sub_upd' ?_ (by ((repeat refine (upd_other _ _ (by omega)).trans ?_); first | exact hf _ (by omega))) | refine sub_over (by assumption) | refine sub_over0 ?_ | refine sub_trans (sub_same (by assumption)) ?_ | refine sub_dropu ?_ | refine sub_drop ?_ | refine sub_put ?_ (by repeat (first | assumption | exact upd_same _ _ _ | refine (upd_other _ _ (by omega)).trans ?_)))))) (hL.sub (by (repeat (first | exact sub_refl _ | assumption | refine sub_upd' ?_ (by ((repeat refine (upd_other _ _ (by omega)).trans ?_); first | exact hf _ (by omega))) | refine sub_over (by assumption) | refine sub_over0 ?_ | refine sub_trans (sub_same (by assumption)) ?_ | refine sub_dropu ?_ | refine sub_drop ?_ | refine sub_put ?_ (by repeat (first | assumption | exact upd_same _ _ _ | refine (upd_other _ _ (by omega)).trans ?_)))))) (by omega) hb (by omega) (by omega)) ?_
    rintro _ _ kq1 ⟨q2, hq3, hq4, rfl, rfl⟩
    refine aOps_wq rfl rfl rfl (AOp.call' rfl rfl rfl (sameH_b _ _ (pathZ ls (a : Int)) (pathZ ls (a : Int)) (some ⟨q, 0, some 1⟩) (some ⟨q2, 0, some 1⟩) _ _ (SLC.pbk (n := q) (e := 24) (by repeat (first | assumption | exact upd_same _ _ _ | refine (upd_other _ _ (by omega)).trans ?_))) (SLC.pbk (n := q2) (e := 24) (by repeat (first | assumption | exact upd_same _ _ _ | refine (upd_other _ _ (by omega)).trans ?_))) (by omega)) (fun _ _ _ h => h)) (fun kq hkq => ?_)
    rw [show decide (pathZ ls (a : Int) = pathZ ls (a : Int)) = true from decide_eq_true rfl]
    refine aOps_w rfl rfl rfl (AOp.un' rfl rfl rfl ?_)
    refine aOps_w rfl rfl rfl (AOp.pickAnd rfl rfl rfl (fun _ => rfl) ?_)
    refine aOps_1 rfl rfl rfl (AOp.pickOr rfl rfl rfl (fun hb => gvE rfl (t_not hb)) ?_)
    refine aOps_1 rfl rfl rfl (AOp.move' (.inl rfl) rfl ?_)
    refine aOps_w rfl rfl rfl (AOp.move' (.inl rfl) rfl ?_)
    refine aOps_w rfl rfl rfl (AOp.un' rfl rfl rfl ?_)
    refine aOps_w rfl rfl rfl (AOp.move' (.inl rfl) rfl ?_)
    refine aOps_wno rfl rfl rfl ?_
    refine aOps_wno rfl rfl rfl ?_
    refine aOps_wno rfl rfl rfl ?_
    refine aOps_w rfl rfl rfl (AOp.pickAnd (b' := false) rfl rfl rfl (fun h => absurd h (by decide)) ?_)
    refine aOps_1 rfl rfl rfl (AOp.pickOr rfl rfl rfl (fun hb => gvE rfl (t_not hb)) ?_)
    refine aOps_1 rfl rfl rfl (AOp.move' (.inl rfl) rfl ?_)
    refine aOps_w rfl rfl rfl (AOp.move' (.inl rfl) rfl ?_)
    refine aOps_wq rfl rfl rfl (AOp.call' rfl rfl rfl (root_b (vs.length + 1) ls vs A c _ _ (by repeat (first | assumption | exact upd_same _ _ _ | refine (upd_other _ _ (by omega)).trans ?_)) (hs.sub (by (repeat (first | exact sub_refl _ | assumption | refine sub_upd' ?_ (by ((repeat refine (upd_other _ _ (by omega)).trans ?_); first | exact hf _ (by omega))) | refine sub_over (by assumption) | refine sub_over0 ?_ | refine sub_trans (sub_same (by assumption)) ?_ | refine sub_dropu ?_ | refine sub_drop ?_ | refine sub_put ?_ (by repeat (first | assumption | exact upd_same _ _ _ | refine (upd_other _ _ (by omega)).trans ?_)))))) (hL.sub (by (repeat (first | exact sub_refl _ | assumption | refine sub_upd' ?_ (by ((repeat refine (upd_other _ _ (by omega)).trans ?_); first | exact hf _ (by omega))) | refine sub_over (by assumption) | refine sub_over0 ?_ | refine sub_trans (sub_same (by assumption)) ?_ | refine sub_dropu ?_ | refine sub_drop ?_ | refine sub_put ?_ (by repeat (first | assumption | exact upd_same _ _ _ | refine (upd_other _ _ (by omega)).trans ?_)))))) (by omega) hb (by omega)) (fun _ _ _ h => h)) (fun kq hkq => ?_)
    refine aOps_w rfl rfl rfl (AOp.move' (.inl rfl) rfl ?_)
    refine aOps_wq rfl rfl rfl (AOp.call' rfl rfl rfl (refroot_b (vs.length + 1) ls vs A c _ _ (by repeat (first | assumption | exact upd_same _ _ _ | refine (upd_other _ _ (by omega)).trans ?_)) (hs.sub (by (repeat (first | exact sub_refl _ | assumption | refine sub_upd' ?_ (by ((repeat refine (upd_other _ _ (by omega)).trans ?_); first | exact hf _ (by omega))) | refine sub_over (by assumption) | refine sub_over0 ?_ | refine sub_trans (sub_same (by assumption)) ?_ | refine sub_dropu ?_ | refine sub_drop ?_ | refine sub_put ?_ (by repeat (first | assumption | exact upd_same _ _ _ | refine (upd_other _ _ (by omega)).trans ?_)))))) (hL.sub (by (repeat (first | exact sub_refl _ | assumption | refine sub_upd' ?_ (by ((repeat refine (upd_other _ _ (by omega)).trans ?_); first | exact hf _ (by omega))) | refine sub_over (by assumption) | refine sub_over0 ?_ | refine sub_trans (sub_same (by assumption)) ?_ | refine sub_dropu ?_ | refine sub_drop ?_ | refine sub_put ?_ (by repeat (first | assumption | exact upd_same _ _ _ | refine (upd_other _ _ (by omega)).trans ?_)))))) (by omega) hb (by omega)) (fun _ _ _ h => h)) (fun kq hkq => ?_)
    refine aOps_w rfl rfl rfl (AOp.neAgg (decide (root ls = root ls)) rfl rfl rfl (hv_sc _) (hv_sc _) (hv_iff _ _) ?_)
    rw [show decide (root ls = root ls) = true from decide_eq_true rfl]
    refine aOps_1 rfl rfl rfl (AOp.pickOr rfl rfl rfl (fun hb => gvE rfl (t_not hb)) ?_)
    refine aOps_1 rfl rfl rfl (AOp.move' (.inl rfl) rfl ?_)
    refine aOps_w rfl rfl rfl (AOp.move' (.inl rfl) rfl ?_)
    refine aOps_wq rfl rfl rfl (AOp.call' rfl rfl rfl (split_z _ _ n hn1 hn2) (fun _ _ _ h => h)) (fun kq hkq => ?_)
    refine aOps_w rfl rfl rfl (AOp.move' (.inl rfl) rfl ?_)
    refine aOps_wq rfl rfl rfl (AOp.call' rfl rfl rfl (refsplit_z _ _ n hn1 (by omega)) (fun _ _ _ h => h)) (fun kq hkq => ?_)
    refine aOps_w rfl rfl rfl (AOp.bin' rfl rfl rfl rfl ?_)
    rw [show (spZ n != spZ n) = false by simp]
    refine aOps_1 rfl rfl rfl (AOp.pickOr rfl rfl rfl (fun hb => gvE rfl (t_not hb)) ?_)
    refine aOps_1 rfl rfl rfl (AOp.move' (.inl rfl) rfl ?_)
    refine aOps_w rfl rfl rfl (AOp.move' (.inl rfl) rfl ?_)
    refine aOps_w rfl rfl rfl (AOp.move' (.inl rfl) rfl ?_)
    refine aOps_wq rfl rfl rfl (AOp.call' rfl rfl rfl (depth_z _ _ (a : Int) n (by omega) (by omega) hn1 hn2) (fun _ _ _ h => h)) (fun kq hkq => ?_)
    refine aOps_w rfl rfl rfl (AOp.move' (.inl rfl) rfl ?_)
    refine aOps_w rfl rfl rfl (AOp.move' (.inl rfl) rfl ?_)
    refine aOps_wq rfl rfl rfl (AOp.call' rfl rfl rfl (refdepth_z (n.toNat + 1) (a : Int) n _ _ (by omega) (by omega) hn1 (by omega) (by omega)) (fun _ _ _ h => h)) (fun kq hkq => ?_)
    refine aOps_w rfl rfl rfl (AOp.bin' rfl rfl rfl rfl ?_)
    rw [show (depthZ (a : Int) n != depthZ (a : Int) n) = false by simp]
    refine aOps_1 rfl rfl rfl (AOp.pickOr rfl rfl rfl (fun hb => gvE rfl (t_not hb)) ?_)
    refine aOps_end ?_
    show ACode _ _ _ _ _ _
    refine ACode.cond rfl (fun c1 => absurd c1 (by simp)) (fun c1 => ?_)
    refine ACode.skip ?_
    show ACode _ _ _ _ _ _
    refine ACode.seq ?_
    obtain ⟨A0, d0, e0, hc0⟩ := hL.at_ 0 (by omega)
    obtain ⟨A1, d1, e1, hc1⟩ := hL.at_ 1 (by omega)
    have hm0 : ls.getD 0 [] ∈ ls := by rw [getD_el (by omega)]; exact List.getElem_mem _
    have hm1 : ls.getD 1 [] ∈ ls := by rw [getD_el (by omega)]; exact List.getElem_mem _
    obtain ⟨n7_5, o7_5, s7_5, hq7_5, hp7_5⟩ := e0 ▸ slcElV hs.cells (show 0 < vs.length by omega)
    obtain ⟨n7_9, o7_9, s7_9, hq7_9, hp7_9⟩ := e1 ▸ slcElV hs.cells (show 1 < vs.length by omega)
    obtain ⟨n7_14, o7_14, s7_14, hq7_14, hp7_14⟩ := e0 ▸ slcElV hs.cells (show 0 < vs.length by omega)
    obtain ⟨n7_18, o7_18, s7_18, hq7_18, hp7_18⟩ := e1 ▸ slcElV hs.cells (show 1 < vs.length by omega)
    refine ACode.draw' 28 [(0, 77), (1, 78), (2, 79), (3, 80), (4, 81), (5, 82), (6, 83), (7, 84), (8, 85), (9, 86), (10, 87), (11, 88), (12, 89), (13, 90), (14, 91), (15, 92), (16, 93), (17, 94), (18, 95), (19, 96), (20, 97), (21, 98), (22, 99), (23, 100), (24, 101), (25, 102), (26, 103), (27, 6)] mixed (by kernel_rfl) ?_
    refine Draw.step [(0, none)] rfl (by kernel_rfl) rfl (fun kq hkq => AOp.move' (.inl rfl) rfl ⟨rfl, rfl, Nat.le_refl _⟩) ?_
    refine Draw.step [(77, some 0)] rfl (by kernel_rfl) rfl (fun kq hkq => AOp.len' rfl rfl ⟨rfl, rfl, Nat.le_refl _⟩) ?_
    refine Draw.step [(78, some 1)] rfl (by kernel_rfl) rfl (fun kq hkq => AOp.bin' rfl rfl rfl rfl ⟨rfl, rfl, Nat.le_refl _⟩) ?_
    refine Draw.step [(79, some 2)] rfl (by kernel_rfl) rfl (fun kq hkq => AOp.move' (.inl rfl) rfl ⟨rfl, rfl, Nat.le_refl _⟩) ?_
    refine Draw.gd [(0, none), (80, some 3)] rfl (by kernel_rfl) (wantF rfl rfl rfl) (fun kq hkq hc => AOp.slots [(0, _)] (.cons rfl .nil) (AOp.move' (.inl rfl) rfl ⟨rfl, rfl, Nat.le_refl _⟩)) ?_
    refine Draw.gd [(81, some 4), (80, some 3)] rfl (by kernel_rfl) (wantF rfl rfl rfl) (fun kq hkq hc => AOp.slots [(81, _)] (.cons (gvT rfl hc) .nil) (AOp.indexP (aslcAt_sub (by (repeat (first | exact sub_refl _ | assumption | refine sub_upd' ?_ (by ((repeat refine (upd_other _ _ (by omega)).trans ?_); first | exact hf _ (by omega))) | refine sub_over (by assumption) | refine sub_over0 ?_ | refine sub_trans (sub_same (by assumption)) ?_ | refine sub_dropu ?_ | refine sub_drop ?_ | refine sub_put ?_ (by repeat (first | assumption | exact upd_same _ _ _ | refine (upd_other _ _ (by omega)).trans ?_))))) hq7_5) rfl rfl rfl ⟨rfl, rfl, Nat.le_refl _⟩)) ?_
    refine Draw.gd [(82, some 5), (80, some 3)] rfl (by kernel_rfl) (wantF rfl rfl rfl) (fun kq hkq hc => AOp.slots [(82, _)] (.cons (gvT rfl hc) .nil) (AOp.loadP0 (hp7_5.sub (by (repeat (first | exact sub_refl _ | assumption | refine sub_upd' ?_ (by ((repeat refine (upd_other _ _ (by omega)).trans ?_); first | exact hf _ (by omega))) | refine sub_over (by assumption) | refine sub_over0 ?_ | refine sub_trans (sub_same (by assumption)) ?_ | refine sub_dropu ?_ | refine sub_drop ?_ | refine sub_put ?_ (by repeat (first | assumption | exact upd_same _ _ _ | refine (upd_other _ _ (by omega)).trans ?_)))))) rfl rfl rfl ⟨rfl, rfl, Nat.le_refl _⟩)) ?_
    refine Draw.gd [(83, some 6), (80, some 3)] rfl (by kernel_rfl) (wantF rfl rfl rfl) (fun kq hkq hc => AOp.slots [(83, _)] (.cons (gvT rfl hc) .nil) (AOp.call' rfl rfl rfl (leaf_b _ _ (by repeat (first | assumption | exact upd_same _ _ _ | refine (upd_other _ _ (by omega)).trans ?_)) (ls.getD 0 []) A0 d0 (hc0.sub (by (repeat (first | exact sub_refl _ | assumption | refine sub_upd' ?_ (by ((repeat refine (upd_other _ _ (by omega)).trans ?_); first | exact hf _ (by omega))) | refine sub_over (by assumption) | refine sub_over0 ?_ | refine sub_trans (sub_same (by assumption)) ?_ | refine sub_dropu ?_ | refine sub_drop ?_ | refine sub_put ?_ (by repeat (first | assumption | exact upd_same _ _ _ | refine (upd_other _ _ (by omega)).trans ?_)))))) (hb _ hm0)) (fun _ _ _ h => h))) ?_
    refine Draw.gd [(0, none), (80, some 3)] rfl (by kernel_rfl) (wantF rfl rfl rfl) (fun kq hkq hc => AOp.slots [(0, _)] (.cons rfl .nil) (AOp.move' (.inl rfl) rfl ⟨rfl, rfl, Nat.le_refl _⟩)) ?_
    refine Draw.gd [(85, some 8), (80, some 3)] rfl (by kernel_rfl) (wantF rfl rfl rfl) (fun kq hkq hc => AOp.slots [(85, _)] (.cons (gvT rfl hc) .nil) (AOp.indexP (aslcAt_sub (by (repeat (first | exact sub_refl _ | assumption | refine sub_upd' ?_ (by ((repeat refine (upd_other _ _ (by omega)).trans ?_); first | exact hf _ (by omega))) | refine sub_over (by assumption) | refine sub_over0 ?_ | refine sub_trans (sub_same (by assumption)) ?_ | refine sub_dropu ?_ | refine sub_drop ?_ | refine sub_put ?_ (by repeat (first | assumption | exact upd_same _ _ _ | refine (upd_other _ _ (by omega)).trans ?_))))) hq7_9) rfl rfl rfl ⟨rfl, rfl, Nat.le_refl _⟩)) ?_
    refine Draw.gd [(86, some 9), (80, some 3)] rfl (by kernel_rfl) (wantF rfl rfl rfl) (fun kq hkq hc => AOp.slots [(86, _)] (.cons (gvT rfl hc) .nil) (AOp.loadP0 (hp7_9.sub (by (repeat (first | exact sub_refl _ | assumption | refine sub_upd' ?_ (by ((repeat refine (upd_other _ _ (by omega)).trans ?_); first | exact hf _ (by omega))) | refine sub_over (by assumption) | refine sub_over0 ?_ | refine sub_trans (sub_same (by assumption)) ?_ | refine sub_dropu ?_ | refine sub_drop ?_ | refine sub_put ?_ (by repeat (first | assumption | exact upd_same _ _ _ | refine (upd_other _ _ (by omega)).trans ?_)))))) rfl rfl rfl ⟨rfl, rfl, Nat.le_refl _⟩)) ?_
    refine Draw.gd [(87, some 10), (80, some 3)] rfl (by kernel_rfl) (wantF rfl rfl rfl) (fun kq hkq hc => AOp.slots [(87, _)] (.cons (gvT rfl hc) .nil) (AOp.call' rfl rfl rfl (leaf_b _ _ (by repeat (first | assumption | exact upd_same _ _ _ | refine (upd_other _ _ (by omega)).trans ?_)) (ls.getD 1 []) A1 d1 (hc1.sub (by (repeat (first | exact sub_refl _ | assumption | refine sub_upd' ?_ (by ((repeat refine (upd_other _ _ (by omega)).trans ?_); first | exact hf _ (by omega))) | refine sub_over (by assumption) | refine sub_over0 ?_ | refine sub_trans (sub_same (by assumption)) ?_ | refine sub_dropu ?_ | refine sub_drop ?_ | refine sub_put ?_ (by repeat (first | assumption | exact upd_same _ _ _ | refine (upd_other _ _ (by omega)).trans ?_)))))) (hb _ hm1)) (fun _ _ _ h => h))) ?_
    refine Draw.gd [(84, some 7), (88, some 11), (80, some 3)] rfl (by kernel_rfl) (wantF rfl rfl rfl) (fun kq hkq hc => AOp.slots [(84, _), (88, _)] (.cons (gvT rfl hc) (.cons (gvT rfl hc) .nil)) (AOp.call' rfl rfl rfl (node_b _ _ (by repeat (first | assumption | exact upd_same _ _ _ | refine (upd_other _ _ (by omega)).trans ?_)) _ _) (fun _ _ _ h => h))) ?_
    refine Draw.gd [(0, none), (80, some 3)] rfl (by kernel_rfl) (wantF rfl rfl rfl) (fun kq hkq hc => AOp.slots [(0, _)] (.cons rfl .nil) (AOp.move' (.inl rfl) rfl ⟨rfl, rfl, Nat.le_refl _⟩)) ?_
    refine Draw.gd [(90, some 13), (80, some 3)] rfl (by kernel_rfl) (wantF rfl rfl rfl) (fun kq hkq hc => AOp.slots [(90, _)] (.cons (gvT rfl hc) .nil) (AOp.indexP (aslcAt_sub (by (repeat (first | exact sub_refl _ | assumption | refine sub_upd' ?_ (by ((repeat refine (upd_other _ _ (by omega)).trans ?_); first | exact hf _ (by omega))) | refine sub_over (by assumption) | refine sub_over0 ?_ | refine sub_trans (sub_same (by assumption)) ?_ | refine sub_dropu ?_ | refine sub_drop ?_ | refine sub_put ?_ (by repeat (first | assumption | exact upd_same _ _ _ | refine (upd_other _ _ (by omega)).trans ?_))))) hq7_14) rfl rfl rfl ⟨rfl, rfl, Nat.le_refl _⟩)) ?_
    refine Draw.gd [(91, some 14), (80, some 3)] rfl (by kernel_rfl) (wantF rfl rfl rfl) (fun kq hkq hc => AOp.slots [(91, _)] (.cons (gvT rfl hc) .nil) (AOp.loadP0 (hp7_14.sub (by (repeat (first | exact sub_refl _ | assumption | refine sub_upd' ?_ (by ((repeat refine (upd_other _ _ (by omega)).trans ?_); first | exact hf _ (by omega))) | refine sub_over (by assumption) | refine sub_over0 ?_ | refine sub_trans (sub_same (by assumption)) ?_ | refine sub_dropu ?_ | refine sub_drop ?_ | refine sub_put ?_ (by repeat (first | assumption | exact upd_same _ _ _ | refine (upd_other _ _ (by omega)).trans ?_)))))) rfl rfl rfl ⟨rfl, rfl, Nat.le_refl _⟩)) ?_
    refine Draw.gd [(92, some 15), (80, some 3)] rfl (by kernel_rfl) (wantF rfl rfl rfl) (fun kq hkq hc => AOp.slots [(92, _)] (.cons (gvT rfl hc) .nil) (AOp.call' rfl rfl rfl (refleaf_b _ _ (ls.getD 0 []) A0 d0 (hc0.sub (by (repeat (first | exact sub_refl _ | assumption | refine sub_upd' ?_ (by ((repeat refine (upd_other _ _ (by omega)).trans ?_); first | exact hf _ (by omega))) | refine sub_over (by assumption) | refine sub_over0 ?_ | refine sub_trans (sub_same (by assumption)) ?_ | refine sub_dropu ?_ | refine sub_drop ?_ | refine sub_put ?_ (by repeat (first | assumption | exact upd_same _ _ _ | refine (upd_other _ _ (by omega)).trans ?_)))))) (hb _ hm0)) (fun _ _ _ h => h))) ?_
    refine Draw.gd [(0, none), (80, some 3)] rfl (by kernel_rfl) (wantF rfl rfl rfl) (fun kq hkq hc => AOp.slots [(0, _)] (.cons rfl .nil) (AOp.move' (.inl rfl) rfl ⟨rfl, rfl, Nat.le_refl _⟩)) ?_
    refine Draw.gd [(94, some 17), (80, some 3)] rfl (by kernel_rfl) (wantF rfl rfl rfl) (fun kq hkq hc => AOp.slots [(94, _)] (.cons (gvT rfl hc) .nil) (AOp.indexP (aslcAt_sub (by (repeat (first | exact sub_refl _ | assumption | refine sub_upd' ?_ (by ((repeat refine (upd_other _ _ (by omega)).trans ?_); first | exact hf _ (by omega))) | refine sub_over (by assumption) | refine sub_over0 ?_ | refine sub_trans (sub_same (by assumption)) ?_ | refine sub_dropu ?_ | refine sub_drop ?_ | refine sub_put ?_ (by repeat (first | assumption | exact upd_same _ _ _ | refine (upd_other _ _ (by omega)).trans ?_))))) hq7_18) rfl rfl rfl ⟨rfl, rfl, Nat.le_refl _⟩)) ?_
    refine Draw.gd [(95, some 18), (80, some 3)] rfl (by kernel_rfl) (wantF rfl rfl rfl) (fun kq hkq hc => AOp.slots [(95, _)] (.cons (gvT rfl hc) .nil) (AOp.loadP0 (hp7_18.sub (by (repeat (first | exact sub_refl _ | assumption | refine sub_upd' ?_ (by ((repeat refine (upd_other _ _ (by omega)).trans ?_); first | exact hf _ (by omega))) | refine sub_over (by assumption) | refine sub_over0 ?_ | refine sub_trans (sub_same (by assumption)) ?_ | refine sub_dropu ?_ | refine sub_drop ?_ | refine sub_put ?_ (by repeat (first | assumption | exact upd_same _ _ _ | refine (upd_other _ _ (by omega)).trans ?_)))))) rfl rfl rfl ⟨rfl, rfl, Nat.le_refl _⟩)) ?_
    refine Draw.gd [(96, some 19), (80, some 3)] rfl (by kernel_rfl) (wantF rfl rfl rfl) (fun kq hkq hc => AOp.slots [(96, _)] (.cons (gvT rfl hc) .nil) (AOp.call' rfl rfl rfl (refleaf_b _ _ (ls.getD 1 []) A1 d1 (hc1.sub (by (repeat (first | exact sub_refl _ | assumption | refine sub_upd' ?_ (by ((repeat refine (upd_other _ _ (by omega)).trans ?_); first | exact hf _ (by omega))) | refine sub_over (by assumption) | refine sub_over0 ?_ | refine sub_trans (sub_same (by assumption)) ?_ | refine sub_dropu ?_ | refine sub_drop ?_ | refine sub_put ?_ (by repeat (first | assumption | exact upd_same _ _ _ | refine (upd_other _ _ (by omega)).trans ?_)))))) (hb _ hm1)) (fun _ _ _ h => h))) ?_
    refine Draw.gd [(93, some 16), (97, some 20), (80, some 3)] rfl (by kernel_rfl) (wantF rfl rfl rfl) (fun kq hkq hc => AOp.slots [(93, _), (97, _)] (.cons (gvT rfl hc) (.cons (gvT rfl hc) .nil)) (AOp.call' rfl rfl rfl (refnode_b _ _ _ _) (fun _ _ _ h => h))) ?_
    refine Draw.gd [(89, some 12), (98, some 21), (80, some 3)] rfl (by kernel_rfl) (wantF rfl rfl rfl) (fun kq hkq hc => AOp.slots [(89, _), (98, _)] (.cons (gvT rfl hc) (.cons (gvT rfl hc) .nil)) (AOp.eqAgg (decide (nd (lf (ls.getD 0 [])) (lf (ls.getD 1 [])) = nd (lf (ls.getD 0 [])) (lf (ls.getD 1 [])))) rfl rfl rfl (hv_sc _) (hv_sc _) (hv_iff _ _) ⟨rfl, rfl, Nat.le_refl _⟩)) ?_
    refine Draw.step [(80, some 3), (99, some 22)] rfl (by kernel_rfl) rfl (fun kq hkq => AOp.pickOr rfl rfl rfl (fun hb => gvE rfl (t_not hb)) ⟨rfl, rfl, Nat.le_refl _⟩) ?_
    refine Draw.step [(100, some 23)] rfl (by kernel_rfl) rfl (fun kq hkq => AOp.move' (.inl rfl) rfl ⟨rfl, rfl, Nat.le_refl _⟩) ?_
    refine Draw.gd [(101, some 24)] rfl (by kernel_rfl) (wantT rfl rfl rfl) (fun kq hkq hc => AOp.slots [] .nil (AOp.call' rfl rfl rfl (awake19 _ _ (by repeat (first | assumption | exact upd_same _ _ _ | refine (upd_other _ _ (by omega)).trans ?_))) (fun _ _ _ h => h))) ?_
    refine Draw.step [(101, some 24), (102, some 25)] rfl (by kernel_rfl) rfl (fun kq hkq => AOp.pickAnd rfl rfl rfl (fun hb => gvE rfl hb) ⟨rfl, rfl, Nat.le_refl _⟩) ?_
    refine Draw.step [(103, some 26)] rfl (by kernel_rfl) rfl (fun kq hkq => AOp.move' (.inr rfl) rfl ⟨rfl, rfl, Nat.le_refl _⟩) ?_
    refine Draw.done fun kq hkq => ?_
    show aOps _ _ _ _ [] ⟨_, _, _⟩
    refine aOps_end ?_
    show ACode _ _ _ _ _ _
    refine ACode.ret ?_
    exact RetQ.one rfl rfl (by (repeat (first | exact sub_refl _ | assumption | refine sub_upd' ?_ (by ((repeat refine (upd_other _ _ (by omega)).trans ?_); first | exact hf _ (by omega))) | refine sub_over (by assumption) | refine sub_over0 ?_ | refine sub_trans (sub_same (by assumption)) ?_ | refine sub_dropu ?_ | refine sub_drop ?_ | refine sub_put ?_ (by repeat (first | assumption | exact upd_same _ _ _ | refine (upd_other _ _ (by omega)).trans ?_))))) stays (fun hk => ⟨(by simp), rfl, by omega⟩)

theorem treeRoots_in1 (ht : H 0 = some tabBlk) (ls : List (List UInt8)) (vs : List Value) (A : Option Addr) (c : Nat) (hs : SLC H 1 A vs.length c vs) (hL : Lvs H vs ls) (hl : vs.length ≤ 9223372036854775807) (a : Nat) (n : Int) (hn1 : -9223372036854775808 ≤ n) (hn2 : n ≤ 9223372036854775807) (hin : a < vs.length) (h2v : ¬ 2 ≤ vs.length) : ACalls Tryd.prog 1 9 [.slice A vs.length c, .int .i64 (a : Int), .int .i64 n] H k (Same H k (.bool true)) := by
  refine ACalls.fresh fun hf => ?_
  refine ACalls.body Tryd.func9 rfl (Nat.le_of_ble_eq_true rfl) ?_
  have h0k := old_lt hf ht
  have hvl := hL.len
  refine ACode.seq ?_
  refine ACode.region' [0] (by kernel_rfl) rfl ?_
  refine aOps_1 rfl rfl rfl (AOp.move' (.inr rfl) rfl ?_)
  refine aOps_end ?_
  show ACode _ _ _ _ _ _
  refine ACode.seq ?_
  refine ACode.seq ?_
  refine ACode.region' [0, 1, 2, 3, 4, 5] (by kernel_rfl) rfl ?_
  refine aOps_1 rfl rfl rfl (AOp.move' (.inl rfl) rfl ?_)
  refine aOps_q rfl rfl rfl (AOp.call' rfl rfl rfl (great_l _ _ ls vs A c (hs.sub (by (repeat (first | exact sub_refl _ | assumption | refine sub_upd' ?_ (by ((repeat refine (upd_other _ _ (by omega)).trans ?_); first | exact hf _ (by omega))) | refine sub_over (by assumption) | refine sub_over0 ?_ | refine sub_trans (sub_same (by assumption)) ?_ | refine sub_dropu ?_ | refine sub_drop ?_ | refine sub_put ?_ (by repeat (first | assumption | exact upd_same _ _ _ | refine (upd_other _ _ (by omega)).trans ?_)))))) (hL.sub (by (repeat (first | exact sub_refl _ | assumption | refine sub_upd' ?_ (by ((repeat refine (upd_other _ _ (by omega)).trans ?_); first | exact hf _ (by omega))) | refine sub_over (by assumption) | refine sub_over0 ?_ | refine sub_trans (sub_same (by assumption)) ?_ | refine sub_dropu ?_ | refine sub_drop ?_ | refine sub_put ?_ (by repeat (first | assumption | exact upd_same _ _ _ | refine (upd_other _ _ (by omega)).trans ?_)))))) (by omega) 30 60) (fun _ _ _ h => h)) (fun kq hkq => ?_)
  refine aOps_1 rfl rfl rfl (AOp.move' (.inl rfl) rfl ?_)
  refine aOps_gd0 rfl rfl (wantF rfl rfl rfl) (fun hc => AOp.slots [(2, _)] (.cons rfl .nil) (AOp.move' (.inl rfl) rfl ⟨rfl, rfl, rfl⟩)) ?_
  refine aOps_gd0 rfl rfl (wantF rfl rfl rfl) (fun hc => AOp.slots [(13, _)] (.cons (gvT rfl hc) .nil) (AOp.bin' rfl rfl rfl rfl ⟨rfl, rfl, rfl⟩)) ?_
  refine aOps_1 rfl rfl rfl (AOp.pickOr rfl rfl rfl (fun hb => gvE rfl (t_not hb)) ?_)
  refine aOps_end ?_
  show ACode _ _ _ _ _ _
  refine ACode.cond rfl (fun c0 => ?_) (fun c0 => ?_)
  · try simp only [decide_eq_true_eq, decide_eq_false_iff_not, beq_iff_eq, beq_eq_false_iff_ne, ne_eq, bne_iff_ne, Bool.not_eq_true', Bool.not_eq_false', Int.not_lt, Int.not_le, gt_iff_lt, ge_iff_le, bne_eq_false_iff_eq, Bool.not_eq_eq_eq_not, Bool.not_true, Bool.not_false] at c0
    simp only [Bool.or_eq_true, decide_eq_true_eq] at c0
    refine ACode.seq ?_
    refine ACode.region' [0, 1] (by kernel_rfl) rfl ?_
    refine aOps_q rfl rfl rfl (AOp.call' rfl rfl rfl (awake19 _ _ (by repeat (first | assumption | exact upd_same _ _ _ | refine (upd_other _ _ (by omega)).trans ?_))) (fun _ _ _ h => h)) (fun kq hkq => ?_)
    refine aOps_1 rfl rfl rfl (AOp.move' (.inr rfl) rfl ?_)
    refine aOps_end ?_
    show ACode _ _ _ _ _ _
    refine ACode.ret ?_
    exact RetQ.one rfl rfl (by (repeat (first | exact sub_refl _ | assumption | refine sub_upd' ?_ (by ((repeat refine (upd_other _ _ (by omega)).trans ?_); first | exact hf _ (by omega))) | refine sub_over (by assumption) | refine sub_over0 ?_ | refine sub_trans (sub_same (by assumption)) ?_ | refine sub_dropu ?_ | refine sub_drop ?_ | refine sub_put ?_ (by repeat (first | assumption | exact upd_same _ _ _ | refine (upd_other _ _ (by omega)).trans ?_))))) stays (fun hk => ⟨rfl, rfl, by omega⟩)
  · try simp only [decide_eq_true_eq, decide_eq_false_iff_not, beq_iff_eq, beq_eq_false_iff_ne, ne_eq, bne_iff_ne, Bool.not_eq_true', Bool.not_eq_false', Int.not_lt, Int.not_le, gt_iff_lt, ge_iff_le, bne_eq_false_iff_eq, Bool.not_eq_eq_eq_not, Bool.not_true, Bool.not_false] at c0
    simp only [Bool.or_eq_false_iff, decide_eq_false_iff_not] at c0
    obtain ⟨g1, g2⟩ := c0
    obtain ⟨g4, g5⟩ := greatL_of g1
    have hb : ∀ x ∈ ls, x.length ≤ 549755813000 := fun x hx => Nat.le_trans (g5 x hx) (by decide)
    refine ACode.skip ?_
    show ACode _ _ _ _ _ _
    refine ACode.seq ?_
    refine ACode.region' [0, 1, 2, 3, 4, 5, 6, 7] (by kernel_rfl) rfl ?_
    refine aOps_1 rfl rfl rfl (AOp.move' (.inl rfl) rfl ?_)
    refine aOps_1 rfl rfl rfl (AOp.move' (.inl rfl) rfl ?_)
    refine aOps_1 rfl rfl rfl ?_
    refine AOp.call' rfl rfl rfl (path_b (vs.length + 1) ls vs A c (a : Int) _ _ (by repeat (first | assumption | exact upd_same _ _ _ | refine (upd_other _ _ (by omega)).trans ?_)) (hs.sub (by (repeat (first | exact sub_refl _ | assumption | refine sub_upd' ?_ (by ((repeat refine (upd_other _ _ (by omega)).trans ?_); first | exact hf _ (by omega))) | refine sub_over (by assumption) | refine sub_over0 ?_ | refine sub_trans (sub_same (by assumption)) ?_ | refine sub_dropu ?_ | refine sub_drop ?_ | refine sub_put ?_ (by repeat (first | assumption | exact upd_same _ _ _ | refine (upd_other _ _ (by omega)).trans ?_)))))) (hL.sub (by (repeat (first | exact sub_refl _ | assumption | refine sub_upd' ?_ (by ((repeat refine (upd_other _ _ (by omega)).trans ?_); first | exact hf _ (by omega))) | refine sub_over (by assumption) | refine sub_over0 ?_ | refine sub_trans (sub_same (by assumption)) ?_ | refine sub_dropu ?_ | refine sub_drop ?_ | refine sub_put ?_ (by repeat (first | assumption | exact upd_same _ _ _ | refine (upd_other _ _ (by omega)).trans ?_)))))) (by omega) hb (by omega) (by omega) (by omega)) ?_
    rintro _ _ kq0 ⟨q, hq1, hq2, rfl, rfl⟩
    refine aOps_1 rfl rfl rfl (AOp.move' (.inl rfl) rfl ?_)
    refine aOps_1 rfl rfl rfl (AOp.extract' rfl rfl rfl ?_)
    refine aOps_1 rfl rfl rfl (AOp.extract' rfl rfl rfl ?_)
    refine aOps_1 rfl rfl rfl (AOp.move' (.inr rfl) rfl ?_)
    refine aOps_1 rfl rfl rfl (AOp.move' (.inr rfl) rfl ?_)
    refine aOps_end ?_
    show ACode _ _ _ _ _ _
    refine ACode.seq ?_
    refine ACode.region' [0, 1, 2, 3, 4, 5, 6, 7, 8] (by kernel_rfl) rfl ?_
    refine aOps_1 rfl rfl rfl (AOp.move' (.inl rfl) rfl ?_)
    refine aOps_1 rfl rfl rfl (AOp.bin' rfl rfl rfl rfl ?_)
    refine aOps_1 rfl rfl rfl (AOp.move' (.inl rfl) rfl ?_)
    refine aOps_gd0 rfl rfl (wantT rfl rfl rfl) (fun hc => AOp.slots [(1, _)] (.cons rfl .nil) (AOp.move' (.inl rfl) rfl ⟨rfl, rfl, rfl⟩)) ?_
    refine aOps_gd0 rfl rfl (wantT rfl rfl rfl) (fun hc => AOp.slots [(0, _)] (.cons rfl .nil) (AOp.move' (.inl rfl) rfl ⟨rfl, rfl, rfl⟩)) ?_
    refine aOps_gd0 rfl rfl (wantT rfl rfl rfl) (fun hc => AOp.slots [(27, _)] (.cons (gvT rfl hc) .nil) (AOp.len' rfl rfl ⟨rfl, rfl, rfl⟩)) ?_
    refine aOps_gd0 rfl rfl (wantT rfl rfl rfl) (fun hc => AOp.slots [(26, _), (28, _)] (.cons (gvT rfl hc) (.cons (gvT rfl hc) .nil)) (AOp.bin' rfl rfl rfl rfl ⟨rfl, rfl, rfl⟩)) ?_
    refine aOps_1 rfl rfl rfl (AOp.pickAnd rfl rfl rfl (fun hb => gvE rfl hb) ?_)
    refine aOps_1 rfl rfl rfl (AOp.move' (.inr rfl) rfl ?_)
    refine aOps_end ?_
    show ACode _ _ _ _ _ _
    refine ACode.seq ?_
    refine ACode.seq ?_
    have g8 : (decide ((a : Int) ≥ 0) && decide ((a : Int) < (vs.length : Int))) = true := by simp; omega
    rw [g8, inZ_yes (n := vs.length) (i := a) (by omega)]
    have hpl : (pathZ ls (a : Int)).length ≤ ls.length := by rw [pathZ_nat (by omega)]; exact pathT_le _ _
    refine ACode.region' [0, 1, 2, 3, 4, 5, 6, 7, 8, 9, 10, 11, 12, 13, 14, 15, 16, 17, 18, 19, 20, 21, 22, 23, 24, 25, 26, 27, 28, 29, 30, 31, 32, 33, 34, 35, 36, 37, 38, 39, 40, 41, 42, 43, 44, 45] (by kernel_rfl) rfl ?_
    refine aOps_1 rfl rfl rfl (AOp.move' (.inl rfl) rfl ?_)
    refine aOps_1 rfl rfl rfl (AOp.move' (.inl rfl) rfl ?_)
    refine aOps_1 rfl rfl rfl (AOp.neBool rfl rfl rfl ?_)
    refine aOps_1 rfl rfl rfl (AOp.move' (.inl rfl) rfl ?_)
    refine aOps_w rfl rfl rfl (AOp.move' (.inl rfl) rfl ?_)
    refine aOps_w rfl rfl rfl (AOp.move' (.inl rfl) rfl ?_)
    refine aOps_w rfl rfl rfl (AOp.move' (.inl rfl) rfl ?_)
    refine aOps_w rfl rfl rfl (AOp.move' (.inl rfl) rfl ?_)
    refine aOps_w rfl rfl rfl (AOp.move' (.inl rfl) rfl ?_)
    refine aOps_w rfl rfl rfl ?_
    refine AOp.call' rfl rfl rfl (refpath_b (vs.length + 1) ls vs A c a _ _ (by repeat (first | assumption | exact upd_same _ _ _ | refine (upd_other _ _ (by omega)).trans ?_)) (hs.sub (by (repeat (first | exact sub_refl _ | assumption | refine sub_upd' ?_ (by ((repeat refine (upd_other _ _ (by omega)).trans ?_); first | exact hf _ (by omega))) | refine sub_over (by assumption) | refine sub_over0 ?_ | refine sub_trans (sub_same (by assumption)) ?_ | refine sub_dropu ?_ | refine sub_drop ?_ | refine sub_put ?_ (by repeat (first | assumption | exact upd_same _ _ _ | refine (upd_other _ _ (by omega)).trans ?_)))))) (hL.sub (by (repeat (first | exact sub_refl _ | assumption | refine sub_upd' ?_ (by ((repeat refine (upd_other _ _ (by omega)).trans ?_); first | exact hf _ (by omega))) | refine sub_over (by assumption) | refine sub_over0 ?_ | refine sub_trans (sub_same (by assumption)) ?_ | refine sub_dropu ?_ | refine sub_drop ?_ | refine sub_put ?_ (by repeat (first | assumption | exact upd_same _ _ _ | refine (upd_other _ _ (by omega)).trans ?_)))))) (by omega) hb (by omega) (by omega)) ?_
    rintro _ _ kq1 ⟨q2, hq3, hq4, rfl, rfl⟩
    refine aOps_wq rfl rfl rfl (AOp.call' rfl rfl rfl (sameH_b _ _ (pathZ ls (a : Int)) (pathZ ls (a : Int)) (some ⟨q, 0, some 1⟩) (some ⟨q2, 0, some 1⟩) _ _ (SLC.pbk (n := q) (e := 24) (by repeat (first | assumption | exact upd_same _ _ _ | refine (upd_other _ _ (by omega)).trans ?_))) (SLC.pbk (n := q2) (e := 24) (by repeat (first | assumption | exact upd_same _ _ _ | refine (upd_other _ _ (by omega)).trans ?_))) (by omega)) (fun _ _ _ h => h)) (fun kq hkq => ?_)
    rw [show decide (pathZ ls (a : Int) = pathZ ls (a : Int)) = true from decide_eq_true rfl]
    refine aOps_w rfl rfl rfl (AOp.un' rfl rfl rfl ?_)
    refine aOps_w rfl rfl rfl (AOp.pickAnd rfl rfl rfl (fun _ => rfl) ?_)
    refine aOps_1 rfl rfl rfl (AOp.pickOr rfl rfl rfl (fun hb => gvE rfl (t_not hb)) ?_)
    refine aOps_1 rfl rfl rfl (AOp.move' (.inl rfl) rfl ?_)
    refine aOps_w rfl rfl rfl (AOp.move' (.inl rfl) rfl ?_)
    refine aOps_w rfl rfl rfl (AOp.un' rfl rfl rfl ?_)
    refine aOps_w rfl rfl rfl (AOp.move' (.inl rfl) rfl ?_)
    refine aOps_wno rfl rfl rfl ?_
    refine aOps_wno rfl rfl rfl ?_
    refine aOps_wno rfl rfl rfl ?_
    refine aOps_w rfl rfl rfl (AOp.pickAnd (b' := false) rfl rfl rfl (fun h => absurd h (by decide)) ?_)
    refine aOps_1 rfl rfl rfl (AOp.pickOr rfl rfl rfl (fun hb => gvE rfl (t_not hb)) ?_)
    refine aOps_1 rfl rfl rfl (AOp.move' (.inl rfl) rfl ?_)
    refine aOps_w rfl rfl rfl (AOp.move' (.inl rfl) rfl ?_)
    refine aOps_wq rfl rfl rfl (AOp.call' rfl rfl rfl (root_b (vs.length + 1) ls vs A c _ _ (by repeat (first | assumption | exact upd_same _ _ _ | refine (upd_other _ _ (by omega)).trans ?_)) (hs.sub (by (repeat (first | exact sub_refl _ | assumption | refine sub_upd' ?_ (by ((repeat refine (upd_other _ _ (by omega)).trans ?_); first | exact hf _ (by omega))) | refine sub_over (by assumption) | refine sub_over0 ?_ | refine sub_trans (sub_same (by assumption)) ?_ | refine sub_dropu ?_ | refine sub_drop ?_ | refine sub_put ?_ (by repeat (first | assumption | exact upd_same _ _ _ | refine (upd_other _ _ (by omega)).trans ?_)))))) (hL.sub (by (repeat (first | exact sub_refl _ | assumption | refine sub_upd' ?_ (by ((repeat refine (upd_other _ _ (by omega)).trans ?_); first | exact hf _ (by omega))) | refine sub_over (by assumption) | refine sub_over0 ?_ | refine sub_trans (sub_same (by assumption)) ?_ | refine sub_dropu ?_ | refine sub_drop ?_ | refine sub_put ?_ (by repeat (first | assumption | exact upd_same _ _ _ | refine (upd_other _ _ (by omega)).trans ?_)))))) (by omega) hb (by omega)) (fun _ _ _ h => h)) (fun kq hkq => ?_)
    refine aOps_w rfl rfl rfl (AOp.move' (.inl rfl) rfl ?_)
    refine aOps_wq rfl rfl rfl (AOp.call' rfl rfl rfl (refroot_b (vs.length + 1) ls vs A c _ _ (by repeat (first | assumption | exact upd_same _ _ _ | refine (upd_other _ _ (by omega)).trans ?_)) (hs.sub (by (repeat (first | exact sub_refl _ | assumption | refine sub_upd' ?_ (by ((repeat refine (upd_other _ _ (by omega)).trans ?_); first | exact hf _ (by omega))) | refine sub_over (by assumption) | refine sub_over0 ?_ | refine sub_trans (sub_same (by assumption)) ?_ | refine sub_dropu ?_ | refine sub_drop ?_ | refine sub_put ?_ (by repeat (first | assumption | exact upd_same _ _ _ | refine (upd_other _ _ (by omega)).trans ?_)))))) (hL.sub (by (repeat (first | exact sub_refl _ | assumption | refine sub_upd' ?_ (by ((repeat refine (upd_other _ _ (by omega)).trans ?_); first | exact hf _ (by omega))) | refine sub_over (by assumption) | refine sub_over0 ?_ | refine sub_trans (sub_same (by assumption)) ?_ | refine sub_dropu ?_ | refine sub_drop ?_ | refine sub_put ?_ (by repeat (first | assumption | exact upd_same _ _ _ | refine (upd_other _ _ (by omega)).trans ?_)))))) (by omega) hb (by omega)) (fun _ _ _ h => h)) (fun kq hkq => ?_)
    refine aOps_w rfl rfl rfl (AOp.neAgg (decide (root ls = root ls)) rfl rfl rfl (hv_sc _) (hv_sc _) (hv_iff _ _) ?_)
    rw [show decide (root ls = root ls) = true from decide_eq_true rfl]
    refine aOps_1 rfl rfl rfl (AOp.pickOr rfl rfl rfl (fun hb => gvE rfl (t_not hb)) ?_)
    refine aOps_1 rfl rfl rfl (AOp.move' (.inl rfl) rfl ?_)
    refine aOps_w rfl rfl rfl (AOp.move' (.inl rfl) rfl ?_)
    refine aOps_wq rfl rfl rfl (AOp.call' rfl rfl rfl (split_z _ _ n hn1 hn2) (fun _ _ _ h => h)) (fun kq hkq => ?_)
    refine aOps_w rfl rfl rfl (AOp.move' (.inl rfl) rfl ?_)
    refine aOps_wq rfl rfl rfl (AOp.call' rfl rfl rfl (refsplit_z _ _ n hn1 (by omega)) (fun _ _ _ h => h)) (fun kq hkq => ?_)
    refine aOps_w rfl rfl rfl (AOp.bin' rfl rfl rfl rfl ?_)
    rw [show (spZ n != spZ n) = false by simp]
    refine aOps_1 rfl rfl rfl (AOp.pickOr rfl rfl rfl (fun hb => gvE rfl (t_not hb)) ?_)
    refine aOps_1 rfl rfl rfl (AOp.move' (.inl rfl) rfl ?_)
    refine aOps_w rfl rfl rfl (AOp.move' (.inl rfl) rfl ?_)
    refine aOps_w rfl rfl rfl (AOp.move' (.inl rfl) rfl ?_)
    refine aOps_wq rfl rfl rfl (AOp.call' rfl rfl rfl (depth_z _ _ (a : Int) n (by omega) (by omega) hn1 hn2) (fun _ _ _ h => h)) (fun kq hkq => ?_)
    refine aOps_w rfl rfl rfl (AOp.move' (.inl rfl) rfl ?_)
    refine aOps_w rfl rfl rfl (AOp.move' (.inl rfl) rfl ?_)
    refine aOps_wq rfl rfl rfl (AOp.call' rfl rfl rfl (refdepth_z (n.toNat + 1) (a : Int) n _ _ (by omega) (by omega) hn1 (by omega) (by omega)) (fun _ _ _ h => h)) (fun kq hkq => ?_)
    refine aOps_w rfl rfl rfl (AOp.bin' rfl rfl rfl rfl ?_)
    rw [show (depthZ (a : Int) n != depthZ (a : Int) n) = false by simp]
    refine aOps_1 rfl rfl rfl (AOp.pickOr rfl rfl rfl (fun hb => gvE rfl (t_not hb)) ?_)
    refine aOps_end ?_
    show ACode _ _ _ _ _ _
    refine ACode.cond rfl (fun c1 => absurd c1 (by simp)) (fun c1 => ?_)
    refine ACode.skip ?_
    show ACode _ _ _ _ _ _
    refine ACode.seq ?_
    refine ACode.draw' 28 [(0, 77), (1, 78), (2, 79), (3, 80), (4, 81), (5, 82), (6, 83), (7, 84), (8, 85), (9, 86), (10, 87), (11, 88), (12, 89), (13, 90), (14, 91), (15, 92), (16, 93), (17, 94), (18, 95), (19, 96), (20, 97), (21, 98), (22, 99), (23, 100), (24, 101), (25, 102), (26, 103), (27, 6)] mixed (by kernel_rfl) ?_
    refine Draw.step [(0, none)] rfl (by kernel_rfl) rfl (fun kq hkq => AOp.move' (.inl rfl) rfl ⟨rfl, rfl, Nat.le_refl _⟩) ?_
    refine Draw.step [(77, some 0)] rfl (by kernel_rfl) rfl (fun kq hkq => AOp.len' rfl rfl ⟨rfl, rfl, Nat.le_refl _⟩) ?_
    refine Draw.step [(78, some 1)] rfl (by kernel_rfl) rfl (fun kq hkq => AOp.bin' rfl rfl rfl rfl ⟨rfl, rfl, Nat.le_refl _⟩) ?_
    refine Draw.step [(79, some 2)] rfl (by kernel_rfl) rfl (fun kq hkq => AOp.move' (.inl rfl) rfl ⟨rfl, rfl, Nat.le_refl _⟩) ?_
    refine Draw.gd [(0, none), (80, some 3)] rfl (by kernel_rfl) (wantF rfl rfl rfl) (fun kq hkq hc => AOp.slots [(0, _)] (.cons rfl .nil) ((False.elim (by simp at hc; omega) : AOp _ _ _ _ fun v H1 k1 => v = Value.bool false ∧ H1 = _ ∧ _ ≤ k1))) ?_
    refine Draw.gd [(81, some 4), (80, some 3)] rfl (by kernel_rfl) (wantF rfl rfl rfl) (fun kq hkq hc => AOp.slots [(81, _)] (.cons (gvT rfl hc) .nil) ((False.elim (by simp at hc; omega) : AOp _ _ _ _ fun v H1 k1 => v = Value.bool false ∧ H1 = _ ∧ _ ≤ k1))) ?_
    refine Draw.gd [(82, some 5), (80, some 3)] rfl (by kernel_rfl) (wantF rfl rfl rfl) (fun kq hkq hc => AOp.slots [(82, _)] (.cons (gvT rfl hc) .nil) ((False.elim (by simp at hc; omega) : AOp _ _ _ _ fun v H1 k1 => v = Value.bool false ∧ H1 = _ ∧ _ ≤ k1))) ?_
    refine Draw.gd [(83, some 6), (80, some 3)] rfl (by kernel_rfl) (wantF rfl rfl rfl) (fun kq hkq hc => AOp.slots [(83, _)] (.cons (gvT rfl hc) .nil) ((False.elim (by simp at hc; omega) : AOp _ _ _ _ fun v H1 k1 => v = Value.bool false ∧ H1 = _ ∧ _ ≤ k1))) ?_
    refine Draw.gd [(0, none), (80, some 3)] rfl (by kernel_rfl) (wantF rfl rfl rfl) (fun kq hkq hc => AOp.slots [(0, _)] (.cons rfl .nil) ((False.elim (by simp at hc; omega) : AOp _ _ _ _ fun v H1 k1 => v = Value.bool false ∧ H1 = _ ∧ _ ≤ k1))) ?_
    refine Draw.gd [(85, some 8), (80, some 3)] rfl (by kernel_rfl) (wantF rfl rfl rfl) (fun kq hkq hc => AOp.slots [(85, _)] (.cons (gvT rfl hc) .nil) ((False.elim (by simp at hc; omega) : AOp _ _ _ _ fun v H1 k1 => v = Value.bool false ∧ H1 = _ ∧ _ ≤ k1))) ?_
    refine Draw.gd [(86, some 9), (80, some 3)] rfl (by kernel_rfl) (wantF rfl rfl rfl) (fun kq hkq hc => AOp.slots [(86, _)] (.cons (gvT rfl hc) .nil) ((False.elim (by simp at hc; omega) : AOp _ _ _ _ fun v H1 k1 => v = Value.bool false ∧ H1 = _ ∧ _ ≤ k1))) ?_
    refine Draw.gd [(87, some 10), (80, some 3)] rfl (by kernel_rfl) (wantF rfl rfl rfl) (fun kq hkq hc => AOp.slots [(87, _)] (.cons (gvT rfl hc) .nil) ((False.elim (by simp at hc; omega) : AOp _ _ _ _ fun v H1 k1 => v = Value.bool false ∧ H1 = _ ∧ _ ≤ k1))) ?_
    refine Draw.gd [(84, some 7), (88, some 11), (80, some 3)] rfl (by kernel_rfl) (wantF rfl rfl rfl) (fun kq hkq hc => AOp.slots [(84, _), (88, _)] (.cons (gvT rfl hc) (.cons (gvT rfl hc) .nil)) ((False.elim (by simp at hc; omega) : AOp _ _ _ _ fun v H1 k1 => v = Value.bool false ∧ H1 = _ ∧ _ ≤ k1))) ?_
    refine Draw.gd [(0, none), (80, some 3)] rfl (by kernel_rfl) (wantF rfl rfl rfl) (fun kq hkq hc => AOp.slots [(0, _)] (.cons rfl .nil) ((False.elim (by simp at hc; omega) : AOp _ _ _ _ fun v H1 k1 => v = Value.bool false ∧ H1 = _ ∧ _ ≤ k1))) ?_
    refine Draw.gd [(90, some 13), (80, some 3)] rfl (by kernel_rfl) (wantF rfl rfl rfl) (fun kq hkq hc => AOp.slots [(90, _)] (.cons (gvT rfl hc) .nil) ((False.elim (by simp at hc; omega) : AOp _ _ _ _ fun v H1 k1 => v = Value.bool false ∧ H1 = _ ∧ _ ≤ k1))) ?_
    refine Draw.gd [(91, some 14), (80, some 3)] rfl (by kernel_rfl) (wantF rfl rfl rfl) (fun kq hkq hc => AOp.slots [(91, _)] (.cons (gvT rfl hc) .nil) ((False.elim (by simp at hc; omega) : AOp _ _ _ _ fun v H1 k1 => v = Value.bool false ∧ H1 = _ ∧ _ ≤ k1))) ?_
    refine Draw.gd [(92, some 15), (80, some 3)] rfl (by kernel_rfl) (wantF rfl rfl rfl) (fun kq hkq hc => AOp.slots [(92, _)] (.cons (gvT rfl hc) .nil) ((False.elim (by simp at hc; omega) : AOp _ _ _ _ fun v H1 k1 => v = Value.bool false ∧ H1 = _ ∧ _ ≤ k1))) ?_
    refine Draw.gd [(0, none), (80, some 3)] rfl (by kernel_rfl) (wantF rfl rfl rfl) (fun kq hkq hc => AOp.slots [(0, _)] (.cons rfl .nil) ((False.elim (by simp at hc; omega) : AOp _ _ _ _ fun v H1 k1 => v = Value.bool false ∧ H1 = _ ∧ _ ≤ k1))) ?_
    refine Draw.gd [(94, some 17), (80, some 3)] rfl (by kernel_rfl) (wantF rfl rfl rfl) (fun kq hkq hc => AOp.slots [(94, _)] (.cons (gvT rfl hc) .nil) ((False.elim (by simp at hc; omega) : AOp _ _ _ _ fun v H1 k1 => v = Value.bool false ∧ H1 = _ ∧ _ ≤ k1))) ?_
    refine Draw.gd [(95, some 18), (80, some 3)] rfl (by kernel_rfl) (wantF rfl rfl rfl) (fun kq hkq hc => AOp.slots [(95, _)] (.cons (gvT rfl hc) .nil) ((False.elim (by simp at hc; omega) : AOp _ _ _ _ fun v H1 k1 => v = Value.bool false ∧ H1 = _ ∧ _ ≤ k1))) ?_
    refine Draw.gd [(96, some 19), (80, some 3)] rfl (by kernel_rfl) (wantF rfl rfl rfl) (fun kq hkq hc => AOp.slots [(96, _)] (.cons (gvT rfl hc) .nil) ((False.elim (by simp at hc; omega) : AOp _ _ _ _ fun v H1 k1 => v = Value.bool false ∧ H1 = _ ∧ _ ≤ k1))) ?_
    refine Draw.gd [(93, some 16), (97, some 20), (80, some 3)] rfl (by kernel_rfl) (wantF rfl rfl rfl) (fun kq hkq hc => AOp.slots [(93, _), (97, _)] (.cons (gvT rfl hc) (.cons (gvT rfl hc) .nil)) ((False.elim (by simp at hc; omega) : AOp _ _ _ _ fun v H1 k1 => v = Value.bool false ∧ H1 = _ ∧ _ ≤ k1))) ?_
    refine Draw.gd [(89, some 12), (98, some 21), (80, some 3)] rfl (by kernel_rfl) (wantF rfl rfl rfl) (fun kq hkq hc => AOp.slots [(89, _), (98, _)] (.cons (gvT rfl hc) (.cons (gvT rfl hc) .nil)) ((False.elim (by simp at hc; omega) : AOp _ _ _ _ fun v H1 k1 => v = Value.bool false ∧ H1 = _ ∧ _ ≤ k1))) ?_
    refine Draw.step [(80, some 3), (99, some 22)] rfl (by kernel_rfl) rfl (fun kq hkq => AOp.pickOr rfl rfl rfl (fun hb => gvE rfl (t_not hb)) ⟨rfl, rfl, Nat.le_refl _⟩) ?_
    refine Draw.step [(100, some 23)] rfl (by kernel_rfl) rfl (fun kq hkq => AOp.move' (.inl rfl) rfl ⟨rfl, rfl, Nat.le_refl _⟩) ?_
    refine Draw.gd [(101, some 24)] rfl (by kernel_rfl) (wantT rfl rfl rfl) (fun kq hkq hc => AOp.slots [] .nil (AOp.call' rfl rfl rfl (awake19 _ _ (by repeat (first | assumption | exact upd_same _ _ _ | refine (upd_other _ _ (by omega)).trans ?_))) (fun _ _ _ h => h))) ?_
    refine Draw.step [(101, some 24), (102, some 25)] rfl (by kernel_rfl) rfl (fun kq hkq => AOp.pickAnd rfl rfl rfl (fun hb => gvE rfl hb) ⟨rfl, rfl, Nat.le_refl _⟩) ?_
    refine Draw.step [(103, some 26)] rfl (by kernel_rfl) rfl (fun kq hkq => AOp.move' (.inr rfl) rfl ⟨rfl, rfl, Nat.le_refl _⟩) ?_
    refine Draw.done fun kq hkq => ?_
    show aOps _ _ _ _ [] ⟨_, _, _⟩
    refine aOps_end ?_
    show ACode _ _ _ _ _ _
    refine ACode.ret ?_
    exact RetQ.one rfl rfl (by (repeat (first | exact sub_refl _ | assumption | refine sub_upd' ?_ (by ((repeat refine (upd_other _ _ (by omega)).trans ?_); first | exact hf _ (by omega))) | refine sub_over (by assumption) | refine sub_over0 ?_ | refine sub_trans (sub_same (by assumption)) ?_ | refine sub_dropu ?_ | refine sub_drop ?_ | refine sub_put ?_ (by repeat (first | assumption | exact upd_same _ _ _ | refine (upd_other _ _ (by omega)).trans ?_))))) stays (fun hk => ⟨(by simp; omega), rfl, by omega⟩)

theorem treeRoots_out2 (ht : H 0 = some tabBlk) (ls : List (List UInt8)) (vs : List Value) (A : Option Addr) (c : Nat) (hs : SLC H 1 A vs.length c vs) (hL : Lvs H vs ls) (hl : vs.length ≤ 9223372036854775807) (i : Int) (hi1 : -9223372036854775808 ≤ i) (hi2 : i ≤ 9223372036854775807) (n : Int) (hn1 : -9223372036854775808 ≤ n) (hn2 : n ≤ 9223372036854775807) (hin : ¬ (0 ≤ i ∧ i < (vs.length : Int))) (h2v : 2 ≤ vs.length) : ACalls Tryd.prog 1 9 [.slice A vs.length c, .int .i64 i, .int .i64 n] H k (Same H k (.bool true)) := by
  refine ACalls.fresh fun hf => ?_
  refine ACalls.body Tryd.func9 rfl (Nat.le_of_ble_eq_true rfl) ?_
  have h0k := old_lt hf ht
  have hvl := hL.len
  refine ACode.seq ?_
  refine ACode.region' [0] (by kernel_rfl) rfl ?_
  refine aOps_1 rfl rfl rfl (AOp.move' (.inr rfl) rfl ?_)
  refine aOps_end ?_
  show ACode _ _ _ _ _ _
  refine ACode.seq ?_
  refine ACode.seq ?_
  refine ACode.region' [0, 1, 2, 3, 4, 5] (by kernel_rfl) rfl ?_
  refine aOps_1 rfl rfl rfl (AOp.move' (.inl rfl) rfl ?_)
  refine aOps_q rfl rfl rfl (AOp.call' rfl rfl rfl (great_l _ _ ls vs A c (hs.sub (by (repeat (first | exact sub_refl _ | assumption | refine sub_upd' ?_ (by ((repeat refine (upd_other _ _ (by omega)).trans ?_); first | exact hf _ (by omega))) | refine sub_over (by assumption) | refine sub_over0 ?_ | refine sub_trans (sub_same (by assumption)) ?_ | refine sub_dropu ?_ | refine sub_drop ?_ | refine sub_put ?_ (by repeat (first | assumption | exact upd_same _ _ _ | refine (upd_other _ _ (by omega)).trans ?_)))))) (hL.sub (by (repeat (first | exact sub_refl _ | assumption | refine sub_upd' ?_ (by ((repeat refine (upd_other _ _ (by omega)).trans ?_); first | exact hf _ (by omega))) | refine sub_over (by assumption) | refine sub_over0 ?_ | refine sub_trans (sub_same (by assumption)) ?_ | refine sub_dropu ?_ | refine sub_drop ?_ | refine sub_put ?_ (by repeat (first | assumption | exact upd_same _ _ _ | refine (upd_other _ _ (by omega)).trans ?_)))))) (by omega) 30 60) (fun _ _ _ h => h)) (fun kq hkq => ?_)
  refine aOps_1 rfl rfl rfl (AOp.move' (.inl rfl) rfl ?_)
  refine aOps_gd0 rfl rfl (wantF rfl rfl rfl) (fun hc => AOp.slots [(2, _)] (.cons rfl .nil) (AOp.move' (.inl rfl) rfl ⟨rfl, rfl, rfl⟩)) ?_
  refine aOps_gd0 rfl rfl (wantF rfl rfl rfl) (fun hc => AOp.slots [(13, _)] (.cons (gvT rfl hc) .nil) (AOp.bin' rfl rfl rfl rfl ⟨rfl, rfl, rfl⟩)) ?_
  refine aOps_1 rfl rfl rfl (AOp.pickOr rfl rfl rfl (fun hb => gvE rfl (t_not hb)) ?_)
  refine aOps_end ?_
  show ACode _ _ _ _ _ _
  refine ACode.cond rfl (fun c0 => ?_) (fun c0 => ?_)
  · try simp only [decide_eq_true_eq, decide_eq_false_iff_not, beq_iff_eq, beq_eq_false_iff_ne, ne_eq, bne_iff_ne, Bool.not_eq_true', Bool.not_eq_false', Int.not_lt, Int.not_le, gt_iff_lt, ge_iff_le, bne_eq_false_iff_eq, Bool.not_eq_eq_eq_not, Bool.not_true, Bool.not_false] at c0
    simp only [Bool.or_eq_true, decide_eq_true_eq] at c0
    refine ACode.seq ?_
    refine ACode.region' [0, 1] (by kernel_rfl) rfl ?_
    refine aOps_q rfl rfl rfl (AOp.call' rfl rfl rfl (awake19 _ _ (by repeat (first | assumption | exact upd_same _ _ _ | refine (upd_other _ _ (by omega)).trans ?_))) (fun _ _ _ h => h)) (fun kq hkq => ?_)
    refine aOps_1 rfl rfl rfl (AOp.move' (.inr rfl) rfl ?_)
    refine aOps_end ?_
    show ACode _ _ _ _ _ _
    refine ACode.ret ?_
    exact RetQ.one rfl rfl (by (repeat (first | exact sub_refl _ | assumption | refine sub_upd' ?_ (by ((repeat refine (upd_other _ _ (by omega)).trans ?_); first | exact hf _ (by omega))) | refine sub_over (by assumption) | refine sub_over0 ?_ | refine sub_trans (sub_same (by assumption)) ?_ | refine sub_dropu ?_ | refine sub_drop ?_ | refine sub_put ?_ (by repeat (first | assumption | exact upd_same _ _ _ | refine (upd_other _ _ (by omega)).trans ?_))))) stays (fun hk => ⟨rfl, rfl, by omega⟩)
  · try simp only [decide_eq_true_eq, decide_eq_false_iff_not, beq_iff_eq, beq_eq_false_iff_ne, ne_eq, bne_iff_ne, Bool.not_eq_true', Bool.not_eq_false', Int.not_lt, Int.not_le, gt_iff_lt, ge_iff_le, bne_eq_false_iff_eq, Bool.not_eq_eq_eq_not, Bool.not_true, Bool.not_false] at c0
    simp only [Bool.or_eq_false_iff, decide_eq_false_iff_not] at c0
    obtain ⟨g1, g2⟩ := c0
    obtain ⟨g4, g5⟩ := greatL_of g1
    have hb : ∀ x ∈ ls, x.length ≤ 549755813000 := fun x hx => Nat.le_trans (g5 x hx) (by decide)
    refine ACode.skip ?_
    show ACode _ _ _ _ _ _
    refine ACode.seq ?_
    refine ACode.region' [0, 1, 2, 3, 4, 5, 6, 7] (by kernel_rfl) rfl ?_
    refine aOps_1 rfl rfl rfl (AOp.move' (.inl rfl) rfl ?_)
    refine aOps_1 rfl rfl rfl (AOp.move' (.inl rfl) rfl ?_)
    refine aOps_1 rfl rfl rfl ?_
    refine AOp.call' rfl rfl rfl (path_b (vs.length + 1) ls vs A c i _ _ (by repeat (first | assumption | exact upd_same _ _ _ | refine (upd_other _ _ (by omega)).trans ?_)) (hs.sub (by (repeat (first | exact sub_refl _ | assumption | refine sub_upd' ?_ (by ((repeat refine (upd_other _ _ (by omega)).trans ?_); first | exact hf _ (by omega))) | refine sub_over (by assumption) | refine sub_over0 ?_ | refine sub_trans (sub_same (by assumption)) ?_ | refine sub_dropu ?_ | refine sub_drop ?_ | refine sub_put ?_ (by repeat (first | assumption | exact upd_same _ _ _ | refine (upd_other _ _ (by omega)).trans ?_)))))) (hL.sub (by (repeat (first | exact sub_refl _ | assumption | refine sub_upd' ?_ (by ((repeat refine (upd_other _ _ (by omega)).trans ?_); first | exact hf _ (by omega))) | refine sub_over (by assumption) | refine sub_over0 ?_ | refine sub_trans (sub_same (by assumption)) ?_ | refine sub_dropu ?_ | refine sub_drop ?_ | refine sub_put ?_ (by repeat (first | assumption | exact upd_same _ _ _ | refine (upd_other _ _ (by omega)).trans ?_)))))) (by omega) hb (by omega) (by omega) (by omega)) ?_
    rintro _ _ kq0 ⟨q, hq1, hq2, rfl, rfl⟩
    refine aOps_1 rfl rfl rfl (AOp.move' (.inl rfl) rfl ?_)
    refine aOps_1 rfl rfl rfl (AOp.extract' rfl rfl rfl ?_)
    refine aOps_1 rfl rfl rfl (AOp.extract' rfl rfl rfl ?_)
    refine aOps_1 rfl rfl rfl (AOp.move' (.inr rfl) rfl ?_)
    refine aOps_1 rfl rfl rfl (AOp.move' (.inr rfl) rfl ?_)
    refine aOps_end ?_
    show ACode _ _ _ _ _ _
    refine ACode.seq ?_
    refine ACode.region' [0, 1, 2, 3, 4, 5, 6, 7, 8] (by kernel_rfl) rfl ?_
    refine aOps_1 rfl rfl rfl (AOp.move' (.inl rfl) rfl ?_)
    refine aOps_1 rfl rfl rfl (AOp.bin' rfl rfl rfl rfl ?_)
    refine aOps_1 rfl rfl rfl (AOp.move' (.inl rfl) rfl ?_)
    refine aOps_gd0 rfl rfl (wantT rfl rfl rfl) (fun hc => AOp.slots [(1, _)] (.cons rfl .nil) (AOp.move' (.inl rfl) rfl ⟨rfl, rfl, rfl⟩)) ?_
    refine aOps_gd0 rfl rfl (wantT rfl rfl rfl) (fun hc => AOp.slots [(0, _)] (.cons rfl .nil) (AOp.move' (.inl rfl) rfl ⟨rfl, rfl, rfl⟩)) ?_
    refine aOps_gd0 rfl rfl (wantT rfl rfl rfl) (fun hc => AOp.slots [(27, _)] (.cons (gvT rfl hc) .nil) (AOp.len' rfl rfl ⟨rfl, rfl, rfl⟩)) ?_
    refine aOps_gd0 rfl rfl (wantT rfl rfl rfl) (fun hc => AOp.slots [(26, _), (28, _)] (.cons (gvT rfl hc) (.cons (gvT rfl hc) .nil)) (AOp.bin' rfl rfl rfl rfl ⟨rfl, rfl, rfl⟩)) ?_
    refine aOps_1 rfl rfl rfl (AOp.pickAnd rfl rfl rfl (fun hb => gvE rfl hb) ?_)
    refine aOps_1 rfl rfl rfl (AOp.move' (.inr rfl) rfl ?_)
    refine aOps_end ?_
    show ACode _ _ _ _ _ _
    refine ACode.seq ?_
    refine ACode.seq ?_
    have g8 : (decide (i ≥ 0) && decide (i < (vs.length : Int))) = false := by simp; omega
    rw [g8, inZ_no (n := vs.length) (i := i) hin, pathZ_bad (l := ls) (i := i) (by omega)]
    refine ACode.region' [0, 1, 2, 3, 4, 5, 6, 7, 8, 9, 10, 11, 12, 13, 14, 15, 16, 17, 18, 19, 20, 21, 22, 23, 24, 25, 26, 27, 28, 29, 30, 31, 32, 33, 34, 35, 36, 37, 38, 39, 40, 41, 42, 43, 44, 45] (by kernel_rfl) rfl ?_
    refine aOps_1 rfl rfl rfl (AOp.move' (.inl rfl) rfl ?_)
    refine aOps_1 rfl rfl rfl (AOp.move' (.inl rfl) rfl ?_)
    refine aOps_1 rfl rfl rfl (AOp.neBool rfl rfl rfl ?_)
    refine aOps_1 rfl rfl rfl (AOp.move' (.inl rfl) rfl ?_)
    refine aOps_w rfl rfl rfl (AOp.move' (.inl rfl) rfl ?_)
    refine aOps_w rfl rfl rfl (AOp.move' (.inl rfl) rfl ?_)
    refine aOps_wno rfl rfl rfl ?_
    refine aOps_wno rfl rfl rfl ?_
    refine aOps_wno rfl rfl rfl ?_
    refine aOps_wno rfl rfl rfl ?_
    refine aOps_wno rfl rfl rfl ?_
    refine aOps_wno rfl rfl rfl ?_
    refine aOps_w rfl rfl rfl (AOp.pickAnd (b' := false) rfl rfl rfl (fun h => absurd h (by decide)) ?_)
    refine aOps_1 rfl rfl rfl (AOp.pickOr rfl rfl rfl (fun hb => gvE rfl (t_not hb)) ?_)
    refine aOps_1 rfl rfl rfl (AOp.move' (.inl rfl) rfl ?_)
    refine aOps_w rfl rfl rfl (AOp.move' (.inl rfl) rfl ?_)
    refine aOps_w rfl rfl rfl (AOp.un' rfl rfl rfl ?_)
    refine aOps_w rfl rfl rfl (AOp.move' (.inl rfl) rfl ?_)
    refine aOps_w rfl rfl rfl (AOp.move' (.inl rfl) rfl ?_)
    refine aOps_w rfl rfl rfl (AOp.len' rfl rfl ?_)
    refine aOps_w rfl rfl rfl (AOp.bin' rfl rfl rfl rfl ?_)
    refine aOps_w rfl rfl rfl (AOp.pickAnd rfl rfl rfl (fun _ => rfl) ?_)
    refine aOps_1 rfl rfl rfl (AOp.pickOr rfl rfl rfl (fun hb => gvE rfl (t_not hb)) ?_)
    refine aOps_1 rfl rfl rfl (AOp.move' (.inl rfl) rfl ?_)
    refine aOps_w rfl rfl rfl (AOp.move' (.inl rfl) rfl ?_)
    refine aOps_wq rfl rfl rfl (AOp.call' rfl rfl rfl (root_b (vs.length + 1) ls vs A c _ _ (by repeat (first | assumption | exact upd_same _ _ _ | refine (upd_other _ _ (by omega)).trans ?_)) (hs.sub (by (repeat (first | exact sub_refl _ | assumption | refine sub_upd' ?_ (by ((repeat refine (upd_other _ _ (by omega)).trans ?_); first | exact hf _ (by omega))) | refine sub_over (by assumption) | refine sub_over0 ?_ | refine sub_trans (sub_same (by assumption)) ?_ | refine sub_dropu ?_ | refine sub_drop ?_ | refine sub_put ?_ (by repeat (first | assumption | exact upd_same _ _ _ | refine (upd_other _ _ (by omega)).trans ?_)))))) (hL.sub (by (repeat (first | exact sub_refl _ | assumption | refine sub_upd' ?_ (by ((repeat refine (upd_other _ _ (by omega)).trans ?_); first | exact hf _ (by omega))) | refine sub_over (by assumption) | refine sub_over0 ?_ | refine sub_trans (sub_same (by assumption)) ?_ | refine sub_dropu ?_ | refine sub_drop ?_ | refine sub_put ?_ (by repeat (first | assumption | exact upd_same _ _ _ | refine (upd_other _ _ (by omega)).trans ?_)))))) (by omega) hb (by omega)) (fun _ _ _ h => h)) (fun kq hkq => ?_)
    refine aOps_w rfl rfl rfl (AOp.move' (.inl rfl) rfl ?_)
    refine aOps_wq rfl rfl rfl (AOp.call' rfl rfl rfl (refroot_b (vs.length + 1) ls vs A c _ _ (by repeat (first | assumption | exact upd_same _ _ _ | refine (upd_other _ _ (by omega)).trans ?_)) (hs.sub (by (repeat (first | exact sub_refl _ | assumption | refine sub_upd' ?_ (by ((repeat refine (upd_other _ _ (by omega)).trans ?_); first | exact hf _ (by omega))) | refine sub_over (by assumption) | refine sub_over0 ?_ | refine sub_trans (sub_same (by assumption)) ?_ | refine sub_dropu ?_ | refine sub_drop ?_ | refine sub_put ?_ (by repeat (first | assumption | exact upd_same _ _ _ | refine (upd_other _ _ (by omega)).trans ?_)))))) (hL.sub (by (repeat (first | exact sub_refl _ | assumption | refine sub_upd' ?_ (by ((repeat refine (upd_other _ _ (by omega)).trans ?_); first | exact hf _ (by omega))) | refine sub_over (by assumption) | refine sub_over0 ?_ | refine sub_trans (sub_same (by assumption)) ?_ | refine sub_dropu ?_ | refine sub_drop ?_ | refine sub_put ?_ (by repeat (first | assumption | exact upd_same _ _ _ | refine (upd_other _ _ (by omega)).trans ?_)))))) (by omega) hb (by omega)) (fun _ _ _ h => h)) (fun kq hkq => ?_)
    refine aOps_w rfl rfl rfl (AOp.neAgg (decide (root ls = root ls)) rfl rfl rfl (hv_sc _) (hv_sc _) (hv_iff _ _) ?_)
    rw [show decide (root ls = root ls) = true from decide_eq_true rfl]
    refine aOps_1 rfl rfl rfl (AOp.pickOr rfl rfl rfl (fun hb => gvE rfl (t_not hb)) ?_)
    refine aOps_1 rfl rfl rfl (AOp.move' (.inl rfl) rfl ?_)
    refine aOps_w rfl rfl rfl (AOp.move' (.inl rfl) rfl ?_)
    refine aOps_wq rfl rfl rfl (AOp.call' rfl rfl rfl (split_z _ _ n hn1 hn2) (fun _ _ _ h => h)) (fun kq hkq => ?_)
    refine aOps_w rfl rfl rfl (AOp.move' (.inl rfl) rfl ?_)
    refine aOps_wq rfl rfl rfl (AOp.call' rfl rfl rfl (refsplit_z _ _ n hn1 (by omega)) (fun _ _ _ h => h)) (fun kq hkq => ?_)
    refine aOps_w rfl rfl rfl (AOp.bin' rfl rfl rfl rfl ?_)
    rw [show (spZ n != spZ n) = false by simp]
    refine aOps_1 rfl rfl rfl (AOp.pickOr rfl rfl rfl (fun hb => gvE rfl (t_not hb)) ?_)
    refine aOps_1 rfl rfl rfl (AOp.move' (.inl rfl) rfl ?_)
    refine aOps_w rfl rfl rfl (AOp.move' (.inl rfl) rfl ?_)
    refine aOps_w rfl rfl rfl (AOp.move' (.inl rfl) rfl ?_)
    refine aOps_wq rfl rfl rfl (AOp.call' rfl rfl rfl (depth_z _ _ i n (by omega) (by omega) hn1 hn2) (fun _ _ _ h => h)) (fun kq hkq => ?_)
    refine aOps_w rfl rfl rfl (AOp.move' (.inl rfl) rfl ?_)
    refine aOps_w rfl rfl rfl (AOp.move' (.inl rfl) rfl ?_)
    refine aOps_wq rfl rfl rfl (AOp.call' rfl rfl rfl (refdepth_z (n.toNat + 1) i n _ _ (by omega) (by omega) hn1 (by omega) (by omega)) (fun _ _ _ h => h)) (fun kq hkq => ?_)
    refine aOps_w rfl rfl rfl (AOp.bin' rfl rfl rfl rfl ?_)
    rw [show (depthZ i n != depthZ i n) = false by simp]
    refine aOps_1 rfl rfl rfl (AOp.pickOr rfl rfl rfl (fun hb => gvE rfl (t_not hb)) ?_)
    refine aOps_end ?_
    show ACode _ _ _ _ _ _
    refine ACode.cond rfl (fun c1 => absurd c1 (by simp)) (fun c1 => ?_)
    refine ACode.skip ?_
    show ACode _ _ _ _ _ _
    refine ACode.seq ?_
    obtain ⟨A0, d0, e0, hc0⟩ := hL.at_ 0 (by omega)
    obtain ⟨A1, d1, e1, hc1⟩ := hL.at_ 1 (by omega)
    have hm0 : ls.getD 0 [] ∈ ls := by rw [getD_el (by omega)]; exact List.getElem_mem _
    have hm1 : ls.getD 1 [] ∈ ls := by rw [getD_el (by omega)]; exact List.getElem_mem _
    obtain ⟨n7_5, o7_5, s7_5, hq7_5, hp7_5⟩ := e0 ▸ slcElV hs.cells (show 0 < vs.length by omega)
    obtain ⟨n7_9, o7_9, s7_9, hq7_9, hp7_9⟩ := e1 ▸ slcElV hs.cells (show 1 < vs.length by omega)
    obtain ⟨n7_14, o7_14, s7_14, hq7_14, hp7_14⟩ := e0 ▸ slcElV hs.cells (show 0 < vs.length by omega)
    obtain ⟨n7_18, o7_18, s7_18, hq7_18, hp7_18⟩ := e1 ▸ slcElV hs.cells (show 1 < vs.length by omega)
    refine ACode.draw' 28 [(0, 77), (1, 78), (2, 79), (3, 80), (4, 81), (5, 82), (6, 83), (7, 84), (8, 85), (9, 86), (10, 87), (11, 88), (12, 89), (13, 90), (14, 91), (15, 92), (16, 93), (17, 94), (18, 95), (19, 96), (20, 97), (21, 98), (22, 99), (23, 100), (24, 101), (25, 102), (26, 103), (27, 6)] mixed (by kernel_rfl) ?_
    refine Draw.step [(0, none)] rfl (by kernel_rfl) rfl (fun kq hkq => AOp.move' (.inl rfl) rfl ⟨rfl, rfl, Nat.le_refl _⟩) ?_
    refine Draw.step [(77, some 0)] rfl (by kernel_rfl) rfl (fun kq hkq => AOp.len' rfl rfl ⟨rfl, rfl, Nat.le_refl _⟩) ?_
    refine Draw.step [(78, some 1)] rfl (by kernel_rfl) rfl (fun kq hkq => AOp.bin' rfl rfl rfl rfl ⟨rfl, rfl, Nat.le_refl _⟩) ?_
    refine Draw.step [(79, some 2)] rfl (by kernel_rfl) rfl (fun kq hkq => AOp.move' (.inl rfl) rfl ⟨rfl, rfl, Nat.le_refl _⟩) ?_
    refine Draw.gd [(0, none), (80, some 3)] rfl (by kernel_rfl) (wantF rfl rfl rfl) (fun kq hkq hc => AOp.slots [(0, _)] (.cons rfl .nil) (AOp.move' (.inl rfl) rfl ⟨rfl, rfl, Nat.le_refl _⟩)) ?_
    refine Draw.gd [(81, some 4), (80, some 3)] rfl (by kernel_rfl) (wantF rfl rfl rfl) (fun kq hkq hc => AOp.slots [(81, _)] (.cons (gvT rfl hc) .nil) (AOp.indexP (aslcAt_sub (by (repeat (first | exact sub_refl _ | assumption | refine sub_upd' ?_ (by ((repeat refine (upd_other _ _ (by omega)).trans ?_); first | exact hf _ (by omega))) | refine sub_over (by assumption) | refine sub_over0 ?_ | refine sub_trans (sub_same (by assumption)) ?_ | refine sub_dropu ?_ | refine sub_drop ?_ | refine sub_put ?_ (by repeat (first | assumption | exact upd_same _ _ _ | refine (upd_other _ _ (by omega)).trans ?_))))) hq7_5) rfl rfl rfl ⟨rfl, rfl, Nat.le_refl _⟩)) ?_
    refine Draw.gd [(82, some 5), (80, some 3)] rfl (by kernel_rfl) (wantF rfl rfl rfl) (fun kq hkq hc => AOp.slots [(82, _)] (.cons (gvT rfl hc) .nil) (AOp.loadP0 (hp7_5.sub (by (repeat (first | exact sub_refl _ | assumption | refine sub_upd' ?_ (by ((repeat refine (upd_other _ _ (by omega)).trans ?_); first | exact hf _ (by omega))) | refine sub_over (by assumption) | refine sub_over0 ?_ | refine sub_trans (sub_same (by assumption)) ?_ | refine sub_dropu ?_ | refine sub_drop ?_ | refine sub_put ?_ (by repeat (first | assumption | exact upd_same _ _ _ | refine (upd_other _ _ (by omega)).trans ?_)))))) rfl rfl rfl ⟨rfl, rfl, Nat.le_refl _⟩)) ?_
    refine Draw.gd [(83, some 6), (80, some 3)] rfl (by kernel_rfl) (wantF rfl rfl rfl) (fun kq hkq hc => AOp.slots [(83, _)] (.cons (gvT rfl hc) .nil) (AOp.call' rfl rfl rfl (leaf_b _ _ (by repeat (first | assumption | exact upd_same _ _ _ | refine (upd_other _ _ (by omega)).trans ?_)) (ls.getD 0 []) A0 d0 (hc0.sub (by (repeat (first | exact sub_refl _ | assumption | refine sub_upd' ?_ (by ((repeat refine (upd_other _ _ (by omega)).trans ?_); first | exact hf _ (by omega))) | refine sub_over (by assumption) | refine sub_over0 ?_ | refine sub_trans (sub_same (by assumption)) ?_ | refine sub_dropu ?_ | refine sub_drop ?_ | refine sub_put ?_ (by repeat (first | assumption | exact upd_same _ _ _ | refine (upd_other _ _ (by omega)).trans ?_)))))) (hb _ hm0)) (fun _ _ _ h => h))) ?_
    refine Draw.gd [(0, none), (80, some 3)] rfl (by kernel_rfl) (wantF rfl rfl rfl) (fun kq hkq hc => AOp.slots [(0, _)] (.cons rfl .nil) (AOp.move' (.inl rfl) rfl ⟨rfl, rfl, Nat.le_refl _⟩)) ?_
    refine Draw.gd [(85, some 8), (80, some 3)] rfl (by kernel_rfl) (wantF rfl rfl rfl) (fun kq hkq hc => AOp.slots [(85, _)] (.cons (gvT rfl hc) .nil) (AOp.indexP (aslcAt_sub (by (repeat (first | exact sub_refl _ | assumption | refine sub_upd' ?_ (by ((repeat refine (upd_other _ _ (by omega)).trans ?_); first | exact hf _ (by omega))) | refine sub_over (by assumption) | refine sub_over0 ?_ | refine sub_trans (sub_same (by assumption)) ?_ | refine sub_dropu ?_ | refine sub_drop ?_ | refine sub_put ?_ (by repeat (first | assumption | exact upd_same _ _ _ | refine (upd_other _ _ (by omega)).trans ?_))))) hq7_9) rfl rfl rfl ⟨rfl, rfl, Nat.le_refl _⟩)) ?_
    refine Draw.gd [(86, some 9), (80, some 3)] rfl (by kernel_rfl) (wantF rfl rfl rfl) (fun kq hkq hc => AOp.slots [(86, _)] (.cons (gvT rfl hc) .nil) (AOp.loadP0 (hp7_9.sub (by (repeat (first | exact sub_refl _ | assumption | refine sub_upd' ?_ (by ((repeat refine (upd_other _ _ (by omega)).trans ?_); first | exact hf _ (by omega))) | refine sub_over (by assumption) | refine sub_over0 ?_ | refine sub_trans (sub_same (by assumption)) ?_ | refine sub_dropu ?_ | refine sub_drop ?_ | refine sub_put ?_ (by repeat (first | assumption | exact upd_same _ _ _ | refine (upd_other _ _ (by omega)).trans ?_)))))) rfl rfl rfl ⟨rfl, rfl, Nat.le_refl _⟩)) ?_
    refine Draw.gd [(87, some 10), (80, some 3)] rfl (by kernel_rfl) (wantF rfl rfl rfl) (fun kq hkq hc => AOp.slots [(87, _)] (.cons (gvT rfl hc) .nil) (AOp.call' rfl rfl rfl (leaf_b _ _ (by repeat (first | assumption | exact upd_same _ _ _ | refine (upd_other _ _ (by omega)).trans ?_)) (ls.getD 1 []) A1 d1 (hc1.sub (by (repeat (first | exact sub_refl _ | assumption | refine sub_upd' ?_ (by ((repeat refine (upd_other _ _ (by omega)).trans ?_); first | exact hf _ (by omega))) | refine sub_over (by assumption) | refine sub_over0 ?_ | refine sub_trans (sub_same (by assumption)) ?_ | refine sub_dropu ?_ | refine sub_drop ?_ | refine sub_put ?_ (by repeat (first | assumption | exact upd_same _ _ _ | refine (upd_other _ _ (by omega)).trans ?_)))))) (hb _ hm1)) (fun _ _ _ h => h))) ?_
    refine Draw.gd [(84, some 7), (88, some 11), (80, some 3)] rfl (by kernel_rfl) (wantF rfl rfl rfl) (fun kq hkq hc => AOp.slots [(84, _), (88, _)] (.cons (gvT rfl hc) (.cons (gvT rfl hc) .nil)) (AOp.call' rfl rfl rfl (node_b _ _ (by repeat (first | assumption | exact upd_same _ _ _ | refine (upd_other _ _ (by omega)).trans ?_)) _ _) (fun _ _ _ h => h))) ?_
    refine Draw.gd [(0, none), (80, some 3)] rfl (by kernel_rfl) (wantF rfl rfl rfl) (fun kq hkq hc => AOp.slots [(0, _)] (.cons rfl .nil) (AOp.move' (.inl rfl) rfl ⟨rfl, rfl, Nat.le_refl _⟩)) ?_
    refine Draw.gd [(90, some 13), (80, some 3)] rfl (by kernel_rfl) (wantF rfl rfl rfl) (fun kq hkq hc => AOp.slots [(90, _)] (.cons (gvT rfl hc) .nil) (AOp.indexP (aslcAt_sub (by (repeat (first | exact sub_refl _ | assumption | refine sub_upd' ?_ (by ((repeat refine (upd_other _ _ (by omega)).trans ?_); first | exact hf _ (by omega))) | refine sub_over (by assumption) | refine sub_over0 ?_ | refine sub_trans (sub_same (by assumption)) ?_ | refine sub_dropu ?_ | refine sub_drop ?_ | refine sub_put ?_ (by repeat (first | assumption | exact upd_same _ _ _ | refine (upd_other _ _ (by omega)).trans ?_))))) hq7_14) rfl rfl rfl ⟨rfl, rfl, Nat.le_refl _⟩)) ?_
    refine Draw.gd [(91, some 14), (80, some 3)] rfl (by kernel_rfl) (wantF rfl rfl rfl) (fun kq hkq hc => AOp.slots [(91, _)] (.cons (gvT rfl hc) .nil) (AOp.loadP0 (hp7_14.sub (by (repeat (first | exact sub_refl _ | assumption | refine sub_upd' ?_ (by ((repeat refine (upd_other _ _ (by omega)).trans ?_); first | exact hf _ (by omega))) | refine sub_over (by assumption) | refine sub_over0 ?_ | refine sub_trans (sub_same (by assumption)) ?_ | refine sub_dropu ?_ | refine sub_drop ?_ | refine sub_put ?_ (by repeat (first | assumption | exact upd_same _ _ _ | refine (upd_other _ _ (by omega)).trans ?_)))))) rfl rfl rfl ⟨rfl, rfl, Nat.le_refl _⟩)) ?_
    refine Draw.gd [(92, some 15), (80, some 3)] rfl (by kernel_rfl) (wantF rfl rfl rfl) (fun kq hkq hc => AOp.slots [(92, _)] (.cons (gvT rfl hc) .nil) (AOp.call' rfl rfl rfl (refleaf_b _ _ (ls.getD 0 []) A0 d0 (hc0.sub (by (repeat (first | exact sub_refl _ | assumption | refine sub_upd' ?_ (by ((repeat refine (upd_other _ _ (by omega)).trans ?_); first | exact hf _ (by omega))) | refine sub_over (by assumption) | refine sub_over0 ?_ | refine sub_trans (sub_same (by assumption)) ?_ | refine sub_dropu ?_ | refine sub_drop ?_ | refine sub_put ?_ (by repeat (first | assumption | exact upd_same _ _ _ | refine (upd_other _ _ (by omega)).trans ?_)))))) (hb _ hm0)) (fun _ _ _ h => h))) ?_
    refine Draw.gd [(0, none), (80, some 3)] rfl (by kernel_rfl) (wantF rfl rfl rfl) (fun kq hkq hc => AOp.slots [(0, _)] (.cons rfl .nil) (AOp.move' (.inl rfl) rfl ⟨rfl, rfl, Nat.le_refl _⟩)) ?_
    refine Draw.gd [(94, some 17), (80, some 3)] rfl (by kernel_rfl) (wantF rfl rfl rfl) (fun kq hkq hc => AOp.slots [(94, _)] (.cons (gvT rfl hc) .nil) (AOp.indexP (aslcAt_sub (by (repeat (first | exact sub_refl _ | assumption | refine sub_upd' ?_ (by ((repeat refine (upd_other _ _ (by omega)).trans ?_); first | exact hf _ (by omega))) | refine sub_over (by assumption) | refine sub_over0 ?_ | refine sub_trans (sub_same (by assumption)) ?_ | refine sub_dropu ?_ | refine sub_drop ?_ | refine sub_put ?_ (by repeat (first | assumption | exact upd_same _ _ _ | refine (upd_other _ _ (by omega)).trans ?_))))) hq7_18) rfl rfl rfl ⟨rfl, rfl, Nat.le_refl _⟩)) ?_
    refine Draw.gd [(95, some 18), (80, some 3)] rfl (by kernel_rfl) (wantF rfl rfl rfl) (fun kq hkq hc => AOp.slots [(95, _)] (.cons (gvT rfl hc) .nil) (AOp.loadP0 (hp7_18.sub (by (repeat (first | exact sub_refl _ | assumption | refine sub_upd' ?_ (by ((repeat refine (upd_other _ _ (by omega)).trans ?_); first | exact hf _ (by omega))) | refine sub_over (by assumption) | refine sub_over0 ?_ | refine sub_trans (sub_same (by assumption)) ?_ | refine sub_dropu ?_ | refine sub_drop ?_ | refine sub_put ?_ (by repeat (first | assumption | exact upd_same _ _ _ | refine (upd_other _ _ (by omega)).trans ?_)))))) rfl rfl rfl ⟨rfl, rfl, Nat.le_refl _⟩)) ?_
    refine Draw.gd [(96, some 19), (80, some 3)] rfl (by kernel_rfl) (wantF rfl rfl rfl) (fun kq hkq hc => AOp.slots [(96, _)] (.cons (gvT rfl hc) .nil) (AOp.call' rfl rfl rfl (refleaf_b _ _ (ls.getD 1 []) A1 d1 (hc1.sub (by (repeat (first | exact sub_refl _ | assumption | refine sub_upd' ?_ (by ((repeat refine (upd_other _ _ (by omega)).trans ?_); first | exact hf _ (by omega))) | refine sub_over (by assumption) | refine sub_over0 ?_ | refine sub_trans (sub_same (by assumption)) ?_ | refine sub_dropu ?_ | refine sub_drop ?_ | refine sub_put ?_ (by repeat (first | assumption | exact upd_same _ _ _ | refine (upd_other _ _ (by omega)).trans ?_)))))) (hb _ hm1)) (fun _ _ _ h => h))) ?_
    refine Draw.gd [(93, some 16), (97, some 20), (80, some 3)] rfl (by kernel_rfl) (wantF rfl rfl rfl) (fun kq hkq hc => AOp.slots [(93, _), (97, _)] (.cons (gvT rfl hc) (.cons (gvT rfl hc) .nil)) (AOp.call' rfl rfl rfl (refnode_b _ _ _ _) (fun _ _ _ h => h))) ?_
    refine Draw.gd [(89, some 12), (98, some 21), (80, some 3)] rfl (by kernel_rfl) (wantF rfl rfl rfl) (fun kq hkq hc => AOp.slots [(89, _), (98, _)] (.cons (gvT rfl hc) (.cons (gvT rfl hc) .nil)) (AOp.eqAgg (decide (nd (lf (ls.getD 0 [])) (lf (ls.getD 1 [])) = nd (lf (ls.getD 0 [])) (lf (ls.getD 1 [])))) rfl rfl rfl (hv_sc _) (hv_sc _) (hv_iff _ _) ⟨rfl, rfl, Nat.le_refl _⟩)) ?_
    refine Draw.step [(80, some 3), (99, some 22)] rfl (by kernel_rfl) rfl (fun kq hkq => AOp.pickOr rfl rfl rfl (fun hb => gvE rfl (t_not hb)) ⟨rfl, rfl, Nat.le_refl _⟩) ?_
    refine Draw.step [(100, some 23)] rfl (by kernel_rfl) rfl (fun kq hkq => AOp.move' (.inl rfl) rfl ⟨rfl, rfl, Nat.le_refl _⟩) ?_
    refine Draw.gd [(101, some 24)] rfl (by kernel_rfl) (wantT rfl rfl rfl) (fun kq hkq hc => AOp.slots [] .nil (AOp.call' rfl rfl rfl (awake19 _ _ (by repeat (first | assumption | exact upd_same _ _ _ | refine (upd_other _ _ (by omega)).trans ?_))) (fun _ _ _ h => h))) ?_
    refine Draw.step [(101, some 24), (102, some 25)] rfl (by kernel_rfl) rfl (fun kq hkq => AOp.pickAnd rfl rfl rfl (fun hb => gvE rfl hb) ⟨rfl, rfl, Nat.le_refl _⟩) ?_
    refine Draw.step [(103, some 26)] rfl (by kernel_rfl) rfl (fun kq hkq => AOp.move' (.inr rfl) rfl ⟨rfl, rfl, Nat.le_refl _⟩) ?_
    refine Draw.done fun kq hkq => ?_
    show aOps _ _ _ _ [] ⟨_, _, _⟩
    refine aOps_end ?_
    show ACode _ _ _ _ _ _
    refine ACode.ret ?_
    exact RetQ.one rfl rfl (by (repeat (first | exact sub_refl _ | assumption | refine sub_upd' ?_ (by ((repeat refine (upd_other _ _ (by omega)).trans ?_); first | exact hf _ (by omega))) | refine sub_over (by assumption) | refine sub_over0 ?_ | refine sub_trans (sub_same (by assumption)) ?_ | refine sub_dropu ?_ | refine sub_drop ?_ | refine sub_put ?_ (by repeat (first | assumption | exact upd_same _ _ _ | refine (upd_other _ _ (by omega)).trans ?_))))) stays (fun hk => ⟨(by simp), rfl, by omega⟩)

theorem treeRoots_out1 (ht : H 0 = some tabBlk) (ls : List (List UInt8)) (vs : List Value) (A : Option Addr) (c : Nat) (hs : SLC H 1 A vs.length c vs) (hL : Lvs H vs ls) (hl : vs.length ≤ 9223372036854775807) (i : Int) (hi1 : -9223372036854775808 ≤ i) (hi2 : i ≤ 9223372036854775807) (n : Int) (hn1 : -9223372036854775808 ≤ n) (hn2 : n ≤ 9223372036854775807) (hin : ¬ (0 ≤ i ∧ i < (vs.length : Int))) (h2v : ¬ 2 ≤ vs.length) : ACalls Tryd.prog 1 9 [.slice A vs.length c, .int .i64 i, .int .i64 n] H k (Same H k (.bool true)) := by
  refine ACalls.fresh fun hf => ?_
  refine ACalls.body Tryd.func9 rfl (Nat.le_of_ble_eq_true rfl) ?_
  have h0k := old_lt hf ht
  have hvl := hL.len
  refine ACode.seq ?_
  refine ACode.region' [0] (by kernel_rfl) rfl ?_
  refine aOps_1 rfl rfl rfl (AOp.move' (.inr rfl) rfl ?_)
  refine aOps_end ?_
  show ACode _ _ _ _ _ _
  refine ACode.seq ?_
  refine ACode.seq ?_
  refine ACode.region' [0, 1, 2, 3, 4, 5] (by kernel_rfl) rfl ?_
  refine aOps_1 rfl rfl rfl (AOp.move' (.inl rfl) rfl ?_)
  refine aOps_q rfl rfl rfl (AOp.call' rfl rfl rfl (great_l _ _ ls vs A c (hs.sub (by (repeat (first | exact sub_refl _ | assumption | refine sub_upd' ?_ (by ((repeat refine (upd_other _ _ (by omega)).trans ?_); first | exact hf _ (by omega))) | refine sub_over (by assumption) | refine sub_over0 ?_ | refine sub_trans (sub_same (by assumption)) ?_ | refine sub_dropu ?_ | refine sub_drop ?_ | refine sub_put ?_ (by repeat (first | assumption | exact upd_same _ _ _ | refine (upd_other _ _ (by omega)).trans ?_)))))) (hL.sub (by (repeat (first | exact sub_refl _ | assumption | refine sub_upd' ?_ (by ((repeat refine (upd_other _ _ (by omega)).trans ?_); first | exact hf _ (by omega))) | refine sub_over (by assumption) | refine sub_over0 ?_ | refine sub_trans (sub_same (by assumption)) ?_ | refine sub_dropu ?_ | refine sub_drop ?_ | refine sub_put ?_ (by repeat (first | assumption | exact upd_same _ _ _ | refine (upd_other _ _ (by omega)).trans ?_)))))) (by omega) 30 60) (fun _ _ _ h => h)) (fun kq hkq => ?_)
  refine aOps_1 rfl rfl rfl (AOp.move' (.inl rfl) rfl ?_)
  refine aOps_gd0 rfl rfl (wantF rfl rfl rfl) (fun hc => AOp.slots [(2, _)] (.cons rfl .nil) (AOp.move' (.inl rfl) rfl ⟨rfl, rfl, rfl⟩)) ?_
  refine aOps_gd0 rfl rfl (wantF rfl rfl rfl) (fun hc => AOp.slots [(13, _)] (.cons (gvT rfl hc) .nil) (AOp.bin' rfl rfl rfl rfl ⟨rfl, rfl, rfl⟩)) ?_
  refine aOps_1 rfl rfl rfl (AOp.pickOr rfl rfl rfl (fun hb => gvE rfl (t_not hb)) ?_)
  refine aOps_end ?_
  show ACode _ _ _ _ _ _
  refine ACode.cond rfl (fun c0 => ?_) (fun c0 => ?_)
  · try simp only [decide_eq_true_eq, decide_eq_false_iff_not, beq_iff_eq, beq_eq_false_iff_ne, ne_eq, bne_iff_ne, Bool.not_eq_true', Bool.not_eq_false', Int.not_lt, Int.not_le, gt_iff_lt, ge_iff_le, bne_eq_false_iff_eq, Bool.not_eq_eq_eq_not, Bool.not_true, Bool.not_false] at c0
    simp only [Bool.or_eq_true, decide_eq_true_eq] at c0
    refine ACode.seq ?_
    refine ACode.region' [0, 1] (by kernel_rfl) rfl ?_
    refine aOps_q rfl rfl rfl (AOp.call' rfl rfl rfl (awake19 _ _ (by repeat (first | assumption | exact upd_same _ _ _ | refine (upd_other _ _ (by omega)).trans ?_))) (fun _ _ _ h => h)) (fun kq hkq => ?_)
    refine aOps_1 rfl rfl rfl (AOp.move' (.inr rfl) rfl ?_)
    refine aOps_end ?_
    show ACode _ _ _ _ _ _
    refine ACode.ret ?_
    exact RetQ.one rfl rfl (by (repeat (first | exact sub_refl _ | assumption | refine sub_upd' ?_ (by ((repeat refine (upd_other _ _ (by omega)).trans ?_); first | exact hf _ (by omega))) | refine sub_over (by assumption) | refine sub_over0 ?_ | refine sub_trans (sub_same (by assumption)) ?_ | refine sub_dropu ?_ | refine sub_drop ?_ | refine sub_put ?_ (by repeat (first | assumption | exact upd_same _ _ _ | refine (upd_other _ _ (by omega)).trans ?_))))) stays (fun hk => ⟨rfl, rfl, by omega⟩)
  · try simp only [decide_eq_true_eq, decide_eq_false_iff_not, beq_iff_eq, beq_eq_false_iff_ne, ne_eq, bne_iff_ne, Bool.not_eq_true', Bool.not_eq_false', Int.not_lt, Int.not_le, gt_iff_lt, ge_iff_le, bne_eq_false_iff_eq, Bool.not_eq_eq_eq_not, Bool.not_true, Bool.not_false] at c0
    simp only [Bool.or_eq_false_iff, decide_eq_false_iff_not] at c0
    obtain ⟨g1, g2⟩ := c0
    obtain ⟨g4, g5⟩ := greatL_of g1
    have hb : ∀ x ∈ ls, x.length ≤ 549755813000 := fun x hx => Nat.le_trans (g5 x hx) (by decide)
    refine ACode.skip ?_
    show ACode _ _ _ _ _ _
    refine ACode.seq ?_
    refine ACode.region' [0, 1, 2, 3, 4, 5, 6, 7] (by kernel_rfl) rfl ?_
    refine aOps_1 rfl rfl rfl (AOp.move' (.inl rfl) rfl ?_)
    refine aOps_1 rfl rfl rfl (AOp.move' (.inl rfl) rfl ?_)
    refine aOps_1 rfl rfl rfl ?_
    refine AOp.call' rfl rfl rfl (path_b (vs.length + 1) ls vs A c i _ _ (by repeat (first | assumption | exact upd_same _ _ _ | refine (upd_other _ _ (by omega)).trans ?_)) (hs.sub (by (repeat (first | exact sub_refl _ | assumption | refine sub_upd' ?_ (by ((repeat refine (upd_other _ _ (by omega)).trans ?_); first | exact hf _ (by omega))) | refine sub_over (by assumption) | refine sub_over0 ?_ | refine sub_trans (sub_same (by assumption)) ?_ | refine sub_dropu ?_ | refine sub_drop ?_ | refine sub_put ?_ (by repeat (first | assumption | exact upd_same _ _ _ | refine (upd_other _ _ (by omega)).trans ?_)))))) (hL.sub (by (repeat (first | exact sub_refl _ | assumption | refine sub_upd' ?_ (by ((repeat refine (upd_other _ _ (by omega)).trans ?_); first | exact hf _ (by omega))) | refine sub_over (by assumption) | refine sub_over0 ?_ | refine sub_trans (sub_same (by assumption)) ?_ | refine sub_dropu ?_ | refine sub_drop ?_ | refine sub_put ?_ (by repeat (first | assumption | exact upd_same _ _ _ | refine (upd_other _ _ (by omega)).trans ?_)))))) (by omega) hb (by omega) (by omega) (by omega)) ?_
    rintro _ _ kq0 ⟨q, hq1, hq2, rfl, rfl⟩
    refine aOps_1 rfl rfl rfl (AOp.move' (.inl rfl) rfl ?_)
    refine aOps_1 rfl rfl rfl (AOp.extract' rfl rfl rfl ?_)
    refine aOps_1 rfl rfl rfl (AOp.extract' rfl rfl rfl ?_)
    refine aOps_1 rfl rfl rfl (AOp.move' (.inr rfl) rfl ?_)
    refine aOps_1 rfl rfl rfl (AOp.move' (.inr rfl) rfl ?_)
    refine aOps_end ?_
    show ACode _ _ _ _ _ _
    refine ACode.seq ?_
    refine ACode.region' [0, 1, 2, 3, 4, 5, 6, 7, 8] (by kernel_rfl) rfl ?_
    refine aOps_1 rfl rfl rfl (AOp.move' (.inl rfl) rfl ?_)
    refine aOps_1 rfl rfl rfl (AOp.bin' rfl rfl rfl rfl ?_)
    refine aOps_1 rfl rfl rfl (AOp.move' (.inl rfl) rfl ?_)
    refine aOps_gd0 rfl rfl (wantT rfl rfl rfl) (fun hc => AOp.slots [(1, _)] (.cons rfl .nil) (AOp.move' (.inl rfl) rfl ⟨rfl, rfl, rfl⟩)) ?_
    refine aOps_gd0 rfl rfl (wantT rfl rfl rfl) (fun hc => AOp.slots [(0, _)] (.cons rfl .nil) (AOp.move' (.inl rfl) rfl ⟨rfl, rfl, rfl⟩)) ?_
    refine aOps_gd0 rfl rfl (wantT rfl rfl rfl) (fun hc => AOp.slots [(27, _)] (.cons (gvT rfl hc) .nil) (AOp.len' rfl rfl ⟨rfl, rfl, rfl⟩)) ?_
    refine aOps_gd0 rfl rfl (wantT rfl rfl rfl) (fun hc => AOp.slots [(26, _), (28, _)] (.cons (gvT rfl hc) (.cons (gvT rfl hc) .nil)) (AOp.bin' rfl rfl rfl rfl ⟨rfl, rfl, rfl⟩)) ?_
    refine aOps_1 rfl rfl rfl (AOp.pickAnd rfl rfl rfl (fun hb => gvE rfl hb) ?_)
    refine aOps_1 rfl rfl rfl (AOp.move' (.inr rfl) rfl ?_)
    refine aOps_end ?_
    show ACode _ _ _ _ _ _
    refine ACode.seq ?_
    refine ACode.seq ?_
    have g8 : (decide (i ≥ 0) && decide (i < (vs.length : Int))) = false := by simp; omega
    rw [g8, inZ_no (n := vs.length) (i := i) hin, pathZ_bad (l := ls) (i := i) (by omega)]
    refine ACode.region' [0, 1, 2, 3, 4, 5, 6, 7, 8, 9, 10, 11, 12, 13, 14, 15, 16, 17, 18, 19, 20, 21, 22, 23, 24, 25, 26, 27, 28, 29, 30, 31, 32, 33, 34, 35, 36, 37, 38, 39, 40, 41, 42, 43, 44, 45] (by kernel_rfl) rfl ?_
    refine aOps_1 rfl rfl rfl (AOp.move' (.inl rfl) rfl ?_)
    refine aOps_1 rfl rfl rfl (AOp.move' (.inl rfl) rfl ?_)
    refine aOps_1 rfl rfl rfl (AOp.neBool rfl rfl rfl ?_)
    refine aOps_1 rfl rfl rfl (AOp.move' (.inl rfl) rfl ?_)
    refine aOps_w rfl rfl rfl (AOp.move' (.inl rfl) rfl ?_)
    refine aOps_w rfl rfl rfl (AOp.move' (.inl rfl) rfl ?_)
    refine aOps_wno rfl rfl rfl ?_
    refine aOps_wno rfl rfl rfl ?_
    refine aOps_wno rfl rfl rfl ?_
    refine aOps_wno rfl rfl rfl ?_
    refine aOps_wno rfl rfl rfl ?_
    refine aOps_wno rfl rfl rfl ?_
    refine aOps_w rfl rfl rfl (AOp.pickAnd (b' := false) rfl rfl rfl (fun h => absurd h (by decide)) ?_)
    refine aOps_1 rfl rfl rfl (AOp.pickOr rfl rfl rfl (fun hb => gvE rfl (t_not hb)) ?_)
    refine aOps_1 rfl rfl rfl (AOp.move' (.inl rfl) rfl ?_)
    refine aOps_w rfl rfl rfl (AOp.move' (.inl rfl) rfl ?_)
    refine aOps_w rfl rfl rfl (AOp.un' rfl rfl rfl ?_)
    refine aOps_w rfl rfl rfl (AOp.move' (.inl rfl) rfl ?_)
    refine aOps_w rfl rfl rfl (AOp.move' (.inl rfl) rfl ?_)
    refine aOps_w rfl rfl rfl (AOp.len' rfl rfl ?_)
    refine aOps_w rfl rfl rfl (AOp.bin' rfl rfl rfl rfl ?_)
    refine aOps_w rfl rfl rfl (AOp.pickAnd rfl rfl rfl (fun _ => rfl) ?_)
    refine aOps_1 rfl rfl rfl (AOp.pickOr rfl rfl rfl (fun hb => gvE rfl (t_not hb)) ?_)
    refine aOps_1 rfl rfl rfl (AOp.move' (.inl rfl) rfl ?_)
    refine aOps_w rfl rfl rfl (AOp.move' (.inl rfl) rfl ?_)
    refine aOps_wq rfl rfl rfl (AOp.call' rfl rfl rfl (root_b (vs.length + 1) ls vs A c _ _ (by repeat (first | assumption | exact upd_same _ _ _ | refine (upd_other _ _ (by omega)).trans ?_)) (hs.sub (by (repeat (first | exact sub_refl _ | assumption | refine sub_upd' ?_ (by ((repeat refine (upd_other _ _ (by omega)).trans ?_); first | exact hf _ (by omega))) | refine sub_over (by assumption) | refine sub_over0 ?_ | refine sub_trans (sub_same (by assumption)) ?_ | refine sub_dropu ?_ | refine sub_drop ?_ | refine sub_put ?_ (by repeat (first | assumption | exact upd_same _ _ _ | refine (upd_other _ _ (by omega)).trans ?_)))))) (hL.sub (by (repeat (first | exact sub_refl _ | assumption | refine sub_upd' ?_ (by ((repeat refine (upd_other _ _ (by omega)).trans ?_); first | exact hf _ (by omega))) | refine sub_over (by assumption) | refine sub_over0 ?_ | refine sub_trans (sub_same (by assumption)) ?_ | refine sub_dropu ?_ | refine sub_drop ?_ | refine sub_put ?_ (by repeat (first | assumption | exact upd_same _ _ _ | refine (upd_other _ _ (by omega)).trans ?_)))))) (by omega) hb (by omega)) (fun _ _ _ h => h)) (fun kq hkq => ?_)
    refine aOps_w rfl rfl rfl (AOp.move' (.inl rfl) rfl ?_)
    refine aOps_wq rfl rfl rfl (AOp.call' rfl rfl rfl (refroot_b (vs.length + 1) ls vs A c _ _ (by repeat (first | assumption | exact upd_same _ _ _ | refine (upd_other _ _ (by omega)).trans ?_)) (hs.sub (by (repeat (first | exact sub_refl _ | assumption | refine sub_upd' ?_ (by ((repeat refine (upd_other _ _ (by omega)).trans ?_); first | exact hf _ (by omega))) | refine sub_over (by assumption) | refine sub_over0 ?_ | refine sub_trans (sub_same (by assumption)) ?_ | refine sub_dropu ?_ | refine sub_drop ?_ | refine sub_put ?_ (by repeat (first | assumption | exact upd_same _ _ _ | refine (upd_other _ _ (by omega)).trans ?_)))))) (hL.sub (by (repeat (first | exact sub_refl _ | assumption | refine sub_upd' ?_ (by ((repeat refine (upd_other _ _ (by omega)).trans ?_); first | exact hf _ (by omega))) | refine sub_over (by assumption) | refine sub_over0 ?_ | refine sub_trans (sub_same (by assumption)) ?_ | refine sub_dropu ?_ | refine sub_drop ?_ | refine sub_put ?_ (by repeat (first | assumption | exact upd_same _ _ _ | refine (upd_other _ _ (by omega)).trans ?_)))))) (by omega) hb (by omega)) (fun _ _ _ h => h)) (fun kq hkq => ?_)
    refine aOps_w rfl rfl rfl (AOp.neAgg (decide (root ls = root ls)) rfl rfl rfl (hv_sc _) (hv_sc _) (hv_iff _ _) ?_)
    rw [show decide (root ls = root ls) = true from decide_eq_true rfl]
    refine aOps_1 rfl rfl rfl (AOp.pickOr rfl rfl rfl (fun hb => gvE rfl (t_not hb)) ?_)
    refine aOps_1 rfl rfl rfl (AOp.move' (.inl rfl) rfl ?_)
    refine aOps_w rfl rfl rfl (AOp.move' (.inl rfl) rfl ?_)
    refine aOps_wq rfl rfl rfl (AOp.call' rfl rfl rfl (split_z _ _ n hn1 hn2) (fun _ _ _ h => h)) (fun kq hkq => ?_)
    refine aOps_w rfl rfl rfl (AOp.move' (.inl rfl) rfl ?_)
    refine aOps_wq rfl rfl rfl (AOp.call' rfl rfl rfl (refsplit_z _ _ n hn1 (by omega)) (fun _ _ _ h => h)) (fun kq hkq => ?_)
    refine aOps_w rfl rfl rfl (AOp.bin' rfl rfl rfl rfl ?_)
    rw [show (spZ n != spZ n) = false by simp]
    refine aOps_1 rfl rfl rfl (AOp.pickOr rfl rfl rfl (fun hb => gvE rfl (t_not hb)) ?_)
    refine aOps_1 rfl rfl rfl (AOp.move' (.inl rfl) rfl ?_)
    refine aOps_w rfl rfl rfl (AOp.move' (.inl rfl) rfl ?_)
    refine aOps_w rfl rfl rfl (AOp.move' (.inl rfl) rfl ?_)
    refine aOps_wq rfl rfl rfl (AOp.call' rfl rfl rfl (depth_z _ _ i n (by omega) (by omega) hn1 hn2) (fun _ _ _ h => h)) (fun kq hkq => ?_)
    refine aOps_w rfl rfl rfl (AOp.move' (.inl rfl) rfl ?_)
    refine aOps_w rfl rfl rfl (AOp.move' (.inl rfl) rfl ?_)
    refine aOps_wq rfl rfl rfl (AOp.call' rfl rfl rfl (refdepth_z (n.toNat + 1) i n _ _ (by omega) (by omega) hn1 (by omega) (by omega)) (fun _ _ _ h => h)) (fun kq hkq => ?_)
    refine aOps_w rfl rfl rfl (AOp.bin' rfl rfl rfl rfl ?_)
    rw [show (depthZ i n != depthZ i n) = false by simp]
    refine aOps_1 rfl rfl rfl (AOp.pickOr rfl rfl rfl (fun hb => gvE rfl (t_not hb)) ?_)
    refine aOps_end ?_
    show ACode _ _ _ _ _ _
    refine ACode.cond rfl (fun c1 => absurd c1 (by simp)) (fun c1 => ?_)
    refine ACode.skip ?_
    show ACode _ _ _ _ _ _
    refine ACode.seq ?_
    refine ACode.draw' 28 [(0, 77), (1, 78), (2, 79), (3, 80), (4, 81), (5, 82), (6, 83), (7, 84), (8, 85), (9, 86), (10, 87), (11, 88), (12, 89), (13, 90), (14, 91), (15, 92), (16, 93), (17, 94), (18, 95), (19, 96), (20, 97), (21, 98), (22, 99), (23, 100), (24, 101), (25, 102), (26, 103), (27, 6)] mixed (by kernel_rfl) ?_
    refine Draw.step [(0, none)] rfl (by kernel_rfl) rfl (fun kq hkq => AOp.move' (.inl rfl) rfl ⟨rfl, rfl, Nat.le_refl _⟩) ?_
    refine Draw.step [(77, some 0)] rfl (by kernel_rfl) rfl (fun kq hkq => AOp.len' rfl rfl ⟨rfl, rfl, Nat.le_refl _⟩) ?_
    refine Draw.step [(78, some 1)] rfl (by kernel_rfl) rfl (fun kq hkq => AOp.bin' rfl rfl rfl rfl ⟨rfl, rfl, Nat.le_refl _⟩) ?_
    refine Draw.step [(79, some 2)] rfl (by kernel_rfl) rfl (fun kq hkq => AOp.move' (.inl rfl) rfl ⟨rfl, rfl, Nat.le_refl _⟩) ?_
    refine Draw.gd [(0, none), (80, some 3)] rfl (by kernel_rfl) (wantF rfl rfl rfl) (fun kq hkq hc => AOp.slots [(0, _)] (.cons rfl .nil) ((False.elim (by simp at hc; omega) : AOp _ _ _ _ fun v H1 k1 => v = Value.bool false ∧ H1 = _ ∧ _ ≤ k1))) ?_
    refine Draw.gd [(81, some 4), (80, some 3)] rfl (by kernel_rfl) (wantF rfl rfl rfl) (fun kq hkq hc => AOp.slots [(81, _)] (.cons (gvT rfl hc) .nil) ((False.elim (by simp at hc; omega) : AOp _ _ _ _ fun v H1 k1 => v = Value.bool false ∧ H1 = _ ∧ _ ≤ k1))) ?_
    refine Draw.gd [(82, some 5), (80, some 3)] rfl (by kernel_rfl) (wantF rfl rfl rfl) (fun kq hkq hc => AOp.slots [(82, _)] (.cons (gvT rfl hc) .nil) ((False.elim (by simp at hc; omega) : AOp _ _ _ _ fun v H1 k1 => v = Value.bool false ∧ H1 = _ ∧ _ ≤ k1))) ?_
    refine Draw.gd [(83, some 6), (80, some 3)] rfl (by kernel_rfl) (wantF rfl rfl rfl) (fun kq hkq hc => AOp.slots [(83, _)] (.cons (gvT rfl hc) .nil) ((False.elim (by simp at hc; omega) : AOp _ _ _ _ fun v H1 k1 => v = Value.bool false ∧ H1 = _ ∧ _ ≤ k1))) ?_
    refine Draw.gd [(0, none), (80, some 3)] rfl (by kernel_rfl) (wantF rfl rfl rfl) (fun kq hkq hc => AOp.slots [(0, _)] (.cons rfl .nil) ((False.elim (by simp at hc; omega) : AOp _ _ _ _ fun v H1 k1 => v = Value.bool false ∧ H1 = _ ∧ _ ≤ k1))) ?_
    refine Draw.gd [(85, some 8), (80, some 3)] rfl (by kernel_rfl) (wantF rfl rfl rfl) (fun kq hkq hc => AOp.slots [(85, _)] (.cons (gvT rfl hc) .nil) ((False.elim (by simp at hc; omega) : AOp _ _ _ _ fun v H1 k1 => v = Value.bool false ∧ H1 = _ ∧ _ ≤ k1))) ?_
    refine Draw.gd [(86, some 9), (80, some 3)] rfl (by kernel_rfl) (wantF rfl rfl rfl) (fun kq hkq hc => AOp.slots [(86, _)] (.cons (gvT rfl hc) .nil) ((False.elim (by simp at hc; omega) : AOp _ _ _ _ fun v H1 k1 => v = Value.bool false ∧ H1 = _ ∧ _ ≤ k1))) ?_
    refine Draw.gd [(87, some 10), (80, some 3)] rfl (by kernel_rfl) (wantF rfl rfl rfl) (fun kq hkq hc => AOp.slots [(87, _)] (.cons (gvT rfl hc) .nil) ((False.elim (by simp at hc; omega) : AOp _ _ _ _ fun v H1 k1 => v = Value.bool false ∧ H1 = _ ∧ _ ≤ k1))) ?_
    refine Draw.gd [(84, some 7), (88, some 11), (80, some 3)] rfl (by kernel_rfl) (wantF rfl rfl rfl) (fun kq hkq hc => AOp.slots [(84, _), (88, _)] (.cons (gvT rfl hc) (.cons (gvT rfl hc) .nil)) ((False.elim (by simp at hc; omega) : AOp _ _ _ _ fun v H1 k1 => v = Value.bool false ∧ H1 = _ ∧ _ ≤ k1))) ?_
    refine Draw.gd [(0, none), (80, some 3)] rfl (by kernel_rfl) (wantF rfl rfl rfl) (fun kq hkq hc => AOp.slots [(0, _)] (.cons rfl .nil) ((False.elim (by simp at hc; omega) : AOp _ _ _ _ fun v H1 k1 => v = Value.bool false ∧ H1 = _ ∧ _ ≤ k1))) ?_
    refine Draw.gd [(90, some 13), (80, some 3)] rfl (by kernel_rfl) (wantF rfl rfl rfl) (fun kq hkq hc => AOp.slots [(90, _)] (.cons (gvT rfl hc) .nil) ((False.elim (by simp at hc; omega) : AOp _ _ _ _ fun v H1 k1 => v = Value.bool false ∧ H1 = _ ∧ _ ≤ k1))) ?_
    refine Draw.gd [(91, some 14), (80, some 3)] rfl (by kernel_rfl) (wantF rfl rfl rfl) (fun kq hkq hc => AOp.slots [(91, _)] (.cons (gvT rfl hc) .nil) ((False.elim (by simp at hc; omega) : AOp _ _ _ _ fun v H1 k1 => v = Value.bool false ∧ H1 = _ ∧ _ ≤ k1))) ?_
    refine Draw.gd [(92, some 15), (80, some 3)] rfl (by kernel_rfl) (wantF rfl rfl rfl) (fun kq hkq hc => AOp.slots [(92, _)] (.cons (gvT rfl hc) .nil) ((False.elim (by simp at hc; omega) : AOp _ _ _ _ fun v H1 k1 => v = Value.bool false ∧ H1 = _ ∧ _ ≤ k1))) ?_
    refine Draw.gd [(0, none), (80, some 3)] rfl (by kernel_rfl) (wantF rfl rfl rfl) (fun kq hkq hc => AOp.slots [(0, _)] (.cons rfl .nil) ((False.elim (by simp at hc; omega) : AOp _ _ _ _ fun v H1 k1 => v = Value.bool false ∧ H1 = _ ∧ _ ≤ k1))) ?_
    refine Draw.gd [(94, some 17), (80, some 3)] rfl (by kernel_rfl) (wantF rfl rfl rfl) (fun kq hkq hc => AOp.slots [(94, _)] (.cons (gvT rfl hc) .nil) ((False.elim (by simp at hc; omega) : AOp _ _ _ _ fun v H1 k1 => v = Value.bool false ∧ H1 = _ ∧ _ ≤ k1))) ?_
    refine Draw.gd [(95, some 18), (80, some 3)] rfl (by kernel_rfl) (wantF rfl rfl rfl) (fun kq hkq hc => AOp.slots [(95, _)] (.cons (gvT rfl hc) .nil) ((False.elim (by simp at hc; omega) : AOp _ _ _ _ fun v H1 k1 => v = Value.bool false ∧ H1 = _ ∧ _ ≤ k1))) ?_
    refine Draw.gd [(96, some 19), (80, some 3)] rfl (by kernel_rfl) (wantF rfl rfl rfl) (fun kq hkq hc => AOp.slots [(96, _)] (.cons (gvT rfl hc) .nil) ((False.elim (by simp at hc; omega) : AOp _ _ _ _ fun v H1 k1 => v = Value.bool false ∧ H1 = _ ∧ _ ≤ k1))) ?_
    refine Draw.gd [(93, some 16), (97, some 20), (80, some 3)] rfl (by kernel_rfl) (wantF rfl rfl rfl) (fun kq hkq hc => AOp.slots [(93, _), (97, _)] (.cons (gvT rfl hc) (.cons (gvT rfl hc) .nil)) ((False.elim (by simp at hc; omega) : AOp _ _ _ _ fun v H1 k1 => v = Value.bool false ∧ H1 = _ ∧ _ ≤ k1))) ?_
    refine Draw.gd [(89, some 12), (98, some 21), (80, some 3)] rfl (by kernel_rfl) (wantF rfl rfl rfl) (fun kq hkq hc => AOp.slots [(89, _), (98, _)] (.cons (gvT rfl hc) (.cons (gvT rfl hc) .nil)) ((False.elim (by simp at hc; omega) : AOp _ _ _ _ fun v H1 k1 => v = Value.bool false ∧ H1 = _ ∧ _ ≤ k1))) ?_
    refine Draw.step [(80, some 3), (99, some 22)] rfl (by kernel_rfl) rfl (fun kq hkq => AOp.pickOr rfl rfl rfl (fun hb => gvE rfl (t_not hb)) ⟨rfl, rfl, Nat.le_refl _⟩) ?_
    refine Draw.step [(100, some 23)] rfl (by kernel_rfl) rfl (fun kq hkq => AOp.move' (.inl rfl) rfl ⟨rfl, rfl, Nat.le_refl _⟩) ?_
    refine Draw.gd [(101, some 24)] rfl (by kernel_rfl) (wantT rfl rfl rfl) (fun kq hkq hc => AOp.slots [] .nil (AOp.call' rfl rfl rfl (awake19 _ _ (by repeat (first | assumption | exact upd_same _ _ _ | refine (upd_other _ _ (by omega)).trans ?_))) (fun _ _ _ h => h))) ?_
    refine Draw.step [(101, some 24), (102, some 25)] rfl (by kernel_rfl) rfl (fun kq hkq => AOp.pickAnd rfl rfl rfl (fun hb => gvE rfl hb) ⟨rfl, rfl, Nat.le_refl _⟩) ?_
    refine Draw.step [(103, some 26)] rfl (by kernel_rfl) rfl (fun kq hkq => AOp.move' (.inr rfl) rfl ⟨rfl, rfl, Nat.le_refl _⟩) ?_
    refine Draw.done fun kq hkq => ?_
    show aOps _ _ _ _ [] ⟨_, _, _⟩
    refine aOps_end ?_
    show ACode _ _ _ _ _ _
    refine ACode.ret ?_
    exact RetQ.one rfl rfl (by (repeat (first | exact sub_refl _ | assumption | refine sub_upd' ?_ (by ((repeat refine (upd_other _ _ (by omega)).trans ?_); first | exact hf _ (by omega))) | refine sub_over (by assumption) | refine sub_over0 ?_ | refine sub_trans (sub_same (by assumption)) ?_ | refine sub_dropu ?_ | refine sub_drop ?_ | refine sub_put ?_ (by repeat (first | assumption | exact upd_same _ _ _ | refine (upd_other _ _ (by omega)).trans ?_))))) stays (fun hk => ⟨(by simp; omega), rfl, by omega⟩)
end

end Go.Proofs.YtlbcgadmcjobiaaDoor
