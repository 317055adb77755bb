/- Contracts over the abstract states: the example of clashes; the statements on leaves and on heads. -/
import Derived.Test.YtipaiielkpifoaaDoorL4
set_option linter.unusedVariables false
set_option linter.unusedSimpArgs false
set_option maxRecDepth 100000
namespace Go.Proofs.YtipaiielkpifoaaDoor
open Go Go.Ab

theorem awkA : leavesOk [[97], [98]] [[97], [98]] = false := decide_eq_false fun h => h.2.1 rfl
theorem awkB : decide (isC [97] [97]) = false := decide_eq_false fun h => h.1 rfl
theorem awkC : decide (isC [97] [98]) = false := decide_eq_false fun h => absurd (congrArg Dg.l h.2) (by decide +kernel)
theorem awkD : root [[97], [98]] = nd (lf [97]) (lf [98]) := by
  have s2 : spN 2 = 1 := by decide
  rw [root_two (by simp)]
  simp only [List.length_cons, List.length_nil, s2, List.take_succ_cons, List.take_zero, List.drop_succ_cons, List.drop_zero, root_one]
theorem awkE : decide (root [[97], [98]] = root [[97]]) = false := by
  rw [awkD, root_one]
  exact decide_eq_false fun h => absurd (congrArg Dg.l h) (by decide +kernel)
theorem awkF : decide (headD 1 zeroD = headD 2 zeroD) = false := decide_eq_false fun h => absurd (congrArg Dg.l h) (by decide +kernel)
/-- Do heads tell a clash? -/
def headsOk (s : Int) (d : Dg) (t : Int) (e : Dg) : Bool := decide ((s ≠ t ∨ d ≠ e) ∧ headD s d = headD t e)
theorem headsOk_is {s t : Int} {d e : Dg} (h1 : -9223372036854775808 ≤ s) (h2 : s ≤ 9223372036854775807) (h3 : -9223372036854775808 ≤ t) (h4 : t ≤ 9223372036854775807) : headsOk s d t e = decide (isC (headB s d) (headB t e)) := by
  unfold headsOk
  congr 1
  rw [eq_iff_iff]
  constructor
  · rintro ⟨g1, g2⟩
    refine ⟨fun g => ?_, g2⟩
    obtain ⟨r1, r2⟩ := headB_inj h1 h2 h3 h4 g
    rcases g1 with g1 | g1
    · exact g1 r1
    · exact g1 r2
  · rintro ⟨g1, g2⟩
    refine ⟨Classical.byContradiction fun g => ?_, g2⟩
    simp only [not_or, Classical.not_not] at g
    exact g1 (by rw [g.1, g.2])
section
variable (H : Hp) (k : Nat)

theorem awake22 (ht : H 0 = some tabBlk) : ACalls Tryd.prog 1 10 [] H k (Same H k (.bool true)) := by
  refine ACalls.fresh fun hf => ?_
  refine ACalls.body Tryd.func10 rfl (Nat.le_of_ble_eq_true rfl) ?_
  have h0k := old_lt hf ht
  refine ACode.seq ?_
  refine ACode.region' [0] (by kernel_rfl) rfl ?_
  refine aOps_1 rfl rfl rfl (AOp.move' (.inr rfl) rfl ?_)
  refine aOps_end ?_
  show ACode _ _ _ _ _ _
  refine ACode.seq ?_
  refine ACode.region' [0, 1, 2, 3, 4, 5] (by kernel_rfl) rfl ?_
  refine aOps_1 rfl rfl rfl (AOp.buildF1 (vals := [97].map bv) rfl (by decide) rfl rfl (bv_ones _) ?_)
  refine aOps_1 rfl rfl rfl (AOp.convB rfl rfl (by repeat (first | assumption | exact upd_same _ _ _ | refine (upd_other _ _ (by omega)).trans ?_ | refine hsL8 _ _ ?_)) rfl ?_)
  refine aOps_1 rfl rfl rfl (AOp.buildF1 (vals := [98].map bv) rfl (by decide) rfl rfl (bv_ones _) ?_)
  refine aOps_1 rfl rfl rfl (AOp.convB rfl rfl (by repeat (first | assumption | exact upd_same _ _ _ | refine (upd_other _ _ (by omega)).trans ?_ | refine hsL8 _ _ ?_)) rfl ?_)
  refine aOps_1 rfl rfl rfl (AOp.buildG1 (vals := [_, _]) rfl (by decide) rfl rfl (by intro u hu; simp at hu; first | (rcases hu with rfl | rfl | rfl <;> rfl) | (rcases hu with rfl | rfl <;> rfl) | (subst hu; rfl) | (rcases hu with rfl | rfl | rfl | rfl <;> rfl)) ?_)
  refine aOps_1 rfl rfl rfl (AOp.move' (.inr rfl) rfl ?_)
  refine aOps_end ?_
  show ACode _ _ _ _ _ _
  refine ACode.seq ?_
  refine ACode.region' [0, 1, 2, 3, 4, 5, 6, 7, 8, 9] (by kernel_rfl) rfl ?_
  refine aOps_1 rfl rfl rfl (AOp.move' (.inl rfl) rfl ?_)
  refine aOps_1 rfl rfl rfl (AOp.move' (.inl rfl) rfl ?_)
  refine aOps_1 rfl rfl rfl ?_
  refine AOp.call' rfl rfl rfl (leaves_c 3 [[97], [98]] [[97], [98]] [.slice (some ⟨k, 0, none⟩) 1 1, .slice (some ⟨k + 1, 0, none⟩) 1 1] [.slice (some ⟨k, 0, none⟩) 1 1, .slice (some ⟨k + 1, 0, none⟩) 1 1] (some ⟨k + 2, 0, some 1⟩) (some ⟨k + 2, 0, some 1⟩) 2 2 _ _ (by repeat (first | assumption | exact upd_same _ _ _ | refine (upd_other _ _ (by omega)).trans ?_ | refine hsL8 _ _ ?_)) (SLC.grow (n := k + 2) (l := 2) (b := { cells := [.slice (some ⟨k, 0, none⟩) 1 1, .slice (some ⟨k + 1, 0, none⟩) 1 1], elem := 25, kind := .grow }) (by repeat (first | assumption | exact upd_same _ _ _ | refine (upd_other _ _ (by omega)).trans ?_ | refine hsL8 _ _ ?_)) rfl rfl) (Lvs.cons (l := [97]) (A := some ⟨k, 0, none⟩) (c := 1) (SLC.fix (n := k) (l := 1) (b := { cells := [97].map bv, elem := 5, kind := .fix }) (by repeat (first | assumption | exact upd_same _ _ _ | refine (upd_other _ _ (by omega)).trans ?_ | refine hsL8 _ _ ?_)) rfl) (Lvs.cons (l := [98]) (A := some ⟨k + 1, 0, none⟩) (c := 1) (SLC.fix (n := k + 1) (l := 1) (b := { cells := [98].map bv, elem := 5, kind := .fix }) (by repeat (first | assumption | exact upd_same _ _ _ | refine (upd_other _ _ (by omega)).trans ?_ | refine hsL8 _ _ ?_)) rfl) Lvs.nil)) (SLC.grow (n := k + 2) (l := 2) (b := { cells := [.slice (some ⟨k, 0, none⟩) 1 1, .slice (some ⟨k + 1, 0, none⟩) 1 1], elem := 25, kind := .grow }) (by repeat (first | assumption | exact upd_same _ _ _ | refine (upd_other _ _ (by omega)).trans ?_ | refine hsL8 _ _ ?_)) rfl rfl) (Lvs.cons (l := [97]) (A := some ⟨k, 0, none⟩) (c := 1) (SLC.fix (n := k) (l := 1) (b := { cells := [97].map bv, elem := 5, kind := .fix }) (by repeat (first | assumption | exact upd_same _ _ _ | refine (upd_other _ _ (by omega)).trans ?_ | refine hsL8 _ _ ?_)) rfl) (Lvs.cons (l := [98]) (A := some ⟨k + 1, 0, none⟩) (c := 1) (SLC.fix (n := k + 1) (l := 1) (b := { cells := [98].map bv, elem := 5, kind := .fix }) (by repeat (first | assumption | exact upd_same _ _ _ | refine (upd_other _ _ (by omega)).trans ?_ | refine hsL8 _ _ ?_)) rfl) Lvs.nil)) (by simp) (by simp) (by simp) (by simp) (by simp)) ?_
  rintro _ H1 k1 ⟨hk1, hsL8, hfL8, x6, y6, A6, B6, c6, d6, rfl, hx6, hy6, ht6, hf6⟩
  rw [awkA]
  refine aOps_1 rfl rfl rfl (AOp.move' (.inl rfl) rfl ?_)
  refine aOps_1 rfl rfl rfl (AOp.extract' rfl rfl rfl ?_)
  refine aOps_1 rfl rfl rfl (AOp.extract' rfl rfl rfl ?_)
  refine aOps_1 rfl rfl rfl (AOp.extract' rfl rfl rfl ?_)
  refine aOps_1 rfl rfl rfl (AOp.move' (.inr rfl) rfl ?_)
  refine aOps_1 rfl rfl rfl (AOp.move' (.inr rfl) rfl ?_)
  refine aOps_1 rfl rfl rfl (AOp.move' (.inr rfl) rfl ?_)
  refine aOps_end ?_
  show ACode _ _ _ _ _ _
  refine ACode.seq ?_
  obtain ⟨A3_26, c3_26, hq3_26, hs3_26⟩ := SLC.cutL (H := H1) (vs := [.slice (some ⟨k, 0, none⟩) 1 1, .slice (some ⟨k + 1, 0, none⟩) 1 1]) (c0 := 2) (SLC.grow (n := k + 2) (l := 2) (b := { cells := [.slice (some ⟨k, 0, none⟩) 1 1, .slice (some ⟨k + 1, 0, none⟩) 1 1], elem := 25, kind := .grow }) (by repeat (first | assumption | exact upd_same _ _ _ | refine (upd_other _ _ (by omega)).trans ?_ | refine hsL8 _ _ ?_)) rfl rfl) 1 none (by simp) (by intro x hx; cases hx)
  obtain ⟨n3_4, o3_4, s3_4, hq3_4, hp3_4⟩ := slcElV (H := H1) (l := [.slice (some ⟨k, 0, none⟩) 1 1, .slice (some ⟨k + 1, 0, none⟩) 1 1]) (SLC.grow (n := k + 2) (l := 2) (b := { cells := [.slice (some ⟨k, 0, none⟩) 1 1, .slice (some ⟨k + 1, 0, none⟩) 1 1], elem := 25, kind := .grow }) (by repeat (first | assumption | exact upd_same _ _ _ | refine (upd_other _ _ (by omega)).trans ?_ | refine hsL8 _ _ ?_)) rfl rfl).cells (show 0 < 2 by omega)
  obtain ⟨n3_7, o3_7, s3_7, hq3_7, hp3_7⟩ := slcElV (H := H1) (l := [.slice (some ⟨k, 0, none⟩) 1 1, .slice (some ⟨k + 1, 0, none⟩) 1 1]) (SLC.grow (n := k + 2) (l := 2) (b := { cells := [.slice (some ⟨k, 0, none⟩) 1 1, .slice (some ⟨k + 1, 0, none⟩) 1 1], elem := 25, kind := .grow }) (by repeat (first | assumption | exact upd_same _ _ _ | refine (upd_other _ _ (by omega)).trans ?_ | refine hsL8 _ _ ?_)) rfl rfl).cells (show 0 < 2 by omega)
  obtain ⟨n3_14, o3_14, s3_14, hq3_14, hp3_14⟩ := slcElV (H := H1) (l := [.slice (some ⟨k, 0, none⟩) 1 1, .slice (some ⟨k + 1, 0, none⟩) 1 1]) (SLC.grow (n := k + 2) (l := 2) (b := { cells := [.slice (some ⟨k, 0, none⟩) 1 1, .slice (some ⟨k + 1, 0, none⟩) 1 1], elem := 25, kind := .grow }) (by repeat (first | assumption | exact upd_same _ _ _ | refine (upd_other _ _ (by omega)).trans ?_ | refine hsL8 _ _ ?_)) rfl rfl).cells (show 0 < 2 by omega)
  obtain ⟨n3_17, o3_17, s3_17, hq3_17, hp3_17⟩ := slcElV (H := H1) (l := [.slice (some ⟨k, 0, none⟩) 1 1, .slice (some ⟨k + 1, 0, none⟩) 1 1]) (SLC.grow (n := k + 2) (l := 2) (b := { cells := [.slice (some ⟨k, 0, none⟩) 1 1, .slice (some ⟨k + 1, 0, none⟩) 1 1], elem := 25, kind := .grow }) (by repeat (first | assumption | exact upd_same _ _ _ | refine (upd_other _ _ (by omega)).trans ?_ | refine hsL8 _ _ ?_)) rfl rfl).cells (show 1 < 2 by omega)
  refine ACode.draw' 38 [(0, 17), (1, 18), (2, 19), (3, 20), (4, 21), (5, 22), (6, 23), (7, 24), (8, 25), (9, 26), (10, 27), (11, 28), (12, 29), (13, 30), (14, 31), (15, 32), (16, 33), (17, 34), (18, 35), (19, 36), (20, 37), (21, 38), (22, 39), (23, 40), (24, 41), (25, 42), (26, 43), (27, 44), (28, 45), (29, 46), (30, 47), (31, 48), (32, 49), (33, 50), (34, 51), (35, 52), (36, 53), (37, 0)] mixed (by kernel_rfl) ?_
  refine Draw.step [(4, none)] rfl (by kernel_rfl) rfl (fun kq hkq => AOp.move' (.inl rfl) rfl ⟨rfl, rfl, Nat.le_refl _⟩) ?_
  refine Draw.step [(17, some 0)] rfl (by kernel_rfl) rfl (fun kq hkq => AOp.un' rfl rfl rfl ⟨rfl, rfl, Nat.le_refl _⟩) ?_
  refine Draw.step [(18, some 1)] rfl (by kernel_rfl) rfl (fun kq hkq => AOp.move' (.inl rfl) rfl ⟨rfl, rfl, Nat.le_refl _⟩) ?_
  refine Draw.gd [(1, none), (19, some 2)] rfl (by kernel_rfl) (wantT rfl rfl rfl) (fun kq hkq hc => AOp.slots [(1, _)] (.cons rfl .nil) (AOp.move' (.inl rfl) rfl ⟨rfl, rfl, Nat.le_refl _⟩)) ?_
  refine Draw.gd [(20, some 3), (19, some 2)] rfl (by kernel_rfl) (wantT rfl rfl rfl) (fun kq hkq hc => AOp.slots [(20, _)] (.cons (gvT rfl hc) .nil) (AOp.indexP (aslcAt_sub (by (repeat (first | exact sub_refl _ | assumption | refine sub_upd' ?_ (by ((repeat refine (upd_other _ _ (by omega)).trans ?_); first | exact hf _ (by omega) | exact hfL8 _ (by omega))) | refine sub_trans ?_ hsL8 | refine sub_over (by assumption) | refine sub_over0 ?_ | refine sub_trans (sub_same (by assumption)) ?_ | refine sub_dropu ?_ | refine sub_drop ?_ | refine sub_put ?_ (by repeat (first | assumption | exact upd_same _ _ _ | refine (upd_other _ _ (by omega)).trans ?_ | refine hsL8 _ _ ?_))))) hq3_4) rfl rfl rfl ⟨rfl, rfl, Nat.le_refl _⟩)) ?_
  refine Draw.gd [(21, some 4), (19, some 2)] rfl (by kernel_rfl) (wantT rfl rfl rfl) (fun kq hkq hc => AOp.slots [(21, _)] (.cons (gvT rfl hc) .nil) (AOp.loadP0 (hp3_4.sub (by (repeat (first | exact sub_refl _ | assumption | refine sub_upd' ?_ (by ((repeat refine (upd_other _ _ (by omega)).trans ?_); first | exact hf _ (by omega) | exact hfL8 _ (by omega))) | refine sub_trans ?_ hsL8 | refine sub_over (by assumption) | refine sub_over0 ?_ | refine sub_trans (sub_same (by assumption)) ?_ | refine sub_dropu ?_ | refine sub_drop ?_ | refine sub_put ?_ (by repeat (first | assumption | exact upd_same _ _ _ | refine (upd_other _ _ (by omega)).trans ?_ | refine hsL8 _ _ ?_)))))) rfl rfl rfl ⟨rfl, rfl, Nat.le_refl _⟩)) ?_
  refine Draw.gd [(1, none), (19, some 2)] rfl (by kernel_rfl) (wantT rfl rfl rfl) (fun kq hkq hc => AOp.slots [(1, _)] (.cons rfl .nil) (AOp.move' (.inl rfl) rfl ⟨rfl, rfl, Nat.le_refl _⟩)) ?_
  refine Draw.gd [(23, some 6), (19, some 2)] rfl (by kernel_rfl) (wantT rfl rfl rfl) (fun kq hkq hc => AOp.slots [(23, _)] (.cons (gvT rfl hc) .nil) (AOp.indexP (aslcAt_sub (by (repeat (first | exact sub_refl _ | assumption | refine sub_upd' ?_ (by ((repeat refine (upd_other _ _ (by omega)).trans ?_); first | exact hf _ (by omega) | exact hfL8 _ (by omega))) | refine sub_trans ?_ hsL8 | refine sub_over (by assumption) | refine sub_over0 ?_ | refine sub_trans (sub_same (by assumption)) ?_ | refine sub_dropu ?_ | refine sub_drop ?_ | refine sub_put ?_ (by repeat (first | assumption | exact upd_same _ _ _ | refine (upd_other _ _ (by omega)).trans ?_ | refine hsL8 _ _ ?_))))) hq3_7) rfl rfl rfl ⟨rfl, rfl, Nat.le_refl _⟩)) ?_
  refine Draw.gd [(24, some 7), (19, some 2)] rfl (by kernel_rfl) (wantT rfl rfl rfl) (fun kq hkq hc => AOp.slots [(24, _)] (.cons (gvT rfl hc) .nil) (AOp.loadP0 (hp3_7.sub (by (repeat (first | exact sub_refl _ | assumption | refine sub_upd' ?_ (by ((repeat refine (upd_other _ _ (by omega)).trans ?_); first | exact hf _ (by omega) | exact hfL8 _ (by omega))) | refine sub_trans ?_ hsL8 | refine sub_over (by assumption) | refine sub_over0 ?_ | refine sub_trans (sub_same (by assumption)) ?_ | refine sub_dropu ?_ | refine sub_drop ?_ | refine sub_put ?_ (by repeat (first | assumption | exact upd_same _ _ _ | refine (upd_other _ _ (by omega)).trans ?_ | refine hsL8 _ _ ?_)))))) rfl rfl rfl ⟨rfl, rfl, Nat.le_refl _⟩)) ?_
  refine Draw.gd [(22, some 5), (25, some 8), (19, some 2)] rfl (by kernel_rfl) (wantT rfl rfl rfl) (fun kq hkq hc => AOp.slots [(22, _), (25, _)] (.cons (gvT rfl hc) (.cons (gvT rfl hc) .nil)) (AOp.call' rfl rfl rfl (is_b _ _ (by repeat (first | assumption | exact upd_same _ _ _ | refine (upd_other _ _ (by omega)).trans ?_ | refine hsL8 _ _ ?_)) [97] [97] (some ⟨k, 0, none⟩) (some ⟨k, 0, none⟩) 1 1 (SLC.fix (n := k) (l := 1) (b := { cells := [97].map bv, elem := 5, kind := .fix }) (by repeat (first | assumption | exact upd_same _ _ _ | refine (upd_other _ _ (by omega)).trans ?_ | refine hsL8 _ _ ?_)) rfl) (SLC.fix (n := k) (l := 1) (b := { cells := [97].map bv, elem := 5, kind := .fix }) (by repeat (first | assumption | exact upd_same _ _ _ | refine (upd_other _ _ (by omega)).trans ?_ | refine hsL8 _ _ ?_)) rfl) (by decide) (by decide)) (fun _ _ _ h => h))) ?_
  rw [awkB]
  refine Draw.gd [(26, some 9), (19, some 2)] rfl (by kernel_rfl) (wantT rfl rfl rfl) (fun kq hkq hc => AOp.slots [(26, _)] (.cons (gvT rfl hc) .nil) (AOp.un' rfl rfl rfl ⟨rfl, rfl, Nat.le_refl _⟩)) ?_
  refine Draw.step [(19, some 2), (27, some 10)] rfl (by kernel_rfl) rfl (fun kq hkq => AOp.pickAnd rfl rfl rfl (fun hb => gvE rfl hb) ⟨rfl, rfl, Nat.le_refl _⟩) ?_
  refine Draw.step [(28, some 11)] rfl (by kernel_rfl) rfl (fun kq hkq => AOp.move' (.inl rfl) rfl ⟨rfl, rfl, Nat.le_refl _⟩) ?_
  refine Draw.gd [(1, none), (29, some 12)] rfl (by kernel_rfl) (wantT rfl rfl rfl) (fun kq hkq hc => AOp.slots [(1, _)] (.cons rfl .nil) (AOp.move' (.inl rfl) rfl ⟨rfl, rfl, Nat.le_refl _⟩)) ?_
  refine Draw.gd [(30, some 13), (29, some 12)] rfl (by kernel_rfl) (wantT rfl rfl rfl) (fun kq hkq hc => AOp.slots [(30, _)] (.cons (gvT rfl hc) .nil) (AOp.indexP (aslcAt_sub (by (repeat (first | exact sub_refl _ | assumption | refine sub_upd' ?_ (by ((repeat refine (upd_other _ _ (by omega)).trans ?_); first | exact hf _ (by omega) | exact hfL8 _ (by omega))) | refine sub_trans ?_ hsL8 | refine sub_over (by assumption) | refine sub_over0 ?_ | refine sub_trans (sub_same (by assumption)) ?_ | refine sub_dropu ?_ | refine sub_drop ?_ | refine sub_put ?_ (by repeat (first | assumption | exact upd_same _ _ _ | refine (upd_other _ _ (by omega)).trans ?_ | refine hsL8 _ _ ?_))))) hq3_14) rfl rfl rfl ⟨rfl, rfl, Nat.le_refl _⟩)) ?_
  refine Draw.gd [(31, some 14), (29, some 12)] rfl (by kernel_rfl) (wantT rfl rfl rfl) (fun kq hkq hc => AOp.slots [(31, _)] (.cons (gvT rfl hc) .nil) (AOp.loadP0 (hp3_14.sub (by (repeat (first | exact sub_refl _ | assumption | refine sub_upd' ?_ (by ((repeat refine (upd_other _ _ (by omega)).trans ?_); first | exact hf _ (by omega) | exact hfL8 _ (by omega))) | refine sub_trans ?_ hsL8 | refine sub_over (by assumption) | refine sub_over0 ?_ | refine sub_trans (sub_same (by assumption)) ?_ | refine sub_dropu ?_ | refine sub_drop ?_ | refine sub_put ?_ (by repeat (first | assumption | exact upd_same _ _ _ | refine (upd_other _ _ (by omega)).trans ?_ | refine hsL8 _ _ ?_)))))) rfl rfl rfl ⟨rfl, rfl, Nat.le_refl _⟩)) ?_
  refine Draw.gd [(1, none), (29, some 12)] rfl (by kernel_rfl) (wantT rfl rfl rfl) (fun kq hkq hc => AOp.slots [(1, _)] (.cons rfl .nil) (AOp.move' (.inl rfl) rfl ⟨rfl, rfl, Nat.le_refl _⟩)) ?_
  refine Draw.gd [(33, some 16), (29, some 12)] rfl (by kernel_rfl) (wantT rfl rfl rfl) (fun kq hkq hc => AOp.slots [(33, _)] (.cons (gvT rfl hc) .nil) (AOp.indexP (aslcAt_sub (by (repeat (first | exact sub_refl _ | assumption | refine sub_upd' ?_ (by ((repeat refine (upd_other _ _ (by omega)).trans ?_); first | exact hf _ (by omega) | exact hfL8 _ (by omega))) | refine sub_trans ?_ hsL8 | refine sub_over (by assumption) | refine sub_over0 ?_ | refine sub_trans (sub_same (by assumption)) ?_ | refine sub_dropu ?_ | refine sub_drop ?_ | refine sub_put ?_ (by repeat (first | assumption | exact upd_same _ _ _ | refine (upd_other _ _ (by omega)).trans ?_ | refine hsL8 _ _ ?_))))) hq3_17) rfl rfl rfl ⟨rfl, rfl, Nat.le_refl _⟩)) ?_
  refine Draw.gd [(34, some 17), (29, some 12)] rfl (by kernel_rfl) (wantT rfl rfl rfl) (fun kq hkq hc => AOp.slots [(34, _)] (.cons (gvT rfl hc) .nil) (AOp.loadP0 (hp3_17.sub (by (repeat (first | exact sub_refl _ | assumption | refine sub_upd' ?_ (by ((repeat refine (upd_other _ _ (by omega)).trans ?_); first | exact hf _ (by omega) | exact hfL8 _ (by omega))) | refine sub_trans ?_ hsL8 | refine sub_over (by assumption) | refine sub_over0 ?_ | refine sub_trans (sub_same (by assumption)) ?_ | refine sub_dropu ?_ | refine sub_drop ?_ | refine sub_put ?_ (by repeat (first | assumption | exact upd_same _ _ _ | refine (upd_other _ _ (by omega)).trans ?_ | refine hsL8 _ _ ?_)))))) rfl rfl rfl ⟨rfl, rfl, Nat.le_refl _⟩)) ?_
  refine Draw.gd [(32, some 15), (35, some 18), (29, some 12)] rfl (by kernel_rfl) (wantT rfl rfl rfl) (fun kq hkq hc => AOp.slots [(32, _), (35, _)] (.cons (gvT rfl hc) (.cons (gvT rfl hc) .nil)) (AOp.call' rfl rfl rfl (is_b _ _ (by repeat (first | assumption | exact upd_same _ _ _ | refine (upd_other _ _ (by omega)).trans ?_ | refine hsL8 _ _ ?_)) [97] [98] (some ⟨k, 0, none⟩) (some ⟨k + 1, 0, none⟩) 1 1 (SLC.fix (n := k) (l := 1) (b := { cells := [97].map bv, elem := 5, kind := .fix }) (by repeat (first | assumption | exact upd_same _ _ _ | refine (upd_other _ _ (by omega)).trans ?_ | refine hsL8 _ _ ?_)) rfl) (SLC.fix (n := k + 1) (l := 1) (b := { cells := [98].map bv, elem := 5, kind := .fix }) (by repeat (first | assumption | exact upd_same _ _ _ | refine (upd_other _ _ (by omega)).trans ?_ | refine hsL8 _ _ ?_)) rfl) (by decide) (by decide)) (fun _ _ _ h => h))) ?_
  rw [awkC]
  refine Draw.gd [(36, some 19), (29, some 12)] rfl (by kernel_rfl) (wantT rfl rfl rfl) (fun kq hkq hc => AOp.slots [(36, _)] (.cons (gvT rfl hc) .nil) (AOp.un' rfl rfl rfl ⟨rfl, rfl, Nat.le_refl _⟩)) ?_
  refine Draw.step [(29, some 12), (37, some 20)] rfl (by kernel_rfl) rfl (fun kq hkq => AOp.pickAnd rfl rfl rfl (fun hb => gvE rfl hb) ⟨rfl, rfl, Nat.le_refl _⟩) ?_
  refine Draw.step [(38, some 21)] rfl (by kernel_rfl) rfl (fun kq hkq => AOp.move' (.inl rfl) rfl ⟨rfl, rfl, Nat.le_refl _⟩) ?_
  refine Draw.gd [(1, none), (39, some 22)] rfl (by kernel_rfl) (wantT rfl rfl rfl) (fun kq hkq hc => AOp.slots [(1, _)] (.cons rfl .nil) (AOp.move' (.inl rfl) rfl ⟨rfl, rfl, Nat.le_refl _⟩)) ?_
  refine Draw.gd [(40, some 23), (39, some 22)] rfl (by kernel_rfl) (wantT rfl rfl rfl) (fun kq hkq hc => AOp.slots [(40, _)] (.cons (gvT rfl hc) .nil) (AOp.call' rfl rfl rfl (root_b 3 [[97], [98]] [.slice (some ⟨k, 0, none⟩) 1 1, .slice (some ⟨k + 1, 0, none⟩) 1 1] (some ⟨k + 2, 0, some 1⟩) 2 _ _ (by repeat (first | assumption | exact upd_same _ _ _ | refine (upd_other _ _ (by omega)).trans ?_ | refine hsL8 _ _ ?_)) (SLC.grow (n := k + 2) (l := 2) (b := { cells := [.slice (some ⟨k, 0, none⟩) 1 1, .slice (some ⟨k + 1, 0, none⟩) 1 1], elem := 25, kind := .grow }) (by repeat (first | assumption | exact upd_same _ _ _ | refine (upd_other _ _ (by omega)).trans ?_ | refine hsL8 _ _ ?_)) rfl rfl) (Lvs.cons (l := [97]) (A := some ⟨k, 0, none⟩) (c := 1) (SLC.fix (n := k) (l := 1) (b := { cells := [97].map bv, elem := 5, kind := .fix }) (by repeat (first | assumption | exact upd_same _ _ _ | refine (upd_other _ _ (by omega)).trans ?_ | refine hsL8 _ _ ?_)) rfl) (Lvs.cons (l := [98]) (A := some ⟨k + 1, 0, none⟩) (c := 1) (SLC.fix (n := k + 1) (l := 1) (b := { cells := [98].map bv, elem := 5, kind := .fix }) (by repeat (first | assumption | exact upd_same _ _ _ | refine (upd_other _ _ (by omega)).trans ?_ | refine hsL8 _ _ ?_)) rfl) Lvs.nil)) (by simp) (by simp) (by simp)) (fun _ _ _ h => h))) ?_
  refine Draw.gd [(1, none), (39, some 22)] rfl (by kernel_rfl) (wantT rfl rfl rfl) (fun kq hkq hc => AOp.slots [(1, _)] (.cons rfl .nil) (AOp.move' (.inl rfl) rfl ⟨rfl, rfl, Nat.le_refl _⟩)) ?_
  refine Draw.gd [(42, some 25), (39, some 22)] rfl (by kernel_rfl) (wantT rfl rfl rfl) (fun kq hkq hc => AOp.slots [(42, _)] (.cons (gvT rfl hc) .nil) (AOp.cutQ (aslice_sub (by (repeat (first | exact sub_refl _ | assumption | refine sub_upd' ?_ (by ((repeat refine (upd_other _ _ (by omega)).trans ?_); first | exact hf _ (by omega) | exact hfL8 _ (by omega))) | refine sub_trans ?_ hsL8 | refine sub_over (by assumption) | refine sub_over0 ?_ | refine sub_trans (sub_same (by assumption)) ?_ | refine sub_dropu ?_ | refine sub_drop ?_ | refine sub_put ?_ (by repeat (first | assumption | exact upd_same _ _ _ | refine (upd_other _ _ (by omega)).trans ?_ | refine hsL8 _ _ ?_))))) hq3_26) rfl rfl (bnd_no rfl) (bnd_at rfl rfl) mx_no ⟨rfl, rfl, Nat.le_refl _⟩)) ?_
  refine Draw.gd [(43, some 26), (39, some 22)] rfl (by kernel_rfl) (wantT rfl rfl rfl) (fun kq hkq hc => AOp.slots [(43, _)] (.cons (gvT rfl hc) .nil) (AOp.call' rfl rfl rfl (root_b 3 [[97]] [.slice (some ⟨k, 0, none⟩) 1 1] A3_26 c3_26 _ _ (by repeat (first | assumption | exact upd_same _ _ _ | refine (upd_other _ _ (by omega)).trans ?_ | refine hsL8 _ _ ?_)) (hs3_26.sub (by (repeat (first | exact sub_refl _ | assumption | refine sub_upd' ?_ (by ((repeat refine (upd_other _ _ (by omega)).trans ?_); first | exact hf _ (by omega) | exact hfL8 _ (by omega))) | refine sub_trans ?_ hsL8 | refine sub_over (by assumption) | refine sub_over0 ?_ | refine sub_trans (sub_same (by assumption)) ?_ | refine sub_dropu ?_ | refine sub_drop ?_ | refine sub_put ?_ (by repeat (first | assumption | exact upd_same _ _ _ | refine (upd_other _ _ (by omega)).trans ?_ | refine hsL8 _ _ ?_)))))) (Lvs.cons (l := [97]) (A := some ⟨k, 0, none⟩) (c := 1) (SLC.fix (n := k) (l := 1) (b := { cells := [97].map bv, elem := 5, kind := .fix }) (by repeat (first | assumption | exact upd_same _ _ _ | refine (upd_other _ _ (by omega)).trans ?_ | refine hsL8 _ _ ?_)) rfl) Lvs.nil) (by simp) (by simp) (by simp)) (fun _ _ _ h => h))) ?_
  refine Draw.gd [(41, some 24), (44, some 27), (39, some 22)] rfl (by kernel_rfl) (wantT rfl rfl rfl) (fun kq hkq hc => AOp.slots [(41, _), (44, _)] (.cons (gvT rfl hc) (.cons (gvT rfl hc) .nil)) (AOp.neAgg (decide (root [[97], [98]] = root [[97]])) rfl rfl rfl (hv_sc _) (hv_sc _) (hv_iff _ _) ⟨rfl, rfl, Nat.le_refl _⟩)) ?_
  rw [awkE]
  refine Draw.step [(39, some 22), (45, some 28)] rfl (by kernel_rfl) rfl (fun kq hkq => AOp.pickAnd rfl rfl rfl (fun hb => gvE rfl hb) ⟨rfl, rfl, Nat.le_refl _⟩) ?_
  refine Draw.step [(46, some 29)] rfl (by kernel_rfl) rfl (fun kq hkq => AOp.move' (.inl rfl) rfl ⟨rfl, rfl, Nat.le_refl _⟩) ?_
  refine Draw.gd [(47, some 30)] rfl (by kernel_rfl) (wantT rfl rfl rfl) (fun kq hkq hc => AOp.slots [] .nil (AOp.buildA (cells := (zeroD.l.map bv).toArray) rfl rfl rfl ⟨rfl, rfl, Nat.le_refl _⟩)) ?_
  refine Draw.gd [(48, some 31), (47, some 30)] rfl (by kernel_rfl) (wantT rfl rfl rfl) (fun kq hkq hc => AOp.slots [(48, _)] (.cons (gvT rfl hc) .nil) (AOp.call' rfl rfl rfl (headof_b _ _ (by repeat (first | assumption | exact upd_same _ _ _ | refine (upd_other _ _ (by omega)).trans ?_ | refine hsL8 _ _ ?_)) 1 zeroD) (fun _ _ _ h => h))) ?_
  refine Draw.gd [(47, some 30)] rfl (by kernel_rfl) (wantT rfl rfl rfl) (fun kq hkq hc => AOp.slots [] .nil (AOp.buildA (cells := (zeroD.l.map bv).toArray) rfl rfl rfl ⟨rfl, rfl, Nat.le_refl _⟩)) ?_
  refine Draw.gd [(50, some 33), (47, some 30)] rfl (by kernel_rfl) (wantT rfl rfl rfl) (fun kq hkq hc => AOp.slots [(50, _)] (.cons (gvT rfl hc) .nil) (AOp.call' rfl rfl rfl (headof_b _ _ (by repeat (first | assumption | exact upd_same _ _ _ | refine (upd_other _ _ (by omega)).trans ?_ | refine hsL8 _ _ ?_)) 2 zeroD) (fun _ _ _ h => h))) ?_
  refine Draw.gd [(49, some 32), (51, some 34), (47, some 30)] rfl (by kernel_rfl) (wantT rfl rfl rfl) (fun kq hkq hc => AOp.slots [(49, _), (51, _)] (.cons (gvT rfl hc) (.cons (gvT rfl hc) .nil)) (AOp.neAgg (decide (headD 1 zeroD = headD 2 zeroD)) rfl rfl rfl (hv_sc _) (hv_sc _) (hv_iff _ _) ⟨rfl, rfl, Nat.le_refl _⟩)) ?_
  rw [awkF]
  refine Draw.step [(47, some 30), (52, some 35)] rfl (by kernel_rfl) rfl (fun kq hkq => AOp.pickAnd rfl rfl rfl (fun hb => gvE rfl hb) ⟨rfl, rfl, Nat.le_refl _⟩) ?_
  refine Draw.step [(53, some 36)] rfl (by kernel_rfl) rfl (fun kq hkq => AOp.move' (.inr rfl) rfl ⟨rfl, rfl, Nat.le_refl _⟩) ?_
  refine Draw.done fun kq hkq => ?_
  show aOps _ _ _ _ [] ⟨_, _, _⟩
  refine aOps_end ?_
  show ACode _ _ _ _ _ _
  refine ACode.ret ?_
  exact RetQ.one rfl rfl (by (repeat (first | exact sub_refl _ | assumption | refine sub_upd' ?_ (by ((repeat refine (upd_other _ _ (by omega)).trans ?_); first | exact hf _ (by omega) | exact hfL8 _ (by omega))) | refine sub_trans ?_ hsL8 | refine sub_over (by assumption) | refine sub_over0 ?_ | refine sub_trans (sub_same (by assumption)) ?_ | refine sub_dropu ?_ | refine sub_drop ?_ | refine sub_put ?_ (by repeat (first | assumption | exact upd_same _ _ _ | refine (upd_other _ _ (by omega)).trans ?_ | refine hsL8 _ _ ?_))))) stays (fun hk => ⟨rfl, rfl, by omega⟩)

theorem heads_c (ht : H 0 = some tabBlk) (s t : Int) (h1 : -9223372036854775808 ≤ s) (h2 : s ≤ 9223372036854775807) (h3 : -9223372036854775808 ≤ t) (h4 : t ≤ 9223372036854775807) (d e : Dg) : ACalls Tryd.prog 1 14 [.int .i64 s, hv d, .int .i64 t, hv e] H k (TellsR H k (headsOk s d t e)) := by
  refine ACalls.fresh fun hf => ?_
  refine ACalls.body Tryd.func14 rfl (Nat.le_of_ble_eq_true rfl) ?_
  have h0k := old_lt hf ht
  have hok := headsOk_is (d := d) (e := e) h1 h2 h3 h4
  refine ACode.seq ?_
  refine ACode.region' [0, 1, 2, 3, 4] (by kernel_rfl) rfl ?_
  refine aOps_1 rfl rfl rfl (AOp.boxV rfl rfl ?_)
  refine aOps_1 rfl rfl rfl (AOp.boxV rfl rfl ?_)
  refine aOps_1 rfl rfl rfl (AOp.move' (.inr rfl) rfl ?_)
  refine aOps_1 rfl rfl rfl (AOp.move' (.inr rfl) rfl ?_)
  refine aOps_1 rfl rfl rfl (AOp.move' (.inr rfl) rfl ?_)
  refine aOps_end ?_
  show ACode _ _ _ _ _ _
  refine ACode.seq ?_
  refine ACode.seq ?_
  refine ACode.draw' 7 [(0, 11), (1, 12), (2, 13), (3, 14), (4, 15), (5, 16), (6, 17)] mixed (by kernel_rfl) ?_
  refine Draw.step [(0, none)] rfl (by kernel_rfl) rfl (fun kq hkq => AOp.move' (.inl rfl) rfl ⟨rfl, rfl, Nat.le_refl _⟩) ?_
  refine Draw.step [(5, none)] rfl (by kernel_rfl) rfl (fun kq hkq => (by refine AOp.loadAll (b := ?b1) (v := hv d) rfl rfl ?hn1 ?hv1 ?hw1 ?hz1 ?hR1; (case hn1 => repeat (first | assumption | exact upd_same _ _ _ | refine (upd_other _ _ (by omega)).trans ?_)); (case hv1 => rfl); (case hw1 => rfl); (case hz1 => first | rfl | exact hv_size _ | exact hcs_one _ | exact (aw_size _).trans rfl | exact one_wv _ | exact one_bv _ | (simp; done)); exact ⟨rfl, rfl, Nat.le_refl _⟩)) ?_
  refine Draw.step [(11, some 0), (12, some 1)] rfl (by kernel_rfl) rfl (fun kq hkq => AOp.call' rfl rfl rfl (headof_b _ _ (by repeat (first | assumption | exact upd_same _ _ _ | refine (upd_other _ _ (by omega)).trans ?_)) s d) (fun _ _ _ h => h)) ?_
  refine Draw.step [(2, none)] rfl (by kernel_rfl) rfl (fun kq hkq => AOp.move' (.inl rfl) rfl ⟨rfl, rfl, Nat.le_refl _⟩) ?_
  refine Draw.step [(7, none)] rfl (by kernel_rfl) rfl (fun kq hkq => (by refine AOp.loadAll (b := ?b2) (v := hv e) rfl rfl ?hn2 ?hv2 ?hw2 ?hz2 ?hR2; (case hn2 => repeat (first | assumption | exact upd_same _ _ _ | refine (upd_other _ _ (by omega)).trans ?_)); (case hv2 => rfl); (case hw2 => rfl); (case hz2 => first | rfl | exact hv_size _ | exact hcs_one _ | exact (aw_size _).trans rfl | exact one_wv _ | exact one_bv _ | (simp; done)); exact ⟨rfl, rfl, Nat.le_refl _⟩)) ?_
  refine Draw.step [(14, some 3), (15, some 4)] rfl (by kernel_rfl) rfl (fun kq hkq => AOp.call' rfl rfl rfl (headof_b _ _ (by repeat (first | assumption | exact upd_same _ _ _ | refine (upd_other _ _ (by omega)).trans ?_)) t e) (fun _ _ _ h => h)) ?_
  refine Draw.step [(13, some 2), (16, some 5)] rfl (by kernel_rfl) rfl (fun kq hkq => AOp.neAgg (decide (headD s d = headD t e)) rfl rfl rfl (hv_sc _) (hv_sc _) (hv_iff _ _) ⟨rfl, rfl, Nat.le_refl _⟩) ?_
  refine Draw.done fun kq hkq => ?_
  show aOps _ _ _ _ [] ⟨_, _, _⟩
  refine aOps_end ?_
  show ACode _ _ _ _ _ _
  refine ACode.cond rfl (fun c0 => ?_) (fun c0 => ?_)
  · try simp only [decide_eq_true_eq, decide_eq_false_iff_not, beq_iff_eq, beq_eq_false_iff_ne, ne_eq, bne_iff_ne, Bool.not_eq_true', Bool.not_eq_false', Int.not_lt, Int.not_le, gt_iff_lt, ge_iff_le, bne_eq_false_iff_eq, Bool.not_eq_eq_eq_not, Bool.not_true, Bool.not_false] at c0
    have hno : headsOk s d t e = false := by { unfold headsOk; rw [decide_eq_false_iff_not]; rintro ⟨j1, j2⟩; exact c0 j2 }
    refine ACode.seq ?_
    refine ACode.region' [0, 1, 2] (by kernel_rfl) rfl ?_
    refine aOps_1 rfl rfl rfl (AOp.move' (.inr rfl) rfl ?_)
    refine aOps_1 rfl rfl rfl (AOp.move' (.inr rfl) rfl ?_)
    refine aOps_1 rfl rfl rfl (AOp.move' (.inr rfl) rfl ?_)
    refine aOps_end ?_
    show ACode _ _ _ _ _ _
    refine ACode.ret ?_
    refine RetQ.three rfl rfl rfl rfl (sub_refl _) (stays_sub (by (repeat (first | exact sub_refl _ | assumption | refine sub_upd' ?_ (by ((repeat refine (upd_other _ _ (by omega)).trans ?_); first | exact hf _ (by omega))) | refine sub_over (by assumption) | refine sub_over0 ?_ | refine sub_trans (sub_same (by assumption)) ?_ | refine sub_dropu ?_ | refine sub_drop ?_ | refine sub_put ?_ (by repeat (first | assumption | exact upd_same _ _ _ | refine (upd_other _ _ (by omega)).trans ?_)))))) (fun hk => ⟨by omega, by (repeat (first | exact sub_refl _ | assumption | refine sub_upd' ?_ (by ((repeat refine (upd_other _ _ (by omega)).trans ?_); first | exact hf _ (by omega))) | refine sub_over (by assumption) | refine sub_over0 ?_ | refine sub_trans (sub_same (by assumption)) ?_ | refine sub_dropu ?_ | refine sub_drop ?_ | refine sub_put ?_ (by repeat (first | assumption | exact upd_same _ _ _ | refine (upd_other _ _ (by omega)).trans ?_)))), (fun n hn => by (repeat refine (upd_other _ _ (by omega)).trans ?_); first | exact hf _ (by omega)), ?_⟩)
    rw [hno]
    exact Tells.no
  · try simp only [decide_eq_true_eq, decide_eq_false_iff_not, beq_iff_eq, beq_eq_false_iff_ne, ne_eq, bne_iff_ne, Bool.not_eq_true', Bool.not_eq_false', Int.not_lt, Int.not_le, gt_iff_lt, ge_iff_le, bne_eq_false_iff_eq, Bool.not_eq_eq_eq_not, Bool.not_true, Bool.not_false] at c0
    refine ACode.skip ?_
    show ACode _ _ _ _ _ _
    refine ACode.seq ?_
    refine ACode.drawM0 13 [(0, 18), (1, 19), (2, 20), (3, 21), (4, 22), (5, 23), (6, 24), (7, 25), (8, 26), (9, 27), (10, 8), (11, 9), (12, 10)] [2, 5] [([], []), ([], []), ([2], []), ([], []), ([], []), ([5], []), ([], [2, 5]), ([], []), ([], []), ([], []), ([], []), ([], []), ([], [])] mixed (by kernel_rfl) (by kernel_rfl) (by decide) ?_
    refine DrawM.q 0 [(0, none)] rfl rfl (by kernel_rfl) rfl rfl (fun Hc kq hkq hF hSb hfr => AOp.move' (.inl rfl) rfl ⟨rfl, rfl, Nat.le_refl _⟩) ?_
    refine DrawM.q 1 [(5, none)] rfl rfl (by kernel_rfl) rfl rfl (fun Hc kq hkq hF hSb hfr => (by refine AOp.loadAll (b := ?b3) (v := hv d) rfl rfl ?hn3 ?hv3 ?hw3 ?hz3 ?hR3; (case hn3 => repeat (first | assumption | exact upd_same _ _ _ | refine (upd_other _ _ (by omega)).trans ?_ | refine hSb _ _ ?_)); (case hv3 => rfl); (case hw3 => rfl); (case hz3 => first | rfl | exact hv_size _ | exact hcs_one _ | exact (aw_size _).trans rfl | exact one_wv _ | exact one_bv _ | (simp; done)); exact ⟨rfl, rfl, Nat.le_refl _⟩)) ?_
    refine DrawM.new 2 _ _ [(18, some 0), (19, some 1)] rfl (by decide) rfl (by kernel_rfl) rfl rfl RenOk.grow (fun Hc kq hkq hF hSb hfr => AOp.call' rfl rfl rfl (ofHead_c _ _ s d) (fun _ _ _ h => h)) ?_
    refine DrawM.q 3 [(2, none)] rfl rfl (by kernel_rfl) rfl rfl (fun Hc kq hkq hF hSb hfr => AOp.move' (.inl rfl) rfl ⟨rfl, rfl, Nat.le_refl _⟩) ?_
    refine DrawM.q 4 [(7, none)] rfl rfl (by kernel_rfl) rfl rfl (fun Hc kq hkq hF hSb hfr => (by refine AOp.loadAll (b := ?b4) (v := hv e) rfl rfl ?hn4 ?hv4 ?hw4 ?hz4 ?hR4; (case hn4 => repeat (first | assumption | exact upd_same _ _ _ | refine (upd_other _ _ (by omega)).trans ?_ | refine hSb _ _ ?_)); (case hv4 => rfl); (case hw4 => rfl); (case hz4 => first | rfl | exact hv_size _ | exact hcs_one _ | exact (aw_size _).trans rfl | exact one_wv _ | exact one_bv _ | (simp; done)); exact ⟨rfl, rfl, Nat.le_refl _⟩)) ?_
    refine DrawM.new 5 _ _ [(21, some 3), (22, some 4)] rfl (by decide) rfl (by kernel_rfl) rfl rfl RenOk.grow (fun Hc kq hkq hF hSb hfr => AOp.call' rfl rfl rfl (ofHead_c _ _ t e) (fun _ _ _ h => h)) ?_
    refine DrawM.q 6 [(20, some 2), (23, some 5)] rfl rfl (by kernel_rfl) rfl rfl (fun Hc kq hkq hF hSb hfr => AOp.call' rfl rfl rfl (told_b _ _ (by repeat (first | assumption | exact upd_same _ _ _ | refine (upd_other _ _ (by omega)).trans ?_ | exact hF 2 (by decide) | exact hF 5 (by decide) | refine hSb _ _ ?_)) (headB s d) (headB t e) (some ⟨_, 0, some 1⟩) (some ⟨_, 0, some 1⟩) _ _ (SLC.gb (e := 5) (by repeat (first | assumption | exact upd_same _ _ _ | refine (upd_other _ _ (by omega)).trans ?_ | exact hF 2 (by decide) | exact hF 5 (by decide) | refine hSb _ _ ?_))) (SLC.gb (e := 5) (by repeat (first | assumption | exact upd_same _ _ _ | refine (upd_other _ _ (by omega)).trans ?_ | exact hF 2 (by decide) | exact hF 5 (by decide) | refine hSb _ _ ?_))) (by rw [headB_len]; decide) (by rw [headB_len]; decide)) (fun _ _ _ h => h)) ?_
    refine DrawM.q 7 [(24, some 6)] rfl rfl (by kernel_rfl) rfl rfl (fun Hc kq hkq hF hSb hfr => AOp.extract' rfl rfl rfl ⟨rfl, rfl, Nat.le_refl _⟩) ?_
    refine DrawM.q 8 [(24, some 6)] rfl rfl (by kernel_rfl) rfl rfl (fun Hc kq hkq hF hSb hfr => AOp.extract' rfl rfl rfl ⟨rfl, rfl, Nat.le_refl _⟩) ?_
    refine DrawM.q 9 [(24, some 6)] rfl rfl (by kernel_rfl) rfl rfl (fun Hc kq hkq hF hSb hfr => AOp.extract' rfl rfl rfl ⟨rfl, rfl, Nat.le_refl _⟩) ?_
    refine DrawM.q 10 [(25, some 7)] rfl rfl (by kernel_rfl) rfl rfl (fun Hc kq hkq hF hSb hfr => AOp.move' (.inr rfl) rfl ⟨rfl, rfl, Nat.le_refl _⟩) ?_
    refine DrawM.q 11 [(26, some 8)] rfl rfl (by kernel_rfl) rfl rfl (fun Hc kq hkq hF hSb hfr => AOp.move' (.inr rfl) rfl ⟨rfl, rfl, Nat.le_refl _⟩) ?_
    refine DrawM.q 12 [(27, some 9)] rfl rfl (by kernel_rfl) rfl rfl (fun Hc kq hkq hF hSb hfr => AOp.move' (.inr rfl) rfl ⟨rfl, rfl, Nat.le_refl _⟩) ?_
    refine DrawM.done fun kq hkq => ?_
    show aOps _ _ _ _ [] ⟨_, (upd (upd _ (_ + 5) _) (_ + 2) _), _⟩
    refine aOps_end ?_
    show ACode _ _ _ _ _ _
    refine ACode.ret ?_
    rw [hok]
    refine RetQ.three rfl rfl rfl rfl (sub_refl _) (stays_sub (by (repeat (first | exact sub_refl _ | assumption | refine sub_upd' ?_ (by ((repeat refine (upd_other _ _ (by omega)).trans ?_); first | exact hf _ (by omega))) | refine sub_over (by assumption) | refine sub_over0 ?_ | refine sub_trans (sub_same (by assumption)) ?_ | refine sub_dropu ?_ | refine sub_drop ?_ | refine sub_put ?_ (by repeat (first | assumption | exact upd_same _ _ _ | refine (upd_other _ _ (by omega)).trans ?_)))))) (fun hk => ⟨by omega, by (repeat (first | exact sub_refl _ | assumption | refine sub_upd' ?_ (by ((repeat refine (upd_other _ _ (by omega)).trans ?_); first | exact hf _ (by omega))) | refine sub_over (by assumption) | refine sub_over0 ?_ | refine sub_trans (sub_same (by assumption)) ?_ | refine sub_dropu ?_ | refine sub_drop ?_ | refine sub_put ?_ (by repeat (first | assumption | exact upd_same _ _ _ | refine (upd_other _ _ (by omega)).trans ?_)))), (fun n hn => by (repeat refine (upd_other _ _ (by omega)).trans ?_); first | exact hf _ (by omega)), ?_⟩)
    skip
    exact Tells.is (SLC.gb (e := 5) (by repeat (first | assumption | exact upd_same _ _ _ | refine (upd_other _ _ (by omega)).trans ?_))) (SLC.gb (e := 5) (by repeat (first | assumption | exact upd_same _ _ _ | refine (upd_other _ _ (by omega)).trans ?_))) (by rw [headB_len]; decide) (by rw [headB_len]; decide)

theorem refHeads_b (ht : H 0 = some tabBlk) (s t : Int) (h1 : -9223372036854775808 ≤ s) (h2 : s ≤ 9223372036854775807) (h3 : -9223372036854775808 ≤ t) (h4 : t ≤ 9223372036854775807) (d e : Dg) : ACalls Tryd.prog 1 15 [.int .i64 s, hv d, .int .i64 t, hv e] H k (Same H k (.bool (headsOk s d t e))) := by
  refine ACalls.fresh fun hf => ?_
  refine ACalls.body Tryd.func15 rfl (Nat.le_of_ble_eq_true rfl) ?_
  have h0k := old_lt hf ht
  refine ACode.seq ?_
  refine ACode.region' [0, 1, 2] (by kernel_rfl) rfl ?_
  refine aOps_1 rfl rfl rfl (AOp.boxV rfl rfl ?_)
  refine aOps_1 rfl rfl rfl (AOp.boxV rfl rfl ?_)
  refine aOps_1 rfl rfl rfl (AOp.move' (.inr rfl) rfl ?_)
  refine aOps_end ?_
  show ACode _ _ _ _ _ _
  refine ACode.seq ?_
  refine ACode.draw' 18 [(0, 9), (1, 10), (2, 11), (3, 12), (4, 13), (5, 14), (6, 15), (7, 16), (8, 17), (9, 18), (10, 19), (11, 20), (12, 21), (13, 22), (14, 23), (15, 24), (16, 25), (17, 8)] mixed (by kernel_rfl) ?_
  refine Draw.step [(0, none)] rfl (by kernel_rfl) rfl (fun kq hkq => AOp.move' (.inl rfl) rfl ⟨rfl, rfl, Nat.le_refl _⟩) ?_
  refine Draw.step [(2, none)] rfl (by kernel_rfl) rfl (fun kq hkq => AOp.move' (.inl rfl) rfl ⟨rfl, rfl, Nat.le_refl _⟩) ?_
  refine Draw.step [(9, some 0), (10, some 1)] rfl (by kernel_rfl) rfl (fun kq hkq => AOp.bin' rfl rfl rfl rfl ⟨rfl, rfl, Nat.le_refl _⟩) ?_
  refine Draw.step [(11, some 2)] rfl (by kernel_rfl) rfl (fun kq hkq => AOp.move' (.inl rfl) rfl ⟨rfl, rfl, Nat.le_refl _⟩) ?_
  refine Draw.gd [(5, none), (12, some 3)] rfl (by kernel_rfl) (wantF rfl rfl rfl) (fun kq hkq hc => AOp.slots [(5, _)] (.cons rfl .nil) ((by refine AOp.loadAll (b := ?b5) (v := hv d) rfl rfl ?hn5 ?hv5 ?hw5 ?hz5 ?hR5; (case hn5 => repeat (first | assumption | exact upd_same _ _ _ | refine (upd_other _ _ (by omega)).trans ?_)); (case hv5 => rfl); (case hw5 => rfl); (case hz5 => first | rfl | exact hv_size _ | exact hcs_one _ | exact (aw_size _).trans rfl | exact one_wv _ | exact one_bv _ | (simp; done)); exact ⟨rfl, rfl, Nat.le_refl _⟩))) ?_
  refine Draw.gd [(7, none), (12, some 3)] rfl (by kernel_rfl) (wantF rfl rfl rfl) (fun kq hkq hc => AOp.slots [(7, _)] (.cons rfl .nil) ((by refine AOp.loadAll (b := ?b6) (v := hv e) rfl rfl ?hn6 ?hv6 ?hw6 ?hz6 ?hR6; (case hn6 => repeat (first | assumption | exact upd_same _ _ _ | refine (upd_other _ _ (by omega)).trans ?_)); (case hv6 => rfl); (case hw6 => rfl); (case hz6 => first | rfl | exact hv_size _ | exact hcs_one _ | exact (aw_size _).trans rfl | exact one_wv _ | exact one_bv _ | (simp; done)); exact ⟨rfl, rfl, Nat.le_refl _⟩))) ?_
  refine Draw.gd [(13, some 4), (14, some 5), (12, some 3)] rfl (by kernel_rfl) (wantF rfl rfl rfl) (fun kq hkq hc => AOp.slots [(13, _), (14, _)] (.cons (gvT rfl hc) (.cons (gvT rfl hc) .nil)) (AOp.neAgg (decide (d = e)) rfl rfl rfl (hv_sc _) (hv_sc _) (hv_iff _ _) ⟨rfl, rfl, Nat.le_refl _⟩)) ?_
  refine Draw.step [(12, some 3), (15, some 6)] rfl (by kernel_rfl) rfl (fun kq hkq => AOp.pickOr rfl rfl rfl (fun hb => gvE rfl (t_not hb)) ⟨rfl, rfl, Nat.le_refl _⟩) ?_
  refine Draw.step [(16, some 7)] rfl (by kernel_rfl) rfl (fun kq hkq => AOp.move' (.inl rfl) rfl ⟨rfl, rfl, Nat.le_refl _⟩) ?_
  refine Draw.gd [(0, none), (17, some 8)] rfl (by kernel_rfl) (wantT rfl rfl rfl) (fun kq hkq hc => AOp.slots [(0, _)] (.cons rfl .nil) (AOp.move' (.inl rfl) rfl ⟨rfl, rfl, Nat.le_refl _⟩)) ?_
  refine Draw.gd [(5, none), (17, some 8)] rfl (by kernel_rfl) (wantT rfl rfl rfl) (fun kq hkq hc => AOp.slots [(5, _)] (.cons rfl .nil) ((by refine AOp.loadAll (b := ?b7) (v := hv d) rfl rfl ?hn7 ?hv7 ?hw7 ?hz7 ?hR7; (case hn7 => repeat (first | assumption | exact upd_same _ _ _ | refine (upd_other _ _ (by omega)).trans ?_)); (case hv7 => rfl); (case hw7 => rfl); (case hz7 => first | rfl | exact hv_size _ | exact hcs_one _ | exact (aw_size _).trans rfl | exact one_wv _ | exact one_bv _ | (simp; done)); exact ⟨rfl, rfl, Nat.le_refl _⟩))) ?_
  refine Draw.gd [(18, some 9), (19, some 10), (17, some 8)] rfl (by kernel_rfl) (wantT rfl rfl rfl) (fun kq hkq hc => AOp.slots [(18, _), (19, _)] (.cons (gvT rfl hc) (.cons (gvT rfl hc) .nil)) (AOp.call' rfl rfl rfl (refheadof_b _ _ s d) (fun _ _ _ h => h))) ?_
  refine Draw.gd [(2, none), (17, some 8)] rfl (by kernel_rfl) (wantT rfl rfl rfl) (fun kq hkq hc => AOp.slots [(2, _)] (.cons rfl .nil) (AOp.move' (.inl rfl) rfl ⟨rfl, rfl, Nat.le_refl _⟩)) ?_
  refine Draw.gd [(7, none), (17, some 8)] rfl (by kernel_rfl) (wantT rfl rfl rfl) (fun kq hkq hc => AOp.slots [(7, _)] (.cons rfl .nil) ((by refine AOp.loadAll (b := ?b8) (v := hv e) rfl rfl ?hn8 ?hv8 ?hw8 ?hz8 ?hR8; (case hn8 => repeat (first | assumption | exact upd_same _ _ _ | refine (upd_other _ _ (by omega)).trans ?_)); (case hv8 => rfl); (case hw8 => rfl); (case hz8 => first | rfl | exact hv_size _ | exact hcs_one _ | exact (aw_size _).trans rfl | exact one_wv _ | exact one_bv _ | (simp; done)); exact ⟨rfl, rfl, Nat.le_refl _⟩))) ?_
  refine Draw.gd [(21, some 12), (22, some 13), (17, some 8)] rfl (by kernel_rfl) (wantT rfl rfl rfl) (fun kq hkq hc => AOp.slots [(21, _), (22, _)] (.cons (gvT rfl hc) (.cons (gvT rfl hc) .nil)) (AOp.call' rfl rfl rfl (refheadof_b _ _ t e) (fun _ _ _ h => h))) ?_
  refine Draw.gd [(20, some 11), (23, some 14), (17, some 8)] rfl (by kernel_rfl) (wantT rfl rfl rfl) (fun kq hkq hc => AOp.slots [(20, _), (23, _)] (.cons (gvT rfl hc) (.cons (gvT rfl hc) .nil)) (AOp.eqAgg (decide (headD s d = headD t e)) rfl rfl rfl (hv_sc _) (hv_sc _) (hv_iff _ _) ⟨rfl, rfl, Nat.le_refl _⟩)) ?_
  refine Draw.step [(17, some 8), (24, some 15)] rfl (by kernel_rfl) rfl (fun kq hkq => AOp.pickAnd rfl rfl rfl (fun hb => gvE rfl hb) ⟨rfl, rfl, Nat.le_refl _⟩) ?_
  refine Draw.step [(25, some 16)] rfl (by kernel_rfl) rfl (fun kq hkq => AOp.move' (.inr rfl) rfl ⟨rfl, rfl, Nat.le_refl _⟩) ?_
  refine Draw.done fun kq hkq => ?_
  show aOps _ _ _ _ [] ⟨_, _, _⟩
  refine aOps_end ?_
  show ACode _ _ _ _ _ _
  refine ACode.ret ?_
  exact RetQ.one rfl rfl (by (repeat (first | exact sub_refl _ | assumption | refine sub_upd' ?_ (by ((repeat refine (upd_other _ _ (by omega)).trans ?_); first | exact hf _ (by omega))) | refine sub_over (by assumption) | refine sub_over0 ?_ | refine sub_trans (sub_same (by assumption)) ?_ | refine sub_dropu ?_ | refine sub_drop ?_ | refine sub_put ?_ (by repeat (first | assumption | exact upd_same _ _ _ | refine (upd_other _ _ (by omega)).trans ?_))))) stays (fun hk => ⟨(show Value.bool ((s != t || !decide (d = e)) && decide (headD s d = headD t e)) = Value.bool (headsOk s d t e) from by unfold headsOk; congr 1; rw [Bool.eq_iff_iff]; simp), rfl, by omega⟩)

theorem clashLeaves (ht : H 0 = some tabBlk) (ls ms : List (List UInt8)) (vs ws : List Value) (A B : Option Addr) (c d : Nat) (hs : SLC H 1 A vs.length c vs) (hL : Lvs H vs ls) (hl : vs.length ≤ 9223372036854775807) (hs2 : SLC H 1 B ws.length d ws) (hM : Lvs H ws ms) (hl2 : ws.length ≤ 9223372036854775807) : ACalls Tryd.prog 1 3 [.slice A vs.length c, .slice B ws.length d] H k (Same H k (.bool true)) := by
  refine ACalls.fresh fun hf => ?_
  refine ACalls.body Tryd.func3 rfl (Nat.le_of_ble_eq_true rfl) ?_
  have h0k := old_lt hf ht
  have hvl := hL.len
  have hwl := hM.len
  refine ACode.seq ?_
  refine ACode.region' [0] (by kernel_rfl) rfl ?_
  refine aOps_1 rfl rfl rfl (AOp.move' (.inr rfl) rfl ?_)
  refine aOps_end ?_
  show ACode _ _ _ _ _ _
  refine ACode.seq ?_
  refine ACode.seq ?_
  refine ACode.region' [0, 1, 2, 3, 4, 5] (by kernel_rfl) rfl ?_
  refine aOps_1 rfl rfl rfl (AOp.move' (.inl rfl) rfl ?_)
  refine aOps_q rfl rfl rfl (AOp.call' rfl rfl rfl (great_l _ _ ls vs A c (hs.sub (by (repeat (first | exact sub_refl _ | assumption | refine sub_upd' ?_ (by ((repeat refine (upd_other _ _ (by omega)).trans ?_); first | exact hf _ (by omega) | exact hfL8 _ (by omega))) | refine sub_trans ?_ hsL8 | refine sub_over (by assumption) | refine sub_over0 ?_ | refine sub_trans (sub_same (by assumption)) ?_ | refine sub_dropu ?_ | refine sub_drop ?_ | refine sub_put ?_ (by repeat (first | assumption | exact upd_same _ _ _ | refine (upd_other _ _ (by omega)).trans ?_ | refine hsL8 _ _ ?_)))))) (hL.sub (by (repeat (first | exact sub_refl _ | assumption | refine sub_upd' ?_ (by ((repeat refine (upd_other _ _ (by omega)).trans ?_); first | exact hf _ (by omega) | exact hfL8 _ (by omega))) | refine sub_trans ?_ hsL8 | refine sub_over (by assumption) | refine sub_over0 ?_ | refine sub_trans (sub_same (by assumption)) ?_ | refine sub_dropu ?_ | refine sub_drop ?_ | refine sub_put ?_ (by repeat (first | assumption | exact upd_same _ _ _ | refine (upd_other _ _ (by omega)).trans ?_ | refine hsL8 _ _ ?_)))))) (by omega) 20 60) (fun _ _ _ h => h)) (fun kq hkq => ?_)
  refine aOps_1 rfl rfl rfl (AOp.move' (.inl rfl) rfl ?_)
  refine aOps_gd0 rfl rfl (wantF rfl rfl rfl) (fun hc => AOp.slots [(1, _)] (.cons rfl .nil) (AOp.move' (.inl rfl) rfl ⟨rfl, rfl, rfl⟩)) ?_
  refine aOps_gd rfl rfl (wantF rfl rfl rfl) (fun hc => AOp.slots [(11, _)] (.cons (gvT rfl hc) .nil) (AOp.call' rfl rfl rfl (great_l _ _ ms ws B d (hs2.sub (by (repeat (first | exact sub_refl _ | assumption | refine sub_upd' ?_ (by ((repeat refine (upd_other _ _ (by omega)).trans ?_); first | exact hf _ (by omega) | exact hfL8 _ (by omega))) | refine sub_trans ?_ hsL8 | refine sub_over (by assumption) | refine sub_over0 ?_ | refine sub_trans (sub_same (by assumption)) ?_ | refine sub_dropu ?_ | refine sub_drop ?_ | refine sub_put ?_ (by repeat (first | assumption | exact upd_same _ _ _ | refine (upd_other _ _ (by omega)).trans ?_ | refine hsL8 _ _ ?_)))))) (hM.sub (by (repeat (first | exact sub_refl _ | assumption | refine sub_upd' ?_ (by ((repeat refine (upd_other _ _ (by omega)).trans ?_); first | exact hf _ (by omega) | exact hfL8 _ (by omega))) | refine sub_trans ?_ hsL8 | refine sub_over (by assumption) | refine sub_over0 ?_ | refine sub_trans (sub_same (by assumption)) ?_ | refine sub_dropu ?_ | refine sub_drop ?_ | refine sub_put ?_ (by repeat (first | assumption | exact upd_same _ _ _ | refine (upd_other _ _ (by omega)).trans ?_ | refine hsL8 _ _ ?_)))))) (by omega) 20 60) (fun _ _ _ h => h))) (fun kq hkq => ?_)
  refine aOps_1 rfl rfl rfl (AOp.pickOr rfl rfl rfl (fun hb => gvE rfl (t_not hb)) ?_)
  refine aOps_end ?_
  show ACode _ _ _ _ _ _
  refine ACode.cond rfl (fun c0 => ?_) (fun c0 => ?_)
  · try simp only [decide_eq_true_eq, decide_eq_false_iff_not, beq_iff_eq, beq_eq_false_iff_ne, ne_eq, bne_iff_ne, Bool.not_eq_true', Bool.not_eq_false', Int.not_lt, Int.not_le, gt_iff_lt, ge_iff_le, bne_eq_false_iff_eq, Bool.not_eq_eq_eq_not, Bool.not_true, Bool.not_false] at c0
    refine ACode.seq ?_
    refine ACode.region' [0, 1] (by kernel_rfl) rfl ?_
    refine aOps_q rfl rfl rfl (AOp.call' rfl rfl rfl (awake22 _ _ (by repeat (first | assumption | exact upd_same _ _ _ | refine (upd_other _ _ (by omega)).trans ?_ | refine hsL8 _ _ ?_))) (fun _ _ _ h => h)) (fun kq hkq => ?_)
    refine aOps_1 rfl rfl rfl (AOp.move' (.inr rfl) rfl ?_)
    refine aOps_end ?_
    show ACode _ _ _ _ _ _
    refine ACode.ret ?_
    exact RetQ.one rfl rfl (by (repeat (first | exact sub_refl _ | assumption | refine sub_upd' ?_ (by ((repeat refine (upd_other _ _ (by omega)).trans ?_); first | exact hf _ (by omega) | exact hfL8 _ (by omega))) | refine sub_trans ?_ hsL8 | refine sub_over (by assumption) | refine sub_over0 ?_ | refine sub_trans (sub_same (by assumption)) ?_ | refine sub_dropu ?_ | refine sub_drop ?_ | refine sub_put ?_ (by repeat (first | assumption | exact upd_same _ _ _ | refine (upd_other _ _ (by omega)).trans ?_ | refine hsL8 _ _ ?_))))) stays (fun hk => ⟨rfl, rfl, by omega⟩)
  · try simp only [decide_eq_true_eq, decide_eq_false_iff_not, beq_iff_eq, beq_eq_false_iff_ne, ne_eq, bne_iff_ne, Bool.not_eq_true', Bool.not_eq_false', Int.not_lt, Int.not_le, gt_iff_lt, ge_iff_le, bne_eq_false_iff_eq, Bool.not_eq_eq_eq_not, Bool.not_true, Bool.not_false] at c0
    simp only [Bool.or_eq_false_iff] at c0
    obtain ⟨g1, g2⟩ := c0
    obtain ⟨g4, g5⟩ := greatL_of g1
    obtain ⟨g6, g7⟩ := greatL_of g2
    have hb : ∀ x ∈ ls, x.length ≤ 549755813000 := fun x hx => Nat.le_trans (g5 x hx) (by decide)
    have hb2 : ∀ x ∈ ms, x.length ≤ 549755813000 := fun x hx => Nat.le_trans (g7 x hx) (by decide)
    refine ACode.skip ?_
    show ACode _ _ _ _ _ _
    refine ACode.seq ?_
    refine ACode.region' [0, 1, 2, 3, 4, 5, 6, 7, 8, 9] (by kernel_rfl) rfl ?_
    refine aOps_1 rfl rfl rfl (AOp.move' (.inl rfl) rfl ?_)
    refine aOps_1 rfl rfl rfl (AOp.move' (.inl rfl) rfl ?_)
    refine aOps_1 rfl rfl rfl ?_
    refine AOp.call' rfl rfl rfl (leaves_c (vs.length + 1) ls ms vs ws A B c d _ _ (by repeat (first | assumption | exact upd_same _ _ _ | refine (upd_other _ _ (by omega)).trans ?_ | refine hsL8 _ _ ?_)) (hs.sub (by (repeat (first | exact sub_refl _ | assumption | refine sub_upd' ?_ (by ((repeat refine (upd_other _ _ (by omega)).trans ?_); first | exact hf _ (by omega) | exact hfL8 _ (by omega))) | refine sub_trans ?_ hsL8 | refine sub_over (by assumption) | refine sub_over0 ?_ | refine sub_trans (sub_same (by assumption)) ?_ | refine sub_dropu ?_ | refine sub_drop ?_ | refine sub_put ?_ (by repeat (first | assumption | exact upd_same _ _ _ | refine (upd_other _ _ (by omega)).trans ?_ | refine hsL8 _ _ ?_)))))) (hL.sub (by (repeat (first | exact sub_refl _ | assumption | refine sub_upd' ?_ (by ((repeat refine (upd_other _ _ (by omega)).trans ?_); first | exact hf _ (by omega) | exact hfL8 _ (by omega))) | refine sub_trans ?_ hsL8 | refine sub_over (by assumption) | refine sub_over0 ?_ | refine sub_trans (sub_same (by assumption)) ?_ | refine sub_dropu ?_ | refine sub_drop ?_ | refine sub_put ?_ (by repeat (first | assumption | exact upd_same _ _ _ | refine (upd_other _ _ (by omega)).trans ?_ | refine hsL8 _ _ ?_)))))) (hs2.sub (by (repeat (first | exact sub_refl _ | assumption | refine sub_upd' ?_ (by ((repeat refine (upd_other _ _ (by omega)).trans ?_); first | exact hf _ (by omega) | exact hfL8 _ (by omega))) | refine sub_trans ?_ hsL8 | refine sub_over (by assumption) | refine sub_over0 ?_ | refine sub_trans (sub_same (by assumption)) ?_ | refine sub_dropu ?_ | refine sub_drop ?_ | refine sub_put ?_ (by repeat (first | assumption | exact upd_same _ _ _ | refine (upd_other _ _ (by omega)).trans ?_ | refine hsL8 _ _ ?_)))))) (hM.sub (by (repeat (first | exact sub_refl _ | assumption | refine sub_upd' ?_ (by ((repeat refine (upd_other _ _ (by omega)).trans ?_); first | exact hf _ (by omega) | exact hfL8 _ (by omega))) | refine sub_trans ?_ hsL8 | refine sub_over (by assumption) | refine sub_over0 ?_ | refine sub_trans (sub_same (by assumption)) ?_ | refine sub_dropu ?_ | refine sub_drop ?_ | refine sub_put ?_ (by repeat (first | assumption | exact upd_same _ _ _ | refine (upd_other _ _ (by omega)).trans ?_ | refine hsL8 _ _ ?_)))))) (by omega) (by omega) hb hb2 (by omega)) ?_
    rintro _ H1 k1 ⟨hk1, hsL8, hfL8, x6, y6, A6, B6, c6, d6, rfl, hx6, hy6, ht6, hf6⟩
    refine aOps_1 rfl rfl rfl (AOp.move' (.inl rfl) rfl ?_)
    refine aOps_1 rfl rfl rfl (AOp.extract' rfl rfl rfl ?_)
    refine aOps_1 rfl rfl rfl (AOp.extract' rfl rfl rfl ?_)
    refine aOps_1 rfl rfl rfl (AOp.extract' rfl rfl rfl ?_)
    refine aOps_1 rfl rfl rfl (AOp.move' (.inr rfl) rfl ?_)
    refine aOps_1 rfl rfl rfl (AOp.move' (.inr rfl) rfl ?_)
    refine aOps_1 rfl rfl rfl (AOp.move' (.inr rfl) rfl ?_)
    refine aOps_end ?_
    show ACode _ _ _ _ _ _
    refine ACode.seq ?_
    refine ACode.region' [0, 1, 2, 3, 4, 5, 6, 7, 8, 9, 10] (by kernel_rfl) rfl ?_
    refine aOps_1 rfl rfl rfl (AOp.move' (.inl rfl) rfl ?_)
    refine aOps_1 rfl rfl rfl (AOp.move' (.inl rfl) rfl ?_)
    refine aOps_1 rfl rfl rfl (AOp.move' (.inl rfl) rfl ?_)
    refine aOps_1 rfl rfl rfl (AOp.move' (.inl rfl) rfl ?_)
    refine aOps_1 rfl rfl rfl (AOp.move' (.inl rfl) rfl ?_)
    refine aOps_q rfl rfl rfl (AOp.call' rfl rfl rfl (refLeaves_b _ _ (by repeat (first | assumption | exact upd_same _ _ _ | refine (upd_other _ _ (by omega)).trans ?_ | refine hsL8 _ _ ?_)) ls ms vs ws A B c d (hs.sub (by (repeat (first | exact sub_refl _ | assumption | refine sub_upd' ?_ (by ((repeat refine (upd_other _ _ (by omega)).trans ?_); first | exact hf _ (by omega) | exact hfL8 _ (by omega))) | refine sub_trans ?_ hsL8 | refine sub_over (by assumption) | refine sub_over0 ?_ | refine sub_trans (sub_same (by assumption)) ?_ | refine sub_dropu ?_ | refine sub_drop ?_ | refine sub_put ?_ (by repeat (first | assumption | exact upd_same _ _ _ | refine (upd_other _ _ (by omega)).trans ?_ | refine hsL8 _ _ ?_)))))) (hL.sub (by (repeat (first | exact sub_refl _ | assumption | refine sub_upd' ?_ (by ((repeat refine (upd_other _ _ (by omega)).trans ?_); first | exact hf _ (by omega) | exact hfL8 _ (by omega))) | refine sub_trans ?_ hsL8 | refine sub_over (by assumption) | refine sub_over0 ?_ | refine sub_trans (sub_same (by assumption)) ?_ | refine sub_dropu ?_ | refine sub_drop ?_ | refine sub_put ?_ (by repeat (first | assumption | exact upd_same _ _ _ | refine (upd_other _ _ (by omega)).trans ?_ | refine hsL8 _ _ ?_)))))) (hs2.sub (by (repeat (first | exact sub_refl _ | assumption | refine sub_upd' ?_ (by ((repeat refine (upd_other _ _ (by omega)).trans ?_); first | exact hf _ (by omega) | exact hfL8 _ (by omega))) | refine sub_trans ?_ hsL8 | refine sub_over (by assumption) | refine sub_over0 ?_ | refine sub_trans (sub_same (by assumption)) ?_ | refine sub_dropu ?_ | refine sub_drop ?_ | refine sub_put ?_ (by repeat (first | assumption | exact upd_same _ _ _ | refine (upd_other _ _ (by omega)).trans ?_ | refine hsL8 _ _ ?_)))))) (hM.sub (by (repeat (first | exact sub_refl _ | assumption | refine sub_upd' ?_ (by ((repeat refine (upd_other _ _ (by omega)).trans ?_); first | exact hf _ (by omega) | exact hfL8 _ (by omega))) | refine sub_trans ?_ hsL8 | refine sub_over (by assumption) | refine sub_over0 ?_ | refine sub_trans (sub_same (by assumption)) ?_ | refine sub_dropu ?_ | refine sub_drop ?_ | refine sub_put ?_ (by repeat (first | assumption | exact upd_same _ _ _ | refine (upd_other _ _ (by omega)).trans ?_ | refine hsL8 _ _ ?_)))))) (by omega) (by omega) hb hb2) (fun _ _ _ h => h)) (fun kq hkq => ?_)
    refine aOps_q rfl rfl rfl (AOp.call' rfl rfl rfl (found_b _ _ (by repeat (first | assumption | exact upd_same _ _ _ | refine (upd_other _ _ (by omega)).trans ?_ | refine hsL8 _ _ ?_)) x6 y6 A6 B6 c6 d6 (hx6.sub (by (repeat (first | exact sub_refl _ | assumption | refine sub_upd' ?_ (by ((repeat refine (upd_other _ _ (by omega)).trans ?_); first | exact hf _ (by omega) | exact hfL8 _ (by omega))) | refine sub_trans ?_ hsL8 | refine sub_over (by assumption) | refine sub_over0 ?_ | refine sub_trans (sub_same (by assumption)) ?_ | refine sub_dropu ?_ | refine sub_drop ?_ | refine sub_put ?_ (by repeat (first | assumption | exact upd_same _ _ _ | refine (upd_other _ _ (by omega)).trans ?_ | refine hsL8 _ _ ?_)))))) (hy6.sub (by (repeat (first | exact sub_refl _ | assumption | refine sub_upd' ?_ (by ((repeat refine (upd_other _ _ (by omega)).trans ?_); first | exact hf _ (by omega) | exact hfL8 _ (by omega))) | refine sub_trans ?_ hsL8 | refine sub_over (by assumption) | refine sub_over0 ?_ | refine sub_trans (sub_same (by assumption)) ?_ | refine sub_dropu ?_ | refine sub_drop ?_ | refine sub_put ?_ (by repeat (first | assumption | exact upd_same _ _ _ | refine (upd_other _ _ (by omega)).trans ?_ | refine hsL8 _ _ ?_)))))) _ _ rfl ht6 hf6) (fun _ _ _ h => h)) (fun kq hkq => ?_)
    refine aOps_1 rfl rfl rfl (AOp.move' (.inl rfl) rfl ?_)
    refine aOps_gd rfl rfl (wantT rfl rfl rfl) (fun hc => AOp.slots [] .nil (AOp.call' rfl rfl rfl (awake22 _ _ (by repeat (first | assumption | exact upd_same _ _ _ | refine (upd_other _ _ (by omega)).trans ?_ | refine hsL8 _ _ ?_))) (fun _ _ _ h => h))) (fun kq hkq => ?_)
    refine aOps_1 rfl rfl rfl (AOp.pickAnd rfl rfl rfl (fun hb => gvE rfl hb) ?_)
    refine aOps_1 rfl rfl rfl (AOp.move' (.inr rfl) rfl ?_)
    refine aOps_end ?_
    show ACode _ _ _ _ _ _
    refine ACode.ret ?_
    exact RetQ.one rfl rfl (by (repeat (first | exact sub_refl _ | assumption | refine sub_upd' ?_ (by ((repeat refine (upd_other _ _ (by omega)).trans ?_); first | exact hf _ (by omega) | exact hfL8 _ (by omega))) | refine sub_trans ?_ hsL8 | refine sub_over (by assumption) | refine sub_over0 ?_ | refine sub_trans (sub_same (by assumption)) ?_ | refine sub_dropu ?_ | refine sub_drop ?_ | refine sub_put ?_ (by repeat (first | assumption | exact upd_same _ _ _ | refine (upd_other _ _ (by omega)).trans ?_ | refine hsL8 _ _ ?_))))) stays (fun hk => ⟨rfl, rfl, by omega⟩)

theorem clashHeads (ht : H 0 = some tabBlk) (s t : Int) (h1 : -9223372036854775808 ≤ s) (h2 : s ≤ 9223372036854775807) (h3 : -9223372036854775808 ≤ t) (h4 : t ≤ 9223372036854775807) (d e : Dg) : ACalls Tryd.prog 1 4 [.int .i64 s, hv d, .int .i64 t, hv e] H k (Same H k (.bool true)) := by
  refine ACalls.fresh fun hf => ?_
  refine ACalls.body Tryd.func4 rfl (Nat.le_of_ble_eq_true rfl) ?_
  have h0k := old_lt hf ht
  refine ACode.seq ?_
  refine ACode.region' [0, 1, 2] (by kernel_rfl) rfl ?_
  refine aOps_1 rfl rfl rfl (AOp.boxV rfl rfl ?_)
  refine aOps_1 rfl rfl rfl (AOp.boxV rfl rfl ?_)
  refine aOps_1 rfl rfl rfl (AOp.move' (.inr rfl) rfl ?_)
  refine aOps_end ?_
  show ACode _ _ _ _ _ _
  refine ACode.seq ?_
  refine ACode.region' [0, 1, 2, 3, 4, 5, 6, 7, 8, 9, 10, 11] (by kernel_rfl) rfl ?_
  refine aOps_1 rfl rfl rfl (AOp.move' (.inl rfl) rfl ?_)
  refine aOps_1 rfl rfl rfl ?_
  refine AOp.loadAll (b := ?b9) (v := hv d) rfl rfl ?hn9 ?hv9 ?hw9 ?hz9 ?hR9
  (case hn9 => repeat (first | assumption | exact upd_same _ _ _ | refine (upd_other _ _ (by omega)).trans ?_ | refine hsL8 _ _ ?_))
  (case hv9 => rfl)
  (case hw9 => rfl)
  (case hz9 => first | rfl | exact hv_size _ | exact hcs_one _ | exact (aw_size _).trans rfl | exact one_wv _ | exact one_bv _ | (simp; done))
  refine aOps_1 rfl rfl rfl (AOp.move' (.inl rfl) rfl ?_)
  refine aOps_1 rfl rfl rfl ?_
  refine AOp.loadAll (b := ?b10) (v := hv e) rfl rfl ?hn10 ?hv10 ?hw10 ?hz10 ?hR10
  (case hn10 => repeat (first | assumption | exact upd_same _ _ _ | refine (upd_other _ _ (by omega)).trans ?_ | refine hsL8 _ _ ?_))
  (case hv10 => rfl)
  (case hw10 => rfl)
  (case hz10 => first | rfl | exact hv_size _ | exact hcs_one _ | exact (aw_size _).trans rfl | exact one_wv _ | exact one_bv _ | (simp; done))
  refine aOps_1 rfl rfl rfl ?_
  refine AOp.call' rfl rfl rfl (heads_c _ _ (by repeat (first | assumption | exact upd_same _ _ _ | refine (upd_other _ _ (by omega)).trans ?_ | refine hsL8 _ _ ?_)) s t h1 h2 h3 h4 d e) ?_
  rintro _ H1 k1 ⟨hk1, hsL8, hfL8, x6, y6, A6, B6, c6, d6, rfl, hx6, hy6, ht6, hf6⟩
  refine aOps_1 rfl rfl rfl (AOp.move' (.inl rfl) rfl ?_)
  refine aOps_1 rfl rfl rfl (AOp.extract' rfl rfl rfl ?_)
  refine aOps_1 rfl rfl rfl (AOp.extract' rfl rfl rfl ?_)
  refine aOps_1 rfl rfl rfl (AOp.extract' rfl rfl rfl ?_)
  refine aOps_1 rfl rfl rfl (AOp.move' (.inr rfl) rfl ?_)
  refine aOps_1 rfl rfl rfl (AOp.move' (.inr rfl) rfl ?_)
  refine aOps_1 rfl rfl rfl (AOp.move' (.inr rfl) rfl ?_)
  refine aOps_end ?_
  show ACode _ _ _ _ _ _
  refine ACode.seq ?_
  refine ACode.region' [0, 1, 2, 3, 4, 5, 6, 7, 8, 9, 10, 11, 12] (by kernel_rfl) rfl ?_
  refine aOps_1 rfl rfl rfl (AOp.move' (.inl rfl) rfl ?_)
  refine aOps_1 rfl rfl rfl (AOp.move' (.inl rfl) rfl ?_)
  refine aOps_1 rfl rfl rfl (AOp.move' (.inl rfl) rfl ?_)
  refine aOps_1 rfl rfl rfl (AOp.move' (.inl rfl) rfl ?_)
  refine aOps_1 rfl rfl rfl ?_
  refine AOp.loadAll (b := ?b11) (v := hv d) rfl rfl ?hn11 ?hv11 ?hw11 ?hz11 ?hR11
  (case hn11 => repeat (first | assumption | exact upd_same _ _ _ | refine (upd_other _ _ (by omega)).trans ?_ | refine hsL8 _ _ ?_))
  (case hv11 => rfl)
  (case hw11 => rfl)
  (case hz11 => first | rfl | exact hv_size _ | exact hcs_one _ | exact (aw_size _).trans rfl | exact one_wv _ | exact one_bv _ | (simp; done))
  refine aOps_1 rfl rfl rfl (AOp.move' (.inl rfl) rfl ?_)
  refine aOps_1 rfl rfl rfl ?_
  refine AOp.loadAll (b := ?b12) (v := hv e) rfl rfl ?hn12 ?hv12 ?hw12 ?hz12 ?hR12
  (case hn12 => repeat (first | assumption | exact upd_same _ _ _ | refine (upd_other _ _ (by omega)).trans ?_ | refine hsL8 _ _ ?_))
  (case hv12 => rfl)
  (case hw12 => rfl)
  (case hz12 => first | rfl | exact hv_size _ | exact hcs_one _ | exact (aw_size _).trans rfl | exact one_wv _ | exact one_bv _ | (simp; done))
  refine aOps_q rfl rfl rfl (AOp.call' rfl rfl rfl (refHeads_b _ _ (by repeat (first | assumption | exact upd_same _ _ _ | refine (upd_other _ _ (by omega)).trans ?_ | refine hsL8 _ _ ?_)) s t h1 h2 h3 h4 d e) (fun _ _ _ h => h)) (fun kq hkq => ?_)
  refine aOps_q rfl rfl rfl (AOp.call' rfl rfl rfl (found_b _ _ (by repeat (first | assumption | exact upd_same _ _ _ | refine (upd_other _ _ (by omega)).trans ?_ | refine hsL8 _ _ ?_)) x6 y6 A6 B6 c6 d6 (hx6.sub (by (repeat (first | exact sub_refl _ | assumption | refine sub_upd' ?_ (by ((repeat refine (upd_other _ _ (by omega)).trans ?_); first | exact hf _ (by omega) | exact hfL8 _ (by omega))) | refine sub_trans ?_ hsL8 | refine sub_over (by assumption) | refine sub_over0 ?_ | refine sub_trans (sub_same (by assumption)) ?_ | refine sub_dropu ?_ | refine sub_drop ?_ | refine sub_put ?_ (by repeat (first | assumption | exact upd_same _ _ _ | refine (upd_other _ _ (by omega)).trans ?_ | refine hsL8 _ _ ?_)))))) (hy6.sub (by (repeat (first | exact sub_refl _ | assumption | refine sub_upd' ?_ (by ((repeat refine (upd_other _ _ (by omega)).trans ?_); first | exact hf _ (by omega) | exact hfL8 _ (by omega))) | refine sub_trans ?_ hsL8 | refine sub_over (by assumption) | refine sub_over0 ?_ | refine sub_trans (sub_same (by assumption)) ?_ | refine sub_dropu ?_ | refine sub_drop ?_ | refine sub_put ?_ (by repeat (first | assumption | exact upd_same _ _ _ | refine (upd_other _ _ (by omega)).trans ?_ | refine hsL8 _ _ ?_)))))) _ _ rfl ht6 hf6) (fun _ _ _ h => h)) (fun kq hkq => ?_)
  refine aOps_1 rfl rfl rfl (AOp.move' (.inl rfl) rfl ?_)
  refine aOps_gd rfl rfl (wantT rfl rfl rfl) (fun hc => AOp.slots [] .nil (AOp.call' rfl rfl rfl (awake22 _ _ (by repeat (first | assumption | exact upd_same _ _ _ | refine (upd_other _ _ (by omega)).trans ?_ | refine hsL8 _ _ ?_))) (fun _ _ _ h => h))) (fun kq hkq => ?_)
  refine aOps_1 rfl rfl rfl (AOp.pickAnd rfl rfl rfl (fun hb => gvE rfl hb) ?_)
  refine aOps_1 rfl rfl rfl (AOp.move' (.inr rfl) rfl ?_)
  refine aOps_end ?_
  show ACode _ _ _ _ _ _
  refine ACode.ret ?_
  exact RetQ.one rfl rfl (by (repeat (first | exact sub_refl _ | assumption | refine sub_upd' ?_ (by ((repeat refine (upd_other _ _ (by omega)).trans ?_); first | exact hf _ (by omega) | exact hfL8 _ (by omega))) | refine sub_trans ?_ hsL8 | refine sub_over (by assumption) | refine sub_over0 ?_ | refine sub_trans (sub_same (by assumption)) ?_ | refine sub_dropu ?_ | refine sub_drop ?_ | refine sub_put ?_ (by repeat (first | assumption | exact upd_same _ _ _ | refine (upd_other _ _ (by omega)).trans ?_ | refine hsL8 _ _ ?_))))) stays (fun hk => ⟨rfl, rfl, by omega⟩)
end

end Go.Proofs.YtipaiielkpifoaaDoor
