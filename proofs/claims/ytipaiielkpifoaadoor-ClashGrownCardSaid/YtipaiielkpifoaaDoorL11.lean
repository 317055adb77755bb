/- Contracts over the abstract states: a proof of another old root; the statement on proofs. -/
import Derived.Test.YtipaiielkpifoaaDoorL10
set_option linter.unusedVariables false
set_option linter.unusedSimpArgs false
set_option maxRecDepth 100000
namespace Go.Proofs.YtipaiielkpifoaaDoor
open Go Go.Ab

def grownOk (l : List (List UInt8)) (m : Int) (a : Dg) (p : List Dg) : Bool := checkZ m (l.length : Int) a (root l) p && !decide (a = root (l.take m.toNat))
theorem grownOk_is {l : List (List UInt8)} {x : Nat} {a : Dg} {p : List Dg} (h : grownOk l (x : Int) a p = true) : grownIn l x a p false := by
  unfold grownOk at h
  rw [Int.toNat_natCast, Bool.and_eq_true, Bool.not_eq_true', decide_eq_false_iff_not] at h
  obtain ⟨h1, h2⟩ := h
  unfold checkZ at h1
  by_cases hm : mayZ (x : Int) (l.length : Int) = true
  · rw [if_pos hm] at h1
    by_cases h0 : x = 0
    · subst h0
      rw [if_pos (by rfl), decide_eq_true_eq] at h1
      exact absurd (h1.2.trans root_nil.symm) h2
    · rw [if_neg (by omega), decide_eq_true_eq, Int.toNat_natCast, Int.toNat_natCast] at h1
      unfold mayZ at hm
      rw [decide_eq_true_eq] at hm
      exact ⟨by omega, by omega, h1.1, by rw [h1.2], by rw [h1.2]; exact h2⟩
  · rw [if_neg hm] at h1
    cases h1
theorem grownOk_bad {l : List (List UInt8)} {m : Int} {a : Dg} {p : List Dg} (hb : mayZ m (l.length : Int) = false) : grownOk l m a p = false := by
  unfold grownOk
  rw [checkZ_bad hb]
  rfl
theorem grownOk_not (l : List (List UInt8)) (x : Nat) (a : Dg) (p : List Dg) : (!checkZ (x : Int) (l.length : Int) a (root l) p || decide (a = root (l.take x))) = !grownOk l (x : Int) a p := by
  unfold grownOk
  rw [Int.toNat_natCast]
  cases checkZ (x : Int) (l.length : Int) a (root l) p <;> cases decide (a = root (l.take x)) <;> rfl
section
variable (H : Hp) (k : Nat)

theorem grownC_in (ht : H 0 = some tabBlk) (ls : List (List UInt8)) (vs : List Value) (A : Option Addr) (c : Nat) (hs : SLC H 1 A vs.length c vs) (hL : Lvs H vs ls) (hl : vs.length ≤ 1099511627776) (hb : ∀ x ∈ ls, x.length ≤ 549755813000) (x : Nat) (hx : x ≤ vs.length) (a : Dg) (p : List Dg) (E : Option Addr) (e : Nat) (hsP : SLC H 32 E p.length e (hcs p)) (hpl : p.length ≤ 9223372036854775807) : ACalls Tryd.prog 1 35 [.slice A vs.length c, .int .i64 (x : Int), hv a, .slice E p.length e] H k (TellsR H k (grownOk ls (x : Int) a p)) := by
  refine ACalls.fresh fun hf => ?_
  refine ACalls.body Tryd.func35 rfl (Nat.le_of_ble_eq_true rfl) ?_
  have h0k := old_lt hf ht
  have hvl := hL.len
  have hnot := grownOk_not ls x a p
  rw [← hvl] at hnot
  refine ACode.seq ?_
  refine ACode.region' [0, 1, 2, 3] (by kernel_rfl) rfl ?_
  refine aOps_1 rfl rfl rfl (AOp.boxV rfl rfl ?_)
  refine aOps_1 rfl rfl rfl (AOp.move' (.inr rfl) rfl ?_)
  refine aOps_1 rfl rfl rfl (AOp.move' (.inr rfl) rfl ?_)
  refine aOps_1 rfl rfl rfl (AOp.move' (.inr rfl) rfl ?_)
  refine aOps_end ?_
  show ACode _ _ _ _ _ _
  refine ACode.seq ?_
  refine ACode.seq ?_
  obtain ⟨A1_13, c1_13, hq1_13, hs1_13⟩ := SLC.cutL hs x none hx (by intro y hy; cases hy)
  refine ACode.draw' 17 [(0, 11), (1, 12), (2, 13), (3, 14), (4, 15), (5, 16), (6, 17), (7, 18), (8, 19), (9, 20), (10, 21), (11, 22), (12, 23), (13, 24), (14, 25), (15, 26), (16, 27)] mixed (by kernel_rfl) ?_
  refine Draw.step [(1, none)] rfl (by kernel_rfl) rfl (fun kq hkq => AOp.move' (.inl rfl) rfl ⟨rfl, rfl, Nat.le_refl _⟩) ?_
  refine Draw.step [(0, none)] rfl (by kernel_rfl) rfl (fun kq hkq => AOp.move' (.inl rfl) rfl ⟨rfl, rfl, Nat.le_refl _⟩) ?_
  refine Draw.step [(12, some 1)] rfl (by kernel_rfl) rfl (fun kq hkq => AOp.len' rfl rfl ⟨rfl, rfl, Nat.le_refl _⟩) ?_
  refine Draw.step [(6, none)] rfl (by kernel_rfl) rfl (fun kq hkq => (by refine AOp.loadAll (b := ?b1) (v := hv a) rfl rfl ?hn1 ?hv1 ?hw1 ?hz1 ?hR1; (case hn1 => repeat (first | assumption | exact upd_same _ _ _ | refine (upd_other _ _ (by omega)).trans ?_ | refine hsL8 _ _ ?_)); (case hv1 => rfl); (case hw1 => rfl); (case hz1 => first | rfl | exact hv_size _ | exact hcs_one _ | exact (aw_size _).trans rfl | exact one_wv _ | exact one_bv _ | (simp; done)); exact ⟨rfl, rfl, Nat.le_refl _⟩)) ?_
  refine Draw.step [(0, none)] rfl (by kernel_rfl) rfl (fun kq hkq => AOp.move' (.inl rfl) rfl ⟨rfl, rfl, Nat.le_refl _⟩) ?_
  refine Draw.step [(15, some 4)] rfl (by kernel_rfl) rfl (fun kq hkq => AOp.call' rfl rfl rfl (root_b (vs.length + 1) ls vs A c _ _ (by repeat (first | assumption | exact upd_same _ _ _ | refine (upd_other _ _ (by omega)).trans ?_ | refine hsL8 _ _ ?_)) (hs.sub (by (repeat (first | exact sub_refl _ | assumption | refine sub_upd' ?_ (by ((repeat refine (upd_other _ _ (by omega)).trans ?_); first | exact hf _ (by omega) | exact hfL8 _ (by omega))) | refine sub_trans ?_ hsL8 | refine sub_over (by assumption) | refine sub_over0 ?_ | refine sub_trans (sub_same (by assumption)) ?_ | refine sub_dropu ?_ | refine sub_drop ?_ | refine sub_put ?_ (by repeat (first | assumption | exact upd_same _ _ _ | refine (upd_other _ _ (by omega)).trans ?_ | refine hsL8 _ _ ?_)))))) (hL.sub (by (repeat (first | exact sub_refl _ | assumption | refine sub_upd' ?_ (by ((repeat refine (upd_other _ _ (by omega)).trans ?_); first | exact hf _ (by omega) | exact hfL8 _ (by omega))) | refine sub_trans ?_ hsL8 | refine sub_over (by assumption) | refine sub_over0 ?_ | refine sub_trans (sub_same (by assumption)) ?_ | refine sub_dropu ?_ | refine sub_drop ?_ | refine sub_put ?_ (by repeat (first | assumption | exact upd_same _ _ _ | refine (upd_other _ _ (by omega)).trans ?_ | refine hsL8 _ _ ?_)))))) (by omega) hb (by omega)) (fun _ _ _ h => h)) ?_
  refine Draw.step [(3, none)] rfl (by kernel_rfl) rfl (fun kq hkq => AOp.move' (.inl rfl) rfl ⟨rfl, rfl, Nat.le_refl _⟩) ?_
  refine Draw.step [(11, some 0), (13, some 2), (14, some 3), (16, some 5), (17, some 6)] rfl (by kernel_rfl) rfl (fun kq hkq => AOp.call' rfl rfl rfl (check_b _ _ (by repeat (first | assumption | exact upd_same _ _ _ | refine (upd_other _ _ (by omega)).trans ?_ | refine hsL8 _ _ ?_)) (x : Int) (vs.length : Int) (by omega) (by omega) (by omega) (by omega) a (root ls) p E e (hsP.sub (by (repeat (first | exact sub_refl _ | assumption | refine sub_upd' ?_ (by ((repeat refine (upd_other _ _ (by omega)).trans ?_); first | exact hf _ (by omega) | exact hfL8 _ (by omega))) | refine sub_trans ?_ hsL8 | refine sub_over (by assumption) | refine sub_over0 ?_ | refine sub_trans (sub_same (by assumption)) ?_ | refine sub_dropu ?_ | refine sub_drop ?_ | refine sub_put ?_ (by repeat (first | assumption | exact upd_same _ _ _ | refine (upd_other _ _ (by omega)).trans ?_ | refine hsL8 _ _ ?_)))))) hpl) (fun _ _ _ h => h)) ?_
  refine Draw.step [(18, some 7)] rfl (by kernel_rfl) rfl (fun kq hkq => AOp.un' rfl rfl rfl ⟨rfl, rfl, Nat.le_refl _⟩) ?_
  refine Draw.step [(19, some 8)] rfl (by kernel_rfl) rfl (fun kq hkq => AOp.move' (.inl rfl) rfl ⟨rfl, rfl, Nat.le_refl _⟩) ?_
  refine Draw.gd [(6, none), (20, some 9)] rfl (by kernel_rfl) (wantF rfl rfl rfl) (fun kq hkq hc => AOp.slots [(6, _)] (.cons rfl .nil) ((by refine AOp.loadAll (b := ?b2) (v := hv a) rfl rfl ?hn2 ?hv2 ?hw2 ?hz2 ?hR2; (case hn2 => repeat (first | assumption | exact upd_same _ _ _ | refine (upd_other _ _ (by omega)).trans ?_ | refine hsL8 _ _ ?_)); (case hv2 => rfl); (case hw2 => rfl); (case hz2 => first | rfl | exact hv_size _ | exact hcs_one _ | exact (aw_size _).trans rfl | exact one_wv _ | exact one_bv _ | (simp; done)); exact ⟨rfl, rfl, Nat.le_refl _⟩))) ?_
  refine Draw.gd [(0, none), (20, some 9)] rfl (by kernel_rfl) (wantF rfl rfl rfl) (fun kq hkq hc => AOp.slots [(0, _)] (.cons rfl .nil) (AOp.move' (.inl rfl) rfl ⟨rfl, rfl, Nat.le_refl _⟩)) ?_
  refine Draw.gd [(1, none), (20, some 9)] rfl (by kernel_rfl) (wantF rfl rfl rfl) (fun kq hkq hc => AOp.slots [(1, _)] (.cons rfl .nil) (AOp.move' (.inl rfl) rfl ⟨rfl, rfl, Nat.le_refl _⟩)) ?_
  refine Draw.gd [(22, some 11), (23, some 12), (20, some 9)] rfl (by kernel_rfl) (wantF rfl rfl rfl) (fun kq hkq hc => AOp.slots [(22, _), (23, _)] (.cons (gvT rfl hc) (.cons (gvT rfl hc) .nil)) (AOp.cutQ (aslice_sub (by (repeat (first | exact sub_refl _ | assumption | refine sub_upd' ?_ (by ((repeat refine (upd_other _ _ (by omega)).trans ?_); first | exact hf _ (by omega) | exact hfL8 _ (by omega))) | refine sub_trans ?_ hsL8 | refine sub_over (by assumption) | refine sub_over0 ?_ | refine sub_trans (sub_same (by assumption)) ?_ | refine sub_dropu ?_ | refine sub_drop ?_ | refine sub_put ?_ (by repeat (first | assumption | exact upd_same _ _ _ | refine (upd_other _ _ (by omega)).trans ?_ | refine hsL8 _ _ ?_))))) hq1_13) rfl rfl (bnd_no rfl) (bnd_at rfl rfl) mx_no ⟨rfl, rfl, Nat.le_refl _⟩)) ?_
  refine Draw.gd [(24, some 13), (20, some 9)] rfl (by kernel_rfl) (wantF rfl rfl rfl) (fun kq hkq hc => AOp.slots [(24, _)] (.cons (gvT rfl hc) .nil) (AOp.call' rfl rfl rfl (root_b (vs.length + 1) (ls.take x) (vs.take x) A1_13 c1_13 _ _ (by repeat (first | assumption | exact upd_same _ _ _ | refine (upd_other _ _ (by omega)).trans ?_ | refine hsL8 _ _ ?_)) (hs1_13.sub (by (repeat (first | exact sub_refl _ | assumption | refine sub_upd' ?_ (by ((repeat refine (upd_other _ _ (by omega)).trans ?_); first | exact hf _ (by omega) | exact hfL8 _ (by omega))) | refine sub_trans ?_ hsL8 | refine sub_over (by assumption) | refine sub_over0 ?_ | refine sub_trans (sub_same (by assumption)) ?_ | refine sub_dropu ?_ | refine sub_drop ?_ | refine sub_put ?_ (by repeat (first | assumption | exact upd_same _ _ _ | refine (upd_other _ _ (by omega)).trans ?_ | refine hsL8 _ _ ?_)))))) ((hL.take _).sub (by (repeat (first | exact sub_refl _ | assumption | refine sub_upd' ?_ (by ((repeat refine (upd_other _ _ (by omega)).trans ?_); first | exact hf _ (by omega) | exact hfL8 _ (by omega))) | refine sub_trans ?_ hsL8 | refine sub_over (by assumption) | refine sub_over0 ?_ | refine sub_trans (sub_same (by assumption)) ?_ | refine sub_dropu ?_ | refine sub_drop ?_ | refine sub_put ?_ (by repeat (first | assumption | exact upd_same _ _ _ | refine (upd_other _ _ (by omega)).trans ?_ | refine hsL8 _ _ ?_)))))) (by rw [List.length_take]; omega) (fun y hy => hb y (List.mem_of_mem_take hy)) (by rw [List.length_take]; omega)) (fun _ _ _ h => h))) ?_
  refine Draw.gd [(21, some 10), (25, some 14), (20, some 9)] rfl (by kernel_rfl) (wantF rfl rfl rfl) (fun kq hkq hc => AOp.slots [(21, _), (25, _)] (.cons (gvT rfl hc) (.cons (gvT rfl hc) .nil)) (AOp.eqAgg (decide (a = root (ls.take x))) rfl rfl rfl (hv_sc _) (hv_sc _) (hv_iff _ _) ⟨rfl, rfl, Nat.le_refl _⟩)) ?_
  refine Draw.step [(20, some 9), (26, some 15)] rfl (by kernel_rfl) rfl (fun kq hkq => AOp.pickOr rfl rfl rfl (fun hb => gvE rfl (t_not hb)) ⟨rfl, rfl, Nat.le_refl _⟩) ?_
  refine Draw.done fun kq hkq => ?_
  show aOps _ _ _ _ [] ⟨_, _, _⟩
  refine aOps_end ?_
  show ACode _ _ _ _ _ _
  refine ACode.cond rfl (fun c0 => ?_) (fun c0 => ?_)
  · try simp only [decide_eq_true_eq, decide_eq_false_iff_not, beq_iff_eq, beq_eq_false_iff_ne, ne_eq, bne_iff_ne, Bool.not_eq_true', Bool.not_eq_false', Int.not_lt, Int.not_le, gt_iff_lt, ge_iff_le, bne_eq_false_iff_eq, Bool.not_eq_eq_eq_not, Bool.not_true, Bool.not_false] at c0
    have hno : grownOk ls (x : Int) a p = false := by { have h := c0; rw [hnot] at h; simpa using h }
    refine ACode.seq ?_
    refine ACode.region' [0, 1, 2] (by kernel_rfl) rfl ?_
    refine aOps_1 rfl rfl rfl (AOp.move' (.inr rfl) rfl ?_)
    refine aOps_1 rfl rfl rfl (AOp.move' (.inr rfl) rfl ?_)
    refine aOps_1 rfl rfl rfl (AOp.move' (.inr rfl) rfl ?_)
    refine aOps_end ?_
    show ACode _ _ _ _ _ _
    refine ACode.ret ?_
    refine RetQ.three rfl rfl rfl rfl (sub_refl _) (stays_sub (by (repeat (first | exact sub_refl _ | assumption | refine sub_upd' ?_ (by ((repeat refine (upd_other _ _ (by omega)).trans ?_); first | exact hf _ (by omega) | exact hfL8 _ (by omega))) | refine sub_trans ?_ hsL8 | refine sub_over (by assumption) | refine sub_over0 ?_ | refine sub_trans (sub_same (by assumption)) ?_ | refine sub_dropu ?_ | refine sub_drop ?_ | refine sub_put ?_ (by repeat (first | assumption | exact upd_same _ _ _ | refine (upd_other _ _ (by omega)).trans ?_ | refine hsL8 _ _ ?_)))))) (fun hk => ⟨by omega, by (repeat (first | exact sub_refl _ | assumption | refine sub_upd' ?_ (by ((repeat refine (upd_other _ _ (by omega)).trans ?_); first | exact hf _ (by omega) | exact hfL8 _ (by omega))) | refine sub_trans ?_ hsL8 | refine sub_over (by assumption) | refine sub_over0 ?_ | refine sub_trans (sub_same (by assumption)) ?_ | refine sub_dropu ?_ | refine sub_drop ?_ | refine sub_put ?_ (by repeat (first | assumption | exact upd_same _ _ _ | refine (upd_other _ _ (by omega)).trans ?_ | refine hsL8 _ _ ?_)))), (fun n hn => by (repeat refine (upd_other _ _ (by omega)).trans ?_); first | exact hf _ (by omega)), ?_⟩)
    rw [hno]
    exact Tells.no
  · try simp only [decide_eq_true_eq, decide_eq_false_iff_not, beq_iff_eq, beq_eq_false_iff_ne, ne_eq, bne_iff_ne, Bool.not_eq_true', Bool.not_eq_false', Int.not_lt, Int.not_le, gt_iff_lt, ge_iff_le, bne_eq_false_iff_eq, Bool.not_eq_eq_eq_not, Bool.not_true, Bool.not_false] at c0
    have hok : grownOk ls (x : Int) a p = true := by { have h := c0; rw [hnot] at h; simpa using h }
    have hin := grownOk_is hok
    refine ACode.skip ?_
    show ACode _ _ _ _ _ _
    refine ACode.seq ?_
    refine ACode.region' [0, 1, 2, 3, 4, 5, 6, 7, 8, 9, 10] (by kernel_rfl) rfl ?_
    refine aOps_1 rfl rfl rfl (AOp.move' (.inl rfl) rfl ?_)
    refine aOps_1 rfl rfl rfl (AOp.move' (.inl rfl) rfl ?_)
    refine aOps_1 rfl rfl rfl ?_
    refine AOp.loadAll (b := ?b3) (v := hv a) rfl rfl ?hn3 ?hv3 ?hw3 ?hz3 ?hR3
    (case hn3 => repeat (first | assumption | exact upd_same _ _ _ | refine (upd_other _ _ (by omega)).trans ?_ | refine hsL8 _ _ ?_))
    (case hv3 => rfl)
    (case hw3 => rfl)
    (case hz3 => first | rfl | exact hv_size _ | exact hcs_one _ | exact (aw_size _).trans rfl | exact one_wv _ | exact one_bv _ | (simp; done))
    refine aOps_1 rfl rfl rfl (AOp.move' (.inl rfl) rfl ?_)
    refine aOps_1 rfl rfl rfl ?_
    refine AOp.call' rfl rfl rfl (grown_c (vs.length + 1) ls vs A c x a p E e false _ _ (by repeat (first | assumption | exact upd_same _ _ _ | refine (upd_other _ _ (by omega)).trans ?_ | refine hsL8 _ _ ?_)) (hs.sub (by (repeat (first | exact sub_refl _ | assumption | refine sub_upd' ?_ (by ((repeat refine (upd_other _ _ (by omega)).trans ?_); first | exact hf _ (by omega) | exact hfL8 _ (by omega))) | refine sub_trans ?_ hsL8 | refine sub_over (by assumption) | refine sub_over0 ?_ | refine sub_trans (sub_same (by assumption)) ?_ | refine sub_dropu ?_ | refine sub_drop ?_ | refine sub_put ?_ (by repeat (first | assumption | exact upd_same _ _ _ | refine (upd_other _ _ (by omega)).trans ?_ | refine hsL8 _ _ ?_)))))) (hL.sub (by (repeat (first | exact sub_refl _ | assumption | refine sub_upd' ?_ (by ((repeat refine (upd_other _ _ (by omega)).trans ?_); first | exact hf _ (by omega) | exact hfL8 _ (by omega))) | refine sub_trans ?_ hsL8 | refine sub_over (by assumption) | refine sub_over0 ?_ | refine sub_trans (sub_same (by assumption)) ?_ | refine sub_dropu ?_ | refine sub_drop ?_ | refine sub_put ?_ (by repeat (first | assumption | exact upd_same _ _ _ | refine (upd_other _ _ (by omega)).trans ?_ | refine hsL8 _ _ ?_)))))) hl hb (hsP.sub (by (repeat (first | exact sub_refl _ | assumption | refine sub_upd' ?_ (by ((repeat refine (upd_other _ _ (by omega)).trans ?_); first | exact hf _ (by omega) | exact hfL8 _ (by omega))) | refine sub_trans ?_ hsL8 | refine sub_over (by assumption) | refine sub_over0 ?_ | refine sub_trans (sub_same (by assumption)) ?_ | refine sub_dropu ?_ | refine sub_drop ?_ | refine sub_put ?_ (by repeat (first | assumption | exact upd_same _ _ _ | refine (upd_other _ _ (by omega)).trans ?_ | refine hsL8 _ _ ?_)))))) hpl hin (by omega)) ?_
    rintro _ H1 k1 ⟨hk1, hsL8, hfL8, x6, y6, A6, B6, c6, d6, rfl, hx6, hy6, ht6, hf6⟩
    refine aOps_1 rfl rfl rfl (AOp.extract' rfl rfl rfl ?_)
    refine aOps_1 rfl rfl rfl (AOp.extract' rfl rfl rfl ?_)
    refine aOps_1 rfl rfl rfl (AOp.extract' rfl rfl rfl ?_)
    refine aOps_1 rfl rfl rfl (AOp.move' (.inr rfl) rfl ?_)
    refine aOps_1 rfl rfl rfl (AOp.move' (.inr rfl) rfl ?_)
    refine aOps_1 rfl rfl rfl (AOp.move' (.inr rfl) rfl ?_)
    refine aOps_end ?_
    show ACode _ _ _ _ _ _
    refine ACode.ret ?_
    refine RetQ.three rfl rfl rfl rfl (sub_refl _) (stays_sub (by (repeat (first | exact sub_refl _ | assumption | refine sub_upd' ?_ (by ((repeat refine (upd_other _ _ (by omega)).trans ?_); first | exact hf _ (by omega) | exact hfL8 _ (by omega))) | refine sub_trans ?_ hsL8 | refine sub_over (by assumption) | refine sub_over0 ?_ | refine sub_trans (sub_same (by assumption)) ?_ | refine sub_dropu ?_ | refine sub_drop ?_ | refine sub_put ?_ (by repeat (first | assumption | exact upd_same _ _ _ | refine (upd_other _ _ (by omega)).trans ?_ | refine hsL8 _ _ ?_)))))) (fun hk => ⟨by omega, by (repeat (first | exact sub_refl _ | assumption | refine sub_upd' ?_ (by ((repeat refine (upd_other _ _ (by omega)).trans ?_); first | exact hf _ (by omega) | exact hfL8 _ (by omega))) | refine sub_trans ?_ hsL8 | refine sub_over (by assumption) | refine sub_over0 ?_ | refine sub_trans (sub_same (by assumption)) ?_ | refine sub_dropu ?_ | refine sub_drop ?_ | refine sub_put ?_ (by repeat (first | assumption | exact upd_same _ _ _ | refine (upd_other _ _ (by omega)).trans ?_ | refine hsL8 _ _ ?_)))), (fun n hn => by (repeat refine (upd_other _ _ (by omega)).trans ?_); exact hfL8 n (by omega)), ?_⟩)
    rw [hok]
    exact ⟨x6, y6, A6, B6, c6, d6, rfl, hx6, hy6, (fun h => by cases h), fun _ => hf6 rfl⟩

theorem refGrownC_in (ht : H 0 = some tabBlk) (ls : List (List UInt8)) (vs : List Value) (A : Option Addr) (c : Nat) (hs : SLC H 1 A vs.length c vs) (hL : Lvs H vs ls) (hl : vs.length ≤ 1099511627776) (hb : ∀ x ∈ ls, x.length ≤ 549755813000) (x : Nat) (hx : x ≤ vs.length) (a : Dg) (p : List Dg) (E : Option Addr) (e : Nat) (hsP : SLC H 32 E p.length e (hcs p)) (hpl : p.length ≤ 9223372036854775807) : ACalls Tryd.prog 1 36 [.slice A vs.length c, .int .i64 (x : Int), hv a, .slice E p.length e] H k (Same H k (.bool (grownOk ls (x : Int) a p))) := by
  refine ACalls.fresh fun hf => ?_
  refine ACalls.body Tryd.func36 rfl (Nat.le_of_ble_eq_true rfl) ?_
  have h0k := old_lt hf ht
  have hvl := hL.len
  have hnot := grownOk_not ls x a p
  rw [← hvl] at hnot
  refine ACode.seq ?_
  refine ACode.region' [0, 1] (by kernel_rfl) rfl ?_
  refine aOps_1 rfl rfl rfl (AOp.boxV rfl rfl ?_)
  refine aOps_1 rfl rfl rfl (AOp.move' (.inr rfl) rfl ?_)
  refine aOps_end ?_
  show ACode _ _ _ _ _ _
  refine ACode.seq ?_
  obtain ⟨A1_12, c1_12, hq1_12, hs1_12⟩ := SLC.cutL hs x none hx (by intro y hy; cases hy)
  refine ACode.draw' 17 [(0, 9), (1, 10), (2, 11), (3, 12), (4, 13), (5, 14), (6, 15), (7, 16), (8, 17), (9, 18), (10, 19), (11, 20), (12, 21), (13, 22), (14, 23), (15, 24), (16, 8)] mixed (by kernel_rfl) ?_
  refine Draw.step [(1, none)] rfl (by kernel_rfl) rfl (fun kq hkq => AOp.move' (.inl rfl) rfl ⟨rfl, rfl, Nat.le_refl _⟩) ?_
  refine Draw.step [(0, none)] rfl (by kernel_rfl) rfl (fun kq hkq => AOp.move' (.inl rfl) rfl ⟨rfl, rfl, Nat.le_refl _⟩) ?_
  refine Draw.step [(10, some 1)] rfl (by kernel_rfl) rfl (fun kq hkq => AOp.len' rfl rfl ⟨rfl, rfl, Nat.le_refl _⟩) ?_
  refine Draw.step [(6, none)] rfl (by kernel_rfl) rfl (fun kq hkq => (by refine AOp.loadAll (b := ?b4) (v := hv a) rfl rfl ?hn4 ?hv4 ?hw4 ?hz4 ?hR4; (case hn4 => repeat (first | assumption | exact upd_same _ _ _ | refine (upd_other _ _ (by omega)).trans ?_)); (case hv4 => rfl); (case hw4 => rfl); (case hz4 => first | rfl | exact hv_size _ | exact hcs_one _ | exact (aw_size _).trans rfl | exact one_wv _ | exact one_bv _ | (simp; done)); exact ⟨rfl, rfl, Nat.le_refl _⟩)) ?_
  refine Draw.step [(0, none)] rfl (by kernel_rfl) rfl (fun kq hkq => AOp.move' (.inl rfl) rfl ⟨rfl, rfl, Nat.le_refl _⟩) ?_
  refine Draw.step [(13, some 4)] rfl (by kernel_rfl) rfl (fun kq hkq => AOp.call' rfl rfl rfl (refroot_b (vs.length + 1) ls vs A c _ _ (by repeat (first | assumption | exact upd_same _ _ _ | refine (upd_other _ _ (by omega)).trans ?_)) (hs.sub (by (repeat (first | exact sub_refl _ | assumption | refine sub_upd' ?_ (by ((repeat refine (upd_other _ _ (by omega)).trans ?_); first | exact hf _ (by omega))) | refine sub_over (by assumption) | refine sub_over0 ?_ | refine sub_trans (sub_same (by assumption)) ?_ | refine sub_dropu ?_ | refine sub_drop ?_ | refine sub_put ?_ (by repeat (first | assumption | exact upd_same _ _ _ | refine (upd_other _ _ (by omega)).trans ?_)))))) (hL.sub (by (repeat (first | exact sub_refl _ | assumption | refine sub_upd' ?_ (by ((repeat refine (upd_other _ _ (by omega)).trans ?_); first | exact hf _ (by omega))) | refine sub_over (by assumption) | refine sub_over0 ?_ | refine sub_trans (sub_same (by assumption)) ?_ | refine sub_dropu ?_ | refine sub_drop ?_ | refine sub_put ?_ (by repeat (first | assumption | exact upd_same _ _ _ | refine (upd_other _ _ (by omega)).trans ?_)))))) (by omega) hb (by omega)) (fun _ _ _ h => h)) ?_
  refine Draw.step [(3, none)] rfl (by kernel_rfl) rfl (fun kq hkq => AOp.move' (.inl rfl) rfl ⟨rfl, rfl, Nat.le_refl _⟩) ?_
  refine Draw.step [(9, some 0), (11, some 2), (12, some 3), (14, some 5), (15, some 6)] rfl (by kernel_rfl) rfl (fun kq hkq => AOp.call' rfl rfl rfl (refcheck_b _ _ (by repeat (first | assumption | exact upd_same _ _ _ | refine (upd_other _ _ (by omega)).trans ?_)) (x : Int) (vs.length : Int) (by omega) (by omega) (by omega) (by omega) a (root ls) p E e (hsP.sub (by (repeat (first | exact sub_refl _ | assumption | refine sub_upd' ?_ (by ((repeat refine (upd_other _ _ (by omega)).trans ?_); first | exact hf _ (by omega))) | refine sub_over (by assumption) | refine sub_over0 ?_ | refine sub_trans (sub_same (by assumption)) ?_ | refine sub_dropu ?_ | refine sub_drop ?_ | refine sub_put ?_ (by repeat (first | assumption | exact upd_same _ _ _ | refine (upd_other _ _ (by omega)).trans ?_)))))) hpl) (fun _ _ _ h => h)) ?_
  refine Draw.step [(16, some 7)] rfl (by kernel_rfl) rfl (fun kq hkq => AOp.move' (.inl rfl) rfl ⟨rfl, rfl, Nat.le_refl _⟩) ?_
  refine Draw.gd [(6, none), (17, some 8)] rfl (by kernel_rfl) (wantT rfl rfl rfl) (fun kq hkq hc => AOp.slots [(6, _)] (.cons rfl .nil) ((by refine AOp.loadAll (b := ?b5) (v := hv a) rfl rfl ?hn5 ?hv5 ?hw5 ?hz5 ?hR5; (case hn5 => repeat (first | assumption | exact upd_same _ _ _ | refine (upd_other _ _ (by omega)).trans ?_)); (case hv5 => rfl); (case hw5 => rfl); (case hz5 => first | rfl | exact hv_size _ | exact hcs_one _ | exact (aw_size _).trans rfl | exact one_wv _ | exact one_bv _ | (simp; done)); exact ⟨rfl, rfl, Nat.le_refl _⟩))) ?_
  refine Draw.gd [(0, none), (17, some 8)] rfl (by kernel_rfl) (wantT rfl rfl rfl) (fun kq hkq hc => AOp.slots [(0, _)] (.cons rfl .nil) (AOp.move' (.inl rfl) rfl ⟨rfl, rfl, Nat.le_refl _⟩)) ?_
  refine Draw.gd [(1, none), (17, some 8)] rfl (by kernel_rfl) (wantT rfl rfl rfl) (fun kq hkq hc => AOp.slots [(1, _)] (.cons rfl .nil) (AOp.move' (.inl rfl) rfl ⟨rfl, rfl, Nat.le_refl _⟩)) ?_
  refine Draw.gd [(19, some 10), (20, some 11), (17, some 8)] rfl (by kernel_rfl) (wantT rfl rfl rfl) (fun kq hkq hc => AOp.slots [(19, _), (20, _)] (.cons (gvT rfl hc) (.cons (gvT rfl hc) .nil)) (AOp.cutQ (aslice_sub (by (repeat (first | exact sub_refl _ | assumption | refine sub_upd' ?_ (by ((repeat refine (upd_other _ _ (by omega)).trans ?_); first | exact hf _ (by omega))) | refine sub_over (by assumption) | refine sub_over0 ?_ | refine sub_trans (sub_same (by assumption)) ?_ | refine sub_dropu ?_ | refine sub_drop ?_ | refine sub_put ?_ (by repeat (first | assumption | exact upd_same _ _ _ | refine (upd_other _ _ (by omega)).trans ?_))))) hq1_12) rfl rfl (bnd_no rfl) (bnd_at rfl rfl) mx_no ⟨rfl, rfl, Nat.le_refl _⟩)) ?_
  refine Draw.gd [(21, some 12), (17, some 8)] rfl (by kernel_rfl) (wantT rfl rfl rfl) (fun kq hkq hc => AOp.slots [(21, _)] (.cons (gvT rfl hc) .nil) (AOp.call' rfl rfl rfl (refroot_b (vs.length + 1) (ls.take x) (vs.take x) A1_12 c1_12 _ _ (by repeat (first | assumption | exact upd_same _ _ _ | refine (upd_other _ _ (by omega)).trans ?_)) (hs1_12.sub (by (repeat (first | exact sub_refl _ | assumption | refine sub_upd' ?_ (by ((repeat refine (upd_other _ _ (by omega)).trans ?_); first | exact hf _ (by omega))) | refine sub_over (by assumption) | refine sub_over0 ?_ | refine sub_trans (sub_same (by assumption)) ?_ | refine sub_dropu ?_ | refine sub_drop ?_ | refine sub_put ?_ (by repeat (first | assumption | exact upd_same _ _ _ | refine (upd_other _ _ (by omega)).trans ?_)))))) ((hL.take _).sub (by (repeat (first | exact sub_refl _ | assumption | refine sub_upd' ?_ (by ((repeat refine (upd_other _ _ (by omega)).trans ?_); first | exact hf _ (by omega))) | refine sub_over (by assumption) | refine sub_over0 ?_ | refine sub_trans (sub_same (by assumption)) ?_ | refine sub_dropu ?_ | refine sub_drop ?_ | refine sub_put ?_ (by repeat (first | assumption | exact upd_same _ _ _ | refine (upd_other _ _ (by omega)).trans ?_)))))) (by rw [List.length_take]; omega) (fun y hy => hb y (List.mem_of_mem_take hy)) (by rw [List.length_take]; omega)) (fun _ _ _ h => h))) ?_
  refine Draw.gd [(18, some 9), (22, some 13), (17, some 8)] rfl (by kernel_rfl) (wantT rfl rfl rfl) (fun kq hkq hc => AOp.slots [(18, _), (22, _)] (.cons (gvT rfl hc) (.cons (gvT rfl hc) .nil)) (AOp.neAgg (decide (a = root (ls.take x))) rfl rfl rfl (hv_sc _) (hv_sc _) (hv_iff _ _) ⟨rfl, rfl, Nat.le_refl _⟩)) ?_
  refine Draw.step [(17, some 8), (23, some 14)] rfl (by kernel_rfl) rfl (fun kq hkq => AOp.pickAnd rfl rfl rfl (fun hb => gvE rfl hb) ⟨rfl, rfl, Nat.le_refl _⟩) ?_
  refine Draw.step [(24, some 15)] rfl (by kernel_rfl) rfl (fun kq hkq => AOp.move' (.inr rfl) rfl ⟨rfl, rfl, Nat.le_refl _⟩) ?_
  refine Draw.done fun kq hkq => ?_
  show aOps _ _ _ _ [] ⟨_, _, _⟩
  refine aOps_end ?_
  show ACode _ _ _ _ _ _
  refine ACode.ret ?_
  exact RetQ.one rfl rfl (by (repeat (first | exact sub_refl _ | assumption | refine sub_upd' ?_ (by ((repeat refine (upd_other _ _ (by omega)).trans ?_); first | exact hf _ (by omega))) | refine sub_over (by assumption) | refine sub_over0 ?_ | refine sub_trans (sub_same (by assumption)) ?_ | refine sub_dropu ?_ | refine sub_drop ?_ | refine sub_put ?_ (by repeat (first | assumption | exact upd_same _ _ _ | refine (upd_other _ _ (by omega)).trans ?_))))) stays (fun hk => ⟨(show Value.bool (checkZ (x : Int) (vs.length : Int) a (root ls) p && !decide (a = root (ls.take x))) = _ from by rw [hvl]; rfl), rfl, by omega⟩)

theorem clashGrown_in (ht : H 0 = some tabBlk) (ls : List (List UInt8)) (vs : List Value) (A : Option Addr) (c : Nat) (hs : SLC H 1 A vs.length c vs) (hL : Lvs H vs ls) (hl : vs.length ≤ 9223372036854775807) (x : Nat) (hx : x ≤ vs.length) (a : Dg) (p : List Dg) (E : Option Addr) (e : Nat) (hsP : SLC H 32 E p.length e (hcs p)) (hpl : p.length ≤ 9223372036854775807) : ACalls Tryd.prog 1 7 [.slice A vs.length c, .int .i64 (x : Int), hv a, .slice E p.length e] H k (Same H k (.bool true)) := by
  refine ACalls.fresh fun hf => ?_
  refine ACalls.body Tryd.func7 rfl (Nat.le_of_ble_eq_true rfl) ?_
  have h0k := old_lt hf ht
  have hvl := hL.len
  refine ACode.seq ?_
  refine ACode.region' [0, 1] (by kernel_rfl) rfl ?_
  refine aOps_1 rfl rfl rfl (AOp.boxV rfl rfl ?_)
  refine aOps_1 rfl rfl rfl (AOp.move' (.inr rfl) rfl ?_)
  refine aOps_end ?_
  show ACode _ _ _ _ _ _
  refine ACode.seq ?_
  refine ACode.seq ?_
  refine ACode.region' [0, 1, 2, 3, 4, 5, 6] (by kernel_rfl) rfl ?_
  refine aOps_1 rfl rfl rfl (AOp.move' (.inl rfl) rfl ?_)
  refine aOps_q rfl rfl rfl (AOp.call' rfl rfl rfl (great_l _ _ ls vs A c (hs.sub (by (repeat (first | exact sub_refl _ | assumption | refine sub_upd' ?_ (by ((repeat refine (upd_other _ _ (by omega)).trans ?_); first | exact hf _ (by omega) | exact hfL8 _ (by omega))) | refine sub_trans ?_ hsL8 | refine sub_over (by assumption) | refine sub_over0 ?_ | refine sub_trans (sub_same (by assumption)) ?_ | refine sub_dropu ?_ | refine sub_drop ?_ | refine sub_put ?_ (by repeat (first | assumption | exact upd_same _ _ _ | refine (upd_other _ _ (by omega)).trans ?_ | refine hsL8 _ _ ?_)))))) (hL.sub (by (repeat (first | exact sub_refl _ | assumption | refine sub_upd' ?_ (by ((repeat refine (upd_other _ _ (by omega)).trans ?_); first | exact hf _ (by omega) | exact hfL8 _ (by omega))) | refine sub_trans ?_ hsL8 | refine sub_over (by assumption) | refine sub_over0 ?_ | refine sub_trans (sub_same (by assumption)) ?_ | refine sub_dropu ?_ | refine sub_drop ?_ | refine sub_put ?_ (by repeat (first | assumption | exact upd_same _ _ _ | refine (upd_other _ _ (by omega)).trans ?_ | refine hsL8 _ _ ?_)))))) (by omega) 20 60) (fun _ _ _ h => h)) (fun kq hkq => ?_)
  refine aOps_1 rfl rfl rfl (AOp.move' (.inl rfl) rfl ?_)
  refine aOps_gd0 rfl rfl (wantF rfl rfl rfl) (fun hc => AOp.slots [(3, _)] (.cons rfl .nil) (AOp.move' (.inl rfl) rfl ⟨rfl, rfl, rfl⟩)) ?_
  refine aOps_gd0 rfl rfl (wantF rfl rfl rfl) (fun hc => AOp.slots [(15, _)] (.cons (gvT rfl hc) .nil) (AOp.len' rfl rfl ⟨rfl, rfl, rfl⟩)) ?_
  refine aOps_gd0 rfl rfl (wantF rfl rfl rfl) (fun hc => AOp.slots [(16, _)] (.cons (gvT rfl hc) .nil) (AOp.bin' rfl rfl rfl rfl ⟨rfl, rfl, rfl⟩)) ?_
  refine aOps_1 rfl rfl rfl (AOp.pickOr rfl rfl rfl (fun hb => gvE rfl (t_not hb)) ?_)
  refine aOps_end ?_
  show ACode _ _ _ _ _ _
  refine ACode.cond rfl (fun c0 => ?_) (fun c0 => ?_)
  · try simp only [decide_eq_true_eq, decide_eq_false_iff_not, beq_iff_eq, beq_eq_false_iff_ne, ne_eq, bne_iff_ne, Bool.not_eq_true', Bool.not_eq_false', Int.not_lt, Int.not_le, gt_iff_lt, ge_iff_le, bne_eq_false_iff_eq, Bool.not_eq_eq_eq_not, Bool.not_true, Bool.not_false] at c0
    refine ACode.seq ?_
    refine ACode.region' [0, 1] (by kernel_rfl) rfl ?_
    refine aOps_q rfl rfl rfl (AOp.call' rfl rfl rfl (awake22 _ _ (by repeat (first | assumption | exact upd_same _ _ _ | refine (upd_other _ _ (by omega)).trans ?_ | refine hsL8 _ _ ?_))) (fun _ _ _ h => h)) (fun kq hkq => ?_)
    refine aOps_1 rfl rfl rfl (AOp.move' (.inr rfl) rfl ?_)
    refine aOps_end ?_
    show ACode _ _ _ _ _ _
    refine ACode.ret ?_
    exact RetQ.one rfl rfl (by (repeat (first | exact sub_refl _ | assumption | refine sub_upd' ?_ (by ((repeat refine (upd_other _ _ (by omega)).trans ?_); first | exact hf _ (by omega) | exact hfL8 _ (by omega))) | refine sub_trans ?_ hsL8 | refine sub_over (by assumption) | refine sub_over0 ?_ | refine sub_trans (sub_same (by assumption)) ?_ | refine sub_dropu ?_ | refine sub_drop ?_ | refine sub_put ?_ (by repeat (first | assumption | exact upd_same _ _ _ | refine (upd_other _ _ (by omega)).trans ?_ | refine hsL8 _ _ ?_))))) stays (fun hk => ⟨rfl, rfl, by omega⟩)
  · try simp only [decide_eq_true_eq, decide_eq_false_iff_not, beq_iff_eq, beq_eq_false_iff_ne, ne_eq, bne_iff_ne, Bool.not_eq_true', Bool.not_eq_false', Int.not_lt, Int.not_le, gt_iff_lt, ge_iff_le, bne_eq_false_iff_eq, Bool.not_eq_eq_eq_not, Bool.not_true, Bool.not_false] at c0
    simp only [Bool.or_eq_false_iff, decide_eq_false_iff_not] at c0
    obtain ⟨g1, g2⟩ := c0
    obtain ⟨g4, g5⟩ := greatL_of g1
    have hb : ∀ x ∈ ls, x.length ≤ 549755813000 := fun x hx => Nat.le_trans (g5 x hx) (by decide)
    refine ACode.skip ?_
    show ACode _ _ _ _ _ _
    refine ACode.seq ?_
    refine ACode.region' [0, 1, 2, 3, 4, 5, 6, 7, 8, 9, 10, 11] (by kernel_rfl) rfl ?_
    refine aOps_1 rfl rfl rfl (AOp.move' (.inl rfl) rfl ?_)
    refine aOps_1 rfl rfl rfl (AOp.move' (.inl rfl) rfl ?_)
    refine aOps_1 rfl rfl rfl ?_
    refine AOp.loadAll (b := ?b6) (v := hv a) rfl rfl ?hn6 ?hv6 ?hw6 ?hz6 ?hR6
    (case hn6 => repeat (first | assumption | exact upd_same _ _ _ | refine (upd_other _ _ (by omega)).trans ?_ | refine hsL8 _ _ ?_))
    (case hv6 => rfl)
    (case hw6 => rfl)
    (case hz6 => first | rfl | exact hv_size _ | exact hcs_one _ | exact (aw_size _).trans rfl | exact one_wv _ | exact one_bv _ | (simp; done))
    refine aOps_1 rfl rfl rfl (AOp.move' (.inl rfl) rfl ?_)
    refine aOps_1 rfl rfl rfl ?_
    refine AOp.call' rfl rfl rfl (grownC_in _ _ (by repeat (first | assumption | exact upd_same _ _ _ | refine (upd_other _ _ (by omega)).trans ?_ | refine hsL8 _ _ ?_)) ls vs A c (hs.sub (by (repeat (first | exact sub_refl _ | assumption | refine sub_upd' ?_ (by ((repeat refine (upd_other _ _ (by omega)).trans ?_); first | exact hf _ (by omega) | exact hfL8 _ (by omega))) | refine sub_trans ?_ hsL8 | refine sub_over (by assumption) | refine sub_over0 ?_ | refine sub_trans (sub_same (by assumption)) ?_ | refine sub_dropu ?_ | refine sub_drop ?_ | refine sub_put ?_ (by repeat (first | assumption | exact upd_same _ _ _ | refine (upd_other _ _ (by omega)).trans ?_ | refine hsL8 _ _ ?_)))))) (hL.sub (by (repeat (first | exact sub_refl _ | assumption | refine sub_upd' ?_ (by ((repeat refine (upd_other _ _ (by omega)).trans ?_); first | exact hf _ (by omega) | exact hfL8 _ (by omega))) | refine sub_trans ?_ hsL8 | refine sub_over (by assumption) | refine sub_over0 ?_ | refine sub_trans (sub_same (by assumption)) ?_ | refine sub_dropu ?_ | refine sub_drop ?_ | refine sub_put ?_ (by repeat (first | assumption | exact upd_same _ _ _ | refine (upd_other _ _ (by omega)).trans ?_ | refine hsL8 _ _ ?_)))))) (by omega) hb x hx a p E e (hsP.sub (by (repeat (first | exact sub_refl _ | assumption | refine sub_upd' ?_ (by ((repeat refine (upd_other _ _ (by omega)).trans ?_); first | exact hf _ (by omega) | exact hfL8 _ (by omega))) | refine sub_trans ?_ hsL8 | refine sub_over (by assumption) | refine sub_over0 ?_ | refine sub_trans (sub_same (by assumption)) ?_ | refine sub_dropu ?_ | refine sub_drop ?_ | refine sub_put ?_ (by repeat (first | assumption | exact upd_same _ _ _ | refine (upd_other _ _ (by omega)).trans ?_ | refine hsL8 _ _ ?_)))))) hpl) ?_
    rintro _ H1 k1 ⟨hk1, hsL8, hfL8, x6, y6, A6, B6, c6, d6, rfl, hx6, hy6, ht6, hf6⟩
    refine aOps_1 rfl rfl rfl (AOp.move' (.inl rfl) rfl ?_)
    refine aOps_1 rfl rfl rfl (AOp.extract' rfl rfl rfl ?_)
    refine aOps_1 rfl rfl rfl (AOp.extract' rfl rfl rfl ?_)
    refine aOps_1 rfl rfl rfl (AOp.extract' rfl rfl rfl ?_)
    refine aOps_1 rfl rfl rfl (AOp.move' (.inr rfl) rfl ?_)
    refine aOps_1 rfl rfl rfl (AOp.move' (.inr rfl) rfl ?_)
    refine aOps_1 rfl rfl rfl (AOp.move' (.inr rfl) rfl ?_)
    refine aOps_end ?_
    show ACode _ _ _ _ _ _
    refine ACode.seq ?_
    refine ACode.region' [0, 1, 2, 3, 4, 5, 6, 7, 8, 9, 10, 11, 12] (by kernel_rfl) rfl ?_
    refine aOps_1 rfl rfl rfl (AOp.move' (.inl rfl) rfl ?_)
    refine aOps_1 rfl rfl rfl (AOp.move' (.inl rfl) rfl ?_)
    refine aOps_1 rfl rfl rfl (AOp.move' (.inl rfl) rfl ?_)
    refine aOps_1 rfl rfl rfl (AOp.move' (.inl rfl) rfl ?_)
    refine aOps_1 rfl rfl rfl (AOp.move' (.inl rfl) rfl ?_)
    refine aOps_1 rfl rfl rfl ?_
    refine AOp.loadAll (b := ?b7) (v := hv a) rfl rfl ?hn7 ?hv7 ?hw7 ?hz7 ?hR7
    (case hn7 => repeat (first | assumption | exact upd_same _ _ _ | refine (upd_other _ _ (by omega)).trans ?_ | refine hsL8 _ _ ?_))
    (case hv7 => rfl)
    (case hw7 => rfl)
    (case hz7 => first | rfl | exact hv_size _ | exact hcs_one _ | exact (aw_size _).trans rfl | exact one_wv _ | exact one_bv _ | (simp; done))
    refine aOps_1 rfl rfl rfl (AOp.move' (.inl rfl) rfl ?_)
    refine aOps_q rfl rfl rfl (AOp.call' rfl rfl rfl (refGrownC_in _ _ (by repeat (first | assumption | exact upd_same _ _ _ | refine (upd_other _ _ (by omega)).trans ?_ | refine hsL8 _ _ ?_)) ls vs A c (hs.sub (by (repeat (first | exact sub_refl _ | assumption | refine sub_upd' ?_ (by ((repeat refine (upd_other _ _ (by omega)).trans ?_); first | exact hf _ (by omega) | exact hfL8 _ (by omega))) | refine sub_trans ?_ hsL8 | refine sub_over (by assumption) | refine sub_over0 ?_ | refine sub_trans (sub_same (by assumption)) ?_ | refine sub_dropu ?_ | refine sub_drop ?_ | refine sub_put ?_ (by repeat (first | assumption | exact upd_same _ _ _ | refine (upd_other _ _ (by omega)).trans ?_ | refine hsL8 _ _ ?_)))))) (hL.sub (by (repeat (first | exact sub_refl _ | assumption | refine sub_upd' ?_ (by ((repeat refine (upd_other _ _ (by omega)).trans ?_); first | exact hf _ (by omega) | exact hfL8 _ (by omega))) | refine sub_trans ?_ hsL8 | refine sub_over (by assumption) | refine sub_over0 ?_ | refine sub_trans (sub_same (by assumption)) ?_ | refine sub_dropu ?_ | refine sub_drop ?_ | refine sub_put ?_ (by repeat (first | assumption | exact upd_same _ _ _ | refine (upd_other _ _ (by omega)).trans ?_ | refine hsL8 _ _ ?_)))))) (by omega) hb x hx a p E e (hsP.sub (by (repeat (first | exact sub_refl _ | assumption | refine sub_upd' ?_ (by ((repeat refine (upd_other _ _ (by omega)).trans ?_); first | exact hf _ (by omega) | exact hfL8 _ (by omega))) | refine sub_trans ?_ hsL8 | refine sub_over (by assumption) | refine sub_over0 ?_ | refine sub_trans (sub_same (by assumption)) ?_ | refine sub_dropu ?_ | refine sub_drop ?_ | refine sub_put ?_ (by repeat (first | assumption | exact upd_same _ _ _ | refine (upd_other _ _ (by omega)).trans ?_ | refine hsL8 _ _ ?_)))))) hpl) (fun _ _ _ h => h)) (fun kq hkq => ?_)
    refine aOps_q rfl rfl rfl (AOp.call' rfl rfl rfl (found_b _ _ (by repeat (first | assumption | exact upd_same _ _ _ | refine (upd_other _ _ (by omega)).trans ?_ | refine hsL8 _ _ ?_)) x6 y6 A6 B6 c6 d6 (hx6.sub (by (repeat (first | exact sub_refl _ | assumption | refine sub_upd' ?_ (by ((repeat refine (upd_other _ _ (by omega)).trans ?_); first | exact hf _ (by omega) | exact hfL8 _ (by omega))) | refine sub_trans ?_ hsL8 | refine sub_over (by assumption) | refine sub_over0 ?_ | refine sub_trans (sub_same (by assumption)) ?_ | refine sub_dropu ?_ | refine sub_drop ?_ | refine sub_put ?_ (by repeat (first | assumption | exact upd_same _ _ _ | refine (upd_other _ _ (by omega)).trans ?_ | refine hsL8 _ _ ?_)))))) (hy6.sub (by (repeat (first | exact sub_refl _ | assumption | refine sub_upd' ?_ (by ((repeat refine (upd_other _ _ (by omega)).trans ?_); first | exact hf _ (by omega) | exact hfL8 _ (by omega))) | refine sub_trans ?_ hsL8 | refine sub_over (by assumption) | refine sub_over0 ?_ | refine sub_trans (sub_same (by assumption)) ?_ | refine sub_dropu ?_ | refine sub_drop ?_ | refine sub_put ?_ (by repeat (first | assumption | exact upd_same _ _ _ | refine (upd_other _ _ (by omega)).trans ?_ | refine hsL8 _ _ ?_)))))) _ _ rfl ht6 hf6) (fun _ _ _ h => h)) (fun kq hkq => ?_)
    refine aOps_1 rfl rfl rfl (AOp.move' (.inl rfl) rfl ?_)
    refine aOps_gd rfl rfl (wantT rfl rfl rfl) (fun hc => AOp.slots [] .nil (AOp.call' rfl rfl rfl (awake22 _ _ (by repeat (first | assumption | exact upd_same _ _ _ | refine (upd_other _ _ (by omega)).trans ?_ | refine hsL8 _ _ ?_))) (fun _ _ _ h => h))) (fun kq hkq => ?_)
    refine aOps_1 rfl rfl rfl (AOp.pickAnd rfl rfl rfl (fun hb => gvE rfl hb) ?_)
    refine aOps_1 rfl rfl rfl (AOp.move' (.inr rfl) rfl ?_)
    refine aOps_end ?_
    show ACode _ _ _ _ _ _
    refine ACode.ret ?_
    exact RetQ.one rfl rfl (by (repeat (first | exact sub_refl _ | assumption | refine sub_upd' ?_ (by ((repeat refine (upd_other _ _ (by omega)).trans ?_); first | exact hf _ (by omega) | exact hfL8 _ (by omega))) | refine sub_trans ?_ hsL8 | refine sub_over (by assumption) | refine sub_over0 ?_ | refine sub_trans (sub_same (by assumption)) ?_ | refine sub_dropu ?_ | refine sub_drop ?_ | refine sub_put ?_ (by repeat (first | assumption | exact upd_same _ _ _ | refine (upd_other _ _ (by omega)).trans ?_ | refine hsL8 _ _ ?_))))) stays (fun hk => ⟨rfl, rfl, by omega⟩)

theorem grownC_out (ht : H 0 = some tabBlk) (ls : List (List UInt8)) (vs : List Value) (A : Option Addr) (c : Nat) (hs : SLC H 1 A vs.length c vs) (hL : Lvs H vs ls) (hl : vs.length ≤ 1099511627776) (hb : ∀ x ∈ ls, x.length ≤ 549755813000) (m : Int) (hm1 : -9223372036854775808 ≤ m) (hm2 : m ≤ 9223372036854775807) (hbad : ¬ (0 ≤ m ∧ m ≤ (vs.length : Int))) (a : Dg) (p : List Dg) (E : Option Addr) (e : Nat) (hsP : SLC H 32 E p.length e (hcs p)) (hpl : p.length ≤ 9223372036854775807) : ACalls Tryd.prog 1 35 [.slice A vs.length c, .int .i64 m, hv a, .slice E p.length e] H k (TellsR H k (grownOk ls m a p)) := by
  refine ACalls.fresh fun hf => ?_
  refine ACalls.body Tryd.func35 rfl (Nat.le_of_ble_eq_true rfl) ?_
  have h0k := old_lt hf ht
  have hvl := hL.len
  have hmay : mayZ m (vs.length : Int) = false := decide_eq_false (by omega)
  have hbad2 : grownOk ls m a p = false := grownOk_bad (by rw [← hvl]; exact hmay)
  refine ACode.seq ?_
  refine ACode.region' [0, 1, 2, 3] (by kernel_rfl) rfl ?_
  refine aOps_1 rfl rfl rfl (AOp.boxV rfl rfl ?_)
  refine aOps_1 rfl rfl rfl (AOp.move' (.inr rfl) rfl ?_)
  refine aOps_1 rfl rfl rfl (AOp.move' (.inr rfl) rfl ?_)
  refine aOps_1 rfl rfl rfl (AOp.move' (.inr rfl) rfl ?_)
  refine aOps_end ?_
  show ACode _ _ _ _ _ _
  refine ACode.seq ?_
  refine ACode.seq ?_
  refine ACode.draw' 17 [(0, 11), (1, 12), (2, 13), (3, 14), (4, 15), (5, 16), (6, 17), (7, 18), (8, 19), (9, 20), (10, 21), (11, 22), (12, 23), (13, 24), (14, 25), (15, 26), (16, 27)] mixed (by kernel_rfl) ?_
  refine Draw.step [(1, none)] rfl (by kernel_rfl) rfl (fun kq hkq => AOp.move' (.inl rfl) rfl ⟨rfl, rfl, Nat.le_refl _⟩) ?_
  refine Draw.step [(0, none)] rfl (by kernel_rfl) rfl (fun kq hkq => AOp.move' (.inl rfl) rfl ⟨rfl, rfl, Nat.le_refl _⟩) ?_
  refine Draw.step [(12, some 1)] rfl (by kernel_rfl) rfl (fun kq hkq => AOp.len' rfl rfl ⟨rfl, rfl, Nat.le_refl _⟩) ?_
  refine Draw.step [(6, none)] rfl (by kernel_rfl) rfl (fun kq hkq => (by refine AOp.loadAll (b := ?b8) (v := hv a) rfl rfl ?hn8 ?hv8 ?hw8 ?hz8 ?hR8; (case hn8 => repeat (first | assumption | exact upd_same _ _ _ | refine (upd_other _ _ (by omega)).trans ?_ | refine hsL8 _ _ ?_)); (case hv8 => rfl); (case hw8 => rfl); (case hz8 => first | rfl | exact hv_size _ | exact hcs_one _ | exact (aw_size _).trans rfl | exact one_wv _ | exact one_bv _ | (simp; done)); exact ⟨rfl, rfl, Nat.le_refl _⟩)) ?_
  refine Draw.step [(0, none)] rfl (by kernel_rfl) rfl (fun kq hkq => AOp.move' (.inl rfl) rfl ⟨rfl, rfl, Nat.le_refl _⟩) ?_
  refine Draw.step [(15, some 4)] rfl (by kernel_rfl) rfl (fun kq hkq => AOp.call' rfl rfl rfl (root_b (vs.length + 1) ls vs A c _ _ (by repeat (first | assumption | exact upd_same _ _ _ | refine (upd_other _ _ (by omega)).trans ?_ | refine hsL8 _ _ ?_)) (hs.sub (by (repeat (first | exact sub_refl _ | assumption | refine sub_upd' ?_ (by ((repeat refine (upd_other _ _ (by omega)).trans ?_); first | exact hf _ (by omega) | exact hfL8 _ (by omega))) | refine sub_trans ?_ hsL8 | refine sub_over (by assumption) | refine sub_over0 ?_ | refine sub_trans (sub_same (by assumption)) ?_ | refine sub_dropu ?_ | refine sub_drop ?_ | refine sub_put ?_ (by repeat (first | assumption | exact upd_same _ _ _ | refine (upd_other _ _ (by omega)).trans ?_ | refine hsL8 _ _ ?_)))))) (hL.sub (by (repeat (first | exact sub_refl _ | assumption | refine sub_upd' ?_ (by ((repeat refine (upd_other _ _ (by omega)).trans ?_); first | exact hf _ (by omega) | exact hfL8 _ (by omega))) | refine sub_trans ?_ hsL8 | refine sub_over (by assumption) | refine sub_over0 ?_ | refine sub_trans (sub_same (by assumption)) ?_ | refine sub_dropu ?_ | refine sub_drop ?_ | refine sub_put ?_ (by repeat (first | assumption | exact upd_same _ _ _ | refine (upd_other _ _ (by omega)).trans ?_ | refine hsL8 _ _ ?_)))))) (by omega) hb (by omega)) (fun _ _ _ h => h)) ?_
  refine Draw.step [(3, none)] rfl (by kernel_rfl) rfl (fun kq hkq => AOp.move' (.inl rfl) rfl ⟨rfl, rfl, Nat.le_refl _⟩) ?_
  refine Draw.step [(11, some 0), (13, some 2), (14, some 3), (16, some 5), (17, some 6)] rfl (by kernel_rfl) rfl (fun kq hkq => AOp.call' rfl rfl rfl (check_b _ _ (by repeat (first | assumption | exact upd_same _ _ _ | refine (upd_other _ _ (by omega)).trans ?_ | refine hsL8 _ _ ?_)) m (vs.length : Int) (by omega) (by omega) (by omega) (by omega) a (root ls) p E e (hsP.sub (by (repeat (first | exact sub_refl _ | assumption | refine sub_upd' ?_ (by ((repeat refine (upd_other _ _ (by omega)).trans ?_); first | exact hf _ (by omega) | exact hfL8 _ (by omega))) | refine sub_trans ?_ hsL8 | refine sub_over (by assumption) | refine sub_over0 ?_ | refine sub_trans (sub_same (by assumption)) ?_ | refine sub_dropu ?_ | refine sub_drop ?_ | refine sub_put ?_ (by repeat (first | assumption | exact upd_same _ _ _ | refine (upd_other _ _ (by omega)).trans ?_ | refine hsL8 _ _ ?_)))))) hpl) (fun _ _ _ h => h)) ?_
  rw [checkZ_bad hmay]
  refine Draw.step [(18, some 7)] rfl (by kernel_rfl) rfl (fun kq hkq => AOp.un' rfl rfl rfl ⟨rfl, rfl, Nat.le_refl _⟩) ?_
  refine Draw.step [(19, some 8)] rfl (by kernel_rfl) rfl (fun kq hkq => AOp.move' (.inl rfl) rfl ⟨rfl, rfl, Nat.le_refl _⟩) ?_
  refine Draw.gd [(6, none), (20, some 9)] rfl (by kernel_rfl) (wantF rfl rfl rfl) (fun kq hkq hc => AOp.slots [(6, _)] (.cons rfl .nil) ((False.elim (by simp at hc) : AOp _ _ _ _ fun v H1 k1 => v = Value.bool false ∧ H1 = _ ∧ _ ≤ k1))) ?_
  refine Draw.gd [(0, none), (20, some 9)] rfl (by kernel_rfl) (wantF rfl rfl rfl) (fun kq hkq hc => AOp.slots [(0, _)] (.cons rfl .nil) ((False.elim (by simp at hc) : AOp _ _ _ _ fun v H1 k1 => v = Value.bool false ∧ H1 = _ ∧ _ ≤ k1))) ?_
  refine Draw.gd [(1, none), (20, some 9)] rfl (by kernel_rfl) (wantF rfl rfl rfl) (fun kq hkq hc => AOp.slots [(1, _)] (.cons rfl .nil) ((False.elim (by simp at hc) : AOp _ _ _ _ fun v H1 k1 => v = Value.bool false ∧ H1 = _ ∧ _ ≤ k1))) ?_
  refine Draw.gd [(22, some 11), (23, some 12), (20, some 9)] rfl (by kernel_rfl) (wantF rfl rfl rfl) (fun kq hkq hc => AOp.slots [(22, _), (23, _)] (.cons (gvT rfl hc) (.cons (gvT rfl hc) .nil)) ((False.elim (by simp at hc) : AOp _ _ _ _ fun v H1 k1 => v = Value.bool false ∧ H1 = _ ∧ _ ≤ k1))) ?_
  refine Draw.gd [(24, some 13), (20, some 9)] rfl (by kernel_rfl) (wantF rfl rfl rfl) (fun kq hkq hc => AOp.slots [(24, _)] (.cons (gvT rfl hc) .nil) ((False.elim (by simp at hc) : AOp _ _ _ _ fun v H1 k1 => v = Value.bool false ∧ H1 = _ ∧ _ ≤ k1))) ?_
  refine Draw.gd [(21, some 10), (25, some 14), (20, some 9)] rfl (by kernel_rfl) (wantF rfl rfl rfl) (fun kq hkq hc => AOp.slots [(21, _), (25, _)] (.cons (gvT rfl hc) (.cons (gvT rfl hc) .nil)) ((False.elim (by simp at hc) : AOp _ _ _ _ fun v H1 k1 => v = Value.bool false ∧ H1 = _ ∧ _ ≤ k1))) ?_
  refine Draw.step [(20, some 9), (26, some 15)] rfl (by kernel_rfl) rfl (fun kq hkq => AOp.pickOr rfl rfl rfl (fun hb => gvE rfl (t_not hb)) ⟨rfl, rfl, Nat.le_refl _⟩) ?_
  refine Draw.done fun kq hkq => ?_
  show aOps _ _ _ _ [] ⟨_, _, _⟩
  refine aOps_end ?_
  show ACode _ _ _ _ _ _
  refine ACode.cond rfl (fun c0 => ?_) (fun c0 => absurd c0 (by simp at c0))
  refine ACode.seq ?_
  refine ACode.region' [0, 1, 2] (by kernel_rfl) rfl ?_
  refine aOps_1 rfl rfl rfl (AOp.move' (.inr rfl) rfl ?_)
  refine aOps_1 rfl rfl rfl (AOp.move' (.inr rfl) rfl ?_)
  refine aOps_1 rfl rfl rfl (AOp.move' (.inr rfl) rfl ?_)
  refine aOps_end ?_
  show ACode _ _ _ _ _ _
  refine ACode.ret ?_
  refine RetQ.three rfl rfl rfl rfl (sub_refl _) (stays_sub (by (repeat (first | exact sub_refl _ | assumption | refine sub_upd' ?_ (by ((repeat refine (upd_other _ _ (by omega)).trans ?_); first | exact hf _ (by omega) | exact hfL8 _ (by omega))) | refine sub_trans ?_ hsL8 | refine sub_over (by assumption) | refine sub_over0 ?_ | refine sub_trans (sub_same (by assumption)) ?_ | refine sub_dropu ?_ | refine sub_drop ?_ | refine sub_put ?_ (by repeat (first | assumption | exact upd_same _ _ _ | refine (upd_other _ _ (by omega)).trans ?_ | refine hsL8 _ _ ?_)))))) (fun hk => ⟨by omega, by (repeat (first | exact sub_refl _ | assumption | refine sub_upd' ?_ (by ((repeat refine (upd_other _ _ (by omega)).trans ?_); first | exact hf _ (by omega) | exact hfL8 _ (by omega))) | refine sub_trans ?_ hsL8 | refine sub_over (by assumption) | refine sub_over0 ?_ | refine sub_trans (sub_same (by assumption)) ?_ | refine sub_dropu ?_ | refine sub_drop ?_ | refine sub_put ?_ (by repeat (first | assumption | exact upd_same _ _ _ | refine (upd_other _ _ (by omega)).trans ?_ | refine hsL8 _ _ ?_)))), (fun n hn => by (repeat refine (upd_other _ _ (by omega)).trans ?_); first | exact hf _ (by omega)), ?_⟩)
  rw [hbad2]
  exact Tells.no

theorem refGrownC_out (ht : H 0 = some tabBlk) (ls : List (List UInt8)) (vs : List Value) (A : Option Addr) (c : Nat) (hs : SLC H 1 A vs.length c vs) (hL : Lvs H vs ls) (hl : vs.length ≤ 1099511627776) (hb : ∀ x ∈ ls, x.length ≤ 549755813000) (m : Int) (hm1 : -9223372036854775808 ≤ m) (hm2 : m ≤ 9223372036854775807) (hbad : ¬ (0 ≤ m ∧ m ≤ (vs.length : Int))) (a : Dg) (p : List Dg) (E : Option Addr) (e : Nat) (hsP : SLC H 32 E p.length e (hcs p)) (hpl : p.length ≤ 9223372036854775807) : ACalls Tryd.prog 1 36 [.slice A vs.length c, .int .i64 m, hv a, .slice E p.length e] H k (Same H k (.bool (grownOk ls m a p))) := by
  refine ACalls.fresh fun hf => ?_
  refine ACalls.body Tryd.func36 rfl (Nat.le_of_ble_eq_true rfl) ?_
  have h0k := old_lt hf ht
  have hvl := hL.len
  have hmay : mayZ m (vs.length : Int) = false := decide_eq_false (by omega)
  have hbad2 : grownOk ls m a p = false := grownOk_bad (by rw [← hvl]; exact hmay)
  refine ACode.seq ?_
  refine ACode.region' [0, 1] (by kernel_rfl) rfl ?_
  refine aOps_1 rfl rfl rfl (AOp.boxV rfl rfl ?_)
  refine aOps_1 rfl rfl rfl (AOp.move' (.inr rfl) rfl ?_)
  refine aOps_end ?_
  show ACode _ _ _ _ _ _
  refine ACode.seq ?_
  refine ACode.draw' 17 [(0, 9), (1, 10), (2, 11), (3, 12), (4, 13), (5, 14), (6, 15), (7, 16), (8, 17), (9, 18), (10, 19), (11, 20), (12, 21), (13, 22), (14, 23), (15, 24), (16, 8)] mixed (by kernel_rfl) ?_
  refine Draw.step [(1, none)] rfl (by kernel_rfl) rfl (fun kq hkq => AOp.move' (.inl rfl) rfl ⟨rfl, rfl, Nat.le_refl _⟩) ?_
  refine Draw.step [(0, none)] rfl (by kernel_rfl) rfl (fun kq hkq => AOp.move' (.inl rfl) rfl ⟨rfl, rfl, Nat.le_refl _⟩) ?_
  refine Draw.step [(10, some 1)] rfl (by kernel_rfl) rfl (fun kq hkq => AOp.len' rfl rfl ⟨rfl, rfl, Nat.le_refl _⟩) ?_
  refine Draw.step [(6, none)] rfl (by kernel_rfl) rfl (fun kq hkq => (by refine AOp.loadAll (b := ?b9) (v := hv a) rfl rfl ?hn9 ?hv9 ?hw9 ?hz9 ?hR9; (case hn9 => repeat (first | assumption | exact upd_same _ _ _ | refine (upd_other _ _ (by omega)).trans ?_)); (case hv9 => rfl); (case hw9 => rfl); (case hz9 => first | rfl | exact hv_size _ | exact hcs_one _ | exact (aw_size _).trans rfl | exact one_wv _ | exact one_bv _ | (simp; done)); exact ⟨rfl, rfl, Nat.le_refl _⟩)) ?_
  refine Draw.step [(0, none)] rfl (by kernel_rfl) rfl (fun kq hkq => AOp.move' (.inl rfl) rfl ⟨rfl, rfl, Nat.le_refl _⟩) ?_
  refine Draw.step [(13, some 4)] rfl (by kernel_rfl) rfl (fun kq hkq => AOp.call' rfl rfl rfl (refroot_b (vs.length + 1) ls vs A c _ _ (by repeat (first | assumption | exact upd_same _ _ _ | refine (upd_other _ _ (by omega)).trans ?_)) (hs.sub (by (repeat (first | exact sub_refl _ | assumption | refine sub_upd' ?_ (by ((repeat refine (upd_other _ _ (by omega)).trans ?_); first | exact hf _ (by omega))) | refine sub_over (by assumption) | refine sub_over0 ?_ | refine sub_trans (sub_same (by assumption)) ?_ | refine sub_dropu ?_ | refine sub_drop ?_ | refine sub_put ?_ (by repeat (first | assumption | exact upd_same _ _ _ | refine (upd_other _ _ (by omega)).trans ?_)))))) (hL.sub (by (repeat (first | exact sub_refl _ | assumption | refine sub_upd' ?_ (by ((repeat refine (upd_other _ _ (by omega)).trans ?_); first | exact hf _ (by omega))) | refine sub_over (by assumption) | refine sub_over0 ?_ | refine sub_trans (sub_same (by assumption)) ?_ | refine sub_dropu ?_ | refine sub_drop ?_ | refine sub_put ?_ (by repeat (first | assumption | exact upd_same _ _ _ | refine (upd_other _ _ (by omega)).trans ?_)))))) (by omega) hb (by omega)) (fun _ _ _ h => h)) ?_
  refine Draw.step [(3, none)] rfl (by kernel_rfl) rfl (fun kq hkq => AOp.move' (.inl rfl) rfl ⟨rfl, rfl, Nat.le_refl _⟩) ?_
  refine Draw.step [(9, some 0), (11, some 2), (12, some 3), (14, some 5), (15, some 6)] rfl (by kernel_rfl) rfl (fun kq hkq => AOp.call' rfl rfl rfl (refcheck_b _ _ (by repeat (first | assumption | exact upd_same _ _ _ | refine (upd_other _ _ (by omega)).trans ?_)) m (vs.length : Int) (by omega) (by omega) (by omega) (by omega) a (root ls) p E e (hsP.sub (by (repeat (first | exact sub_refl _ | assumption | refine sub_upd' ?_ (by ((repeat refine (upd_other _ _ (by omega)).trans ?_); first | exact hf _ (by omega))) | refine sub_over (by assumption) | refine sub_over0 ?_ | refine sub_trans (sub_same (by assumption)) ?_ | refine sub_dropu ?_ | refine sub_drop ?_ | refine sub_put ?_ (by repeat (first | assumption | exact upd_same _ _ _ | refine (upd_other _ _ (by omega)).trans ?_)))))) hpl) (fun _ _ _ h => h)) ?_
  rw [checkZ_bad hmay]
  refine Draw.step [(16, some 7)] rfl (by kernel_rfl) rfl (fun kq hkq => AOp.move' (.inl rfl) rfl ⟨rfl, rfl, Nat.le_refl _⟩) ?_
  refine Draw.gd [(6, none), (17, some 8)] rfl (by kernel_rfl) (wantT rfl rfl rfl) (fun kq hkq hc => AOp.slots [(6, _)] (.cons rfl .nil) ((False.elim (by simp at hc) : AOp _ _ _ _ fun v H1 k1 => v = Value.bool false ∧ H1 = _ ∧ _ ≤ k1))) ?_
  refine Draw.gd [(0, none), (17, some 8)] rfl (by kernel_rfl) (wantT rfl rfl rfl) (fun kq hkq hc => AOp.slots [(0, _)] (.cons rfl .nil) ((False.elim (by simp at hc) : AOp _ _ _ _ fun v H1 k1 => v = Value.bool false ∧ H1 = _ ∧ _ ≤ k1))) ?_
  refine Draw.gd [(1, none), (17, some 8)] rfl (by kernel_rfl) (wantT rfl rfl rfl) (fun kq hkq hc => AOp.slots [(1, _)] (.cons rfl .nil) ((False.elim (by simp at hc) : AOp _ _ _ _ fun v H1 k1 => v = Value.bool false ∧ H1 = _ ∧ _ ≤ k1))) ?_
  refine Draw.gd [(19, some 10), (20, some 11), (17, some 8)] rfl (by kernel_rfl) (wantT rfl rfl rfl) (fun kq hkq hc => AOp.slots [(19, _), (20, _)] (.cons (gvT rfl hc) (.cons (gvT rfl hc) .nil)) ((False.elim (by simp at hc) : AOp _ _ _ _ fun v H1 k1 => v = Value.bool false ∧ H1 = _ ∧ _ ≤ k1))) ?_
  refine Draw.gd [(21, some 12), (17, some 8)] rfl (by kernel_rfl) (wantT rfl rfl rfl) (fun kq hkq hc => AOp.slots [(21, _)] (.cons (gvT rfl hc) .nil) ((False.elim (by simp at hc) : AOp _ _ _ _ fun v H1 k1 => v = Value.bool false ∧ H1 = _ ∧ _ ≤ k1))) ?_
  refine Draw.gd [(18, some 9), (22, some 13), (17, some 8)] rfl (by kernel_rfl) (wantT rfl rfl rfl) (fun kq hkq hc => AOp.slots [(18, _), (22, _)] (.cons (gvT rfl hc) (.cons (gvT rfl hc) .nil)) ((False.elim (by simp at hc) : AOp _ _ _ _ fun v H1 k1 => v = Value.bool false ∧ H1 = _ ∧ _ ≤ k1))) ?_
  refine Draw.step [(17, some 8), (23, some 14)] rfl (by kernel_rfl) rfl (fun kq hkq => AOp.pickAnd rfl rfl rfl (fun hb => gvE rfl hb) ⟨rfl, rfl, Nat.le_refl _⟩) ?_
  refine Draw.step [(24, some 15)] rfl (by kernel_rfl) rfl (fun kq hkq => AOp.move' (.inr rfl) rfl ⟨rfl, rfl, Nat.le_refl _⟩) ?_
  refine Draw.done fun kq hkq => ?_
  show aOps _ _ _ _ [] ⟨_, _, _⟩
  refine aOps_end ?_
  show ACode _ _ _ _ _ _
  refine ACode.ret ?_
  exact RetQ.one rfl rfl (by (repeat (first | exact sub_refl _ | assumption | refine sub_upd' ?_ (by ((repeat refine (upd_other _ _ (by omega)).trans ?_); first | exact hf _ (by omega))) | refine sub_over (by assumption) | refine sub_over0 ?_ | refine sub_trans (sub_same (by assumption)) ?_ | refine sub_dropu ?_ | refine sub_drop ?_ | refine sub_put ?_ (by repeat (first | assumption | exact upd_same _ _ _ | refine (upd_other _ _ (by omega)).trans ?_))))) stays (fun hk => ⟨(show Value.bool _ = _ from by rw [hbad2]; rfl), rfl, by omega⟩)

theorem clashGrown_out (ht : H 0 = some tabBlk) (ls : List (List UInt8)) (vs : List Value) (A : Option Addr) (c : Nat) (hs : SLC H 1 A vs.length c vs) (hL : Lvs H vs ls) (hl : vs.length ≤ 9223372036854775807) (m : Int) (hm1 : -9223372036854775808 ≤ m) (hm2 : m ≤ 9223372036854775807) (hbad : ¬ (0 ≤ m ∧ m ≤ (vs.length : Int))) (a : Dg) (p : List Dg) (E : Option Addr) (e : Nat) (hsP : SLC H 32 E p.length e (hcs p)) (hpl : p.length ≤ 9223372036854775807) : ACalls Tryd.prog 1 7 [.slice A vs.length c, .int .i64 m, hv a, .slice E p.length e] H k (Same H k (.bool true)) := by
  refine ACalls.fresh fun hf => ?_
  refine ACalls.body Tryd.func7 rfl (Nat.le_of_ble_eq_true rfl) ?_
  have h0k := old_lt hf ht
  have hvl := hL.len
  refine ACode.seq ?_
  refine ACode.region' [0, 1] (by kernel_rfl) rfl ?_
  refine aOps_1 rfl rfl rfl (AOp.boxV rfl rfl ?_)
  refine aOps_1 rfl rfl rfl (AOp.move' (.inr rfl) rfl ?_)
  refine aOps_end ?_
  show ACode _ _ _ _ _ _
  refine ACode.seq ?_
  refine ACode.seq ?_
  refine ACode.region' [0, 1, 2, 3, 4, 5, 6] (by kernel_rfl) rfl ?_
  refine aOps_1 rfl rfl rfl (AOp.move' (.inl rfl) rfl ?_)
  refine aOps_q rfl rfl rfl (AOp.call' rfl rfl rfl (great_l _ _ ls vs A c (hs.sub (by (repeat (first | exact sub_refl _ | assumption | refine sub_upd' ?_ (by ((repeat refine (upd_other _ _ (by omega)).trans ?_); first | exact hf _ (by omega) | exact hfL8 _ (by omega))) | refine sub_trans ?_ hsL8 | refine sub_over (by assumption) | refine sub_over0 ?_ | refine sub_trans (sub_same (by assumption)) ?_ | refine sub_dropu ?_ | refine sub_drop ?_ | refine sub_put ?_ (by repeat (first | assumption | exact upd_same _ _ _ | refine (upd_other _ _ (by omega)).trans ?_ | refine hsL8 _ _ ?_)))))) (hL.sub (by (repeat (first | exact sub_refl _ | assumption | refine sub_upd' ?_ (by ((repeat refine (upd_other _ _ (by omega)).trans ?_); first | exact hf _ (by omega) | exact hfL8 _ (by omega))) | refine sub_trans ?_ hsL8 | refine sub_over (by assumption) | refine sub_over0 ?_ | refine sub_trans (sub_same (by assumption)) ?_ | refine sub_dropu ?_ | refine sub_drop ?_ | refine sub_put ?_ (by repeat (first | assumption | exact upd_same _ _ _ | refine (upd_other _ _ (by omega)).trans ?_ | refine hsL8 _ _ ?_)))))) (by omega) 20 60) (fun _ _ _ h => h)) (fun kq hkq => ?_)
  refine aOps_1 rfl rfl rfl (AOp.move' (.inl rfl) rfl ?_)
  refine aOps_gd0 rfl rfl (wantF rfl rfl rfl) (fun hc => AOp.slots [(3, _)] (.cons rfl .nil) (AOp.move' (.inl rfl) rfl ⟨rfl, rfl, rfl⟩)) ?_
  refine aOps_gd0 rfl rfl (wantF rfl rfl rfl) (fun hc => AOp.slots [(15, _)] (.cons (gvT rfl hc) .nil) (AOp.len' rfl rfl ⟨rfl, rfl, rfl⟩)) ?_
  refine aOps_gd0 rfl rfl (wantF rfl rfl rfl) (fun hc => AOp.slots [(16, _)] (.cons (gvT rfl hc) .nil) (AOp.bin' rfl rfl rfl rfl ⟨rfl, rfl, rfl⟩)) ?_
  refine aOps_1 rfl rfl rfl (AOp.pickOr rfl rfl rfl (fun hb => gvE rfl (t_not hb)) ?_)
  refine aOps_end ?_
  show ACode _ _ _ _ _ _
  refine ACode.cond rfl (fun c0 => ?_) (fun c0 => ?_)
  · try simp only [decide_eq_true_eq, decide_eq_false_iff_not, beq_iff_eq, beq_eq_false_iff_ne, ne_eq, bne_iff_ne, Bool.not_eq_true', Bool.not_eq_false', Int.not_lt, Int.not_le, gt_iff_lt, ge_iff_le, bne_eq_false_iff_eq, Bool.not_eq_eq_eq_not, Bool.not_true, Bool.not_false] at c0
    refine ACode.seq ?_
    refine ACode.region' [0, 1] (by kernel_rfl) rfl ?_
    refine aOps_q rfl rfl rfl (AOp.call' rfl rfl rfl (awake22 _ _ (by repeat (first | assumption | exact upd_same _ _ _ | refine (upd_other _ _ (by omega)).trans ?_ | refine hsL8 _ _ ?_))) (fun _ _ _ h => h)) (fun kq hkq => ?_)
    refine aOps_1 rfl rfl rfl (AOp.move' (.inr rfl) rfl ?_)
    refine aOps_end ?_
    show ACode _ _ _ _ _ _
    refine ACode.ret ?_
    exact RetQ.one rfl rfl (by (repeat (first | exact sub_refl _ | assumption | refine sub_upd' ?_ (by ((repeat refine (upd_other _ _ (by omega)).trans ?_); first | exact hf _ (by omega) | exact hfL8 _ (by omega))) | refine sub_trans ?_ hsL8 | refine sub_over (by assumption) | refine sub_over0 ?_ | refine sub_trans (sub_same (by assumption)) ?_ | refine sub_dropu ?_ | refine sub_drop ?_ | refine sub_put ?_ (by repeat (first | assumption | exact upd_same _ _ _ | refine (upd_other _ _ (by omega)).trans ?_ | refine hsL8 _ _ ?_))))) stays (fun hk => ⟨rfl, rfl, by omega⟩)
  · try simp only [decide_eq_true_eq, decide_eq_false_iff_not, beq_iff_eq, beq_eq_false_iff_ne, ne_eq, bne_iff_ne, Bool.not_eq_true', Bool.not_eq_false', Int.not_lt, Int.not_le, gt_iff_lt, ge_iff_le, bne_eq_false_iff_eq, Bool.not_eq_eq_eq_not, Bool.not_true, Bool.not_false] at c0
    simp only [Bool.or_eq_false_iff, decide_eq_false_iff_not] at c0
    obtain ⟨g1, g2⟩ := c0
    obtain ⟨g4, g5⟩ := greatL_of g1
    have hb : ∀ x ∈ ls, x.length ≤ 549755813000 := fun x hx => Nat.le_trans (g5 x hx) (by decide)
    refine ACode.skip ?_
    show ACode _ _ _ _ _ _
    refine ACode.seq ?_
    refine ACode.region' [0, 1, 2, 3, 4, 5, 6, 7, 8, 9, 10, 11] (by kernel_rfl) rfl ?_
    refine aOps_1 rfl rfl rfl (AOp.move' (.inl rfl) rfl ?_)
    refine aOps_1 rfl rfl rfl (AOp.move' (.inl rfl) rfl ?_)
    refine aOps_1 rfl rfl rfl ?_
    refine AOp.loadAll (b := ?b10) (v := hv a) rfl rfl ?hn10 ?hv10 ?hw10 ?hz10 ?hR10
    (case hn10 => repeat (first | assumption | exact upd_same _ _ _ | refine (upd_other _ _ (by omega)).trans ?_ | refine hsL8 _ _ ?_))
    (case hv10 => rfl)
    (case hw10 => rfl)
    (case hz10 => first | rfl | exact hv_size _ | exact hcs_one _ | exact (aw_size _).trans rfl | exact one_wv _ | exact one_bv _ | (simp; done))
    refine aOps_1 rfl rfl rfl (AOp.move' (.inl rfl) rfl ?_)
    refine aOps_1 rfl rfl rfl ?_
    refine AOp.call' rfl rfl rfl (grownC_out _ _ (by repeat (first | assumption | exact upd_same _ _ _ | refine (upd_other _ _ (by omega)).trans ?_ | refine hsL8 _ _ ?_)) ls vs A c (hs.sub (by (repeat (first | exact sub_refl _ | assumption | refine sub_upd' ?_ (by ((repeat refine (upd_other _ _ (by omega)).trans ?_); first | exact hf _ (by omega) | exact hfL8 _ (by omega))) | refine sub_trans ?_ hsL8 | refine sub_over (by assumption) | refine sub_over0 ?_ | refine sub_trans (sub_same (by assumption)) ?_ | refine sub_dropu ?_ | refine sub_drop ?_ | refine sub_put ?_ (by repeat (first | assumption | exact upd_same _ _ _ | refine (upd_other _ _ (by omega)).trans ?_ | refine hsL8 _ _ ?_)))))) (hL.sub (by (repeat (first | exact sub_refl _ | assumption | refine sub_upd' ?_ (by ((repeat refine (upd_other _ _ (by omega)).trans ?_); first | exact hf _ (by omega) | exact hfL8 _ (by omega))) | refine sub_trans ?_ hsL8 | refine sub_over (by assumption) | refine sub_over0 ?_ | refine sub_trans (sub_same (by assumption)) ?_ | refine sub_dropu ?_ | refine sub_drop ?_ | refine sub_put ?_ (by repeat (first | assumption | exact upd_same _ _ _ | refine (upd_other _ _ (by omega)).trans ?_ | refine hsL8 _ _ ?_)))))) (by omega) hb m hm1 hm2 hbad a p E e (hsP.sub (by (repeat (first | exact sub_refl _ | assumption | refine sub_upd' ?_ (by ((repeat refine (upd_other _ _ (by omega)).trans ?_); first | exact hf _ (by omega) | exact hfL8 _ (by omega))) | refine sub_trans ?_ hsL8 | refine sub_over (by assumption) | refine sub_over0 ?_ | refine sub_trans (sub_same (by assumption)) ?_ | refine sub_dropu ?_ | refine sub_drop ?_ | refine sub_put ?_ (by repeat (first | assumption | exact upd_same _ _ _ | refine (upd_other _ _ (by omega)).trans ?_ | refine hsL8 _ _ ?_)))))) hpl) ?_
    rintro _ H1 k1 ⟨hk1, hsL8, hfL8, x6, y6, A6, B6, c6, d6, rfl, hx6, hy6, ht6, hf6⟩
    refine aOps_1 rfl rfl rfl (AOp.move' (.inl rfl) rfl ?_)
    refine aOps_1 rfl rfl rfl (AOp.extract' rfl rfl rfl ?_)
    refine aOps_1 rfl rfl rfl (AOp.extract' rfl rfl rfl ?_)
    refine aOps_1 rfl rfl rfl (AOp.extract' rfl rfl rfl ?_)
    refine aOps_1 rfl rfl rfl (AOp.move' (.inr rfl) rfl ?_)
    refine aOps_1 rfl rfl rfl (AOp.move' (.inr rfl) rfl ?_)
    refine aOps_1 rfl rfl rfl (AOp.move' (.inr rfl) rfl ?_)
    refine aOps_end ?_
    show ACode _ _ _ _ _ _
    refine ACode.seq ?_
    refine ACode.region' [0, 1, 2, 3, 4, 5, 6, 7, 8, 9, 10, 11, 12] (by kernel_rfl) rfl ?_
    refine aOps_1 rfl rfl rfl (AOp.move' (.inl rfl) rfl ?_)
    refine aOps_1 rfl rfl rfl (AOp.move' (.inl rfl) rfl ?_)
    refine aOps_1 rfl rfl rfl (AOp.move' (.inl rfl) rfl ?_)
    refine aOps_1 rfl rfl rfl (AOp.move' (.inl rfl) rfl ?_)
    refine aOps_1 rfl rfl rfl (AOp.move' (.inl rfl) rfl ?_)
    refine aOps_1 rfl rfl rfl ?_
    refine AOp.loadAll (b := ?b11) (v := hv a) rfl rfl ?hn11 ?hv11 ?hw11 ?hz11 ?hR11
    (case hn11 => repeat (first | assumption | exact upd_same _ _ _ | refine (upd_other _ _ (by omega)).trans ?_ | refine hsL8 _ _ ?_))
    (case hv11 => rfl)
    (case hw11 => rfl)
    (case hz11 => first | rfl | exact hv_size _ | exact hcs_one _ | exact (aw_size _).trans rfl | exact one_wv _ | exact one_bv _ | (simp; done))
    refine aOps_1 rfl rfl rfl (AOp.move' (.inl rfl) rfl ?_)
    refine aOps_q rfl rfl rfl (AOp.call' rfl rfl rfl (refGrownC_out _ _ (by repeat (first | assumption | exact upd_same _ _ _ | refine (upd_other _ _ (by omega)).trans ?_ | refine hsL8 _ _ ?_)) ls vs A c (hs.sub (by (repeat (first | exact sub_refl _ | assumption | refine sub_upd' ?_ (by ((repeat refine (upd_other _ _ (by omega)).trans ?_); first | exact hf _ (by omega) | exact hfL8 _ (by omega))) | refine sub_trans ?_ hsL8 | refine sub_over (by assumption) | refine sub_over0 ?_ | refine sub_trans (sub_same (by assumption)) ?_ | refine sub_dropu ?_ | refine sub_drop ?_ | refine sub_put ?_ (by repeat (first | assumption | exact upd_same _ _ _ | refine (upd_other _ _ (by omega)).trans ?_ | refine hsL8 _ _ ?_)))))) (hL.sub (by (repeat (first | exact sub_refl _ | assumption | refine sub_upd' ?_ (by ((repeat refine (upd_other _ _ (by omega)).trans ?_); first | exact hf _ (by omega) | exact hfL8 _ (by omega))) | refine sub_trans ?_ hsL8 | refine sub_over (by assumption) | refine sub_over0 ?_ | refine sub_trans (sub_same (by assumption)) ?_ | refine sub_dropu ?_ | refine sub_drop ?_ | refine sub_put ?_ (by repeat (first | assumption | exact upd_same _ _ _ | refine (upd_other _ _ (by omega)).trans ?_ | refine hsL8 _ _ ?_)))))) (by omega) hb m hm1 hm2 hbad a p E e (hsP.sub (by (repeat (first | exact sub_refl _ | assumption | refine sub_upd' ?_ (by ((repeat refine (upd_other _ _ (by omega)).trans ?_); first | exact hf _ (by omega) | exact hfL8 _ (by omega))) | refine sub_trans ?_ hsL8 | refine sub_over (by assumption) | refine sub_over0 ?_ | refine sub_trans (sub_same (by assumption)) ?_ | refine sub_dropu ?_ | refine sub_drop ?_ | refine sub_put ?_ (by repeat (first | assumption | exact upd_same _ _ _ | refine (upd_other _ _ (by omega)).trans ?_ | refine hsL8 _ _ ?_)))))) hpl) (fun _ _ _ h => h)) (fun kq hkq => ?_)
    refine aOps_q rfl rfl rfl (AOp.call' rfl rfl rfl (found_b _ _ (by repeat (first | assumption | exact upd_same _ _ _ | refine (upd_other _ _ (by omega)).trans ?_ | refine hsL8 _ _ ?_)) x6 y6 A6 B6 c6 d6 (hx6.sub (by (repeat (first | exact sub_refl _ | assumption | refine sub_upd' ?_ (by ((repeat refine (upd_other _ _ (by omega)).trans ?_); first | exact hf _ (by omega) | exact hfL8 _ (by omega))) | refine sub_trans ?_ hsL8 | refine sub_over (by assumption) | refine sub_over0 ?_ | refine sub_trans (sub_same (by assumption)) ?_ | refine sub_dropu ?_ | refine sub_drop ?_ | refine sub_put ?_ (by repeat (first | assumption | exact upd_same _ _ _ | refine (upd_other _ _ (by omega)).trans ?_ | refine hsL8 _ _ ?_)))))) (hy6.sub (by (repeat (first | exact sub_refl _ | assumption | refine sub_upd' ?_ (by ((repeat refine (upd_other _ _ (by omega)).trans ?_); first | exact hf _ (by omega) | exact hfL8 _ (by omega))) | refine sub_trans ?_ hsL8 | refine sub_over (by assumption) | refine sub_over0 ?_ | refine sub_trans (sub_same (by assumption)) ?_ | refine sub_dropu ?_ | refine sub_drop ?_ | refine sub_put ?_ (by repeat (first | assumption | exact upd_same _ _ _ | refine (upd_other _ _ (by omega)).trans ?_ | refine hsL8 _ _ ?_)))))) _ _ rfl ht6 hf6) (fun _ _ _ h => h)) (fun kq hkq => ?_)
    refine aOps_1 rfl rfl rfl (AOp.move' (.inl rfl) rfl ?_)
    refine aOps_gd rfl rfl (wantT rfl rfl rfl) (fun hc => AOp.slots [] .nil (AOp.call' rfl rfl rfl (awake22 _ _ (by repeat (first | assumption | exact upd_same _ _ _ | refine (upd_other _ _ (by omega)).trans ?_ | refine hsL8 _ _ ?_))) (fun _ _ _ h => h))) (fun kq hkq => ?_)
    refine aOps_1 rfl rfl rfl (AOp.pickAnd rfl rfl rfl (fun hb => gvE rfl hb) ?_)
    refine aOps_1 rfl rfl rfl (AOp.move' (.inr rfl) rfl ?_)
    refine aOps_end ?_
    show ACode _ _ _ _ _ _
    refine ACode.ret ?_
    exact RetQ.one rfl rfl (by (repeat (first | exact sub_refl _ | assumption | refine sub_upd' ?_ (by ((repeat refine (upd_other _ _ (by omega)).trans ?_); first | exact hf _ (by omega) | exact hfL8 _ (by omega))) | refine sub_trans ?_ hsL8 | refine sub_over (by assumption) | refine sub_over0 ?_ | refine sub_trans (sub_same (by assumption)) ?_ | refine sub_dropu ?_ | refine sub_drop ?_ | refine sub_put ?_ (by repeat (first | assumption | exact upd_same _ _ _ | refine (upd_other _ _ (by omega)).trans ?_ | refine hsL8 _ _ ?_))))) stays (fun hk => ⟨rfl, rfl, by omega⟩)
end

end Go.Proofs.YtipaiielkpifoaaDoor
