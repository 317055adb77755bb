/- Contracts over the abstract states: ValuePuts. -/
import Derived.Test.YtnciojaecelhmaaV11
set_option linter.unusedVariables false
set_option linter.unusedSimpArgs false
set_option maxRecDepth 100000
namespace Go.Proofs.Ytnciojaecelhmaa
open Go Go.Ab

theorem small_of {rows : List (List Val)} (h : greatW 50 50 100 rows = false) (ho : ∀ r ∈ rows, ∀ v ∈ r, v.ok) : Small rows := by
  unfold greatW at h
  rw [Bool.or_eq_false_iff, decide_eq_false_iff_not] at h
  have h1 : rows.take 50 = rows := List.take_of_length_le (by omega)
  rw [h1, List.any_eq_false] at h
  have h2 : ∀ r ∈ rows, r.length ≤ 50 ∧ ∀ v ∈ r, v.s.size ≤ 100 := by
    intro r hr
    have := h.1 r hr
    rw [Bool.not_eq_true, greatV, Bool.or_eq_false_iff, decide_eq_false_iff_not] at this
    have h3 : r.take 50 = r := List.take_of_length_le (by omega)
    rw [h3, List.any_eq_false] at this
    refine ⟨by omega, fun v hv => ?_⟩
    have := this.1 v hv
    rw [decide_eq_true_eq] at this
    omega
  exact ⟨by omega, fun r hr => (h2 r hr).1, fun r hr v hv => ⟨ho r hr v hv, (h2 r hr).2 v hv⟩⟩
section
variable (NG : Nat) (H : Hp) (k : Nat)

theorem valuePuts (b : List UInt8) (A : Option Addr) (c : Nat) (hb : SLC H 1 A b.length c (b.map bv)) (a : Val) (ha : a.ok) (cols : List Col) (B : Option Addr) (d : Nat) (hcs : SLC H 3 B cols.length d (cols3 cols)) (rows : List (List Val)) (vs : List Value) (C : Option Addr) (e : Nat) (hs : SLC H 1 C vs.length e vs) (hr : Rws H vs rows) (hvl : vs.length ≤ 9223372036854775807) (hrl : ∀ r ∈ rows, r.length ≤ 9223372036854775807) (hro : ∀ r ∈ rows, ∀ v ∈ r, v.ok) : ACalls Try.prog NG 5 [.slice A b.length c, vv a, .slice B cols.length d, .slice C vs.length e] H k (Same H k (.bool true)) := by
  refine ACalls.fresh fun hf => ?_
  refine ACalls.body Try.func5 rfl (Nat.le_of_ble_eq_true rfl) ?_
  refine ACode.seq ?_
  refine ACode.region' [0, 1, 2] (by kernel_rfl) rfl ?_
  refine aOps_1 rfl rfl rfl (AOp.boxV rfl rfl ?_)
  refine aOps_1 rfl rfl rfl (AOp.boxV rfl rfl ?_)
  refine aOps_1 rfl rfl rfl (AOp.move' (.inr rfl) rfl ?_)
  refine aOps_end ?_
  show ACode _ _ _ _ _ _
  refine ACode.seq ?_
  refine ACode.seq ?_
  refine ACode.region' [0, 1, 2, 3, 4, 5, 6, 7, 8, 9, 10, 11, 12, 13, 14, 15, 16, 17] (by kernel_rfl) rfl ?_
  refine aOps_1 rfl rfl rfl ?_
  refine AOp.load1 (b := ?b1) (v := ?v1) rfl rfl ?hn1 ?hv1 ?hR1
  (case hn1 => repeat (first | assumption | exact upd_same _ _ _ | refine (upd_other _ _ (by omega)).trans ?_))
  (case hv1 => rfl)
  refine aOps_1 rfl rfl rfl (AOp.len' rfl rfl ?_)
  refine aOps_1 rfl rfl rfl (AOp.bin' rfl rfl rfl rfl ?_)
  refine aOps_1 rfl rfl rfl (AOp.move' (.inl rfl) rfl ?_)
  refine aOps_gd0 rfl rfl (wantF rfl rfl rfl) (fun hc => AOp.slots [(5, _)] (.cons rfl .nil) (AOp.fieldAddr' rfl (by decide) rfl ⟨rfl, rfl, rfl⟩)) ?_
  refine aOps_gd0 rfl rfl (wantF rfl rfl rfl) (fun hc => AOp.slots [(14, _)] (.cons (gvT rfl hc) .nil) ((by refine AOp.load1 (b := ?b2) (v := ?v2) rfl rfl ?hn2 ?hv2 ?hR2; (case hn2 => repeat (first | assumption | exact upd_same _ _ _ | refine (upd_other _ _ (by omega)).trans ?_)); (case hv2 => rfl); exact ⟨rfl, rfl, rfl⟩))) ?_
  refine aOps_gd0 rfl rfl (wantF rfl rfl rfl) (fun hc => AOp.slots [(15, _)] (.cons (gvT rfl hc) .nil) (AOp.lenStr' rfl rfl ⟨rfl, rfl, rfl⟩)) ?_
  refine aOps_gd0 rfl rfl (wantF rfl rfl rfl) (fun hc => AOp.slots [(16, _)] (.cons (gvT rfl hc) .nil) (AOp.bin' rfl rfl rfl rfl ⟨rfl, rfl, rfl⟩)) ?_
  refine aOps_1 rfl rfl rfl (AOp.pickOr rfl rfl rfl (fun hb => gvE rfl (t_not hb)) ?_)
  refine aOps_1 rfl rfl rfl (AOp.move' (.inl rfl) rfl ?_)
  refine aOps_gd0 rfl rfl (wantF rfl rfl rfl) (fun hc => AOp.slots [(2, _)] (.cons rfl .nil) (AOp.move' (.inl rfl) rfl ⟨rfl, rfl, rfl⟩)) ?_
  refine aOps_gd0 rfl rfl (wantF rfl rfl rfl) (fun hc => AOp.slots [(20, _)] (.cons (gvT rfl hc) .nil) (AOp.len' rfl rfl ⟨rfl, rfl, rfl⟩)) ?_
  refine aOps_gd0 rfl rfl (wantF rfl rfl rfl) (fun hc => AOp.slots [(21, _)] (.cons (gvT rfl hc) .nil) (AOp.bin' rfl rfl rfl rfl ⟨rfl, rfl, rfl⟩)) ?_
  refine aOps_1 rfl rfl rfl (AOp.pickOr rfl rfl rfl (fun hb => gvE rfl (t_not hb)) ?_)
  refine aOps_1 rfl rfl rfl (AOp.move' (.inl rfl) rfl ?_)
  refine aOps_gd0 rfl rfl (wantF rfl rfl rfl) (fun hc => AOp.slots [(3, _)] (.cons rfl .nil) (AOp.move' (.inl rfl) rfl ⟨rfl, rfl, rfl⟩)) ?_
  refine aOps_gd rfl rfl (wantF rfl rfl rfl) (fun hc => AOp.slots [(25, _)] (.cons (gvT rfl hc) .nil) (AOp.call' rfl rfl rfl (great_w NG _ _ rows vs C e (hs.sub (by (repeat (first | exact sub_refl _ | assumption | refine sub_upd' ?_ (by ((repeat refine (upd_other _ _ (by omega)).trans ?_); first | exact hf _ (by omega))) | refine sub_over (by assumption) | refine sub_over0 ?_ | refine sub_trans (sub_same (by assumption)) ?_ | refine sub_dropu ?_ | refine sub_drop ?_ | refine sub_put ?_ (by repeat (first | assumption | exact upd_same _ _ _ | refine (upd_other _ _ (by omega)).trans ?_)))))) (hr.sub (by (repeat (first | exact sub_refl _ | assumption | refine sub_upd' ?_ (by ((repeat refine (upd_other _ _ (by omega)).trans ?_); first | exact hf _ (by omega))) | refine sub_over (by assumption) | refine sub_over0 ?_ | refine sub_trans (sub_same (by assumption)) ?_ | refine sub_dropu ?_ | refine sub_drop ?_ | refine sub_put ?_ (by repeat (first | assumption | exact upd_same _ _ _ | refine (upd_other _ _ (by omega)).trans ?_)))))) hvl hrl 50 50 100) (fun _ _ _ h => h))) (fun kq hkq => ?_)
  refine aOps_1 rfl rfl rfl (AOp.pickOr rfl rfl rfl (fun hb => gvE rfl (t_not hb)) ?_)
  refine aOps_end ?_
  show ACode _ _ _ _ _ _
  refine ACode.cond rfl (fun c0 => ?_) (fun c0 => ?_)
  · try simp only [decide_eq_true_eq, decide_eq_false_iff_not, beq_iff_eq, beq_eq_false_iff_ne, ne_eq, bne_iff_ne, Bool.not_eq_true', Bool.not_eq_false', Int.not_lt, Int.not_le, gt_iff_lt, ge_iff_le, bne_eq_false_iff_eq, Bool.not_eq_eq_eq_not, Bool.not_true, Bool.not_false] at c0
    refine ACode.seq ?_
    refine ACode.region' [0, 1] (by kernel_rfl) rfl ?_
    refine aOps_q rfl rfl rfl (AOp.call' rfl rfl rfl (awake15 NG _ _) (fun _ _ _ h => h)) (fun kq hkq => ?_)
    refine aOps_1 rfl rfl rfl (AOp.move' (.inr rfl) rfl ?_)
    refine aOps_end ?_
    show ACode _ _ _ _ _ _
    refine ACode.ret ?_
    exact RetQ.one rfl rfl (by (repeat (first | exact sub_refl _ | assumption | refine sub_upd' ?_ (by ((repeat refine (upd_other _ _ (by omega)).trans ?_); first | exact hf _ (by omega))) | refine sub_over (by assumption) | refine sub_over0 ?_ | refine sub_trans (sub_same (by assumption)) ?_ | refine sub_dropu ?_ | refine sub_drop ?_ | refine sub_put ?_ (by repeat (first | assumption | exact upd_same _ _ _ | refine (upd_other _ _ (by omega)).trans ?_))))) stays (fun hk => ⟨rfl, rfl, by omega⟩)
  · try simp only [decide_eq_true_eq, decide_eq_false_iff_not, beq_iff_eq, beq_eq_false_iff_ne, ne_eq, bne_iff_ne, Bool.not_eq_true', Bool.not_eq_false', Int.not_lt, Int.not_le, gt_iff_lt, ge_iff_le, bne_eq_false_iff_eq, Bool.not_eq_eq_eq_not, Bool.not_true, Bool.not_false] at c0
    simp only [Bool.or_eq_false_iff, decide_eq_false_iff_not] at c0
    obtain ⟨⟨⟨b1, b2⟩, b3⟩, b4⟩ := c0
    have hsm := small_of b4 hro
    have hpl := putB_le ha (by omega)
    have hrb := rowsB_le hsm rows.length
    rw [List.take_length] at hrb
    have hrn := hsm.n
    have hvb := varB_len rows.length (by omega)
    have hrw : (rowsB rows).length ≤ 277510 := by rw [rowsB, List.length_append]; omega
    have hsc : (schB cols).length ≤ 601 := by rw [schB, List.length_cons, colB_len]; omega
    refine ACode.skip ?_
    show ACode _ _ _ _ _ _
    refine ACode.seq ?_
    refine ACode.region' [0, 1] (by kernel_rfl) rfl ?_
    refine aOps_1 rfl rfl rfl (AOp.makeFunc' rfl rfl ?_)
    refine aOps_1 rfl rfl rfl (AOp.move' (.inr rfl) rfl ?_)
    refine aOps_end ?_
    show ACode _ _ _ _ _ _
    refine ACode.seq ?_
    refine ACode.drawM0 33 [(0, 30), (1, 31), (2, 32), (3, 33), (4, 34), (5, 35), (6, 36), (7, 37), (8, 38), (9, 39), (10, 40), (11, 41), (12, 42), (13, 43), (14, 44), (15, 45), (16, 46), (17, 47), (18, 48), (19, 49), (20, 50), (21, 51), (22, 52), (23, 53), (24, 54), (25, 55), (26, 56), (27, 57), (28, 58), (29, 59), (30, 60), (31, 61), (32, 8)] [0, 7, 8, 12, 14, 18, 25, 26] [([0], []), ([], []), ([0], []), ([], []), ([0], []), ([], []), ([], []), ([7], []), ([8], [7]), ([], [0, 8]), ([], []), ([], []), ([12], []), ([], []), ([14], []), ([], [12, 14]), ([], []), ([], []), ([18], []), ([], []), ([18], []), ([], []), ([18], []), ([], []), ([], []), ([25], []), ([26], [25]), ([], [18, 26]), ([], []), ([], []), ([], []), ([], []), ([], [])] mixed (by kernel_rfl) (by kernel_rfl) (by decide) ?_
    refine DrawM.new 0 _ _ [] rfl (by decide) rfl (by kernel_rfl) rfl rfl RenOk.grow (fun Hc kq hkq hF hSb hfr => AOp.buildB [] rfl (by decide) rfl rfl ⟨kq, Nat.le_refl _, Nat.lt_succ_self _, rfl, rfl⟩) ?_
    refine DrawM.q 1 [(4, none)] rfl rfl (by kernel_rfl) rfl rfl (fun Hc kq hkq hF hSb hfr => (by refine AOp.load1 (b := ?b3) (v := ?v3) rfl rfl ?hn3 ?hv3 ?hR3; (case hn3 => repeat (first | assumption | exact upd_same _ _ _ | refine (upd_other _ _ (by omega)).trans ?_ | refine hSb _ _ ?_)); (case hv3 => rfl); exact ⟨rfl, rfl, Nat.le_refl _⟩)) ?_
    refine DrawM.wr 2 0 _ [(30, some 0), (31, some 1)] rfl rfl (by kernel_rfl) rfl rfl (fun Hc kq hkq hF hSb hfr => (by refine AOp.appendB (ps := ?ns4) rfl rfl rfl ?hn4 ?hsrc4 ?ht4 ?hw4 ?hz4 ?hR4; (case hn4 => repeat (first | assumption | exact upd_same _ _ _ | refine (upd_other _ _ (by omega)).trans ?_ | exact hF 0 (by decide) | refine hSb _ _ ?_)); (case hsrc4 => refine srcOf_slc (SLC.sub hb ?_).cells; (repeat (first | exact sub_refl _ | assumption | refine sub_upd' ?_ (by ((repeat refine (upd_other _ _ (by omega)).trans ?_); first | exact hf _ (by omega))) | refine sub_trans ?_ hSb | refine sub_over (by assumption) | refine sub_over0 ?_ | refine sub_trans (sub_same (by assumption)) ?_ | refine sub_dropu ?_ | refine sub_drop ?_ | refine sub_put ?_ (by repeat (first | assumption | exact upd_same _ _ _ | refine (upd_other _ _ (by omega)).trans ?_ | exact hF 0 (by decide) | refine hSb _ _ ?_))))); (case ht4 => exact srcOk_sl); (case hw4 => (first | omega | (simp only [List.length_cons, List.length_nil]; omega) | (simp only [List.length_append, List.length_cons, List.length_nil]; omega) | (simp; omega))); (case hz4 => (first | omega | (simp only [List.length_cons, List.length_nil]; omega) | (simp only [List.length_append, List.length_cons, List.length_nil]; omega) | (simp; omega))); exact ⟨rfl, rfl, Nat.le_refl _⟩)) ?_
    refine DrawM.q 3 [(5, none)] rfl rfl (by kernel_rfl) rfl rfl (fun Hc kq hkq hF hSb hfr => (by refine AOp.loadAll (b := ?b5) (v := vv a) rfl rfl ?hn5 ?hv5 ?hw5 ?hz5 ?hR5; (case hn5 => repeat (first | assumption | exact upd_same _ _ _ | refine (upd_other _ _ (by omega)).trans ?_ | refine hSb _ _ ?_)); (case hv5 => rfl); (case hw5 => rfl); (case hz5 => first | rfl | (simp; done)); exact ⟨rfl, rfl, Nat.le_refl _⟩)) ?_
    refine DrawM.wr 4 0 _ [(32, some 2), (33, some 3)] rfl rfl (by kernel_rfl) rfl rfl (fun Hc kq hkq hF hSb hfr => AOp.call' rfl rfl rfl (put_val NG _ _ _ ([] ++ b) a ha (by omega) (by repeat (first | assumption | exact upd_same _ _ _ | refine (upd_other _ _ (by omega)).trans ?_ | exact hF 0 (by decide) | refine hSb _ _ ?_)) (by show b.length ≤ _; omega)) (fun _ _ _ h => h)) ?_
    refine DrawM.q 5 [(9, none)] rfl rfl (by kernel_rfl) rfl rfl (fun Hc kq hkq hF hSb hfr => AOp.move' (.inl rfl) rfl ⟨rfl, rfl, Nat.le_refl _⟩) ?_
    refine DrawM.q 6 [(5, none)] rfl rfl (by kernel_rfl) rfl rfl (fun Hc kq hkq hF hSb hfr => (by refine AOp.loadAll (b := ?b6) (v := vv a) rfl rfl ?hn6 ?hv6 ?hw6 ?hz6 ?hR6; (case hn6 => repeat (first | assumption | exact upd_same _ _ _ | refine (upd_other _ _ (by omega)).trans ?_ | refine hSb _ _ ?_)); (case hv6 => rfl); (case hw6 => rfl); (case hz6 => first | rfl | (simp; done)); exact ⟨rfl, rfl, Nat.le_refl _⟩)) ?_
    refine DrawM.new 7 _ _ [(36, some 6)] rfl (by decide) rfl (by kernel_rfl) rfl rfl RenOk.grow (fun Hc kq hkq hF hSb hfr => AOp.call' rfl rfl rfl (refPut NG _ _ a ha (by omega)) (fun _ _ _ h => h)) ?_
    refine DrawM.new 8 _ _ [(35, some 5), (37, some 7)] rfl (by decide) rfl (by kernel_rfl) rfl rfl RenOk.grow (fun Hc kq hkq hF hSb hfr => AOp.call' rfl rfl rfl (front_b NG _ _ k b (putB a) A (some ⟨_, 0, some 1⟩) c _ (by repeat (first | assumption | exact upd_same _ _ _ | refine (upd_other _ _ (by omega)).trans ?_ | exact hF 7 (by decide) | exact hF 8 (by decide) | refine hSb _ _ ?_)) (hb.sub (by (repeat (first | exact sub_refl _ | assumption | refine sub_upd' ?_ (by ((repeat refine (upd_other _ _ (by omega)).trans ?_); first | exact hf _ (by omega))) | refine sub_trans ?_ hSb | refine sub_over (by assumption) | refine sub_over0 ?_ | refine sub_trans (sub_same (by assumption)) ?_ | refine sub_dropu ?_ | refine sub_drop ?_ | refine sub_put ?_ (by repeat (first | assumption | exact upd_same _ _ _ | refine (upd_other _ _ (by omega)).trans ?_ | exact hF 7 (by decide) | exact hF 8 (by decide) | refine hSb _ _ ?_)))))) (SLC.gb (e := 5) (by repeat (first | assumption | exact upd_same _ _ _ | refine (upd_other _ _ (by omega)).trans ?_ | exact hF 7 (by decide) | exact hF 8 (by decide) | refine hSb _ _ ?_))) (by omega) (by omega)) (fun _ _ _ h => h)) ?_
    refine DrawM.q 9 [(34, some 4), (38, some 8)] rfl rfl (by kernel_rfl) rfl rfl (fun Hc kq hkq hF hSb hfr => AOp.call' rfl rfl rfl (same_b NG _ _ ([] ++ b ++ putB a) (b ++ putB a) _ _ _ _ (SLC.gb (e := 5) (by repeat (first | assumption | exact upd_same _ _ _ | refine (upd_other _ _ (by omega)).trans ?_ | exact hF 0 (by decide) | exact hF 8 (by decide) | refine hSb _ _ ?_))) (SLC.gb (e := 5) (by repeat (first | assumption | exact upd_same _ _ _ | refine (upd_other _ _ (by omega)).trans ?_ | exact hF 0 (by decide) | exact hF 8 (by decide) | refine hSb _ _ ?_))) (by simp only [List.length_append, List.length_nil]; omega)) (fun _ _ _ h => h)) ?_
    rw [show decide ([] ++ b ++ putB a = b ++ putB a) = true from decide_eq_true rfl]
    refine DrawM.q 10 [(39, some 9)] rfl rfl (by kernel_rfl) rfl rfl (fun Hc kq hkq hF hSb hfr => AOp.move' (.inl rfl) rfl ⟨rfl, rfl, Nat.le_refl _⟩) ?_
    refine DrawM.qg 11 [(2, none), (40, some 10)] rfl rfl (by kernel_rfl) rfl rfl (fun Hc kq hkq hF hSb hfr hc => AOp.move' (.inl rfl) rfl ⟨rfl, rfl, Nat.le_refl _⟩) ?_
    refine DrawM.newg 12 _ _ [(41, some 11), (40, some 10)] rfl (by decide) rfl (by kernel_rfl) rfl rfl rfl RenOk.grow (fun Hc kq hkq hF hSb hfr hc => AOp.call' rfl rfl rfl (putSchema_b NG _ _ cols B d (hcs.sub (by (repeat (first | exact sub_refl _ | assumption | refine sub_upd' ?_ (by ((repeat refine (upd_other _ _ (by omega)).trans ?_); first | exact hf _ (by omega))) | refine sub_trans ?_ hSb | refine sub_over (by assumption) | refine sub_over0 ?_ | refine sub_trans (sub_same (by assumption)) ?_ | refine sub_dropu ?_ | refine sub_drop ?_ | refine sub_put ?_ (by repeat (first | assumption | exact upd_same _ _ _ | refine (upd_other _ _ (by omega)).trans ?_ | exact hF 12 (by decide) | refine hSb _ _ ?_)))))) (by omega)) (fun _ _ _ h => h)) ?_
    refine DrawM.qg 13 [(2, none), (40, some 10)] rfl rfl (by kernel_rfl) rfl rfl (fun Hc kq hkq hF hSb hfr hc => AOp.move' (.inl rfl) rfl ⟨rfl, rfl, Nat.le_refl _⟩) ?_
    refine DrawM.newg 14 _ _ [(43, some 13), (40, some 10)] rfl (by decide) rfl (by kernel_rfl) rfl rfl rfl RenOk.grow (fun Hc kq hkq hF hSb hfr hc => AOp.call' rfl rfl rfl (refPutSchema_b NG _ _ cols B d (hcs.sub (by (repeat (first | exact sub_refl _ | assumption | refine sub_upd' ?_ (by ((repeat refine (upd_other _ _ (by omega)).trans ?_); first | exact hf _ (by omega))) | refine sub_trans ?_ hSb | refine sub_over (by assumption) | refine sub_over0 ?_ | refine sub_trans (sub_same (by assumption)) ?_ | refine sub_dropu ?_ | refine sub_drop ?_ | refine sub_put ?_ (by repeat (first | assumption | exact upd_same _ _ _ | refine (upd_other _ _ (by omega)).trans ?_ | exact hF 14 (by decide) | refine hSb _ _ ?_)))))) (by omega)) (fun _ _ _ h => h)) ?_
    refine DrawM.qg 15 [(42, some 12), (44, some 14), (40, some 10)] rfl rfl (by kernel_rfl) rfl rfl (fun Hc kq hkq hF hSb hfr hc => AOp.call' rfl rfl rfl (same_b NG _ _ (schB cols) (schB cols) _ _ _ _ (SLC.gb (e := 5) (by repeat (first | assumption | exact upd_same _ _ _ | refine (upd_other _ _ (by omega)).trans ?_ | exact hF 12 (by decide) | exact hF 14 (by decide) | refine hSb _ _ ?_))) (SLC.gb (e := 5) (by repeat (first | assumption | exact upd_same _ _ _ | refine (upd_other _ _ (by omega)).trans ?_ | exact hF 12 (by decide) | exact hF 14 (by decide) | refine hSb _ _ ?_))) (by omega)) (fun _ _ _ h => h)) ?_
    rw [show decide (schB cols = schB cols) = true from decide_eq_true rfl]
    refine DrawM.q 16 [(40, some 10), (45, some 15)] rfl rfl (by kernel_rfl) rfl rfl (fun Hc kq hkq hF hSb hfr => AOp.pickAnd rfl rfl rfl (fun _ => rfl) ⟨rfl, rfl, Nat.le_refl _⟩) ?_
    refine DrawM.q 17 [(46, some 16)] rfl rfl (by kernel_rfl) rfl rfl (fun Hc kq hkq hF hSb hfr => AOp.move' (.inl rfl) rfl ⟨rfl, rfl, Nat.le_refl _⟩) ?_
    refine DrawM.newg 18 _ _ [(47, some 17)] rfl (by decide) rfl (by kernel_rfl) rfl rfl rfl RenOk.grow (fun Hc kq hkq hF hSb hfr hc => AOp.buildB [] rfl (by decide) rfl rfl ⟨kq, Nat.le_refl _, Nat.lt_succ_self _, rfl, rfl⟩) ?_
    refine DrawM.qg 19 [(4, none), (47, some 17)] rfl rfl (by kernel_rfl) rfl rfl (fun Hc kq hkq hF hSb hfr hc => (by refine AOp.load1 (b := ?b7) (v := ?v7) rfl rfl ?hn7 ?hv7 ?hR7; (case hn7 => repeat (first | assumption | exact upd_same _ _ _ | refine (upd_other _ _ (by omega)).trans ?_ | refine hSb _ _ ?_)); (case hv7 => rfl); exact ⟨rfl, rfl, Nat.le_refl _⟩)) ?_
    refine DrawM.wrg 20 18 _ [(48, some 18), (49, some 19), (47, some 17)] rfl rfl (by kernel_rfl) rfl rfl (fun Hc kq hkq hF hSb hfr hc => (by refine AOp.appendB (ps := ?ns8) rfl rfl rfl ?hn8 ?hsrc8 ?ht8 ?hw8 ?hz8 ?hR8; (case hn8 => repeat (first | assumption | exact upd_same _ _ _ | refine (upd_other _ _ (by omega)).trans ?_ | exact hF 18 (by decide) | refine hSb _ _ ?_)); (case hsrc8 => refine srcOf_slc (SLC.sub hb ?_).cells; (repeat (first | exact sub_refl _ | assumption | refine sub_upd' ?_ (by ((repeat refine (upd_other _ _ (by omega)).trans ?_); first | exact hf _ (by omega))) | refine sub_trans ?_ hSb | refine sub_over (by assumption) | refine sub_over0 ?_ | refine sub_trans (sub_same (by assumption)) ?_ | refine sub_dropu ?_ | refine sub_drop ?_ | refine sub_put ?_ (by repeat (first | assumption | exact upd_same _ _ _ | refine (upd_other _ _ (by omega)).trans ?_ | exact hF 18 (by decide) | refine hSb _ _ ?_))))); (case ht8 => exact srcOk_sl); (case hw8 => (first | omega | (simp only [List.length_cons, List.length_nil]; omega) | (simp only [List.length_append, List.length_cons, List.length_nil]; omega) | (simp; omega))); (case hz8 => (first | omega | (simp only [List.length_cons, List.length_nil]; omega) | (simp only [List.length_append, List.length_cons, List.length_nil]; omega) | (simp; omega))); exact ⟨rfl, rfl, Nat.le_refl _⟩)) ?_
    refine DrawM.qg 21 [(3, none), (47, some 17)] rfl rfl (by kernel_rfl) rfl rfl (fun Hc kq hkq hF hSb hfr hc => AOp.move' (.inl rfl) rfl ⟨rfl, rfl, Nat.le_refl _⟩) ?_
    refine DrawM.wrg 22 18 _ [(50, some 20), (51, some 21), (47, some 17)] rfl rfl (by kernel_rfl) rfl rfl (fun Hc kq hkq hF hSb hfr hc => AOp.call' rfl rfl rfl (putRows_b NG _ _ _ ([] ++ b) rows vs C e (by repeat (first | assumption | exact upd_same _ _ _ | refine (upd_other _ _ (by omega)).trans ?_ | exact hF 18 (by decide) | refine hSb _ _ ?_)) (hs.sub (by (repeat (first | exact sub_refl _ | assumption | refine sub_upd' ?_ (by ((repeat refine (upd_other _ _ (by omega)).trans ?_); first | exact hf _ (by omega))) | refine sub_trans ?_ hSb | refine sub_over (by assumption) | refine sub_over0 ?_ | refine sub_trans (sub_same (by assumption)) ?_ | refine sub_dropu ?_ | refine sub_drop ?_ | refine sub_put ?_ (by repeat (first | assumption | exact upd_same _ _ _ | refine (upd_other _ _ (by omega)).trans ?_ | exact hF 18 (by decide) | refine hSb _ _ ?_)))))) (hr.sub (by (repeat (first | exact sub_refl _ | assumption | refine sub_upd' ?_ (by ((repeat refine (upd_other _ _ (by omega)).trans ?_); first | exact hf _ (by omega))) | refine sub_trans ?_ hSb | refine sub_over (by assumption) | refine sub_over0 ?_ | refine sub_trans (sub_same (by assumption)) ?_ | refine sub_dropu ?_ | refine sub_drop ?_ | refine sub_put ?_ (by repeat (first | assumption | exact upd_same _ _ _ | refine (upd_other _ _ (by omega)).trans ?_ | exact hF 18 (by decide) | refine hSb _ _ ?_)))))) hsm (by show b.length ≤ _; omega)) (fun _ _ _ h => h)) ?_
    refine DrawM.qg 23 [(9, none), (47, some 17)] rfl rfl (by kernel_rfl) rfl rfl (fun Hc kq hkq hF hSb hfr hc => AOp.move' (.inl rfl) rfl ⟨rfl, rfl, Nat.le_refl _⟩) ?_
    refine DrawM.qg 24 [(3, none), (47, some 17)] rfl rfl (by kernel_rfl) rfl rfl (fun Hc kq hkq hF hSb hfr hc => AOp.move' (.inl rfl) rfl ⟨rfl, rfl, Nat.le_refl _⟩) ?_
    refine DrawM.newg 25 _ _ [(54, some 24), (47, some 17)] rfl (by decide) rfl (by kernel_rfl) rfl rfl rfl RenOk.grow (fun Hc kq hkq hF hSb hfr hc => AOp.call' rfl rfl rfl (refPutRows_b NG _ _ rows vs C e (hs.sub (by (repeat (first | exact sub_refl _ | assumption | refine sub_upd' ?_ (by ((repeat refine (upd_other _ _ (by omega)).trans ?_); first | exact hf _ (by omega))) | refine sub_trans ?_ hSb | refine sub_over (by assumption) | refine sub_over0 ?_ | refine sub_trans (sub_same (by assumption)) ?_ | refine sub_dropu ?_ | refine sub_drop ?_ | refine sub_put ?_ (by repeat (first | assumption | exact upd_same _ _ _ | refine (upd_other _ _ (by omega)).trans ?_ | exact hF 25 (by decide) | refine hSb _ _ ?_)))))) (hr.sub (by (repeat (first | exact sub_refl _ | assumption | refine sub_upd' ?_ (by ((repeat refine (upd_other _ _ (by omega)).trans ?_); first | exact hf _ (by omega))) | refine sub_trans ?_ hSb | refine sub_over (by assumption) | refine sub_over0 ?_ | refine sub_trans (sub_same (by assumption)) ?_ | refine sub_dropu ?_ | refine sub_drop ?_ | refine sub_put ?_ (by repeat (first | assumption | exact upd_same _ _ _ | refine (upd_other _ _ (by omega)).trans ?_ | exact hF 25 (by decide) | refine hSb _ _ ?_)))))) hsm) (fun _ _ _ h => h)) ?_
    refine DrawM.newg 26 _ _ [(53, some 23), (55, some 25), (47, some 17)] rfl (by decide) rfl (by kernel_rfl) rfl rfl rfl RenOk.grow (fun Hc kq hkq hF hSb hfr hc => AOp.call' rfl rfl rfl (front_b NG _ _ k b (rowsB rows) A (some ⟨_, 0, some 1⟩) c _ (by repeat (first | assumption | exact upd_same _ _ _ | refine (upd_other _ _ (by omega)).trans ?_ | exact hF 25 (by decide) | exact hF 26 (by decide) | refine hSb _ _ ?_)) (hb.sub (by (repeat (first | exact sub_refl _ | assumption | refine sub_upd' ?_ (by ((repeat refine (upd_other _ _ (by omega)).trans ?_); first | exact hf _ (by omega))) | refine sub_trans ?_ hSb | refine sub_over (by assumption) | refine sub_over0 ?_ | refine sub_trans (sub_same (by assumption)) ?_ | refine sub_dropu ?_ | refine sub_drop ?_ | refine sub_put ?_ (by repeat (first | assumption | exact upd_same _ _ _ | refine (upd_other _ _ (by omega)).trans ?_ | exact hF 25 (by decide) | exact hF 26 (by decide) | refine hSb _ _ ?_)))))) (SLC.gb (e := 5) (by repeat (first | assumption | exact upd_same _ _ _ | refine (upd_other _ _ (by omega)).trans ?_ | exact hF 25 (by decide) | exact hF 26 (by decide) | refine hSb _ _ ?_))) (by omega) (by omega)) (fun _ _ _ h => h)) ?_
    refine DrawM.qg 27 [(52, some 22), (56, some 26), (47, some 17)] rfl rfl (by kernel_rfl) rfl rfl (fun Hc kq hkq hF hSb hfr hc => AOp.call' rfl rfl rfl (same_b NG _ _ ([] ++ b ++ rowsB rows) (b ++ rowsB rows) _ _ _ _ (SLC.gb (e := 5) (by repeat (first | assumption | exact upd_same _ _ _ | refine (upd_other _ _ (by omega)).trans ?_ | exact hF 18 (by decide) | exact hF 26 (by decide) | refine hSb _ _ ?_))) (SLC.gb (e := 5) (by repeat (first | assumption | exact upd_same _ _ _ | refine (upd_other _ _ (by omega)).trans ?_ | exact hF 18 (by decide) | exact hF 26 (by decide) | refine hSb _ _ ?_))) (by simp only [List.length_append, List.length_nil]; omega)) (fun _ _ _ h => h)) ?_
    rw [show decide ([] ++ b ++ rowsB rows = b ++ rowsB rows) = true from decide_eq_true rfl]
    refine DrawM.q 28 [(47, some 17), (57, some 27)] rfl rfl (by kernel_rfl) rfl rfl (fun Hc kq hkq hF hSb hfr => AOp.pickAnd rfl rfl rfl (fun _ => rfl) ⟨rfl, rfl, Nat.le_refl _⟩) ?_
    refine DrawM.q 29 [(58, some 28)] rfl rfl (by kernel_rfl) rfl rfl (fun Hc kq hkq hF hSb hfr => AOp.move' (.inl rfl) rfl ⟨rfl, rfl, Nat.le_refl _⟩) ?_
    refine DrawM.qg 30 [(59, some 29)] rfl rfl (by kernel_rfl) rfl rfl (fun Hc kq hkq hF hSb hfr hc => AOp.call' rfl rfl rfl (awake15 NG _ _) (fun _ _ _ h => h)) ?_
    refine DrawM.q 31 [(59, some 29), (60, some 30)] rfl rfl (by kernel_rfl) rfl rfl (fun Hc kq hkq hF hSb hfr => AOp.pickAnd rfl rfl rfl (fun _ => rfl) ⟨rfl, rfl, Nat.le_refl _⟩) ?_
    refine DrawM.q 32 [(61, some 31)] rfl rfl (by kernel_rfl) rfl rfl (fun Hc kq hkq hF hSb hfr => AOp.move' (.inr rfl) rfl ⟨rfl, rfl, Nat.le_refl _⟩) ?_
    refine DrawM.done fun kq hkq => ?_
    show aOps _ _ _ _ [] ⟨_, (upd (upd (upd (upd (upd (upd (upd (upd _ (_ + 26) _) (_ + 25) _) (_ + 18) _) (_ + 14) _) (_ + 12) _) (_ + 8) _) (_ + 7) _) (_ + 0) _), _⟩
    refine aOps_end ?_
    show ACode _ _ _ _ _ _
    refine ACode.ret ?_
    exact RetQ.one rfl rfl (by (repeat (first | exact sub_refl _ | assumption | refine sub_upd' ?_ (by ((repeat refine (upd_other _ _ (by omega)).trans ?_); first | exact hf _ (by omega))) | refine sub_over (by assumption) | refine sub_over0 ?_ | refine sub_trans (sub_same (by assumption)) ?_ | refine sub_dropu ?_ | refine sub_drop ?_ | refine sub_put ?_ (by repeat (first | assumption | exact upd_same _ _ _ | refine (upd_other _ _ (by omega)).trans ?_))))) stays (fun hk => ⟨rfl, rfl, by omega⟩)
end

end Go.Proofs.Ytnciojaecelhmaa
