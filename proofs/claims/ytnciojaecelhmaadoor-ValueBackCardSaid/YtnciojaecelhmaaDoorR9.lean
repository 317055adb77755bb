/- Contracts over the abstract states: ValueBack. -/
import Derived.Test.YtnciojaecelhmaaDoorRU
set_option linter.unusedVariables false
set_option linter.unusedSimpArgs false
set_option maxRecDepth 100000
namespace Go.Proofs.YtnciojaecelhmaaDoor
open Go Go.Ab

theorem small_of' {rows : List (List Val)} (h : greatW 50 50 100 rows = false) (ho : ∀ r ∈ rows, ∀ v ∈ r, v.ok) : Small rows := by
  unfold greatW at h
  rw [Bool.or_eq_false_iff, decide_eq_false_iff_not] at h
  have h1 : rows.take 50 = rows := List.take_of_length_le (by omega)
  rw [h1, List.any_eq_false] at h
  have h2 : ∀ r ∈ rows, r.length ≤ 50 ∧ ∀ v ∈ r, v.s.size ≤ 100 := by
    intro r hr
    have := h.1 r hr
    rw [Bool.not_eq_true, greatV, Bool.or_eq_false_iff, decide_eq_false_iff_not] at this
    have h3 : r.take 50 = r := List.take_of_length_le (by omega)
    rw [h3, List.any_eq_false] at this
    refine ⟨by omega, fun v hv => ?_⟩
    have := this.1 v hv
    rw [decide_eq_true_eq] at this
    omega
  exact ⟨by omega, fun r hr => (h2 r hr).1, fun r hr v hv => ⟨ho r hr v hv, (h2 r hr).2 v hv⟩⟩
section
variable (H : Hp) (k : Nat)

theorem valueBack (h2 : H 2 = some hBlk) (cols : List Col) (B : Option Addr) (d : Nat) (hcs : SLC H 3 B cols.length d (cols3 cols)) (hcl : cols.length ≤ 9223372036854775807) (hco : ∀ a ∈ cols, a.ok) (rows : List (List Val)) (vs : List Value) (C : Option Addr) (e : Nat) (hs : SLC H 1 C vs.length e vs) (hr : Rws H vs rows) (hvl : vs.length ≤ 9223372036854775807) (hrl : ∀ r ∈ rows, r.length ≤ 9223372036854775807) (hro : ∀ r ∈ rows, ∀ v ∈ r, v.ok) : ACalls Tryd.prog 4 8 [.slice B cols.length d, .slice C vs.length e] H k (fun v _ _ => v = .bool true) := by
  refine ACalls.fresh fun hf => ?_
  refine ACalls.body Tryd.func8 rfl (Nat.le_of_ble_eq_true rfl) ?_
  have hlen := hr.len
  have h2k := old_lt hf h2
  refine ACode.seq ?_
  refine ACode.region' [0] (by kernel_rfl) rfl ?_
  refine aOps_1 rfl rfl rfl (AOp.move' (.inr rfl) rfl ?_)
  refine aOps_end ?_
  show ACode _ _ _ _ _ _
  refine ACode.seq ?_
  refine ACode.seq ?_
  refine ACode.region' [0, 1, 2, 3, 4, 5, 6] (by kernel_rfl) rfl ?_
  refine aOps_1 rfl rfl rfl (AOp.move' (.inl rfl) rfl ?_)
  refine aOps_q rfl rfl rfl (AOp.call' rfl rfl rfl (great_w 4 _ _ rows vs C e (hs.sub (by (repeat (first | exact sub_refl _ | assumption | refine sub_upd' ?_ (by ((repeat refine (upd_other _ _ (by omega)).trans ?_); first | exact hf _ (by omega))) | refine sub_over (by assumption) | refine sub_over0 ?_ | refine sub_trans (sub_same (by assumption)) ?_ | refine sub_dropu ?_ | refine sub_drop ?_ | refine sub_put ?_ (by repeat (first | assumption | exact upd_same _ _ _ | refine (upd_other _ _ (by omega)).trans ?_)))))) (hr.sub (by (repeat (first | exact sub_refl _ | assumption | refine sub_upd' ?_ (by ((repeat refine (upd_other _ _ (by omega)).trans ?_); first | exact hf _ (by omega))) | refine sub_over (by assumption) | refine sub_over0 ?_ | refine sub_trans (sub_same (by assumption)) ?_ | refine sub_dropu ?_ | refine sub_drop ?_ | refine sub_put ?_ (by repeat (first | assumption | exact upd_same _ _ _ | refine (upd_other _ _ (by omega)).trans ?_)))))) hvl hrl 50 50 100) (fun _ _ _ h => h)) (fun kq hkq => ?_)
  refine aOps_1 rfl rfl rfl (AOp.move' (.inl rfl) rfl ?_)
  refine aOps_gd0 rfl rfl (wantF rfl rfl rfl) (fun hc => AOp.slots [(0, _)] (.cons rfl .nil) (AOp.move' (.inl rfl) rfl ⟨rfl, rfl, rfl⟩)) ?_
  refine aOps_gd rfl rfl (wantF rfl rfl rfl) (fun hc => AOp.slots [(14, _)] (.cons (gvT rfl hc) .nil) (AOp.call' rfl rfl rfl (schema_cols 4 _ _ cols B d (hcs.sub (by (repeat (first | exact sub_refl _ | assumption | refine sub_upd' ?_ (by ((repeat refine (upd_other _ _ (by omega)).trans ?_); first | exact hf _ (by omega))) | refine sub_over (by assumption) | refine sub_over0 ?_ | refine sub_trans (sub_same (by assumption)) ?_ | refine sub_dropu ?_ | refine sub_drop ?_ | refine sub_put ?_ (by repeat (first | assumption | exact upd_same _ _ _ | refine (upd_other _ _ (by omega)).trans ?_)))))).cells hcl) (fun _ _ _ h => h))) (fun kq hkq => ?_)
  refine aOps_gd0 rfl rfl (wantF rfl rfl rfl) (fun hc => AOp.slots [(15, _)] (.cons (gvT rfl hc) .nil) (AOp.bin' rfl rfl rfl rfl ⟨rfl, rfl, rfl⟩)) ?_
  refine aOps_1 rfl rfl rfl (AOp.pickOr rfl rfl rfl (fun hb => gvE rfl (t_not hb)) ?_)
  refine aOps_end ?_
  show ACode _ _ _ _ _ _
  refine ACode.cond rfl (fun c0 => ?_) (fun c0 => ?_)
  · try simp only [decide_eq_true_eq, decide_eq_false_iff_not, beq_iff_eq, beq_eq_false_iff_ne, ne_eq, bne_iff_ne, Bool.not_eq_true', Bool.not_eq_false', Int.not_lt, Int.not_le, gt_iff_lt, ge_iff_le, bne_eq_false_iff_eq, Bool.not_eq_eq_eq_not, Bool.not_true, Bool.not_false] at c0
    refine ACode.seq ?_
    refine ACode.region' [0, 1] (by kernel_rfl) rfl ?_
    refine aOps_q rfl rfl rfl (AOp.call' rfl rfl rfl (awake15 4 _ _) (fun _ _ _ h => h)) (fun kq hkq => ?_)
    refine aOps_1 rfl rfl rfl (AOp.move' (.inr rfl) rfl ?_)
    refine aOps_end ?_
    show ACode _ _ _ _ _ _
    refine ACode.ret ?_
    try simp only [thenA, blockA, if_true]
    exact RetQ.one rfl rfl (by (repeat (first | exact sub_refl _ | assumption | refine sub_upd' ?_ (by ((repeat refine (upd_other _ _ (by omega)).trans ?_); first | exact hf _ (by omega))) | refine sub_over (by assumption) | refine sub_over0 ?_ | refine sub_trans (sub_same (by assumption)) ?_ | refine sub_dropu ?_ | refine sub_drop ?_ | refine sub_put ?_ (by repeat (first | assumption | exact upd_same _ _ _ | refine (upd_other _ _ (by omega)).trans ?_))))) stays (fun hk => rfl)
  · try simp only [decide_eq_true_eq, decide_eq_false_iff_not, beq_iff_eq, beq_eq_false_iff_ne, ne_eq, bne_iff_ne, Bool.not_eq_true', Bool.not_eq_false', Int.not_lt, Int.not_le, gt_iff_lt, ge_iff_le, bne_eq_false_iff_eq, Bool.not_eq_eq_eq_not, Bool.not_true, Bool.not_false] at c0
    have c0b : greatW 50 50 100 rows = false ∧ schemaI cols = 0 := by simpa using c0
    have hsm := small_of' c0b.1 hro
    refine ACode.skip ?_
    show ACode _ _ _ _ _ _
    refine ACode.seq ?_
    refine ACode.seq ?_
    refine ACode.region' [0] (by kernel_rfl) rfl ?_
    refine aOps_1 rfl rfl rfl (AOp.move' (.inr rfl) rfl ?_)
    refine aOps_end ?_
    show ACode _ _ _ _ _ _
    refine ACode.block ?_
    refine ACode.count0 (fun i => [(5, .int .i64 (i : Int))]) [(0, _), (1, _)] (vs.length) (fun i => ∀ j, j < i → rowI wrongR cols (rows.getD j []) = 0) (.cons rfl .nil) (.cons rfl (.cons rfl .nil)) (fun j hj => absurd hj (Nat.not_lt_zero j)) (fun i0 kL0 HL0 hiL0 hkL0 hsL0 hfL0 hxL0 => ?_)
    show ACode _ _ _ _ _ ⟨_, _, _⟩
    refine ACode.seq ?_
    refine ACode.seq ?_
    refine ACode.region' [0, 1, 2, 3] (by kernel_rfl) rfl ?_
    refine aOps_1 rfl rfl rfl (AOp.move' (.inl rfl) rfl ?_)
    refine aOps_1 rfl rfl rfl (AOp.move' (.inl rfl) rfl ?_)
    refine aOps_1 rfl rfl rfl (AOp.len' rfl rfl ?_)
    refine aOps_1 rfl rfl rfl (AOp.bin' rfl rfl rfl rfl ?_)
    refine aOps_end ?_
    show ACode _ _ _ _ _ _
    refine ACode.cond rfl (fun c1 => ?_) (fun c1 => ?_)
    · try simp only [decide_eq_true_eq, decide_eq_false_iff_not, beq_iff_eq, beq_eq_false_iff_ne, ne_eq, bne_iff_ne, Bool.not_eq_true', Bool.not_eq_false', Int.not_lt, Int.not_le, gt_iff_lt, ge_iff_le, bne_eq_false_iff_eq, Bool.not_eq_eq_eq_not, Bool.not_true, Bool.not_false] at c1
      refine ACode.skip ?_
      show ACode _ _ _ _ _ _
      refine ACode.seq ?_
      refine ACode.block ?_
      refine ACode.seq ?_
      obtain ⟨A1, d1, e1, hc1⟩ := hr.at_ i0 (by omega)
      have hm : rows.getD i0 [] ∈ rows := getD_mem (by omega)
      obtain ⟨n6_3, o6_3, s6_3, hq6_3, hp6_3⟩ := e1 ▸ slcElV hs.cells (show i0 < vs.length by omega)
      refine ACode.region' [0, 1, 2, 3, 4, 5, 6] (by kernel_rfl) rfl ?_
      refine aOps_1 rfl rfl rfl (AOp.move' (.inl rfl) rfl ?_)
      refine aOps_1 rfl rfl rfl (AOp.move' (.inl rfl) rfl ?_)
      refine aOps_1 rfl rfl rfl (AOp.move' (.inl rfl) rfl ?_)
      refine aOps_1 rfl rfl rfl (AOp.indexP (aslcAt_sub (by (repeat (first | exact sub_refl _ | assumption | refine sub_upd' ?_ (by ((repeat refine (upd_other _ _ (by omega)).trans ?_); first | exact hf _ (by omega) | exact hfL0 _ (by omega))) | refine sub_trans ?_ hsL0 | refine sub_over (by assumption) | refine sub_over0 ?_ | refine sub_trans (sub_same (by assumption)) ?_ | refine sub_dropu ?_ | refine sub_drop ?_ | refine sub_put ?_ (by repeat (first | assumption | exact upd_same _ _ _ | refine (upd_other _ _ (by omega)).trans ?_ | refine hsL0 _ _ ?_))))) hq6_3) rfl rfl rfl ?_)
      refine aOps_1 rfl rfl rfl (AOp.loadP0 (hp6_3.sub (by (repeat (first | exact sub_refl _ | assumption | refine sub_upd' ?_ (by ((repeat refine (upd_other _ _ (by omega)).trans ?_); first | exact hf _ (by omega) | exact hfL0 _ (by omega))) | refine sub_trans ?_ hsL0 | refine sub_over (by assumption) | refine sub_over0 ?_ | refine sub_trans (sub_same (by assumption)) ?_ | refine sub_dropu ?_ | refine sub_drop ?_ | refine sub_put ?_ (by repeat (first | assumption | exact upd_same _ _ _ | refine (upd_other _ _ (by omega)).trans ?_ | refine hsL0 _ _ ?_)))))) rfl rfl rfl ?_)
      refine aOps_q rfl rfl rfl (AOp.call' rfl rfl rfl (row_vals 4 _ _ cols (rows.getD i0 []) B d (hcs.sub (by (repeat (first | exact sub_refl _ | assumption | refine sub_upd' ?_ (by ((repeat refine (upd_other _ _ (by omega)).trans ?_); first | exact hf _ (by omega) | exact hfL0 _ (by omega))) | refine sub_trans ?_ hsL0 | refine sub_over (by assumption) | refine sub_over0 ?_ | refine sub_trans (sub_same (by assumption)) ?_ | refine sub_dropu ?_ | refine sub_drop ?_ | refine sub_put ?_ (by repeat (first | assumption | exact upd_same _ _ _ | refine (upd_other _ _ (by omega)).trans ?_ | refine hsL0 _ _ ?_)))))).cells A1 d1 (hc1.sub (by (repeat (first | exact sub_refl _ | assumption | refine sub_upd' ?_ (by ((repeat refine (upd_other _ _ (by omega)).trans ?_); first | exact hf _ (by omega) | exact hfL0 _ (by omega))) | refine sub_trans ?_ hsL0 | refine sub_over (by assumption) | refine sub_over0 ?_ | refine sub_trans (sub_same (by assumption)) ?_ | refine sub_dropu ?_ | refine sub_drop ?_ | refine sub_put ?_ (by repeat (first | assumption | exact upd_same _ _ _ | refine (upd_other _ _ (by omega)).trans ?_ | refine hsL0 _ _ ?_)))))).cells (hrl _ hm) (hro _ hm)) (fun _ _ _ h => h)) (fun kq hkq => ?_)
      refine aOps_1 rfl rfl rfl (AOp.bin' rfl rfl rfl rfl ?_)
      refine aOps_end ?_
      show ACode _ _ _ _ _ _
      refine ACode.cond rfl (fun c2 => ?_) (fun c2 => ?_)
      · try simp only [decide_eq_true_eq, decide_eq_false_iff_not, beq_iff_eq, beq_eq_false_iff_ne, ne_eq, bne_iff_ne, Bool.not_eq_true', Bool.not_eq_false', Int.not_lt, Int.not_le, gt_iff_lt, ge_iff_le, bne_eq_false_iff_eq, Bool.not_eq_eq_eq_not, Bool.not_true, Bool.not_false] at c2
        refine ACode.seq ?_
        refine ACode.region' [0, 1] (by kernel_rfl) rfl ?_
        refine aOps_q rfl rfl rfl (AOp.call' rfl rfl rfl (awake15 4 _ _) (fun _ _ _ h => h)) (fun kq hkq => ?_)
        refine aOps_1 rfl rfl rfl (AOp.move' (.inr rfl) rfl ?_)
        refine aOps_end ?_
        show ACode _ _ _ _ _ _
        refine ACode.ret ?_
        try simp only [thenA, blockA, if_true]
        exact RetQ.one rfl rfl (by (repeat (first | exact sub_refl _ | assumption | refine sub_upd' ?_ (by ((repeat refine (upd_other _ _ (by omega)).trans ?_); first | exact hf _ (by omega) | exact hfL0 _ (by omega))) | refine sub_trans ?_ hsL0 | refine sub_over (by assumption) | refine sub_over0 ?_ | refine sub_trans (sub_same (by assumption)) ?_ | refine sub_dropu ?_ | refine sub_drop ?_ | refine sub_put ?_ (by repeat (first | assumption | exact upd_same _ _ _ | refine (upd_other _ _ (by omega)).trans ?_ | refine hsL0 _ _ ?_))))) stays (fun hk => rfl)
      · try simp only [decide_eq_true_eq, decide_eq_false_iff_not, beq_iff_eq, beq_eq_false_iff_ne, ne_eq, bne_iff_ne, Bool.not_eq_true', Bool.not_eq_false', Int.not_lt, Int.not_le, gt_iff_lt, ge_iff_le, bne_eq_false_iff_eq, Bool.not_eq_eq_eq_not, Bool.not_true, Bool.not_false] at c2
        refine ACode.skip ?_
        show ACode _ _ _ _ _ _
        refine ACode.region' [0, 1, 2] (by kernel_rfl) rfl ?_
        refine aOps_1 rfl rfl rfl (AOp.move' (.inl rfl) rfl ?_)
        refine aOps_1 rfl rfl rfl (AOp.add rfl rfl rfl (i64_wrap (by omega) (by omega)) ?_)
        refine aOps_1 rfl rfl rfl (AOp.move' (.inr rfl) rfl ?_)
        refine aOps_end ?_
        first | refine thenA_n ?_ | simp only [thenA, blockA, if_true]
        exact NextR.mk (by omega) (by omega) (.cons rfl .nil) (.cons rfl (.cons rfl .nil)) (by (repeat (first | exact sub_refl _ | assumption | refine sub_upd' ?_ (by ((repeat refine (upd_other _ _ (by omega)).trans ?_); first | exact hf _ (by omega) | exact hfL0 _ (by omega))) | refine sub_trans ?_ hsL0 | refine sub_over (by assumption) | refine sub_over0 ?_ | refine sub_trans (sub_same (by assumption)) ?_ | refine sub_dropu ?_ | refine sub_drop ?_ | refine sub_put ?_ (by repeat (first | assumption | exact upd_same _ _ _ | refine (upd_other _ _ (by omega)).trans ?_ | refine hsL0 _ _ ?_))))) (fun j hj => (Nat.lt_or_ge j i0).elim (fun h => hxL0 j h) (fun h => by rw [show j = i0 by omega, ← row_same]; exact c2))
    · try simp only [decide_eq_true_eq, decide_eq_false_iff_not, beq_iff_eq, beq_eq_false_iff_ne, ne_eq, bne_iff_ne, Bool.not_eq_true', Bool.not_eq_false', Int.not_lt, Int.not_le, gt_iff_lt, ge_iff_le, bne_eq_false_iff_eq, Bool.not_eq_eq_eq_not, Bool.not_true, Bool.not_false] at c1
      refine ACode.exit ?_
      show ACode _ _ _ _ _ _
      refine ACode.seq ?_
      have hi : i0 = vs.length := by omega
      have hall : ∀ row ∈ rows, row.length = cols.length ∧ rowI wrongR cols row = 0 ∧ ∀ a ∈ row, Tidy a := fun row hrow => by
        obtain ⟨j, hj, hje⟩ := List.getElem_of_mem hrow
        have h0 := hxL0 j (by omega)
        rw [getD_el hj, hje] at h0
        have ht := rowI_tidy h0 (hro row hrow)
        exact ⟨ht.1, h0, ht.2⟩
      have hscr := schemaI_right c0b.2
      have hcl4 := hscr.1
      have hrb := rowsB_le hsm rows.length
      rw [List.take_length] at hrb
      have hrn := hsm.n
      have hvb := varB_len rows.length (by omega)
      have hrw : (rowsB rows).length ≤ 277510 := by rw [rowsB, List.length_append]; omega
      have hsc : (schB cols).length ≤ 601 := by rw [schB, List.length_cons, colB_len]; omega
      have g0 : Rd.has (⟨(schB cols ++ rowsB rows), 0, 0, 0⟩ : Rd) (schB cols ++ rowsB rows) := ⟨rfl, Nat.zero_le _, rfl⟩
      obtain ⟨t1, g1⟩ := takeSch_put c0b.2 g0
      have g1b : Rd.has (Rd.adv (⟨(schB cols ++ rowsB rows), 0, 0, 0⟩ : Rd) (schB cols).length) (rowsB rows ++ []) := by rw [List.append_nil]; exact g1
      obtain ⟨t2, g2⟩ := takeRows_put (by omega) hall g1b
      have hend : Rd.end_ (Rd.adv (Rd.adv (⟨(schB cols ++ rowsB rows), 0, 0, 0⟩ : Rd) (schB cols).length) (rowsB rows).length) = (0, 0) := if_neg (fun h => by have h1 := h.2; have h3 : ((Rd.adv (Rd.adv (⟨(schB cols ++ rowsB rows), 0, 0, 0⟩ : Rd) (schB cols).length) (rowsB rows).length)).at_ = 0 + (schB cols).length + (rowsB rows).length := rfl; rw [h3, show ((Rd.adv (Rd.adv (⟨(schB cols ++ rowsB rows), 0, 0, 0⟩ : Rd) (schB cols).length) (rowsB rows).length)).bs.length = (schB cols).length + (rowsB rows).length from List.length_append] at h1; omega)
      refine ACode.region' [0, 1, 2, 3, 4, 5] (by kernel_rfl) rfl ?_
      refine aOps_1 rfl rfl rfl (AOp.move' (.inl rfl) rfl ?_)
      refine aOps_1 rfl rfl rfl ?_
      refine AOp.call' rfl rfl rfl (putSchema_b 4 _ _ cols B d (hcs.sub (by (repeat (first | exact sub_refl _ | assumption | refine sub_upd' ?_ (by ((repeat refine (upd_other _ _ (by omega)).trans ?_); first | exact hf _ (by omega) | exact hfL0 _ (by omega))) | refine sub_trans ?_ hsL0 | refine sub_over (by assumption) | refine sub_over0 ?_ | refine sub_trans (sub_same (by assumption)) ?_ | refine sub_dropu ?_ | refine sub_drop ?_ | refine sub_put ?_ (by repeat (first | assumption | exact upd_same _ _ _ | refine (upd_other _ _ (by omega)).trans ?_ | refine hsL0 _ _ ?_)))))) (by omega)) ?_
      rintro _ _ kq1 ⟨q, hq1, hq2, rfl, rfl⟩
      refine aOps_1 rfl rfl rfl (AOp.move' (.inl rfl) rfl ?_)
      refine aOps_1 rfl rfl rfl ?_
      refine AOp.call' rfl rfl rfl (putRows_b 4 _ _ q (schB cols) rows vs C e (by repeat (first | assumption | exact upd_same _ _ _ | refine (upd_other _ _ (by omega)).trans ?_ | refine hsL0 _ _ ?_)) (hs.sub (by (repeat (first | exact sub_refl _ | assumption | refine sub_upd' ?_ (by ((repeat refine (upd_other _ _ (by omega)).trans ?_); first | exact hf _ (by omega) | exact hfL0 _ (by omega))) | refine sub_trans ?_ hsL0 | refine sub_over (by assumption) | refine sub_over0 ?_ | refine sub_trans (sub_same (by assumption)) ?_ | refine sub_dropu ?_ | refine sub_drop ?_ | refine sub_put ?_ (by repeat (first | assumption | exact upd_same _ _ _ | refine (upd_other _ _ (by omega)).trans ?_ | refine hsL0 _ _ ?_)))))) (hr.sub (by (repeat (first | exact sub_refl _ | assumption | refine sub_upd' ?_ (by ((repeat refine (upd_other _ _ (by omega)).trans ?_); first | exact hf _ (by omega) | exact hfL0 _ (by omega))) | refine sub_trans ?_ hsL0 | refine sub_over (by assumption) | refine sub_over0 ?_ | refine sub_trans (sub_same (by assumption)) ?_ | refine sub_dropu ?_ | refine sub_drop ?_ | refine sub_put ?_ (by repeat (first | assumption | exact upd_same _ _ _ | refine (upd_other _ _ (by omega)).trans ?_ | refine hsL0 _ _ ?_)))))) hsm (by omega)) ?_
      rintro _ _ kq2 ⟨rfl, rfl, hkq2⟩
      refine aOps_1 rfl rfl rfl ?_
      refine AOp.call' rfl rfl rfl (newN _ _ (some ⟨q, 0, some 1⟩) _ (schB cols ++ rowsB rows) (SLC.gb (by repeat (first | assumption | exact upd_same _ _ _ | refine (upd_other _ _ (by omega)).trans ?_ | refine hsL0 _ _ ?_))) (by rw [List.length_append]; omega)) ?_
      rintro _ HLn kn ⟨hkn, hfLn, hsLn, n, Bn, dn, rfl, hn1, hn2, hRn, hBn⟩
      have hYn : Ab.Sub H HLn := by (repeat (first | exact sub_refl _ | assumption | refine sub_upd' ?_ (by ((repeat refine (upd_other _ _ (by omega)).trans ?_); first | exact hf _ (by omega) | exact hfL0 _ (by omega) | exact hfLn _ (by omega))) | refine sub_trans ?_ hsLn | refine sub_trans ?_ hsL0 | refine sub_over (by assumption) | refine sub_over0 ?_ | refine sub_trans (sub_same (by assumption)) ?_ | refine sub_dropu ?_ | refine sub_drop ?_ | refine sub_put ?_ (by repeat (first | assumption | exact upd_same _ _ _ | refine (upd_other _ _ (by omega)).trans ?_ | refine hsLn _ _ ?_ | refine hsL0 _ _ ?_))))
      have h2n := hYn _ _ h2
      have hnH : H n = none := hf n (by omega)
      refine aOps_1 rfl rfl rfl (AOp.move' (.inr rfl) rfl ?_)
      refine aOps_end ?_
      show ACode _ _ _ _ _ _
      refine ACode.seq ?_
      refine ACode.region' [0, 1, 2] (by kernel_rfl) rfl ?_
      refine aOps_1 rfl rfl rfl (AOp.move' (.inl rfl) rfl ?_)
      refine aOps_1 rfl rfl rfl ?_
      refine AOp.call' rfl rfl rfl (ntakeS _ _ h2n n dn Bn _ (⟨(schB cols ++ rowsB rows), 0, 0, 0⟩ : Rd) hRn) ?_
      rw [t1]
      rintro _ HLs ks ⟨⟨As, cs, rfl, hs1, hsa⟩, hPs⟩
      have hfLs := hPs.2.1
      have hks := hPs.1
      have hsLs := hPs.2.2.1
      have hPs2 := hPs
      obtain ⟨evs, hRs⟩ := hPs2.2.2.2
      have hYs : Ab.Sub H HLs := fun m b hm => hsLs _ _ ((upd_other _ _ (fun e => by rw [e, hnH] at hm; cases hm)).trans (hYn _ _ hm))
      have h2s := hYs _ _ h2
      refine aOps_1 rfl rfl rfl (AOp.move' (.inr rfl) rfl ?_)
      refine aOps_end ?_
      show ACode _ _ _ _ _ _
      refine ACode.seq ?_
      refine ACode.region' [0, 1, 2, 3] (by kernel_rfl) rfl ?_
      refine aOps_1 rfl rfl rfl (AOp.move' (.inl rfl) rfl ?_)
      refine aOps_1 rfl rfl rfl (AOp.move' (.inl rfl) rfl ?_)
      refine aOps_1 rfl rfl rfl ?_
      refine AOp.call' rfl rfl rfl (ntakeW _ _ h2s n dn Bn evs (Rd.adv (⟨(schB cols ++ rowsB rows), 0, 0, 0⟩ : Rd) (schB cols).length) hRs cols As cs hs1 (Away.ne (fun a ha => by have := (hsa a ha).1; omega)) (by omega)) ?_
      rw [t2]
      rintro _ HLw kw ⟨⟨Aw, cw, ws, rfl, hw1, hw0⟩, hPw⟩
      have hfLw := hPw.2.1
      have hkw := hPw.1
      have hsLw := hPw.2.2.1
      have hPw2 := hPw
      obtain ⟨evw, hRw⟩ := hPw2.2.2.2
      have hYw : Ab.Sub H HLw := fun m b hm => hsLw _ _ ((upd_other _ _ (fun e => by rw [e, hnH] at hm; cases hm)).trans (hYs _ _ hm))
      have h2w := hYw _ _ h2
      have hsw : SLC HLw 3 As cols.length cs (cols3 cols) := (SLC.away (Away.ne (fun a ha => by have := (hsa a ha).1; omega)) hs1).sub hsLw
      have hw2 := hw1.sub cutH_sub
      have hw3 := hw0.sub cutH_sub
      refine aOps_1 rfl rfl rfl (AOp.move' (.inr rfl) rfl ?_)
      refine aOps_end ?_
      show ACode _ _ _ _ _ _
      refine ACode.seq ?_
      refine ACode.region' [0, 1, 2, 3, 4, 5, 6] (by kernel_rfl) rfl ?_
      refine aOps_1 rfl rfl rfl (AOp.move' (.inl rfl) rfl ?_)
      refine aOps_q rfl rfl rfl (AOp.call' rfl rfl rfl (nend _ _ h2w n dn Bn evw (Rd.adv (Rd.adv (⟨(schB cols ++ rowsB rows), 0, 0, 0⟩ : Rd) (schB cols).length) (rowsB rows).length) hRw) (fun _ _ _ h => h)) (fun kq hkq => ?_)
      rw [hend]
      refine aOps_1 rfl rfl rfl (AOp.move' (.inl rfl) rfl ?_)
      refine aOps_1 rfl rfl rfl (AOp.extract' rfl rfl rfl ?_)
      refine aOps_1 rfl rfl rfl (AOp.extract' rfl rfl rfl ?_)
      refine aOps_1 rfl rfl rfl (AOp.move' (.inr rfl) rfl ?_)
      refine aOps_1 rfl rfl rfl (AOp.move' (.inr rfl) rfl ?_)
      refine aOps_end ?_
      show ACode _ _ _ _ _ _
      refine ACode.seq ?_
      refine ACode.region' [0, 1, 2, 3, 4, 5, 6, 7, 8, 9, 10, 11, 12, 13, 14, 15] (by kernel_rfl) rfl ?_
      refine aOps_1 rfl rfl rfl (AOp.move' (.inl rfl) rfl ?_)
      refine aOps_1 rfl rfl rfl (AOp.bin' rfl rfl rfl rfl ?_)
      refine aOps_1 rfl rfl rfl (AOp.move' (.inl rfl) rfl ?_)
      refine aOps_w rfl rfl rfl (AOp.move' (.inl rfl) rfl ?_)
      refine aOps_w rfl rfl rfl (AOp.move' (.inl rfl) rfl ?_)
      refine aOps_wq rfl rfl rfl (AOp.call' rfl rfl rfl (same_s _ _ cols B As d cs (hcs.sub hYw) hsw hcl hco) (fun _ _ _ h => h)) (fun kq hkq => ?_)
      refine aOps_1 rfl rfl rfl (AOp.pickB rfl rfl rfl ?_)
      refine aOps_1 rfl rfl rfl (AOp.move' (.inl rfl) rfl ?_)
      refine aOps_w rfl rfl rfl (AOp.move' (.inl rfl) rfl ?_)
      refine aOps_w rfl rfl rfl (AOp.move' (.inl rfl) rfl ?_)
      refine aOps_wq rfl rfl rfl (AOp.call' rfl rfl rfl (same_w _ _ rows vs ws C Aw e cw (hs.sub hYw) hw2 (hr.sub hYw) hw3 hvl hrl hro) (fun _ _ _ h => h)) (fun kq hkq => ?_)
      refine aOps_1 rfl rfl rfl (AOp.pickB rfl rfl rfl ?_)
      refine aOps_1 rfl rfl rfl (AOp.move' (.inl rfl) rfl ?_)
      refine aOps_wq rfl rfl rfl (AOp.call' rfl rfl rfl (awake15 4 _ _) (fun _ _ _ h => h)) (fun kq hkq => ?_)
      refine aOps_1 rfl rfl rfl (AOp.pickB rfl rfl rfl ?_)
      refine aOps_1 rfl rfl rfl (AOp.move' (.inr rfl) rfl ?_)
      refine aOps_end ?_
      show ACode _ _ _ _ _ _
      refine ACode.ret ?_
      try simp only [thenA, blockA, if_true]
      exact RetQ.one rfl rfl (sub_refl _) (fun n b h => ⟨b, hYw n b h⟩) (fun hk => rfl)
end

end Go.Proofs.YtnciojaecelhmaaDoor
