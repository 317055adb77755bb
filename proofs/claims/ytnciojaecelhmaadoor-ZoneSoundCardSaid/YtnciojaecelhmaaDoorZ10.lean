/- Contracts over the abstract states: zones are sound; of more rows a zone only grows. -/
import Derived.Test.YtnciojaecelhmaaDoorZ9
import Derived.Test.YtnciojaecelhmaaDoorP6
set_option linter.unusedVariables false
set_option linter.unusedSimpArgs false
set_option maxRecDepth 100000
namespace Go.Proofs.YtnciojaecelhmaaDoor
open Go Go.Ab

theorem ACode.named {P : Program} {NG Nt : Nat} {Q : Exit → St → Prop} {c : Code} {fr : Fr} {H : Hp} {nk : Nat} (h : ∀ HX, HX = H → ACode P NG Nt c Q ⟨fr, HX, nk⟩) : ACode P NG Nt c Q ⟨fr, H, nk⟩ := h H rfl
/-- A part of several cells of what a pointer shows. -/
theorem AOp.loadPF {P : Program} {NG : Nat} {fr : Fr} {H : Hp} {nk : Nat} {R : Value → Hp → Nat → Prop} {o : Oper} {t : TypeId} {x : Operand} {n off d z : Nat} {sp : Option Nat} {cs : List Value} (v : Value) (hp : PAt H n off sp cs) (hc : (cs.drop d).take z = v.cells.toList) (hv : v = .agg v.cells) (hz : d + z ≤ cs.length) (h0 : 0 < z) (ho : o.op = .load t x) [ht : TyInfo P t true z] (hx : aeval NG fr x = some (ptr n (off + d) sp)) (hR : R v H nk) : AOp P NG o ⟨fr, H, nk⟩ R := by
  refine AOp.load ho hx ?_ hR
  have h1 := hp.ld d z hz h0
  rw [hc] at h1
  simp only [aloadVar, ht.a, ht.s, h1, Option.map_some]
  rw [hv]
  rfl
theorem slc_pre {H : Hp} {n K : Nat} {l : List Val} (hn : H n = some (gV l)) (hK : K ≤ l.length) : slcCells H 3 (.slice (some ⟨n, 0, some 1⟩) K K) = some (vals3 (l.take K)) := by
  have hv : (vals3 l).take (K * 3) = vals3 (l.take K) := by
    have h := List.take_append_drop K l
    have h2 : vals3 l = vals3 (l.take K) ++ vals3 (l.drop K) := by
      conv => lhs; rw [← h]
      exact List.flatMap_append
    rw [h2, List.take_left' (by rw [vals3_len, List.length_take, Nat.min_eq_left hK])]
  have hle : K * 3 ≤ (vals3 l).length := by rw [vals3_len]; exact Nat.mul_le_mul_right _ hK
  simp only [slcCells, hn]
  by_cases h0 : K = 0
  · subst h0; rfl
  · rw [if_neg h0, if_pos (by first | exact ⟨⟨trivial, rfl⟩, by omega⟩ | exact ⟨⟨rfl, trivial⟩, by omega⟩ | exact ⟨⟨trivial, trivial⟩, by omega⟩ | exact ⟨trivial, by omega⟩ | (simp; omega)), List.drop_zero, hv]
theorem Of_n (H : Hp) (k : Nat) (vals : List Val) (A : Option Addr) (n c : Nat) (hn : vals.length = n) (hA : slcCells H 3 (.slice A n c) = some (vals3 vals)) (hl : n ≤ 9223372036854775807) : ACalls Tryd.prog 3 22 [.slice A n c] H k (Same H k (zv (zoneOf vals))) := by
  subst hn
  exact Of_b H k vals A c hA hl
theorem zone_ok {l : List Val} (h : ∀ v ∈ l, v.ok) (hl : l.length ≤ 1000) : (zoneOf l).ok := by
  have hz := zoneOf_is l
  have hn := nulls_le l
  have hnn := hz.nulls
  refine ⟨litwf (by show -9223372036854775808 ≤ _; omega) (by show _ ≤ 9223372036854775807; omega), ?_⟩
  cases hb : (zoneOf l).some with
  | false =>
    obtain ⟨_, h1, h2⟩ := hz.no hb
    rw [h1, h2]
    exact ⟨vD_ok, vD_ok⟩
  | true =>
    obtain ⟨⟨g1, _⟩, ⟨g3, _⟩, _⟩ := hz.yes hb
    exact ⟨h _ g1, h _ g3⟩
theorem col_ok {cols : List Col} {rows : List (List Val)} (hR : RightRows cols rows) (hrow : ∀ r ∈ rows, r.length ≤ 9223372036854775807 ∧ ∀ v ∈ r, v.ok) {c : Nat} (hc : c < cols.length) : ∀ v ∈ colOf rows c, v.ok := by
  intro v hv
  obtain ⟨row, hr, rfl⟩ := List.mem_map.1 hv
  have h2 := hR.len hr
  refine (hrow row hr).2 _ ?_
  show row.getD c vD ∈ row
  rw [List.getD_eq_getElem?_getD, List.getElem?_eq_getElem (by omega)]
  exact List.getElem_mem _
theorem cut_k (y : Int) {n : Nat} (h : 0 < n) : ∃ kk : Nat, 1 + max 0 (y.tmod (n : Int)) = kk ∧ 1 ≤ kk ∧ kk ≤ n := by
  obtain ⟨_, _, h3, h4⟩ := pick_mod y n (by omega)
  exact ⟨(1 + max 0 (y.tmod (n : Int))).toNat, by omega, by omega, by omega⟩
section
variable (H : Hp) (k : Nat)

theorem zoneSound_b (ht : H 0 = some shBlk) (ht1 : H 1 = some allBlk) (cols : List Col) (C : Option Addr) (e : Nat) (hC : slcCells H 3 (.slice C cols.length e) = some (cols3 cols)) (hcn : cols.length ≤ 9223372036854775807) (p : Pd) (v : Value) (hp : PdV H p v) (rows : List (List Val)) (vs : List Value) (R : Option Addr) (rc : Nat) (hS : SLC H 1 R vs.length rc vs) (hRw : Rws H vs rows) (hrow : ∀ r ∈ rows, r.length ≤ 9223372036854775807 ∧ ∀ v ∈ r, v.ok) (hvl : vs.length ≤ 9223372036854775807) (y : Int) (hy1 : -9223372036854775808 ≤ y) (hy2 : y ≤ 9223372036854775807) : ACalls Tryd.prog 3 5 [.slice C cols.length e, v, .slice R vs.length rc, .int .i64 y] H k (Same H k (.bool true)) := by
  have hpS := hp.okS
  obtain ⟨xo, xc, xA, xl, xcc, xB, xm, xd, rfl⟩ := hp.form
  refine ACalls.fresh fun hf => ?_
  refine ACalls.body Tryd.func5 rfl (Nat.le_of_ble_eq_true rfl) ?_
  have h0k := old_lt hf ht
  have h1k := old_lt hf ht1
  have hrl := hRw.len
  refine ACode.seq ?_
  refine ACode.region' [0, 1] (by kernel_rfl) rfl ?_
  refine aOps_1 rfl rfl rfl (AOp.boxV rfl rfl ?_)
  refine aOps_1 rfl rfl rfl (AOp.move' (.inr rfl) rfl ?_)
  refine aOps_end ?_
  show ACode _ _ _ _ _ _
  refine ACode.seq ?_
  refine ACode.seq ?_
  refine ACode.region' [0, 1, 2, 3, 4, 5, 6, 7, 8, 9, 10, 11, 12, 13, 14, 15, 16, 17, 18, 19, 20, 21, 22, 23] (by kernel_rfl) rfl ?_
  refine aOps_1 rfl rfl rfl ?_
  refine AOp.loadAll (b := ?b1) (v := pv xo xc xA xl xcc xB xm xd) rfl rfl ?hn1 ?hv1 ?hw1 ?hz1 ?hR1
  (case hn1 => repeat (first | assumption | exact upd_same _ _ _ | refine (upd_other _ _ (by omega)).trans ?_))
  (case hv1 => rfl)
  (case hw1 => rfl)
  (case hz1 => first | rfl | (simp; done))
  refine aOps_q rfl rfl rfl (AOp.call' rfl rfl rfl (small_b _ _ p _ (hp.sub (by (repeat (first | exact sub_refl _ | assumption | refine sub_upd' ?_ (by ((repeat refine (upd_other _ _ (by omega)).trans ?_); first | exact hf _ (by omega))) | refine sub_over (by assumption) | refine sub_over0 ?_ | refine sub_trans (sub_same (by assumption)) ?_ | refine sub_dropu ?_ | refine sub_drop ?_ | refine sub_put ?_ (by repeat (first | assumption | exact upd_same _ _ _ | refine (upd_other _ _ (by omega)).trans ?_))))))) (fun _ _ _ h => h)) (fun kq hkq => ?_)
  refine aOps_1 rfl rfl rfl (AOp.un' rfl rfl rfl ?_)
  refine aOps_1 rfl rfl rfl (AOp.move' (.inl rfl) rfl ?_)
  refine aOps_gd0 rfl rfl (wantF rfl rfl rfl) (fun hc => AOp.slots [(0, _)] (.cons rfl .nil) (AOp.move' (.inl rfl) rfl ⟨rfl, rfl, rfl⟩)) ?_
  refine aOps_gd0 rfl rfl (wantF rfl rfl rfl) (fun hc => AOp.slots [(19, _)] (.cons (gvT rfl hc) .nil) (AOp.len' rfl rfl ⟨rfl, rfl, rfl⟩)) ?_
  refine aOps_gd0 rfl rfl (wantF rfl rfl rfl) (fun hc => AOp.slots [(20, _)] (.cons (gvT rfl hc) .nil) (AOp.bin' rfl rfl rfl rfl ⟨rfl, rfl, rfl⟩)) ?_
  refine aOps_1 rfl rfl rfl (AOp.pickOr rfl rfl rfl (fun hb => gvE rfl (t_not hb)) ?_)
  refine aOps_1 rfl rfl rfl (AOp.move' (.inl rfl) rfl ?_)
  refine aOps_gd0 rfl rfl (wantF rfl rfl rfl) (fun hc => AOp.slots [(2, _)] (.cons rfl .nil) (AOp.move' (.inl rfl) rfl ⟨rfl, rfl, rfl⟩)) ?_
  refine aOps_gd0 rfl rfl (wantF rfl rfl rfl) (fun hc => AOp.slots [(24, _)] (.cons (gvT rfl hc) .nil) (AOp.len' rfl rfl ⟨rfl, rfl, rfl⟩)) ?_
  refine aOps_gd0 rfl rfl (wantF rfl rfl rfl) (fun hc => AOp.slots [(25, _)] (.cons (gvT rfl hc) .nil) (AOp.bin' rfl rfl rfl rfl ⟨rfl, rfl, rfl⟩)) ?_
  refine aOps_1 rfl rfl rfl (AOp.pickOr rfl rfl rfl (fun hb => gvE rfl (t_not hb)) ?_)
  refine aOps_1 rfl rfl rfl (AOp.move' (.inl rfl) rfl ?_)
  refine aOps_gd0 rfl rfl (wantF rfl rfl rfl) (fun hc => AOp.slots [(0, _)] (.cons rfl .nil) (AOp.move' (.inl rfl) rfl ⟨rfl, rfl, rfl⟩)) ?_
  refine aOps_gd rfl rfl (wantF rfl rfl rfl) (fun hc => AOp.slots [(29, _)] (.cons (gvT rfl hc) .nil) (AOp.call' rfl rfl rfl (refschema_cols 3 _ _ cols C e (slcCells_sub (by (repeat (first | exact sub_refl _ | assumption | refine sub_upd' ?_ (by ((repeat refine (upd_other _ _ (by omega)).trans ?_); first | exact hf _ (by omega))) | refine sub_over (by assumption) | refine sub_over0 ?_ | refine sub_trans (sub_same (by assumption)) ?_ | refine sub_dropu ?_ | refine sub_drop ?_ | refine sub_put ?_ (by repeat (first | assumption | exact upd_same _ _ _ | refine (upd_other _ _ (by omega)).trans ?_))))) hC) hcn) (fun _ _ _ h => h))) (fun kq hkq => ?_)
  refine aOps_gd0 rfl rfl (wantF rfl rfl rfl) (fun hc => AOp.slots [(30, _)] (.cons (gvT rfl hc) .nil) (AOp.bin' rfl rfl rfl rfl ⟨rfl, rfl, rfl⟩)) ?_
  refine aOps_1 rfl rfl rfl (AOp.pickOr rfl rfl rfl (fun hb => gvE rfl (t_not hb)) ?_)
  refine aOps_1 rfl rfl rfl (AOp.move' (.inl rfl) rfl ?_)
  refine aOps_gd0 rfl rfl (wantF rfl rfl rfl) (fun hc => AOp.slots [(0, _)] (.cons rfl .nil) (AOp.move' (.inl rfl) rfl ⟨rfl, rfl, rfl⟩)) ?_
  refine aOps_gd0 rfl rfl (wantF rfl rfl rfl) (fun hc => AOp.slots [(5, _)] (.cons rfl .nil) ((by refine AOp.loadAll (b := ?b2) (v := pv xo xc xA xl xcc xB xm xd) rfl rfl ?hn2 ?hv2 ?hw2 ?hz2 ?hR2; (case hn2 => repeat (first | assumption | exact upd_same _ _ _ | refine (upd_other _ _ (by omega)).trans ?_)); (case hv2 => rfl); (case hw2 => rfl); (case hz2 => first | rfl | (simp; done)); exact ⟨rfl, rfl, rfl⟩))) ?_
  refine aOps_gd rfl rfl (wantF rfl rfl rfl) (fun hc => AOp.slots [(34, _), (35, _)] (.cons (gvT rfl hc) (.cons (gvT rfl hc) .nil)) (AOp.call' rfl rfl rfl (Check_b _ _ (by repeat (first | assumption | exact upd_same _ _ _ | refine (upd_other _ _ (by omega)).trans ?_)) p _ (hp.sub (by (repeat (first | exact sub_refl _ | assumption | refine sub_upd' ?_ (by ((repeat refine (upd_other _ _ (by omega)).trans ?_); first | exact hf _ (by omega))) | refine sub_over (by assumption) | refine sub_over0 ?_ | refine sub_trans (sub_same (by assumption)) ?_ | refine sub_dropu ?_ | refine sub_drop ?_ | refine sub_put ?_ (by repeat (first | assumption | exact upd_same _ _ _ | refine (upd_other _ _ (by omega)).trans ?_)))))) cols C e (slcCells_sub (by (repeat (first | exact sub_refl _ | assumption | refine sub_upd' ?_ (by ((repeat refine (upd_other _ _ (by omega)).trans ?_); first | exact hf _ (by omega))) | refine sub_over (by assumption) | refine sub_over0 ?_ | refine sub_trans (sub_same (by assumption)) ?_ | refine sub_dropu ?_ | refine sub_drop ?_ | refine sub_put ?_ (by repeat (first | assumption | exact upd_same _ _ _ | refine (upd_other _ _ (by omega)).trans ?_))))) hC) hcn) (fun _ _ _ h => h))) (fun kq hkq => ?_)
  refine aOps_gd0 rfl rfl (wantF rfl rfl rfl) (fun hc => AOp.slots [(36, _)] (.cons (gvT rfl hc) .nil) (AOp.bin' rfl rfl rfl rfl ⟨rfl, rfl, rfl⟩)) ?_
  refine aOps_1 rfl rfl rfl (AOp.pickOr rfl rfl rfl (fun hb => gvE rfl (t_not hb)) ?_)
  refine aOps_end ?_
  show ACode _ _ _ _ _ _
  refine ACode.cond rfl (fun c0 => ?_) (fun c0 => ?_)
  · skip
    refine ACode.seq ?_
    refine ACode.region' [0, 1] (by kernel_rfl) rfl ?_
    refine aOps_q rfl rfl rfl (AOp.call' rfl rfl rfl (awake17 _ _ (by repeat (first | assumption | exact upd_same _ _ _ | refine (upd_other _ _ (by omega)).trans ?_)) (by repeat (first | assumption | exact upd_same _ _ _ | refine (upd_other _ _ (by omega)).trans ?_))) (fun _ _ _ h => h)) (fun kq hkq => ?_)
    refine aOps_1 rfl rfl rfl (AOp.move' (.inr rfl) rfl ?_)
    refine aOps_end ?_
    show ACode _ _ _ _ _ _
    refine ACode.ret ?_
    exact RetQ.one rfl rfl (by (repeat (first | exact sub_refl _ | assumption | refine sub_upd' ?_ (by ((repeat refine (upd_other _ _ (by omega)).trans ?_); first | exact hf _ (by omega))) | refine sub_over (by assumption) | refine sub_over0 ?_ | refine sub_trans (sub_same (by assumption)) ?_ | refine sub_dropu ?_ | refine sub_drop ?_ | refine sub_put ?_ (by repeat (first | assumption | exact upd_same _ _ _ | refine (upd_other _ _ (by omega)).trans ?_))))) stays (fun hk => ⟨rfl, rfl, by omega⟩)
  · skip
    simp only [Bool.or_eq_false_iff, Bool.not_eq_false', decide_eq_true_eq, decide_eq_false_iff_not, bne_eq_false_iff_eq] at c0
    obtain ⟨⟨⟨⟨c01, c02⟩, c03⟩, hsc⟩, c04⟩ := c0
    have hty := small_tiny (by decide) (by decide) p 40 hpS c01
    refine ACode.skip ?_
    show ACode _ _ _ _ _ _
    refine ACode.seq ?_
    refine ACode.seq ?_
    refine ACode.region' [0] (by kernel_rfl) rfl ?_
    refine aOps_1 rfl rfl rfl (AOp.move' (.inr rfl) rfl ?_)
    refine aOps_end ?_
    show ACode _ _ _ _ _ _
    refine ACode.block ?_
    refine ACode.count0 (fun i => [(9, .int .i64 (i : Int))]) [(0, _), (2, _), (3, _), (5, _)] (vs.length) (fun i => ∀ j, j < i → rowI wrongR cols (rows.getD j []) = 0) (.cons rfl .nil) (.cons rfl (.cons rfl (.cons rfl (.cons rfl .nil)))) (fun j h => absurd h (Nat.not_lt_zero _)) (fun i0 kL0 HL0 hiL0 hkL0 hsL0 hfL0 hxL0 => ?_)
    show ACode _ _ _ _ _ ⟨_, _, _⟩
    refine ACode.seq ?_
    refine ACode.seq ?_
    refine ACode.region' [0, 1, 2, 3] (by kernel_rfl) rfl ?_
    refine aOps_1 rfl rfl rfl (AOp.move' (.inl rfl) rfl ?_)
    refine aOps_1 rfl rfl rfl (AOp.move' (.inl rfl) rfl ?_)
    refine aOps_1 rfl rfl rfl (AOp.len' rfl rfl ?_)
    refine aOps_1 rfl rfl rfl (AOp.bin' rfl rfl rfl rfl ?_)
    refine aOps_end ?_
    show ACode _ _ _ _ _ _
    refine ACode.cond rfl (fun c1 => ?_) (fun c1 => ?_)
    · try simp only [decide_eq_true_eq, decide_eq_false_iff_not, beq_iff_eq, beq_eq_false_iff_ne, ne_eq, bne_iff_ne, Bool.not_eq_true', Bool.not_eq_false', Int.not_lt, Int.not_le, gt_iff_lt, ge_iff_le, bne_eq_false_iff_eq, Bool.not_eq_eq_eq_not, Bool.not_true, Bool.not_false] at c1
      refine ACode.skip ?_
      show ACode _ _ _ _ _ _
      refine ACode.seq ?_
      refine ACode.block ?_
      refine ACode.seq ?_
      obtain ⟨A1, d1, e1, hc1⟩ := hRw.at_ i0 (by omega)
      have hm1 : rows.getD i0 [] ∈ rows := by { rw [List.getD_eq_getElem?_getD, List.getElem?_eq_getElem (by omega)]; exact List.getElem_mem _ }
      obtain ⟨n6_3, o6_3, s6_3, hq6_3, hp6_3⟩ := slcElV hS.cells (show i0 < vs.length by omega)
      refine ACode.region' [0, 1, 2, 3, 4, 5, 6] (by kernel_rfl) rfl ?_
      refine aOps_1 rfl rfl rfl (AOp.move' (.inl rfl) rfl ?_)
      refine aOps_1 rfl rfl rfl (AOp.move' (.inl rfl) rfl ?_)
      refine aOps_1 rfl rfl rfl (AOp.move' (.inl rfl) rfl ?_)
      refine aOps_1 rfl rfl rfl (AOp.indexP (aslcAt_sub (by (repeat (first | exact sub_refl _ | assumption | refine sub_upd' ?_ (by ((repeat refine (upd_other _ _ (by omega)).trans ?_); first | exact hf _ (by omega) | exact hfL0 _ (by omega))) | refine sub_trans ?_ hsL0 | refine sub_over (by assumption) | refine sub_over0 ?_ | refine sub_trans (sub_same (by assumption)) ?_ | refine sub_dropu ?_ | refine sub_drop ?_ | refine sub_put ?_ (by repeat (first | assumption | exact upd_same _ _ _ | refine (upd_other _ _ (by omega)).trans ?_ | refine hsL0 _ _ ?_))))) hq6_3) rfl rfl rfl ?_)
      refine aOps_1 rfl rfl rfl (AOp.loadP0 (hp6_3.sub (by (repeat (first | exact sub_refl _ | assumption | refine sub_upd' ?_ (by ((repeat refine (upd_other _ _ (by omega)).trans ?_); first | exact hf _ (by omega) | exact hfL0 _ (by omega))) | refine sub_trans ?_ hsL0 | refine sub_over (by assumption) | refine sub_over0 ?_ | refine sub_trans (sub_same (by assumption)) ?_ | refine sub_dropu ?_ | refine sub_drop ?_ | refine sub_put ?_ (by repeat (first | assumption | exact upd_same _ _ _ | refine (upd_other _ _ (by omega)).trans ?_ | refine hsL0 _ _ ?_)))))) rfl rfl rfl ?_)
      rw [e1]
      refine aOps_q rfl rfl rfl (AOp.call' rfl rfl rfl (refrow_vals 3 _ _ cols (rows.getD i0 []) C e (slcCells_sub (by (repeat (first | exact sub_refl _ | assumption | refine sub_upd' ?_ (by ((repeat refine (upd_other _ _ (by omega)).trans ?_); first | exact hf _ (by omega) | exact hfL0 _ (by omega))) | refine sub_trans ?_ hsL0 | refine sub_over (by assumption) | refine sub_over0 ?_ | refine sub_trans (sub_same (by assumption)) ?_ | refine sub_dropu ?_ | refine sub_drop ?_ | refine sub_put ?_ (by repeat (first | assumption | exact upd_same _ _ _ | refine (upd_other _ _ (by omega)).trans ?_ | refine hsL0 _ _ ?_))))) hC) A1 d1 (slcCells_sub (by (repeat (first | exact sub_refl _ | assumption | refine sub_upd' ?_ (by ((repeat refine (upd_other _ _ (by omega)).trans ?_); first | exact hf _ (by omega) | exact hfL0 _ (by omega))) | refine sub_trans ?_ hsL0 | refine sub_over (by assumption) | refine sub_over0 ?_ | refine sub_trans (sub_same (by assumption)) ?_ | refine sub_dropu ?_ | refine sub_drop ?_ | refine sub_put ?_ (by repeat (first | assumption | exact upd_same _ _ _ | refine (upd_other _ _ (by omega)).trans ?_ | refine hsL0 _ _ ?_))))) hc1.cells) (hrow _ hm1).1) (fun _ _ _ h => h)) (fun kq hkq => ?_)
      refine aOps_1 rfl rfl rfl (AOp.bin' rfl rfl rfl rfl ?_)
      refine aOps_end ?_
      show ACode _ _ _ _ _ _
      refine ACode.cond rfl (fun c2 => ?_) (fun c2 => ?_)
      · try simp only [decide_eq_true_eq, decide_eq_false_iff_not, beq_iff_eq, beq_eq_false_iff_ne, ne_eq, bne_iff_ne, Bool.not_eq_true', Bool.not_eq_false', Int.not_lt, Int.not_le, gt_iff_lt, ge_iff_le, bne_eq_false_iff_eq, Bool.not_eq_eq_eq_not, Bool.not_true, Bool.not_false] at c2
        refine ACode.seq ?_
        refine ACode.region' [0, 1] (by kernel_rfl) rfl ?_
        refine aOps_q rfl rfl rfl (AOp.call' rfl rfl rfl (awake17 _ _ (by repeat (first | assumption | exact upd_same _ _ _ | refine (upd_other _ _ (by omega)).trans ?_ | refine hsL0 _ _ ?_)) (by repeat (first | assumption | exact upd_same _ _ _ | refine (upd_other _ _ (by omega)).trans ?_ | refine hsL0 _ _ ?_))) (fun _ _ _ h => h)) (fun kq hkq => ?_)
        refine aOps_1 rfl rfl rfl (AOp.move' (.inr rfl) rfl ?_)
        refine aOps_end ?_
        show ACode _ _ _ _ _ _
        refine ACode.ret ?_
        exact RetQ.one rfl rfl (by (repeat (first | exact sub_refl _ | assumption | refine sub_upd' ?_ (by ((repeat refine (upd_other _ _ (by omega)).trans ?_); first | exact hf _ (by omega) | exact hfL0 _ (by omega))) | refine sub_trans ?_ hsL0 | refine sub_over (by assumption) | refine sub_over0 ?_ | refine sub_trans (sub_same (by assumption)) ?_ | refine sub_dropu ?_ | refine sub_drop ?_ | refine sub_put ?_ (by repeat (first | assumption | exact upd_same _ _ _ | refine (upd_other _ _ (by omega)).trans ?_ | refine hsL0 _ _ ?_))))) stays (fun hk => ⟨rfl, rfl, by omega⟩)
      · try simp only [decide_eq_true_eq, decide_eq_false_iff_not, beq_iff_eq, beq_eq_false_iff_ne, ne_eq, bne_iff_ne, Bool.not_eq_true', Bool.not_eq_false', Int.not_lt, Int.not_le, gt_iff_lt, ge_iff_le, bne_eq_false_iff_eq, Bool.not_eq_eq_eq_not, Bool.not_true, Bool.not_false] at c2
        refine ACode.skip ?_
        show ACode _ _ _ _ _ _
        refine ACode.region' [0, 1, 2] (by kernel_rfl) rfl ?_
        refine aOps_1 rfl rfl rfl (AOp.move' (.inl rfl) rfl ?_)
        refine aOps_1 rfl rfl rfl (AOp.add rfl rfl rfl (i64_wrap (by omega) (by omega)) ?_)
        refine aOps_1 rfl rfl rfl (AOp.move' (.inr rfl) rfl ?_)
        refine aOps_end ?_
        first | refine thenA_n ?_ | simp only [thenA, blockA, if_true]
        exact NextR.mk (by omega) (by omega) (.cons rfl .nil) (.cons rfl (.cons rfl (.cons rfl (.cons rfl .nil)))) (by (repeat (first | exact sub_refl _ | assumption | refine sub_upd' ?_ (by ((repeat refine (upd_other _ _ (by omega)).trans ?_); first | exact hf _ (by omega) | exact hfL0 _ (by omega))) | refine sub_trans ?_ hsL0 | refine sub_over (by assumption) | refine sub_over0 ?_ | refine sub_trans (sub_same (by assumption)) ?_ | refine sub_dropu ?_ | refine sub_drop ?_ | refine sub_put ?_ (by repeat (first | assumption | exact upd_same _ _ _ | refine (upd_other _ _ (by omega)).trans ?_ | refine hsL0 _ _ ?_))))) (fun j hj => by { rcases Nat.lt_or_ge j i0 with h | h; exact hxL0 j h; rw [show j = i0 by omega]; exact c2 })
    · try simp only [decide_eq_true_eq, decide_eq_false_iff_not, beq_iff_eq, beq_eq_false_iff_ne, ne_eq, bne_iff_ne, Bool.not_eq_true', Bool.not_eq_false', Int.not_lt, Int.not_le, gt_iff_lt, ge_iff_le, bne_eq_false_iff_eq, Bool.not_eq_eq_eq_not, Bool.not_true, Bool.not_false] at c1
      have hRR : RightRows cols rows := fun row hr => by { obtain ⟨j, hj, rfl⟩ := List.getElem_of_mem hr; have := hxL0 j (by omega); rwa [List.getD_eq_getElem?_getD, List.getElem?_eq_getElem hj] at this }
      refine ACode.exit ?_
      show ACode _ _ _ _ _ _
      refine ACode.seq ?_
      refine ACode.region' [0] (by kernel_rfl) rfl ?_
      refine aOps_1 rfl rfl rfl (AOp.move' (.inr rfl) rfl ?_)
      refine aOps_end ?_
      show ACode _ _ _ _ _ _
      refine ACode.seq ?_
      refine ACode.seq ?_
      refine ACode.region' [0, 1, 2] (by kernel_rfl) rfl ?_
      refine aOps_1 rfl rfl rfl (AOp.move' (.inl rfl) rfl ?_)
      refine aOps_1 rfl rfl rfl (AOp.len' rfl rfl ?_)
      refine aOps_1 rfl rfl rfl (AOp.bin' rfl rfl rfl rfl ?_)
      refine aOps_end ?_
      show ACode _ _ _ _ _ _
      refine ACode.cond rfl (fun c3 => ?_) (fun c3 => ?_)
      · try simp only [decide_eq_true_eq, decide_eq_false_iff_not, beq_iff_eq, beq_eq_false_iff_ne, ne_eq, bne_iff_ne, Bool.not_eq_true', Bool.not_eq_false', Int.not_lt, Int.not_le, gt_iff_lt, ge_iff_le, bne_eq_false_iff_eq, Bool.not_eq_eq_eq_not, Bool.not_true, Bool.not_false] at c3
        obtain ⟨kk, hkk, hkk1, hkk2⟩ := cut_k y (show 0 < vs.length by omega)
        refine ACode.region' [0, 1, 2, 3, 4, 5, 6] (by kernel_rfl) rfl ?_
        refine aOps_1 rfl rfl rfl (AOp.move' (.inl rfl) rfl ?_)
        refine aOps_1 rfl rfl rfl (AOp.move' (.inl rfl) rfl ?_)
        refine aOps_1 rfl rfl rfl (AOp.len' rfl rfl ?_)
        refine aOps_1 rfl rfl rfl (AOp.bin' rfl rfl rfl (if_neg (by first | decide | omega)) ?_)
        refine aOps_1 rfl rfl rfl (AOp.max2 rfl rfl rfl ?_)
        refine aOps_1 rfl rfl rfl (AOp.add rfl rfl rfl (i64_wrap (by omega) (by omega)) ?_)
        rw [hkk]
        refine aOps_1 rfl rfl rfl (AOp.move' (.inr rfl) rfl ?_)
        refine aOps_end ?_
        show ACode _ _ _ _ _ _
        refine ACode.seq ?_
        refine ACode.region' [0, 1] (by kernel_rfl) rfl ?_
        refine aOps_1 rfl rfl rfl (AOp.move' (.inr rfl) rfl ?_)
        refine aOps_1 rfl rfl rfl (AOp.move' (.inr rfl) rfl ?_)
        refine aOps_end ?_
        show ACode _ _ _ _ _ _
        refine ACode.seq ?_
        refine ACode.seq ?_
        refine ACode.adopt (t := 11) 45 8 (by decide) rfl ?_
        refine ACode.adopt (t := 12) 45 8 (by decide) rfl ?_
        refine ACode.region' [0] (by kernel_rfl) rfl ?_
        refine aOps_1 rfl rfl rfl (AOp.move' (.inr rfl) rfl ?_)
        refine aOps_end ?_
        show ACode _ _ _ _ _ _
        refine ACode.block ?_
        refine ACode.count (fun i => [(13, .int .i64 (i : Int)), (11, .slice (some ⟨kL0, 0, some 1⟩) i i), (12, .slice (some ⟨kL0 + 1, 0, some 1⟩) i i)]) [(0, _), (2, _), (3, _), (5, _), (9, _), (10, _), (40, _), (41, _), (42, _), (43, _), (54, _), (55, _), (56, _), (57, _), (58, _), (59, _), (60, _), (61, _), (62, _)] (fun i => upd (upd HL0 kL0 (some (gZs (zonesOf rows i)))) (kL0 + 1) (some (gZs (zonesOf (rows.take kk) i)))) (cols.length) (fun _ => True) (.cons rfl (.cons rfl (.cons rfl .nil))) (.cons rfl (.cons rfl (.cons rfl (.cons rfl (.cons rfl (.cons rfl (.cons rfl (.cons rfl (.cons rfl (.cons rfl (.cons rfl (.cons rfl (.cons rfl (.cons rfl (.cons rfl (.cons rfl (.cons rfl (.cons rfl (.cons rfl .nil))))))))))))))))))) (by (repeat (first | exact sub_refl _ | assumption | refine sub_upd' ?_ (by ((repeat refine (upd_other _ _ (by omega)).trans ?_); first | exact hf _ (by omega) | exact hfL0 _ (by omega))) | refine sub_trans ?_ hsL0 | refine sub_over (by assumption) | refine sub_over0 ?_ | refine sub_trans (sub_same (by assumption)) ?_ | refine sub_dropu ?_ | refine sub_drop ?_ | refine sub_put ?_ (by repeat (first | assumption | exact upd_same _ _ _ | refine (upd_other _ _ (by omega)).trans ?_ | refine hsL0 _ _ ?_))))) trivial (fun i1 kL1 HL1 hiL1 hkL1 hsL1 hfL1 hxL1 => ?_)
        show ACode _ _ _ _ _ ⟨_, _, _⟩
        refine ACode.seq ?_
        refine ACode.seq ?_
        refine ACode.region' [0, 1, 2, 3] (by kernel_rfl) rfl ?_
        refine aOps_1 rfl rfl rfl (AOp.move' (.inl rfl) rfl ?_)
        refine aOps_1 rfl rfl rfl (AOp.move' (.inl rfl) rfl ?_)
        refine aOps_1 rfl rfl rfl (AOp.len' rfl rfl ?_)
        refine aOps_1 rfl rfl rfl (AOp.bin' rfl rfl rfl rfl ?_)
        refine aOps_end ?_
        show ACode _ _ _ _ _ _
        refine ACode.cond rfl (fun c4 => ?_) (fun c4 => ?_)
        · try simp only [decide_eq_true_eq, decide_eq_false_iff_not, beq_iff_eq, beq_eq_false_iff_ne, ne_eq, bne_iff_ne, Bool.not_eq_true', Bool.not_eq_false', Int.not_lt, Int.not_le, gt_iff_lt, ge_iff_le, bne_eq_false_iff_eq, Bool.not_eq_eq_eq_not, Bool.not_true, Bool.not_false] at c4
          refine ACode.skip ?_
          show ACode _ _ _ _ _ _
          refine ACode.seq ?_
          refine ACode.block ?_
          refine ACode.seq ?_
          refine ACode.region' [0, 1, 2, 3] (by kernel_rfl) rfl ?_
          refine aOps_1 rfl rfl rfl (AOp.move' (.inl rfl) rfl ?_)
          refine aOps_1 rfl rfl rfl (AOp.move' (.inl rfl) rfl ?_)
          refine aOps_1 rfl rfl rfl ?_
          refine AOp.call' rfl rfl rfl (Column_b _ _ rows vs R rc (hS.sub (by (repeat (first | exact sub_refl _ | assumption | refine sub_upd' ?_ (by ((repeat refine (upd_other _ _ (by omega)).trans ?_); first | exact hf _ (by omega) | exact hfL0 _ (by omega) | exact hfL1 _ (by omega))) | refine sub_trans ?_ hsL1 | refine sub_trans ?_ hsL0 | refine sub_over (by assumption) | refine sub_over0 ?_ | refine sub_trans (sub_same (by assumption)) ?_ | refine sub_dropu ?_ | refine sub_drop ?_ | refine sub_put ?_ (by repeat (first | assumption | exact upd_same _ _ _ | refine (upd_other _ _ (by omega)).trans ?_ | refine hsL1 _ _ ?_ | refine hsL0 _ _ ?_)))))) (hRw.sub (by (repeat (first | exact sub_refl _ | assumption | refine sub_upd' ?_ (by ((repeat refine (upd_other _ _ (by omega)).trans ?_); first | exact hf _ (by omega) | exact hfL0 _ (by omega) | exact hfL1 _ (by omega))) | refine sub_trans ?_ hsL1 | refine sub_trans ?_ hsL0 | refine sub_over (by assumption) | refine sub_over0 ?_ | refine sub_trans (sub_same (by assumption)) ?_ | refine sub_dropu ?_ | refine sub_drop ?_ | refine sub_put ?_ (by repeat (first | assumption | exact upd_same _ _ _ | refine (upd_other _ _ (by omega)).trans ?_ | refine hsL1 _ _ ?_ | refine hsL0 _ _ ?_)))))) i1 (fun row hr => by rw [hRR.len hr]; omega) (by omega)) ?_
          rintro _ _ kc ⟨qc, hqc1, hqc2, rfl, rfl⟩
          refine aOps_1 rfl rfl rfl (AOp.move' (.inr rfl) rfl ?_)
          refine aOps_end ?_
          show ACode _ _ _ _ _ _
          refine ACode.seq ?_
          refine ACode.region' [0, 1, 2, 3, 4, 5] (by kernel_rfl) rfl ?_
          refine aOps_1 rfl rfl rfl (AOp.move' (.inl rfl) rfl ?_)
          refine aOps_1 rfl rfl rfl (AOp.move' (.inl rfl) rfl ?_)
          refine aOps_q rfl rfl rfl (AOp.call' rfl rfl rfl (Of_b _ _ (colOf rows i1) (some ⟨qc, 0, some 1⟩) _ (slcCells_grow (n := qc) (b := gV (colOf rows i1)) (by repeat (first | assumption | exact upd_same _ _ _ | refine (upd_other _ _ (by omega)).trans ?_ | refine hsL1 _ _ ?_ | refine hsL0 _ _ ?_)) rfl (by show _ = (vals3 _).length; rw [vals3_len])) (by rw [colOf_len]; omega)) (fun _ _ _ h => h)) (fun kz hkz => ?_)
          refine aOps_1 rfl rfl rfl (AOp.buildH (zs8 [(zoneOf (colOf rows i1))]) rfl rfl (by show 0 < 8; decide) (by show 8 ≤ 16777216; decide) rfl rfl ?_)
          refine aOps_1 rfl rfl rfl (AOp.append' (b := gZs (zonesOf rows i1)) (m := 1) (news := zs8 [(zoneOf (colOf rows i1))]) rfl rfl rfl (by repeat (first | assumption | exact upd_same _ _ _ | refine (upd_other _ _ (by omega)).trans ?_ | refine hsL1 _ _ ?_ | refine hsL0 _ _ ?_)) (srcOf_grow (b := gZs [(zoneOf (colOf rows i1))]) (by repeat (first | assumption | exact upd_same _ _ _ | refine (upd_other _ _ (by omega)).trans ?_ | refine hsL1 _ _ ?_ | refine hsL0 _ _ ?_)) rfl rfl) rfl rfl rfl (by show i1 * 8 = (zs8 _).length; rw [zs8_len, zonesOf_len]) srcOk_sl (zs8_one _) (by omega) (by omega) ?_)
          refine aOps_1 rfl rfl rfl (AOp.move' (.inr rfl) rfl ?_)
          refine aOps_end ?_
          show ACode _ _ _ _ _ _
          refine ACode.seq ?_
          refine ACode.region' [0, 1, 2, 3, 4, 5, 6, 7] (by kernel_rfl) rfl ?_
          refine aOps_1 rfl rfl rfl (AOp.move' (.inl rfl) rfl ?_)
          refine aOps_1 rfl rfl rfl (AOp.move' (.inl rfl) rfl ?_)
          refine aOps_1 rfl rfl rfl (AOp.move' (.inl rfl) rfl ?_)
          refine aOps_1 rfl rfl rfl (AOp.slicePre (h := kk) (b := gV (colOf rows i1)) rfl rfl rfl (by repeat (first | assumption | exact upd_same _ _ _ | refine (upd_other _ _ (by omega)).trans ?_ | refine hsL1 _ _ ?_ | refine hsL0 _ _ ?_)) rfl (by rw [colOf_len]; omega) ?_)
          refine aOps_q rfl rfl rfl (AOp.call' rfl rfl rfl (Of_n _ _ (colOf (rows.take kk) i1) (some ⟨qc, 0, some 1⟩) kk kk (by rw [colOf_prefix, List.length_take, colOf_len]; omega) (by rw [colOf_prefix]; exact slc_pre (by repeat (first | assumption | exact upd_same _ _ _ | refine (upd_other _ _ (by omega)).trans ?_ | refine hsL1 _ _ ?_ | refine hsL0 _ _ ?_)) (by rw [colOf_len]; omega)) (by omega)) (fun _ _ _ h => h)) (fun ky hky => ?_)
          refine aOps_1 rfl rfl rfl (AOp.buildH (zs8 [(zoneOf (colOf (rows.take kk) i1))]) rfl rfl (by show 0 < 8; decide) (by show 8 ≤ 16777216; decide) rfl rfl ?_)
          refine aOps_1 rfl rfl rfl (AOp.append' (b := gZs (zonesOf (rows.take kk) i1)) (m := 1) (news := zs8 [(zoneOf (colOf (rows.take kk) i1))]) rfl rfl rfl (by repeat (first | assumption | exact upd_same _ _ _ | refine (upd_other _ _ (by omega)).trans ?_ | refine hsL1 _ _ ?_ | refine hsL0 _ _ ?_)) (srcOf_grow (b := gZs [(zoneOf (colOf (rows.take kk) i1))]) (by repeat (first | assumption | exact upd_same _ _ _ | refine (upd_other _ _ (by omega)).trans ?_ | refine hsL1 _ _ ?_ | refine hsL0 _ _ ?_)) rfl rfl) rfl rfl rfl (by show i1 * 8 = (zs8 _).length; rw [zs8_len, zonesOf_len]) srcOk_sl (zs8_one _) (by omega) (by omega) ?_)
          refine aOps_1 rfl rfl rfl (AOp.move' (.inr rfl) rfl ?_)
          refine aOps_end ?_
          show ACode _ _ _ _ _ _
          refine ACode.seq ?_
          refine ACode.named fun HL9 hHX => ?_
          have hz1 : HL9 kL0 = some (gZs (zonesOf rows (i1 + 1))) := by { rw [hHX]; refine Eq.trans (b := some ({ cells := zs8 (zonesOf rows i1) ++ zs8 [(zoneOf (colOf rows i1))], elem := 45, kind := .grow, esz := 8 } : Blk)) (by repeat (first | assumption | exact upd_same _ _ _ | refine (upd_other _ _ (by omega)).trans ?_ | refine hsL1 _ _ ?_ | refine hsL0 _ _ ?_)) ?_; show _ = some ({ cells := zs8 (zonesOf rows (i1 + 1)), elem := _, kind := _, esz := _ } : Blk); rw [zone_snoc8] }
          have hz2 : HL9 (kL0 + 1) = some (gZs (zonesOf (rows.take kk) (i1 + 1))) := by { rw [hHX]; refine Eq.trans (b := some ({ cells := zs8 (zonesOf (rows.take kk) i1) ++ zs8 [(zoneOf (colOf (rows.take kk) i1))], elem := 45, kind := .grow, esz := 8 } : Blk)) (by repeat (first | assumption | exact upd_same _ _ _ | refine (upd_other _ _ (by omega)).trans ?_ | refine hsL1 _ _ ?_ | refine hsL0 _ _ ?_)) ?_; show _ = some ({ cells := zs8 (zonesOf (rows.take kk) (i1 + 1)), elem := _, kind := _, esz := _ } : Blk); rw [zone_snoc8] }
          have hH9 : Ab.Sub HL0 HL9 := by { rw [hHX]; (repeat (first | exact sub_refl _ | assumption | refine sub_upd' ?_ (by ((repeat refine (upd_other _ _ (by omega)).trans ?_); first | exact hf _ (by omega) | exact hfL0 _ (by omega) | exact hfL1 _ (by omega))) | refine sub_trans ?_ hsL1 | refine sub_trans ?_ hsL0 | refine sub_over (by assumption) | refine sub_over0 ?_ | refine sub_trans (sub_same (by assumption)) ?_ | refine sub_dropu ?_ | refine sub_drop ?_ | refine sub_put ?_ (by repeat (first | assumption | exact upd_same _ _ _ | refine (upd_other _ _ (by omega)).trans ?_ | refine hsL1 _ _ ?_ | refine hsL0 _ _ ?_)))) }
          have hfL9 : ∀ m, ky + 1 ≤ m → HL9 m = none := by { intro m hm; rw [hHX]; (repeat refine (upd_other _ _ (by omega)).trans ?_); exact hfL1 _ (by omega) }
          have hsL9 : Ab.Sub (upd (upd HL0 kL0 (some (gZs (zonesOf rows (i1 + 1))))) (kL0 + 1) (some (gZs (zonesOf (rows.take kk) (i1 + 1))))) HL9 := sub_put (sub_put hH9 hz1) hz2
          clear hHX
          have hz9 : ∃ n off sp, aslcAt HL9 8 i1 (.slice (some ⟨kL0, 0, some 1⟩) (i1 + 1) (i1 + 1)) = some (ptr n off sp) ∧ PAt HL9 n off sp (zv (zoneOf (colOf rows i1))).cells.toList := by { have h := slcZ (H := HL9) (i := i1) (v := .slice (some ⟨kL0, 0, some 1⟩) (i1 + 1) (i1 + 1)) (l := zonesOf rows (i1 + 1)) (slcCells_grow (n := kL0) (b := gZs (zonesOf rows (i1 + 1))) hz1 rfl (by show _ = (zs8 _).length; rw [zs8_len, zonesOf_len])) (by rw [zonesOf_len]; omega); rwa [zonesOf_getD (by omega)] at h }
          have hsd := sound_zone hsc hRR (show i1 < cols.length by omega)
          rw [← hrl] at hsd
          have hzk : (zoneOf (colOf rows i1)).ok := zone_ok (col_ok hRR hrow (by omega)) (by rw [colOf_len]; omega)
          have h5 : (!soundP (zoneOf (colOf rows i1)) (vs.length : Int) (cols.getD i1 cD).kind || ((zoneOf (colOf rows i1)).some && !right (zoneOf (colOf rows i1)).min (cols.getD i1 cD).kind)) = false := by { rw [hsd.1]; cases hb : (zoneOf (colOf rows i1)).some with | false => rfl | true => rw [hsd.2 hb]; rfl }
          obtain ⟨n18_2, o18_2, s18_2, hq18_2, hp18_2⟩ := id hz9
          obtain ⟨n18_16, o18_16, s18_16, hq18_16, hp18_16⟩ := id hz9
          obtain ⟨n18_22, o18_22, s18_22, hq18_22, hp18_22⟩ := id hz9
          obtain ⟨n18_8, o18_8, s18_8, hq18_8, hp18_8⟩ := slcC hC (show i1 < cols.length by omega)
          obtain ⟨n18_27, o18_27, s18_27, hq18_27, hp18_27⟩ := slcC hC (show i1 < cols.length by omega)
          refine ACode.draw' 34 [(0, 84), (1, 85), (2, 86), (3, 87), (4, 88), (5, 89), (6, 90), (7, 91), (8, 92), (9, 93), (10, 94), (11, 95), (12, 96), (13, 97), (14, 98), (15, 99), (16, 100), (17, 101), (18, 102), (19, 103), (20, 104), (21, 105), (22, 106), (23, 107), (24, 108), (25, 109), (26, 110), (27, 111), (28, 112), (29, 113), (30, 114), (31, 115), (32, 116), (33, 117)] mixed (by kernel_rfl) ?_
          refine Draw.step [(11, none)] rfl (by kernel_rfl) rfl (fun kq hkq => AOp.move' (.inl rfl) rfl ⟨rfl, rfl, Nat.le_refl _⟩) ?_
          refine Draw.step [(13, none)] rfl (by kernel_rfl) rfl (fun kq hkq => AOp.move' (.inl rfl) rfl ⟨rfl, rfl, Nat.le_refl _⟩) ?_
          refine Draw.step [(84, some 0), (85, some 1)] rfl (by kernel_rfl) rfl (fun kq hkq => AOp.indexP (aslcAt_sub (by (repeat (first | exact sub_refl _ | assumption | refine sub_upd' ?_ (by ((repeat refine (upd_other _ _ (by omega)).trans ?_); first | exact hf _ (by omega) | exact hfL0 _ (by omega) | exact hfL1 _ (by omega) | exact hfL9 _ (by omega))) | refine sub_trans ?_ hsL9 | refine sub_trans ?_ hsL1 | refine sub_trans ?_ hsL0 | refine sub_over (by assumption) | refine sub_over0 ?_ | refine sub_trans (sub_same (by assumption)) ?_ | refine sub_dropu ?_ | refine sub_drop ?_ | refine sub_put ?_ (by repeat (first | assumption | exact upd_same _ _ _ | refine (upd_other _ _ (by omega)).trans ?_ | refine hsL9 _ _ ?_ | refine hsL1 _ _ ?_ | refine hsL0 _ _ ?_))))) hq18_2) rfl rfl rfl ⟨rfl, rfl, Nat.le_refl _⟩) ?_
          refine Draw.step [(86, some 2)] rfl (by kernel_rfl) rfl (fun kq hkq => AOp.loadPA (v := zv (zoneOf (colOf rows i1))) (hp18_2.sub (by (repeat (first | exact sub_refl _ | assumption | refine sub_upd' ?_ (by ((repeat refine (upd_other _ _ (by omega)).trans ?_); first | exact hf _ (by omega) | exact hfL0 _ (by omega) | exact hfL1 _ (by omega) | exact hfL9 _ (by omega))) | refine sub_trans ?_ hsL9 | refine sub_trans ?_ hsL1 | refine sub_trans ?_ hsL0 | refine sub_over (by assumption) | refine sub_over0 ?_ | refine sub_trans (sub_same (by assumption)) ?_ | refine sub_dropu ?_ | refine sub_drop ?_ | refine sub_put ?_ (by repeat (first | assumption | exact upd_same _ _ _ | refine (upd_other _ _ (by omega)).trans ?_ | refine hsL9 _ _ ?_ | refine hsL1 _ _ ?_ | refine hsL0 _ _ ?_)))))) rfl rfl rfl rfl (by first | rfl | (simp; done)) (by decide) ⟨rfl, rfl, Nat.le_refl _⟩) ?_
          refine Draw.step [(2, none)] rfl (by kernel_rfl) rfl (fun kq hkq => AOp.move' (.inl rfl) rfl ⟨rfl, rfl, Nat.le_refl _⟩) ?_
          refine Draw.step [(88, some 4)] rfl (by kernel_rfl) rfl (fun kq hkq => AOp.len' rfl rfl ⟨rfl, rfl, Nat.le_refl _⟩) ?_
          refine Draw.step [(0, none)] rfl (by kernel_rfl) rfl (fun kq hkq => AOp.move' (.inl rfl) rfl ⟨rfl, rfl, Nat.le_refl _⟩) ?_
          refine Draw.step [(13, none)] rfl (by kernel_rfl) rfl (fun kq hkq => AOp.move' (.inl rfl) rfl ⟨rfl, rfl, Nat.le_refl _⟩) ?_
          refine Draw.step [(90, some 6), (91, some 7)] rfl (by kernel_rfl) rfl (fun kq hkq => AOp.indexP (aslcAt_sub (by (repeat (first | exact sub_refl _ | assumption | refine sub_upd' ?_ (by ((repeat refine (upd_other _ _ (by omega)).trans ?_); first | exact hf _ (by omega) | exact hfL0 _ (by omega) | exact hfL1 _ (by omega) | exact hfL9 _ (by omega))) | refine sub_trans ?_ hsL9 | refine sub_trans ?_ hsL1 | refine sub_trans ?_ hsL0 | refine sub_over (by assumption) | refine sub_over0 ?_ | refine sub_trans (sub_same (by assumption)) ?_ | refine sub_dropu ?_ | refine sub_drop ?_ | refine sub_put ?_ (by repeat (first | assumption | exact upd_same _ _ _ | refine (upd_other _ _ (by omega)).trans ?_ | refine hsL9 _ _ ?_ | refine hsL1 _ _ ?_ | refine hsL0 _ _ ?_))))) hq18_8) rfl rfl rfl ⟨rfl, rfl, Nat.le_refl _⟩) ?_
          refine Draw.step [(92, some 8)] rfl (by kernel_rfl) rfl (fun kq hkq => AOp.fieldP (hp18_8.sub (by (repeat (first | exact sub_refl _ | assumption | refine sub_upd' ?_ (by ((repeat refine (upd_other _ _ (by omega)).trans ?_); first | exact hf _ (by omega) | exact hfL0 _ (by omega) | exact hfL1 _ (by omega) | exact hfL9 _ (by omega))) | refine sub_trans ?_ hsL9 | refine sub_trans ?_ hsL1 | refine sub_trans ?_ hsL0 | refine sub_over (by assumption) | refine sub_over0 ?_ | refine sub_trans (sub_same (by assumption)) ?_ | refine sub_dropu ?_ | refine sub_drop ?_ | refine sub_put ?_ (by repeat (first | assumption | exact upd_same _ _ _ | refine (upd_other _ _ (by omega)).trans ?_ | refine hsL9 _ _ ?_ | refine hsL1 _ _ ?_ | refine hsL0 _ _ ?_)))))) rfl (by decide) (Nat.le_of_ble_eq_true rfl) rfl ⟨rfl, rfl, Nat.le_refl _⟩) ?_
          refine Draw.step [(93, some 9)] rfl (by kernel_rfl) rfl (fun kq hkq => AOp.loadP1 (hp18_8.sub (by (repeat (first | exact sub_refl _ | assumption | refine sub_upd' ?_ (by ((repeat refine (upd_other _ _ (by omega)).trans ?_); first | exact hf _ (by omega) | exact hfL0 _ (by omega) | exact hfL1 _ (by omega) | exact hfL9 _ (by omega))) | refine sub_trans ?_ hsL9 | refine sub_trans ?_ hsL1 | refine sub_trans ?_ hsL0 | refine sub_over (by assumption) | refine sub_over0 ?_ | refine sub_trans (sub_same (by assumption)) ?_ | refine sub_dropu ?_ | refine sub_drop ?_ | refine sub_put ?_ (by repeat (first | assumption | exact upd_same _ _ _ | refine (upd_other _ _ (by omega)).trans ?_ | refine hsL9 _ _ ?_ | refine hsL1 _ _ ?_ | refine hsL0 _ _ ?_)))))) rfl rfl rfl ⟨rfl, rfl, Nat.le_refl _⟩) ?_
          refine Draw.step [(87, some 3), (89, some 5), (94, some 10)] rfl (by kernel_rfl) rfl (fun kq hkq => AOp.call' rfl rfl rfl (Sound_b _ _ (zoneOf (colOf rows i1)) hzk (vs.length : Int) (cols.getD i1 cD).kind) (fun _ _ _ h => h)) ?_
          refine Draw.step [(95, some 11)] rfl (by kernel_rfl) rfl (fun kq hkq => AOp.un' rfl rfl rfl ⟨rfl, rfl, Nat.le_refl _⟩) ?_
          refine Draw.step [(96, some 12)] rfl (by kernel_rfl) rfl (fun kq hkq => AOp.move' (.inl rfl) rfl ⟨rfl, rfl, Nat.le_refl _⟩) ?_
          refine Draw.gd [(11, none), (97, some 13)] rfl (by kernel_rfl) (wantF rfl rfl rfl) (fun kq hkq hc => AOp.slots [(11, _)] (.cons rfl .nil) (AOp.move' (.inl rfl) rfl ⟨rfl, rfl, Nat.le_refl _⟩)) ?_
          refine Draw.gd [(13, none), (97, some 13)] rfl (by kernel_rfl) (wantF rfl rfl rfl) (fun kq hkq hc => AOp.slots [(13, _)] (.cons rfl .nil) (AOp.move' (.inl rfl) rfl ⟨rfl, rfl, Nat.le_refl _⟩)) ?_
          refine Draw.gd [(98, some 14), (99, some 15), (97, some 13)] rfl (by kernel_rfl) (wantF rfl rfl rfl) (fun kq hkq hc => AOp.slots [(98, _), (99, _)] (.cons (gvT rfl hc) (.cons (gvT rfl hc) .nil)) (AOp.indexP (aslcAt_sub (by (repeat (first | exact sub_refl _ | assumption | refine sub_upd' ?_ (by ((repeat refine (upd_other _ _ (by omega)).trans ?_); first | exact hf _ (by omega) | exact hfL0 _ (by omega) | exact hfL1 _ (by omega) | exact hfL9 _ (by omega))) | refine sub_trans ?_ hsL9 | refine sub_trans ?_ hsL1 | refine sub_trans ?_ hsL0 | refine sub_over (by assumption) | refine sub_over0 ?_ | refine sub_trans (sub_same (by assumption)) ?_ | refine sub_dropu ?_ | refine sub_drop ?_ | refine sub_put ?_ (by repeat (first | assumption | exact upd_same _ _ _ | refine (upd_other _ _ (by omega)).trans ?_ | refine hsL9 _ _ ?_ | refine hsL1 _ _ ?_ | refine hsL0 _ _ ?_))))) hq18_16) rfl rfl rfl ⟨rfl, rfl, Nat.le_refl _⟩)) ?_
          refine Draw.gd [(100, some 16), (97, some 13)] rfl (by kernel_rfl) (wantF rfl rfl rfl) (fun kq hkq hc => AOp.slots [(100, _)] (.cons (gvT rfl hc) .nil) (AOp.fieldP (hp18_16.sub (by (repeat (first | exact sub_refl _ | assumption | refine sub_upd' ?_ (by ((repeat refine (upd_other _ _ (by omega)).trans ?_); first | exact hf _ (by omega) | exact hfL0 _ (by omega) | exact hfL1 _ (by omega) | exact hfL9 _ (by omega))) | refine sub_trans ?_ hsL9 | refine sub_trans ?_ hsL1 | refine sub_trans ?_ hsL0 | refine sub_over (by assumption) | refine sub_over0 ?_ | refine sub_trans (sub_same (by assumption)) ?_ | refine sub_dropu ?_ | refine sub_drop ?_ | refine sub_put ?_ (by repeat (first | assumption | exact upd_same _ _ _ | refine (upd_other _ _ (by omega)).trans ?_ | refine hsL9 _ _ ?_ | refine hsL1 _ _ ?_ | refine hsL0 _ _ ?_)))))) rfl (by decide) (Nat.le_of_ble_eq_true rfl) rfl ⟨rfl, rfl, Nat.le_refl _⟩)) ?_
          refine Draw.gd [(101, some 17), (97, some 13)] rfl (by kernel_rfl) (wantF rfl rfl rfl) (fun kq hkq hc => AOp.slots [(101, _)] (.cons (gvT rfl hc) .nil) (AOp.loadP1 (hp18_16.sub (by (repeat (first | exact sub_refl _ | assumption | refine sub_upd' ?_ (by ((repeat refine (upd_other _ _ (by omega)).trans ?_); first | exact hf _ (by omega) | exact hfL0 _ (by omega) | exact hfL1 _ (by omega) | exact hfL9 _ (by omega))) | refine sub_trans ?_ hsL9 | refine sub_trans ?_ hsL1 | refine sub_trans ?_ hsL0 | refine sub_over (by assumption) | refine sub_over0 ?_ | refine sub_trans (sub_same (by assumption)) ?_ | refine sub_dropu ?_ | refine sub_drop ?_ | refine sub_put ?_ (by repeat (first | assumption | exact upd_same _ _ _ | refine (upd_other _ _ (by omega)).trans ?_ | refine hsL9 _ _ ?_ | refine hsL1 _ _ ?_ | refine hsL0 _ _ ?_)))))) rfl rfl rfl ⟨rfl, rfl, Nat.le_refl _⟩)) ?_
          refine Draw.gd [(102, some 18), (97, some 13)] rfl (by kernel_rfl) (wantF rfl rfl rfl) (fun kq hkq hc => AOp.slots [(102, _)] (.cons (gvT rfl hc) .nil) (AOp.move' (.inl rfl) rfl ⟨rfl, rfl, Nat.le_refl _⟩)) ?_
          refine Draw.gd [(11, none), (103, some 19)] rfl (by kernel_rfl) (wantGT rfl rfl rfl) (fun kq hkq hc => AOp.slots [(11, _)] (.cons rfl .nil) (AOp.move' (.inl rfl) rfl ⟨rfl, rfl, Nat.le_refl _⟩)) ?_
          refine Draw.gd [(13, none), (103, some 19)] rfl (by kernel_rfl) (wantGT rfl rfl rfl) (fun kq hkq hc => AOp.slots [(13, _)] (.cons rfl .nil) (AOp.move' (.inl rfl) rfl ⟨rfl, rfl, Nat.le_refl _⟩)) ?_
          refine Draw.gd [(104, some 20), (105, some 21), (103, some 19)] rfl (by kernel_rfl) (wantGT rfl rfl rfl) (fun kq hkq hc => AOp.slots [(104, _), (105, _)] (.cons (gvT rfl hc) (.cons (gvT rfl hc) .nil)) (AOp.indexP (aslcAt_sub (by (repeat (first | exact sub_refl _ | assumption | refine sub_upd' ?_ (by ((repeat refine (upd_other _ _ (by omega)).trans ?_); first | exact hf _ (by omega) | exact hfL0 _ (by omega) | exact hfL1 _ (by omega) | exact hfL9 _ (by omega))) | refine sub_trans ?_ hsL9 | refine sub_trans ?_ hsL1 | refine sub_trans ?_ hsL0 | refine sub_over (by assumption) | refine sub_over0 ?_ | refine sub_trans (sub_same (by assumption)) ?_ | refine sub_dropu ?_ | refine sub_drop ?_ | refine sub_put ?_ (by repeat (first | assumption | exact upd_same _ _ _ | refine (upd_other _ _ (by omega)).trans ?_ | refine hsL9 _ _ ?_ | refine hsL1 _ _ ?_ | refine hsL0 _ _ ?_))))) hq18_22) rfl rfl rfl ⟨rfl, rfl, Nat.le_refl _⟩)) ?_
          refine Draw.gd [(106, some 22), (103, some 19)] rfl (by kernel_rfl) (wantGT rfl rfl rfl) (fun kq hkq hc => AOp.slots [(106, _)] (.cons (gvT rfl hc) .nil) (AOp.fieldP (hp18_22.sub (by (repeat (first | exact sub_refl _ | assumption | refine sub_upd' ?_ (by ((repeat refine (upd_other _ _ (by omega)).trans ?_); first | exact hf _ (by omega) | exact hfL0 _ (by omega) | exact hfL1 _ (by omega) | exact hfL9 _ (by omega))) | refine sub_trans ?_ hsL9 | refine sub_trans ?_ hsL1 | refine sub_trans ?_ hsL0 | refine sub_over (by assumption) | refine sub_over0 ?_ | refine sub_trans (sub_same (by assumption)) ?_ | refine sub_dropu ?_ | refine sub_drop ?_ | refine sub_put ?_ (by repeat (first | assumption | exact upd_same _ _ _ | refine (upd_other _ _ (by omega)).trans ?_ | refine hsL9 _ _ ?_ | refine hsL1 _ _ ?_ | refine hsL0 _ _ ?_)))))) rfl (by decide) (Nat.le_of_ble_eq_true rfl) rfl ⟨rfl, rfl, Nat.le_refl _⟩)) ?_
          refine Draw.gd [(107, some 23), (103, some 19)] rfl (by kernel_rfl) (wantGT rfl rfl rfl) (fun kq hkq hc => AOp.slots [(107, _)] (.cons (gvT rfl hc) .nil) (AOp.loadPF (vv (zoneOf (colOf rows i1)).min) (hp18_22.sub (by (repeat (first | exact sub_refl _ | assumption | refine sub_upd' ?_ (by ((repeat refine (upd_other _ _ (by omega)).trans ?_); first | exact hf _ (by omega) | exact hfL0 _ (by omega) | exact hfL1 _ (by omega) | exact hfL9 _ (by omega))) | refine sub_trans ?_ hsL9 | refine sub_trans ?_ hsL1 | refine sub_trans ?_ hsL0 | refine sub_over (by assumption) | refine sub_over0 ?_ | refine sub_trans (sub_same (by assumption)) ?_ | refine sub_dropu ?_ | refine sub_drop ?_ | refine sub_put ?_ (by repeat (first | assumption | exact upd_same _ _ _ | refine (upd_other _ _ (by omega)).trans ?_ | refine hsL9 _ _ ?_ | refine hsL1 _ _ ?_ | refine hsL0 _ _ ?_)))))) rfl rfl (by show 2 + 3 ≤ 8; decide) (by decide) rfl rfl ⟨rfl, rfl, Nat.le_refl _⟩)) ?_
          refine Draw.gd [(0, none), (103, some 19)] rfl (by kernel_rfl) (wantGT rfl rfl rfl) (fun kq hkq hc => AOp.slots [(0, _)] (.cons rfl .nil) (AOp.move' (.inl rfl) rfl ⟨rfl, rfl, Nat.le_refl _⟩)) ?_
          refine Draw.gd [(13, none), (103, some 19)] rfl (by kernel_rfl) (wantGT rfl rfl rfl) (fun kq hkq hc => AOp.slots [(13, _)] (.cons rfl .nil) (AOp.move' (.inl rfl) rfl ⟨rfl, rfl, Nat.le_refl _⟩)) ?_
          refine Draw.gd [(109, some 25), (110, some 26), (103, some 19)] rfl (by kernel_rfl) (wantGT rfl rfl rfl) (fun kq hkq hc => AOp.slots [(109, _), (110, _)] (.cons (gvT rfl hc) (.cons (gvT rfl hc) .nil)) (AOp.indexP (aslcAt_sub (by (repeat (first | exact sub_refl _ | assumption | refine sub_upd' ?_ (by ((repeat refine (upd_other _ _ (by omega)).trans ?_); first | exact hf _ (by omega) | exact hfL0 _ (by omega) | exact hfL1 _ (by omega) | exact hfL9 _ (by omega))) | refine sub_trans ?_ hsL9 | refine sub_trans ?_ hsL1 | refine sub_trans ?_ hsL0 | refine sub_over (by assumption) | refine sub_over0 ?_ | refine sub_trans (sub_same (by assumption)) ?_ | refine sub_dropu ?_ | refine sub_drop ?_ | refine sub_put ?_ (by repeat (first | assumption | exact upd_same _ _ _ | refine (upd_other _ _ (by omega)).trans ?_ | refine hsL9 _ _ ?_ | refine hsL1 _ _ ?_ | refine hsL0 _ _ ?_))))) hq18_27) rfl rfl rfl ⟨rfl, rfl, Nat.le_refl _⟩)) ?_
          refine Draw.gd [(111, some 27), (103, some 19)] rfl (by kernel_rfl) (wantGT rfl rfl rfl) (fun kq hkq hc => AOp.slots [(111, _)] (.cons (gvT rfl hc) .nil) (AOp.fieldP (hp18_27.sub (by (repeat (first | exact sub_refl _ | assumption | refine sub_upd' ?_ (by ((repeat refine (upd_other _ _ (by omega)).trans ?_); first | exact hf _ (by omega) | exact hfL0 _ (by omega) | exact hfL1 _ (by omega) | exact hfL9 _ (by omega))) | refine sub_trans ?_ hsL9 | refine sub_trans ?_ hsL1 | refine sub_trans ?_ hsL0 | refine sub_over (by assumption) | refine sub_over0 ?_ | refine sub_trans (sub_same (by assumption)) ?_ | refine sub_dropu ?_ | refine sub_drop ?_ | refine sub_put ?_ (by repeat (first | assumption | exact upd_same _ _ _ | refine (upd_other _ _ (by omega)).trans ?_ | refine hsL9 _ _ ?_ | refine hsL1 _ _ ?_ | refine hsL0 _ _ ?_)))))) rfl (by decide) (Nat.le_of_ble_eq_true rfl) rfl ⟨rfl, rfl, Nat.le_refl _⟩)) ?_
          refine Draw.gd [(112, some 28), (103, some 19)] rfl (by kernel_rfl) (wantGT rfl rfl rfl) (fun kq hkq hc => AOp.slots [(112, _)] (.cons (gvT rfl hc) .nil) (AOp.loadP1 (hp18_27.sub (by (repeat (first | exact sub_refl _ | assumption | refine sub_upd' ?_ (by ((repeat refine (upd_other _ _ (by omega)).trans ?_); first | exact hf _ (by omega) | exact hfL0 _ (by omega) | exact hfL1 _ (by omega) | exact hfL9 _ (by omega))) | refine sub_trans ?_ hsL9 | refine sub_trans ?_ hsL1 | refine sub_trans ?_ hsL0 | refine sub_over (by assumption) | refine sub_over0 ?_ | refine sub_trans (sub_same (by assumption)) ?_ | refine sub_dropu ?_ | refine sub_drop ?_ | refine sub_put ?_ (by repeat (first | assumption | exact upd_same _ _ _ | refine (upd_other _ _ (by omega)).trans ?_ | refine hsL9 _ _ ?_ | refine hsL1 _ _ ?_ | refine hsL0 _ _ ?_)))))) rfl rfl rfl ⟨rfl, rfl, Nat.le_refl _⟩)) ?_
          refine Draw.gd [(108, some 24), (113, some 29), (103, some 19)] rfl (by kernel_rfl) (wantGT rfl rfl rfl) (fun kq hkq hc => AOp.slots [(108, _), (113, _)] (.cons (gvT rfl hc) (.cons (gvT rfl hc) .nil)) (AOp.call' rfl rfl rfl (right_val 3 _ _ (zoneOf (colOf rows i1)).min (cols.getD i1 cD).kind) (fun _ _ _ h => h))) ?_
          refine Draw.gd [(114, some 30), (103, some 19)] rfl (by kernel_rfl) (wantGT rfl rfl rfl) (fun kq hkq hc => AOp.slots [(114, _)] (.cons (gvT rfl hc) .nil) (AOp.un' rfl rfl rfl ⟨rfl, rfl, Nat.le_refl _⟩)) ?_
          refine Draw.gd [(103, some 19), (115, some 31), (97, some 13)] rfl (by kernel_rfl) (wantF rfl rfl rfl) (fun kq hkq hc => AOp.pickAnd rfl rfl (gvE rfl hc) (fun hb => gvE rfl (and_mk hc hb)) ⟨rfl, rfl, Nat.le_refl _⟩) ?_
          refine Draw.step [(97, some 13), (116, some 32)] rfl (by kernel_rfl) rfl (fun kq hkq => AOp.pickOr rfl rfl rfl (fun hb => gvE rfl (t_not hb)) ⟨rfl, rfl, Nat.le_refl _⟩) ?_
          refine Draw.done fun kq hkq => ?_
          show aOps _ _ _ _ [] ⟨_, _, _⟩
          refine aOps_end ?_
          show ACode _ _ _ _ _ _
          refine ACode.cond rfl (fun c5 => absurd c5 (by rw [h5]; decide)) (fun c5 => ?_)
          refine ACode.skip ?_
          show ACode _ _ _ _ _ _
          refine ACode.region' [0, 1, 2] (by kernel_rfl) rfl ?_
          refine aOps_1 rfl rfl rfl (AOp.move' (.inl rfl) rfl ?_)
          refine aOps_1 rfl rfl rfl (AOp.add rfl rfl rfl (i64_wrap (by omega) (by omega)) ?_)
          refine aOps_1 rfl rfl rfl (AOp.move' (.inr rfl) rfl ?_)
          refine aOps_end ?_
          first | refine thenA_n ?_ | simp only [thenA, blockA, if_true]
          exact NextR.mk (by omega) (by omega) (.cons rfl (.cons rfl (.cons rfl .nil))) (.cons rfl (.cons rfl (.cons rfl (.cons rfl (.cons rfl (.cons rfl (.cons rfl (.cons rfl (.cons rfl (.cons rfl (.cons rfl (.cons rfl (.cons rfl (.cons rfl (.cons rfl (.cons rfl (.cons rfl (.cons rfl (.cons rfl .nil))))))))))))))))))) (by exact hsL9) trivial
        · try simp only [decide_eq_true_eq, decide_eq_false_iff_not, beq_iff_eq, beq_eq_false_iff_ne, ne_eq, bne_iff_ne, Bool.not_eq_true', Bool.not_eq_false', Int.not_lt, Int.not_le, gt_iff_lt, ge_iff_le, bne_eq_false_iff_eq, Bool.not_eq_eq_eq_not, Bool.not_true, Bool.not_false] at c4
          obtain rfl : i1 = cols.length := by omega
          refine ACode.exit ?_
          show ACode _ _ _ _ _ _
          refine ACode.seq ?_
          refine ACode.region' [0, 1, 2, 3, 4, 5, 6, 7, 8, 9, 10, 11, 12, 13, 14, 15] (by kernel_rfl) rfl ?_
          refine aOps_1 rfl rfl rfl ?_
          refine AOp.loadAll (b := ?b3) (v := pv xo xc xA xl xcc xB xm xd) rfl rfl ?hn3 ?hv3 ?hw3 ?hz3 ?hR3
          (case hn3 => repeat (first | assumption | exact upd_same _ _ _ | refine (upd_other _ _ (by omega)).trans ?_ | refine hsL1 _ _ ?_ | refine hsL0 _ _ ?_))
          (case hv3 => rfl)
          (case hw3 => rfl)
          (case hz3 => first | rfl | (simp; done))
          refine aOps_1 rfl rfl rfl (AOp.move' (.inl rfl) rfl ?_)
          refine aOps_1 rfl rfl rfl (AOp.len' rfl rfl ?_)
          refine aOps_1 rfl rfl rfl (AOp.move' (.inl rfl) rfl ?_)
          refine aOps_q rfl rfl rfl (AOp.call' rfl rfl rfl (Refutes_n _ _ (by repeat (first | assumption | exact upd_same _ _ _ | refine (upd_other _ _ (by omega)).trans ?_ | refine hsL1 _ _ ?_ | refine hsL0 _ _ ?_)) (by repeat (first | assumption | exact upd_same _ _ _ | refine (upd_other _ _ (by omega)).trans ?_ | refine hsL1 _ _ ?_ | refine hsL0 _ _ ?_)) p _ (hp.sub (by (repeat (first | exact sub_refl _ | assumption | refine sub_upd' ?_ (by ((repeat refine (upd_other _ _ (by omega)).trans ?_); first | exact hf _ (by omega) | exact hfL0 _ (by omega) | exact hfL1 _ (by omega))) | refine sub_trans ?_ hsL1 | refine sub_trans ?_ hsL0 | refine sub_over (by assumption) | refine sub_over0 ?_ | refine sub_trans (sub_same (by assumption)) ?_ | refine sub_dropu ?_ | refine sub_drop ?_ | refine sub_put ?_ (by repeat (first | assumption | exact upd_same _ _ _ | refine (upd_other _ _ (by omega)).trans ?_ | refine hsL1 _ _ ?_ | refine hsL0 _ _ ?_)))))) hty (vs.length : Int) (zonesOf rows cols.length) (some ⟨kL0, 0, some 1⟩) cols.length cols.length (zonesOf_len _ _) (slcCells_grow (n := kL0) (b := gZs (zonesOf rows cols.length)) (by repeat (first | assumption | exact upd_same _ _ _ | refine (upd_other _ _ (by omega)).trans ?_ | refine hsL1 _ _ ?_ | refine hsL0 _ _ ?_)) rfl (by show _ = (zs8 _).length; rw [zs8_len, zonesOf_len])) (by omega)) (fun _ _ _ h => h)) (fun kq hkq => ?_)
          refine aOps_1 rfl rfl rfl (AOp.un' rfl rfl rfl ?_)
          refine aOps_1 rfl rfl rfl (AOp.move' (.inl rfl) rfl ?_)
          refine aOps_gd0 rfl rfl (wantF rfl rfl rfl) (fun hc => AOp.slots [(5, _)] (.cons rfl .nil) ((by refine AOp.loadAll (b := ?b4) (v := pv xo xc xA xl xcc xB xm xd) rfl rfl ?hn4 ?hv4 ?hw4 ?hz4 ?hR4; (case hn4 => repeat (first | assumption | exact upd_same _ _ _ | refine (upd_other _ _ (by omega)).trans ?_ | refine hsL1 _ _ ?_ | refine hsL0 _ _ ?_)); (case hv4 => rfl); (case hw4 => rfl); (case hz4 => first | rfl | (simp; done)); exact ⟨rfl, rfl, rfl⟩))) ?_
          refine aOps_gd0 rfl rfl (wantF rfl rfl rfl) (fun hc => AOp.slots [(10, _)] (.cons rfl .nil) (AOp.move' (.inl rfl) rfl ⟨rfl, rfl, rfl⟩)) ?_
          refine aOps_gd0 rfl rfl (wantF rfl rfl rfl) (fun hc => AOp.slots [(12, _)] (.cons rfl .nil) (AOp.move' (.inl rfl) rfl ⟨rfl, rfl, rfl⟩)) ?_
          refine aOps_gd rfl rfl (wantF rfl rfl rfl) (fun hc => AOp.slots [(125, _), (126, _), (127, _)] (.cons (gvT rfl hc) (.cons (gvT rfl hc) (.cons (gvT rfl hc) .nil))) (AOp.call' rfl rfl rfl (Refutes_n _ _ (by repeat (first | assumption | exact upd_same _ _ _ | refine (upd_other _ _ (by omega)).trans ?_ | refine hsL1 _ _ ?_ | refine hsL0 _ _ ?_)) (by repeat (first | assumption | exact upd_same _ _ _ | refine (upd_other _ _ (by omega)).trans ?_ | refine hsL1 _ _ ?_ | refine hsL0 _ _ ?_)) p _ (hp.sub (by (repeat (first | exact sub_refl _ | assumption | refine sub_upd' ?_ (by ((repeat refine (upd_other _ _ (by omega)).trans ?_); first | exact hf _ (by omega) | exact hfL0 _ (by omega) | exact hfL1 _ (by omega))) | refine sub_trans ?_ hsL1 | refine sub_trans ?_ hsL0 | refine sub_over (by assumption) | refine sub_over0 ?_ | refine sub_trans (sub_same (by assumption)) ?_ | refine sub_dropu ?_ | refine sub_drop ?_ | refine sub_put ?_ (by repeat (first | assumption | exact upd_same _ _ _ | refine (upd_other _ _ (by omega)).trans ?_ | refine hsL1 _ _ ?_ | refine hsL0 _ _ ?_)))))) hty (kk : Int) (zonesOf (rows.take kk) cols.length) (some ⟨kL0 + 1, 0, some 1⟩) cols.length cols.length (zonesOf_len _ _) (slcCells_grow (n := kL0 + 1) (b := gZs (zonesOf (rows.take kk) cols.length)) (by repeat (first | assumption | exact upd_same _ _ _ | refine (upd_other _ _ (by omega)).trans ?_ | refine hsL1 _ _ ?_ | refine hsL0 _ _ ?_)) rfl (by show _ = (zs8 _).length; rw [zs8_len, zonesOf_len])) (by omega)) (fun _ _ _ h => h))) (fun kq hkq => ?_)
          refine aOps_1 rfl rfl rfl (AOp.pickOr rfl rfl rfl (fun hb => gvE rfl (t_not hb)) ?_)
          refine aOps_1 rfl rfl rfl (AOp.move' (.inl rfl) rfl ?_)
          refine aOps_gd rfl rfl (wantT rfl rfl rfl) (fun hc => AOp.slots [] .nil (AOp.call' rfl rfl rfl (awake17 _ _ (by repeat (first | assumption | exact upd_same _ _ _ | refine (upd_other _ _ (by omega)).trans ?_ | refine hsL1 _ _ ?_ | refine hsL0 _ _ ?_)) (by repeat (first | assumption | exact upd_same _ _ _ | refine (upd_other _ _ (by omega)).trans ?_ | refine hsL1 _ _ ?_ | refine hsL0 _ _ ?_))) (fun _ _ _ h => h))) (fun kq hkq => ?_)
          refine aOps_1 rfl rfl rfl (AOp.pickAnd rfl rfl rfl (fun hb => gvE rfl hb) ?_)
          refine aOps_1 rfl rfl rfl (AOp.move' (.inr rfl) rfl ?_)
          refine aOps_end ?_
          show ACode _ _ _ _ _ _
          refine ACode.ret ?_
          have hfin : (!(!((mayR (vs.length : Int) (zonesOf rows cols.length) p)).t) || !((mayR (kk : Int) (zonesOf (rows.take kk) cols.length) p)).t) = true := by { cases hb : ((mayR (kk : Int) (zonesOf (rows.take kk) cols.length) p)).t with | false => simp | true => { have hp9 := may_prefix (cols := cols) (rows := rows) (k := kk) (by omega) (by omega) p hb; rw [← hrl] at hp9; rw [hp9]; rfl } }
          exact RetQ.one rfl rfl (by (repeat (first | exact sub_refl _ | assumption | refine sub_upd' ?_ (by ((repeat refine (upd_other _ _ (by omega)).trans ?_); first | exact hf _ (by omega) | exact hfL0 _ (by omega) | exact hfL1 _ (by omega))) | refine sub_trans ?_ hsL1 | refine sub_trans ?_ hsL0 | refine sub_over (by assumption) | refine sub_over0 ?_ | refine sub_trans (sub_same (by assumption)) ?_ | refine sub_dropu ?_ | refine sub_drop ?_ | refine sub_put ?_ (by repeat (first | assumption | exact upd_same _ _ _ | refine (upd_other _ _ (by omega)).trans ?_ | refine hsL1 _ _ ?_ | refine hsL0 _ _ ?_))))) stays (fun hk => ⟨by rw [hfin]; rfl, rfl, by omega⟩)
      · try simp only [decide_eq_true_eq, decide_eq_false_iff_not, beq_iff_eq, beq_eq_false_iff_ne, ne_eq, bne_iff_ne, Bool.not_eq_true', Bool.not_eq_false', Int.not_lt, Int.not_le, gt_iff_lt, ge_iff_le, bne_eq_false_iff_eq, Bool.not_eq_eq_eq_not, Bool.not_true, Bool.not_false] at c3
        have hv0 : vs.length = 0 := by omega
        refine ACode.skip ?_
        show ACode _ _ _ _ _ _
        refine ACode.seq ?_
        refine ACode.region' [0, 1] (by kernel_rfl) rfl ?_
        refine aOps_1 rfl rfl rfl (AOp.move' (.inr rfl) rfl ?_)
        refine aOps_1 rfl rfl rfl (AOp.move' (.inr rfl) rfl ?_)
        refine aOps_end ?_
        show ACode _ _ _ _ _ _
        refine ACode.seq ?_
        refine ACode.seq ?_
        refine ACode.adopt (t := 11) 45 8 (by decide) rfl ?_
        refine ACode.adopt (t := 12) 45 8 (by decide) rfl ?_
        refine ACode.region' [0] (by kernel_rfl) rfl ?_
        refine aOps_1 rfl rfl rfl (AOp.move' (.inr rfl) rfl ?_)
        refine aOps_end ?_
        show ACode _ _ _ _ _ _
        refine ACode.block ?_
        refine ACode.count (fun i => [(13, .int .i64 (i : Int)), (11, .slice (some ⟨kL0, 0, some 1⟩) i i), (12, .slice (some ⟨kL0 + 1, 0, some 1⟩) i i)]) [(0, _), (2, _), (3, _), (5, _), (9, _), (10, _), (40, _), (41, _), (42, _), (43, _), (54, _), (55, _), (56, _)] (fun i => upd (upd HL0 kL0 (some (gZs (zonesOf rows i)))) (kL0 + 1) (some (gZs (zonesOf (rows.take 0) i)))) (cols.length) (fun _ => True) (.cons rfl (.cons rfl (.cons rfl .nil))) (.cons rfl (.cons rfl (.cons rfl (.cons rfl (.cons rfl (.cons rfl (.cons rfl (.cons rfl (.cons rfl (.cons rfl (.cons rfl (.cons rfl (.cons rfl .nil))))))))))))) (by (repeat (first | exact sub_refl _ | assumption | refine sub_upd' ?_ (by ((repeat refine (upd_other _ _ (by omega)).trans ?_); first | exact hf _ (by omega) | exact hfL0 _ (by omega))) | refine sub_trans ?_ hsL0 | refine sub_over (by assumption) | refine sub_over0 ?_ | refine sub_trans (sub_same (by assumption)) ?_ | refine sub_dropu ?_ | refine sub_drop ?_ | refine sub_put ?_ (by repeat (first | assumption | exact upd_same _ _ _ | refine (upd_other _ _ (by omega)).trans ?_ | refine hsL0 _ _ ?_))))) trivial (fun i1 kL1 HL1 hiL1 hkL1 hsL1 hfL1 hxL1 => ?_)
        show ACode _ _ _ _ _ ⟨_, _, _⟩
        refine ACode.seq ?_
        refine ACode.seq ?_
        refine ACode.region' [0, 1, 2, 3] (by kernel_rfl) rfl ?_
        refine aOps_1 rfl rfl rfl (AOp.move' (.inl rfl) rfl ?_)
        refine aOps_1 rfl rfl rfl (AOp.move' (.inl rfl) rfl ?_)
        refine aOps_1 rfl rfl rfl (AOp.len' rfl rfl ?_)
        refine aOps_1 rfl rfl rfl (AOp.bin' rfl rfl rfl rfl ?_)
        refine aOps_end ?_
        show ACode _ _ _ _ _ _
        refine ACode.cond rfl (fun c4 => ?_) (fun c4 => ?_)
        · try simp only [decide_eq_true_eq, decide_eq_false_iff_not, beq_iff_eq, beq_eq_false_iff_ne, ne_eq, bne_iff_ne, Bool.not_eq_true', Bool.not_eq_false', Int.not_lt, Int.not_le, gt_iff_lt, ge_iff_le, bne_eq_false_iff_eq, Bool.not_eq_eq_eq_not, Bool.not_true, Bool.not_false] at c4
          refine ACode.skip ?_
          show ACode _ _ _ _ _ _
          refine ACode.seq ?_
          refine ACode.block ?_
          refine ACode.seq ?_
          refine ACode.region' [0, 1, 2, 3] (by kernel_rfl) rfl ?_
          refine aOps_1 rfl rfl rfl (AOp.move' (.inl rfl) rfl ?_)
          refine aOps_1 rfl rfl rfl (AOp.move' (.inl rfl) rfl ?_)
          refine aOps_1 rfl rfl rfl ?_
          refine AOp.call' rfl rfl rfl (Column_b _ _ rows vs R rc (hS.sub (by (repeat (first | exact sub_refl _ | assumption | refine sub_upd' ?_ (by ((repeat refine (upd_other _ _ (by omega)).trans ?_); first | exact hf _ (by omega) | exact hfL0 _ (by omega) | exact hfL1 _ (by omega))) | refine sub_trans ?_ hsL1 | refine sub_trans ?_ hsL0 | refine sub_over (by assumption) | refine sub_over0 ?_ | refine sub_trans (sub_same (by assumption)) ?_ | refine sub_dropu ?_ | refine sub_drop ?_ | refine sub_put ?_ (by repeat (first | assumption | exact upd_same _ _ _ | refine (upd_other _ _ (by omega)).trans ?_ | refine hsL1 _ _ ?_ | refine hsL0 _ _ ?_)))))) (hRw.sub (by (repeat (first | exact sub_refl _ | assumption | refine sub_upd' ?_ (by ((repeat refine (upd_other _ _ (by omega)).trans ?_); first | exact hf _ (by omega) | exact hfL0 _ (by omega) | exact hfL1 _ (by omega))) | refine sub_trans ?_ hsL1 | refine sub_trans ?_ hsL0 | refine sub_over (by assumption) | refine sub_over0 ?_ | refine sub_trans (sub_same (by assumption)) ?_ | refine sub_dropu ?_ | refine sub_drop ?_ | refine sub_put ?_ (by repeat (first | assumption | exact upd_same _ _ _ | refine (upd_other _ _ (by omega)).trans ?_ | refine hsL1 _ _ ?_ | refine hsL0 _ _ ?_)))))) i1 (fun row hr => by rw [hRR.len hr]; omega) (by omega)) ?_
          rintro _ _ kc ⟨qc, hqc1, hqc2, rfl, rfl⟩
          refine aOps_1 rfl rfl rfl (AOp.move' (.inr rfl) rfl ?_)
          refine aOps_end ?_
          show ACode _ _ _ _ _ _
          refine ACode.seq ?_
          refine ACode.region' [0, 1, 2, 3, 4, 5] (by kernel_rfl) rfl ?_
          refine aOps_1 rfl rfl rfl (AOp.move' (.inl rfl) rfl ?_)
          refine aOps_1 rfl rfl rfl (AOp.move' (.inl rfl) rfl ?_)
          refine aOps_q rfl rfl rfl (AOp.call' rfl rfl rfl (Of_b _ _ (colOf rows i1) (some ⟨qc, 0, some 1⟩) _ (slcCells_grow (n := qc) (b := gV (colOf rows i1)) (by repeat (first | assumption | exact upd_same _ _ _ | refine (upd_other _ _ (by omega)).trans ?_ | refine hsL1 _ _ ?_ | refine hsL0 _ _ ?_)) rfl (by show _ = (vals3 _).length; rw [vals3_len])) (by rw [colOf_len]; omega)) (fun _ _ _ h => h)) (fun kz hkz => ?_)
          refine aOps_1 rfl rfl rfl (AOp.buildH (zs8 [(zoneOf (colOf rows i1))]) rfl rfl (by show 0 < 8; decide) (by show 8 ≤ 16777216; decide) rfl rfl ?_)
          refine aOps_1 rfl rfl rfl (AOp.append' (b := gZs (zonesOf rows i1)) (m := 1) (news := zs8 [(zoneOf (colOf rows i1))]) rfl rfl rfl (by repeat (first | assumption | exact upd_same _ _ _ | refine (upd_other _ _ (by omega)).trans ?_ | refine hsL1 _ _ ?_ | refine hsL0 _ _ ?_)) (srcOf_grow (b := gZs [(zoneOf (colOf rows i1))]) (by repeat (first | assumption | exact upd_same _ _ _ | refine (upd_other _ _ (by omega)).trans ?_ | refine hsL1 _ _ ?_ | refine hsL0 _ _ ?_)) rfl rfl) rfl rfl rfl (by show i1 * 8 = (zs8 _).length; rw [zs8_len, zonesOf_len]) srcOk_sl (zs8_one _) (by omega) (by omega) ?_)
          refine aOps_1 rfl rfl rfl (AOp.move' (.inr rfl) rfl ?_)
          refine aOps_end ?_
          show ACode _ _ _ _ _ _
          refine ACode.seq ?_
          refine ACode.region' [0, 1, 2, 3, 4, 5, 6, 7] (by kernel_rfl) rfl ?_
          refine aOps_1 rfl rfl rfl (AOp.move' (.inl rfl) rfl ?_)
          refine aOps_1 rfl rfl rfl (AOp.move' (.inl rfl) rfl ?_)
          refine aOps_1 rfl rfl rfl (AOp.move' (.inl rfl) rfl ?_)
          refine aOps_1 rfl rfl rfl (AOp.slicePre (h := 0) (b := gV (colOf rows i1)) rfl rfl rfl (by repeat (first | assumption | exact upd_same _ _ _ | refine (upd_other _ _ (by omega)).trans ?_ | refine hsL1 _ _ ?_ | refine hsL0 _ _ ?_)) rfl (by rw [colOf_len]; omega) ?_)
          refine aOps_q rfl rfl rfl (AOp.call' rfl rfl rfl (Of_n _ _ (colOf (rows.take 0) i1) (some ⟨qc, 0, some 1⟩) 0 0 (by rw [colOf_prefix, List.length_take, colOf_len]; omega) (by rw [colOf_prefix]; exact slc_pre (by repeat (first | assumption | exact upd_same _ _ _ | refine (upd_other _ _ (by omega)).trans ?_ | refine hsL1 _ _ ?_ | refine hsL0 _ _ ?_)) (by rw [colOf_len]; omega)) (by omega)) (fun _ _ _ h => h)) (fun ky hky => ?_)
          refine aOps_1 rfl rfl rfl (AOp.buildH (zs8 [(zoneOf (colOf (rows.take 0) i1))]) rfl rfl (by show 0 < 8; decide) (by show 8 ≤ 16777216; decide) rfl rfl ?_)
          refine aOps_1 rfl rfl rfl (AOp.append' (b := gZs (zonesOf (rows.take 0) i1)) (m := 1) (news := zs8 [(zoneOf (colOf (rows.take 0) i1))]) rfl rfl rfl (by repeat (first | assumption | exact upd_same _ _ _ | refine (upd_other _ _ (by omega)).trans ?_ | refine hsL1 _ _ ?_ | refine hsL0 _ _ ?_)) (srcOf_grow (b := gZs [(zoneOf (colOf (rows.take 0) i1))]) (by repeat (first | assumption | exact upd_same _ _ _ | refine (upd_other _ _ (by omega)).trans ?_ | refine hsL1 _ _ ?_ | refine hsL0 _ _ ?_)) rfl rfl) rfl rfl rfl (by show i1 * 8 = (zs8 _).length; rw [zs8_len, zonesOf_len]) srcOk_sl (zs8_one _) (by omega) (by omega) ?_)
          refine aOps_1 rfl rfl rfl (AOp.move' (.inr rfl) rfl ?_)
          refine aOps_end ?_
          show ACode _ _ _ _ _ _
          refine ACode.seq ?_
          refine ACode.named fun HL9 hHX => ?_
          have hz1 : HL9 kL0 = some (gZs (zonesOf rows (i1 + 1))) := by { rw [hHX]; refine Eq.trans (b := some ({ cells := zs8 (zonesOf rows i1) ++ zs8 [(zoneOf (colOf rows i1))], elem := 45, kind := .grow, esz := 8 } : Blk)) (by repeat (first | assumption | exact upd_same _ _ _ | refine (upd_other _ _ (by omega)).trans ?_ | refine hsL1 _ _ ?_ | refine hsL0 _ _ ?_)) ?_; show _ = some ({ cells := zs8 (zonesOf rows (i1 + 1)), elem := _, kind := _, esz := _ } : Blk); rw [zone_snoc8] }
          have hz2 : HL9 (kL0 + 1) = some (gZs (zonesOf (rows.take 0) (i1 + 1))) := by { rw [hHX]; refine Eq.trans (b := some ({ cells := zs8 (zonesOf (rows.take 0) i1) ++ zs8 [(zoneOf (colOf (rows.take 0) i1))], elem := 45, kind := .grow, esz := 8 } : Blk)) (by repeat (first | assumption | exact upd_same _ _ _ | refine (upd_other _ _ (by omega)).trans ?_ | refine hsL1 _ _ ?_ | refine hsL0 _ _ ?_)) ?_; show _ = some ({ cells := zs8 (zonesOf (rows.take 0) (i1 + 1)), elem := _, kind := _, esz := _ } : Blk); rw [zone_snoc8] }
          have hH9 : Ab.Sub HL0 HL9 := by { rw [hHX]; (repeat (first | exact sub_refl _ | assumption | refine sub_upd' ?_ (by ((repeat refine (upd_other _ _ (by omega)).trans ?_); first | exact hf _ (by omega) | exact hfL0 _ (by omega) | exact hfL1 _ (by omega))) | refine sub_trans ?_ hsL1 | refine sub_trans ?_ hsL0 | refine sub_over (by assumption) | refine sub_over0 ?_ | refine sub_trans (sub_same (by assumption)) ?_ | refine sub_dropu ?_ | refine sub_drop ?_ | refine sub_put ?_ (by repeat (first | assumption | exact upd_same _ _ _ | refine (upd_other _ _ (by omega)).trans ?_ | refine hsL1 _ _ ?_ | refine hsL0 _ _ ?_)))) }
          have hfL9 : ∀ m, ky + 1 ≤ m → HL9 m = none := by { intro m hm; rw [hHX]; (repeat refine (upd_other _ _ (by omega)).trans ?_); exact hfL1 _ (by omega) }
          have hsL9 : Ab.Sub (upd (upd HL0 kL0 (some (gZs (zonesOf rows (i1 + 1))))) (kL0 + 1) (some (gZs (zonesOf (rows.take 0) (i1 + 1))))) HL9 := sub_put (sub_put hH9 hz1) hz2
          clear hHX
          have hz9 : ∃ n off sp, aslcAt HL9 8 i1 (.slice (some ⟨kL0, 0, some 1⟩) (i1 + 1) (i1 + 1)) = some (ptr n off sp) ∧ PAt HL9 n off sp (zv (zoneOf (colOf rows i1))).cells.toList := by { have h := slcZ (H := HL9) (i := i1) (v := .slice (some ⟨kL0, 0, some 1⟩) (i1 + 1) (i1 + 1)) (l := zonesOf rows (i1 + 1)) (slcCells_grow (n := kL0) (b := gZs (zonesOf rows (i1 + 1))) hz1 rfl (by show _ = (zs8 _).length; rw [zs8_len, zonesOf_len])) (by rw [zonesOf_len]; omega); rwa [zonesOf_getD (by omega)] at h }
          have hsd := sound_zone hsc hRR (show i1 < cols.length by omega)
          rw [← hrl] at hsd
          have hzk : (zoneOf (colOf rows i1)).ok := zone_ok (col_ok hRR hrow (by omega)) (by rw [colOf_len]; omega)
          have h5 : (!soundP (zoneOf (colOf rows i1)) (vs.length : Int) (cols.getD i1 cD).kind || ((zoneOf (colOf rows i1)).some && !right (zoneOf (colOf rows i1)).min (cols.getD i1 cD).kind)) = false := by { rw [hsd.1]; cases hb : (zoneOf (colOf rows i1)).some with | false => rfl | true => rw [hsd.2 hb]; rfl }
          obtain ⟨n18_2, o18_2, s18_2, hq18_2, hp18_2⟩ := id hz9
          obtain ⟨n18_16, o18_16, s18_16, hq18_16, hp18_16⟩ := id hz9
          obtain ⟨n18_22, o18_22, s18_22, hq18_22, hp18_22⟩ := id hz9
          obtain ⟨n18_8, o18_8, s18_8, hq18_8, hp18_8⟩ := slcC hC (show i1 < cols.length by omega)
          obtain ⟨n18_27, o18_27, s18_27, hq18_27, hp18_27⟩ := slcC hC (show i1 < cols.length by omega)
          refine ACode.draw' 34 [(0, 84), (1, 85), (2, 86), (3, 87), (4, 88), (5, 89), (6, 90), (7, 91), (8, 92), (9, 93), (10, 94), (11, 95), (12, 96), (13, 97), (14, 98), (15, 99), (16, 100), (17, 101), (18, 102), (19, 103), (20, 104), (21, 105), (22, 106), (23, 107), (24, 108), (25, 109), (26, 110), (27, 111), (28, 112), (29, 113), (30, 114), (31, 115), (32, 116), (33, 117)] mixed (by kernel_rfl) ?_
          refine Draw.step [(11, none)] rfl (by kernel_rfl) rfl (fun kq hkq => AOp.move' (.inl rfl) rfl ⟨rfl, rfl, Nat.le_refl _⟩) ?_
          refine Draw.step [(13, none)] rfl (by kernel_rfl) rfl (fun kq hkq => AOp.move' (.inl rfl) rfl ⟨rfl, rfl, Nat.le_refl _⟩) ?_
          refine Draw.step [(84, some 0), (85, some 1)] rfl (by kernel_rfl) rfl (fun kq hkq => AOp.indexP (aslcAt_sub (by (repeat (first | exact sub_refl _ | assumption | refine sub_upd' ?_ (by ((repeat refine (upd_other _ _ (by omega)).trans ?_); first | exact hf _ (by omega) | exact hfL0 _ (by omega) | exact hfL1 _ (by omega) | exact hfL9 _ (by omega))) | refine sub_trans ?_ hsL9 | refine sub_trans ?_ hsL1 | refine sub_trans ?_ hsL0 | refine sub_over (by assumption) | refine sub_over0 ?_ | refine sub_trans (sub_same (by assumption)) ?_ | refine sub_dropu ?_ | refine sub_drop ?_ | refine sub_put ?_ (by repeat (first | assumption | exact upd_same _ _ _ | refine (upd_other _ _ (by omega)).trans ?_ | refine hsL9 _ _ ?_ | refine hsL1 _ _ ?_ | refine hsL0 _ _ ?_))))) hq18_2) rfl rfl rfl ⟨rfl, rfl, Nat.le_refl _⟩) ?_
          refine Draw.step [(86, some 2)] rfl (by kernel_rfl) rfl (fun kq hkq => AOp.loadPA (v := zv (zoneOf (colOf rows i1))) (hp18_2.sub (by (repeat (first | exact sub_refl _ | assumption | refine sub_upd' ?_ (by ((repeat refine (upd_other _ _ (by omega)).trans ?_); first | exact hf _ (by omega) | exact hfL0 _ (by omega) | exact hfL1 _ (by omega) | exact hfL9 _ (by omega))) | refine sub_trans ?_ hsL9 | refine sub_trans ?_ hsL1 | refine sub_trans ?_ hsL0 | refine sub_over (by assumption) | refine sub_over0 ?_ | refine sub_trans (sub_same (by assumption)) ?_ | refine sub_dropu ?_ | refine sub_drop ?_ | refine sub_put ?_ (by repeat (first | assumption | exact upd_same _ _ _ | refine (upd_other _ _ (by omega)).trans ?_ | refine hsL9 _ _ ?_ | refine hsL1 _ _ ?_ | refine hsL0 _ _ ?_)))))) rfl rfl rfl rfl (by first | rfl | (simp; done)) (by decide) ⟨rfl, rfl, Nat.le_refl _⟩) ?_
          refine Draw.step [(2, none)] rfl (by kernel_rfl) rfl (fun kq hkq => AOp.move' (.inl rfl) rfl ⟨rfl, rfl, Nat.le_refl _⟩) ?_
          refine Draw.step [(88, some 4)] rfl (by kernel_rfl) rfl (fun kq hkq => AOp.len' rfl rfl ⟨rfl, rfl, Nat.le_refl _⟩) ?_
          refine Draw.step [(0, none)] rfl (by kernel_rfl) rfl (fun kq hkq => AOp.move' (.inl rfl) rfl ⟨rfl, rfl, Nat.le_refl _⟩) ?_
          refine Draw.step [(13, none)] rfl (by kernel_rfl) rfl (fun kq hkq => AOp.move' (.inl rfl) rfl ⟨rfl, rfl, Nat.le_refl _⟩) ?_
          refine Draw.step [(90, some 6), (91, some 7)] rfl (by kernel_rfl) rfl (fun kq hkq => AOp.indexP (aslcAt_sub (by (repeat (first | exact sub_refl _ | assumption | refine sub_upd' ?_ (by ((repeat refine (upd_other _ _ (by omega)).trans ?_); first | exact hf _ (by omega) | exact hfL0 _ (by omega) | exact hfL1 _ (by omega) | exact hfL9 _ (by omega))) | refine sub_trans ?_ hsL9 | refine sub_trans ?_ hsL1 | refine sub_trans ?_ hsL0 | refine sub_over (by assumption) | refine sub_over0 ?_ | refine sub_trans (sub_same (by assumption)) ?_ | refine sub_dropu ?_ | refine sub_drop ?_ | refine sub_put ?_ (by repeat (first | assumption | exact upd_same _ _ _ | refine (upd_other _ _ (by omega)).trans ?_ | refine hsL9 _ _ ?_ | refine hsL1 _ _ ?_ | refine hsL0 _ _ ?_))))) hq18_8) rfl rfl rfl ⟨rfl, rfl, Nat.le_refl _⟩) ?_
          refine Draw.step [(92, some 8)] rfl (by kernel_rfl) rfl (fun kq hkq => AOp.fieldP (hp18_8.sub (by (repeat (first | exact sub_refl _ | assumption | refine sub_upd' ?_ (by ((repeat refine (upd_other _ _ (by omega)).trans ?_); first | exact hf _ (by omega) | exact hfL0 _ (by omega) | exact hfL1 _ (by omega) | exact hfL9 _ (by omega))) | refine sub_trans ?_ hsL9 | refine sub_trans ?_ hsL1 | refine sub_trans ?_ hsL0 | refine sub_over (by assumption) | refine sub_over0 ?_ | refine sub_trans (sub_same (by assumption)) ?_ | refine sub_dropu ?_ | refine sub_drop ?_ | refine sub_put ?_ (by repeat (first | assumption | exact upd_same _ _ _ | refine (upd_other _ _ (by omega)).trans ?_ | refine hsL9 _ _ ?_ | refine hsL1 _ _ ?_ | refine hsL0 _ _ ?_)))))) rfl (by decide) (Nat.le_of_ble_eq_true rfl) rfl ⟨rfl, rfl, Nat.le_refl _⟩) ?_
          refine Draw.step [(93, some 9)] rfl (by kernel_rfl) rfl (fun kq hkq => AOp.loadP1 (hp18_8.sub (by (repeat (first | exact sub_refl _ | assumption | refine sub_upd' ?_ (by ((repeat refine (upd_other _ _ (by omega)).trans ?_); first | exact hf _ (by omega) | exact hfL0 _ (by omega) | exact hfL1 _ (by omega) | exact hfL9 _ (by omega))) | refine sub_trans ?_ hsL9 | refine sub_trans ?_ hsL1 | refine sub_trans ?_ hsL0 | refine sub_over (by assumption) | refine sub_over0 ?_ | refine sub_trans (sub_same (by assumption)) ?_ | refine sub_dropu ?_ | refine sub_drop ?_ | refine sub_put ?_ (by repeat (first | assumption | exact upd_same _ _ _ | refine (upd_other _ _ (by omega)).trans ?_ | refine hsL9 _ _ ?_ | refine hsL1 _ _ ?_ | refine hsL0 _ _ ?_)))))) rfl rfl rfl ⟨rfl, rfl, Nat.le_refl _⟩) ?_
          refine Draw.step [(87, some 3), (89, some 5), (94, some 10)] rfl (by kernel_rfl) rfl (fun kq hkq => AOp.call' rfl rfl rfl (Sound_b _ _ (zoneOf (colOf rows i1)) hzk (vs.length : Int) (cols.getD i1 cD).kind) (fun _ _ _ h => h)) ?_
          refine Draw.step [(95, some 11)] rfl (by kernel_rfl) rfl (fun kq hkq => AOp.un' rfl rfl rfl ⟨rfl, rfl, Nat.le_refl _⟩) ?_
          refine Draw.step [(96, some 12)] rfl (by kernel_rfl) rfl (fun kq hkq => AOp.move' (.inl rfl) rfl ⟨rfl, rfl, Nat.le_refl _⟩) ?_
          refine Draw.gd [(11, none), (97, some 13)] rfl (by kernel_rfl) (wantF rfl rfl rfl) (fun kq hkq hc => AOp.slots [(11, _)] (.cons rfl .nil) (AOp.move' (.inl rfl) rfl ⟨rfl, rfl, Nat.le_refl _⟩)) ?_
          refine Draw.gd [(13, none), (97, some 13)] rfl (by kernel_rfl) (wantF rfl rfl rfl) (fun kq hkq hc => AOp.slots [(13, _)] (.cons rfl .nil) (AOp.move' (.inl rfl) rfl ⟨rfl, rfl, Nat.le_refl _⟩)) ?_
          refine Draw.gd [(98, some 14), (99, some 15), (97, some 13)] rfl (by kernel_rfl) (wantF rfl rfl rfl) (fun kq hkq hc => AOp.slots [(98, _), (99, _)] (.cons (gvT rfl hc) (.cons (gvT rfl hc) .nil)) (AOp.indexP (aslcAt_sub (by (repeat (first | exact sub_refl _ | assumption | refine sub_upd' ?_ (by ((repeat refine (upd_other _ _ (by omega)).trans ?_); first | exact hf _ (by omega) | exact hfL0 _ (by omega) | exact hfL1 _ (by omega) | exact hfL9 _ (by omega))) | refine sub_trans ?_ hsL9 | refine sub_trans ?_ hsL1 | refine sub_trans ?_ hsL0 | refine sub_over (by assumption) | refine sub_over0 ?_ | refine sub_trans (sub_same (by assumption)) ?_ | refine sub_dropu ?_ | refine sub_drop ?_ | refine sub_put ?_ (by repeat (first | assumption | exact upd_same _ _ _ | refine (upd_other _ _ (by omega)).trans ?_ | refine hsL9 _ _ ?_ | refine hsL1 _ _ ?_ | refine hsL0 _ _ ?_))))) hq18_16) rfl rfl rfl ⟨rfl, rfl, Nat.le_refl _⟩)) ?_
          refine Draw.gd [(100, some 16), (97, some 13)] rfl (by kernel_rfl) (wantF rfl rfl rfl) (fun kq hkq hc => AOp.slots [(100, _)] (.cons (gvT rfl hc) .nil) (AOp.fieldP (hp18_16.sub (by (repeat (first | exact sub_refl _ | assumption | refine sub_upd' ?_ (by ((repeat refine (upd_other _ _ (by omega)).trans ?_); first | exact hf _ (by omega) | exact hfL0 _ (by omega) | exact hfL1 _ (by omega) | exact hfL9 _ (by omega))) | refine sub_trans ?_ hsL9 | refine sub_trans ?_ hsL1 | refine sub_trans ?_ hsL0 | refine sub_over (by assumption) | refine sub_over0 ?_ | refine sub_trans (sub_same (by assumption)) ?_ | refine sub_dropu ?_ | refine sub_drop ?_ | refine sub_put ?_ (by repeat (first | assumption | exact upd_same _ _ _ | refine (upd_other _ _ (by omega)).trans ?_ | refine hsL9 _ _ ?_ | refine hsL1 _ _ ?_ | refine hsL0 _ _ ?_)))))) rfl (by decide) (Nat.le_of_ble_eq_true rfl) rfl ⟨rfl, rfl, Nat.le_refl _⟩)) ?_
          refine Draw.gd [(101, some 17), (97, some 13)] rfl (by kernel_rfl) (wantF rfl rfl rfl) (fun kq hkq hc => AOp.slots [(101, _)] (.cons (gvT rfl hc) .nil) (AOp.loadP1 (hp18_16.sub (by (repeat (first | exact sub_refl _ | assumption | refine sub_upd' ?_ (by ((repeat refine (upd_other _ _ (by omega)).trans ?_); first | exact hf _ (by omega) | exact hfL0 _ (by omega) | exact hfL1 _ (by omega) | exact hfL9 _ (by omega))) | refine sub_trans ?_ hsL9 | refine sub_trans ?_ hsL1 | refine sub_trans ?_ hsL0 | refine sub_over (by assumption) | refine sub_over0 ?_ | refine sub_trans (sub_same (by assumption)) ?_ | refine sub_dropu ?_ | refine sub_drop ?_ | refine sub_put ?_ (by repeat (first | assumption | exact upd_same _ _ _ | refine (upd_other _ _ (by omega)).trans ?_ | refine hsL9 _ _ ?_ | refine hsL1 _ _ ?_ | refine hsL0 _ _ ?_)))))) rfl rfl rfl ⟨rfl, rfl, Nat.le_refl _⟩)) ?_
          refine Draw.gd [(102, some 18), (97, some 13)] rfl (by kernel_rfl) (wantF rfl rfl rfl) (fun kq hkq hc => AOp.slots [(102, _)] (.cons (gvT rfl hc) .nil) (AOp.move' (.inl rfl) rfl ⟨rfl, rfl, Nat.le_refl _⟩)) ?_
          refine Draw.gd [(11, none), (103, some 19)] rfl (by kernel_rfl) (wantGT rfl rfl rfl) (fun kq hkq hc => AOp.slots [(11, _)] (.cons rfl .nil) (AOp.move' (.inl rfl) rfl ⟨rfl, rfl, Nat.le_refl _⟩)) ?_
          refine Draw.gd [(13, none), (103, some 19)] rfl (by kernel_rfl) (wantGT rfl rfl rfl) (fun kq hkq hc => AOp.slots [(13, _)] (.cons rfl .nil) (AOp.move' (.inl rfl) rfl ⟨rfl, rfl, Nat.le_refl _⟩)) ?_
          refine Draw.gd [(104, some 20), (105, some 21), (103, some 19)] rfl (by kernel_rfl) (wantGT rfl rfl rfl) (fun kq hkq hc => AOp.slots [(104, _), (105, _)] (.cons (gvT rfl hc) (.cons (gvT rfl hc) .nil)) (AOp.indexP (aslcAt_sub (by (repeat (first | exact sub_refl _ | assumption | refine sub_upd' ?_ (by ((repeat refine (upd_other _ _ (by omega)).trans ?_); first | exact hf _ (by omega) | exact hfL0 _ (by omega) | exact hfL1 _ (by omega) | exact hfL9 _ (by omega))) | refine sub_trans ?_ hsL9 | refine sub_trans ?_ hsL1 | refine sub_trans ?_ hsL0 | refine sub_over (by assumption) | refine sub_over0 ?_ | refine sub_trans (sub_same (by assumption)) ?_ | refine sub_dropu ?_ | refine sub_drop ?_ | refine sub_put ?_ (by repeat (first | assumption | exact upd_same _ _ _ | refine (upd_other _ _ (by omega)).trans ?_ | refine hsL9 _ _ ?_ | refine hsL1 _ _ ?_ | refine hsL0 _ _ ?_))))) hq18_22) rfl rfl rfl ⟨rfl, rfl, Nat.le_refl _⟩)) ?_
          refine Draw.gd [(106, some 22), (103, some 19)] rfl (by kernel_rfl) (wantGT rfl rfl rfl) (fun kq hkq hc => AOp.slots [(106, _)] (.cons (gvT rfl hc) .nil) (AOp.fieldP (hp18_22.sub (by (repeat (first | exact sub_refl _ | assumption | refine sub_upd' ?_ (by ((repeat refine (upd_other _ _ (by omega)).trans ?_); first | exact hf _ (by omega) | exact hfL0 _ (by omega) | exact hfL1 _ (by omega) | exact hfL9 _ (by omega))) | refine sub_trans ?_ hsL9 | refine sub_trans ?_ hsL1 | refine sub_trans ?_ hsL0 | refine sub_over (by assumption) | refine sub_over0 ?_ | refine sub_trans (sub_same (by assumption)) ?_ | refine sub_dropu ?_ | refine sub_drop ?_ | refine sub_put ?_ (by repeat (first | assumption | exact upd_same _ _ _ | refine (upd_other _ _ (by omega)).trans ?_ | refine hsL9 _ _ ?_ | refine hsL1 _ _ ?_ | refine hsL0 _ _ ?_)))))) rfl (by decide) (Nat.le_of_ble_eq_true rfl) rfl ⟨rfl, rfl, Nat.le_refl _⟩)) ?_
          refine Draw.gd [(107, some 23), (103, some 19)] rfl (by kernel_rfl) (wantGT rfl rfl rfl) (fun kq hkq hc => AOp.slots [(107, _)] (.cons (gvT rfl hc) .nil) (AOp.loadPF (vv (zoneOf (colOf rows i1)).min) (hp18_22.sub (by (repeat (first | exact sub_refl _ | assumption | refine sub_upd' ?_ (by ((repeat refine (upd_other _ _ (by omega)).trans ?_); first | exact hf _ (by omega) | exact hfL0 _ (by omega) | exact hfL1 _ (by omega) | exact hfL9 _ (by omega))) | refine sub_trans ?_ hsL9 | refine sub_trans ?_ hsL1 | refine sub_trans ?_ hsL0 | refine sub_over (by assumption) | refine sub_over0 ?_ | refine sub_trans (sub_same (by assumption)) ?_ | refine sub_dropu ?_ | refine sub_drop ?_ | refine sub_put ?_ (by repeat (first | assumption | exact upd_same _ _ _ | refine (upd_other _ _ (by omega)).trans ?_ | refine hsL9 _ _ ?_ | refine hsL1 _ _ ?_ | refine hsL0 _ _ ?_)))))) rfl rfl (by show 2 + 3 ≤ 8; decide) (by decide) rfl rfl ⟨rfl, rfl, Nat.le_refl _⟩)) ?_
          refine Draw.gd [(0, none), (103, some 19)] rfl (by kernel_rfl) (wantGT rfl rfl rfl) (fun kq hkq hc => AOp.slots [(0, _)] (.cons rfl .nil) (AOp.move' (.inl rfl) rfl ⟨rfl, rfl, Nat.le_refl _⟩)) ?_
          refine Draw.gd [(13, none), (103, some 19)] rfl (by kernel_rfl) (wantGT rfl rfl rfl) (fun kq hkq hc => AOp.slots [(13, _)] (.cons rfl .nil) (AOp.move' (.inl rfl) rfl ⟨rfl, rfl, Nat.le_refl _⟩)) ?_
          refine Draw.gd [(109, some 25), (110, some 26), (103, some 19)] rfl (by kernel_rfl) (wantGT rfl rfl rfl) (fun kq hkq hc => AOp.slots [(109, _), (110, _)] (.cons (gvT rfl hc) (.cons (gvT rfl hc) .nil)) (AOp.indexP (aslcAt_sub (by (repeat (first | exact sub_refl _ | assumption | refine sub_upd' ?_ (by ((repeat refine (upd_other _ _ (by omega)).trans ?_); first | exact hf _ (by omega) | exact hfL0 _ (by omega) | exact hfL1 _ (by omega) | exact hfL9 _ (by omega))) | refine sub_trans ?_ hsL9 | refine sub_trans ?_ hsL1 | refine sub_trans ?_ hsL0 | refine sub_over (by assumption) | refine sub_over0 ?_ | refine sub_trans (sub_same (by assumption)) ?_ | refine sub_dropu ?_ | refine sub_drop ?_ | refine sub_put ?_ (by repeat (first | assumption | exact upd_same _ _ _ | refine (upd_other _ _ (by omega)).trans ?_ | refine hsL9 _ _ ?_ | refine hsL1 _ _ ?_ | refine hsL0 _ _ ?_))))) hq18_27) rfl rfl rfl ⟨rfl, rfl, Nat.le_refl _⟩)) ?_
          refine Draw.gd [(111, some 27), (103, some 19)] rfl (by kernel_rfl) (wantGT rfl rfl rfl) (fun kq hkq hc => AOp.slots [(111, _)] (.cons (gvT rfl hc) .nil) (AOp.fieldP (hp18_27.sub (by (repeat (first | exact sub_refl _ | assumption | refine sub_upd' ?_ (by ((repeat refine (upd_other _ _ (by omega)).trans ?_); first | exact hf _ (by omega) | exact hfL0 _ (by omega) | exact hfL1 _ (by omega) | exact hfL9 _ (by omega))) | refine sub_trans ?_ hsL9 | refine sub_trans ?_ hsL1 | refine sub_trans ?_ hsL0 | refine sub_over (by assumption) | refine sub_over0 ?_ | refine sub_trans (sub_same (by assumption)) ?_ | refine sub_dropu ?_ | refine sub_drop ?_ | refine sub_put ?_ (by repeat (first | assumption | exact upd_same _ _ _ | refine (upd_other _ _ (by omega)).trans ?_ | refine hsL9 _ _ ?_ | refine hsL1 _ _ ?_ | refine hsL0 _ _ ?_)))))) rfl (by decide) (Nat.le_of_ble_eq_true rfl) rfl ⟨rfl, rfl, Nat.le_refl _⟩)) ?_
          refine Draw.gd [(112, some 28), (103, some 19)] rfl (by kernel_rfl) (wantGT rfl rfl rfl) (fun kq hkq hc => AOp.slots [(112, _)] (.cons (gvT rfl hc) .nil) (AOp.loadP1 (hp18_27.sub (by (repeat (first | exact sub_refl _ | assumption | refine sub_upd' ?_ (by ((repeat refine (upd_other _ _ (by omega)).trans ?_); first | exact hf _ (by omega) | exact hfL0 _ (by omega) | exact hfL1 _ (by omega) | exact hfL9 _ (by omega))) | refine sub_trans ?_ hsL9 | refine sub_trans ?_ hsL1 | refine sub_trans ?_ hsL0 | refine sub_over (by assumption) | refine sub_over0 ?_ | refine sub_trans (sub_same (by assumption)) ?_ | refine sub_dropu ?_ | refine sub_drop ?_ | refine sub_put ?_ (by repeat (first | assumption | exact upd_same _ _ _ | refine (upd_other _ _ (by omega)).trans ?_ | refine hsL9 _ _ ?_ | refine hsL1 _ _ ?_ | refine hsL0 _ _ ?_)))))) rfl rfl rfl ⟨rfl, rfl, Nat.le_refl _⟩)) ?_
          refine Draw.gd [(108, some 24), (113, some 29), (103, some 19)] rfl (by kernel_rfl) (wantGT rfl rfl rfl) (fun kq hkq hc => AOp.slots [(108, _), (113, _)] (.cons (gvT rfl hc) (.cons (gvT rfl hc) .nil)) (AOp.call' rfl rfl rfl (right_val 3 _ _ (zoneOf (colOf rows i1)).min (cols.getD i1 cD).kind) (fun _ _ _ h => h))) ?_
          refine Draw.gd [(114, some 30), (103, some 19)] rfl (by kernel_rfl) (wantGT rfl rfl rfl) (fun kq hkq hc => AOp.slots [(114, _)] (.cons (gvT rfl hc) .nil) (AOp.un' rfl rfl rfl ⟨rfl, rfl, Nat.le_refl _⟩)) ?_
          refine Draw.gd [(103, some 19), (115, some 31), (97, some 13)] rfl (by kernel_rfl) (wantF rfl rfl rfl) (fun kq hkq hc => AOp.pickAnd rfl rfl (gvE rfl hc) (fun hb => gvE rfl (and_mk hc hb)) ⟨rfl, rfl, Nat.le_refl _⟩) ?_
          refine Draw.step [(97, some 13), (116, some 32)] rfl (by kernel_rfl) rfl (fun kq hkq => AOp.pickOr rfl rfl rfl (fun hb => gvE rfl (t_not hb)) ⟨rfl, rfl, Nat.le_refl _⟩) ?_
          refine Draw.done fun kq hkq => ?_
          show aOps _ _ _ _ [] ⟨_, _, _⟩
          refine aOps_end ?_
          show ACode _ _ _ _ _ _
          refine ACode.cond rfl (fun c5 => absurd c5 (by rw [h5]; decide)) (fun c5 => ?_)
          refine ACode.skip ?_
          show ACode _ _ _ _ _ _
          refine ACode.region' [0, 1, 2] (by kernel_rfl) rfl ?_
          refine aOps_1 rfl rfl rfl (AOp.move' (.inl rfl) rfl ?_)
          refine aOps_1 rfl rfl rfl (AOp.add rfl rfl rfl (i64_wrap (by omega) (by omega)) ?_)
          refine aOps_1 rfl rfl rfl (AOp.move' (.inr rfl) rfl ?_)
          refine aOps_end ?_
          first | refine thenA_n ?_ | simp only [thenA, blockA, if_true]
          exact NextR.mk (by omega) (by omega) (.cons rfl (.cons rfl (.cons rfl .nil))) (.cons rfl (.cons rfl (.cons rfl (.cons rfl (.cons rfl (.cons rfl (.cons rfl (.cons rfl (.cons rfl (.cons rfl (.cons rfl (.cons rfl (.cons rfl .nil))))))))))))) (by exact hsL9) trivial
        · try simp only [decide_eq_true_eq, decide_eq_false_iff_not, beq_iff_eq, beq_eq_false_iff_ne, ne_eq, bne_iff_ne, Bool.not_eq_true', Bool.not_eq_false', Int.not_lt, Int.not_le, gt_iff_lt, ge_iff_le, bne_eq_false_iff_eq, Bool.not_eq_eq_eq_not, Bool.not_true, Bool.not_false] at c4
          obtain rfl : i1 = cols.length := by omega
          refine ACode.exit ?_
          show ACode _ _ _ _ _ _
          refine ACode.seq ?_
          refine ACode.region' [0, 1, 2, 3, 4, 5, 6, 7, 8, 9, 10, 11, 12, 13, 14, 15] (by kernel_rfl) rfl ?_
          refine aOps_1 rfl rfl rfl ?_
          refine AOp.loadAll (b := ?b5) (v := pv xo xc xA xl xcc xB xm xd) rfl rfl ?hn5 ?hv5 ?hw5 ?hz5 ?hR5
          (case hn5 => repeat (first | assumption | exact upd_same _ _ _ | refine (upd_other _ _ (by omega)).trans ?_ | refine hsL1 _ _ ?_ | refine hsL0 _ _ ?_))
          (case hv5 => rfl)
          (case hw5 => rfl)
          (case hz5 => first | rfl | (simp; done))
          refine aOps_1 rfl rfl rfl (AOp.move' (.inl rfl) rfl ?_)
          refine aOps_1 rfl rfl rfl (AOp.len' rfl rfl ?_)
          refine aOps_1 rfl rfl rfl (AOp.move' (.inl rfl) rfl ?_)
          refine aOps_q rfl rfl rfl (AOp.call' rfl rfl rfl (Refutes_n _ _ (by repeat (first | assumption | exact upd_same _ _ _ | refine (upd_other _ _ (by omega)).trans ?_ | refine hsL1 _ _ ?_ | refine hsL0 _ _ ?_)) (by repeat (first | assumption | exact upd_same _ _ _ | refine (upd_other _ _ (by omega)).trans ?_ | refine hsL1 _ _ ?_ | refine hsL0 _ _ ?_)) p _ (hp.sub (by (repeat (first | exact sub_refl _ | assumption | refine sub_upd' ?_ (by ((repeat refine (upd_other _ _ (by omega)).trans ?_); first | exact hf _ (by omega) | exact hfL0 _ (by omega) | exact hfL1 _ (by omega))) | refine sub_trans ?_ hsL1 | refine sub_trans ?_ hsL0 | refine sub_over (by assumption) | refine sub_over0 ?_ | refine sub_trans (sub_same (by assumption)) ?_ | refine sub_dropu ?_ | refine sub_drop ?_ | refine sub_put ?_ (by repeat (first | assumption | exact upd_same _ _ _ | refine (upd_other _ _ (by omega)).trans ?_ | refine hsL1 _ _ ?_ | refine hsL0 _ _ ?_)))))) hty (vs.length : Int) (zonesOf rows cols.length) (some ⟨kL0, 0, some 1⟩) cols.length cols.length (zonesOf_len _ _) (slcCells_grow (n := kL0) (b := gZs (zonesOf rows cols.length)) (by repeat (first | assumption | exact upd_same _ _ _ | refine (upd_other _ _ (by omega)).trans ?_ | refine hsL1 _ _ ?_ | refine hsL0 _ _ ?_)) rfl (by show _ = (zs8 _).length; rw [zs8_len, zonesOf_len])) (by omega)) (fun _ _ _ h => h)) (fun kq hkq => ?_)
          refine aOps_1 rfl rfl rfl (AOp.un' rfl rfl rfl ?_)
          refine aOps_1 rfl rfl rfl (AOp.move' (.inl rfl) rfl ?_)
          refine aOps_gd0 rfl rfl (wantF rfl rfl rfl) (fun hc => AOp.slots [(5, _)] (.cons rfl .nil) ((by refine AOp.loadAll (b := ?b6) (v := pv xo xc xA xl xcc xB xm xd) rfl rfl ?hn6 ?hv6 ?hw6 ?hz6 ?hR6; (case hn6 => repeat (first | assumption | exact upd_same _ _ _ | refine (upd_other _ _ (by omega)).trans ?_ | refine hsL1 _ _ ?_ | refine hsL0 _ _ ?_)); (case hv6 => rfl); (case hw6 => rfl); (case hz6 => first | rfl | (simp; done)); exact ⟨rfl, rfl, rfl⟩))) ?_
          refine aOps_gd0 rfl rfl (wantF rfl rfl rfl) (fun hc => AOp.slots [(10, _)] (.cons rfl .nil) (AOp.move' (.inl rfl) rfl ⟨rfl, rfl, rfl⟩)) ?_
          refine aOps_gd0 rfl rfl (wantF rfl rfl rfl) (fun hc => AOp.slots [(12, _)] (.cons rfl .nil) (AOp.move' (.inl rfl) rfl ⟨rfl, rfl, rfl⟩)) ?_
          refine aOps_gd rfl rfl (wantF rfl rfl rfl) (fun hc => AOp.slots [(125, _), (126, _), (127, _)] (.cons (gvT rfl hc) (.cons (gvT rfl hc) (.cons (gvT rfl hc) .nil))) (AOp.call' rfl rfl rfl (Refutes_n _ _ (by repeat (first | assumption | exact upd_same _ _ _ | refine (upd_other _ _ (by omega)).trans ?_ | refine hsL1 _ _ ?_ | refine hsL0 _ _ ?_)) (by repeat (first | assumption | exact upd_same _ _ _ | refine (upd_other _ _ (by omega)).trans ?_ | refine hsL1 _ _ ?_ | refine hsL0 _ _ ?_)) p _ (hp.sub (by (repeat (first | exact sub_refl _ | assumption | refine sub_upd' ?_ (by ((repeat refine (upd_other _ _ (by omega)).trans ?_); first | exact hf _ (by omega) | exact hfL0 _ (by omega) | exact hfL1 _ (by omega))) | refine sub_trans ?_ hsL1 | refine sub_trans ?_ hsL0 | refine sub_over (by assumption) | refine sub_over0 ?_ | refine sub_trans (sub_same (by assumption)) ?_ | refine sub_dropu ?_ | refine sub_drop ?_ | refine sub_put ?_ (by repeat (first | assumption | exact upd_same _ _ _ | refine (upd_other _ _ (by omega)).trans ?_ | refine hsL1 _ _ ?_ | refine hsL0 _ _ ?_)))))) hty (0 : Int) (zonesOf (rows.take 0) cols.length) (some ⟨kL0 + 1, 0, some 1⟩) cols.length cols.length (zonesOf_len _ _) (slcCells_grow (n := kL0 + 1) (b := gZs (zonesOf (rows.take 0) cols.length)) (by repeat (first | assumption | exact upd_same _ _ _ | refine (upd_other _ _ (by omega)).trans ?_ | refine hsL1 _ _ ?_ | refine hsL0 _ _ ?_)) rfl (by show _ = (zs8 _).length; rw [zs8_len, zonesOf_len])) (by omega)) (fun _ _ _ h => h))) (fun kq hkq => ?_)
          refine aOps_1 rfl rfl rfl (AOp.pickOr rfl rfl rfl (fun hb => gvE rfl (t_not hb)) ?_)
          refine aOps_1 rfl rfl rfl (AOp.move' (.inl rfl) rfl ?_)
          refine aOps_gd rfl rfl (wantT rfl rfl rfl) (fun hc => AOp.slots [] .nil (AOp.call' rfl rfl rfl (awake17 _ _ (by repeat (first | assumption | exact upd_same _ _ _ | refine (upd_other _ _ (by omega)).trans ?_ | refine hsL1 _ _ ?_ | refine hsL0 _ _ ?_)) (by repeat (first | assumption | exact upd_same _ _ _ | refine (upd_other _ _ (by omega)).trans ?_ | refine hsL1 _ _ ?_ | refine hsL0 _ _ ?_))) (fun _ _ _ h => h))) (fun kq hkq => ?_)
          refine aOps_1 rfl rfl rfl (AOp.pickAnd rfl rfl rfl (fun hb => gvE rfl hb) ?_)
          refine aOps_1 rfl rfl rfl (AOp.move' (.inr rfl) rfl ?_)
          refine aOps_end ?_
          show ACode _ _ _ _ _ _
          refine ACode.ret ?_
          have hfin : (!(!((mayR (vs.length : Int) (zonesOf rows cols.length) p)).t) || !((mayR (0 : Int) (zonesOf (rows.take 0) cols.length) p)).t) = true := by { rw [show ((mayR (0 : Int) (zonesOf (rows.take 0) cols.length) p)).t = false from rfl]; simp }
          exact RetQ.one rfl rfl (by (repeat (first | exact sub_refl _ | assumption | refine sub_upd' ?_ (by ((repeat refine (upd_other _ _ (by omega)).trans ?_); first | exact hf _ (by omega) | exact hfL0 _ (by omega) | exact hfL1 _ (by omega))) | refine sub_trans ?_ hsL1 | refine sub_trans ?_ hsL0 | refine sub_over (by assumption) | refine sub_over0 ?_ | refine sub_trans (sub_same (by assumption)) ?_ | refine sub_dropu ?_ | refine sub_drop ?_ | refine sub_put ?_ (by repeat (first | assumption | exact upd_same _ _ _ | refine (upd_other _ _ (by omega)).trans ?_ | refine hsL1 _ _ ?_ | refine hsL0 _ _ ?_))))) stays (fun hk => ⟨by rw [hfin]; rfl, rfl, by omega⟩)
end

end Go.Proofs.YtnciojaecelhmaaDoor
