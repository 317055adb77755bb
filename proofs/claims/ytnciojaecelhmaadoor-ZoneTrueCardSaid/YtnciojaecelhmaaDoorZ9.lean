/- Contracts over the abstract states: columns; the truth of any row may be, by the rows' zones. -/
import Derived.Test.YtnciojaecelhmaaDoorZR
set_option linter.unusedVariables false
set_option linter.unusedSimpArgs false
set_option maxRecDepth 100000
namespace Go.Proofs.YtnciojaecelhmaaDoor
open Go Go.Ab

abbrev gV (l : List Val) : Blk := { cells := vals3 l, elem := 43, kind := .grow, esz := 3 }
abbrev gZs (l : List Zn) : Blk := { cells := zs8 l, elem := 45, kind := .grow, esz := 8 }
theorem zs8_one (zs : List Zn) : ∀ u ∈ zs8 zs, u.oneCell' = true := by
  intro u hu
  rw [zs8, List.mem_flatMap] at hu
  obtain ⟨z, _, hv⟩ := hu
  have hv : u ∈ ([.int .i64 z.nulls, .bool z.some, .int .i64 z.min.kind, .int .i64 z.min.n, .string z.min.s, .int .i64 z.max.kind, .int .i64 z.max.n, .string z.max.s] : List Value) := hv
  simp only [List.mem_cons, List.not_mem_nil, or_false] at hv
  rcases hv with rfl | rfl | rfl | rfl | rfl | rfl | rfl | rfl <;> rfl
theorem May_n (H : Hp) (k : Nat) (ht : H 0 = some shBlk) (ht1 : H 1 = some allBlk) (p : Pd) (v : Value) (hp : PdV H p v) (hty : p.tiny) (rows : Int) (zs : List Zn) (Z : Option Addr) (n zc : Nat) (hn : zs.length = n) (hZ : slcCells H 8 (.slice Z n zc) = some (zs8 zs)) (hzl : n ≤ 1000) : ACalls Tryd.prog 3 17 [v, .int .i64 rows, .slice Z n zc] H k (Same H k (t3v (mayR rows zs p))) := by
  subst hn
  exact May_b H k ht ht1 p v hp hty rows zs Z zc hZ hzl
theorem Refutes_n (H : Hp) (k : Nat) (ht : H 0 = some shBlk) (ht1 : H 1 = some allBlk) (p : Pd) (v : Value) (hp : PdV H p v) (hty : p.tiny) (rows : Int) (zs : List Zn) (Z : Option Addr) (n zc : Nat) (hn : zs.length = n) (hZ : slcCells H 8 (.slice Z n zc) = some (zs8 zs)) (hzl : n ≤ 1000) : ACalls Tryd.prog 3 18 [v, .int .i64 rows, .slice Z n zc] H k (Same H k (.bool (!(mayR rows zs p).t))) := by
  subst hn
  exact Refutes_b H k ht ht1 p v hp hty rows zs Z zc hZ hzl
theorem zone_snoc8 (rows : List (List Val)) (i : Nat) : zs8 (zonesOf rows (i + 1)) = zs8 (zonesOf rows i) ++ zs8 [zoneOf (colOf rows i)] := by
  rw [zonesOf_succ, zs8_snoc]
  rfl
theorem col_snoc {rows : List (List Val)} {x i : Nat} (h : i < rows.length) : vals3 ((colOf rows x).take (i + 1)) = vals3 ((colOf rows x).take i) ++ vals3 [(rows.getD i []).getD x vD] := by
  rw [colOf_take h, vals3_snoc]
  rfl
section
variable (H : Hp) (k : Nat)

theorem Column_b (rows : List (List Val)) (vs : List Value) (R : Option Addr) (rc : Nat) (hS : SLC H 1 R vs.length rc vs) (hRw : Rws H vs rows) (x : Nat) (hw : ∀ row ∈ rows, x < row.length) (hl : vs.length ≤ 1000) : ACalls Tryd.prog 3 21 [.slice R vs.length rc, .int .i64 (x : Int)] H k (NewS H k 43 3 (colOf rows x).length (vals3 (colOf rows x))) := by
  refine ACalls.fresh fun hf => ?_
  refine ACalls.body Tryd.func21 rfl (Nat.le_of_ble_eq_true rfl) ?_
  have hrl := hRw.len
  refine ACode.seq ?_
  refine ACode.region' [0] (by kernel_rfl) rfl ?_
  refine aOps_1 rfl rfl rfl (AOp.move' (.inr rfl) rfl ?_)
  refine aOps_end ?_
  show ACode _ _ _ _ _ _
  refine ACode.seq ?_
  refine ACode.region' [0] (by kernel_rfl) rfl ?_
  refine aOps_1 rfl rfl rfl (AOp.move' (.inr rfl) rfl ?_)
  refine aOps_end ?_
  show ACode _ _ _ _ _ _
  refine ACode.seq ?_
  refine ACode.seq ?_
  refine ACode.adopt (t := 5) 43 3 (by decide) rfl ?_
  refine ACode.region' [0] (by kernel_rfl) rfl ?_
  refine aOps_1 rfl rfl rfl (AOp.move' (.inr rfl) rfl ?_)
  refine aOps_end ?_
  show ACode _ _ _ _ _ _
  refine ACode.block ?_
  refine ACode.count (fun i => [(6, .int .i64 (i : Int)), (5, .slice (some ⟨k, 0, some 1⟩) i i)]) [(0, _), (1, _), (4, _)] (fun i => upd H k (some (gV ((colOf rows x).take i)))) (vs.length) (fun _ => True) (.cons rfl (.cons rfl .nil)) (.cons rfl (.cons rfl (.cons rfl .nil))) (by (repeat (first | exact sub_refl _ | assumption | refine sub_upd' ?_ (by ((repeat refine (upd_other _ _ (by omega)).trans ?_); first | exact hf _ (by omega))) | refine sub_over (by assumption) | refine sub_over0 ?_ | refine sub_trans (sub_same (by assumption)) ?_ | refine sub_dropu ?_ | refine sub_drop ?_ | refine sub_put ?_ (by repeat (first | assumption | exact upd_same _ _ _ | refine (upd_other _ _ (by omega)).trans ?_))))) trivial (fun i0 kL0 HL0 hiL0 hkL0 hsL0 hfL0 hxL0 => ?_)
  show ACode _ _ _ _ _ ⟨_, _, _⟩
  refine ACode.seq ?_
  refine ACode.seq ?_
  refine ACode.region' [0, 1, 2, 3] (by kernel_rfl) rfl ?_
  refine aOps_1 rfl rfl rfl (AOp.move' (.inl rfl) rfl ?_)
  refine aOps_1 rfl rfl rfl (AOp.move' (.inl rfl) rfl ?_)
  refine aOps_1 rfl rfl rfl (AOp.len' rfl rfl ?_)
  refine aOps_1 rfl rfl rfl (AOp.bin' rfl rfl rfl rfl ?_)
  refine aOps_end ?_
  show ACode _ _ _ _ _ _
  refine ACode.cond rfl (fun c0 => ?_) (fun c0 => ?_)
  · try simp only [decide_eq_true_eq, decide_eq_false_iff_not, beq_iff_eq, beq_eq_false_iff_ne, ne_eq, bne_iff_ne, Bool.not_eq_true', Bool.not_eq_false', Int.not_lt, Int.not_le, gt_iff_lt, ge_iff_le, bne_eq_false_iff_eq, Bool.not_eq_eq_eq_not, Bool.not_true, Bool.not_false] at c0
    refine ACode.skip ?_
    show ACode _ _ _ _ _ _
    refine ACode.seq ?_
    refine ACode.block ?_
    obtain ⟨A1, d1, e1, hc1⟩ := hRw.at_ i0 (by omega)
    have hm1 : rows.getD i0 [] ∈ rows := by { rw [List.getD_eq_getElem?_getD, List.getElem?_eq_getElem (by omega)]; exact List.getElem_mem _ }
    have hx1 := hw _ hm1
    obtain ⟨n5_3, o5_3, s5_3, hq5_3, hp5_3⟩ := slcElV hS.cells (show i0 < vs.length by omega)
    obtain ⟨n5_6, o5_6, s5_6, hq5_6, hp5_6⟩ := slcV hc1.cells hx1
    refine ACode.region' [0, 1, 2, 3, 4, 5, 6, 7, 8, 9, 10] (by kernel_rfl) rfl ?_
    refine aOps_1 rfl rfl rfl (AOp.move' (.inl rfl) rfl ?_)
    refine aOps_1 rfl rfl rfl (AOp.move' (.inl rfl) rfl ?_)
    refine aOps_1 rfl rfl rfl (AOp.move' (.inl rfl) rfl ?_)
    refine aOps_1 rfl rfl rfl (AOp.indexP (aslcAt_sub (by (repeat (first | exact sub_refl _ | assumption | refine sub_upd' ?_ (by ((repeat refine (upd_other _ _ (by omega)).trans ?_); first | exact hf _ (by omega) | exact hfL0 _ (by omega))) | refine sub_trans ?_ hsL0 | refine sub_over (by assumption) | refine sub_over0 ?_ | refine sub_trans (sub_same (by assumption)) ?_ | refine sub_dropu ?_ | refine sub_drop ?_ | refine sub_put ?_ (by repeat (first | assumption | exact upd_same _ _ _ | refine (upd_other _ _ (by omega)).trans ?_ | refine hsL0 _ _ ?_))))) hq5_3) rfl rfl rfl ?_)
    refine aOps_1 rfl rfl rfl (AOp.loadP0 (hp5_3.sub (by (repeat (first | exact sub_refl _ | assumption | refine sub_upd' ?_ (by ((repeat refine (upd_other _ _ (by omega)).trans ?_); first | exact hf _ (by omega) | exact hfL0 _ (by omega))) | refine sub_trans ?_ hsL0 | refine sub_over (by assumption) | refine sub_over0 ?_ | refine sub_trans (sub_same (by assumption)) ?_ | refine sub_dropu ?_ | refine sub_drop ?_ | refine sub_put ?_ (by repeat (first | assumption | exact upd_same _ _ _ | refine (upd_other _ _ (by omega)).trans ?_ | refine hsL0 _ _ ?_)))))) rfl rfl rfl ?_)
    rw [e1]
    refine aOps_1 rfl rfl rfl (AOp.move' (.inl rfl) rfl ?_)
    refine aOps_1 rfl rfl rfl (AOp.indexP (aslcAt_sub (by (repeat (first | exact sub_refl _ | assumption | refine sub_upd' ?_ (by ((repeat refine (upd_other _ _ (by omega)).trans ?_); first | exact hf _ (by omega) | exact hfL0 _ (by omega))) | refine sub_trans ?_ hsL0 | refine sub_over (by assumption) | refine sub_over0 ?_ | refine sub_trans (sub_same (by assumption)) ?_ | refine sub_dropu ?_ | refine sub_drop ?_ | refine sub_put ?_ (by repeat (first | assumption | exact upd_same _ _ _ | refine (upd_other _ _ (by omega)).trans ?_ | refine hsL0 _ _ ?_))))) hq5_6) rfl rfl rfl ?_)
    refine aOps_1 rfl rfl rfl (AOp.loadPA (v := vv ((rows.getD i0 []).getD x vD)) (hp5_6.sub (by (repeat (first | exact sub_refl _ | assumption | refine sub_upd' ?_ (by ((repeat refine (upd_other _ _ (by omega)).trans ?_); first | exact hf _ (by omega) | exact hfL0 _ (by omega))) | refine sub_trans ?_ hsL0 | refine sub_over (by assumption) | refine sub_over0 ?_ | refine sub_trans (sub_same (by assumption)) ?_ | refine sub_dropu ?_ | refine sub_drop ?_ | refine sub_put ?_ (by repeat (first | assumption | exact upd_same _ _ _ | refine (upd_other _ _ (by omega)).trans ?_ | refine hsL0 _ _ ?_)))))) rfl rfl rfl rfl (by first | rfl | (simp; done)) (by decide) ?_)
    refine aOps_1 rfl rfl rfl (AOp.buildH (vals3 [((rows.getD i0 []).getD x vD)]) rfl rfl (by show 0 < 3; decide) (by show 3 ≤ 16777216; decide) rfl rfl ?_)
    refine aOps_1 rfl rfl rfl (AOp.append' (b := gV ((colOf rows x).take i0)) (m := 1) (news := vals3 [((rows.getD i0 []).getD x vD)]) rfl rfl rfl (by repeat (first | assumption | exact upd_same _ _ _ | refine (upd_other _ _ (by omega)).trans ?_ | refine hsL0 _ _ ?_)) (srcOf_grow (b := gV [((rows.getD i0 []).getD x vD)]) (by repeat (first | assumption | exact upd_same _ _ _ | refine (upd_other _ _ (by omega)).trans ?_ | refine hsL0 _ _ ?_)) rfl rfl) rfl rfl rfl (by show i0 * 3 = (vals3 _).length; rw [vals3_len, List.length_take, colOf_len]; omega) srcOk_sl (vals3_one _) (by omega) (by omega) ?_)
    refine aOps_1 rfl rfl rfl (AOp.move' (.inr rfl) rfl ?_)
    refine aOps_end ?_
    show ACode _ _ _ _ _ _
    refine ACode.region' [0, 1, 2] (by kernel_rfl) rfl ?_
    refine aOps_1 rfl rfl rfl (AOp.move' (.inl rfl) rfl ?_)
    refine aOps_1 rfl rfl rfl (AOp.add rfl rfl rfl (i64_wrap (by omega) (by omega)) ?_)
    refine aOps_1 rfl rfl rfl (AOp.move' (.inr rfl) rfl ?_)
    refine aOps_end ?_
    have htk := col_snoc (x := x) (show i0 < rows.length by omega)
    first | refine thenA_n ?_ | simp only [thenA, blockA, if_true]
    exact NextR.mk (by omega) (by omega) (.cons rfl (.cons rfl .nil)) (.cons rfl (.cons rfl (.cons rfl .nil))) (by show Ab.Sub (upd _ _ (some { cells := vals3 ((colOf rows x).take (i0 + 1)), elem := _, kind := _, esz := _ })) _; rw [htk]; (repeat (first | exact sub_refl _ | assumption | refine sub_upd' ?_ (by ((repeat refine (upd_other _ _ (by omega)).trans ?_); first | exact hf _ (by omega) | exact hfL0 _ (by omega))) | refine sub_trans ?_ hsL0 | refine sub_over (by assumption) | refine sub_over0 ?_ | refine sub_trans (sub_same (by assumption)) ?_ | refine sub_dropu ?_ | refine sub_drop ?_ | refine sub_put ?_ (by repeat (first | assumption | exact upd_same _ _ _ | refine (upd_other _ _ (by omega)).trans ?_ | refine hsL0 _ _ ?_))))) trivial
  · try simp only [decide_eq_true_eq, decide_eq_false_iff_not, beq_iff_eq, beq_eq_false_iff_ne, ne_eq, bne_iff_ne, Bool.not_eq_true', Bool.not_eq_false', Int.not_lt, Int.not_le, gt_iff_lt, ge_iff_le, bne_eq_false_iff_eq, Bool.not_eq_eq_eq_not, Bool.not_true, Bool.not_false] at c0
    refine ACode.exit ?_
    show ACode _ _ _ _ _ _
    refine ACode.seq ?_
    refine ACode.region' [0, 1] (by kernel_rfl) rfl ?_
    refine aOps_1 rfl rfl rfl (AOp.move' (.inl rfl) rfl ?_)
    refine aOps_1 rfl rfl rfl (AOp.move' (.inr rfl) rfl ?_)
    refine aOps_end ?_
    show ACode _ _ _ _ _ _
    refine ACode.ret ?_
    have hi : i0 = rows.length := by omega
    rw [List.take_of_length_le (by rw [colOf_len]; omega)] at hsL0
    exact RetQ.one rfl rfl hsL0 (fun n b hn => ⟨b, (upd_other _ _ (by have := old_lt hf hn; omega)).trans hn⟩) (fun hk => ⟨k, by omega, by omega, by rw [colOf_len, hi], rfl⟩)

theorem zoneTrue_b (ht : H 0 = some shBlk) (ht1 : H 1 = some allBlk) (cols : List Col) (C : Option Addr) (e : Nat) (hC : slcCells H 3 (.slice C cols.length e) = some (cols3 cols)) (hcn : cols.length ≤ 9223372036854775807) (p : Pd) (v : Value) (hp : PdV H p v) (rows : List (List Val)) (vs : List Value) (R : Option Addr) (rc : Nat) (hS : SLC H 1 R vs.length rc vs) (hRw : Rws H vs rows) (hrow : ∀ r ∈ rows, r.length ≤ 9223372036854775807 ∧ ∀ v ∈ r, v.ok) (hvl : vs.length ≤ 9223372036854775807) : ACalls Tryd.prog 3 6 [.slice C cols.length e, v, .slice R vs.length rc] H k (Same H k (.bool true)) := by
  have hpS := hp.okS
  obtain ⟨xo, xc, xA, xl, xcc, xB, xm, xd, rfl⟩ := hp.form
  refine ACalls.fresh fun hf => ?_
  refine ACalls.body Tryd.func6 rfl (Nat.le_of_ble_eq_true rfl) ?_
  have h0k := old_lt hf ht
  have h1k := old_lt hf ht1
  have hrl := hRw.len
  refine ACode.seq ?_
  refine ACode.region' [0, 1] (by kernel_rfl) rfl ?_
  refine aOps_1 rfl rfl rfl (AOp.boxV rfl rfl ?_)
  refine aOps_1 rfl rfl rfl (AOp.move' (.inr rfl) rfl ?_)
  refine aOps_end ?_
  show ACode _ _ _ _ _ _
  refine ACode.seq ?_
  refine ACode.seq ?_
  refine ACode.region' [0, 1, 2, 3, 4, 5, 6, 7, 8, 9, 10, 11, 12, 13, 14, 15, 16, 17, 18] (by kernel_rfl) rfl ?_
  refine aOps_1 rfl rfl rfl ?_
  refine AOp.loadAll (b := ?b1) (v := pv xo xc xA xl xcc xB xm xd) rfl rfl ?hn1 ?hv1 ?hw1 ?hz1 ?hR1
  (case hn1 => repeat (first | assumption | exact upd_same _ _ _ | refine (upd_other _ _ (by omega)).trans ?_))
  (case hv1 => rfl)
  (case hw1 => rfl)
  (case hz1 => first | rfl | (simp; done))
  refine aOps_q rfl rfl rfl (AOp.call' rfl rfl rfl (small_b _ _ p _ (hp.sub (by (repeat (first | exact sub_refl _ | assumption | refine sub_upd' ?_ (by ((repeat refine (upd_other _ _ (by omega)).trans ?_); first | exact hf _ (by omega))) | refine sub_over (by assumption) | refine sub_over0 ?_ | refine sub_trans (sub_same (by assumption)) ?_ | refine sub_dropu ?_ | refine sub_drop ?_ | refine sub_put ?_ (by repeat (first | assumption | exact upd_same _ _ _ | refine (upd_other _ _ (by omega)).trans ?_))))))) (fun _ _ _ h => h)) (fun kq hkq => ?_)
  refine aOps_1 rfl rfl rfl (AOp.un' rfl rfl rfl ?_)
  refine aOps_1 rfl rfl rfl (AOp.move' (.inl rfl) rfl ?_)
  refine aOps_gd0 rfl rfl (wantF rfl rfl rfl) (fun hc => AOp.slots [(0, _)] (.cons rfl .nil) (AOp.move' (.inl rfl) rfl ⟨rfl, rfl, rfl⟩)) ?_
  refine aOps_gd0 rfl rfl (wantF rfl rfl rfl) (fun hc => AOp.slots [(18, _)] (.cons (gvT rfl hc) .nil) (AOp.len' rfl rfl ⟨rfl, rfl, rfl⟩)) ?_
  refine aOps_gd0 rfl rfl (wantF rfl rfl rfl) (fun hc => AOp.slots [(19, _)] (.cons (gvT rfl hc) .nil) (AOp.bin' rfl rfl rfl rfl ⟨rfl, rfl, rfl⟩)) ?_
  refine aOps_1 rfl rfl rfl (AOp.pickOr rfl rfl rfl (fun hb => gvE rfl (t_not hb)) ?_)
  refine aOps_1 rfl rfl rfl (AOp.move' (.inl rfl) rfl ?_)
  refine aOps_gd0 rfl rfl (wantF rfl rfl rfl) (fun hc => AOp.slots [(2, _)] (.cons rfl .nil) (AOp.move' (.inl rfl) rfl ⟨rfl, rfl, rfl⟩)) ?_
  refine aOps_gd0 rfl rfl (wantF rfl rfl rfl) (fun hc => AOp.slots [(23, _)] (.cons (gvT rfl hc) .nil) (AOp.len' rfl rfl ⟨rfl, rfl, rfl⟩)) ?_
  refine aOps_gd0 rfl rfl (wantF rfl rfl rfl) (fun hc => AOp.slots [(24, _)] (.cons (gvT rfl hc) .nil) (AOp.bin' rfl rfl rfl rfl ⟨rfl, rfl, rfl⟩)) ?_
  refine aOps_1 rfl rfl rfl (AOp.pickOr rfl rfl rfl (fun hb => gvE rfl (t_not hb)) ?_)
  refine aOps_1 rfl rfl rfl (AOp.move' (.inl rfl) rfl ?_)
  refine aOps_gd0 rfl rfl (wantF rfl rfl rfl) (fun hc => AOp.slots [(0, _)] (.cons rfl .nil) (AOp.move' (.inl rfl) rfl ⟨rfl, rfl, rfl⟩)) ?_
  refine aOps_gd0 rfl rfl (wantF rfl rfl rfl) (fun hc => AOp.slots [(4, _)] (.cons rfl .nil) ((by refine AOp.loadAll (b := ?b2) (v := pv xo xc xA xl xcc xB xm xd) rfl rfl ?hn2 ?hv2 ?hw2 ?hz2 ?hR2; (case hn2 => repeat (first | assumption | exact upd_same _ _ _ | refine (upd_other _ _ (by omega)).trans ?_)); (case hv2 => rfl); (case hw2 => rfl); (case hz2 => first | rfl | (simp; done)); exact ⟨rfl, rfl, rfl⟩))) ?_
  refine aOps_gd rfl rfl (wantF rfl rfl rfl) (fun hc => AOp.slots [(28, _), (29, _)] (.cons (gvT rfl hc) (.cons (gvT rfl hc) .nil)) (AOp.call' rfl rfl rfl (Check_b _ _ (by repeat (first | assumption | exact upd_same _ _ _ | refine (upd_other _ _ (by omega)).trans ?_)) p _ (hp.sub (by (repeat (first | exact sub_refl _ | assumption | refine sub_upd' ?_ (by ((repeat refine (upd_other _ _ (by omega)).trans ?_); first | exact hf _ (by omega))) | refine sub_over (by assumption) | refine sub_over0 ?_ | refine sub_trans (sub_same (by assumption)) ?_ | refine sub_dropu ?_ | refine sub_drop ?_ | refine sub_put ?_ (by repeat (first | assumption | exact upd_same _ _ _ | refine (upd_other _ _ (by omega)).trans ?_)))))) cols C e (slcCells_sub (by (repeat (first | exact sub_refl _ | assumption | refine sub_upd' ?_ (by ((repeat refine (upd_other _ _ (by omega)).trans ?_); first | exact hf _ (by omega))) | refine sub_over (by assumption) | refine sub_over0 ?_ | refine sub_trans (sub_same (by assumption)) ?_ | refine sub_dropu ?_ | refine sub_drop ?_ | refine sub_put ?_ (by repeat (first | assumption | exact upd_same _ _ _ | refine (upd_other _ _ (by omega)).trans ?_))))) hC) hcn) (fun _ _ _ h => h))) (fun kq hkq => ?_)
  refine aOps_gd0 rfl rfl (wantF rfl rfl rfl) (fun hc => AOp.slots [(30, _)] (.cons (gvT rfl hc) .nil) (AOp.bin' rfl rfl rfl rfl ⟨rfl, rfl, rfl⟩)) ?_
  refine aOps_1 rfl rfl rfl (AOp.pickOr rfl rfl rfl (fun hb => gvE rfl (t_not hb)) ?_)
  refine aOps_end ?_
  show ACode _ _ _ _ _ _
  refine ACode.cond rfl (fun c0 => ?_) (fun c0 => ?_)
  · skip
    refine ACode.seq ?_
    refine ACode.region' [0, 1] (by kernel_rfl) rfl ?_
    refine aOps_q rfl rfl rfl (AOp.call' rfl rfl rfl (awake17 _ _ (by repeat (first | assumption | exact upd_same _ _ _ | refine (upd_other _ _ (by omega)).trans ?_)) (by repeat (first | assumption | exact upd_same _ _ _ | refine (upd_other _ _ (by omega)).trans ?_))) (fun _ _ _ h => h)) (fun kq hkq => ?_)
    refine aOps_1 rfl rfl rfl (AOp.move' (.inr rfl) rfl ?_)
    refine aOps_end ?_
    show ACode _ _ _ _ _ _
    refine ACode.ret ?_
    exact RetQ.one rfl rfl (by (repeat (first | exact sub_refl _ | assumption | refine sub_upd' ?_ (by ((repeat refine (upd_other _ _ (by omega)).trans ?_); first | exact hf _ (by omega))) | refine sub_over (by assumption) | refine sub_over0 ?_ | refine sub_trans (sub_same (by assumption)) ?_ | refine sub_dropu ?_ | refine sub_drop ?_ | refine sub_put ?_ (by repeat (first | assumption | exact upd_same _ _ _ | refine (upd_other _ _ (by omega)).trans ?_))))) stays (fun hk => ⟨rfl, rfl, by omega⟩)
  · skip
    simp only [Bool.or_eq_false_iff, Bool.not_eq_false', decide_eq_true_eq, decide_eq_false_iff_not, bne_eq_false_iff_eq] at c0
    obtain ⟨⟨⟨c01, c02⟩, c03⟩, c04⟩ := c0
    have hty := small_tiny (by decide) (by decide) p 40 hpS c01
    refine ACode.skip ?_
    show ACode _ _ _ _ _ _
    refine ACode.seq ?_
    refine ACode.seq ?_
    refine ACode.region' [0] (by kernel_rfl) rfl ?_
    refine aOps_1 rfl rfl rfl (AOp.move' (.inr rfl) rfl ?_)
    refine aOps_end ?_
    show ACode _ _ _ _ _ _
    refine ACode.block ?_
    refine ACode.count0 (fun i => [(7, .int .i64 (i : Int))]) [(0, _), (2, _), (4, _)] (vs.length) (fun i => ∀ j, j < i → rowI wrongR cols (rows.getD j []) = 0) (.cons rfl .nil) (.cons rfl (.cons rfl (.cons rfl .nil))) (fun j h => absurd h (Nat.not_lt_zero _)) (fun i0 kL0 HL0 hiL0 hkL0 hsL0 hfL0 hxL0 => ?_)
    show ACode _ _ _ _ _ ⟨_, _, _⟩
    refine ACode.seq ?_
    refine ACode.seq ?_
    refine ACode.region' [0, 1, 2, 3] (by kernel_rfl) rfl ?_
    refine aOps_1 rfl rfl rfl (AOp.move' (.inl rfl) rfl ?_)
    refine aOps_1 rfl rfl rfl (AOp.move' (.inl rfl) rfl ?_)
    refine aOps_1 rfl rfl rfl (AOp.len' rfl rfl ?_)
    refine aOps_1 rfl rfl rfl (AOp.bin' rfl rfl rfl rfl ?_)
    refine aOps_end ?_
    show ACode _ _ _ _ _ _
    refine ACode.cond rfl (fun c1 => ?_) (fun c1 => ?_)
    · try simp only [decide_eq_true_eq, decide_eq_false_iff_not, beq_iff_eq, beq_eq_false_iff_ne, ne_eq, bne_iff_ne, Bool.not_eq_true', Bool.not_eq_false', Int.not_lt, Int.not_le, gt_iff_lt, ge_iff_le, bne_eq_false_iff_eq, Bool.not_eq_eq_eq_not, Bool.not_true, Bool.not_false] at c1
      refine ACode.skip ?_
      show ACode _ _ _ _ _ _
      refine ACode.seq ?_
      refine ACode.block ?_
      refine ACode.seq ?_
      obtain ⟨A1, d1, e1, hc1⟩ := hRw.at_ i0 (by omega)
      have hm1 : rows.getD i0 [] ∈ rows := by { rw [List.getD_eq_getElem?_getD, List.getElem?_eq_getElem (by omega)]; exact List.getElem_mem _ }
      obtain ⟨n6_3, o6_3, s6_3, hq6_3, hp6_3⟩ := slcElV hS.cells (show i0 < vs.length by omega)
      refine ACode.region' [0, 1, 2, 3, 4, 5, 6] (by kernel_rfl) rfl ?_
      refine aOps_1 rfl rfl rfl (AOp.move' (.inl rfl) rfl ?_)
      refine aOps_1 rfl rfl rfl (AOp.move' (.inl rfl) rfl ?_)
      refine aOps_1 rfl rfl rfl (AOp.move' (.inl rfl) rfl ?_)
      refine aOps_1 rfl rfl rfl (AOp.indexP (aslcAt_sub (by (repeat (first | exact sub_refl _ | assumption | refine sub_upd' ?_ (by ((repeat refine (upd_other _ _ (by omega)).trans ?_); first | exact hf _ (by omega) | exact hfL0 _ (by omega))) | refine sub_trans ?_ hsL0 | refine sub_over (by assumption) | refine sub_over0 ?_ | refine sub_trans (sub_same (by assumption)) ?_ | refine sub_dropu ?_ | refine sub_drop ?_ | refine sub_put ?_ (by repeat (first | assumption | exact upd_same _ _ _ | refine (upd_other _ _ (by omega)).trans ?_ | refine hsL0 _ _ ?_))))) hq6_3) rfl rfl rfl ?_)
      refine aOps_1 rfl rfl rfl (AOp.loadP0 (hp6_3.sub (by (repeat (first | exact sub_refl _ | assumption | refine sub_upd' ?_ (by ((repeat refine (upd_other _ _ (by omega)).trans ?_); first | exact hf _ (by omega) | exact hfL0 _ (by omega))) | refine sub_trans ?_ hsL0 | refine sub_over (by assumption) | refine sub_over0 ?_ | refine sub_trans (sub_same (by assumption)) ?_ | refine sub_dropu ?_ | refine sub_drop ?_ | refine sub_put ?_ (by repeat (first | assumption | exact upd_same _ _ _ | refine (upd_other _ _ (by omega)).trans ?_ | refine hsL0 _ _ ?_)))))) rfl rfl rfl ?_)
      rw [e1]
      refine aOps_q rfl rfl rfl (AOp.call' rfl rfl rfl (refrow_vals 3 _ _ cols (rows.getD i0 []) C e (slcCells_sub (by (repeat (first | exact sub_refl _ | assumption | refine sub_upd' ?_ (by ((repeat refine (upd_other _ _ (by omega)).trans ?_); first | exact hf _ (by omega) | exact hfL0 _ (by omega))) | refine sub_trans ?_ hsL0 | refine sub_over (by assumption) | refine sub_over0 ?_ | refine sub_trans (sub_same (by assumption)) ?_ | refine sub_dropu ?_ | refine sub_drop ?_ | refine sub_put ?_ (by repeat (first | assumption | exact upd_same _ _ _ | refine (upd_other _ _ (by omega)).trans ?_ | refine hsL0 _ _ ?_))))) hC) A1 d1 (slcCells_sub (by (repeat (first | exact sub_refl _ | assumption | refine sub_upd' ?_ (by ((repeat refine (upd_other _ _ (by omega)).trans ?_); first | exact hf _ (by omega) | exact hfL0 _ (by omega))) | refine sub_trans ?_ hsL0 | refine sub_over (by assumption) | refine sub_over0 ?_ | refine sub_trans (sub_same (by assumption)) ?_ | refine sub_dropu ?_ | refine sub_drop ?_ | refine sub_put ?_ (by repeat (first | assumption | exact upd_same _ _ _ | refine (upd_other _ _ (by omega)).trans ?_ | refine hsL0 _ _ ?_))))) hc1.cells) (hrow _ hm1).1) (fun _ _ _ h => h)) (fun kq hkq => ?_)
      refine aOps_1 rfl rfl rfl (AOp.bin' rfl rfl rfl rfl ?_)
      refine aOps_end ?_
      show ACode _ _ _ _ _ _
      refine ACode.cond rfl (fun c2 => ?_) (fun c2 => ?_)
      · try simp only [decide_eq_true_eq, decide_eq_false_iff_not, beq_iff_eq, beq_eq_false_iff_ne, ne_eq, bne_iff_ne, Bool.not_eq_true', Bool.not_eq_false', Int.not_lt, Int.not_le, gt_iff_lt, ge_iff_le, bne_eq_false_iff_eq, Bool.not_eq_eq_eq_not, Bool.not_true, Bool.not_false] at c2
        refine ACode.seq ?_
        refine ACode.region' [0, 1] (by kernel_rfl) rfl ?_
        refine aOps_q rfl rfl rfl (AOp.call' rfl rfl rfl (awake17 _ _ (by repeat (first | assumption | exact upd_same _ _ _ | refine (upd_other _ _ (by omega)).trans ?_ | refine hsL0 _ _ ?_)) (by repeat (first | assumption | exact upd_same _ _ _ | refine (upd_other _ _ (by omega)).trans ?_ | refine hsL0 _ _ ?_))) (fun _ _ _ h => h)) (fun kq hkq => ?_)
        refine aOps_1 rfl rfl rfl (AOp.move' (.inr rfl) rfl ?_)
        refine aOps_end ?_
        show ACode _ _ _ _ _ _
        refine ACode.ret ?_
        exact RetQ.one rfl rfl (by (repeat (first | exact sub_refl _ | assumption | refine sub_upd' ?_ (by ((repeat refine (upd_other _ _ (by omega)).trans ?_); first | exact hf _ (by omega) | exact hfL0 _ (by omega))) | refine sub_trans ?_ hsL0 | refine sub_over (by assumption) | refine sub_over0 ?_ | refine sub_trans (sub_same (by assumption)) ?_ | refine sub_dropu ?_ | refine sub_drop ?_ | refine sub_put ?_ (by repeat (first | assumption | exact upd_same _ _ _ | refine (upd_other _ _ (by omega)).trans ?_ | refine hsL0 _ _ ?_))))) stays (fun hk => ⟨rfl, rfl, by omega⟩)
      · try simp only [decide_eq_true_eq, decide_eq_false_iff_not, beq_iff_eq, beq_eq_false_iff_ne, ne_eq, bne_iff_ne, Bool.not_eq_true', Bool.not_eq_false', Int.not_lt, Int.not_le, gt_iff_lt, ge_iff_le, bne_eq_false_iff_eq, Bool.not_eq_eq_eq_not, Bool.not_true, Bool.not_false] at c2
        refine ACode.skip ?_
        show ACode _ _ _ _ _ _
        refine ACode.region' [0, 1, 2] (by kernel_rfl) rfl ?_
        refine aOps_1 rfl rfl rfl (AOp.move' (.inl rfl) rfl ?_)
        refine aOps_1 rfl rfl rfl (AOp.add rfl rfl rfl (i64_wrap (by omega) (by omega)) ?_)
        refine aOps_1 rfl rfl rfl (AOp.move' (.inr rfl) rfl ?_)
        refine aOps_end ?_
        first | refine thenA_n ?_ | simp only [thenA, blockA, if_true]
        exact NextR.mk (by omega) (by omega) (.cons rfl .nil) (.cons rfl (.cons rfl (.cons rfl .nil))) (by (repeat (first | exact sub_refl _ | assumption | refine sub_upd' ?_ (by ((repeat refine (upd_other _ _ (by omega)).trans ?_); first | exact hf _ (by omega) | exact hfL0 _ (by omega))) | refine sub_trans ?_ hsL0 | refine sub_over (by assumption) | refine sub_over0 ?_ | refine sub_trans (sub_same (by assumption)) ?_ | refine sub_dropu ?_ | refine sub_drop ?_ | refine sub_put ?_ (by repeat (first | assumption | exact upd_same _ _ _ | refine (upd_other _ _ (by omega)).trans ?_ | refine hsL0 _ _ ?_))))) (fun j hj => by { rcases Nat.lt_or_ge j i0 with h | h; exact hxL0 j h; rw [show j = i0 by omega]; exact c2 })
    · try simp only [decide_eq_true_eq, decide_eq_false_iff_not, beq_iff_eq, beq_eq_false_iff_ne, ne_eq, bne_iff_ne, Bool.not_eq_true', Bool.not_eq_false', Int.not_lt, Int.not_le, gt_iff_lt, ge_iff_le, bne_eq_false_iff_eq, Bool.not_eq_eq_eq_not, Bool.not_true, Bool.not_false] at c1
      have hRR : RightRows cols rows := fun row hr => by { obtain ⟨j, hj, rfl⟩ := List.getElem_of_mem hr; have := hxL0 j (by omega); rwa [List.getD_eq_getElem?_getD, List.getElem?_eq_getElem hj] at this }
      refine ACode.exit ?_
      show ACode _ _ _ _ _ _
      refine ACode.seq ?_
      refine ACode.region' [0] (by kernel_rfl) rfl ?_
      refine aOps_1 rfl rfl rfl (AOp.move' (.inr rfl) rfl ?_)
      refine aOps_end ?_
      show ACode _ _ _ _ _ _
      refine ACode.seq ?_
      refine ACode.seq ?_
      refine ACode.adopt (t := 8) 45 8 (by decide) rfl ?_
      refine ACode.region' [0] (by kernel_rfl) rfl ?_
      refine aOps_1 rfl rfl rfl (AOp.move' (.inr rfl) rfl ?_)
      refine aOps_end ?_
      show ACode _ _ _ _ _ _
      refine ACode.block ?_
      refine ACode.count (fun i => [(9, .int .i64 (i : Int)), (8, .slice (some ⟨kL0, 0, some 1⟩) i i)]) [(0, _), (2, _), (4, _), (7, _), (34, _), (35, _), (36, _), (37, _)] (fun i => upd HL0 kL0 (some (gZs (zonesOf rows i)))) (cols.length) (fun _ => True) (.cons rfl (.cons rfl .nil)) (.cons rfl (.cons rfl (.cons rfl (.cons rfl (.cons rfl (.cons rfl (.cons rfl (.cons rfl .nil)))))))) (by (repeat (first | exact sub_refl _ | assumption | refine sub_upd' ?_ (by ((repeat refine (upd_other _ _ (by omega)).trans ?_); first | exact hf _ (by omega) | exact hfL0 _ (by omega))) | refine sub_trans ?_ hsL0 | refine sub_over (by assumption) | refine sub_over0 ?_ | refine sub_trans (sub_same (by assumption)) ?_ | refine sub_dropu ?_ | refine sub_drop ?_ | refine sub_put ?_ (by repeat (first | assumption | exact upd_same _ _ _ | refine (upd_other _ _ (by omega)).trans ?_ | refine hsL0 _ _ ?_))))) trivial (fun i1 kL1 HL1 hiL1 hkL1 hsL1 hfL1 hxL1 => ?_)
      show ACode _ _ _ _ _ ⟨_, _, _⟩
      refine ACode.seq ?_
      refine ACode.seq ?_
      refine ACode.region' [0, 1, 2, 3] (by kernel_rfl) rfl ?_
      refine aOps_1 rfl rfl rfl (AOp.move' (.inl rfl) rfl ?_)
      refine aOps_1 rfl rfl rfl (AOp.move' (.inl rfl) rfl ?_)
      refine aOps_1 rfl rfl rfl (AOp.len' rfl rfl ?_)
      refine aOps_1 rfl rfl rfl (AOp.bin' rfl rfl rfl rfl ?_)
      refine aOps_end ?_
      show ACode _ _ _ _ _ _
      refine ACode.cond rfl (fun c3 => ?_) (fun c3 => ?_)
      · try simp only [decide_eq_true_eq, decide_eq_false_iff_not, beq_iff_eq, beq_eq_false_iff_ne, ne_eq, bne_iff_ne, Bool.not_eq_true', Bool.not_eq_false', Int.not_lt, Int.not_le, gt_iff_lt, ge_iff_le, bne_eq_false_iff_eq, Bool.not_eq_eq_eq_not, Bool.not_true, Bool.not_false] at c3
        refine ACode.skip ?_
        show ACode _ _ _ _ _ _
        refine ACode.seq ?_
        refine ACode.block ?_
        refine ACode.region' [0, 1, 2, 3, 4, 5, 6, 7] (by kernel_rfl) rfl ?_
        refine aOps_1 rfl rfl rfl (AOp.move' (.inl rfl) rfl ?_)
        refine aOps_1 rfl rfl rfl (AOp.move' (.inl rfl) rfl ?_)
        refine aOps_1 rfl rfl rfl (AOp.move' (.inl rfl) rfl ?_)
        refine aOps_1 rfl rfl rfl ?_
        refine AOp.call' rfl rfl rfl (Column_b _ _ rows vs R rc (hS.sub (by (repeat (first | exact sub_refl _ | assumption | refine sub_upd' ?_ (by ((repeat refine (upd_other _ _ (by omega)).trans ?_); first | exact hf _ (by omega) | exact hfL0 _ (by omega) | exact hfL1 _ (by omega))) | refine sub_trans ?_ hsL1 | refine sub_trans ?_ hsL0 | refine sub_over (by assumption) | refine sub_over0 ?_ | refine sub_trans (sub_same (by assumption)) ?_ | refine sub_dropu ?_ | refine sub_drop ?_ | refine sub_put ?_ (by repeat (first | assumption | exact upd_same _ _ _ | refine (upd_other _ _ (by omega)).trans ?_ | refine hsL1 _ _ ?_ | refine hsL0 _ _ ?_)))))) (hRw.sub (by (repeat (first | exact sub_refl _ | assumption | refine sub_upd' ?_ (by ((repeat refine (upd_other _ _ (by omega)).trans ?_); first | exact hf _ (by omega) | exact hfL0 _ (by omega) | exact hfL1 _ (by omega))) | refine sub_trans ?_ hsL1 | refine sub_trans ?_ hsL0 | refine sub_over (by assumption) | refine sub_over0 ?_ | refine sub_trans (sub_same (by assumption)) ?_ | refine sub_dropu ?_ | refine sub_drop ?_ | refine sub_put ?_ (by repeat (first | assumption | exact upd_same _ _ _ | refine (upd_other _ _ (by omega)).trans ?_ | refine hsL1 _ _ ?_ | refine hsL0 _ _ ?_)))))) i1 (fun row hr => by rw [hRR.len hr]; omega) (by omega)) ?_
        rintro _ _ kc ⟨qc, hqc1, hqc2, rfl, rfl⟩
        refine aOps_q rfl rfl rfl (AOp.call' rfl rfl rfl (Of_b _ _ (colOf rows i1) (some ⟨qc, 0, some 1⟩) _ (slcCells_grow (n := qc) (b := gV (colOf rows i1)) (by repeat (first | assumption | exact upd_same _ _ _ | refine (upd_other _ _ (by omega)).trans ?_ | refine hsL1 _ _ ?_ | refine hsL0 _ _ ?_)) rfl (by show _ = (vals3 _).length; rw [vals3_len])) (by rw [colOf_len]; omega)) (fun _ _ _ h => h)) (fun kz hkz => ?_)
        refine aOps_1 rfl rfl rfl (AOp.buildH (zs8 [zoneOf (colOf rows i1)]) rfl rfl (by show 0 < 8; decide) (by show 8 ≤ 16777216; decide) rfl rfl ?_)
        refine aOps_1 rfl rfl rfl (AOp.append' (b := gZs (zonesOf rows i1)) (m := 1) (news := zs8 [zoneOf (colOf rows i1)]) rfl rfl rfl (by repeat (first | assumption | exact upd_same _ _ _ | refine (upd_other _ _ (by omega)).trans ?_ | refine hsL1 _ _ ?_ | refine hsL0 _ _ ?_)) (srcOf_grow (b := gZs [zoneOf (colOf rows i1)]) (by repeat (first | assumption | exact upd_same _ _ _ | refine (upd_other _ _ (by omega)).trans ?_ | refine hsL1 _ _ ?_ | refine hsL0 _ _ ?_)) rfl rfl) rfl rfl rfl (by show i1 * 8 = (zs8 _).length; rw [zs8_len, zonesOf_len]) srcOk_sl (zs8_one _) (by omega) (by omega) ?_)
        refine aOps_1 rfl rfl rfl (AOp.move' (.inr rfl) rfl ?_)
        refine aOps_end ?_
        show ACode _ _ _ _ _ _
        refine ACode.region' [0, 1, 2] (by kernel_rfl) rfl ?_
        refine aOps_1 rfl rfl rfl (AOp.move' (.inl rfl) rfl ?_)
        refine aOps_1 rfl rfl rfl (AOp.add rfl rfl rfl (i64_wrap (by omega) (by omega)) ?_)
        refine aOps_1 rfl rfl rfl (AOp.move' (.inr rfl) rfl ?_)
        refine aOps_end ?_
        have hzz := zone_snoc8 rows i1
        first | refine thenA_n ?_ | simp only [thenA, blockA, if_true]
        exact NextR.mk (by omega) (by omega) (.cons rfl (.cons rfl .nil)) (.cons rfl (.cons rfl (.cons rfl (.cons rfl (.cons rfl (.cons rfl (.cons rfl (.cons rfl .nil)))))))) (by show Ab.Sub (upd _ _ (some { cells := zs8 (zonesOf rows (i1 + 1)), elem := _, kind := _, esz := _ })) _; rw [hzz]; (repeat (first | exact sub_refl _ | assumption | refine sub_upd' ?_ (by ((repeat refine (upd_other _ _ (by omega)).trans ?_); first | exact hf _ (by omega) | exact hfL0 _ (by omega) | exact hfL1 _ (by omega))) | refine sub_trans ?_ hsL1 | refine sub_trans ?_ hsL0 | refine sub_over (by assumption) | refine sub_over0 ?_ | refine sub_trans (sub_same (by assumption)) ?_ | refine sub_dropu ?_ | refine sub_drop ?_ | refine sub_put ?_ (by repeat (first | assumption | exact upd_same _ _ _ | refine (upd_other _ _ (by omega)).trans ?_ | refine hsL1 _ _ ?_ | refine hsL0 _ _ ?_))))) trivial
      · try simp only [decide_eq_true_eq, decide_eq_false_iff_not, beq_iff_eq, beq_eq_false_iff_ne, ne_eq, bne_iff_ne, Bool.not_eq_true', Bool.not_eq_false', Int.not_lt, Int.not_le, gt_iff_lt, ge_iff_le, bne_eq_false_iff_eq, Bool.not_eq_eq_eq_not, Bool.not_true, Bool.not_false] at c3
        obtain rfl : i1 = cols.length := by omega
        refine ACode.exit ?_
        show ACode _ _ _ _ _ _
        refine ACode.seq ?_
        refine ACode.region' [0, 1, 2, 3, 4, 5, 6] (by kernel_rfl) rfl ?_
        refine aOps_1 rfl rfl rfl ?_
        refine AOp.loadAll (b := ?b3) (v := pv xo xc xA xl xcc xB xm xd) rfl rfl ?hn3 ?hv3 ?hw3 ?hz3 ?hR3
        (case hn3 => repeat (first | assumption | exact upd_same _ _ _ | refine (upd_other _ _ (by omega)).trans ?_ | refine hsL1 _ _ ?_ | refine hsL0 _ _ ?_))
        (case hv3 => rfl)
        (case hw3 => rfl)
        (case hz3 => first | rfl | (simp; done))
        refine aOps_1 rfl rfl rfl (AOp.move' (.inl rfl) rfl ?_)
        refine aOps_1 rfl rfl rfl (AOp.len' rfl rfl ?_)
        refine aOps_1 rfl rfl rfl (AOp.move' (.inl rfl) rfl ?_)
        refine aOps_q rfl rfl rfl (AOp.call' rfl rfl rfl (May_n _ _ (by repeat (first | assumption | exact upd_same _ _ _ | refine (upd_other _ _ (by omega)).trans ?_ | refine hsL1 _ _ ?_ | refine hsL0 _ _ ?_)) (by repeat (first | assumption | exact upd_same _ _ _ | refine (upd_other _ _ (by omega)).trans ?_ | refine hsL1 _ _ ?_ | refine hsL0 _ _ ?_)) p _ (hp.sub (by (repeat (first | exact sub_refl _ | assumption | refine sub_upd' ?_ (by ((repeat refine (upd_other _ _ (by omega)).trans ?_); first | exact hf _ (by omega) | exact hfL0 _ (by omega) | exact hfL1 _ (by omega))) | refine sub_trans ?_ hsL1 | refine sub_trans ?_ hsL0 | refine sub_over (by assumption) | refine sub_over0 ?_ | refine sub_trans (sub_same (by assumption)) ?_ | refine sub_dropu ?_ | refine sub_drop ?_ | refine sub_put ?_ (by repeat (first | assumption | exact upd_same _ _ _ | refine (upd_other _ _ (by omega)).trans ?_ | refine hsL1 _ _ ?_ | refine hsL0 _ _ ?_)))))) hty (vs.length : Int) (zonesOf rows cols.length) (some ⟨kL0, 0, some 1⟩) cols.length cols.length (zonesOf_len _ _) (slcCells_grow (n := kL0) (b := gZs (zonesOf rows cols.length)) (by repeat (first | assumption | exact upd_same _ _ _ | refine (upd_other _ _ (by omega)).trans ?_ | refine hsL1 _ _ ?_ | refine hsL0 _ _ ?_)) rfl (by show _ = (zs8 _).length; rw [zs8_len, zonesOf_len])) (by omega)) (fun _ _ _ h => h)) (fun kq hkq => ?_)
        refine aOps_1 rfl rfl rfl (AOp.alloc' rfl ?_)
        refine aOps_0 rfl rfl rfl ?_
        refine AOp.storeAll (b := ?b4) rfl rfl rfl ?hn4 ?hk4 rfl ?hw4 ?ho4 ?hl4 ?hR4
        (case hn4 => repeat (first | assumption | exact upd_same _ _ _ | refine (upd_other _ _ (by omega)).trans ?_ | refine hsL1 _ _ ?_ | refine hsL0 _ _ ?_))
        (case hk4 => rfl)
        (case hw4 => first | rfl | (simp; done))
        (case ho4 => first | rfl | decide | (simp; done))
        (case hl4 => first | rfl | (simp; done))
        refine aOps_end ?_
        show ACode _ _ _ _ _ _
        refine ACode.seq ?_
        refine ACode.region' [0, 1, 2, 3, 4, 5] (by kernel_rfl) rfl ?_
        refine aOps_1 rfl rfl rfl ?_
        refine AOp.loadAll (b := ?b5) (v := pv xo xc xA xl xcc xB xm xd) rfl rfl ?hn5 ?hv5 ?hw5 ?hz5 ?hR5
        (case hn5 => repeat (first | assumption | exact upd_same _ _ _ | refine (upd_other _ _ (by omega)).trans ?_ | refine hsL1 _ _ ?_ | refine hsL0 _ _ ?_))
        (case hv5 => rfl)
        (case hw5 => rfl)
        (case hz5 => first | rfl | (simp; done))
        refine aOps_1 rfl rfl rfl (AOp.move' (.inl rfl) rfl ?_)
        refine aOps_1 rfl rfl rfl (AOp.len' rfl rfl ?_)
        refine aOps_1 rfl rfl rfl (AOp.move' (.inl rfl) rfl ?_)
        refine aOps_q rfl rfl rfl (AOp.call' rfl rfl rfl (Refutes_n _ _ (by repeat (first | assumption | exact upd_same _ _ _ | refine (upd_other _ _ (by omega)).trans ?_ | refine hsL1 _ _ ?_ | refine hsL0 _ _ ?_)) (by repeat (first | assumption | exact upd_same _ _ _ | refine (upd_other _ _ (by omega)).trans ?_ | refine hsL1 _ _ ?_ | refine hsL0 _ _ ?_)) p _ (hp.sub (by (repeat (first | exact sub_refl _ | assumption | refine sub_upd' ?_ (by ((repeat refine (upd_other _ _ (by omega)).trans ?_); first | exact hf _ (by omega) | exact hfL0 _ (by omega) | exact hfL1 _ (by omega))) | refine sub_trans ?_ hsL1 | refine sub_trans ?_ hsL0 | refine sub_over (by assumption) | refine sub_over0 ?_ | refine sub_trans (sub_same (by assumption)) ?_ | refine sub_dropu ?_ | refine sub_drop ?_ | refine sub_put ?_ (by repeat (first | assumption | exact upd_same _ _ _ | refine (upd_other _ _ (by omega)).trans ?_ | refine hsL1 _ _ ?_ | refine hsL0 _ _ ?_)))))) hty (vs.length : Int) (zonesOf rows cols.length) (some ⟨kL0, 0, some 1⟩) cols.length cols.length (zonesOf_len _ _) (slcCells_grow (n := kL0) (b := gZs (zonesOf rows cols.length)) (by repeat (first | assumption | exact upd_same _ _ _ | refine (upd_other _ _ (by omega)).trans ?_ | refine hsL1 _ _ ?_ | refine hsL0 _ _ ?_)) rfl (by show _ = (zs8 _).length; rw [zs8_len, zonesOf_len])) (by omega)) (fun _ _ _ h => h)) (fun kq hkq => ?_)
        refine aOps_1 rfl rfl rfl (AOp.move' (.inr rfl) rfl ?_)
        refine aOps_end ?_
        show ACode _ _ _ _ _ _
        refine ACode.seq ?_
        refine ACode.seq ?_
        refine ACode.region' [0] (by kernel_rfl) rfl ?_
        refine aOps_1 rfl rfl rfl (AOp.move' (.inr rfl) rfl ?_)
        refine aOps_end ?_
        show ACode _ _ _ _ _ _
        refine ACode.block ?_
        refine ACode.count0 (fun i => [(12, .int .i64 (i : Int))]) [(0, _), (2, _), (4, _), (7, _), (8, _), (9, _), (10, _), (11, _), (34, _), (35, _), (36, _), (37, _), (48, _), (49, _), (50, _), (51, _), (61, _), (62, _), (63, _), (64, _), (65, _), (66, _), (67, _), (68, _), (69, _), (70, _)] (vs.length) (fun _ => True) (.cons rfl .nil) (.cons rfl (.cons rfl (.cons rfl (.cons rfl (.cons rfl (.cons rfl (.cons rfl (.cons rfl (.cons rfl (.cons rfl (.cons rfl (.cons rfl (.cons rfl (.cons rfl (.cons rfl (.cons rfl (.cons rfl (.cons rfl (.cons rfl (.cons rfl (.cons rfl (.cons rfl (.cons rfl (.cons rfl (.cons rfl (.cons rfl .nil)))))))))))))))))))))))))) trivial (fun i2 kL2 HL2 hiL2 hkL2 hsL2 hfL2 hxL2 => ?_)
        show ACode _ _ _ _ _ ⟨_, _, _⟩
        refine ACode.seq ?_
        refine ACode.seq ?_
        refine ACode.region' [0, 1, 2, 3] (by kernel_rfl) rfl ?_
        refine aOps_1 rfl rfl rfl (AOp.move' (.inl rfl) rfl ?_)
        refine aOps_1 rfl rfl rfl (AOp.move' (.inl rfl) rfl ?_)
        refine aOps_1 rfl rfl rfl (AOp.len' rfl rfl ?_)
        refine aOps_1 rfl rfl rfl (AOp.bin' rfl rfl rfl rfl ?_)
        refine aOps_end ?_
        show ACode _ _ _ _ _ _
        refine ACode.cond rfl (fun c4 => ?_) (fun c4 => ?_)
        · try simp only [decide_eq_true_eq, decide_eq_false_iff_not, beq_iff_eq, beq_eq_false_iff_ne, ne_eq, bne_iff_ne, Bool.not_eq_true', Bool.not_eq_false', Int.not_lt, Int.not_le, gt_iff_lt, ge_iff_le, bne_eq_false_iff_eq, Bool.not_eq_eq_eq_not, Bool.not_true, Bool.not_false] at c4
          refine ACode.skip ?_
          show ACode _ _ _ _ _ _
          refine ACode.seq ?_
          refine ACode.block ?_
          refine ACode.seq ?_
          obtain ⟨A2, d2, e2, hc2⟩ := hRw.at_ i2 (by omega)
          have hm2 : rows.getD i2 [] ∈ rows := by { rw [List.getD_eq_getElem?_getD, List.getElem?_eq_getElem (by omega)]; exact List.getElem_mem _ }
          have her := evalP_range p (rows.getD i2 [])
          obtain ⟨en, hen⟩ : ∃ en : Nat, evalP p (rows.getD i2 []) = en := ⟨(evalP p (rows.getD i2 [])).toNat, by omega⟩
          have hen3 : en < 3 := by omega
          have hhas : (t3l (mayR (vs.length : Int) (zonesOf rows cols.length) p)).getD en false = true := by { rw [has_getD _ hen3, ← hen, hrl]; exact eval_may hRR hm2 p }
          have hlast : (!((mayR (vs.length : Int) (zonesOf rows cols.length) p)).t && ((en : Int) == 2)) = false := by { rw [has_getD _ hen3] at hhas; rcases (show en = 0 ∨ en = 1 ∨ en = 2 by omega) with h | h | h; rw [h]; simp; rw [h]; simp; rw [h] at hhas; rw [show ((mayR (vs.length : Int) (zonesOf rows cols.length) p)).t = true from hhas]; rfl }
          obtain ⟨n18_3, o18_3, s18_3, hq18_3, hp18_3⟩ := slcElV hS.cells (show i2 < vs.length by omega)
          refine ACode.draw' 7 [(0, 77), (1, 78), (2, 79), (3, 80), (4, 81), (5, 82), (6, 13)] mixed (by kernel_rfl) ?_
          refine Draw.step [(4, none)] rfl (by kernel_rfl) rfl (fun kq hkq => (by refine AOp.loadAll (b := ?b6) (v := pv xo xc xA xl xcc xB xm xd) rfl rfl ?hn6 ?hv6 ?hw6 ?hz6 ?hR6; (case hn6 => repeat (first | assumption | exact upd_same _ _ _ | refine (upd_other _ _ (by omega)).trans ?_ | refine hsL2 _ _ ?_ | refine hsL1 _ _ ?_ | refine hsL0 _ _ ?_)); (case hv6 => rfl); (case hw6 => rfl); (case hz6 => first | rfl | (simp; done)); exact ⟨rfl, rfl, Nat.le_refl _⟩)) ?_
          refine Draw.step [(2, none)] rfl (by kernel_rfl) rfl (fun kq hkq => AOp.move' (.inl rfl) rfl ⟨rfl, rfl, Nat.le_refl _⟩) ?_
          refine Draw.step [(12, none)] rfl (by kernel_rfl) rfl (fun kq hkq => AOp.move' (.inl rfl) rfl ⟨rfl, rfl, Nat.le_refl _⟩) ?_
          refine Draw.step [(78, some 1), (79, some 2)] rfl (by kernel_rfl) rfl (fun kq hkq => AOp.indexP (aslcAt_sub (by (repeat (first | exact sub_refl _ | assumption | refine sub_upd' ?_ (by ((repeat refine (upd_other _ _ (by omega)).trans ?_); first | exact hf _ (by omega) | exact hfL0 _ (by omega) | exact hfL1 _ (by omega) | exact hfL2 _ (by omega))) | refine sub_trans ?_ hsL2 | refine sub_trans ?_ hsL1 | refine sub_trans ?_ hsL0 | refine sub_over (by assumption) | refine sub_over0 ?_ | refine sub_trans (sub_same (by assumption)) ?_ | refine sub_dropu ?_ | refine sub_drop ?_ | refine sub_put ?_ (by repeat (first | assumption | exact upd_same _ _ _ | refine (upd_other _ _ (by omega)).trans ?_ | refine hsL2 _ _ ?_ | refine hsL1 _ _ ?_ | refine hsL0 _ _ ?_))))) hq18_3) rfl rfl rfl ⟨rfl, rfl, Nat.le_refl _⟩) ?_
          refine Draw.step [(80, some 3)] rfl (by kernel_rfl) rfl (fun kq hkq => AOp.loadP0 (hp18_3.sub (by (repeat (first | exact sub_refl _ | assumption | refine sub_upd' ?_ (by ((repeat refine (upd_other _ _ (by omega)).trans ?_); first | exact hf _ (by omega) | exact hfL0 _ (by omega) | exact hfL1 _ (by omega) | exact hfL2 _ (by omega))) | refine sub_trans ?_ hsL2 | refine sub_trans ?_ hsL1 | refine sub_trans ?_ hsL0 | refine sub_over (by assumption) | refine sub_over0 ?_ | refine sub_trans (sub_same (by assumption)) ?_ | refine sub_dropu ?_ | refine sub_drop ?_ | refine sub_put ?_ (by repeat (first | assumption | exact upd_same _ _ _ | refine (upd_other _ _ (by omega)).trans ?_ | refine hsL2 _ _ ?_ | refine hsL1 _ _ ?_ | refine hsL0 _ _ ?_)))))) rfl rfl rfl ⟨rfl, rfl, Nat.le_refl _⟩) ?_
          rw [e2]
          refine Draw.step [(77, some 0), (81, some 4)] rfl (by kernel_rfl) rfl (fun kq hkq => AOp.call' rfl rfl rfl (eval_c (SizeOf.sizeOf p + 1) p _ (rows.getD i2 []) A2 d2 _ _ (by repeat (first | assumption | exact upd_same _ _ _ | refine (upd_other _ _ (by omega)).trans ?_ | refine hsL2 _ _ ?_ | refine hsL1 _ _ ?_ | refine hsL0 _ _ ?_)) (hp.sub (by (repeat (first | exact sub_refl _ | assumption | refine sub_upd' ?_ (by ((repeat refine (upd_other _ _ (by omega)).trans ?_); first | exact hf _ (by omega) | exact hfL0 _ (by omega) | exact hfL1 _ (by omega) | exact hfL2 _ (by omega))) | refine sub_trans ?_ hsL2 | refine sub_trans ?_ hsL1 | refine sub_trans ?_ hsL0 | refine sub_over (by assumption) | refine sub_over0 ?_ | refine sub_trans (sub_same (by assumption)) ?_ | refine sub_dropu ?_ | refine sub_drop ?_ | refine sub_put ?_ (by repeat (first | assumption | exact upd_same _ _ _ | refine (upd_other _ _ (by omega)).trans ?_ | refine hsL2 _ _ ?_ | refine hsL1 _ _ ?_ | refine hsL0 _ _ ?_)))))) (slcCells_sub (by (repeat (first | exact sub_refl _ | assumption | refine sub_upd' ?_ (by ((repeat refine (upd_other _ _ (by omega)).trans ?_); first | exact hf _ (by omega) | exact hfL0 _ (by omega) | exact hfL1 _ (by omega) | exact hfL2 _ (by omega))) | refine sub_trans ?_ hsL2 | refine sub_trans ?_ hsL1 | refine sub_trans ?_ hsL0 | refine sub_over (by assumption) | refine sub_over0 ?_ | refine sub_trans (sub_same (by assumption)) ?_ | refine sub_dropu ?_ | refine sub_drop ?_ | refine sub_put ?_ (by repeat (first | assumption | exact upd_same _ _ _ | refine (upd_other _ _ (by omega)).trans ?_ | refine hsL2 _ _ ?_ | refine hsL1 _ _ ?_ | refine hsL0 _ _ ?_))))) hc2.cells) (hrow _ hm2).1 (Nat.lt_succ_self _)) (fun _ _ _ h => h)) ?_
          rw [hen]
          refine Draw.step [(82, some 5)] rfl (by kernel_rfl) rfl (fun kq hkq => AOp.move' (.inr rfl) rfl ⟨rfl, rfl, Nat.le_refl _⟩) ?_
          refine Draw.done fun kq hkq => ?_
          show aOps _ _ _ _ [] ⟨_, _, _⟩
          refine aOps_end ?_
          show ACode _ _ _ _ _ _
          refine ACode.seq ?_
          refine ACode.region' [0, 1, 2, 3, 4, 5, 6, 7, 8, 9, 10, 11, 12, 13, 14, 15, 16, 17, 18] (by kernel_rfl) rfl ?_
          refine aOps_1 rfl rfl rfl (AOp.move' (.inl rfl) rfl ?_)
          refine aOps_1 rfl rfl rfl (AOp.bin' rfl rfl rfl rfl ?_)
          refine aOps_1 rfl rfl rfl (AOp.move' (.inl rfl) rfl ?_)
          refine aOps_gd0 rfl rfl (wantF rfl rfl rfl) (fun hc => AOp.slots [(13, _)] (.cons rfl .nil) (AOp.move' (.inl rfl) rfl ⟨rfl, rfl, rfl⟩)) ?_
          refine aOps_gd0 rfl rfl (wantF rfl rfl rfl) (fun hc => AOp.slots [(86, _)] (.cons (gvT rfl hc) .nil) (AOp.bin' rfl rfl rfl rfl ⟨rfl, rfl, rfl⟩)) ?_
          refine aOps_1 rfl rfl rfl (AOp.pickOr rfl rfl rfl (fun hb => gvE rfl (t_not hb)) ?_)
          refine aOps_1 rfl rfl rfl (AOp.move' (.inl rfl) rfl ?_)
          refine aOps_gd0 rfl rfl (wantF rfl rfl rfl) (fun hc => AOp.slots [(13, _)] (.cons rfl .nil) (AOp.move' (.inl rfl) rfl ⟨rfl, rfl, rfl⟩)) ?_
          refine aOps_gd0 rfl rfl (wantF rfl rfl rfl) (fun hc => AOp.slots [(10, _), (90, _)] (.cons rfl (.cons (gvT rfl hc) .nil)) (AOp.indexA (i := en) hen3 rfl rfl rfl ⟨rfl, rfl, rfl⟩)) ?_
          refine aOps_gd0 rfl rfl (wantF rfl rfl rfl) (fun hc => AOp.slots [(91, _)] (.cons (gvT rfl hc) .nil) ((by refine AOp.loadM bl (t3l (mayR (vs.length : Int) (zonesOf rows cols.length) p)) false (b := ?b7) ?hn7 ?hv7 ?hw7 rfl rfl ?hR7; (case hn7 => repeat (first | assumption | exact upd_same _ _ _ | refine (upd_other _ _ (by omega)).trans ?_ | refine hsL2 _ _ ?_ | refine hsL1 _ _ ?_ | refine hsL0 _ _ ?_)); (case hv7 => rfl); (case hw7 => exact hen3); exact ⟨rfl, rfl, rfl⟩))) ?_
          refine aOps_gd0 rfl rfl (wantF rfl rfl rfl) (fun hc => AOp.slots [(92, _)] (.cons (gvT rfl hc) .nil) (AOp.un' rfl rfl rfl ⟨rfl, rfl, rfl⟩)) ?_
          refine aOps_1 rfl rfl rfl (AOp.pickOr rfl rfl rfl (fun hb => gvE rfl (t_not hb)) ?_)
          refine aOps_1 rfl rfl rfl (AOp.move' (.inl rfl) rfl ?_)
          refine aOps_gd0 rfl rfl (wantF rfl rfl rfl) (fun hc => AOp.slots [(11, _)] (.cons rfl .nil) (AOp.move' (.inl rfl) rfl ⟨rfl, rfl, rfl⟩)) ?_
          refine aOps_gd0 rfl rfl (wantF rfl rfl rfl) (fun hc => AOp.slots [(96, _)] (.cons (gvT rfl hc) .nil) (AOp.move' (.inl rfl) rfl ⟨rfl, rfl, rfl⟩)) ?_
          refine aOps_gd0 rfl rfl (wantGT rfl rfl rfl) (fun hc => AOp.slots [(13, _)] (.cons rfl .nil) (AOp.move' (.inl rfl) rfl ⟨rfl, rfl, rfl⟩)) ?_
          refine aOps_gd0 rfl rfl (wantGT rfl rfl rfl) (fun hc => AOp.slots [(98, _)] (.cons (gvT rfl hc) .nil) (AOp.bin' rfl rfl rfl rfl ⟨rfl, rfl, rfl⟩)) ?_
          refine aOps_gd0 rfl rfl (wantF rfl rfl rfl) (fun hc => AOp.pickAnd rfl rfl (gvE rfl hc) (fun hb => gvE rfl (and_mk hc hb)) ⟨rfl, rfl, rfl⟩) ?_
          refine aOps_1 rfl rfl rfl (AOp.pickOr rfl rfl rfl (fun hb => gvE rfl (t_not hb)) ?_)
          refine aOps_end ?_
          show ACode _ _ _ _ _ _
          refine ACode.cond rfl (fun c5 => absurd c5 (by rw [hhas, decide_eq_false (show ¬ (en : Int) < 0 by omega), decide_eq_false (show ¬ (en : Int) > 2 by omega), hlast]; decide)) (fun c5 => ?_)
          refine ACode.skip ?_
          show ACode _ _ _ _ _ _
          refine ACode.region' [0, 1, 2] (by kernel_rfl) rfl ?_
          refine aOps_1 rfl rfl rfl (AOp.move' (.inl rfl) rfl ?_)
          refine aOps_1 rfl rfl rfl (AOp.add rfl rfl rfl (i64_wrap (by omega) (by omega)) ?_)
          refine aOps_1 rfl rfl rfl (AOp.move' (.inr rfl) rfl ?_)
          refine aOps_end ?_
          first | refine thenA_n ?_ | simp only [thenA, blockA, if_true]
          exact NextR.mk (by omega) (by omega) (.cons rfl .nil) (.cons rfl (.cons rfl (.cons rfl (.cons rfl (.cons rfl (.cons rfl (.cons rfl (.cons rfl (.cons rfl (.cons rfl (.cons rfl (.cons rfl (.cons rfl (.cons rfl (.cons rfl (.cons rfl (.cons rfl (.cons rfl (.cons rfl (.cons rfl (.cons rfl (.cons rfl (.cons rfl (.cons rfl (.cons rfl (.cons rfl .nil)))))))))))))))))))))))))) (by (repeat (first | exact sub_refl _ | assumption | refine sub_upd' ?_ (by ((repeat refine (upd_other _ _ (by omega)).trans ?_); first | exact hf _ (by omega) | exact hfL0 _ (by omega) | exact hfL1 _ (by omega) | exact hfL2 _ (by omega))) | refine sub_trans ?_ hsL2 | refine sub_trans ?_ hsL1 | refine sub_trans ?_ hsL0 | refine sub_over (by assumption) | refine sub_over0 ?_ | refine sub_trans (sub_same (by assumption)) ?_ | refine sub_dropu ?_ | refine sub_drop ?_ | refine sub_put ?_ (by repeat (first | assumption | exact upd_same _ _ _ | refine (upd_other _ _ (by omega)).trans ?_ | refine hsL2 _ _ ?_ | refine hsL1 _ _ ?_ | refine hsL0 _ _ ?_))))) trivial
        · try simp only [decide_eq_true_eq, decide_eq_false_iff_not, beq_iff_eq, beq_eq_false_iff_ne, ne_eq, bne_iff_ne, Bool.not_eq_true', Bool.not_eq_false', Int.not_lt, Int.not_le, gt_iff_lt, ge_iff_le, bne_eq_false_iff_eq, Bool.not_eq_eq_eq_not, Bool.not_true, Bool.not_false] at c4
          have hfin : (decide ((vs.length : Int) > 0) || !((mayR (vs.length : Int) (zonesOf rows cols.length) p)).t) = true := by { rcases Nat.eq_zero_or_pos vs.length with h | h; rw [h]; rfl; rw [decide_eq_true (show (vs.length : Int) > 0 by omega)]; rfl }
          refine ACode.exit ?_
          show ACode _ _ _ _ _ _
          refine ACode.seq ?_
          refine ACode.region' [0, 1, 2, 3, 4, 5, 6, 7, 8, 9] (by kernel_rfl) rfl ?_
          refine aOps_1 rfl rfl rfl (AOp.move' (.inl rfl) rfl ?_)
          refine aOps_1 rfl rfl rfl (AOp.len' rfl rfl ?_)
          refine aOps_1 rfl rfl rfl (AOp.bin' rfl rfl rfl rfl ?_)
          refine aOps_1 rfl rfl rfl (AOp.move' (.inl rfl) rfl ?_)
          refine aOps_gd0 rfl rfl (wantF rfl rfl rfl) (fun hc => AOp.slots [(11, _)] (.cons rfl .nil) (AOp.move' (.inl rfl) rfl ⟨rfl, rfl, rfl⟩)) ?_
          refine aOps_1 rfl rfl rfl (AOp.pickOr rfl rfl rfl (fun hb => gvE rfl (t_not hb)) ?_)
          refine aOps_1 rfl rfl rfl (AOp.move' (.inl rfl) rfl ?_)
          refine aOps_gd rfl rfl (wantT rfl rfl rfl) (fun hc => AOp.slots [] .nil (AOp.call' rfl rfl rfl (awake17 _ _ (by repeat (first | assumption | exact upd_same _ _ _ | refine (upd_other _ _ (by omega)).trans ?_ | refine hsL2 _ _ ?_ | refine hsL1 _ _ ?_ | refine hsL0 _ _ ?_)) (by repeat (first | assumption | exact upd_same _ _ _ | refine (upd_other _ _ (by omega)).trans ?_ | refine hsL2 _ _ ?_ | refine hsL1 _ _ ?_ | refine hsL0 _ _ ?_))) (fun _ _ _ h => h))) (fun kq hkq => ?_)
          refine aOps_1 rfl rfl rfl (AOp.pickAnd rfl rfl rfl (fun hb => gvE rfl hb) ?_)
          refine aOps_1 rfl rfl rfl (AOp.move' (.inr rfl) rfl ?_)
          refine aOps_end ?_
          show ACode _ _ _ _ _ _
          refine ACode.ret ?_
          exact RetQ.one rfl rfl (by (repeat (first | exact sub_refl _ | assumption | refine sub_upd' ?_ (by ((repeat refine (upd_other _ _ (by omega)).trans ?_); first | exact hf _ (by omega) | exact hfL0 _ (by omega) | exact hfL1 _ (by omega) | exact hfL2 _ (by omega))) | refine sub_trans ?_ hsL2 | refine sub_trans ?_ hsL1 | refine sub_trans ?_ hsL0 | refine sub_over (by assumption) | refine sub_over0 ?_ | refine sub_trans (sub_same (by assumption)) ?_ | refine sub_dropu ?_ | refine sub_drop ?_ | refine sub_put ?_ (by repeat (first | assumption | exact upd_same _ _ _ | refine (upd_other _ _ (by omega)).trans ?_ | refine hsL2 _ _ ?_ | refine hsL1 _ _ ?_ | refine hsL0 _ _ ?_))))) stays (fun hk => ⟨(by rw [hfin]; rfl), rfl, by omega⟩)
end

end Go.Proofs.YtnciojaecelhmaaDoor
