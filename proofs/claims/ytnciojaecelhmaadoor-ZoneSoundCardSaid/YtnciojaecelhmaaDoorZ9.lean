/- Contracts over the abstract states: columns; the truth of any row may be, by the rows' zones. -/
import Derived.Test.YtnciojaecelhmaaDoorZR
set_option linter.unusedVariables false
set_option linter.unusedSimpArgs false
set_option maxRecDepth 100000
namespace Go.Proofs.YtnciojaecelhmaaDoor
open Go Go.Ab

abbrev gV (l : List Val) : Blk := { cells := vals3 l, elem := 43, kind := .grow, esz := 3 }
abbrev gZs (l : List Zn) : Blk := { cells := zs8 l, elem := 45, kind := .grow, esz := 8 }
theorem zs8_one (zs : List Zn) : ∀ u ∈ zs8 zs, u.oneCell' = true := by
  intro u hu
  rw [zs8, List.mem_flatMap] at hu
  obtain ⟨z, _, hv⟩ := hu
  have hv : u ∈ ([.int .i64 z.nulls, .bool z.some, .int .i64 z.min.kind, .int .i64 z.min.n, .string z.min.s, .int .i64 z.max.kind, .int .i64 z.max.n, .string z.max.s] : List Value) := hv
  simp only [List.mem_cons, List.not_mem_nil, or_false] at hv
  rcases hv with rfl | rfl | rfl | rfl | rfl | rfl | rfl | rfl <;> rfl
theorem Refutes_n (H : Hp) (k : Nat) (ht : H 0 = some shBlk) (ht1 : H 1 = some allBlk) (p : Pd) (v : Value) (hp : PdV H p v) (hty : p.tiny) (rows : Int) (zs : List Zn) (Z : Option Addr) (n zc : Nat) (hn : zs.length = n) (hZ : slcCells H 8 (.slice Z n zc) = some (zs8 zs)) (hzl : n ≤ 1000) : ACalls Tryd.prog 3 18 [v, .int .i64 rows, .slice Z n zc] H k (Same H k (.bool (!(mayR rows zs p).t))) := by
  subst hn
  exact Refutes_b H k ht ht1 p v hp hty rows zs Z zc hZ hzl
theorem zone_snoc8 (rows : List (List Val)) (i : Nat) : zs8 (zonesOf rows (i + 1)) = zs8 (zonesOf rows i) ++ zs8 [zoneOf (colOf rows i)] := by
  rw [zonesOf_succ, zs8_snoc]
  rfl
theorem col_snoc {rows : List (List Val)} {x i : Nat} (h : i < rows.length) : vals3 ((colOf rows x).take (i + 1)) = vals3 ((colOf rows x).take i) ++ vals3 [(rows.getD i []).getD x vD] := by
  rw [colOf_take h, vals3_snoc]
  rfl
section
variable (H : Hp) (k : Nat)

theorem Column_b (rows : List (List Val)) (vs : List Value) (R : Option Addr) (rc : Nat) (hS : SLC H 1 R vs.length rc vs) (hRw : Rws H vs rows) (x : Nat) (hw : ∀ row ∈ rows, x < row.length) (hl : vs.length ≤ 1000) : ACalls Tryd.prog 3 21 [.slice R vs.length rc, .int .i64 (x : Int)] H k (NewS H k 43 3 (colOf rows x).length (vals3 (colOf rows x))) := by
  refine ACalls.fresh fun hf => ?_
  refine ACalls.body Tryd.func21 rfl (Nat.le_of_ble_eq_true rfl) ?_
  have hrl := hRw.len
  refine ACode.seq ?_
  refine ACode.region' [0] (by kernel_rfl) rfl ?_
  refine aOps_1 rfl rfl rfl (AOp.move' (.inr rfl) rfl ?_)
  refine aOps_end ?_
  show ACode _ _ _ _ _ _
  refine ACode.seq ?_
  refine ACode.region' [0] (by kernel_rfl) rfl ?_
  refine aOps_1 rfl rfl rfl (AOp.move' (.inr rfl) rfl ?_)
  refine aOps_end ?_
  show ACode _ _ _ _ _ _
  refine ACode.seq ?_
  refine ACode.seq ?_
  refine ACode.adopt (t := 5) 43 3 (by decide) rfl ?_
  refine ACode.region' [0] (by kernel_rfl) rfl ?_
  refine aOps_1 rfl rfl rfl (AOp.move' (.inr rfl) rfl ?_)
  refine aOps_end ?_
  show ACode _ _ _ _ _ _
  refine ACode.block ?_
  refine ACode.count (fun i => [(6, .int .i64 (i : Int)), (5, .slice (some ⟨k, 0, some 1⟩) i i)]) [(0, _), (1, _), (4, _)] (fun i => upd H k (some (gV ((colOf rows x).take i)))) (vs.length) (fun _ => True) (.cons rfl (.cons rfl .nil)) (.cons rfl (.cons rfl (.cons rfl .nil))) (by (repeat (first | exact sub_refl _ | assumption | refine sub_upd' ?_ (by ((repeat refine (upd_other _ _ (by omega)).trans ?_); first | exact hf _ (by omega))) | refine sub_over (by assumption) | refine sub_over0 ?_ | refine sub_trans (sub_same (by assumption)) ?_ | refine sub_dropu ?_ | refine sub_drop ?_ | refine sub_put ?_ (by repeat (first | assumption | exact upd_same _ _ _ | refine (upd_other _ _ (by omega)).trans ?_))))) trivial (fun i0 kL0 HL0 hiL0 hkL0 hsL0 hfL0 hxL0 => ?_)
  show ACode _ _ _ _ _ ⟨_, _, _⟩
  refine ACode.seq ?_
  refine ACode.seq ?_
  refine ACode.region' [0, 1, 2, 3] (by kernel_rfl) rfl ?_
  refine aOps_1 rfl rfl rfl (AOp.move' (.inl rfl) rfl ?_)
  refine aOps_1 rfl rfl rfl (AOp.move' (.inl rfl) rfl ?_)
  refine aOps_1 rfl rfl rfl (AOp.len' rfl rfl ?_)
  refine aOps_1 rfl rfl rfl (AOp.bin' rfl rfl rfl rfl ?_)
  refine aOps_end ?_
  show ACode _ _ _ _ _ _
  refine ACode.cond rfl (fun c0 => ?_) (fun c0 => ?_)
  · try simp only [decide_eq_true_eq, decide_eq_false_iff_not, beq_iff_eq, beq_eq_false_iff_ne, ne_eq, bne_iff_ne, Bool.not_eq_true', Bool.not_eq_false', Int.not_lt, Int.not_le, gt_iff_lt, ge_iff_le, bne_eq_false_iff_eq, Bool.not_eq_eq_eq_not, Bool.not_true, Bool.not_false] at c0
    refine ACode.skip ?_
    show ACode _ _ _ _ _ _
    refine ACode.seq ?_
    refine ACode.block ?_
    obtain ⟨A1, d1, e1, hc1⟩ := hRw.at_ i0 (by omega)
    have hm1 : rows.getD i0 [] ∈ rows := by { rw [List.getD_eq_getElem?_getD, List.getElem?_eq_getElem (by omega)]; exact List.getElem_mem _ }
    have hx1 := hw _ hm1
    obtain ⟨n5_3, o5_3, s5_3, hq5_3, hp5_3⟩ := slcElV hS.cells (show i0 < vs.length by omega)
    obtain ⟨n5_6, o5_6, s5_6, hq5_6, hp5_6⟩ := slcV hc1.cells hx1
    refine ACode.region' [0, 1, 2, 3, 4, 5, 6, 7, 8, 9, 10] (by kernel_rfl) rfl ?_
    refine aOps_1 rfl rfl rfl (AOp.move' (.inl rfl) rfl ?_)
    refine aOps_1 rfl rfl rfl (AOp.move' (.inl rfl) rfl ?_)
    refine aOps_1 rfl rfl rfl (AOp.move' (.inl rfl) rfl ?_)
    refine aOps_1 rfl rfl rfl (AOp.indexP (aslcAt_sub (by (repeat (first | exact sub_refl _ | assumption | refine sub_upd' ?_ (by ((repeat refine (upd_other _ _ (by omega)).trans ?_); first | exact hf _ (by omega) | exact hfL0 _ (by omega))) | refine sub_trans ?_ hsL0 | refine sub_over (by assumption) | refine sub_over0 ?_ | refine sub_trans (sub_same (by assumption)) ?_ | refine sub_dropu ?_ | refine sub_drop ?_ | refine sub_put ?_ (by repeat (first | assumption | exact upd_same _ _ _ | refine (upd_other _ _ (by omega)).trans ?_ | refine hsL0 _ _ ?_))))) hq5_3) rfl rfl rfl ?_)
    refine aOps_1 rfl rfl rfl (AOp.loadP0 (hp5_3.sub (by (repeat (first | exact sub_refl _ | assumption | refine sub_upd' ?_ (by ((repeat refine (upd_other _ _ (by omega)).trans ?_); first | exact hf _ (by omega) | exact hfL0 _ (by omega))) | refine sub_trans ?_ hsL0 | refine sub_over (by assumption) | refine sub_over0 ?_ | refine sub_trans (sub_same (by assumption)) ?_ | refine sub_dropu ?_ | refine sub_drop ?_ | refine sub_put ?_ (by repeat (first | assumption | exact upd_same _ _ _ | refine (upd_other _ _ (by omega)).trans ?_ | refine hsL0 _ _ ?_)))))) rfl rfl rfl ?_)
    rw [e1]
    refine aOps_1 rfl rfl rfl (AOp.move' (.inl rfl) rfl ?_)
    refine aOps_1 rfl rfl rfl (AOp.indexP (aslcAt_sub (by (repeat (first | exact sub_refl _ | assumption | refine sub_upd' ?_ (by ((repeat refine (upd_other _ _ (by omega)).trans ?_); first | exact hf _ (by omega) | exact hfL0 _ (by omega))) | refine sub_trans ?_ hsL0 | refine sub_over (by assumption) | refine sub_over0 ?_ | refine sub_trans (sub_same (by assumption)) ?_ | refine sub_dropu ?_ | refine sub_drop ?_ | refine sub_put ?_ (by repeat (first | assumption | exact upd_same _ _ _ | refine (upd_other _ _ (by omega)).trans ?_ | refine hsL0 _ _ ?_))))) hq5_6) rfl rfl rfl ?_)
    refine aOps_1 rfl rfl rfl (AOp.loadPA (v := vv ((rows.getD i0 []).getD x vD)) (hp5_6.sub (by (repeat (first | exact sub_refl _ | assumption | refine sub_upd' ?_ (by ((repeat refine (upd_other _ _ (by omega)).trans ?_); first | exact hf _ (by omega) | exact hfL0 _ (by omega))) | refine sub_trans ?_ hsL0 | refine sub_over (by assumption) | refine sub_over0 ?_ | refine sub_trans (sub_same (by assumption)) ?_ | refine sub_dropu ?_ | refine sub_drop ?_ | refine sub_put ?_ (by repeat (first | assumption | exact upd_same _ _ _ | refine (upd_other _ _ (by omega)).trans ?_ | refine hsL0 _ _ ?_)))))) rfl rfl rfl rfl (by first | rfl | (simp; done)) (by decide) ?_)
    refine aOps_1 rfl rfl rfl (AOp.buildH (vals3 [((rows.getD i0 []).getD x vD)]) rfl rfl (by show 0 < 3; decide) (by show 3 ≤ 16777216; decide) rfl rfl ?_)
    refine aOps_1 rfl rfl rfl (AOp.append' (b := gV ((colOf rows x).take i0)) (m := 1) (news := vals3 [((rows.getD i0 []).getD x vD)]) rfl rfl rfl (by repeat (first | assumption | exact upd_same _ _ _ | refine (upd_other _ _ (by omega)).trans ?_ | refine hsL0 _ _ ?_)) (srcOf_grow (b := gV [((rows.getD i0 []).getD x vD)]) (by repeat (first | assumption | exact upd_same _ _ _ | refine (upd_other _ _ (by omega)).trans ?_ | refine hsL0 _ _ ?_)) rfl rfl) rfl rfl rfl (by show i0 * 3 = (vals3 _).length; rw [vals3_len, List.length_take, colOf_len]; omega) srcOk_sl (vals3_one _) (by omega) (by omega) ?_)
    refine aOps_1 rfl rfl rfl (AOp.move' (.inr rfl) rfl ?_)
    refine aOps_end ?_
    show ACode _ _ _ _ _ _
    refine ACode.region' [0, 1, 2] (by kernel_rfl) rfl ?_
    refine aOps_1 rfl rfl rfl (AOp.move' (.inl rfl) rfl ?_)
    refine aOps_1 rfl rfl rfl (AOp.add rfl rfl rfl (i64_wrap (by omega) (by omega)) ?_)
    refine aOps_1 rfl rfl rfl (AOp.move' (.inr rfl) rfl ?_)
    refine aOps_end ?_
    have htk := col_snoc (x := x) (show i0 < rows.length by omega)
    first | refine thenA_n ?_ | simp only [thenA, blockA, if_true]
    exact NextR.mk (by omega) (by omega) (.cons rfl (.cons rfl .nil)) (.cons rfl (.cons rfl (.cons rfl .nil))) (by show Ab.Sub (upd _ _ (some { cells := vals3 ((colOf rows x).take (i0 + 1)), elem := _, kind := _, esz := _ })) _; rw [htk]; (repeat (first | exact sub_refl _ | assumption | refine sub_upd' ?_ (by ((repeat refine (upd_other _ _ (by omega)).trans ?_); first | exact hf _ (by omega) | exact hfL0 _ (by omega))) | refine sub_trans ?_ hsL0 | refine sub_over (by assumption) | refine sub_over0 ?_ | refine sub_trans (sub_same (by assumption)) ?_ | refine sub_dropu ?_ | refine sub_drop ?_ | refine sub_put ?_ (by repeat (first | assumption | exact upd_same _ _ _ | refine (upd_other _ _ (by omega)).trans ?_ | refine hsL0 _ _ ?_))))) trivial
  · try simp only [decide_eq_true_eq, decide_eq_false_iff_not, beq_iff_eq, beq_eq_false_iff_ne, ne_eq, bne_iff_ne, Bool.not_eq_true', Bool.not_eq_false', Int.not_lt, Int.not_le, gt_iff_lt, ge_iff_le, bne_eq_false_iff_eq, Bool.not_eq_eq_eq_not, Bool.not_true, Bool.not_false] at c0
    refine ACode.exit ?_
    show ACode _ _ _ _ _ _
    refine ACode.seq ?_
    refine ACode.region' [0, 1] (by kernel_rfl) rfl ?_
    refine aOps_1 rfl rfl rfl (AOp.move' (.inl rfl) rfl ?_)
    refine aOps_1 rfl rfl rfl (AOp.move' (.inr rfl) rfl ?_)
    refine aOps_end ?_
    show ACode _ _ _ _ _ _
    refine ACode.ret ?_
    have hi : i0 = rows.length := by omega
    rw [List.take_of_length_le (by rw [colOf_len]; omega)] at hsL0
    exact RetQ.one rfl rfl hsL0 (fun n b hn => ⟨b, (upd_other _ _ (by have := old_lt hf hn; omega)).trans hn⟩) (fun hk => ⟨k, by omega, by omega, by rw [colOf_len, hi], rfl⟩)

end

end Go.Proofs.YtnciojaecelhmaaDoor
