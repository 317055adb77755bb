/- Contracts over the abstract states: how great a predicate is; the document's form of predicates, and which truths may be. -/
import Derived.Test.YtnciojaecelhmaaDoorZS
import Derived.Test.YtnciojaecelhmaaDoorZ1
set_option linter.unusedVariables false
set_option linter.unusedSimpArgs false
set_option maxRecDepth 100000
namespace Go.Proofs.YtnciojaecelhmaaDoor
open Go Go.Ab

theorem slcZ {H : Hp} {i : Nat} {v : Value} {l : List Zn} (h : slcCells H 8 v = some (zs8 l)) (hi : i < l.length) : ∃ n off sp, aslcAt H 8 i v = some (ptr n off sp) ∧ PAt H n off sp (zv (l.getD i zD)).cells.toList := by
  obtain ⟨n, off, sp, h1, h2⟩ := slcEl h (fun _ => rfl) (by decide) hi
  rw [show l[i] = l.getD i zD by rw [List.getD_eq_getElem?_getD, List.getElem?_eq_getElem hi]; rfl] at h2
  exact ⟨n, off, sp, h1, h2⟩
def accT (op : Int) (of : List Pd) (rows : Int) (zs : List Zn) (i : Nat) : T3 := (((of.map (mayP rows zs)).drop 1).take i).foldl (fun a x => joinT (op == 10) a x) (mayP rows zs (of.getD 0 pD))
theorem drop1_getD (of : List Pd) (i : Nat) : (of.drop 1).getD i pD = of.getD (i + 1) pD := by
  rw [List.getD_eq_getElem?_getD, List.getD_eq_getElem?_getD, List.getElem?_drop, Nat.add_comm]
theorem accT_step {op : Int} {of : List Pd} {rows : Int} {zs : List Zn} {i : Nat} (h : i + 1 < of.length) : accT op of rows zs (i + 1) = joinT (op == 10) (accT op of rows zs i) (mayP rows zs (of.getD (i + 1) pD)) := by
  have h2 : i < ((of.map (mayP rows zs)).drop 1).length := by rw [List.length_drop, List.length_map]; omega
  unfold accT
  rw [List.take_succ_eq_append_getElem h2, List.foldl_append, List.foldl_cons, List.foldl_nil]
  congr 1
  rw [List.getElem_drop, List.getElem_map]
  congr 1
  rw [List.getD_eq_getElem?_getD, List.getElem?_eq_getElem h]
  show of[1 + i] = of[i + 1]
  congr 1
  omega
theorem joinM_all {op : Int} {of : List Pd} {rows : Int} {zs : List Zn} (h0 : of ≠ []) (h : op ≠ 12) : joinM op (mayPs rows zs of) = accT op of rows zs (of.length - 1) := by
  rw [mayPs_map]
  match of, h0 with
  | p :: ps, _ =>
    rw [List.map_cons]
    unfold joinM accT
    simp only
    rw [if_neg h, List.map_cons, List.drop_succ_cons, List.drop_zero, List.take_of_length_le (by simp)]
    rfl
theorem joinM_12 {of : List Pd} {rows : Int} {zs : List Zn} (h0 : of ≠ []) : joinM 12 (mayPs rows zs of) = (mayP rows zs (of.getD 0 pD)).rev := by
  rw [mayPs_map]
  match of, h0 with
  | p :: ps, _ => rfl
theorem may_formed {op col : Int} {v n cols : Nat} (h : mayOk op col v n cols = true) : formedP op col v n = true := (Bool.and_eq_true _ _ ▸ h).1
theorem may_col {m : Nat} {col : Int} {v n cols : Nat} (h : mayOk (m : Int) col v n cols = true) (hc : (sh m).col = true) : ∃ x : Nat, col = x ∧ x < cols := by
  unfold mayOk at h
  rw [Int.toNat_natCast, hc] at h
  simp only [Bool.not_true, Bool.false_or, Bool.and_eq_true, decide_eq_true_eq] at h
  exact ⟨col.toNat, by omega, by omega⟩
theorem may_vals {m : Nat} {col : Int} {v n cols : Nat} (h : mayOk (m : Int) col v n cols = true) (hm : m < 13) (hc : (sh m).col = true) : (m ≠ 7 → m ≠ 9 → 1 ≤ v) ∧ (m = 8 → 2 ≤ v) := by
  have h1 := formed_vals (may_formed h) hm
  obtain ⟨_, h2, h3⟩ := shape_op hm
  have h4 := ((shape_op hm).1).1 hc
  refine ⟨fun h7 h9 => ?_, fun h8 => by rw [h3 h8] at h1; omega⟩
  by_cases h8 : m = 8
  · rw [h3 h8] at h1; omega
  · rw [h2 (by omega)] at h1; omega
theorem mayR_pos {rows : Int} {zs : List Zn} {p : Pd} (h : ¬ rows < 1) : mayR rows zs p = mayP rows zs p := if_neg h
section
variable (H : Hp) (k : Nat)

theorem size_c : ∀ (N : Nat) (p : Pd) (v : Value) (deep : Nat) (H : Hp) (k : Nat), PdV H p v → deep ≤ 40 → SizeOf.sizeOf p < N → ACalls Tryd.prog 3 49 [v, .int .i64 400, .int .i64 (deep : Int)] H k (Same H k (.int .i64 (sizeP 400 p deep))) := by
  intro N
  induction N
  case zero => intro p v deep H k hp hd hN; exact absurd hN (Nat.not_lt_zero _)
  rename_i N ih
  intro p v deep H k hp hd hN
  cases p
  rename_i op col vals of
  have hpS := hp.okS
  rw [PdV] at hp
  obtain ⟨A, c, B, d, bs, rfl, hA, hvl, hol, hop, hcl, hok, hB, hPs⟩ := hp
  rw [Pd.okS] at hpS
  refine ACalls.fresh fun hf => ?_
  refine ACalls.body Tryd.func49 rfl (Nat.le_of_ble_eq_true rfl) ?_
  have hV1 := sizePs_bd (most := 400) (by decide) of (deep - 1) hpS.2
  have hV2 : (sizePs 400 of (deep - 1)).length = of.length := by rw [sizePs_map, List.length_map]
  refine ACode.seq ?_
  refine ACode.region' [0, 1] (by kernel_rfl) rfl ?_
  refine aOps_1 rfl rfl rfl (AOp.boxV rfl rfl ?_)
  refine aOps_1 rfl rfl rfl (AOp.move' (.inr rfl) rfl ?_)
  refine aOps_end ?_
  show ACode _ _ _ _ _ _
  refine ACode.seq ?_
  refine ACode.region' [0] (by kernel_rfl) rfl ?_
  refine aOps_1 rfl rfl rfl (AOp.move' (.inr rfl) rfl ?_)
  refine aOps_end ?_
  show ACode _ _ _ _ _ _
  refine ACode.seq ?_
  refine ACode.seq ?_
  refine ACode.region' [0, 1] (by kernel_rfl) rfl ?_
  refine aOps_1 rfl rfl rfl (AOp.move' (.inl rfl) rfl ?_)
  refine aOps_1 rfl rfl rfl (AOp.bin' rfl rfl rfl rfl ?_)
  refine aOps_end ?_
  show ACode _ _ _ _ _ _
  refine ACode.cond rfl (fun c0 => ?_) (fun c0 => ?_)
  · try simp only [decide_eq_true_eq, decide_eq_false_iff_not, beq_iff_eq, beq_eq_false_iff_ne, ne_eq, bne_iff_ne, Bool.not_eq_true', Bool.not_eq_false', Int.not_lt, Int.not_le, gt_iff_lt, ge_iff_le, bne_eq_false_iff_eq, Bool.not_eq_eq_eq_not, Bool.not_true, Bool.not_false] at c0
    have hd0 : deep = 0 := by omega
    refine ACode.seq ?_
    refine ACode.region' [0, 1, 2] (by kernel_rfl) rfl ?_
    refine aOps_1 rfl rfl rfl (AOp.move' (.inl rfl) rfl ?_)
    refine aOps_1 rfl rfl rfl (AOp.add rfl rfl rfl (i64_wrap (by omega) (by omega)) ?_)
    refine aOps_1 rfl rfl rfl (AOp.move' (.inr rfl) rfl ?_)
    refine aOps_end ?_
    show ACode _ _ _ _ _ _
    refine ACode.ret ?_
    exact RetQ.one rfl rfl (by (repeat (first | exact sub_refl _ | assumption | refine sub_upd' ?_ (by ((repeat refine (upd_other _ _ (by omega)).trans ?_); first | exact hf _ (by omega))) | refine sub_over (by assumption) | refine sub_over0 ?_ | refine sub_trans (sub_same (by assumption)) ?_ | refine sub_dropu ?_ | refine sub_drop ?_ | refine sub_put ?_ (by repeat (first | assumption | exact upd_same _ _ _ | refine (upd_other _ _ (by omega)).trans ?_))))) stays (fun hk => ⟨(by rw [sizeP, if_pos hd0]), rfl, by omega⟩)
  · try simp only [decide_eq_true_eq, decide_eq_false_iff_not, beq_iff_eq, beq_eq_false_iff_ne, ne_eq, bne_iff_ne, Bool.not_eq_true', Bool.not_eq_false', Int.not_lt, Int.not_le, gt_iff_lt, ge_iff_le, bne_eq_false_iff_eq, Bool.not_eq_eq_eq_not, Bool.not_true, Bool.not_false] at c0
    have hd0 : ¬ deep = 0 := by omega
    refine ACode.skip ?_
    show ACode _ _ _ _ _ _
    refine ACode.seq ?_
    refine ACode.seq ?_
    refine ACode.region' [0] (by kernel_rfl) rfl ?_
    refine aOps_1 rfl rfl rfl (AOp.move' (.inr rfl) rfl ?_)
    refine aOps_end ?_
    show ACode _ _ _ _ _ _
    refine ACode.block ?_
    refine ACode.count0 (fun i => [(8, .int .i64 (i : Int)), (7, .int .i64 (szV (vals.take i)))]) [(0, _), (1, _), (2, _), (3, _), (6, _), (10, _), (11, _)] (vals.length) (fun i => sizeVs 400 1 vals = sizeVs 400 (szV (vals.take i)) (vals.drop i) ∧ 1 ≤ szV (vals.take i) ∧ szV (vals.take i) ≤ 400 + 140737488351233) (.cons rfl (.cons rfl .nil)) (.cons rfl (.cons rfl (.cons rfl (.cons rfl (.cons rfl (.cons rfl (.cons rfl .nil))))))) ⟨rfl, (show (1 : Int) ≤ 1 by decide), (show (1 : Int) ≤ 400 + 140737488351233 by decide)⟩ (fun i0 kL0 HL0 hiL0 hkL0 hsL0 hfL0 hxL0 => ?_)
    show ACode _ _ _ _ _ ⟨_, _, _⟩
    refine ACode.seq ?_
    refine ACode.seq ?_
    refine ACode.region' [0, 1, 2, 3, 4, 5, 6, 7, 8, 9] (by kernel_rfl) rfl ?_
    refine aOps_1 rfl rfl rfl (AOp.move' (.inl rfl) rfl ?_)
    refine aOps_1 rfl rfl rfl (AOp.fieldAddr' rfl (by decide) rfl ?_)
    refine aOps_1 rfl rfl rfl ?_
    refine AOp.load1 (b := ?b48) (v := ?v48) rfl rfl ?hn48 ?hv48 ?hR48
    (case hn48 => repeat (first | assumption | exact upd_same _ _ _ | refine (upd_other _ _ (by omega)).trans ?_ | refine hsL0 _ _ ?_))
    (case hv48 => rfl)
    refine aOps_1 rfl rfl rfl (AOp.len' rfl rfl ?_)
    refine aOps_1 rfl rfl rfl (AOp.bin' rfl rfl rfl rfl ?_)
    refine aOps_1 rfl rfl rfl (AOp.move' (.inl rfl) rfl ?_)
    refine aOps_gd0 rfl rfl (wantT rfl rfl rfl) (fun hc => AOp.slots [(7, _)] (.cons rfl .nil) (AOp.move' (.inl rfl) rfl ⟨rfl, rfl, rfl⟩)) ?_
    refine aOps_gd0 rfl rfl (wantT rfl rfl rfl) (fun hc => AOp.slots [(1, _)] (.cons rfl .nil) (AOp.move' (.inl rfl) rfl ⟨rfl, rfl, rfl⟩)) ?_
    refine aOps_gd0 rfl rfl (wantT rfl rfl rfl) (fun hc => AOp.slots [(20, _), (21, _)] (.cons (gvT rfl hc) (.cons (gvT rfl hc) .nil)) (AOp.bin' rfl rfl rfl rfl ⟨rfl, rfl, rfl⟩)) ?_
    refine aOps_1 rfl rfl rfl (AOp.pickAnd rfl rfl rfl (fun hb => gvE rfl hb) ?_)
    refine aOps_end ?_
    show ACode _ _ _ _ _ _
    refine ACode.cond rfl (fun c1 => ?_) (fun c1 => ?_)
    · try simp only [decide_eq_true_eq, decide_eq_false_iff_not, beq_iff_eq, beq_eq_false_iff_ne, ne_eq, bne_iff_ne, Bool.not_eq_true', Bool.not_eq_false', Int.not_lt, Int.not_le, gt_iff_lt, ge_iff_le, bne_eq_false_iff_eq, Bool.not_eq_eq_eq_not, Bool.not_true, Bool.not_false] at c1
      simp only [Bool.and_eq_true, decide_eq_true_eq] at c1
      have hsz := hpS.1 (vals.getD i0 vD) (by rw [← getD_i (by omega)]; exact List.getElem_mem _)
      refine ACode.skip ?_
      show ACode _ _ _ _ _ _
      refine ACode.seq ?_
      refine ACode.block ?_
      obtain ⟨n7_5, o7_5, s7_5, hq7_5, hp7_5⟩ := slcV hA (show i0 < vals.length by omega)
      refine ACode.region' [0, 1, 2, 3, 4, 5, 6, 7, 8, 9, 10] (by kernel_rfl) rfl ?_
      refine aOps_1 rfl rfl rfl (AOp.move' (.inl rfl) rfl ?_)
      refine aOps_1 rfl rfl rfl (AOp.add rfl rfl rfl (i64_wrap (by omega) (by omega)) ?_)
      refine aOps_1 rfl rfl rfl (AOp.fieldAddr' rfl (by decide) rfl ?_)
      refine aOps_1 rfl rfl rfl ?_
      refine AOp.load1 (b := ?b49) (v := ?v49) rfl rfl ?hn49 ?hv49 ?hR49
      (case hn49 => repeat (first | assumption | exact upd_same _ _ _ | refine (upd_other _ _ (by omega)).trans ?_ | refine hsL0 _ _ ?_))
      (case hv49 => rfl)
      refine aOps_1 rfl rfl rfl (AOp.move' (.inl rfl) rfl ?_)
      refine aOps_1 rfl rfl rfl (AOp.indexP (aslcAt_sub (by (repeat (first | exact sub_refl _ | assumption | refine sub_upd' ?_ (by ((repeat refine (upd_other _ _ (by omega)).trans ?_); first | exact hf _ (by omega) | exact hfL0 _ (by omega))) | refine sub_trans ?_ hsL0 | refine sub_over (by assumption) | refine sub_over0 ?_ | refine sub_trans (sub_same (by assumption)) ?_ | refine sub_dropu ?_ | refine sub_drop ?_ | refine sub_put ?_ (by repeat (first | assumption | exact upd_same _ _ _ | refine (upd_other _ _ (by omega)).trans ?_ | refine hsL0 _ _ ?_))))) hq7_5) rfl rfl rfl ?_)
      refine aOps_1 rfl rfl rfl (AOp.fieldP (hp7_5.sub (by (repeat (first | exact sub_refl _ | assumption | refine sub_upd' ?_ (by ((repeat refine (upd_other _ _ (by omega)).trans ?_); first | exact hf _ (by omega) | exact hfL0 _ (by omega))) | refine sub_trans ?_ hsL0 | refine sub_over (by assumption) | refine sub_over0 ?_ | refine sub_trans (sub_same (by assumption)) ?_ | refine sub_dropu ?_ | refine sub_drop ?_ | refine sub_put ?_ (by repeat (first | assumption | exact upd_same _ _ _ | refine (upd_other _ _ (by omega)).trans ?_ | refine hsL0 _ _ ?_)))))) rfl (by decide) (Nat.le_of_ble_eq_true rfl) rfl ?_)
      refine aOps_1 rfl rfl rfl (AOp.loadP1 (hp7_5.sub (by (repeat (first | exact sub_refl _ | assumption | refine sub_upd' ?_ (by ((repeat refine (upd_other _ _ (by omega)).trans ?_); first | exact hf _ (by omega) | exact hfL0 _ (by omega))) | refine sub_trans ?_ hsL0 | refine sub_over (by assumption) | refine sub_over0 ?_ | refine sub_trans (sub_same (by assumption)) ?_ | refine sub_dropu ?_ | refine sub_drop ?_ | refine sub_put ?_ (by repeat (first | assumption | exact upd_same _ _ _ | refine (upd_other _ _ (by omega)).trans ?_ | refine hsL0 _ _ ?_)))))) rfl rfl rfl ?_)
      refine aOps_1 rfl rfl rfl (AOp.lenStr' rfl rfl ?_)
      refine aOps_1 rfl rfl rfl (AOp.add rfl rfl rfl (i64_wrap (by omega) (by omega)) ?_)
      refine aOps_1 rfl rfl rfl (AOp.move' (.inr rfl) rfl ?_)
      refine aOps_end ?_
      show ACode _ _ _ _ _ _
      refine ACode.region' [0, 1, 2] (by kernel_rfl) rfl ?_
      refine aOps_1 rfl rfl rfl (AOp.move' (.inl rfl) rfl ?_)
      refine aOps_1 rfl rfl rfl (AOp.add rfl rfl rfl (i64_wrap (by omega) (by omega)) ?_)
      refine aOps_1 rfl rfl rfl (AOp.move' (.inr rfl) rfl ?_)
      refine aOps_end ?_
      have hvt := szV_take (l := vals) (i := i0) (by omega)
      first | refine thenA_n ?_ | simp only [thenA, blockA, if_true]
      exact NextR.mk (by omega) (by omega) (.cons rfl (.cons (show _ = some (Value.int .i64 _) by rw [hvt]; rfl) .nil)) (.cons rfl (.cons rfl (.cons rfl (.cons rfl (.cons rfl (.cons rfl (.cons rfl .nil))))))) (by (repeat (first | exact sub_refl _ | assumption | refine sub_upd' ?_ (by ((repeat refine (upd_other _ _ (by omega)).trans ?_); first | exact hf _ (by omega) | exact hfL0 _ (by omega))) | refine sub_trans ?_ hsL0 | refine sub_over (by assumption) | refine sub_over0 ?_ | refine sub_trans (sub_same (by assumption)) ?_ | refine sub_dropu ?_ | refine sub_drop ?_ | refine sub_put ?_ (by repeat (first | assumption | exact upd_same _ _ _ | refine (upd_other _ _ (by omega)).trans ?_ | refine hsL0 _ _ ?_))))) ⟨hxL0.1.trans (sizeVs_go (by omega) c1.2), by omega, by omega⟩
    · try simp only [decide_eq_true_eq, decide_eq_false_iff_not, beq_iff_eq, beq_eq_false_iff_ne, ne_eq, bne_iff_ne, Bool.not_eq_true', Bool.not_eq_false', Int.not_lt, Int.not_le, gt_iff_lt, ge_iff_le, bne_eq_false_iff_eq, Bool.not_eq_eq_eq_not, Bool.not_true, Bool.not_false] at c1
      simp only [Bool.and_eq_false_iff, decide_eq_false_iff_not] at c1
      have hVe : sizeVs 400 1 vals = szV (vals.take i0) := hxL0.1.trans (sizeVs_end (by rcases c1 with h | h; exact .inl (List.drop_eq_nil_of_le (by omega)); exact .inr h))
      refine ACode.exit ?_
      show ACode _ _ _ _ _ _
      refine ACode.seq ?_
      refine ACode.seq ?_
      refine ACode.region' [0] (by kernel_rfl) rfl ?_
      refine aOps_1 rfl rfl rfl (AOp.move' (.inr rfl) rfl ?_)
      refine aOps_end ?_
      show ACode _ _ _ _ _ _
      refine ACode.block ?_
      refine ACode.count0 (fun i => [(9, .int .i64 (i : Int)), (7, .int .i64 (szO ((sizePs 400 of (deep - 1)).take i) (szV (vals.take i0))))]) [(0, _), (1, _), (2, _), (3, _), (6, _), (8, _), (10, _), (11, _), (14, _), (15, _), (16, _), (17, _), (18, _), (19, _), (20, _), (21, _), (22, _), (23, _)] (of.length) (fun i => sizeOs 400 (szV (vals.take i0)) (sizePs 400 of (deep - 1)) = sizeOs 400 (szO ((sizePs 400 of (deep - 1)).take i) (szV (vals.take i0))) ((sizePs 400 of (deep - 1)).drop i) ∧ 1 ≤ szO ((sizePs 400 of (deep - 1)).take i) (szV (vals.take i0)) ∧ szO ((sizePs 400 of (deep - 1)).take i) (szV (vals.take i0)) ≤ 300000000000000) (.cons rfl (.cons rfl .nil)) (.cons rfl (.cons rfl (.cons rfl (.cons rfl (.cons rfl (.cons rfl (.cons rfl (.cons rfl (.cons rfl (.cons rfl (.cons rfl (.cons rfl (.cons rfl (.cons rfl (.cons rfl (.cons rfl (.cons rfl (.cons rfl .nil)))))))))))))))))) ⟨rfl, hxL0.2.1, Int.le_trans hxL0.2.2 (by decide)⟩ (fun i1 kL1 HL1 hiL1 hkL1 hsL1 hfL1 hxL1 => ?_)
      show ACode _ _ _ _ _ ⟨_, _, _⟩
      refine ACode.seq ?_
      refine ACode.seq ?_
      refine ACode.region' [0, 1, 2, 3, 4, 5, 6, 7, 8, 9] (by kernel_rfl) rfl ?_
      refine aOps_1 rfl rfl rfl (AOp.move' (.inl rfl) rfl ?_)
      refine aOps_1 rfl rfl rfl (AOp.fieldAddr' rfl (by decide) rfl ?_)
      refine aOps_1 rfl rfl rfl ?_
      refine AOp.load1 (b := ?b50) (v := ?v50) rfl rfl ?hn50 ?hv50 ?hR50
      (case hn50 => repeat (first | assumption | exact upd_same _ _ _ | refine (upd_other _ _ (by omega)).trans ?_ | refine hsL1 _ _ ?_ | refine hsL0 _ _ ?_))
      (case hv50 => rfl)
      refine aOps_1 rfl rfl rfl (AOp.len' rfl rfl ?_)
      refine aOps_1 rfl rfl rfl (AOp.bin' rfl rfl rfl rfl ?_)
      refine aOps_1 rfl rfl rfl (AOp.move' (.inl rfl) rfl ?_)
      refine aOps_gd0 rfl rfl (wantT rfl rfl rfl) (fun hc => AOp.slots [(7, _)] (.cons rfl .nil) (AOp.move' (.inl rfl) rfl ⟨rfl, rfl, rfl⟩)) ?_
      refine aOps_gd0 rfl rfl (wantT rfl rfl rfl) (fun hc => AOp.slots [(1, _)] (.cons rfl .nil) (AOp.move' (.inl rfl) rfl ⟨rfl, rfl, rfl⟩)) ?_
      refine aOps_gd0 rfl rfl (wantT rfl rfl rfl) (fun hc => AOp.slots [(42, _), (43, _)] (.cons (gvT rfl hc) (.cons (gvT rfl hc) .nil)) (AOp.bin' rfl rfl rfl rfl ⟨rfl, rfl, rfl⟩)) ?_
      refine aOps_1 rfl rfl rfl (AOp.pickAnd rfl rfl rfl (fun hb => gvE rfl hb) ?_)
      refine aOps_end ?_
      show ACode _ _ _ _ _ _
      refine ACode.cond rfl (fun c2 => ?_) (fun c2 => ?_)
      · try simp only [decide_eq_true_eq, decide_eq_false_iff_not, beq_iff_eq, beq_eq_false_iff_ne, ne_eq, bne_iff_ne, Bool.not_eq_true', Bool.not_eq_false', Int.not_lt, Int.not_le, gt_iff_lt, ge_iff_le, bne_eq_false_iff_eq, Bool.not_eq_eq_eq_not, Bool.not_true, Bool.not_false] at c2
        simp only [Bool.and_eq_true, decide_eq_true_eq] at c2
        have hx2 : (sizePs 400 of (deep - 1)).getD i1 0 = sizeP 400 (of.getD i1 pD) (deep - 1) := by rw [sizePs_map, List.getD_eq_getElem?_getD, List.getElem?_map, List.getElem?_eq_getElem (show i1 < of.length by omega), List.getD_eq_getElem?_getD, List.getElem?_eq_getElem (show i1 < of.length by omega)]; rfl
        have hxb := hV1 ((sizePs 400 of (deep - 1)).getD i1 0) (by rw [List.getD_eq_getElem?_getD, List.getElem?_eq_getElem (by omega)]; exact List.getElem_mem _)
        rw [hx2] at hxb
        refine ACode.skip ?_
        show ACode _ _ _ _ _ _
        refine ACode.seq ?_
        refine ACode.block ?_
        obtain ⟨n11_4, o11_4, s11_4, v1, hq11_4, hp11_4, hv1⟩ := PdVs.el pD hB hPs (show i1 < of.length by omega)
        obtain ⟨g1, g2⟩ := hv1.agg
        refine ACode.region' [0, 1, 2, 3, 4, 5, 6, 7, 8, 9, 10, 11] (by kernel_rfl) rfl ?_
        refine aOps_1 rfl rfl rfl (AOp.move' (.inl rfl) rfl ?_)
        refine aOps_1 rfl rfl rfl (AOp.fieldAddr' rfl (by decide) rfl ?_)
        refine aOps_1 rfl rfl rfl ?_
        refine AOp.load1 (b := ?b51) (v := ?v51) rfl rfl ?hn51 ?hv51 ?hR51
        (case hn51 => repeat (first | assumption | exact upd_same _ _ _ | refine (upd_other _ _ (by omega)).trans ?_ | refine hsL1 _ _ ?_ | refine hsL0 _ _ ?_))
        (case hv51 => rfl)
        refine aOps_1 rfl rfl rfl (AOp.move' (.inl rfl) rfl ?_)
        refine aOps_1 rfl rfl rfl (AOp.indexP (aslcAt_sub (by (repeat (first | exact sub_refl _ | assumption | refine sub_upd' ?_ (by ((repeat refine (upd_other _ _ (by omega)).trans ?_); first | exact hf _ (by omega) | exact hfL0 _ (by omega) | exact hfL1 _ (by omega))) | refine sub_trans ?_ hsL1 | refine sub_trans ?_ hsL0 | refine sub_over (by assumption) | refine sub_over0 ?_ | refine sub_trans (sub_same (by assumption)) ?_ | refine sub_dropu ?_ | refine sub_drop ?_ | refine sub_put ?_ (by repeat (first | assumption | exact upd_same _ _ _ | refine (upd_other _ _ (by omega)).trans ?_ | refine hsL1 _ _ ?_ | refine hsL0 _ _ ?_))))) hq11_4) rfl rfl rfl ?_)
        refine aOps_1 rfl rfl rfl (AOp.loadPA (v := v1) (hp11_4.sub (by (repeat (first | exact sub_refl _ | assumption | refine sub_upd' ?_ (by ((repeat refine (upd_other _ _ (by omega)).trans ?_); first | exact hf _ (by omega) | exact hfL0 _ (by omega) | exact hfL1 _ (by omega))) | refine sub_trans ?_ hsL1 | refine sub_trans ?_ hsL0 | refine sub_over (by assumption) | refine sub_over0 ?_ | refine sub_trans (sub_same (by assumption)) ?_ | refine sub_dropu ?_ | refine sub_drop ?_ | refine sub_put ?_ (by repeat (first | assumption | exact upd_same _ _ _ | refine (upd_other _ _ (by omega)).trans ?_ | refine hsL1 _ _ ?_ | refine hsL0 _ _ ?_)))))) rfl rfl rfl g1 g2 (by decide) ?_)
        refine aOps_1 rfl rfl rfl (AOp.move' (.inl rfl) rfl ?_)
        refine aOps_1 rfl rfl rfl (AOp.move' (.inl rfl) rfl ?_)
        refine aOps_1 rfl rfl rfl (AOp.sub rfl rfl rfl (i64_wrap (by omega) (by omega)) ?_)
        rw [show ((deep : Int) - 1) = ((deep - 1 : Nat) : Int) by omega]
        refine aOps_q rfl rfl rfl (AOp.call' rfl rfl rfl (ih (of.getD i1 pD) v1 (deep - 1) _ _ (hv1.sub (by (repeat (first | exact sub_refl _ | assumption | refine sub_upd' ?_ (by ((repeat refine (upd_other _ _ (by omega)).trans ?_); first | exact hf _ (by omega) | exact hfL0 _ (by omega) | exact hfL1 _ (by omega))) | refine sub_trans ?_ hsL1 | refine sub_trans ?_ hsL0 | refine sub_over (by assumption) | refine sub_over0 ?_ | refine sub_trans (sub_same (by assumption)) ?_ | refine sub_dropu ?_ | refine sub_drop ?_ | refine sub_put ?_ (by repeat (first | assumption | exact upd_same _ _ _ | refine (upd_other _ _ (by omega)).trans ?_ | refine hsL1 _ _ ?_ | refine hsL0 _ _ ?_)))))) (by omega) (by have := Pd.lt (op := op) (col := col) (vals := vals) (pd_getD (ps := of) (i := i1) (by omega)); omega)) (fun _ _ _ h => h)) (fun kq hkq => ?_)
        refine aOps_1 rfl rfl rfl (AOp.add rfl rfl rfl (i64_wrap (by omega) (by omega)) ?_)
        refine aOps_1 rfl rfl rfl (AOp.move' (.inr rfl) rfl ?_)
        refine aOps_end ?_
        show ACode _ _ _ _ _ _
        refine ACode.region' [0, 1, 2] (by kernel_rfl) rfl ?_
        refine aOps_1 rfl rfl rfl (AOp.move' (.inl rfl) rfl ?_)
        refine aOps_1 rfl rfl rfl (AOp.add rfl rfl rfl (i64_wrap (by omega) (by omega)) ?_)
        refine aOps_1 rfl rfl rfl (AOp.move' (.inr rfl) rfl ?_)
        refine aOps_end ?_
        have hot := szO_take (l := sizePs 400 of (deep - 1)) (i := i1) (n := szV (vals.take i0)) (by omega)
        rw [hx2] at hot
        first | refine thenA_n ?_ | simp only [thenA, blockA, if_true]
        exact NextR.mk (by omega) (by omega) (.cons rfl (.cons (show _ = some (Value.int .i64 _) by rw [hot]; rfl) .nil)) (.cons rfl (.cons rfl (.cons rfl (.cons rfl (.cons rfl (.cons rfl (.cons rfl (.cons rfl (.cons rfl (.cons rfl (.cons rfl (.cons rfl (.cons rfl (.cons rfl (.cons rfl (.cons rfl (.cons rfl (.cons rfl .nil)))))))))))))))))) (by (repeat (first | exact sub_refl _ | assumption | refine sub_upd' ?_ (by ((repeat refine (upd_other _ _ (by omega)).trans ?_); first | exact hf _ (by omega) | exact hfL0 _ (by omega) | exact hfL1 _ (by omega))) | refine sub_trans ?_ hsL1 | refine sub_trans ?_ hsL0 | refine sub_over (by assumption) | refine sub_over0 ?_ | refine sub_trans (sub_same (by assumption)) ?_ | refine sub_dropu ?_ | refine sub_drop ?_ | refine sub_put ?_ (by repeat (first | assumption | exact upd_same _ _ _ | refine (upd_other _ _ (by omega)).trans ?_ | refine hsL1 _ _ ?_ | refine hsL0 _ _ ?_))))) ⟨hxL1.1.trans (sizeOs_go (by omega) c2.2), by omega, by omega⟩
      · try simp only [decide_eq_true_eq, decide_eq_false_iff_not, beq_iff_eq, beq_eq_false_iff_ne, ne_eq, bne_iff_ne, Bool.not_eq_true', Bool.not_eq_false', Int.not_lt, Int.not_le, gt_iff_lt, ge_iff_le, bne_eq_false_iff_eq, Bool.not_eq_eq_eq_not, Bool.not_true, Bool.not_false] at c2
        simp only [Bool.and_eq_false_iff, decide_eq_false_iff_not] at c2
        have hOe : sizeOs 400 (szV (vals.take i0)) (sizePs 400 of (deep - 1)) = szO ((sizePs 400 of (deep - 1)).take i1) (szV (vals.take i0)) := hxL1.1.trans (sizeOs_end (by rcases c2 with h | h; exact .inl (List.drop_eq_nil_of_le (by omega)); exact .inr h))
        refine ACode.exit ?_
        show ACode _ _ _ _ _ _
        refine ACode.seq ?_
        refine ACode.region' [0, 1] (by kernel_rfl) rfl ?_
        refine aOps_1 rfl rfl rfl (AOp.move' (.inl rfl) rfl ?_)
        refine aOps_1 rfl rfl rfl (AOp.move' (.inr rfl) rfl ?_)
        refine aOps_end ?_
        show ACode _ _ _ _ _ _
        refine ACode.ret ?_
        exact RetQ.one rfl rfl (by (repeat (first | exact sub_refl _ | assumption | refine sub_upd' ?_ (by ((repeat refine (upd_other _ _ (by omega)).trans ?_); first | exact hf _ (by omega) | exact hfL0 _ (by omega) | exact hfL1 _ (by omega))) | refine sub_trans ?_ hsL1 | refine sub_trans ?_ hsL0 | refine sub_over (by assumption) | refine sub_over0 ?_ | refine sub_trans (sub_same (by assumption)) ?_ | refine sub_dropu ?_ | refine sub_drop ?_ | refine sub_put ?_ (by repeat (first | assumption | exact upd_same _ _ _ | refine (upd_other _ _ (by omega)).trans ?_ | refine hsL1 _ _ ?_ | refine hsL0 _ _ ?_))))) stays (fun hk => ⟨(by rw [sizeP, if_neg hd0, hVe, hOe]), rfl, by omega⟩)

theorem small_b (p : Pd) (v : Value) (hp : PdV H p v) : ACalls Tryd.prog 3 14 [v] H k (Same H k (.bool (decide (sizeP 400 p 40 ≤ 400)))) := by
  obtain ⟨xo, xc, xA, xl, xcc, xB, xm, xd, rfl⟩ := hp.form
  refine ACalls.fresh fun hf => ?_
  refine ACalls.body Tryd.func14 rfl (Nat.le_of_ble_eq_true rfl) ?_
  refine ACode.seq ?_
  refine ACode.region' [0, 1] (by kernel_rfl) rfl ?_
  refine aOps_1 rfl rfl rfl (AOp.boxV rfl rfl ?_)
  refine aOps_1 rfl rfl rfl (AOp.move' (.inr rfl) rfl ?_)
  refine aOps_end ?_
  show ACode _ _ _ _ _ _
  refine ACode.seq ?_
  refine ACode.region' [0, 1, 2, 3] (by kernel_rfl) rfl ?_
  refine aOps_1 rfl rfl rfl ?_
  refine AOp.loadAll (b := ?b52) (v := pv xo xc xA xl xcc xB xm xd) rfl rfl ?hn52 ?hv52 ?hw52 ?hz52 ?hR52
  (case hn52 => repeat (first | assumption | exact upd_same _ _ _ | refine (upd_other _ _ (by omega)).trans ?_))
  (case hv52 => rfl)
  (case hw52 => rfl)
  (case hz52 => first | rfl | (simp; done))
  refine aOps_q rfl rfl rfl (AOp.call' rfl rfl rfl (size_c (SizeOf.sizeOf p + 1) p _ 40 _ _ (hp.sub (by (repeat (first | exact sub_refl _ | assumption | refine sub_upd' ?_ (by ((repeat refine (upd_other _ _ (by omega)).trans ?_); first | exact hf _ (by omega))) | refine sub_over (by assumption) | refine sub_over0 ?_ | refine sub_trans (sub_same (by assumption)) ?_ | refine sub_dropu ?_ | refine sub_drop ?_ | refine sub_put ?_ (by repeat (first | assumption | exact upd_same _ _ _ | refine (upd_other _ _ (by omega)).trans ?_)))))) (by decide) (Nat.lt_succ_self _)) (fun _ _ _ h => h)) (fun kq hkq => ?_)
  refine aOps_1 rfl rfl rfl (AOp.bin' rfl rfl rfl rfl ?_)
  refine aOps_1 rfl rfl rfl (AOp.move' (.inr rfl) rfl ?_)
  refine aOps_end ?_
  show ACode _ _ _ _ _ _
  refine ACode.ret ?_
  exact RetQ.one rfl rfl (by (repeat (first | exact sub_refl _ | assumption | refine sub_upd' ?_ (by ((repeat refine (upd_other _ _ (by omega)).trans ?_); first | exact hf _ (by omega))) | refine sub_over (by assumption) | refine sub_over0 ?_ | refine sub_trans (sub_same (by assumption)) ?_ | refine sub_dropu ?_ | refine sub_drop ?_ | refine sub_put ?_ (by repeat (first | assumption | exact upd_same _ _ _ | refine (upd_other _ _ (by omega)).trans ?_))))) stays (fun hk => ⟨rfl, rfl, by omega⟩)
end

end Go.Proofs.YtnciojaecelhmaaDoor
