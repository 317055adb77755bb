/- Contracts over the abstract states: how great a predicate is; the document's form of predicates, and which truths may be. -/
import Derived.Test.YtnciojaecelhmaaDoorZS
import Derived.Test.YtnciojaecelhmaaDoorZ1
set_option linter.unusedVariables false
set_option linter.unusedSimpArgs false
set_option maxRecDepth 100000
namespace Go.Proofs.YtnciojaecelhmaaDoor
open Go Go.Ab

theorem within_r (z : Zn) (v : Val) : (decide (cmpV z.min v ≤ 0) && decide (cmpV z.max v ≥ 0)) = withinZ z v := by
  unfold withinZ
  rw [cmpV_neg v z.max, Bool.eq_iff_iff]
  simp only [Bool.and_eq_true, decide_eq_true_eq]
  omega
theorem within_s (z : Zn) (v : Val) : (decide (cmpV v z.min ≥ 0) && decide (cmpV v z.max ≤ 0)) = withinZ z v := by
  unfold withinZ
  rw [cmpV_neg z.min v, Bool.eq_iff_iff]
  simp only [Bool.and_eq_true, decide_eq_true_eq]
  omega
theorem one_r (z : Zn) (v : Val) : ((cmpV z.min v != 0) || (cmpV z.max v != 0)) = !oneZ z v := by
  unfold oneZ bne
  rw [Bool.not_and]
theorem one_s (z : Zn) (v : Val) : (cmpV v z.min == 0 && (cmpV v z.max == 0)) = oneZ z v := by
  unfold oneZ
  rw [cmpV_neg z.min v, cmpV_neg z.max v, Bool.eq_iff_iff]
  simp only [Bool.and_eq_true, beq_iff_eq]
  omega
theorem geN (c : Int) : decide (c ≥ 0) = !decide (c < 0) := by rw [Bool.eq_iff_iff]; simp
theorem gtN (c : Int) : decide (c > 0) = !decide (c ≤ 0) := by rw [Bool.eq_iff_iff]; simp
theorem leN (c : Int) : decide (c ≤ 0) = !decide (c > 0) := by rw [Bool.eq_iff_iff]; simp
theorem ltN (c : Int) : decide (c < 0) = !decide (c ≥ 0) := by rw [Bool.eq_iff_iff]; simp
theorem anyT {p : Val → Bool} {l : List Val} {i : Nat} (h : i < l.length) : (l.take (i + 1)).any p = ((l.take i).any p || p (l.getD i vD)) := by
  rw [List.take_succ_eq_append_getElem h, List.any_append, getD_i h]
  simp only [List.any_cons, List.any_nil, Bool.or_false]
theorem slcZ {H : Hp} {i : Nat} {v : Value} {l : List Zn} (h : slcCells H 8 v = some (zs8 l)) (hi : i < l.length) : ∃ n off sp, aslcAt H 8 i v = some (ptr n off sp) ∧ PAt H n off sp (zv (l.getD i zD)).cells.toList := by
  obtain ⟨n, off, sp, h1, h2⟩ := slcEl h (fun _ => rfl) (by decide) hi
  rw [show l[i] = l.getD i zD by rw [List.getD_eq_getElem?_getD, List.getElem?_eq_getElem hi]; rfl] at h2
  exact ⟨n, off, sp, h1, h2⟩
def accT (op : Int) (of : List Pd) (rows : Int) (zs : List Zn) (i : Nat) : T3 := (((of.map (mayP rows zs)).drop 1).take i).foldl (fun a x => joinT (op == 10) a x) (mayP rows zs (of.getD 0 pD))
theorem drop1_getD (of : List Pd) (i : Nat) : (of.drop 1).getD i pD = of.getD (i + 1) pD := by
  rw [List.getD_eq_getElem?_getD, List.getD_eq_getElem?_getD, List.getElem?_drop, Nat.add_comm]
theorem accT_step {op : Int} {of : List Pd} {rows : Int} {zs : List Zn} {i : Nat} (h : i + 1 < of.length) : accT op of rows zs (i + 1) = joinT (op == 10) (accT op of rows zs i) (mayP rows zs (of.getD (i + 1) pD)) := by
  have h2 : i < ((of.map (mayP rows zs)).drop 1).length := by rw [List.length_drop, List.length_map]; omega
  unfold accT
  rw [List.take_succ_eq_append_getElem h2, List.foldl_append, List.foldl_cons, List.foldl_nil]
  congr 1
  rw [List.getElem_drop, List.getElem_map]
  congr 1
  rw [List.getD_eq_getElem?_getD, List.getElem?_eq_getElem h]
  show of[1 + i] = of[i + 1]
  congr 1
  omega
theorem joinM_all {op : Int} {of : List Pd} {rows : Int} {zs : List Zn} (h0 : of ≠ []) (h : op ≠ 12) : joinM op (mayPs rows zs of) = accT op of rows zs (of.length - 1) := by
  rw [mayPs_map]
  match of, h0 with
  | p :: ps, _ =>
    rw [List.map_cons]
    unfold joinM accT
    simp only
    rw [if_neg h, List.map_cons, List.drop_succ_cons, List.drop_zero, List.take_of_length_le (by simp)]
    rfl
theorem joinM_12 {of : List Pd} {rows : Int} {zs : List Zn} (h0 : of ≠ []) : joinM 12 (mayPs rows zs of) = (mayP rows zs (of.getD 0 pD)).rev := by
  rw [mayPs_map]
  match of, h0 with
  | p :: ps, _ => rfl
theorem may_formed {op col : Int} {v n cols : Nat} (h : mayOk op col v n cols = true) : formedP op col v n = true := (Bool.and_eq_true _ _ ▸ h).1
theorem may_col {m : Nat} {col : Int} {v n cols : Nat} (h : mayOk (m : Int) col v n cols = true) (hc : (sh m).col = true) : ∃ x : Nat, col = x ∧ x < cols := by
  unfold mayOk at h
  rw [Int.toNat_natCast, hc] at h
  simp only [Bool.not_true, Bool.false_or, Bool.and_eq_true, decide_eq_true_eq] at h
  exact ⟨col.toNat, by omega, by omega⟩
theorem may_vals {m : Nat} {col : Int} {v n cols : Nat} (h : mayOk (m : Int) col v n cols = true) (hm : m < 13) (hc : (sh m).col = true) : (m ≠ 7 → m ≠ 9 → 1 ≤ v) ∧ (m = 8 → 2 ≤ v) := by
  have h1 := formed_vals (may_formed h) hm
  obtain ⟨_, h2, h3⟩ := shape_op hm
  have h4 := ((shape_op hm).1).1 hc
  refine ⟨fun h7 h9 => ?_, fun h8 => by rw [h3 h8] at h1; omega⟩
  by_cases h8 : m = 8
  · rw [h3 h8] at h1; omega
  · rw [h2 (by omega)] at h1; omega
theorem mayR_pos {rows : Int} {zs : List Zn} {p : Pd} (h : ¬ rows < 1) : mayR rows zs p = mayP rows zs p := if_neg h
section
variable (H : Hp) (k : Nat)

theorem rcmp_b (u v : Val) : ACalls Tryd.prog 3 88 [vv u, vv v] H k (Same H k (.int .i64 (cmpV u v))) := by
  refine ACalls.fresh fun hf => ?_
  refine ACalls.body Tryd.func88 rfl (Nat.le_of_ble_eq_true rfl) ?_
  refine ACode.seq ?_
  refine ACode.region' [0, 1, 2] (by kernel_rfl) rfl ?_
  refine aOps_1 rfl rfl rfl (AOp.boxV rfl rfl ?_)
  refine aOps_1 rfl rfl rfl (AOp.boxV rfl rfl ?_)
  refine aOps_1 rfl rfl rfl (AOp.move' (.inr rfl) rfl ?_)
  refine aOps_end ?_
  show ACode _ _ _ _ _ _
  refine ACode.seq ?_
  refine ACode.region' [0, 1, 2, 3] (by kernel_rfl) rfl ?_
  refine aOps_1 rfl rfl rfl ?_
  refine AOp.loadAll (b := ?b1) (v := vv u) rfl rfl ?hn1 ?hv1 ?hw1 ?hz1 ?hR1
  (case hn1 => repeat (first | assumption | exact upd_same _ _ _ | refine (upd_other _ _ (by omega)).trans ?_))
  (case hv1 => rfl)
  (case hw1 => rfl)
  (case hz1 => first | rfl | (simp; done))
  refine aOps_1 rfl rfl rfl ?_
  refine AOp.loadAll (b := ?b2) (v := vv v) rfl rfl ?hn2 ?hv2 ?hw2 ?hz2 ?hR2
  (case hn2 => repeat (first | assumption | exact upd_same _ _ _ | refine (upd_other _ _ (by omega)).trans ?_))
  (case hv2 => rfl)
  (case hw2 => rfl)
  (case hz2 => first | rfl | (simp; done))
  refine aOps_q rfl rfl rfl (AOp.call' rfl rfl rfl (refcmp_val 3 _ _ u v) (fun _ _ _ h => h)) (fun kq hkq => ?_)
  refine aOps_1 rfl rfl rfl (AOp.move' (.inr rfl) rfl ?_)
  refine aOps_end ?_
  show ACode _ _ _ _ _ _
  refine ACode.ret ?_
  exact RetQ.one rfl rfl (by (repeat (first | exact sub_refl _ | assumption | refine sub_upd' ?_ (by ((repeat refine (upd_other _ _ (by omega)).trans ?_); first | exact hf _ (by omega))) | refine sub_over (by assumption) | refine sub_over0 ?_ | refine sub_trans (sub_same (by assumption)) ?_ | refine sub_dropu ?_ | refine sub_drop ?_ | refine sub_put ?_ (by repeat (first | assumption | exact upd_same _ _ _ | refine (upd_other _ _ (by omega)).trans ?_))))) stays (fun hk => ⟨rfl, rfl, by omega⟩)

theorem rcol_b (op : Int) : ACalls Tryd.prog 3 87 [.int .i64 op] H k (Same H k (.bool (colB op))) := by
  refine ACalls.fresh fun hf => ?_
  refine ACalls.body Tryd.func87 rfl (Nat.le_of_ble_eq_true rfl) ?_
  refine ACode.seq ?_
  refine ACode.region' [0] (by kernel_rfl) rfl ?_
  refine aOps_1 rfl rfl rfl (AOp.move' (.inr rfl) rfl ?_)
  refine aOps_end ?_
  show ACode _ _ _ _ _ _
  refine ACode.seq ?_
  refine ACode.region' [0, 1, 2, 3, 4, 5, 6] (by kernel_rfl) rfl ?_
  refine aOps_1 rfl rfl rfl (AOp.move' (.inl rfl) rfl ?_)
  refine aOps_1 rfl rfl rfl (AOp.bin' rfl rfl rfl rfl ?_)
  refine aOps_1 rfl rfl rfl (AOp.move' (.inl rfl) rfl ?_)
  refine aOps_gd0 rfl rfl (wantT rfl rfl rfl) (fun hc => AOp.slots [(0, _)] (.cons rfl .nil) (AOp.move' (.inl rfl) rfl ⟨rfl, rfl, rfl⟩)) ?_
  refine aOps_gd0 rfl rfl (wantT rfl rfl rfl) (fun hc => AOp.slots [(6, _)] (.cons (gvT rfl hc) .nil) (AOp.bin' rfl rfl rfl rfl ⟨rfl, rfl, rfl⟩)) ?_
  refine aOps_1 rfl rfl rfl (AOp.pickAnd rfl rfl rfl (fun hb => gvE rfl hb) ?_)
  refine aOps_1 rfl rfl rfl (AOp.move' (.inr rfl) rfl ?_)
  refine aOps_end ?_
  show ACode _ _ _ _ _ _
  refine ACode.ret ?_
  exact RetQ.one rfl rfl (by (repeat (first | exact sub_refl _ | assumption | refine sub_upd' ?_ (by ((repeat refine (upd_other _ _ (by omega)).trans ?_); first | exact hf _ (by omega))) | refine sub_over (by assumption) | refine sub_over0 ?_ | refine sub_trans (sub_same (by assumption)) ?_ | refine sub_dropu ?_ | refine sub_drop ?_ | refine sub_put ?_ (by repeat (first | assumption | exact upd_same _ _ _ | refine (upd_other _ _ (by omega)).trans ?_))))) stays (fun hk => ⟨rfl, rfl, by omega⟩)

theorem rone_b (o : Nat) (ho1 : 1 ≤ o) (ho2 : o ≤ 8) (col : Int) (vals : List Val) (A : Option Addr) (c : Nat) (hA : slcCells H 3 (.slice A vals.length c) = some (vals3 vals)) (hl : vals.length ≤ 9223372036854775807) (B : Option Addr) (m d : Nat) (hm : m ≤ 9223372036854775807) (h1 : o ≠ 7 → 1 ≤ vals.length) (h2 : o = 8 → 2 ≤ vals.length) (z : Zn) : ACalls Tryd.prog 3 53 [pv (o : Int) col A vals.length c B m d, zv z] H k (Same H k (.tuple #[.bool (someP (o : Int) vals z).t, .bool (someP (o : Int) vals z).f])) := by
  refine ACalls.fresh fun hf => ?_
  refine ACalls.body Tryd.func53 rfl (Nat.le_of_ble_eq_true rfl) ?_
  refine ACode.seq ?_
  refine ACode.region' [0, 1, 2, 3] (by kernel_rfl) rfl ?_
  refine aOps_1 rfl rfl rfl (AOp.boxV rfl rfl ?_)
  refine aOps_1 rfl rfl rfl (AOp.boxV rfl rfl ?_)
  refine aOps_1 rfl rfl rfl (AOp.move' (.inr rfl) rfl ?_)
  refine aOps_1 rfl rfl rfl (AOp.move' (.inr rfl) rfl ?_)
  refine aOps_end ?_
  show ACode _ _ _ _ _ _
  refine ACode.seq ?_
  refine ACode.seq ?_
  refine ACode.region' [0, 1] (by kernel_rfl) rfl ?_
  refine aOps_1 rfl rfl rfl (AOp.fieldAddr' rfl (by decide) rfl ?_)
  refine aOps_1 rfl rfl rfl ?_
  refine AOp.load1 (b := ?b3) (v := ?v3) rfl rfl ?hn3 ?hv3 ?hR3
  (case hn3 => repeat (first | assumption | exact upd_same _ _ _ | refine (upd_other _ _ (by omega)).trans ?_))
  (case hv3 => rfl)
  refine aOps_end ?_
  show ACode _ _ _ _ _ _
  refine ACode.block ?_
  refine ACode.seq ?_
  refine ACode.seq ?_
  refine ACode.region' [0, 1] (by kernel_rfl) rfl ?_
  refine aOps_1 rfl rfl rfl (AOp.bin' rfl rfl rfl rfl ?_)
  refine aOps_1 rfl rfl rfl (AOp.move' (.inr rfl) rfl ?_)
  refine aOps_end ?_
  show ACode _ _ _ _ _ _
  refine ACode.cond rfl (fun c0 => ?_) (fun c0 => ?_)
  · try simp only [decide_eq_true_eq, decide_eq_false_iff_not, beq_iff_eq, beq_eq_false_iff_ne, ne_eq, bne_iff_ne, Bool.not_eq_true', Bool.not_eq_false', Int.not_lt, Int.not_le, gt_iff_lt, ge_iff_le, bne_eq_false_iff_eq, Bool.not_eq_eq_eq_not, Bool.not_true, Bool.not_false] at c0
    obtain rfl : o = 1 := by omega
    refine ACode.skip ?_
    show ACode _ _ _ _ _ _
    refine ACode.cond rfl (fun c1 => ?_) (fun c1 => absurd c1 (by decide))
    refine ACode.seq ?_
    obtain ⟨n4_2, o4_2, s4_2, hq4_2, hp4_2⟩ := slcV hA (show 0 < vals.length by omega)
    refine ACode.region' [0, 1, 2, 3, 4, 5] (by kernel_rfl) rfl ?_
    refine aOps_1 rfl rfl rfl (AOp.fieldAddr' rfl (by decide) rfl ?_)
    refine aOps_1 rfl rfl rfl ?_
    refine AOp.load1 (b := ?b4) (v := ?v4) rfl rfl ?hn4 ?hv4 ?hR4
    (case hn4 => repeat (first | assumption | exact upd_same _ _ _ | refine (upd_other _ _ (by omega)).trans ?_))
    (case hv4 => rfl)
    refine aOps_1 rfl rfl rfl (AOp.indexP (aslcAt_sub (by (repeat (first | exact sub_refl _ | assumption | refine sub_upd' ?_ (by ((repeat refine (upd_other _ _ (by omega)).trans ?_); first | exact hf _ (by omega))) | refine sub_over (by assumption) | refine sub_over0 ?_ | refine sub_trans (sub_same (by assumption)) ?_ | refine sub_dropu ?_ | refine sub_drop ?_ | refine sub_put ?_ (by repeat (first | assumption | exact upd_same _ _ _ | refine (upd_other _ _ (by omega)).trans ?_))))) hq4_2) rfl rfl rfl ?_)
    refine aOps_1 rfl rfl rfl (AOp.loadPA (v := vv (vals.getD 0 vD)) (hp4_2.sub (by (repeat (first | exact sub_refl _ | assumption | refine sub_upd' ?_ (by ((repeat refine (upd_other _ _ (by omega)).trans ?_); first | exact hf _ (by omega))) | refine sub_over (by assumption) | refine sub_over0 ?_ | refine sub_trans (sub_same (by assumption)) ?_ | refine sub_dropu ?_ | refine sub_drop ?_ | refine sub_put ?_ (by repeat (first | assumption | exact upd_same _ _ _ | refine (upd_other _ _ (by omega)).trans ?_)))))) rfl rfl rfl rfl (by first | rfl | (simp; done)) (by decide) ?_)
    refine aOps_1 rfl rfl rfl (AOp.alloc' rfl ?_)
    refine aOps_0 rfl rfl rfl ?_
    refine AOp.storeAll (b := ?b5) rfl rfl rfl ?hn5 ?hk5 rfl ?hw5 ?ho5 ?hl5 ?hR5
    (case hn5 => repeat (first | assumption | exact upd_same _ _ _ | refine (upd_other _ _ (by omega)).trans ?_))
    (case hk5 => rfl)
    (case hw5 => first | rfl | (simp; done))
    (case ho5 => first | rfl | decide | (simp; done))
    (case hl5 => first | rfl | (simp; done))
    refine aOps_end ?_
    show ACode _ _ _ _ _ _
    refine ACode.seq ?_
    refine ACode.region' [0, 1, 2, 3, 4, 5, 6, 7, 8, 9, 10, 11, 12] (by kernel_rfl) rfl ?_
    refine aOps_1 rfl rfl rfl (AOp.fieldAddr' rfl (by decide) rfl ?_)
    refine aOps_1 rfl rfl rfl (AOp.loadN (b := zblk z) (cs := [.int .i64 z.min.kind, .int .i64 z.min.n, .string z.min.s]) rfl rfl (by repeat (first | assumption | exact upd_same _ _ _ | refine (upd_other _ _ (by omega)).trans ?_)) (by show 2 + 3 ≤ 8; decide) rfl ?_)
    refine aOps_1 rfl rfl rfl ?_
    refine AOp.loadAll (b := ?b6) (v := vv (vals.getD 0 vD)) rfl rfl ?hn6 ?hv6 ?hw6 ?hz6 ?hR6
    (case hn6 => repeat (first | assumption | exact upd_same _ _ _ | refine (upd_other _ _ (by omega)).trans ?_))
    (case hv6 => rfl)
    (case hw6 => rfl)
    (case hz6 => first | rfl | (simp; done))
    refine aOps_q rfl rfl rfl (AOp.call' rfl rfl rfl (rcmp_b _ _ (z.min) (vals.getD 0 vD)) (fun _ _ _ h => h)) (fun kq hkq => ?_)
    refine aOps_1 rfl rfl rfl (AOp.bin' rfl rfl rfl rfl ?_)
    refine aOps_1 rfl rfl rfl (AOp.move' (.inl rfl) rfl ?_)
    refine aOps_gd0 rfl rfl (wantT rfl rfl rfl) (fun hc => AOp.slots [(3, _)] (.cons rfl .nil) (AOp.fieldAddr' rfl (by decide) rfl ⟨rfl, rfl, rfl⟩)) ?_
    refine aOps_gd0 rfl rfl (wantT rfl rfl rfl) (fun hc => AOp.slots [(30, _)] (.cons (gvT rfl hc) .nil) (AOp.loadN (b := zblk z) (cs := [.int .i64 z.max.kind, .int .i64 z.max.n, .string z.max.s]) rfl rfl (by repeat (first | assumption | exact upd_same _ _ _ | refine (upd_other _ _ (by omega)).trans ?_)) (by show 5 + 3 ≤ 8; decide) rfl ⟨rfl, rfl, rfl⟩)) ?_
    refine aOps_gd0 rfl rfl (wantT rfl rfl rfl) (fun hc => AOp.slots [(6, _)] (.cons rfl .nil) ((by refine AOp.loadAll (b := ?b7) (v := vv (vals.getD 0 vD)) rfl rfl ?hn7 ?hv7 ?hw7 ?hz7 ?hR7; (case hn7 => repeat (first | assumption | exact upd_same _ _ _ | refine (upd_other _ _ (by omega)).trans ?_)); (case hv7 => rfl); (case hw7 => rfl); (case hz7 => first | rfl | (simp; done)); exact ⟨rfl, rfl, rfl⟩))) ?_
    refine aOps_gd rfl rfl (wantT rfl rfl rfl) (fun hc => AOp.slots [(31, _), (32, _)] (.cons (gvT rfl hc) (.cons (gvT rfl hc) .nil)) (AOp.call' rfl rfl rfl (rcmp_b _ _ (z.max) (vals.getD 0 vD)) (fun _ _ _ h => h))) (fun kq hkq => ?_)
    refine aOps_gd0 rfl rfl (wantT rfl rfl rfl) (fun hc => AOp.slots [(33, _)] (.cons (gvT rfl hc) .nil) (AOp.bin' rfl rfl rfl rfl ⟨rfl, rfl, rfl⟩)) ?_
    refine aOps_1 rfl rfl rfl (AOp.pickAnd rfl rfl rfl (fun hb => gvE rfl hb) ?_)
    refine aOps_1 rfl rfl rfl (AOp.move' (.inr rfl) rfl ?_)
    refine aOps_end ?_
    show ACode _ _ _ _ _ _
    refine ACode.seq ?_
    refine ACode.region' [0, 1, 2, 3, 4, 5, 6, 7, 8, 9, 10, 11, 12] (by kernel_rfl) rfl ?_
    refine aOps_1 rfl rfl rfl (AOp.fieldAddr' rfl (by decide) rfl ?_)
    refine aOps_1 rfl rfl rfl (AOp.loadN (b := zblk z) (cs := [.int .i64 z.min.kind, .int .i64 z.min.n, .string z.min.s]) rfl rfl (by repeat (first | assumption | exact upd_same _ _ _ | refine (upd_other _ _ (by omega)).trans ?_)) (by show 2 + 3 ≤ 8; decide) rfl ?_)
    refine aOps_1 rfl rfl rfl ?_
    refine AOp.loadAll (b := ?b8) (v := vv (vals.getD 0 vD)) rfl rfl ?hn8 ?hv8 ?hw8 ?hz8 ?hR8
    (case hn8 => repeat (first | assumption | exact upd_same _ _ _ | refine (upd_other _ _ (by omega)).trans ?_))
    (case hv8 => rfl)
    (case hw8 => rfl)
    (case hz8 => first | rfl | (simp; done))
    refine aOps_q rfl rfl rfl (AOp.call' rfl rfl rfl (rcmp_b _ _ (z.min) (vals.getD 0 vD)) (fun _ _ _ h => h)) (fun kq hkq => ?_)
    refine aOps_1 rfl rfl rfl (AOp.bin' rfl rfl rfl rfl ?_)
    refine aOps_1 rfl rfl rfl (AOp.move' (.inl rfl) rfl ?_)
    refine aOps_gd0 rfl rfl (wantF rfl rfl rfl) (fun hc => AOp.slots [(3, _)] (.cons rfl .nil) (AOp.fieldAddr' rfl (by decide) rfl ⟨rfl, rfl, rfl⟩)) ?_
    refine aOps_gd0 rfl rfl (wantF rfl rfl rfl) (fun hc => AOp.slots [(42, _)] (.cons (gvT rfl hc) .nil) (AOp.loadN (b := zblk z) (cs := [.int .i64 z.max.kind, .int .i64 z.max.n, .string z.max.s]) rfl rfl (by repeat (first | assumption | exact upd_same _ _ _ | refine (upd_other _ _ (by omega)).trans ?_)) (by show 5 + 3 ≤ 8; decide) rfl ⟨rfl, rfl, rfl⟩)) ?_
    refine aOps_gd0 rfl rfl (wantF rfl rfl rfl) (fun hc => AOp.slots [(6, _)] (.cons rfl .nil) ((by refine AOp.loadAll (b := ?b9) (v := vv (vals.getD 0 vD)) rfl rfl ?hn9 ?hv9 ?hw9 ?hz9 ?hR9; (case hn9 => repeat (first | assumption | exact upd_same _ _ _ | refine (upd_other _ _ (by omega)).trans ?_)); (case hv9 => rfl); (case hw9 => rfl); (case hz9 => first | rfl | (simp; done)); exact ⟨rfl, rfl, rfl⟩))) ?_
    refine aOps_gd rfl rfl (wantF rfl rfl rfl) (fun hc => AOp.slots [(43, _), (44, _)] (.cons (gvT rfl hc) (.cons (gvT rfl hc) .nil)) (AOp.call' rfl rfl rfl (rcmp_b _ _ (z.max) (vals.getD 0 vD)) (fun _ _ _ h => h))) (fun kq hkq => ?_)
    refine aOps_gd0 rfl rfl (wantF rfl rfl rfl) (fun hc => AOp.slots [(45, _)] (.cons (gvT rfl hc) .nil) (AOp.bin' rfl rfl rfl rfl ⟨rfl, rfl, rfl⟩)) ?_
    refine aOps_1 rfl rfl rfl (AOp.pickOr rfl rfl rfl (fun hb => gvE rfl (t_not hb)) ?_)
    refine aOps_1 rfl rfl rfl (AOp.move' (.inr rfl) rfl ?_)
    refine aOps_end ?_
    show ACode _ _ _ _ _ _
    refine ACode.seq ?_
    refine ACode.seq ?_
    refine ACode.region' [0, 1, 2] (by kernel_rfl) rfl ?_
    refine aOps_1 rfl rfl rfl (AOp.fieldAddr' rfl (by decide) rfl ?_)
    refine aOps_1 rfl rfl rfl ?_
    refine AOp.load1 (b := ?b10) (v := ?v10) rfl rfl ?hn10 ?hv10 ?hR10
    (case hn10 => repeat (first | assumption | exact upd_same _ _ _ | refine (upd_other _ _ (by omega)).trans ?_))
    (case hv10 => rfl)
    refine aOps_1 rfl rfl rfl (AOp.bin' rfl rfl rfl rfl ?_)
    refine aOps_end ?_
    show ACode _ _ _ _ _ _
    refine ACode.cond rfl (fun c2 => ?_) (fun c2 => absurd c2 (by decide))
    refine ACode.seq ?_
    refine ACode.region' [0, 1, 2, 3] (by kernel_rfl) rfl ?_
    refine aOps_1 rfl rfl rfl (AOp.move' (.inl rfl) rfl ?_)
    refine aOps_1 rfl rfl rfl (AOp.move' (.inl rfl) rfl ?_)
    refine aOps_1 rfl rfl rfl (AOp.move' (.inr rfl) rfl ?_)
    refine aOps_1 rfl rfl rfl (AOp.move' (.inr rfl) rfl ?_)
    refine aOps_end ?_
    show ACode _ _ _ _ _ _
    refine ACode.ret ?_
    exact RetQ.two rfl rfl rfl (by (repeat (first | exact sub_refl _ | assumption | refine sub_upd' ?_ (by ((repeat refine (upd_other _ _ (by omega)).trans ?_); first | exact hf _ (by omega))) | refine sub_over (by assumption) | refine sub_over0 ?_ | refine sub_trans (sub_same (by assumption)) ?_ | refine sub_dropu ?_ | refine sub_drop ?_ | refine sub_put ?_ (by repeat (first | assumption | exact upd_same _ _ _ | refine (upd_other _ _ (by omega)).trans ?_))))) stays (fun hk => ⟨(by show Value.tuple #[Value.bool (decide (cmpV z.min (vals.getD 0 vD) ≤ 0) && decide (cmpV z.max (vals.getD 0 vD) ≥ 0)), Value.bool ((cmpV z.min (vals.getD 0 vD) != 0) || (cmpV z.max (vals.getD 0 vD) != 0))] = _; rw [within_r, one_r]; rfl), rfl, by omega⟩)
  · try simp only [decide_eq_true_eq, decide_eq_false_iff_not, beq_iff_eq, beq_eq_false_iff_ne, ne_eq, bne_iff_ne, Bool.not_eq_true', Bool.not_eq_false', Int.not_lt, Int.not_le, gt_iff_lt, ge_iff_le, bne_eq_false_iff_eq, Bool.not_eq_eq_eq_not, Bool.not_true, Bool.not_false] at c0
    refine ACode.region' [0, 1] (by kernel_rfl) rfl ?_
    refine aOps_1 rfl rfl rfl (AOp.bin' rfl rfl rfl rfl ?_)
    refine aOps_1 rfl rfl rfl (AOp.move' (.inr rfl) rfl ?_)
    refine aOps_end ?_
    show ACode _ _ _ _ _ _
    refine ACode.cond rfl (fun c1 => ?_) (fun c1 => ?_)
    · try simp only [decide_eq_true_eq, decide_eq_false_iff_not, beq_iff_eq, beq_eq_false_iff_ne, ne_eq, bne_iff_ne, Bool.not_eq_true', Bool.not_eq_false', Int.not_lt, Int.not_le, gt_iff_lt, ge_iff_le, bne_eq_false_iff_eq, Bool.not_eq_eq_eq_not, Bool.not_true, Bool.not_false] at c1
      obtain rfl : o = 2 := by omega
      refine ACode.seq ?_
      obtain ⟨n4_2, o4_2, s4_2, hq4_2, hp4_2⟩ := slcV hA (show 0 < vals.length by omega)
      refine ACode.region' [0, 1, 2, 3, 4, 5] (by kernel_rfl) rfl ?_
      refine aOps_1 rfl rfl rfl (AOp.fieldAddr' rfl (by decide) rfl ?_)
      refine aOps_1 rfl rfl rfl ?_
      refine AOp.load1 (b := ?b11) (v := ?v11) rfl rfl ?hn11 ?hv11 ?hR11
      (case hn11 => repeat (first | assumption | exact upd_same _ _ _ | refine (upd_other _ _ (by omega)).trans ?_))
      (case hv11 => rfl)
      refine aOps_1 rfl rfl rfl (AOp.indexP (aslcAt_sub (by (repeat (first | exact sub_refl _ | assumption | refine sub_upd' ?_ (by ((repeat refine (upd_other _ _ (by omega)).trans ?_); first | exact hf _ (by omega))) | refine sub_over (by assumption) | refine sub_over0 ?_ | refine sub_trans (sub_same (by assumption)) ?_ | refine sub_dropu ?_ | refine sub_drop ?_ | refine sub_put ?_ (by repeat (first | assumption | exact upd_same _ _ _ | refine (upd_other _ _ (by omega)).trans ?_))))) hq4_2) rfl rfl rfl ?_)
      refine aOps_1 rfl rfl rfl (AOp.loadPA (v := vv (vals.getD 0 vD)) (hp4_2.sub (by (repeat (first | exact sub_refl _ | assumption | refine sub_upd' ?_ (by ((repeat refine (upd_other _ _ (by omega)).trans ?_); first | exact hf _ (by omega))) | refine sub_over (by assumption) | refine sub_over0 ?_ | refine sub_trans (sub_same (by assumption)) ?_ | refine sub_dropu ?_ | refine sub_drop ?_ | refine sub_put ?_ (by repeat (first | assumption | exact upd_same _ _ _ | refine (upd_other _ _ (by omega)).trans ?_)))))) rfl rfl rfl rfl (by first | rfl | (simp; done)) (by decide) ?_)
      refine aOps_1 rfl rfl rfl (AOp.alloc' rfl ?_)
      refine aOps_0 rfl rfl rfl ?_
      refine AOp.storeAll (b := ?b12) rfl rfl rfl ?hn12 ?hk12 rfl ?hw12 ?ho12 ?hl12 ?hR12
      (case hn12 => repeat (first | assumption | exact upd_same _ _ _ | refine (upd_other _ _ (by omega)).trans ?_))
      (case hk12 => rfl)
      (case hw12 => first | rfl | (simp; done))
      (case ho12 => first | rfl | decide | (simp; done))
      (case hl12 => first | rfl | (simp; done))
      refine aOps_end ?_
      show ACode _ _ _ _ _ _
      refine ACode.seq ?_
      refine ACode.region' [0, 1, 2, 3, 4, 5, 6, 7, 8, 9, 10, 11, 12] (by kernel_rfl) rfl ?_
      refine aOps_1 rfl rfl rfl (AOp.fieldAddr' rfl (by decide) rfl ?_)
      refine aOps_1 rfl rfl rfl (AOp.loadN (b := zblk z) (cs := [.int .i64 z.min.kind, .int .i64 z.min.n, .string z.min.s]) rfl rfl (by repeat (first | assumption | exact upd_same _ _ _ | refine (upd_other _ _ (by omega)).trans ?_)) (by show 2 + 3 ≤ 8; decide) rfl ?_)
      refine aOps_1 rfl rfl rfl ?_
      refine AOp.loadAll (b := ?b13) (v := vv (vals.getD 0 vD)) rfl rfl ?hn13 ?hv13 ?hw13 ?hz13 ?hR13
      (case hn13 => repeat (first | assumption | exact upd_same _ _ _ | refine (upd_other _ _ (by omega)).trans ?_))
      (case hv13 => rfl)
      (case hw13 => rfl)
      (case hz13 => first | rfl | (simp; done))
      refine aOps_q rfl rfl rfl (AOp.call' rfl rfl rfl (rcmp_b _ _ (z.min) (vals.getD 0 vD)) (fun _ _ _ h => h)) (fun kq hkq => ?_)
      refine aOps_1 rfl rfl rfl (AOp.bin' rfl rfl rfl rfl ?_)
      refine aOps_1 rfl rfl rfl (AOp.move' (.inl rfl) rfl ?_)
      refine aOps_gd0 rfl rfl (wantT rfl rfl rfl) (fun hc => AOp.slots [(3, _)] (.cons rfl .nil) (AOp.fieldAddr' rfl (by decide) rfl ⟨rfl, rfl, rfl⟩)) ?_
      refine aOps_gd0 rfl rfl (wantT rfl rfl rfl) (fun hc => AOp.slots [(30, _)] (.cons (gvT rfl hc) .nil) (AOp.loadN (b := zblk z) (cs := [.int .i64 z.max.kind, .int .i64 z.max.n, .string z.max.s]) rfl rfl (by repeat (first | assumption | exact upd_same _ _ _ | refine (upd_other _ _ (by omega)).trans ?_)) (by show 5 + 3 ≤ 8; decide) rfl ⟨rfl, rfl, rfl⟩)) ?_
      refine aOps_gd0 rfl rfl (wantT rfl rfl rfl) (fun hc => AOp.slots [(6, _)] (.cons rfl .nil) ((by refine AOp.loadAll (b := ?b14) (v := vv (vals.getD 0 vD)) rfl rfl ?hn14 ?hv14 ?hw14 ?hz14 ?hR14; (case hn14 => repeat (first | assumption | exact upd_same _ _ _ | refine (upd_other _ _ (by omega)).trans ?_)); (case hv14 => rfl); (case hw14 => rfl); (case hz14 => first | rfl | (simp; done)); exact ⟨rfl, rfl, rfl⟩))) ?_
      refine aOps_gd rfl rfl (wantT rfl rfl rfl) (fun hc => AOp.slots [(31, _), (32, _)] (.cons (gvT rfl hc) (.cons (gvT rfl hc) .nil)) (AOp.call' rfl rfl rfl (rcmp_b _ _ (z.max) (vals.getD 0 vD)) (fun _ _ _ h => h))) (fun kq hkq => ?_)
      refine aOps_gd0 rfl rfl (wantT rfl rfl rfl) (fun hc => AOp.slots [(33, _)] (.cons (gvT rfl hc) .nil) (AOp.bin' rfl rfl rfl rfl ⟨rfl, rfl, rfl⟩)) ?_
      refine aOps_1 rfl rfl rfl (AOp.pickAnd rfl rfl rfl (fun hb => gvE rfl hb) ?_)
      refine aOps_1 rfl rfl rfl (AOp.move' (.inr rfl) rfl ?_)
      refine aOps_end ?_
      show ACode _ _ _ _ _ _
      refine ACode.seq ?_
      refine ACode.region' [0, 1, 2, 3, 4, 5, 6, 7, 8, 9, 10, 11, 12] (by kernel_rfl) rfl ?_
      refine aOps_1 rfl rfl rfl (AOp.fieldAddr' rfl (by decide) rfl ?_)
      refine aOps_1 rfl rfl rfl (AOp.loadN (b := zblk z) (cs := [.int .i64 z.min.kind, .int .i64 z.min.n, .string z.min.s]) rfl rfl (by repeat (first | assumption | exact upd_same _ _ _ | refine (upd_other _ _ (by omega)).trans ?_)) (by show 2 + 3 ≤ 8; decide) rfl ?_)
      refine aOps_1 rfl rfl rfl ?_
      refine AOp.loadAll (b := ?b15) (v := vv (vals.getD 0 vD)) rfl rfl ?hn15 ?hv15 ?hw15 ?hz15 ?hR15
      (case hn15 => repeat (first | assumption | exact upd_same _ _ _ | refine (upd_other _ _ (by omega)).trans ?_))
      (case hv15 => rfl)
      (case hw15 => rfl)
      (case hz15 => first | rfl | (simp; done))
      refine aOps_q rfl rfl rfl (AOp.call' rfl rfl rfl (rcmp_b _ _ (z.min) (vals.getD 0 vD)) (fun _ _ _ h => h)) (fun kq hkq => ?_)
      refine aOps_1 rfl rfl rfl (AOp.bin' rfl rfl rfl rfl ?_)
      refine aOps_1 rfl rfl rfl (AOp.move' (.inl rfl) rfl ?_)
      refine aOps_gd0 rfl rfl (wantF rfl rfl rfl) (fun hc => AOp.slots [(3, _)] (.cons rfl .nil) (AOp.fieldAddr' rfl (by decide) rfl ⟨rfl, rfl, rfl⟩)) ?_
      refine aOps_gd0 rfl rfl (wantF rfl rfl rfl) (fun hc => AOp.slots [(42, _)] (.cons (gvT rfl hc) .nil) (AOp.loadN (b := zblk z) (cs := [.int .i64 z.max.kind, .int .i64 z.max.n, .string z.max.s]) rfl rfl (by repeat (first | assumption | exact upd_same _ _ _ | refine (upd_other _ _ (by omega)).trans ?_)) (by show 5 + 3 ≤ 8; decide) rfl ⟨rfl, rfl, rfl⟩)) ?_
      refine aOps_gd0 rfl rfl (wantF rfl rfl rfl) (fun hc => AOp.slots [(6, _)] (.cons rfl .nil) ((by refine AOp.loadAll (b := ?b16) (v := vv (vals.getD 0 vD)) rfl rfl ?hn16 ?hv16 ?hw16 ?hz16 ?hR16; (case hn16 => repeat (first | assumption | exact upd_same _ _ _ | refine (upd_other _ _ (by omega)).trans ?_)); (case hv16 => rfl); (case hw16 => rfl); (case hz16 => first | rfl | (simp; done)); exact ⟨rfl, rfl, rfl⟩))) ?_
      refine aOps_gd rfl rfl (wantF rfl rfl rfl) (fun hc => AOp.slots [(43, _), (44, _)] (.cons (gvT rfl hc) (.cons (gvT rfl hc) .nil)) (AOp.call' rfl rfl rfl (rcmp_b _ _ (z.max) (vals.getD 0 vD)) (fun _ _ _ h => h))) (fun kq hkq => ?_)
      refine aOps_gd0 rfl rfl (wantF rfl rfl rfl) (fun hc => AOp.slots [(45, _)] (.cons (gvT rfl hc) .nil) (AOp.bin' rfl rfl rfl rfl ⟨rfl, rfl, rfl⟩)) ?_
      refine aOps_1 rfl rfl rfl (AOp.pickOr rfl rfl rfl (fun hb => gvE rfl (t_not hb)) ?_)
      refine aOps_1 rfl rfl rfl (AOp.move' (.inr rfl) rfl ?_)
      refine aOps_end ?_
      show ACode _ _ _ _ _ _
      refine ACode.seq ?_
      refine ACode.seq ?_
      refine ACode.region' [0, 1, 2] (by kernel_rfl) rfl ?_
      refine aOps_1 rfl rfl rfl (AOp.fieldAddr' rfl (by decide) rfl ?_)
      refine aOps_1 rfl rfl rfl ?_
      refine AOp.load1 (b := ?b17) (v := ?v17) rfl rfl ?hn17 ?hv17 ?hR17
      (case hn17 => repeat (first | assumption | exact upd_same _ _ _ | refine (upd_other _ _ (by omega)).trans ?_))
      (case hv17 => rfl)
      refine aOps_1 rfl rfl rfl (AOp.bin' rfl rfl rfl rfl ?_)
      refine aOps_end ?_
      show ACode _ _ _ _ _ _
      refine ACode.cond rfl (fun c2 => absurd c2 (by decide)) (fun c2 => ?_)
      refine ACode.skip ?_
      show ACode _ _ _ _ _ _
      refine ACode.seq ?_
      refine ACode.region' [0, 1, 2, 3] (by kernel_rfl) rfl ?_
      refine aOps_1 rfl rfl rfl (AOp.move' (.inl rfl) rfl ?_)
      refine aOps_1 rfl rfl rfl (AOp.move' (.inl rfl) rfl ?_)
      refine aOps_1 rfl rfl rfl (AOp.move' (.inr rfl) rfl ?_)
      refine aOps_1 rfl rfl rfl (AOp.move' (.inr rfl) rfl ?_)
      refine aOps_end ?_
      show ACode _ _ _ _ _ _
      refine ACode.ret ?_
      exact RetQ.two rfl rfl rfl (by (repeat (first | exact sub_refl _ | assumption | refine sub_upd' ?_ (by ((repeat refine (upd_other _ _ (by omega)).trans ?_); first | exact hf _ (by omega))) | refine sub_over (by assumption) | refine sub_over0 ?_ | refine sub_trans (sub_same (by assumption)) ?_ | refine sub_dropu ?_ | refine sub_drop ?_ | refine sub_put ?_ (by repeat (first | assumption | exact upd_same _ _ _ | refine (upd_other _ _ (by omega)).trans ?_))))) stays (fun hk => ⟨(by show Value.tuple #[Value.bool ((cmpV z.min (vals.getD 0 vD) != 0) || (cmpV z.max (vals.getD 0 vD) != 0)), Value.bool (decide (cmpV z.min (vals.getD 0 vD) ≤ 0) && decide (cmpV z.max (vals.getD 0 vD) ≥ 0))] = _; rw [within_r, one_r]; rfl), rfl, by omega⟩)
    · try simp only [decide_eq_true_eq, decide_eq_false_iff_not, beq_iff_eq, beq_eq_false_iff_ne, ne_eq, bne_iff_ne, Bool.not_eq_true', Bool.not_eq_false', Int.not_lt, Int.not_le, gt_iff_lt, ge_iff_le, bne_eq_false_iff_eq, Bool.not_eq_eq_eq_not, Bool.not_true, Bool.not_false] at c1
      refine ACode.seq ?_
      refine ACode.region' [0, 1] (by kernel_rfl) rfl ?_
      refine aOps_1 rfl rfl rfl (AOp.bin' rfl rfl rfl rfl ?_)
      refine aOps_1 rfl rfl rfl (AOp.move' (.inr rfl) rfl ?_)
      refine aOps_end ?_
      show ACode _ _ _ _ _ _
      refine ACode.cond rfl (fun c3 => ?_) (fun c3 => ?_)
      · try simp only [decide_eq_true_eq, decide_eq_false_iff_not, beq_iff_eq, beq_eq_false_iff_ne, ne_eq, bne_iff_ne, Bool.not_eq_true', Bool.not_eq_false', Int.not_lt, Int.not_le, gt_iff_lt, ge_iff_le, bne_eq_false_iff_eq, Bool.not_eq_eq_eq_not, Bool.not_true, Bool.not_false] at c3
        obtain rfl : o = 3 := by omega
        refine ACode.seq ?_
        obtain ⟨n11_4, o11_4, s11_4, hq11_4, hp11_4⟩ := slcV hA (show 0 < vals.length by omega)
        obtain ⟨n11_12, o11_12, s11_12, hq11_12, hp11_12⟩ := slcV hA (show 0 < vals.length by omega)
        refine ACode.draw' 18 [(0, 57), (1, 58), (2, 59), (3, 60), (4, 61), (5, 62), (6, 63), (7, 64), (8, 65), (9, 66), (10, 67), (11, 68), (12, 69), (13, 70), (14, 71), (15, 72), (16, 4), (17, 5)] mixed (by kernel_rfl) ?_
        refine Draw.step [(3, none)] rfl (by kernel_rfl) rfl (fun kq hkq => AOp.fieldAddr' rfl (by decide) rfl ⟨rfl, rfl, Nat.le_refl _⟩) ?_
        refine Draw.step [(57, some 0)] rfl (by kernel_rfl) rfl (fun kq hkq => AOp.loadN (b := zblk z) (cs := [.int .i64 z.min.kind, .int .i64 z.min.n, .string z.min.s]) rfl rfl (by repeat (first | assumption | exact upd_same _ _ _ | refine (upd_other _ _ (by omega)).trans ?_)) (by show 2 + 3 ≤ 8; decide) rfl ⟨rfl, rfl, Nat.le_refl _⟩) ?_
        refine Draw.step [(2, none)] rfl (by kernel_rfl) rfl (fun kq hkq => AOp.fieldAddr' rfl (by decide) rfl ⟨rfl, rfl, Nat.le_refl _⟩) ?_
        refine Draw.step [(59, some 2)] rfl (by kernel_rfl) rfl (fun kq hkq => (by refine AOp.load1 (b := ?b18) (v := ?v18) rfl rfl ?hn18 ?hv18 ?hR18; (case hn18 => repeat (first | assumption | exact upd_same _ _ _ | refine (upd_other _ _ (by omega)).trans ?_)); (case hv18 => rfl); exact ⟨rfl, rfl, Nat.le_refl _⟩)) ?_
        refine Draw.step [(60, some 3)] rfl (by kernel_rfl) rfl (fun kq hkq => AOp.indexP (aslcAt_sub (by (repeat (first | exact sub_refl _ | assumption | refine sub_upd' ?_ (by ((repeat refine (upd_other _ _ (by omega)).trans ?_); first | exact hf _ (by omega))) | refine sub_over (by assumption) | refine sub_over0 ?_ | refine sub_trans (sub_same (by assumption)) ?_ | refine sub_dropu ?_ | refine sub_drop ?_ | refine sub_put ?_ (by repeat (first | assumption | exact upd_same _ _ _ | refine (upd_other _ _ (by omega)).trans ?_))))) hq11_4) rfl rfl rfl ⟨rfl, rfl, Nat.le_refl _⟩) ?_
        refine Draw.step [(61, some 4)] rfl (by kernel_rfl) rfl (fun kq hkq => AOp.loadPA (v := vv (vals.getD 0 vD)) (hp11_4.sub (by (repeat (first | exact sub_refl _ | assumption | refine sub_upd' ?_ (by ((repeat refine (upd_other _ _ (by omega)).trans ?_); first | exact hf _ (by omega))) | refine sub_over (by assumption) | refine sub_over0 ?_ | refine sub_trans (sub_same (by assumption)) ?_ | refine sub_dropu ?_ | refine sub_drop ?_ | refine sub_put ?_ (by repeat (first | assumption | exact upd_same _ _ _ | refine (upd_other _ _ (by omega)).trans ?_)))))) rfl rfl rfl rfl (by first | rfl | (simp; done)) (by decide) ⟨rfl, rfl, Nat.le_refl _⟩) ?_
        refine Draw.step [(58, some 1), (62, some 5)] rfl (by kernel_rfl) rfl (fun kq hkq => AOp.call' rfl rfl rfl (rcmp_b _ _ (z.min) (vals.getD 0 vD)) (fun _ _ _ h => h)) ?_
        refine Draw.step [(63, some 6)] rfl (by kernel_rfl) rfl (fun kq hkq => AOp.bin' rfl rfl rfl rfl ⟨rfl, rfl, Nat.le_refl _⟩) ?_
        refine Draw.step [(3, none)] rfl (by kernel_rfl) rfl (fun kq hkq => AOp.fieldAddr' rfl (by decide) rfl ⟨rfl, rfl, Nat.le_refl _⟩) ?_
        refine Draw.step [(65, some 8)] rfl (by kernel_rfl) rfl (fun kq hkq => AOp.loadN (b := zblk z) (cs := [.int .i64 z.max.kind, .int .i64 z.max.n, .string z.max.s]) rfl rfl (by repeat (first | assumption | exact upd_same _ _ _ | refine (upd_other _ _ (by omega)).trans ?_)) (by show 5 + 3 ≤ 8; decide) rfl ⟨rfl, rfl, Nat.le_refl _⟩) ?_
        refine Draw.step [(2, none)] rfl (by kernel_rfl) rfl (fun kq hkq => AOp.fieldAddr' rfl (by decide) rfl ⟨rfl, rfl, Nat.le_refl _⟩) ?_
        refine Draw.step [(67, some 10)] rfl (by kernel_rfl) rfl (fun kq hkq => (by refine AOp.load1 (b := ?b19) (v := ?v19) rfl rfl ?hn19 ?hv19 ?hR19; (case hn19 => repeat (first | assumption | exact upd_same _ _ _ | refine (upd_other _ _ (by omega)).trans ?_)); (case hv19 => rfl); exact ⟨rfl, rfl, Nat.le_refl _⟩)) ?_
        refine Draw.step [(68, some 11)] rfl (by kernel_rfl) rfl (fun kq hkq => AOp.indexP (aslcAt_sub (by (repeat (first | exact sub_refl _ | assumption | refine sub_upd' ?_ (by ((repeat refine (upd_other _ _ (by omega)).trans ?_); first | exact hf _ (by omega))) | refine sub_over (by assumption) | refine sub_over0 ?_ | refine sub_trans (sub_same (by assumption)) ?_ | refine sub_dropu ?_ | refine sub_drop ?_ | refine sub_put ?_ (by repeat (first | assumption | exact upd_same _ _ _ | refine (upd_other _ _ (by omega)).trans ?_))))) hq11_12) rfl rfl rfl ⟨rfl, rfl, Nat.le_refl _⟩) ?_
        refine Draw.step [(69, some 12)] rfl (by kernel_rfl) rfl (fun kq hkq => AOp.loadPA (v := vv (vals.getD 0 vD)) (hp11_12.sub (by (repeat (first | exact sub_refl _ | assumption | refine sub_upd' ?_ (by ((repeat refine (upd_other _ _ (by omega)).trans ?_); first | exact hf _ (by omega))) | refine sub_over (by assumption) | refine sub_over0 ?_ | refine sub_trans (sub_same (by assumption)) ?_ | refine sub_dropu ?_ | refine sub_drop ?_ | refine sub_put ?_ (by repeat (first | assumption | exact upd_same _ _ _ | refine (upd_other _ _ (by omega)).trans ?_)))))) rfl rfl rfl rfl (by first | rfl | (simp; done)) (by decide) ⟨rfl, rfl, Nat.le_refl _⟩) ?_
        refine Draw.step [(66, some 9), (70, some 13)] rfl (by kernel_rfl) rfl (fun kq hkq => AOp.call' rfl rfl rfl (rcmp_b _ _ (z.max) (vals.getD 0 vD)) (fun _ _ _ h => h)) ?_
        refine Draw.step [(71, some 14)] rfl (by kernel_rfl) rfl (fun kq hkq => AOp.bin' rfl rfl rfl rfl ⟨rfl, rfl, Nat.le_refl _⟩) ?_
        refine Draw.step [(64, some 7)] rfl (by kernel_rfl) rfl (fun kq hkq => AOp.move' (.inr rfl) rfl ⟨rfl, rfl, Nat.le_refl _⟩) ?_
        refine Draw.step [(72, some 15)] rfl (by kernel_rfl) rfl (fun kq hkq => AOp.move' (.inr rfl) rfl ⟨rfl, rfl, Nat.le_refl _⟩) ?_
        refine Draw.done fun kq hkq => ?_
        show aOps _ _ _ _ [] ⟨_, _, _⟩
        refine aOps_end ?_
        show ACode _ _ _ _ _ _
        refine ACode.ret ?_
        exact RetQ.two rfl rfl rfl (by (repeat (first | exact sub_refl _ | assumption | refine sub_upd' ?_ (by ((repeat refine (upd_other _ _ (by omega)).trans ?_); first | exact hf _ (by omega))) | refine sub_over (by assumption) | refine sub_over0 ?_ | refine sub_trans (sub_same (by assumption)) ?_ | refine sub_dropu ?_ | refine sub_drop ?_ | refine sub_put ?_ (by repeat (first | assumption | exact upd_same _ _ _ | refine (upd_other _ _ (by omega)).trans ?_))))) stays (fun hk => ⟨(congrArg (fun b => Value.tuple #[Value.bool (decide (cmpV z.min (vals.getD 0 vD) < 0)), Value.bool b]) (geN (cmpV z.max (vals.getD 0 vD)))), rfl, by omega⟩)
      · try simp only [decide_eq_true_eq, decide_eq_false_iff_not, beq_iff_eq, beq_eq_false_iff_ne, ne_eq, bne_iff_ne, Bool.not_eq_true', Bool.not_eq_false', Int.not_lt, Int.not_le, gt_iff_lt, ge_iff_le, bne_eq_false_iff_eq, Bool.not_eq_eq_eq_not, Bool.not_true, Bool.not_false] at c3
        refine ACode.seq ?_
        refine ACode.region' [0, 1] (by kernel_rfl) rfl ?_
        refine aOps_1 rfl rfl rfl (AOp.bin' rfl rfl rfl rfl ?_)
        refine aOps_1 rfl rfl rfl (AOp.move' (.inr rfl) rfl ?_)
        refine aOps_end ?_
        show ACode _ _ _ _ _ _
        refine ACode.cond rfl (fun c4 => ?_) (fun c4 => ?_)
        · try simp only [decide_eq_true_eq, decide_eq_false_iff_not, beq_iff_eq, beq_eq_false_iff_ne, ne_eq, bne_iff_ne, Bool.not_eq_true', Bool.not_eq_false', Int.not_lt, Int.not_le, gt_iff_lt, ge_iff_le, bne_eq_false_iff_eq, Bool.not_eq_eq_eq_not, Bool.not_true, Bool.not_false] at c4
          obtain rfl : o = 4 := by omega
          refine ACode.seq ?_
          obtain ⟨n13_4, o13_4, s13_4, hq13_4, hp13_4⟩ := slcV hA (show 0 < vals.length by omega)
          obtain ⟨n13_12, o13_12, s13_12, hq13_12, hp13_12⟩ := slcV hA (show 0 < vals.length by omega)
          refine ACode.draw' 18 [(0, 75), (1, 76), (2, 77), (3, 78), (4, 79), (5, 80), (6, 81), (7, 82), (8, 83), (9, 84), (10, 85), (11, 86), (12, 87), (13, 88), (14, 89), (15, 90), (16, 4), (17, 5)] mixed (by kernel_rfl) ?_
          refine Draw.step [(3, none)] rfl (by kernel_rfl) rfl (fun kq hkq => AOp.fieldAddr' rfl (by decide) rfl ⟨rfl, rfl, Nat.le_refl _⟩) ?_
          refine Draw.step [(75, some 0)] rfl (by kernel_rfl) rfl (fun kq hkq => AOp.loadN (b := zblk z) (cs := [.int .i64 z.min.kind, .int .i64 z.min.n, .string z.min.s]) rfl rfl (by repeat (first | assumption | exact upd_same _ _ _ | refine (upd_other _ _ (by omega)).trans ?_)) (by show 2 + 3 ≤ 8; decide) rfl ⟨rfl, rfl, Nat.le_refl _⟩) ?_
          refine Draw.step [(2, none)] rfl (by kernel_rfl) rfl (fun kq hkq => AOp.fieldAddr' rfl (by decide) rfl ⟨rfl, rfl, Nat.le_refl _⟩) ?_
          refine Draw.step [(77, some 2)] rfl (by kernel_rfl) rfl (fun kq hkq => (by refine AOp.load1 (b := ?b20) (v := ?v20) rfl rfl ?hn20 ?hv20 ?hR20; (case hn20 => repeat (first | assumption | exact upd_same _ _ _ | refine (upd_other _ _ (by omega)).trans ?_)); (case hv20 => rfl); exact ⟨rfl, rfl, Nat.le_refl _⟩)) ?_
          refine Draw.step [(78, some 3)] rfl (by kernel_rfl) rfl (fun kq hkq => AOp.indexP (aslcAt_sub (by (repeat (first | exact sub_refl _ | assumption | refine sub_upd' ?_ (by ((repeat refine (upd_other _ _ (by omega)).trans ?_); first | exact hf _ (by omega))) | refine sub_over (by assumption) | refine sub_over0 ?_ | refine sub_trans (sub_same (by assumption)) ?_ | refine sub_dropu ?_ | refine sub_drop ?_ | refine sub_put ?_ (by repeat (first | assumption | exact upd_same _ _ _ | refine (upd_other _ _ (by omega)).trans ?_))))) hq13_4) rfl rfl rfl ⟨rfl, rfl, Nat.le_refl _⟩) ?_
          refine Draw.step [(79, some 4)] rfl (by kernel_rfl) rfl (fun kq hkq => AOp.loadPA (v := vv (vals.getD 0 vD)) (hp13_4.sub (by (repeat (first | exact sub_refl _ | assumption | refine sub_upd' ?_ (by ((repeat refine (upd_other _ _ (by omega)).trans ?_); first | exact hf _ (by omega))) | refine sub_over (by assumption) | refine sub_over0 ?_ | refine sub_trans (sub_same (by assumption)) ?_ | refine sub_dropu ?_ | refine sub_drop ?_ | refine sub_put ?_ (by repeat (first | assumption | exact upd_same _ _ _ | refine (upd_other _ _ (by omega)).trans ?_)))))) rfl rfl rfl rfl (by first | rfl | (simp; done)) (by decide) ⟨rfl, rfl, Nat.le_refl _⟩) ?_
          refine Draw.step [(76, some 1), (80, some 5)] rfl (by kernel_rfl) rfl (fun kq hkq => AOp.call' rfl rfl rfl (rcmp_b _ _ (z.min) (vals.getD 0 vD)) (fun _ _ _ h => h)) ?_
          refine Draw.step [(81, some 6)] rfl (by kernel_rfl) rfl (fun kq hkq => AOp.bin' rfl rfl rfl rfl ⟨rfl, rfl, Nat.le_refl _⟩) ?_
          refine Draw.step [(3, none)] rfl (by kernel_rfl) rfl (fun kq hkq => AOp.fieldAddr' rfl (by decide) rfl ⟨rfl, rfl, Nat.le_refl _⟩) ?_
          refine Draw.step [(83, some 8)] rfl (by kernel_rfl) rfl (fun kq hkq => AOp.loadN (b := zblk z) (cs := [.int .i64 z.max.kind, .int .i64 z.max.n, .string z.max.s]) rfl rfl (by repeat (first | assumption | exact upd_same _ _ _ | refine (upd_other _ _ (by omega)).trans ?_)) (by show 5 + 3 ≤ 8; decide) rfl ⟨rfl, rfl, Nat.le_refl _⟩) ?_
          refine Draw.step [(2, none)] rfl (by kernel_rfl) rfl (fun kq hkq => AOp.fieldAddr' rfl (by decide) rfl ⟨rfl, rfl, Nat.le_refl _⟩) ?_
          refine Draw.step [(85, some 10)] rfl (by kernel_rfl) rfl (fun kq hkq => (by refine AOp.load1 (b := ?b21) (v := ?v21) rfl rfl ?hn21 ?hv21 ?hR21; (case hn21 => repeat (first | assumption | exact upd_same _ _ _ | refine (upd_other _ _ (by omega)).trans ?_)); (case hv21 => rfl); exact ⟨rfl, rfl, Nat.le_refl _⟩)) ?_
          refine Draw.step [(86, some 11)] rfl (by kernel_rfl) rfl (fun kq hkq => AOp.indexP (aslcAt_sub (by (repeat (first | exact sub_refl _ | assumption | refine sub_upd' ?_ (by ((repeat refine (upd_other _ _ (by omega)).trans ?_); first | exact hf _ (by omega))) | refine sub_over (by assumption) | refine sub_over0 ?_ | refine sub_trans (sub_same (by assumption)) ?_ | refine sub_dropu ?_ | refine sub_drop ?_ | refine sub_put ?_ (by repeat (first | assumption | exact upd_same _ _ _ | refine (upd_other _ _ (by omega)).trans ?_))))) hq13_12) rfl rfl rfl ⟨rfl, rfl, Nat.le_refl _⟩) ?_
          refine Draw.step [(87, some 12)] rfl (by kernel_rfl) rfl (fun kq hkq => AOp.loadPA (v := vv (vals.getD 0 vD)) (hp13_12.sub (by (repeat (first | exact sub_refl _ | assumption | refine sub_upd' ?_ (by ((repeat refine (upd_other _ _ (by omega)).trans ?_); first | exact hf _ (by omega))) | refine sub_over (by assumption) | refine sub_over0 ?_ | refine sub_trans (sub_same (by assumption)) ?_ | refine sub_dropu ?_ | refine sub_drop ?_ | refine sub_put ?_ (by repeat (first | assumption | exact upd_same _ _ _ | refine (upd_other _ _ (by omega)).trans ?_)))))) rfl rfl rfl rfl (by first | rfl | (simp; done)) (by decide) ⟨rfl, rfl, Nat.le_refl _⟩) ?_
          refine Draw.step [(84, some 9), (88, some 13)] rfl (by kernel_rfl) rfl (fun kq hkq => AOp.call' rfl rfl rfl (rcmp_b _ _ (z.max) (vals.getD 0 vD)) (fun _ _ _ h => h)) ?_
          refine Draw.step [(89, some 14)] rfl (by kernel_rfl) rfl (fun kq hkq => AOp.bin' rfl rfl rfl rfl ⟨rfl, rfl, Nat.le_refl _⟩) ?_
          refine Draw.step [(82, some 7)] rfl (by kernel_rfl) rfl (fun kq hkq => AOp.move' (.inr rfl) rfl ⟨rfl, rfl, Nat.le_refl _⟩) ?_
          refine Draw.step [(90, some 15)] rfl (by kernel_rfl) rfl (fun kq hkq => AOp.move' (.inr rfl) rfl ⟨rfl, rfl, Nat.le_refl _⟩) ?_
          refine Draw.done fun kq hkq => ?_
          show aOps _ _ _ _ [] ⟨_, _, _⟩
          refine aOps_end ?_
          show ACode _ _ _ _ _ _
          refine ACode.ret ?_
          exact RetQ.two rfl rfl rfl (by (repeat (first | exact sub_refl _ | assumption | refine sub_upd' ?_ (by ((repeat refine (upd_other _ _ (by omega)).trans ?_); first | exact hf _ (by omega))) | refine sub_over (by assumption) | refine sub_over0 ?_ | refine sub_trans (sub_same (by assumption)) ?_ | refine sub_dropu ?_ | refine sub_drop ?_ | refine sub_put ?_ (by repeat (first | assumption | exact upd_same _ _ _ | refine (upd_other _ _ (by omega)).trans ?_))))) stays (fun hk => ⟨(congrArg (fun b => Value.tuple #[Value.bool (decide (cmpV z.min (vals.getD 0 vD) ≤ 0)), Value.bool b]) (gtN (cmpV z.max (vals.getD 0 vD)))), rfl, by omega⟩)
        · try simp only [decide_eq_true_eq, decide_eq_false_iff_not, beq_iff_eq, beq_eq_false_iff_ne, ne_eq, bne_iff_ne, Bool.not_eq_true', Bool.not_eq_false', Int.not_lt, Int.not_le, gt_iff_lt, ge_iff_le, bne_eq_false_iff_eq, Bool.not_eq_eq_eq_not, Bool.not_true, Bool.not_false] at c4
          refine ACode.seq ?_
          refine ACode.region' [0, 1] (by kernel_rfl) rfl ?_
          refine aOps_1 rfl rfl rfl (AOp.bin' rfl rfl rfl rfl ?_)
          refine aOps_1 rfl rfl rfl (AOp.move' (.inr rfl) rfl ?_)
          refine aOps_end ?_
          show ACode _ _ _ _ _ _
          refine ACode.cond rfl (fun c5 => ?_) (fun c5 => ?_)
          · try simp only [decide_eq_true_eq, decide_eq_false_iff_not, beq_iff_eq, beq_eq_false_iff_ne, ne_eq, bne_iff_ne, Bool.not_eq_true', Bool.not_eq_false', Int.not_lt, Int.not_le, gt_iff_lt, ge_iff_le, bne_eq_false_iff_eq, Bool.not_eq_eq_eq_not, Bool.not_true, Bool.not_false] at c5
            obtain rfl : o = 5 := by omega
            refine ACode.seq ?_
            obtain ⟨n15_4, o15_4, s15_4, hq15_4, hp15_4⟩ := slcV hA (show 0 < vals.length by omega)
            obtain ⟨n15_12, o15_12, s15_12, hq15_12, hp15_12⟩ := slcV hA (show 0 < vals.length by omega)
            refine ACode.draw' 18 [(0, 93), (1, 94), (2, 95), (3, 96), (4, 97), (5, 98), (6, 99), (7, 100), (8, 101), (9, 102), (10, 103), (11, 104), (12, 105), (13, 106), (14, 107), (15, 108), (16, 4), (17, 5)] mixed (by kernel_rfl) ?_
            refine Draw.step [(3, none)] rfl (by kernel_rfl) rfl (fun kq hkq => AOp.fieldAddr' rfl (by decide) rfl ⟨rfl, rfl, Nat.le_refl _⟩) ?_
            refine Draw.step [(93, some 0)] rfl (by kernel_rfl) rfl (fun kq hkq => AOp.loadN (b := zblk z) (cs := [.int .i64 z.max.kind, .int .i64 z.max.n, .string z.max.s]) rfl rfl (by repeat (first | assumption | exact upd_same _ _ _ | refine (upd_other _ _ (by omega)).trans ?_)) (by show 5 + 3 ≤ 8; decide) rfl ⟨rfl, rfl, Nat.le_refl _⟩) ?_
            refine Draw.step [(2, none)] rfl (by kernel_rfl) rfl (fun kq hkq => AOp.fieldAddr' rfl (by decide) rfl ⟨rfl, rfl, Nat.le_refl _⟩) ?_
            refine Draw.step [(95, some 2)] rfl (by kernel_rfl) rfl (fun kq hkq => (by refine AOp.load1 (b := ?b22) (v := ?v22) rfl rfl ?hn22 ?hv22 ?hR22; (case hn22 => repeat (first | assumption | exact upd_same _ _ _ | refine (upd_other _ _ (by omega)).trans ?_)); (case hv22 => rfl); exact ⟨rfl, rfl, Nat.le_refl _⟩)) ?_
            refine Draw.step [(96, some 3)] rfl (by kernel_rfl) rfl (fun kq hkq => AOp.indexP (aslcAt_sub (by (repeat (first | exact sub_refl _ | assumption | refine sub_upd' ?_ (by ((repeat refine (upd_other _ _ (by omega)).trans ?_); first | exact hf _ (by omega))) | refine sub_over (by assumption) | refine sub_over0 ?_ | refine sub_trans (sub_same (by assumption)) ?_ | refine sub_dropu ?_ | refine sub_drop ?_ | refine sub_put ?_ (by repeat (first | assumption | exact upd_same _ _ _ | refine (upd_other _ _ (by omega)).trans ?_))))) hq15_4) rfl rfl rfl ⟨rfl, rfl, Nat.le_refl _⟩) ?_
            refine Draw.step [(97, some 4)] rfl (by kernel_rfl) rfl (fun kq hkq => AOp.loadPA (v := vv (vals.getD 0 vD)) (hp15_4.sub (by (repeat (first | exact sub_refl _ | assumption | refine sub_upd' ?_ (by ((repeat refine (upd_other _ _ (by omega)).trans ?_); first | exact hf _ (by omega))) | refine sub_over (by assumption) | refine sub_over0 ?_ | refine sub_trans (sub_same (by assumption)) ?_ | refine sub_dropu ?_ | refine sub_drop ?_ | refine sub_put ?_ (by repeat (first | assumption | exact upd_same _ _ _ | refine (upd_other _ _ (by omega)).trans ?_)))))) rfl rfl rfl rfl (by first | rfl | (simp; done)) (by decide) ⟨rfl, rfl, Nat.le_refl _⟩) ?_
            refine Draw.step [(94, some 1), (98, some 5)] rfl (by kernel_rfl) rfl (fun kq hkq => AOp.call' rfl rfl rfl (rcmp_b _ _ (z.max) (vals.getD 0 vD)) (fun _ _ _ h => h)) ?_
            refine Draw.step [(99, some 6)] rfl (by kernel_rfl) rfl (fun kq hkq => AOp.bin' rfl rfl rfl rfl ⟨rfl, rfl, Nat.le_refl _⟩) ?_
            refine Draw.step [(3, none)] rfl (by kernel_rfl) rfl (fun kq hkq => AOp.fieldAddr' rfl (by decide) rfl ⟨rfl, rfl, Nat.le_refl _⟩) ?_
            refine Draw.step [(101, some 8)] rfl (by kernel_rfl) rfl (fun kq hkq => AOp.loadN (b := zblk z) (cs := [.int .i64 z.min.kind, .int .i64 z.min.n, .string z.min.s]) rfl rfl (by repeat (first | assumption | exact upd_same _ _ _ | refine (upd_other _ _ (by omega)).trans ?_)) (by show 2 + 3 ≤ 8; decide) rfl ⟨rfl, rfl, Nat.le_refl _⟩) ?_
            refine Draw.step [(2, none)] rfl (by kernel_rfl) rfl (fun kq hkq => AOp.fieldAddr' rfl (by decide) rfl ⟨rfl, rfl, Nat.le_refl _⟩) ?_
            refine Draw.step [(103, some 10)] rfl (by kernel_rfl) rfl (fun kq hkq => (by refine AOp.load1 (b := ?b23) (v := ?v23) rfl rfl ?hn23 ?hv23 ?hR23; (case hn23 => repeat (first | assumption | exact upd_same _ _ _ | refine (upd_other _ _ (by omega)).trans ?_)); (case hv23 => rfl); exact ⟨rfl, rfl, Nat.le_refl _⟩)) ?_
            refine Draw.step [(104, some 11)] rfl (by kernel_rfl) rfl (fun kq hkq => AOp.indexP (aslcAt_sub (by (repeat (first | exact sub_refl _ | assumption | refine sub_upd' ?_ (by ((repeat refine (upd_other _ _ (by omega)).trans ?_); first | exact hf _ (by omega))) | refine sub_over (by assumption) | refine sub_over0 ?_ | refine sub_trans (sub_same (by assumption)) ?_ | refine sub_dropu ?_ | refine sub_drop ?_ | refine sub_put ?_ (by repeat (first | assumption | exact upd_same _ _ _ | refine (upd_other _ _ (by omega)).trans ?_))))) hq15_12) rfl rfl rfl ⟨rfl, rfl, Nat.le_refl _⟩) ?_
            refine Draw.step [(105, some 12)] rfl (by kernel_rfl) rfl (fun kq hkq => AOp.loadPA (v := vv (vals.getD 0 vD)) (hp15_12.sub (by (repeat (first | exact sub_refl _ | assumption | refine sub_upd' ?_ (by ((repeat refine (upd_other _ _ (by omega)).trans ?_); first | exact hf _ (by omega))) | refine sub_over (by assumption) | refine sub_over0 ?_ | refine sub_trans (sub_same (by assumption)) ?_ | refine sub_dropu ?_ | refine sub_drop ?_ | refine sub_put ?_ (by repeat (first | assumption | exact upd_same _ _ _ | refine (upd_other _ _ (by omega)).trans ?_)))))) rfl rfl rfl rfl (by first | rfl | (simp; done)) (by decide) ⟨rfl, rfl, Nat.le_refl _⟩) ?_
            refine Draw.step [(102, some 9), (106, some 13)] rfl (by kernel_rfl) rfl (fun kq hkq => AOp.call' rfl rfl rfl (rcmp_b _ _ (z.min) (vals.getD 0 vD)) (fun _ _ _ h => h)) ?_
            refine Draw.step [(107, some 14)] rfl (by kernel_rfl) rfl (fun kq hkq => AOp.bin' rfl rfl rfl rfl ⟨rfl, rfl, Nat.le_refl _⟩) ?_
            refine Draw.step [(100, some 7)] rfl (by kernel_rfl) rfl (fun kq hkq => AOp.move' (.inr rfl) rfl ⟨rfl, rfl, Nat.le_refl _⟩) ?_
            refine Draw.step [(108, some 15)] rfl (by kernel_rfl) rfl (fun kq hkq => AOp.move' (.inr rfl) rfl ⟨rfl, rfl, Nat.le_refl _⟩) ?_
            refine Draw.done fun kq hkq => ?_
            show aOps _ _ _ _ [] ⟨_, _, _⟩
            refine aOps_end ?_
            show ACode _ _ _ _ _ _
            refine ACode.ret ?_
            exact RetQ.two rfl rfl rfl (by (repeat (first | exact sub_refl _ | assumption | refine sub_upd' ?_ (by ((repeat refine (upd_other _ _ (by omega)).trans ?_); first | exact hf _ (by omega))) | refine sub_over (by assumption) | refine sub_over0 ?_ | refine sub_trans (sub_same (by assumption)) ?_ | refine sub_dropu ?_ | refine sub_drop ?_ | refine sub_put ?_ (by repeat (first | assumption | exact upd_same _ _ _ | refine (upd_other _ _ (by omega)).trans ?_))))) stays (fun hk => ⟨(congrArg (fun b => Value.tuple #[Value.bool (decide (cmpV z.max (vals.getD 0 vD) > 0)), Value.bool b]) (leN (cmpV z.min (vals.getD 0 vD)))), rfl, by omega⟩)
          · try simp only [decide_eq_true_eq, decide_eq_false_iff_not, beq_iff_eq, beq_eq_false_iff_ne, ne_eq, bne_iff_ne, Bool.not_eq_true', Bool.not_eq_false', Int.not_lt, Int.not_le, gt_iff_lt, ge_iff_le, bne_eq_false_iff_eq, Bool.not_eq_eq_eq_not, Bool.not_true, Bool.not_false] at c5
            refine ACode.seq ?_
            refine ACode.region' [0, 1] (by kernel_rfl) rfl ?_
            refine aOps_1 rfl rfl rfl (AOp.bin' rfl rfl rfl rfl ?_)
            refine aOps_1 rfl rfl rfl (AOp.move' (.inr rfl) rfl ?_)
            refine aOps_end ?_
            show ACode _ _ _ _ _ _
            refine ACode.cond rfl (fun c6 => ?_) (fun c6 => ?_)
            · try simp only [decide_eq_true_eq, decide_eq_false_iff_not, beq_iff_eq, beq_eq_false_iff_ne, ne_eq, bne_iff_ne, Bool.not_eq_true', Bool.not_eq_false', Int.not_lt, Int.not_le, gt_iff_lt, ge_iff_le, bne_eq_false_iff_eq, Bool.not_eq_eq_eq_not, Bool.not_true, Bool.not_false] at c6
              obtain rfl : o = 6 := by omega
              refine ACode.seq ?_
              obtain ⟨n17_4, o17_4, s17_4, hq17_4, hp17_4⟩ := slcV hA (show 0 < vals.length by omega)
              obtain ⟨n17_12, o17_12, s17_12, hq17_12, hp17_12⟩ := slcV hA (show 0 < vals.length by omega)
              refine ACode.draw' 18 [(0, 111), (1, 112), (2, 113), (3, 114), (4, 115), (5, 116), (6, 117), (7, 118), (8, 119), (9, 120), (10, 121), (11, 122), (12, 123), (13, 124), (14, 125), (15, 126), (16, 4), (17, 5)] mixed (by kernel_rfl) ?_
              refine Draw.step [(3, none)] rfl (by kernel_rfl) rfl (fun kq hkq => AOp.fieldAddr' rfl (by decide) rfl ⟨rfl, rfl, Nat.le_refl _⟩) ?_
              refine Draw.step [(111, some 0)] rfl (by kernel_rfl) rfl (fun kq hkq => AOp.loadN (b := zblk z) (cs := [.int .i64 z.max.kind, .int .i64 z.max.n, .string z.max.s]) rfl rfl (by repeat (first | assumption | exact upd_same _ _ _ | refine (upd_other _ _ (by omega)).trans ?_)) (by show 5 + 3 ≤ 8; decide) rfl ⟨rfl, rfl, Nat.le_refl _⟩) ?_
              refine Draw.step [(2, none)] rfl (by kernel_rfl) rfl (fun kq hkq => AOp.fieldAddr' rfl (by decide) rfl ⟨rfl, rfl, Nat.le_refl _⟩) ?_
              refine Draw.step [(113, some 2)] rfl (by kernel_rfl) rfl (fun kq hkq => (by refine AOp.load1 (b := ?b24) (v := ?v24) rfl rfl ?hn24 ?hv24 ?hR24; (case hn24 => repeat (first | assumption | exact upd_same _ _ _ | refine (upd_other _ _ (by omega)).trans ?_)); (case hv24 => rfl); exact ⟨rfl, rfl, Nat.le_refl _⟩)) ?_
              refine Draw.step [(114, some 3)] rfl (by kernel_rfl) rfl (fun kq hkq => AOp.indexP (aslcAt_sub (by (repeat (first | exact sub_refl _ | assumption | refine sub_upd' ?_ (by ((repeat refine (upd_other _ _ (by omega)).trans ?_); first | exact hf _ (by omega))) | refine sub_over (by assumption) | refine sub_over0 ?_ | refine sub_trans (sub_same (by assumption)) ?_ | refine sub_dropu ?_ | refine sub_drop ?_ | refine sub_put ?_ (by repeat (first | assumption | exact upd_same _ _ _ | refine (upd_other _ _ (by omega)).trans ?_))))) hq17_4) rfl rfl rfl ⟨rfl, rfl, Nat.le_refl _⟩) ?_
              refine Draw.step [(115, some 4)] rfl (by kernel_rfl) rfl (fun kq hkq => AOp.loadPA (v := vv (vals.getD 0 vD)) (hp17_4.sub (by (repeat (first | exact sub_refl _ | assumption | refine sub_upd' ?_ (by ((repeat refine (upd_other _ _ (by omega)).trans ?_); first | exact hf _ (by omega))) | refine sub_over (by assumption) | refine sub_over0 ?_ | refine sub_trans (sub_same (by assumption)) ?_ | refine sub_dropu ?_ | refine sub_drop ?_ | refine sub_put ?_ (by repeat (first | assumption | exact upd_same _ _ _ | refine (upd_other _ _ (by omega)).trans ?_)))))) rfl rfl rfl rfl (by first | rfl | (simp; done)) (by decide) ⟨rfl, rfl, Nat.le_refl _⟩) ?_
              refine Draw.step [(112, some 1), (116, some 5)] rfl (by kernel_rfl) rfl (fun kq hkq => AOp.call' rfl rfl rfl (rcmp_b _ _ (z.max) (vals.getD 0 vD)) (fun _ _ _ h => h)) ?_
              refine Draw.step [(117, some 6)] rfl (by kernel_rfl) rfl (fun kq hkq => AOp.bin' rfl rfl rfl rfl ⟨rfl, rfl, Nat.le_refl _⟩) ?_
              refine Draw.step [(3, none)] rfl (by kernel_rfl) rfl (fun kq hkq => AOp.fieldAddr' rfl (by decide) rfl ⟨rfl, rfl, Nat.le_refl _⟩) ?_
              refine Draw.step [(119, some 8)] rfl (by kernel_rfl) rfl (fun kq hkq => AOp.loadN (b := zblk z) (cs := [.int .i64 z.min.kind, .int .i64 z.min.n, .string z.min.s]) rfl rfl (by repeat (first | assumption | exact upd_same _ _ _ | refine (upd_other _ _ (by omega)).trans ?_)) (by show 2 + 3 ≤ 8; decide) rfl ⟨rfl, rfl, Nat.le_refl _⟩) ?_
              refine Draw.step [(2, none)] rfl (by kernel_rfl) rfl (fun kq hkq => AOp.fieldAddr' rfl (by decide) rfl ⟨rfl, rfl, Nat.le_refl _⟩) ?_
              refine Draw.step [(121, some 10)] rfl (by kernel_rfl) rfl (fun kq hkq => (by refine AOp.load1 (b := ?b25) (v := ?v25) rfl rfl ?hn25 ?hv25 ?hR25; (case hn25 => repeat (first | assumption | exact upd_same _ _ _ | refine (upd_other _ _ (by omega)).trans ?_)); (case hv25 => rfl); exact ⟨rfl, rfl, Nat.le_refl _⟩)) ?_
              refine Draw.step [(122, some 11)] rfl (by kernel_rfl) rfl (fun kq hkq => AOp.indexP (aslcAt_sub (by (repeat (first | exact sub_refl _ | assumption | refine sub_upd' ?_ (by ((repeat refine (upd_other _ _ (by omega)).trans ?_); first | exact hf _ (by omega))) | refine sub_over (by assumption) | refine sub_over0 ?_ | refine sub_trans (sub_same (by assumption)) ?_ | refine sub_dropu ?_ | refine sub_drop ?_ | refine sub_put ?_ (by repeat (first | assumption | exact upd_same _ _ _ | refine (upd_other _ _ (by omega)).trans ?_))))) hq17_12) rfl rfl rfl ⟨rfl, rfl, Nat.le_refl _⟩) ?_
              refine Draw.step [(123, some 12)] rfl (by kernel_rfl) rfl (fun kq hkq => AOp.loadPA (v := vv (vals.getD 0 vD)) (hp17_12.sub (by (repeat (first | exact sub_refl _ | assumption | refine sub_upd' ?_ (by ((repeat refine (upd_other _ _ (by omega)).trans ?_); first | exact hf _ (by omega))) | refine sub_over (by assumption) | refine sub_over0 ?_ | refine sub_trans (sub_same (by assumption)) ?_ | refine sub_dropu ?_ | refine sub_drop ?_ | refine sub_put ?_ (by repeat (first | assumption | exact upd_same _ _ _ | refine (upd_other _ _ (by omega)).trans ?_)))))) rfl rfl rfl rfl (by first | rfl | (simp; done)) (by decide) ⟨rfl, rfl, Nat.le_refl _⟩) ?_
              refine Draw.step [(120, some 9), (124, some 13)] rfl (by kernel_rfl) rfl (fun kq hkq => AOp.call' rfl rfl rfl (rcmp_b _ _ (z.min) (vals.getD 0 vD)) (fun _ _ _ h => h)) ?_
              refine Draw.step [(125, some 14)] rfl (by kernel_rfl) rfl (fun kq hkq => AOp.bin' rfl rfl rfl rfl ⟨rfl, rfl, Nat.le_refl _⟩) ?_
              refine Draw.step [(118, some 7)] rfl (by kernel_rfl) rfl (fun kq hkq => AOp.move' (.inr rfl) rfl ⟨rfl, rfl, Nat.le_refl _⟩) ?_
              refine Draw.step [(126, some 15)] rfl (by kernel_rfl) rfl (fun kq hkq => AOp.move' (.inr rfl) rfl ⟨rfl, rfl, Nat.le_refl _⟩) ?_
              refine Draw.done fun kq hkq => ?_
              show aOps _ _ _ _ [] ⟨_, _, _⟩
              refine aOps_end ?_
              show ACode _ _ _ _ _ _
              refine ACode.ret ?_
              exact RetQ.two rfl rfl rfl (by (repeat (first | exact sub_refl _ | assumption | refine sub_upd' ?_ (by ((repeat refine (upd_other _ _ (by omega)).trans ?_); first | exact hf _ (by omega))) | refine sub_over (by assumption) | refine sub_over0 ?_ | refine sub_trans (sub_same (by assumption)) ?_ | refine sub_dropu ?_ | refine sub_drop ?_ | refine sub_put ?_ (by repeat (first | assumption | exact upd_same _ _ _ | refine (upd_other _ _ (by omega)).trans ?_))))) stays (fun hk => ⟨(congrArg (fun b => Value.tuple #[Value.bool (decide (cmpV z.max (vals.getD 0 vD) ≥ 0)), Value.bool b]) (ltN (cmpV z.min (vals.getD 0 vD)))), rfl, by omega⟩)
            · try simp only [decide_eq_true_eq, decide_eq_false_iff_not, beq_iff_eq, beq_eq_false_iff_ne, ne_eq, bne_iff_ne, Bool.not_eq_true', Bool.not_eq_false', Int.not_lt, Int.not_le, gt_iff_lt, ge_iff_le, bne_eq_false_iff_eq, Bool.not_eq_eq_eq_not, Bool.not_true, Bool.not_false] at c6
              refine ACode.seq ?_
              refine ACode.region' [0, 1] (by kernel_rfl) rfl ?_
              refine aOps_1 rfl rfl rfl (AOp.bin' rfl rfl rfl rfl ?_)
              refine aOps_1 rfl rfl rfl (AOp.move' (.inr rfl) rfl ?_)
              refine aOps_end ?_
              show ACode _ _ _ _ _ _
              refine ACode.cond rfl (fun c7 => ?_) (fun c7 => ?_)
              · try simp only [decide_eq_true_eq, decide_eq_false_iff_not, beq_iff_eq, beq_eq_false_iff_ne, ne_eq, bne_iff_ne, Bool.not_eq_true', Bool.not_eq_false', Int.not_lt, Int.not_le, gt_iff_lt, ge_iff_le, bne_eq_false_iff_eq, Bool.not_eq_eq_eq_not, Bool.not_true, Bool.not_false] at c7
                obtain rfl : o = 7 := by omega
                refine ACode.seq ?_
                refine ACode.region' [0, 1] (by kernel_rfl) rfl ?_
                refine aOps_1 rfl rfl rfl (AOp.move' (.inr rfl) rfl ?_)
                refine aOps_1 rfl rfl rfl (AOp.move' (.inr rfl) rfl ?_)
                refine aOps_end ?_
                show ACode _ _ _ _ _ _
                refine ACode.seq ?_
                refine ACode.seq ?_
                refine ACode.region' [0] (by kernel_rfl) rfl ?_
                refine aOps_1 rfl rfl rfl (AOp.move' (.inr rfl) rfl ?_)
                refine aOps_end ?_
                show ACode _ _ _ _ _ _
                refine ACode.block ?_
                refine ACode.count0 (fun i => [(11, .int .i64 (i : Int)), (9, .bool ((vals.take i).any (withinZ z))), (10, .bool (!(vals.take i).any (oneZ z)))]) [(0, _), (1, _), (2, _), (3, _), (4, _), (5, _), (15, _), (16, _), (17, _), (18, _), (19, _), (55, _), (56, _), (73, _), (74, _), (91, _), (92, _), (109, _), (110, _), (127, _), (128, _)] (vals.length) (fun _ => True) (.cons rfl (.cons rfl (.cons rfl .nil))) (.cons rfl (.cons rfl (.cons rfl (.cons rfl (.cons rfl (.cons rfl (.cons rfl (.cons rfl (.cons rfl (.cons rfl (.cons rfl (.cons rfl (.cons rfl (.cons rfl (.cons rfl (.cons rfl (.cons rfl (.cons rfl (.cons rfl (.cons rfl (.cons rfl .nil))))))))))))))))))))) trivial (fun i0 kL0 HL0 hiL0 hkL0 hsL0 hfL0 hxL0 => ?_)
                show ACode _ _ _ _ _ ⟨_, _, _⟩
                refine ACode.seq ?_
                refine ACode.seq ?_
                refine ACode.region' [0, 1, 2, 3, 4] (by kernel_rfl) rfl ?_
                refine aOps_1 rfl rfl rfl (AOp.move' (.inl rfl) rfl ?_)
                refine aOps_1 rfl rfl rfl (AOp.fieldAddr' rfl (by decide) rfl ?_)
                refine aOps_1 rfl rfl rfl ?_
                refine AOp.load1 (b := ?b26) (v := ?v26) rfl rfl ?hn26 ?hv26 ?hR26
                (case hn26 => repeat (first | assumption | exact upd_same _ _ _ | refine (upd_other _ _ (by omega)).trans ?_ | refine hsL0 _ _ ?_))
                (case hv26 => rfl)
                refine aOps_1 rfl rfl rfl (AOp.len' rfl rfl ?_)
                refine aOps_1 rfl rfl rfl (AOp.bin' rfl rfl rfl rfl ?_)
                refine aOps_end ?_
                show ACode _ _ _ _ _ _
                refine ACode.cond rfl (fun c8 => ?_) (fun c8 => ?_)
                · try simp only [decide_eq_true_eq, decide_eq_false_iff_not, beq_iff_eq, beq_eq_false_iff_ne, ne_eq, bne_iff_ne, Bool.not_eq_true', Bool.not_eq_false', Int.not_lt, Int.not_le, gt_iff_lt, ge_iff_le, bne_eq_false_iff_eq, Bool.not_eq_eq_eq_not, Bool.not_true, Bool.not_false] at c8
                  refine ACode.skip ?_
                  show ACode _ _ _ _ _ _
                  refine ACode.seq ?_
                  refine ACode.block ?_
                  refine ACode.seq ?_
                  obtain ⟨n23_3, o23_3, s23_3, hq23_3, hp23_3⟩ := slcV hA (show i0 < vals.length by omega)
                  refine ACode.region' [0, 1, 2, 3, 4, 5, 6] (by kernel_rfl) rfl ?_
                  refine aOps_1 rfl rfl rfl (AOp.fieldAddr' rfl (by decide) rfl ?_)
                  refine aOps_1 rfl rfl rfl ?_
                  refine AOp.load1 (b := ?b27) (v := ?v27) rfl rfl ?hn27 ?hv27 ?hR27
                  (case hn27 => repeat (first | assumption | exact upd_same _ _ _ | refine (upd_other _ _ (by omega)).trans ?_ | refine hsL0 _ _ ?_))
                  (case hv27 => rfl)
                  refine aOps_1 rfl rfl rfl (AOp.move' (.inl rfl) rfl ?_)
                  refine aOps_1 rfl rfl rfl (AOp.indexP (aslcAt_sub (by (repeat (first | exact sub_refl _ | assumption | refine sub_upd' ?_ (by ((repeat refine (upd_other _ _ (by omega)).trans ?_); first | exact hf _ (by omega) | exact hfL0 _ (by omega))) | refine sub_trans ?_ hsL0 | refine sub_over (by assumption) | refine sub_over0 ?_ | refine sub_trans (sub_same (by assumption)) ?_ | refine sub_dropu ?_ | refine sub_drop ?_ | refine sub_put ?_ (by repeat (first | assumption | exact upd_same _ _ _ | refine (upd_other _ _ (by omega)).trans ?_ | refine hsL0 _ _ ?_))))) hq23_3) rfl rfl rfl ?_)
                  refine aOps_1 rfl rfl rfl (AOp.loadPA (v := vv (vals.getD i0 vD)) (hp23_3.sub (by (repeat (first | exact sub_refl _ | assumption | refine sub_upd' ?_ (by ((repeat refine (upd_other _ _ (by omega)).trans ?_); first | exact hf _ (by omega) | exact hfL0 _ (by omega))) | refine sub_trans ?_ hsL0 | refine sub_over (by assumption) | refine sub_over0 ?_ | refine sub_trans (sub_same (by assumption)) ?_ | refine sub_dropu ?_ | refine sub_drop ?_ | refine sub_put ?_ (by repeat (first | assumption | exact upd_same _ _ _ | refine (upd_other _ _ (by omega)).trans ?_ | refine hsL0 _ _ ?_)))))) rfl rfl rfl rfl (by first | rfl | (simp; done)) (by decide) ?_)
                  refine aOps_1 rfl rfl rfl (AOp.alloc' rfl ?_)
                  refine aOps_0 rfl rfl rfl ?_
                  refine AOp.storeAll (b := ?b28) rfl rfl rfl ?hn28 ?hk28 rfl ?hw28 ?ho28 ?hl28 ?hR28
                  (case hn28 => repeat (first | assumption | exact upd_same _ _ _ | refine (upd_other _ _ (by omega)).trans ?_ | refine hsL0 _ _ ?_))
                  (case hk28 => rfl)
                  (case hw28 => first | rfl | (simp; done))
                  (case ho28 => first | rfl | decide | (simp; done))
                  (case hl28 => first | rfl | (simp; done))
                  refine aOps_end ?_
                  show ACode _ _ _ _ _ _
                  refine ACode.seq ?_
                  refine ACode.region' [0, 1, 2, 3, 4, 5, 6, 7, 8, 9, 10, 11, 12, 13, 14, 15] (by kernel_rfl) rfl ?_
                  refine aOps_1 rfl rfl rfl (AOp.move' (.inl rfl) rfl ?_)
                  refine aOps_1 rfl rfl rfl (AOp.move' (.inl rfl) rfl ?_)
                  refine aOps_gd0 rfl rfl (wantF rfl rfl rfl) (fun hc => AOp.slots [(12, _)] (.cons rfl .nil) ((by refine AOp.loadAll (b := ?b29) (v := vv (vals.getD i0 vD)) rfl rfl ?hn29 ?hv29 ?hw29 ?hz29 ?hR29; (case hn29 => repeat (first | assumption | exact upd_same _ _ _ | refine (upd_other _ _ (by omega)).trans ?_ | refine hsL0 _ _ ?_)); (case hv29 => rfl); (case hw29 => rfl); (case hz29 => first | rfl | (simp; done)); exact ⟨rfl, rfl, rfl⟩))) ?_
                  refine aOps_gd0 rfl rfl (wantF rfl rfl rfl) (fun hc => AOp.slots [(3, _)] (.cons rfl .nil) (AOp.fieldAddr' rfl (by decide) rfl ⟨rfl, rfl, rfl⟩)) ?_
                  refine aOps_gd0 rfl rfl (wantF rfl rfl rfl) (fun hc => AOp.slots [(144, _)] (.cons (gvT rfl hc) .nil) (AOp.loadN (b := zblk z) (cs := [.int .i64 z.min.kind, .int .i64 z.min.n, .string z.min.s]) rfl rfl (by repeat (first | assumption | exact upd_same _ _ _ | refine (upd_other _ _ (by omega)).trans ?_ | refine hsL0 _ _ ?_)) (by show 2 + 3 ≤ 8; decide) rfl ⟨rfl, rfl, rfl⟩)) ?_
                  refine aOps_gd rfl rfl (wantF rfl rfl rfl) (fun hc => AOp.slots [(143, _), (145, _)] (.cons (gvT rfl hc) (.cons (gvT rfl hc) .nil)) (AOp.call' rfl rfl rfl (rcmp_b _ _ (vals.getD i0 vD) (z.min)) (fun _ _ _ h => h))) (fun kq hkq => ?_)
                  refine aOps_gd0 rfl rfl (wantF rfl rfl rfl) (fun hc => AOp.slots [(146, _)] (.cons (gvT rfl hc) .nil) (AOp.bin' rfl rfl rfl rfl ⟨rfl, rfl, rfl⟩)) ?_
                  refine aOps_gd0 rfl rfl (wantF rfl rfl rfl) (fun hc => AOp.slots [(147, _)] (.cons (gvT rfl hc) .nil) (AOp.move' (.inl rfl) rfl ⟨rfl, rfl, rfl⟩)) ?_
                  refine aOps_gd0 rfl rfl (wantGT rfl rfl rfl) (fun hc => AOp.slots [(12, _)] (.cons rfl .nil) ((by refine AOp.loadAll (b := ?b30) (v := vv (vals.getD i0 vD)) rfl rfl ?hn30 ?hv30 ?hw30 ?hz30 ?hR30; (case hn30 => repeat (first | assumption | exact upd_same _ _ _ | refine (upd_other _ _ (by omega)).trans ?_ | refine hsL0 _ _ ?_)); (case hv30 => rfl); (case hw30 => rfl); (case hz30 => first | rfl | (simp; done)); exact ⟨rfl, rfl, rfl⟩))) ?_
                  refine aOps_gd0 rfl rfl (wantGT rfl rfl rfl) (fun hc => AOp.slots [(3, _)] (.cons rfl .nil) (AOp.fieldAddr' rfl (by decide) rfl ⟨rfl, rfl, rfl⟩)) ?_
                  refine aOps_gd0 rfl rfl (wantGT rfl rfl rfl) (fun hc => AOp.slots [(150, _)] (.cons (gvT rfl hc) .nil) (AOp.loadN (b := zblk z) (cs := [.int .i64 z.max.kind, .int .i64 z.max.n, .string z.max.s]) rfl rfl (by repeat (first | assumption | exact upd_same _ _ _ | refine (upd_other _ _ (by omega)).trans ?_ | refine hsL0 _ _ ?_)) (by show 5 + 3 ≤ 8; decide) rfl ⟨rfl, rfl, rfl⟩)) ?_
                  refine aOps_gd rfl rfl (wantGT rfl rfl rfl) (fun hc => AOp.slots [(149, _), (151, _)] (.cons (gvT rfl hc) (.cons (gvT rfl hc) .nil)) (AOp.call' rfl rfl rfl (rcmp_b _ _ (vals.getD i0 vD) (z.max)) (fun _ _ _ h => h))) (fun kq hkq => ?_)
                  refine aOps_gd0 rfl rfl (wantGT rfl rfl rfl) (fun hc => AOp.slots [(152, _)] (.cons (gvT rfl hc) .nil) (AOp.bin' rfl rfl rfl rfl ⟨rfl, rfl, rfl⟩)) ?_
                  refine aOps_gd0 rfl rfl (wantF rfl rfl rfl) (fun hc => AOp.pickAnd rfl rfl (gvE rfl hc) (fun hb => gvE rfl (and_mk hc hb)) ⟨rfl, rfl, rfl⟩) ?_
                  refine aOps_1 rfl rfl rfl (AOp.pickOr rfl rfl rfl (fun hb => gvE rfl (t_not hb)) ?_)
                  refine aOps_1 rfl rfl rfl (AOp.move' (.inr rfl) rfl ?_)
                  refine aOps_end ?_
                  show ACode _ _ _ _ _ _
                  refine ACode.region' [0, 1, 2, 3, 4, 5, 6, 7, 8, 9, 10, 11, 12, 13, 14, 15, 16] (by kernel_rfl) rfl ?_
                  refine aOps_1 rfl rfl rfl (AOp.move' (.inl rfl) rfl ?_)
                  refine aOps_1 rfl rfl rfl (AOp.move' (.inl rfl) rfl ?_)
                  refine aOps_gd0 rfl rfl (wantT rfl rfl rfl) (fun hc => AOp.slots [(12, _)] (.cons rfl .nil) ((by refine AOp.loadAll (b := ?b31) (v := vv (vals.getD i0 vD)) rfl rfl ?hn31 ?hv31 ?hw31 ?hz31 ?hR31; (case hn31 => repeat (first | assumption | exact upd_same _ _ _ | refine (upd_other _ _ (by omega)).trans ?_ | refine hsL0 _ _ ?_)); (case hv31 => rfl); (case hw31 => rfl); (case hz31 => first | rfl | (simp; done)); exact ⟨rfl, rfl, rfl⟩))) ?_
                  refine aOps_gd0 rfl rfl (wantT rfl rfl rfl) (fun hc => AOp.slots [(3, _)] (.cons rfl .nil) (AOp.fieldAddr' rfl (by decide) rfl ⟨rfl, rfl, rfl⟩)) ?_
                  refine aOps_gd0 rfl rfl (wantT rfl rfl rfl) (fun hc => AOp.slots [(159, _)] (.cons (gvT rfl hc) .nil) (AOp.loadN (b := zblk z) (cs := [.int .i64 z.min.kind, .int .i64 z.min.n, .string z.min.s]) rfl rfl (by repeat (first | assumption | exact upd_same _ _ _ | refine (upd_other _ _ (by omega)).trans ?_ | refine hsL0 _ _ ?_)) (by show 2 + 3 ≤ 8; decide) rfl ⟨rfl, rfl, rfl⟩)) ?_
                  refine aOps_gd rfl rfl (wantT rfl rfl rfl) (fun hc => AOp.slots [(158, _), (160, _)] (.cons (gvT rfl hc) (.cons (gvT rfl hc) .nil)) (AOp.call' rfl rfl rfl (rcmp_b _ _ (vals.getD i0 vD) (z.min)) (fun _ _ _ h => h))) (fun kq hkq => ?_)
                  refine aOps_gd0 rfl rfl (wantT rfl rfl rfl) (fun hc => AOp.slots [(161, _)] (.cons (gvT rfl hc) .nil) (AOp.bin' rfl rfl rfl rfl ⟨rfl, rfl, rfl⟩)) ?_
                  refine aOps_gd0 rfl rfl (wantT rfl rfl rfl) (fun hc => AOp.slots [(162, _)] (.cons (gvT rfl hc) .nil) (AOp.move' (.inl rfl) rfl ⟨rfl, rfl, rfl⟩)) ?_
                  refine aOps_gd0 rfl rfl (wantGT rfl rfl rfl) (fun hc => AOp.slots [(12, _)] (.cons rfl .nil) ((by refine AOp.loadAll (b := ?b32) (v := vv (vals.getD i0 vD)) rfl rfl ?hn32 ?hv32 ?hw32 ?hz32 ?hR32; (case hn32 => repeat (first | assumption | exact upd_same _ _ _ | refine (upd_other _ _ (by omega)).trans ?_ | refine hsL0 _ _ ?_)); (case hv32 => rfl); (case hw32 => rfl); (case hz32 => first | rfl | (simp; done)); exact ⟨rfl, rfl, rfl⟩))) ?_
                  refine aOps_gd0 rfl rfl (wantGT rfl rfl rfl) (fun hc => AOp.slots [(3, _)] (.cons rfl .nil) (AOp.fieldAddr' rfl (by decide) rfl ⟨rfl, rfl, rfl⟩)) ?_
                  refine aOps_gd0 rfl rfl (wantGT rfl rfl rfl) (fun hc => AOp.slots [(165, _)] (.cons (gvT rfl hc) .nil) (AOp.loadN (b := zblk z) (cs := [.int .i64 z.max.kind, .int .i64 z.max.n, .string z.max.s]) rfl rfl (by repeat (first | assumption | exact upd_same _ _ _ | refine (upd_other _ _ (by omega)).trans ?_ | refine hsL0 _ _ ?_)) (by show 5 + 3 ≤ 8; decide) rfl ⟨rfl, rfl, rfl⟩)) ?_
                  refine aOps_gd rfl rfl (wantGT rfl rfl rfl) (fun hc => AOp.slots [(164, _), (166, _)] (.cons (gvT rfl hc) (.cons (gvT rfl hc) .nil)) (AOp.call' rfl rfl rfl (rcmp_b _ _ (vals.getD i0 vD) (z.max)) (fun _ _ _ h => h))) (fun kq hkq => ?_)
                  refine aOps_gd0 rfl rfl (wantGT rfl rfl rfl) (fun hc => AOp.slots [(167, _)] (.cons (gvT rfl hc) .nil) (AOp.bin' rfl rfl rfl rfl ⟨rfl, rfl, rfl⟩)) ?_
                  refine aOps_gd0 rfl rfl (wantT rfl rfl rfl) (fun hc => AOp.pickAnd rfl rfl (gvE rfl hc) (fun hb => gvE rfl (and_mk hc hb)) ⟨rfl, rfl, rfl⟩) ?_
                  refine aOps_gd0 rfl rfl (wantT rfl rfl rfl) (fun hc => AOp.slots [(169, _)] (.cons (gvT rfl hc) .nil) (AOp.un' rfl rfl rfl ⟨rfl, rfl, rfl⟩)) ?_
                  refine aOps_1 rfl rfl rfl (AOp.pickAnd rfl rfl rfl (fun hb => gvE rfl hb) ?_)
                  refine aOps_1 rfl rfl rfl (AOp.move' (.inr rfl) rfl ?_)
                  refine aOps_end ?_
                  show ACode _ _ _ _ _ _
                  refine ACode.region' [0, 1, 2] (by kernel_rfl) rfl ?_
                  refine aOps_1 rfl rfl rfl (AOp.move' (.inl rfl) rfl ?_)
                  refine aOps_1 rfl rfl rfl (AOp.add rfl rfl rfl (i64_wrap (by omega) (by omega)) ?_)
                  refine aOps_1 rfl rfl rfl (AOp.move' (.inr rfl) rfl ?_)
                  refine aOps_end ?_
                  have hw9 := anyT (p := withinZ z) (l := vals) (i := i0) (by omega)
                  have hw10 := anyT (p := oneZ z) (l := vals) (i := i0) (by omega)
                  first | refine thenA_n ?_ | simp only [thenA, blockA, if_true]
                  exact NextR.mk (by omega) (by omega) (.cons rfl (.cons (show _ = some (Value.bool _) by rw [hw9, ← within_s]; rfl) (.cons (show _ = some (Value.bool _) by rw [hw10, Bool.not_or, ← one_s]; rfl) .nil))) (.cons rfl (.cons rfl (.cons rfl (.cons rfl (.cons rfl (.cons rfl (.cons rfl (.cons rfl (.cons rfl (.cons rfl (.cons rfl (.cons rfl (.cons rfl (.cons rfl (.cons rfl (.cons rfl (.cons rfl (.cons rfl (.cons rfl (.cons rfl (.cons rfl .nil))))))))))))))))))))) (by (repeat (first | exact sub_refl _ | assumption | refine sub_upd' ?_ (by ((repeat refine (upd_other _ _ (by omega)).trans ?_); first | exact hf _ (by omega) | exact hfL0 _ (by omega))) | refine sub_trans ?_ hsL0 | refine sub_over (by assumption) | refine sub_over0 ?_ | refine sub_trans (sub_same (by assumption)) ?_ | refine sub_dropu ?_ | refine sub_drop ?_ | refine sub_put ?_ (by repeat (first | assumption | exact upd_same _ _ _ | refine (upd_other _ _ (by omega)).trans ?_ | refine hsL0 _ _ ?_))))) trivial
                · try simp only [decide_eq_true_eq, decide_eq_false_iff_not, beq_iff_eq, beq_eq_false_iff_ne, ne_eq, bne_iff_ne, Bool.not_eq_true', Bool.not_eq_false', Int.not_lt, Int.not_le, gt_iff_lt, ge_iff_le, bne_eq_false_iff_eq, Bool.not_eq_eq_eq_not, Bool.not_true, Bool.not_false] at c8
                  refine ACode.exit ?_
                  show ACode _ _ _ _ _ _
                  refine ACode.seq ?_
                  refine ACode.region' [0, 1, 2, 3] (by kernel_rfl) rfl ?_
                  refine aOps_1 rfl rfl rfl (AOp.move' (.inl rfl) rfl ?_)
                  refine aOps_1 rfl rfl rfl (AOp.move' (.inl rfl) rfl ?_)
                  refine aOps_1 rfl rfl rfl (AOp.move' (.inr rfl) rfl ?_)
                  refine aOps_1 rfl rfl rfl (AOp.move' (.inr rfl) rfl ?_)
                  refine aOps_end ?_
                  show ACode _ _ _ _ _ _
                  refine ACode.ret ?_
                  exact RetQ.two rfl rfl rfl (by (repeat (first | exact sub_refl _ | assumption | refine sub_upd' ?_ (by ((repeat refine (upd_other _ _ (by omega)).trans ?_); first | exact hf _ (by omega) | exact hfL0 _ (by omega))) | refine sub_trans ?_ hsL0 | refine sub_over (by assumption) | refine sub_over0 ?_ | refine sub_trans (sub_same (by assumption)) ?_ | refine sub_dropu ?_ | refine sub_drop ?_ | refine sub_put ?_ (by repeat (first | assumption | exact upd_same _ _ _ | refine (upd_other _ _ (by omega)).trans ?_ | refine hsL0 _ _ ?_))))) stays (fun hk => ⟨(by rw [show vals.take i0 = vals from List.take_of_length_le (by omega)]; rfl), rfl, by omega⟩)
              · try simp only [decide_eq_true_eq, decide_eq_false_iff_not, beq_iff_eq, beq_eq_false_iff_ne, ne_eq, bne_iff_ne, Bool.not_eq_true', Bool.not_eq_false', Int.not_lt, Int.not_le, gt_iff_lt, ge_iff_le, bne_eq_false_iff_eq, Bool.not_eq_eq_eq_not, Bool.not_true, Bool.not_false] at c7
                obtain rfl : o = 8 := by omega
                refine ACode.skip ?_
                show ACode _ _ _ _ _ _
                refine ACode.seq ?_
                obtain ⟨n27_2, o27_2, s27_2, hq27_2, hp27_2⟩ := slcV hA (show 0 < vals.length by omega)
                obtain ⟨n27_6, o27_6, s27_6, hq27_6, hp27_6⟩ := slcV hA (show 1 < vals.length by omega)
                refine ACode.drawM0 12 [(0, 174), (1, 175), (2, 176), (3, 177), (4, 178), (5, 179), (6, 180), (7, 181), (8, 13), (9, 14)] [8, 9] [([], []), ([], []), ([], []), ([], []), ([], []), ([], []), ([], []), ([], []), ([8], []), ([9], []), ([8], []), ([9], [])] mixed (by kernel_rfl) (by kernel_rfl) (by decide) ?_
                refine DrawM.q 0 [(2, none)] rfl rfl (by kernel_rfl) rfl rfl (fun Hc kq hkq hF hSb hfr => AOp.fieldAddr' rfl (by decide) rfl ⟨rfl, rfl, Nat.le_refl _⟩) ?_
                refine DrawM.q 1 [(174, some 0)] rfl rfl (by kernel_rfl) rfl rfl (fun Hc kq hkq hF hSb hfr => (by refine AOp.load1 (b := ?b33) (v := ?v33) rfl rfl ?hn33 ?hv33 ?hR33; (case hn33 => repeat (first | assumption | exact upd_same _ _ _ | refine (upd_other _ _ (by omega)).trans ?_ | refine hSb _ _ ?_)); (case hv33 => rfl); exact ⟨rfl, rfl, Nat.le_refl _⟩)) ?_
                refine DrawM.q 2 [(175, some 1)] rfl rfl (by kernel_rfl) rfl rfl (fun Hc kq hkq hF hSb hfr => AOp.indexP (aslcAt_sub (by (repeat (first | exact sub_refl _ | assumption | refine sub_upd' ?_ (by ((repeat refine (upd_other _ _ (by omega)).trans ?_); first | exact hf _ (by omega))) | refine sub_trans ?_ hSb | refine sub_over (by assumption) | refine sub_over0 ?_ | refine sub_trans (sub_same (by assumption)) ?_ | refine sub_dropu ?_ | refine sub_drop ?_ | refine sub_put ?_ (by repeat (first | assumption | exact upd_same _ _ _ | refine (upd_other _ _ (by omega)).trans ?_ | refine hSb _ _ ?_))))) hq27_2) rfl rfl rfl ⟨rfl, rfl, Nat.le_refl _⟩) ?_
                refine DrawM.q 3 [(176, some 2)] rfl rfl (by kernel_rfl) rfl rfl (fun Hc kq hkq hF hSb hfr => AOp.loadPA (v := vv (vals.getD 0 vD)) (hp27_2.sub (by (repeat (first | exact sub_refl _ | assumption | refine sub_upd' ?_ (by ((repeat refine (upd_other _ _ (by omega)).trans ?_); first | exact hf _ (by omega))) | refine sub_trans ?_ hSb | refine sub_over (by assumption) | refine sub_over0 ?_ | refine sub_trans (sub_same (by assumption)) ?_ | refine sub_dropu ?_ | refine sub_drop ?_ | refine sub_put ?_ (by repeat (first | assumption | exact upd_same _ _ _ | refine (upd_other _ _ (by omega)).trans ?_ | refine hSb _ _ ?_)))))) rfl rfl rfl rfl (by first | rfl | (simp; done)) (by decide) ⟨rfl, rfl, Nat.le_refl _⟩) ?_
                refine DrawM.q 4 [(2, none)] rfl rfl (by kernel_rfl) rfl rfl (fun Hc kq hkq hF hSb hfr => AOp.fieldAddr' rfl (by decide) rfl ⟨rfl, rfl, Nat.le_refl _⟩) ?_
                refine DrawM.q 5 [(178, some 4)] rfl rfl (by kernel_rfl) rfl rfl (fun Hc kq hkq hF hSb hfr => (by refine AOp.load1 (b := ?b34) (v := ?v34) rfl rfl ?hn34 ?hv34 ?hR34; (case hn34 => repeat (first | assumption | exact upd_same _ _ _ | refine (upd_other _ _ (by omega)).trans ?_ | refine hSb _ _ ?_)); (case hv34 => rfl); exact ⟨rfl, rfl, Nat.le_refl _⟩)) ?_
                refine DrawM.q 6 [(179, some 5)] rfl rfl (by kernel_rfl) rfl rfl (fun Hc kq hkq hF hSb hfr => AOp.indexP (aslcAt_sub (by (repeat (first | exact sub_refl _ | assumption | refine sub_upd' ?_ (by ((repeat refine (upd_other _ _ (by omega)).trans ?_); first | exact hf _ (by omega))) | refine sub_trans ?_ hSb | refine sub_over (by assumption) | refine sub_over0 ?_ | refine sub_trans (sub_same (by assumption)) ?_ | refine sub_dropu ?_ | refine sub_drop ?_ | refine sub_put ?_ (by repeat (first | assumption | exact upd_same _ _ _ | refine (upd_other _ _ (by omega)).trans ?_ | refine hSb _ _ ?_))))) hq27_6) rfl rfl rfl ⟨rfl, rfl, Nat.le_refl _⟩) ?_
                refine DrawM.q 7 [(180, some 6)] rfl rfl (by kernel_rfl) rfl rfl (fun Hc kq hkq hF hSb hfr => AOp.loadPA (v := vv (vals.getD 1 vD)) (hp27_6.sub (by (repeat (first | exact sub_refl _ | assumption | refine sub_upd' ?_ (by ((repeat refine (upd_other _ _ (by omega)).trans ?_); first | exact hf _ (by omega))) | refine sub_trans ?_ hSb | refine sub_over (by assumption) | refine sub_over0 ?_ | refine sub_trans (sub_same (by assumption)) ?_ | refine sub_dropu ?_ | refine sub_drop ?_ | refine sub_put ?_ (by repeat (first | assumption | exact upd_same _ _ _ | refine (upd_other _ _ (by omega)).trans ?_ | refine hSb _ _ ?_)))))) rfl rfl rfl rfl (by first | rfl | (simp; done)) (by decide) ⟨rfl, rfl, Nat.le_refl _⟩) ?_
                refine DrawM.new 8 _ _ [] rfl (by decide) rfl (by kernel_rfl) rfl rfl RenOk.ptr (fun Hc kq hkq hF hSb hfr => AOp.alloc' rfl ⟨kq, Nat.le_refl _, Nat.lt_succ_self _, rfl, rfl⟩) ?_
                refine DrawM.new 9 _ _ [] rfl (by decide) rfl (by kernel_rfl) rfl rfl RenOk.ptr (fun Hc kq hkq hF hSb hfr => AOp.alloc' rfl ⟨kq, Nat.le_refl _, Nat.lt_succ_self _, rfl, rfl⟩) ?_
                refine DrawM.wr 10 8 _ [(13, some 8), (177, some 3)] rfl rfl (by kernel_rfl) rfl rfl (fun Hc kq hkq hF hSb hfr => (by refine AOp.storeAll (b := ?b35) rfl rfl rfl ?hn35 ?hk35 rfl ?hw35 ?ho35 ?hl35 ?hR35; (case hn35 => repeat (first | assumption | exact upd_same _ _ _ | refine (upd_other _ _ (by omega)).trans ?_ | exact hF 8 (by decide) | refine hSb _ _ ?_)); (case hk35 => rfl); (case hw35 => first | rfl | (simp; done)); (case ho35 => first | rfl | decide | (simp; done)); (case hl35 => first | rfl | (simp; done)); exact ⟨rfl, rfl, Nat.le_refl _⟩)) ?_
                refine DrawM.wr 11 9 _ [(14, some 9), (181, some 7)] rfl rfl (by kernel_rfl) rfl rfl (fun Hc kq hkq hF hSb hfr => (by refine AOp.storeAll (b := ?b36) rfl rfl rfl ?hn36 ?hk36 rfl ?hw36 ?ho36 ?hl36 ?hR36; (case hn36 => repeat (first | assumption | exact upd_same _ _ _ | refine (upd_other _ _ (by omega)).trans ?_ | exact hF 9 (by decide) | refine hSb _ _ ?_)); (case hk36 => rfl); (case hw36 => first | rfl | (simp; done)); (case ho36 => first | rfl | decide | (simp; done)); (case hl36 => first | rfl | (simp; done)); exact ⟨rfl, rfl, Nat.le_refl _⟩)) ?_
                refine DrawM.done fun kq hkq => ?_
                show aOps _ _ _ _ [] ⟨_, (upd (upd _ (_ + 9) _) (_ + 8) _), _⟩
                refine aOps_end ?_
                show ACode _ _ _ _ _ _
                refine ACode.seq ?_
                refine ACode.draw' 32 [(0, 182), (1, 183), (2, 184), (3, 185), (4, 186), (5, 187), (6, 188), (7, 189), (8, 190), (9, 191), (10, 192), (11, 193), (12, 194), (13, 195), (14, 196), (15, 197), (16, 198), (17, 199), (18, 200), (19, 201), (20, 202), (21, 203), (22, 204), (23, 205), (24, 206), (25, 207), (26, 208), (27, 209), (28, 210), (29, 211), (30, 4), (31, 5)] mixed (by kernel_rfl) ?_
                refine Draw.step [(13, none)] rfl (by kernel_rfl) rfl (fun kq hkq => (by refine AOp.loadAll (b := ?b37) (v := vv (vals.getD 0 vD)) rfl rfl ?hn37 ?hv37 ?hw37 ?hz37 ?hR37; (case hn37 => repeat (first | assumption | exact upd_same _ _ _ | refine (upd_other _ _ (by omega)).trans ?_)); (case hv37 => rfl); (case hw37 => rfl); (case hz37 => first | rfl | (simp; done)); exact ⟨rfl, rfl, Nat.le_refl _⟩)) ?_
                refine Draw.step [(14, none)] rfl (by kernel_rfl) rfl (fun kq hkq => (by refine AOp.loadAll (b := ?b38) (v := vv (vals.getD 1 vD)) rfl rfl ?hn38 ?hv38 ?hw38 ?hz38 ?hR38; (case hn38 => repeat (first | assumption | exact upd_same _ _ _ | refine (upd_other _ _ (by omega)).trans ?_)); (case hv38 => rfl); (case hw38 => rfl); (case hz38 => first | rfl | (simp; done)); exact ⟨rfl, rfl, Nat.le_refl _⟩)) ?_
                refine Draw.step [(182, some 0), (183, some 1)] rfl (by kernel_rfl) rfl (fun kq hkq => AOp.call' rfl rfl rfl (rcmp_b _ _ (vals.getD 0 vD) (vals.getD 1 vD)) (fun _ _ _ h => h)) ?_
                refine Draw.step [(184, some 2)] rfl (by kernel_rfl) rfl (fun kq hkq => AOp.bin' rfl rfl rfl rfl ⟨rfl, rfl, Nat.le_refl _⟩) ?_
                refine Draw.step [(185, some 3)] rfl (by kernel_rfl) rfl (fun kq hkq => AOp.move' (.inl rfl) rfl ⟨rfl, rfl, Nat.le_refl _⟩) ?_
                refine Draw.gd [(13, none), (186, some 4)] rfl (by kernel_rfl) (wantT rfl rfl rfl) (fun kq hkq hc => AOp.slots [(13, _)] (.cons rfl .nil) ((by refine AOp.loadAll (b := ?b39) (v := vv (vals.getD 0 vD)) rfl rfl ?hn39 ?hv39 ?hw39 ?hz39 ?hR39; (case hn39 => repeat (first | assumption | exact upd_same _ _ _ | refine (upd_other _ _ (by omega)).trans ?_)); (case hv39 => rfl); (case hw39 => rfl); (case hz39 => first | rfl | (simp; done)); exact ⟨rfl, rfl, Nat.le_refl _⟩))) ?_
                refine Draw.gd [(3, none), (186, some 4)] rfl (by kernel_rfl) (wantT rfl rfl rfl) (fun kq hkq hc => AOp.slots [(3, _)] (.cons rfl .nil) (AOp.fieldAddr' rfl (by decide) rfl ⟨rfl, rfl, Nat.le_refl _⟩)) ?_
                refine Draw.gd [(188, some 6), (186, some 4)] rfl (by kernel_rfl) (wantT rfl rfl rfl) (fun kq hkq hc => AOp.slots [(188, _)] (.cons (gvT rfl hc) .nil) (AOp.loadN (b := zblk z) (cs := [.int .i64 z.max.kind, .int .i64 z.max.n, .string z.max.s]) rfl rfl (by repeat (first | assumption | exact upd_same _ _ _ | refine (upd_other _ _ (by omega)).trans ?_)) (by show 5 + 3 ≤ 8; decide) rfl ⟨rfl, rfl, Nat.le_refl _⟩)) ?_
                refine Draw.gd [(187, some 5), (189, some 7), (186, some 4)] rfl (by kernel_rfl) (wantT rfl rfl rfl) (fun kq hkq hc => AOp.slots [(187, _), (189, _)] (.cons (gvT rfl hc) (.cons (gvT rfl hc) .nil)) (AOp.call' rfl rfl rfl (rcmp_b _ _ (vals.getD 0 vD) (z.max)) (fun _ _ _ h => h))) ?_
                refine Draw.gd [(190, some 8), (186, some 4)] rfl (by kernel_rfl) (wantT rfl rfl rfl) (fun kq hkq hc => AOp.slots [(190, _)] (.cons (gvT rfl hc) .nil) (AOp.bin' rfl rfl rfl rfl ⟨rfl, rfl, Nat.le_refl _⟩)) ?_
                refine Draw.step [(186, some 4), (191, some 9)] rfl (by kernel_rfl) rfl (fun kq hkq => AOp.pickAnd rfl rfl rfl (fun hb => gvE rfl hb) ⟨rfl, rfl, Nat.le_refl _⟩) ?_
                refine Draw.step [(192, some 10)] rfl (by kernel_rfl) rfl (fun kq hkq => AOp.move' (.inl rfl) rfl ⟨rfl, rfl, Nat.le_refl _⟩) ?_
                refine Draw.gd [(14, none), (193, some 11)] rfl (by kernel_rfl) (wantT rfl rfl rfl) (fun kq hkq hc => AOp.slots [(14, _)] (.cons rfl .nil) ((by refine AOp.loadAll (b := ?b40) (v := vv (vals.getD 1 vD)) rfl rfl ?hn40 ?hv40 ?hw40 ?hz40 ?hR40; (case hn40 => repeat (first | assumption | exact upd_same _ _ _ | refine (upd_other _ _ (by omega)).trans ?_)); (case hv40 => rfl); (case hw40 => rfl); (case hz40 => first | rfl | (simp; done)); exact ⟨rfl, rfl, Nat.le_refl _⟩))) ?_
                refine Draw.gd [(3, none), (193, some 11)] rfl (by kernel_rfl) (wantT rfl rfl rfl) (fun kq hkq hc => AOp.slots [(3, _)] (.cons rfl .nil) (AOp.fieldAddr' rfl (by decide) rfl ⟨rfl, rfl, Nat.le_refl _⟩)) ?_
                refine Draw.gd [(195, some 13), (193, some 11)] rfl (by kernel_rfl) (wantT rfl rfl rfl) (fun kq hkq hc => AOp.slots [(195, _)] (.cons (gvT rfl hc) .nil) (AOp.loadN (b := zblk z) (cs := [.int .i64 z.min.kind, .int .i64 z.min.n, .string z.min.s]) rfl rfl (by repeat (first | assumption | exact upd_same _ _ _ | refine (upd_other _ _ (by omega)).trans ?_)) (by show 2 + 3 ≤ 8; decide) rfl ⟨rfl, rfl, Nat.le_refl _⟩)) ?_
                refine Draw.gd [(194, some 12), (196, some 14), (193, some 11)] rfl (by kernel_rfl) (wantT rfl rfl rfl) (fun kq hkq hc => AOp.slots [(194, _), (196, _)] (.cons (gvT rfl hc) (.cons (gvT rfl hc) .nil)) (AOp.call' rfl rfl rfl (rcmp_b _ _ (vals.getD 1 vD) (z.min)) (fun _ _ _ h => h))) ?_
                refine Draw.gd [(197, some 15), (193, some 11)] rfl (by kernel_rfl) (wantT rfl rfl rfl) (fun kq hkq hc => AOp.slots [(197, _)] (.cons (gvT rfl hc) .nil) (AOp.bin' rfl rfl rfl rfl ⟨rfl, rfl, Nat.le_refl _⟩)) ?_
                refine Draw.step [(193, some 11), (198, some 16)] rfl (by kernel_rfl) rfl (fun kq hkq => AOp.pickAnd rfl rfl rfl (fun hb => gvE rfl hb) ⟨rfl, rfl, Nat.le_refl _⟩) ?_
                refine Draw.step [(3, none)] rfl (by kernel_rfl) rfl (fun kq hkq => AOp.fieldAddr' rfl (by decide) rfl ⟨rfl, rfl, Nat.le_refl _⟩) ?_
                refine Draw.step [(200, some 18)] rfl (by kernel_rfl) rfl (fun kq hkq => AOp.loadN (b := zblk z) (cs := [.int .i64 z.min.kind, .int .i64 z.min.n, .string z.min.s]) rfl rfl (by repeat (first | assumption | exact upd_same _ _ _ | refine (upd_other _ _ (by omega)).trans ?_)) (by show 2 + 3 ≤ 8; decide) rfl ⟨rfl, rfl, Nat.le_refl _⟩) ?_
                refine Draw.step [(13, none)] rfl (by kernel_rfl) rfl (fun kq hkq => (by refine AOp.loadAll (b := ?b41) (v := vv (vals.getD 0 vD)) rfl rfl ?hn41 ?hv41 ?hw41 ?hz41 ?hR41; (case hn41 => repeat (first | assumption | exact upd_same _ _ _ | refine (upd_other _ _ (by omega)).trans ?_)); (case hv41 => rfl); (case hw41 => rfl); (case hz41 => first | rfl | (simp; done)); exact ⟨rfl, rfl, Nat.le_refl _⟩)) ?_
                refine Draw.step [(201, some 19), (202, some 20)] rfl (by kernel_rfl) rfl (fun kq hkq => AOp.call' rfl rfl rfl (rcmp_b _ _ (z.min) (vals.getD 0 vD)) (fun _ _ _ h => h)) ?_
                refine Draw.step [(203, some 21)] rfl (by kernel_rfl) rfl (fun kq hkq => AOp.bin' rfl rfl rfl rfl ⟨rfl, rfl, Nat.le_refl _⟩) ?_
                refine Draw.step [(204, some 22)] rfl (by kernel_rfl) rfl (fun kq hkq => AOp.move' (.inl rfl) rfl ⟨rfl, rfl, Nat.le_refl _⟩) ?_
                refine Draw.gd [(3, none), (205, some 23)] rfl (by kernel_rfl) (wantF rfl rfl rfl) (fun kq hkq hc => AOp.slots [(3, _)] (.cons rfl .nil) (AOp.fieldAddr' rfl (by decide) rfl ⟨rfl, rfl, Nat.le_refl _⟩)) ?_
                refine Draw.gd [(206, some 24), (205, some 23)] rfl (by kernel_rfl) (wantF rfl rfl rfl) (fun kq hkq hc => AOp.slots [(206, _)] (.cons (gvT rfl hc) .nil) (AOp.loadN (b := zblk z) (cs := [.int .i64 z.max.kind, .int .i64 z.max.n, .string z.max.s]) rfl rfl (by repeat (first | assumption | exact upd_same _ _ _ | refine (upd_other _ _ (by omega)).trans ?_)) (by show 5 + 3 ≤ 8; decide) rfl ⟨rfl, rfl, Nat.le_refl _⟩)) ?_
                refine Draw.gd [(14, none), (205, some 23)] rfl (by kernel_rfl) (wantF rfl rfl rfl) (fun kq hkq hc => AOp.slots [(14, _)] (.cons rfl .nil) ((by refine AOp.loadAll (b := ?b42) (v := vv (vals.getD 1 vD)) rfl rfl ?hn42 ?hv42 ?hw42 ?hz42 ?hR42; (case hn42 => repeat (first | assumption | exact upd_same _ _ _ | refine (upd_other _ _ (by omega)).trans ?_)); (case hv42 => rfl); (case hw42 => rfl); (case hz42 => first | rfl | (simp; done)); exact ⟨rfl, rfl, Nat.le_refl _⟩))) ?_
                refine Draw.gd [(207, some 25), (208, some 26), (205, some 23)] rfl (by kernel_rfl) (wantF rfl rfl rfl) (fun kq hkq hc => AOp.slots [(207, _), (208, _)] (.cons (gvT rfl hc) (.cons (gvT rfl hc) .nil)) (AOp.call' rfl rfl rfl (rcmp_b _ _ (z.max) (vals.getD 1 vD)) (fun _ _ _ h => h))) ?_
                refine Draw.gd [(209, some 27), (205, some 23)] rfl (by kernel_rfl) (wantF rfl rfl rfl) (fun kq hkq hc => AOp.slots [(209, _)] (.cons (gvT rfl hc) .nil) (AOp.bin' rfl rfl rfl rfl ⟨rfl, rfl, Nat.le_refl _⟩)) ?_
                refine Draw.step [(205, some 23), (210, some 28)] rfl (by kernel_rfl) rfl (fun kq hkq => AOp.pickOr rfl rfl rfl (fun hb => gvE rfl (t_not hb)) ⟨rfl, rfl, Nat.le_refl _⟩) ?_
                refine Draw.step [(199, some 17)] rfl (by kernel_rfl) rfl (fun kq hkq => AOp.move' (.inr rfl) rfl ⟨rfl, rfl, Nat.le_refl _⟩) ?_
                refine Draw.step [(211, some 29)] rfl (by kernel_rfl) rfl (fun kq hkq => AOp.move' (.inr rfl) rfl ⟨rfl, rfl, Nat.le_refl _⟩) ?_
                refine Draw.done fun kq hkq => ?_
                show aOps _ _ _ _ [] ⟨_, _, _⟩
                refine aOps_end ?_
                show ACode _ _ _ _ _ _
                refine ACode.ret ?_
                exact RetQ.two rfl rfl rfl (by (repeat (first | exact sub_refl _ | assumption | refine sub_upd' ?_ (by ((repeat refine (upd_other _ _ (by omega)).trans ?_); first | exact hf _ (by omega))) | refine sub_over (by assumption) | refine sub_over0 ?_ | refine sub_trans (sub_same (by assumption)) ?_ | refine sub_dropu ?_ | refine sub_drop ?_ | refine sub_put ?_ (by repeat (first | assumption | exact upd_same _ _ _ | refine (upd_other _ _ (by omega)).trans ?_))))) stays (fun hk => ⟨rfl, rfl, by omega⟩)

theorem rformed_b (op col : Int) (vals : List Val) (A : Option Addr) (c : Nat) (B : Option Addr) (m d : Nat) (hl : vals.length ≤ 9223372036854775807) (hm : m ≤ 9223372036854775807) : ACalls Tryd.prog 3 52 [pv op col A vals.length c B m d] H k (Same H k (.bool (formedP op col vals.length m))) := by
  refine ACalls.fresh fun hf => ?_
  refine ACalls.body Tryd.func52 rfl (Nat.le_of_ble_eq_true rfl) ?_
  refine ACode.seq ?_
  refine ACode.region' [0, 1] (by kernel_rfl) rfl ?_
  refine aOps_1 rfl rfl rfl (AOp.boxV rfl rfl ?_)
  refine aOps_1 rfl rfl rfl (AOp.move' (.inr rfl) rfl ?_)
  refine aOps_end ?_
  show ACode _ _ _ _ _ _
  refine ACode.seq ?_
  refine ACode.draw' 8 [(0, 5), (1, 6), (2, 7), (3, 8), (4, 9), (5, 10), (6, 3), (7, 4)] mixed (by kernel_rfl) ?_
  refine Draw.step [(1, none)] rfl (by kernel_rfl) rfl (fun kq hkq => AOp.fieldAddr' rfl (by decide) rfl ⟨rfl, rfl, Nat.le_refl _⟩) ?_
  refine Draw.step [(5, some 0)] rfl (by kernel_rfl) rfl (fun kq hkq => (by refine AOp.load1 (b := ?b43) (v := ?v43) rfl rfl ?hn43 ?hv43 ?hR43; (case hn43 => repeat (first | assumption | exact upd_same _ _ _ | refine (upd_other _ _ (by omega)).trans ?_)); (case hv43 => rfl); exact ⟨rfl, rfl, Nat.le_refl _⟩)) ?_
  refine Draw.step [(6, some 1)] rfl (by kernel_rfl) rfl (fun kq hkq => AOp.len' rfl rfl ⟨rfl, rfl, Nat.le_refl _⟩) ?_
  refine Draw.step [(1, none)] rfl (by kernel_rfl) rfl (fun kq hkq => AOp.fieldAddr' rfl (by decide) rfl ⟨rfl, rfl, Nat.le_refl _⟩) ?_
  refine Draw.step [(8, some 3)] rfl (by kernel_rfl) rfl (fun kq hkq => (by refine AOp.load1 (b := ?b44) (v := ?v44) rfl rfl ?hn44 ?hv44 ?hR44; (case hn44 => repeat (first | assumption | exact upd_same _ _ _ | refine (upd_other _ _ (by omega)).trans ?_)); (case hv44 => rfl); exact ⟨rfl, rfl, Nat.le_refl _⟩)) ?_
  refine Draw.step [(9, some 4)] rfl (by kernel_rfl) rfl (fun kq hkq => AOp.len' rfl rfl ⟨rfl, rfl, Nat.le_refl _⟩) ?_
  refine Draw.step [(7, some 2)] rfl (by kernel_rfl) rfl (fun kq hkq => AOp.move' (.inr rfl) rfl ⟨rfl, rfl, Nat.le_refl _⟩) ?_
  refine Draw.step [(10, some 5)] rfl (by kernel_rfl) rfl (fun kq hkq => AOp.move' (.inr rfl) rfl ⟨rfl, rfl, Nat.le_refl _⟩) ?_
  refine Draw.done fun kq hkq => ?_
  show aOps _ _ _ _ [] ⟨_, _, _⟩
  refine aOps_end ?_
  show ACode _ _ _ _ _ _
  refine ACode.seq ?_
  refine ACode.seq ?_
  refine ACode.region' [0, 1, 2, 3, 4, 5, 6, 7, 8] (by kernel_rfl) rfl ?_
  refine aOps_1 rfl rfl rfl (AOp.fieldAddr' rfl (by decide) rfl ?_)
  refine aOps_1 rfl rfl rfl ?_
  refine AOp.load1 (b := ?b45) (v := ?v45) rfl rfl ?hn45 ?hv45 ?hR45
  (case hn45 => repeat (first | assumption | exact upd_same _ _ _ | refine (upd_other _ _ (by omega)).trans ?_))
  (case hv45 => rfl)
  refine aOps_q rfl rfl rfl (AOp.call' rfl rfl rfl (rcol_b _ _ op) (fun _ _ _ h => h)) (fun kq hkq => ?_)
  refine aOps_1 rfl rfl rfl (AOp.un' rfl rfl rfl ?_)
  refine aOps_1 rfl rfl rfl (AOp.move' (.inl rfl) rfl ?_)
  refine aOps_gd0 rfl rfl (wantT rfl rfl rfl) (fun hc => AOp.slots [(1, _)] (.cons rfl .nil) (AOp.fieldAddr' rfl (by decide) rfl ⟨rfl, rfl, rfl⟩)) ?_
  refine aOps_gd0 rfl rfl (wantT rfl rfl rfl) (fun hc => AOp.slots [(16, _)] (.cons (gvT rfl hc) .nil) ((by refine AOp.load1 (b := ?b46) (v := ?v46) rfl rfl ?hn46 ?hv46 ?hR46; (case hn46 => repeat (first | assumption | exact upd_same _ _ _ | refine (upd_other _ _ (by omega)).trans ?_)); (case hv46 => rfl); exact ⟨rfl, rfl, rfl⟩))) ?_
  refine aOps_gd0 rfl rfl (wantT rfl rfl rfl) (fun hc => AOp.slots [(17, _)] (.cons (gvT rfl hc) .nil) (AOp.bin' rfl rfl rfl rfl ⟨rfl, rfl, rfl⟩)) ?_
  refine aOps_1 rfl rfl rfl (AOp.pickAnd rfl rfl rfl (fun hb => gvE rfl hb) ?_)
  refine aOps_end ?_
  show ACode _ _ _ _ _ _
  refine ACode.cond rfl (fun c0 => ?_) (fun c0 => ?_)
  · try simp only [decide_eq_true_eq, decide_eq_false_iff_not, beq_iff_eq, beq_eq_false_iff_ne, ne_eq, bne_iff_ne, Bool.not_eq_true', Bool.not_eq_false', Int.not_lt, Int.not_le, gt_iff_lt, ge_iff_le, bne_eq_false_iff_eq, Bool.not_eq_eq_eq_not, Bool.not_true, Bool.not_false] at c0
    refine ACode.seq ?_
    refine ACode.region' [0] (by kernel_rfl) rfl ?_
    refine aOps_1 rfl rfl rfl (AOp.move' (.inr rfl) rfl ?_)
    refine aOps_end ?_
    show ACode _ _ _ _ _ _
    refine ACode.ret ?_
    exact RetQ.one rfl rfl (by (repeat (first | exact sub_refl _ | assumption | refine sub_upd' ?_ (by ((repeat refine (upd_other _ _ (by omega)).trans ?_); first | exact hf _ (by omega))) | refine sub_over (by assumption) | refine sub_over0 ?_ | refine sub_trans (sub_same (by assumption)) ?_ | refine sub_dropu ?_ | refine sub_drop ?_ | refine sub_put ?_ (by repeat (first | assumption | exact upd_same _ _ _ | refine (upd_other _ _ (by omega)).trans ?_))))) stays (fun hk => ⟨(by rw [formed_eq, formR, if_pos c0]), rfl, by omega⟩)
  · try simp only [decide_eq_true_eq, decide_eq_false_iff_not, beq_iff_eq, beq_eq_false_iff_ne, ne_eq, bne_iff_ne, Bool.not_eq_true', Bool.not_eq_false', Int.not_lt, Int.not_le, gt_iff_lt, ge_iff_le, bne_eq_false_iff_eq, Bool.not_eq_eq_eq_not, Bool.not_true, Bool.not_false] at c0
    have hc0 : ¬ (!colB op && (col != 0)) = true := by rw [c0]; decide
    refine ACode.skip ?_
    show ACode _ _ _ _ _ _
    refine ACode.seq ?_
    refine ACode.seq ?_
    refine ACode.region' [0, 1] (by kernel_rfl) rfl ?_
    refine aOps_1 rfl rfl rfl (AOp.fieldAddr' rfl (by decide) rfl ?_)
    refine aOps_1 rfl rfl rfl ?_
    refine AOp.load1 (b := ?b47) (v := ?v47) rfl rfl ?hn47 ?hv47 ?hR47
    (case hn47 => repeat (first | assumption | exact upd_same _ _ _ | refine (upd_other _ _ (by omega)).trans ?_))
    (case hv47 => rfl)
    refine aOps_end ?_
    show ACode _ _ _ _ _ _
    refine ACode.block ?_
    refine ACode.seq ?_
    refine ACode.seq ?_
    refine ACode.region' [0, 1] (by kernel_rfl) rfl ?_
    refine aOps_1 rfl rfl rfl (AOp.bin' rfl rfl rfl rfl ?_)
    refine aOps_1 rfl rfl rfl (AOp.move' (.inr rfl) rfl ?_)
    refine aOps_end ?_
    show ACode _ _ _ _ _ _
    refine ACode.cond rfl (fun c1 => ?_) (fun c1 => ?_)
    · try simp only [decide_eq_true_eq, decide_eq_false_iff_not, beq_iff_eq, beq_eq_false_iff_ne, ne_eq, bne_iff_ne, Bool.not_eq_true', Bool.not_eq_false', Int.not_lt, Int.not_le, gt_iff_lt, ge_iff_le, bne_eq_false_iff_eq, Bool.not_eq_eq_eq_not, Bool.not_true, Bool.not_false] at c1
      subst c1
      refine ACode.skip ?_
      show ACode _ _ _ _ _ _
      refine ACode.cond rfl (fun c2 => ?_) (fun c2 => absurd c2 (by decide))
      refine ACode.seq ?_
      refine ACode.region' [0, 1, 2, 3, 4, 5, 6] (by kernel_rfl) rfl ?_
      refine aOps_1 rfl rfl rfl (AOp.move' (.inl rfl) rfl ?_)
      refine aOps_1 rfl rfl rfl (AOp.bin' rfl rfl rfl rfl ?_)
      refine aOps_1 rfl rfl rfl (AOp.move' (.inl rfl) rfl ?_)
      refine aOps_gd0 rfl rfl (wantT rfl rfl rfl) (fun hc => AOp.slots [(4, _)] (.cons rfl .nil) (AOp.move' (.inl rfl) rfl ⟨rfl, rfl, rfl⟩)) ?_
      refine aOps_gd0 rfl rfl (wantT rfl rfl rfl) (fun hc => AOp.slots [(28, _)] (.cons (gvT rfl hc) .nil) (AOp.bin' rfl rfl rfl rfl ⟨rfl, rfl, rfl⟩)) ?_
      refine aOps_1 rfl rfl rfl (AOp.pickAnd rfl rfl rfl (fun hb => gvE rfl hb) ?_)
      refine aOps_1 rfl rfl rfl (AOp.move' (.inr rfl) rfl ?_)
      refine aOps_end ?_
      show ACode _ _ _ _ _ _
      refine ACode.ret ?_
      exact RetQ.one rfl rfl (by (repeat (first | exact sub_refl _ | assumption | refine sub_upd' ?_ (by ((repeat refine (upd_other _ _ (by omega)).trans ?_); first | exact hf _ (by omega))) | refine sub_over (by assumption) | refine sub_over0 ?_ | refine sub_trans (sub_same (by assumption)) ?_ | refine sub_dropu ?_ | refine sub_drop ?_ | refine sub_put ?_ (by repeat (first | assumption | exact upd_same _ _ _ | refine (upd_other _ _ (by omega)).trans ?_))))) stays (fun hk => ⟨(by rw [formed_eq, formR, if_neg hc0]; rfl), rfl, by omega⟩)
    · try simp only [decide_eq_true_eq, decide_eq_false_iff_not, beq_iff_eq, beq_eq_false_iff_ne, ne_eq, bne_iff_ne, Bool.not_eq_true', Bool.not_eq_false', Int.not_lt, Int.not_le, gt_iff_lt, ge_iff_le, bne_eq_false_iff_eq, Bool.not_eq_eq_eq_not, Bool.not_true, Bool.not_false] at c1
      refine ACode.region' [0, 1] (by kernel_rfl) rfl ?_
      refine aOps_1 rfl rfl rfl (AOp.bin' rfl rfl rfl rfl ?_)
      refine aOps_1 rfl rfl rfl (AOp.move' (.inr rfl) rfl ?_)
      refine aOps_end ?_
      show ACode _ _ _ _ _ _
      refine ACode.cond rfl (fun c2 => ?_) (fun c2 => ?_)
      · try simp only [decide_eq_true_eq, decide_eq_false_iff_not, beq_iff_eq, beq_eq_false_iff_ne, ne_eq, bne_iff_ne, Bool.not_eq_true', Bool.not_eq_false', Int.not_lt, Int.not_le, gt_iff_lt, ge_iff_le, bne_eq_false_iff_eq, Bool.not_eq_eq_eq_not, Bool.not_true, Bool.not_false] at c2
        subst c2
        refine ACode.seq ?_
        refine ACode.region' [0, 1, 2, 3, 4, 5, 6] (by kernel_rfl) rfl ?_
        refine aOps_1 rfl rfl rfl (AOp.move' (.inl rfl) rfl ?_)
        refine aOps_1 rfl rfl rfl (AOp.bin' rfl rfl rfl rfl ?_)
        refine aOps_1 rfl rfl rfl (AOp.move' (.inl rfl) rfl ?_)
        refine aOps_gd0 rfl rfl (wantT rfl rfl rfl) (fun hc => AOp.slots [(4, _)] (.cons rfl .nil) (AOp.move' (.inl rfl) rfl ⟨rfl, rfl, rfl⟩)) ?_
        refine aOps_gd0 rfl rfl (wantT rfl rfl rfl) (fun hc => AOp.slots [(28, _)] (.cons (gvT rfl hc) .nil) (AOp.bin' rfl rfl rfl rfl ⟨rfl, rfl, rfl⟩)) ?_
        refine aOps_1 rfl rfl rfl (AOp.pickAnd rfl rfl rfl (fun hb => gvE rfl hb) ?_)
        refine aOps_1 rfl rfl rfl (AOp.move' (.inr rfl) rfl ?_)
        refine aOps_end ?_
        show ACode _ _ _ _ _ _
        refine ACode.ret ?_
        exact RetQ.one rfl rfl (by (repeat (first | exact sub_refl _ | assumption | refine sub_upd' ?_ (by ((repeat refine (upd_other _ _ (by omega)).trans ?_); first | exact hf _ (by omega))) | refine sub_over (by assumption) | refine sub_over0 ?_ | refine sub_trans (sub_same (by assumption)) ?_ | refine sub_dropu ?_ | refine sub_drop ?_ | refine sub_put ?_ (by repeat (first | assumption | exact upd_same _ _ _ | refine (upd_other _ _ (by omega)).trans ?_))))) stays (fun hk => ⟨(by rw [formed_eq, formR, if_neg hc0]; rfl), rfl, by omega⟩)
      · try simp only [decide_eq_true_eq, decide_eq_false_iff_not, beq_iff_eq, beq_eq_false_iff_ne, ne_eq, bne_iff_ne, Bool.not_eq_true', Bool.not_eq_false', Int.not_lt, Int.not_le, gt_iff_lt, ge_iff_le, bne_eq_false_iff_eq, Bool.not_eq_eq_eq_not, Bool.not_true, Bool.not_false] at c2
        refine ACode.seq ?_
        refine ACode.seq ?_
        refine ACode.region' [0, 1] (by kernel_rfl) rfl ?_
        refine aOps_1 rfl rfl rfl (AOp.bin' rfl rfl rfl rfl ?_)
        refine aOps_1 rfl rfl rfl (AOp.move' (.inr rfl) rfl ?_)
        refine aOps_end ?_
        show ACode _ _ _ _ _ _
        refine ACode.cond rfl (fun c3 => ?_) (fun c3 => ?_)
        · try simp only [decide_eq_true_eq, decide_eq_false_iff_not, beq_iff_eq, beq_eq_false_iff_ne, ne_eq, bne_iff_ne, Bool.not_eq_true', Bool.not_eq_false', Int.not_lt, Int.not_le, gt_iff_lt, ge_iff_le, bne_eq_false_iff_eq, Bool.not_eq_eq_eq_not, Bool.not_true, Bool.not_false] at c3
          subst c3
          refine ACode.skip ?_
          show ACode _ _ _ _ _ _
          refine ACode.cond rfl (fun c8 => ?_) (fun c8 => absurd c8 (by decide))
          refine ACode.seq ?_
          refine ACode.region' [0, 1, 2, 3, 4, 5, 6] (by kernel_rfl) rfl ?_
          refine aOps_1 rfl rfl rfl (AOp.move' (.inl rfl) rfl ?_)
          refine aOps_1 rfl rfl rfl (AOp.bin' rfl rfl rfl rfl ?_)
          refine aOps_1 rfl rfl rfl (AOp.move' (.inl rfl) rfl ?_)
          refine aOps_gd0 rfl rfl (wantT rfl rfl rfl) (fun hc => AOp.slots [(4, _)] (.cons rfl .nil) (AOp.move' (.inl rfl) rfl ⟨rfl, rfl, rfl⟩)) ?_
          refine aOps_gd0 rfl rfl (wantT rfl rfl rfl) (fun hc => AOp.slots [(41, _)] (.cons (gvT rfl hc) .nil) (AOp.bin' rfl rfl rfl rfl ⟨rfl, rfl, rfl⟩)) ?_
          refine aOps_1 rfl rfl rfl (AOp.pickAnd rfl rfl rfl (fun hb => gvE rfl hb) ?_)
          refine aOps_1 rfl rfl rfl (AOp.move' (.inr rfl) rfl ?_)
          refine aOps_end ?_
          show ACode _ _ _ _ _ _
          refine ACode.ret ?_
          exact RetQ.one rfl rfl (by (repeat (first | exact sub_refl _ | assumption | refine sub_upd' ?_ (by ((repeat refine (upd_other _ _ (by omega)).trans ?_); first | exact hf _ (by omega))) | refine sub_over (by assumption) | refine sub_over0 ?_ | refine sub_trans (sub_same (by assumption)) ?_ | refine sub_dropu ?_ | refine sub_drop ?_ | refine sub_put ?_ (by repeat (first | assumption | exact upd_same _ _ _ | refine (upd_other _ _ (by omega)).trans ?_))))) stays (fun hk => ⟨(by rw [formed_eq, formR, if_neg hc0]; rfl), rfl, by omega⟩)
        · try simp only [decide_eq_true_eq, decide_eq_false_iff_not, beq_iff_eq, beq_eq_false_iff_ne, ne_eq, bne_iff_ne, Bool.not_eq_true', Bool.not_eq_false', Int.not_lt, Int.not_le, gt_iff_lt, ge_iff_le, bne_eq_false_iff_eq, Bool.not_eq_eq_eq_not, Bool.not_true, Bool.not_false] at c3
          refine ACode.seq ?_
          refine ACode.region' [0, 1] (by kernel_rfl) rfl ?_
          refine aOps_1 rfl rfl rfl (AOp.bin' rfl rfl rfl rfl ?_)
          refine aOps_1 rfl rfl rfl (AOp.move' (.inr rfl) rfl ?_)
          refine aOps_end ?_
          show ACode _ _ _ _ _ _
          refine ACode.cond rfl (fun c4 => ?_) (fun c4 => ?_)
          · try simp only [decide_eq_true_eq, decide_eq_false_iff_not, beq_iff_eq, beq_eq_false_iff_ne, ne_eq, bne_iff_ne, Bool.not_eq_true', Bool.not_eq_false', Int.not_lt, Int.not_le, gt_iff_lt, ge_iff_le, bne_eq_false_iff_eq, Bool.not_eq_eq_eq_not, Bool.not_true, Bool.not_false] at c4
            subst c4
            refine ACode.skip ?_
            show ACode _ _ _ _ _ _
            refine ACode.cond rfl (fun c8 => ?_) (fun c8 => absurd c8 (by decide))
            refine ACode.seq ?_
            refine ACode.region' [0, 1, 2, 3, 4, 5, 6] (by kernel_rfl) rfl ?_
            refine aOps_1 rfl rfl rfl (AOp.move' (.inl rfl) rfl ?_)
            refine aOps_1 rfl rfl rfl (AOp.bin' rfl rfl rfl rfl ?_)
            refine aOps_1 rfl rfl rfl (AOp.move' (.inl rfl) rfl ?_)
            refine aOps_gd0 rfl rfl (wantT rfl rfl rfl) (fun hc => AOp.slots [(4, _)] (.cons rfl .nil) (AOp.move' (.inl rfl) rfl ⟨rfl, rfl, rfl⟩)) ?_
            refine aOps_gd0 rfl rfl (wantT rfl rfl rfl) (fun hc => AOp.slots [(41, _)] (.cons (gvT rfl hc) .nil) (AOp.bin' rfl rfl rfl rfl ⟨rfl, rfl, rfl⟩)) ?_
            refine aOps_1 rfl rfl rfl (AOp.pickAnd rfl rfl rfl (fun hb => gvE rfl hb) ?_)
            refine aOps_1 rfl rfl rfl (AOp.move' (.inr rfl) rfl ?_)
            refine aOps_end ?_
            show ACode _ _ _ _ _ _
            refine ACode.ret ?_
            exact RetQ.one rfl rfl (by (repeat (first | exact sub_refl _ | assumption | refine sub_upd' ?_ (by ((repeat refine (upd_other _ _ (by omega)).trans ?_); first | exact hf _ (by omega))) | refine sub_over (by assumption) | refine sub_over0 ?_ | refine sub_trans (sub_same (by assumption)) ?_ | refine sub_dropu ?_ | refine sub_drop ?_ | refine sub_put ?_ (by repeat (first | assumption | exact upd_same _ _ _ | refine (upd_other _ _ (by omega)).trans ?_))))) stays (fun hk => ⟨(by rw [formed_eq, formR, if_neg hc0]; rfl), rfl, by omega⟩)
          · try simp only [decide_eq_true_eq, decide_eq_false_iff_not, beq_iff_eq, beq_eq_false_iff_ne, ne_eq, bne_iff_ne, Bool.not_eq_true', Bool.not_eq_false', Int.not_lt, Int.not_le, gt_iff_lt, ge_iff_le, bne_eq_false_iff_eq, Bool.not_eq_eq_eq_not, Bool.not_true, Bool.not_false] at c4
            refine ACode.seq ?_
            refine ACode.region' [0, 1] (by kernel_rfl) rfl ?_
            refine aOps_1 rfl rfl rfl (AOp.bin' rfl rfl rfl rfl ?_)
            refine aOps_1 rfl rfl rfl (AOp.move' (.inr rfl) rfl ?_)
            refine aOps_end ?_
            show ACode _ _ _ _ _ _
            refine ACode.cond rfl (fun c5 => ?_) (fun c5 => ?_)
            · try simp only [decide_eq_true_eq, decide_eq_false_iff_not, beq_iff_eq, beq_eq_false_iff_ne, ne_eq, bne_iff_ne, Bool.not_eq_true', Bool.not_eq_false', Int.not_lt, Int.not_le, gt_iff_lt, ge_iff_le, bne_eq_false_iff_eq, Bool.not_eq_eq_eq_not, Bool.not_true, Bool.not_false] at c5
              subst c5
              refine ACode.skip ?_
              show ACode _ _ _ _ _ _
              refine ACode.cond rfl (fun c8 => ?_) (fun c8 => absurd c8 (by decide))
              refine ACode.seq ?_
              refine ACode.region' [0, 1, 2, 3, 4, 5, 6] (by kernel_rfl) rfl ?_
              refine aOps_1 rfl rfl rfl (AOp.move' (.inl rfl) rfl ?_)
              refine aOps_1 rfl rfl rfl (AOp.bin' rfl rfl rfl rfl ?_)
              refine aOps_1 rfl rfl rfl (AOp.move' (.inl rfl) rfl ?_)
              refine aOps_gd0 rfl rfl (wantT rfl rfl rfl) (fun hc => AOp.slots [(4, _)] (.cons rfl .nil) (AOp.move' (.inl rfl) rfl ⟨rfl, rfl, rfl⟩)) ?_
              refine aOps_gd0 rfl rfl (wantT rfl rfl rfl) (fun hc => AOp.slots [(41, _)] (.cons (gvT rfl hc) .nil) (AOp.bin' rfl rfl rfl rfl ⟨rfl, rfl, rfl⟩)) ?_
              refine aOps_1 rfl rfl rfl (AOp.pickAnd rfl rfl rfl (fun hb => gvE rfl hb) ?_)
              refine aOps_1 rfl rfl rfl (AOp.move' (.inr rfl) rfl ?_)
              refine aOps_end ?_
              show ACode _ _ _ _ _ _
              refine ACode.ret ?_
              exact RetQ.one rfl rfl (by (repeat (first | exact sub_refl _ | assumption | refine sub_upd' ?_ (by ((repeat refine (upd_other _ _ (by omega)).trans ?_); first | exact hf _ (by omega))) | refine sub_over (by assumption) | refine sub_over0 ?_ | refine sub_trans (sub_same (by assumption)) ?_ | refine sub_dropu ?_ | refine sub_drop ?_ | refine sub_put ?_ (by repeat (first | assumption | exact upd_same _ _ _ | refine (upd_other _ _ (by omega)).trans ?_))))) stays (fun hk => ⟨(by rw [formed_eq, formR, if_neg hc0]; rfl), rfl, by omega⟩)
            · try simp only [decide_eq_true_eq, decide_eq_false_iff_not, beq_iff_eq, beq_eq_false_iff_ne, ne_eq, bne_iff_ne, Bool.not_eq_true', Bool.not_eq_false', Int.not_lt, Int.not_le, gt_iff_lt, ge_iff_le, bne_eq_false_iff_eq, Bool.not_eq_eq_eq_not, Bool.not_true, Bool.not_false] at c5
              refine ACode.seq ?_
              refine ACode.region' [0, 1] (by kernel_rfl) rfl ?_
              refine aOps_1 rfl rfl rfl (AOp.bin' rfl rfl rfl rfl ?_)
              refine aOps_1 rfl rfl rfl (AOp.move' (.inr rfl) rfl ?_)
              refine aOps_end ?_
              show ACode _ _ _ _ _ _
              refine ACode.cond rfl (fun c6 => ?_) (fun c6 => ?_)
              · try simp only [decide_eq_true_eq, decide_eq_false_iff_not, beq_iff_eq, beq_eq_false_iff_ne, ne_eq, bne_iff_ne, Bool.not_eq_true', Bool.not_eq_false', Int.not_lt, Int.not_le, gt_iff_lt, ge_iff_le, bne_eq_false_iff_eq, Bool.not_eq_eq_eq_not, Bool.not_true, Bool.not_false] at c6
                subst c6
                refine ACode.skip ?_
                show ACode _ _ _ _ _ _
                refine ACode.cond rfl (fun c8 => ?_) (fun c8 => absurd c8 (by decide))
                refine ACode.seq ?_
                refine ACode.region' [0, 1, 2, 3, 4, 5, 6] (by kernel_rfl) rfl ?_
                refine aOps_1 rfl rfl rfl (AOp.move' (.inl rfl) rfl ?_)
                refine aOps_1 rfl rfl rfl (AOp.bin' rfl rfl rfl rfl ?_)
                refine aOps_1 rfl rfl rfl (AOp.move' (.inl rfl) rfl ?_)
                refine aOps_gd0 rfl rfl (wantT rfl rfl rfl) (fun hc => AOp.slots [(4, _)] (.cons rfl .nil) (AOp.move' (.inl rfl) rfl ⟨rfl, rfl, rfl⟩)) ?_
                refine aOps_gd0 rfl rfl (wantT rfl rfl rfl) (fun hc => AOp.slots [(41, _)] (.cons (gvT rfl hc) .nil) (AOp.bin' rfl rfl rfl rfl ⟨rfl, rfl, rfl⟩)) ?_
                refine aOps_1 rfl rfl rfl (AOp.pickAnd rfl rfl rfl (fun hb => gvE rfl hb) ?_)
                refine aOps_1 rfl rfl rfl (AOp.move' (.inr rfl) rfl ?_)
                refine aOps_end ?_
                show ACode _ _ _ _ _ _
                refine ACode.ret ?_
                exact RetQ.one rfl rfl (by (repeat (first | exact sub_refl _ | assumption | refine sub_upd' ?_ (by ((repeat refine (upd_other _ _ (by omega)).trans ?_); first | exact hf _ (by omega))) | refine sub_over (by assumption) | refine sub_over0 ?_ | refine sub_trans (sub_same (by assumption)) ?_ | refine sub_dropu ?_ | refine sub_drop ?_ | refine sub_put ?_ (by repeat (first | assumption | exact upd_same _ _ _ | refine (upd_other _ _ (by omega)).trans ?_))))) stays (fun hk => ⟨(by rw [formed_eq, formR, if_neg hc0]; rfl), rfl, by omega⟩)
              · try simp only [decide_eq_true_eq, decide_eq_false_iff_not, beq_iff_eq, beq_eq_false_iff_ne, ne_eq, bne_iff_ne, Bool.not_eq_true', Bool.not_eq_false', Int.not_lt, Int.not_le, gt_iff_lt, ge_iff_le, bne_eq_false_iff_eq, Bool.not_eq_eq_eq_not, Bool.not_true, Bool.not_false] at c6
                refine ACode.seq ?_
                refine ACode.region' [0, 1] (by kernel_rfl) rfl ?_
                refine aOps_1 rfl rfl rfl (AOp.bin' rfl rfl rfl rfl ?_)
                refine aOps_1 rfl rfl rfl (AOp.move' (.inr rfl) rfl ?_)
                refine aOps_end ?_
                show ACode _ _ _ _ _ _
                refine ACode.cond rfl (fun c7 => ?_) (fun c7 => ?_)
                · try simp only [decide_eq_true_eq, decide_eq_false_iff_not, beq_iff_eq, beq_eq_false_iff_ne, ne_eq, bne_iff_ne, Bool.not_eq_true', Bool.not_eq_false', Int.not_lt, Int.not_le, gt_iff_lt, ge_iff_le, bne_eq_false_iff_eq, Bool.not_eq_eq_eq_not, Bool.not_true, Bool.not_false] at c7
                  subst c7
                  refine ACode.skip ?_
                  show ACode _ _ _ _ _ _
                  refine ACode.cond rfl (fun c8 => ?_) (fun c8 => absurd c8 (by decide))
                  refine ACode.seq ?_
                  refine ACode.region' [0, 1, 2, 3, 4, 5, 6] (by kernel_rfl) rfl ?_
                  refine aOps_1 rfl rfl rfl (AOp.move' (.inl rfl) rfl ?_)
                  refine aOps_1 rfl rfl rfl (AOp.bin' rfl rfl rfl rfl ?_)
                  refine aOps_1 rfl rfl rfl (AOp.move' (.inl rfl) rfl ?_)
                  refine aOps_gd0 rfl rfl (wantT rfl rfl rfl) (fun hc => AOp.slots [(4, _)] (.cons rfl .nil) (AOp.move' (.inl rfl) rfl ⟨rfl, rfl, rfl⟩)) ?_
                  refine aOps_gd0 rfl rfl (wantT rfl rfl rfl) (fun hc => AOp.slots [(41, _)] (.cons (gvT rfl hc) .nil) (AOp.bin' rfl rfl rfl rfl ⟨rfl, rfl, rfl⟩)) ?_
                  refine aOps_1 rfl rfl rfl (AOp.pickAnd rfl rfl rfl (fun hb => gvE rfl hb) ?_)
                  refine aOps_1 rfl rfl rfl (AOp.move' (.inr rfl) rfl ?_)
                  refine aOps_end ?_
                  show ACode _ _ _ _ _ _
                  refine ACode.ret ?_
                  exact RetQ.one rfl rfl (by (repeat (first | exact sub_refl _ | assumption | refine sub_upd' ?_ (by ((repeat refine (upd_other _ _ (by omega)).trans ?_); first | exact hf _ (by omega))) | refine sub_over (by assumption) | refine sub_over0 ?_ | refine sub_trans (sub_same (by assumption)) ?_ | refine sub_dropu ?_ | refine sub_drop ?_ | refine sub_put ?_ (by repeat (first | assumption | exact upd_same _ _ _ | refine (upd_other _ _ (by omega)).trans ?_))))) stays (fun hk => ⟨(by rw [formed_eq, formR, if_neg hc0]; rfl), rfl, by omega⟩)
                · try simp only [decide_eq_true_eq, decide_eq_false_iff_not, beq_iff_eq, beq_eq_false_iff_ne, ne_eq, bne_iff_ne, Bool.not_eq_true', Bool.not_eq_false', Int.not_lt, Int.not_le, gt_iff_lt, ge_iff_le, bne_eq_false_iff_eq, Bool.not_eq_eq_eq_not, Bool.not_true, Bool.not_false] at c7
                  refine ACode.region' [0, 1] (by kernel_rfl) rfl ?_
                  refine aOps_1 rfl rfl rfl (AOp.bin' rfl rfl rfl rfl ?_)
                  refine aOps_1 rfl rfl rfl (AOp.move' (.inr rfl) rfl ?_)
                  refine aOps_end ?_
                  show ACode _ _ _ _ _ _
                  refine ACode.cond rfl (fun c8 => ?_) (fun c8 => ?_)
                  · try simp only [decide_eq_true_eq, decide_eq_false_iff_not, beq_iff_eq, beq_eq_false_iff_ne, ne_eq, bne_iff_ne, Bool.not_eq_true', Bool.not_eq_false', Int.not_lt, Int.not_le, gt_iff_lt, ge_iff_le, bne_eq_false_iff_eq, Bool.not_eq_eq_eq_not, Bool.not_true, Bool.not_false] at c8
                    subst c8
                    refine ACode.seq ?_
                    refine ACode.region' [0, 1, 2, 3, 4, 5, 6] (by kernel_rfl) rfl ?_
                    refine aOps_1 rfl rfl rfl (AOp.move' (.inl rfl) rfl ?_)
                    refine aOps_1 rfl rfl rfl (AOp.bin' rfl rfl rfl rfl ?_)
                    refine aOps_1 rfl rfl rfl (AOp.move' (.inl rfl) rfl ?_)
                    refine aOps_gd0 rfl rfl (wantT rfl rfl rfl) (fun hc => AOp.slots [(4, _)] (.cons rfl .nil) (AOp.move' (.inl rfl) rfl ⟨rfl, rfl, rfl⟩)) ?_
                    refine aOps_gd0 rfl rfl (wantT rfl rfl rfl) (fun hc => AOp.slots [(41, _)] (.cons (gvT rfl hc) .nil) (AOp.bin' rfl rfl rfl rfl ⟨rfl, rfl, rfl⟩)) ?_
                    refine aOps_1 rfl rfl rfl (AOp.pickAnd rfl rfl rfl (fun hb => gvE rfl hb) ?_)
                    refine aOps_1 rfl rfl rfl (AOp.move' (.inr rfl) rfl ?_)
                    refine aOps_end ?_
                    show ACode _ _ _ _ _ _
                    refine ACode.ret ?_
                    exact RetQ.one rfl rfl (by (repeat (first | exact sub_refl _ | assumption | refine sub_upd' ?_ (by ((repeat refine (upd_other _ _ (by omega)).trans ?_); first | exact hf _ (by omega))) | refine sub_over (by assumption) | refine sub_over0 ?_ | refine sub_trans (sub_same (by assumption)) ?_ | refine sub_dropu ?_ | refine sub_drop ?_ | refine sub_put ?_ (by repeat (first | assumption | exact upd_same _ _ _ | refine (upd_other _ _ (by omega)).trans ?_))))) stays (fun hk => ⟨(by rw [formed_eq, formR, if_neg hc0]; rfl), rfl, by omega⟩)
                  · try simp only [decide_eq_true_eq, decide_eq_false_iff_not, beq_iff_eq, beq_eq_false_iff_ne, ne_eq, bne_iff_ne, Bool.not_eq_true', Bool.not_eq_false', Int.not_lt, Int.not_le, gt_iff_lt, ge_iff_le, bne_eq_false_iff_eq, Bool.not_eq_eq_eq_not, Bool.not_true, Bool.not_false] at c8
                    refine ACode.seq ?_
                    refine ACode.region' [0, 1] (by kernel_rfl) rfl ?_
                    refine aOps_1 rfl rfl rfl (AOp.bin' rfl rfl rfl rfl ?_)
                    refine aOps_1 rfl rfl rfl (AOp.move' (.inr rfl) rfl ?_)
                    refine aOps_end ?_
                    show ACode _ _ _ _ _ _
                    refine ACode.cond rfl (fun c9 => ?_) (fun c9 => ?_)
                    · try simp only [decide_eq_true_eq, decide_eq_false_iff_not, beq_iff_eq, beq_eq_false_iff_ne, ne_eq, bne_iff_ne, Bool.not_eq_true', Bool.not_eq_false', Int.not_lt, Int.not_le, gt_iff_lt, ge_iff_le, bne_eq_false_iff_eq, Bool.not_eq_eq_eq_not, Bool.not_true, Bool.not_false] at c9
                      subst c9
                      refine ACode.seq ?_
                      refine ACode.region' [0, 1, 2, 3, 4, 5, 6] (by kernel_rfl) rfl ?_
                      refine aOps_1 rfl rfl rfl (AOp.move' (.inl rfl) rfl ?_)
                      refine aOps_1 rfl rfl rfl (AOp.bin' rfl rfl rfl rfl ?_)
                      refine aOps_1 rfl rfl rfl (AOp.move' (.inl rfl) rfl ?_)
                      refine aOps_gd0 rfl rfl (wantT rfl rfl rfl) (fun hc => AOp.slots [(4, _)] (.cons rfl .nil) (AOp.move' (.inl rfl) rfl ⟨rfl, rfl, rfl⟩)) ?_
                      refine aOps_gd0 rfl rfl (wantT rfl rfl rfl) (fun hc => AOp.slots [(49, _)] (.cons (gvT rfl hc) .nil) (AOp.bin' rfl rfl rfl rfl ⟨rfl, rfl, rfl⟩)) ?_
                      refine aOps_1 rfl rfl rfl (AOp.pickAnd rfl rfl rfl (fun hb => gvE rfl hb) ?_)
                      refine aOps_1 rfl rfl rfl (AOp.move' (.inr rfl) rfl ?_)
                      refine aOps_end ?_
                      show ACode _ _ _ _ _ _
                      refine ACode.ret ?_
                      exact RetQ.one rfl rfl (by (repeat (first | exact sub_refl _ | assumption | refine sub_upd' ?_ (by ((repeat refine (upd_other _ _ (by omega)).trans ?_); first | exact hf _ (by omega))) | refine sub_over (by assumption) | refine sub_over0 ?_ | refine sub_trans (sub_same (by assumption)) ?_ | refine sub_dropu ?_ | refine sub_drop ?_ | refine sub_put ?_ (by repeat (first | assumption | exact upd_same _ _ _ | refine (upd_other _ _ (by omega)).trans ?_))))) stays (fun hk => ⟨(by rw [formed_eq, formR, if_neg hc0]; rfl), rfl, by omega⟩)
                    · try simp only [decide_eq_true_eq, decide_eq_false_iff_not, beq_iff_eq, beq_eq_false_iff_ne, ne_eq, bne_iff_ne, Bool.not_eq_true', Bool.not_eq_false', Int.not_lt, Int.not_le, gt_iff_lt, ge_iff_le, bne_eq_false_iff_eq, Bool.not_eq_eq_eq_not, Bool.not_true, Bool.not_false] at c9
                      refine ACode.seq ?_
                      refine ACode.region' [0, 1] (by kernel_rfl) rfl ?_
                      refine aOps_1 rfl rfl rfl (AOp.bin' rfl rfl rfl rfl ?_)
                      refine aOps_1 rfl rfl rfl (AOp.move' (.inr rfl) rfl ?_)
                      refine aOps_end ?_
                      show ACode _ _ _ _ _ _
                      refine ACode.cond rfl (fun c10 => ?_) (fun c10 => ?_)
                      · try simp only [decide_eq_true_eq, decide_eq_false_iff_not, beq_iff_eq, beq_eq_false_iff_ne, ne_eq, bne_iff_ne, Bool.not_eq_true', Bool.not_eq_false', Int.not_lt, Int.not_le, gt_iff_lt, ge_iff_le, bne_eq_false_iff_eq, Bool.not_eq_eq_eq_not, Bool.not_true, Bool.not_false] at c10
                        subst c10
                        refine ACode.seq ?_
                        refine ACode.region' [0, 1, 2, 3, 4, 5, 6] (by kernel_rfl) rfl ?_
                        refine aOps_1 rfl rfl rfl (AOp.move' (.inl rfl) rfl ?_)
                        refine aOps_1 rfl rfl rfl (AOp.bin' rfl rfl rfl rfl ?_)
                        refine aOps_1 rfl rfl rfl (AOp.move' (.inl rfl) rfl ?_)
                        refine aOps_gd0 rfl rfl (wantT rfl rfl rfl) (fun hc => AOp.slots [(4, _)] (.cons rfl .nil) (AOp.move' (.inl rfl) rfl ⟨rfl, rfl, rfl⟩)) ?_
                        refine aOps_gd0 rfl rfl (wantT rfl rfl rfl) (fun hc => AOp.slots [(57, _)] (.cons (gvT rfl hc) .nil) (AOp.bin' rfl rfl rfl rfl ⟨rfl, rfl, rfl⟩)) ?_
                        refine aOps_1 rfl rfl rfl (AOp.pickAnd rfl rfl rfl (fun hb => gvE rfl hb) ?_)
                        refine aOps_1 rfl rfl rfl (AOp.move' (.inr rfl) rfl ?_)
                        refine aOps_end ?_
                        show ACode _ _ _ _ _ _
                        refine ACode.ret ?_
                        exact RetQ.one rfl rfl (by (repeat (first | exact sub_refl _ | assumption | refine sub_upd' ?_ (by ((repeat refine (upd_other _ _ (by omega)).trans ?_); first | exact hf _ (by omega))) | refine sub_over (by assumption) | refine sub_over0 ?_ | refine sub_trans (sub_same (by assumption)) ?_ | refine sub_dropu ?_ | refine sub_drop ?_ | refine sub_put ?_ (by repeat (first | assumption | exact upd_same _ _ _ | refine (upd_other _ _ (by omega)).trans ?_))))) stays (fun hk => ⟨(by rw [formed_eq, formR, if_neg hc0]; rfl), rfl, by omega⟩)
                      · try simp only [decide_eq_true_eq, decide_eq_false_iff_not, beq_iff_eq, beq_eq_false_iff_ne, ne_eq, bne_iff_ne, Bool.not_eq_true', Bool.not_eq_false', Int.not_lt, Int.not_le, gt_iff_lt, ge_iff_le, bne_eq_false_iff_eq, Bool.not_eq_eq_eq_not, Bool.not_true, Bool.not_false] at c10
                        refine ACode.seq ?_
                        refine ACode.seq ?_
                        refine ACode.region' [0, 1] (by kernel_rfl) rfl ?_
                        refine aOps_1 rfl rfl rfl (AOp.bin' rfl rfl rfl rfl ?_)
                        refine aOps_1 rfl rfl rfl (AOp.move' (.inr rfl) rfl ?_)
                        refine aOps_end ?_
                        show ACode _ _ _ _ _ _
                        refine ACode.cond rfl (fun c11 => ?_) (fun c11 => ?_)
                        · try simp only [decide_eq_true_eq, decide_eq_false_iff_not, beq_iff_eq, beq_eq_false_iff_ne, ne_eq, bne_iff_ne, Bool.not_eq_true', Bool.not_eq_false', Int.not_lt, Int.not_le, gt_iff_lt, ge_iff_le, bne_eq_false_iff_eq, Bool.not_eq_eq_eq_not, Bool.not_true, Bool.not_false] at c11
                          subst c11
                          refine ACode.skip ?_
                          show ACode _ _ _ _ _ _
                          refine ACode.cond rfl (fun c12 => ?_) (fun c12 => absurd c12 (by decide))
                          refine ACode.seq ?_
                          refine ACode.region' [0, 1, 2, 3, 4, 5, 6, 7, 8, 9, 10] (by kernel_rfl) rfl ?_
                          refine aOps_1 rfl rfl rfl (AOp.move' (.inl rfl) rfl ?_)
                          refine aOps_1 rfl rfl rfl (AOp.bin' rfl rfl rfl rfl ?_)
                          refine aOps_1 rfl rfl rfl (AOp.move' (.inl rfl) rfl ?_)
                          refine aOps_gd0 rfl rfl (wantT rfl rfl rfl) (fun hc => AOp.slots [(4, _)] (.cons rfl .nil) (AOp.move' (.inl rfl) rfl ⟨rfl, rfl, rfl⟩)) ?_
                          refine aOps_gd0 rfl rfl (wantT rfl rfl rfl) (fun hc => AOp.slots [(66, _)] (.cons (gvT rfl hc) .nil) (AOp.bin' rfl rfl rfl rfl ⟨rfl, rfl, rfl⟩)) ?_
                          refine aOps_1 rfl rfl rfl (AOp.pickAnd rfl rfl rfl (fun hb => gvE rfl hb) ?_)
                          refine aOps_1 rfl rfl rfl (AOp.move' (.inl rfl) rfl ?_)
                          refine aOps_gd0 rfl rfl (wantT rfl rfl rfl) (fun hc => AOp.slots [(4, _)] (.cons rfl .nil) (AOp.move' (.inl rfl) rfl ⟨rfl, rfl, rfl⟩)) ?_
                          refine aOps_gd0 rfl rfl (wantT rfl rfl rfl) (fun hc => AOp.slots [(70, _)] (.cons (gvT rfl hc) .nil) (AOp.bin' rfl rfl rfl rfl ⟨rfl, rfl, rfl⟩)) ?_
                          refine aOps_1 rfl rfl rfl (AOp.pickAnd rfl rfl rfl (fun hb => gvE rfl hb) ?_)
                          refine aOps_1 rfl rfl rfl (AOp.move' (.inr rfl) rfl ?_)
                          refine aOps_end ?_
                          show ACode _ _ _ _ _ _
                          refine ACode.ret ?_
                          exact RetQ.one rfl rfl (by (repeat (first | exact sub_refl _ | assumption | refine sub_upd' ?_ (by ((repeat refine (upd_other _ _ (by omega)).trans ?_); first | exact hf _ (by omega))) | refine sub_over (by assumption) | refine sub_over0 ?_ | refine sub_trans (sub_same (by assumption)) ?_ | refine sub_dropu ?_ | refine sub_drop ?_ | refine sub_put ?_ (by repeat (first | assumption | exact upd_same _ _ _ | refine (upd_other _ _ (by omega)).trans ?_))))) stays (fun hk => ⟨(by rw [formed_eq, formR, if_neg hc0]; rfl), rfl, by omega⟩)
                        · try simp only [decide_eq_true_eq, decide_eq_false_iff_not, beq_iff_eq, beq_eq_false_iff_ne, ne_eq, bne_iff_ne, Bool.not_eq_true', Bool.not_eq_false', Int.not_lt, Int.not_le, gt_iff_lt, ge_iff_le, bne_eq_false_iff_eq, Bool.not_eq_eq_eq_not, Bool.not_true, Bool.not_false] at c11
                          refine ACode.region' [0, 1] (by kernel_rfl) rfl ?_
                          refine aOps_1 rfl rfl rfl (AOp.bin' rfl rfl rfl rfl ?_)
                          refine aOps_1 rfl rfl rfl (AOp.move' (.inr rfl) rfl ?_)
                          refine aOps_end ?_
                          show ACode _ _ _ _ _ _
                          refine ACode.cond rfl (fun c12 => ?_) (fun c12 => ?_)
                          · try simp only [decide_eq_true_eq, decide_eq_false_iff_not, beq_iff_eq, beq_eq_false_iff_ne, ne_eq, bne_iff_ne, Bool.not_eq_true', Bool.not_eq_false', Int.not_lt, Int.not_le, gt_iff_lt, ge_iff_le, bne_eq_false_iff_eq, Bool.not_eq_eq_eq_not, Bool.not_true, Bool.not_false] at c12
                            subst c12
                            refine ACode.seq ?_
                            refine ACode.region' [0, 1, 2, 3, 4, 5, 6, 7, 8, 9, 10] (by kernel_rfl) rfl ?_
                            refine aOps_1 rfl rfl rfl (AOp.move' (.inl rfl) rfl ?_)
                            refine aOps_1 rfl rfl rfl (AOp.bin' rfl rfl rfl rfl ?_)
                            refine aOps_1 rfl rfl rfl (AOp.move' (.inl rfl) rfl ?_)
                            refine aOps_gd0 rfl rfl (wantT rfl rfl rfl) (fun hc => AOp.slots [(4, _)] (.cons rfl .nil) (AOp.move' (.inl rfl) rfl ⟨rfl, rfl, rfl⟩)) ?_
                            refine aOps_gd0 rfl rfl (wantT rfl rfl rfl) (fun hc => AOp.slots [(66, _)] (.cons (gvT rfl hc) .nil) (AOp.bin' rfl rfl rfl rfl ⟨rfl, rfl, rfl⟩)) ?_
                            refine aOps_1 rfl rfl rfl (AOp.pickAnd rfl rfl rfl (fun hb => gvE rfl hb) ?_)
                            refine aOps_1 rfl rfl rfl (AOp.move' (.inl rfl) rfl ?_)
                            refine aOps_gd0 rfl rfl (wantT rfl rfl rfl) (fun hc => AOp.slots [(4, _)] (.cons rfl .nil) (AOp.move' (.inl rfl) rfl ⟨rfl, rfl, rfl⟩)) ?_
                            refine aOps_gd0 rfl rfl (wantT rfl rfl rfl) (fun hc => AOp.slots [(70, _)] (.cons (gvT rfl hc) .nil) (AOp.bin' rfl rfl rfl rfl ⟨rfl, rfl, rfl⟩)) ?_
                            refine aOps_1 rfl rfl rfl (AOp.pickAnd rfl rfl rfl (fun hb => gvE rfl hb) ?_)
                            refine aOps_1 rfl rfl rfl (AOp.move' (.inr rfl) rfl ?_)
                            refine aOps_end ?_
                            show ACode _ _ _ _ _ _
                            refine ACode.ret ?_
                            exact RetQ.one rfl rfl (by (repeat (first | exact sub_refl _ | assumption | refine sub_upd' ?_ (by ((repeat refine (upd_other _ _ (by omega)).trans ?_); first | exact hf _ (by omega))) | refine sub_over (by assumption) | refine sub_over0 ?_ | refine sub_trans (sub_same (by assumption)) ?_ | refine sub_dropu ?_ | refine sub_drop ?_ | refine sub_put ?_ (by repeat (first | assumption | exact upd_same _ _ _ | refine (upd_other _ _ (by omega)).trans ?_))))) stays (fun hk => ⟨(by rw [formed_eq, formR, if_neg hc0]; rfl), rfl, by omega⟩)
                          · try simp only [decide_eq_true_eq, decide_eq_false_iff_not, beq_iff_eq, beq_eq_false_iff_ne, ne_eq, bne_iff_ne, Bool.not_eq_true', Bool.not_eq_false', Int.not_lt, Int.not_le, gt_iff_lt, ge_iff_le, bne_eq_false_iff_eq, Bool.not_eq_eq_eq_not, Bool.not_true, Bool.not_false] at c12
                            refine ACode.seq ?_
                            refine ACode.region' [0, 1] (by kernel_rfl) rfl ?_
                            refine aOps_1 rfl rfl rfl (AOp.bin' rfl rfl rfl rfl ?_)
                            refine aOps_1 rfl rfl rfl (AOp.move' (.inr rfl) rfl ?_)
                            refine aOps_end ?_
                            show ACode _ _ _ _ _ _
                            refine ACode.cond rfl (fun c13 => ?_) (fun c13 => ?_)
                            · try simp only [decide_eq_true_eq, decide_eq_false_iff_not, beq_iff_eq, beq_eq_false_iff_ne, ne_eq, bne_iff_ne, Bool.not_eq_true', Bool.not_eq_false', Int.not_lt, Int.not_le, gt_iff_lt, ge_iff_le, bne_eq_false_iff_eq, Bool.not_eq_eq_eq_not, Bool.not_true, Bool.not_false] at c13
                              subst c13
                              refine ACode.seq ?_
                              refine ACode.region' [0, 1, 2, 3, 4, 5, 6] (by kernel_rfl) rfl ?_
                              refine aOps_1 rfl rfl rfl (AOp.move' (.inl rfl) rfl ?_)
                              refine aOps_1 rfl rfl rfl (AOp.bin' rfl rfl rfl rfl ?_)
                              refine aOps_1 rfl rfl rfl (AOp.move' (.inl rfl) rfl ?_)
                              refine aOps_gd0 rfl rfl (wantT rfl rfl rfl) (fun hc => AOp.slots [(4, _)] (.cons rfl .nil) (AOp.move' (.inl rfl) rfl ⟨rfl, rfl, rfl⟩)) ?_
                              refine aOps_gd0 rfl rfl (wantT rfl rfl rfl) (fun hc => AOp.slots [(78, _)] (.cons (gvT rfl hc) .nil) (AOp.bin' rfl rfl rfl rfl ⟨rfl, rfl, rfl⟩)) ?_
                              refine aOps_1 rfl rfl rfl (AOp.pickAnd rfl rfl rfl (fun hb => gvE rfl hb) ?_)
                              refine aOps_1 rfl rfl rfl (AOp.move' (.inr rfl) rfl ?_)
                              refine aOps_end ?_
                              show ACode _ _ _ _ _ _
                              refine ACode.ret ?_
                              exact RetQ.one rfl rfl (by (repeat (first | exact sub_refl _ | assumption | refine sub_upd' ?_ (by ((repeat refine (upd_other _ _ (by omega)).trans ?_); first | exact hf _ (by omega))) | refine sub_over (by assumption) | refine sub_over0 ?_ | refine sub_trans (sub_same (by assumption)) ?_ | refine sub_dropu ?_ | refine sub_drop ?_ | refine sub_put ?_ (by repeat (first | assumption | exact upd_same _ _ _ | refine (upd_other _ _ (by omega)).trans ?_))))) stays (fun hk => ⟨(by rw [formed_eq, formR, if_neg hc0]; rfl), rfl, by omega⟩)
                            · try simp only [decide_eq_true_eq, decide_eq_false_iff_not, beq_iff_eq, beq_eq_false_iff_ne, ne_eq, bne_iff_ne, Bool.not_eq_true', Bool.not_eq_false', Int.not_lt, Int.not_le, gt_iff_lt, ge_iff_le, bne_eq_false_iff_eq, Bool.not_eq_eq_eq_not, Bool.not_true, Bool.not_false] at c13
                              refine ACode.skip ?_
                              show ACode _ _ _ _ _ _
                              refine ACode.seq ?_
                              refine ACode.region' [0] (by kernel_rfl) rfl ?_
                              refine aOps_1 rfl rfl rfl (AOp.move' (.inr rfl) rfl ?_)
                              refine aOps_end ?_
                              show ACode _ _ _ _ _ _
                              refine ACode.ret ?_
                              exact RetQ.one rfl rfl (by (repeat (first | exact sub_refl _ | assumption | refine sub_upd' ?_ (by ((repeat refine (upd_other _ _ (by omega)).trans ?_); first | exact hf _ (by omega))) | refine sub_over (by assumption) | refine sub_over0 ?_ | refine sub_trans (sub_same (by assumption)) ?_ | refine sub_dropu ?_ | refine sub_drop ?_ | refine sub_put ?_ (by repeat (first | assumption | exact upd_same _ _ _ | refine (upd_other _ _ (by omega)).trans ?_))))) stays (fun hk => ⟨(by rw [formed_eq, formR, if_neg hc0, if_neg (by omega), if_neg (by omega), if_neg (by omega), if_neg (by omega), if_neg (by omega), if_neg (by omega)]), rfl, by omega⟩)

theorem size_c : ∀ (N : Nat) (p : Pd) (v : Value) (deep : Nat) (H : Hp) (k : Nat), PdV H p v → deep ≤ 40 → SizeOf.sizeOf p < N → ACalls Tryd.prog 3 49 [v, .int .i64 400, .int .i64 (deep : Int)] H k (Same H k (.int .i64 (sizeP 400 p deep))) := by
  intro N
  induction N
  case zero => intro p v deep H k hp hd hN; exact absurd hN (Nat.not_lt_zero _)
  rename_i N ih
  intro p v deep H k hp hd hN
  cases p
  rename_i op col vals of
  have hpS := hp.okS
  rw [PdV] at hp
  obtain ⟨A, c, B, d, bs, rfl, hA, hvl, hol, hop, hcl, hok, hB, hPs⟩ := hp
  rw [Pd.okS] at hpS
  refine ACalls.fresh fun hf => ?_
  refine ACalls.body Tryd.func49 rfl (Nat.le_of_ble_eq_true rfl) ?_
  have hV1 := sizePs_bd (most := 400) (by decide) of (deep - 1) hpS.2
  have hV2 : (sizePs 400 of (deep - 1)).length = of.length := by rw [sizePs_map, List.length_map]
  refine ACode.seq ?_
  refine ACode.region' [0, 1] (by kernel_rfl) rfl ?_
  refine aOps_1 rfl rfl rfl (AOp.boxV rfl rfl ?_)
  refine aOps_1 rfl rfl rfl (AOp.move' (.inr rfl) rfl ?_)
  refine aOps_end ?_
  show ACode _ _ _ _ _ _
  refine ACode.seq ?_
  refine ACode.region' [0] (by kernel_rfl) rfl ?_
  refine aOps_1 rfl rfl rfl (AOp.move' (.inr rfl) rfl ?_)
  refine aOps_end ?_
  show ACode _ _ _ _ _ _
  refine ACode.seq ?_
  refine ACode.seq ?_
  refine ACode.region' [0, 1] (by kernel_rfl) rfl ?_
  refine aOps_1 rfl rfl rfl (AOp.move' (.inl rfl) rfl ?_)
  refine aOps_1 rfl rfl rfl (AOp.bin' rfl rfl rfl rfl ?_)
  refine aOps_end ?_
  show ACode _ _ _ _ _ _
  refine ACode.cond rfl (fun c0 => ?_) (fun c0 => ?_)
  · try simp only [decide_eq_true_eq, decide_eq_false_iff_not, beq_iff_eq, beq_eq_false_iff_ne, ne_eq, bne_iff_ne, Bool.not_eq_true', Bool.not_eq_false', Int.not_lt, Int.not_le, gt_iff_lt, ge_iff_le, bne_eq_false_iff_eq, Bool.not_eq_eq_eq_not, Bool.not_true, Bool.not_false] at c0
    have hd0 : deep = 0 := by omega
    refine ACode.seq ?_
    refine ACode.region' [0, 1, 2] (by kernel_rfl) rfl ?_
    refine aOps_1 rfl rfl rfl (AOp.move' (.inl rfl) rfl ?_)
    refine aOps_1 rfl rfl rfl (AOp.add rfl rfl rfl (i64_wrap (by omega) (by omega)) ?_)
    refine aOps_1 rfl rfl rfl (AOp.move' (.inr rfl) rfl ?_)
    refine aOps_end ?_
    show ACode _ _ _ _ _ _
    refine ACode.ret ?_
    exact RetQ.one rfl rfl (by (repeat (first | exact sub_refl _ | assumption | refine sub_upd' ?_ (by ((repeat refine (upd_other _ _ (by omega)).trans ?_); first | exact hf _ (by omega))) | refine sub_over (by assumption) | refine sub_over0 ?_ | refine sub_trans (sub_same (by assumption)) ?_ | refine sub_dropu ?_ | refine sub_drop ?_ | refine sub_put ?_ (by repeat (first | assumption | exact upd_same _ _ _ | refine (upd_other _ _ (by omega)).trans ?_))))) stays (fun hk => ⟨(by rw [sizeP, if_pos hd0]), rfl, by omega⟩)
  · try simp only [decide_eq_true_eq, decide_eq_false_iff_not, beq_iff_eq, beq_eq_false_iff_ne, ne_eq, bne_iff_ne, Bool.not_eq_true', Bool.not_eq_false', Int.not_lt, Int.not_le, gt_iff_lt, ge_iff_le, bne_eq_false_iff_eq, Bool.not_eq_eq_eq_not, Bool.not_true, Bool.not_false] at c0
    have hd0 : ¬ deep = 0 := by omega
    refine ACode.skip ?_
    show ACode _ _ _ _ _ _
    refine ACode.seq ?_
    refine ACode.seq ?_
    refine ACode.region' [0] (by kernel_rfl) rfl ?_
    refine aOps_1 rfl rfl rfl (AOp.move' (.inr rfl) rfl ?_)
    refine aOps_end ?_
    show ACode _ _ _ _ _ _
    refine ACode.block ?_
    refine ACode.count0 (fun i => [(8, .int .i64 (i : Int)), (7, .int .i64 (szV (vals.take i)))]) [(0, _), (1, _), (2, _), (3, _), (6, _), (10, _), (11, _)] (vals.length) (fun i => sizeVs 400 1 vals = sizeVs 400 (szV (vals.take i)) (vals.drop i) ∧ 1 ≤ szV (vals.take i) ∧ szV (vals.take i) ≤ 400 + 140737488351233) (.cons rfl (.cons rfl .nil)) (.cons rfl (.cons rfl (.cons rfl (.cons rfl (.cons rfl (.cons rfl (.cons rfl .nil))))))) ⟨rfl, (show (1 : Int) ≤ 1 by decide), (show (1 : Int) ≤ 400 + 140737488351233 by decide)⟩ (fun i0 kL0 HL0 hiL0 hkL0 hsL0 hfL0 hxL0 => ?_)
    show ACode _ _ _ _ _ ⟨_, _, _⟩
    refine ACode.seq ?_
    refine ACode.seq ?_
    refine ACode.region' [0, 1, 2, 3, 4, 5, 6, 7, 8, 9] (by kernel_rfl) rfl ?_
    refine aOps_1 rfl rfl rfl (AOp.move' (.inl rfl) rfl ?_)
    refine aOps_1 rfl rfl rfl (AOp.fieldAddr' rfl (by decide) rfl ?_)
    refine aOps_1 rfl rfl rfl ?_
    refine AOp.load1 (b := ?b48) (v := ?v48) rfl rfl ?hn48 ?hv48 ?hR48
    (case hn48 => repeat (first | assumption | exact upd_same _ _ _ | refine (upd_other _ _ (by omega)).trans ?_ | refine hsL0 _ _ ?_))
    (case hv48 => rfl)
    refine aOps_1 rfl rfl rfl (AOp.len' rfl rfl ?_)
    refine aOps_1 rfl rfl rfl (AOp.bin' rfl rfl rfl rfl ?_)
    refine aOps_1 rfl rfl rfl (AOp.move' (.inl rfl) rfl ?_)
    refine aOps_gd0 rfl rfl (wantT rfl rfl rfl) (fun hc => AOp.slots [(7, _)] (.cons rfl .nil) (AOp.move' (.inl rfl) rfl ⟨rfl, rfl, rfl⟩)) ?_
    refine aOps_gd0 rfl rfl (wantT rfl rfl rfl) (fun hc => AOp.slots [(1, _)] (.cons rfl .nil) (AOp.move' (.inl rfl) rfl ⟨rfl, rfl, rfl⟩)) ?_
    refine aOps_gd0 rfl rfl (wantT rfl rfl rfl) (fun hc => AOp.slots [(20, _), (21, _)] (.cons (gvT rfl hc) (.cons (gvT rfl hc) .nil)) (AOp.bin' rfl rfl rfl rfl ⟨rfl, rfl, rfl⟩)) ?_
    refine aOps_1 rfl rfl rfl (AOp.pickAnd rfl rfl rfl (fun hb => gvE rfl hb) ?_)
    refine aOps_end ?_
    show ACode _ _ _ _ _ _
    refine ACode.cond rfl (fun c1 => ?_) (fun c1 => ?_)
    · try simp only [decide_eq_true_eq, decide_eq_false_iff_not, beq_iff_eq, beq_eq_false_iff_ne, ne_eq, bne_iff_ne, Bool.not_eq_true', Bool.not_eq_false', Int.not_lt, Int.not_le, gt_iff_lt, ge_iff_le, bne_eq_false_iff_eq, Bool.not_eq_eq_eq_not, Bool.not_true, Bool.not_false] at c1
      simp only [Bool.and_eq_true, decide_eq_true_eq] at c1
      have hsz := hpS.1 (vals.getD i0 vD) (by rw [← getD_i (by omega)]; exact List.getElem_mem _)
      refine ACode.skip ?_
      show ACode _ _ _ _ _ _
      refine ACode.seq ?_
      refine ACode.block ?_
      obtain ⟨n7_5, o7_5, s7_5, hq7_5, hp7_5⟩ := slcV hA (show i0 < vals.length by omega)
      refine ACode.region' [0, 1, 2, 3, 4, 5, 6, 7, 8, 9, 10] (by kernel_rfl) rfl ?_
      refine aOps_1 rfl rfl rfl (AOp.move' (.inl rfl) rfl ?_)
      refine aOps_1 rfl rfl rfl (AOp.add rfl rfl rfl (i64_wrap (by omega) (by omega)) ?_)
      refine aOps_1 rfl rfl rfl (AOp.fieldAddr' rfl (by decide) rfl ?_)
      refine aOps_1 rfl rfl rfl ?_
      refine AOp.load1 (b := ?b49) (v := ?v49) rfl rfl ?hn49 ?hv49 ?hR49
      (case hn49 => repeat (first | assumption | exact upd_same _ _ _ | refine (upd_other _ _ (by omega)).trans ?_ | refine hsL0 _ _ ?_))
      (case hv49 => rfl)
      refine aOps_1 rfl rfl rfl (AOp.move' (.inl rfl) rfl ?_)
      refine aOps_1 rfl rfl rfl (AOp.indexP (aslcAt_sub (by (repeat (first | exact sub_refl _ | assumption | refine sub_upd' ?_ (by ((repeat refine (upd_other _ _ (by omega)).trans ?_); first | exact hf _ (by omega) | exact hfL0 _ (by omega))) | refine sub_trans ?_ hsL0 | refine sub_over (by assumption) | refine sub_over0 ?_ | refine sub_trans (sub_same (by assumption)) ?_ | refine sub_dropu ?_ | refine sub_drop ?_ | refine sub_put ?_ (by repeat (first | assumption | exact upd_same _ _ _ | refine (upd_other _ _ (by omega)).trans ?_ | refine hsL0 _ _ ?_))))) hq7_5) rfl rfl rfl ?_)
      refine aOps_1 rfl rfl rfl (AOp.fieldP (hp7_5.sub (by (repeat (first | exact sub_refl _ | assumption | refine sub_upd' ?_ (by ((repeat refine (upd_other _ _ (by omega)).trans ?_); first | exact hf _ (by omega) | exact hfL0 _ (by omega))) | refine sub_trans ?_ hsL0 | refine sub_over (by assumption) | refine sub_over0 ?_ | refine sub_trans (sub_same (by assumption)) ?_ | refine sub_dropu ?_ | refine sub_drop ?_ | refine sub_put ?_ (by repeat (first | assumption | exact upd_same _ _ _ | refine (upd_other _ _ (by omega)).trans ?_ | refine hsL0 _ _ ?_)))))) rfl (by decide) (Nat.le_of_ble_eq_true rfl) rfl ?_)
      refine aOps_1 rfl rfl rfl (AOp.loadP1 (hp7_5.sub (by (repeat (first | exact sub_refl _ | assumption | refine sub_upd' ?_ (by ((repeat refine (upd_other _ _ (by omega)).trans ?_); first | exact hf _ (by omega) | exact hfL0 _ (by omega))) | refine sub_trans ?_ hsL0 | refine sub_over (by assumption) | refine sub_over0 ?_ | refine sub_trans (sub_same (by assumption)) ?_ | refine sub_dropu ?_ | refine sub_drop ?_ | refine sub_put ?_ (by repeat (first | assumption | exact upd_same _ _ _ | refine (upd_other _ _ (by omega)).trans ?_ | refine hsL0 _ _ ?_)))))) rfl rfl rfl ?_)
      refine aOps_1 rfl rfl rfl (AOp.lenStr' rfl rfl ?_)
      refine aOps_1 rfl rfl rfl (AOp.add rfl rfl rfl (i64_wrap (by omega) (by omega)) ?_)
      refine aOps_1 rfl rfl rfl (AOp.move' (.inr rfl) rfl ?_)
      refine aOps_end ?_
      show ACode _ _ _ _ _ _
      refine ACode.region' [0, 1, 2] (by kernel_rfl) rfl ?_
      refine aOps_1 rfl rfl rfl (AOp.move' (.inl rfl) rfl ?_)
      refine aOps_1 rfl rfl rfl (AOp.add rfl rfl rfl (i64_wrap (by omega) (by omega)) ?_)
      refine aOps_1 rfl rfl rfl (AOp.move' (.inr rfl) rfl ?_)
      refine aOps_end ?_
      have hvt := szV_take (l := vals) (i := i0) (by omega)
      first | refine thenA_n ?_ | simp only [thenA, blockA, if_true]
      exact NextR.mk (by omega) (by omega) (.cons rfl (.cons (show _ = some (Value.int .i64 _) by rw [hvt]; rfl) .nil)) (.cons rfl (.cons rfl (.cons rfl (.cons rfl (.cons rfl (.cons rfl (.cons rfl .nil))))))) (by (repeat (first | exact sub_refl _ | assumption | refine sub_upd' ?_ (by ((repeat refine (upd_other _ _ (by omega)).trans ?_); first | exact hf _ (by omega) | exact hfL0 _ (by omega))) | refine sub_trans ?_ hsL0 | refine sub_over (by assumption) | refine sub_over0 ?_ | refine sub_trans (sub_same (by assumption)) ?_ | refine sub_dropu ?_ | refine sub_drop ?_ | refine sub_put ?_ (by repeat (first | assumption | exact upd_same _ _ _ | refine (upd_other _ _ (by omega)).trans ?_ | refine hsL0 _ _ ?_))))) ⟨hxL0.1.trans (sizeVs_go (by omega) c1.2), by omega, by omega⟩
    · try simp only [decide_eq_true_eq, decide_eq_false_iff_not, beq_iff_eq, beq_eq_false_iff_ne, ne_eq, bne_iff_ne, Bool.not_eq_true', Bool.not_eq_false', Int.not_lt, Int.not_le, gt_iff_lt, ge_iff_le, bne_eq_false_iff_eq, Bool.not_eq_eq_eq_not, Bool.not_true, Bool.not_false] at c1
      simp only [Bool.and_eq_false_iff, decide_eq_false_iff_not] at c1
      have hVe : sizeVs 400 1 vals = szV (vals.take i0) := hxL0.1.trans (sizeVs_end (by rcases c1 with h | h; exact .inl (List.drop_eq_nil_of_le (by omega)); exact .inr h))
      refine ACode.exit ?_
      show ACode _ _ _ _ _ _
      refine ACode.seq ?_
      refine ACode.seq ?_
      refine ACode.region' [0] (by kernel_rfl) rfl ?_
      refine aOps_1 rfl rfl rfl (AOp.move' (.inr rfl) rfl ?_)
      refine aOps_end ?_
      show ACode _ _ _ _ _ _
      refine ACode.block ?_
      refine ACode.count0 (fun i => [(9, .int .i64 (i : Int)), (7, .int .i64 (szO ((sizePs 400 of (deep - 1)).take i) (szV (vals.take i0))))]) [(0, _), (1, _), (2, _), (3, _), (6, _), (8, _), (10, _), (11, _), (14, _), (15, _), (16, _), (17, _), (18, _), (19, _), (20, _), (21, _), (22, _), (23, _)] (of.length) (fun i => sizeOs 400 (szV (vals.take i0)) (sizePs 400 of (deep - 1)) = sizeOs 400 (szO ((sizePs 400 of (deep - 1)).take i) (szV (vals.take i0))) ((sizePs 400 of (deep - 1)).drop i) ∧ 1 ≤ szO ((sizePs 400 of (deep - 1)).take i) (szV (vals.take i0)) ∧ szO ((sizePs 400 of (deep - 1)).take i) (szV (vals.take i0)) ≤ 300000000000000) (.cons rfl (.cons rfl .nil)) (.cons rfl (.cons rfl (.cons rfl (.cons rfl (.cons rfl (.cons rfl (.cons rfl (.cons rfl (.cons rfl (.cons rfl (.cons rfl (.cons rfl (.cons rfl (.cons rfl (.cons rfl (.cons rfl (.cons rfl (.cons rfl .nil)))))))))))))))))) ⟨rfl, hxL0.2.1, Int.le_trans hxL0.2.2 (by decide)⟩ (fun i1 kL1 HL1 hiL1 hkL1 hsL1 hfL1 hxL1 => ?_)
      show ACode _ _ _ _ _ ⟨_, _, _⟩
      refine ACode.seq ?_
      refine ACode.seq ?_
      refine ACode.region' [0, 1, 2, 3, 4, 5, 6, 7, 8, 9] (by kernel_rfl) rfl ?_
      refine aOps_1 rfl rfl rfl (AOp.move' (.inl rfl) rfl ?_)
      refine aOps_1 rfl rfl rfl (AOp.fieldAddr' rfl (by decide) rfl ?_)
      refine aOps_1 rfl rfl rfl ?_
      refine AOp.load1 (b := ?b50) (v := ?v50) rfl rfl ?hn50 ?hv50 ?hR50
      (case hn50 => repeat (first | assumption | exact upd_same _ _ _ | refine (upd_other _ _ (by omega)).trans ?_ | refine hsL1 _ _ ?_ | refine hsL0 _ _ ?_))
      (case hv50 => rfl)
      refine aOps_1 rfl rfl rfl (AOp.len' rfl rfl ?_)
      refine aOps_1 rfl rfl rfl (AOp.bin' rfl rfl rfl rfl ?_)
      refine aOps_1 rfl rfl rfl (AOp.move' (.inl rfl) rfl ?_)
      refine aOps_gd0 rfl rfl (wantT rfl rfl rfl) (fun hc => AOp.slots [(7, _)] (.cons rfl .nil) (AOp.move' (.inl rfl) rfl ⟨rfl, rfl, rfl⟩)) ?_
      refine aOps_gd0 rfl rfl (wantT rfl rfl rfl) (fun hc => AOp.slots [(1, _)] (.cons rfl .nil) (AOp.move' (.inl rfl) rfl ⟨rfl, rfl, rfl⟩)) ?_
      refine aOps_gd0 rfl rfl (wantT rfl rfl rfl) (fun hc => AOp.slots [(42, _), (43, _)] (.cons (gvT rfl hc) (.cons (gvT rfl hc) .nil)) (AOp.bin' rfl rfl rfl rfl ⟨rfl, rfl, rfl⟩)) ?_
      refine aOps_1 rfl rfl rfl (AOp.pickAnd rfl rfl rfl (fun hb => gvE rfl hb) ?_)
      refine aOps_end ?_
      show ACode _ _ _ _ _ _
      refine ACode.cond rfl (fun c2 => ?_) (fun c2 => ?_)
      · try simp only [decide_eq_true_eq, decide_eq_false_iff_not, beq_iff_eq, beq_eq_false_iff_ne, ne_eq, bne_iff_ne, Bool.not_eq_true', Bool.not_eq_false', Int.not_lt, Int.not_le, gt_iff_lt, ge_iff_le, bne_eq_false_iff_eq, Bool.not_eq_eq_eq_not, Bool.not_true, Bool.not_false] at c2
        simp only [Bool.and_eq_true, decide_eq_true_eq] at c2
        have hx2 : (sizePs 400 of (deep - 1)).getD i1 0 = sizeP 400 (of.getD i1 pD) (deep - 1) := by rw [sizePs_map, List.getD_eq_getElem?_getD, List.getElem?_map, List.getElem?_eq_getElem (show i1 < of.length by omega), List.getD_eq_getElem?_getD, List.getElem?_eq_getElem (show i1 < of.length by omega)]; rfl
        have hxb := hV1 ((sizePs 400 of (deep - 1)).getD i1 0) (by rw [List.getD_eq_getElem?_getD, List.getElem?_eq_getElem (by omega)]; exact List.getElem_mem _)
        rw [hx2] at hxb
        refine ACode.skip ?_
        show ACode _ _ _ _ _ _
        refine ACode.seq ?_
        refine ACode.block ?_
        obtain ⟨n11_4, o11_4, s11_4, v1, hq11_4, hp11_4, hv1⟩ := PdVs.el pD hB hPs (show i1 < of.length by omega)
        obtain ⟨g1, g2⟩ := hv1.agg
        refine ACode.region' [0, 1, 2, 3, 4, 5, 6, 7, 8, 9, 10, 11] (by kernel_rfl) rfl ?_
        refine aOps_1 rfl rfl rfl (AOp.move' (.inl rfl) rfl ?_)
        refine aOps_1 rfl rfl rfl (AOp.fieldAddr' rfl (by decide) rfl ?_)
        refine aOps_1 rfl rfl rfl ?_
        refine AOp.load1 (b := ?b51) (v := ?v51) rfl rfl ?hn51 ?hv51 ?hR51
        (case hn51 => repeat (first | assumption | exact upd_same _ _ _ | refine (upd_other _ _ (by omega)).trans ?_ | refine hsL1 _ _ ?_ | refine hsL0 _ _ ?_))
        (case hv51 => rfl)
        refine aOps_1 rfl rfl rfl (AOp.move' (.inl rfl) rfl ?_)
        refine aOps_1 rfl rfl rfl (AOp.indexP (aslcAt_sub (by (repeat (first | exact sub_refl _ | assumption | refine sub_upd' ?_ (by ((repeat refine (upd_other _ _ (by omega)).trans ?_); first | exact hf _ (by omega) | exact hfL0 _ (by omega) | exact hfL1 _ (by omega))) | refine sub_trans ?_ hsL1 | refine sub_trans ?_ hsL0 | refine sub_over (by assumption) | refine sub_over0 ?_ | refine sub_trans (sub_same (by assumption)) ?_ | refine sub_dropu ?_ | refine sub_drop ?_ | refine sub_put ?_ (by repeat (first | assumption | exact upd_same _ _ _ | refine (upd_other _ _ (by omega)).trans ?_ | refine hsL1 _ _ ?_ | refine hsL0 _ _ ?_))))) hq11_4) rfl rfl rfl ?_)
        refine aOps_1 rfl rfl rfl (AOp.loadPA (v := v1) (hp11_4.sub (by (repeat (first | exact sub_refl _ | assumption | refine sub_upd' ?_ (by ((repeat refine (upd_other _ _ (by omega)).trans ?_); first | exact hf _ (by omega) | exact hfL0 _ (by omega) | exact hfL1 _ (by omega))) | refine sub_trans ?_ hsL1 | refine sub_trans ?_ hsL0 | refine sub_over (by assumption) | refine sub_over0 ?_ | refine sub_trans (sub_same (by assumption)) ?_ | refine sub_dropu ?_ | refine sub_drop ?_ | refine sub_put ?_ (by repeat (first | assumption | exact upd_same _ _ _ | refine (upd_other _ _ (by omega)).trans ?_ | refine hsL1 _ _ ?_ | refine hsL0 _ _ ?_)))))) rfl rfl rfl g1 g2 (by decide) ?_)
        refine aOps_1 rfl rfl rfl (AOp.move' (.inl rfl) rfl ?_)
        refine aOps_1 rfl rfl rfl (AOp.move' (.inl rfl) rfl ?_)
        refine aOps_1 rfl rfl rfl (AOp.sub rfl rfl rfl (i64_wrap (by omega) (by omega)) ?_)
        rw [show ((deep : Int) - 1) = ((deep - 1 : Nat) : Int) by omega]
        refine aOps_q rfl rfl rfl (AOp.call' rfl rfl rfl (ih (of.getD i1 pD) v1 (deep - 1) _ _ (hv1.sub (by (repeat (first | exact sub_refl _ | assumption | refine sub_upd' ?_ (by ((repeat refine (upd_other _ _ (by omega)).trans ?_); first | exact hf _ (by omega) | exact hfL0 _ (by omega) | exact hfL1 _ (by omega))) | refine sub_trans ?_ hsL1 | refine sub_trans ?_ hsL0 | refine sub_over (by assumption) | refine sub_over0 ?_ | refine sub_trans (sub_same (by assumption)) ?_ | refine sub_dropu ?_ | refine sub_drop ?_ | refine sub_put ?_ (by repeat (first | assumption | exact upd_same _ _ _ | refine (upd_other _ _ (by omega)).trans ?_ | refine hsL1 _ _ ?_ | refine hsL0 _ _ ?_)))))) (by omega) (by have := Pd.lt (op := op) (col := col) (vals := vals) (pd_getD (ps := of) (i := i1) (by omega)); omega)) (fun _ _ _ h => h)) (fun kq hkq => ?_)
        refine aOps_1 rfl rfl rfl (AOp.add rfl rfl rfl (i64_wrap (by omega) (by omega)) ?_)
        refine aOps_1 rfl rfl rfl (AOp.move' (.inr rfl) rfl ?_)
        refine aOps_end ?_
        show ACode _ _ _ _ _ _
        refine ACode.region' [0, 1, 2] (by kernel_rfl) rfl ?_
        refine aOps_1 rfl rfl rfl (AOp.move' (.inl rfl) rfl ?_)
        refine aOps_1 rfl rfl rfl (AOp.add rfl rfl rfl (i64_wrap (by omega) (by omega)) ?_)
        refine aOps_1 rfl rfl rfl (AOp.move' (.inr rfl) rfl ?_)
        refine aOps_end ?_
        have hot := szO_take (l := sizePs 400 of (deep - 1)) (i := i1) (n := szV (vals.take i0)) (by omega)
        rw [hx2] at hot
        first | refine thenA_n ?_ | simp only [thenA, blockA, if_true]
        exact NextR.mk (by omega) (by omega) (.cons rfl (.cons (show _ = some (Value.int .i64 _) by rw [hot]; rfl) .nil)) (.cons rfl (.cons rfl (.cons rfl (.cons rfl (.cons rfl (.cons rfl (.cons rfl (.cons rfl (.cons rfl (.cons rfl (.cons rfl (.cons rfl (.cons rfl (.cons rfl (.cons rfl (.cons rfl (.cons rfl (.cons rfl .nil)))))))))))))))))) (by (repeat (first | exact sub_refl _ | assumption | refine sub_upd' ?_ (by ((repeat refine (upd_other _ _ (by omega)).trans ?_); first | exact hf _ (by omega) | exact hfL0 _ (by omega) | exact hfL1 _ (by omega))) | refine sub_trans ?_ hsL1 | refine sub_trans ?_ hsL0 | refine sub_over (by assumption) | refine sub_over0 ?_ | refine sub_trans (sub_same (by assumption)) ?_ | refine sub_dropu ?_ | refine sub_drop ?_ | refine sub_put ?_ (by repeat (first | assumption | exact upd_same _ _ _ | refine (upd_other _ _ (by omega)).trans ?_ | refine hsL1 _ _ ?_ | refine hsL0 _ _ ?_))))) ⟨hxL1.1.trans (sizeOs_go (by omega) c2.2), by omega, by omega⟩
      · try simp only [decide_eq_true_eq, decide_eq_false_iff_not, beq_iff_eq, beq_eq_false_iff_ne, ne_eq, bne_iff_ne, Bool.not_eq_true', Bool.not_eq_false', Int.not_lt, Int.not_le, gt_iff_lt, ge_iff_le, bne_eq_false_iff_eq, Bool.not_eq_eq_eq_not, Bool.not_true, Bool.not_false] at c2
        simp only [Bool.and_eq_false_iff, decide_eq_false_iff_not] at c2
        have hOe : sizeOs 400 (szV (vals.take i0)) (sizePs 400 of (deep - 1)) = szO ((sizePs 400 of (deep - 1)).take i1) (szV (vals.take i0)) := hxL1.1.trans (sizeOs_end (by rcases c2 with h | h; exact .inl (List.drop_eq_nil_of_le (by omega)); exact .inr h))
        refine ACode.exit ?_
        show ACode _ _ _ _ _ _
        refine ACode.seq ?_
        refine ACode.region' [0, 1] (by kernel_rfl) rfl ?_
        refine aOps_1 rfl rfl rfl (AOp.move' (.inl rfl) rfl ?_)
        refine aOps_1 rfl rfl rfl (AOp.move' (.inr rfl) rfl ?_)
        refine aOps_end ?_
        show ACode _ _ _ _ _ _
        refine ACode.ret ?_
        exact RetQ.one rfl rfl (by (repeat (first | exact sub_refl _ | assumption | refine sub_upd' ?_ (by ((repeat refine (upd_other _ _ (by omega)).trans ?_); first | exact hf _ (by omega) | exact hfL0 _ (by omega) | exact hfL1 _ (by omega))) | refine sub_trans ?_ hsL1 | refine sub_trans ?_ hsL0 | refine sub_over (by assumption) | refine sub_over0 ?_ | refine sub_trans (sub_same (by assumption)) ?_ | refine sub_dropu ?_ | refine sub_drop ?_ | refine sub_put ?_ (by repeat (first | assumption | exact upd_same _ _ _ | refine (upd_other _ _ (by omega)).trans ?_ | refine hsL1 _ _ ?_ | refine hsL0 _ _ ?_))))) stays (fun hk => ⟨(by rw [sizeP, if_neg hd0, hVe, hOe]), rfl, by omega⟩)

theorem small_b (p : Pd) (v : Value) (hp : PdV H p v) : ACalls Tryd.prog 3 14 [v] H k (Same H k (.bool (decide (sizeP 400 p 40 ≤ 400)))) := by
  obtain ⟨xo, xc, xA, xl, xcc, xB, xm, xd, rfl⟩ := hp.form
  refine ACalls.fresh fun hf => ?_
  refine ACalls.body Tryd.func14 rfl (Nat.le_of_ble_eq_true rfl) ?_
  refine ACode.seq ?_
  refine ACode.region' [0, 1] (by kernel_rfl) rfl ?_
  refine aOps_1 rfl rfl rfl (AOp.boxV rfl rfl ?_)
  refine aOps_1 rfl rfl rfl (AOp.move' (.inr rfl) rfl ?_)
  refine aOps_end ?_
  show ACode _ _ _ _ _ _
  refine ACode.seq ?_
  refine ACode.region' [0, 1, 2, 3] (by kernel_rfl) rfl ?_
  refine aOps_1 rfl rfl rfl ?_
  refine AOp.loadAll (b := ?b52) (v := pv xo xc xA xl xcc xB xm xd) rfl rfl ?hn52 ?hv52 ?hw52 ?hz52 ?hR52
  (case hn52 => repeat (first | assumption | exact upd_same _ _ _ | refine (upd_other _ _ (by omega)).trans ?_))
  (case hv52 => rfl)
  (case hw52 => rfl)
  (case hz52 => first | rfl | (simp; done))
  refine aOps_q rfl rfl rfl (AOp.call' rfl rfl rfl (size_c (SizeOf.sizeOf p + 1) p _ 40 _ _ (hp.sub (by (repeat (first | exact sub_refl _ | assumption | refine sub_upd' ?_ (by ((repeat refine (upd_other _ _ (by omega)).trans ?_); first | exact hf _ (by omega))) | refine sub_over (by assumption) | refine sub_over0 ?_ | refine sub_trans (sub_same (by assumption)) ?_ | refine sub_dropu ?_ | refine sub_drop ?_ | refine sub_put ?_ (by repeat (first | assumption | exact upd_same _ _ _ | refine (upd_other _ _ (by omega)).trans ?_)))))) (by decide) (Nat.lt_succ_self _)) (fun _ _ _ h => h)) (fun kq hkq => ?_)
  refine aOps_1 rfl rfl rfl (AOp.bin' rfl rfl rfl rfl ?_)
  refine aOps_1 rfl rfl rfl (AOp.move' (.inr rfl) rfl ?_)
  refine aOps_end ?_
  show ACode _ _ _ _ _ _
  refine ACode.ret ?_
  exact RetQ.one rfl rfl (by (repeat (first | exact sub_refl _ | assumption | refine sub_upd' ?_ (by ((repeat refine (upd_other _ _ (by omega)).trans ?_); first | exact hf _ (by omega))) | refine sub_over (by assumption) | refine sub_over0 ?_ | refine sub_trans (sub_same (by assumption)) ?_ | refine sub_dropu ?_ | refine sub_drop ?_ | refine sub_put ?_ (by repeat (first | assumption | exact upd_same _ _ _ | refine (upd_other _ _ (by omega)).trans ?_))))) stays (fun hk => ⟨rfl, rfl, by omega⟩)
end

end Go.Proofs.YtnciojaecelhmaaDoor
