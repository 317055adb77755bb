/- Contracts over the abstract states: whether a predicate is formed, which truths may be. -/
import Derived.Test.YtnciojaecelhmaaDoorZ4
set_option linter.unusedVariables false
set_option linter.unusedSimpArgs false
set_option maxRecDepth 100000
namespace Go.Proofs.YtnciojaecelhmaaDoor
open Go Go.Ab

theorem vv_one (v : Val) : ((vv v).cells.all fun x => x.oneCell') = true := by
  show (#[Value.int .i64 v.kind, .int .i64 v.n, .string v.s] : Array Value).all _ = true
  simp [Value.oneCell']
def vfill (vals : List Val) (i : Nat) : List Val := List.replicate i v1 ++ vals.drop i
theorem vfill_len {vals : List Val} {i : Nat} (h : i ≤ vals.length) : (vfill vals i).length = vals.length := by
  rw [vfill, List.length_append, List.length_replicate, List.length_drop]; omega
theorem vfill_end {vals : List Val} {i : Nat} (h : i = vals.length) : vfill vals i = List.replicate vals.length v1 := by
  subst h
  rw [vfill, List.drop_length, List.append_nil]
theorem vfill_set {vals : List Val} {i : Nat} (h : i < vals.length) : (vfill vals i).set i v1 = vfill vals (i + 1) := by
  unfold vfill
  rw [List.set_append_right _ _ (by rw [List.length_replicate]; exact Nat.le_refl _), List.length_replicate, Nat.sub_self, List.drop_eq_getElem_cons h, List.set_cons_zero, List.replicate_succ', List.append_assoc]
  rfl
theorem vfill_put {vals : List Val} {i : Nat} (h : i < vals.length) : putL (vals3 (vfill vals i)) (0 + i * 3) (vv v1).cells.toList = vals3 (vfill vals (i + 1)) := by
  rw [Nat.zero_add, ← vfill_set h]
  exact flat_set (f := fun v => (vv v).cells.toList) (fun _ => rfl) _ _ _ (by rw [vfill_len (by omega)]; exact h)
theorem vals3_len (vals : List Val) : (vals3 vals).length = vals.length * 3 := flatMap_len (f := fun v : Val => (vv v).cells.toList) (fun _ => rfl) vals
theorem cols3_len (cols : List Col) : (cols3 cols).length = cols.length * 3 := flatMap_len (f := fun c : Col => (cc c).cells.toList) (fun _ => rfl) cols
theorem rep_flat {α : Type} (f : α → List Value) (a : α) : ∀ n : Nat, (List.replicate n (f a)).flatten = (List.replicate n a).flatMap f
  | 0 => rfl
  | n + 1 => by rw [List.replicate_succ, List.replicate_succ, List.flatten_cons, List.flatMap_cons, rep_flat f a n]
theorem made_cols (n : Nat) : (madeCells (Value.agg #[.int .i64 0, .bool false, .int .i64 0]).cells (n * 3)).toList = cols3 (List.replicate n cD) := by
  rw [made_flat (z := (Value.agg #[.int .i64 0, .bool false, .int .i64 0]).cells) (k := 3) rfl (by decide)]
  exact rep_flat (fun c => (cc c).cells.toList) cD n
abbrev pz : List Value := [.int .i64 0, .int .i64 0, .slice none 0 0, .slice none 0 0]
theorem made_preds (n : Nat) : (madeCells (Value.agg #[.int .i64 0, .int .i64 0, .slice none 0 0, .slice none 0 0]).cells (n * 4)).toList = (List.replicate n pz).flatten := made_flat (k := 4) rfl (by decide)
theorem pz_len (n : Nat) : ((List.replicate n pz).flatten).length = n * 4 := by
  induction n with
  | zero => rfl
  | succ n ih => rw [List.replicate_succ, List.flatten_cons, List.length_append, ih]; show 4 + n * 4 = _; omega
theorem PdVs_rep {H : Hp} : ∀ n : Nat, PdVs H (List.replicate n pD) (List.replicate n pz).flatten
  | 0 => by rw [List.replicate_zero, List.replicate_zero, List.flatten_nil, PdVs]
  | n + 1 => by
    rw [List.replicate_succ, List.replicate_succ, List.flatten_cons, PdVs]
    refine ⟨pv 0 0 none 0 0 none 0 0, _, rfl, ?_, PdVs_rep n⟩
    rw [pD, PdV]
    exact ⟨none, 0, none, 0, [], rfl, rfl, by decide, by decide, by decide, by decide, fun v hv => (by cases hv), SLC.nil, (by rw [PdVs])⟩
theorem PdV.introN {H : Hp} {op col : Int} {vals : List Val} {of : List Pd} {l m : Nat} {A : Option Addr} {c : Nat} {B : Option Addr} {d : Nat} {bs : List Value} (hvl : vals.length = l) (hml : of.length = m) (hA : slcCells H 3 (.slice A l c) = some (vals3 vals)) (h1 : l ≤ 9223372036854775807) (h2 : m ≤ 9223372036854775807) (h3 : -9223372036854775808 ≤ op ∧ op ≤ 9223372036854775807) (h4 : -9223372036854775808 ≤ col ∧ col ≤ 9223372036854775807) (h5 : ∀ v ∈ vals, v.ok) (hB : SLC H 4 B m d bs) (hP : PdVs H of bs) :
    PdV H (.mk op col vals of) (pv op col A l c B m d) := by
  subst hvl; subst hml
  rw [PdV]
  exact ⟨A, c, B, d, bs, rfl, hA, h1, h2, h3, h4, h5, hB, hP⟩
theorem v1_ok : v1.ok := ⟨by decide, by decide, by decide⟩
theorem rep_ok {l : Nat} : ∀ v ∈ List.replicate l v1, v.ok := fun v hv => by rw [List.eq_of_mem_replicate hv]; exact v1_ok
theorem Check_n (H : Hp) (k : Nat) (ht : H 0 = some shBlk) (p : Pd) (v : Value) (hp : PdV H p v) (cols : List Col) (C : Option Addr) (e n : Nat) (hn : cols.length = n) (hC : slcCells H 3 (.slice C n e) = some (cols3 cols)) (hcn : n ≤ 9223372036854775807) : ACalls Tryd.prog 3 20 [.slice C n e, v] H k (Same H k (.int .i64 (checkP cols p 0))) := by
  subst hn
  exact Check_b H k ht p v hp cols C e hC hcn
theorem col_put {cols x : Nat} (h : x < cols) : (cols3 (List.replicate cols cD)).set (0 + x * 3 + 0) (.int .i64 1) = cols3 (colsK cols (x : Int)) := by
  have hl : x < (List.replicate cols cD).length := by rw [List.length_replicate]; exact h
  rw [Nat.zero_add, colsK, if_pos (by omega), Int.toNat_natCast]
  exact flat_set1 (f := fun c => (cc c).cells.toList) (fun _ => rfl) _ _ _ hl (by decide) (by rw [List.getElem_replicate]; rfl)
section
variable (H : Hp) (k : Nat)

abbrev colBlk (cols : List Col) : Blk := { cells := cols3 cols, elem := 49, kind := .fix }

theorem formed1_b (ht : H 0 = some shBlk) (op col : Int) (hop : -9223372036854775808 ≤ op ∧ op ≤ 9223372036854775807) (hcl : -9223372036854775808 ≤ col ∧ col ≤ 9223372036854775807) (vals : List Val) (hok : ∀ v ∈ vals, v.ok) (A : Option Addr) (c : Nat) (hA : slcCells H 3 (.slice A vals.length c) = some (vals3 vals)) (hl : vals.length ≤ 1000) (h0 : 0 < vals.length) (B : Option Addr) (d : Nat) (of : List Pd) (bs : List Value) (hm : of.length ≤ 1000) (hB : SLC H 4 B of.length d bs) (hPs : PdVs H of bs) (cols : Nat) (hcs : cols ≤ 1000) : ACalls Tryd.prog 3 89 [pv op col A vals.length c B of.length d, .int .i64 (cols : Int)] H k (Same H k (.bool (mayOk op col vals.length of.length cols))) := by
  refine ACalls.fresh fun hf => ?_
  refine ACalls.body Tryd.func89 rfl (Nat.le_of_ble_eq_true rfl) ?_
  have h0k := old_lt hf ht
  refine ACode.seq ?_
  refine ACode.region' [0, 1] (by kernel_rfl) rfl ?_
  refine aOps_1 rfl rfl rfl (AOp.boxV rfl rfl ?_)
  refine aOps_1 rfl rfl rfl (AOp.move' (.inr rfl) rfl ?_)
  refine aOps_end ?_
  show ACode _ _ _ _ _ _
  refine ACode.seq ?_
  refine ACode.region' [0, 1, 2] (by kernel_rfl) rfl ?_
  refine aOps_1 rfl rfl rfl (AOp.move' (.inl rfl) rfl ?_)
  refine aOps_1 rfl rfl rfl (AOp.makeSl (n := cols) rfl rfl rfl (by omega) (by omega) ?_)
  rw [made_cols]
  refine aOps_1 rfl rfl rfl (AOp.move' (.inr rfl) rfl ?_)
  refine aOps_end ?_
  show ACode _ _ _ _ _ _
  refine ACode.seq ?_
  refine ACode.region' [0, 1, 2] (by kernel_rfl) rfl ?_
  refine aOps_1 rfl rfl rfl ?_
  refine AOp.loadAll (b := ?b1) (v := pv op col A vals.length c B of.length d) rfl rfl ?hn1 ?hv1 ?hw1 ?hz1 ?hR1
  (case hn1 => repeat (first | assumption | exact upd_same _ _ _ | refine (upd_other _ _ (by omega)).trans ?_))
  (case hv1 => rfl)
  (case hw1 => rfl)
  (case hz1 => first | rfl | (simp; done))
  refine aOps_1 rfl rfl rfl (AOp.alloc' rfl ?_)
  refine aOps_0 rfl rfl rfl ?_
  refine AOp.storeAll (b := ?b2) rfl rfl rfl ?hn2 ?hk2 rfl ?hw2 ?ho2 ?hl2 ?hR2
  (case hn2 => repeat (first | assumption | exact upd_same _ _ _ | refine (upd_other _ _ (by omega)).trans ?_))
  (case hk2 => rfl)
  (case hw2 => first | rfl | (simp; done))
  (case ho2 => first | rfl | decide | (simp; done))
  (case hl2 => first | rfl | (simp; done))
  refine aOps_end ?_
  show ACode _ _ _ _ _ _
  refine ACode.seq ?_
  refine ACode.region' [0, 1, 2, 3, 4] (by kernel_rfl) rfl ?_
  refine aOps_1 rfl rfl rfl (AOp.fieldAddr' rfl (by decide) rfl ?_)
  refine aOps_1 rfl rfl rfl ?_
  refine AOp.load1 (b := ?b3) (v := ?v3) rfl rfl ?hn3 ?hv3 ?hR3
  (case hn3 => repeat (first | assumption | exact upd_same _ _ _ | refine (upd_other _ _ (by omega)).trans ?_))
  (case hv3 => rfl)
  refine aOps_1 rfl rfl rfl ?_
  refine AOp.call' rfl rfl rfl (clone1_b _ _ vals A c (slcCells_sub (by (repeat (first | exact sub_refl _ | assumption | refine sub_upd' ?_ (by ((repeat refine (upd_other _ _ (by omega)).trans ?_); first | exact hf _ (by omega))) | refine sub_over (by assumption) | refine sub_over0 ?_ | refine sub_trans (sub_same (by assumption)) ?_ | refine sub_dropu ?_ | refine sub_drop ?_ | refine sub_put ?_ (by repeat (first | assumption | exact upd_same _ _ _ | refine (upd_other _ _ (by omega)).trans ?_))))) hA) (by omega) h0) ?_
  rintro _ _ kr ⟨q2, hq1, hq2, rfl, rfl⟩
  refine aOps_1 rfl rfl rfl (AOp.fieldAddr' rfl (by decide) rfl ?_)
  refine aOps_0 rfl rfl rfl ?_
  refine AOp.store1 (b := ?b4) rfl rfl rfl ?hn4 ?hk4 rfl rfl ?hl4 ?hR4
  (case hn4 => repeat (first | assumption | exact upd_same _ _ _ | refine (upd_other _ _ (by omega)).trans ?_))
  (case hk4 => rfl)
  (case hl4 => first | (simp; done) | exact Nat.le_of_ble_eq_true rfl)
  refine aOps_end ?_
  show ACode _ _ _ _ _ _
  refine ACode.seq ?_
  refine ACode.seq ?_
  refine ACode.region' [0, 1, 2] (by kernel_rfl) rfl ?_
  refine aOps_1 rfl rfl rfl (AOp.fieldAddr' rfl (by decide) rfl ?_)
  refine aOps_1 rfl rfl rfl ?_
  refine AOp.load1 (b := ?b5) (v := ?v5) rfl rfl ?hn5 ?hv5 ?hR5
  (case hn5 => repeat (first | assumption | exact upd_same _ _ _ | refine (upd_other _ _ (by omega)).trans ?_))
  (case hv5 => rfl)
  refine aOps_1 rfl rfl rfl (AOp.bin' rfl rfl rfl rfl ?_)
  refine aOps_end ?_
  show ACode _ _ _ _ _ _
  refine ACode.cond rfl (fun c0 => ?_) (fun c0 => ?_)
  · try simp only [decide_eq_true_eq, decide_eq_false_iff_not, beq_iff_eq, beq_eq_false_iff_ne, ne_eq, bne_iff_ne, Bool.not_eq_true', Bool.not_eq_false', Int.not_lt, Int.not_le, gt_iff_lt, ge_iff_le, bne_eq_false_iff_eq, Bool.not_eq_eq_eq_not, Bool.not_true, Bool.not_false] at c0
    refine ACode.seq ?_
    refine ACode.region' [0, 1, 2, 3] (by kernel_rfl) rfl ?_
    refine aOps_1 rfl rfl rfl ?_
    refine AOp.loadAll (b := ?b6) (v := pv op col (some ⟨q2, 0, some 0⟩) vals.length vals.length B of.length d) rfl rfl ?hn6 ?hv6 ?hw6 ?hz6 ?hR6
    (case hn6 => repeat (first | assumption | exact upd_same _ _ _ | refine (upd_other _ _ (by omega)).trans ?_))
    (case hv6 => rfl)
    (case hw6 => rfl)
    (case hz6 => first | rfl | (simp; done))
    refine aOps_q rfl rfl rfl (AOp.call' rfl rfl rfl (Check_n _ _ (by repeat (first | assumption | exact upd_same _ _ _ | refine (upd_other _ _ (by omega)).trans ?_)) (.mk op col vals of) _ (PdV.introN rfl rfl (slcCells_loose (n := q2) (b := fixV vals) (by repeat (first | assumption | exact upd_same _ _ _ | refine (upd_other _ _ (by omega)).trans ?_)) (by rw [vals3_len])) (by first | omega | decide) (by omega) hop hcl hok (hB.sub (by (repeat (first | exact sub_refl _ | assumption | refine sub_upd' ?_ (by ((repeat refine (upd_other _ _ (by omega)).trans ?_); first | exact hf _ (by omega))) | refine sub_over (by assumption) | refine sub_over0 ?_ | refine sub_trans (sub_same (by assumption)) ?_ | refine sub_dropu ?_ | refine sub_drop ?_ | refine sub_put ?_ (by repeat (first | assumption | exact upd_same _ _ _ | refine (upd_other _ _ (by omega)).trans ?_)))))) (hPs.sub (by (repeat (first | exact sub_refl _ | assumption | refine sub_upd' ?_ (by ((repeat refine (upd_other _ _ (by omega)).trans ?_); first | exact hf _ (by omega))) | refine sub_over (by assumption) | refine sub_over0 ?_ | refine sub_trans (sub_same (by assumption)) ?_ | refine sub_dropu ?_ | refine sub_drop ?_ | refine sub_put ?_ (by repeat (first | assumption | exact upd_same _ _ _ | refine (upd_other _ _ (by omega)).trans ?_))))))) [] none 0 0 rfl rfl (by decide)) (fun _ _ _ h => h)) (fun kq hkq => ?_)
    refine aOps_1 rfl rfl rfl (AOp.bin' rfl rfl rfl rfl ?_)
    refine aOps_1 rfl rfl rfl (AOp.move' (.inr rfl) rfl ?_)
    refine aOps_end ?_
    show ACode _ _ _ _ _ _
    refine ACode.ret ?_
    exact RetQ.one rfl rfl (by (repeat (first | exact sub_refl _ | assumption | refine sub_upd' ?_ (by ((repeat refine (upd_other _ _ (by omega)).trans ?_); first | exact hf _ (by omega))) | refine sub_over (by assumption) | refine sub_over0 ?_ | refine sub_trans (sub_same (by assumption)) ?_ | refine sub_dropu ?_ | refine sub_drop ?_ | refine sub_put ?_ (by repeat (first | assumption | exact upd_same _ _ _ | refine (upd_other _ _ (by omega)).trans ?_))))) stays (fun hk => ⟨(by rw [c0]; exact congrArg Value.bool (check_may0 (vals := vals) (of := of) (col := col) (cols := cols))), rfl, by omega⟩)
  · try simp only [decide_eq_true_eq, decide_eq_false_iff_not, beq_iff_eq, beq_eq_false_iff_ne, ne_eq, bne_iff_ne, Bool.not_eq_true', Bool.not_eq_false', Int.not_lt, Int.not_le, gt_iff_lt, ge_iff_le, bne_eq_false_iff_eq, Bool.not_eq_eq_eq_not, Bool.not_true, Bool.not_false] at c0
    refine ACode.skip ?_
    show ACode _ _ _ _ _ _
    refine ACode.seq ?_
    refine ACode.seq ?_
    refine ACode.region' [0, 1, 2, 3, 4, 5, 6, 7, 8] (by kernel_rfl) rfl ?_
    refine aOps_1 rfl rfl rfl (AOp.fieldAddr' rfl (by decide) rfl ?_)
    refine aOps_1 rfl rfl rfl ?_
    refine AOp.load1 (b := ?b7) (v := ?v7) rfl rfl ?hn7 ?hv7 ?hR7
    (case hn7 => repeat (first | assumption | exact upd_same _ _ _ | refine (upd_other _ _ (by omega)).trans ?_))
    (case hv7 => rfl)
    refine aOps_1 rfl rfl rfl (AOp.bin' rfl rfl rfl rfl ?_)
    refine aOps_1 rfl rfl rfl (AOp.move' (.inl rfl) rfl ?_)
    refine aOps_gd0 rfl rfl (wantT rfl rfl rfl) (fun hc => AOp.slots [(6, _)] (.cons rfl .nil) (AOp.fieldAddr' rfl (by decide) rfl ⟨rfl, rfl, rfl⟩)) ?_
    refine aOps_gd0 rfl rfl (wantT rfl rfl rfl) (fun hc => AOp.slots [(25, _)] (.cons (gvT rfl hc) .nil) ((by refine AOp.load1 (b := ?b8) (v := ?v8) rfl rfl ?hn8 ?hv8 ?hR8; (case hn8 => repeat (first | assumption | exact upd_same _ _ _ | refine (upd_other _ _ (by omega)).trans ?_)); (case hv8 => rfl); exact ⟨rfl, rfl, rfl⟩))) ?_
    refine aOps_gd0 rfl rfl (wantT rfl rfl rfl) (fun hc => AOp.slots [(1, _)] (.cons rfl .nil) (AOp.move' (.inl rfl) rfl ⟨rfl, rfl, rfl⟩)) ?_
    refine aOps_gd0 rfl rfl (wantT rfl rfl rfl) (fun hc => AOp.slots [(26, _), (27, _)] (.cons (gvT rfl hc) (.cons (gvT rfl hc) .nil)) (AOp.bin' rfl rfl rfl rfl ⟨rfl, rfl, rfl⟩)) ?_
    refine aOps_1 rfl rfl rfl (AOp.pickAnd rfl rfl rfl (fun hb => gvE rfl hb) ?_)
    refine aOps_end ?_
    show ACode _ _ _ _ _ _
    refine ACode.cond rfl (fun c1 => ?_) (fun c1 => ?_)
    · skip
      simp only [Bool.and_eq_true, decide_eq_true_eq] at c1
      obtain ⟨x, hx⟩ : ∃ x : Nat, col = x := ⟨col.toNat, by omega⟩
      have hxc : x < cols := by omega
      refine ACode.region' [0, 1, 2, 3, 4, 5] (by kernel_rfl) rfl ?_
      refine aOps_1 rfl rfl rfl (AOp.move' (.inl rfl) rfl ?_)
      refine aOps_1 rfl rfl rfl (AOp.fieldAddr' rfl (by decide) rfl ?_)
      refine aOps_1 rfl rfl rfl ?_
      refine AOp.load1 (b := ?b9) (v := ?v9) rfl rfl ?hn9 ?hv9 ?hR9
      (case hn9 => repeat (first | assumption | exact upd_same _ _ _ | refine (upd_other _ _ (by omega)).trans ?_))
      (case hv9 => rfl)
      refine aOps_1 rfl rfl rfl (AOp.indexP (i := x) (p := .slice (some ⟨k + 1, 0, none⟩) cols cols) (q := ptr (k + 1) (0 + x * 3) none) (if_pos (show x < cols by omega)) rfl rfl (show some (Value.int .i64 col) = some (Value.int .i64 (x : Int)) by rw [hx]) ?_)
      refine aOps_1 rfl rfl rfl (AOp.fieldAddr' rfl (by decide) rfl ?_)
      refine aOps_0 rfl rfl rfl (AOp.store1 (b := colBlk (List.replicate cols cD)) rfl rfl rfl (by repeat (first | assumption | exact upd_same _ _ _ | refine (upd_other _ _ (by omega)).trans ?_)) rfl rfl rfl (by show _ < (cols3 _).length; rw [cols3_len, List.length_replicate]; omega) ?_)
      rw [col_put hxc, ← hx]
      refine aOps_end ?_
      show ACode _ _ _ _ _ _
      refine ACode.seq ?_
      refine ACode.seq ?_
      refine ACode.region' [0, 1, 2, 3] (by kernel_rfl) rfl ?_
      refine aOps_1 rfl rfl rfl (AOp.fieldAddr' rfl (by decide) rfl ?_)
      refine aOps_1 rfl rfl rfl ?_
      refine AOp.load1 (b := ?b10) (v := ?v10) rfl rfl ?hn10 ?hv10 ?hR10
      (case hn10 => repeat (first | assumption | exact upd_same _ _ _ | refine (upd_other _ _ (by omega)).trans ?_))
      (case hv10 => rfl)
      refine aOps_1 rfl rfl rfl (AOp.len' rfl rfl ?_)
      refine aOps_1 rfl rfl rfl (AOp.move' (.inl rfl) rfl ?_)
      refine aOps_end ?_
      show ACode _ _ _ _ _ _
      refine ACode.block ?_
      refine ACode.count (fun i => [(38, .int .i64 (i : Int))]) [(2, _), (4, _), (5, _), (6, _), (37, _)] (fun i => upd (upd (upd (upd H k (some (pbk op col A vals.length c B of.length d))) (k + 1) (some (colBlk (colsK cols col)))) q2 (some (fixV (vfill vals i)))) (k + 2) (some (pbk op col (some ⟨q2, 0, some 0⟩) vals.length vals.length B of.length d))) (vals.length) (fun _ => True) (.cons rfl .nil) (.cons rfl (.cons rfl (.cons rfl (.cons rfl (.cons rfl .nil))))) (by show Ab.Sub (upd (upd _ _ (some (fixV vals))) _ _) _; (repeat (first | exact sub_refl _ | assumption | refine sub_upd' ?_ (by ((repeat refine (upd_other _ _ (by omega)).trans ?_); first | exact hf _ (by omega))) | refine sub_over (by assumption) | refine sub_over0 ?_ | refine sub_trans (sub_same (by assumption)) ?_ | refine sub_dropu ?_ | refine sub_drop ?_ | refine sub_put ?_ (by repeat (first | assumption | exact upd_same _ _ _ | refine (upd_other _ _ (by omega)).trans ?_))))) trivial (fun i0 kL0 HL0 hiL0 hkL0 hsL0 hfL0 hxL0 => ?_)
      show ACode _ _ _ _ _ ⟨_, _, _⟩
      refine ACode.seq ?_
      refine ACode.region' [0] (by kernel_rfl) rfl ?_
      refine aOps_1 rfl rfl rfl (AOp.bin' rfl rfl rfl rfl ?_)
      refine aOps_end ?_
      show ACode _ _ _ _ _ _
      refine ACode.seq ?_
      refine ACode.cond rfl (fun c2 => ?_) (fun c2 => ?_)
      · try simp only [decide_eq_true_eq, decide_eq_false_iff_not, beq_iff_eq, beq_eq_false_iff_ne, ne_eq, bne_iff_ne, Bool.not_eq_true', Bool.not_eq_false', Int.not_lt, Int.not_le, gt_iff_lt, ge_iff_le, bne_eq_false_iff_eq, Bool.not_eq_eq_eq_not, Bool.not_true, Bool.not_false] at c2
        refine ACode.skip ?_
        show ACode _ _ _ _ _ _
        refine ACode.seq ?_
        refine ACode.block ?_
        refine ACode.seq ?_
        refine ACode.region' [0, 1] (by kernel_rfl) rfl ?_
        refine aOps_1 rfl rfl rfl (AOp.move' (.inl rfl) rfl ?_)
        refine aOps_1 rfl rfl rfl (AOp.move' (.inr rfl) rfl ?_)
        refine aOps_end ?_
        show ACode _ _ _ _ _ _
        refine ACode.region' [0, 1, 2, 3, 4, 5] (by kernel_rfl) rfl ?_
        refine aOps_1 rfl rfl rfl (AOp.fieldAddr' rfl (by decide) rfl ?_)
        refine aOps_1 rfl rfl rfl ?_
        refine AOp.load1 (b := ?b11) (v := ?v11) rfl rfl ?hn11 ?hv11 ?hR11
        (case hn11 => repeat (first | assumption | exact upd_same _ _ _ | refine (upd_other _ _ (by omega)).trans ?_ | refine hsL0 _ _ ?_))
        (case hv11 => rfl)
        refine aOps_1 rfl rfl rfl (AOp.move' (.inl rfl) rfl ?_)
        refine aOps_1 rfl rfl rfl (AOp.buildS (cells := (vv v1).cells) rfl rfl rfl ?_)
        refine aOps_1 rfl rfl rfl (AOp.indexP (i := i0) (p := .slice (some ⟨q2, 0, some 0⟩) vals.length vals.length) (q := ptr q2 (0 + i0 * 3) none) (if_pos (show i0 < vals.length by omega)) rfl rfl rfl ?_)
        refine aOps_0 rfl rfl rfl (AOp.storeN (z := 3) (cs := (vv v1).cells) (b := fixV (vfill vals i0)) rfl rfl rfl (by repeat (first | assumption | exact upd_same _ _ _ | refine (upd_other _ _ (by omega)).trans ?_ | refine hsL0 _ _ ?_)) rfl rfl (vv_one _) (by show _ ≤ (vals3 _).length; rw [vals3_len, vfill_len (by omega)]; omega) ?_)
        rw [vfill_put (by omega)]
        refine aOps_end ?_
        show ACode _ _ _ _ _ _
        refine ACode.region' [0, 1] (by kernel_rfl) rfl ?_
        refine aOps_1 rfl rfl rfl (AOp.add rfl rfl rfl (i64_wrap (by omega) (by omega)) ?_)
        refine aOps_1 rfl rfl rfl (AOp.move' (.inl rfl) rfl ?_)
        refine aOps_end ?_
        first | refine thenA_n ?_ | simp only [thenA, blockA, if_true]
        exact NextR.mk (by omega) (by omega) (.cons rfl .nil) (.cons rfl (.cons rfl (.cons rfl (.cons rfl (.cons rfl .nil))))) (by (repeat (first | exact sub_refl _ | assumption | refine sub_upd' ?_ (by ((repeat refine (upd_other _ _ (by omega)).trans ?_); first | exact hf _ (by omega) | exact hfL0 _ (by omega))) | refine sub_trans ?_ hsL0 | refine sub_over (by assumption) | refine sub_over0 ?_ | refine sub_trans (sub_same (by assumption)) ?_ | refine sub_dropu ?_ | refine sub_drop ?_ | refine sub_put ?_ (by repeat (first | assumption | exact upd_same _ _ _ | refine (upd_other _ _ (by omega)).trans ?_ | refine hsL0 _ _ ?_))))) trivial
      · try simp only [decide_eq_true_eq, decide_eq_false_iff_not, beq_iff_eq, beq_eq_false_iff_ne, ne_eq, bne_iff_ne, Bool.not_eq_true', Bool.not_eq_false', Int.not_lt, Int.not_le, gt_iff_lt, ge_iff_le, bne_eq_false_iff_eq, Bool.not_eq_eq_eq_not, Bool.not_true, Bool.not_false] at c2
        refine ACode.exit ?_
        show ACode _ _ _ _ _ _
        refine ACode.seq ?_
        have hve := vfill_end (vals := vals) (i := i0) (by omega)
        have hq9 : HL0 q2 = some (fixV (List.replicate vals.length v1)) := by { rw [← hve]; exact hsL0 _ _ ((upd_other _ _ (by omega)).trans (upd_same _ _ _)) }
        refine ACode.region' [0, 1, 2, 3, 4, 5] (by kernel_rfl) rfl ?_
        refine aOps_1 rfl rfl rfl (AOp.fieldAddr' rfl (by decide) rfl ?_)
        refine aOps_1 rfl rfl rfl ?_
        refine AOp.load1 (b := ?b12) (v := ?v12) rfl rfl ?hn12 ?hv12 ?hR12
        (case hn12 => repeat (first | assumption | exact upd_same _ _ _ | refine (upd_other _ _ (by omega)).trans ?_ | refine hsL0 _ _ ?_))
        (case hv12 => rfl)
        refine aOps_1 rfl rfl rfl (AOp.len' rfl rfl ?_)
        refine aOps_1 rfl rfl rfl (AOp.makeSl (n := of.length) rfl rfl rfl (by omega) (by omega) ?_)
        rw [made_preds]
        refine aOps_1 rfl rfl rfl (AOp.fieldAddr' rfl (by decide) rfl ?_)
        refine aOps_0 rfl rfl rfl ?_
        refine AOp.store1 (b := ?b13) rfl rfl rfl ?hn13 ?hk13 rfl rfl ?hl13 ?hR13
        (case hn13 => repeat (first | assumption | exact upd_same _ _ _ | refine (upd_other _ _ (by omega)).trans ?_ | refine hsL0 _ _ ?_))
        (case hk13 => rfl)
        (case hl13 => first | (simp; done) | exact Nat.le_of_ble_eq_true rfl)
        refine aOps_end ?_
        show ACode _ _ _ _ _ _
        refine ACode.seq ?_
        refine ACode.region' [0, 1, 2, 3, 4] (by kernel_rfl) rfl ?_
        refine aOps_1 rfl rfl rfl (AOp.move' (.inl rfl) rfl ?_)
        refine aOps_1 rfl rfl rfl ?_
        refine AOp.loadAll (b := ?b14) (v := pv op col (some ⟨q2, 0, some 0⟩) vals.length vals.length (some ⟨kL0, 0, none⟩) of.length of.length) rfl rfl ?hn14 ?hv14 ?hw14 ?hz14 ?hR14
        (case hn14 => repeat (first | assumption | exact upd_same _ _ _ | refine (upd_other _ _ (by omega)).trans ?_ | refine hsL0 _ _ ?_))
        (case hv14 => rfl)
        (case hw14 => rfl)
        (case hz14 => first | rfl | (simp; done))
        refine aOps_q rfl rfl rfl (AOp.call' rfl rfl rfl (Check_n _ _ (by repeat (first | assumption | exact upd_same _ _ _ | refine (upd_other _ _ (by omega)).trans ?_ | refine hsL0 _ _ ?_)) (.mk op col (List.replicate vals.length v1) (List.replicate of.length pD)) _ (PdV.introN List.length_replicate List.length_replicate (slcCells_loose (n := q2) (b := fixV (List.replicate vals.length v1)) (by repeat (first | assumption | exact upd_same _ _ _ | refine (upd_other _ _ (by omega)).trans ?_ | refine hsL0 _ _ ?_)) (by show _ = (vals3 _).length; rw [vals3_len, List.length_replicate])) (by omega) (by omega) hop hcl rep_ok (SLC.fix (by repeat (first | assumption | exact upd_same _ _ _ | refine (upd_other _ _ (by omega)).trans ?_ | refine hsL0 _ _ ?_)) (by show _ = (List.flatten _).length; rw [pz_len])) (PdVs_rep _)) (colsK cols col) (some ⟨k + 1, 0, none⟩) cols cols (colsK_len _ _) (SLC.fix (b := colBlk (colsK cols col)) (by repeat (first | assumption | exact upd_same _ _ _ | refine (upd_other _ _ (by omega)).trans ?_ | refine hsL0 _ _ ?_)) (by show _ = (cols3 _).length; rw [cols3_len, colsK_len])).cells (by omega)) (fun _ _ _ h => h)) (fun kq hkq => ?_)
        refine aOps_1 rfl rfl rfl (AOp.bin' rfl rfl rfl rfl ?_)
        refine aOps_1 rfl rfl rfl (AOp.move' (.inr rfl) rfl ?_)
        refine aOps_end ?_
        show ACode _ _ _ _ _ _
        refine ACode.ret ?_
        exact RetQ.one rfl rfl (by (repeat (first | exact sub_refl _ | assumption | refine sub_upd' ?_ (by ((repeat refine (upd_other _ _ (by omega)).trans ?_); first | exact hf _ (by omega) | exact hfL0 _ (by omega))) | refine sub_trans ?_ hsL0 | refine sub_over (by assumption) | refine sub_over0 ?_ | refine sub_trans (sub_same (by assumption)) ?_ | refine sub_dropu ?_ | refine sub_drop ?_ | refine sub_put ?_ (by repeat (first | assumption | exact upd_same _ _ _ | refine (upd_other _ _ (by omega)).trans ?_ | refine hsL0 _ _ ?_))))) stays (fun hk => ⟨(by rw [← check_may]; rfl), rfl, by omega⟩)
    · skip
      have hk0 : colsK cols col = List.replicate cols cD := by { rw [colsK, if_neg]; intro h; rw [decide_eq_true h.1, decide_eq_true h.2] at c1; cases c1 }
      rw [← hk0]
      refine ACode.skip ?_
      show ACode _ _ _ _ _ _
      refine ACode.seq ?_
      refine ACode.seq ?_
      refine ACode.region' [0, 1, 2, 3] (by kernel_rfl) rfl ?_
      refine aOps_1 rfl rfl rfl (AOp.fieldAddr' rfl (by decide) rfl ?_)
      refine aOps_1 rfl rfl rfl ?_
      refine AOp.load1 (b := ?b15) (v := ?v15) rfl rfl ?hn15 ?hv15 ?hR15
      (case hn15 => repeat (first | assumption | exact upd_same _ _ _ | refine (upd_other _ _ (by omega)).trans ?_))
      (case hv15 => rfl)
      refine aOps_1 rfl rfl rfl (AOp.len' rfl rfl ?_)
      refine aOps_1 rfl rfl rfl (AOp.move' (.inl rfl) rfl ?_)
      refine aOps_end ?_
      show ACode _ _ _ _ _ _
      refine ACode.block ?_
      refine ACode.count (fun i => [(38, .int .i64 (i : Int))]) [(2, _), (4, _), (5, _), (6, _), (37, _)] (fun i => upd (upd (upd (upd H k (some (pbk op col A vals.length c B of.length d))) (k + 1) (some (colBlk (colsK cols col)))) q2 (some (fixV (vfill vals i)))) (k + 2) (some (pbk op col (some ⟨q2, 0, some 0⟩) vals.length vals.length B of.length d))) (vals.length) (fun _ => True) (.cons rfl .nil) (.cons rfl (.cons rfl (.cons rfl (.cons rfl (.cons rfl .nil))))) (by show Ab.Sub (upd (upd _ _ (some (fixV vals))) _ _) _; (repeat (first | exact sub_refl _ | assumption | refine sub_upd' ?_ (by ((repeat refine (upd_other _ _ (by omega)).trans ?_); first | exact hf _ (by omega))) | refine sub_over (by assumption) | refine sub_over0 ?_ | refine sub_trans (sub_same (by assumption)) ?_ | refine sub_dropu ?_ | refine sub_drop ?_ | refine sub_put ?_ (by repeat (first | assumption | exact upd_same _ _ _ | refine (upd_other _ _ (by omega)).trans ?_))))) trivial (fun i0 kL0 HL0 hiL0 hkL0 hsL0 hfL0 hxL0 => ?_)
      show ACode _ _ _ _ _ ⟨_, _, _⟩
      refine ACode.seq ?_
      refine ACode.region' [0] (by kernel_rfl) rfl ?_
      refine aOps_1 rfl rfl rfl (AOp.bin' rfl rfl rfl rfl ?_)
      refine aOps_end ?_
      show ACode _ _ _ _ _ _
      refine ACode.seq ?_
      refine ACode.cond rfl (fun c2 => ?_) (fun c2 => ?_)
      · try simp only [decide_eq_true_eq, decide_eq_false_iff_not, beq_iff_eq, beq_eq_false_iff_ne, ne_eq, bne_iff_ne, Bool.not_eq_true', Bool.not_eq_false', Int.not_lt, Int.not_le, gt_iff_lt, ge_iff_le, bne_eq_false_iff_eq, Bool.not_eq_eq_eq_not, Bool.not_true, Bool.not_false] at c2
        refine ACode.skip ?_
        show ACode _ _ _ _ _ _
        refine ACode.seq ?_
        refine ACode.block ?_
        refine ACode.seq ?_
        refine ACode.region' [0, 1] (by kernel_rfl) rfl ?_
        refine aOps_1 rfl rfl rfl (AOp.move' (.inl rfl) rfl ?_)
        refine aOps_1 rfl rfl rfl (AOp.move' (.inr rfl) rfl ?_)
        refine aOps_end ?_
        show ACode _ _ _ _ _ _
        refine ACode.region' [0, 1, 2, 3, 4, 5] (by kernel_rfl) rfl ?_
        refine aOps_1 rfl rfl rfl (AOp.fieldAddr' rfl (by decide) rfl ?_)
        refine aOps_1 rfl rfl rfl ?_
        refine AOp.load1 (b := ?b16) (v := ?v16) rfl rfl ?hn16 ?hv16 ?hR16
        (case hn16 => repeat (first | assumption | exact upd_same _ _ _ | refine (upd_other _ _ (by omega)).trans ?_ | refine hsL0 _ _ ?_))
        (case hv16 => rfl)
        refine aOps_1 rfl rfl rfl (AOp.move' (.inl rfl) rfl ?_)
        refine aOps_1 rfl rfl rfl (AOp.buildS (cells := (vv v1).cells) rfl rfl rfl ?_)
        refine aOps_1 rfl rfl rfl (AOp.indexP (i := i0) (p := .slice (some ⟨q2, 0, some 0⟩) vals.length vals.length) (q := ptr q2 (0 + i0 * 3) none) (if_pos (show i0 < vals.length by omega)) rfl rfl rfl ?_)
        refine aOps_0 rfl rfl rfl (AOp.storeN (z := 3) (cs := (vv v1).cells) (b := fixV (vfill vals i0)) rfl rfl rfl (by repeat (first | assumption | exact upd_same _ _ _ | refine (upd_other _ _ (by omega)).trans ?_ | refine hsL0 _ _ ?_)) rfl rfl (vv_one _) (by show _ ≤ (vals3 _).length; rw [vals3_len, vfill_len (by omega)]; omega) ?_)
        rw [vfill_put (by omega)]
        refine aOps_end ?_
        show ACode _ _ _ _ _ _
        refine ACode.region' [0, 1] (by kernel_rfl) rfl ?_
        refine aOps_1 rfl rfl rfl (AOp.add rfl rfl rfl (i64_wrap (by omega) (by omega)) ?_)
        refine aOps_1 rfl rfl rfl (AOp.move' (.inl rfl) rfl ?_)
        refine aOps_end ?_
        first | refine thenA_n ?_ | simp only [thenA, blockA, if_true]
        exact NextR.mk (by omega) (by omega) (.cons rfl .nil) (.cons rfl (.cons rfl (.cons rfl (.cons rfl (.cons rfl .nil))))) (by (repeat (first | exact sub_refl _ | assumption | refine sub_upd' ?_ (by ((repeat refine (upd_other _ _ (by omega)).trans ?_); first | exact hf _ (by omega) | exact hfL0 _ (by omega))) | refine sub_trans ?_ hsL0 | refine sub_over (by assumption) | refine sub_over0 ?_ | refine sub_trans (sub_same (by assumption)) ?_ | refine sub_dropu ?_ | refine sub_drop ?_ | refine sub_put ?_ (by repeat (first | assumption | exact upd_same _ _ _ | refine (upd_other _ _ (by omega)).trans ?_ | refine hsL0 _ _ ?_))))) trivial
      · try simp only [decide_eq_true_eq, decide_eq_false_iff_not, beq_iff_eq, beq_eq_false_iff_ne, ne_eq, bne_iff_ne, Bool.not_eq_true', Bool.not_eq_false', Int.not_lt, Int.not_le, gt_iff_lt, ge_iff_le, bne_eq_false_iff_eq, Bool.not_eq_eq_eq_not, Bool.not_true, Bool.not_false] at c2
        refine ACode.exit ?_
        show ACode _ _ _ _ _ _
        refine ACode.seq ?_
        have hve := vfill_end (vals := vals) (i := i0) (by omega)
        have hq9 : HL0 q2 = some (fixV (List.replicate vals.length v1)) := by { rw [← hve]; exact hsL0 _ _ ((upd_other _ _ (by omega)).trans (upd_same _ _ _)) }
        refine ACode.region' [0, 1, 2, 3, 4, 5] (by kernel_rfl) rfl ?_
        refine aOps_1 rfl rfl rfl (AOp.fieldAddr' rfl (by decide) rfl ?_)
        refine aOps_1 rfl rfl rfl ?_
        refine AOp.load1 (b := ?b17) (v := ?v17) rfl rfl ?hn17 ?hv17 ?hR17
        (case hn17 => repeat (first | assumption | exact upd_same _ _ _ | refine (upd_other _ _ (by omega)).trans ?_ | refine hsL0 _ _ ?_))
        (case hv17 => rfl)
        refine aOps_1 rfl rfl rfl (AOp.len' rfl rfl ?_)
        refine aOps_1 rfl rfl rfl (AOp.makeSl (n := of.length) rfl rfl rfl (by omega) (by omega) ?_)
        rw [made_preds]
        refine aOps_1 rfl rfl rfl (AOp.fieldAddr' rfl (by decide) rfl ?_)
        refine aOps_0 rfl rfl rfl ?_
        refine AOp.store1 (b := ?b18) rfl rfl rfl ?hn18 ?hk18 rfl rfl ?hl18 ?hR18
        (case hn18 => repeat (first | assumption | exact upd_same _ _ _ | refine (upd_other _ _ (by omega)).trans ?_ | refine hsL0 _ _ ?_))
        (case hk18 => rfl)
        (case hl18 => first | (simp; done) | exact Nat.le_of_ble_eq_true rfl)
        refine aOps_end ?_
        show ACode _ _ _ _ _ _
        refine ACode.seq ?_
        refine ACode.region' [0, 1, 2, 3, 4] (by kernel_rfl) rfl ?_
        refine aOps_1 rfl rfl rfl (AOp.move' (.inl rfl) rfl ?_)
        refine aOps_1 rfl rfl rfl ?_
        refine AOp.loadAll (b := ?b19) (v := pv op col (some ⟨q2, 0, some 0⟩) vals.length vals.length (some ⟨kL0, 0, none⟩) of.length of.length) rfl rfl ?hn19 ?hv19 ?hw19 ?hz19 ?hR19
        (case hn19 => repeat (first | assumption | exact upd_same _ _ _ | refine (upd_other _ _ (by omega)).trans ?_ | refine hsL0 _ _ ?_))
        (case hv19 => rfl)
        (case hw19 => rfl)
        (case hz19 => first | rfl | (simp; done))
        refine aOps_q rfl rfl rfl (AOp.call' rfl rfl rfl (Check_n _ _ (by repeat (first | assumption | exact upd_same _ _ _ | refine (upd_other _ _ (by omega)).trans ?_ | refine hsL0 _ _ ?_)) (.mk op col (List.replicate vals.length v1) (List.replicate of.length pD)) _ (PdV.introN List.length_replicate List.length_replicate (slcCells_loose (n := q2) (b := fixV (List.replicate vals.length v1)) (by repeat (first | assumption | exact upd_same _ _ _ | refine (upd_other _ _ (by omega)).trans ?_ | refine hsL0 _ _ ?_)) (by show _ = (vals3 _).length; rw [vals3_len, List.length_replicate])) (by omega) (by omega) hop hcl rep_ok (SLC.fix (by repeat (first | assumption | exact upd_same _ _ _ | refine (upd_other _ _ (by omega)).trans ?_ | refine hsL0 _ _ ?_)) (by show _ = (List.flatten _).length; rw [pz_len])) (PdVs_rep _)) (colsK cols col) (some ⟨k + 1, 0, none⟩) cols cols (colsK_len _ _) (SLC.fix (b := colBlk (colsK cols col)) (by repeat (first | assumption | exact upd_same _ _ _ | refine (upd_other _ _ (by omega)).trans ?_ | refine hsL0 _ _ ?_)) (by show _ = (cols3 _).length; rw [cols3_len, colsK_len])).cells (by omega)) (fun _ _ _ h => h)) (fun kq hkq => ?_)
        refine aOps_1 rfl rfl rfl (AOp.bin' rfl rfl rfl rfl ?_)
        refine aOps_1 rfl rfl rfl (AOp.move' (.inr rfl) rfl ?_)
        refine aOps_end ?_
        show ACode _ _ _ _ _ _
        refine ACode.ret ?_
        exact RetQ.one rfl rfl (by (repeat (first | exact sub_refl _ | assumption | refine sub_upd' ?_ (by ((repeat refine (upd_other _ _ (by omega)).trans ?_); first | exact hf _ (by omega) | exact hfL0 _ (by omega))) | refine sub_trans ?_ hsL0 | refine sub_over (by assumption) | refine sub_over0 ?_ | refine sub_trans (sub_same (by assumption)) ?_ | refine sub_dropu ?_ | refine sub_drop ?_ | refine sub_put ?_ (by repeat (first | assumption | exact upd_same _ _ _ | refine (upd_other _ _ (by omega)).trans ?_ | refine hsL0 _ _ ?_))))) stays (fun hk => ⟨(by rw [← check_may]; rfl), rfl, by omega⟩)

theorem formed0_b (ht : H 0 = some shBlk) (op col : Int) (hop : -9223372036854775808 ≤ op ∧ op ≤ 9223372036854775807) (hcl : -9223372036854775808 ≤ col ∧ col ≤ 9223372036854775807) (A : Option Addr) (c : Nat) (hA : slcCells H 3 (.slice A 0 c) = some (vals3 [])) (B : Option Addr) (d : Nat) (of : List Pd) (bs : List Value) (hm : of.length ≤ 1000) (hB : SLC H 4 B of.length d bs) (hPs : PdVs H of bs) (cols : Nat) (hcs : cols ≤ 1000) : ACalls Tryd.prog 3 89 [pv op col A 0 c B of.length d, .int .i64 (cols : Int)] H k (Same H k (.bool (mayOk op col 0 of.length cols))) := by
  refine ACalls.fresh fun hf => ?_
  refine ACalls.body Tryd.func89 rfl (Nat.le_of_ble_eq_true rfl) ?_
  have h0k := old_lt hf ht
  refine ACode.seq ?_
  refine ACode.region' [0, 1] (by kernel_rfl) rfl ?_
  refine aOps_1 rfl rfl rfl (AOp.boxV rfl rfl ?_)
  refine aOps_1 rfl rfl rfl (AOp.move' (.inr rfl) rfl ?_)
  refine aOps_end ?_
  show ACode _ _ _ _ _ _
  refine ACode.seq ?_
  refine ACode.region' [0, 1, 2] (by kernel_rfl) rfl ?_
  refine aOps_1 rfl rfl rfl (AOp.move' (.inl rfl) rfl ?_)
  refine aOps_1 rfl rfl rfl (AOp.makeSl (n := cols) rfl rfl rfl (by omega) (by omega) ?_)
  rw [made_cols]
  refine aOps_1 rfl rfl rfl (AOp.move' (.inr rfl) rfl ?_)
  refine aOps_end ?_
  show ACode _ _ _ _ _ _
  refine ACode.seq ?_
  refine ACode.region' [0, 1, 2] (by kernel_rfl) rfl ?_
  refine aOps_1 rfl rfl rfl ?_
  refine AOp.loadAll (b := ?b20) (v := pv op col A 0 c B of.length d) rfl rfl ?hn20 ?hv20 ?hw20 ?hz20 ?hR20
  (case hn20 => repeat (first | assumption | exact upd_same _ _ _ | refine (upd_other _ _ (by omega)).trans ?_))
  (case hv20 => rfl)
  (case hw20 => rfl)
  (case hz20 => first | rfl | (simp; done))
  refine aOps_1 rfl rfl rfl (AOp.alloc' rfl ?_)
  refine aOps_0 rfl rfl rfl ?_
  refine AOp.storeAll (b := ?b21) rfl rfl rfl ?hn21 ?hk21 rfl ?hw21 ?ho21 ?hl21 ?hR21
  (case hn21 => repeat (first | assumption | exact upd_same _ _ _ | refine (upd_other _ _ (by omega)).trans ?_))
  (case hk21 => rfl)
  (case hw21 => first | rfl | (simp; done))
  (case ho21 => first | rfl | decide | (simp; done))
  (case hl21 => first | rfl | (simp; done))
  refine aOps_end ?_
  show ACode _ _ _ _ _ _
  refine ACode.seq ?_
  refine ACode.region' [0, 1, 2, 3, 4] (by kernel_rfl) rfl ?_
  refine aOps_1 rfl rfl rfl (AOp.fieldAddr' rfl (by decide) rfl ?_)
  refine aOps_1 rfl rfl rfl ?_
  refine AOp.load1 (b := ?b22) (v := ?v22) rfl rfl ?hn22 ?hv22 ?hR22
  (case hn22 => repeat (first | assumption | exact upd_same _ _ _ | refine (upd_other _ _ (by omega)).trans ?_))
  (case hv22 => rfl)
  refine aOps_1 rfl rfl rfl ?_
  refine AOp.call' rfl rfl rfl (clone0_b _ _ A c (slcCells_sub (by (repeat (first | exact sub_refl _ | assumption | refine sub_upd' ?_ (by ((repeat refine (upd_other _ _ (by omega)).trans ?_); first | exact hf _ (by omega))) | refine sub_over (by assumption) | refine sub_over0 ?_ | refine sub_trans (sub_same (by assumption)) ?_ | refine sub_dropu ?_ | refine sub_drop ?_ | refine sub_put ?_ (by repeat (first | assumption | exact upd_same _ _ _ | refine (upd_other _ _ (by omega)).trans ?_))))) hA)) ?_
  rintro _ _ kr ⟨A2, c2x, rfl, hA2, rfl, hkr⟩
  refine aOps_1 rfl rfl rfl (AOp.fieldAddr' rfl (by decide) rfl ?_)
  refine aOps_0 rfl rfl rfl ?_
  refine AOp.store1 (b := ?b23) rfl rfl rfl ?hn23 ?hk23 rfl rfl ?hl23 ?hR23
  (case hn23 => repeat (first | assumption | exact upd_same _ _ _ | refine (upd_other _ _ (by omega)).trans ?_))
  (case hk23 => rfl)
  (case hl23 => first | (simp; done) | exact Nat.le_of_ble_eq_true rfl)
  refine aOps_end ?_
  show ACode _ _ _ _ _ _
  refine ACode.seq ?_
  refine ACode.seq ?_
  refine ACode.region' [0, 1, 2] (by kernel_rfl) rfl ?_
  refine aOps_1 rfl rfl rfl (AOp.fieldAddr' rfl (by decide) rfl ?_)
  refine aOps_1 rfl rfl rfl ?_
  refine AOp.load1 (b := ?b24) (v := ?v24) rfl rfl ?hn24 ?hv24 ?hR24
  (case hn24 => repeat (first | assumption | exact upd_same _ _ _ | refine (upd_other _ _ (by omega)).trans ?_))
  (case hv24 => rfl)
  refine aOps_1 rfl rfl rfl (AOp.bin' rfl rfl rfl rfl ?_)
  refine aOps_end ?_
  show ACode _ _ _ _ _ _
  refine ACode.cond rfl (fun c0 => ?_) (fun c0 => ?_)
  · try simp only [decide_eq_true_eq, decide_eq_false_iff_not, beq_iff_eq, beq_eq_false_iff_ne, ne_eq, bne_iff_ne, Bool.not_eq_true', Bool.not_eq_false', Int.not_lt, Int.not_le, gt_iff_lt, ge_iff_le, bne_eq_false_iff_eq, Bool.not_eq_eq_eq_not, Bool.not_true, Bool.not_false] at c0
    refine ACode.seq ?_
    refine ACode.region' [0, 1, 2, 3] (by kernel_rfl) rfl ?_
    refine aOps_1 rfl rfl rfl ?_
    refine AOp.loadAll (b := ?b25) (v := pv op col (A2) 0 c2x B of.length d) rfl rfl ?hn25 ?hv25 ?hw25 ?hz25 ?hR25
    (case hn25 => repeat (first | assumption | exact upd_same _ _ _ | refine (upd_other _ _ (by omega)).trans ?_))
    (case hv25 => rfl)
    (case hw25 => rfl)
    (case hz25 => first | rfl | (simp; done))
    refine aOps_q rfl rfl rfl (AOp.call' rfl rfl rfl (Check_n _ _ (by repeat (first | assumption | exact upd_same _ _ _ | refine (upd_other _ _ (by omega)).trans ?_)) (.mk op col [] of) _ (PdV.introN rfl rfl (hA2 _) (by first | omega | decide) (by omega) hop hcl (fun v hv => by cases hv) (hB.sub (by (repeat (first | exact sub_refl _ | assumption | refine sub_upd' ?_ (by ((repeat refine (upd_other _ _ (by omega)).trans ?_); first | exact hf _ (by omega))) | refine sub_over (by assumption) | refine sub_over0 ?_ | refine sub_trans (sub_same (by assumption)) ?_ | refine sub_dropu ?_ | refine sub_drop ?_ | refine sub_put ?_ (by repeat (first | assumption | exact upd_same _ _ _ | refine (upd_other _ _ (by omega)).trans ?_)))))) (hPs.sub (by (repeat (first | exact sub_refl _ | assumption | refine sub_upd' ?_ (by ((repeat refine (upd_other _ _ (by omega)).trans ?_); first | exact hf _ (by omega))) | refine sub_over (by assumption) | refine sub_over0 ?_ | refine sub_trans (sub_same (by assumption)) ?_ | refine sub_dropu ?_ | refine sub_drop ?_ | refine sub_put ?_ (by repeat (first | assumption | exact upd_same _ _ _ | refine (upd_other _ _ (by omega)).trans ?_))))))) [] none 0 0 rfl rfl (by decide)) (fun _ _ _ h => h)) (fun kq hkq => ?_)
    refine aOps_1 rfl rfl rfl (AOp.bin' rfl rfl rfl rfl ?_)
    refine aOps_1 rfl rfl rfl (AOp.move' (.inr rfl) rfl ?_)
    refine aOps_end ?_
    show ACode _ _ _ _ _ _
    refine ACode.ret ?_
    exact RetQ.one rfl rfl (by (repeat (first | exact sub_refl _ | assumption | refine sub_upd' ?_ (by ((repeat refine (upd_other _ _ (by omega)).trans ?_); first | exact hf _ (by omega))) | refine sub_over (by assumption) | refine sub_over0 ?_ | refine sub_trans (sub_same (by assumption)) ?_ | refine sub_dropu ?_ | refine sub_drop ?_ | refine sub_put ?_ (by repeat (first | assumption | exact upd_same _ _ _ | refine (upd_other _ _ (by omega)).trans ?_))))) stays (fun hk => ⟨(by rw [c0]; exact congrArg Value.bool (check_may0 (vals := []) (of := of) (col := col) (cols := cols))), rfl, by omega⟩)
  · try simp only [decide_eq_true_eq, decide_eq_false_iff_not, beq_iff_eq, beq_eq_false_iff_ne, ne_eq, bne_iff_ne, Bool.not_eq_true', Bool.not_eq_false', Int.not_lt, Int.not_le, gt_iff_lt, ge_iff_le, bne_eq_false_iff_eq, Bool.not_eq_eq_eq_not, Bool.not_true, Bool.not_false] at c0
    refine ACode.skip ?_
    show ACode _ _ _ _ _ _
    refine ACode.seq ?_
    refine ACode.seq ?_
    refine ACode.region' [0, 1, 2, 3, 4, 5, 6, 7, 8] (by kernel_rfl) rfl ?_
    refine aOps_1 rfl rfl rfl (AOp.fieldAddr' rfl (by decide) rfl ?_)
    refine aOps_1 rfl rfl rfl ?_
    refine AOp.load1 (b := ?b26) (v := ?v26) rfl rfl ?hn26 ?hv26 ?hR26
    (case hn26 => repeat (first | assumption | exact upd_same _ _ _ | refine (upd_other _ _ (by omega)).trans ?_))
    (case hv26 => rfl)
    refine aOps_1 rfl rfl rfl (AOp.bin' rfl rfl rfl rfl ?_)
    refine aOps_1 rfl rfl rfl (AOp.move' (.inl rfl) rfl ?_)
    refine aOps_gd0 rfl rfl (wantT rfl rfl rfl) (fun hc => AOp.slots [(6, _)] (.cons rfl .nil) (AOp.fieldAddr' rfl (by decide) rfl ⟨rfl, rfl, rfl⟩)) ?_
    refine aOps_gd0 rfl rfl (wantT rfl rfl rfl) (fun hc => AOp.slots [(25, _)] (.cons (gvT rfl hc) .nil) ((by refine AOp.load1 (b := ?b27) (v := ?v27) rfl rfl ?hn27 ?hv27 ?hR27; (case hn27 => repeat (first | assumption | exact upd_same _ _ _ | refine (upd_other _ _ (by omega)).trans ?_)); (case hv27 => rfl); exact ⟨rfl, rfl, rfl⟩))) ?_
    refine aOps_gd0 rfl rfl (wantT rfl rfl rfl) (fun hc => AOp.slots [(1, _)] (.cons rfl .nil) (AOp.move' (.inl rfl) rfl ⟨rfl, rfl, rfl⟩)) ?_
    refine aOps_gd0 rfl rfl (wantT rfl rfl rfl) (fun hc => AOp.slots [(26, _), (27, _)] (.cons (gvT rfl hc) (.cons (gvT rfl hc) .nil)) (AOp.bin' rfl rfl rfl rfl ⟨rfl, rfl, rfl⟩)) ?_
    refine aOps_1 rfl rfl rfl (AOp.pickAnd rfl rfl rfl (fun hb => gvE rfl hb) ?_)
    refine aOps_end ?_
    show ACode _ _ _ _ _ _
    refine ACode.cond rfl (fun c1 => ?_) (fun c1 => ?_)
    · skip
      simp only [Bool.and_eq_true, decide_eq_true_eq] at c1
      obtain ⟨x, hx⟩ : ∃ x : Nat, col = x := ⟨col.toNat, by omega⟩
      have hxc : x < cols := by omega
      refine ACode.region' [0, 1, 2, 3, 4, 5] (by kernel_rfl) rfl ?_
      refine aOps_1 rfl rfl rfl (AOp.move' (.inl rfl) rfl ?_)
      refine aOps_1 rfl rfl rfl (AOp.fieldAddr' rfl (by decide) rfl ?_)
      refine aOps_1 rfl rfl rfl ?_
      refine AOp.load1 (b := ?b28) (v := ?v28) rfl rfl ?hn28 ?hv28 ?hR28
      (case hn28 => repeat (first | assumption | exact upd_same _ _ _ | refine (upd_other _ _ (by omega)).trans ?_))
      (case hv28 => rfl)
      refine aOps_1 rfl rfl rfl (AOp.indexP (i := x) (p := .slice (some ⟨k + 1, 0, none⟩) cols cols) (q := ptr (k + 1) (0 + x * 3) none) (if_pos (show x < cols by omega)) rfl rfl (show some (Value.int .i64 col) = some (Value.int .i64 (x : Int)) by rw [hx]) ?_)
      refine aOps_1 rfl rfl rfl (AOp.fieldAddr' rfl (by decide) rfl ?_)
      refine aOps_0 rfl rfl rfl (AOp.store1 (b := colBlk (List.replicate cols cD)) rfl rfl rfl (by repeat (first | assumption | exact upd_same _ _ _ | refine (upd_other _ _ (by omega)).trans ?_)) rfl rfl rfl (by show _ < (cols3 _).length; rw [cols3_len, List.length_replicate]; omega) ?_)
      rw [col_put hxc, ← hx]
      refine aOps_end ?_
      show ACode _ _ _ _ _ _
      refine ACode.seq ?_
      refine ACode.seq ?_
      refine ACode.region' [0, 1, 2, 3] (by kernel_rfl) rfl ?_
      refine aOps_1 rfl rfl rfl (AOp.fieldAddr' rfl (by decide) rfl ?_)
      refine aOps_1 rfl rfl rfl ?_
      refine AOp.load1 (b := ?b29) (v := ?v29) rfl rfl ?hn29 ?hv29 ?hR29
      (case hn29 => repeat (first | assumption | exact upd_same _ _ _ | refine (upd_other _ _ (by omega)).trans ?_))
      (case hv29 => rfl)
      refine aOps_1 rfl rfl rfl (AOp.len' rfl rfl ?_)
      refine aOps_1 rfl rfl rfl (AOp.move' (.inl rfl) rfl ?_)
      refine aOps_end ?_
      show ACode _ _ _ _ _ _
      refine ACode.block ?_
      refine ACode.count0 (fun i => [(38, .int .i64 (i : Int))]) [(2, _), (4, _), (5, _), (6, _), (37, _)] (0) (fun _ => True) (.cons rfl .nil) (.cons rfl (.cons rfl (.cons rfl (.cons rfl (.cons rfl .nil))))) trivial (fun i0 kL0 HL0 hiL0 hkL0 hsL0 hfL0 hxL0 => ?_)
      show ACode _ _ _ _ _ ⟨_, _, _⟩
      refine ACode.seq ?_
      refine ACode.region' [0] (by kernel_rfl) rfl ?_
      refine aOps_1 rfl rfl rfl (AOp.bin' rfl rfl rfl rfl ?_)
      refine aOps_end ?_
      show ACode _ _ _ _ _ _
      refine ACode.seq ?_
      refine ACode.cond rfl (fun c2 => absurd c2 (by simp)) (fun c2 => ?_)
      refine ACode.exit ?_
      show ACode _ _ _ _ _ _
      refine ACode.seq ?_
      refine ACode.region' [0, 1, 2, 3, 4, 5] (by kernel_rfl) rfl ?_
      refine aOps_1 rfl rfl rfl (AOp.fieldAddr' rfl (by decide) rfl ?_)
      refine aOps_1 rfl rfl rfl ?_
      refine AOp.load1 (b := ?b30) (v := ?v30) rfl rfl ?hn30 ?hv30 ?hR30
      (case hn30 => repeat (first | assumption | exact upd_same _ _ _ | refine (upd_other _ _ (by omega)).trans ?_ | refine hsL0 _ _ ?_))
      (case hv30 => rfl)
      refine aOps_1 rfl rfl rfl (AOp.len' rfl rfl ?_)
      refine aOps_1 rfl rfl rfl (AOp.makeSl (n := of.length) rfl rfl rfl (by omega) (by omega) ?_)
      rw [made_preds]
      refine aOps_1 rfl rfl rfl (AOp.fieldAddr' rfl (by decide) rfl ?_)
      refine aOps_0 rfl rfl rfl ?_
      refine AOp.store1 (b := ?b31) rfl rfl rfl ?hn31 ?hk31 rfl rfl ?hl31 ?hR31
      (case hn31 => repeat (first | assumption | exact upd_same _ _ _ | refine (upd_other _ _ (by omega)).trans ?_ | refine hsL0 _ _ ?_))
      (case hk31 => rfl)
      (case hl31 => first | (simp; done) | exact Nat.le_of_ble_eq_true rfl)
      refine aOps_end ?_
      show ACode _ _ _ _ _ _
      refine ACode.seq ?_
      refine ACode.region' [0, 1, 2, 3, 4] (by kernel_rfl) rfl ?_
      refine aOps_1 rfl rfl rfl (AOp.move' (.inl rfl) rfl ?_)
      refine aOps_1 rfl rfl rfl ?_
      refine AOp.loadAll (b := ?b32) (v := pv op col (A2) 0 c2x (some ⟨kL0, 0, none⟩) of.length of.length) rfl rfl ?hn32 ?hv32 ?hw32 ?hz32 ?hR32
      (case hn32 => repeat (first | assumption | exact upd_same _ _ _ | refine (upd_other _ _ (by omega)).trans ?_ | refine hsL0 _ _ ?_))
      (case hv32 => rfl)
      (case hw32 => rfl)
      (case hz32 => first | rfl | (simp; done))
      refine aOps_q rfl rfl rfl (AOp.call' rfl rfl rfl (Check_n _ _ (by repeat (first | assumption | exact upd_same _ _ _ | refine (upd_other _ _ (by omega)).trans ?_ | refine hsL0 _ _ ?_)) (.mk op col (List.replicate 0 v1) (List.replicate of.length pD)) _ (PdV.introN List.length_replicate List.length_replicate (hA2 _) (by omega) (by omega) hop hcl rep_ok (SLC.fix (by repeat (first | assumption | exact upd_same _ _ _ | refine (upd_other _ _ (by omega)).trans ?_ | refine hsL0 _ _ ?_)) (by show _ = (List.flatten _).length; rw [pz_len])) (PdVs_rep _)) (colsK cols col) (some ⟨k + 1, 0, none⟩) cols cols (colsK_len _ _) (SLC.fix (b := colBlk (colsK cols col)) (by repeat (first | assumption | exact upd_same _ _ _ | refine (upd_other _ _ (by omega)).trans ?_ | refine hsL0 _ _ ?_)) (by show _ = (cols3 _).length; rw [cols3_len, colsK_len])).cells (by omega)) (fun _ _ _ h => h)) (fun kq hkq => ?_)
      refine aOps_1 rfl rfl rfl (AOp.bin' rfl rfl rfl rfl ?_)
      refine aOps_1 rfl rfl rfl (AOp.move' (.inr rfl) rfl ?_)
      refine aOps_end ?_
      show ACode _ _ _ _ _ _
      refine ACode.ret ?_
      exact RetQ.one rfl rfl (by (repeat (first | exact sub_refl _ | assumption | refine sub_upd' ?_ (by ((repeat refine (upd_other _ _ (by omega)).trans ?_); first | exact hf _ (by omega) | exact hfL0 _ (by omega))) | refine sub_trans ?_ hsL0 | refine sub_over (by assumption) | refine sub_over0 ?_ | refine sub_trans (sub_same (by assumption)) ?_ | refine sub_dropu ?_ | refine sub_drop ?_ | refine sub_put ?_ (by repeat (first | assumption | exact upd_same _ _ _ | refine (upd_other _ _ (by omega)).trans ?_ | refine hsL0 _ _ ?_))))) stays (fun hk => ⟨(by rw [← check_may]; rfl), rfl, by omega⟩)
    · skip
      have hk0 : colsK cols col = List.replicate cols cD := by { rw [colsK, if_neg]; intro h; rw [decide_eq_true h.1, decide_eq_true h.2] at c1; cases c1 }
      rw [← hk0]
      refine ACode.skip ?_
      show ACode _ _ _ _ _ _
      refine ACode.seq ?_
      refine ACode.seq ?_
      refine ACode.region' [0, 1, 2, 3] (by kernel_rfl) rfl ?_
      refine aOps_1 rfl rfl rfl (AOp.fieldAddr' rfl (by decide) rfl ?_)
      refine aOps_1 rfl rfl rfl ?_
      refine AOp.load1 (b := ?b33) (v := ?v33) rfl rfl ?hn33 ?hv33 ?hR33
      (case hn33 => repeat (first | assumption | exact upd_same _ _ _ | refine (upd_other _ _ (by omega)).trans ?_))
      (case hv33 => rfl)
      refine aOps_1 rfl rfl rfl (AOp.len' rfl rfl ?_)
      refine aOps_1 rfl rfl rfl (AOp.move' (.inl rfl) rfl ?_)
      refine aOps_end ?_
      show ACode _ _ _ _ _ _
      refine ACode.block ?_
      refine ACode.count0 (fun i => [(38, .int .i64 (i : Int))]) [(2, _), (4, _), (5, _), (6, _), (37, _)] (0) (fun _ => True) (.cons rfl .nil) (.cons rfl (.cons rfl (.cons rfl (.cons rfl (.cons rfl .nil))))) trivial (fun i0 kL0 HL0 hiL0 hkL0 hsL0 hfL0 hxL0 => ?_)
      show ACode _ _ _ _ _ ⟨_, _, _⟩
      refine ACode.seq ?_
      refine ACode.region' [0] (by kernel_rfl) rfl ?_
      refine aOps_1 rfl rfl rfl (AOp.bin' rfl rfl rfl rfl ?_)
      refine aOps_end ?_
      show ACode _ _ _ _ _ _
      refine ACode.seq ?_
      refine ACode.cond rfl (fun c2 => absurd c2 (by simp)) (fun c2 => ?_)
      refine ACode.exit ?_
      show ACode _ _ _ _ _ _
      refine ACode.seq ?_
      refine ACode.region' [0, 1, 2, 3, 4, 5] (by kernel_rfl) rfl ?_
      refine aOps_1 rfl rfl rfl (AOp.fieldAddr' rfl (by decide) rfl ?_)
      refine aOps_1 rfl rfl rfl ?_
      refine AOp.load1 (b := ?b34) (v := ?v34) rfl rfl ?hn34 ?hv34 ?hR34
      (case hn34 => repeat (first | assumption | exact upd_same _ _ _ | refine (upd_other _ _ (by omega)).trans ?_ | refine hsL0 _ _ ?_))
      (case hv34 => rfl)
      refine aOps_1 rfl rfl rfl (AOp.len' rfl rfl ?_)
      refine aOps_1 rfl rfl rfl (AOp.makeSl (n := of.length) rfl rfl rfl (by omega) (by omega) ?_)
      rw [made_preds]
      refine aOps_1 rfl rfl rfl (AOp.fieldAddr' rfl (by decide) rfl ?_)
      refine aOps_0 rfl rfl rfl ?_
      refine AOp.store1 (b := ?b35) rfl rfl rfl ?hn35 ?hk35 rfl rfl ?hl35 ?hR35
      (case hn35 => repeat (first | assumption | exact upd_same _ _ _ | refine (upd_other _ _ (by omega)).trans ?_ | refine hsL0 _ _ ?_))
      (case hk35 => rfl)
      (case hl35 => first | (simp; done) | exact Nat.le_of_ble_eq_true rfl)
      refine aOps_end ?_
      show ACode _ _ _ _ _ _
      refine ACode.seq ?_
      refine ACode.region' [0, 1, 2, 3, 4] (by kernel_rfl) rfl ?_
      refine aOps_1 rfl rfl rfl (AOp.move' (.inl rfl) rfl ?_)
      refine aOps_1 rfl rfl rfl ?_
      refine AOp.loadAll (b := ?b36) (v := pv op col (A2) 0 c2x (some ⟨kL0, 0, none⟩) of.length of.length) rfl rfl ?hn36 ?hv36 ?hw36 ?hz36 ?hR36
      (case hn36 => repeat (first | assumption | exact upd_same _ _ _ | refine (upd_other _ _ (by omega)).trans ?_ | refine hsL0 _ _ ?_))
      (case hv36 => rfl)
      (case hw36 => rfl)
      (case hz36 => first | rfl | (simp; done))
      refine aOps_q rfl rfl rfl (AOp.call' rfl rfl rfl (Check_n _ _ (by repeat (first | assumption | exact upd_same _ _ _ | refine (upd_other _ _ (by omega)).trans ?_ | refine hsL0 _ _ ?_)) (.mk op col (List.replicate 0 v1) (List.replicate of.length pD)) _ (PdV.introN List.length_replicate List.length_replicate (hA2 _) (by omega) (by omega) hop hcl rep_ok (SLC.fix (by repeat (first | assumption | exact upd_same _ _ _ | refine (upd_other _ _ (by omega)).trans ?_ | refine hsL0 _ _ ?_)) (by show _ = (List.flatten _).length; rw [pz_len])) (PdVs_rep _)) (colsK cols col) (some ⟨k + 1, 0, none⟩) cols cols (colsK_len _ _) (SLC.fix (b := colBlk (colsK cols col)) (by repeat (first | assumption | exact upd_same _ _ _ | refine (upd_other _ _ (by omega)).trans ?_ | refine hsL0 _ _ ?_)) (by show _ = (cols3 _).length; rw [cols3_len, colsK_len])).cells (by omega)) (fun _ _ _ h => h)) (fun kq hkq => ?_)
      refine aOps_1 rfl rfl rfl (AOp.bin' rfl rfl rfl rfl ?_)
      refine aOps_1 rfl rfl rfl (AOp.move' (.inr rfl) rfl ?_)
      refine aOps_end ?_
      show ACode _ _ _ _ _ _
      refine ACode.ret ?_
      exact RetQ.one rfl rfl (by (repeat (first | exact sub_refl _ | assumption | refine sub_upd' ?_ (by ((repeat refine (upd_other _ _ (by omega)).trans ?_); first | exact hf _ (by omega) | exact hfL0 _ (by omega))) | refine sub_trans ?_ hsL0 | refine sub_over (by assumption) | refine sub_over0 ?_ | refine sub_trans (sub_same (by assumption)) ?_ | refine sub_dropu ?_ | refine sub_drop ?_ | refine sub_put ?_ (by repeat (first | assumption | exact upd_same _ _ _ | refine (upd_other _ _ (by omega)).trans ?_ | refine hsL0 _ _ ?_))))) stays (fun hk => ⟨(by rw [← check_may]; rfl), rfl, by omega⟩)
end

end Go.Proofs.YtnciojaecelhmaaDoor
