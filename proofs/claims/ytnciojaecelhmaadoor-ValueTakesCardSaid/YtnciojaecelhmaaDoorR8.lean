/- Contracts over the abstract states: the same values, schemas and rows; both readers' ends; ValueTakes. -/
import Derived.Test.YtnciojaecelhmaaDoorR7
set_option linter.unusedVariables false
set_option linter.unusedSimpArgs false
set_option maxRecDepth 100000
namespace Go.Proofs.YtnciojaecelhmaaDoor
open Go Go.Ab

def Col.ok (a : Col) : Prop := (Lit.int .i64 a.kind).wf = true ∧ (Lit.int .i64 a.way).wf = true
theorem Col.sc {a : Col} (h : a.ok) : (scals [.int .i64, .bool, .int .i64] (cc a).cells.toList).isSome = true := by
  obtain ⟨h1, h2⟩ := h
  show (scals [.int .i64, .bool, .int .i64] [.int .i64 a.kind, .bool a.null, .int .i64 a.way]).isSome = true
  simp [scals, scal, h1, h2]
theorem itS_ok {s : List Col × Rd} (h1 : s.2.ok) (h2 : ∀ a ∈ s.1, a.ok) (i : Nat) : (itR sStep s i).2.ok ∧ ∀ a ∈ (itR sStep s i).1, a.ok := by
  induction i with
  | zero => exact ⟨h1, h2⟩
  | succ i ih =>
    refine ⟨colStep_ok ih.1, fun a ha => ?_⟩
    rcases List.mem_append.1 ha with ha | ha
    · exact ih.2 a ha
    · rw [List.mem_singleton.1 ha]
      have a1 := Rd.fix1_ok ih.1
      have a2 := Rd.fix1_ok a1.1
      have a3 := Rd.fix1_ok a2.1
      exact ⟨wf_i64 (n := ((itR sStep s i).2.fix1.1 : Int)) (by omega) (by omega), wf_i64 (n := ((itR sStep s i).2.fix1.2.fix1.2.fix1.1 : Int) - 1) (by omega) (by omega)⟩
theorem runR_it {α : Type} (f : α × Rd → α × Rd) : ∀ (n : Nat) (s : α × Rd), ∃ i, runR f n s = itR f s i
  | 0, s => ⟨0, rfl⟩
  | n + 1, s => by
    rw [runR]
    split
    · exact ⟨0, rfl⟩
    · obtain ⟨i, h⟩ := runR_it f n (f s)
      refine ⟨i + 1, h.trans ?_⟩
      clear h
      induction i with
      | zero => rfl
      | succ i ih => exact congrArg f ih
theorem takeSch_ok {r : Rd} (h : r.ok) : (takeSch r).2.ok ∧ (∀ a ∈ (takeSch r).1, a.ok) ∧ (takeSch r).2.bs = r.bs := by
  obtain ⟨i, hi⟩ := runR_it sStep r.fix1.1 ([], r.fix1.2)
  have h1 := itS_ok (s := ([], r.fix1.2)) (Rd.fix1_ok h).1 (fun a ha => by cases ha) i
  have hb := itS_bs ([], r.fix1.2) i
  have e : schRun r = itR sStep ([], r.fix1.2) i := hi
  unfold takeSch
  rw [e]
  refine ⟨Rd.fail_ok h1.1 (schemaI_le _).1 (schemaI_le _).2, fun a ha => ?_, by show (Rd.fail _ _).bs = _; rw [Rd.fail_bs, hb, Rd.fix1_bs]⟩
  simp only at ha
  split at ha
  · cases ha
  · exact h1.2 a ha
theorem itW_ok (cols : List Col) {s : List (List Val) × Rd} (h1 : s.2.ok) (h2 : ∀ row ∈ s.1, ∀ v ∈ row, v.ok) (i : Nat) : ∀ row ∈ (itR (rStep cols) s i).1, ∀ v ∈ row, v.ok := by
  induction i with
  | zero => exact h2
  | succ i ih =>
    intro row hr
    rcases List.mem_append.1 hr with hr | hr
    · exact ih row hr
    · rw [List.mem_singleton.1 hr]
      exact (itV_ok ([], (itR (rStep cols) s i).2) (itRow_ok cols s h1 i) (fun v hv => by cases hv) _).2
theorem takeRows_ok {r : Rd} (cols : List Col) (h : r.ok) : (takeRows cols r).2.ok ∧ (∀ row ∈ (takeRows cols r).1, ∀ v ∈ row, v.ok) ∧ (takeRows cols r).2.bs = r.bs := by
  obtain ⟨i, hi⟩ := runR_it (rStep cols) r.var.1 ([], rows0 r)
  have h1 := itRow_ok cols ([], rows0 r) (rows0_ok h) i
  have h2 := itW_ok cols (s := ([], rows0 r)) (rows0_ok h) (fun a ha => by cases ha) i
  have hb := itRow_bs cols ([], rows0 r) i
  have e : rowsRun cols r = itR (rStep cols) ([], rows0 r) i := hi
  unfold takeRows
  rw [e]
  refine ⟨h1, fun a ha => ?_, by rw [hb, rows0_bs]⟩
  simp only at ha
  split at ha
  · cases ha
  · exact h2 a ha
theorem takeRows_le {r : Rd} (cols : List Col) : (takeRows cols r).1.length ≤ 65536 ∧ ∀ row ∈ (takeRows cols r).1, row.length = cols.length := by
  have h0 : ∀ (n : Nat) (s : List (List Val) × Rd), (runR (rStep cols) n s).1.length ≤ s.1.length + n := by
    intro n
    induction n with
    | zero => intro s; exact Nat.le_refl _
    | succ n ih =>
      intro s
      rw [runR]
      split
      · omega
      · have := ih (rStep cols s)
        have e : (rStep cols s).1.length = s.1.length + 1 := by show (s.1 ++ [_]).length = _; rw [List.length_append]; rfl
        omega
  have h1 : ∀ (i : Nat), ∀ row ∈ (itR (rStep cols) ([], rows0 r) i).1, row.length = cols.length := by
    intro i
    induction i with
    | zero => intro row hr; cases hr
    | succ i ih =>
      intro row hr
      rcases List.mem_append.1 hr with hr | hr
      · exact ih row hr
      · rw [List.mem_singleton.1 hr]; exact rowOf_len _ _
  unfold takeRows
  simp only
  split
  · exact ⟨Nat.zero_le _, fun a ha => by cases ha⟩
  · rename_i he
    obtain ⟨i, hi⟩ := runR_it (rStep cols) r.var.1 ([], rows0 r)
    have e : rowsRun cols r = itR (rStep cols) ([], rows0 r) i := hi
    refine ⟨?_, by rw [e]; exact h1 i⟩
    by_cases hz : (rows0 r).e = 0
    · have := h0 r.var.1 ([], rows0 r)
      have h2 := rows0_le hz
      have h3 : (rowsRun cols r).1.length ≤ 0 + r.var.1 := this
      omega
    · rw [rowsRun, runR_err (s := ([], rows0 r)) hz]
      exact Nat.zero_le _
theorem takeSch_le {r : Rd} (h : r.ok) : (takeSch r).1.length ≤ 255 := by
  have h0 : ∀ (n : Nat) (s : List Col × Rd), (runR sStep n s).1.length ≤ s.1.length + n := by
    intro n
    induction n with
    | zero => intro s; exact Nat.le_refl _
    | succ n ih =>
      intro s
      rw [runR]
      split
      · omega
      · have := ih (sStep s)
        have e : (sStep s).1.length = s.1.length + 1 := by show (s.1 ++ [_]).length = _; rw [List.length_append]; rfl
        omega
  have h1 := h0 r.fix1.1 ([], r.fix1.2)
  have h2 := (Rd.fix1_ok h).2
  have h3 : (schRun r).1.length ≤ 0 + r.fix1.1 := h1
  unfold takeSch
  simp only
  split
  · exact Nat.zero_le _
  · omega
abbrev cD0 : Col := ⟨0, false, 0⟩
section
variable (H : Hp) (k : Nat)

theorem same_v (vals : List Val) (A B : Option Addr) (c d : Nat) (hA : SLC H 3 A vals.length c (vals3 vals)) (hB : SLC H 3 B vals.length d (vals3 vals)) (hl : vals.length ≤ 9223372036854775807) (ho : ∀ v ∈ vals, v.ok) : ACalls Tryd.prog 4 71 [.slice A vals.length c, .slice B vals.length d] H k (Same H k (.bool true)) := by
  refine ACalls.fresh fun hf => ?_
  refine ACalls.body Tryd.func71 rfl (Nat.le_of_ble_eq_true rfl) ?_
  refine ACode.seq ?_
  refine ACode.region' [0] (by kernel_rfl) rfl ?_
  refine aOps_1 rfl rfl rfl (AOp.move' (.inr rfl) rfl ?_)
  refine aOps_end ?_
  show ACode _ _ _ _ _ _
  refine ACode.seq ?_
  refine ACode.seq ?_
  refine ACode.region' [0, 1, 2, 3, 4] (by kernel_rfl) rfl ?_
  refine aOps_1 rfl rfl rfl (AOp.move' (.inl rfl) rfl ?_)
  refine aOps_1 rfl rfl rfl (AOp.len' rfl rfl ?_)
  refine aOps_1 rfl rfl rfl (AOp.move' (.inl rfl) rfl ?_)
  refine aOps_1 rfl rfl rfl (AOp.len' rfl rfl ?_)
  refine aOps_1 rfl rfl rfl (AOp.bin' rfl rfl rfl rfl ?_)
  refine aOps_end ?_
  show ACode _ _ _ _ _ _
  refine ACode.cond rfl (fun c0 => absurd c0 (by simp)) (fun c0 => ?_)
  refine ACode.skip ?_
  show ACode _ _ _ _ _ _
  refine ACode.seq ?_
  refine ACode.seq ?_
  refine ACode.region' [0] (by kernel_rfl) rfl ?_
  refine aOps_1 rfl rfl rfl (AOp.move' (.inr rfl) rfl ?_)
  refine aOps_end ?_
  show ACode _ _ _ _ _ _
  refine ACode.block ?_
  refine ACode.count0 (fun i => [(5, .int .i64 (i : Int))]) [(0, _), (1, _)] (vals.length) (fun _ => True) (.cons rfl .nil) (.cons rfl (.cons rfl .nil)) trivial (fun i0 kL0 HL0 hiL0 hkL0 hsL0 hfL0 hxL0 => ?_)
  show ACode _ _ _ _ _ ⟨_, _, _⟩
  refine ACode.seq ?_
  refine ACode.seq ?_
  refine ACode.region' [0, 1, 2, 3] (by kernel_rfl) rfl ?_
  refine aOps_1 rfl rfl rfl (AOp.move' (.inl rfl) rfl ?_)
  refine aOps_1 rfl rfl rfl (AOp.move' (.inl rfl) rfl ?_)
  refine aOps_1 rfl rfl rfl (AOp.len' rfl rfl ?_)
  refine aOps_1 rfl rfl rfl (AOp.bin' rfl rfl rfl rfl ?_)
  refine aOps_end ?_
  show ACode _ _ _ _ _ _
  refine ACode.cond rfl (fun c1 => ?_) (fun c1 => ?_)
  · try simp only [decide_eq_true_eq, decide_eq_false_iff_not, beq_iff_eq, beq_eq_false_iff_ne, ne_eq, bne_iff_ne, Bool.not_eq_true', Bool.not_eq_false', Int.not_lt, Int.not_le, gt_iff_lt, ge_iff_le, bne_eq_false_iff_eq, Bool.not_eq_eq_eq_not, Bool.not_true, Bool.not_false] at c1
    have hi : i0 < vals.length := by omega
    have hok : (vals.getD i0 V0_).ok := ho _ (getD_mem hi)
    refine ACode.skip ?_
    show ACode _ _ _ _ _ _
    refine ACode.seq ?_
    refine ACode.block ?_
    refine ACode.seq ?_
    obtain ⟨n6_2, o6_2, s6_2, hq6_2, hp6_2⟩ := slcElG (fun a => (vv a).cells.toList) V0_ hA.cells (fun _ => rfl) (by decide) hi
    obtain ⟨n6_6, o6_6, s6_6, hq6_6, hp6_6⟩ := slcElG (fun a => (vv a).cells.toList) V0_ hB.cells (fun _ => rfl) (by decide) hi
    refine ACode.draw' 9 [(0, 17), (1, 18), (2, 19), (3, 20), (4, 21), (5, 22), (6, 23), (7, 24), (8, 25)] mixed (by kernel_rfl) ?_
    refine Draw.step [(0, none)] rfl (by kernel_rfl) rfl (fun kq hkq => AOp.move' (.inl rfl) rfl ⟨rfl, rfl, Nat.le_refl _⟩) ?_
    refine Draw.step [(5, none)] rfl (by kernel_rfl) rfl (fun kq hkq => AOp.move' (.inl rfl) rfl ⟨rfl, rfl, Nat.le_refl _⟩) ?_
    refine Draw.step [(17, some 0), (18, some 1)] rfl (by kernel_rfl) rfl (fun kq hkq => AOp.indexP (aslcAt_sub (by (repeat (first | exact sub_refl _ | assumption | refine sub_upd' ?_ (by ((repeat refine (upd_other _ _ (by omega)).trans ?_); first | exact hf _ (by omega) | exact hfL0 _ (by omega))) | refine sub_trans ?_ hsL0 | refine sub_over (by assumption) | refine sub_over0 ?_ | refine sub_trans (sub_same (by assumption)) ?_ | refine sub_dropu ?_ | refine sub_drop ?_ | refine sub_put ?_ (by repeat (first | assumption | exact upd_same _ _ _ | refine (upd_other _ _ (by omega)).trans ?_ | refine hsL0 _ _ ?_))))) hq6_2) rfl rfl rfl ⟨rfl, rfl, Nat.le_refl _⟩) ?_
    refine Draw.step [(19, some 2)] rfl (by kernel_rfl) rfl (fun kq hkq => AOp.loadPA (v := vv (vals.getD i0 V0_)) (hp6_2.sub (by (repeat (first | exact sub_refl _ | assumption | refine sub_upd' ?_ (by ((repeat refine (upd_other _ _ (by omega)).trans ?_); first | exact hf _ (by omega) | exact hfL0 _ (by omega))) | refine sub_trans ?_ hsL0 | refine sub_over (by assumption) | refine sub_over0 ?_ | refine sub_trans (sub_same (by assumption)) ?_ | refine sub_dropu ?_ | refine sub_drop ?_ | refine sub_put ?_ (by repeat (first | assumption | exact upd_same _ _ _ | refine (upd_other _ _ (by omega)).trans ?_ | refine hsL0 _ _ ?_)))))) rfl rfl rfl rfl (by first | rfl | (simp; done)) (by decide) ⟨rfl, rfl, Nat.le_refl _⟩) ?_
    refine Draw.step [(1, none)] rfl (by kernel_rfl) rfl (fun kq hkq => AOp.move' (.inl rfl) rfl ⟨rfl, rfl, Nat.le_refl _⟩) ?_
    refine Draw.step [(5, none)] rfl (by kernel_rfl) rfl (fun kq hkq => AOp.move' (.inl rfl) rfl ⟨rfl, rfl, Nat.le_refl _⟩) ?_
    refine Draw.step [(21, some 4), (22, some 5)] rfl (by kernel_rfl) rfl (fun kq hkq => AOp.indexP (aslcAt_sub (by (repeat (first | exact sub_refl _ | assumption | refine sub_upd' ?_ (by ((repeat refine (upd_other _ _ (by omega)).trans ?_); first | exact hf _ (by omega) | exact hfL0 _ (by omega))) | refine sub_trans ?_ hsL0 | refine sub_over (by assumption) | refine sub_over0 ?_ | refine sub_trans (sub_same (by assumption)) ?_ | refine sub_dropu ?_ | refine sub_drop ?_ | refine sub_put ?_ (by repeat (first | assumption | exact upd_same _ _ _ | refine (upd_other _ _ (by omega)).trans ?_ | refine hsL0 _ _ ?_))))) hq6_6) rfl rfl rfl ⟨rfl, rfl, Nat.le_refl _⟩) ?_
    refine Draw.step [(23, some 6)] rfl (by kernel_rfl) rfl (fun kq hkq => AOp.loadPA (v := vv (vals.getD i0 V0_)) (hp6_6.sub (by (repeat (first | exact sub_refl _ | assumption | refine sub_upd' ?_ (by ((repeat refine (upd_other _ _ (by omega)).trans ?_); first | exact hf _ (by omega) | exact hfL0 _ (by omega))) | refine sub_trans ?_ hsL0 | refine sub_over (by assumption) | refine sub_over0 ?_ | refine sub_trans (sub_same (by assumption)) ?_ | refine sub_dropu ?_ | refine sub_drop ?_ | refine sub_put ?_ (by repeat (first | assumption | exact upd_same _ _ _ | refine (upd_other _ _ (by omega)).trans ?_ | refine hsL0 _ _ ?_)))))) rfl rfl rfl rfl (by first | rfl | (simp; done)) (by decide) ⟨rfl, rfl, Nat.le_refl _⟩) ?_
    refine Draw.step [(20, some 3), (24, some 7)] rfl (by kernel_rfl) rfl (fun kq hkq => AOp.neAgg true rfl rfl rfl (Val.sc hok) (Val.sc hok) ⟨fun _ => rfl, fun _ => rfl⟩ ⟨rfl, rfl, Nat.le_refl _⟩) ?_
    refine Draw.done fun kq hkq => ?_
    show aOps _ _ _ _ [] ⟨_, _, _⟩
    refine aOps_end ?_
    show ACode _ _ _ _ _ _
    refine ACode.cond rfl (fun c2 => absurd c2 (by simp)) (fun c2 => ?_)
    refine ACode.skip ?_
    show ACode _ _ _ _ _ _
    refine ACode.region' [0, 1, 2] (by kernel_rfl) rfl ?_
    refine aOps_1 rfl rfl rfl (AOp.move' (.inl rfl) rfl ?_)
    refine aOps_1 rfl rfl rfl (AOp.add rfl rfl rfl (i64_wrap (by omega) (by omega)) ?_)
    refine aOps_1 rfl rfl rfl (AOp.move' (.inr rfl) rfl ?_)
    refine aOps_end ?_
    first | refine thenA_n ?_ | simp only [thenA, blockA, if_true]
    exact NextR.mk (by omega) (by omega) (.cons rfl .nil) (.cons rfl (.cons rfl .nil)) (by (repeat (first | exact sub_refl _ | assumption | refine sub_upd' ?_ (by ((repeat refine (upd_other _ _ (by omega)).trans ?_); first | exact hf _ (by omega) | exact hfL0 _ (by omega))) | refine sub_trans ?_ hsL0 | refine sub_over (by assumption) | refine sub_over0 ?_ | refine sub_trans (sub_same (by assumption)) ?_ | refine sub_dropu ?_ | refine sub_drop ?_ | refine sub_put ?_ (by repeat (first | assumption | exact upd_same _ _ _ | refine (upd_other _ _ (by omega)).trans ?_ | refine hsL0 _ _ ?_))))) trivial
  · try simp only [decide_eq_true_eq, decide_eq_false_iff_not, beq_iff_eq, beq_eq_false_iff_ne, ne_eq, bne_iff_ne, Bool.not_eq_true', Bool.not_eq_false', Int.not_lt, Int.not_le, gt_iff_lt, ge_iff_le, bne_eq_false_iff_eq, Bool.not_eq_eq_eq_not, Bool.not_true, Bool.not_false] at c1
    refine ACode.exit ?_
    show ACode _ _ _ _ _ _
    refine ACode.seq ?_
    refine ACode.region' [0] (by kernel_rfl) rfl ?_
    refine aOps_1 rfl rfl rfl (AOp.move' (.inr rfl) rfl ?_)
    refine aOps_end ?_
    show ACode _ _ _ _ _ _
    refine ACode.ret ?_
    exact RetQ.one rfl rfl (by (repeat (first | exact sub_refl _ | assumption | refine sub_upd' ?_ (by ((repeat refine (upd_other _ _ (by omega)).trans ?_); first | exact hf _ (by omega) | exact hfL0 _ (by omega))) | refine sub_trans ?_ hsL0 | refine sub_over (by assumption) | refine sub_over0 ?_ | refine sub_trans (sub_same (by assumption)) ?_ | refine sub_dropu ?_ | refine sub_drop ?_ | refine sub_put ?_ (by repeat (first | assumption | exact upd_same _ _ _ | refine (upd_other _ _ (by omega)).trans ?_ | refine hsL0 _ _ ?_))))) stays (fun hk => ⟨rfl, rfl, by omega⟩)

theorem same_s (cols : List Col) (A B : Option Addr) (c d : Nat) (hA : SLC H 3 A cols.length c (cols3 cols)) (hB : SLC H 3 B cols.length d (cols3 cols)) (hl : cols.length ≤ 9223372036854775807) (ho : ∀ v ∈ cols, v.ok) : ACalls Tryd.prog 4 30 [.slice A cols.length c, .slice B cols.length d] H k (Same H k (.bool true)) := by
  refine ACalls.fresh fun hf => ?_
  refine ACalls.body Tryd.func30 rfl (Nat.le_of_ble_eq_true rfl) ?_
  refine ACode.seq ?_
  refine ACode.region' [0] (by kernel_rfl) rfl ?_
  refine aOps_1 rfl rfl rfl (AOp.move' (.inr rfl) rfl ?_)
  refine aOps_end ?_
  show ACode _ _ _ _ _ _
  refine ACode.seq ?_
  refine ACode.seq ?_
  refine ACode.region' [0, 1, 2, 3, 4] (by kernel_rfl) rfl ?_
  refine aOps_1 rfl rfl rfl (AOp.move' (.inl rfl) rfl ?_)
  refine aOps_1 rfl rfl rfl (AOp.len' rfl rfl ?_)
  refine aOps_1 rfl rfl rfl (AOp.move' (.inl rfl) rfl ?_)
  refine aOps_1 rfl rfl rfl (AOp.len' rfl rfl ?_)
  refine aOps_1 rfl rfl rfl (AOp.bin' rfl rfl rfl rfl ?_)
  refine aOps_end ?_
  show ACode _ _ _ _ _ _
  refine ACode.cond rfl (fun c0 => absurd c0 (by simp)) (fun c0 => ?_)
  refine ACode.skip ?_
  show ACode _ _ _ _ _ _
  refine ACode.seq ?_
  refine ACode.seq ?_
  refine ACode.region' [0] (by kernel_rfl) rfl ?_
  refine aOps_1 rfl rfl rfl (AOp.move' (.inr rfl) rfl ?_)
  refine aOps_end ?_
  show ACode _ _ _ _ _ _
  refine ACode.block ?_
  refine ACode.count0 (fun i => [(5, .int .i64 (i : Int))]) [(0, _), (1, _)] (cols.length) (fun _ => True) (.cons rfl .nil) (.cons rfl (.cons rfl .nil)) trivial (fun i0 kL0 HL0 hiL0 hkL0 hsL0 hfL0 hxL0 => ?_)
  show ACode _ _ _ _ _ ⟨_, _, _⟩
  refine ACode.seq ?_
  refine ACode.seq ?_
  refine ACode.region' [0, 1, 2, 3] (by kernel_rfl) rfl ?_
  refine aOps_1 rfl rfl rfl (AOp.move' (.inl rfl) rfl ?_)
  refine aOps_1 rfl rfl rfl (AOp.move' (.inl rfl) rfl ?_)
  refine aOps_1 rfl rfl rfl (AOp.len' rfl rfl ?_)
  refine aOps_1 rfl rfl rfl (AOp.bin' rfl rfl rfl rfl ?_)
  refine aOps_end ?_
  show ACode _ _ _ _ _ _
  refine ACode.cond rfl (fun c1 => ?_) (fun c1 => ?_)
  · try simp only [decide_eq_true_eq, decide_eq_false_iff_not, beq_iff_eq, beq_eq_false_iff_ne, ne_eq, bne_iff_ne, Bool.not_eq_true', Bool.not_eq_false', Int.not_lt, Int.not_le, gt_iff_lt, ge_iff_le, bne_eq_false_iff_eq, Bool.not_eq_eq_eq_not, Bool.not_true, Bool.not_false] at c1
    have hi : i0 < cols.length := by omega
    have hok : (cols.getD i0 cD0).ok := ho _ (getD_mem hi)
    refine ACode.skip ?_
    show ACode _ _ _ _ _ _
    refine ACode.seq ?_
    refine ACode.block ?_
    refine ACode.seq ?_
    obtain ⟨n6_2, o6_2, s6_2, hq6_2, hp6_2⟩ := slcElG (fun a => (cc a).cells.toList) cD0 hA.cells (fun _ => rfl) (by decide) hi
    obtain ⟨n6_6, o6_6, s6_6, hq6_6, hp6_6⟩ := slcElG (fun a => (cc a).cells.toList) cD0 hB.cells (fun _ => rfl) (by decide) hi
    refine ACode.draw' 9 [(0, 17), (1, 18), (2, 19), (3, 20), (4, 21), (5, 22), (6, 23), (7, 24), (8, 25)] mixed (by kernel_rfl) ?_
    refine Draw.step [(0, none)] rfl (by kernel_rfl) rfl (fun kq hkq => AOp.move' (.inl rfl) rfl ⟨rfl, rfl, Nat.le_refl _⟩) ?_
    refine Draw.step [(5, none)] rfl (by kernel_rfl) rfl (fun kq hkq => AOp.move' (.inl rfl) rfl ⟨rfl, rfl, Nat.le_refl _⟩) ?_
    refine Draw.step [(17, some 0), (18, some 1)] rfl (by kernel_rfl) rfl (fun kq hkq => AOp.indexP (aslcAt_sub (by (repeat (first | exact sub_refl _ | assumption | refine sub_upd' ?_ (by ((repeat refine (upd_other _ _ (by omega)).trans ?_); first | exact hf _ (by omega) | exact hfL0 _ (by omega))) | refine sub_trans ?_ hsL0 | refine sub_over (by assumption) | refine sub_over0 ?_ | refine sub_trans (sub_same (by assumption)) ?_ | refine sub_dropu ?_ | refine sub_drop ?_ | refine sub_put ?_ (by repeat (first | assumption | exact upd_same _ _ _ | refine (upd_other _ _ (by omega)).trans ?_ | refine hsL0 _ _ ?_))))) hq6_2) rfl rfl rfl ⟨rfl, rfl, Nat.le_refl _⟩) ?_
    refine Draw.step [(19, some 2)] rfl (by kernel_rfl) rfl (fun kq hkq => AOp.loadPA (v := cc (cols.getD i0 cD0)) (hp6_2.sub (by (repeat (first | exact sub_refl _ | assumption | refine sub_upd' ?_ (by ((repeat refine (upd_other _ _ (by omega)).trans ?_); first | exact hf _ (by omega) | exact hfL0 _ (by omega))) | refine sub_trans ?_ hsL0 | refine sub_over (by assumption) | refine sub_over0 ?_ | refine sub_trans (sub_same (by assumption)) ?_ | refine sub_dropu ?_ | refine sub_drop ?_ | refine sub_put ?_ (by repeat (first | assumption | exact upd_same _ _ _ | refine (upd_other _ _ (by omega)).trans ?_ | refine hsL0 _ _ ?_)))))) rfl rfl rfl rfl (by first | rfl | (simp; done)) (by decide) ⟨rfl, rfl, Nat.le_refl _⟩) ?_
    refine Draw.step [(1, none)] rfl (by kernel_rfl) rfl (fun kq hkq => AOp.move' (.inl rfl) rfl ⟨rfl, rfl, Nat.le_refl _⟩) ?_
    refine Draw.step [(5, none)] rfl (by kernel_rfl) rfl (fun kq hkq => AOp.move' (.inl rfl) rfl ⟨rfl, rfl, Nat.le_refl _⟩) ?_
    refine Draw.step [(21, some 4), (22, some 5)] rfl (by kernel_rfl) rfl (fun kq hkq => AOp.indexP (aslcAt_sub (by (repeat (first | exact sub_refl _ | assumption | refine sub_upd' ?_ (by ((repeat refine (upd_other _ _ (by omega)).trans ?_); first | exact hf _ (by omega) | exact hfL0 _ (by omega))) | refine sub_trans ?_ hsL0 | refine sub_over (by assumption) | refine sub_over0 ?_ | refine sub_trans (sub_same (by assumption)) ?_ | refine sub_dropu ?_ | refine sub_drop ?_ | refine sub_put ?_ (by repeat (first | assumption | exact upd_same _ _ _ | refine (upd_other _ _ (by omega)).trans ?_ | refine hsL0 _ _ ?_))))) hq6_6) rfl rfl rfl ⟨rfl, rfl, Nat.le_refl _⟩) ?_
    refine Draw.step [(23, some 6)] rfl (by kernel_rfl) rfl (fun kq hkq => AOp.loadPA (v := cc (cols.getD i0 cD0)) (hp6_6.sub (by (repeat (first | exact sub_refl _ | assumption | refine sub_upd' ?_ (by ((repeat refine (upd_other _ _ (by omega)).trans ?_); first | exact hf _ (by omega) | exact hfL0 _ (by omega))) | refine sub_trans ?_ hsL0 | refine sub_over (by assumption) | refine sub_over0 ?_ | refine sub_trans (sub_same (by assumption)) ?_ | refine sub_dropu ?_ | refine sub_drop ?_ | refine sub_put ?_ (by repeat (first | assumption | exact upd_same _ _ _ | refine (upd_other _ _ (by omega)).trans ?_ | refine hsL0 _ _ ?_)))))) rfl rfl rfl rfl (by first | rfl | (simp; done)) (by decide) ⟨rfl, rfl, Nat.le_refl _⟩) ?_
    refine Draw.step [(20, some 3), (24, some 7)] rfl (by kernel_rfl) rfl (fun kq hkq => AOp.neAgg true rfl rfl rfl (Col.sc hok) (Col.sc hok) ⟨fun _ => rfl, fun _ => rfl⟩ ⟨rfl, rfl, Nat.le_refl _⟩) ?_
    refine Draw.done fun kq hkq => ?_
    show aOps _ _ _ _ [] ⟨_, _, _⟩
    refine aOps_end ?_
    show ACode _ _ _ _ _ _
    refine ACode.cond rfl (fun c2 => absurd c2 (by simp)) (fun c2 => ?_)
    refine ACode.skip ?_
    show ACode _ _ _ _ _ _
    refine ACode.region' [0, 1, 2] (by kernel_rfl) rfl ?_
    refine aOps_1 rfl rfl rfl (AOp.move' (.inl rfl) rfl ?_)
    refine aOps_1 rfl rfl rfl (AOp.add rfl rfl rfl (i64_wrap (by omega) (by omega)) ?_)
    refine aOps_1 rfl rfl rfl (AOp.move' (.inr rfl) rfl ?_)
    refine aOps_end ?_
    first | refine thenA_n ?_ | simp only [thenA, blockA, if_true]
    exact NextR.mk (by omega) (by omega) (.cons rfl .nil) (.cons rfl (.cons rfl .nil)) (by (repeat (first | exact sub_refl _ | assumption | refine sub_upd' ?_ (by ((repeat refine (upd_other _ _ (by omega)).trans ?_); first | exact hf _ (by omega) | exact hfL0 _ (by omega))) | refine sub_trans ?_ hsL0 | refine sub_over (by assumption) | refine sub_over0 ?_ | refine sub_trans (sub_same (by assumption)) ?_ | refine sub_dropu ?_ | refine sub_drop ?_ | refine sub_put ?_ (by repeat (first | assumption | exact upd_same _ _ _ | refine (upd_other _ _ (by omega)).trans ?_ | refine hsL0 _ _ ?_))))) trivial
  · try simp only [decide_eq_true_eq, decide_eq_false_iff_not, beq_iff_eq, beq_eq_false_iff_ne, ne_eq, bne_iff_ne, Bool.not_eq_true', Bool.not_eq_false', Int.not_lt, Int.not_le, gt_iff_lt, ge_iff_le, bne_eq_false_iff_eq, Bool.not_eq_eq_eq_not, Bool.not_true, Bool.not_false] at c1
    refine ACode.exit ?_
    show ACode _ _ _ _ _ _
    refine ACode.seq ?_
    refine ACode.region' [0] (by kernel_rfl) rfl ?_
    refine aOps_1 rfl rfl rfl (AOp.move' (.inr rfl) rfl ?_)
    refine aOps_end ?_
    show ACode _ _ _ _ _ _
    refine ACode.ret ?_
    exact RetQ.one rfl rfl (by (repeat (first | exact sub_refl _ | assumption | refine sub_upd' ?_ (by ((repeat refine (upd_other _ _ (by omega)).trans ?_); first | exact hf _ (by omega) | exact hfL0 _ (by omega))) | refine sub_trans ?_ hsL0 | refine sub_over (by assumption) | refine sub_over0 ?_ | refine sub_trans (sub_same (by assumption)) ?_ | refine sub_dropu ?_ | refine sub_drop ?_ | refine sub_put ?_ (by repeat (first | assumption | exact upd_same _ _ _ | refine (upd_other _ _ (by omega)).trans ?_ | refine hsL0 _ _ ?_))))) stays (fun hk => ⟨rfl, rfl, by omega⟩)

theorem same_w (rows : List (List Val)) (vs us : List Value) (A B : Option Addr) (c d : Nat) (hA : SLC H 1 A vs.length c vs) (hB : SLC H 1 B us.length d us) (h1 : Rws H vs rows) (h2 : Rws H us rows) (hl : vs.length ≤ 9223372036854775807) (hl2 : ∀ r ∈ rows, r.length ≤ 9223372036854775807) (ho : ∀ r ∈ rows, ∀ v ∈ r, v.ok) : ACalls Tryd.prog 4 33 [.slice A vs.length c, .slice B us.length d] H k (Same H k (.bool true)) := by
  refine ACalls.fresh fun hf => ?_
  refine ACalls.body Tryd.func33 rfl (Nat.le_of_ble_eq_true rfl) ?_
  have hvl := h1.len
  have hul := h2.len
  refine ACode.seq ?_
  refine ACode.region' [0] (by kernel_rfl) rfl ?_
  refine aOps_1 rfl rfl rfl (AOp.move' (.inr rfl) rfl ?_)
  refine aOps_end ?_
  show ACode _ _ _ _ _ _
  refine ACode.seq ?_
  refine ACode.seq ?_
  refine ACode.region' [0, 1, 2, 3, 4] (by kernel_rfl) rfl ?_
  refine aOps_1 rfl rfl rfl (AOp.move' (.inl rfl) rfl ?_)
  refine aOps_1 rfl rfl rfl (AOp.len' rfl rfl ?_)
  refine aOps_1 rfl rfl rfl (AOp.move' (.inl rfl) rfl ?_)
  refine aOps_1 rfl rfl rfl (AOp.len' rfl rfl ?_)
  refine aOps_1 rfl rfl rfl (AOp.bin' rfl rfl rfl rfl ?_)
  refine aOps_end ?_
  show ACode _ _ _ _ _ _
  refine ACode.cond rfl (fun c0 => absurd c0 (by simp; omega)) (fun c0 => ?_)
  refine ACode.skip ?_
  show ACode _ _ _ _ _ _
  refine ACode.seq ?_
  refine ACode.seq ?_
  refine ACode.region' [0] (by kernel_rfl) rfl ?_
  refine aOps_1 rfl rfl rfl (AOp.move' (.inr rfl) rfl ?_)
  refine aOps_end ?_
  show ACode _ _ _ _ _ _
  refine ACode.block ?_
  refine ACode.count0 (fun i => [(5, .int .i64 (i : Int))]) [(0, _), (1, _)] (vs.length) (fun _ => True) (.cons rfl .nil) (.cons rfl (.cons rfl .nil)) trivial (fun i0 kL0 HL0 hiL0 hkL0 hsL0 hfL0 hxL0 => ?_)
  show ACode _ _ _ _ _ ⟨_, _, _⟩
  refine ACode.seq ?_
  refine ACode.seq ?_
  refine ACode.region' [0, 1, 2, 3] (by kernel_rfl) rfl ?_
  refine aOps_1 rfl rfl rfl (AOp.move' (.inl rfl) rfl ?_)
  refine aOps_1 rfl rfl rfl (AOp.move' (.inl rfl) rfl ?_)
  refine aOps_1 rfl rfl rfl (AOp.len' rfl rfl ?_)
  refine aOps_1 rfl rfl rfl (AOp.bin' rfl rfl rfl rfl ?_)
  refine aOps_end ?_
  show ACode _ _ _ _ _ _
  refine ACode.cond rfl (fun c1 => ?_) (fun c1 => ?_)
  · try simp only [decide_eq_true_eq, decide_eq_false_iff_not, beq_iff_eq, beq_eq_false_iff_ne, ne_eq, bne_iff_ne, Bool.not_eq_true', Bool.not_eq_false', Int.not_lt, Int.not_le, gt_iff_lt, ge_iff_le, bne_eq_false_iff_eq, Bool.not_eq_eq_eq_not, Bool.not_true, Bool.not_false] at c1
    have hi : i0 < vs.length := by omega
    have hm : rows.getD i0 [] ∈ rows := getD_mem (by omega)
    obtain ⟨A1, d1, e1, hc1⟩ := h1.at_ i0 (by omega)
    obtain ⟨A2, d2, e2, hc2⟩ := h2.at_ i0 (by omega)
    refine ACode.skip ?_
    show ACode _ _ _ _ _ _
    refine ACode.seq ?_
    refine ACode.block ?_
    refine ACode.seq ?_
    obtain ⟨n6_2, o6_2, s6_2, hq6_2, hp6_2⟩ := e1 ▸ slcElV hA.cells (show i0 < vs.length by omega)
    obtain ⟨n6_6, o6_6, s6_6, hq6_6, hp6_6⟩ := e2 ▸ slcElV hB.cells (show i0 < us.length by omega)
    refine ACode.draw' 10 [(0, 17), (1, 18), (2, 19), (3, 20), (4, 21), (5, 22), (6, 23), (7, 24), (8, 25), (9, 26)] mixed (by kernel_rfl) ?_
    refine Draw.step [(0, none)] rfl (by kernel_rfl) rfl (fun kq hkq => AOp.move' (.inl rfl) rfl ⟨rfl, rfl, Nat.le_refl _⟩) ?_
    refine Draw.step [(5, none)] rfl (by kernel_rfl) rfl (fun kq hkq => AOp.move' (.inl rfl) rfl ⟨rfl, rfl, Nat.le_refl _⟩) ?_
    refine Draw.step [(17, some 0), (18, some 1)] rfl (by kernel_rfl) rfl (fun kq hkq => AOp.indexP (aslcAt_sub (by (repeat (first | exact sub_refl _ | assumption | refine sub_upd' ?_ (by ((repeat refine (upd_other _ _ (by omega)).trans ?_); first | exact hf _ (by omega) | exact hfL0 _ (by omega))) | refine sub_trans ?_ hsL0 | refine sub_over (by assumption) | refine sub_over0 ?_ | refine sub_trans (sub_same (by assumption)) ?_ | refine sub_dropu ?_ | refine sub_drop ?_ | refine sub_put ?_ (by repeat (first | assumption | exact upd_same _ _ _ | refine (upd_other _ _ (by omega)).trans ?_ | refine hsL0 _ _ ?_))))) hq6_2) rfl rfl rfl ⟨rfl, rfl, Nat.le_refl _⟩) ?_
    refine Draw.step [(19, some 2)] rfl (by kernel_rfl) rfl (fun kq hkq => AOp.loadP0 (hp6_2.sub (by (repeat (first | exact sub_refl _ | assumption | refine sub_upd' ?_ (by ((repeat refine (upd_other _ _ (by omega)).trans ?_); first | exact hf _ (by omega) | exact hfL0 _ (by omega))) | refine sub_trans ?_ hsL0 | refine sub_over (by assumption) | refine sub_over0 ?_ | refine sub_trans (sub_same (by assumption)) ?_ | refine sub_dropu ?_ | refine sub_drop ?_ | refine sub_put ?_ (by repeat (first | assumption | exact upd_same _ _ _ | refine (upd_other _ _ (by omega)).trans ?_ | refine hsL0 _ _ ?_)))))) rfl rfl rfl ⟨rfl, rfl, Nat.le_refl _⟩) ?_
    refine Draw.step [(1, none)] rfl (by kernel_rfl) rfl (fun kq hkq => AOp.move' (.inl rfl) rfl ⟨rfl, rfl, Nat.le_refl _⟩) ?_
    refine Draw.step [(5, none)] rfl (by kernel_rfl) rfl (fun kq hkq => AOp.move' (.inl rfl) rfl ⟨rfl, rfl, Nat.le_refl _⟩) ?_
    refine Draw.step [(21, some 4), (22, some 5)] rfl (by kernel_rfl) rfl (fun kq hkq => AOp.indexP (aslcAt_sub (by (repeat (first | exact sub_refl _ | assumption | refine sub_upd' ?_ (by ((repeat refine (upd_other _ _ (by omega)).trans ?_); first | exact hf _ (by omega) | exact hfL0 _ (by omega))) | refine sub_trans ?_ hsL0 | refine sub_over (by assumption) | refine sub_over0 ?_ | refine sub_trans (sub_same (by assumption)) ?_ | refine sub_dropu ?_ | refine sub_drop ?_ | refine sub_put ?_ (by repeat (first | assumption | exact upd_same _ _ _ | refine (upd_other _ _ (by omega)).trans ?_ | refine hsL0 _ _ ?_))))) hq6_6) rfl rfl rfl ⟨rfl, rfl, Nat.le_refl _⟩) ?_
    refine Draw.step [(23, some 6)] rfl (by kernel_rfl) rfl (fun kq hkq => AOp.loadP0 (hp6_6.sub (by (repeat (first | exact sub_refl _ | assumption | refine sub_upd' ?_ (by ((repeat refine (upd_other _ _ (by omega)).trans ?_); first | exact hf _ (by omega) | exact hfL0 _ (by omega))) | refine sub_trans ?_ hsL0 | refine sub_over (by assumption) | refine sub_over0 ?_ | refine sub_trans (sub_same (by assumption)) ?_ | refine sub_dropu ?_ | refine sub_drop ?_ | refine sub_put ?_ (by repeat (first | assumption | exact upd_same _ _ _ | refine (upd_other _ _ (by omega)).trans ?_ | refine hsL0 _ _ ?_)))))) rfl rfl rfl ⟨rfl, rfl, Nat.le_refl _⟩) ?_
    refine Draw.step [(20, some 3), (24, some 7)] rfl (by kernel_rfl) rfl (fun kq hkq => AOp.call' rfl rfl rfl (same_v _ _ (rows.getD i0 []) A1 A2 d1 d2 (hc1.sub (by (repeat (first | exact sub_refl _ | assumption | refine sub_upd' ?_ (by ((repeat refine (upd_other _ _ (by omega)).trans ?_); first | exact hf _ (by omega) | exact hfL0 _ (by omega))) | refine sub_trans ?_ hsL0 | refine sub_over (by assumption) | refine sub_over0 ?_ | refine sub_trans (sub_same (by assumption)) ?_ | refine sub_dropu ?_ | refine sub_drop ?_ | refine sub_put ?_ (by repeat (first | assumption | exact upd_same _ _ _ | refine (upd_other _ _ (by omega)).trans ?_ | refine hsL0 _ _ ?_)))))) (hc2.sub (by (repeat (first | exact sub_refl _ | assumption | refine sub_upd' ?_ (by ((repeat refine (upd_other _ _ (by omega)).trans ?_); first | exact hf _ (by omega) | exact hfL0 _ (by omega))) | refine sub_trans ?_ hsL0 | refine sub_over (by assumption) | refine sub_over0 ?_ | refine sub_trans (sub_same (by assumption)) ?_ | refine sub_dropu ?_ | refine sub_drop ?_ | refine sub_put ?_ (by repeat (first | assumption | exact upd_same _ _ _ | refine (upd_other _ _ (by omega)).trans ?_ | refine hsL0 _ _ ?_)))))) (hl2 _ hm) (ho _ hm)) (fun _ _ _ h => h)) ?_
    refine Draw.step [(25, some 8)] rfl (by kernel_rfl) rfl (fun kq hkq => AOp.un' rfl rfl rfl ⟨rfl, rfl, Nat.le_refl _⟩) ?_
    refine Draw.done fun kq hkq => ?_
    show aOps _ _ _ _ [] ⟨_, _, _⟩
    refine aOps_end ?_
    show ACode _ _ _ _ _ _
    refine ACode.cond rfl (fun c2 => absurd c2 (by simp)) (fun c2 => ?_)
    refine ACode.skip ?_
    show ACode _ _ _ _ _ _
    refine ACode.region' [0, 1, 2] (by kernel_rfl) rfl ?_
    refine aOps_1 rfl rfl rfl (AOp.move' (.inl rfl) rfl ?_)
    refine aOps_1 rfl rfl rfl (AOp.add rfl rfl rfl (i64_wrap (by omega) (by omega)) ?_)
    refine aOps_1 rfl rfl rfl (AOp.move' (.inr rfl) rfl ?_)
    refine aOps_end ?_
    first | refine thenA_n ?_ | simp only [thenA, blockA, if_true]
    exact NextR.mk (by omega) (by omega) (.cons rfl .nil) (.cons rfl (.cons rfl .nil)) (by (repeat (first | exact sub_refl _ | assumption | refine sub_upd' ?_ (by ((repeat refine (upd_other _ _ (by omega)).trans ?_); first | exact hf _ (by omega) | exact hfL0 _ (by omega))) | refine sub_trans ?_ hsL0 | refine sub_over (by assumption) | refine sub_over0 ?_ | refine sub_trans (sub_same (by assumption)) ?_ | refine sub_dropu ?_ | refine sub_drop ?_ | refine sub_put ?_ (by repeat (first | assumption | exact upd_same _ _ _ | refine (upd_other _ _ (by omega)).trans ?_ | refine hsL0 _ _ ?_))))) trivial
  · try simp only [decide_eq_true_eq, decide_eq_false_iff_not, beq_iff_eq, beq_eq_false_iff_ne, ne_eq, bne_iff_ne, Bool.not_eq_true', Bool.not_eq_false', Int.not_lt, Int.not_le, gt_iff_lt, ge_iff_le, bne_eq_false_iff_eq, Bool.not_eq_eq_eq_not, Bool.not_true, Bool.not_false] at c1
    refine ACode.exit ?_
    show ACode _ _ _ _ _ _
    refine ACode.seq ?_
    refine ACode.region' [0] (by kernel_rfl) rfl ?_
    refine aOps_1 rfl rfl rfl (AOp.move' (.inr rfl) rfl ?_)
    refine aOps_end ?_
    show ACode _ _ _ _ _ _
    refine ACode.ret ?_
    exact RetQ.one rfl rfl (by (repeat (first | exact sub_refl _ | assumption | refine sub_upd' ?_ (by ((repeat refine (upd_other _ _ (by omega)).trans ?_); first | exact hf _ (by omega) | exact hfL0 _ (by omega))) | refine sub_trans ?_ hsL0 | refine sub_over (by assumption) | refine sub_over0 ?_ | refine sub_trans (sub_same (by assumption)) ?_ | refine sub_dropu ?_ | refine sub_drop ?_ | refine sub_put ?_ (by repeat (first | assumption | exact upd_same _ _ _ | refine (upd_other _ _ (by omega)).trans ?_ | refine hsL0 _ _ ?_))))) stays (fun hk => ⟨rfl, rfl, by omega⟩)

theorem end_b (h2 : H 2 = some hBlk) (n m c d : Nat) (A B : Option Addr) (ev : Value) (r : Rd) (hR : RdN H n A c ev r) (hF : RfN H m B d r) : ACalls Tryd.prog 4 29 [ptr n 0 none, ptr m 0 none] H k (Same H k (.bool true)) := by
  refine ACalls.fresh fun hf => ?_
  refine ACalls.body Tryd.func29 rfl (Nat.le_of_ble_eq_true rfl) ?_
  have hn := hR.hn
  have hm := hF.hn
  refine ACode.seq ?_
  refine ACode.region' [0] (by kernel_rfl) rfl ?_
  refine aOps_1 rfl rfl rfl (AOp.move' (.inr rfl) rfl ?_)
  refine aOps_end ?_
  show ACode _ _ _ _ _ _
  refine ACode.seq ?_
  refine ACode.region' [0, 1, 2, 3, 4, 5, 6] (by kernel_rfl) rfl ?_
  refine aOps_1 rfl rfl rfl (AOp.move' (.inl rfl) rfl ?_)
  refine aOps_q rfl rfl rfl (AOp.call' rfl rfl rfl (nerr _ _ (by repeat (first | assumption | exact upd_same _ _ _ | refine (upd_other _ _ (by omega)).trans ?_)) n c A ev r (hR.sub (by (repeat (first | exact sub_refl _ | assumption | refine sub_upd' ?_ (by ((repeat refine (upd_other _ _ (by omega)).trans ?_); first | exact hf _ (by omega))) | refine sub_over (by assumption) | refine sub_over0 ?_ | refine sub_trans (sub_same (by assumption)) ?_ | refine sub_dropu ?_ | refine sub_drop ?_ | refine sub_put ?_ (by repeat (first | assumption | exact upd_same _ _ _ | refine (upd_other _ _ (by omega)).trans ?_))))))) (fun _ _ _ h => h)) (fun kq hkq => ?_)
  refine aOps_1 rfl rfl rfl (AOp.move' (.inl rfl) rfl ?_)
  refine aOps_1 rfl rfl rfl (AOp.extract' rfl rfl rfl ?_)
  refine aOps_1 rfl rfl rfl (AOp.extract' rfl rfl rfl ?_)
  refine aOps_1 rfl rfl rfl (AOp.move' (.inr rfl) rfl ?_)
  refine aOps_1 rfl rfl rfl (AOp.move' (.inr rfl) rfl ?_)
  refine aOps_end ?_
  show ACode _ _ _ _ _ _
  refine ACode.seq ?_
  refine ACode.draw' 24 [(0, 12), (1, 13), (2, 14), (3, 15), (4, 16), (5, 17), (6, 18), (7, 19), (8, 20), (9, 21), (10, 22), (11, 23), (12, 24), (13, 25), (14, 26), (15, 27), (16, 28), (17, 29), (18, 30), (19, 31), (20, 32), (21, 33), (22, 34), (23, 4)] mixed (by kernel_rfl) ?_
  refine Draw.step [(5, none)] rfl (by kernel_rfl) rfl (fun kq hkq => AOp.move' (.inl rfl) rfl ⟨rfl, rfl, Nat.le_refl _⟩) ?_
  refine Draw.step [(1, none)] rfl (by kernel_rfl) rfl (fun kq hkq => AOp.move' (.inl rfl) rfl ⟨rfl, rfl, Nat.le_refl _⟩) ?_
  refine Draw.step [(13, some 1)] rfl (by kernel_rfl) rfl (fun kq hkq => AOp.nilCheck' rfl rfl ⟨rfl, rfl, Nat.le_refl _⟩) ?_
  refine Draw.step [(14, some 2)] rfl (by kernel_rfl) rfl (fun kq hkq => AOp.fieldAddr' rfl (by decide) rfl ⟨rfl, rfl, Nat.le_refl _⟩) ?_
  refine Draw.step [(15, some 3)] rfl (by kernel_rfl) rfl (fun kq hkq => (by refine AOp.load1 (b := ?b1) (v := ?v1) rfl rfl ?hn1 ?hv1 ?hR1; (case hn1 => repeat (first | assumption | exact upd_same _ _ _ | refine (upd_other _ _ (by omega)).trans ?_)); (case hv1 => rfl); exact ⟨rfl, rfl, Nat.le_refl _⟩)) ?_
  refine Draw.step [(12, some 0), (16, some 4)] rfl (by kernel_rfl) rfl (fun kq hkq => AOp.bin' rfl rfl rfl rfl ⟨rfl, rfl, Nat.le_refl _⟩) ?_
  refine Draw.step [(17, some 5)] rfl (by kernel_rfl) rfl (fun kq hkq => AOp.move' (.inl rfl) rfl ⟨rfl, rfl, Nat.le_refl _⟩) ?_
  refine Draw.gd [(6, none), (18, some 6)] rfl (by kernel_rfl) (wantT rfl rfl rfl) (fun kq hkq hc => AOp.slots [(6, _)] (.cons rfl .nil) (AOp.move' (.inl rfl) rfl ⟨rfl, rfl, Nat.le_refl _⟩)) ?_
  refine Draw.gd [(1, none), (18, some 6)] rfl (by kernel_rfl) (wantT rfl rfl rfl) (fun kq hkq hc => AOp.slots [(1, _)] (.cons rfl .nil) (AOp.move' (.inl rfl) rfl ⟨rfl, rfl, Nat.le_refl _⟩)) ?_
  refine Draw.gd [(20, some 8), (18, some 6)] rfl (by kernel_rfl) (wantT rfl rfl rfl) (fun kq hkq hc => AOp.slots [(20, _)] (.cons (gvT rfl hc) .nil) (AOp.nilCheck' rfl rfl ⟨rfl, rfl, Nat.le_refl _⟩)) ?_
  refine Draw.gd [(21, some 9), (18, some 6)] rfl (by kernel_rfl) (wantT rfl rfl rfl) (fun kq hkq hc => AOp.slots [(21, _)] (.cons (gvT rfl hc) .nil) (AOp.fieldAddr' rfl (by decide) rfl ⟨rfl, rfl, Nat.le_refl _⟩)) ?_
  refine Draw.gd [(22, some 10), (18, some 6)] rfl (by kernel_rfl) (wantT rfl rfl rfl) (fun kq hkq hc => AOp.slots [(22, _)] (.cons (gvT rfl hc) .nil) ((by refine AOp.load1 (b := ?b2) (v := ?v2) rfl rfl ?hn2 ?hv2 ?hR2; (case hn2 => repeat (first | assumption | exact upd_same _ _ _ | refine (upd_other _ _ (by omega)).trans ?_)); (case hv2 => rfl); exact ⟨rfl, rfl, Nat.le_refl _⟩))) ?_
  refine Draw.gd [(19, some 7), (23, some 11), (18, some 6)] rfl (by kernel_rfl) (wantT rfl rfl rfl) (fun kq hkq hc => AOp.slots [(19, _), (23, _)] (.cons (gvT rfl hc) (.cons (gvT rfl hc) .nil)) (AOp.bin' rfl rfl rfl rfl ⟨rfl, rfl, Nat.le_refl _⟩)) ?_
  refine Draw.step [(18, some 6), (24, some 12)] rfl (by kernel_rfl) rfl (fun kq hkq => AOp.pickAnd rfl rfl rfl (fun hb => gvE rfl hb) ⟨rfl, rfl, Nat.le_refl _⟩) ?_
  refine Draw.step [(25, some 13)] rfl (by kernel_rfl) rfl (fun kq hkq => AOp.move' (.inl rfl) rfl ⟨rfl, rfl, Nat.le_refl _⟩) ?_
  refine Draw.gd [(0, none), (26, some 14)] rfl (by kernel_rfl) (wantT rfl rfl rfl) (fun kq hkq hc => AOp.slots [(0, _)] (.cons rfl .nil) (AOp.move' (.inl rfl) rfl ⟨rfl, rfl, Nat.le_refl _⟩)) ?_
  refine Draw.gd [(27, some 15), (26, some 14)] rfl (by kernel_rfl) (wantT rfl rfl rfl) (fun kq hkq hc => AOp.slots [(27, _)] (.cons (gvT rfl hc) .nil) (AOp.call' rfl rfl rfl (nat_ _ _ n c A ev r (hR.sub (by (repeat (first | exact sub_refl _ | assumption | refine sub_upd' ?_ (by ((repeat refine (upd_other _ _ (by omega)).trans ?_); first | exact hf _ (by omega))) | refine sub_over (by assumption) | refine sub_over0 ?_ | refine sub_trans (sub_same (by assumption)) ?_ | refine sub_dropu ?_ | refine sub_drop ?_ | refine sub_put ?_ (by repeat (first | assumption | exact upd_same _ _ _ | refine (upd_other _ _ (by omega)).trans ?_))))))) (fun _ _ _ h => h))) ?_
  refine Draw.gd [(1, none), (26, some 14)] rfl (by kernel_rfl) (wantT rfl rfl rfl) (fun kq hkq hc => AOp.slots [(1, _)] (.cons rfl .nil) (AOp.move' (.inl rfl) rfl ⟨rfl, rfl, Nat.le_refl _⟩)) ?_
  refine Draw.gd [(29, some 17), (26, some 14)] rfl (by kernel_rfl) (wantT rfl rfl rfl) (fun kq hkq hc => AOp.slots [(29, _)] (.cons (gvT rfl hc) .nil) (AOp.nilCheck' rfl rfl ⟨rfl, rfl, Nat.le_refl _⟩)) ?_
  refine Draw.gd [(30, some 18), (26, some 14)] rfl (by kernel_rfl) (wantT rfl rfl rfl) (fun kq hkq hc => AOp.slots [(30, _)] (.cons (gvT rfl hc) .nil) (AOp.fieldAddr' rfl (by decide) rfl ⟨rfl, rfl, Nat.le_refl _⟩)) ?_
  refine Draw.gd [(31, some 19), (26, some 14)] rfl (by kernel_rfl) (wantT rfl rfl rfl) (fun kq hkq hc => AOp.slots [(31, _)] (.cons (gvT rfl hc) .nil) ((by refine AOp.load1 (b := ?b3) (v := ?v3) rfl rfl ?hn3 ?hv3 ?hR3; (case hn3 => repeat (first | assumption | exact upd_same _ _ _ | refine (upd_other _ _ (by omega)).trans ?_)); (case hv3 => rfl); exact ⟨rfl, rfl, Nat.le_refl _⟩))) ?_
  refine Draw.gd [(28, some 16), (32, some 20), (26, some 14)] rfl (by kernel_rfl) (wantT rfl rfl rfl) (fun kq hkq hc => AOp.slots [(28, _), (32, _)] (.cons (gvT rfl hc) (.cons (gvT rfl hc) .nil)) (AOp.bin' rfl rfl rfl rfl ⟨rfl, rfl, Nat.le_refl _⟩)) ?_
  refine Draw.step [(26, some 14), (33, some 21)] rfl (by kernel_rfl) rfl (fun kq hkq => AOp.pickAnd rfl rfl rfl (fun hb => gvE rfl hb) ⟨rfl, rfl, Nat.le_refl _⟩) ?_
  refine Draw.step [(34, some 22)] rfl (by kernel_rfl) rfl (fun kq hkq => AOp.move' (.inr rfl) rfl ⟨rfl, rfl, Nat.le_refl _⟩) ?_
  refine Draw.done fun kq hkq => ?_
  show aOps _ _ _ _ [] ⟨_, _, _⟩
  refine aOps_end ?_
  show ACode _ _ _ _ _ _
  refine ACode.ret ?_
  exact RetQ.one rfl rfl (by (repeat (first | exact sub_refl _ | assumption | refine sub_upd' ?_ (by ((repeat refine (upd_other _ _ (by omega)).trans ?_); first | exact hf _ (by omega))) | refine sub_over (by assumption) | refine sub_over0 ?_ | refine sub_trans (sub_same (by assumption)) ?_ | refine sub_dropu ?_ | refine sub_drop ?_ | refine sub_put ?_ (by repeat (first | assumption | exact upd_same _ _ _ | refine (upd_other _ _ (by omega)).trans ?_))))) stays (fun hk => ⟨(by simp), rfl, by omega⟩)

theorem valueTakes (h2 : H 2 = some hBlk) (bs : List UInt8) (A : Option Addr) (c : Nat) (hD : SLC H 1 A bs.length c (bs.map bv)) (cols : List Col) (B : Option Addr) (d : Nat) (hC : SLC H 3 B cols.length d (cols3 cols)) (hbl : bs.length ≤ 9223372036854775807) (hcl : cols.length ≤ 9223372036854775807) : ACalls Tryd.prog 4 7 [.slice A bs.length c, .slice B cols.length d] H k (fun v _ _ => v = .bool true) := by
  refine ACalls.fresh fun hf => ?_
  refine ACalls.body Tryd.func7 rfl (Nat.le_of_ble_eq_true rfl) ?_
  have hY : Ab.Sub H H := sub_refl H
  refine ACode.seq ?_
  refine ACode.region' [0] (by kernel_rfl) rfl ?_
  refine aOps_1 rfl rfl rfl (AOp.move' (.inr rfl) rfl ?_)
  refine aOps_end ?_
  show ACode _ _ _ _ _ _
  refine ACode.seq ?_
  refine ACode.seq ?_
  refine ACode.region' [0, 1, 2, 3, 4, 5, 6, 7, 8, 9, 10, 11, 12] (by kernel_rfl) rfl ?_
  refine aOps_1 rfl rfl rfl (AOp.move' (.inl rfl) rfl ?_)
  refine aOps_1 rfl rfl rfl (AOp.len' rfl rfl ?_)
  refine aOps_1 rfl rfl rfl (AOp.bin' rfl rfl rfl rfl ?_)
  refine aOps_1 rfl rfl rfl (AOp.move' (.inl rfl) rfl ?_)
  refine aOps_gd0 rfl rfl (wantF rfl rfl rfl) (fun hc => AOp.slots [(1, _)] (.cons rfl .nil) (AOp.move' (.inl rfl) rfl ⟨rfl, rfl, rfl⟩)) ?_
  refine aOps_gd0 rfl rfl (wantF rfl rfl rfl) (fun hc => AOp.slots [(11, _)] (.cons (gvT rfl hc) .nil) (AOp.len' rfl rfl ⟨rfl, rfl, rfl⟩)) ?_
  refine aOps_gd0 rfl rfl (wantF rfl rfl rfl) (fun hc => AOp.slots [(12, _)] (.cons (gvT rfl hc) .nil) (AOp.bin' rfl rfl rfl rfl ⟨rfl, rfl, rfl⟩)) ?_
  refine aOps_1 rfl rfl rfl (AOp.pickOr rfl rfl rfl (fun hb => gvE rfl (t_not hb)) ?_)
  refine aOps_1 rfl rfl rfl (AOp.move' (.inl rfl) rfl ?_)
  refine aOps_gd0 rfl rfl (wantF rfl rfl rfl) (fun hc => AOp.slots [(1, _)] (.cons rfl .nil) (AOp.move' (.inl rfl) rfl ⟨rfl, rfl, rfl⟩)) ?_
  refine aOps_gd0 rfl rfl (wantF rfl rfl rfl) (fun hc => AOp.slots [(16, _)] (.cons (gvT rfl hc) .nil) (AOp.len' rfl rfl ⟨rfl, rfl, rfl⟩)) ?_
  refine aOps_gd0 rfl rfl (wantF rfl rfl rfl) (fun hc => AOp.slots [(17, _)] (.cons (gvT rfl hc) .nil) (AOp.bin' rfl rfl rfl rfl ⟨rfl, rfl, rfl⟩)) ?_
  refine aOps_1 rfl rfl rfl (AOp.pickOr rfl rfl rfl (fun hb => gvE rfl (t_not hb)) ?_)
  refine aOps_end ?_
  show ACode _ _ _ _ _ _
  refine ACode.cond rfl (fun c0 => ?_) (fun c0 => ?_)
  · try simp only [decide_eq_true_eq, decide_eq_false_iff_not, beq_iff_eq, beq_eq_false_iff_ne, ne_eq, bne_iff_ne, Bool.not_eq_true', Bool.not_eq_false', Int.not_lt, Int.not_le, gt_iff_lt, ge_iff_le, bne_eq_false_iff_eq, Bool.not_eq_eq_eq_not, Bool.not_true, Bool.not_false] at c0
    refine ACode.seq ?_
    refine ACode.region' [0, 1] (by kernel_rfl) rfl ?_
    refine aOps_q rfl rfl rfl (AOp.call' rfl rfl rfl (awake15 4 _ _) (fun _ _ _ h => h)) (fun kq hkq => ?_)
    refine aOps_1 rfl rfl rfl (AOp.move' (.inr rfl) rfl ?_)
    refine aOps_end ?_
    show ACode _ _ _ _ _ _
    refine ACode.ret ?_
    try simp only [thenA, blockA, if_true]
    exact RetQ.one rfl rfl (by (repeat (first | exact sub_refl _ | assumption | refine sub_upd' ?_ (by ((repeat refine (upd_other _ _ (by omega)).trans ?_); first | exact hf _ (by omega))) | refine sub_over (by assumption) | refine sub_over0 ?_ | refine sub_trans (sub_same (by assumption)) ?_ | refine sub_dropu ?_ | refine sub_drop ?_ | refine sub_put ?_ (by repeat (first | assumption | exact upd_same _ _ _ | refine (upd_other _ _ (by omega)).trans ?_))))) stays (fun hk => rfl)
  · try simp only [decide_eq_true_eq, decide_eq_false_iff_not, beq_iff_eq, beq_eq_false_iff_ne, ne_eq, bne_iff_ne, Bool.not_eq_true', Bool.not_eq_false', Int.not_lt, Int.not_le, gt_iff_lt, ge_iff_le, bne_eq_false_iff_eq, Bool.not_eq_eq_eq_not, Bool.not_true, Bool.not_false] at c0
    have c0b : bs.length ≤ 800 ∧ cols.length ≤ 100 := by simp at c0; omega
    refine ACode.skip ?_
    show ACode _ _ _ _ _ _
    refine ACode.seq ?_
    refine ACode.region' [0, 1, 2, 3, 4, 5, 6] (by kernel_rfl) rfl ?_
    refine aOps_1 rfl rfl rfl (AOp.move' (.inl rfl) rfl ?_)
    refine aOps_1 rfl rfl rfl ?_
    refine AOp.call' rfl rfl rfl (newN _ _ A c bs (hD.sub (by (repeat (first | exact sub_refl _ | assumption | refine sub_upd' ?_ (by ((repeat refine (upd_other _ _ (by omega)).trans ?_); first | exact hf _ (by omega))) | refine sub_over (by assumption) | refine sub_over0 ?_ | refine sub_trans (sub_same (by assumption)) ?_ | refine sub_dropu ?_ | refine sub_drop ?_ | refine sub_put ?_ (by repeat (first | assumption | exact upd_same _ _ _ | refine (upd_other _ _ (by omega)).trans ?_)))))) (by omega)) ?_
    have hok0 : (⟨bs, 0, 0, 0⟩ : Rd).ok := ⟨Nat.zero_le _, by show bs.length ≤ 1000000000; omega, Int.le_refl 0, (by decide : (0 : Int) ≤ 100), Int.le_refl 0, (by decide : (0 : Int) ≤ 1000000000), fun _ => rfl⟩
    have htv := takeV_ok hok0
    have hts := takeSch_ok hok0
    have htw := takeRows_ok cols hok0
    have htl := takeRows_le (r := (⟨bs, 0, 0, 0⟩ : Rd)) cols
    rintro _ HLa ka ⟨hka, hfLa, hsLa, na, Ba, da, rfl, hnaa, hnba, hRa, hBaa⟩
    refine aOps_1 rfl rfl rfl (AOp.move' (.inl rfl) rfl ?_)
    refine aOps_1 rfl rfl rfl (AOp.buildS (cells := #[_, _, _, _]) rfl rfl rfl ?_)
    refine aOps_1 rfl rfl rfl (AOp.boxV rfl rfl ?_)
    have hXa : Ab.Sub H (upd HLa ka (some (rfBlk A c (⟨bs, 0, 0, 0⟩ : Rd)))) := sub_trans hsLa (sub_upd' (sub_refl _) (hfLa _ (Nat.le_refl _)))
    have hRna := hRa.sub (sub_upd' (b := some (rfBlk A c (⟨bs, 0, 0, 0⟩ : Rd))) (sub_refl HLa) (hfLa _ (Nat.le_refl _)))
    have hRfa : RfN (upd HLa ka (some (rfBlk A c (⟨bs, 0, 0, 0⟩ : Rd)))) ka A c (⟨bs, 0, 0, 0⟩ : Rd) := ⟨upd_same _ _ _, hD.sub hXa, Away.of hD (hf _ (by omega)), hok0⟩
    have hAna : Away A bs.length na := Away.of hD (hf _ (by omega))
    have hBma : Away Ba bs.length ka := Away.ne (fun a ha => by have := (hBaa a ha).2; omega)
    have h2a := hXa _ _ h2
    refine aOps_1 rfl rfl rfl (AOp.move' (.inr rfl) rfl ?_)
    refine aOps_1 rfl rfl rfl (AOp.move' (.inr rfl) rfl ?_)
    refine aOps_end ?_
    show ACode _ _ _ _ _ _
    refine ACode.seq ?_
    refine ACode.seq ?_
    refine ACode.region' [0, 1, 2, 3, 4, 5, 6, 7, 8, 9, 10] (by kernel_rfl) rfl ?_
    refine aOps_1 rfl rfl rfl (AOp.move' (.inl rfl) rfl ?_)
    refine aOps_1 rfl rfl rfl ?_
    refine AOp.call' rfl rfl rfl (ntakeV _ _ h2a na da Ba _ (⟨bs, 0, 0, 0⟩ : Rd) hRna) ?_
    rintro _ HLan kan ⟨rfl, hPan⟩
    have hfLan := hPan.2.1
    have hkan := hPan.1
    have hsLan := hPan.2.2.1
    have hPban := hPan
    obtain ⟨evan, hRan⟩ := hPban.2.2.2
    have hRfan : RfN HLan ka A c (⟨bs, 0, 0, 0⟩ : Rd) := hRfa.by hPan (by omega) hAna
    refine aOps_1 rfl rfl rfl (AOp.move' (.inl rfl) rfl ?_)
    refine aOps_1 rfl rfl rfl ?_
    refine AOp.call' rfl rfl rfl (rtakeV _ _ ka c A (⟨bs, 0, 0, 0⟩ : Rd) hRfan) ?_
    rintro _ HLar kar ⟨rfl, hPar⟩
    have hfLar := hPar.2.1
    have hkar := hPar.1
    have hsLar := hPar.2.2.1
    have hRra := hPar.2.2.2
    have hRma := hRan.by hPar (by omega) (by rw [takeV_bs]; exact hBma) hRfan.hn (by show (58 : Nat) ≠ 124; decide)
    have hZa : Ab.Sub H HLar := fun m b hm => hsLar _ _ ((upd_other _ _ (by have := old_lt hf hm; omega)).trans (hsLan _ _ ((upd_other _ _ (by have := old_lt hf hm; omega)).trans (hXa _ _ hm))))
    have hYa_ := sub_trans hY hZa
    have hDa_ := hD.sub hZa
    have hCa_ := hC.sub hZa
    have h2a_ := hZa _ _ h2
    have hfa_ := hfLar
    refine aOps_1 rfl rfl rfl (AOp.neAgg true rfl rfl rfl (Val.sc htv.2) (Val.sc htv.2) ⟨fun _ => rfl, fun _ => rfl⟩ ?_)
    refine aOps_1 rfl rfl rfl (AOp.move' (.inl rfl) rfl ?_)
    refine aOps_w rfl rfl rfl (AOp.move' (.inl rfl) rfl ?_)
    refine aOps_w rfl rfl rfl (AOp.move' (.inl rfl) rfl ?_)
    refine aOps_wq rfl rfl rfl (AOp.call' rfl rfl rfl (end_b _ _ h2a_ na ka da c Ba A _ _ hRma hRra) (fun _ _ _ h => h)) (fun kq hkq => ?_)
    refine aOps_w rfl rfl rfl (AOp.un' rfl rfl rfl ?_)
    refine aOps_1 rfl rfl rfl (AOp.pickB rfl rfl rfl ?_)
    refine aOps_end ?_
    show ACode _ _ _ _ _ _
    refine ACode.cond rfl (fun c1 => absurd c1 (by simp)) (fun c1 => ?_)
    refine ACode.skip ?_
    show ACode _ _ _ _ _ _
    refine ACode.seq ?_
    refine ACode.region' [0, 1, 2, 3, 4, 5, 6] (by kernel_rfl) rfl ?_
    refine aOps_1 rfl rfl rfl (AOp.move' (.inl rfl) rfl ?_)
    refine aOps_1 rfl rfl rfl ?_
    refine AOp.call' rfl rfl rfl (newN _ _ A c bs (hDa_.sub (by (repeat (first | exact sub_refl _ | assumption | refine sub_upd' ?_ (by ((repeat refine (upd_other _ _ (by omega)).trans ?_); first | exact hf _ (by omega) | exact hfLa _ (by omega) | exact hfLan _ (by omega) | exact hfLar _ (by omega))) | refine sub_trans ?_ hsLar | refine sub_trans ?_ hsLan | refine sub_trans ?_ hsLa | refine sub_over (by assumption) | refine sub_over0 ?_ | refine sub_trans (sub_same (by assumption)) ?_ | refine sub_dropu ?_ | refine sub_drop ?_ | refine sub_put ?_ (by repeat (first | assumption | exact upd_same _ _ _ | refine (upd_other _ _ (by omega)).trans ?_ | refine hsLar _ _ ?_ | refine hsLan _ _ ?_ | refine hsLa _ _ ?_)))))) (by omega)) ?_
    rintro _ HLb kb ⟨hkb, hfLb, hsLb, nb, Bb, db, rfl, hnab, hnbb, hRb, hBab⟩
    refine aOps_1 rfl rfl rfl (AOp.move' (.inl rfl) rfl ?_)
    refine aOps_1 rfl rfl rfl (AOp.buildS (cells := #[_, _, _, _]) rfl rfl rfl ?_)
    refine aOps_1 rfl rfl rfl (AOp.boxV rfl rfl ?_)
    have hXb : Ab.Sub HLar (upd HLb kb (some (rfBlk A c (⟨bs, 0, 0, 0⟩ : Rd)))) := sub_trans hsLb (sub_upd' (sub_refl _) (hfLb _ (Nat.le_refl _)))
    have hRnb := hRb.sub (sub_upd' (b := some (rfBlk A c (⟨bs, 0, 0, 0⟩ : Rd))) (sub_refl HLb) (hfLb _ (Nat.le_refl _)))
    have hRfb : RfN (upd HLb kb (some (rfBlk A c (⟨bs, 0, 0, 0⟩ : Rd)))) kb A c (⟨bs, 0, 0, 0⟩ : Rd) := ⟨upd_same _ _ _, hDa_.sub hXb, Away.of hDa_ (hfa_ _ (by omega)), hok0⟩
    have hAnb : Away A bs.length nb := Away.of hDa_ (hfa_ _ (by omega))
    have hBmb : Away Bb bs.length kb := Away.ne (fun a ha => by have := (hBab a ha).2; omega)
    have h2b := hXb _ _ h2a_
    refine aOps_1 rfl rfl rfl (AOp.move' (.inr rfl) rfl ?_)
    refine aOps_1 rfl rfl rfl (AOp.move' (.inr rfl) rfl ?_)
    refine aOps_end ?_
    show ACode _ _ _ _ _ _
    refine ACode.seq ?_
    refine ACode.seq ?_
    refine ACode.region' [0, 1, 2, 3, 4, 5, 6, 7, 8, 9, 10, 11] (by kernel_rfl) rfl ?_
    refine aOps_1 rfl rfl rfl (AOp.move' (.inl rfl) rfl ?_)
    refine aOps_1 rfl rfl rfl ?_
    refine AOp.call' rfl rfl rfl (ntakeS _ _ h2b nb db Bb _ (⟨bs, 0, 0, 0⟩ : Rd) hRnb) ?_
    rintro _ HLbn kbn ⟨⟨As, cs, rfl, hs1, hsa⟩, hPbn⟩
    have hfLbn := hPbn.2.1
    have hkbn := hPbn.1
    have hsLbn := hPbn.2.2.1
    have hPbbn := hPbn
    obtain ⟨evbn, hRbn⟩ := hPbbn.2.2.2
    have hRfbn : RfN HLbn kb A c (⟨bs, 0, 0, 0⟩ : Rd) := hRfb.by hPbn (by omega) hAnb
    refine aOps_1 rfl rfl rfl (AOp.move' (.inl rfl) rfl ?_)
    refine aOps_1 rfl rfl rfl ?_
    refine AOp.call' rfl rfl rfl (rtakeS _ _ kb c A (⟨bs, 0, 0, 0⟩ : Rd) hRfbn) ?_
    rintro _ HLbr kbr ⟨⟨Ar, cr, rfl, hr1, hra⟩, hPbr⟩
    have hfLbr := hPbr.2.1
    have hkbr := hPbr.1
    have hsLbr := hPbr.2.2.1
    have hRrb := hPbr.2.2.2
    have hRmb := hRbn.by hPbr (by omega) (by rw [hts.2.2]; exact hBmb) hRfbn.hn (by show (58 : Nat) ≠ 124; decide)
    have hZb : Ab.Sub HLar HLbr := fun m b hm => hsLbr _ _ ((upd_other _ _ (by have := old_lt hfa_ hm; omega)).trans (hsLbn _ _ ((upd_other _ _ (by have := old_lt hfa_ hm; omega)).trans (hXb _ _ hm))))
    have hYb_ := sub_trans hYa_ hZb
    have hDb_ := hDa_.sub hZb
    have hCb_ := hCa_.sub hZb
    have h2b_ := hZb _ _ h2a_
    have hfb_ := hfLbr
    have hs2 : SLC HLbr 3 As (takeSch (⟨bs, 0, 0, 0⟩ : Rd)).1.length cs (cols3 (takeSch (⟨bs, 0, 0, 0⟩ : Rd)).1) := (SLC.away (Away.ne (fun a ha => by have := (hsa a ha).1; omega)) hs1).sub hsLbr
    refine aOps_q rfl rfl rfl (AOp.call' rfl rfl rfl (same_s _ _ (takeSch (⟨bs, 0, 0, 0⟩ : Rd)).1 As Ar cs cr hs2 hr1 (by have := takeSch_le hok0; omega) hts.2.1) (fun _ _ _ h => h)) (fun kq hkq => ?_)
    refine aOps_1 rfl rfl rfl (AOp.un' rfl rfl rfl ?_)
    refine aOps_1 rfl rfl rfl (AOp.move' (.inl rfl) rfl ?_)
    refine aOps_w rfl rfl rfl (AOp.move' (.inl rfl) rfl ?_)
    refine aOps_w rfl rfl rfl (AOp.move' (.inl rfl) rfl ?_)
    refine aOps_wq rfl rfl rfl (AOp.call' rfl rfl rfl (end_b _ _ h2b_ nb kb db c Bb A _ _ hRmb hRrb) (fun _ _ _ h => h)) (fun kq hkq => ?_)
    refine aOps_w rfl rfl rfl (AOp.un' rfl rfl rfl ?_)
    refine aOps_1 rfl rfl rfl (AOp.pickB rfl rfl rfl ?_)
    refine aOps_end ?_
    show ACode _ _ _ _ _ _
    refine ACode.cond rfl (fun c2 => absurd c2 (by simp)) (fun c2 => ?_)
    refine ACode.skip ?_
    show ACode _ _ _ _ _ _
    refine ACode.seq ?_
    refine ACode.region' [0, 1, 2, 3, 4, 5, 6] (by kernel_rfl) rfl ?_
    refine aOps_1 rfl rfl rfl (AOp.move' (.inl rfl) rfl ?_)
    refine aOps_1 rfl rfl rfl ?_
    refine AOp.call' rfl rfl rfl (newN _ _ A c bs (hDb_.sub (by (repeat (first | exact sub_refl _ | assumption | refine sub_upd' ?_ (by ((repeat refine (upd_other _ _ (by omega)).trans ?_); first | exact hf _ (by omega) | exact hfLa _ (by omega) | exact hfLan _ (by omega) | exact hfLar _ (by omega) | exact hfLb _ (by omega) | exact hfLbn _ (by omega) | exact hfLbr _ (by omega))) | refine sub_trans ?_ hsLbr | refine sub_trans ?_ hsLbn | refine sub_trans ?_ hsLb | refine sub_trans ?_ hsLar | refine sub_trans ?_ hsLan | refine sub_trans ?_ hsLa | refine sub_over (by assumption) | refine sub_over0 ?_ | refine sub_trans (sub_same (by assumption)) ?_ | refine sub_dropu ?_ | refine sub_drop ?_ | refine sub_put ?_ (by repeat (first | assumption | exact upd_same _ _ _ | refine (upd_other _ _ (by omega)).trans ?_ | refine hsLbr _ _ ?_ | refine hsLbn _ _ ?_ | refine hsLb _ _ ?_ | refine hsLar _ _ ?_ | refine hsLan _ _ ?_ | refine hsLa _ _ ?_)))))) (by omega)) ?_
    rintro _ HLc kc ⟨hkc, hfLc, hsLc, nc, Bc, dc, rfl, hnac, hnbc, hRc, hBac⟩
    refine aOps_1 rfl rfl rfl (AOp.move' (.inl rfl) rfl ?_)
    refine aOps_1 rfl rfl rfl (AOp.buildS (cells := #[_, _, _, _]) rfl rfl rfl ?_)
    refine aOps_1 rfl rfl rfl (AOp.boxV rfl rfl ?_)
    have hXc : Ab.Sub HLbr (upd HLc kc (some (rfBlk A c (⟨bs, 0, 0, 0⟩ : Rd)))) := sub_trans hsLc (sub_upd' (sub_refl _) (hfLc _ (Nat.le_refl _)))
    have hRnc := hRc.sub (sub_upd' (b := some (rfBlk A c (⟨bs, 0, 0, 0⟩ : Rd))) (sub_refl HLc) (hfLc _ (Nat.le_refl _)))
    have hRfc : RfN (upd HLc kc (some (rfBlk A c (⟨bs, 0, 0, 0⟩ : Rd)))) kc A c (⟨bs, 0, 0, 0⟩ : Rd) := ⟨upd_same _ _ _, hDb_.sub hXc, Away.of hDb_ (hfb_ _ (by omega)), hok0⟩
    have hAnc : Away A bs.length nc := Away.of hDb_ (hfb_ _ (by omega))
    have hBmc : Away Bc bs.length kc := Away.ne (fun a ha => by have := (hBac a ha).2; omega)
    have h2c := hXc _ _ h2b_
    refine aOps_1 rfl rfl rfl (AOp.move' (.inr rfl) rfl ?_)
    refine aOps_1 rfl rfl rfl (AOp.move' (.inr rfl) rfl ?_)
    refine aOps_end ?_
    show ACode _ _ _ _ _ _
    refine ACode.seq ?_
    refine ACode.region' [0, 1, 2, 3, 4, 5, 6, 7, 8, 9, 10, 11, 12, 13, 14, 15] (by kernel_rfl) rfl ?_
    refine aOps_1 rfl rfl rfl (AOp.move' (.inl rfl) rfl ?_)
    refine aOps_1 rfl rfl rfl (AOp.move' (.inl rfl) rfl ?_)
    refine aOps_1 rfl rfl rfl ?_
    refine AOp.call' rfl rfl rfl (ntakeW _ _ h2c nc dc Bc _ (⟨bs, 0, 0, 0⟩ : Rd) hRnc cols B d (hCb_.sub hXc) (Away.of hCb_ (hfLbr _ (by omega))) (by omega)) ?_
    rintro _ HLcn kcn ⟨⟨Aw, cw, ws, rfl, hw1, hw0⟩, hPcn⟩
    have hfLcn := hPcn.2.1
    have hkcn := hPcn.1
    have hsLcn := hPcn.2.2.1
    have hPbcn := hPcn
    obtain ⟨evcn, hRcn⟩ := hPbcn.2.2.2
    have hRfcn : RfN HLcn kc A c (⟨bs, 0, 0, 0⟩ : Rd) := hRfc.by hPcn (by omega) hAnc
    refine aOps_1 rfl rfl rfl (AOp.move' (.inl rfl) rfl ?_)
    refine aOps_1 rfl rfl rfl (AOp.move' (.inl rfl) rfl ?_)
    refine aOps_1 rfl rfl rfl ?_
    refine AOp.call' rfl rfl rfl (rtakeW _ _ kc c A (⟨bs, 0, 0, 0⟩ : Rd) hRfcn cols B d ((SLC.away (Away.of hCb_ (hfLbr _ (by omega))) (hCb_.sub hXc)).sub hsLcn) (Away.of hCb_ (hfLbr _ (by omega))) (by omega)) ?_
    rintro _ HLcr kcr ⟨⟨Au, cu, us, rfl, hu1, hu2⟩, hPcr⟩
    have hfLcr := hPcr.2.1
    have hkcr := hPcr.1
    have hsLcr := hPcr.2.2.1
    have hRrc := hPcr.2.2.2
    have hRmc := hRcn.by hPcr (by omega) (by rw [htw.2.2]; exact hBmc) hRfcn.hn (by show (58 : Nat) ≠ 124; decide)
    have hZc : Ab.Sub HLbr HLcr := fun m b hm => hsLcr _ _ ((upd_other _ _ (by have := old_lt hfb_ hm; omega)).trans (hsLcn _ _ ((upd_other _ _ (by have := old_lt hfb_ hm; omega)).trans (hXc _ _ hm))))
    have hYc_ := sub_trans hYb_ hZc
    have hDc_ := hDb_.sub hZc
    have hCc_ := hCb_.sub hZc
    have h2c_ := hZc _ _ h2b_
    have hfc_ := hfLcr
    have hw2 := hw1.sub (sub_trans (cutH_by hsLcr (by omega)) cutH_sub)
    have hw3 := hw0.sub (sub_trans (cutH_by hsLcr (by omega)) cutH_sub)
    have hu3 := hu1.sub cutH_sub
    have hu4 := hu2.sub cutH_sub
    refine aOps_q rfl rfl rfl (AOp.call' rfl rfl rfl (same_w _ _ (takeRows cols (⟨bs, 0, 0, 0⟩ : Rd)).1 ws us Aw Au cw cu hw2 hu3 hw3 hu4 (by rw [hw3.len]; exact Nat.le_trans htl.1 (by decide)) (fun r hr => by rw [htl.2 r hr]; omega) htw.2.1) (fun _ _ _ h => h)) (fun kq hkq => ?_)
    refine aOps_1 rfl rfl rfl (AOp.move' (.inl rfl) rfl ?_)
    refine aOps_w rfl rfl rfl (AOp.move' (.inl rfl) rfl ?_)
    refine aOps_w rfl rfl rfl (AOp.move' (.inl rfl) rfl ?_)
    refine aOps_wq rfl rfl rfl (AOp.call' rfl rfl rfl (end_b _ _ h2c_ nc kc dc c Bc A _ _ hRmc hRrc) (fun _ _ _ h => h)) (fun kq hkq => ?_)
    refine aOps_1 rfl rfl rfl (AOp.pickB rfl rfl rfl ?_)
    refine aOps_1 rfl rfl rfl (AOp.move' (.inl rfl) rfl ?_)
    refine aOps_wq rfl rfl rfl (AOp.call' rfl rfl rfl (awake15 4 _ _) (fun _ _ _ h => h)) (fun kq hkq => ?_)
    refine aOps_1 rfl rfl rfl (AOp.pickB rfl rfl rfl ?_)
    refine aOps_1 rfl rfl rfl (AOp.move' (.inr rfl) rfl ?_)
    refine aOps_end ?_
    show ACode _ _ _ _ _ _
    refine ACode.ret ?_
    try simp only [thenA, blockA, if_true]
    exact RetQ.one rfl rfl (sub_refl _) (fun n b h => ⟨b, hYc_ n b h⟩) (fun hk => rfl)
end

end Go.Proofs.YtnciojaecelhmaaDoor
