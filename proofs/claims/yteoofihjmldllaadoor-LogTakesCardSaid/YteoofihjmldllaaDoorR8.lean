/- Contracts over the abstract states: the same values, schemas and rows; both readers' ends; ValueTakes. -/
import Derived.Test.YteoofihjmldllaaDoorR7
set_option linter.unusedVariables false
set_option linter.unusedSimpArgs false
set_option maxRecDepth 100000
namespace Go.Proofs.YteoofihjmldllaaDoor
open Go Go.Ab

def Col.ok (a : Col) : Prop := (Lit.int .i64 a.kind).wf = true ∧ (Lit.int .i64 a.way).wf = true
theorem Col.sc {a : Col} (h : a.ok) : (scals [.int .i64, .bool, .int .i64] (cc a).cells.toList).isSome = true := by
  obtain ⟨h1, h2⟩ := h
  show (scals [.int .i64, .bool, .int .i64] [.int .i64 a.kind, .bool a.null, .int .i64 a.way]).isSome = true
  simp [scals, scal, h1, h2]
theorem itS_ok {s : List Col × Rd} (h1 : s.2.ok) (h2 : ∀ a ∈ s.1, a.ok) (i : Nat) : (itR sStep s i).2.ok ∧ ∀ a ∈ (itR sStep s i).1, a.ok := by
  induction i with
  | zero => exact ⟨h1, h2⟩
  | succ i ih =>
    refine ⟨colStep_ok ih.1, fun a ha => ?_⟩
    rcases List.mem_append.1 ha with ha | ha
    · exact ih.2 a ha
    · rw [List.mem_singleton.1 ha]
      have a1 := Rd.fix1_ok ih.1
      have a2 := Rd.fix1_ok a1.1
      have a3 := Rd.fix1_ok a2.1
      exact ⟨wf_i64 (n := ((itR sStep s i).2.fix1.1 : Int)) (by omega) (by omega), wf_i64 (n := ((itR sStep s i).2.fix1.2.fix1.2.fix1.1 : Int) - 1) (by omega) (by omega)⟩
theorem runR_it {α : Type} (f : α × Rd → α × Rd) : ∀ (n : Nat) (s : α × Rd), ∃ i, runR f n s = itR f s i
  | 0, s => ⟨0, rfl⟩
  | n + 1, s => by
    rw [runR]
    split
    · exact ⟨0, rfl⟩
    · obtain ⟨i, h⟩ := runR_it f n (f s)
      refine ⟨i + 1, h.trans ?_⟩
      clear h
      induction i with
      | zero => rfl
      | succ i ih => exact congrArg f ih
theorem takeSch_ok {r : Rd} (h : r.ok) : (takeSch r).2.ok ∧ (∀ a ∈ (takeSch r).1, a.ok) ∧ (takeSch r).2.bs = r.bs := by
  obtain ⟨i, hi⟩ := runR_it sStep r.fix1.1 ([], r.fix1.2)
  have h1 := itS_ok (s := ([], r.fix1.2)) (Rd.fix1_ok h).1 (fun a ha => by cases ha) i
  have hb := itS_bs ([], r.fix1.2) i
  have e : schRun r = itR sStep ([], r.fix1.2) i := hi
  unfold takeSch
  rw [e]
  refine ⟨Rd.fail_ok h1.1 (schemaI_le _).1 (schemaI_le _).2, fun a ha => ?_, by show (Rd.fail _ _).bs = _; rw [Rd.fail_bs, hb, Rd.fix1_bs]⟩
  simp only at ha
  split at ha
  · cases ha
  · exact h1.2 a ha
theorem itW_ok (cols : List Col) {s : List (List Val) × Rd} (h1 : s.2.ok) (h2 : ∀ row ∈ s.1, ∀ v ∈ row, v.ok) (i : Nat) : ∀ row ∈ (itR (rStep cols) s i).1, ∀ v ∈ row, v.ok := by
  induction i with
  | zero => exact h2
  | succ i ih =>
    intro row hr
    rcases List.mem_append.1 hr with hr | hr
    · exact ih row hr
    · rw [List.mem_singleton.1 hr]
      exact (itV_ok ([], (itR (rStep cols) s i).2) (itRow_ok cols s h1 i) (fun v hv => by cases hv) _).2
theorem takeRows_ok {r : Rd} (cols : List Col) (h : r.ok) : (takeRows cols r).2.ok ∧ (∀ row ∈ (takeRows cols r).1, ∀ v ∈ row, v.ok) ∧ (takeRows cols r).2.bs = r.bs := by
  obtain ⟨i, hi⟩ := runR_it (rStep cols) r.var.1 ([], rows0 r)
  have h1 := itRow_ok cols ([], rows0 r) (rows0_ok h) i
  have h2 := itW_ok cols (s := ([], rows0 r)) (rows0_ok h) (fun a ha => by cases ha) i
  have hb := itRow_bs cols ([], rows0 r) i
  have e : rowsRun cols r = itR (rStep cols) ([], rows0 r) i := hi
  unfold takeRows
  rw [e]
  refine ⟨h1, fun a ha => ?_, by rw [hb, rows0_bs]⟩
  simp only at ha
  split at ha
  · cases ha
  · exact h2 a ha
theorem takeRows_le {r : Rd} (cols : List Col) : (takeRows cols r).1.length ≤ 65536 ∧ ∀ row ∈ (takeRows cols r).1, row.length = cols.length := by
  have h0 : ∀ (n : Nat) (s : List (List Val) × Rd), (runR (rStep cols) n s).1.length ≤ s.1.length + n := by
    intro n
    induction n with
    | zero => intro s; exact Nat.le_refl _
    | succ n ih =>
      intro s
      rw [runR]
      split
      · omega
      · have := ih (rStep cols s)
        have e : (rStep cols s).1.length = s.1.length + 1 := by show (s.1 ++ [_]).length = _; rw [List.length_append]; rfl
        omega
  have h1 : ∀ (i : Nat), ∀ row ∈ (itR (rStep cols) ([], rows0 r) i).1, row.length = cols.length := by
    intro i
    induction i with
    | zero => intro row hr; cases hr
    | succ i ih =>
      intro row hr
      rcases List.mem_append.1 hr with hr | hr
      · exact ih row hr
      · rw [List.mem_singleton.1 hr]; exact rowOf_len _ _
  unfold takeRows
  simp only
  split
  · exact ⟨Nat.zero_le _, fun a ha => by cases ha⟩
  · rename_i he
    obtain ⟨i, hi⟩ := runR_it (rStep cols) r.var.1 ([], rows0 r)
    have e : rowsRun cols r = itR (rStep cols) ([], rows0 r) i := hi
    refine ⟨?_, by rw [e]; exact h1 i⟩
    by_cases hz : (rows0 r).e = 0
    · have := h0 r.var.1 ([], rows0 r)
      have h2 := rows0_le hz
      have h3 : (rowsRun cols r).1.length ≤ 0 + r.var.1 := this
      omega
    · rw [rowsRun, runR_err (s := ([], rows0 r)) hz]
      exact Nat.zero_le _
theorem takeSch_le {r : Rd} (h : r.ok) : (takeSch r).1.length ≤ 255 := by
  have h0 : ∀ (n : Nat) (s : List Col × Rd), (runR sStep n s).1.length ≤ s.1.length + n := by
    intro n
    induction n with
    | zero => intro s; exact Nat.le_refl _
    | succ n ih =>
      intro s
      rw [runR]
      split
      · omega
      · have := ih (sStep s)
        have e : (sStep s).1.length = s.1.length + 1 := by show (s.1 ++ [_]).length = _; rw [List.length_append]; rfl
        omega
  have h1 := h0 r.fix1.1 ([], r.fix1.2)
  have h2 := (Rd.fix1_ok h).2
  have h3 : (schRun r).1.length ≤ 0 + r.fix1.1 := h1
  unfold takeSch
  simp only
  split
  · exact Nat.zero_le _
  · omega
abbrev cD0 : Col := ⟨0, false, 0⟩
section
variable (H : Hp) (k : Nat)

theorem same_v (vals : List Val) (A B : Option Addr) (c d : Nat) (hA : SLC H 3 A vals.length c (vals3 vals)) (hB : SLC H 3 B vals.length d (vals3 vals)) (hl : vals.length ≤ 9223372036854775807) (ho : ∀ v ∈ vals, v.ok) : ACalls Tryd.prog 3 42 [.slice A vals.length c, .slice B vals.length d] H k (Same H k (.bool true)) := by
  refine ACalls.fresh fun hf => ?_
  refine ACalls.body Tryd.func42 rfl (Nat.le_of_ble_eq_true rfl) ?_
  refine ACode.seq ?_
  refine ACode.region' [0] (by kernel_rfl) rfl ?_
  refine aOps_1 rfl rfl rfl (AOp.move' (.inr rfl) rfl ?_)
  refine aOps_end ?_
  show ACode _ _ _ _ _ _
  refine ACode.seq ?_
  refine ACode.seq ?_
  refine ACode.region' [0, 1, 2, 3, 4] (by kernel_rfl) rfl ?_
  refine aOps_1 rfl rfl rfl (AOp.move' (.inl rfl) rfl ?_)
  refine aOps_1 rfl rfl rfl (AOp.len' rfl rfl ?_)
  refine aOps_1 rfl rfl rfl (AOp.move' (.inl rfl) rfl ?_)
  refine aOps_1 rfl rfl rfl (AOp.len' rfl rfl ?_)
  refine aOps_1 rfl rfl rfl (AOp.bin' rfl rfl rfl rfl ?_)
  refine aOps_end ?_
  show ACode _ _ _ _ _ _
  refine ACode.cond rfl (fun c0 => absurd c0 (by simp)) (fun c0 => ?_)
  refine ACode.skip ?_
  show ACode _ _ _ _ _ _
  refine ACode.seq ?_
  refine ACode.seq ?_
  refine ACode.region' [0] (by kernel_rfl) rfl ?_
  refine aOps_1 rfl rfl rfl (AOp.move' (.inr rfl) rfl ?_)
  refine aOps_end ?_
  show ACode _ _ _ _ _ _
  refine ACode.block ?_
  refine ACode.count0 (fun i => [(5, .int .i64 (i : Int))]) [(0, _), (1, _)] (vals.length) (fun _ => True) (.cons rfl .nil) (.cons rfl (.cons rfl .nil)) trivial (fun i0 kL0 HL0 hiL0 hkL0 hsL0 hfL0 hxL0 => ?_)
  show ACode _ _ _ _ _ ⟨_, _, _⟩
  have tsL0 := SubS.of hsL0
  refine ACode.seq ?_
  refine ACode.seq ?_
  refine ACode.region' [0, 1, 2, 3] (by kernel_rfl) rfl ?_
  refine aOps_1 rfl rfl rfl (AOp.move' (.inl rfl) rfl ?_)
  refine aOps_1 rfl rfl rfl (AOp.move' (.inl rfl) rfl ?_)
  refine aOps_1 rfl rfl rfl (AOp.len' rfl rfl ?_)
  refine aOps_1 rfl rfl rfl (AOp.bin' rfl rfl rfl rfl ?_)
  refine aOps_end ?_
  show ACode _ _ _ _ _ _
  refine ACode.cond rfl (fun c1 => ?_) (fun c1 => ?_)
  · try simp only [decide_eq_true_eq, decide_eq_false_iff_not, beq_iff_eq, beq_eq_false_iff_ne, ne_eq, bne_iff_ne, Bool.not_eq_true', Bool.not_eq_false', Int.not_lt, Int.not_le, gt_iff_lt, ge_iff_le, bne_eq_false_iff_eq, Bool.not_eq_eq_eq_not, Bool.not_true, Bool.not_false] at c1
    have hi : i0 < vals.length := by omega
    have hok : (vals.getD i0 V0_).ok := ho _ (getD_mem hi)
    refine ACode.skip ?_
    show ACode _ _ _ _ _ _
    refine ACode.seq ?_
    refine ACode.block ?_
    refine ACode.seq ?_
    obtain ⟨n6_2, o6_2, s6_2, hq6_2, hp6_2⟩ := slcElG (fun a => (vv a).cells.toList) V0_ hA.cells (fun _ => rfl) (by decide) hi
    obtain ⟨n6_6, o6_6, s6_6, hq6_6, hp6_6⟩ := slcElG (fun a => (vv a).cells.toList) V0_ hB.cells (fun _ => rfl) (by decide) hi
    refine ACode.draw' 9 [(0, 17), (1, 18), (2, 19), (3, 20), (4, 21), (5, 22), (6, 23), (7, 24), (8, 25)] mixed (by kernel_rfl) ?_
    refine Draw.step [(0, none)] rfl (by kernel_rfl) rfl (fun kq hkq => AOp.move' (.inl rfl) rfl ⟨rfl, rfl, Nat.le_refl _⟩) ?_
    refine Draw.step [(5, none)] rfl (by kernel_rfl) rfl (fun kq hkq => AOp.move' (.inl rfl) rfl ⟨rfl, rfl, Nat.le_refl _⟩) ?_
    refine Draw.step [(17, some 0), (18, some 1)] rfl (by kernel_rfl) rfl (fun kq hkq => AOp.indexP (aslcAt_sub subA hq6_2) rfl rfl rfl ⟨rfl, rfl, Nat.le_refl _⟩) ?_
    refine Draw.step [(19, some 2)] rfl (by kernel_rfl) rfl (fun kq hkq => AOp.loadPA (v := vv (vals.getD i0 V0_)) (hp6_2.sub subA) rfl rfl rfl rfl (by first | rfl | (simp; done)) (by decide) ⟨rfl, rfl, Nat.le_refl _⟩) ?_
    refine Draw.step [(1, none)] rfl (by kernel_rfl) rfl (fun kq hkq => AOp.move' (.inl rfl) rfl ⟨rfl, rfl, Nat.le_refl _⟩) ?_
    refine Draw.step [(5, none)] rfl (by kernel_rfl) rfl (fun kq hkq => AOp.move' (.inl rfl) rfl ⟨rfl, rfl, Nat.le_refl _⟩) ?_
    refine Draw.step [(21, some 4), (22, some 5)] rfl (by kernel_rfl) rfl (fun kq hkq => AOp.indexP (aslcAt_sub subA hq6_6) rfl rfl rfl ⟨rfl, rfl, Nat.le_refl _⟩) ?_
    refine Draw.step [(23, some 6)] rfl (by kernel_rfl) rfl (fun kq hkq => AOp.loadPA (v := vv (vals.getD i0 V0_)) (hp6_6.sub subA) rfl rfl rfl rfl (by first | rfl | (simp; done)) (by decide) ⟨rfl, rfl, Nat.le_refl _⟩) ?_
    refine Draw.step [(20, some 3), (24, some 7)] rfl (by kernel_rfl) rfl (fun kq hkq => AOp.neAgg true rfl rfl rfl (Val.sc hok) (Val.sc hok) ⟨fun _ => rfl, fun _ => rfl⟩ ⟨rfl, rfl, Nat.le_refl _⟩) ?_
    refine Draw.done fun kq hkq => ?_
    show aOps _ _ _ _ [] ⟨_, _, _⟩
    refine aOps_end ?_
    show ACode _ _ _ _ _ _
    refine ACode.cond rfl (fun c2 => absurd c2 (by simp)) (fun c2 => ?_)
    refine ACode.skip ?_
    show ACode _ _ _ _ _ _
    refine ACode.region' [0, 1, 2] (by kernel_rfl) rfl ?_
    refine aOps_1 rfl rfl rfl (AOp.move' (.inl rfl) rfl ?_)
    refine aOps_1 rfl rfl rfl (AOp.add rfl rfl rfl (i64_wrap (by omega) (by omega)) ?_)
    refine aOps_1 rfl rfl rfl (AOp.move' (.inr rfl) rfl ?_)
    refine aOps_end ?_
    first | refine thenA_n ?_ | simp only [thenA, blockA, if_true]
    exact NextR.mk (by omega) (by omega) (.cons rfl .nil) (.cons rfl (.cons rfl .nil)) subA trivial
  · try simp only [decide_eq_true_eq, decide_eq_false_iff_not, beq_iff_eq, beq_eq_false_iff_ne, ne_eq, bne_iff_ne, Bool.not_eq_true', Bool.not_eq_false', Int.not_lt, Int.not_le, gt_iff_lt, ge_iff_le, bne_eq_false_iff_eq, Bool.not_eq_eq_eq_not, Bool.not_true, Bool.not_false] at c1
    refine ACode.exit ?_
    show ACode _ _ _ _ _ _
    refine ACode.seq ?_
    refine ACode.region' [0] (by kernel_rfl) rfl ?_
    refine aOps_1 rfl rfl rfl (AOp.move' (.inr rfl) rfl ?_)
    refine aOps_end ?_
    show ACode _ _ _ _ _ _
    refine ACode.ret ?_
    exact RetQ.one rfl rfl subA stays (fun hk => ⟨rfl, rfl, by omega⟩)

theorem same_s (cols : List Col) (A B : Option Addr) (c d : Nat) (hA : SLC H 3 A cols.length c (cols3 cols)) (hB : SLC H 3 B cols.length d (cols3 cols)) (hl : cols.length ≤ 9223372036854775807) (ho : ∀ v ∈ cols, v.ok) : ACalls Tryd.prog 3 55 [.slice A cols.length c, .slice B cols.length d] H k (Same H k (.bool true)) := by
  refine ACalls.fresh fun hf => ?_
  refine ACalls.body Tryd.func55 rfl (Nat.le_of_ble_eq_true rfl) ?_
  refine ACode.seq ?_
  refine ACode.region' [0] (by kernel_rfl) rfl ?_
  refine aOps_1 rfl rfl rfl (AOp.move' (.inr rfl) rfl ?_)
  refine aOps_end ?_
  show ACode _ _ _ _ _ _
  refine ACode.seq ?_
  refine ACode.seq ?_
  refine ACode.region' [0, 1, 2, 3, 4] (by kernel_rfl) rfl ?_
  refine aOps_1 rfl rfl rfl (AOp.move' (.inl rfl) rfl ?_)
  refine aOps_1 rfl rfl rfl (AOp.len' rfl rfl ?_)
  refine aOps_1 rfl rfl rfl (AOp.move' (.inl rfl) rfl ?_)
  refine aOps_1 rfl rfl rfl (AOp.len' rfl rfl ?_)
  refine aOps_1 rfl rfl rfl (AOp.bin' rfl rfl rfl rfl ?_)
  refine aOps_end ?_
  show ACode _ _ _ _ _ _
  refine ACode.cond rfl (fun c0 => absurd c0 (by simp)) (fun c0 => ?_)
  refine ACode.skip ?_
  show ACode _ _ _ _ _ _
  refine ACode.seq ?_
  refine ACode.seq ?_
  refine ACode.region' [0] (by kernel_rfl) rfl ?_
  refine aOps_1 rfl rfl rfl (AOp.move' (.inr rfl) rfl ?_)
  refine aOps_end ?_
  show ACode _ _ _ _ _ _
  refine ACode.block ?_
  refine ACode.count0 (fun i => [(5, .int .i64 (i : Int))]) [(0, _), (1, _)] (cols.length) (fun _ => True) (.cons rfl .nil) (.cons rfl (.cons rfl .nil)) trivial (fun i0 kL0 HL0 hiL0 hkL0 hsL0 hfL0 hxL0 => ?_)
  show ACode _ _ _ _ _ ⟨_, _, _⟩
  have tsL0 := SubS.of hsL0
  refine ACode.seq ?_
  refine ACode.seq ?_
  refine ACode.region' [0, 1, 2, 3] (by kernel_rfl) rfl ?_
  refine aOps_1 rfl rfl rfl (AOp.move' (.inl rfl) rfl ?_)
  refine aOps_1 rfl rfl rfl (AOp.move' (.inl rfl) rfl ?_)
  refine aOps_1 rfl rfl rfl (AOp.len' rfl rfl ?_)
  refine aOps_1 rfl rfl rfl (AOp.bin' rfl rfl rfl rfl ?_)
  refine aOps_end ?_
  show ACode _ _ _ _ _ _
  refine ACode.cond rfl (fun c1 => ?_) (fun c1 => ?_)
  · try simp only [decide_eq_true_eq, decide_eq_false_iff_not, beq_iff_eq, beq_eq_false_iff_ne, ne_eq, bne_iff_ne, Bool.not_eq_true', Bool.not_eq_false', Int.not_lt, Int.not_le, gt_iff_lt, ge_iff_le, bne_eq_false_iff_eq, Bool.not_eq_eq_eq_not, Bool.not_true, Bool.not_false] at c1
    have hi : i0 < cols.length := by omega
    have hok : (cols.getD i0 cD0).ok := ho _ (getD_mem hi)
    refine ACode.skip ?_
    show ACode _ _ _ _ _ _
    refine ACode.seq ?_
    refine ACode.block ?_
    refine ACode.seq ?_
    obtain ⟨n6_2, o6_2, s6_2, hq6_2, hp6_2⟩ := slcElG (fun a => (cc a).cells.toList) cD0 hA.cells (fun _ => rfl) (by decide) hi
    obtain ⟨n6_6, o6_6, s6_6, hq6_6, hp6_6⟩ := slcElG (fun a => (cc a).cells.toList) cD0 hB.cells (fun _ => rfl) (by decide) hi
    refine ACode.draw' 9 [(0, 17), (1, 18), (2, 19), (3, 20), (4, 21), (5, 22), (6, 23), (7, 24), (8, 25)] mixed (by kernel_rfl) ?_
    refine Draw.step [(0, none)] rfl (by kernel_rfl) rfl (fun kq hkq => AOp.move' (.inl rfl) rfl ⟨rfl, rfl, Nat.le_refl _⟩) ?_
    refine Draw.step [(5, none)] rfl (by kernel_rfl) rfl (fun kq hkq => AOp.move' (.inl rfl) rfl ⟨rfl, rfl, Nat.le_refl _⟩) ?_
    refine Draw.step [(17, some 0), (18, some 1)] rfl (by kernel_rfl) rfl (fun kq hkq => AOp.indexP (aslcAt_sub subA hq6_2) rfl rfl rfl ⟨rfl, rfl, Nat.le_refl _⟩) ?_
    refine Draw.step [(19, some 2)] rfl (by kernel_rfl) rfl (fun kq hkq => AOp.loadPA (v := cc (cols.getD i0 cD0)) (hp6_2.sub subA) rfl rfl rfl rfl (by first | rfl | (simp; done)) (by decide) ⟨rfl, rfl, Nat.le_refl _⟩) ?_
    refine Draw.step [(1, none)] rfl (by kernel_rfl) rfl (fun kq hkq => AOp.move' (.inl rfl) rfl ⟨rfl, rfl, Nat.le_refl _⟩) ?_
    refine Draw.step [(5, none)] rfl (by kernel_rfl) rfl (fun kq hkq => AOp.move' (.inl rfl) rfl ⟨rfl, rfl, Nat.le_refl _⟩) ?_
    refine Draw.step [(21, some 4), (22, some 5)] rfl (by kernel_rfl) rfl (fun kq hkq => AOp.indexP (aslcAt_sub subA hq6_6) rfl rfl rfl ⟨rfl, rfl, Nat.le_refl _⟩) ?_
    refine Draw.step [(23, some 6)] rfl (by kernel_rfl) rfl (fun kq hkq => AOp.loadPA (v := cc (cols.getD i0 cD0)) (hp6_6.sub subA) rfl rfl rfl rfl (by first | rfl | (simp; done)) (by decide) ⟨rfl, rfl, Nat.le_refl _⟩) ?_
    refine Draw.step [(20, some 3), (24, some 7)] rfl (by kernel_rfl) rfl (fun kq hkq => AOp.neAgg true rfl rfl rfl (Col.sc hok) (Col.sc hok) ⟨fun _ => rfl, fun _ => rfl⟩ ⟨rfl, rfl, Nat.le_refl _⟩) ?_
    refine Draw.done fun kq hkq => ?_
    show aOps _ _ _ _ [] ⟨_, _, _⟩
    refine aOps_end ?_
    show ACode _ _ _ _ _ _
    refine ACode.cond rfl (fun c2 => absurd c2 (by simp)) (fun c2 => ?_)
    refine ACode.skip ?_
    show ACode _ _ _ _ _ _
    refine ACode.region' [0, 1, 2] (by kernel_rfl) rfl ?_
    refine aOps_1 rfl rfl rfl (AOp.move' (.inl rfl) rfl ?_)
    refine aOps_1 rfl rfl rfl (AOp.add rfl rfl rfl (i64_wrap (by omega) (by omega)) ?_)
    refine aOps_1 rfl rfl rfl (AOp.move' (.inr rfl) rfl ?_)
    refine aOps_end ?_
    first | refine thenA_n ?_ | simp only [thenA, blockA, if_true]
    exact NextR.mk (by omega) (by omega) (.cons rfl .nil) (.cons rfl (.cons rfl .nil)) subA trivial
  · try simp only [decide_eq_true_eq, decide_eq_false_iff_not, beq_iff_eq, beq_eq_false_iff_ne, ne_eq, bne_iff_ne, Bool.not_eq_true', Bool.not_eq_false', Int.not_lt, Int.not_le, gt_iff_lt, ge_iff_le, bne_eq_false_iff_eq, Bool.not_eq_eq_eq_not, Bool.not_true, Bool.not_false] at c1
    refine ACode.exit ?_
    show ACode _ _ _ _ _ _
    refine ACode.seq ?_
    refine ACode.region' [0] (by kernel_rfl) rfl ?_
    refine aOps_1 rfl rfl rfl (AOp.move' (.inr rfl) rfl ?_)
    refine aOps_end ?_
    show ACode _ _ _ _ _ _
    refine ACode.ret ?_
    exact RetQ.one rfl rfl subA stays (fun hk => ⟨rfl, rfl, by omega⟩)

theorem same_w (rows : List (List Val)) (vs us : List Value) (A B : Option Addr) (c d : Nat) (hA : SLC H 1 A vs.length c vs) (hB : SLC H 1 B us.length d us) (h1 : Rws H vs rows) (h2 : Rws H us rows) (hl : vs.length ≤ 9223372036854775807) (hl2 : ∀ r ∈ rows, r.length ≤ 9223372036854775807) (ho : ∀ r ∈ rows, ∀ v ∈ r, v.ok) : ACalls Tryd.prog 3 56 [.slice A vs.length c, .slice B us.length d] H k (Same H k (.bool true)) := by
  refine ACalls.fresh fun hf => ?_
  refine ACalls.body Tryd.func56 rfl (Nat.le_of_ble_eq_true rfl) ?_
  have hvl := h1.len
  have hul := h2.len
  refine ACode.seq ?_
  refine ACode.region' [0] (by kernel_rfl) rfl ?_
  refine aOps_1 rfl rfl rfl (AOp.move' (.inr rfl) rfl ?_)
  refine aOps_end ?_
  show ACode _ _ _ _ _ _
  refine ACode.seq ?_
  refine ACode.seq ?_
  refine ACode.region' [0, 1, 2, 3, 4] (by kernel_rfl) rfl ?_
  refine aOps_1 rfl rfl rfl (AOp.move' (.inl rfl) rfl ?_)
  refine aOps_1 rfl rfl rfl (AOp.len' rfl rfl ?_)
  refine aOps_1 rfl rfl rfl (AOp.move' (.inl rfl) rfl ?_)
  refine aOps_1 rfl rfl rfl (AOp.len' rfl rfl ?_)
  refine aOps_1 rfl rfl rfl (AOp.bin' rfl rfl rfl rfl ?_)
  refine aOps_end ?_
  show ACode _ _ _ _ _ _
  refine ACode.cond rfl (fun c0 => absurd c0 (by simp; omega)) (fun c0 => ?_)
  refine ACode.skip ?_
  show ACode _ _ _ _ _ _
  refine ACode.seq ?_
  refine ACode.seq ?_
  refine ACode.region' [0] (by kernel_rfl) rfl ?_
  refine aOps_1 rfl rfl rfl (AOp.move' (.inr rfl) rfl ?_)
  refine aOps_end ?_
  show ACode _ _ _ _ _ _
  refine ACode.block ?_
  refine ACode.count0 (fun i => [(5, .int .i64 (i : Int))]) [(0, _), (1, _)] (vs.length) (fun _ => True) (.cons rfl .nil) (.cons rfl (.cons rfl .nil)) trivial (fun i0 kL0 HL0 hiL0 hkL0 hsL0 hfL0 hxL0 => ?_)
  show ACode _ _ _ _ _ ⟨_, _, _⟩
  have tsL0 := SubS.of hsL0
  refine ACode.seq ?_
  refine ACode.seq ?_
  refine ACode.region' [0, 1, 2, 3] (by kernel_rfl) rfl ?_
  refine aOps_1 rfl rfl rfl (AOp.move' (.inl rfl) rfl ?_)
  refine aOps_1 rfl rfl rfl (AOp.move' (.inl rfl) rfl ?_)
  refine aOps_1 rfl rfl rfl (AOp.len' rfl rfl ?_)
  refine aOps_1 rfl rfl rfl (AOp.bin' rfl rfl rfl rfl ?_)
  refine aOps_end ?_
  show ACode _ _ _ _ _ _
  refine ACode.cond rfl (fun c1 => ?_) (fun c1 => ?_)
  · try simp only [decide_eq_true_eq, decide_eq_false_iff_not, beq_iff_eq, beq_eq_false_iff_ne, ne_eq, bne_iff_ne, Bool.not_eq_true', Bool.not_eq_false', Int.not_lt, Int.not_le, gt_iff_lt, ge_iff_le, bne_eq_false_iff_eq, Bool.not_eq_eq_eq_not, Bool.not_true, Bool.not_false] at c1
    have hi : i0 < vs.length := by omega
    have hm : rows.getD i0 [] ∈ rows := getD_mem (by omega)
    obtain ⟨A1, d1, e1, hc1⟩ := h1.at_ i0 (by omega)
    obtain ⟨A2, d2, e2, hc2⟩ := h2.at_ i0 (by omega)
    refine ACode.skip ?_
    show ACode _ _ _ _ _ _
    refine ACode.seq ?_
    refine ACode.block ?_
    refine ACode.seq ?_
    obtain ⟨n6_2, o6_2, s6_2, hq6_2, hp6_2⟩ := e1 ▸ slcElV hA.cells (show i0 < vs.length by omega)
    obtain ⟨n6_6, o6_6, s6_6, hq6_6, hp6_6⟩ := e2 ▸ slcElV hB.cells (show i0 < us.length by omega)
    refine ACode.draw' 10 [(0, 17), (1, 18), (2, 19), (3, 20), (4, 21), (5, 22), (6, 23), (7, 24), (8, 25), (9, 26)] mixed (by kernel_rfl) ?_
    refine Draw.step [(0, none)] rfl (by kernel_rfl) rfl (fun kq hkq => AOp.move' (.inl rfl) rfl ⟨rfl, rfl, Nat.le_refl _⟩) ?_
    refine Draw.step [(5, none)] rfl (by kernel_rfl) rfl (fun kq hkq => AOp.move' (.inl rfl) rfl ⟨rfl, rfl, Nat.le_refl _⟩) ?_
    refine Draw.step [(17, some 0), (18, some 1)] rfl (by kernel_rfl) rfl (fun kq hkq => AOp.indexP (aslcAt_sub subA hq6_2) rfl rfl rfl ⟨rfl, rfl, Nat.le_refl _⟩) ?_
    refine Draw.step [(19, some 2)] rfl (by kernel_rfl) rfl (fun kq hkq => AOp.loadP0 (hp6_2.sub subA) rfl rfl rfl ⟨rfl, rfl, Nat.le_refl _⟩) ?_
    refine Draw.step [(1, none)] rfl (by kernel_rfl) rfl (fun kq hkq => AOp.move' (.inl rfl) rfl ⟨rfl, rfl, Nat.le_refl _⟩) ?_
    refine Draw.step [(5, none)] rfl (by kernel_rfl) rfl (fun kq hkq => AOp.move' (.inl rfl) rfl ⟨rfl, rfl, Nat.le_refl _⟩) ?_
    refine Draw.step [(21, some 4), (22, some 5)] rfl (by kernel_rfl) rfl (fun kq hkq => AOp.indexP (aslcAt_sub subA hq6_6) rfl rfl rfl ⟨rfl, rfl, Nat.le_refl _⟩) ?_
    refine Draw.step [(23, some 6)] rfl (by kernel_rfl) rfl (fun kq hkq => AOp.loadP0 (hp6_6.sub subA) rfl rfl rfl ⟨rfl, rfl, Nat.le_refl _⟩) ?_
    refine Draw.step [(20, some 3), (24, some 7)] rfl (by kernel_rfl) rfl (fun kq hkq => AOp.call' rfl rfl rfl (same_v _ _ (rows.getD i0 []) A1 A2 d1 d2 (hc1.sub subA) (hc2.sub subA) (hl2 _ hm) (ho _ hm)) (fun _ _ _ h => h)) ?_
    refine Draw.step [(25, some 8)] rfl (by kernel_rfl) rfl (fun kq hkq => AOp.un' rfl rfl rfl ⟨rfl, rfl, Nat.le_refl _⟩) ?_
    refine Draw.done fun kq hkq => ?_
    show aOps _ _ _ _ [] ⟨_, _, _⟩
    refine aOps_end ?_
    show ACode _ _ _ _ _ _
    refine ACode.cond rfl (fun c2 => absurd c2 (by simp)) (fun c2 => ?_)
    refine ACode.skip ?_
    show ACode _ _ _ _ _ _
    refine ACode.region' [0, 1, 2] (by kernel_rfl) rfl ?_
    refine aOps_1 rfl rfl rfl (AOp.move' (.inl rfl) rfl ?_)
    refine aOps_1 rfl rfl rfl (AOp.add rfl rfl rfl (i64_wrap (by omega) (by omega)) ?_)
    refine aOps_1 rfl rfl rfl (AOp.move' (.inr rfl) rfl ?_)
    refine aOps_end ?_
    first | refine thenA_n ?_ | simp only [thenA, blockA, if_true]
    exact NextR.mk (by omega) (by omega) (.cons rfl .nil) (.cons rfl (.cons rfl .nil)) subA trivial
  · try simp only [decide_eq_true_eq, decide_eq_false_iff_not, beq_iff_eq, beq_eq_false_iff_ne, ne_eq, bne_iff_ne, Bool.not_eq_true', Bool.not_eq_false', Int.not_lt, Int.not_le, gt_iff_lt, ge_iff_le, bne_eq_false_iff_eq, Bool.not_eq_eq_eq_not, Bool.not_true, Bool.not_false] at c1
    refine ACode.exit ?_
    show ACode _ _ _ _ _ _
    refine ACode.seq ?_
    refine ACode.region' [0] (by kernel_rfl) rfl ?_
    refine aOps_1 rfl rfl rfl (AOp.move' (.inr rfl) rfl ?_)
    refine aOps_end ?_
    show ACode _ _ _ _ _ _
    refine ACode.ret ?_
    exact RetQ.one rfl rfl subA stays (fun hk => ⟨rfl, rfl, by omega⟩)
end

end Go.Proofs.YteoofihjmldllaaDoor
