/- Contracts over the abstract states: the same values, schemas and rows; both readers' ends; ValueTakes. -/
import Derived.Test.YteoofihjmldllaaDoorR7
set_option linter.unusedVariables false
set_option linter.unusedSimpArgs false
set_option maxRecDepth 100000
namespace Go.Proofs.YteoofihjmldllaaDoor
open Go Go.Ab

def Col.ok (a : Col) : Prop := (Lit.int .i64 a.kind).wf = true ∧ (Lit.int .i64 a.way).wf = true
theorem Col.sc {a : Col} (h : a.ok) : (scals [.int .i64, .bool, .int .i64] (cc a).cells.toList).isSome = true := by
  obtain ⟨h1, h2⟩ := h
  show (scals [.int .i64, .bool, .int .i64] [.int .i64 a.kind, .bool a.null, .int .i64 a.way]).isSome = true
  simp [scals, scal, h1, h2]
theorem itS_ok {s : List Col × Rd} (h1 : s.2.ok) (h2 : ∀ a ∈ s.1, a.ok) (i : Nat) : (itR sStep s i).2.ok ∧ ∀ a ∈ (itR sStep s i).1, a.ok := by
  induction i with
  | zero => exact ⟨h1, h2⟩
  | succ i ih =>
    refine ⟨colStep_ok ih.1, fun a ha => ?_⟩
    rcases List.mem_append.1 ha with ha | ha
    · exact ih.2 a ha
    · rw [List.mem_singleton.1 ha]
      have a1 := Rd.fix1_ok ih.1
      have a2 := Rd.fix1_ok a1.1
      have a3 := Rd.fix1_ok a2.1
      exact ⟨wf_i64 (n := ((itR sStep s i).2.fix1.1 : Int)) (by omega) (by omega), wf_i64 (n := ((itR sStep s i).2.fix1.2.fix1.2.fix1.1 : Int) - 1) (by omega) (by omega)⟩
theorem runR_it {α : Type} (f : α × Rd → α × Rd) : ∀ (n : Nat) (s : α × Rd), ∃ i, runR f n s = itR f s i
  | 0, s => ⟨0, rfl⟩
  | n + 1, s => by
    rw [runR]
    split
    · exact ⟨0, rfl⟩
    · obtain ⟨i, h⟩ := runR_it f n (f s)
      refine ⟨i + 1, h.trans ?_⟩
      clear h
      induction i with
      | zero => rfl
      | succ i ih => exact congrArg f ih
theorem takeSch_ok {r : Rd} (h : r.ok) : (takeSch r).2.ok ∧ (∀ a ∈ (takeSch r).1, a.ok) ∧ (takeSch r).2.bs = r.bs := by
  obtain ⟨i, hi⟩ := runR_it sStep r.fix1.1 ([], r.fix1.2)
  have h1 := itS_ok (s := ([], r.fix1.2)) (Rd.fix1_ok h).1 (fun a ha => by cases ha) i
  have hb := itS_bs ([], r.fix1.2) i
  have e : schRun r = itR sStep ([], r.fix1.2) i := hi
  unfold takeSch
  rw [e]
  refine ⟨Rd.fail_ok h1.1 (schemaI_le _).1 (schemaI_le _).2, fun a ha => ?_, by show (Rd.fail _ _).bs = _; rw [Rd.fail_bs, hb, Rd.fix1_bs]⟩
  simp only at ha
  split at ha
  · cases ha
  · exact h1.2 a ha
theorem itW_ok (cols : List Col) {s : List (List Val) × Rd} (h1 : s.2.ok) (h2 : ∀ row ∈ s.1, ∀ v ∈ row, v.ok) (i : Nat) : ∀ row ∈ (itR (rStep cols) s i).1, ∀ v ∈ row, v.ok := by
  induction i with
  | zero => exact h2
  | succ i ih =>
    intro row hr
    rcases List.mem_append.1 hr with hr | hr
    · exact ih row hr
    · rw [List.mem_singleton.1 hr]
      exact (itV_ok ([], (itR (rStep cols) s i).2) (itRow_ok cols s h1 i) (fun v hv => by cases hv) _).2
theorem takeRows_ok {r : Rd} (cols : List Col) (h : r.ok) : (takeRows cols r).2.ok ∧ (∀ row ∈ (takeRows cols r).1, ∀ v ∈ row, v.ok) ∧ (takeRows cols r).2.bs = r.bs := by
  obtain ⟨i, hi⟩ := runR_it (rStep cols) r.var.1 ([], rows0 r)
  have h1 := itRow_ok cols ([], rows0 r) (rows0_ok h) i
  have h2 := itW_ok cols (s := ([], rows0 r)) (rows0_ok h) (fun a ha => by cases ha) i
  have hb := itRow_bs cols ([], rows0 r) i
  have e : rowsRun cols r = itR (rStep cols) ([], rows0 r) i := hi
  unfold takeRows
  rw [e]
  refine ⟨h1, fun a ha => ?_, by rw [hb, rows0_bs]⟩
  simp only at ha
  split at ha
  · cases ha
  · exact h2 a ha
abbrev cD0 : Col := ⟨0, false, 0⟩
section
variable (H : Hp) (k : Nat)

end

end Go.Proofs.YteoofihjmldllaaDoor
