/- ValuePuts: the statement of the row: for every input the law answers true, and what it is given reads as it did. -/
import Derived.Test.YtnciojaecelhmaaV13
import Derived.Test.YtnciojaecelhmaaRows
import Derived.ProofKit
set_option linter.unusedVariables false
set_option maxRecDepth 100000
namespace Go.Proofs.Ytnciojaecelhmaa
open Go Go.Ab Go.ChangeShapes Go.WideShapes Go.RowKit
theorem valuePuts_own : ownKnob Try.prog.godebug = none := by kernel_rfl
theorem valuePuts_lifted (os : Os) (started : os.Started) (H : Type) (enc : TypeId × Value → H) :
    ReturnsInHanded {} Try.checked os 5 .any (Rows.valuePutsSpec.pre6 enc Try.prog Try.f5 Rows.valuePutsRow.domain false) (Rows.valuePutsSpec.post enc Try.prog Try.f5 false true false false) := by
  refine returnsInHanded_of_change (C := Try.checked) valuePuts_own started (by kernel_rfl) Try.func5
    (ChangeSpec.witness6 (enc := enc) (C := Try.checked) false ⟨#[], #[.slice none 0 0, .agg #[.int .i64 0, .int .i64 0, .string ⟨#[]⟩], .slice none 0 0, .slice none 0 0], []⟩ 8 (by kernel_rfl) (by kernel_rfl) (by kernel_rfl) (by kernel_rfl)) ?_
  intro W base args ds gs before hval hW _ _
  have hW' := hW
  obtain ⟨p, q, hA, hV, hpq, _, _⟩ := hW
  have hS := SRel.start 0 W (fun _ => none) (fun n b h => by cases h)
  have hlen := trodAll_len hA
  have hpl : plains Try.prog [36, 5, 23, 3, 2, 9, 28, 51, 4, 37, 29] = true := by kernel_rfl
  have hts : Try.f5.params.toList.all ([36, 5, 23, 3, 2, 9, 28, 51, 4, 37, 29].contains ·) = true := by kernel_rfl
  have hrd : Try.f5.params.toList.all (fun t => Try.prog.readableRec t && decide (t < Try.prog.types.size)) = true := by kernel_rfl
  have hcall := law_calls (P := Try.prog) (f := 5) (fn := Try.f5) hpl (List.all_eq_true.1 hts) hval hA hS (fun H k us _ _ hus => valuePuts_any H k us hus)
  refine hcall.mono ?_
  rintro e W' ⟨rfl, hb⟩
  have hfn : (Rows.valuePutsSpec.fn H ds).results = [.lit (.bool true)] ∧ (Rows.valuePutsSpec.fn H ds).args = ds ∧ (Rows.valuePutsSpec.fn H ds).vars = [] := by
    have hl : ds.length = 4 := hlen
    match ds, hl with
    | [d0, d1, d2, d3], _ => exact ⟨rfl, rfl, rfl⟩
  exact ⟨_, rfl, law_post (P := Try.prog) (by kernel_rfl) rfl hfn (fun t ht => by
    have := List.all_eq_true.1 hrd t ht
    simpa using this) rfl (show Try.prog.underlying 4 = some .bool by kernel_rfl) hW' hb⟩
theorem valuePuts_holds : Rows.ValuePutsSaid :=
  OpenClaim.holds_of_wide 5 Try.f5 rfl rfl rfl rfl rfl rfl rfl ⟨rfl, rfl, rfl, rfl, rfl⟩ rfl rfl rfl rfl rfl (by kernel_rfl) Try.func5 (by kernel_rfl)
    (of_decide_eq_true (by kernel_rfl)) (by unfold Func.isWrapper; rw [if_neg (by decide +kernel)]; exact ⟨rfl, rfl⟩)
    (fun os started H enc _ => valuePuts_lifted os started H enc)
#print axioms valuePuts_holds
end Go.Proofs.Ytnciojaecelhmaa
