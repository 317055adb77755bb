/- Texts that are digested for a root, in plain Lean: two lists of as many leaves with one root are the same, or two of their texts have one digest. Lists of texts in memory that grow. No condition. -/
import Derived.Test.YtipaiielkpifoaaDoorS20
set_option linter.unusedVariables false
set_option linter.unusedSimpArgs false
set_option maxRecDepth 100000
namespace Go.Proofs.YtipaiielkpifoaaDoor
open Go Go.Ab

/-! ### Lists of texts that grow: the texts lie in new blocks -/
theorem Lvs.append {H : Hp} {vs ws : List Value} {ls ms : List (List UInt8)} (h1 : Lvs H vs ls) (h2 : Lvs H ws ms) : Lvs H (vs ++ ws) (ls ++ ms) :=
  ⟨by rw [List.length_append, List.length_append, h1.len, h2.len], fun i hi => by
    rw [List.length_append] at hi
    by_cases h : i < ls.length
    · have e1 : (vs ++ ws).getD i undef = vs.getD i undef := by rw [List.getD_eq_getElem?_getD, List.getD_eq_getElem?_getD, List.getElem?_append_left (by rw [h1.len]; exact h)]
      have e2 : (ls ++ ms).getD i [] = ls.getD i [] := by rw [List.getD_eq_getElem?_getD, List.getD_eq_getElem?_getD, List.getElem?_append_left h]
      rw [e1, e2]
      exact h1.at_ i h
    · have e1 : (vs ++ ws).getD i undef = ws.getD (i - ls.length) undef := by rw [List.getD_eq_getElem?_getD, List.getD_eq_getElem?_getD, List.getElem?_append_right (by rw [h1.len]; omega), h1.len]
      have e2 : (ls ++ ms).getD i [] = ms.getD (i - ls.length) [] := by rw [List.getD_eq_getElem?_getD, List.getD_eq_getElem?_getD, List.getElem?_append_right (by omega)]
      rw [e1, e2]
      exact h2.at_ (i - ls.length) (by omega)⟩
end Go.Proofs.YtipaiielkpifoaaDoor
