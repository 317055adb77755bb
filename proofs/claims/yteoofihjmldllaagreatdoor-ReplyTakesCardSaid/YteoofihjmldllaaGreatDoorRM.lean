/- Two ways that meet: a rule over the abstract states. No condition. -/
import Derived.Test.YteoofihjmldllaaGreatDoorRE
set_option linter.unusedVariables false
namespace Go.Ab
/-- What is so on both ways is all that the rest is told. -/
theorem ACode.meet {P : Program} {NG N : Nat} {Q : Exit → St → Prop} {fr : Fr} {H : Hp} {nk : Nat} {γ : Type} {x y : Code} (lv : γ → List (Nat × Value)) (lc : List (Nat × Value)) (h0 : Has fr lc) (X : γ → Hp → Nat → Prop)
  (h : ACode P NG N x (thenA (fun s' => ∃ g, Has s'.fr (lv g ++ lc) ∧ X g s'.H s'.k) Q) ⟨fr, H, nk⟩)
  (h2 : ∀ g H' k', (∀ m, k' ≤ m → H' m = none) → X g H' k' → ACode P NG N y Q ⟨frL (lv g ++ lc), H', k'⟩) : ACode P NG N (.seq x y) Q ⟨fr, H, nk⟩ := by
 refine Sz (h.mono ?_)
 intro e s' hq
 cases e with
 | normal =>
  obtain ⟨fr, H', k'⟩ := s'
  obtain ⟨g, h3, h4⟩ := hq
  exact ACode.has h3 (ACode.fresh fun hf => h2 g H' k' hf h4)
 | _ => exact hq
end Go.Ab
