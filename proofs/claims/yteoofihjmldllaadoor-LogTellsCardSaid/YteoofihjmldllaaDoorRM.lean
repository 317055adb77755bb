/- Readers over longer texts: what is taken without an error is taken the same way where more follows; in plain Lean. No condition. -/
import Derived.Test.YteoofihjmldllaaDoorP7
import Derived.Test.YteoofihjmldllaaDoorRW
import Derived.Test.YteoofihjmldllaaDoorRE
set_option linter.unusedVariables false
set_option linter.unusedSimpArgs false
set_option maxRecDepth 100000
namespace Go.Proofs.YteoofihjmldllaaDoor
open Go Go.Ab
section
variable {α β : Type}
end
end Go.Proofs.YteoofihjmldllaaDoor

/- Predicates as bytes, in plain Lean: what is put of a right one reads back. No condition. -/
set_option linter.unusedVariables false
set_option linter.unusedSimpArgs false
set_option maxRecDepth 100000
namespace Go.Proofs.YteoofihjmldllaaDoor
open Go Go.Ab
def uN (n : Int) : Nat := (IntKind.u64.wrap n).toNat
theorem uN_lt (n : Int) : uN n < 18446744073709551616 := by unfold uN; rw [IntKind.wrap_u64]; omega
mutual
def putP : Pd → List UInt8
  | .mk op col vals of => byteI op :: (varB (uN col) ++ (varB vals.length ++ (vals.flatMap putB ++ (varB of.length ++ putPs of))))
def putPs : List Pd → List UInt8
  | [] => []
  | p :: ps => putP p ++ putPs ps
end
theorem putPs_flat : ∀ ps : List Pd, putPs ps = ps.flatMap putP
  | [] => by rw [putPs]; rfl
  | p :: ps => by rw [putPs, List.flatMap_cons, putPs_flat ps]
mutual
def Pd.fine : Pd → Prop
  | .mk _ col vals of => (-9223372036854775808 ≤ col ∧ col ≤ 9223372036854775807) ∧ (∀ v ∈ vals, v.ok) ∧ Pd.fines of
def Pd.fines : List Pd → Prop
  | [] => True
  | p :: ps => p.fine ∧ Pd.fines ps
end
mutual
theorem PdV.fine {H : Hp} : ∀ {p : Pd} {v : Value}, PdV H p v → p.fine
  | .mk op col vals of, v, h => by
    rw [PdV] at h
    obtain ⟨A, c, B, d, bs, _, _, _, _, _, hcl, hok, _, hs⟩ := h
    rw [Pd.fine]
    exact ⟨hcl, hok, PdVs.fine hs⟩
theorem PdVs.fine {H : Hp} : ∀ {ps : List Pd} {bs : List Value}, PdVs H ps bs → Pd.fines ps
  | [], bs, h => by rw [Pd.fines]; trivial
  | p :: ps, bs, h => by
    rw [PdVs] at h
    obtain ⟨v, r, _, h1, h2⟩ := h
    rw [Pd.fines]
    exact ⟨h1.fine, PdVs.fine h2⟩
end
end Go.Proofs.YteoofihjmldllaaDoor

/- Two ways that meet: a rule over the abstract states. No condition. -/
set_option linter.unusedVariables false
namespace Go.Ab
/-- What is so on both ways is all that the rest is told. -/
theorem ACode.meet {P : Program} {NG N : Nat} {Q : Exit → St → Prop} {fr : Fr} {H : Hp} {nk : Nat} {γ : Type} {x y : Code} (lv : γ → List (Nat × Value)) (lc : List (Nat × Value)) (h0 : Has fr lc) (X : γ → Hp → Nat → Prop)
    (h : ACode P NG N x (thenA (fun s' => ∃ g, Has s'.fr (lv g ++ lc) ∧ X g s'.H s'.k) Q) ⟨fr, H, nk⟩)
    (h2 : ∀ g H' k', (∀ m, k' ≤ m → H' m = none) → X g H' k' → ACode P NG N y Q ⟨frL (lv g ++ lc), H', k'⟩) : ACode P NG N (.seq x y) Q ⟨fr, H, nk⟩ := by
  refine ACode.seq (h.mono ?_)
  intro e s' hq
  cases e with
  | normal =>
    obtain ⟨fr, H', k'⟩ := s'
    obtain ⟨g, h3, h4⟩ := hq
    exact ACode.has h3 (ACode.fresh fun hf => h2 g H' k' hf h4)
  | _ => exact hq
end Go.Ab
