/- Predicates as bytes, in plain Lean: what is put of a right one reads back. No condition. -/
import Derived.Test.YteoofihjmldllaaDoorRX
import Derived.Test.YteoofihjmldllaaDoorP7
import Derived.Test.YteoofihjmldllaaDoorRE
set_option linter.unusedVariables false
set_option linter.unusedSimpArgs false
set_option maxRecDepth 100000
namespace Go.Proofs.YteoofihjmldllaaDoor
open Go Go.Ab
def uN (n : Int) : Nat := (IntKind.u64.wrap n).toNat
theorem uN_lt (n : Int) : uN n < 18446744073709551616 := by unfold uN; rw [IntKind.wrap_u64]; omega
theorem uN_back {n : Int} (h1 : -9223372036854775808 ≤ n) (h2 : n ≤ 9223372036854775807) : IntKind.i64.wrap ((uN n : Nat) : Int) = n := by
  unfold uN
  rw [IntKind.wrap_u64, IntKind.wrap_i64]
  omega
mutual
def putP : Pd → List UInt8
  | .mk op col vals of => byteI op :: (varB (uN col) ++ (varB vals.length ++ (vals.flatMap putB ++ (varB of.length ++ putPs of))))
def putPs : List Pd → List UInt8
  | [] => []
  | p :: ps => putP p ++ putPs ps
end
theorem putPs_flat : ∀ ps : List Pd, putPs ps = ps.flatMap putP
  | [] => by rw [putPs]; rfl
  | p :: ps => by rw [putPs, List.flatMap_cons, putPs_flat ps]
mutual
def Pd.fine : Pd → Prop
  | .mk _ col vals of => (-9223372036854775808 ≤ col ∧ col ≤ 9223372036854775807) ∧ (∀ v ∈ vals, v.ok) ∧ Pd.fines of
def Pd.fines : List Pd → Prop
  | [] => True
  | p :: ps => p.fine ∧ Pd.fines ps
end
theorem fines_mem : ∀ {ps : List Pd} {p : Pd}, Pd.fines ps → p ∈ ps → p.fine
  | q :: ps, p, h, hp => by
    rw [Pd.fines] at h
    rcases List.mem_cons.1 hp with rfl | hp
    · exact h.1
    · exact fines_mem h.2 hp
mutual
theorem PdV.fine {H : Hp} : ∀ {p : Pd} {v : Value}, PdV H p v → p.fine
  | .mk op col vals of, v, h => by
    rw [PdV] at h
    obtain ⟨A, c, B, d, bs, _, _, _, _, _, hcl, hok, _, hs⟩ := h
    rw [Pd.fine]
    exact ⟨hcl, hok, PdVs.fine hs⟩
theorem PdVs.fine {H : Hp} : ∀ {ps : List Pd} {bs : List Value}, PdVs H ps bs → Pd.fines ps
  | [], bs, h => by rw [Pd.fines]; trivial
  | p :: ps, bs, h => by
    rw [PdVs] at h
    obtain ⟨v, r, _, h1, h2⟩ := h
    rw [Pd.fines]
    exact ⟨h1.fine, PdVs.fine h2⟩
end
theorem runV_put : ∀ (row : List Val) (pre : List Val) (r : Rd) (y : List UInt8), (∀ a ∈ row, Tidy a) → r.has (row.flatMap putB ++ y) → runR vStep row.length (pre, r) = (pre ++ row, r.adv (row.flatMap putB).length) ∧ (r.adv (row.flatMap putB).length).has y
  | [], pre, r, y, _, h => by
    refine ⟨?_, h.adv⟩
    rw [List.append_nil]
    rfl
  | a :: row, pre, r, y, ht, h => by
    have h0 : r.has (putB a ++ (row.flatMap putB ++ y)) := by
      rw [List.flatMap_cons, List.append_assoc] at h
      exact h
    obtain ⟨h1, h2⟩ := takeV_put (ht a (by simp)) h0
    obtain ⟨h3, h4⟩ := runV_put row (pre ++ [a]) _ y (fun b hb => ht b (by simp [hb])) h2
    have e : ((a :: row).flatMap putB).length = (putB a).length + (row.flatMap putB).length := by rw [List.flatMap_cons, List.length_append]
    rw [Rd.adv_adv, ← e] at h3 h4
    refine ⟨?_, h4⟩
    rw [List.length_cons, runR, if_neg (fun he => he h.e0), show vStep (pre, r) = (pre ++ [a], r.adv (putB a).length) by unfold vStep; rw [h1], h3, List.append_assoc]
    rfl
theorem runP_put {g : Rd → Pd × Rd} : ∀ (ps : List Pd) (pre : List Pd) (r : Rd) (y : List UInt8), (∀ p ∈ ps, ∀ (r : Rd) (y : List UInt8), r.has (putP p ++ y) → g r = (p, r.adv (putP p).length) ∧ (r.adv (putP p).length).has y) → r.has (putPs ps ++ y) → runR (pStep g) ps.length (pre, r) = (pre ++ ps, r.adv (putPs ps).length) ∧ (r.adv (putPs ps).length).has y
  | [], pre, r, y, _, h => by
    refine ⟨?_, h.adv⟩
    rw [List.append_nil, putPs]
    rfl
  | p :: ps, pre, r, y, ht, h => by
    have h0 : r.has (putP p ++ (putPs ps ++ y)) := by
      rw [putPs, List.append_assoc] at h
      exact h
    obtain ⟨h1, h2⟩ := ht p (by simp) r _ h0
    obtain ⟨h3, h4⟩ := runP_put ps (pre ++ [p]) _ y (fun b hb => ht b (by simp [hb])) h2
    have e : (putPs (p :: ps)).length = (putP p).length + (putPs ps).length := by rw [putPs, List.length_append]
    rw [Rd.adv_adv, ← e] at h3 h4
    refine ⟨?_, h4⟩
    rw [List.length_cons, runR, if_neg (fun he => he h.e0), show pStep g (pre, r) = (pre ++ [p], r.adv (putP p).length) by unfold pStep; rw [h1], h3, List.append_assoc]
    rfl
theorem firstI_all {α : Type} {f : α → Int} : ∀ {l : List α}, firstI f l = 0 → ∀ v ∈ l, f v = 0
  | v :: vs, h, u, hu => by
    rw [firstI] at h
    split at h
    · rename_i hv
      rcases List.mem_cons.1 hu with rfl | hu
      · exact hv
      · exact firstI_all h u hu
    · rename_i hv
      exact absurd h hv
theorem sh_vals0 {m : Nat} (h : m < 13) (hc : (sh m).col = false) : (sh m).mv = 0 := by
  have : ∀ m, m < 13 → (sh m).col = false → (sh m).mv = 0 := by decide
  exact this m h hc
theorem cntR_put {r : Rd} {n : Nat} {y : List UInt8} (hn : n ≤ 256) (h : r.has (varB n ++ y)) : cntR r = (n, r.adv (varB n).length) ∧ (r.adv (varB n).length).has y := by
  obtain ⟨h1, h2⟩ := h.var (by omega)
  refine ⟨?_, h2⟩
  unfold cntR
  rw [h1, if_neg (by show ¬ n > 256; omega)]
end Go.Proofs.YteoofihjmldllaaDoor

/- Two ways that meet: a rule over the abstract states. No condition. -/
set_option linter.unusedVariables false
namespace Go.Ab
/-- What is so on both ways is all that the rest is told. -/
theorem ACode.meet {P : Program} {NG N : Nat} {Q : Exit → St → Prop} {fr : Fr} {H : Hp} {nk : Nat} {γ : Type} {x y : Code} (lv : γ → List (Nat × Value)) (lc : List (Nat × Value)) (h0 : Has fr lc) (X : γ → Hp → Nat → Prop)
    (h : ACode P NG N x (thenA (fun s' => ∃ g, Has s'.fr (lv g ++ lc) ∧ X g s'.H s'.k) Q) ⟨fr, H, nk⟩)
    (h2 : ∀ g H' k', (∀ m, k' ≤ m → H' m = none) → X g H' k' → ACode P NG N y Q ⟨frL (lv g ++ lc), H', k'⟩) : ACode P NG N (.seq x y) Q ⟨fr, H, nk⟩ := by
  refine ACode.seq (h.mono ?_)
  intro e s' hq
  cases e with
  | normal =>
    obtain ⟨fr, H', k'⟩ := s'
    obtain ⟨g, h3, h4⟩ := hq
    exact ACode.has h3 (ACode.fresh fun hf => h2 g H' k' hf h4)
  | _ => exact hq
end Go.Ab
