/- Contracts over the abstract states: LogTells. -/
import Derived.Test.YteoofihjmldllaaDoorR22
import Derived.Test.YteoofihjmldllaaDoorR23
import Derived.Test.YteoofihjmldllaaDoorR17
set_option linter.unusedVariables false
set_option linter.unusedSimpArgs false
set_option maxRecDepth 100000
namespace Go.Proofs.YteoofihjmldllaaDoor
open Go Go.Ab

theorem putC_len {c : Cm} (h : c.lean_) (hf : c.pred.fine) : (putC c).1.length ≤ 1000000 := by
  have hl := lean_plain h
  have hp : (plainC c).pred.fine := by
    have h0 : pD0.fine := by rw [Pd.fine]; exact ⟨⟨by decide, by decide⟩, fun v hv => (nomatch hv), by rw [Pd.fines]; trivial⟩
    unfold plainC
    split
    · exact h0
    · split
      · exact h0
      · split
        · exact hf
        · split
          · exact h0
          · exact h0
  have h1 := hl.sch
  have h2 := hl.small
  have h3 := hl.len hp
  have h4 := rowsB_le h2 (plainC c).rows.length
  rw [List.take_length] at h4
  have h5 := h2.n
  have h6 := varB_len (plainC c).rows.length (by omega)
  have h7 : (rowsB (plainC c).rows).length ≤ 388510 := by rw [rowsB, List.length_append]; omega
  have h8 : (schB (plainC c).sch).length ≤ 300 := by rw [schB, List.length_cons, colB_len]; omega
  have v1 := varB_len (uN (plainC c).most) (uN_lt _)
  have v2 := varB_len (uN (plainC c).fr) (uN_lt _)
  have v3 := varB_len (uN (plainC c).to) (uN_lt _)
  unfold putC
  split
  · show (byteI c.kind :: bodyC (plainC c)).length ≤ 1000000
    rw [List.length_cons]
    unfold bodyC
    split
    · rw [List.length_append]; omega
    · split
      · omega
      · split
        · omega
        · split
          · rw [List.length_append]; omega
          · rw [List.length_nil]; omega
  · exact Nat.zero_le _
theorem plain_ok {c : Cm} (h : c.ok) : (plainC c).ok := by
  have h0 := cmD_ok c.kind
  unfold plainC
  split
  · exact ⟨h.sl, h.so, h0.rl, h0.rr, h0.ro⟩
  · split
    · exact ⟨h0.sl, h0.so, h.rl, h.rr, h.ro⟩
    · split
      · exact ⟨h0.sl, h0.so, h0.rl, h0.rr, h0.ro⟩
      · split
        · exact ⟨h0.sl, h0.so, h0.rl, h0.rr, h0.ro⟩
        · exact h0
section
variable (H : Hp) (k : Nat)

set_option maxHeartbeats 2000000 in
set_option maxHeartbeats 2000000 in
set_option maxHeartbeats 2000000 in
set_option maxHeartbeats 2000000 in
end

end Go.Proofs.YteoofihjmldllaaDoor
