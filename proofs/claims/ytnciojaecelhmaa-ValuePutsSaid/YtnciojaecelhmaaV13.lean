/- ValuePuts over whatever abstract arguments: it answers true. -/
import Derived.Test.YtnciojaecelhmaaV6
import Derived.Test.YtnciojaecelhmaaV12
set_option linter.unusedVariables false
set_option maxRecDepth 100000
namespace Go.Proofs.Ytnciojaecelhmaa
open Go Go.Ab
section
variable {H : Hp} {u : Value}
theorem bytes_arg (h : AV Try.prog H 36 u) : ∃ (bs : List UInt8) (A : Option Addr) (c : Nat), u = .slice A bs.length c ∧ SLC H 1 A bs.length c (bs.map bv) ∧ bs.length ≤ maxLen := by
  obtain ⟨A, l, c, cells, e, h1, h2, h3, h4⟩ := (h.plain plain_slc).SLC_inv
  injection e with e
  subst e
  obtain ⟨bs, rfl, rfl⟩ := h4.bytes_inv
  exact ⟨bs, A, c, rfl, h1, h3⟩
theorem cols_argS (h : AV Try.prog H 28 u) : ∃ (cols : List Col) (A : Option Addr) (c : Nat), u = .slice A cols.length c ∧ SLC H 3 A cols.length c (cols3 cols) ∧ cols.length ≤ 9223372036854775807 := by
  obtain ⟨A, l, c, cells, e, h1, h2, h3, h4⟩ := (h.plain plain_slc).SLC_inv
  injection e with e
  subst e
  obtain ⟨cols, rfl, rfl⟩ := cols_inv h4
  exact ⟨cols, A, c, rfl, h1, h3⟩
theorem row_inv {cs : List Value} (h : AD Try.prog H (.one 29) cs) : ∃ (vals : List Val) (A : Option Addr) (c : Nat), cs = [.slice A vals.length c] ∧ SLC H 3 A vals.length c (vals3 vals) ∧ vals.length ≤ 9223372036854775807 ∧ ∀ v ∈ vals, v.ok := by
  obtain ⟨A, l, c, cells, rfl, h1, h2, h3, h4⟩ := h.SLC_inv
  obtain ⟨vals, rfl, rfl, h5⟩ := vals_inv h4
  exact ⟨vals, A, c, rfl, h1, h3, h5⟩
theorem rows_inv : ∀ {l : Nat} {cs : List Value}, AD Try.prog H (.many (List.replicate l 29)) cs → ∃ rows : List (List Val), rows.length = l ∧ Rws H cs rows ∧ ∀ r ∈ rows, r.length ≤ 9223372036854775807 ∧ ∀ v ∈ r, v.ok
  | 0, cs, h => ⟨[], rfl, by rw [h.nil_inv]; exact ⟨rfl, fun i hi => by simp at hi⟩, fun x hx => by cases hx⟩
  | l + 1, cs, h => by
    rw [List.replicate_succ] at h
    obtain ⟨a, b, rfl, ha, hl, hb⟩ := h.cons_inv
    obtain ⟨r, A, c, rfl, h1, h2, h2'⟩ := row_inv ha
    obtain ⟨rows, h3, h4, h5⟩ := rows_inv hb
    refine ⟨r :: rows, by simp [h3], ⟨by simp [h4.len], fun i hi => ?_⟩, fun x hx => ?_⟩
    · cases i with
      | zero => exact ⟨A, c, rfl, h1⟩
      | succ i => exact h4.at_ i (by simpa using hi)
    · rcases List.mem_cons.1 hx with rfl | hx
      · exact ⟨h2, h2'⟩
      · exact h5 x hx
theorem rows_arg (h : AV Try.prog H 37 u) : ∃ (rows : List (List Val)) (vs : List Value) (A : Option Addr) (c : Nat), u = .slice A vs.length c ∧ SLC H 1 A vs.length c vs ∧ Rws H vs rows ∧ vs.length ≤ 9223372036854775807 ∧ ∀ r ∈ rows, r.length ≤ 9223372036854775807 ∧ ∀ v ∈ r, v.ok := by
  obtain ⟨A, l, c, cells, e, h1, h2, h3, h4⟩ := (h.plain plain_slc).SLC_inv
  injection e with e
  subst e
  obtain ⟨rows, h5, h6, h7⟩ := rows_inv h4
  have hc : cells.length = l := by rw [h6.len, h5]
  subst hc
  exact ⟨rows, cells, A, c, rfl, h1, h6, h3, h7⟩
end
theorem valuePuts_any (H : Hp) (k : Nat) (us : List Value) (h : AVs Try.prog H Try.f5.params.toList us) : ACalls Try.prog 0 5 us H k fun v _ _ => v = .bool true := by
  rw [Try.params5] at h
  obtain ⟨u1, r1, rfl, h1, h⟩ := AVs.cons_inv h
  obtain ⟨u2, r2, rfl, h2, h⟩ := AVs.cons_inv h
  obtain ⟨u3, r3, rfl, h3, h⟩ := AVs.cons_inv h
  obtain ⟨u4, r4, rfl, h4, h⟩ := AVs.cons_inv h
  cases AVs.nil_inv h
  obtain ⟨b, A, c, rfl, g1, g2⟩ := bytes_arg h1
  obtain ⟨a, ha, rfl⟩ := val_arg h2
  obtain ⟨cols, B, d, rfl, g3, g4⟩ := cols_argS h3
  obtain ⟨rows, vs, C, e, rfl, g5, g6, g7, g8⟩ := rows_arg h4
  exact (valuePuts 0 H k b A c g1 a ha cols B d g3 rows vs C e g5 g6 g7 (fun r hr => (g8 r hr).1) (fun r hr => (g8 r hr).2)).mono fun v H' k' h => h.1
end Go.Proofs.Ytnciojaecelhmaa
