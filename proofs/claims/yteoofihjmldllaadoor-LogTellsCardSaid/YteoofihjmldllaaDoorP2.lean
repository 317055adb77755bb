/- Predicates, in plain Lean: what operators have, the truth of a row, what is wrong with a predicate; predicates in memory. No condition. -/
import Derived.Test.YteoofihjmldllaaDoorV5
import Derived.Test.YteoofihjmldllaaDoorAbG
set_option linter.unusedVariables false
set_option linter.unusedSimpArgs false
set_option maxRecDepth 100000
namespace Go.Proofs.YteoofihjmldllaaDoor
open Go Go.Ab

structure Sh where
  col : Bool
  v : Nat
  mv : Nat
  p : Nat
  mp : Nat
inductive Pd where
  | mk (op col : Int) (vals : List Val) (of : List Pd)
theorem Pd.lt {op col : Int} {vals : List Val} {of : List Pd} {q : Pd} (h : q ∈ of) : SizeOf.sizeOf q < SizeOf.sizeOf (Pd.mk op col vals of) := by
  have := List.sizeOf_lt_of_mem h
  simp only [Pd.mk.sizeOf_spec]
  omega
def vD : Val := ⟨0, 0, ⟨#[]⟩⟩
def known (op : Int) : Bool := decide (op ≥ 0) && decide (op < 13)
/-! ### In memory -/
mutual
def PdV (H : Hp) : Pd → Value → Prop
  | .mk op col vals of, v => ∃ A c B d bs, v = .agg #[.int .i64 op, .int .i64 col, .slice A vals.length c, .slice B of.length d] ∧ slcCells H 3 (.slice A vals.length c) = some (vals3 vals) ∧ vals.length ≤ 9223372036854775807 ∧ of.length ≤ 9223372036854775807 ∧ (-9223372036854775808 ≤ op ∧ op ≤ 9223372036854775807) ∧ (-9223372036854775808 ≤ col ∧ col ≤ 9223372036854775807) ∧ (∀ v ∈ vals, v.ok) ∧ SLC H 4 B of.length d bs ∧ PdVs H of bs
def PdVs (H : Hp) : List Pd → List Value → Prop
  | [], bs => bs = []
  | p :: ps, bs => ∃ v r, bs = v.cells.toList ++ r ∧ PdV H p v ∧ PdVs H ps r
end
theorem PdV.agg {H : Hp} {p : Pd} {v : Value} (h : PdV H p v) : v = .agg v.cells ∧ v.cells.toList.length = 4 := by
  cases p with
  | mk op col vals of =>
    rw [PdV] at h
    obtain ⟨A, c, B, d, bs, rfl, _⟩ := h
    exact ⟨rfl, rfl⟩
mutual
theorem PdV.sub {H H' : Hp} (hs : Ab.Sub H H') : ∀ {p : Pd} {v : Value}, PdV H p v → PdV H' p v
  | .mk op col vals of, v, h => by
    rw [PdV] at h ⊢
    obtain ⟨A, c, B, d, bs, h1, h2, h3, h4, h5, h6, h7, h8, h9⟩ := h
    exact ⟨A, c, B, d, bs, h1, slcCells_sub hs h2, h3, h4, h5, h6, h7, h8.sub hs, PdVs.sub hs h9⟩
theorem PdVs.sub {H H' : Hp} (hs : Ab.Sub H H') : ∀ {ps : List Pd} {bs : List Value}, PdVs H ps bs → PdVs H' ps bs
  | [], bs, h => by rw [PdVs] at h ⊢; exact h
  | p :: ps, bs, h => by
    rw [PdVs] at h ⊢
    obtain ⟨v, r, h1, h2, h3⟩ := h
    exact ⟨v, r, h1, PdV.sub hs h2, PdVs.sub hs h3⟩
end
theorem PdVs.len {H : Hp} : ∀ {ps : List Pd} {bs : List Value}, PdVs H ps bs → bs.length = ps.length * 4
  | [], bs, h => by rw [PdVs] at h; subst h; rfl
  | p :: ps, bs, h => by
    rw [PdVs] at h
    obtain ⟨v, r, rfl, h2, h3⟩ := h
    rw [List.length_append, h2.agg.2, PdVs.len h3, List.length_cons]
    omega
theorem PdVs.at_ {H : Hp} (d : Pd) : ∀ {ps : List Pd} {bs : List Value} (i : Nat), PdVs H ps bs → i < ps.length → ∃ v, (bs.drop (i * 4)).take 4 = v.cells.toList ∧ PdV H (ps.getD i d) v
  | p :: ps, bs, 0, h, _ => by
    rw [PdVs] at h
    obtain ⟨v, r, rfl, h2, h3⟩ := h
    exact ⟨v, by rw [Nat.zero_mul, List.drop_zero, List.take_left' h2.agg.2], h2⟩
  | p :: ps, bs, i + 1, h, hi => by
    rw [PdVs] at h
    obtain ⟨v, r, rfl, h2, h3⟩ := h
    obtain ⟨u, h4, h5⟩ := PdVs.at_ d i h3 (by simpa using hi)
    refine ⟨u, ?_, h5⟩
    rw [Nat.succ_mul, Nat.add_comm, ← List.drop_drop, List.drop_left' h2.agg.2, h4]
theorem PdVs.snoc {H : Hp} {p : Pd} {v : Value} (hv : PdV H p v) : ∀ {ps : List Pd} {bs : List Value}, PdVs H ps bs → PdVs H (ps ++ [p]) (bs ++ v.cells.toList)
  | [], bs, h => by
    rw [PdVs] at h
    subst h
    rw [List.nil_append, PdVs]
    exact ⟨v, [], by rw [List.append_nil]; rfl, hv, by rw [PdVs]⟩
  | q :: ps, bs, h => by
    rw [PdVs] at h
    obtain ⟨u, r, rfl, h2, h3⟩ := h
    rw [List.cons_append, PdVs]
    exact ⟨u, r ++ v.cells.toList, by rw [List.append_assoc], h2, PdVs.snoc hv h3⟩
/-- A part of a predicate: where it lies. -/
theorem PdVs.el {H : Hp} {ps : List Pd} {bs : List Value} {B : Option Addr} {c i : Nat} (d : Pd) (hS : SLC H 4 B ps.length c bs) (h : PdVs H ps bs) (hi : i < ps.length) :
    ∃ n off sp v, aslcAt H 4 i (.slice B ps.length c) = some (ptr n off sp) ∧ PAt H n off sp v.cells.toList ∧ PdV H (ps.getD i d) v := by
  obtain ⟨v, h1, h2⟩ := h.at_ d i hi
  obtain ⟨n, off, sp, h3, h4⟩ := slcPt (i := i) hS.cells (by rw [h.len]; exact Nat.mul_le_mul_right _ hi) (by decide)
  rw [h1] at h4
  exact ⟨n, off, sp, v, h3, h4, h2⟩
def pD : Pd := .mk 0 0 [] []
end Go.Proofs.YteoofihjmldllaaDoor
