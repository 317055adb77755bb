/- What is wrong with a schema and a row, in plain Lean: the code's and the document's answers are the same. No condition. -/
import Derived.Test.YteoofihjmldllaaDoorV0
set_option linter.unusedVariables false
set_option linter.unusedSimpArgs false
namespace Go.Proofs.YteoofihjmldllaaDoor
open Go

structure Col where
  kind : Int
  null : Bool
  way : Int
abbrev cc (c : Col) : Value := .agg #[.int .i64 c.kind, .bool c.null, .int .i64 c.way]

theorem any_step {α : Type} {p : α → Bool} {l : List α} {i : Nat} (hi : i < l.length) (h : (l.take i).any p = false) (hp : p l[i] = false) : (l.take (i + 1)).any p = false := by
  rw [List.take_succ_eq_append_getElem hi, List.any_append, h]
  simp [hp]
def stands (c : Col) (v : Val) : Bool :=
  if valEq v ⟨0, 0, ⟨#[]⟩⟩ = true then c.null else if valEq v ⟨1, v.n, ⟨#[]⟩⟩ = true then c.kind == 1 else if valEq v ⟨2, 0, v.s⟩ = true then c.kind == 2 else false
def rowAt (p : Col → Val → Bool) : List Col → List Val → Int
  | c :: cs, v :: vs => if p c v then 11 else if 65536 < v.s.size then 12 else rowAt p cs vs
  | _, _ => 0
def rowI (p : Col → Val → Bool) (cs : List Col) (vs : List Val) : Int := if vs.length = cs.length then rowAt p cs vs else 1
theorem rowAt_step {p : Col → Val → Bool} {cs : List Col} {vs : List Val} {i : Nat} (h1 : i < cs.length) (h2 : i < vs.length) : rowAt p (cs.drop i) (vs.drop i) = if p cs[i] vs[i] then 11 else if 65536 < vs[i].s.size then 12 else rowAt p (cs.drop (i + 1)) (vs.drop (i + 1)) := by
  rw [List.drop_eq_getElem_cons h1, List.drop_eq_getElem_cons h2]
  rfl
end Go.Proofs.YteoofihjmldllaaDoor
