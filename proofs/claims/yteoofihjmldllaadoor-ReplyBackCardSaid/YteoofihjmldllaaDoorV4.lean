/- What is wrong with a schema and a row, in plain Lean: the code's and the document's answers are the same. No condition. -/
import Derived.Test.YteoofihjmldllaaDoorV0
set_option linter.unusedVariables false
set_option linter.unusedSimpArgs false
namespace Go.Proofs.YteoofihjmldllaaDoor
open Go

structure Col where
 kind : Int
 null : Bool
 way : Int
abbrev cc (c : Col) : Value := .agg #[.int .i64 c.kind, .bool c.null, .int .i64 c.way]

theorem any_step {α : Type} {p : α → Bool} {l : List α} {i : Nat} (hi : i < l.length) (h : (l.take i).any p = false) (hp : p l[i] = false) : (l.take (i + 1)).any p = false := by
 rw [List.take_succ_eq_append_getElem hi, List.any_append, h]
 simp [hp]
theorem any_hit {α : Type} {p : α → Bool} {l : List α} {i : Nat} (hi : i < l.length) (hp : p l[i] = true) : l.any p = true :=
 List.any_eq_true.2 ⟨l[i], List.getElem_mem hi, hp⟩
theorem any_end {α : Type} {p : α → Bool} {l : List α} {i : Nat} (hi : i = l.length) (h : (l.take i).any p = false) : l.any p = false := by
 subst hi
 rwa [List.take_length] at h

def badKind (c : Col) : Bool := c.kind != 1 && c.kind != 2
def wayB (c : Col) : Bool := if c.kind = 2 then (c.way == -1 || c.way == 5) else (decide (-1 ≤ c.way) && decide (c.way ≤ 4))
def schemaI (l : List Col) : Int := if l.length < 1 ∨ 64 < l.length then 12 else if l.any badKind then 11 else if l.any (fun c => !wayB c) then 1 else 0
def stands (c : Col) (v : Val) : Bool :=
 if valEq v ⟨0, 0, ⟨#[]⟩⟩ = true then c.null else if valEq v ⟨1, v.n, ⟨#[]⟩⟩ = true then c.kind == 1 else if valEq v ⟨2, 0, v.s⟩ = true then c.kind == 2 else false
def wrongR (c : Col) (v : Val) : Bool := !right v c.kind || v.kind == 0 && !c.null
theorem stands_same (c : Col) (v : Val) : (!stands c v) = wrongR c v := by
 have e : ∀ s : ByteArray, isEmp s = decide (s = ⟨#[]⟩) := fun s => by
  rw [Bool.eq_iff_iff, isEmp_iff]
  simp
 unfold stands wrongR right valEq
 simp only [e]
 by_cases h0 : v.kind = 0
 ·simp [h0]
  by_cases h1 : v.n = 0 <;> by_cases h2 : v.s = ⟨#[]⟩ <;> simp [h1, h2]
 ·by_cases h1 : v.kind = 1
  ·by_cases h2 : v.s = ⟨#[]⟩ <;> by_cases h3 : c.kind = 1
   ·simp [h1, h2, h3]
   ·have h3' : ((1 : Int) == c.kind) = false := beq_eq_false_iff_ne.2 fun e => h3 e.symm
    have h3 : (c.kind == 1) = false := beq_eq_false_iff_ne.2 h3
    simp [h1, h2, h3, h3']
   ·simp [h1, h2, h3]
   ·have h3' : ((1 : Int) == c.kind) = false := beq_eq_false_iff_ne.2 fun e => h3 e.symm
    have h3 : (c.kind == 1) = false := beq_eq_false_iff_ne.2 h3
    simp [h1, h2, h3, h3']
  ·by_cases h2 : v.kind = 2
   ·by_cases h4 : v.n = 0 <;> by_cases h3 : c.kind = 2
    ·simp [h2, h4, h3]
    ·have h3' : ((2 : Int) == c.kind) = false := beq_eq_false_iff_ne.2 fun e => h3 e.symm
     have h3 : (c.kind == 2) = false := beq_eq_false_iff_ne.2 h3
     simp [h2, h4, h3, h3']
    ·simp [h2, h4, h3]
    ·have h3' : ((2 : Int) == c.kind) = false := beq_eq_false_iff_ne.2 fun e => h3 e.symm
     have h3 : (c.kind == 2) = false := beq_eq_false_iff_ne.2 h3
     simp [h2, h4, h3, h3']
   ·simp [h0, h1, h2]
    by_cases h5 : v.kind = c.kind
    ·right
     omega
    ·exact .inl h5

def rowAt (p : Col → Val → Bool) : List Col → List Val → Int
 | c :: cs, v :: vs => if p c v then 11 else if 65536 < v.s.size then 12 else rowAt p cs vs
 | _, _ => 0
def rowI (p : Col → Val → Bool) (cs : List Col) (vs : List Val) : Int := if vs.length = cs.length then rowAt p cs vs else 1
theorem rowAt_step {p : Col → Val → Bool} {cs : List Col} {vs : List Val} {i : Nat} (h1 : i < cs.length) (h2 : i < vs.length) : rowAt p (cs.drop i) (vs.drop i) = if p cs[i] vs[i] then 11 else if 65536 < vs[i].s.size then 12 else rowAt p (cs.drop (i + 1)) (vs.drop (i + 1)) := by
 rw [List.drop_eq_getElem_cons h1, List.drop_eq_getElem_cons h2]
 rfl
end Go.Proofs.YteoofihjmldllaaDoor
