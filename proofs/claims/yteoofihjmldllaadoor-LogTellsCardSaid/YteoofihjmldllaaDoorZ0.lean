/- Zones, in plain Lean: the zone of values, which truths may be; the truth of a row may be by the zones of rows; of more rows a zone only grows. No condition. -/
import Derived.Test.YteoofihjmldllaaDoorP7
set_option linter.unusedVariables false
set_option linter.unusedSimpArgs false
set_option maxRecDepth 100000
namespace Go.Proofs.YteoofihjmldllaaDoor
open Go Go.Ab

structure Zn where
  nulls : Int
  some : Bool
  min : Val
  max : Val
def zD : Zn := ⟨0, false, vD, vD⟩
/-! ### The zone of values -/
def zfirst (z : Zn) (v : Val) : Zn := if z.some = true then z else ⟨z.nulls, true, v, v⟩
def zlow (z : Zn) (v : Val) : Zn := if cmpV v z.min < 0 then { z with min := v } else z
def zhigh (z : Zn) (v : Val) : Zn := if cmpV v z.max > 0 then { z with max := v } else z
def zstep (z : Zn) (v : Val) : Zn := if v.kind = 0 then { z with nulls := z.nulls + 1 } else zhigh (zlow (zfirst z v) v) v
def zoneOf (l : List Val) : Zn := l.foldl zstep zD
def nnull (l : List Val) : Nat := l.countP fun v => v.kind == 0
structure ZIs (l : List Val) (z : Zn) : Prop where
  nulls : z.nulls = (nnull l : Int)
  no : z.some = false → (∀ v ∈ l, v.kind = 0) ∧ z.min = vD ∧ z.max = vD
  yes : z.some = true → (z.min ∈ l ∧ z.min.kind ≠ 0) ∧ (z.max ∈ l ∧ z.max.kind ≠ 0) ∧ ∀ v ∈ l, v.kind ≠ 0 → cmpV z.min v ≤ 0 ∧ cmpV v z.max ≤ 0
/-! ### Which truths may be -/
structure T3 where
  f : Bool
  u : Bool
  t : Bool
/-! ### The truth of a row may be -/
inductive All2 {α β : Type} (R : α → β → Prop) : List α → List β → Prop
  | nil : All2 R [] []
  | cons {a : α} {b : β} {l : List α} {m : List β} (h : R a b) (t : All2 R l m) : All2 R (a :: l) (b :: m)
/-- The columns' values and their zones. -/
structure Covers (rows : List (List Val)) (zs : List Zn) : Prop where
  wide : ∀ row ∈ rows, row.length = zs.length
  zone : ∀ c, c < zs.length → zs.getD c zD = zoneOf (rows.map fun row => row.getD c vD)

/-! ### Of more rows a zone only grows -/
structure ZLe (y z : Zn) (k n : Int) : Prop where
  nulls : y.nulls ≤ z.nulls
  rest : k - y.nulls ≤ n - z.nulls
  some : y.some = true → z.some = true ∧ cmpV z.min y.min ≤ 0 ∧ cmpV y.max z.max ≤ 0 ∧ cmpV y.min y.max ≤ 0
end Go.Proofs.YteoofihjmldllaaDoor
