/- Contracts over the abstract states: what a clash is; texts of leaves and nodes; halves. -/
import Derived.Test.YtipaiielkpifoaaDoorC0
import Derived.Test.YtipaiielkpifoaaDoorS15
import Derived.Test.YtipaiielkpifoaaDoorF2
set_option linter.unusedVariables false
set_option linter.unusedSimpArgs false
set_option maxRecDepth 100000
namespace Go.Proofs.YtipaiielkpifoaaDoor
open Go Go.Ab

/-- What a search tells: two texts in memory, and whether they are a clash. -/
def Tells (H : Hp) (ok : Bool) (v : Value) (H' : Hp) : Prop :=
  ∃ (x y : List UInt8) (A B : Option Addr) (c d : Nat), v = .tuple #[.slice A x.length c, .slice B y.length d, .bool ok] ∧ SLC H' 1 A x.length c (x.map bv) ∧ SLC H' 1 B y.length d (y.map bv) ∧ (ok = false → x = [] ∧ y = []) ∧ (ok = true → isC x y ∧ x.length ≤ 549755813888 ∧ y.length ≤ 549755813888)
abbrev tV (b : Bool) (v : Value) : Value := bif b then v else .slice none 0 0
abbrev toldV (x y : List UInt8) (A B : Option Addr) (c d : Nat) : Value := .tuple #[tV (decide (isC x y)) (.slice A x.length c), tV (decide (isC x y)) (.slice B y.length d), .bool (decide (isC x y))]
theorem Tells.yes {H H' : Hp} {x y : List UInt8} {A B : Option Addr} {c d : Nat} (h : isC x y) (hx : SLC H' 1 A x.length c (x.map bv)) (hy : SLC H' 1 B y.length d (y.map bv)) (h1 : x.length ≤ 549755813888) (h2 : y.length ≤ 549755813888) :
    Tells H true (.tuple #[tV (decide (isC x y)) (.slice A x.length c), tV (decide (isC x y)) (.slice B y.length d), .bool true]) H' := by
  rw [decide_eq_true h]
  exact ⟨x, y, A, B, c, d, rfl, hx, hy, (fun e => by cases e), fun _ => ⟨h, h1, h2⟩⟩
theorem Tells.of {H H' : Hp} {x y : List UInt8} {A B : Option Addr} {c d : Nat} (h : isC x y) (hx : SLC H' 1 A x.length c (x.map bv)) (hy : SLC H' 1 B y.length d (y.map bv)) (h1 : x.length ≤ 549755813888) (h2 : y.length ≤ 549755813888) :
    Tells H true (toldV x y A B c d) H' := by
  have := Tells.yes (H := H) h hx hy h1 h2
  unfold toldV
  rw [decide_eq_true h] at this ⊢
  exact this
theorem Tells.no {H H' : Hp} : Tells H false (.tuple #[.slice none 0 0, .slice none 0 0, .bool false]) H' := ⟨[], [], none, none, 0, 0, rfl, SLC.nil, SLC.nil, fun _ => ⟨rfl, rfl⟩, fun h => by cases h⟩
theorem Tells.is {H H' : Hp} {x y : List UInt8} {A B : Option Addr} {c d : Nat} (hx : SLC H' 1 A x.length c (x.map bv)) (hy : SLC H' 1 B y.length d (y.map bv)) (h1 : x.length ≤ 549755813888) (h2 : y.length ≤ 549755813888) :
    Tells H (decide (isC x y)) (toldV x y A B c d) H' := by
  by_cases h : isC x y
  · have := Tells.of (H := H) h hx hy h1 h2
    rwa [decide_eq_true h]
  · unfold toldV
    rw [decide_eq_false h]
    exact Tells.no
theorem RetQ.three {P : Program} {fn : Func} {H H'' : Hp} {k t t' t2 : Nat} {R : Value → Hp → Nat → Prop} {fr : Fr} {H' : Hp} {k' : Nat} {v v' v2 : Value} (hr : fn.results = #[.tmp t, .tmp t', .tmp t2]) (hv : fr t = some v) (hv' : fr t' = some v') (hv2 : fr t2 = some v2) (hs : Ab.Sub H'' H') (hst : ∀ n b, H n = some b → ∃ b', H'' n = some b') (hR : k ≤ k' → R (.tuple #[v, v', v2]) H'' k') :
    RetQ P fn H k R .ret ⟨fr, H', k'⟩ := by
  intro hk
  refine ⟨[v, v', v2], H'', ?_, hs, hst, hR hk⟩
  rw [hr]
  simp [aresults, aresult, hv, hv', hv2]
section
variable (H : Hp) (k : Nat)

end

end Go.Proofs.YtipaiielkpifoaaDoor
