/- Paths of digests: slices of digests, how long a path is, what folds; plain Lean. No condition. -/
import Derived.Test.YtipaiielkpifoaaDoorS13
set_option linter.unusedVariables false
set_option linter.unusedSimpArgs false
set_option maxRecDepth 100000
namespace Go.Proofs.YtipaiielkpifoaaDoor
open Go Go.Ab

/-- The cells of digests behind each other. -/
abbrev hcs (l : List Dg) : List Value := l.flatMap fun d => d.l.map bv
theorem hcs_one (d : Dg) : (d.l.map bv).length = 32 := by rw [List.length_map, d.h]
theorem hcs_len (l : List Dg) : (hcs l).length = l.length * 32 := flatMap_len hcs_one l
theorem SLC.elH {H : Hp} {c0 i : Nat} {A0 : Option Addr} {l : List Dg} (hS : SLC H 32 A0 l.length c0 (hcs l)) (d : Dg) (hi : i < l.length) :
    ∃ n off sp, aslcAt H 32 i (.slice A0 l.length c0) = some (ptr n off sp) ∧ PAt H n off sp ((l.getD i d).l.map bv) := by
  rw [getD_el hi]
  exact slcEl hS.cells hcs_one (by decide) hi

def zeroD : Dg := ⟨List.replicate 32 0, rfl⟩
theorem RetQ.cellTmp {P : Program} {fn : Func} {H H'' : Hp} {k t ty t' : Nat} {R : Value → Hp → Nat → Prop} {fr : Fr} {H' : Hp} {k' : Nat} {p v v' : Value} (hr : fn.results = #[.cell t ty, .tmp t']) (hp : fr t = some p) (hv : aloadVar P H' ty p = some v) (hv' : fr t' = some v') (hs : Sub H'' H') (hst : ∀ n b, H n = some b → ∃ b', H'' n = some b') (hR : k ≤ k' → R (.tuple #[v, v']) H'' k') :
    RetQ P fn H k R .ret ⟨fr, H', k'⟩ := by
  intro hk
  refine ⟨[v, v'], H'', ?_, hs, hst, hR hk⟩
  rw [hr]
  simp [aresults, aresult, hp, hv, hv']
end Go.Proofs.YtipaiielkpifoaaDoor
