/- Paths of digests: slices of digests, how long a path is, what folds; plain Lean. No condition. -/
import Derived.Test.YtipaiielkpifoaaDoorS13
set_option linter.unusedVariables false
set_option linter.unusedSimpArgs false
set_option maxRecDepth 100000
namespace Go.Proofs.YtipaiielkpifoaaDoor
open Go Go.Ab

/-- The cells of digests behind each other. -/
abbrev hcs (l : List Dg) : List Value := l.flatMap fun d => d.l.map bv
theorem hcs_one (d : Dg) : (d.l.map bv).length = 32 := by rw [List.length_map, d.h]
theorem hcs_len (l : List Dg) : (hcs l).length = l.length * 32 := flatMap_len hcs_one l
theorem hcs_take (l : List Dg) : ∀ k, (hcs l).take (k * 32) = hcs (l.take k) := by
  induction l with
  | nil => intro k; simp [hcs]
  | cons d l ih =>
    intro k
    cases k with
    | zero => simp [hcs]
    | succ k =>
      rw [List.take_succ_cons, show hcs (d :: l) = d.l.map bv ++ hcs l from rfl, show hcs (d :: l.take k) = d.l.map bv ++ hcs (l.take k) from rfl, List.take_append, hcs_one, List.take_of_length_le (by rw [hcs_one]; omega),
        show (k + 1) * 32 - 32 = k * 32 by omega, ih]
theorem SLC.cutH {H : Hp} {c0 : Nat} {A0 : Option Addr} {l : List Dg} (hS : SLC H 32 A0 l.length c0 (hcs l)) (k : Nat) (h : k ≤ l.length) :
    ∃ A c, aslice H 32 0 k none (.slice A0 l.length c0) = some (.slice A (l.take k).length c) ∧ SLC H 32 A (l.take k).length c (hcs (l.take k)) := by
  obtain ⟨A, c, h1, h2⟩ := SLC.cut hS 0 k none (Nat.zero_le _) h (by intro x hx; cases hx)
  have e : (l.take k).length = k - 0 := by rw [List.length_take]; omega
  rw [Nat.zero_mul, List.drop_zero, Nat.sub_zero, hcs_take] at h2
  exact ⟨A, c, by rw [e]; exact h1, by rw [e]; exact h2⟩
theorem SLC.elH {H : Hp} {c0 i : Nat} {A0 : Option Addr} {l : List Dg} (hS : SLC H 32 A0 l.length c0 (hcs l)) (d : Dg) (hi : i < l.length) :
    ∃ n off sp, aslcAt H 32 i (.slice A0 l.length c0) = some (ptr n off sp) ∧ PAt H n off sp ((l.getD i d).l.map bv) := by
  rw [getD_el hi]
  exact slcEl hS.cells hcs_one (by decide) hi

def zeroD : Dg := ⟨List.replicate 32 0, rfl⟩
def depthZ (i n : Int) : Int := if 0 ≤ i ∧ i < n then (depthN i.toNat n.toNat : Int) else -1
theorem depthZ_bad {i n : Int} (h : ¬ (0 ≤ i ∧ i < n)) : depthZ i n = -1 := if_neg h
theorem depthZ_nat {i n : Nat} (h : i < n) : depthZ (i : Int) (n : Int) = (depthN i n : Int) := by
  rw [depthZ, if_pos (by omega), Int.toNat_natCast, Int.toNat_natCast]
theorem depthN_le : ∀ (n i : Nat), depthN i n ≤ n := by
  intro n
  induction n using Nat.strongRecOn with
  | _ n ih =>
    intro i
    by_cases h : 2 ≤ n
    · obtain ⟨s1, s2, s3⟩ := spN_spec h
      by_cases hi : i < spN n
      · rw [depthN_l h hi]
        have := ih (spN n) s2 i
        omega
      · rw [depthN_r h hi]
        have := ih (n - spN n) (by omega) (i - spN n)
        omega
    · rw [depthN_one h]; omega
def foldZ (h : Dg) (i n : Int) (p : List Dg) : Dg × Bool :=
  if 1 ≤ n ∧ n ≤ 1099511627776 ∧ 0 ≤ i ∧ i < n ∧ depthN i.toNat n.toNat = p.length then (foldT h i.toNat n.toNat p, true) else (zeroD, false)
abbrev foldV (x : Dg × Bool) : Value := .tuple #[hv x.1, .bool x.2]
theorem foldZ_bad {h : Dg} {i n : Int} {p : List Dg} (hb : ¬ (1 ≤ n ∧ n ≤ 1099511627776 ∧ 0 ≤ i ∧ i < n)) : foldZ h i n p = (zeroD, false) := if_neg fun ⟨h1, h2, h3, h4, _⟩ => hb ⟨h1, h2, h3, h4⟩
theorem foldZ_no {h : Dg} {i n : Nat} {p : List Dg} (hb : ¬ depthN i n = p.length) : foldZ h (i : Int) (n : Int) p = (zeroD, false) := if_neg fun ⟨_, _, _, _, h5⟩ => hb h5
theorem foldZ_yes {h : Dg} {i n : Nat} {p : List Dg} (h1 : i < n) (h2 : n ≤ 1099511627776) (hb : depthN i n = p.length) : foldZ h (i : Int) (n : Int) p = (foldT h i n p, true) := if_pos ⟨by omega, by omega, by omega, by omega, hb⟩
theorem depthN_two {i n : Nat} (h : 2 ≤ n) : 1 ≤ depthN i n := by
  by_cases hi : i < spN n
  · rw [depthN_l h hi]; omega
  · rw [depthN_r h hi]; omega

theorem RetQ.cellTmp {P : Program} {fn : Func} {H H'' : Hp} {k t ty t' : Nat} {R : Value → Hp → Nat → Prop} {fr : Fr} {H' : Hp} {k' : Nat} {p v v' : Value} (hr : fn.results = #[.cell t ty, .tmp t']) (hp : fr t = some p) (hv : aloadVar P H' ty p = some v) (hv' : fr t' = some v') (hs : Sub H'' H') (hst : ∀ n b, H n = some b → ∃ b', H'' n = some b') (hR : k ≤ k' → R (.tuple #[v, v']) H'' k') :
    RetQ P fn H k R .ret ⟨fr, H', k'⟩ := by
  intro hk
  refine ⟨[v, v'], H'', ?_, hs, hst, hR hk⟩
  rw [hr]
  simp [aresults, aresult, hp, hv, hv']
end Go.Proofs.YtipaiielkpifoaaDoor
