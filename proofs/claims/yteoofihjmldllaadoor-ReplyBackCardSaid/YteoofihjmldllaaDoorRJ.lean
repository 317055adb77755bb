/- Headers of groups: plain Lean, and in memory. No condition. -/
import Derived.Test.YteoofihjmldllaaDoorR30
set_option linter.unusedVariables false
set_option linter.unusedSimpArgs false
set_option maxRecDepth 100000
namespace Go.Proofs.YteoofihjmldllaaDoor
open Go Go.Ab
/-- What is right of a value, both ways. -/
theorem rightP_same {kind : Int} (hk : kind = 1 ∨ kind = 2) (v : Val) : rightP kind v = ((v.kind == kind && right v kind) && decide ((v.s.size : Int) ≤ 65536)) := by
 unfold rightP errV rowI
 rw [if_pos (show [v].length = [(⟨kind, false, 0⟩ : Col)].length from rfl), rowAt, stands_same, wrongR]
 by_cases h1 : v.kind = kind
 ·have h0 : (v.kind == 0) = false := by rw [beq_eq_false_iff_ne]; omega
  rw [h0, Bool.false_and, Bool.or_false]
  show (_ && ((if (!right v kind) = true then (11 : Int) else _) == 0)) = _
  cases hr : right v kind with
  | false => simp
  | true =>
   by_cases h2 : 65536 < v.s.size
   ·rw [if_neg Dz, if_pos h2]; simp [h1]; omega
   ·rw [if_neg Dz, if_neg h2]; simp [h1, rowAt]; omega
 ·have e : (v.kind == kind) = false := by rw [beq_eq_false_iff_ne]; exact h1
  rw [e]; simp
theorem sound_same (z : Zn) (rows kind : Int) : soundP z rows kind = soundR z rows kind := by
 unfold soundP soundR
 split
 ·rfl
 ·split
  ·by_cases hk : kind = 1 ∨ kind = 2
   ·rw [rightP_same hk, rightP_same hk]
    cases (kind == 1 || kind == 2) <;> cases (z.min.kind == kind) <;> cases (z.max.kind == kind) <;> cases (right z.min kind) <;> cases (right z.max kind) <;> simp [Bool.and_comm]
   ·have e : (kind == 1 || kind == 2) = false := by
     rw [Bool.or_eq_false_iff, beq_eq_false_iff_ne, beq_eq_false_iff_ne]; omega
    rw [e]; simp
  ·rename_i hs
   unfold znEq
   rw [show z.some = false by cases h : z.some with | false => rfl | true => exact absurd h hs]
   rfl
/-- A column's head. -/
structure Ch where
 z : Zn
 d : Dg
abbrev chc (c : Ch) : List Value := znc c.z ++ c.d.l.map bv
abbrev chs (l : List Ch) : List Value := l.flatMap chc
theorem chc_len (c : Ch) : (chc c).length = 40 := by rw [chc, List.length_append, hcs_one]; rfl
theorem chs_len (l : List Ch) : (chs l).length = l.length * 40 := flatMap_len chc_len l
def chD : Ch := ⟨zD, zeroD⟩
structure Hd where
 rows : Int
 live : Int
 dead : Dg
 cols : List Ch
abbrev hdc (h : Hd) (s : Value) : List Value := .int .i64 h.rows :: .int .i64 h.live :: (h.dead.l.map bv ++ [s])
abbrev hdv (h : Hd) (s : Value) : Value := .agg (hdc h s).toArray
abbrev hdblk (h : Hd) (s : Value) : Blk := { cells := hdc h s, elem := 81, kind := .fix }
theorem hdc_len (h : Hd) (s : Value) : (hdc h s).length = 35 := by rw [hdc, List.length_cons, List.length_cons, List.length_append, hcs_one]; rfl
theorem hdv_size (h : Hd) (s : Value) : (hdv h s).cells.size = 35 := by show (hdc h s).toArray.size = 35; rw [List.size_toArray, hdc_len]
def frontH (h : Hd) (n : Nat) : Bool := (((decide (h.rows < 1) || decide (h.rows > 65536)) || decide (h.live < 0)) || decide (h.live > h.rows)) || ((h.cols.length : Int) != (n : Int))
def colH (P : Zn → Int → Int → Bool) (h : Hd) (cols : List Col) (i : Nat) : Bool := !P (h.cols.getD i chD).z h.rows (cols.getD i ⟨0, false, 0⟩).kind || (decide ((h.cols.getD i chD).z.nulls > 0) && !(cols.getD i ⟨0, false, 0⟩).null)
def soundH (P : Zn → Int → Int → Bool) (h : Hd) (cols : List Col) : Bool := if frontH h cols.length = true then false else (List.range cols.length).all fun i => !colH P h cols i
theorem soundH_f {P : Zn → Int → Int → Bool} {h : Hd} {cols : List Col} (hf : ¬ frontH h cols.length = true) {i : Nat} (hi : i < cols.length) (hc : colH P h cols i = true) : soundH P h cols = false := by
 rw [soundH, if_neg hf]
 cases e : (List.range cols.length).all fun i => !colH P h cols i with
 | false => rfl
 | true =>
  have := List.all_eq_true.1 e i (List.mem_range.2 hi)
  rw [hc] at this
  cases this
theorem soundH_t {P : Zn → Int → Int → Bool} {h : Hd} {cols : List Col} (hf : ¬ frontH h cols.length = true) (hc : ∀ i, i < cols.length → colH P h cols i = false) : soundH P h cols = true := by
 rw [soundH, if_neg hf, List.all_eq_true]
 intro i hi
 rw [hc i (List.mem_range.1 hi)]
 rfl
end Go.Proofs.YteoofihjmldllaaDoor
