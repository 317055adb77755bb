/- The order of texts and of values, in plain Lean: turned about it is turned; ahead of one that is ahead is ahead; the same are the same where they may stand in columns. No condition beside the stated ones. -/
import Derived.Test.YtnciojaecelhmaaDoorAb20
import Derived.Laws.Strings
set_option linter.unusedVariables false
set_option linter.unusedSimpArgs false
namespace Go.Proofs.YtnciojaecelhmaaDoor
open Go

theorem less_self : ∀ l : List UInt8, Op.bytesLess l l = false
  | [] => rfl
  | a :: x => by
    have h1 : ¬ a < a := UInt8.lt_irrefl a
    simp [Op.bytesLess, less_self x]
theorem less_tri : ∀ l m : List UInt8, Op.bytesLess l m = false → Op.bytesLess m l = false → l = m
  | [], [], _, _ => rfl
  | [], _ :: _, h, _ => by simp [Op.bytesLess] at h
  | _ :: _, [], _, h => by simp [Op.bytesLess] at h
  | a :: x, b :: y, h, h' => by
    simp only [Op.bytesLess, Bool.or_eq_false_iff, decide_eq_false_iff_not, Bool.and_eq_false_iff, beq_eq_false_iff_ne, ne_eq] at h h'
    have e : a = b := UInt8.le_antisymm (UInt8.not_lt.1 h'.1) (UInt8.not_lt.1 h.1)
    subst e
    rw [less_tri x y (h.2.resolve_left (by simp)) (h'.2.resolve_left (by simp))]
theorem toList_inj {x y : ByteArray} (h : x.toList = y.toList) : x = y := by
  rw [ByteArray.toList_eq, ByteArray.toList_eq] at h
  cases x; cases y
  exact congrArg ByteArray.mk (Array.toList_inj.1 h)

structure Val where
  kind : Int
  n : Int
  s : ByteArray
abbrev vv (a : Val) : Value := .agg #[.int .i64 a.kind, .int .i64 a.n, .string a.s]
def cmpI (x y : Int) : Int := if x < y then -1 else if x > y then 1 else 0
def cmpS (x y : ByteArray) : Int := if Op.bytesLess x.toList y.toList then -1 else if !(Op.bytesLess x.toList y.toList || x.toList == y.toList) then 1 else 0
def cmpV (a b : Val) : Int := if a.kind ≠ b.kind then cmpI a.kind b.kind else if a.kind = 1 then cmpI a.n b.n else if a.kind = 2 then cmpS a.s b.s else 0
def isEmp (s : ByteArray) : Bool := s.toList == ByteArray.toList (⟨#[]⟩ : ByteArray)
def right (a : Val) (k : Int) : Bool := if a.kind = 0 then (a.n == 0 && isEmp a.s) else (a.kind == k && (k == 1 && isEmp a.s || k == 2 && a.n == 0))

/-- Three ways, and how they compose. -/
structure Ordish (c : Int) (e r : Prop) : Prop where
  lo : c = -1 ∨ c = 0 ∨ c = 1
theorem cmpS_eq (x y : ByteArray) : cmpS x y = if Op.bytesLess x.toList y.toList then -1 else if Op.bytesLess y.toList x.toList then 1 else 0 := by
  unfold cmpS
  cases h : Op.bytesLess x.toList y.toList with
  | true => simp
  | false =>
    cases h' : Op.bytesLess y.toList x.toList with
    | true =>
      have : x.toList ≠ y.toList := fun e => by
        rw [e, less_self] at h'
        cases h'
      simp [this]
    | false => simp [less_tri _ _ h h']
theorem cmpS_zero {x y : ByteArray} : cmpS x y = 0 ↔ x = y := by
  rw [cmpS_eq]
  constructor
  · intro h
    cases h1 : Op.bytesLess x.toList y.toList with
    | true => rw [h1] at h; simp at h
    | false =>
      cases h2 : Op.bytesLess y.toList x.toList with
      | true => rw [h1, h2] at h; simp at h
      | false => exact toList_inj (less_tri _ _ h1 h2)
  · rintro rfl
    simp [less_self]

def valEq (a b : Val) : Bool := a.kind == b.kind && a.n == b.n && decide (a.s = b.s)
theorem valEq_iff (a b : Val) : valEq a b = true ↔ (#[.int .i64 a.kind, .int .i64 a.n, .string a.s] : Array Value) = #[.int .i64 b.kind, .int .i64 b.n, .string b.s] := by
  simp [valEq, and_assoc]
theorem isEmp_iff (s : ByteArray) : isEmp s = true ↔ s = ⟨#[]⟩ := by
  unfold isEmp
  rw [beq_iff_eq]
  exact ⟨toList_inj, fun e => by rw [e]⟩
end Go.Proofs.YtnciojaecelhmaaDoor
