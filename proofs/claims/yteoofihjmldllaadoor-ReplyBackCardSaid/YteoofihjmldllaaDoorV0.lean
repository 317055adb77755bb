/- The order of texts and of values, in plain Lean: turned about it is turned; ahead of one that is ahead is ahead; the same are the same where they may stand in columns. No condition beside the stated ones. -/
import Derived.Test.YteoofihjmldllaaDoorAb20
import Derived.Laws.Strings
set_option linter.unusedVariables false
set_option linter.unusedSimpArgs false
namespace Go.Proofs.YteoofihjmldllaaDoor
open Go

theorem toList_inj {x y : ByteArray} (h : x.toList = y.toList) : x = y := by
 rw [ByteArray.toList_eq, ByteArray.toList_eq] at h
 cases x; cases y
 exact congrArg ByteArray.mk (Array.toList_inj.1 h)

structure Val where
 kind : Int
 n : Int
 s : ByteArray
abbrev vv (a : Val) : Value := .agg #[.int .i64 a.kind, .int .i64 a.n, .string a.s]
def cmpI (x y : Int) : Int := if x < y then -1 else if x > y then 1 else 0
def cmpS (x y : ByteArray) : Int := if Op.bytesLess x.toList y.toList then -1 else if !(Op.bytesLess x.toList y.toList || x.toList == y.toList) then 1 else 0
def cmpV (a b : Val) : Int := if a.kind ≠ b.kind then cmpI a.kind b.kind else if a.kind = 1 then cmpI a.n b.n else if a.kind = 2 then cmpS a.s b.s else 0
def isEmp (s : ByteArray) : Bool := s.toList == ByteArray.toList (⟨#[]⟩ : ByteArray)
def right (a : Val) (k : Int) : Bool := if a.kind = 0 then (a.n == 0 && isEmp a.s) else (a.kind == k && (k == 1 && isEmp a.s || k == 2 && a.n == 0))

def valEq (a b : Val) : Bool := a.kind == b.kind && a.n == b.n && decide (a.s = b.s)
theorem valEq_iff (a b : Val) : valEq a b = true ↔ (#[.int .i64 a.kind, .int .i64 a.n, .string a.s] : Array Value) = #[.int .i64 b.kind, .int .i64 b.n, .string b.s] := by
 simp [valEq, and_assoc]
theorem isEmp_iff (s : ByteArray) : isEmp s = true ↔ s = ⟨#[]⟩ := by
 unfold isEmp
 rw [beq_iff_eq]
 exact ⟨toList_inj, fun e => by rw [e]⟩
end Go.Proofs.YteoofihjmldllaaDoor
