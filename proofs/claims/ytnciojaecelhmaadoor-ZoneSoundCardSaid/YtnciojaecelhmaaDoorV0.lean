/- The order of texts and of values, in plain Lean: turned about it is turned; ahead of one that is ahead is ahead; the same are the same where they may stand in columns. No condition beside the stated ones. -/
import Derived.Test.YtnciojaecelhmaaDoorAb20
import Derived.Laws.Strings
set_option linter.unusedVariables false
set_option linter.unusedSimpArgs false
namespace Go.Proofs.YtnciojaecelhmaaDoor
open Go

theorem less_self : ∀ l : List UInt8, Op.bytesLess l l = false
  | [] => rfl
  | a :: x => by
    have h1 : ¬ a < a := UInt8.lt_irrefl a
    simp [Op.bytesLess, less_self x]
theorem less_asymm : ∀ l m : List UInt8, Op.bytesLess l m = true → Op.bytesLess m l = false
  | _, [], h => by simp [Op.bytesLess] at h
  | [], _ :: _, _ => rfl
  | a :: x, b :: y, h => by
    simp only [Op.bytesLess, Bool.or_eq_true, decide_eq_true_eq, Bool.and_eq_true, beq_iff_eq] at h
    have key : Op.bytesLess (b :: y) (a :: x) = (decide (b < a) || (b == a && Op.bytesLess y x)) := rfl
    rw [key]
    rcases h with h | ⟨rfl, h⟩
    · have h1 : ¬ b < a := UInt8.lt_asymm h
      have h2 : b ≠ a := fun e => by subst e; exact UInt8.lt_irrefl _ h
      simp [h1, h2]
    · simp [less_asymm x y h]
theorem less_tri : ∀ l m : List UInt8, Op.bytesLess l m = false → Op.bytesLess m l = false → l = m
  | [], [], _, _ => rfl
  | [], _ :: _, h, _ => by simp [Op.bytesLess] at h
  | _ :: _, [], _, h => by simp [Op.bytesLess] at h
  | a :: x, b :: y, h, h' => by
    simp only [Op.bytesLess, Bool.or_eq_false_iff, decide_eq_false_iff_not, Bool.and_eq_false_iff, beq_eq_false_iff_ne, ne_eq] at h h'
    have e : a = b := UInt8.le_antisymm (UInt8.not_lt.1 h'.1) (UInt8.not_lt.1 h.1)
    subst e
    rw [less_tri x y (h.2.resolve_left (by simp)) (h'.2.resolve_left (by simp))]
theorem less_trans : ∀ l m n : List UInt8, Op.bytesLess l m = true → Op.bytesLess m n = true → Op.bytesLess l n = true
  | _, [], _, h, _ => by simp [Op.bytesLess] at h
  | _, _ :: _, [], _, h => by simp [Op.bytesLess] at h
  | [], _ :: _, _ :: _, _, _ => rfl
  | a :: x, b :: y, c :: z, h, h' => by
    simp only [Op.bytesLess, Bool.or_eq_true, decide_eq_true_eq, Bool.and_eq_true, beq_iff_eq] at h h' ⊢
    rcases h with h | ⟨rfl, h⟩
    · rcases h' with h' | ⟨rfl, h'⟩
      · exact .inl (UInt8.lt_trans h h')
      · exact .inl h
    · rcases h' with h' | ⟨rfl, h'⟩
      · exact .inl h'
      · exact .inr ⟨rfl, less_trans x y z h h'⟩

theorem toList_inj {x y : ByteArray} (h : x.toList = y.toList) : x = y := by
  rw [ByteArray.toList_eq, ByteArray.toList_eq] at h
  cases x; cases y
  exact congrArg ByteArray.mk (Array.toList_inj.1 h)

structure Val where
  kind : Int
  n : Int
  s : ByteArray
abbrev vv (a : Val) : Value := .agg #[.int .i64 a.kind, .int .i64 a.n, .string a.s]
def cmpI (x y : Int) : Int := if x < y then -1 else if x > y then 1 else 0
def cmpS (x y : ByteArray) : Int := if Op.bytesLess x.toList y.toList then -1 else if !(Op.bytesLess x.toList y.toList || x.toList == y.toList) then 1 else 0
def cmpV (a b : Val) : Int := if a.kind ≠ b.kind then cmpI a.kind b.kind else if a.kind = 1 then cmpI a.n b.n else if a.kind = 2 then cmpS a.s b.s else 0
def isEmp (s : ByteArray) : Bool := s.toList == ByteArray.toList (⟨#[]⟩ : ByteArray)
def right (a : Val) (k : Int) : Bool := if a.kind = 0 then (a.n == 0 && isEmp a.s) else (a.kind == k && (k == 1 && isEmp a.s || k == 2 && a.n == 0))

/-- Three ways, and how they compose. -/
structure Ordish (c : Int) (e r : Prop) : Prop where
  lo : c = -1 ∨ c = 0 ∨ c = 1
theorem cmpS_eq (x y : ByteArray) : cmpS x y = if Op.bytesLess x.toList y.toList then -1 else if Op.bytesLess y.toList x.toList then 1 else 0 := by
  unfold cmpS
  cases h : Op.bytesLess x.toList y.toList with
  | true => simp
  | false =>
    cases h' : Op.bytesLess y.toList x.toList with
    | true =>
      have : x.toList ≠ y.toList := fun e => by
        rw [e, less_self] at h'
        cases h'
      simp [this]
    | false => simp [less_tri _ _ h h']
theorem cmpI_neg (x y : Int) : cmpI x y = -cmpI y x := by
  unfold cmpI
  repeat' split
  all_goals omega
theorem cmpI_trans {x y z : Int} (h : cmpI x y ≤ 0) (h' : cmpI y z ≤ 0) : cmpI x z ≤ 0 := by
  unfold cmpI at *
  repeat' split at h
  all_goals repeat' split at h'
  all_goals repeat' split
  all_goals omega
theorem cmpI_zero {x y : Int} : cmpI x y = 0 ↔ x = y := by
  unfold cmpI
  repeat' split
  all_goals omega
theorem cmpS_neg (x y : ByteArray) : cmpS x y = -cmpS y x := by
  rw [cmpS_eq, cmpS_eq]
  cases h : Op.bytesLess x.toList y.toList with
  | true => simp [less_asymm _ _ h]
  | false => cases h' : Op.bytesLess y.toList x.toList <;> simp
theorem cmpS_trans {x y z : ByteArray} (h : cmpS x y ≤ 0) (h' : cmpS y z ≤ 0) : cmpS x z ≤ 0 := by
  rw [cmpS_eq] at *
  cases h1 : Op.bytesLess z.toList x.toList with
  | false =>
    split
    · decide
    · simp
  | true =>
    exfalso
    have a1 : Op.bytesLess y.toList x.toList = false := by
      cases h2 : Op.bytesLess y.toList x.toList with
      | false => rfl
      | true => rw [h2, less_asymm _ _ h2] at h; simp at h
    have a2 : Op.bytesLess z.toList y.toList = false := by
      cases h2 : Op.bytesLess z.toList y.toList with
      | false => rfl
      | true => rw [h2, less_asymm _ _ h2] at h'; simp at h'
    cases b1 : Op.bytesLess x.toList y.toList with
    | true =>
      have := less_trans _ _ _ h1 b1
      rw [this] at a2
      cases a2
    | false =>
      have e := less_tri _ _ b1 a1
      rw [e, a2] at h1
      cases h1
theorem cmpV_neg (a b : Val) : cmpV a b = -cmpV b a := by
  unfold cmpV
  by_cases h : a.kind = b.kind
  · rw [if_neg (c := a.kind ≠ b.kind) (fun hn => hn h), if_neg (c := b.kind ≠ a.kind) (fun hn => hn h.symm), h]
    by_cases k1 : b.kind = 1
    · rw [if_pos k1, if_pos k1]
      exact cmpI_neg _ _
    · rw [if_neg k1, if_neg k1]
      by_cases k2 : b.kind = 2
      · rw [if_pos k2, if_pos k2]
        exact cmpS_neg _ _
      · rw [if_neg k2, if_neg k2]
        rfl
  · rw [if_pos h, if_pos (Ne.symm h)]
    exact cmpI_neg _ _
theorem cmpV_trans {a b c : Val} (h : cmpV a b ≤ 0) (h' : cmpV b c ≤ 0) : cmpV a c ≤ 0 := by
  unfold cmpV at *
  by_cases e1 : a.kind = b.kind <;> by_cases e2 : b.kind = c.kind
  · rw [if_neg (by simp [e1])] at h
    rw [if_neg (by simp [e2])] at h'
    rw [if_neg (by simp [e1, e2])]
    rw [← e1] at h'
    by_cases k1 : a.kind = 1
    · rw [if_pos k1] at *
      exact cmpI_trans h h'
    · rw [if_neg k1] at *
      by_cases k2 : a.kind = 2
      · rw [if_pos k2] at *
        exact cmpS_trans h h'
      · rw [if_neg k2]
        decide
  · rw [if_pos e2] at h'
    rw [e1, if_pos e2]
    exact h'
  · rw [if_pos e1] at h
    rw [← e2, if_pos e1]
    exact h
  · rw [if_pos e1] at h
    rw [if_pos e2] at h'
    have h3 := cmpI_trans h h'
    by_cases e3 : a.kind = c.kind
    · exfalso
      have := cmpI_neg a.kind b.kind
      rw [e3] at this h
      have h4 : cmpI c.kind b.kind = 0 := by omega
      exact e2 (cmpI_zero.1 h4).symm
    · rw [if_pos e3]
      exact h3

def valEq (a b : Val) : Bool := a.kind == b.kind && a.n == b.n && decide (a.s = b.s)
theorem valEq_iff (a b : Val) : valEq a b = true ↔ (#[.int .i64 a.kind, .int .i64 a.n, .string a.s] : Array Value) = #[.int .i64 b.kind, .int .i64 b.n, .string b.s] := by
  simp [valEq, and_assoc]
theorem isEmp_iff (s : ByteArray) : isEmp s = true ↔ s = ⟨#[]⟩ := by
  unfold isEmp
  rw [beq_iff_eq]
  exact ⟨toList_inj, fun e => by rw [e]⟩
end Go.Proofs.YtnciojaecelhmaaDoor
