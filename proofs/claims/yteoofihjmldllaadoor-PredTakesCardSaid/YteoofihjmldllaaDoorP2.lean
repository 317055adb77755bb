/- Predicates, in plain Lean: what operators have, the truth of a row, what is wrong with a predicate; predicates in memory. No condition. -/
import Derived.Test.YteoofihjmldllaaDoorV5
import Derived.Test.YteoofihjmldllaaDoorP1
set_option linter.unusedVariables false
set_option linter.unusedSimpArgs false
set_option maxRecDepth 100000
namespace Go.Proofs.YteoofihjmldllaaDoor
open Go Go.Ab

structure Sh where
  col : Bool
  v : Nat
  mv : Nat
  p : Nat
  mp : Nat
def shL : List Sh := [⟨false, 0, 0, 0, 0⟩, ⟨true, 1, 1, 0, 0⟩, ⟨true, 1, 1, 0, 0⟩, ⟨true, 1, 1, 0, 0⟩, ⟨true, 1, 1, 0, 0⟩, ⟨true, 1, 1, 0, 0⟩, ⟨true, 1, 1, 0, 0⟩, ⟨true, 0, 256, 0, 0⟩, ⟨true, 2, 2, 0, 0⟩, ⟨true, 0, 0, 0, 0⟩, ⟨false, 0, 0, 1, 256⟩, ⟨false, 0, 0, 1, 256⟩, ⟨false, 0, 0, 1, 1⟩]
def sh (m : Nat) : Sh := shL.getD m ⟨false, 0, 0, 0, 0⟩
abbrev shc (x : Sh) : List Value := [.bool x.col, .int .i64 (x.v : Int), .int .i64 (x.mv : Int), .int .i64 (x.p : Int), .int .i64 (x.mp : Int)]
def shT : List Value := shL.flatMap shc
abbrev shBlk : Blk := { cells := shT, elem := 152, kind := .ro }
theorem sh_at {m : Nat} (h : m < 13) : (shT.drop (m * 5)).take 5 = shc (sh m) := by
  have := flatMap_piece (f := shc) (z := 5) (fun _ => rfl) shL m h
  rw [shT, this]
  unfold sh
  rw [List.getD_eq_getElem?_getD, List.getElem?_eq_getElem h]
  rfl
theorem sh_get {m j : Nat} (h : m < 13) (hj : j < 5) : shT[m * 5 + j]? = (shc (sh m))[j]? := by
  rw [← sh_at h, List.getElem?_take, if_pos hj, List.getElem?_drop]

inductive Pd where
  | mk (op col : Int) (vals : List Val) (of : List Pd)
theorem Pd.lt {op col : Int} {vals : List Val} {of : List Pd} {q : Pd} (h : q ∈ of) : SizeOf.sizeOf q < SizeOf.sizeOf (Pd.mk op col vals of) := by
  have := List.sizeOf_lt_of_mem h
  simp only [Pd.mk.sizeOf_spec]
  omega
def vD : Val := ⟨0, 0, ⟨#[]⟩⟩
def known (op : Int) : Bool := decide (op ≥ 0) && decide (op < 13)
theorem known_nat {op : Int} (h : known op = true) : ∃ m : Nat, op = m ∧ m < 13 := by
  unfold known at h
  rw [Bool.and_eq_true, decide_eq_true_eq, decide_eq_true_eq] at h
  exact ⟨op.toNat, by omega, by omega⟩
def fitsP (x : Sh) (v n : Nat) (col : Int) : Bool := (((decide ((v : Int) ≥ (x.v : Int)) && decide ((v : Int) ≤ (x.mv : Int))) && decide ((n : Int) ≥ (x.p : Int))) && decide ((n : Int) ≤ (x.mp : Int))) && (x.col || col == 0)
def formedP (op col : Int) (v n : Nat) : Bool := known op && fitsP (sh op.toNat) v n col
def truthI (b : Bool) : Int := if b then 2 else 0
def cmpdB (op c : Int) : Bool := if op = 4 then (c == 0 || decide (c < 0)) else if op = 3 then decide (c < 0) else if op = 6 then (c == 0 || decide (c > 0)) else if op = 5 then decide (c > 0) else if op = 1 then c == 0 else if op = 2 then c != 0 else false
def ofValueP (op col : Int) (vals : List Val) (n : Nat) (v : Val) : Int :=
  if op = 9 then truthI (v.kind == 0) else if (v.kind == 0 || !formedP op col vals.length n) = true then 1 else if op = 7 then truthI (vals.any fun x => cmpV v x == 0) else
    if op = 8 then truthI (decide (cmpV v (vals.getD 0 vD) ≥ 0) && decide (cmpV v (vals.getD 1 vD) ≤ 0)) else truthI (cmpdB op (cmpV v (vals.getD 0 vD)))
def joinP (op : Int) : List Int → Int
  | [] => 1
  | t :: ts => if op = 12 then 2 - t else ts.foldl (fun a x => if op = 10 then min a x else max a x) t
mutual
/-- The truth of a row. -/
def evalP : Pd → List Val → Int
  | .mk op col vals of, row => if known op = true then (if (sh op.toNat).col = true then (if (decide (col < 0) || decide (col ≥ (row.length : Int))) = true then 1 else ofValueP op col vals of.length (row.getD col.toNat vD)) else if op = 0 then 2 else joinP op (evalPs of row)) else 1
def evalPs : List Pd → List Val → List Int
  | [], _ => []
  | p :: ps, row => evalP p row :: evalPs ps row
end
theorem evalPs_map : ∀ (ps : List Pd) (row : List Val), evalPs ps row = ps.map fun p => evalP p row
  | [], _ => by rw [evalPs]; rfl
  | p :: ps, row => by rw [evalPs, evalPs_map ps row]; rfl
theorem colops {m : Nat} (h : m < 13) (hc : (sh m).col = true) : 1 ≤ m ∧ m ≤ 9 := by
  have : ∀ m, m < 13 → (sh m).col = true → 1 ≤ m ∧ m ≤ 9 := by decide
  exact this m h hc
theorem formed_vals {m : Nat} {col : Int} {v n : Nat} (h : formedP (m : Int) col v n = true) (hm : m < 13) : (sh m).v ≤ v ∧ v ≤ (sh m).mv ∧ (sh m).p ≤ n ∧ n ≤ (sh m).mp := by
  unfold formedP fitsP at h
  simp only [Bool.and_eq_true, decide_eq_true_eq, Int.toNat_natCast] at h
  omega

/-! ### In memory -/
mutual
def PdV (H : Hp) : Pd → Value → Prop
  | .mk op col vals of, v => ∃ A c B d bs, v = .agg #[.int .i64 op, .int .i64 col, .slice A vals.length c, .slice B of.length d] ∧ slcCells H 3 (.slice A vals.length c) = some (vals3 vals) ∧ vals.length ≤ 9223372036854775807 ∧ of.length ≤ 9223372036854775807 ∧ (-9223372036854775808 ≤ op ∧ op ≤ 9223372036854775807) ∧ (-9223372036854775808 ≤ col ∧ col ≤ 9223372036854775807) ∧ (∀ v ∈ vals, v.ok) ∧ SLC H 4 B of.length d bs ∧ PdVs H of bs
def PdVs (H : Hp) : List Pd → List Value → Prop
  | [], bs => bs = []
  | p :: ps, bs => ∃ v r, bs = v.cells.toList ++ r ∧ PdV H p v ∧ PdVs H ps r
end
theorem PdV.agg {H : Hp} {p : Pd} {v : Value} (h : PdV H p v) : v = .agg v.cells ∧ v.cells.toList.length = 4 := by
  cases p with
  | mk op col vals of =>
    rw [PdV] at h
    obtain ⟨A, c, B, d, bs, rfl, _⟩ := h
    exact ⟨rfl, rfl⟩
mutual
theorem PdV.sub {H H' : Hp} (hs : Ab.Sub H H') : ∀ {p : Pd} {v : Value}, PdV H p v → PdV H' p v
  | .mk op col vals of, v, h => by
    rw [PdV] at h ⊢
    obtain ⟨A, c, B, d, bs, h1, h2, h3, h4, h5, h6, h7, h8, h9⟩ := h
    exact ⟨A, c, B, d, bs, h1, slcCells_sub hs h2, h3, h4, h5, h6, h7, h8.sub hs, PdVs.sub hs h9⟩
theorem PdVs.sub {H H' : Hp} (hs : Ab.Sub H H') : ∀ {ps : List Pd} {bs : List Value}, PdVs H ps bs → PdVs H' ps bs
  | [], bs, h => by rw [PdVs] at h ⊢; exact h
  | p :: ps, bs, h => by
    rw [PdVs] at h ⊢
    obtain ⟨v, r, h1, h2, h3⟩ := h
    exact ⟨v, r, h1, PdV.sub hs h2, PdVs.sub hs h3⟩
end
theorem PdVs.len {H : Hp} : ∀ {ps : List Pd} {bs : List Value}, PdVs H ps bs → bs.length = ps.length * 4
  | [], bs, h => by rw [PdVs] at h; subst h; rfl
  | p :: ps, bs, h => by
    rw [PdVs] at h
    obtain ⟨v, r, rfl, h2, h3⟩ := h
    rw [List.length_append, h2.agg.2, PdVs.len h3, List.length_cons]
    omega
theorem PdVs.at_ {H : Hp} (d : Pd) : ∀ {ps : List Pd} {bs : List Value} (i : Nat), PdVs H ps bs → i < ps.length → ∃ v, (bs.drop (i * 4)).take 4 = v.cells.toList ∧ PdV H (ps.getD i d) v
  | p :: ps, bs, 0, h, _ => by
    rw [PdVs] at h
    obtain ⟨v, r, rfl, h2, h3⟩ := h
    exact ⟨v, by rw [Nat.zero_mul, List.drop_zero, List.take_left' h2.agg.2], h2⟩
  | p :: ps, bs, i + 1, h, hi => by
    rw [PdVs] at h
    obtain ⟨v, r, rfl, h2, h3⟩ := h
    obtain ⟨u, h4, h5⟩ := PdVs.at_ d i h3 (by simpa using hi)
    refine ⟨u, ?_, h5⟩
    rw [Nat.succ_mul, Nat.add_comm, ← List.drop_drop, List.drop_left' h2.agg.2, h4]
theorem PdVs.snoc {H : Hp} {p : Pd} {v : Value} (hv : PdV H p v) : ∀ {ps : List Pd} {bs : List Value}, PdVs H ps bs → PdVs H (ps ++ [p]) (bs ++ v.cells.toList)
  | [], bs, h => by
    rw [PdVs] at h
    subst h
    rw [List.nil_append, PdVs]
    exact ⟨v, [], by rw [List.append_nil]; rfl, hv, by rw [PdVs]⟩
  | q :: ps, bs, h => by
    rw [PdVs] at h
    obtain ⟨u, r, rfl, h2, h3⟩ := h
    rw [List.cons_append, PdVs]
    exact ⟨u, r ++ v.cells.toList, by rw [List.append_assoc], h2, PdVs.snoc hv h3⟩
/-- A part of a predicate: where it lies. -/
theorem PdVs.el {H : Hp} {ps : List Pd} {bs : List Value} {B : Option Addr} {c i : Nat} (d : Pd) (hS : SLC H 4 B ps.length c bs) (h : PdVs H ps bs) (hi : i < ps.length) :
    ∃ n off sp v, aslcAt H 4 i (.slice B ps.length c) = some (ptr n off sp) ∧ PAt H n off sp v.cells.toList ∧ PdV H (ps.getD i d) v := by
  obtain ⟨v, h1, h2⟩ := h.at_ d i hi
  obtain ⟨n, off, sp, h3, h4⟩ := slcPt (i := i) hS.cells (by rw [h.len]; exact Nat.mul_le_mul_right _ hi) (by decide)
  rw [h1] at h4
  exact ⟨n, off, sp, v, h3, h4, h2⟩
def pD : Pd := .mk 0 0 [] []
end Go.Proofs.YteoofihjmldllaaDoor
