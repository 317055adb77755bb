/- Schemas and rows out of readers, in plain Lean; lists of a function's own beside a reader's. No condition. -/
import Derived.Test.YteoofihjmldllaaDoorR5
set_option linter.unusedVariables false
set_option linter.unusedSimpArgs false
set_option maxRecDepth 100000
namespace Go.Proofs.YteoofihjmldllaaDoor
open Go Go.Ab
/-- Some rounds, till an error. -/
def runR {α : Type} (f : α × Rd → α × Rd) : Nat → α × Rd → α × Rd
  | 0, s => s
  | n + 1, s => if s.2.e ≠ 0 then s else runR f n (f s)
def itR {α : Type} (f : α × Rd → α × Rd) (s : α × Rd) : Nat → α × Rd
  | 0 => s
  | n + 1 => f (itR f s n)
theorem runR_err {α : Type} {f : α × Rd → α × Rd} {s : α × Rd} (h : s.2.e ≠ 0) (n : Nat) : runR f n s = s := by
  cases n with
  | zero => rfl
  | succ n => exact if_pos h
theorem runR_step {α : Type} {f : α × Rd → α × Rd} {s : α × Rd} {n i : Nat} (h : runR f n s = runR f (n - i) (itR f s i)) (hi : i < n) (he : (itR f s i).2.e = 0) : runR f n s = runR f (n - (i + 1)) (itR f s (i + 1)) := by
  rw [h, show n - i = n - (i + 1) + 1 by omega, runR, if_neg (fun x => x he)]
  rfl
def vStep (p : List Val × Rd) : List Val × Rd := (p.1 ++ [(takeV p.2).1], (takeV p.2).2)
/-! ### What is always so -/
theorem itV_len (s : List Val × Rd) (i : Nat) : (itR vStep s i).1.length = s.1.length + i := by
  induction i with
  | zero => rfl
  | succ i ih =>
    show ((itR vStep s i).1 ++ [_]).length = _
    rw [List.length_append, ih]
    rfl
theorem itV_bs (s : List Val × Rd) (i : Nat) : (itR vStep s i).2.bs = s.2.bs := by
  induction i with
  | zero => rfl
  | succ i ih => exact (takeV_bs _).trans ih
theorem itV_ok (s : List Val × Rd) (h1 : s.2.ok) (h2 : ∀ v ∈ s.1, v.ok) (i : Nat) : (itR vStep s i).2.ok ∧ ∀ v ∈ (itR vStep s i).1, v.ok := by
  induction i with
  | zero => exact ⟨h1, h2⟩
  | succ i ih =>
    have := takeV_ok ih.1
    refine ⟨this.1, fun v hv => ?_⟩
    rcases List.mem_append.1 hv with hv | hv
    · exact ih.2 v hv
    · rw [List.mem_singleton.1 hv]; exact this.2
/-! ### Lists of a function's own -/
abbrev vlblk (l : List Val) : Blk := { cells := vals3 l, elem := 59, kind := .grow, esz := 3 }
theorem vals3_len' (l : List Val) : (vals3 l).length = l.length * 3 := by
  induction l with
  | nil => rfl
  | cons a l ih => rw [vals3, List.flatMap_cons, List.length_append, ← vals3, ih, List.length_cons]; show 3 + _ = _; omega
theorem vals3_snoc (l : List Val) (c : Val) : vals3 (l ++ [c]) = vals3 l ++ vals3 [c] := by rw [vals3, List.flatMap_append]
theorem SLC.vlblk {H : Hp} {q : Nat} {l : List Val} (h : H q = some (vlblk l)) : SLC H 3 (some ⟨q, 0, some 1⟩) l.length l.length (vals3 l) := SLC.grow h rfl (vals3_len' l).symm
theorem vals3_one' (l : List Val) : ∀ u ∈ vals3 l, u.oneCell' = true := by
  intro u hu
  rw [vals3, List.mem_flatMap] at hu
  obtain ⟨v, _, hv⟩ := hu
  have hv : u ∈ ([.int .i64 v.kind, .int .i64 v.n, .string v.s] : List Value) := hv
  simp only [List.mem_cons, List.not_mem_nil, or_false] at hv
  rcases hv with rfl | rfl | rfl <;> rfl
theorem sub_new {X Y : Hp} {q : Nat} {z : Option Blk} (h : Ab.Sub X Y) (hq : X q = none) : Ab.Sub X (upd Y q z) := fun m b hm => by
  by_cases e : m = q
  · subst e; rw [hq] at hm; cases hm
  · exact (upd_other _ _ e).trans (h m b hm)
theorem none_n {X : Hp} {n q : Nat} (h : X q = none) : (upd X n none) q = none := by
  by_cases e : q = n
  · subst e; exact upd_same _ _ _
  · exact (upd_other _ _ e).trans h
/-! ### Lists of rows -/
/-- A heap's blocks from a name on, without one. -/
def cutQ (H : Hp) (k q : Nat) : Hp := fun m => if k ≤ m ∧ m ≠ q then H m else none
def cutH (H : Hp) (k : Nat) : Hp := fun m => if k ≤ m then H m else none
theorem cutQ_at {H : Hp} {k q m : Nat} (h1 : k ≤ m) (h2 : m ≠ q) : cutQ H k q m = H m := if_pos ⟨h1, h2⟩
theorem cutH_at {H : Hp} {k m : Nat} (h1 : k ≤ m) : cutH H k m = H m := if_pos h1
theorem cutQ_sub {H H' : Hp} {k q : Nat} (h : ∀ m b, k ≤ m → m ≠ q → H m = some b → H' m = some b) : Ab.Sub (cutQ H k q) (cutQ H' k q) := fun m b hm => by
  unfold cutQ at hm ⊢
  split at hm
  · rename_i hc
    rw [if_pos hc]
    exact h m b hc.1 hc.2 hm
  · cases hm
theorem cutH_sub {H : Hp} {k : Nat} : Ab.Sub (cutH H k) H := fun m b hm => by
  unfold cutH at hm
  split at hm
  · exact hm
  · cases hm
theorem cutH_by {H H' : Hp} {k n : Nat} (h : Ab.Sub (upd H n none) H') (hn : n < k) : Ab.Sub (cutH H k) (cutH H' k) := fun m b hm => by
  unfold cutH at hm
  split at hm
  · rename_i hc
    rw [cutH_at hc]
    exact h m b ((upd_other _ _ (by omega)).trans hm)
  · cases hm
end Go.Proofs.YteoofihjmldllaaDoor
