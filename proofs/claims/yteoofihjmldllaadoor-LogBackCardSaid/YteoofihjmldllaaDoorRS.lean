/- Schemas and rows out of readers, in plain Lean; lists of a function's own beside a reader's. No condition. -/
import Derived.Test.YteoofihjmldllaaDoorR5
set_option linter.unusedVariables false
set_option linter.unusedSimpArgs false
set_option maxRecDepth 100000
namespace Go.Proofs.YteoofihjmldllaaDoor
open Go Go.Ab
/-- Some rounds, till an error. -/
def runR {α : Type} (f : α × Rd → α × Rd) : Nat → α × Rd → α × Rd
  | 0, s => s
  | n + 1, s => if s.2.e ≠ 0 then s else runR f n (f s)
def itR {α : Type} (f : α × Rd → α × Rd) (s : α × Rd) : Nat → α × Rd
  | 0 => s
  | n + 1 => f (itR f s n)
theorem runR_err {α : Type} {f : α × Rd → α × Rd} {s : α × Rd} (h : s.2.e ≠ 0) (n : Nat) : runR f n s = s := by
  cases n with
  | zero => rfl
  | succ n => exact if_pos h
theorem runR_step {α : Type} {f : α × Rd → α × Rd} {s : α × Rd} {n i : Nat} (h : runR f n s = runR f (n - i) (itR f s i)) (hi : i < n) (he : (itR f s i).2.e = 0) : runR f n s = runR f (n - (i + 1)) (itR f s (i + 1)) := by
  rw [h, show n - i = n - (i + 1) + 1 by omega, runR, if_neg (fun x => x he)]
  rfl
def colStep (r : Rd) : Col × Rd := (⟨(r.fix1.1 : Int), decide (r.fix1.2.fix1.1 = 1), (r.fix1.2.fix1.2.fix1.1 : Int) - 1⟩, if r.fix1.2.fix1.1 > 1 then r.fix1.2.fix1.2.fix1.2.fail 4 else r.fix1.2.fix1.2.fix1.2)
def sStep (p : List Col × Rd) : List Col × Rd := (p.1 ++ [(colStep p.2).1], (colStep p.2).2)
def schRun (r : Rd) : List Col × Rd := runR sStep r.fix1.1 ([], r.fix1.2)
def takeSch (r : Rd) : List Col × Rd := (if ((schRun r).2.fail (schemaI (schRun r).1)).e ≠ 0 then [] else (schRun r).1, (schRun r).2.fail (schemaI (schRun r).1))
def vStep (p : List Val × Rd) : List Val × Rd := (p.1 ++ [(takeV p.2).1], (takeV p.2).2)
def rowOf (w : Nat) (r : Rd) : List Val × Rd := itR vStep ([], r) w
def rStep (cols : List Col) (p : List (List Val) × Rd) : List (List Val) × Rd := (p.1 ++ [(rowOf cols.length p.2).1], (rowOf cols.length p.2).2.fail (rowI wrongR cols (rowOf cols.length p.2).1))
def rows0 (r : Rd) : Rd := if r.var.1 > 65536 then r.var.2.fail 12 else r.var.2
def rowsRun (cols : List Col) (r : Rd) : List (List Val) × Rd := runR (rStep cols) r.var.1 ([], rows0 r)
def takeRows (cols : List Col) (r : Rd) : List (List Val) × Rd := (if (rowsRun cols r).2.e ≠ 0 then [] else (rowsRun cols r).1, (rowsRun cols r).2)
/-! ### What is always so -/
theorem Rd.fix1_err {r : Rd} (h : r.fix1.2.e ≠ 0) : r.fix1.1 = 0 := by
  unfold Rd.fix1 Rd.take at h ⊢
  simp only at h ⊢
  split at h
  · rename_i h1
    rw [if_pos h1]; rfl
  · rename_i h1
    split at h
    · rename_i h2
      rw [if_neg h1, if_pos h2]; rfl
    · exact absurd h h1
theorem colStep_ok {r : Rd} (h : r.ok) : (colStep r).2.ok := by
  have h3 := (Rd.fix1_ok (Rd.fix1_ok (Rd.fix1_ok h).1).1).1
  unfold colStep
  simp only
  split
  · exact Rd.fail_ok h3 (by decide) (by decide)
  · exact h3
theorem colStep_bs (r : Rd) : (colStep r).2.bs = r.bs := by
  unfold colStep
  simp only
  split
  · rw [Rd.fail_bs, Rd.fix1_bs, Rd.fix1_bs, Rd.fix1_bs]
  · rw [Rd.fix1_bs, Rd.fix1_bs, Rd.fix1_bs]
theorem itS_len (s : List Col × Rd) (i : Nat) : (itR sStep s i).1.length = s.1.length + i := by
  induction i with
  | zero => rfl
  | succ i ih =>
    show ((itR sStep s i).1 ++ [_]).length = _
    rw [List.length_append, ih]
    rfl
theorem itS_bs (s : List Col × Rd) (i : Nat) : (itR sStep s i).2.bs = s.2.bs := by
  induction i with
  | zero => rfl
  | succ i ih => exact (colStep_bs _).trans ih
theorem itV_len (s : List Val × Rd) (i : Nat) : (itR vStep s i).1.length = s.1.length + i := by
  induction i with
  | zero => rfl
  | succ i ih =>
    show ((itR vStep s i).1 ++ [_]).length = _
    rw [List.length_append, ih]
    rfl
theorem itV_bs (s : List Val × Rd) (i : Nat) : (itR vStep s i).2.bs = s.2.bs := by
  induction i with
  | zero => rfl
  | succ i ih => exact (takeV_bs _).trans ih
theorem itV_ok (s : List Val × Rd) (h1 : s.2.ok) (h2 : ∀ v ∈ s.1, v.ok) (i : Nat) : (itR vStep s i).2.ok ∧ ∀ v ∈ (itR vStep s i).1, v.ok := by
  induction i with
  | zero => exact ⟨h1, h2⟩
  | succ i ih =>
    have := takeV_ok ih.1
    refine ⟨this.1, fun v hv => ?_⟩
    rcases List.mem_append.1 hv with hv | hv
    · exact ih.2 v hv
    · rw [List.mem_singleton.1 hv]; exact this.2
theorem rowOf_len (w : Nat) (r : Rd) : (rowOf w r).1.length = w := by
  rw [rowOf, itV_len]; exact Nat.zero_add w
theorem rowI_le (p : Col → Val → Bool) (cs : List Col) (vs : List Val) : 0 ≤ rowI p cs vs ∧ rowI p cs vs ≤ 100 := by
  unfold rowI
  split
  · have h : ∀ (cs : List Col) (vs : List Val), 0 ≤ rowAt p cs vs ∧ rowAt p cs vs ≤ 100 := by
      intro cs
      induction cs with
      | nil => intro vs; cases vs <;> simp [rowAt]
      | cons c cs ih =>
        intro vs
        cases vs with
        | nil => simp [rowAt]
        | cons v vs =>
          unfold rowAt
          repeat' split
          all_goals first | exact ih vs | decide
    exact h cs vs
  · decide
theorem schemaI_le (l : List Col) : 0 ≤ schemaI l ∧ schemaI l ≤ 100 := by
  unfold schemaI
  repeat' split
  all_goals decide
theorem rows0_ok {r : Rd} (h : r.ok) : (rows0 r).ok := by
  unfold rows0
  split
  · exact Rd.fail_ok (Rd.var_ok h).1 (by decide) (by decide)
  · exact (Rd.var_ok h).1
theorem rows0_bs (r : Rd) : (rows0 r).bs = r.bs := by
  unfold rows0
  split
  · rw [Rd.fail_bs, Rd.var_bs]
  · rw [Rd.var_bs]
theorem itRow_bs (cols : List Col) (s : List (List Val) × Rd) (i : Nat) : (itR (rStep cols) s i).2.bs = s.2.bs := by
  induction i with
  | zero => rfl
  | succ i ih => exact (Rd.fail_bs _ _).trans ((itV_bs _ _).trans ih)
theorem itRow_len (cols : List Col) (s : List (List Val) × Rd) (i : Nat) : (itR (rStep cols) s i).1.length = s.1.length + i := by
  induction i with
  | zero => rfl
  | succ i ih =>
    show ((itR (rStep cols) s i).1 ++ [_]).length = _
    rw [List.length_append, ih]
    rfl
/-! ### Lists of a function's own -/
abbrev cblk (l : List Col) : Blk := { cells := cols3 l, elem := 121, kind := .grow, esz := 3 }
abbrev vlblk (l : List Val) : Blk := { cells := vals3 l, elem := 59, kind := .grow, esz := 3 }
theorem cols3_len (l : List Col) : (cols3 l).length = l.length * 3 := by
  induction l with
  | nil => rfl
  | cons a l ih => rw [cols3, List.flatMap_cons, List.length_append, ← cols3, ih, List.length_cons]; show 3 + _ = _; omega
theorem vals3_len' (l : List Val) : (vals3 l).length = l.length * 3 := by
  induction l with
  | nil => rfl
  | cons a l ih => rw [vals3, List.flatMap_cons, List.length_append, ← vals3, ih, List.length_cons]; show 3 + _ = _; omega
theorem cols3_snoc (l : List Col) (c : Col) : cols3 (l ++ [c]) = cols3 l ++ cols3 [c] := by rw [cols3, List.flatMap_append]
theorem vals3_snoc (l : List Val) (c : Val) : vals3 (l ++ [c]) = vals3 l ++ vals3 [c] := by rw [vals3, List.flatMap_append]
theorem SLC.cblk {H : Hp} {q : Nat} {l : List Col} (h : H q = some (cblk l)) : SLC H 3 (some ⟨q, 0, some 1⟩) l.length l.length (cols3 l) := SLC.grow h rfl (cols3_len l).symm
theorem SLC.vlblk {H : Hp} {q : Nat} {l : List Val} (h : H q = some (vlblk l)) : SLC H 3 (some ⟨q, 0, some 1⟩) l.length l.length (vals3 l) := SLC.grow h rfl (vals3_len' l).symm
theorem cols3_one' (l : List Col) : ∀ u ∈ cols3 l, u.oneCell' = true := by
  intro u hu
  rw [cols3, List.mem_flatMap] at hu
  obtain ⟨v, _, hv⟩ := hu
  have hv : u ∈ ([.int .i64 v.kind, .bool v.null, .int .i64 v.way] : List Value) := hv
  simp only [List.mem_cons, List.not_mem_nil, or_false] at hv
  rcases hv with rfl | rfl | rfl <;> rfl
theorem vals3_one' (l : List Val) : ∀ u ∈ vals3 l, u.oneCell' = true := by
  intro u hu
  rw [vals3, List.mem_flatMap] at hu
  obtain ⟨v, _, hv⟩ := hu
  have hv : u ∈ ([.int .i64 v.kind, .int .i64 v.n, .string v.s] : List Value) := hv
  simp only [List.mem_cons, List.not_mem_nil, or_false] at hv
  rcases hv with rfl | rfl | rfl <;> rfl
/-- A new list of columns. -/
def NewC (H' : Hp) (k k' : Nat) (l : List Col) (v : Value) : Prop := ∃ Aq cq, v = .slice Aq l.length cq ∧ SLC H' 3 Aq l.length cq (cols3 l) ∧ ∀ a, Aq = some a → k ≤ a.block ∧ a.block < k'
theorem NewC.none_ {H' : Hp} {k k' : Nat} : NewC H' k k' [] (.slice none 0 0) := ⟨none, 0, rfl, SLC.nil, fun a h => by cases h⟩
theorem sub_new {X Y : Hp} {q : Nat} {z : Option Blk} (h : Ab.Sub X Y) (hq : X q = none) : Ab.Sub X (upd Y q z) := fun m b hm => by
  by_cases e : m = q
  · subst e; rw [hq] at hm; cases hm
  · exact (upd_other _ _ e).trans (h m b hm)
theorem none_n {X : Hp} {n q : Nat} (h : X q = none) : (upd X n none) q = none := by
  by_cases e : q = n
  · subst e; exact upd_same _ _ _
  · exact (upd_other _ _ e).trans h
/-! ### Lists of rows -/
abbrev tblW (vs : List Value) : Blk := { cells := vs, elem := 29, kind := .grow }
/-- A heap's blocks from a name on, without one. -/
def cutQ (H : Hp) (k q : Nat) : Hp := fun m => if k ≤ m ∧ m ≠ q then H m else none
def cutH (H : Hp) (k : Nat) : Hp := fun m => if k ≤ m then H m else none
theorem cutQ_at {H : Hp} {k q m : Nat} (h1 : k ≤ m) (h2 : m ≠ q) : cutQ H k q m = H m := if_pos ⟨h1, h2⟩
theorem cutH_at {H : Hp} {k m : Nat} (h1 : k ≤ m) : cutH H k m = H m := if_pos h1
theorem cutQ_sub {H H' : Hp} {k q : Nat} (h : ∀ m b, k ≤ m → m ≠ q → H m = some b → H' m = some b) : Ab.Sub (cutQ H k q) (cutQ H' k q) := fun m b hm => by
  unfold cutQ at hm ⊢
  split at hm
  · rename_i hc
    rw [if_pos hc]
    exact h m b hc.1 hc.2 hm
  · cases hm
theorem cutQH {H : Hp} {k q : Nat} : Ab.Sub (cutQ H k q) (cutH H k) := fun m b hm => by
  unfold cutQ at hm
  split at hm
  · rename_i hc
    rw [cutH_at hc.1]
    exact hm
  · cases hm
theorem cutH_sub {H : Hp} {k : Nat} : Ab.Sub (cutH H k) H := fun m b hm => by
  unfold cutH at hm
  split at hm
  · exact hm
  · cases hm
theorem cutH_mono {X Y : Hp} {k : Nat} (h : Ab.Sub X Y) : Ab.Sub (cutH X k) (cutH Y k) := fun m b hm => by
  unfold cutH at hm
  split at hm
  · rename_i hc
    rw [cutH_at hc]
    exact h m b hm
  · cases hm
theorem Rws.snoc {H : Hp} {vs : List Value} {rows : List (List Val)} {row : List Val} {A : Option Addr} {c : Nat} (h : Rws H vs rows) (hs : SLC H 3 A row.length c (vals3 row)) : Rws H (vs ++ [.slice A row.length c]) (rows ++ [row]) := by
  have hl := h.len
  refine ⟨by rw [List.length_append, List.length_append, hl]; rfl, fun i hi => ?_⟩
  rw [List.length_append, List.length_singleton] at hi
  by_cases hi2 : i < rows.length
  · obtain ⟨B, d, h1, h2⟩ := h.at_ i hi2
    have e1 : (vs ++ [Value.slice A row.length c]).getD i undef = vs.getD i undef := by
      rw [List.getD_eq_getElem?_getD, List.getD_eq_getElem?_getD, List.getElem?_append_left (by omega)]
    have e2 : (rows ++ [row]).getD i [] = rows.getD i [] := by
      rw [List.getD_eq_getElem?_getD, List.getD_eq_getElem?_getD, List.getElem?_append_left hi2]
    rw [e1, e2]
    exact ⟨B, d, h1, h2⟩
  · have e0 : i = rows.length := by omega
    subst e0
    have e1 : (vs ++ [Value.slice A row.length c]).getD rows.length undef = .slice A row.length c := by
      rw [List.getD_eq_getElem?_getD, List.getElem?_append_right (by omega), hl, Nat.sub_self]; rfl
    have e2 : (rows ++ [row]).getD rows.length [] = row := by
      rw [List.getD_eq_getElem?_getD, List.getElem?_append_right (Nat.le_refl _), Nat.sub_self]; rfl
    rw [e1, e2]
    exact ⟨A, c, rfl, hs⟩
theorem Rws.nil {H : Hp} : Rws H [] [] := ⟨rfl, fun i hi => absurd hi (Nat.not_lt_zero i)⟩
/-- A new list of new rows. -/
def NewR (H' : Hp) (k : Nat) (rows : List (List Val)) (v : Value) : Prop := ∃ Aq cq vs, v = .slice Aq vs.length cq ∧ SLC (cutH H' k) 1 Aq vs.length cq vs ∧ Rws (cutH H' k) vs rows
theorem NewR.none_ {H' : Hp} {k : Nat} : NewR H' k [] (.slice none 0 0) := ⟨none, 0, [], rfl, SLC.nil, Rws.nil⟩
theorem rowsRun_end {cols : List Col} {r : Rd} {i : Nat} (h : rowsRun cols r = runR (rStep cols) (r.var.1 - i) (itR (rStep cols) ([], rows0 r) i)) (hi : i = r.var.1 ∨ (itR (rStep cols) ([], rows0 r) i).2.e ≠ 0) : rowsRun cols r = itR (rStep cols) ([], rows0 r) i := by
  rcases hi with hi | hi
  · rw [h, hi, Nat.sub_self]; rfl
  · rw [h, runR_err hi]
theorem takeRows_err {cols : List Col} {r : Rd} {s : List (List Val) × Rd} (h : rowsRun cols r = s) (he : s.2.e ≠ 0) : takeRows cols r = ([], s.2) := by
  rw [takeRows, h, if_pos he]
theorem itRow_ok (cols : List Col) (s : List (List Val) × Rd) (h : s.2.ok) (i : Nat) : (itR (rStep cols) s i).2.ok := by
  induction i with
  | zero => exact h
  | succ i ih => exact Rd.fail_ok (itV_ok _ ih (fun v hv => by cases hv) _).1 (rowI_le _ _ _).1 (rowI_le _ _ _).2
end Go.Proofs.YteoofihjmldllaaDoor
