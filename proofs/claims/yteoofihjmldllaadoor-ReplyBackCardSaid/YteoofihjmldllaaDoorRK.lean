/- Schemas and rows out of readers, in plain Lean; lists of a function's own beside a reader's. No condition. -/
import Derived.Test.YteoofihjmldllaaDoorR5
import Derived.Test.YteoofihjmldllaaDoorR31
set_option linter.unusedVariables false
set_option linter.unusedSimpArgs false
set_option maxRecDepth 100000
namespace Go.Proofs.YteoofihjmldllaaDoor
open Go Go.Ab
/-- Some rounds, till an error. -/
def runR {α : Type} (f : α × Rd → α × Rd) : Nat → α × Rd → α × Rd
 | 0, s => s
 | n + 1, s => if s.2.e ≠ 0 then s else runR f n (f s)
def itR {α : Type} (f : α × Rd → α × Rd) (s : α × Rd) : Nat → α × Rd
 | 0 => s
 | n + 1 => f (itR f s n)
theorem runR_err {α : Type} {f : α × Rd → α × Rd} {s : α × Rd} (h : s.2.e ≠ 0) (n : Nat) : runR f n s = s := by
 cases n with
 | zero => rfl
 | succ n => exact if_pos h
theorem runR_step {α : Type} {f : α × Rd → α × Rd} {s : α × Rd} {n i : Nat} (h : runR f n s = runR f (n - i) (itR f s i)) (hi : i < n) (he : (itR f s i).2.e = 0) : runR f n s = runR f (n - (i + 1)) (itR f s (i + 1)) := by
 rw [h, show n - i = n - (i + 1) + 1 by omega, runR, if_neg (fun x => x he)]
 rfl
def colStep (r : Rd) : Col × Rd := (⟨(r.fix1.1 : Int), decide (r.fix1.2.fix1.1 = 1), (r.fix1.2.fix1.2.fix1.1 : Int) - 1⟩, if r.fix1.2.fix1.1 > 1 then r.fix1.2.fix1.2.fix1.2.fail 4 else r.fix1.2.fix1.2.fix1.2)
def sStep (p : List Col × Rd) : List Col × Rd := (p.1 ++ [(colStep p.2).1], (colStep p.2).2)
def schRun (r : Rd) : List Col × Rd := runR sStep r.fix1.1 ([], r.fix1.2)
def takeSch (r : Rd) : List Col × Rd := (if ((schRun r).2.fail (schemaI (schRun r).1)).e ≠ 0 then [] else (schRun r).1, (schRun r).2.fail (schemaI (schRun r).1))
/-! ### What is always so -/
theorem Rd.fix1_err {r : Rd} (h : r.fix1.2.e ≠ 0) : r.fix1.1 = 0 := by
 unfold Rd.fix1 Rd.take at h ⊢
 simp only at h ⊢
 split at h
 ·rename_i h1
  rw [if_pos h1]; rfl
 ·rename_i h1
  split at h
  ·rename_i h2
   rw [if_neg h1, if_pos h2]; rfl
  ·exact absurd h h1
theorem colStep_ok {r : Rd} (h : r.ok) : (colStep r).2.ok := by
 have h3 := (Rd.fix1_ok (Rd.fix1_ok (Rd.fix1_ok h).1).1).1
 unfold colStep
 simp only
 split
 ·exact Rd.fail_ok h3 Dz Dz
 ·exact h3
theorem colStep_bs (r : Rd) : (colStep r).2.bs = r.bs := by
 unfold colStep
 simp only
 split
 ·rw [Rd.fail_bs, Rd.fix1_bs, Rd.fix1_bs, Rd.fix1_bs]
 ·rw [Rd.fix1_bs, Rd.fix1_bs, Rd.fix1_bs]
theorem itS_len (s : List Col × Rd) (i : Nat) : (itR sStep s i).1.length = s.1.length + i := by
 induction i with
 | zero => rfl
 | succ i ih =>
  show ((itR sStep s i).1 ++ [_]).length = _
  rw [List.length_append, ih]
  rfl
theorem itS_bs (s : List Col × Rd) (i : Nat) : (itR sStep s i).2.bs = s.2.bs := by
 induction i with
 | zero => rfl
 | succ i ih => exact (colStep_bs _).trans ih
theorem schemaI_le (l : List Col) : 0 ≤ schemaI l ∧ schemaI l ≤ 100 := by
 unfold schemaI
 repeat' split
 all_goals decide
/-! ### Lists of a function's own -/
abbrev cblk (l : List Col) : Blk := { cells := cols3 l, elem := 121, kind := .grow, esz := 3 }
theorem cols3_len (l : List Col) : (cols3 l).length = l.length * 3 := by
 induction l with
 | nil => rfl
 | cons a l ih => rw [cols3, List.flatMap_cons, List.length_append, ← cols3, ih, List.length_cons]; show 3 + _ = _; omega
theorem cols3_snoc (l : List Col) (c : Col) : cols3 (l ++ [c]) = cols3 l ++ cols3 [c] := by rw [cols3, List.flatMap_append]
theorem SLC.cblk {H : Hp} {q : Nat} {l : List Col} (h : H q = some (cblk l)) : SLC H 3 (some ⟨q, 0, some 1⟩) l.length l.length (cols3 l) := SLC.grow h rfl (cols3_len l).symm
theorem cols3_one' (l : List Col) : ∀ u ∈ cols3 l, u.oneCell' = true := by
 intro u hu
 rw [cols3, List.mem_flatMap] at hu
 obtain ⟨v, _, hv⟩ := hu
 have hv : u ∈ ([.int .i64 v.kind, .bool v.null, .int .i64 v.way] : List Value) := hv
 simp only [List.mem_cons, List.not_mem_nil, or_false] at hv
 rcases hv with rfl | rfl | rfl <;> rfl
/-- A new list of columns. -/
def NewC (H' : Hp) (k k' : Nat) (l : List Col) (v : Value) : Prop := ∃ Aq cq, v = .slice Aq l.length cq ∧ SLC H' 3 Aq l.length cq (cols3 l) ∧ ∀ a, Aq = some a → k ≤ a.block ∧ a.block < k'
theorem NewC.none_ {H' : Hp} {k k' : Nat} : NewC H' k k' [] (.slice none 0 0) := ⟨none, 0, rfl, SLC.nil, fun a h => by cases h⟩
theorem sub_new {X Y : Hp} {q : Nat} {z : Option Blk} (h : Ab.Sub X Y) (hq : X q = none) : Ab.Sub X (upd Y q z) := fun m b hm => by
 by_cases e : m = q
 ·subst e; rw [hq] at hm; cases hm
 ·exact (upd_other _ _ e).trans (h m b hm)
theorem none_n {X : Hp} {n q : Nat} (h : X q = none) : (upd X n none) q = none := by
 by_cases e : q = n
 ·subst e; exact upd_same _ _ _
 ·exact (upd_other _ _ e).trans h
/-! ### Lists of rows -/
def cutH (H : Hp) (k : Nat) : Hp := fun m => if k ≤ m then H m else none
theorem cutH_at {H : Hp} {k m : Nat} (h1 : k ≤ m) : cutH H k m = H m := if_pos h1
theorem cutH_sub {H : Hp} {k : Nat} : Ab.Sub (cutH H k) H := fun m b hm => by
 unfold cutH at hm
 split at hm
 ·exact hm
 ·cases hm
theorem cutH_by {H H' : Hp} {k n : Nat} (h : Ab.Sub (upd H n none) H') (hn : n < k) : Ab.Sub (cutH H k) (cutH H' k) := fun m b hm => by
 unfold cutH at hm
 split at hm
 ·rename_i hc
  rw [cutH_at hc]
  exact h m b (Uz hm)
 ·cases hm
theorem cutH_mono {X Y : Hp} {k : Nat} (h : Ab.Sub X Y) : Ab.Sub (cutH X k) (cutH Y k) := fun m b hm => by
 unfold cutH at hm
 split at hm
 ·rename_i hc
  rw [cutH_at hc]
  exact h m b hm
 ·cases hm
end Go.Proofs.YteoofihjmldllaaDoor

/- Headers out of readers: plain Lean. No condition. -/
set_option linter.unusedVariables false
set_option linter.unusedSimpArgs false
set_option maxRecDepth 100000
namespace Go.Proofs.YteoofihjmldllaaDoor
open Go Go.Ab
def chStep (p : List Ch × Rd) : List Ch × Rd := (p.1 ++ [⟨p.2.zone.1, p.2.zone.2.hash.1⟩], p.2.zone.2.hash.2)
def hdRun (r : Rd) (n : Nat) : List Ch × Rd := runR chStep n ([], r.num.2.num.2.hash.2)
def hdOf (r : Rd) (n : Nat) : Hd := ⟨r.num.1, r.num.2.num.1, r.num.2.num.2.hash.1, (hdRun r n).1⟩
def hdEnd (r : Rd) (cols : List Col) : Rd := if (hdRun r cols.length).2.e = 0 ∧ soundH soundR (hdOf r cols.length) cols = false then (hdRun r cols.length).2.fail 4 else (hdRun r cols.length).2
def hdD : Hd := ⟨0, 0, zeroD, []⟩
def Rd.head (r : Rd) (cols : List Col) : Hd × Rd := (if (hdEnd r cols).e ≠ 0 then hdD else hdOf r cols.length, hdEnd r cols)
theorem chStep_bs (p : List Ch × Rd) : (chStep p).2.bs = p.2.bs := (Rd.hash_bs _).trans (Rd.zone_bs _)
theorem runR_bs {α : Type} {f : α × Rd → α × Rd} (hf : ∀ p, (f p).2.bs = p.2.bs) : ∀ (n : Nat) (p : α × Rd), (runR f n p).2.bs = p.2.bs
 | 0, p => rfl
 | n + 1, p => by
  rw [runR]
  split
  ·rfl
  ·rw [runR_bs hf n, hf]
theorem hdRun_bs (r : Rd) (n : Nat) : (hdRun r n).2.bs = r.bs := (runR_bs chStep_bs n _).trans ((Rd.hash_bs _).trans ((Rd.num_bs _).trans r.num_bs))
theorem hdEnd_bs (r : Rd) (cols : List Col) : (hdEnd r cols).bs = r.bs := by
 unfold hdEnd
 split
 ·rw [Rd.fail_bs, hdRun_bs]
 ·exact hdRun_bs _ _
/-- A reader with an error stays as it is. -/
theorem Rd.take_err {r : Rd} (h : r.e ≠ 0) (n : Nat) : r.take n = ([], r) := if_pos h
theorem Rd.hash_err {r : Rd} (h : r.e ≠ 0) : r.hash.2 = r := by show (r.take 32).2 = r; rw [Rd.take_err h]
theorem Rd.num_err {r : Rd} (h : r.e ≠ 0) : r.num.2 = r := by show r.var.2 = r; rw [Rd.var, if_pos h]
theorem Rd.fix1_no {r : Rd} (h : r.e ≠ 0) : r.fix1 = (0, r) := by rw [Rd.fix1, Rd.take_err h]; rfl
theorem Rd.zone_err {r : Rd} (h : r.e ≠ 0) : r.zone.2 = r := by
 have h1 := Rd.num_err h
 have h2 : r.num.2.fix1 = (0, r) := by rw [h1]; exact Rd.fix1_no h
 rw [Rd.zone0 (by rw [h2]), h2]
theorem chStep_err {p : List Ch × Rd} (h : p.2.e ≠ 0) : (chStep p).2 = p.2 := by
 show p.2.zone.2.hash.2 = p.2
 rw [Rd.zone_err h, Rd.hash_err h]
theorem Rd.num_ok {r : Rd} (h : r.ok) : r.num.2.ok ∧ 0 ≤ r.num.1 ∧ r.num.1 ≤ 65537 := ⟨(Rd.var_ok h).1, by show 0 ≤ Min.min (r.var.1 : Int) 65537; omega, by show Min.min (r.var.1 : Int) 65537 ≤ _; omega⟩
theorem Rd.zone_ok {r : Rd} (h : r.ok) : r.zone.2.ok ∧ r.zone.1.ok := by
 have h1 := Rd.num_ok h
 have h2 := Rd.fix1_ok h1.1
 have hw : ∀ z : Zn, z.nulls = r.num.1 → z.min.ok → z.max.ok → z.ok := fun z e a b => ⟨by rw [e]; exact wf_i64 Wz Wz, a, b⟩
 have hd : vD.ok := vD_ok
 unfold Rd.zone
 split
 ·exact ⟨h2.1, hw _ rfl hd hd⟩
 ·split
  ·have h3 := takeV_ok h2.1
   have h4 := takeV_ok h3.1
   exact ⟨h4.1, hw _ rfl h3.2 h4.2⟩
  ·exact ⟨Rd.fail_ok h2.1 Dz Dz, hw _ rfl hd hd⟩
theorem itR_ok {α : Type} {f : α × Rd → α × Rd} {P : α × Rd → Prop} (hf : ∀ p, P p → P (f p)) (p : α × Rd) (h : P p) : ∀ (n : Nat), P (itR f p n)
 | 0 => h
 | n + 1 => hf _ (itR_ok hf p h n)
end Go.Proofs.YteoofihjmldllaaDoor
