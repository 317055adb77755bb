/- Contracts over the abstract states: predicates out of the reference's readers. -/
import Derived.Test.YteoofihjmldllaaDoorR11
import Derived.Test.YteoofihjmldllaaDoorRM
import Derived.Test.YteoofihjmldllaaDoorP7
set_option linter.unusedVariables false
set_option linter.unusedSimpArgs false
set_option maxRecDepth 100000
namespace Go.Proofs.YteoofihjmldllaaDoor
open Go Go.Ab

section
variable (H : Hp) (k : Nat)

set_option maxHeartbeats 8000000 in
end

end Go.Proofs.YteoofihjmldllaaDoor

/- Contracts over the abstract states: predicates out of the reference's readers. -/
set_option linter.unusedVariables false
set_option linter.unusedSimpArgs false
set_option maxRecDepth 100000
namespace Go.Proofs.YteoofihjmldllaaDoor
open Go Go.Ab

section
variable (H : Hp) (k : Nat)

end

end Go.Proofs.YteoofihjmldllaaDoor

/- Commands, in plain Lean: what is taken of bytes; commands in memory. No condition. -/
set_option linter.unusedVariables false
set_option linter.unusedSimpArgs false
set_option maxRecDepth 100000
namespace Go.Ab
theorem SLC.cutK {H : Hp} {k z l c : Nat} {A : Option Addr} {cs : List Value} (h : SLC H z A l c cs) (hA : ∀ a, A = some a → k ≤ a.block) : SLC (fun m => if k ≤ m then H m else none) z A l c cs := by
  cases A with
  | none =>
    obtain ⟨h1, h2⟩ := h
    cases l with
    | zero => cases c with
      | zero => exact ⟨h1, trivial⟩
      | succ c => exact absurd h2 (by simp [SlcWf])
    | succ l => exact absurd h2 (by simp [SlcWf])
  | some a =>
    obtain ⟨n, off, sp⟩ := a
    have hn : k ≤ n := hA _ rfl
    have e : (fun m => if k ≤ m then H m else none : Hp) n = H n := if_pos hn
    obtain ⟨h1, h2⟩ := h
    refine ⟨?_, ?_⟩
    · unfold slcCells at h1 ⊢
      split at h1 <;> simp_all
    · unfold SlcWf at h2 ⊢
      split at h2 <;> simp_all
theorem RetQ.cell3 {P : Program} {fn : Func} {H H'' : Hp} {k t ty t' t2 : Nat} {R : Value → Hp → Nat → Prop} {fr : Fr} {H' : Hp} {k' : Nat} {p v v' v2 : Value} (hr : fn.results = #[.cell t ty, .tmp t', .tmp t2]) (hp : fr t = some p) (hv : aloadVar P H' ty p = some v) (hv' : fr t' = some v') (hv2 : fr t2 = some v2) (hs : Sub H'' H') (hst : ∀ n b, H n = some b → ∃ b', H'' n = some b') (hR : k ≤ k' → R (.tuple #[v, v', v2]) H'' k') :
    RetQ P fn H k R .ret ⟨fr, H', k'⟩ := by
  intro hk
  refine ⟨[v, v', v2], H'', ?_, hs, hst, hR hk⟩
  rw [hr]
  simp [aresults, aresult, hp, hv, hv', hv2]
/-- What stays while a block that was not there is written. -/
theorem sub_past {X Y Z : Hp} {n : Nat} (h : Sub X Y) (hx : X n = none) (h2 : Sub (upd Y n none) Z) : Sub X Z := fun m b hm => by
  by_cases e : m = n
  · subst e; rw [hx] at hm; cases hm
  · exact h2 m b ((upd_other _ _ e).trans (h m b hm))
end Go.Ab
namespace Go.Proofs.YteoofihjmldllaaDoor
open Go Go.Ab
theorem cutH_upd {H : Hp} {k k0 : Nat} {x : Option Blk} (h : k < k0) : Ab.Sub (cutH H k0) (cutH (upd H k x) k) := fun m b hm => by
  unfold cutH at hm
  split at hm
  · rename_i hc
    rw [cutH_at (by omega), upd_other _ _ (by omega)]
    exact hm
  · cases hm
structure Cm where
  kind : Int
  sch : List Col
  most : Int
  rows : List (List Val)
  pred : Pd
  fr : Int
  to : Int
def cmD (kind : Int) : Cm := ⟨kind, [], 0, [], pD0, 0, 0⟩
def numR (r : Rd) : Nat × Rd := (r.var.1, if r.var.1 > 1099511627776 then r.var.2.fail 12 else r.var.2)
def cmK (g : Nat → Int) (cols : List Col) (k : Nat) (r : Rd) : Cm × Rd :=
  if k = 1 then (⟨1, (takeSch r).1, g (numR (takeSch r).2).1, [], pD0, 0, 0⟩, (numR (takeSch r).2).2)
  else if k = 2 then (⟨2, [], 0, (takeRows cols r).1, pD0, 0, 0⟩, (takeRows cols r).2)
  else if k = 3 then (⟨3, [], 0, [], (takePr r).1, 0, 0⟩, (takePr r).2)
  else if k = 4 then (cmD 4, r)
  else if k = 5 then (⟨5, [], 0, [], pD0, g (numR r).1, g (numR (numR r).2).1⟩, (numR (numR r).2).2)
  else (cmD (k : Int), r.fail 11)
abbrev gN (v : Nat) : Int := if v > 1099511627776 then (1099511627776 : Int) else (v : Int)
def takeCr (g : Nat → Int) (cols : List Col) (r : Rd) : Cm × Rd := cmK g cols r.fix1.1 r.fix1.2
def ansC (p : Cm × Rd) : Cm × Int × Int := if p.2.end_.1 ≠ 0 then (cmD 0, p.2.end_.1, p.2.end_.2) else (p.1, 0, 0)
/-- The command of a form. -/
def takeC (cols : List Col) (bs : List UInt8) : Cm × Int × Int := ansC (takeCr (fun v => (v : Int)) cols ⟨bs, 0, 0, 0⟩)
theorem end_e0 {r : Rd} (h : r.end_.1 = 0) : r.e = 0 := by
  unfold Rd.end_ at h
  split at h
  · cases h
  · exact h
theorem numR_e0 {r : Rd} (h : (numR r).2.e = 0) : ¬ r.var.1 > 1099511627776 := by
  intro hc
  unfold numR at h
  simp only [if_pos hc] at h
  exact Rd.fail_ne _ (by decide) h
theorem numR_stick {r : Rd} (h : (numR r).2.e = 0) : r.e = 0 := by
  unfold numR at h
  simp only at h
  by_cases he : r.e = 0
  · exact he
  · have e1 : r.var = (0, r) := by rw [Rd.var, if_pos he]
    rw [e1] at h
    rw [if_neg (show ¬ (0 : Nat) > 1099511627776 by decide)] at h
    exact absurd h he
theorem cmK_g (g g' : Nat → Int) (cols : List Col) (k : Nat) (r : Rd) : (cmK g cols k r).2 = (cmK g' cols k r).2 := by
  unfold cmK
  repeat' split
  all_goals rfl
theorem cmK_e (g g' : Nat → Int) (hg : ∀ v, ¬ v > 1099511627776 → g v = g' v) (cols : List Col) (k : Nat) (r : Rd) (h : (cmK g cols k r).2.e = 0) : cmK g cols k r = cmK g' cols k r := by
  unfold cmK at h ⊢
  split
  · rename_i h1
    rw [if_pos h1] at h
    rw [show g (numR (takeSch r).2).1 = g' (numR (takeSch r).2).1 from hg _ (numR_e0 h)]
  · rename_i h1
    rw [if_neg h1] at h
    split
    · rfl
    · rename_i h2
      rw [if_neg h2] at h
      split
      · rfl
      · rename_i h3
        rw [if_neg h3] at h
        split
        · rfl
        · rename_i h4
          rw [if_neg h4] at h
          split
          · rename_i h5
            rw [if_pos h5] at h
            rw [show g (numR (numR r).2).1 = g' (numR (numR r).2).1 from hg _ (numR_e0 h), show g (numR r).1 = g' (numR r).1 from hg _ (numR_e0 (numR_stick h))]
          · rfl
theorem ansC_g (g : Nat → Int) (hg : ∀ v, ¬ v > 1099511627776 → g v = (v : Int)) (cols : List Col) (bs : List UInt8) : ansC (takeCr g cols ⟨bs, 0, 0, 0⟩) = takeC cols bs := by
  unfold takeC ansC takeCr
  rw [cmK_g g (fun v => (v : Int))]
  split
  · rfl
  · rename_i h
    rw [cmK_e g (fun v => (v : Int)) hg cols _ _ (by rw [cmK_g g (fun v => (v : Int))]; exact end_e0 (Decidable.not_not.1 h))]
theorem takeC_n (cols : List Col) (bs : List UInt8) : ansC (takeCr gN cols ⟨bs, 0, 0, 0⟩) = takeC cols bs := ansC_g gN (fun v h => if_neg h) cols bs
theorem numR_bs (r : Rd) : (numR r).2.bs = r.bs := by
  unfold numR
  simp only
  split
  · exact (Rd.fail_bs _ _).trans (Rd.var_bs r)
  · exact Rd.var_bs r
/-! ### In memory -/
abbrev cmv (kind : Int) (s : Value) (most : Int) (w : Value) (op col : Int) (v o : Value) (fr to : Int) : Value := .agg #[.int .i64 kind, s, .int .i64 most, w, .int .i64 op, .int .i64 col, v, o, .int .i64 fr, .int .i64 to]
abbrev cmblk (kind : Int) (s : Value) (most : Int) (w : Value) (op col : Int) (v o : Value) (fr to : Int) : Blk := { cells := [.int .i64 kind, s, .int .i64 most, w, .int .i64 op, .int .i64 col, v, o, .int .i64 fr, .int .i64 to], elem := 44, kind := .fix }
def CmV (H : Hp) (c : Cm) (v : Value) : Prop := ∃ (As : Option Addr) (cs : Nat) (Aw : Option Addr) (cw : Nat) (ws : List Value) (op col : Int) (VA : Option Addr) (vl vc : Nat) (VB : Option Addr) (om od : Nat),
  v = cmv c.kind (.slice As c.sch.length cs) c.most (.slice Aw ws.length cw) op col (.slice VA vl vc) (.slice VB om od) c.fr c.to ∧ SLC H 3 As c.sch.length cs (cols3 c.sch) ∧ SLC H 1 Aw ws.length cw ws ∧ Rws H ws c.rows ∧ PdV H c.pred (pv op col VA vl vc VB om od)
theorem CmV.mk {H : Hp} {kind most fr to : Int} {sch : List Col} {rows : List (List Val)} {pred : Pd} {As : Option Addr} {cs : Nat} {Aw : Option Addr} {cw : Nat} {ws : List Value} {op col : Int} {VA : Option Addr} {vl vc : Nat} {VB : Option Addr} {om od : Nat}
    (h1 : SLC H 3 As sch.length cs (cols3 sch)) (h2 : SLC H 1 Aw ws.length cw ws) (h3 : Rws H ws rows) (h4 : PdV H pred (pv op col VA vl vc VB om od)) :
    CmV H ⟨kind, sch, most, rows, pred, fr, to⟩ (cmv kind (.slice As sch.length cs) most (.slice Aw ws.length cw) op col (.slice VA vl vc) (.slice VB om od) fr to) := ⟨As, cs, Aw, cw, ws, op, col, VA, vl, vc, VB, om, od, rfl, h1, h2, h3, h4⟩
theorem CmV.sub {H H' : Hp} (hs : Ab.Sub H H') {c : Cm} {v : Value} (h : CmV H c v) : CmV H' c v := by
  obtain ⟨As, cs, Aw, cw, ws, op, col, VA, vl, vc, VB, om, od, h0, h1, h2, h3, h4⟩ := h
  exact ⟨As, cs, Aw, cw, ws, op, col, VA, vl, vc, VB, om, od, h0, h1.sub hs, h2.sub hs, h3.sub hs, h4.sub hs⟩
theorem CmV.zero {H : Hp} (kind : Int) : CmV H (cmD kind) (cmv kind (.slice none 0 0) 0 (.slice none 0 0) 0 0 (.slice none 0 0) (.slice none 0 0) 0 0) := CmV.mk (sch := []) (ws := []) SLC.nil SLC.nil Rws.nil PdV.zero
/-- What is always so of a command that stands in memory. -/
structure Cm.ok (c : Cm) : Prop where
  sl : c.sch.length ≤ 9223372036854775807
  so : ∀ a ∈ c.sch, a.ok
  rl : c.rows.length ≤ 9223372036854775807
  rr : ∀ r ∈ c.rows, r.length ≤ 9223372036854775807
  ro : ∀ r ∈ c.rows, ∀ v ∈ r, v.ok
theorem cmD_ok (kind : Int) : (cmD kind).ok := ⟨Nat.zero_le _, fun a h => (nomatch h), Nat.zero_le _, fun a h => (nomatch h), fun a h => (nomatch h)⟩
end Go.Proofs.YteoofihjmldllaaDoor

/- Zones, in plain Lean: the zone of values, which truths may be; the truth of a row may be by the zones of rows; of more rows a zone only grows. No condition. -/
set_option linter.unusedVariables false
set_option linter.unusedSimpArgs false
set_option maxRecDepth 100000
namespace Go.Proofs.YteoofihjmldllaaDoor
open Go Go.Ab

/-! ### The zone of values -/
/-! ### Which truths may be -/
/-! ### The truth of a row may be -/
theorem shape_op {m : Nat} (h : m < 13) : ((sh m).col = true ↔ 1 ≤ m ∧ m ≤ 9) ∧ ((1 ≤ m ∧ m ≤ 6) → (sh m).v = 1) ∧ (m = 8 → (sh m).v = 2) := by
  have : ∀ m, m < 13 → ((sh m).col = true ↔ 1 ≤ m ∧ m ≤ 9) ∧ ((1 ≤ m ∧ m ≤ 6) → (sh m).v = 1) ∧ (m = 8 → (sh m).v = 2) := by decide
  exact this m h

/-! ### Of more rows a zone only grows -/
end Go.Proofs.YteoofihjmldllaaDoor
