/- Abstract states over the model, part 17: operations under a guard whose outcome is not yet known: a value if it holds, else none. No condition; over any program. -/
import Derived.Test.YtlbcgadmcjobiaaDoorAb16
set_option linter.unusedVariables false
set_option linter.unusedSimpArgs false
namespace Go.Ab
open Go.RowKit

/-- A value that is there if c holds. -/
def gv (c : Bool) (v : Value) : Value := bif c then v else undef

section
variable {P : Program} {NG N : Nat} {fr : Fr} {H : Hp} {nk : Nat} {R : Value → Hp → Nat → Prop} {o : Oper} {ops : Array Oper}

theorem gvT {t : Nat} {c : Bool} {v : Value} (h : fr t = some (gv c v)) (hc : c = true) : fr t = some v := by subst hc; exact h
theorem gvE {t : Nat} {c : Bool} {v : Value} (h : aeval NG fr (.tmp t) = some (gv c v)) (hc : c = true) : aeval NG fr (.tmp t) = some v := by subst hc; exact h

theorem wantT {j t : Nat} {b : Bool} (hg : o.guard = some (j, true)) (hd : (ops[j]?).bind (·.dst) = some t) (hf : fr t = some (.bool b)) : wantedA ops fr o = some b := by
  simp only [wantedA, hg, hd, hf]
  cases b <;> rfl
theorem wantF {j t : Nat} {b : Bool} (hg : o.guard = some (j, false)) (hd : (ops[j]?).bind (·.dst) = some t) (hf : fr t = some (.bool b)) : wantedA ops fr o = some (!b) := by
  simp only [wantedA, hg, hd, hf]
  cases b <;> rfl
theorem wantGT {j t : Nat} {b c : Bool} (hg : o.guard = some (j, true)) (hd : (ops[j]?).bind (·.dst) = some t) (hf : fr t = some (gv c (.bool b))) : wantedA ops fr o = some (c && b) := by
  simp only [wantedA, hg, hd, hf]
  cases c <;> cases b <;> rfl
theorem wantGF {j t : Nat} {b c : Bool} (hg : o.guard = some (j, false)) (hd : (ops[j]?).bind (·.dst) = some t) (hf : fr t = some (gv c (.bool b))) : wantedA ops fr o = some (c && !b) := by
  simp only [wantedA, hg, hd, hf]
  cases c <;> cases b <;> rfl

/-- A guarded operation that leaves the heap as it was. -/
theorem aOps_gd {Q : St → Prop} {i t : Nat} {rest : List Nat} {cond : Bool} {v : Value} (ho : ops[i]? = some o) (hd : o.dst = some t) (hw : wantedA ops fr o = some cond)
    (h : cond = true → AOp P NG o ⟨fr, H, nk⟩ fun v' H' k' => v' = v ∧ H' = H ∧ nk ≤ k') (hn : ∀ k', nk ≤ k' → aOps P NG ops Q rest ⟨upd fr t (some (gv cond v)), H, k'⟩) : aOps P NG ops Q (i :: rest) ⟨fr, H, nk⟩ := by
  simp only [aOps, ho, hw, hd, putA]
  cases cond with
  | true =>
    refine (h rfl).mono ?_
    rintro v' H' k' ⟨rfl, rfl, hk⟩
    exact hn k' hk
  | false => exact hn nk (Nat.le_refl _)

theorem aOps_gd0 {Q : St → Prop} {i t : Nat} {rest : List Nat} {cond : Bool} {v : Value} (ho : ops[i]? = some o) (hd : o.dst = some t) (hw : wantedA ops fr o = some cond)
    (h : cond = true → AOp P NG o ⟨fr, H, nk⟩ fun v' H' k' => v' = v ∧ H' = H ∧ k' = nk) (hn : aOps P NG ops Q rest ⟨upd fr t (some (gv cond v)), H, nk⟩) : aOps P NG ops Q (i :: rest) ⟨fr, H, nk⟩ := by
  simp only [aOps, ho, hw, hd, putA]
  cases cond with
  | true =>
    refine (h rfl).mono ?_
    rintro v' H' k' ⟨rfl, rfl, rfl⟩
    exact hn
  | false => exact hn

/-- An operation under no guard, with a slot for its value; without one. -/
theorem aOps_1 {Q : St → Prop} {i t : Nat} {rest : List Nat} (ho : ops[i]? = some o) (hd : o.dst = some t) (hg : o.guard = none)
    (h : AOp P NG o ⟨fr, H, nk⟩ fun v H' k' => aOps P NG ops Q rest ⟨upd fr t (some v), H', k'⟩) : aOps P NG ops Q (i :: rest) ⟨fr, H, nk⟩ :=
  aOps_step ho (by simp [wantedA, hg]) (h.mono fun v H' k' hq => by rw [hd]; exact hq)
theorem aOps_0 {Q : St → Prop} {i : Nat} {rest : List Nat} (ho : ops[i]? = some o) (hd : o.dst = none) (hg : o.guard = none)
    (h : AOp P NG o ⟨fr, H, nk⟩ fun v H' k' => aOps P NG ops Q rest ⟨fr, H', k'⟩) : aOps P NG ops Q (i :: rest) ⟨fr, H, nk⟩ :=
  aOps_step ho (by simp [wantedA, hg]) (h.mono fun v H' k' hq => by rw [hd]; exact hq)
/-- An operation that leaves the heap as it was. -/
theorem aOps_q {Q : St → Prop} {i t : Nat} {rest : List Nat} {v : Value} (ho : ops[i]? = some o) (hd : o.dst = some t) (hg : o.guard = none)
    (h : AOp P NG o ⟨fr, H, nk⟩ fun v' H' k' => v' = v ∧ H' = H ∧ nk ≤ k') (hn : ∀ k', nk ≤ k' → aOps P NG ops Q rest ⟨upd fr t (some v), H, k'⟩) : aOps P NG ops Q (i :: rest) ⟨fr, H, nk⟩ :=
  aOps_1 ho hd hg (h.mono (by rintro v' H' k' ⟨rfl, rfl, hk⟩; exact hn k' hk))
theorem aOps_end {Q : St → Prop} (h : Q ⟨fr, H, nk⟩) : aOps P NG ops Q [] ⟨fr, H, nk⟩ := h

theorem Draw.gd {m n : Nat} {K : Fr → Nat → Prop} {env : Fr} {v : Value} {cond : Bool} (U : List (Nat × Option Nat)) (ho : ops[m - (n + 1)]? = some o) (hU : useOk ops (m - (n + 1)) U = true) (hw : wantedA ops (useFr env fr U) o = some cond)
    (h : ∀ k, nk ≤ k → cond = true → AOp P NG o ⟨useFr env fr U, H, k⟩ fun v' H' k' => v' = v ∧ H' = H ∧ k ≤ k') (hr : Draw P NG ops ⟨fr, H, nk⟩ m K n (upd env (m - (n + 1)) (some (gv cond v)))) : Draw P NG ops ⟨fr, H, nk⟩ m K (n + 1) env := by
  refine ⟨o, gv cond v, ho, ⟨U, hU, fun k hk => ?_⟩, hr⟩
  unfold stepA
  rw [hw]
  cases cond with
  | true => exact h k hk rfl
  | false => exact ⟨rfl, rfl, Nat.le_refl _⟩

/-- An operation that looks at these slots alone. -/
theorem AOp.slots (l : List (Nat × Value)) (hl : Has fr l) (h : AOp P NG o ⟨frL l, H, nk⟩ R) : AOp P NG o ⟨fr, H, nk⟩ R :=
  h.less fun t v ht => hl (t, v) (frL_get l ht)

theorem AOp.pickV {c x y : Operand} {b : Bool} {u v : Value} (ho : o.op = .pick c x y) (hc : aeval NG fr c = some (.bool b)) (hx : b = true → aeval NG fr x = some u) (hy : b = false → aeval NG fr y = some v)
    (hR : R (if b then u else v) H nk) : AOp P NG o ⟨fr, H, nk⟩ R := by
  refine AOp.pick ho hc ?_ hR
  cases b with
  | true => exact hx rfl
  | false => exact hy rfl
theorem AOp.pickAnd {c x y : Operand} {b b' : Bool} (ho : o.op = .pick c x y) (hy : aeval NG fr y = some (.bool false)) (hc : aeval NG fr c = some (.bool b)) (hx : b = true → aeval NG fr x = some (.bool b'))
    (hR : R (.bool (b && b')) H nk) : AOp P NG o ⟨fr, H, nk⟩ R := by
  refine AOp.pick ho hc (v := .bool (b && b')) ?_ hR
  cases b with
  | true => exact hx rfl
  | false => exact hy
theorem AOp.pickOr {c x y : Operand} {b b' : Bool} (ho : o.op = .pick c x y) (hx : aeval NG fr x = some (.bool true)) (hc : aeval NG fr c = some (.bool b)) (hy : b = false → aeval NG fr y = some (.bool b'))
    (hR : R (.bool (b || b')) H nk) : AOp P NG o ⟨fr, H, nk⟩ R := by
  refine AOp.pick ho hc (v := .bool (b || b')) ?_ hR
  cases b with
  | true => exact hx
  | false => exact hy rfl

theorem ACalls.fresh {f : FuncId} {vs : List Value} {H : Hp} {k : Nat} {R : Value → Hp → Nat → Prop} (h : (∀ n, k ≤ n → H n = none) → ACalls P NG f vs H k R) : ACalls P NG f vs H k R :=
  fun B w0 G vs' w hS hv => h (fun n hn => (hS.fresh n hn).1) B w0 G vs' w hS hv
theorem sub_upd' {H X : Hp} {n : Nat} {b : Option Blk} (h : Sub H X) (hn : H n = none) : Sub H (upd X n b) := fun m c hc => by
  rw [upd_other]
  · exact h m c hc
  · rintro rfl
    rw [hn] at hc
    cases hc
theorem old_lt {H : Hp} {k n : Nat} {b : Blk} (hf : ∀ n, k ≤ n → H n = none) (h : H n = some b) : n < k := by
  rcases Nat.lt_or_ge n k with hlt | hge
  · exact hlt
  · rw [hf n hge] at h
    cases h

theorem and_l {a b : Bool} (h : (a && b) = true) : a = true := by cases a <;> simp_all
theorem and_r {a b : Bool} (h : (a && b) = true) : b = true := by cases a <;> simp_all
theorem and_mk {a b : Bool} (h : a = true) (k : b = true) : (a && b) = true := by rw [h, k]; rfl
theorem t_not {b : Bool} (h : b = false) : (!b) = true := by rw [h]; rfl
theorem not_f {b : Bool} (h : (!b) = true) : b = false := by cases b <;> simp_all
end
end Go.Ab
