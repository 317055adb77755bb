/- Abstract states over the model, part 12: contracts as they are used: a body's end, what is forgotten there, calls that change nothing. No condition; over any program. -/
import Derived.Test.YtlbcgadmcjobiaaDoorAb11
set_option linter.unusedVariables false
set_option linter.unusedSimpArgs false
namespace Go.Ab
open Go.RowKit

/-- The value is x, the heap as it was (what is new is forgotten). -/
def Same (H : Hp) (k : Nat) (x : Value) (v : Value) (H' : Hp) (k' : Nat) : Prop := v = x ∧ H' = H ∧ k ≤ k'

/-- A body's end: its results, a heap that is kept of what there is then. -/
def RetQ (P : Program) (fn : Func) (H : Hp) (k : Nat) (R : Value → Hp → Nat → Prop) : Exit → St → Prop
  | .normal, s' => k ≤ s'.k → ∃ xs H'', aresults P fn.results.toList s'.fr s'.H = some xs ∧ Sub H'' s'.H ∧ (∀ n b, H n = some b → ∃ b', H'' n = some b') ∧ R (packA xs) H'' s'.k
  | .ret, s' => k ≤ s'.k → ∃ xs H'', aresults P fn.results.toList s'.fr s'.H = some xs ∧ Sub H'' s'.H ∧ (∀ n b, H n = some b → ∃ b', H'' n = some b') ∧ R (packA xs) H'' s'.k
  | _, _ => False

section
variable {P : Program} {NG : Nat}

theorem Keep.less {H H' H'' : Hp} {k k' : Nat} {G G' : GMap} {w w' : World} (h : Keep H k G w H' k' G' w') (hs : Sub H'' H') (hk : ∀ n b, H n = some b → ∃ b', H'' n = some b') : Keep H k G w H'' k' G' w' where
  le := h.le
  names := h.names
  size := h.size
  others := h.others
  same := h.same
  dom := fun n hn h0 => by
    cases hh : H'' n with
    | none => rfl
    | some b =>
      have := hs n b hh
      rw [h.dom n hn h0] at this
      cases this
  newer := h.newer
  stay := fun n b hn => by
    obtain ⟨b', h1⟩ := hk n b hn
    obtain ⟨b'', h2, h3⟩ := h.stay n b hn
    rw [hs n b' h1] at h2
    injection h2 with h2
    subst h2
    exact ⟨b', h1, h3⟩

theorem ACalls.body {f : FuncId} {fn : Func} {c : Code} {vs : List Value} {H : Hp} {k : Nat} {R : Value → Hp → Nat → Prop} (hf : P.funcs[f]? = some fn) (hb : fn.body = some c) (hn : vs.length ≤ fn.ntmps)
    (h : ACode P NG fn.ntmps c (RetQ P fn H k R) ⟨frOf vs, H, k⟩) : ACalls P NG f vs H k R := by
  intro B w0 G vs' w hS hv
  refine calls_of_wp hf hb ?_
  have hF : FRel G fn.ntmps (frOf vs) (vs' ++ Array.replicate (fn.ntmps - vs'.size) undef) := by
    refine ⟨by have := hv.1; simp; omega, fun t v ht => ?_⟩
    obtain ⟨v', h1, h2⟩ := hv.2 t v ht
    have hlt : t < vs'.size := (Array.getElem?_eq_some_iff.1 h1).1
    have e : (vs' ++ Array.replicate (fn.ntmps - vs'.size) undef).getD t undef = v' := by
      rw [Array.getD_eq_getD_getElem?, Array.getElem?_append_left hlt, h1]
      rfl
    rw [e]
    exact h2
  refine wp_mono (h B w0 G _ w ⟨hS, hF⟩ rfl) ?_
  rintro e a' w' ⟨s', G', hq, hs', hk, hd⟩
  have fin : (k ≤ s'.k → ∃ xs H'', aresults P fn.results.toList s'.fr s'.H = some xs ∧ Sub H'' s'.H ∧ (∀ n b, H n = some b → ∃ b', H'' n = some b') ∧ R (packA xs) H'' s'.k) →
      a'.defers = [] ∧ ∃ v, (results fn a'.tmps).run P w' = .ok v w' ∧ ∃ u v' H' k' G', Ending.returned v = .returned v' ∧ R u H' k' ∧ VRel G' u v' ∧ SRel NG B w0 G' H' k' w' ∧ Keep H k G w H' k' G' w' := by
    intro h0
    obtain ⟨xs, H'', hx, hsub, hst, hR⟩ := h0 hk.names
    obtain ⟨x', hr, hvx⟩ := results_rel (fn := fn) hs'.S hs'.F hx
    exact ⟨hd, x', hr, packA xs, x', H'', s'.k, G', rfl, hR, hvx, hs'.S.less hsub, hk.less hsub hst⟩
  cases e with
  | normal => exact fin hq
  | ret => exact fin hq
  | _ => exact hq.elim

/-- One result, in a slot. -/
theorem RetQ.one {fn : Func} {H H'' : Hp} {k t : Nat} {R : Value → Hp → Nat → Prop} {fr : Fr} {H' : Hp} {k' : Nat} {v : Value} (hr : fn.results = #[.tmp t]) (hv : fr t = some v) (hs : Sub H'' H') (hst : ∀ n b, H n = some b → ∃ b', H'' n = some b') (hR : k ≤ k' → R v H'' k') :
    RetQ P fn H k R .ret ⟨fr, H', k'⟩ := by
  intro hk
  refine ⟨[v], H'', ?_, hs, hst, hR hk⟩
  rw [hr]
  simp [aresults, aresult, hv]

/-- Two results, in slots. -/
theorem RetQ.two {fn : Func} {H H'' : Hp} {k t t' : Nat} {R : Value → Hp → Nat → Prop} {fr : Fr} {H' : Hp} {k' : Nat} {v v' : Value} (hr : fn.results = #[.tmp t, .tmp t']) (hv : fr t = some v) (hv' : fr t' = some v') (hs : Sub H'' H') (hst : ∀ n b, H n = some b → ∃ b', H'' n = some b') (hR : k ≤ k' → R (.tuple #[v, v']) H'' k') :
    RetQ P fn H k R .ret ⟨fr, H', k'⟩ := by
  intro hk
  refine ⟨[v, v'], H'', ?_, hs, hst, hR hk⟩
  rw [hr]
  simp [aresults, aresult, hv, hv']

/-- No result. -/
theorem RetQ.none_ {fn : Func} {H H'' : Hp} {k : Nat} {R : Value → Hp → Nat → Prop} {fr : Fr} {H' : Hp} {k' : Nat} (hr : fn.results = #[]) (hs : Sub H'' H') (hst : ∀ n b, H n = some b → ∃ b', H'' n = some b') (hR : k ≤ k' → R (.tuple #[]) H'' k') :
    RetQ P fn H k R .normal ⟨fr, H', k'⟩ := by
  intro hk
  refine ⟨[], H'', ?_, hs, hst, hR hk⟩
  rw [hr]
  simp [aresults]

theorem stays {H : Hp} : ∀ n b, H n = some b → ∃ b', H n = some b' := fun n b h => ⟨b, h⟩

theorem sub_upd {H : Hp} {k : Nat} {b : Option Blk} (h : H k = none) : Sub H (upd H k b) := fun n c hn => by
  rw [upd_other]
  · exact hn
  · rintro rfl; rw [h] at hn; cases hn
end
end Go.Ab
