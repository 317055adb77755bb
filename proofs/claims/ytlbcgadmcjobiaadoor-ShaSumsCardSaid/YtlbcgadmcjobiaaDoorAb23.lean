/- Abstract states over the model, part 23: drawn regions whose operations change the heap: new blocks get names of their operations. No condition; over any program. -/
import Derived.Test.YtlbcgadmcjobiaaDoorAb22
set_option linter.unusedVariables false
set_option linter.unusedSimpArgs false
namespace Go.Ab
open Go.RowKit

section
variable {NG B : Nat} {w0 w : World} {G : GMap} {H : Hp} {k : Nat}

theorem SRel.raise {k2 : Nat} (h : SRel NG B w0 G H k w) (hk : k ≤ k2) : SRel NG B w0 G H k2 w :=
  ⟨h.below, h.base, h.glob, Nat.le_trans h.le hk, h.blk, h.sep, fun n hn => h.fresh n (Nat.le_trans hk hn)⟩
theorem SRel.free_none {n : Nat} (h : SRel NG B w0 G H k w) (hg : G n = .free) : H n = none := by
  cases hn : H n with
  | none => rfl
  | some b =>
    have hb := h.blk n b hn
    unfold BRel at hb
    rw [hg] at hb
    split at hb
    · obtain ⟨_, e, _⟩ := hb; cases e
    · obtain ⟨_, _, e, _⟩ := hb; cases e
    · obtain ⟨_, _, e, _⟩ := hb; cases e

/-- A block under another name. -/
theorem SRel.rename {n r : Nat} {b : Blk} (h : SRel NG B w0 G H k w) (hn : H n = some b) (hr : H r = none) (hg : G r = .free) (h1 : NG ≤ r) (h2 : r < k) :
    SRel NG B w0 (upd G r (G n)) (upd (upd H n none) r (some b)) k w := by
  have hnr : n ≠ r := fun e => by subst e; rw [hn] at hr; cases hr
  have hG : GLe G (upd G r (G n)) := fun q => by
    by_cases hq : q = r
    · subst hq; rw [hg]; trivial
    · rw [upd_other _ _ hq]; exact GB.le_refl _
  have at_ : ∀ q c, (upd (upd H n none) r (some b)) q = some c → (q = r ∧ c = b) ∨ (q ≠ r ∧ q ≠ n ∧ H q = some c) := by
    intro q c hq
    by_cases e : q = r
    · subst e; rw [upd_same] at hq; injection hq with hq; exact .inl ⟨rfl, hq.symm⟩
    · rw [upd_other _ _ e] at hq
      by_cases e' : q = n
      · subst e'; rw [upd_same] at hq; cases hq
      · rw [upd_other _ _ e'] at hq; exact .inr ⟨e, e', hq⟩
  refine ⟨h.below, h.base, fun g hg' => by rw [upd_other _ _ (by omega)]; exact h.glob g hg', h.le, ?_, ?_, ?_⟩
  · intro q c hq
    rcases at_ q c hq with ⟨rfl, rfl⟩ | ⟨e1, e2, e3⟩
    · rw [upd_same]
      exact (h.blk n c hn).keep hG (fun _ _ => rfl)
    · rw [upd_other _ _ e1]
      exact (h.blk q c e3).keep hG (fun _ _ => rfl)
  · intro q q' c c' hq hq' ho ho' hne x hx hx'
    rcases at_ q c hq with ⟨rfl, rfl⟩ | ⟨e1, e2, e3⟩
    · rcases at_ q' c' hq' with ⟨rfl, rfl⟩ | ⟨f1, f2, f3⟩
      · exact hne rfl
      · rw [upd_same] at hx
        rw [upd_other _ _ f1] at hx'
        exact h.sep n q' c c' hn f3 ho ho' (Ne.symm f2) x hx hx'
    · rcases at_ q' c' hq' with ⟨rfl, rfl⟩ | ⟨f1, f2, f3⟩
      · rw [upd_other _ _ e1] at hx
        rw [upd_same] at hx'
        exact h.sep q n c c' e3 hn ho ho' e2 x hx hx'
      · rw [upd_other _ _ e1] at hx
        rw [upd_other _ _ f1] at hx'
        exact h.sep q q' c c' e3 f3 ho ho' hne x hx hx'
  · intro q hq
    have hn' := name_lt h hn
    rw [upd_other _ _ (by omega), upd_other _ _ (by omega), upd_other _ _ (by omega)]
    exact h.fresh q hq

theorem Keep.rename {n r k0 : Nat} {b : Blk} {H0 : Hp} {G0 : GMap} {ws : World} (h : Keep H0 k0 G0 ws H k G w) (hn : H n = some b) (hr : H r = none) (hg : G r = .free) (h1 : k0 ≤ n) (h2 : k0 ≤ r) (hf : ∀ q, k0 ≤ q → H0 q = none ∧ G0 q = .free) :
    Keep H0 k0 G0 ws (upd (upd H n none) r (some b)) k (upd G r (G n)) w := by
  have old : ∀ q c, H0 q = some c → q < k0 := fun q c hq => by
    rcases Nat.lt_or_ge q k0 with hl | hl
    · exact hl
    · rw [(hf q hl).1] at hq; cases hq
  refine ⟨fun q => ?_, h.names, h.size, h.others, fun q hq hq0 => ?_, fun q hq hq0 => ?_, fun q x hx hlt => ?_, fun q c hq => ?_⟩
  · by_cases hqr : q = r
    · subst hqr
      rw [(hf q h2).2]
      trivial
    · rw [upd_other _ _ hqr]; exact h.le q
  · rw [upd_other _ _ (by omega)]; exact h.same q hq hq0
  · rw [upd_other _ _ (by omega), upd_other _ _ (by omega)]; exact h.dom q hq hq0
  · by_cases hqr : q = r
    · subst hqr
      rw [upd_same] at hx
      have := h.newer n x hx hlt
      rw [(hf n h1).2] at this
      cases this
    · rw [upd_other _ _ hqr] at hx; exact h.newer q x hx hlt
  · have := old q c hq
    rw [upd_other _ _ (by omega), upd_other _ _ (by omega)]
    exact h.stay q c hq
end

section
variable {P : Program} {NG N B : Nat} {w0 : World} {s : St} {Q : Exit → St → Prop} {ops : Array Oper}

/-- A region whose order is open; the invariant sees where the names lie; behind each operation the abstract state may be given another form that fits the world. -/
theorem ACode.region_drawG {id : Nat} (hm : P.follows .mixedOrders = true) (hd : dstsOk N ops = true) (kk : Nat) (hkk : s.k ≤ kk) (I : (Nat → Bool) → Fr → Hp → Nat → GMap → Prop)
    (h0 : ∀ G : GMap, (∀ n, s.k ≤ n → G n = .free ∧ s.H n = none) → I (fun _ => false) s.fr s.H kk G)
    (hstep : ∀ (i : Nat) (o : Oper) (X : Nat → Bool) (fr : Fr) (H : Hp) (k : Nat) (G : GMap), ops[i]? = some o → X i = false → (∀ e ∈ o.after, Region.binds .any e = true → X e.on = true) → I X fr H k G →
      stepA P NG ops o ⟨fr, H, k⟩ fun v H' k' => ∀ (B : Nat) (w0 w w' ws : World) (G' Gs : GMap) (v' : Value), VRel G' v v' → SRel NG B w0 G' H' k' w' → SRel NG B w0 G H k w → NG ≤ s.k → Keep H k G w H' k' G' w' → Keep s.H s.k Gs ws H k G w → (∀ n, s.k ≤ n → s.H n = none ∧ Gs n = .free) →
        ∃ v2 H2 G2, VRel G2 v2 v' ∧ SRel NG B w0 G2 H2 k' w' ∧ Keep s.H s.k Gs ws H2 k' G2 w' ∧ GLe G G2 ∧ I (upd X i true) (putA fr o.dst v2) H2 k' G2)
    (hend : ∀ (X : Nat → Bool) (fr : Fr) (H : Hp) (k : Nat) (G : GMap), (∀ i o, ops[i]? = some o → X i = false → ∃ e ∈ o.after, Region.binds .any e = true ∧ X e.on = false) → I X fr H k G → Q .normal ⟨fr, H, k⟩) : ACode P NG N (.region id ops true) Q s := by
  intro B w0 G a w hs hdf
  refine wp_region_any hm ?_
  have key : ∀ (fuel : Nat) (listed : Array Bool) (X : Nat → Bool) (s1 : St) (G1 : GMap) (a1 : Act) (w1 : World), listed.size = ops.size → (∀ i, i < ops.size → listed[i]? = some (X i)) → (∀ i, ops.size ≤ i → X i = false) → (List.range ops.size).countP (fun i => !X i) ≤ fuel →
      I X s1.fr s1.H s1.k G1 → StRel NG N B w0 G1 s1 a1 w1 → a1.defers = [] → Keep s.H s.k G w s1.H s1.k G1 w1 → wpAny P .any ops (Post NG N B w0 G s w Q) fuel listed a1 w1 := by
    intro fuel
    induction fuel with
    | zero =>
      intro listed X s1 G1 a1 w1 hsz hX hX0 hc hI hs1 hd1 hk
      have hall : ∀ i, i < ops.size → X i = true := by
        intro i hi
        have hz : (List.range ops.size).countP (fun i => !X i) = 0 := by omega
        rw [List.countP_eq_zero] at hz
        have := hz i (List.mem_range.2 hi)
        simpa using this
      refine ⟨?_, s1, G1, hend X s1.fr s1.H s1.k G1 (fun i o ho hx => ?_) hI, hs1, hk, hd1⟩
      · rw [List.eq_nil_iff_forall_not_mem]
        intro i hi
        rw [mem_ready] at hi
        obtain ⟨h1, o, ho, _⟩ := hi
        have hlt := (Array.getElem?_eq_some_iff.1 ho).1
        simp [Array.getD_eq_getD_getElem?, hX i hlt, hall i hlt] at h1
      · have hlt := (Array.getElem?_eq_some_iff.1 ho).1
        rw [hall i hlt] at hx
        cases hx
    | succ fuel ih =>
      intro listed X s1 G1 a1 w1 hsz hX hX0 hc hI hs1 hd1 hk
      refine ⟨fun hr => ⟨s1, G1, hend X s1.fr s1.H s1.k G1 (fun i o ho hx => ?_) hI, hs1, hk, hd1⟩, fun i hi => ?_⟩
      · -- nothing is ready
        apply Classical.byContradiction
        intro hno
        have hlt := (Array.getElem?_eq_some_iff.1 ho).1
        have : i ∈ Region.ready .any ops listed := by
          rw [mem_ready]
          refine ⟨by simp [Array.getD_eq_getD_getElem?, hX i hlt, hx], o, ho, fun e he hb => ?_⟩
          apply Classical.byContradiction
          intro hne
          refine hno ⟨e, he, hb, ?_⟩
          rcases Nat.lt_or_ge e.on ops.size with hl | hl
          · have h2 := hX e.on hl
            simp only [Array.getD_eq_getD_getElem?, h2, Option.getD_some] at hne
            simpa using hne
          · exact hX0 _ hl
        rw [hr] at this
        cases this
      · rw [mem_ready] at hi
        obtain ⟨h1, o, ho, hedges⟩ := hi
        have hlt := (Array.getElem?_eq_some_iff.1 ho).1
        have hxi : X i = false := by simpa [Array.getD_eq_getD_getElem?, hX i hlt] using h1
        have hst := hstep i o X s1.fr s1.H s1.k G1 ho hxi (fun e he hb => by
          have h2 := hedges e he hb
          rcases Nat.lt_or_ge e.on ops.size with hl | hl
          · simpa [Array.getD_eq_getD_getElem?, hX e.on hl] using h2
          · simp [Array.getD_eq_getD_getElem?, Array.getElem?_eq_none (show listed.size ≤ e.on by omega)] at h2) hI
        have hX' : ∀ j, j < ops.size → (listed.setIfInBounds i true)[j]? = some (upd X i true j) := by
          intro j hj
          by_cases hji : j = i
          · subst hji
            rw [upd_same, Array.getElem?_setIfInBounds_self, if_pos (by omega)]
          · rw [upd_other _ _ hji, Array.getElem?_setIfInBounds_ne (Ne.symm hji)]
            exact hX j hj
        have hc' : (List.range ops.size).countP (fun j => !(upd X i true j)) ≤ fuel := by
          have : (List.range ops.size).countP (fun j => !(upd X i true j)) < (List.range ops.size).countP (fun j => !X j) := by
            have hmem : i ∈ List.range ops.size := List.mem_range.2 hlt
            have gen : ∀ l : List Nat, i ∈ l → l.countP (fun j => !(upd X i true j)) < l.countP (fun j => !X j) := by
              intro l
              have le : ∀ l : List Nat, l.countP (fun j => !(upd X i true j)) ≤ l.countP (fun j => !X j) := by
                intro l
                apply List.countP_mono_left
                intro j _ hj
                by_cases hji : j = i
                · subst hji; simp at hj
                · rw [upd_other _ _ hji] at hj; exact hj
              induction l with
              | nil => intro h; cases h
              | cons q l ihl =>
                intro hq
                by_cases hqi : q = i
                · subst hqi
                  have := le l
                  simp only [List.countP_cons, upd_same, hxi]
                  simp
                  omega
                · have hl : i ∈ l := by
                    rcases List.mem_cons.1 hq with h | h
                    · exact absurd h.symm hqi
                    · exact h
                  have := ihl hl
                  simp only [List.countP_cons, upd_other _ _ hqi]
                  omega
            exact gen _ hmem
          omega
        have hX0' : ∀ j, ops.size ≤ j → upd X i true j = false := fun j hj => by rw [upd_other _ _ (by omega)]; exact hX0 j hj
        have hdo : ∀ t, o.dst = some t → t < N := by
          intro t ht
          have := (Array.all_eq_true_iff_forall_mem.1 hd) o (Array.mem_of_getElem? ho)
          rw [ht] at this
          simpa using this
        unfold wpOp
        simp only [ho]
        unfold stepA at hst
        cases hw : wantedA ops s1.fr o with
        | none => simp [hw] at hst
        | some b =>
          rw [wanted_rel hs1.F hw]
          cases b with
          | true =>
            simp only [hw] at hst
            simp only [if_true]
            refine .inl (hst N B w0 G1 a1 w1 hs1 _ _ fun v v' H' k' G' w' hR hv hS hK => ?_)
            obtain ⟨v2, H2, G2, e1, e2, e3, e4, e5⟩ := hR B w0 w1 w' _ G' G v' hv hS hs1.S hs.S.le hK hk (fun n hn => hs.S.fresh n hn)
            exact ih _ (upd X i true) ⟨putA s1.fr o.dst v2, H2, k'⟩ G2 _ w' (by simpa using hsz) hX' hX0' hc' e5 ⟨e2, put_rel (hs1.F.mono e4) hdo e1⟩ (by rw [put_defers]; exact hd1) e3
          | false =>
            simp only [hw] at hst
            simp only [Bool.false_eq_true, if_false]
            obtain ⟨v2, H2, G2, e1, e2, e3, e4, e5⟩ := hst B w0 w1 w1 _ G1 G undef undef_rel hs1.S hs1.S hs.S.le (Keep.refl _ _ _ _) hk (fun n hn => hs.S.fresh n hn)
            exact ih _ (upd X i true) ⟨putA s1.fr o.dst v2, H2, s1.k⟩ G2 _ w1 (by simpa using hsz) hX' hX0' hc' e5 ⟨e2, put_rel (hs1.F.mono e4) hdo e1⟩ (by rw [put_defers]; exact hd1) e3
  refine key ops.size (Array.replicate ops.size false) (fun _ => false) ⟨s.fr, s.H, kk⟩ G a { w with drawn := w.drawn + 1 } (by simp) (fun i hi => by simp [hi]) (fun _ _ => rfl) (by
    have := List.countP_le_length (p := fun i : Nat => !((fun _ : Nat => false) i)) (l := List.range ops.size)
    simp) (h0 G fun n hn => ⟨(hs.S.fresh n hn).2, (hs.S.fresh n hn).1⟩) ⟨hs.S.drew.raise hkk, hs.F⟩ hdf ⟨GLe.refl _, hkk, Nat.le_refl _, fun _ _ _ => rfl, fun _ _ _ => rfl, fun _ _ h => h, fun _ _ h _ => h, fun _ b h => ⟨b, h, rfl⟩⟩
end
end Go.Ab
