/- Abstract states over the model, part 9: a contract used in a greater heap; a region whose order is open. No condition; over any program. -/
import Derived.Test.YtlbcgadmcjobiaaDoorAb8
import Derived.Orders
set_option linter.unusedVariables false
set_option linter.unusedSimpArgs false
namespace Go.Ab
open Go.RowKit

def Sub (H H' : Hp) : Prop := ∀ n b, H n = some b → H' n = some b
theorem Sub.refl (H : Hp) : Sub H H := fun _ _ h => h
theorem Sub.trans {a b c : Hp} (h : Sub a b) (k : Sub b c) : Sub a c := fun n x hx => k n x (h n x hx)

/-- H2 where H said nothing, else H'. -/
def over (k : Nat) (H H2 H' : Hp) : Hp := fun n => if n < k ∧ H n = none then H2 n else H' n

section
variable {P : Program} {NG B : Nat} {w0 w : World} {G : GMap} {H H2 : Hp} {k : Nat}

theorem SRel.less (h : SRel NG B w0 G H2 k w) (hs : Sub H H2) : SRel NG B w0 G H k w :=
  ⟨h.below, h.base, h.glob, h.le, fun n b hn => h.blk n b (hs n b hn), fun n m b c hn hm => h.sep n m b c (hs n b hn) (hs m c hm), fun n hn => by
    refine ⟨?_, (h.fresh n hn).2⟩
    cases hh : H n with
    | none => rfl
    | some b =>
      have := hs n b hh
      rw [(h.fresh n hn).1] at this
      cases this⟩

theorem SRel.over {G' : GMap} {H' : Hp} {k' : Nat} {w' : World} (h : SRel NG B w0 G H2 k w) (hs : Sub H H2) (h' : SRel NG B w0 G' H' k' w') (hk : Keep H k G w H' k' G' w') :
    SRel NG B w0 G' (over k H H2 H') k' w' ∧ Keep H2 k G w (over k H H2 H') k' G' w' := by
  have hwb : ∀ x, x < B → w'.heap[x]? = w.heap[x]? := fun x hx => (h'.below.block x hx).trans (h.below.block x hx).symm
  have hrest : ∀ n b, n < k → H n = none → H2 n = some b → G' n = G n ∧ ∀ x, x ∈ (G n).blocks → w'.heap[x]? = w.heap[x]? := by
    intro n b hn h0 hb
    refine ⟨hk.same n hn h0, fun x hx => ?_⟩
    by_cases ho : b.own = true
    · refine hk.others x ((h.blk n b hb).own_lt ho hx).2 fun m c hm hc hx' => ?_
      have hne : n ≠ m := by rintro rfl; rw [h0] at hm; cases hm
      exact h.sep n m b c hb (hs m c hm) ho hc hne x hx hx'
    · exact hwb x ((h.blk n b hb).ro_lt (by simpa using ho) hx)
  have cross : ∀ n m b c, n < k → H n = none → H2 n = some b → ¬ (m < k ∧ H m = none) → H' m = some c → b.own = true → c.own = true → ∀ x, x ∈ (G n).blocks → x ∉ (G' m).blocks := by
    intro n m b c hn h0 hb hm hc ho ho' x hx hx'
    have hlt := ((h.blk n b hb).own_lt ho hx).2
    have hx2 := hk.newer m x hx' hlt
    rcases Nat.lt_or_ge m k with hmk | hmk
    · cases hmH : H m with
      | none => exact hm ⟨hmk, hmH⟩
      | some d =>
        obtain ⟨d', e1, e2⟩ := hk.stay m d hmH
        rw [hc] at e1
        injection e1 with e1
        subst e1
        have hne : n ≠ m := by rintro rfl; rw [h0] at hmH; cases hmH
        refine h.sep n m b d hb (hs m d hmH) ho ?_ hne x hx hx2
        simpa [Blk.own, ← e2] using ho'
    · rw [(h.fresh m hmk).2] at hx2
      simp [GB.blocks] at hx2
  refine ⟨⟨h'.below, h'.base, h'.glob, h'.le, fun n b hn => ?_, fun n m b c hn hm ho ho' hne x hx hx' => ?_, fun n hn => ?_⟩, hk.le, hk.names, hk.size, fun x hx ho => ?_, fun n hn h0 => ?_, fun n hn h0 => ?_, hk.newer, fun n b hn => ?_⟩
  · unfold Go.Ab.over at hn
    split at hn
    · rename_i hc
      obtain ⟨e1, e2⟩ := hrest n b hc.1 hc.2 hn
      rw [e1]
      exact (h.blk n b hn).keep hk.le e2
    · exact h'.blk n b hn
  · unfold Go.Ab.over at hn hm
    split at hn
    · rename_i hc
      split at hm
      · rename_i hc'
        rw [(hrest n b hc.1 hc.2 hn).1] at hx
        rw [(hrest m c hc'.1 hc'.2 hm).1] at hx'
        exact h.sep n m b c hn hm ho ho' hne x hx hx'
      · rename_i hc'
        rw [(hrest n b hc.1 hc.2 hn).1] at hx
        exact cross n m b c hc.1 hc.2 hn hc' hm ho ho' x hx hx'
    · rename_i hc
      split at hm
      · rename_i hc'
        rw [(hrest m c hc'.1 hc'.2 hm).1] at hx'
        exact cross m n c b hc'.1 hc'.2 hm hc hn ho' ho x hx' hx
      · exact h'.sep n m b c hn hm ho ho' hne x hx hx'
  · have hkk := hk.names
    have : ¬ (n < k ∧ H n = none) := by omega
    unfold Go.Ab.over
    rw [if_neg this]
    exact h'.fresh n hn
  · exact hk.others x hx fun n b hn hown => ho n b (hs n b hn) hown
  · refine hk.same n hn ?_
    cases hh : H n with
    | none => rfl
    | some b => have := hs n b hh; rw [h0] at this; cases this
  · have hh : H n = none := by
      cases hh : H n with
      | none => rfl
      | some b => have := hs n b hh; rw [h0] at this; cases this
    unfold Go.Ab.over
    rw [if_pos ⟨hn, hh⟩]
    exact h0
  · unfold Go.Ab.over
    cases hh : H n with
    | none => exact ⟨b, by rw [if_pos ⟨name_lt h hn, rfl⟩]; exact hn, rfl⟩
    | some d =>
      have := hs n d hh
      rw [hn] at this
      injection this with this
      subst this
      rw [if_neg (by simp)]
      exact hk.stay n b hh

theorem ACalls.frame {f : FuncId} {vs : List Value} {R : Value → Hp → Nat → Prop} (h : ACalls P NG f vs H k R) (hs : Sub H H2) :
    ACalls P NG f vs H2 k (fun v H2' k' => ∃ H', R v H' k' ∧ H2' = over k H H2 H') := by
  intro B w0 G vs' w hS hv
  refine (h B w0 G vs' w (hS.less hs) hv).mono ?_
  rintro e w' ⟨v, v', H', k', G', rfl, hR, hvv, hS', hK⟩
  obtain ⟨h1, h2⟩ := hS.over hs hS' hK
  exact ⟨v, v', _, k', G', rfl, ⟨H', hR, rfl⟩, hvv, h1, h2⟩
end

/-! ### A region whose order is open -/
section
variable {P : Program} {NG N B : Nat} {w0 : World} {s : St} {Q : Exit → St → Prop} {ops : Array Oper}

def stepA (P : Program) (NG : Nat) (ops : Array Oper) (o : Oper) (s : St) (K : Value → Hp → Nat → Prop) : Prop :=
  match wantedA ops s.fr o with
  | some true => AOp P NG o s K
  | some false => K undef s.H s.k
  | none => False

theorem ACode.region_draw {id : Nat} (hm : P.follows .mixedOrders = true) (hd : dstsOk N ops = true) (I : (Nat → Bool) → Fr → Hp → Nat → Prop) (h0 : I (fun _ => false) s.fr s.H s.k)
    (hstep : ∀ (i : Nat) (o : Oper) (X : Nat → Bool) (fr : Fr) (H : Hp) (k : Nat), ops[i]? = some o → X i = false → (∀ e ∈ o.after, Region.binds .any e = true → X e.on = true) → I X fr H k →
      stepA P NG ops o ⟨fr, H, k⟩ fun v H' k' => I (upd X i true) (putA fr o.dst v) H' k')
    (hend : ∀ (X : Nat → Bool) (fr : Fr) (H : Hp) (k : Nat), (∀ i o, ops[i]? = some o → X i = false → ∃ e ∈ o.after, Region.binds .any e = true ∧ X e.on = false) → I X fr H k → Q .normal ⟨fr, H, k⟩) : ACode P NG N (.region id ops true) Q s := by
  intro B w0 G a w hs hdf
  refine wp_region_any hm ?_
  have key : ∀ (fuel : Nat) (listed : Array Bool) (X : Nat → Bool) (s1 : St) (G1 : GMap) (a1 : Act) (w1 : World), listed.size = ops.size → (∀ i, i < ops.size → listed[i]? = some (X i)) → (∀ i, ops.size ≤ i → X i = false) → (List.range ops.size).countP (fun i => !X i) ≤ fuel →
      I X s1.fr s1.H s1.k → StRel NG N B w0 G1 s1 a1 w1 → a1.defers = [] → Keep s.H s.k G w s1.H s1.k G1 w1 → wpAny P .any ops (Post NG N B w0 G s w Q) fuel listed a1 w1 := by
    intro fuel
    induction fuel with
    | zero =>
      intro listed X s1 G1 a1 w1 hsz hX hX0 hc hI hs1 hd1 hk
      have hall : ∀ i, i < ops.size → X i = true := by
        intro i hi
        have hz : (List.range ops.size).countP (fun i => !X i) = 0 := by omega
        rw [List.countP_eq_zero] at hz
        have := hz i (List.mem_range.2 hi)
        simpa using this
      refine ⟨?_, s1, G1, hend X s1.fr s1.H s1.k (fun i o ho hx => ?_) hI, hs1, hk, hd1⟩
      · rw [List.eq_nil_iff_forall_not_mem]
        intro i hi
        rw [mem_ready] at hi
        obtain ⟨h1, o, ho, _⟩ := hi
        have hlt := (Array.getElem?_eq_some_iff.1 ho).1
        simp [Array.getD_eq_getD_getElem?, hX i hlt, hall i hlt] at h1
      · have hlt := (Array.getElem?_eq_some_iff.1 ho).1
        rw [hall i hlt] at hx
        cases hx
    | succ fuel ih =>
      intro listed X s1 G1 a1 w1 hsz hX hX0 hc hI hs1 hd1 hk
      refine ⟨fun hr => ⟨s1, G1, hend X s1.fr s1.H s1.k (fun i o ho hx => ?_) hI, hs1, hk, hd1⟩, fun i hi => ?_⟩
      · -- nothing is ready
        apply Classical.byContradiction
        intro hno
        have hlt := (Array.getElem?_eq_some_iff.1 ho).1
        have : i ∈ Region.ready .any ops listed := by
          rw [mem_ready]
          refine ⟨by simp [Array.getD_eq_getD_getElem?, hX i hlt, hx], o, ho, fun e he hb => ?_⟩
          apply Classical.byContradiction
          intro hne
          refine hno ⟨e, he, hb, ?_⟩
          rcases Nat.lt_or_ge e.on ops.size with hl | hl
          · have h2 := hX e.on hl
            simp only [Array.getD_eq_getD_getElem?, h2, Option.getD_some] at hne
            simpa using hne
          · exact hX0 _ hl
        rw [hr] at this
        cases this
      · rw [mem_ready] at hi
        obtain ⟨h1, o, ho, hedges⟩ := hi
        have hlt := (Array.getElem?_eq_some_iff.1 ho).1
        have hxi : X i = false := by simpa [Array.getD_eq_getD_getElem?, hX i hlt] using h1
        have hst := hstep i o X s1.fr s1.H s1.k ho hxi (fun e he hb => by
          have h2 := hedges e he hb
          rcases Nat.lt_or_ge e.on ops.size with hl | hl
          · simpa [Array.getD_eq_getD_getElem?, hX e.on hl] using h2
          · simp [Array.getD_eq_getD_getElem?, Array.getElem?_eq_none (show listed.size ≤ e.on by omega)] at h2) hI
        have hX' : ∀ j, j < ops.size → (listed.setIfInBounds i true)[j]? = some (upd X i true j) := by
          intro j hj
          by_cases hji : j = i
          · subst hji
            rw [upd_same, Array.getElem?_setIfInBounds_self, if_pos (by omega)]
          · rw [upd_other _ _ hji, Array.getElem?_setIfInBounds_ne (Ne.symm hji)]
            exact hX j hj
        have hc' : (List.range ops.size).countP (fun j => !(upd X i true j)) ≤ fuel := by
          have : (List.range ops.size).countP (fun j => !(upd X i true j)) < (List.range ops.size).countP (fun j => !X j) := by
            have hmem : i ∈ List.range ops.size := List.mem_range.2 hlt
            have gen : ∀ l : List Nat, i ∈ l → l.countP (fun j => !(upd X i true j)) < l.countP (fun j => !X j) := by
              intro l
              have le : ∀ l : List Nat, l.countP (fun j => !(upd X i true j)) ≤ l.countP (fun j => !X j) := by
                intro l
                apply List.countP_mono_left
                intro j _ hj
                by_cases hji : j = i
                · subst hji; simp at hj
                · rw [upd_other _ _ hji] at hj; exact hj
              induction l with
              | nil => intro h; cases h
              | cons q l ihl =>
                intro hq
                by_cases hqi : q = i
                · subst hqi
                  have := le l
                  simp only [List.countP_cons, upd_same, hxi]
                  simp
                  omega
                · have hl : i ∈ l := by
                    rcases List.mem_cons.1 hq with h | h
                    · exact absurd h.symm hqi
                    · exact h
                  have := ihl hl
                  simp only [List.countP_cons, upd_other _ _ hqi]
                  omega
            exact gen _ hmem
          omega
        have hX0' : ∀ j, ops.size ≤ j → upd X i true j = false := fun j hj => by rw [upd_other _ _ (by omega)]; exact hX0 j hj
        have hdo : ∀ t, o.dst = some t → t < N := by
          intro t ht
          have := (Array.all_eq_true_iff_forall_mem.1 hd) o (Array.mem_of_getElem? ho)
          rw [ht] at this
          simpa using this
        unfold wpOp
        simp only [ho]
        unfold stepA at hst
        cases hw : wantedA ops s1.fr o with
        | none => simp [hw] at hst
        | some b =>
          rw [wanted_rel hs1.F hw]
          cases b with
          | true =>
            simp only [hw] at hst
            simp only [if_true]
            refine .inl (hst N B w0 G1 a1 w1 hs1 _ _ fun v v' H' k' G' w' hR hv hS hK => ?_)
            exact ih _ (upd X i true) ⟨putA s1.fr o.dst v, H', k'⟩ G' _ w' (by simpa using hsz) hX' hX0' hc' hR ⟨hS, put_rel (hs1.F.mono hK.le) hdo hv⟩ (by rw [put_defers]; exact hd1) (hk.trans (fun n hn => (hs.S.fresh n hn).2) hK)
          | false =>
            simp only [hw] at hst
            simp only [Bool.false_eq_true, if_false]
            exact ih _ (upd X i true) ⟨putA s1.fr o.dst undef, s1.H, s1.k⟩ G1 _ w1 (by simpa using hsz) hX' hX0' hc' hst ⟨hs1.S, put_rel hs1.F hdo undef_rel⟩ (by rw [put_defers]; exact hd1) hk
  refine key ops.size (Array.replicate ops.size false) (fun _ => false) s G a { w with drawn := w.drawn + 1 } (by simp) (fun i hi => by simp [hi]) (fun _ _ => rfl) (by
    have := List.countP_le_length (p := fun i : Nat => !((fun _ : Nat => false) i)) (l := List.range ops.size)
    simp) h0 ⟨hs.S.drew, hs.F⟩ hdf ⟨GLe.refl _, Nat.le_refl _, Nat.le_refl _, fun _ _ _ => rfl, fun _ _ _ => rfl, fun _ _ h => h, fun _ _ h _ => h, fun _ b h => ⟨b, h, rfl⟩⟩
end
end Go.Ab
