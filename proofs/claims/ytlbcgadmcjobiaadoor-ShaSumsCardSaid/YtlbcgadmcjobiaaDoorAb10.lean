/- Abstract states over the model, part 10: a region whose order is open, its quiet operations first, the others in the text's order. No condition; over any program. -/
import Derived.Test.YtlbcgadmcjobiaaDoorAb9
set_option linter.unusedVariables false
set_option linter.unusedSimpArgs false
namespace Go.Ab
open Go.RowKit

def edgeOn (ops : Array Oper) (i j : Nat) : Bool :=
  match ops[i]? with
  | some o => o.after.any fun e => Region.binds .any e && e.on == j
  | none => false

def isAnc (ops : Array Oper) : Nat → Nat → Nat → Bool
  | 0, i, j => edgeOn ops i j
  | n + 1, i, j => edgeOn ops i j || match ops[i]? with
    | some o => o.after.any fun e => Region.binds .any e && isAnc ops n e.on j
    | none => false

/-- Bit masks of what operations wait for, directly or not. -/
def ancMask (ops : Array Oper) : Nat → List Nat
  | 0 => []
  | n + 1 =>
    let l := ancMask ops n
    l ++ [match ops[n]? with
      | some o => o.after.toList.foldl (fun a e => if Region.binds .any e then a ||| (1 <<< e.on) ||| l.getD e.on 0 else a) 0
      | none => 0]
def anc (ms : List Nat) (i j : Nat) : Bool := (ms.getD i 0).testBit j

/-- From operation m on each waits for all that stand ahead of it. -/
def tailOk (ops : Array Oper) (m : Nat) : Bool :=
  let ms := ancMask ops ops.size
  (List.range ops.size).all fun i => decide (i < m) || (List.range i).all fun j => anc ms i j

/-- Each waits for operations ahead of it alone. -/
def backOk (ops : Array Oper) : Bool := (List.range ops.size).all fun i => match ops[i]? with
  | some o => o.after.all fun e => !Region.binds .any e || decide (e.on < i)
  | none => true

def dstList (ops : Array Oper) (m : Nat) : List (Nat × Nat) := (List.range m).filterMap fun i => ((ops[i]?).bind (·.dst)).map fun t => (i, t)

def puts (fr : Fr) : List (Nat × Value) → Fr
  | [] => fr
  | (t, v) :: l => puts (upd fr t (some v)) l

theorem puts_other {t : Nat} : ∀ (l : List (Nat × Value)) (fr : Fr), (∀ p ∈ l, p.1 ≠ t) → puts fr l t = fr t
  | [], fr, _ => rfl
  | (u, v) :: l, fr, h => by
    rw [puts, puts_other l _ (fun p hp => h p (List.mem_cons_of_mem _ hp))]
    exact upd_other _ _ (fun e => h (u, v) List.mem_cons_self e.symm)

theorem puts_at {t : Nat} {v : Value} : ∀ (l : List (Nat × Value)) (fr : Fr), (l.map (·.1)).Nodup → (t, v) ∈ l → puts fr l t = some v
  | (u, x) :: l, fr, hn, h => by
    simp only [List.map_cons, List.nodup_cons] at hn
    rw [puts]
    rcases List.mem_cons.1 h with e | h
    · injection e with e1 e2
      subst e1
      subst e2
      rw [puts_other l _ (fun p hp e => hn.1 (by rw [← e]; exact List.mem_map.2 ⟨p, hp, rfl⟩)), upd_same]
    · exact puts_at l _ hn.2 h

theorem mem_dstList {ops : Array Oper} {m i t : Nat} : (i, t) ∈ dstList ops m ↔ i < m ∧ ∃ o, ops[i]? = some o ∧ o.dst = some t := by
  unfold dstList
  rw [List.mem_filterMap]
  constructor
  · rintro ⟨j, hj, h⟩
    rw [List.mem_range] at hj
    cases ho : ops[j]? with
    | none => simp [ho] at h
    | some o =>
      cases hd : o.dst with
      | none => simp [ho, hd] at h
      | some u =>
        simp [ho, hd] at h
        obtain ⟨rfl, rfl⟩ := h
        exact ⟨hj, o, ho, hd⟩
  · rintro ⟨hi, o, ho, hd⟩
    exact ⟨i, List.mem_range.2 hi, by simp [ho, hd]⟩

theorem edge_mem {ops : Array Oper} {i j : Nat} : edgeOn ops i j = true ↔ ∃ o, ops[i]? = some o ∧ ∃ e ∈ o.after, Region.binds .any e = true ∧ e.on = j := by
  unfold edgeOn
  cases ho : ops[i]? with
  | none => simp
  | some o =>
    simp only [Array.any_eq_true', Bool.and_eq_true, beq_iff_eq, Option.some.injEq, exists_eq_left']

/-- What a set of operations that is closed under 'waits for' holds. -/
def Closed (ops : Array Oper) (X : Nat → Bool) : Prop := ∀ i j, X i = true → edgeOn ops i j = true → X j = true

theorem anc_closed {ops : Array Oper} {X : Nat → Bool} (hX : Closed ops X) : ∀ (n i j : Nat), isAnc ops n i j = true → (∀ q, edgeOn ops i q = true → X q = true) → X j = true
  | 0, i, j, h, he => he j h
  | n + 1, i, j, h, he => by
    unfold isAnc at h
    rw [Bool.or_eq_true] at h
    rcases h with h | h
    · exact he j h
    · cases ho : ops[i]? with
      | none => simp [ho] at h
      | some o =>
        simp only [ho, Array.any_eq_true', Bool.and_eq_true] at h
        obtain ⟨e, hm, hb, ha⟩ := h
        have hxe : X e.on = true := he e.on (edge_mem.2 ⟨o, ho, e, hm, hb, rfl⟩)
        exact anc_closed hX n e.on j ha fun q hq => hX e.on q hxe hq

theorem testBit_fold {l : List Nat} {f : Oper → Bool} (es : List Edge) (b : Edge → Bool) (j : Nat) : ∀ a : Nat, (es.foldl (fun a e => if b e then a ||| (1 <<< e.on) ||| l.getD e.on 0 else a) a).testBit j = true →
    a.testBit j = true ∨ ∃ e ∈ es, b e = true ∧ (e.on = j ∨ (l.getD e.on 0).testBit j = true) := by
  induction es with
  | nil => intro a h; exact .inl h
  | cons e es ih =>
    intro a h
    rw [List.foldl_cons] at h
    rcases ih _ h with h | ⟨e', h1, h2⟩
    · split at h
      · rename_i hb
        rw [Nat.testBit_or, Nat.testBit_or, Bool.or_eq_true, Bool.or_eq_true] at h
        rcases h with (h | h) | h
        · exact .inl h
        · refine .inr ⟨e, by simp, hb, .inl ?_⟩
          rw [Nat.one_shiftLeft, Nat.testBit_two_pow] at h
          simpa using h
        · exact .inr ⟨e, by simp, hb, .inr h⟩
      · exact .inl h
    · exact .inr ⟨e', by simp [h1], h2⟩

theorem ancMask_length (ops : Array Oper) : ∀ n, (ancMask ops n).length = n
  | 0 => rfl
  | n + 1 => by simp [ancMask, ancMask_length ops n]
theorem ancMask_get (ops : Array Oper) : ∀ n i, i < n → (ancMask ops n).getD i 0 = (match ops[i]? with
      | some o => o.after.toList.foldl (fun a e => if Region.binds .any e then a ||| (1 <<< e.on) ||| (ancMask ops i).getD e.on 0 else a) 0
      | none => 0)
  | n + 1, i, h => by
    rcases Nat.lt_or_ge i n with hl | hl
    · rw [ancMask, List.getD_eq_getElem?_getD, List.getElem?_append_left (by rw [ancMask_length]; exact hl), ← List.getD_eq_getElem?_getD, ancMask_get ops n i hl]
    · have : i = n := by omega
      subst this
      rw [ancMask, List.getD_eq_getElem?_getD, List.getElem?_append_right (by rw [ancMask_length]; exact Nat.le_refl _), ancMask_length, Nat.sub_self]
      rfl

theorem anc_sound {ops : Array Oper} {X : Nat → Bool} (hX : Closed ops X) (hb : backOk ops = true) : ∀ (n i j : Nat), i ≤ n → i < ops.size → anc (ancMask ops ops.size) i j = true → (∀ q, edgeOn ops i q = true → X q = true) → X j = true
  | n, i, j, hin, hi, h, he => by
    unfold anc at h
    rw [ancMask_get ops ops.size i hi, Array.getElem?_eq_getElem hi] at h
    rcases testBit_fold (f := fun _ => true) _ _ j 0 h with h | ⟨e, hm, hbd, h⟩
    · simp at h
    · have hedge : edgeOn ops i e.on = true := edge_mem.2 ⟨_, Array.getElem?_eq_getElem hi, e, Array.mem_toList_iff.1 hm, hbd, rfl⟩
      have hxe := he e.on hedge
      rcases h with rfl | h
      · exact hxe
      · have hlt : e.on < i := by
          unfold backOk at hb
          rw [List.all_eq_true] at hb
          have h1 := hb i (List.mem_range.2 hi)
          rw [Array.getElem?_eq_getElem hi] at h1
          simp only [Array.all_eq_true_iff_forall_mem] at h1
          have h2 := h1 e (Array.mem_toList_iff.1 hm)
          rw [hbd] at h2
          simpa using h2
        match n, hin with
        | 0, hin => omega
        | n + 1, hin =>
          refine anc_sound hX hb n e.on j (by omega) (by omega) ?_ (fun q hq => hX e.on q hxe hq)
          unfold anc
          rw [ancMask_get ops ops.size e.on (by omega)]
          rw [ancMask_get ops i e.on hlt] at h
          exact h

section
variable {P : Program} {NG N : Nat} {s : St} {Q : Exit → St → Prop} {ops : Array Oper}

theorem stepA.mono {o : Oper} {s : St} {K K' : Value → Hp → Nat → Prop} (h : stepA P NG ops o s K) (hk : ∀ v H k, K v H k → K' v H k) : stepA P NG ops o s K' := by
  unfold stepA at h ⊢
  split at h
  · exact h.mono hk
  · exact hk _ _ _ h
  · exact h.elim

theorem aOps_cons {i : Nat} {o : Oper} {rest : List Nat} {K : St → Prop} {s : St} (ho : ops[i]? = some o) : aOps P NG ops K (i :: rest) s ↔ stepA P NG ops o s fun v H' k' => aOps P NG ops K rest ⟨putA s.fr o.dst v, H', k'⟩ := by
  simp only [aOps, ho, stepA]
  cases wantedA ops s.fr o with
  | none => exact Iff.rfl
  | some b => cases b <;> exact Iff.rfl

/-- What the operations ahead have given, as far as this one waits for them. -/
def Deps (ops : Array Oper) (Φ : Nat → Value → Hp → Prop) (i : Nat) (fr : Fr) (H : Hp) : Prop :=
  ∀ j oj t, ops[j]? = some oj → edgeOn ops i j = true → oj.dst = some t → ∃ v, fr t = some v ∧ Φ j v H
/-- The slots that only operations behind this one write. -/
def Olds (ops : Array Oper) (i : Nat) (fr0 fr : Fr) : Prop :=
  ∀ t, (∀ j oj, ops[j]? = some oj → oj.dst = some t → j = i ∨ edgeOn ops j i = true) → fr t = fr0 t

/-- All that the rule below asks of the region's text: N slots, the first m operations quiet, L: their places and slots. -/
def drawOk (N : Nat) (ops : Array Oper) (m : Nat) (L : List (Nat × Nat)) : Bool :=
  dstsOk N ops && decide (m ≤ ops.size) && tailOk ops m && backOk ops && decide (dstList ops m = L) && decide ((L.map (·.2)).Nodup)

theorem ACode.region_tail {id : Nat} (m : Nat) (L : List (Nat × Nat)) (hm : P.follows .mixedOrders = true) (hok : drawOk N ops m L = true)
    (S : Hp → Hp → Prop) (hS0 : ∀ H, S H H) (hS1 : ∀ {a b c}, S a b → S b c → S a c) (Φ : Nat → Value → Hp → Prop) (hΦ : ∀ i v H H', Φ i v H → S H H' → Φ i v H')
    (hstep : ∀ i o, ops[i]? = some o → i < m → ∀ fr H k, S s.H H → s.k ≤ k → Deps ops Φ i fr H → Olds ops i s.fr fr → stepA P NG ops o ⟨fr, H, k⟩ fun v H' k' => Φ i v H' ∧ S H H' ∧ k ≤ k')
    (hend : ∀ (vs : Nat → Value) H k, S s.H H → s.k ≤ k → (∀ p ∈ L, Φ p.1 (vs p.1) H) → aOps P NG ops (Q .normal) (List.range' m (ops.size - m)) ⟨puts s.fr (L.map fun p => (p.2, vs p.1)), H, k⟩) :
    ACode P NG N (.region id ops true) Q s := by
  unfold drawOk at hok
  simp only [Bool.and_eq_true, decide_eq_true_eq] at hok
  obtain ⟨⟨⟨⟨⟨hd, hmn⟩, ht⟩, hbk⟩, hL⟩, hnd⟩ := hok
  have htail : ∀ i j, m ≤ i → i < ops.size → j < i → anc (ancMask ops ops.size) i j = true := by
    intro i j h1 h2 h3
    unfold tailOk at ht
    rw [List.all_eq_true] at ht
    have := ht i (List.mem_range.2 h2)
    simp only [Bool.or_eq_true, decide_eq_true_eq, List.all_eq_true] at this
    rcases this with h | h
    · omega
    · exact h j (List.mem_range.2 h3)
  -- with all quiet operations done, the state is hend's
  have frame : ∀ (X : Nat → Bool) (fr : Fr) (H : Hp), (∀ i, i < m → X i = true) → (∀ i, m ≤ i → X i = false) →
      (∀ i o t, ops[i]? = some o → o.dst = some t → X i = true → ∃ v, fr t = some v ∧ Φ i v H) → (∀ t, (∀ j oj, ops[j]? = some oj → oj.dst = some t → X j = false) → fr t = s.fr t) →
      ∃ vs : Nat → Value, (∀ p ∈ L, Φ p.1 (vs p.1) H) ∧ fr = puts s.fr (L.map fun p => (p.2, vs p.1)) := by
    intro X fr H h1 h2 h3 h4
    refine ⟨fun i => match (ops[i]?).bind (·.dst) with | some t => (fr t).getD undef | none => undef, ?_, ?_⟩
    · rintro ⟨i, t⟩ hp
      rw [← hL, mem_dstList] at hp
      obtain ⟨hi, o, ho, hdst⟩ := hp
      obtain ⟨v, hv, hφ⟩ := h3 i o t ho hdst (h1 i hi)
      simpa [ho, hdst, hv] using hφ
    · funext t
      by_cases hex : ∃ i, (i, t) ∈ L
      · obtain ⟨i, hp⟩ := hex
        have hp' := hp
        rw [← hL, mem_dstList] at hp
        obtain ⟨hi, o, ho, hdst⟩ := hp
        obtain ⟨v, hv, _⟩ := h3 i o t ho hdst (h1 i hi)
        rw [hv]
        refine (puts_at _ _ (by simpa [List.map_map, Function.comp_def] using hnd) (List.mem_map.2 ⟨(i, t), hp', ?_⟩)).symm
        simp [ho, hdst, hv]
      · rw [puts_other]
        · refine h4 t fun j oj hj hdj => ?_
          rcases Nat.lt_or_ge j m with hlt | hge
          · exact absurd ⟨j, by rw [← hL, mem_dstList]; exact ⟨hlt, oj, hj, hdj⟩⟩ hex
          · exact h2 j hge
        · intro p hp e
          obtain ⟨q, hq, rfl⟩ := List.mem_map.1 hp
          exact hex ⟨q.1, by simpa [← e] using hq⟩
  refine ACode.region_draw hm hd (fun X fr H k => Closed ops X ∧ (∀ i, ops.size ≤ i → X i = false) ∧
      (((∀ i, m ≤ i → X i = false) ∧ S s.H H ∧ s.k ≤ k ∧ (∀ i o t, ops[i]? = some o → o.dst = some t → X i = true → ∃ v, fr t = some v ∧ Φ i v H) ∧ (∀ t, (∀ j oj, ops[j]? = some oj → oj.dst = some t → X j = false) → fr t = s.fr t)) ∨
       ∃ p, m < p ∧ p ≤ ops.size ∧ (∀ i, i < p → X i = true) ∧ (∀ i, p ≤ i → X i = false) ∧ aOps P NG ops (Q .normal) (List.range' p (ops.size - p)) ⟨fr, H, k⟩)) ?_ ?_ ?_
  · exact ⟨fun i j h => by simp at h, fun _ _ => rfl, .inl ⟨fun _ _ => rfl, hS0 _, Nat.le_refl _, fun i o t _ _ h => by simp at h, fun _ _ => rfl⟩⟩
  · rintro i o X fr H k ho hxi hedge ⟨hcl, hbig, hst⟩
    have hlt := (Array.getElem?_eq_some_iff.1 ho).1
    have hed : ∀ q, edgeOn ops i q = true → X q = true := by
      intro q hq
      obtain ⟨o', ho', e, he, hb, rfl⟩ := edge_mem.1 hq
      rw [ho] at ho'
      injection ho' with ho'
      subst ho'
      exact hedge e he hb
    have hcl' : Closed ops (upd X i true) := by
      intro a b ha hab
      by_cases hb : b = i
      · subst hb; exact upd_same _ _ _
      · rw [upd_other _ _ hb]
        by_cases hai : a = i
        · subst hai; exact hed b hab
        · rw [upd_other _ _ hai] at ha; exact hcl a b ha hab
    have hbig' : ∀ j, ops.size ≤ j → upd X i true j = false := fun j hj => by rw [upd_other _ _ (by omega)]; exact hbig j hj
    -- the tail's next operation
    have tailStep : ∀ p, m ≤ p → p < ops.size → (∀ j, j < p → X j = true) → (∀ j, p ≤ j → X j = false) → i = p → aOps P NG ops (Q .normal) (List.range' p (ops.size - p)) ⟨fr, H, k⟩ →
        stepA P NG ops o ⟨fr, H, k⟩ fun v H' k' => Closed ops (upd X i true) ∧ (∀ j, ops.size ≤ j → upd X i true j = false) ∧
          (((∀ j, m ≤ j → upd X i true j = false) ∧ S s.H H' ∧ s.k ≤ k' ∧ (∀ j oj t, ops[j]? = some oj → oj.dst = some t → upd X i true j = true → ∃ v', putA fr o.dst v t = some v' ∧ Φ j v' H') ∧ (∀ t, (∀ j oj, ops[j]? = some oj → oj.dst = some t → upd X i true j = false) → putA fr o.dst v t = s.fr t)) ∨
           ∃ p, m < p ∧ p ≤ ops.size ∧ (∀ j, j < p → upd X i true j = true) ∧ (∀ j, p ≤ j → upd X i true j = false) ∧ aOps P NG ops (Q .normal) (List.range' p (ops.size - p)) ⟨putA fr o.dst v, H', k'⟩) := by
      intro p hp hps hlo hhi hip ha
      subst hip
      rw [show ops.size - i = (ops.size - (i + 1)) + 1 by omega, List.range'_succ, aOps_cons ho] at ha
      refine ha.mono fun v H' k' h => ⟨hcl', hbig', .inr ⟨i + 1, by omega, by omega, fun j hj => ?_, fun j hj => ?_, h⟩⟩
      · by_cases hji : j = i
        · subst hji; exact upd_same _ _ _
        · rw [upd_other _ _ hji]; exact hlo j (by omega)
      · rw [upd_other _ _ (by omega)]
        exact hhi j (by omega)
    rcases hst with ⟨hno, hsub, hk, hvals, holds⟩ | ⟨p, hp, hps, hlo, hhi, ha⟩
    · by_cases him : i < m
      · -- a quiet one
        refine (hstep i o ho him fr H k hsub hk (fun j oj t hj he hdj => hvals j oj t hj hdj (hed j he)) (fun t hw => holds t fun j oj hj hdj => ?_)).mono fun v H' k' h => ?_
        · rcases hw j oj hj hdj with rfl | he
          · exact hxi
          · cases hxj : X j with
            | false => rfl
            | true => rw [hcl j i hxj he] at hxi; cases hxi
        · refine ⟨hcl', hbig', .inl ⟨fun j hj => by rw [upd_other _ _ (by omega)]; exact hno j hj, hS1 hsub h.2.1, Nat.le_trans hk h.2.2, fun j oj t hj hdj hx => ?_, fun t hw => ?_⟩⟩
          · by_cases hji : j = i
            · subst hji
              rw [ho] at hj
              injection hj with hj
              subst hj
              rw [hdj]
              exact ⟨v, upd_same _ _ _, h.1⟩
            · rw [upd_other _ _ hji] at hx
              obtain ⟨v', h1, h2⟩ := hvals j oj t hj hdj hx
              refine ⟨v', ?_, hΦ _ _ _ _ h2 h.2.1⟩
              cases hdo : o.dst with
              | none => exact h1
              | some u =>
                show upd fr u (some v) t = _
                by_cases htu : t = u
                · subst htu
                  have hjm : j < m := by
                    rcases Nat.lt_or_ge j m with hl | hl
                    · exact hl
                    · rw [hno j hl] at hx; cases hx
                  have e1 : (i, t) ∈ L := by rw [← hL, mem_dstList]; exact ⟨him, o, ho, hdo⟩
                  have e2 : (j, t) ∈ L := by rw [← hL, mem_dstList]; exact ⟨hjm, oj, hj, hdj⟩
                  have inj : ∀ l : List (Nat × Nat), (l.map (·.2)).Nodup → (i, t) ∈ l → (j, t) ∈ l → j = i := by
                    intro l
                    induction l with
                    | nil => intro _ h; cases h
                    | cons q l ih =>
                      intro hn ha hb
                      simp only [List.map_cons, List.nodup_cons] at hn
                      rcases List.mem_cons.1 ha with ha | ha
                      · rcases List.mem_cons.1 hb with hb | hb
                        · rw [← ha] at hb; injection hb
                        · exact absurd (List.mem_map.2 ⟨(j, t), hb, by rw [← ha]⟩) hn.1
                      · rcases List.mem_cons.1 hb with hb | hb
                        · exact absurd (List.mem_map.2 ⟨(i, t), ha, by rw [← hb]⟩) hn.1
                        · exact ih hn.2 ha hb
                  exact absurd (inj L hnd e1 e2) hji
                · rw [upd_other _ _ htu]; exact h1
          · have h1 : fr t = s.fr t := holds t fun j oj hj hdj => by
              have := hw j oj hj hdj
              by_cases hji : j = i
              · subst hji; rw [upd_same] at this; cases this
              · rwa [upd_other _ _ hji] at this
            cases hdo : o.dst with
            | none => exact h1
            | some u =>
              show upd fr u (some v) t = _
              by_cases htu : t = u
              · subst htu
                have := hw i o ho hdo
                rw [upd_same] at this
                cases this
              · rw [upd_other _ _ htu]; exact h1
      · -- the tail begins
        have hall : ∀ j, j < i → X j = true := fun j hj => anc_sound hcl hbk i i j (Nat.le_refl _) hlt (htail i j (by omega) hlt hj) hed
        have him' : i = m := by
          rcases Nat.lt_or_ge m i with h | h
          · have := hall m h
            rw [hno m (Nat.le_refl _)] at this
            cases this
          · omega
        obtain ⟨vs, hv1, hv2⟩ := frame X fr H (fun j hj => hall j (by omega)) hno hvals holds
        have := hend vs H k hsub hk hv1
        rw [← hv2] at this
        exact tailStep m (Nat.le_refl _) (by omega) (fun j hj => hall j (by omega)) hno him' this
    · have hip : i = p := by
        have hpi : p ≤ i := by
          rcases Nat.lt_or_ge i p with h | h
          · rw [hlo i h] at hxi; cases hxi
          · exact h
        rcases Nat.lt_or_ge p i with h | h
        · have := anc_sound hcl hbk i i p (Nat.le_refl _) hlt (htail i p (by omega) hlt h) hed
          rw [hhi p (Nat.le_refl _)] at this
          cases this
        · omega
      exact tailStep p (by omega) (by omega) hlo hhi hip ha
  · rintro X fr H k hdone ⟨hcl, hbig, hst⟩
    have hall : ∀ i, i < ops.size → X i = true := by
      intro i
      induction i using Nat.strongRecOn with
      | _ i ih =>
        intro hi
        cases hx : X i with
        | true => rfl
        | false =>
          obtain ⟨e, he, hb, hxe⟩ := hdone i _ (Array.getElem?_eq_getElem hi) hx
          unfold backOk at hbk
          rw [List.all_eq_true] at hbk
          have h1 := hbk i (List.mem_range.2 hi)
          rw [Array.getElem?_eq_getElem hi] at h1
          simp only [Array.all_eq_true_iff_forall_mem] at h1
          have h2 := h1 e he
          rw [hb] at h2
          simp only [Bool.not_true, Bool.false_or, decide_eq_true_eq] at h2
          rw [ih e.on h2 (by omega)] at hxe
          cases hxe
    rcases hst with ⟨hno, hsub, hk, hvals, holds⟩ | ⟨p, hp, hps, hlo, hhi, ha⟩
    · have hsz : m = ops.size := by
        rcases Nat.lt_or_ge m ops.size with h | h
        · have := hall m h
          rw [hno m (Nat.le_refl _)] at this
          cases this
        · omega
      obtain ⟨vs, hv1, hv2⟩ := frame X fr H (fun j hj => hall j (by omega)) hno hvals holds
      have := hend vs H k hsub hk hv1
      rw [← hv2, show ops.size - m = 0 by omega] at this
      exact this
    · have hsz : p = ops.size := by
        rcases Nat.lt_or_ge p ops.size with h | h
        · have := hall p h
          rw [hhi p (Nat.le_refl _)] at this
          cases this
        · omega
      rw [show ops.size - p = 0 by omega] at ha
      exact ha
end
end Go.Ab
