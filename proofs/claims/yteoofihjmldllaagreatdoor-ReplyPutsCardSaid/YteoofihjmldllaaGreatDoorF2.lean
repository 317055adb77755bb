/- A region whose order is open, in stages; in a stage quiet operations in whatever order, the others in the text's order, each of them shown over the slots that it looks at. No condition; over any program. -/
import Derived.Test.YteoofihjmldllaaGreatDoorAb30
set_option linter.unusedVariables false
set_option linter.unusedSimpArgs false
namespace Go.Ab
open Go.RowKit

def cutFr (fr : Fr) (U : List Nat) : Fr := fun t => bif U.contains t then fr t else none
/-- The slots that an operation in order looks at: none of a quiet one but of one that it waits for. -/
def slotsOk (ops : Array Oper) (L : List (Nat × Nat)) (i : Nat) (U : List Nat) : Bool :=
 U.all fun t => L.all fun p => !(p.2 == t) || edgeOn ops i p.1
/-- Slots of which nothing of this stage that may have been done ahead is the writer. -/
def useOkG (ops : Array Oper) (lo i : Nat) (U : List (Nat × Option Nat)) : Bool :=
 U.all fun p => match p.2 with
  | some j => edgeOn ops i j && (match ops[j]? with | some o => o.dst == some p.1 | none => false)
  | none => (List.range ops.size).all fun j => decide (j < lo) || match ops[j]? with | some o => !(o.dst == some p.1) || j == i || edgeOn ops j i | none => true
/-- Of a stage from lo up to hi: L the quiet operations and their slots, T the others, in order. -/
def stageOk (ops : Array Oper) (lo hi : Nat) (L : List (Nat × Nat)) (T : List Nat) : Bool :=
 let ms := ancMask ops ops.size
 ((List.range hi).all fun i => decide (i < lo) || (T.contains i || L.any fun p => p.1 == i))
  && (L.all fun p => (match ops[p.1]? with | some o => o.dst == some p.2 | none => false) && !T.contains p.1 && decide (lo ≤ p.1) && decide (p.1 < hi))
  && (T.all fun j => match ops[j]? with | some o => (match o.dst with | some t => L.all fun p => !(p.2 == t) | none => true) && decide (lo ≤ j) && decide (j < hi) | none => false)
  && decide ((L.map (·.2)).Nodup) && decide (T.Nodup)
  && ((List.range T.length).all fun q => (List.range q).all fun r => anc ms (T.getD q 0) (T.getD r 0))
/-- All from m on wait for all ahead of m. -/
def sepOk (ops : Array Oper) (m hi : Nat) : Bool :=
 let ms := ancMask ops ops.size
 (List.range hi).all fun i => decide (i < m) || (List.range m).all fun j => anc ms i j
def openOk (N : Nat) (ops : Array Oper) : Bool := dstsOk N ops && backOk ops

section
variable {P : Program} {NG N : Nat} {Q : Exit → St → Prop} {ops : Array Oper}
def aOpsF (P : Program) (NG : Nat) (ops : Array Oper) (L : List (Nat × Nat)) (Hq : Hp) (K : St → Prop) : List Nat → St → Prop
 | [], s => K s
 | i :: r, s => ∃ o U, ops[i]? = some o ∧ slotsOk ops L i U = true ∧ stepA P NG ops o ⟨cutFr s.fr U, s.H, s.k⟩ fun v H' k' => Sub Hq H' ∧ aOpsF P NG ops L Hq K r ⟨putA s.fr o.dst v, H', k'⟩
def DrawF (P : Program) (NG : Nat) (ops : Array Oper) (lo : Nat) (fr : Fr) (Hq : Hp) (K : Fr → Prop) : List (Nat × Nat) → Fr → Prop
 | [], env => K env
 | (i, _) :: r, env => ∃ o v U, ops[i]? = some o ∧ useOkG ops lo i U = true ∧ (∀ Hc k, Sub Hq Hc → stepA P NG ops o ⟨useFr env fr U, Hc, k⟩ fun v' H' k' => v' = v ∧ H' = Hc ∧ k' = k) ∧ DrawF P NG ops lo fr Hq K r (upd env i (some v))

theorem drawF_values {lo : Nat} {fr : Fr} {Hq : Hp} {K : Fr → Prop} : ∀ (r : List (Nat × Nat)) (env : Fr), (r.map (·.1)).Nodup → (∀ p ∈ r, env p.1 = none) → DrawF P NG ops lo fr Hq K r env →
  ∃ all : Fr, K all ∧ (∀ j, (∀ p ∈ r, p.1 ≠ j) → all j = env j) ∧ ∀ p ∈ r, ∃ o v U env', ops[p.1]? = some o ∧ all p.1 = some v ∧ useOkG ops lo p.1 U = true ∧ (∀ j x, env' j = some x → all j = some x) ∧
   ∀ Hc k, Sub Hq Hc → stepA P NG ops o ⟨useFr env' fr U, Hc, k⟩ fun v' H' k' => v' = v ∧ H' = Hc ∧ k' = k
 | [], env, _, _, h => ⟨env, h, fun _ _ => rfl, fun p hp => by cases hp⟩
 | (i, t) :: r, env, hn, he, h => by
  obtain ⟨o, v, U, ho, hU, hst, hr⟩ := h
  simp only [List.map_cons, List.nodup_cons] at hn
  have hri : ∀ p ∈ r, p.1 ≠ i := fun p hp e => hn.1 (List.mem_map.2 ⟨p, hp, e⟩)
  obtain ⟨all, h1, h2, h3⟩ := drawF_values r (upd env i (some v)) hn.2 (fun p hp => by rw [upd_other _ _ (hri p hp)]; exact he p (List.mem_cons_of_mem _ hp)) hr
  have hi : all i = some v := by rw [h2 i hri, upd_same]
  refine ⟨all, h1, fun j hj => ?_, fun p hp => ?_⟩
  ·rw [h2 j (fun p hp => hj p (List.mem_cons_of_mem _ hp)), upd_other _ _ (fun e => hj (i, t) List.mem_cons_self e.symm)]
  ·rcases List.mem_cons.1 hp with rfl | hp
   ·refine ⟨o, v, U, env, ho, hi, hU, fun j x hj => ?_, hst⟩
    by_cases hjr : ∃ p ∈ r, p.1 = j
    ·obtain ⟨p, hp, rfl⟩ := hjr
     rw [he p (List.mem_cons_of_mem _ hp)] at hj
     cases hj
    ·have hji : j ≠ i := fun e => by
      rw [e, he (i, t) List.mem_cons_self] at hj
      cases hj
     rw [h2 j (fun p hp e => hjr ⟨p, hp, e⟩), upd_other _ _ hji]
     exact hj
   ·exact h3 p hp

/-- Of operations from lo up to hi, whatever was done ahead of lo: in whatever order they come, K holds at their end. -/
def AnyA (P : Program) (NG : Nat) (ops : Array Oper) (lo hi : Nat) (K : St → Prop) (X0 : Nat → Bool) (s : St) : Prop :=
 ∃ I : (Nat → Bool) → Fr → Hp → Nat → Prop, I X0 s.fr s.H s.k ∧
  (∀ (i : Nat) (o : Oper) (X : Nat → Bool) (fr : Fr) (H : Hp) (k : Nat), lo ≤ i → i < hi → ops[i]? = some o → X i = false → Closed ops X → (∀ j, j < lo → X j = true) → (∀ q, edgeOn ops i q = true → X q = true) → I X fr H k →
   stepA P NG ops o ⟨fr, H, k⟩ fun v H' k' => I (upd X i true) (putA fr o.dst v) H' k') ∧
  (∀ (X : Nat → Bool) (fr : Fr) (H : Hp) (k : Nat), (∀ j, j < hi → X j = true) → I X fr H k → K ⟨fr, H, k⟩)
def upTo (m : Nat) : Nat → Bool := fun j => decide (j < m)
theorem upTo_of {X : Nat → Bool} {m : Nat} (h1 : ∀ j, j < m → X j = true) (h2 : ∀ j, m ≤ j → X j = false) : X = upTo m := by
 funext j
 unfold upTo
 by_cases h : j < m
 ·rw [h1 j h, decide_eq_true h]
 ·rw [h2 j Wz, decide_eq_false h]
theorem backOk_lt (hbk : backOk ops = true) {i j : Nat} (h : edgeOn ops i j = true) : j < i := by
 obtain ⟨o, ho, e, he, hb, rfl⟩ := edge_mem.1 h
 unfold backOk at hbk
 rw [List.all_eq_true] at hbk
 have h1 := hbk i (List.mem_range.2 (Array.getElem?_eq_some_iff.1 ho).1)
 rw [ho] at h1
 simp only [Array.all_eq_true_iff_forall_mem] at h1
 have h2 := h1 e he
 rw [hb] at h2
 simpa using h2
theorem sepOk_sound {m hi i : Nat} {X : Nat → Bool} (hcl : Closed ops X) (hbk : backOk ops = true) (hs : sepOk ops m hi = true) (h1 : m ≤ i) (h2 : i < hi) (hsz : hi ≤ ops.size) (hed : ∀ q, edgeOn ops i q = true → X q = true) : ∀ j, j < m → X j = true := by
 intro j hj
 unfold sepOk at hs
 have h3 := (List.all_eq_true.1 hs) i (List.mem_range.2 h2)
 rw [decide_eq_false Wz, Bool.false_or] at h3
 exact anc_sound hcl hbk i i j (Nat.le_refl _) Wz ((List.all_eq_true.1 h3) j (List.mem_range.2 hj)) hed
/-- Two stages, one behind the other. -/
theorem AnyA.split {lo hi : Nat} {K : St → Prop} {s : St} (m : Nat) (hbk : backOk ops = true) (hs : sepOk ops m hi = true) (hlm : lo ≤ m) (hmh : m ≤ hi) (hsz : hi ≤ ops.size) (h : AnyA P NG ops lo m (AnyA P NG ops m hi K (upTo m)) (upTo lo) s) : AnyA P NG ops lo hi K (upTo lo) s := by
 obtain ⟨I, h0, hst, hend⟩ := h
 let J : (Nat → Bool) → Fr → Hp → Nat → Prop := fun X fr H k => (∀ j, hi ≤ j → X j = false) ∧ (((∃ j, j < m ∧ X j = false) ∧ (∀ j, m ≤ j → X j = false) ∧ I X fr H k) ∨ ((∀ j, j < m → X j = true) ∧ AnyA P NG ops m hi K X ⟨fr, H, k⟩))
 have fin : ∀ X fr H k, (∀ j, m ≤ j → X j = false) → I X fr H k → J X fr H k := by
  intro X fr H k h1 h2
  refine ⟨fun j hj => h1 j Wz, ?_⟩
  by_cases hx : ∃ j, j < m ∧ X j = false
  ·exact .inl ⟨hx, h1, h2⟩
  ·have hall : ∀ j, j < m → X j = true := fun j hj => by
    cases hxj : X j with
    | true => rfl
    | false => exact absurd ⟨j, hj, hxj⟩ hx
   refine .inr ⟨hall, ?_⟩
   have := hend X fr H k hall h2
   rw [← upTo_of hall h1] at this
   exact this
 refine ⟨J, fin _ _ _ _ (fun j hj => decide_eq_false Wz) h0, ?_, ?_⟩
 ·rintro i o X fr H k hli hih ho hxi hcl hlo hed ⟨hhi, hJ⟩
  have hhi' : ∀ j, hi ≤ j → upd X i true j = false := fun j hj => by rw [upd_other _ _ Wz]; exact hhi j hj
  rcases hJ with ⟨⟨j, hj, hxj⟩, hmf, hI⟩ | ⟨hall, I2, g0, gst, gend⟩
  ·have him : i < m := by
    rcases Nat.lt_or_ge i m with h1 | h1
    ·exact h1
    ·rw [sepOk_sound hcl hbk hs h1 hih hsz hed j hj] at hxj
     cases hxj
   refine (hst i o X fr H k hli him ho hxi hcl hlo hed hI).mono fun v H' k' h2 => fin _ _ _ _ (fun q hq => ?_) h2
   rw [upd_other _ _ Wz]
   exact hmf q hq
  ·have him : m ≤ i := by
    rcases Nat.lt_or_ge i m with h1 | h1
    ·rw [hall i h1] at hxi; cases hxi
    ·exact h1
   refine (gst i o X fr H k him hih ho hxi hcl hall hed g0).mono fun v H' k' h2 => ⟨hhi', .inr ⟨fun q hq => ?_, I2, h2, gst, gend⟩⟩
   rw [upd_other _ _ Wz]
   exact hall q hq
 ·rintro X fr H k hall ⟨hhi, hJ⟩
  rcases hJ with ⟨⟨j, hj, hxj⟩, _⟩ | ⟨_, I2, g0, gst, gend⟩
  ·rw [hall j Wz] at hxj
   cases hxj
  ·exact gend X fr H k hall g0
theorem ACode.any {id : Nat} {s : St} (hm : P.follows .mixedOrders = true) (hok : openOk N ops = true) (h : AnyA P NG ops 0 ops.size (Q .normal) (upTo 0) s) : ACode P NG N (.region id ops true) Q s := by
 unfold openOk at hok
 rw [Bool.and_eq_true] at hok
 obtain ⟨hd, hbk⟩ := hok
 obtain ⟨I, h0, hst, hend⟩ := h
 refine ACode.region_draw hm hd (fun X fr H k => Closed ops X ∧ I X fr H k) ⟨fun i j h => by simp at h, h0⟩ ?_ ?_
 ·rintro i o X fr1 H1 k1 ho hxi hedge ⟨hcl, hI⟩
  have hed : ∀ q, edgeOn ops i q = true → X q = true := by
   intro q hq
   obtain ⟨o', ho', e, he, hb, rfl⟩ := edge_mem.1 hq
   rw [ho] at ho'
   injection ho' with ho'
   subst ho'
   exact hedge e he hb
  refine (hst i o X fr1 H1 k1 (Nat.zero_le _) (Array.getElem?_eq_some_iff.1 ho).1 ho hxi hcl (fun j hj => by omega) hed hI).mono fun v H' k' h2 => ⟨?_, h2⟩
  intro a b ha hab
  by_cases hb : b = i
  ·subst hb; exact upd_same _ _ _
  ·rw [upd_other _ _ hb]
   by_cases hai : a = i
   ·subst hai; exact hed b hab
   ·rw [upd_other _ _ hai] at ha; exact hcl a b ha hab
 ·rintro X fr1 H1 k1 hdone ⟨hcl, hI⟩
  refine hend X fr1 H1 k1 (fun i => ?_) hI
  induction i using Nat.strongRecOn with
  | _ i ih =>
   intro hi
   cases hx : X i with
   | true => rfl
   | false =>
    obtain ⟨e, he, hb, hxe⟩ := hdone i _ (Array.getElem?_eq_getElem hi) hx
    have h2 : e.on < i := backOk_lt hbk (edge_mem.2 ⟨_, Array.getElem?_eq_getElem hi, e, he, hb, rfl⟩)
    rw [ih e.on h2 Wz] at hxe
    cases hxe
/-- A stage: quiet operations, and others in order. -/
theorem AnyA.float {lo hi : Nat} {K : St → Prop} {fr : Fr} {H Hq : Hp} {nk : Nat} (L : List (Nat × Nat)) (T : List Nat) (hbk : backOk ops = true) (hsz : hi ≤ ops.size) (hok : stageOk ops lo hi L T = true) (hq0 : Sub Hq H)
  (h : DrawF P NG ops lo fr Hq (fun env => aOpsF P NG ops L Hq K T ⟨puts fr (L.map fun p => (p.2, (env p.1).getD undef)), H, nk⟩) L (fun _ => none)) :
  AnyA P NG ops lo hi K (upTo lo) ⟨fr, H, nk⟩ := by
 unfold stageOk at hok
 simp only [Bool.and_eq_true, decide_eq_true_eq] at hok
 obtain ⟨⟨⟨⟨⟨hall, hLd⟩, hTd⟩, hnd⟩, hTn⟩, hch⟩ := hok
 have cov : ∀ i, lo ≤ i → i < hi → i ∈ T ∨ ∃ p ∈ L, p.1 = i := by
  intro i hl hi
  have := (List.all_eq_true.1 hall) i (List.mem_range.2 hi)
  rw [decide_eq_false Wz, Bool.false_or, Bool.or_eq_true] at this
  rcases this with h | h
  ·exact .inl (by simpa using h)
  ·obtain ⟨p, hp, e⟩ := List.any_eq_true.1 h
   exact .inr ⟨p, hp, by simpa using e⟩
 have hLr : ∀ p ∈ L, lo ≤ p.1 ∧ p.1 < hi := by
  intro p hp
  have := (List.all_eq_true.1 hLd) p hp
  simp only [Bool.and_eq_true, decide_eq_true_eq] at this
  exact ⟨this.1.2, this.2⟩
 have hTr : ∀ j ∈ T, lo ≤ j ∧ j < hi := by
  intro j hj
  have := (List.all_eq_true.1 hTd) j hj
  cases ho : ops[j]? with
  | none => simp [ho] at this
  | some o =>
   simp only [ho, Bool.and_eq_true, decide_eq_true_eq] at this
   exact ⟨this.1.2, this.2⟩
 have hL : ∀ p ∈ L, (∃ o, ops[p.1]? = some o ∧ o.dst = some p.2) ∧ p.1 ∉ T := by
  intro p hp
  have := (List.all_eq_true.1 hLd) p hp
  simp only [Bool.and_eq_true, Bool.not_eq_true'] at this
  obtain ⟨⟨⟨h1, h2⟩, _⟩, _⟩ := this
  refine ⟨?_, fun h => by simp [h] at h2⟩
  cases ho : ops[p.1]? with
  | none => simp [ho] at h1
  | some o => exact ⟨o, rfl, by simpa [ho] using h1⟩
 have hT : ∀ j ∈ T, ∃ o, ops[j]? = some o ∧ ∀ t, o.dst = some t → ∀ p ∈ L, p.2 ≠ t := by
  intro j hj
  have := (List.all_eq_true.1 hTd) j hj
  cases ho : ops[j]? with
  | none => simp [ho] at this
  | some o =>
   refine ⟨o, rfl, fun t ht p hp e => ?_⟩
   simp only [ho, ht, Bool.and_eq_true] at this
   have := (List.all_eq_true.1 this.1.1) p hp
   simp [e] at this
 have inj : ∀ p ∈ L, ∀ q ∈ L, p.2 = q.2 → p = q := by
  have gen : ∀ l : List (Nat × Nat), (l.map (·.2)).Nodup → ∀ p ∈ l, ∀ q ∈ l, p.2 = q.2 → p = q := by
   intro l
   induction l with
   | nil => intro _ p hp; cases hp
   | cons a l ih =>
    intro hn p hp q hq e
    simp only [List.map_cons, List.nodup_cons] at hn
    rcases List.mem_cons.1 hp with hpa | hpl
    ·rcases List.mem_cons.1 hq with hqa | hql
     ·rw [hpa, hqa]
     ·exact absurd (List.mem_map.2 ⟨q, hql, by rw [← e, hpa]⟩) hn.1
    ·rcases List.mem_cons.1 hq with hqa | hql
     ·exact absurd (List.mem_map.2 ⟨p, hpl, by rw [e, hqa]⟩) hn.1
     ·exact ih hn.2 p hpl q hql e
  exact gen L hnd
 have hL1 : (L.map (·.1)).Nodup := by
  rw [List.nodup_iff_pairwise_ne] at hnd ⊢
  rw [List.pairwise_map] at hnd ⊢
  refine hnd.imp_of_mem fun {a b} ha hb hne e => hne ?_
  obtain ⟨⟨o, h1, h2⟩, _⟩ := hL a ha
  obtain ⟨⟨o', h3, h4⟩, _⟩ := hL b hb
  rw [e, h3] at h1
  injection h1 with h1
  subst h1
  rw [h4] at h2
  injection h2 with h2
  exact h2.symm
 obtain ⟨all, hK, _, hv⟩ := drawF_values L (fun _ => none) hL1 (fun _ _ => rfl) h
 have hsome : ∀ p ∈ L, ∃ v, all p.1 = some v := fun p hp => by
  obtain ⟨o, v, U, env', _, h2, _⟩ := hv p hp
  exact ⟨v, h2⟩
 have allL : ∀ j x, all j = some x → (∃ p ∈ L, p.1 = j) ∨ False := by
  intro j x hj
  apply Classical.byContradiction
  intro hne
  have hno : ∀ p ∈ L, p.1 ≠ j := fun p hp e => hne (.inl ⟨p, hp, e⟩)
  have := (‹∀ j, (∀ p ∈ L, p.1 ≠ j) → all j = (fun _ => none) j›) j hno
  rw [this] at hj
  cases hj
 refine ⟨(fun X fr1 H1 k1 => Sub Hq H1 ∧ (∀ t, (∀ j oj, lo ≤ j → ops[j]? = some oj → oj.dst = some t → X j = false) → fr1 t = fr t) ∧
   (∀ p ∈ L, X p.1 = true → fr1 p.2 = all p.1) ∧ ∃ (n : Nat) (F : Fr), n ≤ T.length ∧ (∀ q, q < T.length → X (T.getD q 0) = decide (q < n)) ∧ (∀ t, (∀ p ∈ L, p.2 ≠ t) → fr1 t = F t) ∧ (∀ p ∈ L, F p.2 = all p.1) ∧
    aOpsF P NG ops L Hq K (T.drop n) ⟨F, H1, k1⟩), ?_, ?_, ?_⟩
 ·refine ⟨hq0, fun _ _ => rfl, fun p hp h => ?_, 0, _, Nat.zero_le _, fun q hq => ?_, fun t ht => ?_, fun p hp => ?_, hK⟩
  ·have := (hLr p hp).1
   unfold upTo at h
   rw [decide_eq_true_eq] at h
   omega
  ·have hmem : T.getD q 0 ∈ T := by rw [List.getD_eq_getElem?_getD, List.getElem?_eq_getElem hq]; exact List.getElem_mem _
   have := (hTr _ hmem).1
   unfold upTo
   congr 1
   rw [eq_iff_iff]
   omega
  ·rw [puts_other]
   intro p hp e
   obtain ⟨q, hq, rfl⟩ := List.mem_map.1 hp
   exact ht q hq e
  ·obtain ⟨v, hv1⟩ := hsome p hp
   rw [hv1]
   exact puts_at _ _ (by simpa [List.map_map, Function.comp_def] using hnd) (List.mem_map.2 ⟨p, hp, by simp [hv1]⟩)
 ·rintro i o X fr1 H1 k1 hli hih ho hxi hcl hlo hed ⟨hsub, hC, hA, n, F, hn, hX, hB, hD, ha⟩
  have hlt := (Array.getElem?_eq_some_iff.1 ho).1
  have hC' : ∀ v t, (∀ j oj, lo ≤ j → ops[j]? = some oj → oj.dst = some t → upd X i true j = false) → putA fr1 o.dst v t = fr t := by
   intro v t hw
   have h1 : fr1 t = fr t := hC t fun j oj hlj hj hdj => by
    have := hw j oj hlj hj hdj
    by_cases hji : j = i
    ·subst hji; rw [upd_same] at this; cases this
    ·rwa [upd_other _ _ hji] at this
   cases hdo : o.dst with
   | none => exact h1
   | some u =>
    show upd fr1 u (some v) t = _
    by_cases htu : t = u
    ·subst htu
     have := hw i o hli ho hdo
     rw [upd_same] at this
     cases this
    ·rw [upd_other _ _ htu]; exact h1
  rcases cov i hli hih with hiT | ⟨p, hp, rfl⟩
  · -- the next one in order
   obtain ⟨o', ho', hdT⟩ := hT i hiT
   rw [ho] at ho'
   injection ho' with ho'
   subst ho'
   obtain ⟨q, hq, hqi⟩ := List.getElem_of_mem hiT
   have hgq : T.getD q 0 = i := by rw [List.getD_eq_getElem?_getD, List.getElem?_eq_getElem hq]; exact hqi
   have hqn : q = n := by
    have h1 := hX q hq
    rw [hgq, hxi] at h1
    have h2 : ¬ q < n := by simpa using h1.symm
    rcases Nat.lt_or_ge n q with h3 | h3
    ·have h4 := (List.all_eq_true.1 ((List.all_eq_true.1 hch) q (List.mem_range.2 hq))) n (List.mem_range.2 h3)
     rw [hgq] at h4
     have h5 := anc_sound hcl hbk i i (T.getD n 0) (Nat.le_refl _) hlt h4 hed
     rw [hX n Wz] at h5
     simp at h5
    ·omega
   subst hqn
   rw [List.drop_eq_getElem_cons hq, hqi] at ha
   obtain ⟨o', U, ho', hU, hst⟩ := ha
   rw [ho] at ho'
   injection ho' with ho'
   subst ho'
   refine (stepA_less hst fun t u hu => ?_).mono fun v H' k' ⟨hs', ha'⟩ => ?_
   ·unfold cutFr at hu
    cases hc : U.contains t with
    | false => rw [hc] at hu; cases hu
    | true =>
     rw [hc] at hu
     have htU : t ∈ U := by simpa using hc
     by_cases hex : ∃ p ∈ L, p.2 = t
     ·obtain ⟨p, hp, rfl⟩ := hex
      unfold slotsOk at hU
      have h1 := (List.all_eq_true.1 ((List.all_eq_true.1 hU) p.2 htU)) p hp
      simp only [beq_self_eq_true, Bool.not_true, Bool.false_or] at h1
      rw [hA p hp (hed _ h1), ← hD p hp]
      exact hu
     ·rw [hB t fun p hp e => hex ⟨p, hp, e⟩]
      exact hu
   ·refine ⟨hs', hC' v, fun p hp hx => ?_, q + 1, putA F o.dst v, by omega, fun r hr => ?_, fun t ht => ?_, fun p hp => ?_, ha'⟩
    ·have hpi : p.1 ≠ i := fun e => (hL p hp).2 (by rw [e]; exact hiT)
     rw [upd_other _ _ hpi] at hx
     cases hdo : o.dst with
     | none => exact hA p hp hx
     | some u =>
      show upd fr1 u (some v) p.2 = _
      rw [upd_other _ _ (hdT u hdo p hp)]
      exact hA p hp hx
    ·by_cases hrq : r = q
     ·subst hrq
      rw [hgq, upd_same]
      simp
     ·have hne : T.getD r 0 ≠ i := by
       intro e
       rw [← hgq, List.getD_eq_getElem?_getD, List.getD_eq_getElem?_getD, List.getElem?_eq_getElem hr, List.getElem?_eq_getElem hq] at e
       exact hrq ((List.getElem_inj hTn).1 e)
      rw [upd_other _ _ hne, hX r hr]
      congr 1
      rw [eq_iff_iff]
      omega
    ·cases hdo : o.dst with
     | none => exact hB t ht
     | some u =>
      show upd fr1 u (some v) t = upd F u (some v) t
      by_cases htu : t = u
      ·subst htu; rw [upd_same, upd_same]
      ·rw [upd_other _ _ htu, upd_other _ _ htu]; exact hB t ht
    ·cases hdo : o.dst with
     | none => exact hD p hp
     | some u =>
      show upd F u (some v) p.2 = _
      rw [upd_other _ _ (hdT u hdo p hp)]
      exact hD p hp
  · -- a quiet one
   obtain ⟨o', v, U, env', ho', hav, hU, henv, hst⟩ := hv p hp
   rw [ho] at ho'
   injection ho' with ho'
   subst ho'
   obtain ⟨⟨o', ho', hdp⟩, hpT⟩ := hL p hp
   rw [ho] at ho'
   injection ho' with ho'
   subst ho'
   refine (stepA_less (hst H1 k1 hsub) fun t u hu => ?_).mono fun v' H' k' ⟨e1, e2, e3⟩ => ?_
   ·unfold useOkG at hU
    rw [List.all_eq_true] at hU
    rcases useFr_get U hu with ⟨j, hj, hu2⟩ | ⟨hj, hu2⟩
    ·have h1 := hU _ hj
     simp only [Bool.and_eq_true] at h1
     obtain ⟨he, hdd⟩ := h1
     have hju := henv j u hu2
     rcases allL j u hju with ⟨p', hp', rfl⟩ | hf
     ·obtain ⟨⟨oj, hoj, hdj⟩, _⟩ := hL p' hp'
      simp only [hoj, beq_iff_eq] at hdd
      rw [hdj] at hdd
      injection hdd with hdd
      rw [← hdd, hA p' hp' (hed _ he)]
      exact hju
     ·exact hf.elim
    ·have h1 := hU _ hj
     simp only [List.all_eq_true] at h1
     rw [hC t fun j oj hlj hoj hdj => ?_]
     ·exact hu2
     ·have hjl := (Array.getElem?_eq_some_iff.1 hoj).1
      have h5 := h1 j (List.mem_range.2 hjl)
      rw [decide_eq_false Wz, Bool.false_or] at h5
      simp only [hoj, hdj, beq_self_eq_true, Bool.not_true, Bool.false_or, Bool.or_eq_true, beq_iff_eq] at h5
      rcases h5 with rfl | h5
      ·exact hxi
      ·cases hxj : X j with
       | false => rfl
       | true => rw [hcl j p.1 hxj h5] at hxi; cases hxi
   ·subst e1; subst e2; subst e3
    have hdo : putA fr1 o.dst v' = upd fr1 p.2 (some v') := by rw [hdp]; rfl
    refine ⟨hsub, hC' v', fun q hq hx => ?_, n, F, hn, fun r hr => ?_, fun t ht => ?_, hD, ha⟩
    ·rw [hdo]
     by_cases hqp : q = p
     ·subst hqp; rw [upd_same]; exact hav.symm
     ·rw [upd_other _ _ (fun e => hqp (inj q hq p hp e))]
      refine hA q hq ?_
      by_cases hq1 : q.1 = p.1
      ·exact absurd (by
        obtain ⟨⟨oq, h1, h2⟩, _⟩ := hL q hq
        rw [hq1, ho] at h1
        injection h1 with h1
        subst h1
        rw [hdp] at h2
        injection h2 with h2
        exact inj q hq p hp h2.symm) hqp
      ·rwa [upd_other _ _ hq1] at hx
    ·have hne : T.getD r 0 ≠ p.1 := by
      intro e
      refine hpT ?_
      rw [← e, List.getD_eq_getElem?_getD, List.getElem?_eq_getElem hr]
      exact List.getElem_mem _
     rw [upd_other _ _ hne]
     exact hX r hr
    ·rw [hdo, upd_other _ _ (fun e => ht p hp e.symm)]
     exact hB t ht
 ·rintro X fr1 H1 k1 hallX ⟨hsub, hC, hA, n, F, hn, hX, hB, hD, ha⟩
  have hszn : n = T.length := by
   rcases Nat.lt_or_ge n T.length with h1 | h1
   ·have h2 := hX n h1
    have hmem : T.getD n 0 ∈ T := by rw [List.getD_eq_getElem?_getD, List.getElem?_eq_getElem h1]; exact List.getElem_mem _
    rw [hallX _ (hTr _ hmem).2] at h2
    simp at h2
   ·omega
  rw [hszn, List.drop_length] at ha
  have e : fr1 = F := by
   funext t
   by_cases hex : ∃ p ∈ L, p.2 = t
   ·obtain ⟨p, hp, rfl⟩ := hex
    rw [hA p hp (hallX _ (hLr p hp).2), hD p hp]
   ·exact hB t fun p hp e => hex ⟨p, hp, e⟩
  rw [e]
  exact ha
variable {L : List (Nat × Nat)} {lo : Nat} {Hq H : Hp} {fr : Fr} {nk : Nat} {K : St → Prop} {o : Oper}
theorem DrawF.q {KF : Fr → Prop} {env : Fr} {r : List (Nat × Nat)} {v : Value} (i t : Nat) (U : List (Nat × Option Nat)) (ho : ops[i]? = some o) (hU : useOkG ops lo i U = true) (hw : wantedA ops (useFr env fr U) o = some true)
  (h : ∀ (Hc : Hp) (k : Nat), Sub Hq Hc → AOp P NG o ⟨useFr env fr U, Hc, k⟩ fun v' H' k' => v' = v ∧ H' = Hc ∧ k' = k) (hr : DrawF P NG ops lo fr Hq KF r (upd env i (some v))) : DrawF P NG ops lo fr Hq KF ((i, t) :: r) env :=
 ⟨o, v, U, ho, hU, fun Hc k hs => by unfold stepA; rw [hw]; exact h Hc k hs, hr⟩
theorem DrawF.done {KF : Fr → Prop} {env : Fr} (h : KF env) : DrawF P NG ops lo fr Hq KF [] env := h
theorem aOpsF_1 {i t : Nat} {r : List Nat} (U : List Nat) (ho : ops[i]? = some o) (hd : o.dst = some t) (hU : slotsOk ops L i U = true) (hw : wantedA ops (cutFr fr U) o = some true)
  (h : AOp P NG o ⟨cutFr fr U, H, nk⟩ fun v H' k' => Sub Hq H' ∧ aOpsF P NG ops L Hq K r ⟨upd fr t (some v), H', k'⟩) : aOpsF P NG ops L Hq K (i :: r) ⟨fr, H, nk⟩ := by
 refine ⟨o, U, ho, hU, ?_⟩
 unfold stepA
 rw [hw, hd]
 exact h
theorem aOpsF_0 {i : Nat} {r : List Nat} (U : List Nat) (ho : ops[i]? = some o) (hd : o.dst = none) (hU : slotsOk ops L i U = true) (hw : wantedA ops (cutFr fr U) o = some true)
  (h : AOp P NG o ⟨cutFr fr U, H, nk⟩ fun v H' k' => Sub Hq H' ∧ aOpsF P NG ops L Hq K r ⟨fr, H', k'⟩) : aOpsF P NG ops L Hq K (i :: r) ⟨fr, H, nk⟩ := by
 refine ⟨o, U, ho, hU, ?_⟩
 unfold stepA
 rw [hw, hd]
 exact h
/-- A choice whose condition is known. -/
theorem AOp.pickB {R : Value → Hp → Nat → Prop} {c x y : Operand} {b : Bool} {v : Value} (ho : o.op = .pick c x y) (hc : aeval NG fr c = some (.bool b)) (h : aeval NG fr (bif b then x else y) = some v) (hR : R v H nk) : AOp P NG o ⟨fr, H, nk⟩ R :=
 AOp.pick ho hc (by cases b <;> exact h) hR
theorem aOpsF_end {s : St} (h : K s) : aOpsF P NG ops L Hq K [] s := h
end
end Go.Ab
