/- Abstract states over the model, part 25: the rule for a drawn region whose operations change the heap. No condition; over any program. -/
import Derived.Test.YtlbcgadmcjobiaaDoorAb24
set_option linter.unusedVariables false
set_option linter.unusedSimpArgs false
namespace Go.Ab
open Go.RowKit

def RenOk (f : Nat → Value) : Prop := ∀ (G G2 : GMap) (n r : Nat) (x : Value), VRel G (f n) x → G2 r = G n → (∀ q, q ≠ r → G2 q = G q) → VRel G2 (f r) x

/-- What operation i leaves: its value, codes with new contents; or a block under a new name, as the code i will have it. -/
def OutM (nm : Nat → Nat) (i : Nat) (v : Value) (M : List (Nat × Option Blk)) (Hc : Hp) (k : Nat) (v' : Value) (H' : Hp) (k' : Nat) : Prop :=
  k ≤ k' ∧ ((v' = v ∧ H' = setM nm Hc M) ∨ ∃ (n : Nat) (f : Nat → Value) (b : Blk) (M' : List (Nat × Option Blk)), k ≤ n ∧ n < k' ∧ RenOk f ∧ v' = f n ∧ v = f (nm i) ∧ M = M' ++ [(i, some b)] ∧ H' = upd (setM nm Hc M') n (some b))

section
variable {P : Program} {NG N : Nat} {Q : Exit → St → Prop} {ops : Array Oper} {fr : Fr} {H : Hp} {nk : Nat}

def DrawM (P : Program) (NG : Nat) (ops : Array Oper) (fr : Fr) (nk m : Nat) (nm : Nat → Nat) (W : List (List Nat × List Nat)) (Hb : Hp) (K : Fr → (Nat → Option Blk) → Nat → Prop) : Nat → Fr → (Nat → Option Blk) → Prop
  | 0, env, ct => ∀ k, nk + m ≤ k → K env ct k
  | n + 1, env, ct => ∃ (o : Oper) (v : Value) (M : List (Nat × Option Blk)), ops[m - (n + 1)]? = some o ∧ M.map (·.1) = (W.getD (m - (n + 1)) ([], [])).1 ∧
      (∃ U, useOk ops (m - (n + 1)) U = true ∧ ∀ (Hc : Hp) (k : Nat), nk + m ≤ k → (∀ c, c ∈ (W.getD (m - (n + 1)) ([], [])).1 ++ (W.getD (m - (n + 1)) ([], [])).2 → Hc (nm c) = ct c) → Sub Hb Hc → (∀ q, k ≤ q → Hc q = none) →
        stepA P NG ops o ⟨useFr env fr U, Hc, k⟩ (OutM nm (m - (n + 1)) v M Hc k)) ∧
      DrawM P NG ops fr nk m nm W Hb K n (upd env (m - (n + 1)) (some v)) (setC ct M)

theorem ctX_congr {ct0 : Nat → Option Blk} {M M' : Nat → List (Nat × Option Blk)} {X : Nat → Bool} : ∀ (p : Nat), (∀ i, i < p → M i = M' i) → ctX ct0 M X p = ctX ct0 M' X p
  | 0, _ => rfl
  | p + 1, h => by
    simp only [ctX, ctX_congr p (fun i hi => h i (by omega)), h p (by omega)]

theorem drawM_values {m : Nat} {nm : Nat → Nat} {W : List (List Nat × List Nat)} {Hb : Hp} {K : Fr → (Nat → Option Blk) → Nat → Prop} {ct0 : Nat → Option Blk} : ∀ (n : Nat) (env : Fr) (ct : Nat → Option Blk) (M0 : Nat → List (Nat × Option Blk)), n ≤ m → (∀ j, m - n ≤ j → env j = none) → ct = ctX ct0 M0 (fun _ => true) (m - n) →
    DrawM P NG ops fr nk m nm W Hb K n env ct →
    ∃ (all : Fr) (M : Nat → List (Nat × Option Blk)), (∀ i, i < m - n → all i = env i ∧ M i = M0 i) ∧ (∀ k, nk + m ≤ k → K all (ctX ct0 M (fun _ => true) m) k) ∧
      ∀ i, m - n ≤ i → i < m → ∃ o v, ops[i]? = some o ∧ all i = some v ∧ (M i).map (·.1) = (W.getD i ([], [])).1 ∧ ∃ U, useOk ops i U = true ∧ ∀ (Hc : Hp) (k : Nat), nk + m ≤ k →
        (∀ c, c ∈ (W.getD i ([], [])).1 ++ (W.getD i ([], [])).2 → Hc (nm c) = ctX ct0 M (fun _ => true) i c) → Sub Hb Hc → (∀ q, k ≤ q → Hc q = none) →
        stepA P NG ops o ⟨useFr (fun j => if j < i then all j else none) fr U, Hc, k⟩ (OutM nm i v (M i) Hc k)
  | 0, env, ct, M0, _, hl, hct, h => ⟨env, M0, fun _ _ => ⟨rfl, rfl⟩, fun k hk => by
      have := h k hk
      rw [hct] at this
      exact this, fun i h1 h2 => by omega⟩
  | n + 1, env, ct, M0, hn, hl, hct, h => by
    obtain ⟨o, v, M1, ho, hM1, ⟨U, hU, hst⟩, hr⟩ := h
    have e1 : ctX ct0 (fun j => if j = m - (n + 1) then M1 else M0 j) (fun _ => true) (m - (n + 1)) = ct := by
      rw [hct]
      exact ctX_congr _ (fun i hi => if_neg (show ¬ i = m - (n + 1) by omega))
    obtain ⟨all, M, h2, h3, h4⟩ := drawM_values n (upd env (m - (n + 1)) (some v)) (setC ct M1) (fun j => if j = m - (n + 1) then M1 else M0 j) (by omega) (fun j hj => by
      rw [upd_other _ _ (by omega)]
      exact hl j (by omega)) (by
        rw [show m - n = (m - (n + 1)) + 1 by omega]
        show setC ct M1 = if true = true then setC (ctX ct0 (fun j => if j = m - (n + 1) then M1 else M0 j) (fun _ => true) (m - (n + 1))) (if m - (n + 1) = m - (n + 1) then M1 else M0 (m - (n + 1))) else _
        rw [if_pos rfl, if_pos rfl, e1]) hr
    have hMi : ∀ i, i < m - (n + 1) → M i = M0 i := fun i hi => by
      rw [(h2 i (by omega)).2]
      exact if_neg (show ¬ i = m - (n + 1) by omega)
    have hMm : M (m - (n + 1)) = M1 := by
      rw [(h2 _ (by omega)).2]
      exact if_pos rfl
    refine ⟨all, M, fun i hi => ⟨?_, hMi i hi⟩, h3, fun i hi1 hi2 => ?_⟩
    · rw [(h2 i (by omega)).1, upd_other _ _ (by omega)]
    · rcases Nat.lt_or_ge i (m - n) with hlt | hge
      · have e : i = m - (n + 1) := by omega
        subst e
        refine ⟨o, v, ho, ?_, by rw [hMm]; exact hM1, U, hU, fun Hc k hk hc hs hf => ?_⟩
        · rw [(h2 _ (by omega)).1, upd_same]
        · have e2 : (fun j => if j < m - (n + 1) then all j else none) = env := by
            funext j
            by_cases hj : j < m - (n + 1)
            · rw [if_pos hj, (h2 j (by omega)).1, upd_other _ _ (by omega)]
            · rw [if_neg hj, hl j (by omega)]
          rw [e2, hMm]
          refine hst Hc k hk (fun c hc' => ?_) hs hf
          rw [hc c hc', hct, ctX_congr (m - (n + 1)) hMi]
      · exact h4 i hge hi2

theorem setM_append {nm : Nat → Nat} : ∀ (M M' : List (Nat × Option Blk)) (X : Hp), setM nm X (M ++ M') = setM nm (setM nm X M) M'
  | [], _, _ => rfl
  | (c, b) :: M, M', X => by
    rw [List.cons_append, setM, setM, setM_append M M']
theorem setM_out {nm : Nat → Nat} {n : Nat} : ∀ (M : List (Nat × Option Blk)) (X : Hp), (∀ p ∈ M, nm p.1 ≠ n) → setM nm X M n = X n
  | [], _, _ => rfl
  | (c, b) :: M, X, h => by
    rw [setM, setM_out M _ (fun p hp => h p (by simp [hp])), upd_other _ _ (Ne.symm (h (c, b) (by simp)))]

theorem ACode.drawM {id : Nat} (m : Nat) (L : List (Nat × Nat)) (bs C : List Nat) (W : List (List Nat × List Nat)) (ct0 : Nat → Option Blk) (Hb : Hp) (hm : P.follows .mixedOrders = true) (hok : drawOk N ops m L = true) (hW : modsOk ops m W C = true)
    (hnd : (C.map (nmC nk m bs)).Nodup) (hbs : ∀ b ∈ bs, b < nk) (hct : ∀ c ∈ C, H (nmC nk m bs c) = ct0 c) (hHb : ∀ n b, Hb n = some b → H n = some b ∧ n ∉ C.map (nmC nk m bs))
    (h : DrawM P NG ops fr nk m (nmC nk m bs) W Hb (fun env ct k => aOps P NG ops (Q .normal) (List.range' m (ops.size - m)) ⟨puts fr (L.map fun p => (p.2, (env p.1).getD undef)), Hof (nmC nk m bs) C H ct, k⟩) m (fun _ => none) ct0) :
    ACode P NG N (.region id ops true) Q ⟨fr, H, nk⟩ := by
  unfold drawOk at hok
  simp only [Bool.and_eq_true, decide_eq_true_eq] at hok
  obtain ⟨⟨⟨⟨⟨hd, hmn⟩, ht⟩, hbk⟩, hL⟩, hnd2⟩ := hok
  obtain ⟨all, M, _, hK, hall⟩ := drawM_values (ct0 := ct0) m (fun _ => none) ct0 (fun _ => []) (Nat.le_refl _) (fun _ _ => rfl) (by rw [Nat.sub_self]; rfl) h
  have hms : ∀ i j, i < m → j < i → (∃ c, (c ∈ (W.getD j ([], [])).1 ∧ (c ∈ (W.getD i ([], [])).1 ∨ c ∈ (W.getD i ([], [])).2)) ∨ (c ∈ (W.getD i ([], [])).1 ∧ c ∈ (W.getD j ([], [])).2)) → anc (ancMask ops ops.size) i j = true := by
    intro i j hi hj hc
    unfold modsOk at hW
    simp only [List.all_eq_true, Bool.and_eq_true] at hW
    have h1 := (hW i (List.mem_range.2 hi)).2 j (List.mem_range.2 hj)
    rw [Bool.or_eq_true] at h1
    rcases h1 with h1 | h1
    · exfalso
      rw [Bool.not_eq_true', Bool.or_eq_false_iff] at h1
      obtain ⟨c, hc | hc⟩ := hc
      · have := List.any_eq_false.1 h1.1 c hc.1
        simp only [Bool.or_eq_true, List.contains_iff_mem, not_or] at this
        exact hc.2.elim this.1 this.2
      · have := List.any_eq_false.1 h1.2 c hc.1
        simp only [List.contains_iff_mem] at this
        exact this hc.2
    · exact h1
  have hCW : ∀ i, i < m → ∀ c, c ∈ (W.getD i ([], [])).1 ++ (W.getD i ([], [])).2 → c ∈ C := by
    intro i hi c hc
    unfold modsOk at hW
    simp only [List.all_eq_true, Bool.and_eq_true] at hW
    have h1 := (hW i (List.mem_range.2 hi)).1 c hc
    simpa using h1
  have hMW : ∀ i, i < m → (M i).map (·.1) = (W.getD i ([], [])).1 := fun i hi => by
    obtain ⟨_, _, _, _, e, _⟩ := hall i (by omega) hi
    exact e
  have hMc : ∀ i, i < m → ∀ c, (∃ q ∈ M i, q.1 = c) → c ∈ (W.getD i ([], [])).1 := fun i hi c ⟨q, hq, e⟩ => by
    rw [← hMW i hi]
    exact List.mem_map.2 ⟨q, hq, e⟩
  have hnm : ∀ c, 0 < m → nmC nk m bs c < nk + m := by
    intro c h0
    unfold nmC
    split
    · omega
    · rw [List.getD_eq_getElem?_getD]
      cases hg : bs[c - m]? with
      | none => simp; omega
      | some b =>
        have := hbs b (List.mem_of_getElem? hg)
        simp
        omega
  have hX1 : ∀ (X : Nat → Bool) (i : Nat), Closed ops X → i < m → X i = false → (∀ q, edgeOn ops i q = true → X q = true) → ∀ c, c ∈ (W.getD i ([], [])).1 ++ (W.getD i ([], [])).2 → ctX ct0 M X m c = ctX ct0 M (fun _ => true) i c := by
    intro X i hcl hi hxi hed c hc
    have hlater : ∀ j, i ≤ j → j < m → (∃ q ∈ M j, q.1 = c) → X j = false := by
      intro j h1 h2 hj
      rcases Nat.lt_or_ge i j with hlt | hge
      · cases hxj : X j with
        | false => rfl
        | true =>
          have := anc_sound hcl hbk j j i (Nat.le_refl _) (by omega) (hms j i h2 hlt (by
            have hcj := hMc j h2 c hj
            rcases List.mem_append.1 hc with hc | hc
            · exact ⟨c, .inl ⟨hc, .inl hcj⟩⟩
            · exact ⟨c, .inr ⟨hcj, hc⟩⟩)) (fun q hq => hcl j q hxj hq)
          rw [this] at hxi
          cases hxi
      · have : j = i := by omega
        subst this
        exact hxi
    have e1 := ctX_from (ct0 := ct0) (M := M) (X := X) (c := c) (i := i) (m - i) (fun j h1 h2 h3 => hlater j h1 (by omega) h3)
    rw [show i + (m - i) = m by omega] at e1
    rw [e1]
    refine ctX_upto i fun j hj hq => ?_
    refine anc_sound hcl hbk i i j (Nat.le_refl _) (by omega) (hms i j hi hj ⟨c, .inl ⟨hMc j (by omega) c hq, by
      rcases List.mem_append.1 hc with hc | hc
      · exact .inl hc
      · exact .inr hc⟩⟩) hed
  have hX2 : ∀ (X : Nat → Bool) (i : Nat), Closed ops X → i < m → X i = false → ctX ct0 M (upd X i true) m = setC (ctX ct0 M X m) (M i) := by
    intro X i hcl hi hxi
    funext c
    by_cases hc : ∃ q ∈ M i, q.1 = c
    · have hlater : ∀ Y : Nat → Bool, (∀ j, j ≠ i → Y j = X j) → ∀ j, i + 1 ≤ j → j < (i + 1) + (m - (i + 1)) → (∃ q ∈ M j, q.1 = c) → Y j = false := by
        intro Y hY j h1 h2 hj
        rw [hY j (by omega)]
        cases hxj : X j with
        | false => rfl
        | true =>
          have := anc_sound hcl hbk j j i (Nat.le_refl _) (by omega) (hms j i (by omega) (by omega) ⟨c, .inl ⟨hMc i hi c hc, .inl (hMc j (by omega) c hj)⟩⟩) (fun q hq => hcl j q hxj hq)
          rw [this] at hxi
          cases hxi
      have e1 := ctX_from (ct0 := ct0) (M := M) (X := upd X i true) (c := c) (i := i + 1) (m - (i + 1)) (hlater _ fun j hj => upd_other _ _ hj)
      rw [show i + 1 + (m - (i + 1)) = m by omega] at e1
      rw [e1]
      show (if upd X i true i then setC (ctX ct0 M (upd X i true) i) (M i) else _) c = _
      rw [upd_same, if_pos rfl]
      exact setC_in _ _ _ hc
    · have hc' : ∀ q ∈ M i, q.1 ≠ c := fun q hq e => hc ⟨q, hq, e⟩
      rw [setC_other _ _ hc']
      refine ctX_upto m fun j hj hq => ?_
      by_cases hji : j = i
      · subst hji; exact absurd hq hc
      · exact upd_other _ _ hji
  have htail : ∀ i j, m ≤ i → i < ops.size → j < i → anc (ancMask ops ops.size) i j = true := by
    intro i j h1 h2 h3
    unfold tailOk at ht
    rw [List.all_eq_true] at ht
    have := ht i (List.mem_range.2 h2)
    simp only [Bool.or_eq_true, decide_eq_true_eq, List.all_eq_true] at this
    rcases this with h | h
    · omega
    · exact h j (List.mem_range.2 h3)
  have frame : ∀ (X : Nat → Bool) (fr' : Fr), (∀ i, i < m → X i = true) → (∀ i, m ≤ i → X i = false) →
      (∀ i o t, ops[i]? = some o → o.dst = some t → X i = true → fr' t = all i) → (∀ t, (∀ j oj, ops[j]? = some oj → oj.dst = some t → X j = false) → fr' t = fr t) →
      fr' = puts fr (L.map fun p => (p.2, (all p.1).getD undef)) := by
    intro X fr' h1 h2 h3 h4
    funext t
    by_cases hex : ∃ i, (i, t) ∈ L
    · obtain ⟨i, hp⟩ := hex
      have hp' := hp
      rw [← hL, mem_dstList] at hp
      obtain ⟨hi, o, ho, hdst⟩ := hp
      obtain ⟨o', v, _, hv, _⟩ := hall i (by omega) hi
      rw [h3 i o t ho hdst (h1 i hi), hv]
      refine (puts_at _ _ (by simpa [List.map_map, Function.comp_def] using hnd2) (List.mem_map.2 ⟨(i, t), hp', ?_⟩)).symm
      simp [hv]
    · rw [puts_other]
      · refine h4 t fun j oj hj hdj => ?_
        rcases Nat.lt_or_ge j m with hlt | hge
        · exact absurd ⟨j, by rw [← hL, mem_dstList]; exact ⟨hlt, oj, hj, hdj⟩⟩ hex
        · exact h2 j hge
      · intro p hp e
        obtain ⟨q, hq, rfl⟩ := List.mem_map.1 hp
        exact hex ⟨q.1, by simpa [← e] using hq⟩
  refine ACode.region_drawG hm hd (nk + m) (Nat.le_add_right _ _) (fun X fr' Hc k G => Closed ops X ∧ (∀ i, ops.size ≤ i → X i = false) ∧
      (((∀ i, m ≤ i → X i = false) ∧ nk + m ≤ k ∧ Hc = Hof (nmC nk m bs) C H (ctX ct0 M X m) ∧ (∀ i, i < m → X i = false → G (nk + i) = .free) ∧ (∀ q, k ≤ q → Hc q = none) ∧
          (∀ i o t, ops[i]? = some o → o.dst = some t → X i = true → fr' t = all i) ∧ (∀ t, (∀ j oj, ops[j]? = some oj → oj.dst = some t → X j = false) → fr' t = fr t)) ∨
       ∃ p, m < p ∧ p ≤ ops.size ∧ (∀ i, i < p → X i = true) ∧ (∀ i, p ≤ i → X i = false) ∧ aOps P NG ops (Q .normal) (List.range' p (ops.size - p)) ⟨fr', Hc, k⟩)) ?_ ?_ ?_
  · intro G hG
    have e0 : ∀ p, ctX ct0 M (fun _ => false) p = ct0 := by
      intro p
      induction p with
      | zero => rfl
      | succ p ih => exact ih
    exact ⟨fun i j h => by simp at h, fun _ _ => rfl, .inl ⟨fun _ _ => rfl, Nat.le_refl _, by rw [e0]; exact (Hof_start hnd hct).symm, fun i _ _ => (hG _ (Nat.le_add_right _ _)).1, fun q hq => (hG q (Nat.le_trans (Nat.le_add_right _ _) hq)).2, fun i o t _ _ h => by simp at h, fun _ _ => rfl⟩⟩
  · rintro i o X fr' Hc k G ho hxi hedge ⟨hcl, hbig, hst⟩
    have hlt := (Array.getElem?_eq_some_iff.1 ho).1
    have hed : ∀ q, edgeOn ops i q = true → X q = true := by
      intro q hq
      obtain ⟨o', ho', e, he, hb, rfl⟩ := edge_mem.1 hq
      rw [ho] at ho'
      injection ho' with ho'
      subst ho'
      exact hedge e he hb
    have hcl' : Closed ops (upd X i true) := by
      intro a b ha hab
      by_cases hb : b = i
      · subst hb; exact upd_same _ _ _
      · rw [upd_other _ _ hb]
        by_cases hai : a = i
        · subst hai; exact hed b hab
        · rw [upd_other _ _ hai] at ha; exact hcl a b ha hab
    have hbig' : ∀ j, ops.size ≤ j → upd X i true j = false := fun j hj => by rw [upd_other _ _ (by omega)]; exact hbig j hj
    -- the tail's next operation
    have tailStep : ∀ p, m ≤ p → p < ops.size → (∀ j, j < p → X j = true) → (∀ j, p ≤ j → X j = false) → i = p → aOps P NG ops (Q .normal) (List.range' p (ops.size - p)) ⟨fr', Hc, k⟩ →
        stepA P NG ops o ⟨fr', Hc, k⟩ fun v H' k' => ∃ p, m < p ∧ p ≤ ops.size ∧ (∀ j, j < p → upd X i true j = true) ∧ (∀ j, p ≤ j → upd X i true j = false) ∧ aOps P NG ops (Q .normal) (List.range' p (ops.size - p)) ⟨putA fr' o.dst v, H', k'⟩ := by
      intro p hp hps hlo hhi hip ha
      subst hip
      rw [show ops.size - i = (ops.size - (i + 1)) + 1 by omega, List.range'_succ, aOps_cons ho] at ha
      refine ha.mono fun v H' k' h => ⟨i + 1, by omega, by omega, fun j hj => ?_, fun j hj => ?_, h⟩
      · by_cases hji : j = i
        · subst hji; exact upd_same _ _ _
        · rw [upd_other _ _ hji]; exact hlo j (by omega)
      · rw [upd_other _ _ (by omega)]
        exact hhi j (by omega)
    have done : ∀ {R : Value → Hp → Nat → Prop}, stepA P NG ops o ⟨fr', Hc, k⟩ R → (∀ v H' k', R v H' k' → ∃ p, m < p ∧ p ≤ ops.size ∧ (∀ j, j < p → upd X i true j = true) ∧ (∀ j, p ≤ j → upd X i true j = false) ∧ aOps P NG ops (Q .normal) (List.range' p (ops.size - p)) ⟨putA fr' o.dst v, H', k'⟩) →
        stepA P NG ops o ⟨fr', Hc, k⟩ fun v H' k' => ∀ (B : Nat) (w0 w w' ws : World) (G' Gs : GMap) (v' : Value), VRel G' v v' → SRel NG B w0 G' H' k' w' → SRel NG B w0 G Hc k w → NG ≤ nk → Keep Hc k G w H' k' G' w' → Keep H nk Gs ws Hc k G w → (∀ n, nk ≤ n → H n = none ∧ Gs n = .free) →
          ∃ v2 H2 G2, VRel G2 v2 v' ∧ SRel NG B w0 G2 H2 k' w' ∧ Keep H nk Gs ws H2 k' G2 w' ∧ GLe G G2 ∧ (Closed ops (upd X i true) ∧ (∀ j, ops.size ≤ j → upd X i true j = false) ∧
      (((∀ j, m ≤ j → upd X i true j = false) ∧ nk + m ≤ k' ∧ H2 = Hof (nmC nk m bs) C H (ctX ct0 M (upd X i true) m) ∧ (∀ j, j < m → upd X i true j = false → G2 (nk + j) = .free) ∧ (∀ q, k' ≤ q → H2 q = none) ∧
          (∀ j oj t, ops[j]? = some oj → oj.dst = some t → upd X i true j = true → putA fr' o.dst v2 t = all j) ∧ (∀ t, (∀ j oj, ops[j]? = some oj → oj.dst = some t → upd X i true j = false) → putA fr' o.dst v2 t = fr t)) ∨
       ∃ p, m < p ∧ p ≤ ops.size ∧ (∀ j, j < p → upd X i true j = true) ∧ (∀ j, p ≤ j → upd X i true j = false) ∧ aOps P NG ops (Q .normal) (List.range' p (ops.size - p)) ⟨putA fr' o.dst v2, H2, k'⟩)) := by
      intro R hR hI
      exact hR.mono fun v H' k' hr B w0 w w' ws G' Gs v' hv hS hS0 hle hK hKs hf => ⟨v, H', G', hv, hS, hKs.trans (fun n hn => (hf n hn).2) hK, hK.le, hcl', hbig', .inr (hI v H' k' hr)⟩
    rcases hst with ⟨hno, hk, hHc, hfree, hfresh, hvals, holds⟩ | ⟨p, hp, hps, hlo, hhi, ha⟩
    · by_cases him : i < m
      · obtain ⟨o', v, ho', hv, hMi, U, hU, hstep⟩ := hall i (by omega) him
        rw [ho] at ho'
        injection ho' with ho'
        subst ho'
        have h1 := hstep Hc k hk (fun c hc => by
          rw [hHc, Hof_at hnd (hCW i him c hc)]
          exact hX1 X i hcl him hxi hed c hc) (fun n b hn => by
          obtain ⟨e1, e2⟩ := hHb n b hn
          rw [hHc, Hof_out e2]
          exact e1) hfresh
        have hMC : ∀ q ∈ M i, q.1 ∈ C := fun q hq => hCW i him q.1 (List.mem_append_left _ (hMc i him q.1 ⟨q, hq, rfl⟩))
        have hheap : setM (nmC nk m bs) Hc (M i) = Hof (nmC nk m bs) C H (ctX ct0 M (upd X i true) m) := by
          rw [hX2 X i hcl him hxi, Hof_setC hnd (M i) _ hMC, ← hHc]
        have hno' : ∀ j, m ≤ j → upd X i true j = false := fun j hj => by rw [upd_other _ _ (by omega)]; exact hno j hj
        have inj : ∀ t j, (i, t) ∈ L → (j, t) ∈ L → j = i := by
          intro t j
          have key : ∀ l : List (Nat × Nat), (l.map (·.2)).Nodup → (i, t) ∈ l → (j, t) ∈ l → j = i := by
            intro l
            induction l with
            | nil => intro _ h; cases h
            | cons q l ih =>
              intro hn ha hb
              simp only [List.map_cons, List.nodup_cons] at hn
              rcases List.mem_cons.1 ha with ha | ha
              · rcases List.mem_cons.1 hb with hb | hb
                · rw [← ha] at hb; injection hb
                · exact absurd (List.mem_map.2 ⟨(j, t), hb, by rw [← ha]⟩) hn.1
              · rcases List.mem_cons.1 hb with hb | hb
                · exact absurd (List.mem_map.2 ⟨(i, t), ha, by rw [← hb]⟩) hn.1
                · exact ih hn.2 ha hb
          exact key L hnd2
        have hv1 : ∀ j oj t, ops[j]? = some oj → oj.dst = some t → upd X i true j = true → putA fr' o.dst v t = all j := by
          intro j oj t hj hdj hx
          by_cases hji : j = i
          · subst hji
            rw [ho] at hj
            injection hj with hj
            subst hj
            rw [hdj, hv]
            exact upd_same _ _ _
          · rw [upd_other _ _ hji] at hx
            have h2 := hvals j oj t hj hdj hx
            cases hdo : o.dst with
            | none => exact h2
            | some u =>
              show upd fr' u (some v) t = _
              by_cases htu : t = u
              · subst htu
                have hjm : j < m := by
                  rcases Nat.lt_or_ge j m with hl | hl
                  · exact hl
                  · rw [hno j hl] at hx; cases hx
                have e1 : (i, t) ∈ L := by rw [← hL, mem_dstList]; exact ⟨him, o, ho, hdo⟩
                have e2 : (j, t) ∈ L := by rw [← hL, mem_dstList]; exact ⟨hjm, oj, hj, hdj⟩
                exact absurd (inj t j e1 e2) hji
              · rw [upd_other _ _ htu]; exact h2
        have hv2 : ∀ t, (∀ j oj, ops[j]? = some oj → oj.dst = some t → upd X i true j = false) → putA fr' o.dst v t = fr t := by
          intro t hw
          have h2 : fr' t = fr t := holds t fun j oj hj hdj => by
            have := hw j oj hj hdj
            by_cases hji : j = i
            · subst hji; rw [upd_same] at this; cases this
            · rwa [upd_other _ _ hji] at this
          cases hdo : o.dst with
          | none => exact h2
          | some u =>
            show upd fr' u (some v) t = _
            by_cases htu : t = u
            · subst htu
              have := hw i o ho hdo
              rw [upd_same] at this
              cases this
            · rw [upd_other _ _ htu]; exact h2
        refine (stepA_less h1 fun t u hu => ?_).mono ?_
        · unfold useOk at hU
          rw [List.all_eq_true] at hU
          rcases useFr_get U hu with ⟨j, hj, hu2⟩ | ⟨hj, hu2⟩
          · have := hU _ hj
            simp only [Bool.and_eq_true] at this
            obtain ⟨he, hd'⟩ := this
            cases hoj : ops[j]? with
            | none => simp [hoj] at hd'
            | some oj =>
              simp only [hoj, beq_iff_eq] at hd'
              rw [hvals j oj t hoj hd' (hed j he)]
              split at hu2
              · exact hu2
              · cases hu2
          · have := hU _ hj
            simp only [List.all_eq_true] at this
            rw [holds t fun j oj hoj hdj => ?_]
            · exact hu2
            · have hlt2 := (Array.getElem?_eq_some_iff.1 hoj).1
              have h5 := this j (List.mem_range.2 hlt2)
              simp only [hoj, hdj, beq_self_eq_true, Bool.not_true, Bool.false_or, Bool.or_eq_true, beq_iff_eq] at h5
              rcases h5 with rfl | he
              · exact hxi
              · cases hxj : X j with
                | false => rfl
                | true => rw [hcl j i hxj he] at hxi; cases hxi
        · rintro v' H' k' ⟨hkk, hout⟩ B w0 w w' ws G' Gs x hvx hS hS0 hle hK hKs hf
          have frees : ∀ j, j < m → X j = false → G' (nk + j) = .free := fun j hj hx =>
            (hK.same (nk + j) (by omega) (hS0.free_none (hfree j hj hx))).trans (hfree j hj hx)
          have hKs' := hKs.trans (fun n hn => (hf n hn).2) hK
          rcases hout with ⟨rfl, hH⟩ | ⟨n, f, b, M', hn1, hn2, hren, rfl, hvf, hM, hH⟩
          · refine ⟨v', H', G', hvx, hS, hKs', hK.le, hcl', hbig', .inl ⟨hno', by omega, hH.trans hheap, fun j hj hx => ?_, fun q hq => (hS.fresh q hq).1, hv1, hv2⟩⟩
            by_cases hji : j = i
            · subst hji; rw [upd_same] at hx; cases hx
            · rw [upd_other _ _ hji] at hx
              exact frees j hj hx
          · have hr := frees i him hxi
            have hHn : H' n = some b := by rw [hH, upd_same]
            have hHr : H' (nk + i) = none := hS.free_none hr
            have hmi : nmC nk m bs i = nk + i := if_pos him
            have hMout : ∀ p ∈ M', nmC nk m bs p.1 ≠ n := fun p hp e => by
              have := hnm p.1 (by omega)
              omega
            have hdrop : upd H' n none = setM (nmC nk m bs) Hc M' := by
              rw [hH]
              funext q
              by_cases hq : q = n
              · subst hq
                rw [upd_same, setM_out M' _ hMout]
                exact (hfresh q hn1).symm
              · rw [upd_other _ _ hq, upd_other _ _ hq]
            have hH2 : upd (upd H' n none) (nk + i) (some b) = setM (nmC nk m bs) Hc (M i) := by
              rw [hdrop, hM, setM_append]
              show _ = upd (setM (nmC nk m bs) Hc M') (nmC nk m bs i) (some b)
              rw [hmi]
            have hle' : NG ≤ nk := hle
            have hSr := hS.rename hHn hHr hr (by omega) (by omega)
            have hKr := Keep.rename (k0 := nk) hKs' hHn hHr hr (by omega) (by omega) hf
            refine ⟨v, upd (upd H' n none) (nk + i) (some b), upd G' (nk + i) (G' n), ?_, hSr, hKr, ?_, hcl', hbig', .inl ⟨hno', by omega, hH2.trans hheap, fun j hj hx => ?_, fun q hq => (hSr.fresh q hq).1, hv1, hv2⟩⟩
            · rw [hvf, hmi]
              exact hren G' _ n (nk + i) x hvx (upd_same _ _ _) (fun q hq => upd_other _ _ hq)
            · refine hK.le.trans fun q => ?_
              by_cases hq : q = nk + i
              · subst hq; rw [hr]; trivial
              · rw [upd_other _ _ hq]; exact GB.le_refl _
            · by_cases hji : j = i
              · subst hji; rw [upd_same] at hx; cases hx
              · rw [upd_other _ _ hji] at hx
                rw [upd_other _ _ (by omega)]
                exact frees j hj hx
      · have hallX : ∀ j, j < i → X j = true := fun j hj => anc_sound hcl hbk i i j (Nat.le_refl _) hlt (htail i j (by omega) hlt hj) hed
        have him' : i = m := by
          rcases Nat.lt_or_ge m i with h | h
          · have := hallX m h
            rw [hno m (Nat.le_refl _)] at this
            cases this
          · omega
        have hfr := frame X fr' (fun j hj => hallX j (by omega)) hno hvals holds
        have hK' := hK k hk
        have hXt : ctX ct0 M X m = ctX ct0 M (fun _ => true) m := by
          funext c
          exact ctX_upto m fun j hj _ => hallX j (by omega)
        rw [← hfr, ← hXt, ← hHc] at hK'
        exact done (tailStep m (Nat.le_refl _) (by omega) (fun j hj => hallX j (by omega)) hno him' hK') fun v H' k' h => h
    · have hip : i = p := by
        have hpi : p ≤ i := by
          rcases Nat.lt_or_ge i p with h | h
          · rw [hlo i h] at hxi; cases hxi
          · exact h
        rcases Nat.lt_or_ge p i with h | h
        · have := anc_sound hcl hbk i i p (Nat.le_refl _) hlt (htail i p (by omega) hlt h) hed
          rw [hhi p (Nat.le_refl _)] at this
          cases this
        · omega
      exact done (tailStep p (by omega) (by omega) hlo hhi hip ha) fun v H' k' h => h
  · rintro X fr' Hc k G hdone ⟨hcl, hbig, hst⟩
    have hallX : ∀ i, i < ops.size → X i = true := by
      intro i
      induction i using Nat.strongRecOn with
      | _ i ih =>
        intro hi
        cases hx : X i with
        | true => rfl
        | false =>
          obtain ⟨e, he, hb, hxe⟩ := hdone i _ (Array.getElem?_eq_getElem hi) hx
          unfold backOk at hbk
          rw [List.all_eq_true] at hbk
          have h1 := hbk i (List.mem_range.2 hi)
          rw [Array.getElem?_eq_getElem hi] at h1
          simp only [Array.all_eq_true_iff_forall_mem] at h1
          have h2 := h1 e he
          rw [hb] at h2
          simp only [Bool.not_true, Bool.false_or, decide_eq_true_eq] at h2
          rw [ih e.on h2 (by omega)] at hxe
          cases hxe
    rcases hst with ⟨hno, hk, hHc, hfree, hfresh, hvals, holds⟩ | ⟨p, hp, hps, hlo, hhi, ha⟩
    · have hsz : m = ops.size := by
        rcases Nat.lt_or_ge m ops.size with h | h
        · have := hallX m h
          rw [hno m (Nat.le_refl _)] at this
          cases this
        · omega
      have hfr := frame X fr' (fun j hj => hallX j (by omega)) hno hvals holds
      have hK' := hK k hk
      have hXt : ctX ct0 M X m = ctX ct0 M (fun _ => true) m := by
        funext c
        exact ctX_upto m fun j hj _ => hallX j (by omega)
      rw [← hfr, ← hXt, ← hHc, show ops.size - m = 0 by omega] at hK'
      exact hK'
    · have hsz : p = ops.size := by
        rcases Nat.lt_or_ge p ops.size with h | h
        · have := hallX p h
          rw [hhi p (Nat.le_refl _)] at this
          cases this
        · omega
      rw [show ops.size - p = 0 by omega] at ha
      exact ha
end
end Go.Ab
