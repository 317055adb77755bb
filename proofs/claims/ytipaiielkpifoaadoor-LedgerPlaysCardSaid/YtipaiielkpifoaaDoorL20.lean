/- Contracts over the abstract states: the statement on what a ledger has and tells. -/
import Derived.Test.YtipaiielkpifoaaDoorL18
set_option linter.unusedVariables false
set_option linter.unusedSimpArgs false
set_option maxRecDepth 100000
namespace Go.Proofs.YtipaiielkpifoaaDoor
open Go Go.Ab

theorem scals_append : ∀ {ds ds' : List TypeDesc} {cs cs' : List Value} {la lb : List Lit}, scals ds cs = some la → scals ds' cs' = some lb → scals (ds ++ ds') (cs ++ cs') = some (la ++ lb)
  | [], ds', [], cs', la, lb, h, h' => by
    injection h with h
    subst h
    exact h'
  | d :: ds, ds', v :: vs, cs', la, lb, h, h' => by
    simp only [scals, List.cons_append] at h ⊢
    cases h1 : scal d v with
    | none => rw [h1] at h; cases h
    | some l =>
      cases h2 : scals ds vs with
      | none => rw [h1, h2] at h; cases h
      | some r =>
        rw [h1, h2] at h
        have h3 := scals_append h2 h'
        rw [h3]
        injection h with h
        subst h
        rfl
  | [], _, _ :: _, _, _, _, h, _ => by cases h
  | _ :: _, _, [], _, _, _, h, _ => by cases h
theorem entc_sc (e : Ent) (h : e.ok) : (scals (List.replicate 32 (.int .u8) ++ [.int .i64] ++ List.replicate 32 (.int .u8)) (entc e).toArray.toList).isSome = true := by
  have h1 := scals_bytes e.s.l
  have h2 := scals_bytes e.r.l
  rw [e.s.h] at h1
  rw [e.r.h] at h2
  have h3 : scals [.int .i64] [.int .i64 e.g] = some [.int .i64 e.g] := by
    simp only [scals, scal]
    rw [if_pos ⟨trivial, litwf h.1 h.2⟩]
    rfl
  have h4 := scals_append (scals_append h1 h3) h2
  show (scals _ (entc e)).isSome = true
  rw [show entc e = (e.s.l.map bv ++ [.int .i64 e.g]) ++ e.r.l.map bv by simp [entc], h4]
  rfl
theorem good_ok {e : Ent} (h : good e = true) : e.ok := by
  have := good_le h
  exact ⟨by omega, by omega⟩
theorem eD_ok : eD.ok := ⟨by decide, by decide⟩
abbrev xblk (es : List Ent) : Blk := { cells := ecs es, elem := 38, kind := .grow, esz := 65 }
theorem ecs_len (es : List Ent) : (ecs es).length = es.length * 65 := flatMap_len entc_len es
theorem ecs_snoc (es : List Ent) (e : Ent) : ecs (es ++ [e]) = ecs es ++ entc e := by simp [ecs, List.flatMap_append]
theorem SLC.xblk {H : Hp} {n : Nat} {es : List Ent} (hn : H n = some (xblk es)) : SLC H 65 (some ⟨n, 0, some 1⟩) es.length es.length (ecs es) := SLC.grow hn rfl (by rw [ecs_len])
theorem goodL_yes {e : Ent} (h : good e = true) : goodL e = [e] := if_pos h
theorem goodL_no {e : Ent} (h : good e = false) : goodL e = [] := if_neg (by rw [h]; decide)
section
variable (H : Hp) (k : Nat)
theorem add_any2 (e : Ent) (n q : Nat) (es : List Ent) (vs : List Value) (X0 : Hp) (hX : Ab.Sub X0 H) (hG : LG X0 n q es vs) (hm : es.length < 1000000000) : ACalls Tryd.prog 1 18 [.pointer (some ⟨n, 0, none⟩), entv e] H k (fun v H' k' => k ≤ k' ∧ v = .int .i64 (if good e then 0 else 1) ∧ (∀ m, k' ≤ m → H' m = none) ∧ Ab.Sub (upd (upd H q none) n none) H' ∧
    ∃ X1 vs', LG X1 n q (es ++ goodL e) vs' ∧ Ab.Sub X1 H' ∧ Ab.Sub (upd (upd X0 q none) n none) X1 ∧ ∀ m, m < k → X0 m = none → X1 m = none) := by
  refine ACalls.fresh fun hf => ?_
  have hGH := hG.sub hX
  have hnk := old_lt hf hGH.hn
  have hqk := old_lt hf hGH.hq
  have hf0 : ∀ m, k ≤ m → X0 m = none := fun m hm => by
    cases h : X0 m with
    | none => rfl
    | some b =>
      have h1 := hX m b h
      rw [hf m hm] at h1
      cases h1
  cases hg : good e with
  | false =>
    refine (add_bad H k e hg n).mono ?_
    rintro v H' k' ⟨rfl, rfl, hk⟩
    refine ⟨hk, rfl, fun m hm => hf m (by omega), sub_drop (sub_drop (sub_refl _)), X0, vs, ?_, hX, sub_drop (sub_drop (sub_refl _)), fun m _ h => h⟩
    rw [goodL_no hg, List.append_nil]
    exact hG
  | true =>
    refine (add_good H k e hg n q hG.hnq es vs hG.len (by omega) hGH.hn hGH.hq).mono ?_
    rintro v H' k' ⟨f, h1, h2, rfl, rfl⟩
    have hqn : q ≠ n := fun h => hG.hnq h.symm
    have cutU : ∀ Y : Hp, (∀ m, k ≤ m → Y m = none) → Ab.Sub (upd (upd Y q none) n none) (upd (upd (upd Y f (some (gb (formB e)))) q (some (kblk T74 (es ++ [e]) (vs ++ [gsl f (formB e).length])))) n (some (lblk TL q (es ++ [e]).length))) := by
      intro Y hY m b hm
      by_cases h3 : m = n
      · subst h3; rw [upd_same] at hm; cases hm
      · by_cases h4 : m = q
        · subst h4; rw [upd_other _ _ h3, upd_same] at hm; cases hm
        · rw [upd_other _ _ h3, upd_other _ _ h4] at hm
          have h5 : m ≠ f := fun h => by rw [h, hY f h1] at hm; cases hm
          rw [upd_other _ _ h3, upd_other _ _ h4, upd_other _ _ h5]
          exact hm
    refine ⟨by omega, rfl, fun m hm => ?_, cutU H hf, upd (upd (upd X0 f (some (gb (formB e)))) q (some (kblk T74 (es ++ [e]) (vs ++ [gsl f (formB e).length])))) n (some (lblk TL q (es ++ [e]).length)), vs ++ [gsl f (formB e).length], ?_, sub_over0 (sub_over0 (sub_over0 hX)), cutU X0 hf0, fun m hm h => ?_⟩
    · (repeat refine (upd_other _ _ (by omega)).trans ?_)
      exact hf m (by omega)
    · rw [goodL_yes hg]
      refine ⟨upd_same _ _ _, (upd_other _ _ hqn).trans (upd_same _ _ _), ?_, ?_, by rw [List.length_append]; show es.length + 1 ≤ _; omega, hG.hnq⟩
      · rw [forms, List.map_append]
        refine Lvs.append (hG.hL0.sub ?_) (Lvs.cons (SLC.gb (e := 5) ?_) Lvs.nil)
        · intro m b hm
          by_cases h3 : m = n
          · subst h3; rw [upd_same] at hm; cases hm
          · by_cases h4 : m = q
            · subst h4; rw [upd_other _ _ h3, upd_same] at hm; cases hm
            · rw [upd_other _ _ h3, upd_other _ _ h4] at hm
              have h5 : m ≠ f := fun h => by rw [h, hf0 f h1] at hm; cases hm
              rw [upd_other _ _ h3, upd_other _ _ h4, upd_other _ _ h3, upd_other _ _ h4, upd_other _ _ h5]
              exact hm
        · rw [upd_other _ _ (by omega), upd_other _ _ (by omega), upd_other _ _ (by omega), upd_other _ _ (by omega)]
          exact upd_same _ _ _
      · intro x hx
        rcases List.mem_append.1 hx with h | h
        · exact hG.hg x h
        · rw [List.mem_singleton.1 h]; exact hg
    · have hmn : m ≠ n := fun e => by rw [e, hG.hn] at h; cases h
      have hmq : m ≠ q := fun e => by rw [e, hG.hq] at h; cases h
      rw [upd_other _ _ hmn, upd_other _ _ hmq, upd_other _ _ (by omega)]
      exact h

theorem ledgerPlays_A (ht : H 0 = some tabBlk) (l : List Ent) (A : Option Addr) (c : Nat) (hs : SLC H 65 A l.length c (ecs l)) (hl : l.length ≤ 9223372036854775807) (a : Nat) (ha : a < (goods l).length) : ACalls Tryd.prog 1 5 [.slice A l.length c, .int .i64 (a : Int)] H k (Same H k (.bool true)) := by
  refine ACalls.fresh fun hf => ?_
  refine ACalls.body Tryd.func5 rfl (Nat.le_of_ble_eq_true rfl) ?_
  have h0k := old_lt hf ht
  refine ACode.seq ?_
  refine ACode.region' [0] (by kernel_rfl) rfl ?_
  refine aOps_1 rfl rfl rfl (AOp.move' (.inr rfl) rfl ?_)
  refine aOps_end ?_
  show ACode _ _ _ _ _ _
  refine ACode.seq ?_
  refine ACode.seq ?_
  refine ACode.region' [0, 1, 2] (by kernel_rfl) rfl ?_
  refine aOps_1 rfl rfl rfl (AOp.move' (.inl rfl) rfl ?_)
  refine aOps_1 rfl rfl rfl (AOp.len' rfl rfl ?_)
  refine aOps_1 rfl rfl rfl (AOp.bin' rfl rfl rfl rfl ?_)
  refine aOps_end ?_
  show ACode _ _ _ _ _ _
  refine ACode.cond rfl (fun c0 => ?_) (fun c0 => ?_)
  · try simp only [decide_eq_true_eq, decide_eq_false_iff_not, beq_iff_eq, beq_eq_false_iff_ne, ne_eq, bne_iff_ne, Bool.not_eq_true', Bool.not_eq_false', Int.not_lt, Int.not_le, gt_iff_lt, ge_iff_le, bne_eq_false_iff_eq, Bool.not_eq_eq_eq_not, Bool.not_true, Bool.not_false] at c0
    refine ACode.seq ?_
    refine ACode.region' [0, 1] (by kernel_rfl) rfl ?_
    refine aOps_q rfl rfl rfl (AOp.call' rfl rfl rfl (awake21 _ _ (by repeat (first | assumption | exact upd_same _ _ _ | refine (upd_other _ _ (by omega)).trans ?_ | refine hsL4 _ _ ?_ | refine hsL5 _ _ ?_ | refine hsL6 _ _ ?_ | refine hsL9 _ _ ?_ | refine hsL8 _ _ ?_))) (fun _ _ _ h => h)) (fun kq hkq => ?_)
    refine aOps_1 rfl rfl rfl (AOp.move' (.inr rfl) rfl ?_)
    refine aOps_end ?_
    show ACode _ _ _ _ _ _
    refine ACode.ret ?_
    exact RetQ.one rfl rfl (by (repeat (first | exact sub_refl _ | assumption | refine sub_upd' ?_ (by ((repeat refine (upd_other _ _ (by omega)).trans ?_); first | exact hf _ (by omega) | exact hfL8 _ (by omega) | exact hfL9 _ (by omega) | exact hfL6 _ (by omega) | exact hfL5 _ (by omega) | exact hfL4 _ (by omega))) | refine sub_trans ?_ hsL4 | refine sub_trans ?_ hsL5 | refine sub_trans ?_ hsL6 | refine sub_trans ?_ hsL9 | refine sub_trans ?_ hsL8 | refine sub_over (by assumption) | refine sub_over0 ?_ | refine sub_trans (sub_same (by assumption)) ?_ | refine sub_dropu ?_ | refine sub_drop ?_ | refine sub_put ?_ (by repeat (first | assumption | exact upd_same _ _ _ | refine (upd_other _ _ (by omega)).trans ?_ | refine hsL4 _ _ ?_ | refine hsL5 _ _ ?_ | refine hsL6 _ _ ?_ | refine hsL9 _ _ ?_ | refine hsL8 _ _ ?_))))) stays (fun hk => ⟨rfl, rfl, by omega⟩)
  · try simp only [decide_eq_true_eq, decide_eq_false_iff_not, beq_iff_eq, beq_eq_false_iff_ne, ne_eq, bne_iff_ne, Bool.not_eq_true', Bool.not_eq_false', Int.not_lt, Int.not_le, gt_iff_lt, ge_iff_le, bne_eq_false_iff_eq, Bool.not_eq_eq_eq_not, Bool.not_true, Bool.not_false] at c0
    refine ACode.skip ?_
    show ACode _ _ _ _ _ _
    refine ACode.seq ?_
    refine ACode.region' [0, 1] (by kernel_rfl) rfl ?_
    refine aOps_1 rfl rfl rfl ?_
    refine AOp.call' rfl rfl rfl (new_l _ _) ?_
    rintro _ _ ka ⟨n, q, hna, hnq, hqa, rfl, rfl⟩
    have hG0 := LG.new (X := H) hnq
    refine aOps_1 rfl rfl rfl (AOp.move' (.inr rfl) rfl ?_)
    refine aOps_end ?_
    show ACode _ _ _ _ _ _
    refine ACode.seq ?_
    refine ACode.region' [0] (by kernel_rfl) rfl ?_
    refine aOps_1 rfl rfl rfl (AOp.move' (.inr rfl) rfl ?_)
    refine aOps_end ?_
    show ACode _ _ _ _ _ _
    refine ACode.seq ?_
    refine ACode.seq ?_
    refine ACode.adopt (t := 6) 38 65 (by decide) rfl ?_
    refine ACode.region' [0] (by kernel_rfl) rfl ?_
    refine aOps_1 rfl rfl rfl (AOp.move' (.inr rfl) rfl ?_)
    refine aOps_end ?_
    show ACode _ _ _ _ _ _
    refine ACode.block ?_
    refine ACode.countG (γ := Hp × List Value) (fun i g => [(7, .int .i64 (i : Int)), (6, .slice (some ⟨ka, 0, some 1⟩) (goods (l.take i)).length (goods (l.take i)).length)]) [(0, _), (1, _), (5, _), (20, _), (21, _), (22, _), (24, _)] (fun i g => upd g.1 ka (some (xblk (goods (l.take i))))) (l.length) (fun i g => Ab.Sub H g.1 ∧ LG g.1 n q (goods (l.take i)) g.2 ∧ g.1 ka = none) ((upd (upd H q (some (kblk T74 [] []))) n (some (lblk TL q 0)), [])) (.cons rfl (.cons rfl .nil)) (.cons rfl (.cons rfl (.cons rfl (.cons rfl (.cons rfl (.cons rfl (.cons rfl .nil))))))) (by (repeat (first | exact sub_refl _ | assumption | refine sub_upd' ?_ (by ((repeat refine (upd_other _ _ (by omega)).trans ?_); first | exact hf _ (by omega) | exact hfL8 _ (by omega) | exact hfL9 _ (by omega) | exact hfL6 _ (by omega) | exact hfL5 _ (by omega) | exact hfL4 _ (by omega))) | refine sub_trans ?_ hsL4 | refine sub_trans ?_ hsL5 | refine sub_trans ?_ hsL6 | refine sub_trans ?_ hsL9 | refine sub_trans ?_ hsL8 | refine sub_over (by assumption) | refine sub_over0 ?_ | refine sub_trans (sub_same (by assumption)) ?_ | refine sub_dropu ?_ | refine sub_drop ?_ | refine sub_put ?_ (by repeat (first | assumption | exact upd_same _ _ _ | refine (upd_other _ _ (by omega)).trans ?_ | refine hsL4 _ _ ?_ | refine hsL5 _ _ ?_ | refine hsL6 _ _ ?_ | refine hsL9 _ _ ?_ | refine hsL8 _ _ ?_))))) ⟨sub_upf hf hna (sub_upf hf (by omega) (sub_refl _)), hG0, (upd_other _ _ (by omega)).trans ((upd_other _ _ (by omega)).trans (hf ka (by omega)))⟩ (fun i0 g0 kL0 HL0 hiL0 hkL0 hsL0 hfL0 hxL0 => ?_)
    show ACode _ _ _ _ _ ⟨_, _, _⟩
    obtain ⟨hx1, hx2, hx3⟩ := hxL0
    have htg := hx1 _ _ ht
    have hXH : Ab.Sub g0.1 HL0 := sub_trans (sub_upd' (sub_refl _) hx3) hsL0
    have hH : Ab.Sub H HL0 := sub_trans hx1 hXH
    refine ACode.seq ?_
    refine ACode.seq ?_
    refine ACode.region' [0, 1, 2, 3] (by kernel_rfl) rfl ?_
    refine aOps_1 rfl rfl rfl (AOp.move' (.inl rfl) rfl ?_)
    refine aOps_1 rfl rfl rfl (AOp.move' (.inl rfl) rfl ?_)
    refine aOps_1 rfl rfl rfl (AOp.len' rfl rfl ?_)
    refine aOps_1 rfl rfl rfl (AOp.bin' rfl rfl rfl rfl ?_)
    refine aOps_end ?_
    show ACode _ _ _ _ _ _
    refine ACode.cond rfl (fun c1 => ?_) (fun c1 => ?_)
    · try simp only [decide_eq_true_eq, decide_eq_false_iff_not, beq_iff_eq, beq_eq_false_iff_ne, ne_eq, bne_iff_ne, Bool.not_eq_true', Bool.not_eq_false', Int.not_lt, Int.not_le, gt_iff_lt, ge_iff_le, bne_eq_false_iff_eq, Bool.not_eq_eq_eq_not, Bool.not_true, Bool.not_false] at c1
      refine ACode.skip ?_
      show ACode _ _ _ _ _ _
      refine ACode.seq ?_
      refine ACode.block ?_
      refine ACode.seq ?_
      obtain ⟨n8_2, o8_2, s8_2, hq8_2, hp8_2⟩ := SLC.elE (hs.sub hH) (show i0 < l.length by omega)
      obtain ⟨n8_9, o8_9, s8_9, hq8_9, hp8_9⟩ := SLC.elE (hs.sub hH) (show i0 < l.length by omega)
      refine ACode.region' [0, 1, 2, 3, 4, 5, 6, 7, 8, 9, 10, 11, 12, 13, 14] (by kernel_rfl) rfl ?_
      refine aOps_1 rfl rfl rfl (AOp.move' (.inl rfl) rfl ?_)
      refine aOps_1 rfl rfl rfl (AOp.move' (.inl rfl) rfl ?_)
      refine aOps_1 rfl rfl rfl (AOp.indexP (aslcAt_sub (by (repeat (first | exact sub_refl _ | assumption | refine sub_upd' ?_ (by ((repeat refine (upd_other _ _ (by omega)).trans ?_); first | exact hf _ (by omega) | exact hfL8 _ (by omega) | exact hfL9 _ (by omega) | exact hfL6 _ (by omega) | exact hfL5 _ (by omega) | exact hfL4 _ (by omega) | exact hfL0 _ (by omega))) | refine sub_trans ?_ hsL0 | refine sub_trans ?_ hsL4 | refine sub_trans ?_ hsL5 | refine sub_trans ?_ hsL6 | refine sub_trans ?_ hsL9 | refine sub_trans ?_ hsL8 | refine sub_over (by assumption) | refine sub_over0 ?_ | refine sub_trans (sub_same (by assumption)) ?_ | refine sub_dropu ?_ | refine sub_drop ?_ | refine sub_put ?_ (by repeat (first | assumption | exact upd_same _ _ _ | refine (upd_other _ _ (by omega)).trans ?_ | refine hsL0 _ _ ?_ | refine hsL4 _ _ ?_ | refine hsL5 _ _ ?_ | refine hsL6 _ _ ?_ | refine hsL9 _ _ ?_ | refine hsL8 _ _ ?_))))) hq8_2) rfl rfl rfl ?_)
      refine aOps_1 rfl rfl rfl (AOp.fieldP (hp8_2.sub (by (repeat (first | exact sub_refl _ | assumption | refine sub_upd' ?_ (by ((repeat refine (upd_other _ _ (by omega)).trans ?_); first | exact hf _ (by omega) | exact hfL8 _ (by omega) | exact hfL9 _ (by omega) | exact hfL6 _ (by omega) | exact hfL5 _ (by omega) | exact hfL4 _ (by omega) | exact hfL0 _ (by omega))) | refine sub_trans ?_ hsL0 | refine sub_trans ?_ hsL4 | refine sub_trans ?_ hsL5 | refine sub_trans ?_ hsL6 | refine sub_trans ?_ hsL9 | refine sub_trans ?_ hsL8 | refine sub_over (by assumption) | refine sub_over0 ?_ | refine sub_trans (sub_same (by assumption)) ?_ | refine sub_dropu ?_ | refine sub_drop ?_ | refine sub_put ?_ (by repeat (first | assumption | exact upd_same _ _ _ | refine (upd_other _ _ (by omega)).trans ?_ | refine hsL0 _ _ ?_ | refine hsL4 _ _ ?_ | refine hsL5 _ _ ?_ | refine hsL6 _ _ ?_ | refine hsL9 _ _ ?_ | refine hsL8 _ _ ?_)))))) rfl (by decide) (by rw [entc_len]; decide) rfl ?_)
      refine aOps_1 rfl rfl rfl (AOp.loadP1 (hp8_2.sub (by (repeat (first | exact sub_refl _ | assumption | refine sub_upd' ?_ (by ((repeat refine (upd_other _ _ (by omega)).trans ?_); first | exact hf _ (by omega) | exact hfL8 _ (by omega) | exact hfL9 _ (by omega) | exact hfL6 _ (by omega) | exact hfL5 _ (by omega) | exact hfL4 _ (by omega) | exact hfL0 _ (by omega))) | refine sub_trans ?_ hsL0 | refine sub_trans ?_ hsL4 | refine sub_trans ?_ hsL5 | refine sub_trans ?_ hsL6 | refine sub_trans ?_ hsL9 | refine sub_trans ?_ hsL8 | refine sub_over (by assumption) | refine sub_over0 ?_ | refine sub_trans (sub_same (by assumption)) ?_ | refine sub_dropu ?_ | refine sub_drop ?_ | refine sub_put ?_ (by repeat (first | assumption | exact upd_same _ _ _ | refine (upd_other _ _ (by omega)).trans ?_ | refine hsL0 _ _ ?_ | refine hsL4 _ _ ?_ | refine hsL5 _ _ ?_ | refine hsL6 _ _ ?_ | refine hsL9 _ _ ?_ | refine hsL8 _ _ ?_)))))) rfl rfl (entc_g _) ?_)
      refine aOps_1 rfl rfl rfl (AOp.bin' rfl rfl rfl rfl ?_)
      refine aOps_1 rfl rfl rfl (AOp.move' (.inl rfl) rfl ?_)
      refine aOps_gd0 rfl rfl (wantT rfl rfl rfl) (fun hc => AOp.slots [(0, _)] (.cons rfl .nil) (AOp.move' (.inl rfl) rfl ⟨rfl, rfl, rfl⟩)) ?_
      refine aOps_gd0 rfl rfl (wantT rfl rfl rfl) (fun hc => AOp.slots [(7, _)] (.cons rfl .nil) (AOp.move' (.inl rfl) rfl ⟨rfl, rfl, rfl⟩)) ?_
      refine aOps_gd0 rfl rfl (wantT rfl rfl rfl) (fun hc => AOp.slots [(38, _), (39, _)] (.cons (gvT rfl hc) (.cons (gvT rfl hc) .nil)) (AOp.indexP (aslcAt_sub (by (repeat (first | exact sub_refl _ | assumption | refine sub_upd' ?_ (by ((repeat refine (upd_other _ _ (by omega)).trans ?_); first | exact hf _ (by omega) | exact hfL8 _ (by omega) | exact hfL9 _ (by omega) | exact hfL6 _ (by omega) | exact hfL5 _ (by omega) | exact hfL4 _ (by omega) | exact hfL0 _ (by omega))) | refine sub_trans ?_ hsL0 | refine sub_trans ?_ hsL4 | refine sub_trans ?_ hsL5 | refine sub_trans ?_ hsL6 | refine sub_trans ?_ hsL9 | refine sub_trans ?_ hsL8 | refine sub_over (by assumption) | refine sub_over0 ?_ | refine sub_trans (sub_same (by assumption)) ?_ | refine sub_dropu ?_ | refine sub_drop ?_ | refine sub_put ?_ (by repeat (first | assumption | exact upd_same _ _ _ | refine (upd_other _ _ (by omega)).trans ?_ | refine hsL0 _ _ ?_ | refine hsL4 _ _ ?_ | refine hsL5 _ _ ?_ | refine hsL6 _ _ ?_ | refine hsL9 _ _ ?_ | refine hsL8 _ _ ?_))))) hq8_9) rfl rfl rfl ⟨rfl, rfl, rfl⟩)) ?_
      refine aOps_gd0 rfl rfl (wantT rfl rfl rfl) (fun hc => AOp.slots [(40, _)] (.cons (gvT rfl hc) .nil) (AOp.fieldP (hp8_9.sub (by (repeat (first | exact sub_refl _ | assumption | refine sub_upd' ?_ (by ((repeat refine (upd_other _ _ (by omega)).trans ?_); first | exact hf _ (by omega) | exact hfL8 _ (by omega) | exact hfL9 _ (by omega) | exact hfL6 _ (by omega) | exact hfL5 _ (by omega) | exact hfL4 _ (by omega) | exact hfL0 _ (by omega))) | refine sub_trans ?_ hsL0 | refine sub_trans ?_ hsL4 | refine sub_trans ?_ hsL5 | refine sub_trans ?_ hsL6 | refine sub_trans ?_ hsL9 | refine sub_trans ?_ hsL8 | refine sub_over (by assumption) | refine sub_over0 ?_ | refine sub_trans (sub_same (by assumption)) ?_ | refine sub_dropu ?_ | refine sub_drop ?_ | refine sub_put ?_ (by repeat (first | assumption | exact upd_same _ _ _ | refine (upd_other _ _ (by omega)).trans ?_ | refine hsL0 _ _ ?_ | refine hsL4 _ _ ?_ | refine hsL5 _ _ ?_ | refine hsL6 _ _ ?_ | refine hsL9 _ _ ?_ | refine hsL8 _ _ ?_)))))) rfl (by decide) (by rw [entc_len]; decide) rfl ⟨rfl, rfl, rfl⟩)) ?_
      refine aOps_gd0 rfl rfl (wantT rfl rfl rfl) (fun hc => AOp.slots [(41, _)] (.cons (gvT rfl hc) .nil) (AOp.loadP1 (hp8_9.sub (by (repeat (first | exact sub_refl _ | assumption | refine sub_upd' ?_ (by ((repeat refine (upd_other _ _ (by omega)).trans ?_); first | exact hf _ (by omega) | exact hfL8 _ (by omega) | exact hfL9 _ (by omega) | exact hfL6 _ (by omega) | exact hfL5 _ (by omega) | exact hfL4 _ (by omega) | exact hfL0 _ (by omega))) | refine sub_trans ?_ hsL0 | refine sub_trans ?_ hsL4 | refine sub_trans ?_ hsL5 | refine sub_trans ?_ hsL6 | refine sub_trans ?_ hsL9 | refine sub_trans ?_ hsL8 | refine sub_over (by assumption) | refine sub_over0 ?_ | refine sub_trans (sub_same (by assumption)) ?_ | refine sub_dropu ?_ | refine sub_drop ?_ | refine sub_put ?_ (by repeat (first | assumption | exact upd_same _ _ _ | refine (upd_other _ _ (by omega)).trans ?_ | refine hsL0 _ _ ?_ | refine hsL4 _ _ ?_ | refine hsL5 _ _ ?_ | refine hsL6 _ _ ?_ | refine hsL9 _ _ ?_ | refine hsL8 _ _ ?_)))))) rfl rfl (entc_g _) ⟨rfl, rfl, rfl⟩)) ?_
      refine aOps_gd0 rfl rfl (wantT rfl rfl rfl) (fun hc => AOp.slots [(42, _)] (.cons (gvT rfl hc) .nil) (AOp.bin' rfl rfl rfl rfl ⟨rfl, rfl, rfl⟩)) ?_
      refine aOps_1 rfl rfl rfl (AOp.pickAnd rfl rfl rfl (fun hb => gvE rfl hb) ?_)
      rw [show (decide ((l.getD i0 eD).g ≥ 0) && decide ((l.getD i0 eD).g ≤ 1048576)) = good (l.getD i0 eD) from rfl]
      refine aOps_1 rfl rfl rfl (AOp.move' (.inr rfl) rfl ?_)
      refine aOps_end ?_
      show ACode _ _ _ _ _ _
      refine ACode.seq ?_
      refine ACode.seq ?_
      obtain ⟨n9_3, o9_3, s9_3, hq9_3, hp9_3⟩ := SLC.elE (hs.sub hH) (show i0 < l.length by omega)
      refine ACode.region' [0, 1, 2, 3, 4, 5, 6] (by kernel_rfl) rfl ?_
      refine aOps_1 rfl rfl rfl (AOp.move' (.inl rfl) rfl ?_)
      refine aOps_1 rfl rfl rfl (AOp.move' (.inl rfl) rfl ?_)
      refine aOps_1 rfl rfl rfl (AOp.move' (.inl rfl) rfl ?_)
      refine aOps_1 rfl rfl rfl (AOp.indexP (aslcAt_sub (by (repeat (first | exact sub_refl _ | assumption | refine sub_upd' ?_ (by ((repeat refine (upd_other _ _ (by omega)).trans ?_); first | exact hf _ (by omega) | exact hfL8 _ (by omega) | exact hfL9 _ (by omega) | exact hfL6 _ (by omega) | exact hfL5 _ (by omega) | exact hfL4 _ (by omega) | exact hfL0 _ (by omega))) | refine sub_trans ?_ hsL0 | refine sub_trans ?_ hsL4 | refine sub_trans ?_ hsL5 | refine sub_trans ?_ hsL6 | refine sub_trans ?_ hsL9 | refine sub_trans ?_ hsL8 | refine sub_over (by assumption) | refine sub_over0 ?_ | refine sub_trans (sub_same (by assumption)) ?_ | refine sub_dropu ?_ | refine sub_drop ?_ | refine sub_put ?_ (by repeat (first | assumption | exact upd_same _ _ _ | refine (upd_other _ _ (by omega)).trans ?_ | refine hsL0 _ _ ?_ | refine hsL4 _ _ ?_ | refine hsL5 _ _ ?_ | refine hsL6 _ _ ?_ | refine hsL9 _ _ ?_ | refine hsL8 _ _ ?_))))) hq9_3) rfl rfl rfl ?_)
      refine aOps_1 rfl rfl rfl (AOp.loadPA (v := entv (l.getD i0 eD)) (hp9_3.sub (by (repeat (first | exact sub_refl _ | assumption | refine sub_upd' ?_ (by ((repeat refine (upd_other _ _ (by omega)).trans ?_); first | exact hf _ (by omega) | exact hfL8 _ (by omega) | exact hfL9 _ (by omega) | exact hfL6 _ (by omega) | exact hfL5 _ (by omega) | exact hfL4 _ (by omega) | exact hfL0 _ (by omega))) | refine sub_trans ?_ hsL0 | refine sub_trans ?_ hsL4 | refine sub_trans ?_ hsL5 | refine sub_trans ?_ hsL6 | refine sub_trans ?_ hsL9 | refine sub_trans ?_ hsL8 | refine sub_over (by assumption) | refine sub_over0 ?_ | refine sub_trans (sub_same (by assumption)) ?_ | refine sub_dropu ?_ | refine sub_drop ?_ | refine sub_put ?_ (by repeat (first | assumption | exact upd_same _ _ _ | refine (upd_other _ _ (by omega)).trans ?_ | refine hsL0 _ _ ?_ | refine hsL4 _ _ ?_ | refine hsL5 _ _ ?_ | refine hsL6 _ _ ?_ | refine hsL9 _ _ ?_ | refine hsL8 _ _ ?_)))))) rfl rfl rfl rfl (by first | rfl | exact hv_size _ | exact hcs_one _ | exact (aw_size _).trans rfl | exact one_wv _ | exact one_bv _ | exact entv_size _ | exact entc_one _ | (simp; done)) (by decide) ?_)
      refine aOps_1 rfl rfl rfl ?_
      refine AOp.call' rfl rfl rfl (add_any2 _ _ (l.getD i0 eD) n q (goods (l.take i0)) g0.2 g0.1 (by (repeat (first | exact sub_refl _ | assumption | refine sub_upd' ?_ (by ((repeat refine (upd_other _ _ (by omega)).trans ?_); first | exact hf _ (by omega) | exact hfL8 _ (by omega) | exact hfL9 _ (by omega) | exact hfL6 _ (by omega) | exact hfL5 _ (by omega) | exact hfL4 _ (by omega) | exact hfL0 _ (by omega))) | refine sub_trans ?_ hsL0 | refine sub_trans ?_ hsL4 | refine sub_trans ?_ hsL5 | refine sub_trans ?_ hsL6 | refine sub_trans ?_ hsL9 | refine sub_trans ?_ hsL8 | refine sub_over (by assumption) | refine sub_over0 ?_ | refine sub_trans (sub_same (by assumption)) ?_ | refine sub_dropu ?_ | refine sub_drop ?_ | refine sub_put ?_ (by repeat (first | assumption | exact upd_same _ _ _ | refine (upd_other _ _ (by omega)).trans ?_ | refine hsL0 _ _ ?_ | refine hsL4 _ _ ?_ | refine hsL5 _ _ ?_ | refine hsL6 _ _ ?_ | refine hsL9 _ _ ?_ | refine hsL8 _ _ ?_))))) hx2 (by have h1 := goods_le (l.take i0); rw [List.length_take] at h1; omega)) ?_
      rintro _ H1 kb ⟨hkb, rfl, hfL7, hsL7, X1, vs1, hG1, hX1, hX01, hX1n⟩
      have hH1 : Ab.Sub H H1 := sub_trans (sub_cut (sub_cut hH (hf q (by omega))) (hf n (by omega))) hsL7
      have hHX1 : Ab.Sub H X1 := sub_trans (sub_cut (sub_cut hx1 (hf q (by omega))) (hf n (by omega))) hX01
      have hka1 : H1 ka = some (xblk (goods (l.take i0))) := hsL7 _ _ ((upd_other _ _ (by omega)).trans ((upd_other _ _ (by omega)).trans (hsL0 _ _ (upd_same _ _ _))))
      have hX1k : X1 ka = none := hX1n ka (by omega) hx3
      rw [← goods_take (by omega)] at hG1
      refine aOps_1 rfl rfl rfl (AOp.move' (.inr rfl) rfl ?_)
      refine aOps_end ?_
      show ACode _ _ _ _ _ _
      refine ACode.seq ?_
      refine ACode.region' [0, 1, 2, 3, 4, 5, 6, 7, 8, 9, 10, 11] (by kernel_rfl) rfl ?_
      refine aOps_1 rfl rfl rfl (AOp.move' (.inl rfl) rfl ?_)
      refine aOps_1 rfl rfl rfl (AOp.bin' rfl rfl rfl rfl ?_)
      rw [show ((if good (l.getD i0 eD) = true then (0 : Int) else 1) == 0) = good (l.getD i0 eD) by cases good (l.getD i0 eD) <;> rfl]
      refine aOps_1 rfl rfl rfl (AOp.move' (.inl rfl) rfl ?_)
      refine aOps_1 rfl rfl rfl (AOp.neBool rfl rfl rfl ?_)
      rw [show (!(good (l.getD i0 eD) == good (l.getD i0 eD))) = false by cases good (l.getD i0 eD) <;> rfl]
      refine aOps_1 rfl rfl rfl (AOp.move' (.inl rfl) rfl ?_)
      refine aOps_gd0 rfl rfl (wantF rfl rfl rfl) (fun hc => AOp.slots [(8, _)] (.cons rfl .nil) (AOp.move' (.inl rfl) rfl ⟨rfl, rfl, rfl⟩)) ?_
      refine aOps_gd0 rfl rfl (wantF rfl rfl rfl) (fun hc => AOp.slots [(56, _)] (.cons (gvT rfl hc) .nil) (AOp.un' rfl rfl rfl ⟨rfl, rfl, rfl⟩)) ?_
      refine aOps_gd0 rfl rfl (wantF rfl rfl rfl) (fun hc => AOp.slots [(57, _)] (.cons (gvT rfl hc) .nil) (AOp.move' (.inl rfl) rfl ⟨rfl, rfl, rfl⟩)) ?_
      refine aOps_gd0 rfl rfl (wantGT rfl rfl rfl) (fun hc => AOp.slots [(9, _)] (.cons rfl .nil) (AOp.move' (.inl rfl) rfl ⟨rfl, rfl, rfl⟩)) ?_
      refine aOps_gd0 rfl rfl (wantGT rfl rfl rfl) (fun hc => AOp.slots [(59, _)] (.cons (gvT rfl hc) .nil) (AOp.bin' rfl rfl rfl rfl ⟨rfl, rfl, rfl⟩)) ?_
      refine aOps_gd0 rfl rfl (wantF rfl rfl rfl) (fun hc => AOp.pickAnd rfl rfl (gvE rfl hc) (fun hb => gvE rfl (and_mk hc hb)) ⟨rfl, rfl, rfl⟩) ?_
      refine aOps_1 rfl rfl rfl (AOp.pickOr rfl rfl rfl (fun hb => gvE rfl (t_not hb)) ?_)
      refine aOps_end ?_
      show ACode _ _ _ _ _ _
      refine ACode.cond rfl (fun c2 => absurd c2 (by cases h : good (l.getD i0 eD) <;> simp)) (fun c2 => ?_)
      refine ACode.skip ?_
      show ACode _ _ _ _ _ _
      refine ACode.seq ?_
      refine ACode.region' [0] (by kernel_rfl) rfl ?_
      refine aOps_1 rfl rfl rfl (AOp.move' (.inl rfl) rfl ?_)
      refine aOps_end ?_
      show ACode _ _ _ _ _ _
      refine ACode.cond rfl (fun c3 => ?_) (fun c3 => ?_)
      · try simp only [decide_eq_true_eq, decide_eq_false_iff_not, beq_iff_eq, beq_eq_false_iff_ne, ne_eq, bne_iff_ne, Bool.not_eq_true', Bool.not_eq_false', Int.not_lt, Int.not_le, gt_iff_lt, ge_iff_le, bne_eq_false_iff_eq, Bool.not_eq_eq_eq_not, Bool.not_true, Bool.not_false] at c3
        have hgt : goods (l.take (i0 + 1)) = (goods (l.take i0)) ++ [(l.getD i0 eD)] := by rw [goods_take (by omega), goodL_yes c3]
        have hgl := goods_le (l.take i0)
        rw [List.length_take] at hgl
        obtain ⟨n13_3, o13_3, s13_3, hq13_3, hp13_3⟩ := SLC.elE (hs.sub hH1) (show i0 < l.length by omega)
        refine ACode.region' [0, 1, 2, 3, 4, 5, 6, 7] (by kernel_rfl) rfl ?_
        refine aOps_1 rfl rfl rfl (AOp.move' (.inl rfl) rfl ?_)
        refine aOps_1 rfl rfl rfl (AOp.move' (.inl rfl) rfl ?_)
        refine aOps_1 rfl rfl rfl (AOp.move' (.inl rfl) rfl ?_)
        refine aOps_1 rfl rfl rfl (AOp.indexP (aslcAt_sub (by (repeat (first | exact sub_refl _ | assumption | refine sub_upd' ?_ (by ((repeat refine (upd_other _ _ (by omega)).trans ?_); first | exact hf _ (by omega) | exact hfL8 _ (by omega) | exact hfL9 _ (by omega) | exact hfL6 _ (by omega) | exact hfL5 _ (by omega) | exact hfL4 _ (by omega) | exact hfL0 _ (by omega))) | refine sub_trans ?_ hsL0 | refine sub_trans ?_ hsL4 | refine sub_trans ?_ hsL5 | refine sub_trans ?_ hsL6 | refine sub_trans ?_ hsL9 | refine sub_trans ?_ hsL8 | refine sub_over (by assumption) | refine sub_over0 ?_ | refine sub_trans (sub_same (by assumption)) ?_ | refine sub_dropu ?_ | refine sub_drop ?_ | refine sub_put ?_ (by repeat (first | assumption | exact upd_same _ _ _ | refine (upd_other _ _ (by omega)).trans ?_ | refine hsL0 _ _ ?_ | refine hsL4 _ _ ?_ | refine hsL5 _ _ ?_ | refine hsL6 _ _ ?_ | refine hsL9 _ _ ?_ | refine hsL8 _ _ ?_))))) hq13_3) rfl rfl rfl ?_)
        refine aOps_1 rfl rfl rfl (AOp.loadPA (v := entv (l.getD i0 eD)) (hp13_3.sub (by (repeat (first | exact sub_refl _ | assumption | refine sub_upd' ?_ (by ((repeat refine (upd_other _ _ (by omega)).trans ?_); first | exact hf _ (by omega) | exact hfL8 _ (by omega) | exact hfL9 _ (by omega) | exact hfL6 _ (by omega) | exact hfL5 _ (by omega) | exact hfL4 _ (by omega) | exact hfL0 _ (by omega))) | refine sub_trans ?_ hsL0 | refine sub_trans ?_ hsL4 | refine sub_trans ?_ hsL5 | refine sub_trans ?_ hsL6 | refine sub_trans ?_ hsL9 | refine sub_trans ?_ hsL8 | refine sub_over (by assumption) | refine sub_over0 ?_ | refine sub_trans (sub_same (by assumption)) ?_ | refine sub_dropu ?_ | refine sub_drop ?_ | refine sub_put ?_ (by repeat (first | assumption | exact upd_same _ _ _ | refine (upd_other _ _ (by omega)).trans ?_ | refine hsL0 _ _ ?_ | refine hsL4 _ _ ?_ | refine hsL5 _ _ ?_ | refine hsL6 _ _ ?_ | refine hsL9 _ _ ?_ | refine hsL8 _ _ ?_)))))) rfl rfl rfl rfl (by first | rfl | exact hv_size _ | exact hcs_one _ | exact (aw_size _).trans rfl | exact one_wv _ | exact one_bv _ | exact entv_size _ | exact entc_one _ | (simp; done)) (by decide) ?_)
        refine aOps_1 rfl rfl rfl (AOp.buildH (entc (l.getD i0 eD)) rfl (entc_len _) (by decide) (by decide) rfl rfl ?_)
        refine aOps_1 rfl rfl rfl (AOp.append' (b := xblk (goods (l.take i0))) (m := 1) (news := entc (l.getD i0 eD)) rfl rfl rfl (by repeat (first | assumption | exact upd_same _ _ _ | refine (upd_other _ _ (by omega)).trans ?_ | refine hsL0 _ _ ?_ | refine hsL4 _ _ ?_ | refine hsL5 _ _ ?_ | refine hsL6 _ _ ?_ | refine hsL9 _ _ ?_ | refine hsL8 _ _ ?_)) (srcOf_grow (b := { cells := entc (l.getD i0 eD), elem := 38, kind := .grow, esz := 65 }) (by repeat (first | assumption | exact upd_same _ _ _ | refine (upd_other _ _ (by omega)).trans ?_ | refine hsL0 _ _ ?_ | refine hsL4 _ _ ?_ | refine hsL5 _ _ ?_ | refine hsL6 _ _ ?_ | refine hsL9 _ _ ?_ | refine hsL8 _ _ ?_)) rfl (by rw [entc_len]; rfl)) rfl rfl rfl (by rw [ecs_len]) srcOk_sl (fun u hu => List.all_eq_true.1 (entc_one _) u hu) (by omega) (by omega) ?_)
        refine aOps_1 rfl rfl rfl (AOp.move' (.inr rfl) rfl ?_)
        refine aOps_end ?_
        show ACode _ _ _ _ _ _
        refine ACode.region' [0, 1, 2] (by kernel_rfl) rfl ?_
        refine aOps_1 rfl rfl rfl (AOp.move' (.inl rfl) rfl ?_)
        refine aOps_1 rfl rfl rfl (AOp.add rfl rfl rfl (i64_wrap (by omega) (by omega)) ?_)
        refine aOps_1 rfl rfl rfl (AOp.move' (.inr rfl) rfl ?_)
        refine aOps_end ?_
        first | refine thenA_n ?_ | simp only [thenA, blockA, if_true]
        exact NextG.mk (by omega) (by omega) ((X1, vs1)) (.cons rfl (.cons (show _ = some (Value.slice _ _ _) by rw [hgt, List.length_append]; rfl) .nil)) (.cons rfl (.cons rfl (.cons rfl (.cons rfl (.cons rfl (.cons rfl (.cons rfl .nil))))))) (by rw [show xblk (goods (l.take (i0 + 1))) = xblk ((goods (l.take i0)) ++ [(l.getD i0 eD)]) by rw [hgt]]; refine sub_over_eq (y := some (xblk (goods (l.take i0)))) (sub_put (sub_trans hX1 (sub_upd' (sub_refl _) (hfL7 _ (by omega)))) ((upd_other _ _ (by omega)).trans hka1)) (by show some (Blk.mk (ecs _) _ _ _) = _; rw [ecs_snoc])) ⟨hHX1, hG1, hX1k⟩
      · try simp only [decide_eq_true_eq, decide_eq_false_iff_not, beq_iff_eq, beq_eq_false_iff_ne, ne_eq, bne_iff_ne, Bool.not_eq_true', Bool.not_eq_false', Int.not_lt, Int.not_le, gt_iff_lt, ge_iff_le, bne_eq_false_iff_eq, Bool.not_eq_eq_eq_not, Bool.not_true, Bool.not_false] at c3
        have hgt : goods (l.take (i0 + 1)) = (goods (l.take i0)) := by rw [goods_take (by omega), goodL_no (by simpa using c3), List.append_nil]
        refine ACode.skip ?_
        show ACode _ _ _ _ _ _
        refine ACode.region' [0, 1, 2] (by kernel_rfl) rfl ?_
        refine aOps_1 rfl rfl rfl (AOp.move' (.inl rfl) rfl ?_)
        refine aOps_1 rfl rfl rfl (AOp.add rfl rfl rfl (i64_wrap (by omega) (by omega)) ?_)
        refine aOps_1 rfl rfl rfl (AOp.move' (.inr rfl) rfl ?_)
        refine aOps_end ?_
        first | refine thenA_n ?_ | simp only [thenA, blockA, if_true]
        exact NextG.mk (by omega) (by omega) ((X1, vs1)) (.cons rfl (.cons (show _ = some (Value.slice _ _ _) by rw [hgt]; rfl) .nil)) (.cons rfl (.cons rfl (.cons rfl (.cons rfl (.cons rfl (.cons rfl (.cons rfl .nil))))))) (by rw [hgt]; exact sub_put hX1 hka1) ⟨hHX1, hG1, hX1k⟩
    · try simp only [decide_eq_true_eq, decide_eq_false_iff_not, beq_iff_eq, beq_eq_false_iff_ne, ne_eq, bne_iff_ne, Bool.not_eq_true', Bool.not_eq_false', Int.not_lt, Int.not_le, gt_iff_lt, ge_iff_le, bne_eq_false_iff_eq, Bool.not_eq_eq_eq_not, Bool.not_true, Bool.not_false] at c1
      refine ACode.exit ?_
      show ACode _ _ _ _ _ _
      refine ACode.seq ?_
      have hi : i0 = l.length := by omega
      subst hi
      rw [List.take_length] at hx2 hsL0 ⊢
      obtain ⟨es, hes⟩ : ∃ es, es = goods l := ⟨_, rfl⟩
      rw [← hes] at hx2 hsL0 ⊢
      rw [← hes] at ha
      have hG := hx2.sub (sub_trans (sub_upd' (sub_refl _) hx3) hsL0)
      have hel : es.length ≤ 20 := by have := goods_le l; rw [hes]; omega
      have hfl : (forms es).length = es.length := List.length_map _
      have hxk : HL0 ka = some (xblk es) := hsL0 _ _ (upd_same _ _ _)
      refine ACode.region' [0, 1, 2, 3, 4, 5, 6, 7, 8] (by kernel_rfl) rfl ?_
      refine aOps_1 rfl rfl rfl (AOp.move' (.inl rfl) rfl ?_)
      refine aOps_1 rfl rfl rfl (AOp.move' (.inl rfl) rfl ?_)
      refine aOps_q rfl rfl rfl (AOp.call' rfl rfl rfl (entry_in _ _ n q es g0.2 (hG.sub (by (repeat (first | exact sub_refl _ | assumption | refine sub_upd' ?_ (by ((repeat refine (upd_other _ _ (by omega)).trans ?_); first | exact hf _ (by omega) | exact hfL8 _ (by omega) | exact hfL9 _ (by omega) | exact hfL6 _ (by omega) | exact hfL5 _ (by omega) | exact hfL4 _ (by omega) | exact hfL0 _ (by omega))) | refine sub_trans ?_ hsL0 | refine sub_trans ?_ hsL4 | refine sub_trans ?_ hsL5 | refine sub_trans ?_ hsL6 | refine sub_trans ?_ hsL9 | refine sub_trans ?_ hsL8 | refine sub_over (by assumption) | refine sub_over0 ?_ | refine sub_trans (sub_same (by assumption)) ?_ | refine sub_dropu ?_ | refine sub_drop ?_ | refine sub_put ?_ (by repeat (first | assumption | exact upd_same _ _ _ | refine (upd_other _ _ (by omega)).trans ?_ | refine hsL0 _ _ ?_ | refine hsL4 _ _ ?_ | refine hsL5 _ _ ?_ | refine hsL6 _ _ ?_ | refine hsL9 _ _ ?_ | refine hsL8 _ _ ?_)))))) a ha) (fun _ _ _ h => h)) (fun kq hkq => ?_)
      refine aOps_1 rfl rfl rfl (AOp.move' (.inl rfl) rfl ?_)
      refine aOps_1 rfl rfl rfl (AOp.extract' rfl rfl rfl ?_)
      refine aOps_1 rfl rfl rfl (AOp.extract' rfl rfl rfl ?_)
      refine aOps_1 rfl rfl rfl (AOp.alloc' rfl ?_)
      refine aOps_0 rfl rfl rfl ?_
      refine AOp.storeAll (b := ?b1) rfl rfl rfl ?hn1 ?hk1 rfl ?hw1 ?ho1 ?hl1 ?hR1
      (case hn1 => repeat (first | assumption | exact upd_same _ _ _ | refine (upd_other _ _ (by omega)).trans ?_ | refine hsL0 _ _ ?_ | refine hsL4 _ _ ?_ | refine hsL5 _ _ ?_ | refine hsL6 _ _ ?_ | refine hsL9 _ _ ?_ | refine hsL8 _ _ ?_))
      (case hk1 => rfl)
      (case hw1 => first | rfl | exact hv_size _ | exact hcs_one _ | exact (aw_size _).trans rfl | exact one_wv _ | exact one_bv _ | exact entv_size _ | exact entc_one _ | (simp; done))
      (case ho1 => first | rfl | exact hv_size _ | exact hcs_one _ | exact (aw_size _).trans rfl | exact one_wv _ | exact one_bv _ | exact entv_size _ | exact entc_one _ | decide | (simp; done))
      (case hl1 => first | rfl | exact hv_size _ | exact hcs_one _ | exact (aw_size _).trans rfl | exact one_wv _ | exact one_bv _ | exact entv_size _ | exact entc_one _ | (simp; done))
      refine aOps_1 rfl rfl rfl (AOp.move' (.inr rfl) rfl ?_)
      refine aOps_end ?_
      show ACode _ _ _ _ _ _
      refine ACode.seq ?_
      refine ACode.region' [0, 1, 2, 3, 4, 5, 6, 7] (by kernel_rfl) rfl ?_
      refine aOps_1 rfl rfl rfl (AOp.move' (.inl rfl) rfl ?_)
      refine aOps_1 rfl rfl rfl (AOp.move' (.inl rfl) rfl ?_)
      refine aOps_1 rfl rfl rfl ?_
      refine AOp.call' rfl rfl rfl (path_l _ _ (by repeat (first | assumption | exact upd_same _ _ _ | refine (upd_other _ _ (by omega)).trans ?_ | refine hsL0 _ _ ?_ | refine hsL4 _ _ ?_ | refine hsL5 _ _ ?_ | refine hsL6 _ _ ?_ | refine hsL9 _ _ ?_ | refine hsL8 _ _ ?_)) n q es g0.2 (hG.sub (by (repeat (first | exact sub_refl _ | assumption | refine sub_upd' ?_ (by ((repeat refine (upd_other _ _ (by omega)).trans ?_); first | exact hf _ (by omega) | exact hfL8 _ (by omega) | exact hfL9 _ (by omega) | exact hfL6 _ (by omega) | exact hfL5 _ (by omega) | exact hfL4 _ (by omega) | exact hfL0 _ (by omega))) | refine sub_trans ?_ hsL0 | refine sub_trans ?_ hsL4 | refine sub_trans ?_ hsL5 | refine sub_trans ?_ hsL6 | refine sub_trans ?_ hsL9 | refine sub_trans ?_ hsL8 | refine sub_over (by assumption) | refine sub_over0 ?_ | refine sub_trans (sub_same (by assumption)) ?_ | refine sub_dropu ?_ | refine sub_drop ?_ | refine sub_put ?_ (by repeat (first | assumption | exact upd_same _ _ _ | refine (upd_other _ _ (by omega)).trans ?_ | refine hsL0 _ _ ?_ | refine hsL4 _ _ ?_ | refine hsL5 _ _ ?_ | refine hsL6 _ _ ?_ | refine hsL9 _ _ ?_ | refine hsL8 _ _ ?_)))))) (a : Int) (by omega) (by omega)) ?_
      rintro _ _ kp ⟨qp, hp1, hp2, rfl, rfl⟩
      rw [inZ_yes (n := es.length) (i := a) ha]
      have hpz : (pathZ (forms es) (a : Int)).length ≤ 1000000 := by rw [pathZ_nat (by omega)]; have := pathT_le (forms es) a; omega
      refine aOps_1 rfl rfl rfl (AOp.move' (.inl rfl) rfl ?_)
      refine aOps_1 rfl rfl rfl (AOp.extract' rfl rfl rfl ?_)
      refine aOps_1 rfl rfl rfl (AOp.extract' rfl rfl rfl ?_)
      refine aOps_1 rfl rfl rfl (AOp.move' (.inr rfl) rfl ?_)
      refine aOps_1 rfl rfl rfl (AOp.move' (.inr rfl) rfl ?_)
      refine aOps_end ?_
      show ACode _ _ _ _ _ _
      refine ACode.seq ?_
      refine ACode.region' [0, 1, 2, 3, 4, 5, 6, 7, 8] (by kernel_rfl) rfl ?_
      refine aOps_1 rfl rfl rfl (AOp.move' (.inl rfl) rfl ?_)
      refine aOps_1 rfl rfl rfl (AOp.bin' rfl rfl rfl rfl ?_)
      refine aOps_1 rfl rfl rfl (AOp.move' (.inl rfl) rfl ?_)
      refine aOps_gd0 rfl rfl (wantT rfl rfl rfl) (fun hc => AOp.slots [(1, _)] (.cons rfl .nil) (AOp.move' (.inl rfl) rfl ⟨rfl, rfl, rfl⟩)) ?_
      refine aOps_gd0 rfl rfl (wantT rfl rfl rfl) (fun hc => AOp.slots [(6, _)] (.cons rfl .nil) (AOp.move' (.inl rfl) rfl ⟨rfl, rfl, rfl⟩)) ?_
      refine aOps_gd0 rfl rfl (wantT rfl rfl rfl) (fun hc => AOp.slots [(87, _)] (.cons (gvT rfl hc) .nil) (AOp.len' rfl rfl ⟨rfl, rfl, rfl⟩)) ?_
      refine aOps_gd0 rfl rfl (wantT rfl rfl rfl) (fun hc => AOp.slots [(86, _), (88, _)] (.cons (gvT rfl hc) (.cons (gvT rfl hc) .nil)) (AOp.bin' rfl rfl rfl rfl ⟨rfl, rfl, rfl⟩)) ?_
      refine aOps_1 rfl rfl rfl (AOp.pickAnd rfl rfl rfl (fun hb => gvE rfl hb) ?_)
      refine aOps_1 rfl rfl rfl (AOp.move' (.inr rfl) rfl ?_)
      refine aOps_end ?_
      show ACode _ _ _ _ _ _
      refine ACode.seq ?_
      refine ACode.seq ?_
      have g8 : (decide ((a : Int) ≥ 0) && decide ((a : Int) < (es.length : Int))) = true := by simp; omega
      rw [g8]
      have hok : (es.getD a eD).ok := good_ok (hG.hg _ (by rw [getD_el ha]; exact List.getElem_mem _))
      obtain ⟨n17_14, o17_14, s17_14, hq17_14, hp17_14⟩ := SLC.elE (SLC.xblk hxk) (show a < es.length by omega)
      refine ACode.any mixed (by kernel_rfl) ?_
      refine AnyA.split 24 (by kernel_rfl) (by kernel_rfl) (by decide) (by decide) (Nat.le_of_ble_eq_true rfl) ?_
      refine AnyA.float [(0, 91), (1, 92), (2, 93), (3, 94), (4, 95), (5, 96), (6, 97), (7, 98), (8, 99), (9, 100), (10, 101), (11, 102), (12, 103), (13, 104), (14, 105), (15, 106), (16, 107), (17, 108), (18, 109), (19, 110), (21, 112)] [20, 22, 23] (by kernel_rfl) (Nat.le_of_ble_eq_true rfl) (by kernel_rfl) (sub_refl _) ?_
      refine DrawF.q 0 91 [(11, none)] rfl (by kernel_rfl) rfl (fun Hc kq hSb => AOp.move' (.inl rfl) rfl ⟨rfl, rfl, rfl⟩) ?_
      refine DrawF.q 1 92 [(14, none)] rfl (by kernel_rfl) rfl (fun Hc kq hSb => AOp.move' (.inl rfl) rfl ⟨rfl, rfl, rfl⟩) ?_
      refine DrawF.q 2 93 [(91, some 0), (92, some 1)] rfl (by kernel_rfl) rfl (fun Hc kq hSb => AOp.neBool rfl rfl rfl ⟨rfl, rfl, rfl⟩) ?_
      refine DrawF.q 3 94 [(93, some 2)] rfl (by kernel_rfl) rfl (fun Hc kq hSb => AOp.move' (.inl rfl) rfl ⟨rfl, rfl, rfl⟩) ?_
      refine DrawF.q 4 95 [(13, none), (94, some 3)] rfl (by kernel_rfl) rfl (fun Hc kq hSb => AOp.move' (.inl rfl) rfl ⟨rfl, rfl, rfl⟩) ?_
      refine DrawF.q 5 96 [(14, none), (94, some 3)] rfl (by kernel_rfl) rfl (fun Hc kq hSb => AOp.move' (.inl rfl) rfl ⟨rfl, rfl, rfl⟩) ?_
      refine DrawF.q 6 97 [(95, some 4), (96, some 5), (94, some 3)] rfl (by kernel_rfl) rfl (fun Hc kq hSb => AOp.neBool rfl rfl rfl ⟨rfl, rfl, rfl⟩) ?_
      refine DrawF.q 7 98 [(94, some 3), (97, some 6)] rfl (by kernel_rfl) rfl (fun Hc kq hSb => AOp.pickB rfl rfl rfl ⟨rfl, rfl, rfl⟩) ?_
      refine DrawF.q 8 99 [(98, some 7)] rfl (by kernel_rfl) rfl (fun Hc kq hSb => AOp.move' (.inl rfl) rfl ⟨rfl, rfl, rfl⟩) ?_
      refine DrawF.q 9 100 [(14, none), (99, some 8)] rfl (by kernel_rfl) rfl (fun Hc kq hSb => AOp.move' (.inl rfl) rfl ⟨rfl, rfl, rfl⟩) ?_
      refine DrawF.q 10 101 [(100, some 9), (99, some 8)] rfl (by kernel_rfl) rfl (fun Hc kq hSb => AOp.move' (.inl rfl) rfl ⟨rfl, rfl, rfl⟩) ?_
      refine DrawF.q 11 102 [(10, none), (101, some 10)] rfl (by kernel_rfl) rfl (fun Hc kq hSb => (by refine AOp.loadAll (b := ?b2) (v := entv (es.getD a eD)) rfl rfl ?hn2 ?hv2 ?hw2 ?hz2 ?hR2; (case hn2 => repeat (first | assumption | exact upd_same _ _ _ | refine (upd_other _ _ (by omega)).trans ?_ | refine hSb _ _ ?_ | refine hsL0 _ _ ?_ | refine hsL4 _ _ ?_ | refine hsL5 _ _ ?_ | refine hsL6 _ _ ?_ | refine hsL9 _ _ ?_ | refine hsL8 _ _ ?_)); (case hv2 => rfl); (case hw2 => rfl); (case hz2 => first | rfl | exact hv_size _ | exact hcs_one _ | exact (aw_size _).trans rfl | exact one_wv _ | exact one_bv _ | exact entv_size _ | exact entc_one _ | (simp; done)); exact ⟨rfl, rfl, rfl⟩)) ?_
      refine DrawF.q 12 103 [(6, none), (101, some 10)] rfl (by kernel_rfl) rfl (fun Hc kq hSb => AOp.move' (.inl rfl) rfl ⟨rfl, rfl, rfl⟩) ?_
      refine DrawF.q 13 104 [(1, none), (101, some 10)] rfl (by kernel_rfl) rfl (fun Hc kq hSb => AOp.move' (.inl rfl) rfl ⟨rfl, rfl, rfl⟩) ?_
      refine DrawF.q 14 105 [(103, some 12), (104, some 13), (101, some 10)] rfl (by kernel_rfl) rfl (fun Hc kq hSb => AOp.indexP (aslcAt_sub (by (repeat (first | exact sub_refl _ | assumption | refine sub_upd' ?_ (by ((repeat refine (upd_other _ _ (by omega)).trans ?_); first | exact hf _ (by omega) | exact hfL8 _ (by omega) | exact hfL9 _ (by omega) | exact hfL6 _ (by omega) | exact hfL5 _ (by omega) | exact hfL4 _ (by omega) | exact hfL0 _ (by omega))) | refine sub_trans ?_ hSb | refine sub_trans ?_ hsL0 | refine sub_trans ?_ hsL4 | refine sub_trans ?_ hsL5 | refine sub_trans ?_ hsL6 | refine sub_trans ?_ hsL9 | refine sub_trans ?_ hsL8 | refine sub_over (by assumption) | refine sub_over0 ?_ | refine sub_trans (sub_same (by assumption)) ?_ | refine sub_dropu ?_ | refine sub_drop ?_ | refine sub_put ?_ (by repeat (first | assumption | exact upd_same _ _ _ | refine (upd_other _ _ (by omega)).trans ?_ | refine hSb _ _ ?_ | refine hsL0 _ _ ?_ | refine hsL4 _ _ ?_ | refine hsL5 _ _ ?_ | refine hsL6 _ _ ?_ | refine hsL9 _ _ ?_ | refine hsL8 _ _ ?_))))) hq17_14) rfl rfl rfl ⟨rfl, rfl, rfl⟩) ?_
      refine DrawF.q 15 106 [(105, some 14), (101, some 10)] rfl (by kernel_rfl) rfl (fun Hc kq hSb => AOp.loadPA (v := entv (es.getD a eD)) (hp17_14.sub (by (repeat (first | exact sub_refl _ | assumption | refine sub_upd' ?_ (by ((repeat refine (upd_other _ _ (by omega)).trans ?_); first | exact hf _ (by omega) | exact hfL8 _ (by omega) | exact hfL9 _ (by omega) | exact hfL6 _ (by omega) | exact hfL5 _ (by omega) | exact hfL4 _ (by omega) | exact hfL0 _ (by omega))) | refine sub_trans ?_ hSb | refine sub_trans ?_ hsL0 | refine sub_trans ?_ hsL4 | refine sub_trans ?_ hsL5 | refine sub_trans ?_ hsL6 | refine sub_trans ?_ hsL9 | refine sub_trans ?_ hsL8 | refine sub_over (by assumption) | refine sub_over0 ?_ | refine sub_trans (sub_same (by assumption)) ?_ | refine sub_dropu ?_ | refine sub_drop ?_ | refine sub_put ?_ (by repeat (first | assumption | exact upd_same _ _ _ | refine (upd_other _ _ (by omega)).trans ?_ | refine hSb _ _ ?_ | refine hsL0 _ _ ?_ | refine hsL4 _ _ ?_ | refine hsL5 _ _ ?_ | refine hsL6 _ _ ?_ | refine hsL9 _ _ ?_ | refine hsL8 _ _ ?_)))))) rfl rfl rfl rfl (by first | rfl | exact hv_size _ | exact hcs_one _ | exact (aw_size _).trans rfl | exact one_wv _ | exact one_bv _ | exact entv_size _ | exact entc_one _ | (simp; done)) (by decide) ⟨rfl, rfl, rfl⟩) ?_
      refine DrawF.q 16 107 [(102, some 11), (106, some 15), (101, some 10)] rfl (by kernel_rfl) rfl (fun Hc kq hSb => AOp.neAgg true rfl rfl rfl (entc_sc _ hok) (entc_sc _ hok) ⟨fun _ => rfl, fun _ => rfl⟩ ⟨rfl, rfl, rfl⟩) ?_
      refine DrawF.q 17 108 [(107, some 16), (101, some 10)] rfl (by kernel_rfl) rfl (fun Hc kq hSb => AOp.move' (.inl rfl) rfl ⟨rfl, rfl, rfl⟩) ?_
      refine DrawF.q 18 109 [(12, none), (108, some 17)] rfl (by kernel_rfl) rfl (fun Hc kq hSb => AOp.move' (.inl rfl) rfl ⟨rfl, rfl, rfl⟩) ?_
      refine DrawF.q 19 110 [(6, none), (108, some 17)] rfl (by kernel_rfl) rfl (fun Hc kq hSb => AOp.move' (.inl rfl) rfl ⟨rfl, rfl, rfl⟩) ?_
      refine DrawF.q 21 112 [(1, none), (108, some 17)] rfl (by kernel_rfl) rfl (fun Hc kq hSb => AOp.move' (.inl rfl) rfl ⟨rfl, rfl, rfl⟩) ?_
      refine DrawF.done ?_
      show aOpsF _ _ _ _ _ _ [20, 22, 23] ⟨_, _, _⟩
      refine aOpsF_1 [110, 108] rfl rfl (by kernel_rfl) rfl ?_
      refine AOp.call' rfl rfl rfl (refforms _ _ es (some ⟨ka, 0, some 1⟩) _ (SLC.xblk (by repeat (first | assumption | exact upd_same _ _ _ | refine (upd_other _ _ (by omega)).trans ?_ | refine hsL0 _ _ ?_ | refine hsL4 _ _ ?_ | refine hsL5 _ _ ?_ | refine hsL6 _ _ ?_ | refine hsL9 _ _ ?_ | refine hsL8 _ _ ?_))) hG.hg hG.hm) ?_
      rintro _ H2 k2 ⟨q1, ws, hq1a, hq1b, rfl, hsL8, hfL8, hq1, hL1⟩
      have hwl := hL1.len
      rw [List.length_map] at hwl
      refine ⟨by (repeat (first | exact sub_refl _ | assumption | refine sub_upd' ?_ (by ((repeat refine (upd_other _ _ (by omega)).trans ?_); first | exact hf _ (by omega) | exact hfL8 _ (by omega) | exact hfL9 _ (by omega) | exact hfL6 _ (by omega) | exact hfL5 _ (by omega) | exact hfL4 _ (by omega) | exact hfL0 _ (by omega))) | refine sub_trans ?_ hsL0 | refine sub_trans ?_ hsL4 | refine sub_trans ?_ hsL5 | refine sub_trans ?_ hsL6 | refine sub_trans ?_ hsL9 | refine sub_trans ?_ hsL8 | refine sub_over (by assumption) | refine sub_over0 ?_ | refine sub_trans (sub_same (by assumption)) ?_ | refine sub_dropu ?_ | refine sub_drop ?_ | refine sub_put ?_ (by repeat (first | assumption | exact upd_same _ _ _ | refine (upd_other _ _ (by omega)).trans ?_ | refine hsL0 _ _ ?_ | refine hsL4 _ _ ?_ | refine hsL5 _ _ ?_ | refine hsL6 _ _ ?_ | refine hsL9 _ _ ?_ | refine hsL8 _ _ ?_)))), ?_⟩
      refine aOpsF_1 [111, 112, 108] rfl rfl (by kernel_rfl) rfl ?_
      refine AOp.call' rfl rfl rfl (refpath_b (ws.length + 1) (forms es) ws (some ⟨q1, 0, some 1⟩) _ a _ _ (by repeat (first | assumption | exact upd_same _ _ _ | refine (upd_other _ _ (by omega)).trans ?_ | refine hsL0 _ _ ?_ | refine hsL4 _ _ ?_ | refine hsL5 _ _ ?_ | refine hsL6 _ _ ?_ | refine hsL9 _ _ ?_ | refine hsL8 _ _ ?_)) (NewF.slc hq1) hL1 (by omega) (forms_le hG.hg) (by omega) (by omega)) ?_
      rintro _ _ kr ⟨qr, hr1, hr2, rfl, rfl⟩
      refine ⟨by (repeat (first | exact sub_refl _ | assumption | refine sub_upd' ?_ (by ((repeat refine (upd_other _ _ (by omega)).trans ?_); first | exact hf _ (by omega) | exact hfL8 _ (by omega) | exact hfL9 _ (by omega) | exact hfL6 _ (by omega) | exact hfL5 _ (by omega) | exact hfL4 _ (by omega) | exact hfL0 _ (by omega))) | refine sub_trans ?_ hsL0 | refine sub_trans ?_ hsL4 | refine sub_trans ?_ hsL5 | refine sub_trans ?_ hsL6 | refine sub_trans ?_ hsL9 | refine sub_trans ?_ hsL8 | refine sub_over (by assumption) | refine sub_over0 ?_ | refine sub_trans (sub_same (by assumption)) ?_ | refine sub_dropu ?_ | refine sub_drop ?_ | refine sub_put ?_ (by repeat (first | assumption | exact upd_same _ _ _ | refine (upd_other _ _ (by omega)).trans ?_ | refine hsL0 _ _ ?_ | refine hsL4 _ _ ?_ | refine hsL5 _ _ ?_ | refine hsL6 _ _ ?_ | refine hsL9 _ _ ?_ | refine hsL8 _ _ ?_)))), ?_⟩
      refine aOpsF_1 [109, 113, 108] rfl rfl (by kernel_rfl) rfl ?_
      refine AOp.call' rfl rfl rfl (sameH_b _ _ (pathZ (forms es) (a : Int)) (pathZ (forms es) (a : Int)) (some ⟨qp, 0, some 1⟩) (some ⟨qr, 0, some 1⟩) _ _ (SLC.pbk (e := 31) (by repeat (first | assumption | exact upd_same _ _ _ | refine (upd_other _ _ (by omega)).trans ?_ | refine hsL0 _ _ ?_ | refine hsL4 _ _ ?_ | refine hsL5 _ _ ?_ | refine hsL6 _ _ ?_ | refine hsL9 _ _ ?_ | refine hsL8 _ _ ?_))) (SLC.pbk (e := 31) (by repeat (first | assumption | exact upd_same _ _ _ | refine (upd_other _ _ (by omega)).trans ?_ | refine hsL0 _ _ ?_ | refine hsL4 _ _ ?_ | refine hsL5 _ _ ?_ | refine hsL6 _ _ ?_ | refine hsL9 _ _ ?_ | refine hsL8 _ _ ?_))) (by omega)) ?_
      rintro _ _ ks ⟨rfl, rfl, hks⟩
      rw [show decide (pathZ (forms es) (a : Int) = pathZ (forms es) (a : Int)) = true from decide_eq_true rfl]
      refine ⟨by (repeat (first | exact sub_refl _ | assumption | refine sub_upd' ?_ (by ((repeat refine (upd_other _ _ (by omega)).trans ?_); first | exact hf _ (by omega) | exact hfL8 _ (by omega) | exact hfL9 _ (by omega) | exact hfL6 _ (by omega) | exact hfL5 _ (by omega) | exact hfL4 _ (by omega) | exact hfL0 _ (by omega))) | refine sub_trans ?_ hsL0 | refine sub_trans ?_ hsL4 | refine sub_trans ?_ hsL5 | refine sub_trans ?_ hsL6 | refine sub_trans ?_ hsL9 | refine sub_trans ?_ hsL8 | refine sub_over (by assumption) | refine sub_over0 ?_ | refine sub_trans (sub_same (by assumption)) ?_ | refine sub_dropu ?_ | refine sub_drop ?_ | refine sub_put ?_ (by repeat (first | assumption | exact upd_same _ _ _ | refine (upd_other _ _ (by omega)).trans ?_ | refine hsL0 _ _ ?_ | refine hsL4 _ _ ?_ | refine hsL5 _ _ ?_ | refine hsL6 _ _ ?_ | refine hsL9 _ _ ?_ | refine hsL8 _ _ ?_)))), ?_⟩
      refine aOpsF_end ?_
      refine AnyA.float [(24, 115), (25, 116), (26, 117), (27, 118), (28, 119), (29, 120), (30, 121), (31, 122), (32, 123), (33, 124), (34, 125), (35, 126), (36, 127), (37, 128), (38, 129), (39, 130), (40, 131), (41, 132)] [] (by kernel_rfl) (Nat.le_of_ble_eq_true rfl) (by kernel_rfl) (sub_refl _) ?_
      refine DrawF.q 24 115 [(114, none), (108, none)] rfl (by kernel_rfl) rfl (fun Hc kq hSb => AOp.un' rfl rfl rfl ⟨rfl, rfl, rfl⟩) ?_
      refine DrawF.q 25 116 [(108, none), (115, some 24), (101, none)] rfl (by kernel_rfl) rfl (fun Hc kq hSb => AOp.pickB rfl rfl rfl ⟨rfl, rfl, rfl⟩) ?_
      refine DrawF.q 26 117 [(101, none), (116, some 25), (99, none)] rfl (by kernel_rfl) rfl (fun Hc kq hSb => AOp.pickB rfl rfl rfl ⟨rfl, rfl, rfl⟩) ?_
      refine DrawF.q 27 118 [(99, none), (117, some 26)] rfl (by kernel_rfl) rfl (fun Hc kq hSb => AOp.pickB rfl rfl rfl ⟨rfl, rfl, rfl⟩) ?_
      refine DrawF.q 28 119 [(118, some 27)] rfl (by kernel_rfl) rfl (fun Hc kq hSb => AOp.move' (.inl rfl) rfl ⟨rfl, rfl, rfl⟩) ?_
      refine DrawF.q 29 120 [(14, none), (119, some 28)] rfl (by kernel_rfl) rfl (fun Hc kq hSb => AOp.move' (.inl rfl) rfl ⟨rfl, rfl, rfl⟩) ?_
      refine DrawF.q 30 121 [(120, some 29), (119, some 28)] rfl (by kernel_rfl) rfl (fun Hc kq hSb => AOp.un' rfl rfl rfl ⟨rfl, rfl, rfl⟩) ?_
      refine DrawF.q 31 122 [(121, some 30), (119, some 28)] rfl (by kernel_rfl) rfl (fun Hc kq hSb => AOp.move' (.inl rfl) rfl ⟨rfl, rfl, rfl⟩) ?_
      refine DrawF.skip 32 123 [(10, none), (122, some 31)] rfl (by kernel_rfl) rfl ?_
      refine DrawF.skip 33 124 [(122, some 31)] rfl (by kernel_rfl) rfl ?_
      refine DrawF.skip 34 125 [(123, some 32), (124, some 33), (122, some 31)] rfl (by kernel_rfl) rfl ?_
      refine DrawF.skip 35 126 [(125, some 34), (122, some 31)] rfl (by kernel_rfl) rfl ?_
      refine DrawF.skip 36 127 [(12, none), (126, some 35)] rfl (by kernel_rfl) rfl ?_
      refine DrawF.skip 37 128 [(127, some 36), (126, some 35)] rfl (by kernel_rfl) rfl ?_
      refine DrawF.skip 38 129 [(128, some 37), (126, some 35)] rfl (by kernel_rfl) rfl ?_
      refine DrawF.skip 39 130 [(126, some 35), (129, some 38), (122, some 31)] rfl (by kernel_rfl) rfl ?_
      refine DrawF.q 40 131 [(122, some 31), (130, some 39), (119, some 28)] rfl (by kernel_rfl) rfl (fun Hc kq hSb => AOp.pickB rfl rfl rfl ⟨rfl, rfl, rfl⟩) ?_
      refine DrawF.q 41 132 [(119, some 28), (131, some 40)] rfl (by kernel_rfl) rfl (fun Hc kq hSb => AOp.pickB rfl rfl rfl ⟨rfl, rfl, rfl⟩) ?_
      refine DrawF.done ?_
      show aOpsF _ _ _ _ _ _ [] ⟨_, _, _⟩
      refine aOpsF_end ?_
      show ACode _ _ _ _ _ _
      refine ACode.cond rfl (fun c4 => absurd c4 (by simp)) (fun c4 => ?_)
      refine ACode.skip ?_
      show ACode _ _ _ _ _ _
      refine ACode.seq ?_
      refine ACode.region' [0, 1, 2, 3, 4, 5, 6, 7, 8] (by kernel_rfl) rfl ?_
      refine aOps_1 rfl rfl rfl (AOp.move' (.inl rfl) rfl ?_)
      refine aOps_1 rfl rfl rfl (AOp.move' (.inl rfl) rfl ?_)
      refine aOps_q rfl rfl rfl (AOp.call' rfl rfl rfl (root_in _ _ (by repeat (first | assumption | exact upd_same _ _ _ | refine (upd_other _ _ (by omega)).trans ?_ | refine hsL0 _ _ ?_ | refine hsL4 _ _ ?_ | refine hsL5 _ _ ?_ | refine hsL6 _ _ ?_ | refine hsL9 _ _ ?_ | refine hsL8 _ _ ?_)) n q es g0.2 (hG.sub (by (repeat (first | exact sub_refl _ | assumption | refine sub_upd' ?_ (by ((repeat refine (upd_other _ _ (by omega)).trans ?_); first | exact hf _ (by omega) | exact hfL8 _ (by omega) | exact hfL9 _ (by omega) | exact hfL6 _ (by omega) | exact hfL5 _ (by omega) | exact hfL4 _ (by omega) | exact hfL0 _ (by omega))) | refine sub_trans ?_ hsL0 | refine sub_trans ?_ hsL4 | refine sub_trans ?_ hsL5 | refine sub_trans ?_ hsL6 | refine sub_trans ?_ hsL9 | refine sub_trans ?_ hsL8 | refine sub_over (by assumption) | refine sub_over0 ?_ | refine sub_trans (sub_same (by assumption)) ?_ | refine sub_dropu ?_ | refine sub_drop ?_ | refine sub_put ?_ (by repeat (first | assumption | exact upd_same _ _ _ | refine (upd_other _ _ (by omega)).trans ?_ | refine hsL0 _ _ ?_ | refine hsL4 _ _ ?_ | refine hsL5 _ _ ?_ | refine hsL6 _ _ ?_ | refine hsL9 _ _ ?_ | refine hsL8 _ _ ?_)))))) a (by omega)) (fun _ _ _ h => h)) (fun kq hkq => ?_)
      refine aOps_1 rfl rfl rfl (AOp.move' (.inl rfl) rfl ?_)
      refine aOps_1 rfl rfl rfl (AOp.extract' rfl rfl rfl ?_)
      refine aOps_1 rfl rfl rfl (AOp.extract' rfl rfl rfl ?_)
      refine aOps_1 rfl rfl rfl (AOp.alloc' rfl ?_)
      refine aOps_0 rfl rfl rfl ?_
      refine AOp.storeAll (b := ?b3) rfl rfl rfl ?hn3 ?hk3 rfl ?hw3 ?ho3 ?hl3 ?hR3
      (case hn3 => repeat (first | assumption | exact upd_same _ _ _ | refine (upd_other _ _ (by omega)).trans ?_ | refine hsL0 _ _ ?_ | refine hsL4 _ _ ?_ | refine hsL5 _ _ ?_ | refine hsL6 _ _ ?_ | refine hsL9 _ _ ?_ | refine hsL8 _ _ ?_))
      (case hk3 => rfl)
      (case hw3 => first | rfl | exact hv_size _ | exact hcs_one _ | exact (aw_size _).trans rfl | exact one_wv _ | exact one_bv _ | exact entv_size _ | exact entc_one _ | (simp; done))
      (case ho3 => first | rfl | exact hv_size _ | exact hcs_one _ | exact (aw_size _).trans rfl | exact one_wv _ | exact one_bv _ | exact entv_size _ | exact entc_one _ | decide | (simp; done))
      (case hl3 => first | rfl | exact hv_size _ | exact hcs_one _ | exact (aw_size _).trans rfl | exact one_wv _ | exact one_bv _ | exact entv_size _ | exact entc_one _ | (simp; done))
      refine aOps_1 rfl rfl rfl (AOp.move' (.inr rfl) rfl ?_)
      refine aOps_end ?_
      show ACode _ _ _ _ _ _
      refine ACode.seq ?_
      refine ACode.region' [0, 1, 2, 3, 4, 5, 6, 7] (by kernel_rfl) rfl ?_
      refine aOps_1 rfl rfl rfl (AOp.move' (.inl rfl) rfl ?_)
      refine aOps_1 rfl rfl rfl (AOp.move' (.inl rfl) rfl ?_)
      refine aOps_1 rfl rfl rfl ?_
      refine AOp.call' rfl rfl rfl (proof_l _ _ (by repeat (first | assumption | exact upd_same _ _ _ | refine (upd_other _ _ (by omega)).trans ?_ | refine hsL0 _ _ ?_ | refine hsL4 _ _ ?_ | refine hsL5 _ _ ?_ | refine hsL6 _ _ ?_ | refine hsL9 _ _ ?_ | refine hsL8 _ _ ?_)) n q es g0.2 (hG.sub (by (repeat (first | exact sub_refl _ | assumption | refine sub_upd' ?_ (by ((repeat refine (upd_other _ _ (by omega)).trans ?_); first | exact hf _ (by omega) | exact hfL8 _ (by omega) | exact hfL9 _ (by omega) | exact hfL6 _ (by omega) | exact hfL5 _ (by omega) | exact hfL4 _ (by omega) | exact hfL0 _ (by omega))) | refine sub_trans ?_ hsL0 | refine sub_trans ?_ hsL4 | refine sub_trans ?_ hsL5 | refine sub_trans ?_ hsL6 | refine sub_trans ?_ hsL9 | refine sub_trans ?_ hsL8 | refine sub_over (by assumption) | refine sub_over0 ?_ | refine sub_trans (sub_same (by assumption)) ?_ | refine sub_dropu ?_ | refine sub_drop ?_ | refine sub_put ?_ (by repeat (first | assumption | exact upd_same _ _ _ | refine (upd_other _ _ (by omega)).trans ?_ | refine hsL0 _ _ ?_ | refine hsL4 _ _ ?_ | refine hsL5 _ _ ?_ | refine hsL6 _ _ ?_ | refine hsL9 _ _ ?_ | refine hsL8 _ _ ?_)))))) (a : Int) (by omega) (by omega)) ?_
      rintro _ _ ku ⟨qu, hu1, hu2, rfl, rfl⟩
      rw [show mayZ (a : Int) (es.length : Int) = true from decide_eq_true (by omega)]
      have hpl : (proofZ (forms es) (a : Int)).length ≤ 1000000 := by have h1 := proofZ_len (forms es) a (by omega) (by omega); omega
      refine aOps_1 rfl rfl rfl (AOp.move' (.inl rfl) rfl ?_)
      refine aOps_1 rfl rfl rfl (AOp.extract' rfl rfl rfl ?_)
      refine aOps_1 rfl rfl rfl (AOp.extract' rfl rfl rfl ?_)
      refine aOps_1 rfl rfl rfl (AOp.move' (.inr rfl) rfl ?_)
      refine aOps_1 rfl rfl rfl (AOp.move' (.inr rfl) rfl ?_)
      refine aOps_end ?_
      show ACode _ _ _ _ _ _
      refine ACode.seq ?_
      refine ACode.region' [0, 1, 2, 3, 4, 5, 6, 7, 8] (by kernel_rfl) rfl ?_
      refine aOps_1 rfl rfl rfl (AOp.move' (.inl rfl) rfl ?_)
      refine aOps_1 rfl rfl rfl (AOp.bin' rfl rfl rfl rfl ?_)
      refine aOps_1 rfl rfl rfl (AOp.move' (.inl rfl) rfl ?_)
      refine aOps_gd0 rfl rfl (wantT rfl rfl rfl) (fun hc => AOp.slots [(1, _)] (.cons rfl .nil) (AOp.move' (.inl rfl) rfl ⟨rfl, rfl, rfl⟩)) ?_
      refine aOps_gd0 rfl rfl (wantT rfl rfl rfl) (fun hc => AOp.slots [(6, _)] (.cons rfl .nil) (AOp.move' (.inl rfl) rfl ⟨rfl, rfl, rfl⟩)) ?_
      refine aOps_gd0 rfl rfl (wantT rfl rfl rfl) (fun hc => AOp.slots [(149, _)] (.cons (gvT rfl hc) .nil) (AOp.len' rfl rfl ⟨rfl, rfl, rfl⟩)) ?_
      refine aOps_gd0 rfl rfl (wantT rfl rfl rfl) (fun hc => AOp.slots [(148, _), (150, _)] (.cons (gvT rfl hc) (.cons (gvT rfl hc) .nil)) (AOp.bin' rfl rfl rfl rfl ⟨rfl, rfl, rfl⟩)) ?_
      refine aOps_1 rfl rfl rfl (AOp.pickAnd rfl rfl rfl (fun hb => gvE rfl hb) ?_)
      refine aOps_1 rfl rfl rfl (AOp.move' (.inr rfl) rfl ?_)
      refine aOps_end ?_
      show ACode _ _ _ _ _ _
      refine ACode.seq ?_
      refine ACode.seq ?_
      have g9 : (decide ((a : Int) ≥ 0) && decide ((a : Int) ≤ (es.length : Int))) = true := by simp; omega
      rw [g9]
      refine ACode.any mixed (by kernel_rfl) ?_
      refine AnyA.split 18 (by kernel_rfl) (by kernel_rfl) (by decide) (by decide) (Nat.le_of_ble_eq_true rfl) ?_
      refine AnyA.float [(0, 153), (1, 154), (2, 155), (3, 156), (4, 157), (5, 158), (6, 159), (7, 160), (8, 161), (9, 162), (10, 163), (11, 164), (12, 165), (14, 167)] [13, 15, 16, 17] (by kernel_rfl) (Nat.le_of_ble_eq_true rfl) (by kernel_rfl) (sub_refl _) ?_
      refine DrawF.q 0 153 [(16, none)] rfl (by kernel_rfl) rfl (fun Hc kq hSb => AOp.move' (.inl rfl) rfl ⟨rfl, rfl, rfl⟩) ?_
      refine DrawF.q 1 154 [(19, none)] rfl (by kernel_rfl) rfl (fun Hc kq hSb => AOp.move' (.inl rfl) rfl ⟨rfl, rfl, rfl⟩) ?_
      refine DrawF.q 2 155 [(153, some 0), (154, some 1)] rfl (by kernel_rfl) rfl (fun Hc kq hSb => AOp.neBool rfl rfl rfl ⟨rfl, rfl, rfl⟩) ?_
      refine DrawF.q 3 156 [(155, some 2)] rfl (by kernel_rfl) rfl (fun Hc kq hSb => AOp.move' (.inl rfl) rfl ⟨rfl, rfl, rfl⟩) ?_
      refine DrawF.q 4 157 [(18, none), (156, some 3)] rfl (by kernel_rfl) rfl (fun Hc kq hSb => AOp.move' (.inl rfl) rfl ⟨rfl, rfl, rfl⟩) ?_
      refine DrawF.q 5 158 [(19, none), (156, some 3)] rfl (by kernel_rfl) rfl (fun Hc kq hSb => AOp.move' (.inl rfl) rfl ⟨rfl, rfl, rfl⟩) ?_
      refine DrawF.q 6 159 [(157, some 4), (158, some 5), (156, some 3)] rfl (by kernel_rfl) rfl (fun Hc kq hSb => AOp.neBool rfl rfl rfl ⟨rfl, rfl, rfl⟩) ?_
      refine DrawF.q 7 160 [(156, some 3), (159, some 6)] rfl (by kernel_rfl) rfl (fun Hc kq hSb => AOp.pickB rfl rfl rfl ⟨rfl, rfl, rfl⟩) ?_
      refine DrawF.q 8 161 [(160, some 7)] rfl (by kernel_rfl) rfl (fun Hc kq hSb => AOp.move' (.inl rfl) rfl ⟨rfl, rfl, rfl⟩) ?_
      refine DrawF.q 9 162 [(19, none), (161, some 8)] rfl (by kernel_rfl) rfl (fun Hc kq hSb => AOp.move' (.inl rfl) rfl ⟨rfl, rfl, rfl⟩) ?_
      refine DrawF.q 10 163 [(162, some 9), (161, some 8)] rfl (by kernel_rfl) rfl (fun Hc kq hSb => AOp.move' (.inl rfl) rfl ⟨rfl, rfl, rfl⟩) ?_
      refine DrawF.q 11 164 [(15, none), (163, some 10)] rfl (by kernel_rfl) rfl (fun Hc kq hSb => (by refine AOp.loadAll (b := ?b4) (v := hv (root ((forms es).take a))) rfl rfl ?hn4 ?hv4 ?hw4 ?hz4 ?hR4; (case hn4 => repeat (first | assumption | exact upd_same _ _ _ | refine (upd_other _ _ (by omega)).trans ?_ | refine hSb _ _ ?_ | refine hsL0 _ _ ?_ | refine hsL4 _ _ ?_ | refine hsL5 _ _ ?_ | refine hsL6 _ _ ?_ | refine hsL9 _ _ ?_ | refine hsL8 _ _ ?_)); (case hv4 => rfl); (case hw4 => rfl); (case hz4 => first | rfl | exact hv_size _ | exact hcs_one _ | exact (aw_size _).trans rfl | exact one_wv _ | exact one_bv _ | exact entv_size _ | exact entc_one _ | (simp; done)); exact ⟨rfl, rfl, rfl⟩)) ?_
      refine DrawF.q 12 165 [(6, none), (163, some 10)] rfl (by kernel_rfl) rfl (fun Hc kq hSb => AOp.move' (.inl rfl) rfl ⟨rfl, rfl, rfl⟩) ?_
      refine DrawF.q 14 167 [(1, none), (163, some 10)] rfl (by kernel_rfl) rfl (fun Hc kq hSb => AOp.move' (.inl rfl) rfl ⟨rfl, rfl, rfl⟩) ?_
      refine DrawF.done ?_
      show aOpsF _ _ _ _ _ _ [13, 15, 16, 17] ⟨_, _, _⟩
      refine aOpsF_1 [165, 163] rfl rfl (by kernel_rfl) rfl ?_
      refine AOp.call' rfl rfl rfl (refforms _ _ es (some ⟨ka, 0, some 1⟩) _ (SLC.xblk (by repeat (first | assumption | exact upd_same _ _ _ | refine (upd_other _ _ (by omega)).trans ?_ | refine hsL0 _ _ ?_ | refine hsL4 _ _ ?_ | refine hsL5 _ _ ?_ | refine hsL6 _ _ ?_ | refine hsL9 _ _ ?_ | refine hsL8 _ _ ?_))) hG.hg hG.hm) ?_
      rintro _ H3 k3 ⟨q2, us, hq2a, hq2b, rfl, hsL9, hfL9, hq2, hL2⟩
      have hul := hL2.len
      rw [List.length_map] at hul
      have htl : (us.take a).length = a := by rw [List.length_take]; omega
      obtain ⟨A7, c7, q7, g7⟩ := SLC.cutL (NewF.slc hq2) a none (by omega) (by intro x hx; cases hx)
      refine ⟨by (repeat (first | exact sub_refl _ | assumption | refine sub_upd' ?_ (by ((repeat refine (upd_other _ _ (by omega)).trans ?_); first | exact hf _ (by omega) | exact hfL8 _ (by omega) | exact hfL9 _ (by omega) | exact hfL6 _ (by omega) | exact hfL5 _ (by omega) | exact hfL4 _ (by omega) | exact hfL0 _ (by omega))) | refine sub_trans ?_ hsL0 | refine sub_trans ?_ hsL4 | refine sub_trans ?_ hsL5 | refine sub_trans ?_ hsL6 | refine sub_trans ?_ hsL9 | refine sub_trans ?_ hsL8 | refine sub_over (by assumption) | refine sub_over0 ?_ | refine sub_trans (sub_same (by assumption)) ?_ | refine sub_dropu ?_ | refine sub_drop ?_ | refine sub_put ?_ (by repeat (first | assumption | exact upd_same _ _ _ | refine (upd_other _ _ (by omega)).trans ?_ | refine hsL0 _ _ ?_ | refine hsL4 _ _ ?_ | refine hsL5 _ _ ?_ | refine hsL6 _ _ ?_ | refine hsL9 _ _ ?_ | refine hsL8 _ _ ?_)))), ?_⟩
      refine aOpsF_1 [166, 167, 163] rfl rfl (by kernel_rfl) rfl (AOp.cutQ (aslice_sub (by (repeat (first | exact sub_refl _ | assumption | refine sub_upd' ?_ (by ((repeat refine (upd_other _ _ (by omega)).trans ?_); first | exact hf _ (by omega) | exact hfL8 _ (by omega) | exact hfL9 _ (by omega) | exact hfL6 _ (by omega) | exact hfL5 _ (by omega) | exact hfL4 _ (by omega) | exact hfL0 _ (by omega))) | refine sub_trans ?_ hsL0 | refine sub_trans ?_ hsL4 | refine sub_trans ?_ hsL5 | refine sub_trans ?_ hsL6 | refine sub_trans ?_ hsL9 | refine sub_trans ?_ hsL8 | refine sub_over (by assumption) | refine sub_over0 ?_ | refine sub_trans (sub_same (by assumption)) ?_ | refine sub_dropu ?_ | refine sub_drop ?_ | refine sub_put ?_ (by repeat (first | assumption | exact upd_same _ _ _ | refine (upd_other _ _ (by omega)).trans ?_ | refine hsL0 _ _ ?_ | refine hsL4 _ _ ?_ | refine hsL5 _ _ ?_ | refine hsL6 _ _ ?_ | refine hsL9 _ _ ?_ | refine hsL8 _ _ ?_))))) q7) rfl rfl (bnd_no rfl) (bnd_at rfl rfl) mx_no ?_)
      refine ⟨by (repeat (first | exact sub_refl _ | assumption | refine sub_upd' ?_ (by ((repeat refine (upd_other _ _ (by omega)).trans ?_); first | exact hf _ (by omega) | exact hfL8 _ (by omega) | exact hfL9 _ (by omega) | exact hfL6 _ (by omega) | exact hfL5 _ (by omega) | exact hfL4 _ (by omega) | exact hfL0 _ (by omega))) | refine sub_trans ?_ hsL0 | refine sub_trans ?_ hsL4 | refine sub_trans ?_ hsL5 | refine sub_trans ?_ hsL6 | refine sub_trans ?_ hsL9 | refine sub_trans ?_ hsL8 | refine sub_over (by assumption) | refine sub_over0 ?_ | refine sub_trans (sub_same (by assumption)) ?_ | refine sub_dropu ?_ | refine sub_drop ?_ | refine sub_put ?_ (by repeat (first | assumption | exact upd_same _ _ _ | refine (upd_other _ _ (by omega)).trans ?_ | refine hsL0 _ _ ?_ | refine hsL4 _ _ ?_ | refine hsL5 _ _ ?_ | refine hsL6 _ _ ?_ | refine hsL9 _ _ ?_ | refine hsL8 _ _ ?_)))), ?_⟩
      refine aOpsF_1 [168, 163] rfl rfl (by kernel_rfl) rfl ?_
      refine AOp.call' rfl rfl rfl (refroot_b (us.length + 1) ((forms es).take a) (us.take a) A7 c7 _ _ (by repeat (first | assumption | exact upd_same _ _ _ | refine (upd_other _ _ (by omega)).trans ?_ | refine hsL0 _ _ ?_ | refine hsL4 _ _ ?_ | refine hsL5 _ _ ?_ | refine hsL6 _ _ ?_ | refine hsL9 _ _ ?_ | refine hsL8 _ _ ?_)) (g7.sub (by (repeat (first | exact sub_refl _ | assumption | refine sub_upd' ?_ (by ((repeat refine (upd_other _ _ (by omega)).trans ?_); first | exact hf _ (by omega) | exact hfL8 _ (by omega) | exact hfL9 _ (by omega) | exact hfL6 _ (by omega) | exact hfL5 _ (by omega) | exact hfL4 _ (by omega) | exact hfL0 _ (by omega))) | refine sub_trans ?_ hsL0 | refine sub_trans ?_ hsL4 | refine sub_trans ?_ hsL5 | refine sub_trans ?_ hsL6 | refine sub_trans ?_ hsL9 | refine sub_trans ?_ hsL8 | refine sub_over (by assumption) | refine sub_over0 ?_ | refine sub_trans (sub_same (by assumption)) ?_ | refine sub_dropu ?_ | refine sub_drop ?_ | refine sub_put ?_ (by repeat (first | assumption | exact upd_same _ _ _ | refine (upd_other _ _ (by omega)).trans ?_ | refine hsL0 _ _ ?_ | refine hsL4 _ _ ?_ | refine hsL5 _ _ ?_ | refine hsL6 _ _ ?_ | refine hsL9 _ _ ?_ | refine hsL8 _ _ ?_)))))) ((hL2.take a).sub (by (repeat (first | exact sub_refl _ | assumption | refine sub_upd' ?_ (by ((repeat refine (upd_other _ _ (by omega)).trans ?_); first | exact hf _ (by omega) | exact hfL8 _ (by omega) | exact hfL9 _ (by omega) | exact hfL6 _ (by omega) | exact hfL5 _ (by omega) | exact hfL4 _ (by omega) | exact hfL0 _ (by omega))) | refine sub_trans ?_ hsL0 | refine sub_trans ?_ hsL4 | refine sub_trans ?_ hsL5 | refine sub_trans ?_ hsL6 | refine sub_trans ?_ hsL9 | refine sub_trans ?_ hsL8 | refine sub_over (by assumption) | refine sub_over0 ?_ | refine sub_trans (sub_same (by assumption)) ?_ | refine sub_dropu ?_ | refine sub_drop ?_ | refine sub_put ?_ (by repeat (first | assumption | exact upd_same _ _ _ | refine (upd_other _ _ (by omega)).trans ?_ | refine hsL0 _ _ ?_ | refine hsL4 _ _ ?_ | refine hsL5 _ _ ?_ | refine hsL6 _ _ ?_ | refine hsL9 _ _ ?_ | refine hsL8 _ _ ?_)))))) (by omega) (fun x hx => forms_le hG.hg x (List.mem_of_mem_take hx)) (by omega)) ?_
      rintro _ _ kv ⟨rfl, rfl, hkv⟩
      refine ⟨by (repeat (first | exact sub_refl _ | assumption | refine sub_upd' ?_ (by ((repeat refine (upd_other _ _ (by omega)).trans ?_); first | exact hf _ (by omega) | exact hfL8 _ (by omega) | exact hfL9 _ (by omega) | exact hfL6 _ (by omega) | exact hfL5 _ (by omega) | exact hfL4 _ (by omega) | exact hfL0 _ (by omega))) | refine sub_trans ?_ hsL0 | refine sub_trans ?_ hsL4 | refine sub_trans ?_ hsL5 | refine sub_trans ?_ hsL6 | refine sub_trans ?_ hsL9 | refine sub_trans ?_ hsL8 | refine sub_over (by assumption) | refine sub_over0 ?_ | refine sub_trans (sub_same (by assumption)) ?_ | refine sub_dropu ?_ | refine sub_drop ?_ | refine sub_put ?_ (by repeat (first | assumption | exact upd_same _ _ _ | refine (upd_other _ _ (by omega)).trans ?_ | refine hsL0 _ _ ?_ | refine hsL4 _ _ ?_ | refine hsL5 _ _ ?_ | refine hsL6 _ _ ?_ | refine hsL9 _ _ ?_ | refine hsL8 _ _ ?_)))), ?_⟩
      refine aOpsF_1 [164, 169, 163] rfl rfl (by kernel_rfl) rfl (AOp.neAgg true rfl rfl rfl (hv_sc _) (hv_sc _) ⟨fun _ => rfl, fun _ => rfl⟩ ?_)
      refine ⟨by (repeat (first | exact sub_refl _ | assumption | refine sub_upd' ?_ (by ((repeat refine (upd_other _ _ (by omega)).trans ?_); first | exact hf _ (by omega) | exact hfL8 _ (by omega) | exact hfL9 _ (by omega) | exact hfL6 _ (by omega) | exact hfL5 _ (by omega) | exact hfL4 _ (by omega) | exact hfL0 _ (by omega))) | refine sub_trans ?_ hsL0 | refine sub_trans ?_ hsL4 | refine sub_trans ?_ hsL5 | refine sub_trans ?_ hsL6 | refine sub_trans ?_ hsL9 | refine sub_trans ?_ hsL8 | refine sub_over (by assumption) | refine sub_over0 ?_ | refine sub_trans (sub_same (by assumption)) ?_ | refine sub_dropu ?_ | refine sub_drop ?_ | refine sub_put ?_ (by repeat (first | assumption | exact upd_same _ _ _ | refine (upd_other _ _ (by omega)).trans ?_ | refine hsL0 _ _ ?_ | refine hsL4 _ _ ?_ | refine hsL5 _ _ ?_ | refine hsL6 _ _ ?_ | refine hsL9 _ _ ?_ | refine hsL8 _ _ ?_)))), ?_⟩
      refine aOpsF_end ?_
      refine AnyA.split 25 (by kernel_rfl) (by kernel_rfl) (by decide) (by decide) (Nat.le_of_ble_eq_true rfl) ?_
      refine AnyA.float [(18, 171), (19, 172), (20, 173), (22, 175)] [21, 23, 24] (by kernel_rfl) (Nat.le_of_ble_eq_true rfl) (by kernel_rfl) (sub_refl _) ?_
      refine DrawF.q 18 171 [(170, none), (163, none)] rfl (by kernel_rfl) rfl (fun Hc kq hSb => AOp.move' (.inl rfl) rfl ⟨rfl, rfl, rfl⟩) ?_
      refine DrawF.q 19 172 [(17, none), (171, some 18)] rfl (by kernel_rfl) rfl (fun Hc kq hSb => AOp.move' (.inl rfl) rfl ⟨rfl, rfl, rfl⟩) ?_
      refine DrawF.q 20 173 [(6, none), (171, some 18)] rfl (by kernel_rfl) rfl (fun Hc kq hSb => AOp.move' (.inl rfl) rfl ⟨rfl, rfl, rfl⟩) ?_
      refine DrawF.q 22 175 [(1, none), (171, some 18)] rfl (by kernel_rfl) rfl (fun Hc kq hSb => AOp.move' (.inl rfl) rfl ⟨rfl, rfl, rfl⟩) ?_
      refine DrawF.done ?_
      show aOpsF _ _ _ _ _ _ [21, 23, 24] ⟨_, _, _⟩
      refine aOpsF_1 [173, 171] rfl rfl (by kernel_rfl) rfl ?_
      refine AOp.call' rfl rfl rfl (refforms _ _ es (some ⟨ka, 0, some 1⟩) _ (SLC.xblk (by repeat (first | assumption | exact upd_same _ _ _ | refine (upd_other _ _ (by omega)).trans ?_ | refine hsL0 _ _ ?_ | refine hsL4 _ _ ?_ | refine hsL5 _ _ ?_ | refine hsL6 _ _ ?_ | refine hsL9 _ _ ?_ | refine hsL8 _ _ ?_))) hG.hg hG.hm) ?_
      rintro _ H4 k4 ⟨q3, zs, hq3a, hq3b, rfl, hsL6, hfL6, hq3, hL3⟩
      have hzl := hL3.len
      rw [List.length_map] at hzl
      refine ⟨by (repeat (first | exact sub_refl _ | assumption | refine sub_upd' ?_ (by ((repeat refine (upd_other _ _ (by omega)).trans ?_); first | exact hf _ (by omega) | exact hfL8 _ (by omega) | exact hfL9 _ (by omega) | exact hfL6 _ (by omega) | exact hfL5 _ (by omega) | exact hfL4 _ (by omega) | exact hfL0 _ (by omega))) | refine sub_trans ?_ hsL0 | refine sub_trans ?_ hsL4 | refine sub_trans ?_ hsL5 | refine sub_trans ?_ hsL6 | refine sub_trans ?_ hsL9 | refine sub_trans ?_ hsL8 | refine sub_over (by assumption) | refine sub_over0 ?_ | refine sub_trans (sub_same (by assumption)) ?_ | refine sub_dropu ?_ | refine sub_drop ?_ | refine sub_put ?_ (by repeat (first | assumption | exact upd_same _ _ _ | refine (upd_other _ _ (by omega)).trans ?_ | refine hsL0 _ _ ?_ | refine hsL4 _ _ ?_ | refine hsL5 _ _ ?_ | refine hsL6 _ _ ?_ | refine hsL9 _ _ ?_ | refine hsL8 _ _ ?_)))), ?_⟩
      refine aOpsF_1 [174, 175, 171] rfl rfl (by kernel_rfl) rfl ?_
      refine AOp.call' rfl rfl rfl (refproofF_b _ _ (by repeat (first | assumption | exact upd_same _ _ _ | refine (upd_other _ _ (by omega)).trans ?_ | refine hsL0 _ _ ?_ | refine hsL4 _ _ ?_ | refine hsL5 _ _ ?_ | refine hsL6 _ _ ?_ | refine hsL9 _ _ ?_ | refine hsL8 _ _ ?_)) (forms es) zs (some ⟨q3, 0, some 1⟩) _ (NewF.slc hq3) hL3 (by omega) (forms_le hG.hg) (a : Int) (by omega) (by omega)) ?_
      rintro _ _ kw ⟨qw, hw1, hw2, rfl, rfl⟩
      refine ⟨by (repeat (first | exact sub_refl _ | assumption | refine sub_upd' ?_ (by ((repeat refine (upd_other _ _ (by omega)).trans ?_); first | exact hf _ (by omega) | exact hfL8 _ (by omega) | exact hfL9 _ (by omega) | exact hfL6 _ (by omega) | exact hfL5 _ (by omega) | exact hfL4 _ (by omega) | exact hfL0 _ (by omega))) | refine sub_trans ?_ hsL0 | refine sub_trans ?_ hsL4 | refine sub_trans ?_ hsL5 | refine sub_trans ?_ hsL6 | refine sub_trans ?_ hsL9 | refine sub_trans ?_ hsL8 | refine sub_over (by assumption) | refine sub_over0 ?_ | refine sub_trans (sub_same (by assumption)) ?_ | refine sub_dropu ?_ | refine sub_drop ?_ | refine sub_put ?_ (by repeat (first | assumption | exact upd_same _ _ _ | refine (upd_other _ _ (by omega)).trans ?_ | refine hsL0 _ _ ?_ | refine hsL4 _ _ ?_ | refine hsL5 _ _ ?_ | refine hsL6 _ _ ?_ | refine hsL9 _ _ ?_ | refine hsL8 _ _ ?_)))), ?_⟩
      refine aOpsF_1 [172, 176, 171] rfl rfl (by kernel_rfl) rfl ?_
      refine AOp.call' rfl rfl rfl (sameH_b _ _ (proofZ (forms es) (a : Int)) (proofZ (forms es) (a : Int)) (some ⟨qu, 0, some 1⟩) (some ⟨qw, 0, some 1⟩) _ _ (SLC.pbk (e := 31) (by repeat (first | assumption | exact upd_same _ _ _ | refine (upd_other _ _ (by omega)).trans ?_ | refine hsL0 _ _ ?_ | refine hsL4 _ _ ?_ | refine hsL5 _ _ ?_ | refine hsL6 _ _ ?_ | refine hsL9 _ _ ?_ | refine hsL8 _ _ ?_))) (SLC.pbk (e := 31) (by repeat (first | assumption | exact upd_same _ _ _ | refine (upd_other _ _ (by omega)).trans ?_ | refine hsL0 _ _ ?_ | refine hsL4 _ _ ?_ | refine hsL5 _ _ ?_ | refine hsL6 _ _ ?_ | refine hsL9 _ _ ?_ | refine hsL8 _ _ ?_))) (by omega)) ?_
      rintro _ _ ky ⟨rfl, rfl, hky⟩
      rw [show decide (proofZ (forms es) (a : Int) = proofZ (forms es) (a : Int)) = true from decide_eq_true rfl]
      refine ⟨by (repeat (first | exact sub_refl _ | assumption | refine sub_upd' ?_ (by ((repeat refine (upd_other _ _ (by omega)).trans ?_); first | exact hf _ (by omega) | exact hfL8 _ (by omega) | exact hfL9 _ (by omega) | exact hfL6 _ (by omega) | exact hfL5 _ (by omega) | exact hfL4 _ (by omega) | exact hfL0 _ (by omega))) | refine sub_trans ?_ hsL0 | refine sub_trans ?_ hsL4 | refine sub_trans ?_ hsL5 | refine sub_trans ?_ hsL6 | refine sub_trans ?_ hsL9 | refine sub_trans ?_ hsL8 | refine sub_over (by assumption) | refine sub_over0 ?_ | refine sub_trans (sub_same (by assumption)) ?_ | refine sub_dropu ?_ | refine sub_drop ?_ | refine sub_put ?_ (by repeat (first | assumption | exact upd_same _ _ _ | refine (upd_other _ _ (by omega)).trans ?_ | refine hsL0 _ _ ?_ | refine hsL4 _ _ ?_ | refine hsL5 _ _ ?_ | refine hsL6 _ _ ?_ | refine hsL9 _ _ ?_ | refine hsL8 _ _ ?_)))), ?_⟩
      refine aOpsF_end ?_
      refine AnyA.float [(25, 178), (26, 179), (27, 180), (28, 181)] [] (by kernel_rfl) (Nat.le_of_ble_eq_true rfl) (by kernel_rfl) (sub_refl _) ?_
      refine DrawF.q 25 178 [(177, none), (171, none)] rfl (by kernel_rfl) rfl (fun Hc kq hSb => AOp.un' rfl rfl rfl ⟨rfl, rfl, rfl⟩) ?_
      refine DrawF.q 26 179 [(171, none), (178, some 25), (163, none)] rfl (by kernel_rfl) rfl (fun Hc kq hSb => AOp.pickB rfl rfl rfl ⟨rfl, rfl, rfl⟩) ?_
      refine DrawF.q 27 180 [(163, none), (179, some 26), (161, none)] rfl (by kernel_rfl) rfl (fun Hc kq hSb => AOp.pickB rfl rfl rfl ⟨rfl, rfl, rfl⟩) ?_
      refine DrawF.q 28 181 [(161, none), (180, some 27)] rfl (by kernel_rfl) rfl (fun Hc kq hSb => AOp.pickB rfl rfl rfl ⟨rfl, rfl, rfl⟩) ?_
      refine DrawF.done ?_
      show aOpsF _ _ _ _ _ _ [] ⟨_, _, _⟩
      refine aOpsF_end ?_
      show ACode _ _ _ _ _ _
      refine ACode.cond rfl (fun c5 => absurd c5 (by simp)) (fun c5 => ?_)
      refine ACode.skip ?_
      show ACode _ _ _ _ _ _
      refine ACode.seq ?_
      refine ACode.region' [0, 1, 2, 3, 4, 5, 6, 7, 8, 9, 10, 11, 12, 13, 14, 15, 16, 17, 18, 19, 20, 21, 22] (by kernel_rfl) rfl ?_
      refine aOps_1 rfl rfl rfl (AOp.move' (.inl rfl) rfl ?_)
      refine aOps_q rfl rfl rfl (AOp.call' rfl rfl rfl (size_l _ _ n q es g0.2 (hG.sub (by (repeat (first | exact sub_refl _ | assumption | refine sub_upd' ?_ (by ((repeat refine (upd_other _ _ (by omega)).trans ?_); first | exact hf _ (by omega) | exact hfL8 _ (by omega) | exact hfL9 _ (by omega) | exact hfL6 _ (by omega) | exact hfL5 _ (by omega) | exact hfL4 _ (by omega) | exact hfL0 _ (by omega))) | refine sub_trans ?_ hsL0 | refine sub_trans ?_ hsL4 | refine sub_trans ?_ hsL5 | refine sub_trans ?_ hsL6 | refine sub_trans ?_ hsL9 | refine sub_trans ?_ hsL8 | refine sub_over (by assumption) | refine sub_over0 ?_ | refine sub_trans (sub_same (by assumption)) ?_ | refine sub_dropu ?_ | refine sub_drop ?_ | refine sub_put ?_ (by repeat (first | assumption | exact upd_same _ _ _ | refine (upd_other _ _ (by omega)).trans ?_ | refine hsL0 _ _ ?_ | refine hsL4 _ _ ?_ | refine hsL5 _ _ ?_ | refine hsL6 _ _ ?_ | refine hsL9 _ _ ?_ | refine hsL8 _ _ ?_))))))) (fun _ _ _ h => h)) (fun kq hkq => ?_)
      refine aOps_1 rfl rfl rfl (AOp.move' (.inl rfl) rfl ?_)
      refine aOps_1 rfl rfl rfl (AOp.len' rfl rfl ?_)
      refine aOps_1 rfl rfl rfl (AOp.bin' rfl rfl rfl rfl ?_)
      rw [show ((es.length : Int) == (es.length : Int)) = true from beq_self_eq_true _]
      refine aOps_1 rfl rfl rfl (AOp.move' (.inl rfl) rfl ?_)
      refine aOps_w rfl rfl rfl (AOp.move' (.inl rfl) rfl ?_)
      refine aOps_wq rfl rfl rfl (AOp.call' rfl rfl rfl (head_l _ _ (by repeat (first | assumption | exact upd_same _ _ _ | refine (upd_other _ _ (by omega)).trans ?_ | refine hsL0 _ _ ?_ | refine hsL4 _ _ ?_ | refine hsL5 _ _ ?_ | refine hsL6 _ _ ?_ | refine hsL9 _ _ ?_ | refine hsL8 _ _ ?_)) n q es g0.2 (hG.sub (by (repeat (first | exact sub_refl _ | assumption | refine sub_upd' ?_ (by ((repeat refine (upd_other _ _ (by omega)).trans ?_); first | exact hf _ (by omega) | exact hfL8 _ (by omega) | exact hfL9 _ (by omega) | exact hfL6 _ (by omega) | exact hfL5 _ (by omega) | exact hfL4 _ (by omega) | exact hfL0 _ (by omega))) | refine sub_trans ?_ hsL0 | refine sub_trans ?_ hsL4 | refine sub_trans ?_ hsL5 | refine sub_trans ?_ hsL6 | refine sub_trans ?_ hsL9 | refine sub_trans ?_ hsL8 | refine sub_over (by assumption) | refine sub_over0 ?_ | refine sub_trans (sub_same (by assumption)) ?_ | refine sub_dropu ?_ | refine sub_drop ?_ | refine sub_put ?_ (by repeat (first | assumption | exact upd_same _ _ _ | refine (upd_other _ _ (by omega)).trans ?_ | refine hsL0 _ _ ?_ | refine hsL4 _ _ ?_ | refine hsL5 _ _ ?_ | refine hsL6 _ _ ?_ | refine hsL9 _ _ ?_ | refine hsL8 _ _ ?_))))))) (fun _ _ _ h => h)) (fun kq hkq => ?_)
      refine aOps_w rfl rfl rfl (AOp.move' (.inl rfl) rfl ?_)
      refine aOps_wq rfl rfl rfl (AOp.call' rfl rfl rfl (refhead _ _ (by repeat (first | assumption | exact upd_same _ _ _ | refine (upd_other _ _ (by omega)).trans ?_ | refine hsL0 _ _ ?_ | refine hsL4 _ _ ?_ | refine hsL5 _ _ ?_ | refine hsL6 _ _ ?_ | refine hsL9 _ _ ?_ | refine hsL8 _ _ ?_)) es (some ⟨ka, 0, some 1⟩) _ (SLC.xblk (by repeat (first | assumption | exact upd_same _ _ _ | refine (upd_other _ _ (by omega)).trans ?_ | refine hsL0 _ _ ?_ | refine hsL4 _ _ ?_ | refine hsL5 _ _ ?_ | refine hsL6 _ _ ?_ | refine hsL9 _ _ ?_ | refine hsL8 _ _ ?_))) hG.hg hG.hm) (fun _ _ _ h => h)) (fun kq hkq => ?_)
      refine aOps_w rfl rfl rfl (AOp.eqAgg true rfl rfl rfl (hv_sc _) (hv_sc _) ⟨fun _ => rfl, fun _ => rfl⟩ ?_)
      refine aOps_1 rfl rfl rfl (AOp.pickB rfl rfl rfl ?_)
      refine aOps_1 rfl rfl rfl (AOp.move' (.inl rfl) rfl ?_)
      refine aOps_w rfl rfl rfl (AOp.move' (.inl rfl) rfl ?_)
      refine aOps_w rfl rfl rfl ?_
      refine AOp.call' rfl rfl rfl (forms_l _ _ n q es g0.2 (hG.sub (by (repeat (first | exact sub_refl _ | assumption | refine sub_upd' ?_ (by ((repeat refine (upd_other _ _ (by omega)).trans ?_); first | exact hf _ (by omega) | exact hfL8 _ (by omega) | exact hfL9 _ (by omega) | exact hfL6 _ (by omega) | exact hfL5 _ (by omega) | exact hfL4 _ (by omega) | exact hfL0 _ (by omega))) | refine sub_trans ?_ hsL0 | refine sub_trans ?_ hsL4 | refine sub_trans ?_ hsL5 | refine sub_trans ?_ hsL6 | refine sub_trans ?_ hsL9 | refine sub_trans ?_ hsL8 | refine sub_over (by assumption) | refine sub_over0 ?_ | refine sub_trans (sub_same (by assumption)) ?_ | refine sub_dropu ?_ | refine sub_drop ?_ | refine sub_put ?_ (by repeat (first | assumption | exact upd_same _ _ _ | refine (upd_other _ _ (by omega)).trans ?_ | refine hsL0 _ _ ?_ | refine hsL4 _ _ ?_ | refine hsL5 _ _ ?_ | refine hsL6 _ _ ?_ | refine hsL9 _ _ ?_ | refine hsL8 _ _ ?_))))))) ?_
      rintro _ H5 k5 ⟨q4, ys, hq4a, hq4b, rfl, hsL5, hfL5, hq4, hL4⟩
      have hyl := hL4.len
      rw [List.length_map] at hyl
      refine aOps_w rfl rfl rfl (AOp.move' (.inl rfl) rfl ?_)
      refine aOps_w rfl rfl rfl ?_
      refine AOp.call' rfl rfl rfl (refforms _ _ es (some ⟨ka, 0, some 1⟩) _ (SLC.xblk (by repeat (first | assumption | exact upd_same _ _ _ | refine (upd_other _ _ (by omega)).trans ?_ | refine hsL0 _ _ ?_ | refine hsL4 _ _ ?_ | refine hsL5 _ _ ?_ | refine hsL6 _ _ ?_ | refine hsL9 _ _ ?_ | refine hsL8 _ _ ?_))) hG.hg hG.hm) ?_
      rintro _ H6 k6 ⟨q5, xs, hq5a, hq5b, rfl, hsL4, hfL4, hq5, hL5⟩
      refine aOps_w rfl rfl rfl ?_
      refine AOp.call' rfl rfl rfl (sameAll_b _ _ (forms es) (forms es) ys xs (some ⟨q4, 0, some 1⟩) (some ⟨q5, 0, some 1⟩) _ _ (NewF.slc (by repeat (first | assumption | exact upd_same _ _ _ | refine (upd_other _ _ (by omega)).trans ?_ | refine hsL0 _ _ ?_ | refine hsL4 _ _ ?_ | refine hsL5 _ _ ?_ | refine hsL6 _ _ ?_ | refine hsL9 _ _ ?_ | refine hsL8 _ _ ?_))) (hL4.sub (by (repeat (first | exact sub_refl _ | assumption | refine sub_upd' ?_ (by ((repeat refine (upd_other _ _ (by omega)).trans ?_); first | exact hf _ (by omega) | exact hfL8 _ (by omega) | exact hfL9 _ (by omega) | exact hfL6 _ (by omega) | exact hfL5 _ (by omega) | exact hfL4 _ (by omega) | exact hfL0 _ (by omega))) | refine sub_trans ?_ hsL0 | refine sub_trans ?_ hsL4 | refine sub_trans ?_ hsL5 | refine sub_trans ?_ hsL6 | refine sub_trans ?_ hsL9 | refine sub_trans ?_ hsL8 | refine sub_over (by assumption) | refine sub_over0 ?_ | refine sub_trans (sub_same (by assumption)) ?_ | refine sub_dropu ?_ | refine sub_drop ?_ | refine sub_put ?_ (by repeat (first | assumption | exact upd_same _ _ _ | refine (upd_other _ _ (by omega)).trans ?_ | refine hsL0 _ _ ?_ | refine hsL4 _ _ ?_ | refine hsL5 _ _ ?_ | refine hsL6 _ _ ?_ | refine hsL9 _ _ ?_ | refine hsL8 _ _ ?_)))))) (NewF.slc hq5) hL5 (by omega) (forms_le hG.hg)) ?_
      rintro _ _ kz ⟨rfl, rfl, hkz⟩
      rw [show decide (forms es = forms es) = true from decide_eq_true rfl]
      refine aOps_1 rfl rfl rfl (AOp.pickB rfl rfl rfl ?_)
      refine aOps_1 rfl rfl rfl (AOp.move' (.inl rfl) rfl ?_)
      refine aOps_wq rfl rfl rfl (AOp.call' rfl rfl rfl (awake21 _ _ (by repeat (first | assumption | exact upd_same _ _ _ | refine (upd_other _ _ (by omega)).trans ?_ | refine hsL0 _ _ ?_ | refine hsL4 _ _ ?_ | refine hsL5 _ _ ?_ | refine hsL6 _ _ ?_ | refine hsL9 _ _ ?_ | refine hsL8 _ _ ?_))) (fun _ _ _ h => h)) (fun kq hkq => ?_)
      refine aOps_1 rfl rfl rfl (AOp.pickB rfl rfl rfl ?_)
      refine aOps_1 rfl rfl rfl (AOp.move' (.inr rfl) rfl ?_)
      refine aOps_end ?_
      show ACode _ _ _ _ _ _
      refine ACode.ret ?_
      exact RetQ.one rfl rfl (by (repeat (first | exact sub_refl _ | assumption | refine sub_upd' ?_ (by ((repeat refine (upd_other _ _ (by omega)).trans ?_); first | exact hf _ (by omega) | exact hfL8 _ (by omega) | exact hfL9 _ (by omega) | exact hfL6 _ (by omega) | exact hfL5 _ (by omega) | exact hfL4 _ (by omega) | exact hfL0 _ (by omega))) | refine sub_trans ?_ hsL0 | refine sub_trans ?_ hsL4 | refine sub_trans ?_ hsL5 | refine sub_trans ?_ hsL6 | refine sub_trans ?_ hsL9 | refine sub_trans ?_ hsL8 | refine sub_over (by assumption) | refine sub_over0 ?_ | refine sub_trans (sub_same (by assumption)) ?_ | refine sub_dropu ?_ | refine sub_drop ?_ | refine sub_put ?_ (by repeat (first | assumption | exact upd_same _ _ _ | refine (upd_other _ _ (by omega)).trans ?_ | refine hsL0 _ _ ?_ | refine hsL4 _ _ ?_ | refine hsL5 _ _ ?_ | refine hsL6 _ _ ?_ | refine hsL9 _ _ ?_ | refine hsL8 _ _ ?_))))) stays (fun hk => ⟨rfl, rfl, by omega⟩)

theorem ledgerPlays_B (ht : H 0 = some tabBlk) (l : List Ent) (A : Option Addr) (c : Nat) (hs : SLC H 65 A l.length c (ecs l)) (hl : l.length ≤ 9223372036854775807) (a : Nat) (ha : a = (goods l).length) : ACalls Tryd.prog 1 5 [.slice A l.length c, .int .i64 (a : Int)] H k (Same H k (.bool true)) := by
  refine ACalls.fresh fun hf => ?_
  refine ACalls.body Tryd.func5 rfl (Nat.le_of_ble_eq_true rfl) ?_
  have h0k := old_lt hf ht
  refine ACode.seq ?_
  refine ACode.region' [0] (by kernel_rfl) rfl ?_
  refine aOps_1 rfl rfl rfl (AOp.move' (.inr rfl) rfl ?_)
  refine aOps_end ?_
  show ACode _ _ _ _ _ _
  refine ACode.seq ?_
  refine ACode.seq ?_
  refine ACode.region' [0, 1, 2] (by kernel_rfl) rfl ?_
  refine aOps_1 rfl rfl rfl (AOp.move' (.inl rfl) rfl ?_)
  refine aOps_1 rfl rfl rfl (AOp.len' rfl rfl ?_)
  refine aOps_1 rfl rfl rfl (AOp.bin' rfl rfl rfl rfl ?_)
  refine aOps_end ?_
  show ACode _ _ _ _ _ _
  refine ACode.cond rfl (fun c0 => ?_) (fun c0 => ?_)
  · try simp only [decide_eq_true_eq, decide_eq_false_iff_not, beq_iff_eq, beq_eq_false_iff_ne, ne_eq, bne_iff_ne, Bool.not_eq_true', Bool.not_eq_false', Int.not_lt, Int.not_le, gt_iff_lt, ge_iff_le, bne_eq_false_iff_eq, Bool.not_eq_eq_eq_not, Bool.not_true, Bool.not_false] at c0
    refine ACode.seq ?_
    refine ACode.region' [0, 1] (by kernel_rfl) rfl ?_
    refine aOps_q rfl rfl rfl (AOp.call' rfl rfl rfl (awake21 _ _ (by repeat (first | assumption | exact upd_same _ _ _ | refine (upd_other _ _ (by omega)).trans ?_ | refine hsL4 _ _ ?_ | refine hsL5 _ _ ?_ | refine hsL6 _ _ ?_ | refine hsL9 _ _ ?_ | refine hsL8 _ _ ?_))) (fun _ _ _ h => h)) (fun kq hkq => ?_)
    refine aOps_1 rfl rfl rfl (AOp.move' (.inr rfl) rfl ?_)
    refine aOps_end ?_
    show ACode _ _ _ _ _ _
    refine ACode.ret ?_
    exact RetQ.one rfl rfl (by (repeat (first | exact sub_refl _ | assumption | refine sub_upd' ?_ (by ((repeat refine (upd_other _ _ (by omega)).trans ?_); first | exact hf _ (by omega) | exact hfL8 _ (by omega) | exact hfL9 _ (by omega) | exact hfL6 _ (by omega) | exact hfL5 _ (by omega) | exact hfL4 _ (by omega))) | refine sub_trans ?_ hsL4 | refine sub_trans ?_ hsL5 | refine sub_trans ?_ hsL6 | refine sub_trans ?_ hsL9 | refine sub_trans ?_ hsL8 | refine sub_over (by assumption) | refine sub_over0 ?_ | refine sub_trans (sub_same (by assumption)) ?_ | refine sub_dropu ?_ | refine sub_drop ?_ | refine sub_put ?_ (by repeat (first | assumption | exact upd_same _ _ _ | refine (upd_other _ _ (by omega)).trans ?_ | refine hsL4 _ _ ?_ | refine hsL5 _ _ ?_ | refine hsL6 _ _ ?_ | refine hsL9 _ _ ?_ | refine hsL8 _ _ ?_))))) stays (fun hk => ⟨rfl, rfl, by omega⟩)
  · try simp only [decide_eq_true_eq, decide_eq_false_iff_not, beq_iff_eq, beq_eq_false_iff_ne, ne_eq, bne_iff_ne, Bool.not_eq_true', Bool.not_eq_false', Int.not_lt, Int.not_le, gt_iff_lt, ge_iff_le, bne_eq_false_iff_eq, Bool.not_eq_eq_eq_not, Bool.not_true, Bool.not_false] at c0
    refine ACode.skip ?_
    show ACode _ _ _ _ _ _
    refine ACode.seq ?_
    refine ACode.region' [0, 1] (by kernel_rfl) rfl ?_
    refine aOps_1 rfl rfl rfl ?_
    refine AOp.call' rfl rfl rfl (new_l _ _) ?_
    rintro _ _ ka ⟨n, q, hna, hnq, hqa, rfl, rfl⟩
    have hG0 := LG.new (X := H) hnq
    refine aOps_1 rfl rfl rfl (AOp.move' (.inr rfl) rfl ?_)
    refine aOps_end ?_
    show ACode _ _ _ _ _ _
    refine ACode.seq ?_
    refine ACode.region' [0] (by kernel_rfl) rfl ?_
    refine aOps_1 rfl rfl rfl (AOp.move' (.inr rfl) rfl ?_)
    refine aOps_end ?_
    show ACode _ _ _ _ _ _
    refine ACode.seq ?_
    refine ACode.seq ?_
    refine ACode.adopt (t := 6) 38 65 (by decide) rfl ?_
    refine ACode.region' [0] (by kernel_rfl) rfl ?_
    refine aOps_1 rfl rfl rfl (AOp.move' (.inr rfl) rfl ?_)
    refine aOps_end ?_
    show ACode _ _ _ _ _ _
    refine ACode.block ?_
    refine ACode.countG (γ := Hp × List Value) (fun i g => [(7, .int .i64 (i : Int)), (6, .slice (some ⟨ka, 0, some 1⟩) (goods (l.take i)).length (goods (l.take i)).length)]) [(0, _), (1, _), (5, _), (20, _), (21, _), (22, _), (24, _)] (fun i g => upd g.1 ka (some (xblk (goods (l.take i))))) (l.length) (fun i g => Ab.Sub H g.1 ∧ LG g.1 n q (goods (l.take i)) g.2 ∧ g.1 ka = none) ((upd (upd H q (some (kblk T74 [] []))) n (some (lblk TL q 0)), [])) (.cons rfl (.cons rfl .nil)) (.cons rfl (.cons rfl (.cons rfl (.cons rfl (.cons rfl (.cons rfl (.cons rfl .nil))))))) (by (repeat (first | exact sub_refl _ | assumption | refine sub_upd' ?_ (by ((repeat refine (upd_other _ _ (by omega)).trans ?_); first | exact hf _ (by omega) | exact hfL8 _ (by omega) | exact hfL9 _ (by omega) | exact hfL6 _ (by omega) | exact hfL5 _ (by omega) | exact hfL4 _ (by omega))) | refine sub_trans ?_ hsL4 | refine sub_trans ?_ hsL5 | refine sub_trans ?_ hsL6 | refine sub_trans ?_ hsL9 | refine sub_trans ?_ hsL8 | refine sub_over (by assumption) | refine sub_over0 ?_ | refine sub_trans (sub_same (by assumption)) ?_ | refine sub_dropu ?_ | refine sub_drop ?_ | refine sub_put ?_ (by repeat (first | assumption | exact upd_same _ _ _ | refine (upd_other _ _ (by omega)).trans ?_ | refine hsL4 _ _ ?_ | refine hsL5 _ _ ?_ | refine hsL6 _ _ ?_ | refine hsL9 _ _ ?_ | refine hsL8 _ _ ?_))))) ⟨sub_upf hf hna (sub_upf hf (by omega) (sub_refl _)), hG0, (upd_other _ _ (by omega)).trans ((upd_other _ _ (by omega)).trans (hf ka (by omega)))⟩ (fun i0 g0 kL0 HL0 hiL0 hkL0 hsL0 hfL0 hxL0 => ?_)
    show ACode _ _ _ _ _ ⟨_, _, _⟩
    obtain ⟨hx1, hx2, hx3⟩ := hxL0
    have htg := hx1 _ _ ht
    have hXH : Ab.Sub g0.1 HL0 := sub_trans (sub_upd' (sub_refl _) hx3) hsL0
    have hH : Ab.Sub H HL0 := sub_trans hx1 hXH
    refine ACode.seq ?_
    refine ACode.seq ?_
    refine ACode.region' [0, 1, 2, 3] (by kernel_rfl) rfl ?_
    refine aOps_1 rfl rfl rfl (AOp.move' (.inl rfl) rfl ?_)
    refine aOps_1 rfl rfl rfl (AOp.move' (.inl rfl) rfl ?_)
    refine aOps_1 rfl rfl rfl (AOp.len' rfl rfl ?_)
    refine aOps_1 rfl rfl rfl (AOp.bin' rfl rfl rfl rfl ?_)
    refine aOps_end ?_
    show ACode _ _ _ _ _ _
    refine ACode.cond rfl (fun c1 => ?_) (fun c1 => ?_)
    · try simp only [decide_eq_true_eq, decide_eq_false_iff_not, beq_iff_eq, beq_eq_false_iff_ne, ne_eq, bne_iff_ne, Bool.not_eq_true', Bool.not_eq_false', Int.not_lt, Int.not_le, gt_iff_lt, ge_iff_le, bne_eq_false_iff_eq, Bool.not_eq_eq_eq_not, Bool.not_true, Bool.not_false] at c1
      refine ACode.skip ?_
      show ACode _ _ _ _ _ _
      refine ACode.seq ?_
      refine ACode.block ?_
      refine ACode.seq ?_
      obtain ⟨n8_2, o8_2, s8_2, hq8_2, hp8_2⟩ := SLC.elE (hs.sub hH) (show i0 < l.length by omega)
      obtain ⟨n8_9, o8_9, s8_9, hq8_9, hp8_9⟩ := SLC.elE (hs.sub hH) (show i0 < l.length by omega)
      refine ACode.region' [0, 1, 2, 3, 4, 5, 6, 7, 8, 9, 10, 11, 12, 13, 14] (by kernel_rfl) rfl ?_
      refine aOps_1 rfl rfl rfl (AOp.move' (.inl rfl) rfl ?_)
      refine aOps_1 rfl rfl rfl (AOp.move' (.inl rfl) rfl ?_)
      refine aOps_1 rfl rfl rfl (AOp.indexP (aslcAt_sub (by (repeat (first | exact sub_refl _ | assumption | refine sub_upd' ?_ (by ((repeat refine (upd_other _ _ (by omega)).trans ?_); first | exact hf _ (by omega) | exact hfL8 _ (by omega) | exact hfL9 _ (by omega) | exact hfL6 _ (by omega) | exact hfL5 _ (by omega) | exact hfL4 _ (by omega) | exact hfL0 _ (by omega))) | refine sub_trans ?_ hsL0 | refine sub_trans ?_ hsL4 | refine sub_trans ?_ hsL5 | refine sub_trans ?_ hsL6 | refine sub_trans ?_ hsL9 | refine sub_trans ?_ hsL8 | refine sub_over (by assumption) | refine sub_over0 ?_ | refine sub_trans (sub_same (by assumption)) ?_ | refine sub_dropu ?_ | refine sub_drop ?_ | refine sub_put ?_ (by repeat (first | assumption | exact upd_same _ _ _ | refine (upd_other _ _ (by omega)).trans ?_ | refine hsL0 _ _ ?_ | refine hsL4 _ _ ?_ | refine hsL5 _ _ ?_ | refine hsL6 _ _ ?_ | refine hsL9 _ _ ?_ | refine hsL8 _ _ ?_))))) hq8_2) rfl rfl rfl ?_)
      refine aOps_1 rfl rfl rfl (AOp.fieldP (hp8_2.sub (by (repeat (first | exact sub_refl _ | assumption | refine sub_upd' ?_ (by ((repeat refine (upd_other _ _ (by omega)).trans ?_); first | exact hf _ (by omega) | exact hfL8 _ (by omega) | exact hfL9 _ (by omega) | exact hfL6 _ (by omega) | exact hfL5 _ (by omega) | exact hfL4 _ (by omega) | exact hfL0 _ (by omega))) | refine sub_trans ?_ hsL0 | refine sub_trans ?_ hsL4 | refine sub_trans ?_ hsL5 | refine sub_trans ?_ hsL6 | refine sub_trans ?_ hsL9 | refine sub_trans ?_ hsL8 | refine sub_over (by assumption) | refine sub_over0 ?_ | refine sub_trans (sub_same (by assumption)) ?_ | refine sub_dropu ?_ | refine sub_drop ?_ | refine sub_put ?_ (by repeat (first | assumption | exact upd_same _ _ _ | refine (upd_other _ _ (by omega)).trans ?_ | refine hsL0 _ _ ?_ | refine hsL4 _ _ ?_ | refine hsL5 _ _ ?_ | refine hsL6 _ _ ?_ | refine hsL9 _ _ ?_ | refine hsL8 _ _ ?_)))))) rfl (by decide) (by rw [entc_len]; decide) rfl ?_)
      refine aOps_1 rfl rfl rfl (AOp.loadP1 (hp8_2.sub (by (repeat (first | exact sub_refl _ | assumption | refine sub_upd' ?_ (by ((repeat refine (upd_other _ _ (by omega)).trans ?_); first | exact hf _ (by omega) | exact hfL8 _ (by omega) | exact hfL9 _ (by omega) | exact hfL6 _ (by omega) | exact hfL5 _ (by omega) | exact hfL4 _ (by omega) | exact hfL0 _ (by omega))) | refine sub_trans ?_ hsL0 | refine sub_trans ?_ hsL4 | refine sub_trans ?_ hsL5 | refine sub_trans ?_ hsL6 | refine sub_trans ?_ hsL9 | refine sub_trans ?_ hsL8 | refine sub_over (by assumption) | refine sub_over0 ?_ | refine sub_trans (sub_same (by assumption)) ?_ | refine sub_dropu ?_ | refine sub_drop ?_ | refine sub_put ?_ (by repeat (first | assumption | exact upd_same _ _ _ | refine (upd_other _ _ (by omega)).trans ?_ | refine hsL0 _ _ ?_ | refine hsL4 _ _ ?_ | refine hsL5 _ _ ?_ | refine hsL6 _ _ ?_ | refine hsL9 _ _ ?_ | refine hsL8 _ _ ?_)))))) rfl rfl (entc_g _) ?_)
      refine aOps_1 rfl rfl rfl (AOp.bin' rfl rfl rfl rfl ?_)
      refine aOps_1 rfl rfl rfl (AOp.move' (.inl rfl) rfl ?_)
      refine aOps_gd0 rfl rfl (wantT rfl rfl rfl) (fun hc => AOp.slots [(0, _)] (.cons rfl .nil) (AOp.move' (.inl rfl) rfl ⟨rfl, rfl, rfl⟩)) ?_
      refine aOps_gd0 rfl rfl (wantT rfl rfl rfl) (fun hc => AOp.slots [(7, _)] (.cons rfl .nil) (AOp.move' (.inl rfl) rfl ⟨rfl, rfl, rfl⟩)) ?_
      refine aOps_gd0 rfl rfl (wantT rfl rfl rfl) (fun hc => AOp.slots [(38, _), (39, _)] (.cons (gvT rfl hc) (.cons (gvT rfl hc) .nil)) (AOp.indexP (aslcAt_sub (by (repeat (first | exact sub_refl _ | assumption | refine sub_upd' ?_ (by ((repeat refine (upd_other _ _ (by omega)).trans ?_); first | exact hf _ (by omega) | exact hfL8 _ (by omega) | exact hfL9 _ (by omega) | exact hfL6 _ (by omega) | exact hfL5 _ (by omega) | exact hfL4 _ (by omega) | exact hfL0 _ (by omega))) | refine sub_trans ?_ hsL0 | refine sub_trans ?_ hsL4 | refine sub_trans ?_ hsL5 | refine sub_trans ?_ hsL6 | refine sub_trans ?_ hsL9 | refine sub_trans ?_ hsL8 | refine sub_over (by assumption) | refine sub_over0 ?_ | refine sub_trans (sub_same (by assumption)) ?_ | refine sub_dropu ?_ | refine sub_drop ?_ | refine sub_put ?_ (by repeat (first | assumption | exact upd_same _ _ _ | refine (upd_other _ _ (by omega)).trans ?_ | refine hsL0 _ _ ?_ | refine hsL4 _ _ ?_ | refine hsL5 _ _ ?_ | refine hsL6 _ _ ?_ | refine hsL9 _ _ ?_ | refine hsL8 _ _ ?_))))) hq8_9) rfl rfl rfl ⟨rfl, rfl, rfl⟩)) ?_
      refine aOps_gd0 rfl rfl (wantT rfl rfl rfl) (fun hc => AOp.slots [(40, _)] (.cons (gvT rfl hc) .nil) (AOp.fieldP (hp8_9.sub (by (repeat (first | exact sub_refl _ | assumption | refine sub_upd' ?_ (by ((repeat refine (upd_other _ _ (by omega)).trans ?_); first | exact hf _ (by omega) | exact hfL8 _ (by omega) | exact hfL9 _ (by omega) | exact hfL6 _ (by omega) | exact hfL5 _ (by omega) | exact hfL4 _ (by omega) | exact hfL0 _ (by omega))) | refine sub_trans ?_ hsL0 | refine sub_trans ?_ hsL4 | refine sub_trans ?_ hsL5 | refine sub_trans ?_ hsL6 | refine sub_trans ?_ hsL9 | refine sub_trans ?_ hsL8 | refine sub_over (by assumption) | refine sub_over0 ?_ | refine sub_trans (sub_same (by assumption)) ?_ | refine sub_dropu ?_ | refine sub_drop ?_ | refine sub_put ?_ (by repeat (first | assumption | exact upd_same _ _ _ | refine (upd_other _ _ (by omega)).trans ?_ | refine hsL0 _ _ ?_ | refine hsL4 _ _ ?_ | refine hsL5 _ _ ?_ | refine hsL6 _ _ ?_ | refine hsL9 _ _ ?_ | refine hsL8 _ _ ?_)))))) rfl (by decide) (by rw [entc_len]; decide) rfl ⟨rfl, rfl, rfl⟩)) ?_
      refine aOps_gd0 rfl rfl (wantT rfl rfl rfl) (fun hc => AOp.slots [(41, _)] (.cons (gvT rfl hc) .nil) (AOp.loadP1 (hp8_9.sub (by (repeat (first | exact sub_refl _ | assumption | refine sub_upd' ?_ (by ((repeat refine (upd_other _ _ (by omega)).trans ?_); first | exact hf _ (by omega) | exact hfL8 _ (by omega) | exact hfL9 _ (by omega) | exact hfL6 _ (by omega) | exact hfL5 _ (by omega) | exact hfL4 _ (by omega) | exact hfL0 _ (by omega))) | refine sub_trans ?_ hsL0 | refine sub_trans ?_ hsL4 | refine sub_trans ?_ hsL5 | refine sub_trans ?_ hsL6 | refine sub_trans ?_ hsL9 | refine sub_trans ?_ hsL8 | refine sub_over (by assumption) | refine sub_over0 ?_ | refine sub_trans (sub_same (by assumption)) ?_ | refine sub_dropu ?_ | refine sub_drop ?_ | refine sub_put ?_ (by repeat (first | assumption | exact upd_same _ _ _ | refine (upd_other _ _ (by omega)).trans ?_ | refine hsL0 _ _ ?_ | refine hsL4 _ _ ?_ | refine hsL5 _ _ ?_ | refine hsL6 _ _ ?_ | refine hsL9 _ _ ?_ | refine hsL8 _ _ ?_)))))) rfl rfl (entc_g _) ⟨rfl, rfl, rfl⟩)) ?_
      refine aOps_gd0 rfl rfl (wantT rfl rfl rfl) (fun hc => AOp.slots [(42, _)] (.cons (gvT rfl hc) .nil) (AOp.bin' rfl rfl rfl rfl ⟨rfl, rfl, rfl⟩)) ?_
      refine aOps_1 rfl rfl rfl (AOp.pickAnd rfl rfl rfl (fun hb => gvE rfl hb) ?_)
      rw [show (decide ((l.getD i0 eD).g ≥ 0) && decide ((l.getD i0 eD).g ≤ 1048576)) = good (l.getD i0 eD) from rfl]
      refine aOps_1 rfl rfl rfl (AOp.move' (.inr rfl) rfl ?_)
      refine aOps_end ?_
      show ACode _ _ _ _ _ _
      refine ACode.seq ?_
      refine ACode.seq ?_
      obtain ⟨n9_3, o9_3, s9_3, hq9_3, hp9_3⟩ := SLC.elE (hs.sub hH) (show i0 < l.length by omega)
      refine ACode.region' [0, 1, 2, 3, 4, 5, 6] (by kernel_rfl) rfl ?_
      refine aOps_1 rfl rfl rfl (AOp.move' (.inl rfl) rfl ?_)
      refine aOps_1 rfl rfl rfl (AOp.move' (.inl rfl) rfl ?_)
      refine aOps_1 rfl rfl rfl (AOp.move' (.inl rfl) rfl ?_)
      refine aOps_1 rfl rfl rfl (AOp.indexP (aslcAt_sub (by (repeat (first | exact sub_refl _ | assumption | refine sub_upd' ?_ (by ((repeat refine (upd_other _ _ (by omega)).trans ?_); first | exact hf _ (by omega) | exact hfL8 _ (by omega) | exact hfL9 _ (by omega) | exact hfL6 _ (by omega) | exact hfL5 _ (by omega) | exact hfL4 _ (by omega) | exact hfL0 _ (by omega))) | refine sub_trans ?_ hsL0 | refine sub_trans ?_ hsL4 | refine sub_trans ?_ hsL5 | refine sub_trans ?_ hsL6 | refine sub_trans ?_ hsL9 | refine sub_trans ?_ hsL8 | refine sub_over (by assumption) | refine sub_over0 ?_ | refine sub_trans (sub_same (by assumption)) ?_ | refine sub_dropu ?_ | refine sub_drop ?_ | refine sub_put ?_ (by repeat (first | assumption | exact upd_same _ _ _ | refine (upd_other _ _ (by omega)).trans ?_ | refine hsL0 _ _ ?_ | refine hsL4 _ _ ?_ | refine hsL5 _ _ ?_ | refine hsL6 _ _ ?_ | refine hsL9 _ _ ?_ | refine hsL8 _ _ ?_))))) hq9_3) rfl rfl rfl ?_)
      refine aOps_1 rfl rfl rfl (AOp.loadPA (v := entv (l.getD i0 eD)) (hp9_3.sub (by (repeat (first | exact sub_refl _ | assumption | refine sub_upd' ?_ (by ((repeat refine (upd_other _ _ (by omega)).trans ?_); first | exact hf _ (by omega) | exact hfL8 _ (by omega) | exact hfL9 _ (by omega) | exact hfL6 _ (by omega) | exact hfL5 _ (by omega) | exact hfL4 _ (by omega) | exact hfL0 _ (by omega))) | refine sub_trans ?_ hsL0 | refine sub_trans ?_ hsL4 | refine sub_trans ?_ hsL5 | refine sub_trans ?_ hsL6 | refine sub_trans ?_ hsL9 | refine sub_trans ?_ hsL8 | refine sub_over (by assumption) | refine sub_over0 ?_ | refine sub_trans (sub_same (by assumption)) ?_ | refine sub_dropu ?_ | refine sub_drop ?_ | refine sub_put ?_ (by repeat (first | assumption | exact upd_same _ _ _ | refine (upd_other _ _ (by omega)).trans ?_ | refine hsL0 _ _ ?_ | refine hsL4 _ _ ?_ | refine hsL5 _ _ ?_ | refine hsL6 _ _ ?_ | refine hsL9 _ _ ?_ | refine hsL8 _ _ ?_)))))) rfl rfl rfl rfl (by first | rfl | exact hv_size _ | exact hcs_one _ | exact (aw_size _).trans rfl | exact one_wv _ | exact one_bv _ | exact entv_size _ | exact entc_one _ | (simp; done)) (by decide) ?_)
      refine aOps_1 rfl rfl rfl ?_
      refine AOp.call' rfl rfl rfl (add_any2 _ _ (l.getD i0 eD) n q (goods (l.take i0)) g0.2 g0.1 (by (repeat (first | exact sub_refl _ | assumption | refine sub_upd' ?_ (by ((repeat refine (upd_other _ _ (by omega)).trans ?_); first | exact hf _ (by omega) | exact hfL8 _ (by omega) | exact hfL9 _ (by omega) | exact hfL6 _ (by omega) | exact hfL5 _ (by omega) | exact hfL4 _ (by omega) | exact hfL0 _ (by omega))) | refine sub_trans ?_ hsL0 | refine sub_trans ?_ hsL4 | refine sub_trans ?_ hsL5 | refine sub_trans ?_ hsL6 | refine sub_trans ?_ hsL9 | refine sub_trans ?_ hsL8 | refine sub_over (by assumption) | refine sub_over0 ?_ | refine sub_trans (sub_same (by assumption)) ?_ | refine sub_dropu ?_ | refine sub_drop ?_ | refine sub_put ?_ (by repeat (first | assumption | exact upd_same _ _ _ | refine (upd_other _ _ (by omega)).trans ?_ | refine hsL0 _ _ ?_ | refine hsL4 _ _ ?_ | refine hsL5 _ _ ?_ | refine hsL6 _ _ ?_ | refine hsL9 _ _ ?_ | refine hsL8 _ _ ?_))))) hx2 (by have h1 := goods_le (l.take i0); rw [List.length_take] at h1; omega)) ?_
      rintro _ H1 kb ⟨hkb, rfl, hfL7, hsL7, X1, vs1, hG1, hX1, hX01, hX1n⟩
      have hH1 : Ab.Sub H H1 := sub_trans (sub_cut (sub_cut hH (hf q (by omega))) (hf n (by omega))) hsL7
      have hHX1 : Ab.Sub H X1 := sub_trans (sub_cut (sub_cut hx1 (hf q (by omega))) (hf n (by omega))) hX01
      have hka1 : H1 ka = some (xblk (goods (l.take i0))) := hsL7 _ _ ((upd_other _ _ (by omega)).trans ((upd_other _ _ (by omega)).trans (hsL0 _ _ (upd_same _ _ _))))
      have hX1k : X1 ka = none := hX1n ka (by omega) hx3
      rw [← goods_take (by omega)] at hG1
      refine aOps_1 rfl rfl rfl (AOp.move' (.inr rfl) rfl ?_)
      refine aOps_end ?_
      show ACode _ _ _ _ _ _
      refine ACode.seq ?_
      refine ACode.region' [0, 1, 2, 3, 4, 5, 6, 7, 8, 9, 10, 11] (by kernel_rfl) rfl ?_
      refine aOps_1 rfl rfl rfl (AOp.move' (.inl rfl) rfl ?_)
      refine aOps_1 rfl rfl rfl (AOp.bin' rfl rfl rfl rfl ?_)
      rw [show ((if good (l.getD i0 eD) = true then (0 : Int) else 1) == 0) = good (l.getD i0 eD) by cases good (l.getD i0 eD) <;> rfl]
      refine aOps_1 rfl rfl rfl (AOp.move' (.inl rfl) rfl ?_)
      refine aOps_1 rfl rfl rfl (AOp.neBool rfl rfl rfl ?_)
      rw [show (!(good (l.getD i0 eD) == good (l.getD i0 eD))) = false by cases good (l.getD i0 eD) <;> rfl]
      refine aOps_1 rfl rfl rfl (AOp.move' (.inl rfl) rfl ?_)
      refine aOps_gd0 rfl rfl (wantF rfl rfl rfl) (fun hc => AOp.slots [(8, _)] (.cons rfl .nil) (AOp.move' (.inl rfl) rfl ⟨rfl, rfl, rfl⟩)) ?_
      refine aOps_gd0 rfl rfl (wantF rfl rfl rfl) (fun hc => AOp.slots [(56, _)] (.cons (gvT rfl hc) .nil) (AOp.un' rfl rfl rfl ⟨rfl, rfl, rfl⟩)) ?_
      refine aOps_gd0 rfl rfl (wantF rfl rfl rfl) (fun hc => AOp.slots [(57, _)] (.cons (gvT rfl hc) .nil) (AOp.move' (.inl rfl) rfl ⟨rfl, rfl, rfl⟩)) ?_
      refine aOps_gd0 rfl rfl (wantGT rfl rfl rfl) (fun hc => AOp.slots [(9, _)] (.cons rfl .nil) (AOp.move' (.inl rfl) rfl ⟨rfl, rfl, rfl⟩)) ?_
      refine aOps_gd0 rfl rfl (wantGT rfl rfl rfl) (fun hc => AOp.slots [(59, _)] (.cons (gvT rfl hc) .nil) (AOp.bin' rfl rfl rfl rfl ⟨rfl, rfl, rfl⟩)) ?_
      refine aOps_gd0 rfl rfl (wantF rfl rfl rfl) (fun hc => AOp.pickAnd rfl rfl (gvE rfl hc) (fun hb => gvE rfl (and_mk hc hb)) ⟨rfl, rfl, rfl⟩) ?_
      refine aOps_1 rfl rfl rfl (AOp.pickOr rfl rfl rfl (fun hb => gvE rfl (t_not hb)) ?_)
      refine aOps_end ?_
      show ACode _ _ _ _ _ _
      refine ACode.cond rfl (fun c2 => absurd c2 (by cases h : good (l.getD i0 eD) <;> simp)) (fun c2 => ?_)
      refine ACode.skip ?_
      show ACode _ _ _ _ _ _
      refine ACode.seq ?_
      refine ACode.region' [0] (by kernel_rfl) rfl ?_
      refine aOps_1 rfl rfl rfl (AOp.move' (.inl rfl) rfl ?_)
      refine aOps_end ?_
      show ACode _ _ _ _ _ _
      refine ACode.cond rfl (fun c3 => ?_) (fun c3 => ?_)
      · try simp only [decide_eq_true_eq, decide_eq_false_iff_not, beq_iff_eq, beq_eq_false_iff_ne, ne_eq, bne_iff_ne, Bool.not_eq_true', Bool.not_eq_false', Int.not_lt, Int.not_le, gt_iff_lt, ge_iff_le, bne_eq_false_iff_eq, Bool.not_eq_eq_eq_not, Bool.not_true, Bool.not_false] at c3
        have hgt : goods (l.take (i0 + 1)) = (goods (l.take i0)) ++ [(l.getD i0 eD)] := by rw [goods_take (by omega), goodL_yes c3]
        have hgl := goods_le (l.take i0)
        rw [List.length_take] at hgl
        obtain ⟨n13_3, o13_3, s13_3, hq13_3, hp13_3⟩ := SLC.elE (hs.sub hH1) (show i0 < l.length by omega)
        refine ACode.region' [0, 1, 2, 3, 4, 5, 6, 7] (by kernel_rfl) rfl ?_
        refine aOps_1 rfl rfl rfl (AOp.move' (.inl rfl) rfl ?_)
        refine aOps_1 rfl rfl rfl (AOp.move' (.inl rfl) rfl ?_)
        refine aOps_1 rfl rfl rfl (AOp.move' (.inl rfl) rfl ?_)
        refine aOps_1 rfl rfl rfl (AOp.indexP (aslcAt_sub (by (repeat (first | exact sub_refl _ | assumption | refine sub_upd' ?_ (by ((repeat refine (upd_other _ _ (by omega)).trans ?_); first | exact hf _ (by omega) | exact hfL8 _ (by omega) | exact hfL9 _ (by omega) | exact hfL6 _ (by omega) | exact hfL5 _ (by omega) | exact hfL4 _ (by omega) | exact hfL0 _ (by omega))) | refine sub_trans ?_ hsL0 | refine sub_trans ?_ hsL4 | refine sub_trans ?_ hsL5 | refine sub_trans ?_ hsL6 | refine sub_trans ?_ hsL9 | refine sub_trans ?_ hsL8 | refine sub_over (by assumption) | refine sub_over0 ?_ | refine sub_trans (sub_same (by assumption)) ?_ | refine sub_dropu ?_ | refine sub_drop ?_ | refine sub_put ?_ (by repeat (first | assumption | exact upd_same _ _ _ | refine (upd_other _ _ (by omega)).trans ?_ | refine hsL0 _ _ ?_ | refine hsL4 _ _ ?_ | refine hsL5 _ _ ?_ | refine hsL6 _ _ ?_ | refine hsL9 _ _ ?_ | refine hsL8 _ _ ?_))))) hq13_3) rfl rfl rfl ?_)
        refine aOps_1 rfl rfl rfl (AOp.loadPA (v := entv (l.getD i0 eD)) (hp13_3.sub (by (repeat (first | exact sub_refl _ | assumption | refine sub_upd' ?_ (by ((repeat refine (upd_other _ _ (by omega)).trans ?_); first | exact hf _ (by omega) | exact hfL8 _ (by omega) | exact hfL9 _ (by omega) | exact hfL6 _ (by omega) | exact hfL5 _ (by omega) | exact hfL4 _ (by omega) | exact hfL0 _ (by omega))) | refine sub_trans ?_ hsL0 | refine sub_trans ?_ hsL4 | refine sub_trans ?_ hsL5 | refine sub_trans ?_ hsL6 | refine sub_trans ?_ hsL9 | refine sub_trans ?_ hsL8 | refine sub_over (by assumption) | refine sub_over0 ?_ | refine sub_trans (sub_same (by assumption)) ?_ | refine sub_dropu ?_ | refine sub_drop ?_ | refine sub_put ?_ (by repeat (first | assumption | exact upd_same _ _ _ | refine (upd_other _ _ (by omega)).trans ?_ | refine hsL0 _ _ ?_ | refine hsL4 _ _ ?_ | refine hsL5 _ _ ?_ | refine hsL6 _ _ ?_ | refine hsL9 _ _ ?_ | refine hsL8 _ _ ?_)))))) rfl rfl rfl rfl (by first | rfl | exact hv_size _ | exact hcs_one _ | exact (aw_size _).trans rfl | exact one_wv _ | exact one_bv _ | exact entv_size _ | exact entc_one _ | (simp; done)) (by decide) ?_)
        refine aOps_1 rfl rfl rfl (AOp.buildH (entc (l.getD i0 eD)) rfl (entc_len _) (by decide) (by decide) rfl rfl ?_)
        refine aOps_1 rfl rfl rfl (AOp.append' (b := xblk (goods (l.take i0))) (m := 1) (news := entc (l.getD i0 eD)) rfl rfl rfl (by repeat (first | assumption | exact upd_same _ _ _ | refine (upd_other _ _ (by omega)).trans ?_ | refine hsL0 _ _ ?_ | refine hsL4 _ _ ?_ | refine hsL5 _ _ ?_ | refine hsL6 _ _ ?_ | refine hsL9 _ _ ?_ | refine hsL8 _ _ ?_)) (srcOf_grow (b := { cells := entc (l.getD i0 eD), elem := 38, kind := .grow, esz := 65 }) (by repeat (first | assumption | exact upd_same _ _ _ | refine (upd_other _ _ (by omega)).trans ?_ | refine hsL0 _ _ ?_ | refine hsL4 _ _ ?_ | refine hsL5 _ _ ?_ | refine hsL6 _ _ ?_ | refine hsL9 _ _ ?_ | refine hsL8 _ _ ?_)) rfl (by rw [entc_len]; rfl)) rfl rfl rfl (by rw [ecs_len]) srcOk_sl (fun u hu => List.all_eq_true.1 (entc_one _) u hu) (by omega) (by omega) ?_)
        refine aOps_1 rfl rfl rfl (AOp.move' (.inr rfl) rfl ?_)
        refine aOps_end ?_
        show ACode _ _ _ _ _ _
        refine ACode.region' [0, 1, 2] (by kernel_rfl) rfl ?_
        refine aOps_1 rfl rfl rfl (AOp.move' (.inl rfl) rfl ?_)
        refine aOps_1 rfl rfl rfl (AOp.add rfl rfl rfl (i64_wrap (by omega) (by omega)) ?_)
        refine aOps_1 rfl rfl rfl (AOp.move' (.inr rfl) rfl ?_)
        refine aOps_end ?_
        first | refine thenA_n ?_ | simp only [thenA, blockA, if_true]
        exact NextG.mk (by omega) (by omega) ((X1, vs1)) (.cons rfl (.cons (show _ = some (Value.slice _ _ _) by rw [hgt, List.length_append]; rfl) .nil)) (.cons rfl (.cons rfl (.cons rfl (.cons rfl (.cons rfl (.cons rfl (.cons rfl .nil))))))) (by rw [show xblk (goods (l.take (i0 + 1))) = xblk ((goods (l.take i0)) ++ [(l.getD i0 eD)]) by rw [hgt]]; refine sub_over_eq (y := some (xblk (goods (l.take i0)))) (sub_put (sub_trans hX1 (sub_upd' (sub_refl _) (hfL7 _ (by omega)))) ((upd_other _ _ (by omega)).trans hka1)) (by show some (Blk.mk (ecs _) _ _ _) = _; rw [ecs_snoc])) ⟨hHX1, hG1, hX1k⟩
      · try simp only [decide_eq_true_eq, decide_eq_false_iff_not, beq_iff_eq, beq_eq_false_iff_ne, ne_eq, bne_iff_ne, Bool.not_eq_true', Bool.not_eq_false', Int.not_lt, Int.not_le, gt_iff_lt, ge_iff_le, bne_eq_false_iff_eq, Bool.not_eq_eq_eq_not, Bool.not_true, Bool.not_false] at c3
        have hgt : goods (l.take (i0 + 1)) = (goods (l.take i0)) := by rw [goods_take (by omega), goodL_no (by simpa using c3), List.append_nil]
        refine ACode.skip ?_
        show ACode _ _ _ _ _ _
        refine ACode.region' [0, 1, 2] (by kernel_rfl) rfl ?_
        refine aOps_1 rfl rfl rfl (AOp.move' (.inl rfl) rfl ?_)
        refine aOps_1 rfl rfl rfl (AOp.add rfl rfl rfl (i64_wrap (by omega) (by omega)) ?_)
        refine aOps_1 rfl rfl rfl (AOp.move' (.inr rfl) rfl ?_)
        refine aOps_end ?_
        first | refine thenA_n ?_ | simp only [thenA, blockA, if_true]
        exact NextG.mk (by omega) (by omega) ((X1, vs1)) (.cons rfl (.cons (show _ = some (Value.slice _ _ _) by rw [hgt]; rfl) .nil)) (.cons rfl (.cons rfl (.cons rfl (.cons rfl (.cons rfl (.cons rfl (.cons rfl .nil))))))) (by rw [hgt]; exact sub_put hX1 hka1) ⟨hHX1, hG1, hX1k⟩
    · try simp only [decide_eq_true_eq, decide_eq_false_iff_not, beq_iff_eq, beq_eq_false_iff_ne, ne_eq, bne_iff_ne, Bool.not_eq_true', Bool.not_eq_false', Int.not_lt, Int.not_le, gt_iff_lt, ge_iff_le, bne_eq_false_iff_eq, Bool.not_eq_eq_eq_not, Bool.not_true, Bool.not_false] at c1
      refine ACode.exit ?_
      show ACode _ _ _ _ _ _
      refine ACode.seq ?_
      have hi : i0 = l.length := by omega
      subst hi
      rw [List.take_length] at hx2 hsL0 ⊢
      obtain ⟨es, hes⟩ : ∃ es, es = goods l := ⟨_, rfl⟩
      rw [← hes] at hx2 hsL0 ⊢
      rw [← hes] at ha
      have hG := hx2.sub (sub_trans (sub_upd' (sub_refl _) hx3) hsL0)
      have hel : es.length ≤ 20 := by have := goods_le l; rw [hes]; omega
      have hfl : (forms es).length = es.length := List.length_map _
      have hxk : HL0 ka = some (xblk es) := hsL0 _ _ (upd_same _ _ _)
      refine ACode.region' [0, 1, 2, 3, 4, 5, 6, 7, 8] (by kernel_rfl) rfl ?_
      refine aOps_1 rfl rfl rfl (AOp.move' (.inl rfl) rfl ?_)
      refine aOps_1 rfl rfl rfl (AOp.move' (.inl rfl) rfl ?_)
      refine aOps_q rfl rfl rfl (AOp.call' rfl rfl rfl (entry_out _ _ n q es g0.2 (hG.sub (by (repeat (first | exact sub_refl _ | assumption | refine sub_upd' ?_ (by ((repeat refine (upd_other _ _ (by omega)).trans ?_); first | exact hf _ (by omega) | exact hfL8 _ (by omega) | exact hfL9 _ (by omega) | exact hfL6 _ (by omega) | exact hfL5 _ (by omega) | exact hfL4 _ (by omega) | exact hfL0 _ (by omega))) | refine sub_trans ?_ hsL0 | refine sub_trans ?_ hsL4 | refine sub_trans ?_ hsL5 | refine sub_trans ?_ hsL6 | refine sub_trans ?_ hsL9 | refine sub_trans ?_ hsL8 | refine sub_over (by assumption) | refine sub_over0 ?_ | refine sub_trans (sub_same (by assumption)) ?_ | refine sub_dropu ?_ | refine sub_drop ?_ | refine sub_put ?_ (by repeat (first | assumption | exact upd_same _ _ _ | refine (upd_other _ _ (by omega)).trans ?_ | refine hsL0 _ _ ?_ | refine hsL4 _ _ ?_ | refine hsL5 _ _ ?_ | refine hsL6 _ _ ?_ | refine hsL9 _ _ ?_ | refine hsL8 _ _ ?_)))))) (a : Int) (by omega) (by omega) (by omega)) (fun _ _ _ h => h)) (fun kq hkq => ?_)
      refine aOps_1 rfl rfl rfl (AOp.move' (.inl rfl) rfl ?_)
      refine aOps_1 rfl rfl rfl (AOp.extract' rfl rfl rfl ?_)
      refine aOps_1 rfl rfl rfl (AOp.extract' rfl rfl rfl ?_)
      refine aOps_1 rfl rfl rfl (AOp.alloc' rfl ?_)
      refine aOps_0 rfl rfl rfl ?_
      refine AOp.storeAll (b := ?b5) rfl rfl rfl ?hn5 ?hk5 rfl ?hw5 ?ho5 ?hl5 ?hR5
      (case hn5 => repeat (first | assumption | exact upd_same _ _ _ | refine (upd_other _ _ (by omega)).trans ?_ | refine hsL0 _ _ ?_ | refine hsL4 _ _ ?_ | refine hsL5 _ _ ?_ | refine hsL6 _ _ ?_ | refine hsL9 _ _ ?_ | refine hsL8 _ _ ?_))
      (case hk5 => rfl)
      (case hw5 => first | rfl | exact hv_size _ | exact hcs_one _ | exact (aw_size _).trans rfl | exact one_wv _ | exact one_bv _ | exact entv_size _ | exact entc_one _ | (simp; done))
      (case ho5 => first | rfl | exact hv_size _ | exact hcs_one _ | exact (aw_size _).trans rfl | exact one_wv _ | exact one_bv _ | exact entv_size _ | exact entc_one _ | decide | (simp; done))
      (case hl5 => first | rfl | exact hv_size _ | exact hcs_one _ | exact (aw_size _).trans rfl | exact one_wv _ | exact one_bv _ | exact entv_size _ | exact entc_one _ | (simp; done))
      refine aOps_1 rfl rfl rfl (AOp.move' (.inr rfl) rfl ?_)
      refine aOps_end ?_
      show ACode _ _ _ _ _ _
      refine ACode.seq ?_
      refine ACode.region' [0, 1, 2, 3, 4, 5, 6, 7] (by kernel_rfl) rfl ?_
      refine aOps_1 rfl rfl rfl (AOp.move' (.inl rfl) rfl ?_)
      refine aOps_1 rfl rfl rfl (AOp.move' (.inl rfl) rfl ?_)
      refine aOps_1 rfl rfl rfl ?_
      refine AOp.call' rfl rfl rfl (path_l _ _ (by repeat (first | assumption | exact upd_same _ _ _ | refine (upd_other _ _ (by omega)).trans ?_ | refine hsL0 _ _ ?_ | refine hsL4 _ _ ?_ | refine hsL5 _ _ ?_ | refine hsL6 _ _ ?_ | refine hsL9 _ _ ?_ | refine hsL8 _ _ ?_)) n q es g0.2 (hG.sub (by (repeat (first | exact sub_refl _ | assumption | refine sub_upd' ?_ (by ((repeat refine (upd_other _ _ (by omega)).trans ?_); first | exact hf _ (by omega) | exact hfL8 _ (by omega) | exact hfL9 _ (by omega) | exact hfL6 _ (by omega) | exact hfL5 _ (by omega) | exact hfL4 _ (by omega) | exact hfL0 _ (by omega))) | refine sub_trans ?_ hsL0 | refine sub_trans ?_ hsL4 | refine sub_trans ?_ hsL5 | refine sub_trans ?_ hsL6 | refine sub_trans ?_ hsL9 | refine sub_trans ?_ hsL8 | refine sub_over (by assumption) | refine sub_over0 ?_ | refine sub_trans (sub_same (by assumption)) ?_ | refine sub_dropu ?_ | refine sub_drop ?_ | refine sub_put ?_ (by repeat (first | assumption | exact upd_same _ _ _ | refine (upd_other _ _ (by omega)).trans ?_ | refine hsL0 _ _ ?_ | refine hsL4 _ _ ?_ | refine hsL5 _ _ ?_ | refine hsL6 _ _ ?_ | refine hsL9 _ _ ?_ | refine hsL8 _ _ ?_)))))) (a : Int) (by omega) (by omega)) ?_
      rintro _ _ kp ⟨qp, hp1, hp2, rfl, rfl⟩
      rw [inZ_no (n := es.length) (i := (a : Int)) (by omega), pathZ_bad (l := forms es) (i := (a : Int)) (by omega)]
      refine aOps_1 rfl rfl rfl (AOp.move' (.inl rfl) rfl ?_)
      refine aOps_1 rfl rfl rfl (AOp.extract' rfl rfl rfl ?_)
      refine aOps_1 rfl rfl rfl (AOp.extract' rfl rfl rfl ?_)
      refine aOps_1 rfl rfl rfl (AOp.move' (.inr rfl) rfl ?_)
      refine aOps_1 rfl rfl rfl (AOp.move' (.inr rfl) rfl ?_)
      refine aOps_end ?_
      show ACode _ _ _ _ _ _
      refine ACode.seq ?_
      refine ACode.region' [0, 1, 2, 3, 4, 5, 6, 7, 8] (by kernel_rfl) rfl ?_
      refine aOps_1 rfl rfl rfl (AOp.move' (.inl rfl) rfl ?_)
      refine aOps_1 rfl rfl rfl (AOp.bin' rfl rfl rfl rfl ?_)
      refine aOps_1 rfl rfl rfl (AOp.move' (.inl rfl) rfl ?_)
      refine aOps_gd0 rfl rfl (wantT rfl rfl rfl) (fun hc => AOp.slots [(1, _)] (.cons rfl .nil) (AOp.move' (.inl rfl) rfl ⟨rfl, rfl, rfl⟩)) ?_
      refine aOps_gd0 rfl rfl (wantT rfl rfl rfl) (fun hc => AOp.slots [(6, _)] (.cons rfl .nil) (AOp.move' (.inl rfl) rfl ⟨rfl, rfl, rfl⟩)) ?_
      refine aOps_gd0 rfl rfl (wantT rfl rfl rfl) (fun hc => AOp.slots [(87, _)] (.cons (gvT rfl hc) .nil) (AOp.len' rfl rfl ⟨rfl, rfl, rfl⟩)) ?_
      refine aOps_gd0 rfl rfl (wantT rfl rfl rfl) (fun hc => AOp.slots [(86, _), (88, _)] (.cons (gvT rfl hc) (.cons (gvT rfl hc) .nil)) (AOp.bin' rfl rfl rfl rfl ⟨rfl, rfl, rfl⟩)) ?_
      refine aOps_1 rfl rfl rfl (AOp.pickAnd rfl rfl rfl (fun hb => gvE rfl hb) ?_)
      refine aOps_1 rfl rfl rfl (AOp.move' (.inr rfl) rfl ?_)
      refine aOps_end ?_
      show ACode _ _ _ _ _ _
      refine ACode.seq ?_
      refine ACode.seq ?_
      have g8 : (decide ((a : Int) ≥ 0) && decide ((a : Int) < (es.length : Int))) = false := by simp; omega
      rw [g8]
      refine ACode.draw' 42 [(0, 91), (1, 92), (2, 93), (3, 94), (4, 95), (5, 96), (6, 97), (7, 98), (8, 99), (9, 100), (10, 101), (11, 102), (12, 103), (13, 104), (14, 105), (15, 106), (16, 107), (17, 108), (18, 109), (19, 110), (20, 111), (21, 112), (22, 113), (23, 114), (24, 115), (25, 116), (26, 117), (27, 118), (28, 119), (29, 120), (30, 121), (31, 122), (32, 123), (33, 124), (34, 125), (35, 126), (36, 127), (37, 128), (38, 129), (39, 130), (40, 131), (41, 132)] mixed (by kernel_rfl) ?_
      refine Draw.step [(11, none)] rfl (by kernel_rfl) rfl (fun kq hkq => AOp.move' (.inl rfl) rfl ⟨rfl, rfl, Nat.le_refl _⟩) ?_
      refine Draw.step [(14, none)] rfl (by kernel_rfl) rfl (fun kq hkq => AOp.move' (.inl rfl) rfl ⟨rfl, rfl, Nat.le_refl _⟩) ?_
      refine Draw.step [(91, some 0), (92, some 1)] rfl (by kernel_rfl) rfl (fun kq hkq => AOp.neBool rfl rfl rfl ⟨rfl, rfl, Nat.le_refl _⟩) ?_
      refine Draw.step [(93, some 2)] rfl (by kernel_rfl) rfl (fun kq hkq => AOp.move' (.inl rfl) rfl ⟨rfl, rfl, Nat.le_refl _⟩) ?_
      refine Draw.gd [(13, none), (94, some 3)] rfl (by kernel_rfl) (wantF rfl rfl rfl) (fun kq hkq hc => AOp.slots [(13, _)] (.cons rfl .nil) (AOp.move' (.inl rfl) rfl ⟨rfl, rfl, Nat.le_refl _⟩)) ?_
      refine Draw.gd [(14, none), (94, some 3)] rfl (by kernel_rfl) (wantF rfl rfl rfl) (fun kq hkq hc => AOp.slots [(14, _)] (.cons rfl .nil) (AOp.move' (.inl rfl) rfl ⟨rfl, rfl, Nat.le_refl _⟩)) ?_
      refine Draw.gd [(95, some 4), (96, some 5), (94, some 3)] rfl (by kernel_rfl) (wantF rfl rfl rfl) (fun kq hkq hc => AOp.slots [(95, _), (96, _)] (.cons (gvT rfl hc) (.cons (gvT rfl hc) .nil)) (AOp.neBool rfl rfl rfl ⟨rfl, rfl, Nat.le_refl _⟩)) ?_
      refine Draw.step [(94, some 3), (97, some 6)] rfl (by kernel_rfl) rfl (fun kq hkq => AOp.pickOr rfl rfl rfl (fun hb => gvE rfl (t_not hb)) ⟨rfl, rfl, Nat.le_refl _⟩) ?_
      refine Draw.step [(98, some 7)] rfl (by kernel_rfl) rfl (fun kq hkq => AOp.move' (.inl rfl) rfl ⟨rfl, rfl, Nat.le_refl _⟩) ?_
      refine Draw.gd [(14, none), (99, some 8)] rfl (by kernel_rfl) (wantF rfl rfl rfl) (fun kq hkq hc => AOp.slots [(14, _)] (.cons rfl .nil) (AOp.move' (.inl rfl) rfl ⟨rfl, rfl, Nat.le_refl _⟩)) ?_
      refine Draw.gd [(100, some 9), (99, some 8)] rfl (by kernel_rfl) (wantF rfl rfl rfl) (fun kq hkq hc => AOp.slots [(100, _)] (.cons (gvT rfl hc) .nil) (AOp.move' (.inl rfl) rfl ⟨rfl, rfl, Nat.le_refl _⟩)) ?_
      refine Draw.gd [(10, none), (101, some 10)] rfl (by kernel_rfl) (wantGT rfl rfl rfl) (fun kq hkq hc => AOp.slots [(10, _)] (.cons rfl .nil) ((by refine AOp.loadAll (b := ?b6) (v := entv eD) rfl rfl ?hn6 ?hv6 ?hw6 ?hz6 ?hR6; (case hn6 => repeat (first | assumption | exact upd_same _ _ _ | refine (upd_other _ _ (by omega)).trans ?_ | refine hsL0 _ _ ?_ | refine hsL4 _ _ ?_ | refine hsL5 _ _ ?_ | refine hsL6 _ _ ?_ | refine hsL9 _ _ ?_ | refine hsL8 _ _ ?_)); (case hv6 => rfl); (case hw6 => rfl); (case hz6 => first | rfl | exact hv_size _ | exact hcs_one _ | exact (aw_size _).trans rfl | exact one_wv _ | exact one_bv _ | exact entv_size _ | exact entc_one _ | (simp; done)); exact ⟨rfl, rfl, Nat.le_refl _⟩))) ?_
      refine Draw.gd [(6, none), (101, some 10)] rfl (by kernel_rfl) (wantGT rfl rfl rfl) (fun kq hkq hc => AOp.slots [(6, _)] (.cons rfl .nil) (AOp.move' (.inl rfl) rfl ⟨rfl, rfl, Nat.le_refl _⟩)) ?_
      refine Draw.gd [(1, none), (101, some 10)] rfl (by kernel_rfl) (wantGT rfl rfl rfl) (fun kq hkq hc => AOp.slots [(1, _)] (.cons rfl .nil) (AOp.move' (.inl rfl) rfl ⟨rfl, rfl, Nat.le_refl _⟩)) ?_
      refine Draw.gd [(103, some 12), (104, some 13), (101, some 10)] rfl (by kernel_rfl) (wantGT rfl rfl rfl) (fun kq hkq hc => AOp.slots [(103, _), (104, _)] (.cons (gvT rfl hc) (.cons (gvT rfl hc) .nil)) ((False.elim (by simp at hc) : AOp _ _ _ _ fun v H1 k1 => v = Value.bool false ∧ H1 = _ ∧ _ ≤ k1))) ?_
      refine Draw.gd [(105, some 14), (101, some 10)] rfl (by kernel_rfl) (wantGT rfl rfl rfl) (fun kq hkq hc => AOp.slots [(105, _)] (.cons (gvT rfl hc) .nil) ((False.elim (by simp at hc) : AOp _ _ _ _ fun v H1 k1 => v = Value.bool false ∧ H1 = _ ∧ _ ≤ k1))) ?_
      refine Draw.gd [(102, some 11), (106, some 15), (101, some 10)] rfl (by kernel_rfl) (wantGT rfl rfl rfl) (fun kq hkq hc => AOp.slots [(102, _), (106, _)] (.cons (gvT rfl hc) (.cons (gvT rfl hc) .nil)) ((False.elim (by simp at hc) : AOp _ _ _ _ fun v H1 k1 => v = Value.bool false ∧ H1 = _ ∧ _ ≤ k1))) ?_
      refine Draw.gd [(107, some 16), (101, some 10)] rfl (by kernel_rfl) (wantGT rfl rfl rfl) (fun kq hkq hc => AOp.slots [(107, _)] (.cons (gvT rfl hc) .nil) (AOp.move' (.inl rfl) rfl ⟨rfl, rfl, Nat.le_refl _⟩)) ?_
      refine Draw.gd [(12, none), (108, some 17)] rfl (by kernel_rfl) (wantGF rfl rfl rfl) (fun kq hkq hc => AOp.slots [(12, _)] (.cons rfl .nil) (AOp.move' (.inl rfl) rfl ⟨rfl, rfl, Nat.le_refl _⟩)) ?_
      refine Draw.gd [(6, none), (108, some 17)] rfl (by kernel_rfl) (wantGF rfl rfl rfl) (fun kq hkq hc => AOp.slots [(6, _)] (.cons rfl .nil) (AOp.move' (.inl rfl) rfl ⟨rfl, rfl, Nat.le_refl _⟩)) ?_
      refine Draw.gd [(110, some 19), (108, some 17)] rfl (by kernel_rfl) (wantGF rfl rfl rfl) (fun kq hkq hc => AOp.slots [(110, _)] (.cons (gvT rfl hc) .nil) ((False.elim (by simp at hc) : AOp _ _ _ _ fun v H1 k1 => v = Value.bool false ∧ H1 = _ ∧ _ ≤ k1))) ?_
      refine Draw.gd [(1, none), (108, some 17)] rfl (by kernel_rfl) (wantGF rfl rfl rfl) (fun kq hkq hc => AOp.slots [(1, _)] (.cons rfl .nil) (AOp.move' (.inl rfl) rfl ⟨rfl, rfl, Nat.le_refl _⟩)) ?_
      refine Draw.gd [(111, some 20), (112, some 21), (108, some 17)] rfl (by kernel_rfl) (wantGF rfl rfl rfl) (fun kq hkq hc => AOp.slots [(111, _), (112, _)] (.cons (gvT rfl hc) (.cons (gvT rfl hc) .nil)) ((False.elim (by simp at hc) : AOp _ _ _ _ fun v H1 k1 => v = Value.bool false ∧ H1 = _ ∧ _ ≤ k1))) ?_
      refine Draw.gd [(109, some 18), (113, some 22), (108, some 17)] rfl (by kernel_rfl) (wantGF rfl rfl rfl) (fun kq hkq hc => AOp.slots [(109, _), (113, _)] (.cons (gvT rfl hc) (.cons (gvT rfl hc) .nil)) ((False.elim (by simp at hc) : AOp _ _ _ _ fun v H1 k1 => v = Value.bool false ∧ H1 = _ ∧ _ ≤ k1))) ?_
      refine Draw.gd [(114, some 23), (108, some 17)] rfl (by kernel_rfl) (wantGF rfl rfl rfl) (fun kq hkq hc => AOp.slots [(114, _)] (.cons (gvT rfl hc) .nil) (AOp.un' rfl rfl rfl ⟨rfl, rfl, Nat.le_refl _⟩)) ?_
      refine Draw.gd [(108, some 17), (115, some 24), (101, some 10)] rfl (by kernel_rfl) (wantGT rfl rfl rfl) (fun kq hkq hc => AOp.pickOr rfl rfl (gvE rfl hc) (fun hb => gvE rfl (and_mk hc (t_not hb))) ⟨rfl, rfl, Nat.le_refl _⟩) ?_
      refine Draw.gd [(101, some 10), (116, some 25), (99, some 8)] rfl (by kernel_rfl) (wantF rfl rfl rfl) (fun kq hkq hc => AOp.pickAnd rfl rfl (gvE rfl hc) (fun hb => gvE rfl (and_mk hc hb)) ⟨rfl, rfl, Nat.le_refl _⟩) ?_
      refine Draw.step [(99, some 8), (117, some 26)] rfl (by kernel_rfl) rfl (fun kq hkq => AOp.pickOr rfl rfl rfl (fun hb => gvE rfl (t_not hb)) ⟨rfl, rfl, Nat.le_refl _⟩) ?_
      refine Draw.step [(118, some 27)] rfl (by kernel_rfl) rfl (fun kq hkq => AOp.move' (.inl rfl) rfl ⟨rfl, rfl, Nat.le_refl _⟩) ?_
      refine Draw.gd [(14, none), (119, some 28)] rfl (by kernel_rfl) (wantF rfl rfl rfl) (fun kq hkq hc => AOp.slots [(14, _)] (.cons rfl .nil) (AOp.move' (.inl rfl) rfl ⟨rfl, rfl, Nat.le_refl _⟩)) ?_
      refine Draw.gd [(120, some 29), (119, some 28)] rfl (by kernel_rfl) (wantF rfl rfl rfl) (fun kq hkq hc => AOp.slots [(120, _)] (.cons (gvT rfl hc) .nil) (AOp.un' rfl rfl rfl ⟨rfl, rfl, Nat.le_refl _⟩)) ?_
      refine Draw.gd [(121, some 30), (119, some 28)] rfl (by kernel_rfl) (wantF rfl rfl rfl) (fun kq hkq hc => AOp.slots [(121, _)] (.cons (gvT rfl hc) .nil) (AOp.move' (.inl rfl) rfl ⟨rfl, rfl, Nat.le_refl _⟩)) ?_
      refine Draw.gd [(10, none), (122, some 31)] rfl (by kernel_rfl) (wantGT rfl rfl rfl) (fun kq hkq hc => AOp.slots [(10, _)] (.cons rfl .nil) ((by refine AOp.loadAll (b := ?b7) (v := entv eD) rfl rfl ?hn7 ?hv7 ?hw7 ?hz7 ?hR7; (case hn7 => repeat (first | assumption | exact upd_same _ _ _ | refine (upd_other _ _ (by omega)).trans ?_ | refine hsL0 _ _ ?_ | refine hsL4 _ _ ?_ | refine hsL5 _ _ ?_ | refine hsL6 _ _ ?_ | refine hsL9 _ _ ?_ | refine hsL8 _ _ ?_)); (case hv7 => rfl); (case hw7 => rfl); (case hz7 => first | rfl | exact hv_size _ | exact hcs_one _ | exact (aw_size _).trans rfl | exact one_wv _ | exact one_bv _ | exact entv_size _ | exact entc_one _ | (simp; done)); exact ⟨rfl, rfl, Nat.le_refl _⟩))) ?_
      refine Draw.gd [(122, some 31)] rfl (by kernel_rfl) (wantGT rfl rfl rfl) (fun kq hkq hc => AOp.slots [] .nil (AOp.buildS (cells := (entc eD).toArray) rfl rfl rfl ⟨rfl, rfl, Nat.le_refl _⟩)) ?_
      refine Draw.gd [(123, some 32), (124, some 33), (122, some 31)] rfl (by kernel_rfl) (wantGT rfl rfl rfl) (fun kq hkq hc => AOp.slots [(123, _), (124, _)] (.cons (gvT rfl hc) (.cons (gvT rfl hc) .nil)) (AOp.neAgg true rfl rfl rfl (entc_sc _ eD_ok) (entc_sc _ eD_ok) ⟨fun _ => rfl, fun _ => rfl⟩ ⟨rfl, rfl, Nat.le_refl _⟩)) ?_
      refine Draw.gd [(125, some 34), (122, some 31)] rfl (by kernel_rfl) (wantGT rfl rfl rfl) (fun kq hkq hc => AOp.slots [(125, _)] (.cons (gvT rfl hc) .nil) (AOp.move' (.inl rfl) rfl ⟨rfl, rfl, Nat.le_refl _⟩)) ?_
      refine Draw.gd [(12, none), (126, some 35)] rfl (by kernel_rfl) (wantGF rfl rfl rfl) (fun kq hkq hc => AOp.slots [(12, _)] (.cons rfl .nil) (AOp.move' (.inl rfl) rfl ⟨rfl, rfl, Nat.le_refl _⟩)) ?_
      refine Draw.gd [(127, some 36), (126, some 35)] rfl (by kernel_rfl) (wantGF rfl rfl rfl) (fun kq hkq hc => AOp.slots [(127, _)] (.cons (gvT rfl hc) .nil) (AOp.len' rfl rfl ⟨rfl, rfl, Nat.le_refl _⟩)) ?_
      refine Draw.gd [(128, some 37), (126, some 35)] rfl (by kernel_rfl) (wantGF rfl rfl rfl) (fun kq hkq hc => AOp.slots [(128, _)] (.cons (gvT rfl hc) .nil) (AOp.bin' rfl rfl rfl rfl ⟨rfl, rfl, Nat.le_refl _⟩)) ?_
      refine Draw.gd [(126, some 35), (129, some 38), (122, some 31)] rfl (by kernel_rfl) (wantGT rfl rfl rfl) (fun kq hkq hc => AOp.pickOr rfl rfl (gvE rfl hc) (fun hb => gvE rfl (and_mk hc (t_not hb))) ⟨rfl, rfl, Nat.le_refl _⟩) ?_
      refine Draw.gd [(122, some 31), (130, some 39), (119, some 28)] rfl (by kernel_rfl) (wantF rfl rfl rfl) (fun kq hkq hc => AOp.pickAnd rfl rfl (gvE rfl hc) (fun hb => gvE rfl (and_mk hc hb)) ⟨rfl, rfl, Nat.le_refl _⟩) ?_
      refine Draw.step [(119, some 28), (131, some 40)] rfl (by kernel_rfl) rfl (fun kq hkq => AOp.pickOr rfl rfl rfl (fun hb => gvE rfl (t_not hb)) ⟨rfl, rfl, Nat.le_refl _⟩) ?_
      refine Draw.done fun kq hkq => ?_
      show aOps _ _ _ _ [] ⟨_, _, _⟩
      refine aOps_end ?_
      show ACode _ _ _ _ _ _
      refine ACode.cond rfl (fun c4 => absurd c4 (by simp)) (fun c4 => ?_)
      refine ACode.skip ?_
      show ACode _ _ _ _ _ _
      refine ACode.seq ?_
      refine ACode.region' [0, 1, 2, 3, 4, 5, 6, 7, 8] (by kernel_rfl) rfl ?_
      refine aOps_1 rfl rfl rfl (AOp.move' (.inl rfl) rfl ?_)
      refine aOps_1 rfl rfl rfl (AOp.move' (.inl rfl) rfl ?_)
      refine aOps_q rfl rfl rfl (AOp.call' rfl rfl rfl (root_in _ _ (by repeat (first | assumption | exact upd_same _ _ _ | refine (upd_other _ _ (by omega)).trans ?_ | refine hsL0 _ _ ?_ | refine hsL4 _ _ ?_ | refine hsL5 _ _ ?_ | refine hsL6 _ _ ?_ | refine hsL9 _ _ ?_ | refine hsL8 _ _ ?_)) n q es g0.2 (hG.sub (by (repeat (first | exact sub_refl _ | assumption | refine sub_upd' ?_ (by ((repeat refine (upd_other _ _ (by omega)).trans ?_); first | exact hf _ (by omega) | exact hfL8 _ (by omega) | exact hfL9 _ (by omega) | exact hfL6 _ (by omega) | exact hfL5 _ (by omega) | exact hfL4 _ (by omega) | exact hfL0 _ (by omega))) | refine sub_trans ?_ hsL0 | refine sub_trans ?_ hsL4 | refine sub_trans ?_ hsL5 | refine sub_trans ?_ hsL6 | refine sub_trans ?_ hsL9 | refine sub_trans ?_ hsL8 | refine sub_over (by assumption) | refine sub_over0 ?_ | refine sub_trans (sub_same (by assumption)) ?_ | refine sub_dropu ?_ | refine sub_drop ?_ | refine sub_put ?_ (by repeat (first | assumption | exact upd_same _ _ _ | refine (upd_other _ _ (by omega)).trans ?_ | refine hsL0 _ _ ?_ | refine hsL4 _ _ ?_ | refine hsL5 _ _ ?_ | refine hsL6 _ _ ?_ | refine hsL9 _ _ ?_ | refine hsL8 _ _ ?_)))))) a (by omega)) (fun _ _ _ h => h)) (fun kq hkq => ?_)
      refine aOps_1 rfl rfl rfl (AOp.move' (.inl rfl) rfl ?_)
      refine aOps_1 rfl rfl rfl (AOp.extract' rfl rfl rfl ?_)
      refine aOps_1 rfl rfl rfl (AOp.extract' rfl rfl rfl ?_)
      refine aOps_1 rfl rfl rfl (AOp.alloc' rfl ?_)
      refine aOps_0 rfl rfl rfl ?_
      refine AOp.storeAll (b := ?b8) rfl rfl rfl ?hn8 ?hk8 rfl ?hw8 ?ho8 ?hl8 ?hR8
      (case hn8 => repeat (first | assumption | exact upd_same _ _ _ | refine (upd_other _ _ (by omega)).trans ?_ | refine hsL0 _ _ ?_ | refine hsL4 _ _ ?_ | refine hsL5 _ _ ?_ | refine hsL6 _ _ ?_ | refine hsL9 _ _ ?_ | refine hsL8 _ _ ?_))
      (case hk8 => rfl)
      (case hw8 => first | rfl | exact hv_size _ | exact hcs_one _ | exact (aw_size _).trans rfl | exact one_wv _ | exact one_bv _ | exact entv_size _ | exact entc_one _ | (simp; done))
      (case ho8 => first | rfl | exact hv_size _ | exact hcs_one _ | exact (aw_size _).trans rfl | exact one_wv _ | exact one_bv _ | exact entv_size _ | exact entc_one _ | decide | (simp; done))
      (case hl8 => first | rfl | exact hv_size _ | exact hcs_one _ | exact (aw_size _).trans rfl | exact one_wv _ | exact one_bv _ | exact entv_size _ | exact entc_one _ | (simp; done))
      refine aOps_1 rfl rfl rfl (AOp.move' (.inr rfl) rfl ?_)
      refine aOps_end ?_
      show ACode _ _ _ _ _ _
      refine ACode.seq ?_
      refine ACode.region' [0, 1, 2, 3, 4, 5, 6, 7] (by kernel_rfl) rfl ?_
      refine aOps_1 rfl rfl rfl (AOp.move' (.inl rfl) rfl ?_)
      refine aOps_1 rfl rfl rfl (AOp.move' (.inl rfl) rfl ?_)
      refine aOps_1 rfl rfl rfl ?_
      refine AOp.call' rfl rfl rfl (proof_l _ _ (by repeat (first | assumption | exact upd_same _ _ _ | refine (upd_other _ _ (by omega)).trans ?_ | refine hsL0 _ _ ?_ | refine hsL4 _ _ ?_ | refine hsL5 _ _ ?_ | refine hsL6 _ _ ?_ | refine hsL9 _ _ ?_ | refine hsL8 _ _ ?_)) n q es g0.2 (hG.sub (by (repeat (first | exact sub_refl _ | assumption | refine sub_upd' ?_ (by ((repeat refine (upd_other _ _ (by omega)).trans ?_); first | exact hf _ (by omega) | exact hfL8 _ (by omega) | exact hfL9 _ (by omega) | exact hfL6 _ (by omega) | exact hfL5 _ (by omega) | exact hfL4 _ (by omega) | exact hfL0 _ (by omega))) | refine sub_trans ?_ hsL0 | refine sub_trans ?_ hsL4 | refine sub_trans ?_ hsL5 | refine sub_trans ?_ hsL6 | refine sub_trans ?_ hsL9 | refine sub_trans ?_ hsL8 | refine sub_over (by assumption) | refine sub_over0 ?_ | refine sub_trans (sub_same (by assumption)) ?_ | refine sub_dropu ?_ | refine sub_drop ?_ | refine sub_put ?_ (by repeat (first | assumption | exact upd_same _ _ _ | refine (upd_other _ _ (by omega)).trans ?_ | refine hsL0 _ _ ?_ | refine hsL4 _ _ ?_ | refine hsL5 _ _ ?_ | refine hsL6 _ _ ?_ | refine hsL9 _ _ ?_ | refine hsL8 _ _ ?_)))))) (a : Int) (by omega) (by omega)) ?_
      rintro _ _ ku ⟨qu, hu1, hu2, rfl, rfl⟩
      rw [show mayZ (a : Int) (es.length : Int) = true from decide_eq_true (by omega)]
      have hpl : (proofZ (forms es) (a : Int)).length ≤ 1000000 := by have h1 := proofZ_len (forms es) a (by omega) (by omega); omega
      refine aOps_1 rfl rfl rfl (AOp.move' (.inl rfl) rfl ?_)
      refine aOps_1 rfl rfl rfl (AOp.extract' rfl rfl rfl ?_)
      refine aOps_1 rfl rfl rfl (AOp.extract' rfl rfl rfl ?_)
      refine aOps_1 rfl rfl rfl (AOp.move' (.inr rfl) rfl ?_)
      refine aOps_1 rfl rfl rfl (AOp.move' (.inr rfl) rfl ?_)
      refine aOps_end ?_
      show ACode _ _ _ _ _ _
      refine ACode.seq ?_
      refine ACode.region' [0, 1, 2, 3, 4, 5, 6, 7, 8] (by kernel_rfl) rfl ?_
      refine aOps_1 rfl rfl rfl (AOp.move' (.inl rfl) rfl ?_)
      refine aOps_1 rfl rfl rfl (AOp.bin' rfl rfl rfl rfl ?_)
      refine aOps_1 rfl rfl rfl (AOp.move' (.inl rfl) rfl ?_)
      refine aOps_gd0 rfl rfl (wantT rfl rfl rfl) (fun hc => AOp.slots [(1, _)] (.cons rfl .nil) (AOp.move' (.inl rfl) rfl ⟨rfl, rfl, rfl⟩)) ?_
      refine aOps_gd0 rfl rfl (wantT rfl rfl rfl) (fun hc => AOp.slots [(6, _)] (.cons rfl .nil) (AOp.move' (.inl rfl) rfl ⟨rfl, rfl, rfl⟩)) ?_
      refine aOps_gd0 rfl rfl (wantT rfl rfl rfl) (fun hc => AOp.slots [(149, _)] (.cons (gvT rfl hc) .nil) (AOp.len' rfl rfl ⟨rfl, rfl, rfl⟩)) ?_
      refine aOps_gd0 rfl rfl (wantT rfl rfl rfl) (fun hc => AOp.slots [(148, _), (150, _)] (.cons (gvT rfl hc) (.cons (gvT rfl hc) .nil)) (AOp.bin' rfl rfl rfl rfl ⟨rfl, rfl, rfl⟩)) ?_
      refine aOps_1 rfl rfl rfl (AOp.pickAnd rfl rfl rfl (fun hb => gvE rfl hb) ?_)
      refine aOps_1 rfl rfl rfl (AOp.move' (.inr rfl) rfl ?_)
      refine aOps_end ?_
      show ACode _ _ _ _ _ _
      refine ACode.seq ?_
      refine ACode.seq ?_
      have g9 : (decide ((a : Int) ≥ 0) && decide ((a : Int) ≤ (es.length : Int))) = true := by simp; omega
      rw [g9]
      refine ACode.any mixed (by kernel_rfl) ?_
      refine AnyA.split 18 (by kernel_rfl) (by kernel_rfl) (by decide) (by decide) (Nat.le_of_ble_eq_true rfl) ?_
      refine AnyA.float [(0, 153), (1, 154), (2, 155), (3, 156), (4, 157), (5, 158), (6, 159), (7, 160), (8, 161), (9, 162), (10, 163), (11, 164), (12, 165), (14, 167)] [13, 15, 16, 17] (by kernel_rfl) (Nat.le_of_ble_eq_true rfl) (by kernel_rfl) (sub_refl _) ?_
      refine DrawF.q 0 153 [(16, none)] rfl (by kernel_rfl) rfl (fun Hc kq hSb => AOp.move' (.inl rfl) rfl ⟨rfl, rfl, rfl⟩) ?_
      refine DrawF.q 1 154 [(19, none)] rfl (by kernel_rfl) rfl (fun Hc kq hSb => AOp.move' (.inl rfl) rfl ⟨rfl, rfl, rfl⟩) ?_
      refine DrawF.q 2 155 [(153, some 0), (154, some 1)] rfl (by kernel_rfl) rfl (fun Hc kq hSb => AOp.neBool rfl rfl rfl ⟨rfl, rfl, rfl⟩) ?_
      refine DrawF.q 3 156 [(155, some 2)] rfl (by kernel_rfl) rfl (fun Hc kq hSb => AOp.move' (.inl rfl) rfl ⟨rfl, rfl, rfl⟩) ?_
      refine DrawF.q 4 157 [(18, none), (156, some 3)] rfl (by kernel_rfl) rfl (fun Hc kq hSb => AOp.move' (.inl rfl) rfl ⟨rfl, rfl, rfl⟩) ?_
      refine DrawF.q 5 158 [(19, none), (156, some 3)] rfl (by kernel_rfl) rfl (fun Hc kq hSb => AOp.move' (.inl rfl) rfl ⟨rfl, rfl, rfl⟩) ?_
      refine DrawF.q 6 159 [(157, some 4), (158, some 5), (156, some 3)] rfl (by kernel_rfl) rfl (fun Hc kq hSb => AOp.neBool rfl rfl rfl ⟨rfl, rfl, rfl⟩) ?_
      refine DrawF.q 7 160 [(156, some 3), (159, some 6)] rfl (by kernel_rfl) rfl (fun Hc kq hSb => AOp.pickB rfl rfl rfl ⟨rfl, rfl, rfl⟩) ?_
      refine DrawF.q 8 161 [(160, some 7)] rfl (by kernel_rfl) rfl (fun Hc kq hSb => AOp.move' (.inl rfl) rfl ⟨rfl, rfl, rfl⟩) ?_
      refine DrawF.q 9 162 [(19, none), (161, some 8)] rfl (by kernel_rfl) rfl (fun Hc kq hSb => AOp.move' (.inl rfl) rfl ⟨rfl, rfl, rfl⟩) ?_
      refine DrawF.q 10 163 [(162, some 9), (161, some 8)] rfl (by kernel_rfl) rfl (fun Hc kq hSb => AOp.move' (.inl rfl) rfl ⟨rfl, rfl, rfl⟩) ?_
      refine DrawF.q 11 164 [(15, none), (163, some 10)] rfl (by kernel_rfl) rfl (fun Hc kq hSb => (by refine AOp.loadAll (b := ?b9) (v := hv (root ((forms es).take a))) rfl rfl ?hn9 ?hv9 ?hw9 ?hz9 ?hR9; (case hn9 => repeat (first | assumption | exact upd_same _ _ _ | refine (upd_other _ _ (by omega)).trans ?_ | refine hSb _ _ ?_ | refine hsL0 _ _ ?_ | refine hsL4 _ _ ?_ | refine hsL5 _ _ ?_ | refine hsL6 _ _ ?_ | refine hsL9 _ _ ?_ | refine hsL8 _ _ ?_)); (case hv9 => rfl); (case hw9 => rfl); (case hz9 => first | rfl | exact hv_size _ | exact hcs_one _ | exact (aw_size _).trans rfl | exact one_wv _ | exact one_bv _ | exact entv_size _ | exact entc_one _ | (simp; done)); exact ⟨rfl, rfl, rfl⟩)) ?_
      refine DrawF.q 12 165 [(6, none), (163, some 10)] rfl (by kernel_rfl) rfl (fun Hc kq hSb => AOp.move' (.inl rfl) rfl ⟨rfl, rfl, rfl⟩) ?_
      refine DrawF.q 14 167 [(1, none), (163, some 10)] rfl (by kernel_rfl) rfl (fun Hc kq hSb => AOp.move' (.inl rfl) rfl ⟨rfl, rfl, rfl⟩) ?_
      refine DrawF.done ?_
      show aOpsF _ _ _ _ _ _ [13, 15, 16, 17] ⟨_, _, _⟩
      refine aOpsF_1 [165, 163] rfl rfl (by kernel_rfl) rfl ?_
      refine AOp.call' rfl rfl rfl (refforms _ _ es (some ⟨ka, 0, some 1⟩) _ (SLC.xblk (by repeat (first | assumption | exact upd_same _ _ _ | refine (upd_other _ _ (by omega)).trans ?_ | refine hsL0 _ _ ?_ | refine hsL4 _ _ ?_ | refine hsL5 _ _ ?_ | refine hsL6 _ _ ?_ | refine hsL9 _ _ ?_ | refine hsL8 _ _ ?_))) hG.hg hG.hm) ?_
      rintro _ H3 k3 ⟨q2, us, hq2a, hq2b, rfl, hsL9, hfL9, hq2, hL2⟩
      have hul := hL2.len
      rw [List.length_map] at hul
      have htl : (us.take a).length = a := by rw [List.length_take]; omega
      obtain ⟨A7, c7, q7, g7⟩ := SLC.cutL (NewF.slc hq2) a none (by omega) (by intro x hx; cases hx)
      refine ⟨by (repeat (first | exact sub_refl _ | assumption | refine sub_upd' ?_ (by ((repeat refine (upd_other _ _ (by omega)).trans ?_); first | exact hf _ (by omega) | exact hfL8 _ (by omega) | exact hfL9 _ (by omega) | exact hfL6 _ (by omega) | exact hfL5 _ (by omega) | exact hfL4 _ (by omega) | exact hfL0 _ (by omega))) | refine sub_trans ?_ hsL0 | refine sub_trans ?_ hsL4 | refine sub_trans ?_ hsL5 | refine sub_trans ?_ hsL6 | refine sub_trans ?_ hsL9 | refine sub_trans ?_ hsL8 | refine sub_over (by assumption) | refine sub_over0 ?_ | refine sub_trans (sub_same (by assumption)) ?_ | refine sub_dropu ?_ | refine sub_drop ?_ | refine sub_put ?_ (by repeat (first | assumption | exact upd_same _ _ _ | refine (upd_other _ _ (by omega)).trans ?_ | refine hsL0 _ _ ?_ | refine hsL4 _ _ ?_ | refine hsL5 _ _ ?_ | refine hsL6 _ _ ?_ | refine hsL9 _ _ ?_ | refine hsL8 _ _ ?_)))), ?_⟩
      refine aOpsF_1 [166, 167, 163] rfl rfl (by kernel_rfl) rfl (AOp.cutQ (aslice_sub (by (repeat (first | exact sub_refl _ | assumption | refine sub_upd' ?_ (by ((repeat refine (upd_other _ _ (by omega)).trans ?_); first | exact hf _ (by omega) | exact hfL8 _ (by omega) | exact hfL9 _ (by omega) | exact hfL6 _ (by omega) | exact hfL5 _ (by omega) | exact hfL4 _ (by omega) | exact hfL0 _ (by omega))) | refine sub_trans ?_ hsL0 | refine sub_trans ?_ hsL4 | refine sub_trans ?_ hsL5 | refine sub_trans ?_ hsL6 | refine sub_trans ?_ hsL9 | refine sub_trans ?_ hsL8 | refine sub_over (by assumption) | refine sub_over0 ?_ | refine sub_trans (sub_same (by assumption)) ?_ | refine sub_dropu ?_ | refine sub_drop ?_ | refine sub_put ?_ (by repeat (first | assumption | exact upd_same _ _ _ | refine (upd_other _ _ (by omega)).trans ?_ | refine hsL0 _ _ ?_ | refine hsL4 _ _ ?_ | refine hsL5 _ _ ?_ | refine hsL6 _ _ ?_ | refine hsL9 _ _ ?_ | refine hsL8 _ _ ?_))))) q7) rfl rfl (bnd_no rfl) (bnd_at rfl rfl) mx_no ?_)
      refine ⟨by (repeat (first | exact sub_refl _ | assumption | refine sub_upd' ?_ (by ((repeat refine (upd_other _ _ (by omega)).trans ?_); first | exact hf _ (by omega) | exact hfL8 _ (by omega) | exact hfL9 _ (by omega) | exact hfL6 _ (by omega) | exact hfL5 _ (by omega) | exact hfL4 _ (by omega) | exact hfL0 _ (by omega))) | refine sub_trans ?_ hsL0 | refine sub_trans ?_ hsL4 | refine sub_trans ?_ hsL5 | refine sub_trans ?_ hsL6 | refine sub_trans ?_ hsL9 | refine sub_trans ?_ hsL8 | refine sub_over (by assumption) | refine sub_over0 ?_ | refine sub_trans (sub_same (by assumption)) ?_ | refine sub_dropu ?_ | refine sub_drop ?_ | refine sub_put ?_ (by repeat (first | assumption | exact upd_same _ _ _ | refine (upd_other _ _ (by omega)).trans ?_ | refine hsL0 _ _ ?_ | refine hsL4 _ _ ?_ | refine hsL5 _ _ ?_ | refine hsL6 _ _ ?_ | refine hsL9 _ _ ?_ | refine hsL8 _ _ ?_)))), ?_⟩
      refine aOpsF_1 [168, 163] rfl rfl (by kernel_rfl) rfl ?_
      refine AOp.call' rfl rfl rfl (refroot_b (us.length + 1) ((forms es).take a) (us.take a) A7 c7 _ _ (by repeat (first | assumption | exact upd_same _ _ _ | refine (upd_other _ _ (by omega)).trans ?_ | refine hsL0 _ _ ?_ | refine hsL4 _ _ ?_ | refine hsL5 _ _ ?_ | refine hsL6 _ _ ?_ | refine hsL9 _ _ ?_ | refine hsL8 _ _ ?_)) (g7.sub (by (repeat (first | exact sub_refl _ | assumption | refine sub_upd' ?_ (by ((repeat refine (upd_other _ _ (by omega)).trans ?_); first | exact hf _ (by omega) | exact hfL8 _ (by omega) | exact hfL9 _ (by omega) | exact hfL6 _ (by omega) | exact hfL5 _ (by omega) | exact hfL4 _ (by omega) | exact hfL0 _ (by omega))) | refine sub_trans ?_ hsL0 | refine sub_trans ?_ hsL4 | refine sub_trans ?_ hsL5 | refine sub_trans ?_ hsL6 | refine sub_trans ?_ hsL9 | refine sub_trans ?_ hsL8 | refine sub_over (by assumption) | refine sub_over0 ?_ | refine sub_trans (sub_same (by assumption)) ?_ | refine sub_dropu ?_ | refine sub_drop ?_ | refine sub_put ?_ (by repeat (first | assumption | exact upd_same _ _ _ | refine (upd_other _ _ (by omega)).trans ?_ | refine hsL0 _ _ ?_ | refine hsL4 _ _ ?_ | refine hsL5 _ _ ?_ | refine hsL6 _ _ ?_ | refine hsL9 _ _ ?_ | refine hsL8 _ _ ?_)))))) ((hL2.take a).sub (by (repeat (first | exact sub_refl _ | assumption | refine sub_upd' ?_ (by ((repeat refine (upd_other _ _ (by omega)).trans ?_); first | exact hf _ (by omega) | exact hfL8 _ (by omega) | exact hfL9 _ (by omega) | exact hfL6 _ (by omega) | exact hfL5 _ (by omega) | exact hfL4 _ (by omega) | exact hfL0 _ (by omega))) | refine sub_trans ?_ hsL0 | refine sub_trans ?_ hsL4 | refine sub_trans ?_ hsL5 | refine sub_trans ?_ hsL6 | refine sub_trans ?_ hsL9 | refine sub_trans ?_ hsL8 | refine sub_over (by assumption) | refine sub_over0 ?_ | refine sub_trans (sub_same (by assumption)) ?_ | refine sub_dropu ?_ | refine sub_drop ?_ | refine sub_put ?_ (by repeat (first | assumption | exact upd_same _ _ _ | refine (upd_other _ _ (by omega)).trans ?_ | refine hsL0 _ _ ?_ | refine hsL4 _ _ ?_ | refine hsL5 _ _ ?_ | refine hsL6 _ _ ?_ | refine hsL9 _ _ ?_ | refine hsL8 _ _ ?_)))))) (by omega) (fun x hx => forms_le hG.hg x (List.mem_of_mem_take hx)) (by omega)) ?_
      rintro _ _ kv ⟨rfl, rfl, hkv⟩
      refine ⟨by (repeat (first | exact sub_refl _ | assumption | refine sub_upd' ?_ (by ((repeat refine (upd_other _ _ (by omega)).trans ?_); first | exact hf _ (by omega) | exact hfL8 _ (by omega) | exact hfL9 _ (by omega) | exact hfL6 _ (by omega) | exact hfL5 _ (by omega) | exact hfL4 _ (by omega) | exact hfL0 _ (by omega))) | refine sub_trans ?_ hsL0 | refine sub_trans ?_ hsL4 | refine sub_trans ?_ hsL5 | refine sub_trans ?_ hsL6 | refine sub_trans ?_ hsL9 | refine sub_trans ?_ hsL8 | refine sub_over (by assumption) | refine sub_over0 ?_ | refine sub_trans (sub_same (by assumption)) ?_ | refine sub_dropu ?_ | refine sub_drop ?_ | refine sub_put ?_ (by repeat (first | assumption | exact upd_same _ _ _ | refine (upd_other _ _ (by omega)).trans ?_ | refine hsL0 _ _ ?_ | refine hsL4 _ _ ?_ | refine hsL5 _ _ ?_ | refine hsL6 _ _ ?_ | refine hsL9 _ _ ?_ | refine hsL8 _ _ ?_)))), ?_⟩
      refine aOpsF_1 [164, 169, 163] rfl rfl (by kernel_rfl) rfl (AOp.neAgg true rfl rfl rfl (hv_sc _) (hv_sc _) ⟨fun _ => rfl, fun _ => rfl⟩ ?_)
      refine ⟨by (repeat (first | exact sub_refl _ | assumption | refine sub_upd' ?_ (by ((repeat refine (upd_other _ _ (by omega)).trans ?_); first | exact hf _ (by omega) | exact hfL8 _ (by omega) | exact hfL9 _ (by omega) | exact hfL6 _ (by omega) | exact hfL5 _ (by omega) | exact hfL4 _ (by omega) | exact hfL0 _ (by omega))) | refine sub_trans ?_ hsL0 | refine sub_trans ?_ hsL4 | refine sub_trans ?_ hsL5 | refine sub_trans ?_ hsL6 | refine sub_trans ?_ hsL9 | refine sub_trans ?_ hsL8 | refine sub_over (by assumption) | refine sub_over0 ?_ | refine sub_trans (sub_same (by assumption)) ?_ | refine sub_dropu ?_ | refine sub_drop ?_ | refine sub_put ?_ (by repeat (first | assumption | exact upd_same _ _ _ | refine (upd_other _ _ (by omega)).trans ?_ | refine hsL0 _ _ ?_ | refine hsL4 _ _ ?_ | refine hsL5 _ _ ?_ | refine hsL6 _ _ ?_ | refine hsL9 _ _ ?_ | refine hsL8 _ _ ?_)))), ?_⟩
      refine aOpsF_end ?_
      refine AnyA.split 25 (by kernel_rfl) (by kernel_rfl) (by decide) (by decide) (Nat.le_of_ble_eq_true rfl) ?_
      refine AnyA.float [(18, 171), (19, 172), (20, 173), (22, 175)] [21, 23, 24] (by kernel_rfl) (Nat.le_of_ble_eq_true rfl) (by kernel_rfl) (sub_refl _) ?_
      refine DrawF.q 18 171 [(170, none), (163, none)] rfl (by kernel_rfl) rfl (fun Hc kq hSb => AOp.move' (.inl rfl) rfl ⟨rfl, rfl, rfl⟩) ?_
      refine DrawF.q 19 172 [(17, none), (171, some 18)] rfl (by kernel_rfl) rfl (fun Hc kq hSb => AOp.move' (.inl rfl) rfl ⟨rfl, rfl, rfl⟩) ?_
      refine DrawF.q 20 173 [(6, none), (171, some 18)] rfl (by kernel_rfl) rfl (fun Hc kq hSb => AOp.move' (.inl rfl) rfl ⟨rfl, rfl, rfl⟩) ?_
      refine DrawF.q 22 175 [(1, none), (171, some 18)] rfl (by kernel_rfl) rfl (fun Hc kq hSb => AOp.move' (.inl rfl) rfl ⟨rfl, rfl, rfl⟩) ?_
      refine DrawF.done ?_
      show aOpsF _ _ _ _ _ _ [21, 23, 24] ⟨_, _, _⟩
      refine aOpsF_1 [173, 171] rfl rfl (by kernel_rfl) rfl ?_
      refine AOp.call' rfl rfl rfl (refforms _ _ es (some ⟨ka, 0, some 1⟩) _ (SLC.xblk (by repeat (first | assumption | exact upd_same _ _ _ | refine (upd_other _ _ (by omega)).trans ?_ | refine hsL0 _ _ ?_ | refine hsL4 _ _ ?_ | refine hsL5 _ _ ?_ | refine hsL6 _ _ ?_ | refine hsL9 _ _ ?_ | refine hsL8 _ _ ?_))) hG.hg hG.hm) ?_
      rintro _ H4 k4 ⟨q3, zs, hq3a, hq3b, rfl, hsL6, hfL6, hq3, hL3⟩
      have hzl := hL3.len
      rw [List.length_map] at hzl
      refine ⟨by (repeat (first | exact sub_refl _ | assumption | refine sub_upd' ?_ (by ((repeat refine (upd_other _ _ (by omega)).trans ?_); first | exact hf _ (by omega) | exact hfL8 _ (by omega) | exact hfL9 _ (by omega) | exact hfL6 _ (by omega) | exact hfL5 _ (by omega) | exact hfL4 _ (by omega) | exact hfL0 _ (by omega))) | refine sub_trans ?_ hsL0 | refine sub_trans ?_ hsL4 | refine sub_trans ?_ hsL5 | refine sub_trans ?_ hsL6 | refine sub_trans ?_ hsL9 | refine sub_trans ?_ hsL8 | refine sub_over (by assumption) | refine sub_over0 ?_ | refine sub_trans (sub_same (by assumption)) ?_ | refine sub_dropu ?_ | refine sub_drop ?_ | refine sub_put ?_ (by repeat (first | assumption | exact upd_same _ _ _ | refine (upd_other _ _ (by omega)).trans ?_ | refine hsL0 _ _ ?_ | refine hsL4 _ _ ?_ | refine hsL5 _ _ ?_ | refine hsL6 _ _ ?_ | refine hsL9 _ _ ?_ | refine hsL8 _ _ ?_)))), ?_⟩
      refine aOpsF_1 [174, 175, 171] rfl rfl (by kernel_rfl) rfl ?_
      refine AOp.call' rfl rfl rfl (refproofF_b _ _ (by repeat (first | assumption | exact upd_same _ _ _ | refine (upd_other _ _ (by omega)).trans ?_ | refine hsL0 _ _ ?_ | refine hsL4 _ _ ?_ | refine hsL5 _ _ ?_ | refine hsL6 _ _ ?_ | refine hsL9 _ _ ?_ | refine hsL8 _ _ ?_)) (forms es) zs (some ⟨q3, 0, some 1⟩) _ (NewF.slc hq3) hL3 (by omega) (forms_le hG.hg) (a : Int) (by omega) (by omega)) ?_
      rintro _ _ kw ⟨qw, hw1, hw2, rfl, rfl⟩
      refine ⟨by (repeat (first | exact sub_refl _ | assumption | refine sub_upd' ?_ (by ((repeat refine (upd_other _ _ (by omega)).trans ?_); first | exact hf _ (by omega) | exact hfL8 _ (by omega) | exact hfL9 _ (by omega) | exact hfL6 _ (by omega) | exact hfL5 _ (by omega) | exact hfL4 _ (by omega) | exact hfL0 _ (by omega))) | refine sub_trans ?_ hsL0 | refine sub_trans ?_ hsL4 | refine sub_trans ?_ hsL5 | refine sub_trans ?_ hsL6 | refine sub_trans ?_ hsL9 | refine sub_trans ?_ hsL8 | refine sub_over (by assumption) | refine sub_over0 ?_ | refine sub_trans (sub_same (by assumption)) ?_ | refine sub_dropu ?_ | refine sub_drop ?_ | refine sub_put ?_ (by repeat (first | assumption | exact upd_same _ _ _ | refine (upd_other _ _ (by omega)).trans ?_ | refine hsL0 _ _ ?_ | refine hsL4 _ _ ?_ | refine hsL5 _ _ ?_ | refine hsL6 _ _ ?_ | refine hsL9 _ _ ?_ | refine hsL8 _ _ ?_)))), ?_⟩
      refine aOpsF_1 [172, 176, 171] rfl rfl (by kernel_rfl) rfl ?_
      refine AOp.call' rfl rfl rfl (sameH_b _ _ (proofZ (forms es) (a : Int)) (proofZ (forms es) (a : Int)) (some ⟨qu, 0, some 1⟩) (some ⟨qw, 0, some 1⟩) _ _ (SLC.pbk (e := 31) (by repeat (first | assumption | exact upd_same _ _ _ | refine (upd_other _ _ (by omega)).trans ?_ | refine hsL0 _ _ ?_ | refine hsL4 _ _ ?_ | refine hsL5 _ _ ?_ | refine hsL6 _ _ ?_ | refine hsL9 _ _ ?_ | refine hsL8 _ _ ?_))) (SLC.pbk (e := 31) (by repeat (first | assumption | exact upd_same _ _ _ | refine (upd_other _ _ (by omega)).trans ?_ | refine hsL0 _ _ ?_ | refine hsL4 _ _ ?_ | refine hsL5 _ _ ?_ | refine hsL6 _ _ ?_ | refine hsL9 _ _ ?_ | refine hsL8 _ _ ?_))) (by omega)) ?_
      rintro _ _ ky ⟨rfl, rfl, hky⟩
      rw [show decide (proofZ (forms es) (a : Int) = proofZ (forms es) (a : Int)) = true from decide_eq_true rfl]
      refine ⟨by (repeat (first | exact sub_refl _ | assumption | refine sub_upd' ?_ (by ((repeat refine (upd_other _ _ (by omega)).trans ?_); first | exact hf _ (by omega) | exact hfL8 _ (by omega) | exact hfL9 _ (by omega) | exact hfL6 _ (by omega) | exact hfL5 _ (by omega) | exact hfL4 _ (by omega) | exact hfL0 _ (by omega))) | refine sub_trans ?_ hsL0 | refine sub_trans ?_ hsL4 | refine sub_trans ?_ hsL5 | refine sub_trans ?_ hsL6 | refine sub_trans ?_ hsL9 | refine sub_trans ?_ hsL8 | refine sub_over (by assumption) | refine sub_over0 ?_ | refine sub_trans (sub_same (by assumption)) ?_ | refine sub_dropu ?_ | refine sub_drop ?_ | refine sub_put ?_ (by repeat (first | assumption | exact upd_same _ _ _ | refine (upd_other _ _ (by omega)).trans ?_ | refine hsL0 _ _ ?_ | refine hsL4 _ _ ?_ | refine hsL5 _ _ ?_ | refine hsL6 _ _ ?_ | refine hsL9 _ _ ?_ | refine hsL8 _ _ ?_)))), ?_⟩
      refine aOpsF_end ?_
      refine AnyA.float [(25, 178), (26, 179), (27, 180), (28, 181)] [] (by kernel_rfl) (Nat.le_of_ble_eq_true rfl) (by kernel_rfl) (sub_refl _) ?_
      refine DrawF.q 25 178 [(177, none), (171, none)] rfl (by kernel_rfl) rfl (fun Hc kq hSb => AOp.un' rfl rfl rfl ⟨rfl, rfl, rfl⟩) ?_
      refine DrawF.q 26 179 [(171, none), (178, some 25), (163, none)] rfl (by kernel_rfl) rfl (fun Hc kq hSb => AOp.pickB rfl rfl rfl ⟨rfl, rfl, rfl⟩) ?_
      refine DrawF.q 27 180 [(163, none), (179, some 26), (161, none)] rfl (by kernel_rfl) rfl (fun Hc kq hSb => AOp.pickB rfl rfl rfl ⟨rfl, rfl, rfl⟩) ?_
      refine DrawF.q 28 181 [(161, none), (180, some 27)] rfl (by kernel_rfl) rfl (fun Hc kq hSb => AOp.pickB rfl rfl rfl ⟨rfl, rfl, rfl⟩) ?_
      refine DrawF.done ?_
      show aOpsF _ _ _ _ _ _ [] ⟨_, _, _⟩
      refine aOpsF_end ?_
      show ACode _ _ _ _ _ _
      refine ACode.cond rfl (fun c5 => absurd c5 (by simp)) (fun c5 => ?_)
      refine ACode.skip ?_
      show ACode _ _ _ _ _ _
      refine ACode.seq ?_
      refine ACode.region' [0, 1, 2, 3, 4, 5, 6, 7, 8, 9, 10, 11, 12, 13, 14, 15, 16, 17, 18, 19, 20, 21, 22] (by kernel_rfl) rfl ?_
      refine aOps_1 rfl rfl rfl (AOp.move' (.inl rfl) rfl ?_)
      refine aOps_q rfl rfl rfl (AOp.call' rfl rfl rfl (size_l _ _ n q es g0.2 (hG.sub (by (repeat (first | exact sub_refl _ | assumption | refine sub_upd' ?_ (by ((repeat refine (upd_other _ _ (by omega)).trans ?_); first | exact hf _ (by omega) | exact hfL8 _ (by omega) | exact hfL9 _ (by omega) | exact hfL6 _ (by omega) | exact hfL5 _ (by omega) | exact hfL4 _ (by omega) | exact hfL0 _ (by omega))) | refine sub_trans ?_ hsL0 | refine sub_trans ?_ hsL4 | refine sub_trans ?_ hsL5 | refine sub_trans ?_ hsL6 | refine sub_trans ?_ hsL9 | refine sub_trans ?_ hsL8 | refine sub_over (by assumption) | refine sub_over0 ?_ | refine sub_trans (sub_same (by assumption)) ?_ | refine sub_dropu ?_ | refine sub_drop ?_ | refine sub_put ?_ (by repeat (first | assumption | exact upd_same _ _ _ | refine (upd_other _ _ (by omega)).trans ?_ | refine hsL0 _ _ ?_ | refine hsL4 _ _ ?_ | refine hsL5 _ _ ?_ | refine hsL6 _ _ ?_ | refine hsL9 _ _ ?_ | refine hsL8 _ _ ?_))))))) (fun _ _ _ h => h)) (fun kq hkq => ?_)
      refine aOps_1 rfl rfl rfl (AOp.move' (.inl rfl) rfl ?_)
      refine aOps_1 rfl rfl rfl (AOp.len' rfl rfl ?_)
      refine aOps_1 rfl rfl rfl (AOp.bin' rfl rfl rfl rfl ?_)
      rw [show ((es.length : Int) == (es.length : Int)) = true from beq_self_eq_true _]
      refine aOps_1 rfl rfl rfl (AOp.move' (.inl rfl) rfl ?_)
      refine aOps_w rfl rfl rfl (AOp.move' (.inl rfl) rfl ?_)
      refine aOps_wq rfl rfl rfl (AOp.call' rfl rfl rfl (head_l _ _ (by repeat (first | assumption | exact upd_same _ _ _ | refine (upd_other _ _ (by omega)).trans ?_ | refine hsL0 _ _ ?_ | refine hsL4 _ _ ?_ | refine hsL5 _ _ ?_ | refine hsL6 _ _ ?_ | refine hsL9 _ _ ?_ | refine hsL8 _ _ ?_)) n q es g0.2 (hG.sub (by (repeat (first | exact sub_refl _ | assumption | refine sub_upd' ?_ (by ((repeat refine (upd_other _ _ (by omega)).trans ?_); first | exact hf _ (by omega) | exact hfL8 _ (by omega) | exact hfL9 _ (by omega) | exact hfL6 _ (by omega) | exact hfL5 _ (by omega) | exact hfL4 _ (by omega) | exact hfL0 _ (by omega))) | refine sub_trans ?_ hsL0 | refine sub_trans ?_ hsL4 | refine sub_trans ?_ hsL5 | refine sub_trans ?_ hsL6 | refine sub_trans ?_ hsL9 | refine sub_trans ?_ hsL8 | refine sub_over (by assumption) | refine sub_over0 ?_ | refine sub_trans (sub_same (by assumption)) ?_ | refine sub_dropu ?_ | refine sub_drop ?_ | refine sub_put ?_ (by repeat (first | assumption | exact upd_same _ _ _ | refine (upd_other _ _ (by omega)).trans ?_ | refine hsL0 _ _ ?_ | refine hsL4 _ _ ?_ | refine hsL5 _ _ ?_ | refine hsL6 _ _ ?_ | refine hsL9 _ _ ?_ | refine hsL8 _ _ ?_))))))) (fun _ _ _ h => h)) (fun kq hkq => ?_)
      refine aOps_w rfl rfl rfl (AOp.move' (.inl rfl) rfl ?_)
      refine aOps_wq rfl rfl rfl (AOp.call' rfl rfl rfl (refhead _ _ (by repeat (first | assumption | exact upd_same _ _ _ | refine (upd_other _ _ (by omega)).trans ?_ | refine hsL0 _ _ ?_ | refine hsL4 _ _ ?_ | refine hsL5 _ _ ?_ | refine hsL6 _ _ ?_ | refine hsL9 _ _ ?_ | refine hsL8 _ _ ?_)) es (some ⟨ka, 0, some 1⟩) _ (SLC.xblk (by repeat (first | assumption | exact upd_same _ _ _ | refine (upd_other _ _ (by omega)).trans ?_ | refine hsL0 _ _ ?_ | refine hsL4 _ _ ?_ | refine hsL5 _ _ ?_ | refine hsL6 _ _ ?_ | refine hsL9 _ _ ?_ | refine hsL8 _ _ ?_))) hG.hg hG.hm) (fun _ _ _ h => h)) (fun kq hkq => ?_)
      refine aOps_w rfl rfl rfl (AOp.eqAgg true rfl rfl rfl (hv_sc _) (hv_sc _) ⟨fun _ => rfl, fun _ => rfl⟩ ?_)
      refine aOps_1 rfl rfl rfl (AOp.pickB rfl rfl rfl ?_)
      refine aOps_1 rfl rfl rfl (AOp.move' (.inl rfl) rfl ?_)
      refine aOps_w rfl rfl rfl (AOp.move' (.inl rfl) rfl ?_)
      refine aOps_w rfl rfl rfl ?_
      refine AOp.call' rfl rfl rfl (forms_l _ _ n q es g0.2 (hG.sub (by (repeat (first | exact sub_refl _ | assumption | refine sub_upd' ?_ (by ((repeat refine (upd_other _ _ (by omega)).trans ?_); first | exact hf _ (by omega) | exact hfL8 _ (by omega) | exact hfL9 _ (by omega) | exact hfL6 _ (by omega) | exact hfL5 _ (by omega) | exact hfL4 _ (by omega) | exact hfL0 _ (by omega))) | refine sub_trans ?_ hsL0 | refine sub_trans ?_ hsL4 | refine sub_trans ?_ hsL5 | refine sub_trans ?_ hsL6 | refine sub_trans ?_ hsL9 | refine sub_trans ?_ hsL8 | refine sub_over (by assumption) | refine sub_over0 ?_ | refine sub_trans (sub_same (by assumption)) ?_ | refine sub_dropu ?_ | refine sub_drop ?_ | refine sub_put ?_ (by repeat (first | assumption | exact upd_same _ _ _ | refine (upd_other _ _ (by omega)).trans ?_ | refine hsL0 _ _ ?_ | refine hsL4 _ _ ?_ | refine hsL5 _ _ ?_ | refine hsL6 _ _ ?_ | refine hsL9 _ _ ?_ | refine hsL8 _ _ ?_))))))) ?_
      rintro _ H5 k5 ⟨q4, ys, hq4a, hq4b, rfl, hsL5, hfL5, hq4, hL4⟩
      have hyl := hL4.len
      rw [List.length_map] at hyl
      refine aOps_w rfl rfl rfl (AOp.move' (.inl rfl) rfl ?_)
      refine aOps_w rfl rfl rfl ?_
      refine AOp.call' rfl rfl rfl (refforms _ _ es (some ⟨ka, 0, some 1⟩) _ (SLC.xblk (by repeat (first | assumption | exact upd_same _ _ _ | refine (upd_other _ _ (by omega)).trans ?_ | refine hsL0 _ _ ?_ | refine hsL4 _ _ ?_ | refine hsL5 _ _ ?_ | refine hsL6 _ _ ?_ | refine hsL9 _ _ ?_ | refine hsL8 _ _ ?_))) hG.hg hG.hm) ?_
      rintro _ H6 k6 ⟨q5, xs, hq5a, hq5b, rfl, hsL4, hfL4, hq5, hL5⟩
      refine aOps_w rfl rfl rfl ?_
      refine AOp.call' rfl rfl rfl (sameAll_b _ _ (forms es) (forms es) ys xs (some ⟨q4, 0, some 1⟩) (some ⟨q5, 0, some 1⟩) _ _ (NewF.slc (by repeat (first | assumption | exact upd_same _ _ _ | refine (upd_other _ _ (by omega)).trans ?_ | refine hsL0 _ _ ?_ | refine hsL4 _ _ ?_ | refine hsL5 _ _ ?_ | refine hsL6 _ _ ?_ | refine hsL9 _ _ ?_ | refine hsL8 _ _ ?_))) (hL4.sub (by (repeat (first | exact sub_refl _ | assumption | refine sub_upd' ?_ (by ((repeat refine (upd_other _ _ (by omega)).trans ?_); first | exact hf _ (by omega) | exact hfL8 _ (by omega) | exact hfL9 _ (by omega) | exact hfL6 _ (by omega) | exact hfL5 _ (by omega) | exact hfL4 _ (by omega) | exact hfL0 _ (by omega))) | refine sub_trans ?_ hsL0 | refine sub_trans ?_ hsL4 | refine sub_trans ?_ hsL5 | refine sub_trans ?_ hsL6 | refine sub_trans ?_ hsL9 | refine sub_trans ?_ hsL8 | refine sub_over (by assumption) | refine sub_over0 ?_ | refine sub_trans (sub_same (by assumption)) ?_ | refine sub_dropu ?_ | refine sub_drop ?_ | refine sub_put ?_ (by repeat (first | assumption | exact upd_same _ _ _ | refine (upd_other _ _ (by omega)).trans ?_ | refine hsL0 _ _ ?_ | refine hsL4 _ _ ?_ | refine hsL5 _ _ ?_ | refine hsL6 _ _ ?_ | refine hsL9 _ _ ?_ | refine hsL8 _ _ ?_)))))) (NewF.slc hq5) hL5 (by omega) (forms_le hG.hg)) ?_
      rintro _ _ kz ⟨rfl, rfl, hkz⟩
      rw [show decide (forms es = forms es) = true from decide_eq_true rfl]
      refine aOps_1 rfl rfl rfl (AOp.pickB rfl rfl rfl ?_)
      refine aOps_1 rfl rfl rfl (AOp.move' (.inl rfl) rfl ?_)
      refine aOps_wq rfl rfl rfl (AOp.call' rfl rfl rfl (awake21 _ _ (by repeat (first | assumption | exact upd_same _ _ _ | refine (upd_other _ _ (by omega)).trans ?_ | refine hsL0 _ _ ?_ | refine hsL4 _ _ ?_ | refine hsL5 _ _ ?_ | refine hsL6 _ _ ?_ | refine hsL9 _ _ ?_ | refine hsL8 _ _ ?_))) (fun _ _ _ h => h)) (fun kq hkq => ?_)
      refine aOps_1 rfl rfl rfl (AOp.pickB rfl rfl rfl ?_)
      refine aOps_1 rfl rfl rfl (AOp.move' (.inr rfl) rfl ?_)
      refine aOps_end ?_
      show ACode _ _ _ _ _ _
      refine ACode.ret ?_
      exact RetQ.one rfl rfl (by (repeat (first | exact sub_refl _ | assumption | refine sub_upd' ?_ (by ((repeat refine (upd_other _ _ (by omega)).trans ?_); first | exact hf _ (by omega) | exact hfL8 _ (by omega) | exact hfL9 _ (by omega) | exact hfL6 _ (by omega) | exact hfL5 _ (by omega) | exact hfL4 _ (by omega) | exact hfL0 _ (by omega))) | refine sub_trans ?_ hsL0 | refine sub_trans ?_ hsL4 | refine sub_trans ?_ hsL5 | refine sub_trans ?_ hsL6 | refine sub_trans ?_ hsL9 | refine sub_trans ?_ hsL8 | refine sub_over (by assumption) | refine sub_over0 ?_ | refine sub_trans (sub_same (by assumption)) ?_ | refine sub_dropu ?_ | refine sub_drop ?_ | refine sub_put ?_ (by repeat (first | assumption | exact upd_same _ _ _ | refine (upd_other _ _ (by omega)).trans ?_ | refine hsL0 _ _ ?_ | refine hsL4 _ _ ?_ | refine hsL5 _ _ ?_ | refine hsL6 _ _ ?_ | refine hsL9 _ _ ?_ | refine hsL8 _ _ ?_))))) stays (fun hk => ⟨rfl, rfl, by omega⟩)

theorem ledgerPlays_C (ht : H 0 = some tabBlk) (l : List Ent) (A : Option Addr) (c : Nat) (hs : SLC H 65 A l.length c (ecs l)) (hl : l.length ≤ 9223372036854775807) (i : Int) (hi1 : -9223372036854775808 ≤ i) (hi2 : i ≤ 9223372036854775807) (hbad : ¬ (0 ≤ i ∧ i ≤ ((goods l).length : Int))) : ACalls Tryd.prog 1 5 [.slice A l.length c, .int .i64 i] H k (Same H k (.bool true)) := by
  refine ACalls.fresh fun hf => ?_
  refine ACalls.body Tryd.func5 rfl (Nat.le_of_ble_eq_true rfl) ?_
  have h0k := old_lt hf ht
  refine ACode.seq ?_
  refine ACode.region' [0] (by kernel_rfl) rfl ?_
  refine aOps_1 rfl rfl rfl (AOp.move' (.inr rfl) rfl ?_)
  refine aOps_end ?_
  show ACode _ _ _ _ _ _
  refine ACode.seq ?_
  refine ACode.seq ?_
  refine ACode.region' [0, 1, 2] (by kernel_rfl) rfl ?_
  refine aOps_1 rfl rfl rfl (AOp.move' (.inl rfl) rfl ?_)
  refine aOps_1 rfl rfl rfl (AOp.len' rfl rfl ?_)
  refine aOps_1 rfl rfl rfl (AOp.bin' rfl rfl rfl rfl ?_)
  refine aOps_end ?_
  show ACode _ _ _ _ _ _
  refine ACode.cond rfl (fun c0 => ?_) (fun c0 => ?_)
  · try simp only [decide_eq_true_eq, decide_eq_false_iff_not, beq_iff_eq, beq_eq_false_iff_ne, ne_eq, bne_iff_ne, Bool.not_eq_true', Bool.not_eq_false', Int.not_lt, Int.not_le, gt_iff_lt, ge_iff_le, bne_eq_false_iff_eq, Bool.not_eq_eq_eq_not, Bool.not_true, Bool.not_false] at c0
    refine ACode.seq ?_
    refine ACode.region' [0, 1] (by kernel_rfl) rfl ?_
    refine aOps_q rfl rfl rfl (AOp.call' rfl rfl rfl (awake21 _ _ (by repeat (first | assumption | exact upd_same _ _ _ | refine (upd_other _ _ (by omega)).trans ?_ | refine hsL4 _ _ ?_ | refine hsL5 _ _ ?_ | refine hsL6 _ _ ?_ | refine hsL9 _ _ ?_ | refine hsL8 _ _ ?_))) (fun _ _ _ h => h)) (fun kq hkq => ?_)
    refine aOps_1 rfl rfl rfl (AOp.move' (.inr rfl) rfl ?_)
    refine aOps_end ?_
    show ACode _ _ _ _ _ _
    refine ACode.ret ?_
    exact RetQ.one rfl rfl (by (repeat (first | exact sub_refl _ | assumption | refine sub_upd' ?_ (by ((repeat refine (upd_other _ _ (by omega)).trans ?_); first | exact hf _ (by omega) | exact hfL8 _ (by omega) | exact hfL9 _ (by omega) | exact hfL6 _ (by omega) | exact hfL5 _ (by omega) | exact hfL4 _ (by omega))) | refine sub_trans ?_ hsL4 | refine sub_trans ?_ hsL5 | refine sub_trans ?_ hsL6 | refine sub_trans ?_ hsL9 | refine sub_trans ?_ hsL8 | refine sub_over (by assumption) | refine sub_over0 ?_ | refine sub_trans (sub_same (by assumption)) ?_ | refine sub_dropu ?_ | refine sub_drop ?_ | refine sub_put ?_ (by repeat (first | assumption | exact upd_same _ _ _ | refine (upd_other _ _ (by omega)).trans ?_ | refine hsL4 _ _ ?_ | refine hsL5 _ _ ?_ | refine hsL6 _ _ ?_ | refine hsL9 _ _ ?_ | refine hsL8 _ _ ?_))))) stays (fun hk => ⟨rfl, rfl, by omega⟩)
  · try simp only [decide_eq_true_eq, decide_eq_false_iff_not, beq_iff_eq, beq_eq_false_iff_ne, ne_eq, bne_iff_ne, Bool.not_eq_true', Bool.not_eq_false', Int.not_lt, Int.not_le, gt_iff_lt, ge_iff_le, bne_eq_false_iff_eq, Bool.not_eq_eq_eq_not, Bool.not_true, Bool.not_false] at c0
    refine ACode.skip ?_
    show ACode _ _ _ _ _ _
    refine ACode.seq ?_
    refine ACode.region' [0, 1] (by kernel_rfl) rfl ?_
    refine aOps_1 rfl rfl rfl ?_
    refine AOp.call' rfl rfl rfl (new_l _ _) ?_
    rintro _ _ ka ⟨n, q, hna, hnq, hqa, rfl, rfl⟩
    have hG0 := LG.new (X := H) hnq
    refine aOps_1 rfl rfl rfl (AOp.move' (.inr rfl) rfl ?_)
    refine aOps_end ?_
    show ACode _ _ _ _ _ _
    refine ACode.seq ?_
    refine ACode.region' [0] (by kernel_rfl) rfl ?_
    refine aOps_1 rfl rfl rfl (AOp.move' (.inr rfl) rfl ?_)
    refine aOps_end ?_
    show ACode _ _ _ _ _ _
    refine ACode.seq ?_
    refine ACode.seq ?_
    refine ACode.adopt (t := 6) 38 65 (by decide) rfl ?_
    refine ACode.region' [0] (by kernel_rfl) rfl ?_
    refine aOps_1 rfl rfl rfl (AOp.move' (.inr rfl) rfl ?_)
    refine aOps_end ?_
    show ACode _ _ _ _ _ _
    refine ACode.block ?_
    refine ACode.countG (γ := Hp × List Value) (fun i g => [(7, .int .i64 (i : Int)), (6, .slice (some ⟨ka, 0, some 1⟩) (goods (l.take i)).length (goods (l.take i)).length)]) [(0, _), (1, _), (5, _), (20, _), (21, _), (22, _), (24, _)] (fun i g => upd g.1 ka (some (xblk (goods (l.take i))))) (l.length) (fun i g => Ab.Sub H g.1 ∧ LG g.1 n q (goods (l.take i)) g.2 ∧ g.1 ka = none) ((upd (upd H q (some (kblk T74 [] []))) n (some (lblk TL q 0)), [])) (.cons rfl (.cons rfl .nil)) (.cons rfl (.cons rfl (.cons rfl (.cons rfl (.cons rfl (.cons rfl (.cons rfl .nil))))))) (by (repeat (first | exact sub_refl _ | assumption | refine sub_upd' ?_ (by ((repeat refine (upd_other _ _ (by omega)).trans ?_); first | exact hf _ (by omega) | exact hfL8 _ (by omega) | exact hfL9 _ (by omega) | exact hfL6 _ (by omega) | exact hfL5 _ (by omega) | exact hfL4 _ (by omega))) | refine sub_trans ?_ hsL4 | refine sub_trans ?_ hsL5 | refine sub_trans ?_ hsL6 | refine sub_trans ?_ hsL9 | refine sub_trans ?_ hsL8 | refine sub_over (by assumption) | refine sub_over0 ?_ | refine sub_trans (sub_same (by assumption)) ?_ | refine sub_dropu ?_ | refine sub_drop ?_ | refine sub_put ?_ (by repeat (first | assumption | exact upd_same _ _ _ | refine (upd_other _ _ (by omega)).trans ?_ | refine hsL4 _ _ ?_ | refine hsL5 _ _ ?_ | refine hsL6 _ _ ?_ | refine hsL9 _ _ ?_ | refine hsL8 _ _ ?_))))) ⟨sub_upf hf hna (sub_upf hf (by omega) (sub_refl _)), hG0, (upd_other _ _ (by omega)).trans ((upd_other _ _ (by omega)).trans (hf ka (by omega)))⟩ (fun i0 g0 kL0 HL0 hiL0 hkL0 hsL0 hfL0 hxL0 => ?_)
    show ACode _ _ _ _ _ ⟨_, _, _⟩
    obtain ⟨hx1, hx2, hx3⟩ := hxL0
    have htg := hx1 _ _ ht
    have hXH : Ab.Sub g0.1 HL0 := sub_trans (sub_upd' (sub_refl _) hx3) hsL0
    have hH : Ab.Sub H HL0 := sub_trans hx1 hXH
    refine ACode.seq ?_
    refine ACode.seq ?_
    refine ACode.region' [0, 1, 2, 3] (by kernel_rfl) rfl ?_
    refine aOps_1 rfl rfl rfl (AOp.move' (.inl rfl) rfl ?_)
    refine aOps_1 rfl rfl rfl (AOp.move' (.inl rfl) rfl ?_)
    refine aOps_1 rfl rfl rfl (AOp.len' rfl rfl ?_)
    refine aOps_1 rfl rfl rfl (AOp.bin' rfl rfl rfl rfl ?_)
    refine aOps_end ?_
    show ACode _ _ _ _ _ _
    refine ACode.cond rfl (fun c1 => ?_) (fun c1 => ?_)
    · try simp only [decide_eq_true_eq, decide_eq_false_iff_not, beq_iff_eq, beq_eq_false_iff_ne, ne_eq, bne_iff_ne, Bool.not_eq_true', Bool.not_eq_false', Int.not_lt, Int.not_le, gt_iff_lt, ge_iff_le, bne_eq_false_iff_eq, Bool.not_eq_eq_eq_not, Bool.not_true, Bool.not_false] at c1
      refine ACode.skip ?_
      show ACode _ _ _ _ _ _
      refine ACode.seq ?_
      refine ACode.block ?_
      refine ACode.seq ?_
      obtain ⟨n8_2, o8_2, s8_2, hq8_2, hp8_2⟩ := SLC.elE (hs.sub hH) (show i0 < l.length by omega)
      obtain ⟨n8_9, o8_9, s8_9, hq8_9, hp8_9⟩ := SLC.elE (hs.sub hH) (show i0 < l.length by omega)
      refine ACode.region' [0, 1, 2, 3, 4, 5, 6, 7, 8, 9, 10, 11, 12, 13, 14] (by kernel_rfl) rfl ?_
      refine aOps_1 rfl rfl rfl (AOp.move' (.inl rfl) rfl ?_)
      refine aOps_1 rfl rfl rfl (AOp.move' (.inl rfl) rfl ?_)
      refine aOps_1 rfl rfl rfl (AOp.indexP (aslcAt_sub (by (repeat (first | exact sub_refl _ | assumption | refine sub_upd' ?_ (by ((repeat refine (upd_other _ _ (by omega)).trans ?_); first | exact hf _ (by omega) | exact hfL8 _ (by omega) | exact hfL9 _ (by omega) | exact hfL6 _ (by omega) | exact hfL5 _ (by omega) | exact hfL4 _ (by omega) | exact hfL0 _ (by omega))) | refine sub_trans ?_ hsL0 | refine sub_trans ?_ hsL4 | refine sub_trans ?_ hsL5 | refine sub_trans ?_ hsL6 | refine sub_trans ?_ hsL9 | refine sub_trans ?_ hsL8 | refine sub_over (by assumption) | refine sub_over0 ?_ | refine sub_trans (sub_same (by assumption)) ?_ | refine sub_dropu ?_ | refine sub_drop ?_ | refine sub_put ?_ (by repeat (first | assumption | exact upd_same _ _ _ | refine (upd_other _ _ (by omega)).trans ?_ | refine hsL0 _ _ ?_ | refine hsL4 _ _ ?_ | refine hsL5 _ _ ?_ | refine hsL6 _ _ ?_ | refine hsL9 _ _ ?_ | refine hsL8 _ _ ?_))))) hq8_2) rfl rfl rfl ?_)
      refine aOps_1 rfl rfl rfl (AOp.fieldP (hp8_2.sub (by (repeat (first | exact sub_refl _ | assumption | refine sub_upd' ?_ (by ((repeat refine (upd_other _ _ (by omega)).trans ?_); first | exact hf _ (by omega) | exact hfL8 _ (by omega) | exact hfL9 _ (by omega) | exact hfL6 _ (by omega) | exact hfL5 _ (by omega) | exact hfL4 _ (by omega) | exact hfL0 _ (by omega))) | refine sub_trans ?_ hsL0 | refine sub_trans ?_ hsL4 | refine sub_trans ?_ hsL5 | refine sub_trans ?_ hsL6 | refine sub_trans ?_ hsL9 | refine sub_trans ?_ hsL8 | refine sub_over (by assumption) | refine sub_over0 ?_ | refine sub_trans (sub_same (by assumption)) ?_ | refine sub_dropu ?_ | refine sub_drop ?_ | refine sub_put ?_ (by repeat (first | assumption | exact upd_same _ _ _ | refine (upd_other _ _ (by omega)).trans ?_ | refine hsL0 _ _ ?_ | refine hsL4 _ _ ?_ | refine hsL5 _ _ ?_ | refine hsL6 _ _ ?_ | refine hsL9 _ _ ?_ | refine hsL8 _ _ ?_)))))) rfl (by decide) (by rw [entc_len]; decide) rfl ?_)
      refine aOps_1 rfl rfl rfl (AOp.loadP1 (hp8_2.sub (by (repeat (first | exact sub_refl _ | assumption | refine sub_upd' ?_ (by ((repeat refine (upd_other _ _ (by omega)).trans ?_); first | exact hf _ (by omega) | exact hfL8 _ (by omega) | exact hfL9 _ (by omega) | exact hfL6 _ (by omega) | exact hfL5 _ (by omega) | exact hfL4 _ (by omega) | exact hfL0 _ (by omega))) | refine sub_trans ?_ hsL0 | refine sub_trans ?_ hsL4 | refine sub_trans ?_ hsL5 | refine sub_trans ?_ hsL6 | refine sub_trans ?_ hsL9 | refine sub_trans ?_ hsL8 | refine sub_over (by assumption) | refine sub_over0 ?_ | refine sub_trans (sub_same (by assumption)) ?_ | refine sub_dropu ?_ | refine sub_drop ?_ | refine sub_put ?_ (by repeat (first | assumption | exact upd_same _ _ _ | refine (upd_other _ _ (by omega)).trans ?_ | refine hsL0 _ _ ?_ | refine hsL4 _ _ ?_ | refine hsL5 _ _ ?_ | refine hsL6 _ _ ?_ | refine hsL9 _ _ ?_ | refine hsL8 _ _ ?_)))))) rfl rfl (entc_g _) ?_)
      refine aOps_1 rfl rfl rfl (AOp.bin' rfl rfl rfl rfl ?_)
      refine aOps_1 rfl rfl rfl (AOp.move' (.inl rfl) rfl ?_)
      refine aOps_gd0 rfl rfl (wantT rfl rfl rfl) (fun hc => AOp.slots [(0, _)] (.cons rfl .nil) (AOp.move' (.inl rfl) rfl ⟨rfl, rfl, rfl⟩)) ?_
      refine aOps_gd0 rfl rfl (wantT rfl rfl rfl) (fun hc => AOp.slots [(7, _)] (.cons rfl .nil) (AOp.move' (.inl rfl) rfl ⟨rfl, rfl, rfl⟩)) ?_
      refine aOps_gd0 rfl rfl (wantT rfl rfl rfl) (fun hc => AOp.slots [(38, _), (39, _)] (.cons (gvT rfl hc) (.cons (gvT rfl hc) .nil)) (AOp.indexP (aslcAt_sub (by (repeat (first | exact sub_refl _ | assumption | refine sub_upd' ?_ (by ((repeat refine (upd_other _ _ (by omega)).trans ?_); first | exact hf _ (by omega) | exact hfL8 _ (by omega) | exact hfL9 _ (by omega) | exact hfL6 _ (by omega) | exact hfL5 _ (by omega) | exact hfL4 _ (by omega) | exact hfL0 _ (by omega))) | refine sub_trans ?_ hsL0 | refine sub_trans ?_ hsL4 | refine sub_trans ?_ hsL5 | refine sub_trans ?_ hsL6 | refine sub_trans ?_ hsL9 | refine sub_trans ?_ hsL8 | refine sub_over (by assumption) | refine sub_over0 ?_ | refine sub_trans (sub_same (by assumption)) ?_ | refine sub_dropu ?_ | refine sub_drop ?_ | refine sub_put ?_ (by repeat (first | assumption | exact upd_same _ _ _ | refine (upd_other _ _ (by omega)).trans ?_ | refine hsL0 _ _ ?_ | refine hsL4 _ _ ?_ | refine hsL5 _ _ ?_ | refine hsL6 _ _ ?_ | refine hsL9 _ _ ?_ | refine hsL8 _ _ ?_))))) hq8_9) rfl rfl rfl ⟨rfl, rfl, rfl⟩)) ?_
      refine aOps_gd0 rfl rfl (wantT rfl rfl rfl) (fun hc => AOp.slots [(40, _)] (.cons (gvT rfl hc) .nil) (AOp.fieldP (hp8_9.sub (by (repeat (first | exact sub_refl _ | assumption | refine sub_upd' ?_ (by ((repeat refine (upd_other _ _ (by omega)).trans ?_); first | exact hf _ (by omega) | exact hfL8 _ (by omega) | exact hfL9 _ (by omega) | exact hfL6 _ (by omega) | exact hfL5 _ (by omega) | exact hfL4 _ (by omega) | exact hfL0 _ (by omega))) | refine sub_trans ?_ hsL0 | refine sub_trans ?_ hsL4 | refine sub_trans ?_ hsL5 | refine sub_trans ?_ hsL6 | refine sub_trans ?_ hsL9 | refine sub_trans ?_ hsL8 | refine sub_over (by assumption) | refine sub_over0 ?_ | refine sub_trans (sub_same (by assumption)) ?_ | refine sub_dropu ?_ | refine sub_drop ?_ | refine sub_put ?_ (by repeat (first | assumption | exact upd_same _ _ _ | refine (upd_other _ _ (by omega)).trans ?_ | refine hsL0 _ _ ?_ | refine hsL4 _ _ ?_ | refine hsL5 _ _ ?_ | refine hsL6 _ _ ?_ | refine hsL9 _ _ ?_ | refine hsL8 _ _ ?_)))))) rfl (by decide) (by rw [entc_len]; decide) rfl ⟨rfl, rfl, rfl⟩)) ?_
      refine aOps_gd0 rfl rfl (wantT rfl rfl rfl) (fun hc => AOp.slots [(41, _)] (.cons (gvT rfl hc) .nil) (AOp.loadP1 (hp8_9.sub (by (repeat (first | exact sub_refl _ | assumption | refine sub_upd' ?_ (by ((repeat refine (upd_other _ _ (by omega)).trans ?_); first | exact hf _ (by omega) | exact hfL8 _ (by omega) | exact hfL9 _ (by omega) | exact hfL6 _ (by omega) | exact hfL5 _ (by omega) | exact hfL4 _ (by omega) | exact hfL0 _ (by omega))) | refine sub_trans ?_ hsL0 | refine sub_trans ?_ hsL4 | refine sub_trans ?_ hsL5 | refine sub_trans ?_ hsL6 | refine sub_trans ?_ hsL9 | refine sub_trans ?_ hsL8 | refine sub_over (by assumption) | refine sub_over0 ?_ | refine sub_trans (sub_same (by assumption)) ?_ | refine sub_dropu ?_ | refine sub_drop ?_ | refine sub_put ?_ (by repeat (first | assumption | exact upd_same _ _ _ | refine (upd_other _ _ (by omega)).trans ?_ | refine hsL0 _ _ ?_ | refine hsL4 _ _ ?_ | refine hsL5 _ _ ?_ | refine hsL6 _ _ ?_ | refine hsL9 _ _ ?_ | refine hsL8 _ _ ?_)))))) rfl rfl (entc_g _) ⟨rfl, rfl, rfl⟩)) ?_
      refine aOps_gd0 rfl rfl (wantT rfl rfl rfl) (fun hc => AOp.slots [(42, _)] (.cons (gvT rfl hc) .nil) (AOp.bin' rfl rfl rfl rfl ⟨rfl, rfl, rfl⟩)) ?_
      refine aOps_1 rfl rfl rfl (AOp.pickAnd rfl rfl rfl (fun hb => gvE rfl hb) ?_)
      rw [show (decide ((l.getD i0 eD).g ≥ 0) && decide ((l.getD i0 eD).g ≤ 1048576)) = good (l.getD i0 eD) from rfl]
      refine aOps_1 rfl rfl rfl (AOp.move' (.inr rfl) rfl ?_)
      refine aOps_end ?_
      show ACode _ _ _ _ _ _
      refine ACode.seq ?_
      refine ACode.seq ?_
      obtain ⟨n9_3, o9_3, s9_3, hq9_3, hp9_3⟩ := SLC.elE (hs.sub hH) (show i0 < l.length by omega)
      refine ACode.region' [0, 1, 2, 3, 4, 5, 6] (by kernel_rfl) rfl ?_
      refine aOps_1 rfl rfl rfl (AOp.move' (.inl rfl) rfl ?_)
      refine aOps_1 rfl rfl rfl (AOp.move' (.inl rfl) rfl ?_)
      refine aOps_1 rfl rfl rfl (AOp.move' (.inl rfl) rfl ?_)
      refine aOps_1 rfl rfl rfl (AOp.indexP (aslcAt_sub (by (repeat (first | exact sub_refl _ | assumption | refine sub_upd' ?_ (by ((repeat refine (upd_other _ _ (by omega)).trans ?_); first | exact hf _ (by omega) | exact hfL8 _ (by omega) | exact hfL9 _ (by omega) | exact hfL6 _ (by omega) | exact hfL5 _ (by omega) | exact hfL4 _ (by omega) | exact hfL0 _ (by omega))) | refine sub_trans ?_ hsL0 | refine sub_trans ?_ hsL4 | refine sub_trans ?_ hsL5 | refine sub_trans ?_ hsL6 | refine sub_trans ?_ hsL9 | refine sub_trans ?_ hsL8 | refine sub_over (by assumption) | refine sub_over0 ?_ | refine sub_trans (sub_same (by assumption)) ?_ | refine sub_dropu ?_ | refine sub_drop ?_ | refine sub_put ?_ (by repeat (first | assumption | exact upd_same _ _ _ | refine (upd_other _ _ (by omega)).trans ?_ | refine hsL0 _ _ ?_ | refine hsL4 _ _ ?_ | refine hsL5 _ _ ?_ | refine hsL6 _ _ ?_ | refine hsL9 _ _ ?_ | refine hsL8 _ _ ?_))))) hq9_3) rfl rfl rfl ?_)
      refine aOps_1 rfl rfl rfl (AOp.loadPA (v := entv (l.getD i0 eD)) (hp9_3.sub (by (repeat (first | exact sub_refl _ | assumption | refine sub_upd' ?_ (by ((repeat refine (upd_other _ _ (by omega)).trans ?_); first | exact hf _ (by omega) | exact hfL8 _ (by omega) | exact hfL9 _ (by omega) | exact hfL6 _ (by omega) | exact hfL5 _ (by omega) | exact hfL4 _ (by omega) | exact hfL0 _ (by omega))) | refine sub_trans ?_ hsL0 | refine sub_trans ?_ hsL4 | refine sub_trans ?_ hsL5 | refine sub_trans ?_ hsL6 | refine sub_trans ?_ hsL9 | refine sub_trans ?_ hsL8 | refine sub_over (by assumption) | refine sub_over0 ?_ | refine sub_trans (sub_same (by assumption)) ?_ | refine sub_dropu ?_ | refine sub_drop ?_ | refine sub_put ?_ (by repeat (first | assumption | exact upd_same _ _ _ | refine (upd_other _ _ (by omega)).trans ?_ | refine hsL0 _ _ ?_ | refine hsL4 _ _ ?_ | refine hsL5 _ _ ?_ | refine hsL6 _ _ ?_ | refine hsL9 _ _ ?_ | refine hsL8 _ _ ?_)))))) rfl rfl rfl rfl (by first | rfl | exact hv_size _ | exact hcs_one _ | exact (aw_size _).trans rfl | exact one_wv _ | exact one_bv _ | exact entv_size _ | exact entc_one _ | (simp; done)) (by decide) ?_)
      refine aOps_1 rfl rfl rfl ?_
      refine AOp.call' rfl rfl rfl (add_any2 _ _ (l.getD i0 eD) n q (goods (l.take i0)) g0.2 g0.1 (by (repeat (first | exact sub_refl _ | assumption | refine sub_upd' ?_ (by ((repeat refine (upd_other _ _ (by omega)).trans ?_); first | exact hf _ (by omega) | exact hfL8 _ (by omega) | exact hfL9 _ (by omega) | exact hfL6 _ (by omega) | exact hfL5 _ (by omega) | exact hfL4 _ (by omega) | exact hfL0 _ (by omega))) | refine sub_trans ?_ hsL0 | refine sub_trans ?_ hsL4 | refine sub_trans ?_ hsL5 | refine sub_trans ?_ hsL6 | refine sub_trans ?_ hsL9 | refine sub_trans ?_ hsL8 | refine sub_over (by assumption) | refine sub_over0 ?_ | refine sub_trans (sub_same (by assumption)) ?_ | refine sub_dropu ?_ | refine sub_drop ?_ | refine sub_put ?_ (by repeat (first | assumption | exact upd_same _ _ _ | refine (upd_other _ _ (by omega)).trans ?_ | refine hsL0 _ _ ?_ | refine hsL4 _ _ ?_ | refine hsL5 _ _ ?_ | refine hsL6 _ _ ?_ | refine hsL9 _ _ ?_ | refine hsL8 _ _ ?_))))) hx2 (by have h1 := goods_le (l.take i0); rw [List.length_take] at h1; omega)) ?_
      rintro _ H1 kb ⟨hkb, rfl, hfL7, hsL7, X1, vs1, hG1, hX1, hX01, hX1n⟩
      have hH1 : Ab.Sub H H1 := sub_trans (sub_cut (sub_cut hH (hf q (by omega))) (hf n (by omega))) hsL7
      have hHX1 : Ab.Sub H X1 := sub_trans (sub_cut (sub_cut hx1 (hf q (by omega))) (hf n (by omega))) hX01
      have hka1 : H1 ka = some (xblk (goods (l.take i0))) := hsL7 _ _ ((upd_other _ _ (by omega)).trans ((upd_other _ _ (by omega)).trans (hsL0 _ _ (upd_same _ _ _))))
      have hX1k : X1 ka = none := hX1n ka (by omega) hx3
      rw [← goods_take (by omega)] at hG1
      refine aOps_1 rfl rfl rfl (AOp.move' (.inr rfl) rfl ?_)
      refine aOps_end ?_
      show ACode _ _ _ _ _ _
      refine ACode.seq ?_
      refine ACode.region' [0, 1, 2, 3, 4, 5, 6, 7, 8, 9, 10, 11] (by kernel_rfl) rfl ?_
      refine aOps_1 rfl rfl rfl (AOp.move' (.inl rfl) rfl ?_)
      refine aOps_1 rfl rfl rfl (AOp.bin' rfl rfl rfl rfl ?_)
      rw [show ((if good (l.getD i0 eD) = true then (0 : Int) else 1) == 0) = good (l.getD i0 eD) by cases good (l.getD i0 eD) <;> rfl]
      refine aOps_1 rfl rfl rfl (AOp.move' (.inl rfl) rfl ?_)
      refine aOps_1 rfl rfl rfl (AOp.neBool rfl rfl rfl ?_)
      rw [show (!(good (l.getD i0 eD) == good (l.getD i0 eD))) = false by cases good (l.getD i0 eD) <;> rfl]
      refine aOps_1 rfl rfl rfl (AOp.move' (.inl rfl) rfl ?_)
      refine aOps_gd0 rfl rfl (wantF rfl rfl rfl) (fun hc => AOp.slots [(8, _)] (.cons rfl .nil) (AOp.move' (.inl rfl) rfl ⟨rfl, rfl, rfl⟩)) ?_
      refine aOps_gd0 rfl rfl (wantF rfl rfl rfl) (fun hc => AOp.slots [(56, _)] (.cons (gvT rfl hc) .nil) (AOp.un' rfl rfl rfl ⟨rfl, rfl, rfl⟩)) ?_
      refine aOps_gd0 rfl rfl (wantF rfl rfl rfl) (fun hc => AOp.slots [(57, _)] (.cons (gvT rfl hc) .nil) (AOp.move' (.inl rfl) rfl ⟨rfl, rfl, rfl⟩)) ?_
      refine aOps_gd0 rfl rfl (wantGT rfl rfl rfl) (fun hc => AOp.slots [(9, _)] (.cons rfl .nil) (AOp.move' (.inl rfl) rfl ⟨rfl, rfl, rfl⟩)) ?_
      refine aOps_gd0 rfl rfl (wantGT rfl rfl rfl) (fun hc => AOp.slots [(59, _)] (.cons (gvT rfl hc) .nil) (AOp.bin' rfl rfl rfl rfl ⟨rfl, rfl, rfl⟩)) ?_
      refine aOps_gd0 rfl rfl (wantF rfl rfl rfl) (fun hc => AOp.pickAnd rfl rfl (gvE rfl hc) (fun hb => gvE rfl (and_mk hc hb)) ⟨rfl, rfl, rfl⟩) ?_
      refine aOps_1 rfl rfl rfl (AOp.pickOr rfl rfl rfl (fun hb => gvE rfl (t_not hb)) ?_)
      refine aOps_end ?_
      show ACode _ _ _ _ _ _
      refine ACode.cond rfl (fun c2 => absurd c2 (by cases h : good (l.getD i0 eD) <;> simp)) (fun c2 => ?_)
      refine ACode.skip ?_
      show ACode _ _ _ _ _ _
      refine ACode.seq ?_
      refine ACode.region' [0] (by kernel_rfl) rfl ?_
      refine aOps_1 rfl rfl rfl (AOp.move' (.inl rfl) rfl ?_)
      refine aOps_end ?_
      show ACode _ _ _ _ _ _
      refine ACode.cond rfl (fun c3 => ?_) (fun c3 => ?_)
      · try simp only [decide_eq_true_eq, decide_eq_false_iff_not, beq_iff_eq, beq_eq_false_iff_ne, ne_eq, bne_iff_ne, Bool.not_eq_true', Bool.not_eq_false', Int.not_lt, Int.not_le, gt_iff_lt, ge_iff_le, bne_eq_false_iff_eq, Bool.not_eq_eq_eq_not, Bool.not_true, Bool.not_false] at c3
        have hgt : goods (l.take (i0 + 1)) = (goods (l.take i0)) ++ [(l.getD i0 eD)] := by rw [goods_take (by omega), goodL_yes c3]
        have hgl := goods_le (l.take i0)
        rw [List.length_take] at hgl
        obtain ⟨n13_3, o13_3, s13_3, hq13_3, hp13_3⟩ := SLC.elE (hs.sub hH1) (show i0 < l.length by omega)
        refine ACode.region' [0, 1, 2, 3, 4, 5, 6, 7] (by kernel_rfl) rfl ?_
        refine aOps_1 rfl rfl rfl (AOp.move' (.inl rfl) rfl ?_)
        refine aOps_1 rfl rfl rfl (AOp.move' (.inl rfl) rfl ?_)
        refine aOps_1 rfl rfl rfl (AOp.move' (.inl rfl) rfl ?_)
        refine aOps_1 rfl rfl rfl (AOp.indexP (aslcAt_sub (by (repeat (first | exact sub_refl _ | assumption | refine sub_upd' ?_ (by ((repeat refine (upd_other _ _ (by omega)).trans ?_); first | exact hf _ (by omega) | exact hfL8 _ (by omega) | exact hfL9 _ (by omega) | exact hfL6 _ (by omega) | exact hfL5 _ (by omega) | exact hfL4 _ (by omega) | exact hfL0 _ (by omega))) | refine sub_trans ?_ hsL0 | refine sub_trans ?_ hsL4 | refine sub_trans ?_ hsL5 | refine sub_trans ?_ hsL6 | refine sub_trans ?_ hsL9 | refine sub_trans ?_ hsL8 | refine sub_over (by assumption) | refine sub_over0 ?_ | refine sub_trans (sub_same (by assumption)) ?_ | refine sub_dropu ?_ | refine sub_drop ?_ | refine sub_put ?_ (by repeat (first | assumption | exact upd_same _ _ _ | refine (upd_other _ _ (by omega)).trans ?_ | refine hsL0 _ _ ?_ | refine hsL4 _ _ ?_ | refine hsL5 _ _ ?_ | refine hsL6 _ _ ?_ | refine hsL9 _ _ ?_ | refine hsL8 _ _ ?_))))) hq13_3) rfl rfl rfl ?_)
        refine aOps_1 rfl rfl rfl (AOp.loadPA (v := entv (l.getD i0 eD)) (hp13_3.sub (by (repeat (first | exact sub_refl _ | assumption | refine sub_upd' ?_ (by ((repeat refine (upd_other _ _ (by omega)).trans ?_); first | exact hf _ (by omega) | exact hfL8 _ (by omega) | exact hfL9 _ (by omega) | exact hfL6 _ (by omega) | exact hfL5 _ (by omega) | exact hfL4 _ (by omega) | exact hfL0 _ (by omega))) | refine sub_trans ?_ hsL0 | refine sub_trans ?_ hsL4 | refine sub_trans ?_ hsL5 | refine sub_trans ?_ hsL6 | refine sub_trans ?_ hsL9 | refine sub_trans ?_ hsL8 | refine sub_over (by assumption) | refine sub_over0 ?_ | refine sub_trans (sub_same (by assumption)) ?_ | refine sub_dropu ?_ | refine sub_drop ?_ | refine sub_put ?_ (by repeat (first | assumption | exact upd_same _ _ _ | refine (upd_other _ _ (by omega)).trans ?_ | refine hsL0 _ _ ?_ | refine hsL4 _ _ ?_ | refine hsL5 _ _ ?_ | refine hsL6 _ _ ?_ | refine hsL9 _ _ ?_ | refine hsL8 _ _ ?_)))))) rfl rfl rfl rfl (by first | rfl | exact hv_size _ | exact hcs_one _ | exact (aw_size _).trans rfl | exact one_wv _ | exact one_bv _ | exact entv_size _ | exact entc_one _ | (simp; done)) (by decide) ?_)
        refine aOps_1 rfl rfl rfl (AOp.buildH (entc (l.getD i0 eD)) rfl (entc_len _) (by decide) (by decide) rfl rfl ?_)
        refine aOps_1 rfl rfl rfl (AOp.append' (b := xblk (goods (l.take i0))) (m := 1) (news := entc (l.getD i0 eD)) rfl rfl rfl (by repeat (first | assumption | exact upd_same _ _ _ | refine (upd_other _ _ (by omega)).trans ?_ | refine hsL0 _ _ ?_ | refine hsL4 _ _ ?_ | refine hsL5 _ _ ?_ | refine hsL6 _ _ ?_ | refine hsL9 _ _ ?_ | refine hsL8 _ _ ?_)) (srcOf_grow (b := { cells := entc (l.getD i0 eD), elem := 38, kind := .grow, esz := 65 }) (by repeat (first | assumption | exact upd_same _ _ _ | refine (upd_other _ _ (by omega)).trans ?_ | refine hsL0 _ _ ?_ | refine hsL4 _ _ ?_ | refine hsL5 _ _ ?_ | refine hsL6 _ _ ?_ | refine hsL9 _ _ ?_ | refine hsL8 _ _ ?_)) rfl (by rw [entc_len]; rfl)) rfl rfl rfl (by rw [ecs_len]) srcOk_sl (fun u hu => List.all_eq_true.1 (entc_one _) u hu) (by omega) (by omega) ?_)
        refine aOps_1 rfl rfl rfl (AOp.move' (.inr rfl) rfl ?_)
        refine aOps_end ?_
        show ACode _ _ _ _ _ _
        refine ACode.region' [0, 1, 2] (by kernel_rfl) rfl ?_
        refine aOps_1 rfl rfl rfl (AOp.move' (.inl rfl) rfl ?_)
        refine aOps_1 rfl rfl rfl (AOp.add rfl rfl rfl (i64_wrap (by omega) (by omega)) ?_)
        refine aOps_1 rfl rfl rfl (AOp.move' (.inr rfl) rfl ?_)
        refine aOps_end ?_
        first | refine thenA_n ?_ | simp only [thenA, blockA, if_true]
        exact NextG.mk (by omega) (by omega) ((X1, vs1)) (.cons rfl (.cons (show _ = some (Value.slice _ _ _) by rw [hgt, List.length_append]; rfl) .nil)) (.cons rfl (.cons rfl (.cons rfl (.cons rfl (.cons rfl (.cons rfl (.cons rfl .nil))))))) (by rw [show xblk (goods (l.take (i0 + 1))) = xblk ((goods (l.take i0)) ++ [(l.getD i0 eD)]) by rw [hgt]]; refine sub_over_eq (y := some (xblk (goods (l.take i0)))) (sub_put (sub_trans hX1 (sub_upd' (sub_refl _) (hfL7 _ (by omega)))) ((upd_other _ _ (by omega)).trans hka1)) (by show some (Blk.mk (ecs _) _ _ _) = _; rw [ecs_snoc])) ⟨hHX1, hG1, hX1k⟩
      · try simp only [decide_eq_true_eq, decide_eq_false_iff_not, beq_iff_eq, beq_eq_false_iff_ne, ne_eq, bne_iff_ne, Bool.not_eq_true', Bool.not_eq_false', Int.not_lt, Int.not_le, gt_iff_lt, ge_iff_le, bne_eq_false_iff_eq, Bool.not_eq_eq_eq_not, Bool.not_true, Bool.not_false] at c3
        have hgt : goods (l.take (i0 + 1)) = (goods (l.take i0)) := by rw [goods_take (by omega), goodL_no (by simpa using c3), List.append_nil]
        refine ACode.skip ?_
        show ACode _ _ _ _ _ _
        refine ACode.region' [0, 1, 2] (by kernel_rfl) rfl ?_
        refine aOps_1 rfl rfl rfl (AOp.move' (.inl rfl) rfl ?_)
        refine aOps_1 rfl rfl rfl (AOp.add rfl rfl rfl (i64_wrap (by omega) (by omega)) ?_)
        refine aOps_1 rfl rfl rfl (AOp.move' (.inr rfl) rfl ?_)
        refine aOps_end ?_
        first | refine thenA_n ?_ | simp only [thenA, blockA, if_true]
        exact NextG.mk (by omega) (by omega) ((X1, vs1)) (.cons rfl (.cons (show _ = some (Value.slice _ _ _) by rw [hgt]; rfl) .nil)) (.cons rfl (.cons rfl (.cons rfl (.cons rfl (.cons rfl (.cons rfl (.cons rfl .nil))))))) (by rw [hgt]; exact sub_put hX1 hka1) ⟨hHX1, hG1, hX1k⟩
    · try simp only [decide_eq_true_eq, decide_eq_false_iff_not, beq_iff_eq, beq_eq_false_iff_ne, ne_eq, bne_iff_ne, Bool.not_eq_true', Bool.not_eq_false', Int.not_lt, Int.not_le, gt_iff_lt, ge_iff_le, bne_eq_false_iff_eq, Bool.not_eq_eq_eq_not, Bool.not_true, Bool.not_false] at c1
      refine ACode.exit ?_
      show ACode _ _ _ _ _ _
      refine ACode.seq ?_
      have hi : i0 = l.length := by omega
      subst hi
      rw [List.take_length] at hx2 hsL0 ⊢
      obtain ⟨es, hes⟩ : ∃ es, es = goods l := ⟨_, rfl⟩
      rw [← hes] at hx2 hsL0 ⊢
      rw [← hes] at hbad
      have hG := hx2.sub (sub_trans (sub_upd' (sub_refl _) hx3) hsL0)
      have hel : es.length ≤ 20 := by have := goods_le l; rw [hes]; omega
      have hfl : (forms es).length = es.length := List.length_map _
      have hxk : HL0 ka = some (xblk es) := hsL0 _ _ (upd_same _ _ _)
      refine ACode.region' [0, 1, 2, 3, 4, 5, 6, 7, 8] (by kernel_rfl) rfl ?_
      refine aOps_1 rfl rfl rfl (AOp.move' (.inl rfl) rfl ?_)
      refine aOps_1 rfl rfl rfl (AOp.move' (.inl rfl) rfl ?_)
      refine aOps_q rfl rfl rfl (AOp.call' rfl rfl rfl (entry_out _ _ n q es g0.2 (hG.sub (by (repeat (first | exact sub_refl _ | assumption | refine sub_upd' ?_ (by ((repeat refine (upd_other _ _ (by omega)).trans ?_); first | exact hf _ (by omega) | exact hfL8 _ (by omega) | exact hfL9 _ (by omega) | exact hfL6 _ (by omega) | exact hfL5 _ (by omega) | exact hfL4 _ (by omega) | exact hfL0 _ (by omega))) | refine sub_trans ?_ hsL0 | refine sub_trans ?_ hsL4 | refine sub_trans ?_ hsL5 | refine sub_trans ?_ hsL6 | refine sub_trans ?_ hsL9 | refine sub_trans ?_ hsL8 | refine sub_over (by assumption) | refine sub_over0 ?_ | refine sub_trans (sub_same (by assumption)) ?_ | refine sub_dropu ?_ | refine sub_drop ?_ | refine sub_put ?_ (by repeat (first | assumption | exact upd_same _ _ _ | refine (upd_other _ _ (by omega)).trans ?_ | refine hsL0 _ _ ?_ | refine hsL4 _ _ ?_ | refine hsL5 _ _ ?_ | refine hsL6 _ _ ?_ | refine hsL9 _ _ ?_ | refine hsL8 _ _ ?_)))))) i (by omega) (by omega) (by omega)) (fun _ _ _ h => h)) (fun kq hkq => ?_)
      refine aOps_1 rfl rfl rfl (AOp.move' (.inl rfl) rfl ?_)
      refine aOps_1 rfl rfl rfl (AOp.extract' rfl rfl rfl ?_)
      refine aOps_1 rfl rfl rfl (AOp.extract' rfl rfl rfl ?_)
      refine aOps_1 rfl rfl rfl (AOp.alloc' rfl ?_)
      refine aOps_0 rfl rfl rfl ?_
      refine AOp.storeAll (b := ?b10) rfl rfl rfl ?hn10 ?hk10 rfl ?hw10 ?ho10 ?hl10 ?hR10
      (case hn10 => repeat (first | assumption | exact upd_same _ _ _ | refine (upd_other _ _ (by omega)).trans ?_ | refine hsL0 _ _ ?_ | refine hsL4 _ _ ?_ | refine hsL5 _ _ ?_ | refine hsL6 _ _ ?_ | refine hsL9 _ _ ?_ | refine hsL8 _ _ ?_))
      (case hk10 => rfl)
      (case hw10 => first | rfl | exact hv_size _ | exact hcs_one _ | exact (aw_size _).trans rfl | exact one_wv _ | exact one_bv _ | exact entv_size _ | exact entc_one _ | (simp; done))
      (case ho10 => first | rfl | exact hv_size _ | exact hcs_one _ | exact (aw_size _).trans rfl | exact one_wv _ | exact one_bv _ | exact entv_size _ | exact entc_one _ | decide | (simp; done))
      (case hl10 => first | rfl | exact hv_size _ | exact hcs_one _ | exact (aw_size _).trans rfl | exact one_wv _ | exact one_bv _ | exact entv_size _ | exact entc_one _ | (simp; done))
      refine aOps_1 rfl rfl rfl (AOp.move' (.inr rfl) rfl ?_)
      refine aOps_end ?_
      show ACode _ _ _ _ _ _
      refine ACode.seq ?_
      refine ACode.region' [0, 1, 2, 3, 4, 5, 6, 7] (by kernel_rfl) rfl ?_
      refine aOps_1 rfl rfl rfl (AOp.move' (.inl rfl) rfl ?_)
      refine aOps_1 rfl rfl rfl (AOp.move' (.inl rfl) rfl ?_)
      refine aOps_1 rfl rfl rfl ?_
      refine AOp.call' rfl rfl rfl (path_l _ _ (by repeat (first | assumption | exact upd_same _ _ _ | refine (upd_other _ _ (by omega)).trans ?_ | refine hsL0 _ _ ?_ | refine hsL4 _ _ ?_ | refine hsL5 _ _ ?_ | refine hsL6 _ _ ?_ | refine hsL9 _ _ ?_ | refine hsL8 _ _ ?_)) n q es g0.2 (hG.sub (by (repeat (first | exact sub_refl _ | assumption | refine sub_upd' ?_ (by ((repeat refine (upd_other _ _ (by omega)).trans ?_); first | exact hf _ (by omega) | exact hfL8 _ (by omega) | exact hfL9 _ (by omega) | exact hfL6 _ (by omega) | exact hfL5 _ (by omega) | exact hfL4 _ (by omega) | exact hfL0 _ (by omega))) | refine sub_trans ?_ hsL0 | refine sub_trans ?_ hsL4 | refine sub_trans ?_ hsL5 | refine sub_trans ?_ hsL6 | refine sub_trans ?_ hsL9 | refine sub_trans ?_ hsL8 | refine sub_over (by assumption) | refine sub_over0 ?_ | refine sub_trans (sub_same (by assumption)) ?_ | refine sub_dropu ?_ | refine sub_drop ?_ | refine sub_put ?_ (by repeat (first | assumption | exact upd_same _ _ _ | refine (upd_other _ _ (by omega)).trans ?_ | refine hsL0 _ _ ?_ | refine hsL4 _ _ ?_ | refine hsL5 _ _ ?_ | refine hsL6 _ _ ?_ | refine hsL9 _ _ ?_ | refine hsL8 _ _ ?_)))))) i (by omega) (by omega)) ?_
      rintro _ _ kp ⟨qp, hp1, hp2, rfl, rfl⟩
      rw [inZ_no (n := es.length) (i := i) (by omega), pathZ_bad (l := forms es) (i := i) (by omega)]
      refine aOps_1 rfl rfl rfl (AOp.move' (.inl rfl) rfl ?_)
      refine aOps_1 rfl rfl rfl (AOp.extract' rfl rfl rfl ?_)
      refine aOps_1 rfl rfl rfl (AOp.extract' rfl rfl rfl ?_)
      refine aOps_1 rfl rfl rfl (AOp.move' (.inr rfl) rfl ?_)
      refine aOps_1 rfl rfl rfl (AOp.move' (.inr rfl) rfl ?_)
      refine aOps_end ?_
      show ACode _ _ _ _ _ _
      refine ACode.seq ?_
      refine ACode.region' [0, 1, 2, 3, 4, 5, 6, 7, 8] (by kernel_rfl) rfl ?_
      refine aOps_1 rfl rfl rfl (AOp.move' (.inl rfl) rfl ?_)
      refine aOps_1 rfl rfl rfl (AOp.bin' rfl rfl rfl rfl ?_)
      refine aOps_1 rfl rfl rfl (AOp.move' (.inl rfl) rfl ?_)
      refine aOps_gd0 rfl rfl (wantT rfl rfl rfl) (fun hc => AOp.slots [(1, _)] (.cons rfl .nil) (AOp.move' (.inl rfl) rfl ⟨rfl, rfl, rfl⟩)) ?_
      refine aOps_gd0 rfl rfl (wantT rfl rfl rfl) (fun hc => AOp.slots [(6, _)] (.cons rfl .nil) (AOp.move' (.inl rfl) rfl ⟨rfl, rfl, rfl⟩)) ?_
      refine aOps_gd0 rfl rfl (wantT rfl rfl rfl) (fun hc => AOp.slots [(87, _)] (.cons (gvT rfl hc) .nil) (AOp.len' rfl rfl ⟨rfl, rfl, rfl⟩)) ?_
      refine aOps_gd0 rfl rfl (wantT rfl rfl rfl) (fun hc => AOp.slots [(86, _), (88, _)] (.cons (gvT rfl hc) (.cons (gvT rfl hc) .nil)) (AOp.bin' rfl rfl rfl rfl ⟨rfl, rfl, rfl⟩)) ?_
      refine aOps_1 rfl rfl rfl (AOp.pickAnd rfl rfl rfl (fun hb => gvE rfl hb) ?_)
      refine aOps_1 rfl rfl rfl (AOp.move' (.inr rfl) rfl ?_)
      refine aOps_end ?_
      show ACode _ _ _ _ _ _
      refine ACode.seq ?_
      refine ACode.seq ?_
      have g8 : (decide (i ≥ 0) && decide (i < (es.length : Int))) = false := by simp; omega
      rw [g8]
      refine ACode.draw' 42 [(0, 91), (1, 92), (2, 93), (3, 94), (4, 95), (5, 96), (6, 97), (7, 98), (8, 99), (9, 100), (10, 101), (11, 102), (12, 103), (13, 104), (14, 105), (15, 106), (16, 107), (17, 108), (18, 109), (19, 110), (20, 111), (21, 112), (22, 113), (23, 114), (24, 115), (25, 116), (26, 117), (27, 118), (28, 119), (29, 120), (30, 121), (31, 122), (32, 123), (33, 124), (34, 125), (35, 126), (36, 127), (37, 128), (38, 129), (39, 130), (40, 131), (41, 132)] mixed (by kernel_rfl) ?_
      refine Draw.step [(11, none)] rfl (by kernel_rfl) rfl (fun kq hkq => AOp.move' (.inl rfl) rfl ⟨rfl, rfl, Nat.le_refl _⟩) ?_
      refine Draw.step [(14, none)] rfl (by kernel_rfl) rfl (fun kq hkq => AOp.move' (.inl rfl) rfl ⟨rfl, rfl, Nat.le_refl _⟩) ?_
      refine Draw.step [(91, some 0), (92, some 1)] rfl (by kernel_rfl) rfl (fun kq hkq => AOp.neBool rfl rfl rfl ⟨rfl, rfl, Nat.le_refl _⟩) ?_
      refine Draw.step [(93, some 2)] rfl (by kernel_rfl) rfl (fun kq hkq => AOp.move' (.inl rfl) rfl ⟨rfl, rfl, Nat.le_refl _⟩) ?_
      refine Draw.gd [(13, none), (94, some 3)] rfl (by kernel_rfl) (wantF rfl rfl rfl) (fun kq hkq hc => AOp.slots [(13, _)] (.cons rfl .nil) (AOp.move' (.inl rfl) rfl ⟨rfl, rfl, Nat.le_refl _⟩)) ?_
      refine Draw.gd [(14, none), (94, some 3)] rfl (by kernel_rfl) (wantF rfl rfl rfl) (fun kq hkq hc => AOp.slots [(14, _)] (.cons rfl .nil) (AOp.move' (.inl rfl) rfl ⟨rfl, rfl, Nat.le_refl _⟩)) ?_
      refine Draw.gd [(95, some 4), (96, some 5), (94, some 3)] rfl (by kernel_rfl) (wantF rfl rfl rfl) (fun kq hkq hc => AOp.slots [(95, _), (96, _)] (.cons (gvT rfl hc) (.cons (gvT rfl hc) .nil)) (AOp.neBool rfl rfl rfl ⟨rfl, rfl, Nat.le_refl _⟩)) ?_
      refine Draw.step [(94, some 3), (97, some 6)] rfl (by kernel_rfl) rfl (fun kq hkq => AOp.pickOr rfl rfl rfl (fun hb => gvE rfl (t_not hb)) ⟨rfl, rfl, Nat.le_refl _⟩) ?_
      refine Draw.step [(98, some 7)] rfl (by kernel_rfl) rfl (fun kq hkq => AOp.move' (.inl rfl) rfl ⟨rfl, rfl, Nat.le_refl _⟩) ?_
      refine Draw.gd [(14, none), (99, some 8)] rfl (by kernel_rfl) (wantF rfl rfl rfl) (fun kq hkq hc => AOp.slots [(14, _)] (.cons rfl .nil) (AOp.move' (.inl rfl) rfl ⟨rfl, rfl, Nat.le_refl _⟩)) ?_
      refine Draw.gd [(100, some 9), (99, some 8)] rfl (by kernel_rfl) (wantF rfl rfl rfl) (fun kq hkq hc => AOp.slots [(100, _)] (.cons (gvT rfl hc) .nil) (AOp.move' (.inl rfl) rfl ⟨rfl, rfl, Nat.le_refl _⟩)) ?_
      refine Draw.gd [(10, none), (101, some 10)] rfl (by kernel_rfl) (wantGT rfl rfl rfl) (fun kq hkq hc => AOp.slots [(10, _)] (.cons rfl .nil) ((by refine AOp.loadAll (b := ?b11) (v := entv eD) rfl rfl ?hn11 ?hv11 ?hw11 ?hz11 ?hR11; (case hn11 => repeat (first | assumption | exact upd_same _ _ _ | refine (upd_other _ _ (by omega)).trans ?_ | refine hsL0 _ _ ?_ | refine hsL4 _ _ ?_ | refine hsL5 _ _ ?_ | refine hsL6 _ _ ?_ | refine hsL9 _ _ ?_ | refine hsL8 _ _ ?_)); (case hv11 => rfl); (case hw11 => rfl); (case hz11 => first | rfl | exact hv_size _ | exact hcs_one _ | exact (aw_size _).trans rfl | exact one_wv _ | exact one_bv _ | exact entv_size _ | exact entc_one _ | (simp; done)); exact ⟨rfl, rfl, Nat.le_refl _⟩))) ?_
      refine Draw.gd [(6, none), (101, some 10)] rfl (by kernel_rfl) (wantGT rfl rfl rfl) (fun kq hkq hc => AOp.slots [(6, _)] (.cons rfl .nil) (AOp.move' (.inl rfl) rfl ⟨rfl, rfl, Nat.le_refl _⟩)) ?_
      refine Draw.gd [(1, none), (101, some 10)] rfl (by kernel_rfl) (wantGT rfl rfl rfl) (fun kq hkq hc => AOp.slots [(1, _)] (.cons rfl .nil) (AOp.move' (.inl rfl) rfl ⟨rfl, rfl, Nat.le_refl _⟩)) ?_
      refine Draw.gd [(103, some 12), (104, some 13), (101, some 10)] rfl (by kernel_rfl) (wantGT rfl rfl rfl) (fun kq hkq hc => AOp.slots [(103, _), (104, _)] (.cons (gvT rfl hc) (.cons (gvT rfl hc) .nil)) ((False.elim (by simp at hc) : AOp _ _ _ _ fun v H1 k1 => v = Value.bool false ∧ H1 = _ ∧ _ ≤ k1))) ?_
      refine Draw.gd [(105, some 14), (101, some 10)] rfl (by kernel_rfl) (wantGT rfl rfl rfl) (fun kq hkq hc => AOp.slots [(105, _)] (.cons (gvT rfl hc) .nil) ((False.elim (by simp at hc) : AOp _ _ _ _ fun v H1 k1 => v = Value.bool false ∧ H1 = _ ∧ _ ≤ k1))) ?_
      refine Draw.gd [(102, some 11), (106, some 15), (101, some 10)] rfl (by kernel_rfl) (wantGT rfl rfl rfl) (fun kq hkq hc => AOp.slots [(102, _), (106, _)] (.cons (gvT rfl hc) (.cons (gvT rfl hc) .nil)) ((False.elim (by simp at hc) : AOp _ _ _ _ fun v H1 k1 => v = Value.bool false ∧ H1 = _ ∧ _ ≤ k1))) ?_
      refine Draw.gd [(107, some 16), (101, some 10)] rfl (by kernel_rfl) (wantGT rfl rfl rfl) (fun kq hkq hc => AOp.slots [(107, _)] (.cons (gvT rfl hc) .nil) (AOp.move' (.inl rfl) rfl ⟨rfl, rfl, Nat.le_refl _⟩)) ?_
      refine Draw.gd [(12, none), (108, some 17)] rfl (by kernel_rfl) (wantGF rfl rfl rfl) (fun kq hkq hc => AOp.slots [(12, _)] (.cons rfl .nil) (AOp.move' (.inl rfl) rfl ⟨rfl, rfl, Nat.le_refl _⟩)) ?_
      refine Draw.gd [(6, none), (108, some 17)] rfl (by kernel_rfl) (wantGF rfl rfl rfl) (fun kq hkq hc => AOp.slots [(6, _)] (.cons rfl .nil) (AOp.move' (.inl rfl) rfl ⟨rfl, rfl, Nat.le_refl _⟩)) ?_
      refine Draw.gd [(110, some 19), (108, some 17)] rfl (by kernel_rfl) (wantGF rfl rfl rfl) (fun kq hkq hc => AOp.slots [(110, _)] (.cons (gvT rfl hc) .nil) ((False.elim (by simp at hc) : AOp _ _ _ _ fun v H1 k1 => v = Value.bool false ∧ H1 = _ ∧ _ ≤ k1))) ?_
      refine Draw.gd [(1, none), (108, some 17)] rfl (by kernel_rfl) (wantGF rfl rfl rfl) (fun kq hkq hc => AOp.slots [(1, _)] (.cons rfl .nil) (AOp.move' (.inl rfl) rfl ⟨rfl, rfl, Nat.le_refl _⟩)) ?_
      refine Draw.gd [(111, some 20), (112, some 21), (108, some 17)] rfl (by kernel_rfl) (wantGF rfl rfl rfl) (fun kq hkq hc => AOp.slots [(111, _), (112, _)] (.cons (gvT rfl hc) (.cons (gvT rfl hc) .nil)) ((False.elim (by simp at hc) : AOp _ _ _ _ fun v H1 k1 => v = Value.bool false ∧ H1 = _ ∧ _ ≤ k1))) ?_
      refine Draw.gd [(109, some 18), (113, some 22), (108, some 17)] rfl (by kernel_rfl) (wantGF rfl rfl rfl) (fun kq hkq hc => AOp.slots [(109, _), (113, _)] (.cons (gvT rfl hc) (.cons (gvT rfl hc) .nil)) ((False.elim (by simp at hc) : AOp _ _ _ _ fun v H1 k1 => v = Value.bool false ∧ H1 = _ ∧ _ ≤ k1))) ?_
      refine Draw.gd [(114, some 23), (108, some 17)] rfl (by kernel_rfl) (wantGF rfl rfl rfl) (fun kq hkq hc => AOp.slots [(114, _)] (.cons (gvT rfl hc) .nil) (AOp.un' rfl rfl rfl ⟨rfl, rfl, Nat.le_refl _⟩)) ?_
      refine Draw.gd [(108, some 17), (115, some 24), (101, some 10)] rfl (by kernel_rfl) (wantGT rfl rfl rfl) (fun kq hkq hc => AOp.pickOr rfl rfl (gvE rfl hc) (fun hb => gvE rfl (and_mk hc (t_not hb))) ⟨rfl, rfl, Nat.le_refl _⟩) ?_
      refine Draw.gd [(101, some 10), (116, some 25), (99, some 8)] rfl (by kernel_rfl) (wantF rfl rfl rfl) (fun kq hkq hc => AOp.pickAnd rfl rfl (gvE rfl hc) (fun hb => gvE rfl (and_mk hc hb)) ⟨rfl, rfl, Nat.le_refl _⟩) ?_
      refine Draw.step [(99, some 8), (117, some 26)] rfl (by kernel_rfl) rfl (fun kq hkq => AOp.pickOr rfl rfl rfl (fun hb => gvE rfl (t_not hb)) ⟨rfl, rfl, Nat.le_refl _⟩) ?_
      refine Draw.step [(118, some 27)] rfl (by kernel_rfl) rfl (fun kq hkq => AOp.move' (.inl rfl) rfl ⟨rfl, rfl, Nat.le_refl _⟩) ?_
      refine Draw.gd [(14, none), (119, some 28)] rfl (by kernel_rfl) (wantF rfl rfl rfl) (fun kq hkq hc => AOp.slots [(14, _)] (.cons rfl .nil) (AOp.move' (.inl rfl) rfl ⟨rfl, rfl, Nat.le_refl _⟩)) ?_
      refine Draw.gd [(120, some 29), (119, some 28)] rfl (by kernel_rfl) (wantF rfl rfl rfl) (fun kq hkq hc => AOp.slots [(120, _)] (.cons (gvT rfl hc) .nil) (AOp.un' rfl rfl rfl ⟨rfl, rfl, Nat.le_refl _⟩)) ?_
      refine Draw.gd [(121, some 30), (119, some 28)] rfl (by kernel_rfl) (wantF rfl rfl rfl) (fun kq hkq hc => AOp.slots [(121, _)] (.cons (gvT rfl hc) .nil) (AOp.move' (.inl rfl) rfl ⟨rfl, rfl, Nat.le_refl _⟩)) ?_
      refine Draw.gd [(10, none), (122, some 31)] rfl (by kernel_rfl) (wantGT rfl rfl rfl) (fun kq hkq hc => AOp.slots [(10, _)] (.cons rfl .nil) ((by refine AOp.loadAll (b := ?b12) (v := entv eD) rfl rfl ?hn12 ?hv12 ?hw12 ?hz12 ?hR12; (case hn12 => repeat (first | assumption | exact upd_same _ _ _ | refine (upd_other _ _ (by omega)).trans ?_ | refine hsL0 _ _ ?_ | refine hsL4 _ _ ?_ | refine hsL5 _ _ ?_ | refine hsL6 _ _ ?_ | refine hsL9 _ _ ?_ | refine hsL8 _ _ ?_)); (case hv12 => rfl); (case hw12 => rfl); (case hz12 => first | rfl | exact hv_size _ | exact hcs_one _ | exact (aw_size _).trans rfl | exact one_wv _ | exact one_bv _ | exact entv_size _ | exact entc_one _ | (simp; done)); exact ⟨rfl, rfl, Nat.le_refl _⟩))) ?_
      refine Draw.gd [(122, some 31)] rfl (by kernel_rfl) (wantGT rfl rfl rfl) (fun kq hkq hc => AOp.slots [] .nil (AOp.buildS (cells := (entc eD).toArray) rfl rfl rfl ⟨rfl, rfl, Nat.le_refl _⟩)) ?_
      refine Draw.gd [(123, some 32), (124, some 33), (122, some 31)] rfl (by kernel_rfl) (wantGT rfl rfl rfl) (fun kq hkq hc => AOp.slots [(123, _), (124, _)] (.cons (gvT rfl hc) (.cons (gvT rfl hc) .nil)) (AOp.neAgg true rfl rfl rfl (entc_sc _ eD_ok) (entc_sc _ eD_ok) ⟨fun _ => rfl, fun _ => rfl⟩ ⟨rfl, rfl, Nat.le_refl _⟩)) ?_
      refine Draw.gd [(125, some 34), (122, some 31)] rfl (by kernel_rfl) (wantGT rfl rfl rfl) (fun kq hkq hc => AOp.slots [(125, _)] (.cons (gvT rfl hc) .nil) (AOp.move' (.inl rfl) rfl ⟨rfl, rfl, Nat.le_refl _⟩)) ?_
      refine Draw.gd [(12, none), (126, some 35)] rfl (by kernel_rfl) (wantGF rfl rfl rfl) (fun kq hkq hc => AOp.slots [(12, _)] (.cons rfl .nil) (AOp.move' (.inl rfl) rfl ⟨rfl, rfl, Nat.le_refl _⟩)) ?_
      refine Draw.gd [(127, some 36), (126, some 35)] rfl (by kernel_rfl) (wantGF rfl rfl rfl) (fun kq hkq hc => AOp.slots [(127, _)] (.cons (gvT rfl hc) .nil) (AOp.len' rfl rfl ⟨rfl, rfl, Nat.le_refl _⟩)) ?_
      refine Draw.gd [(128, some 37), (126, some 35)] rfl (by kernel_rfl) (wantGF rfl rfl rfl) (fun kq hkq hc => AOp.slots [(128, _)] (.cons (gvT rfl hc) .nil) (AOp.bin' rfl rfl rfl rfl ⟨rfl, rfl, Nat.le_refl _⟩)) ?_
      refine Draw.gd [(126, some 35), (129, some 38), (122, some 31)] rfl (by kernel_rfl) (wantGT rfl rfl rfl) (fun kq hkq hc => AOp.pickOr rfl rfl (gvE rfl hc) (fun hb => gvE rfl (and_mk hc (t_not hb))) ⟨rfl, rfl, Nat.le_refl _⟩) ?_
      refine Draw.gd [(122, some 31), (130, some 39), (119, some 28)] rfl (by kernel_rfl) (wantF rfl rfl rfl) (fun kq hkq hc => AOp.pickAnd rfl rfl (gvE rfl hc) (fun hb => gvE rfl (and_mk hc hb)) ⟨rfl, rfl, Nat.le_refl _⟩) ?_
      refine Draw.step [(119, some 28), (131, some 40)] rfl (by kernel_rfl) rfl (fun kq hkq => AOp.pickOr rfl rfl rfl (fun hb => gvE rfl (t_not hb)) ⟨rfl, rfl, Nat.le_refl _⟩) ?_
      refine Draw.done fun kq hkq => ?_
      show aOps _ _ _ _ [] ⟨_, _, _⟩
      refine aOps_end ?_
      show ACode _ _ _ _ _ _
      refine ACode.cond rfl (fun c4 => absurd c4 (by simp)) (fun c4 => ?_)
      refine ACode.skip ?_
      show ACode _ _ _ _ _ _
      refine ACode.seq ?_
      refine ACode.region' [0, 1, 2, 3, 4, 5, 6, 7, 8] (by kernel_rfl) rfl ?_
      refine aOps_1 rfl rfl rfl (AOp.move' (.inl rfl) rfl ?_)
      refine aOps_1 rfl rfl rfl (AOp.move' (.inl rfl) rfl ?_)
      refine aOps_q rfl rfl rfl (AOp.call' rfl rfl rfl (root_out _ _ n q es g0.2 (hG.sub (by (repeat (first | exact sub_refl _ | assumption | refine sub_upd' ?_ (by ((repeat refine (upd_other _ _ (by omega)).trans ?_); first | exact hf _ (by omega) | exact hfL8 _ (by omega) | exact hfL9 _ (by omega) | exact hfL6 _ (by omega) | exact hfL5 _ (by omega) | exact hfL4 _ (by omega) | exact hfL0 _ (by omega))) | refine sub_trans ?_ hsL0 | refine sub_trans ?_ hsL4 | refine sub_trans ?_ hsL5 | refine sub_trans ?_ hsL6 | refine sub_trans ?_ hsL9 | refine sub_trans ?_ hsL8 | refine sub_over (by assumption) | refine sub_over0 ?_ | refine sub_trans (sub_same (by assumption)) ?_ | refine sub_dropu ?_ | refine sub_drop ?_ | refine sub_put ?_ (by repeat (first | assumption | exact upd_same _ _ _ | refine (upd_other _ _ (by omega)).trans ?_ | refine hsL0 _ _ ?_ | refine hsL4 _ _ ?_ | refine hsL5 _ _ ?_ | refine hsL6 _ _ ?_ | refine hsL9 _ _ ?_ | refine hsL8 _ _ ?_)))))) i (by omega) (by omega) (by omega)) (fun _ _ _ h => h)) (fun kq hkq => ?_)
      refine aOps_1 rfl rfl rfl (AOp.move' (.inl rfl) rfl ?_)
      refine aOps_1 rfl rfl rfl (AOp.extract' rfl rfl rfl ?_)
      refine aOps_1 rfl rfl rfl (AOp.extract' rfl rfl rfl ?_)
      refine aOps_1 rfl rfl rfl (AOp.alloc' rfl ?_)
      refine aOps_0 rfl rfl rfl ?_
      refine AOp.storeAll (b := ?b13) rfl rfl rfl ?hn13 ?hk13 rfl ?hw13 ?ho13 ?hl13 ?hR13
      (case hn13 => repeat (first | assumption | exact upd_same _ _ _ | refine (upd_other _ _ (by omega)).trans ?_ | refine hsL0 _ _ ?_ | refine hsL4 _ _ ?_ | refine hsL5 _ _ ?_ | refine hsL6 _ _ ?_ | refine hsL9 _ _ ?_ | refine hsL8 _ _ ?_))
      (case hk13 => rfl)
      (case hw13 => first | rfl | exact hv_size _ | exact hcs_one _ | exact (aw_size _).trans rfl | exact one_wv _ | exact one_bv _ | exact entv_size _ | exact entc_one _ | (simp; done))
      (case ho13 => first | rfl | exact hv_size _ | exact hcs_one _ | exact (aw_size _).trans rfl | exact one_wv _ | exact one_bv _ | exact entv_size _ | exact entc_one _ | decide | (simp; done))
      (case hl13 => first | rfl | exact hv_size _ | exact hcs_one _ | exact (aw_size _).trans rfl | exact one_wv _ | exact one_bv _ | exact entv_size _ | exact entc_one _ | (simp; done))
      refine aOps_1 rfl rfl rfl (AOp.move' (.inr rfl) rfl ?_)
      refine aOps_end ?_
      show ACode _ _ _ _ _ _
      refine ACode.seq ?_
      refine ACode.region' [0, 1, 2, 3, 4, 5, 6, 7] (by kernel_rfl) rfl ?_
      refine aOps_1 rfl rfl rfl (AOp.move' (.inl rfl) rfl ?_)
      refine aOps_1 rfl rfl rfl (AOp.move' (.inl rfl) rfl ?_)
      refine aOps_1 rfl rfl rfl ?_
      refine AOp.call' rfl rfl rfl (proof_l _ _ (by repeat (first | assumption | exact upd_same _ _ _ | refine (upd_other _ _ (by omega)).trans ?_ | refine hsL0 _ _ ?_ | refine hsL4 _ _ ?_ | refine hsL5 _ _ ?_ | refine hsL6 _ _ ?_ | refine hsL9 _ _ ?_ | refine hsL8 _ _ ?_)) n q es g0.2 (hG.sub (by (repeat (first | exact sub_refl _ | assumption | refine sub_upd' ?_ (by ((repeat refine (upd_other _ _ (by omega)).trans ?_); first | exact hf _ (by omega) | exact hfL8 _ (by omega) | exact hfL9 _ (by omega) | exact hfL6 _ (by omega) | exact hfL5 _ (by omega) | exact hfL4 _ (by omega) | exact hfL0 _ (by omega))) | refine sub_trans ?_ hsL0 | refine sub_trans ?_ hsL4 | refine sub_trans ?_ hsL5 | refine sub_trans ?_ hsL6 | refine sub_trans ?_ hsL9 | refine sub_trans ?_ hsL8 | refine sub_over (by assumption) | refine sub_over0 ?_ | refine sub_trans (sub_same (by assumption)) ?_ | refine sub_dropu ?_ | refine sub_drop ?_ | refine sub_put ?_ (by repeat (first | assumption | exact upd_same _ _ _ | refine (upd_other _ _ (by omega)).trans ?_ | refine hsL0 _ _ ?_ | refine hsL4 _ _ ?_ | refine hsL5 _ _ ?_ | refine hsL6 _ _ ?_ | refine hsL9 _ _ ?_ | refine hsL8 _ _ ?_)))))) i (by omega) (by omega)) ?_
      rintro _ _ ku ⟨qu, hu1, hu2, rfl, rfl⟩
      rw [show mayZ i (es.length : Int) = false from decide_eq_false (by omega)]
      refine aOps_1 rfl rfl rfl (AOp.move' (.inl rfl) rfl ?_)
      refine aOps_1 rfl rfl rfl (AOp.extract' rfl rfl rfl ?_)
      refine aOps_1 rfl rfl rfl (AOp.extract' rfl rfl rfl ?_)
      refine aOps_1 rfl rfl rfl (AOp.move' (.inr rfl) rfl ?_)
      refine aOps_1 rfl rfl rfl (AOp.move' (.inr rfl) rfl ?_)
      refine aOps_end ?_
      show ACode _ _ _ _ _ _
      refine ACode.seq ?_
      refine ACode.region' [0, 1, 2, 3, 4, 5, 6, 7, 8] (by kernel_rfl) rfl ?_
      refine aOps_1 rfl rfl rfl (AOp.move' (.inl rfl) rfl ?_)
      refine aOps_1 rfl rfl rfl (AOp.bin' rfl rfl rfl rfl ?_)
      refine aOps_1 rfl rfl rfl (AOp.move' (.inl rfl) rfl ?_)
      refine aOps_gd0 rfl rfl (wantT rfl rfl rfl) (fun hc => AOp.slots [(1, _)] (.cons rfl .nil) (AOp.move' (.inl rfl) rfl ⟨rfl, rfl, rfl⟩)) ?_
      refine aOps_gd0 rfl rfl (wantT rfl rfl rfl) (fun hc => AOp.slots [(6, _)] (.cons rfl .nil) (AOp.move' (.inl rfl) rfl ⟨rfl, rfl, rfl⟩)) ?_
      refine aOps_gd0 rfl rfl (wantT rfl rfl rfl) (fun hc => AOp.slots [(149, _)] (.cons (gvT rfl hc) .nil) (AOp.len' rfl rfl ⟨rfl, rfl, rfl⟩)) ?_
      refine aOps_gd0 rfl rfl (wantT rfl rfl rfl) (fun hc => AOp.slots [(148, _), (150, _)] (.cons (gvT rfl hc) (.cons (gvT rfl hc) .nil)) (AOp.bin' rfl rfl rfl rfl ⟨rfl, rfl, rfl⟩)) ?_
      refine aOps_1 rfl rfl rfl (AOp.pickAnd rfl rfl rfl (fun hb => gvE rfl hb) ?_)
      refine aOps_1 rfl rfl rfl (AOp.move' (.inr rfl) rfl ?_)
      refine aOps_end ?_
      show ACode _ _ _ _ _ _
      refine ACode.seq ?_
      refine ACode.seq ?_
      have g9 : (decide (i ≥ 0) && decide (i ≤ (es.length : Int))) = false := by simp; omega
      rw [g9]
      refine ACode.draw' 29 [(0, 153), (1, 154), (2, 155), (3, 156), (4, 157), (5, 158), (6, 159), (7, 160), (8, 161), (9, 162), (10, 163), (11, 164), (12, 165), (13, 166), (14, 167), (15, 168), (16, 169), (17, 170), (18, 171), (19, 172), (20, 173), (21, 174), (22, 175), (23, 176), (24, 177), (25, 178), (26, 179), (27, 180), (28, 181)] mixed (by kernel_rfl) ?_
      refine Draw.step [(16, none)] rfl (by kernel_rfl) rfl (fun kq hkq => AOp.move' (.inl rfl) rfl ⟨rfl, rfl, Nat.le_refl _⟩) ?_
      refine Draw.step [(19, none)] rfl (by kernel_rfl) rfl (fun kq hkq => AOp.move' (.inl rfl) rfl ⟨rfl, rfl, Nat.le_refl _⟩) ?_
      refine Draw.step [(153, some 0), (154, some 1)] rfl (by kernel_rfl) rfl (fun kq hkq => AOp.neBool rfl rfl rfl ⟨rfl, rfl, Nat.le_refl _⟩) ?_
      refine Draw.step [(155, some 2)] rfl (by kernel_rfl) rfl (fun kq hkq => AOp.move' (.inl rfl) rfl ⟨rfl, rfl, Nat.le_refl _⟩) ?_
      refine Draw.gd [(18, none), (156, some 3)] rfl (by kernel_rfl) (wantF rfl rfl rfl) (fun kq hkq hc => AOp.slots [(18, _)] (.cons rfl .nil) (AOp.move' (.inl rfl) rfl ⟨rfl, rfl, Nat.le_refl _⟩)) ?_
      refine Draw.gd [(19, none), (156, some 3)] rfl (by kernel_rfl) (wantF rfl rfl rfl) (fun kq hkq hc => AOp.slots [(19, _)] (.cons rfl .nil) (AOp.move' (.inl rfl) rfl ⟨rfl, rfl, Nat.le_refl _⟩)) ?_
      refine Draw.gd [(157, some 4), (158, some 5), (156, some 3)] rfl (by kernel_rfl) (wantF rfl rfl rfl) (fun kq hkq hc => AOp.slots [(157, _), (158, _)] (.cons (gvT rfl hc) (.cons (gvT rfl hc) .nil)) (AOp.neBool rfl rfl rfl ⟨rfl, rfl, Nat.le_refl _⟩)) ?_
      refine Draw.step [(156, some 3), (159, some 6)] rfl (by kernel_rfl) rfl (fun kq hkq => AOp.pickOr rfl rfl rfl (fun hb => gvE rfl (t_not hb)) ⟨rfl, rfl, Nat.le_refl _⟩) ?_
      refine Draw.step [(160, some 7)] rfl (by kernel_rfl) rfl (fun kq hkq => AOp.move' (.inl rfl) rfl ⟨rfl, rfl, Nat.le_refl _⟩) ?_
      refine Draw.gd [(19, none), (161, some 8)] rfl (by kernel_rfl) (wantF rfl rfl rfl) (fun kq hkq hc => AOp.slots [(19, _)] (.cons rfl .nil) (AOp.move' (.inl rfl) rfl ⟨rfl, rfl, Nat.le_refl _⟩)) ?_
      refine Draw.gd [(162, some 9), (161, some 8)] rfl (by kernel_rfl) (wantF rfl rfl rfl) (fun kq hkq hc => AOp.slots [(162, _)] (.cons (gvT rfl hc) .nil) (AOp.move' (.inl rfl) rfl ⟨rfl, rfl, Nat.le_refl _⟩)) ?_
      refine Draw.gd [(15, none), (163, some 10)] rfl (by kernel_rfl) (wantGT rfl rfl rfl) (fun kq hkq hc => AOp.slots [(15, _)] (.cons rfl .nil) ((by refine AOp.loadAll (b := ?b14) (v := hv zeroD) rfl rfl ?hn14 ?hv14 ?hw14 ?hz14 ?hR14; (case hn14 => repeat (first | assumption | exact upd_same _ _ _ | refine (upd_other _ _ (by omega)).trans ?_ | refine hsL0 _ _ ?_ | refine hsL4 _ _ ?_ | refine hsL5 _ _ ?_ | refine hsL6 _ _ ?_ | refine hsL9 _ _ ?_ | refine hsL8 _ _ ?_)); (case hv14 => rfl); (case hw14 => rfl); (case hz14 => first | rfl | exact hv_size _ | exact hcs_one _ | exact (aw_size _).trans rfl | exact one_wv _ | exact one_bv _ | exact entv_size _ | exact entc_one _ | (simp; done)); exact ⟨rfl, rfl, Nat.le_refl _⟩))) ?_
      refine Draw.gd [(6, none), (163, some 10)] rfl (by kernel_rfl) (wantGT rfl rfl rfl) (fun kq hkq hc => AOp.slots [(6, _)] (.cons rfl .nil) (AOp.move' (.inl rfl) rfl ⟨rfl, rfl, Nat.le_refl _⟩)) ?_
      refine Draw.gd [(165, some 12), (163, some 10)] rfl (by kernel_rfl) (wantGT rfl rfl rfl) (fun kq hkq hc => AOp.slots [(165, _)] (.cons (gvT rfl hc) .nil) ((False.elim (by simp at hc) : AOp _ _ _ _ fun v H1 k1 => v = Value.bool false ∧ H1 = _ ∧ _ ≤ k1))) ?_
      refine Draw.gd [(1, none), (163, some 10)] rfl (by kernel_rfl) (wantGT rfl rfl rfl) (fun kq hkq hc => AOp.slots [(1, _)] (.cons rfl .nil) (AOp.move' (.inl rfl) rfl ⟨rfl, rfl, Nat.le_refl _⟩)) ?_
      refine Draw.gd [(166, some 13), (167, some 14), (163, some 10)] rfl (by kernel_rfl) (wantGT rfl rfl rfl) (fun kq hkq hc => AOp.slots [(166, _), (167, _)] (.cons (gvT rfl hc) (.cons (gvT rfl hc) .nil)) ((False.elim (by simp at hc) : AOp _ _ _ _ fun v H1 k1 => v = Value.bool false ∧ H1 = _ ∧ _ ≤ k1))) ?_
      refine Draw.gd [(168, some 15), (163, some 10)] rfl (by kernel_rfl) (wantGT rfl rfl rfl) (fun kq hkq hc => AOp.slots [(168, _)] (.cons (gvT rfl hc) .nil) ((False.elim (by simp at hc) : AOp _ _ _ _ fun v H1 k1 => v = Value.bool false ∧ H1 = _ ∧ _ ≤ k1))) ?_
      refine Draw.gd [(164, some 11), (169, some 16), (163, some 10)] rfl (by kernel_rfl) (wantGT rfl rfl rfl) (fun kq hkq hc => AOp.slots [(164, _), (169, _)] (.cons (gvT rfl hc) (.cons (gvT rfl hc) .nil)) ((False.elim (by simp at hc) : AOp _ _ _ _ fun v H1 k1 => v = Value.bool false ∧ H1 = _ ∧ _ ≤ k1))) ?_
      refine Draw.gd [(170, some 17), (163, some 10)] rfl (by kernel_rfl) (wantGT rfl rfl rfl) (fun kq hkq hc => AOp.slots [(170, _)] (.cons (gvT rfl hc) .nil) (AOp.move' (.inl rfl) rfl ⟨rfl, rfl, Nat.le_refl _⟩)) ?_
      refine Draw.gd [(17, none), (171, some 18)] rfl (by kernel_rfl) (wantGF rfl rfl rfl) (fun kq hkq hc => AOp.slots [(17, _)] (.cons rfl .nil) (AOp.move' (.inl rfl) rfl ⟨rfl, rfl, Nat.le_refl _⟩)) ?_
      refine Draw.gd [(6, none), (171, some 18)] rfl (by kernel_rfl) (wantGF rfl rfl rfl) (fun kq hkq hc => AOp.slots [(6, _)] (.cons rfl .nil) (AOp.move' (.inl rfl) rfl ⟨rfl, rfl, Nat.le_refl _⟩)) ?_
      refine Draw.gd [(173, some 20), (171, some 18)] rfl (by kernel_rfl) (wantGF rfl rfl rfl) (fun kq hkq hc => AOp.slots [(173, _)] (.cons (gvT rfl hc) .nil) ((False.elim (by simp at hc) : AOp _ _ _ _ fun v H1 k1 => v = Value.bool false ∧ H1 = _ ∧ _ ≤ k1))) ?_
      refine Draw.gd [(1, none), (171, some 18)] rfl (by kernel_rfl) (wantGF rfl rfl rfl) (fun kq hkq hc => AOp.slots [(1, _)] (.cons rfl .nil) (AOp.move' (.inl rfl) rfl ⟨rfl, rfl, Nat.le_refl _⟩)) ?_
      refine Draw.gd [(174, some 21), (175, some 22), (171, some 18)] rfl (by kernel_rfl) (wantGF rfl rfl rfl) (fun kq hkq hc => AOp.slots [(174, _), (175, _)] (.cons (gvT rfl hc) (.cons (gvT rfl hc) .nil)) ((False.elim (by simp at hc) : AOp _ _ _ _ fun v H1 k1 => v = Value.bool false ∧ H1 = _ ∧ _ ≤ k1))) ?_
      refine Draw.gd [(172, some 19), (176, some 23), (171, some 18)] rfl (by kernel_rfl) (wantGF rfl rfl rfl) (fun kq hkq hc => AOp.slots [(172, _), (176, _)] (.cons (gvT rfl hc) (.cons (gvT rfl hc) .nil)) ((False.elim (by simp at hc) : AOp _ _ _ _ fun v H1 k1 => v = Value.bool false ∧ H1 = _ ∧ _ ≤ k1))) ?_
      refine Draw.gd [(177, some 24), (171, some 18)] rfl (by kernel_rfl) (wantGF rfl rfl rfl) (fun kq hkq hc => AOp.slots [(177, _)] (.cons (gvT rfl hc) .nil) (AOp.un' rfl rfl rfl ⟨rfl, rfl, Nat.le_refl _⟩)) ?_
      refine Draw.gd [(171, some 18), (178, some 25), (163, some 10)] rfl (by kernel_rfl) (wantGT rfl rfl rfl) (fun kq hkq hc => AOp.pickOr rfl rfl (gvE rfl hc) (fun hb => gvE rfl (and_mk hc (t_not hb))) ⟨rfl, rfl, Nat.le_refl _⟩) ?_
      refine Draw.gd [(163, some 10), (179, some 26), (161, some 8)] rfl (by kernel_rfl) (wantF rfl rfl rfl) (fun kq hkq hc => AOp.pickAnd rfl rfl (gvE rfl hc) (fun hb => gvE rfl (and_mk hc hb)) ⟨rfl, rfl, Nat.le_refl _⟩) ?_
      refine Draw.step [(161, some 8), (180, some 27)] rfl (by kernel_rfl) rfl (fun kq hkq => AOp.pickOr rfl rfl rfl (fun hb => gvE rfl (t_not hb)) ⟨rfl, rfl, Nat.le_refl _⟩) ?_
      refine Draw.done fun kq hkq => ?_
      show aOps _ _ _ _ [] ⟨_, _, _⟩
      refine aOps_end ?_
      show ACode _ _ _ _ _ _
      refine ACode.cond rfl (fun c5 => absurd c5 (by simp)) (fun c5 => ?_)
      refine ACode.skip ?_
      show ACode _ _ _ _ _ _
      refine ACode.seq ?_
      refine ACode.region' [0, 1, 2, 3, 4, 5, 6, 7, 8, 9, 10, 11, 12, 13, 14, 15, 16, 17, 18, 19, 20, 21, 22] (by kernel_rfl) rfl ?_
      refine aOps_1 rfl rfl rfl (AOp.move' (.inl rfl) rfl ?_)
      refine aOps_q rfl rfl rfl (AOp.call' rfl rfl rfl (size_l _ _ n q es g0.2 (hG.sub (by (repeat (first | exact sub_refl _ | assumption | refine sub_upd' ?_ (by ((repeat refine (upd_other _ _ (by omega)).trans ?_); first | exact hf _ (by omega) | exact hfL8 _ (by omega) | exact hfL9 _ (by omega) | exact hfL6 _ (by omega) | exact hfL5 _ (by omega) | exact hfL4 _ (by omega) | exact hfL0 _ (by omega))) | refine sub_trans ?_ hsL0 | refine sub_trans ?_ hsL4 | refine sub_trans ?_ hsL5 | refine sub_trans ?_ hsL6 | refine sub_trans ?_ hsL9 | refine sub_trans ?_ hsL8 | refine sub_over (by assumption) | refine sub_over0 ?_ | refine sub_trans (sub_same (by assumption)) ?_ | refine sub_dropu ?_ | refine sub_drop ?_ | refine sub_put ?_ (by repeat (first | assumption | exact upd_same _ _ _ | refine (upd_other _ _ (by omega)).trans ?_ | refine hsL0 _ _ ?_ | refine hsL4 _ _ ?_ | refine hsL5 _ _ ?_ | refine hsL6 _ _ ?_ | refine hsL9 _ _ ?_ | refine hsL8 _ _ ?_))))))) (fun _ _ _ h => h)) (fun kq hkq => ?_)
      refine aOps_1 rfl rfl rfl (AOp.move' (.inl rfl) rfl ?_)
      refine aOps_1 rfl rfl rfl (AOp.len' rfl rfl ?_)
      refine aOps_1 rfl rfl rfl (AOp.bin' rfl rfl rfl rfl ?_)
      rw [show ((es.length : Int) == (es.length : Int)) = true from beq_self_eq_true _]
      refine aOps_1 rfl rfl rfl (AOp.move' (.inl rfl) rfl ?_)
      refine aOps_w rfl rfl rfl (AOp.move' (.inl rfl) rfl ?_)
      refine aOps_wq rfl rfl rfl (AOp.call' rfl rfl rfl (head_l _ _ (by repeat (first | assumption | exact upd_same _ _ _ | refine (upd_other _ _ (by omega)).trans ?_ | refine hsL0 _ _ ?_ | refine hsL4 _ _ ?_ | refine hsL5 _ _ ?_ | refine hsL6 _ _ ?_ | refine hsL9 _ _ ?_ | refine hsL8 _ _ ?_)) n q es g0.2 (hG.sub (by (repeat (first | exact sub_refl _ | assumption | refine sub_upd' ?_ (by ((repeat refine (upd_other _ _ (by omega)).trans ?_); first | exact hf _ (by omega) | exact hfL8 _ (by omega) | exact hfL9 _ (by omega) | exact hfL6 _ (by omega) | exact hfL5 _ (by omega) | exact hfL4 _ (by omega) | exact hfL0 _ (by omega))) | refine sub_trans ?_ hsL0 | refine sub_trans ?_ hsL4 | refine sub_trans ?_ hsL5 | refine sub_trans ?_ hsL6 | refine sub_trans ?_ hsL9 | refine sub_trans ?_ hsL8 | refine sub_over (by assumption) | refine sub_over0 ?_ | refine sub_trans (sub_same (by assumption)) ?_ | refine sub_dropu ?_ | refine sub_drop ?_ | refine sub_put ?_ (by repeat (first | assumption | exact upd_same _ _ _ | refine (upd_other _ _ (by omega)).trans ?_ | refine hsL0 _ _ ?_ | refine hsL4 _ _ ?_ | refine hsL5 _ _ ?_ | refine hsL6 _ _ ?_ | refine hsL9 _ _ ?_ | refine hsL8 _ _ ?_))))))) (fun _ _ _ h => h)) (fun kq hkq => ?_)
      refine aOps_w rfl rfl rfl (AOp.move' (.inl rfl) rfl ?_)
      refine aOps_wq rfl rfl rfl (AOp.call' rfl rfl rfl (refhead _ _ (by repeat (first | assumption | exact upd_same _ _ _ | refine (upd_other _ _ (by omega)).trans ?_ | refine hsL0 _ _ ?_ | refine hsL4 _ _ ?_ | refine hsL5 _ _ ?_ | refine hsL6 _ _ ?_ | refine hsL9 _ _ ?_ | refine hsL8 _ _ ?_)) es (some ⟨ka, 0, some 1⟩) _ (SLC.xblk (by repeat (first | assumption | exact upd_same _ _ _ | refine (upd_other _ _ (by omega)).trans ?_ | refine hsL0 _ _ ?_ | refine hsL4 _ _ ?_ | refine hsL5 _ _ ?_ | refine hsL6 _ _ ?_ | refine hsL9 _ _ ?_ | refine hsL8 _ _ ?_))) hG.hg hG.hm) (fun _ _ _ h => h)) (fun kq hkq => ?_)
      refine aOps_w rfl rfl rfl (AOp.eqAgg true rfl rfl rfl (hv_sc _) (hv_sc _) ⟨fun _ => rfl, fun _ => rfl⟩ ?_)
      refine aOps_1 rfl rfl rfl (AOp.pickB rfl rfl rfl ?_)
      refine aOps_1 rfl rfl rfl (AOp.move' (.inl rfl) rfl ?_)
      refine aOps_w rfl rfl rfl (AOp.move' (.inl rfl) rfl ?_)
      refine aOps_w rfl rfl rfl ?_
      refine AOp.call' rfl rfl rfl (forms_l _ _ n q es g0.2 (hG.sub (by (repeat (first | exact sub_refl _ | assumption | refine sub_upd' ?_ (by ((repeat refine (upd_other _ _ (by omega)).trans ?_); first | exact hf _ (by omega) | exact hfL8 _ (by omega) | exact hfL9 _ (by omega) | exact hfL6 _ (by omega) | exact hfL5 _ (by omega) | exact hfL4 _ (by omega) | exact hfL0 _ (by omega))) | refine sub_trans ?_ hsL0 | refine sub_trans ?_ hsL4 | refine sub_trans ?_ hsL5 | refine sub_trans ?_ hsL6 | refine sub_trans ?_ hsL9 | refine sub_trans ?_ hsL8 | refine sub_over (by assumption) | refine sub_over0 ?_ | refine sub_trans (sub_same (by assumption)) ?_ | refine sub_dropu ?_ | refine sub_drop ?_ | refine sub_put ?_ (by repeat (first | assumption | exact upd_same _ _ _ | refine (upd_other _ _ (by omega)).trans ?_ | refine hsL0 _ _ ?_ | refine hsL4 _ _ ?_ | refine hsL5 _ _ ?_ | refine hsL6 _ _ ?_ | refine hsL9 _ _ ?_ | refine hsL8 _ _ ?_))))))) ?_
      rintro _ H5 k5 ⟨q4, ys, hq4a, hq4b, rfl, hsL5, hfL5, hq4, hL4⟩
      have hyl := hL4.len
      rw [List.length_map] at hyl
      refine aOps_w rfl rfl rfl (AOp.move' (.inl rfl) rfl ?_)
      refine aOps_w rfl rfl rfl ?_
      refine AOp.call' rfl rfl rfl (refforms _ _ es (some ⟨ka, 0, some 1⟩) _ (SLC.xblk (by repeat (first | assumption | exact upd_same _ _ _ | refine (upd_other _ _ (by omega)).trans ?_ | refine hsL0 _ _ ?_ | refine hsL4 _ _ ?_ | refine hsL5 _ _ ?_ | refine hsL6 _ _ ?_ | refine hsL9 _ _ ?_ | refine hsL8 _ _ ?_))) hG.hg hG.hm) ?_
      rintro _ H6 k6 ⟨q5, xs, hq5a, hq5b, rfl, hsL4, hfL4, hq5, hL5⟩
      refine aOps_w rfl rfl rfl ?_
      refine AOp.call' rfl rfl rfl (sameAll_b _ _ (forms es) (forms es) ys xs (some ⟨q4, 0, some 1⟩) (some ⟨q5, 0, some 1⟩) _ _ (NewF.slc (by repeat (first | assumption | exact upd_same _ _ _ | refine (upd_other _ _ (by omega)).trans ?_ | refine hsL0 _ _ ?_ | refine hsL4 _ _ ?_ | refine hsL5 _ _ ?_ | refine hsL6 _ _ ?_ | refine hsL9 _ _ ?_ | refine hsL8 _ _ ?_))) (hL4.sub (by (repeat (first | exact sub_refl _ | assumption | refine sub_upd' ?_ (by ((repeat refine (upd_other _ _ (by omega)).trans ?_); first | exact hf _ (by omega) | exact hfL8 _ (by omega) | exact hfL9 _ (by omega) | exact hfL6 _ (by omega) | exact hfL5 _ (by omega) | exact hfL4 _ (by omega) | exact hfL0 _ (by omega))) | refine sub_trans ?_ hsL0 | refine sub_trans ?_ hsL4 | refine sub_trans ?_ hsL5 | refine sub_trans ?_ hsL6 | refine sub_trans ?_ hsL9 | refine sub_trans ?_ hsL8 | refine sub_over (by assumption) | refine sub_over0 ?_ | refine sub_trans (sub_same (by assumption)) ?_ | refine sub_dropu ?_ | refine sub_drop ?_ | refine sub_put ?_ (by repeat (first | assumption | exact upd_same _ _ _ | refine (upd_other _ _ (by omega)).trans ?_ | refine hsL0 _ _ ?_ | refine hsL4 _ _ ?_ | refine hsL5 _ _ ?_ | refine hsL6 _ _ ?_ | refine hsL9 _ _ ?_ | refine hsL8 _ _ ?_)))))) (NewF.slc hq5) hL5 (by omega) (forms_le hG.hg)) ?_
      rintro _ _ kz ⟨rfl, rfl, hkz⟩
      rw [show decide (forms es = forms es) = true from decide_eq_true rfl]
      refine aOps_1 rfl rfl rfl (AOp.pickB rfl rfl rfl ?_)
      refine aOps_1 rfl rfl rfl (AOp.move' (.inl rfl) rfl ?_)
      refine aOps_wq rfl rfl rfl (AOp.call' rfl rfl rfl (awake21 _ _ (by repeat (first | assumption | exact upd_same _ _ _ | refine (upd_other _ _ (by omega)).trans ?_ | refine hsL0 _ _ ?_ | refine hsL4 _ _ ?_ | refine hsL5 _ _ ?_ | refine hsL6 _ _ ?_ | refine hsL9 _ _ ?_ | refine hsL8 _ _ ?_))) (fun _ _ _ h => h)) (fun kq hkq => ?_)
      refine aOps_1 rfl rfl rfl (AOp.pickB rfl rfl rfl ?_)
      refine aOps_1 rfl rfl rfl (AOp.move' (.inr rfl) rfl ?_)
      refine aOps_end ?_
      show ACode _ _ _ _ _ _
      refine ACode.ret ?_
      exact RetQ.one rfl rfl (by (repeat (first | exact sub_refl _ | assumption | refine sub_upd' ?_ (by ((repeat refine (upd_other _ _ (by omega)).trans ?_); first | exact hf _ (by omega) | exact hfL8 _ (by omega) | exact hfL9 _ (by omega) | exact hfL6 _ (by omega) | exact hfL5 _ (by omega) | exact hfL4 _ (by omega) | exact hfL0 _ (by omega))) | refine sub_trans ?_ hsL0 | refine sub_trans ?_ hsL4 | refine sub_trans ?_ hsL5 | refine sub_trans ?_ hsL6 | refine sub_trans ?_ hsL9 | refine sub_trans ?_ hsL8 | refine sub_over (by assumption) | refine sub_over0 ?_ | refine sub_trans (sub_same (by assumption)) ?_ | refine sub_dropu ?_ | refine sub_drop ?_ | refine sub_put ?_ (by repeat (first | assumption | exact upd_same _ _ _ | refine (upd_other _ _ (by omega)).trans ?_ | refine hsL0 _ _ ?_ | refine hsL4 _ _ ?_ | refine hsL5 _ _ ?_ | refine hsL6 _ _ ?_ | refine hsL9 _ _ ?_ | refine hsL8 _ _ ?_))))) stays (fun hk => ⟨rfl, rfl, by omega⟩)
end

end Go.Proofs.YtipaiielkpifoaaDoor
