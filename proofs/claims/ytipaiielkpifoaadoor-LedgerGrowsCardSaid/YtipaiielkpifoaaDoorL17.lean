/- Contracts over the abstract states: the document's forms and head; an entry is added, or not; the example of ledgers. -/
import Derived.Test.YtipaiielkpifoaaDoorL16
set_option linter.unusedVariables false
set_option linter.unusedSimpArgs false
set_option maxRecDepth 100000
namespace Go.Proofs.YtipaiielkpifoaaDoor
open Go Go.Ab

/-- A path folds to the root. -/
theorem fold_path : ∀ (N i : Nat) (l : List (List UInt8)), l.length < N → i < l.length → foldT (lf (l.getD i [])) i l.length (pathT l i) = root l ∧ depthN i l.length = (pathT l i).length
  | 0, i, l, h, _ => by omega
  | N + 1, i, l, h, hi => by
    by_cases h2 : 2 ≤ l.length
    · obtain ⟨s1, s2, s3⟩ := spN_spec h2
      have ht : (l.take (spN l.length)).length = spN l.length := by rw [List.length_take]; omega
      have hd : (l.drop (spN l.length)).length = l.length - spN l.length := List.length_drop
      rw [root_two h2]
      by_cases hk : i < spN l.length
      · obtain ⟨e1, e2⟩ := fold_path N i (l.take (spN l.length)) (by omega) (by omega)
        rw [ht] at e1 e2
        have eg : (l.take (spN l.length)).getD i [] = l.getD i [] := by rw [List.getD_eq_getElem?_getD, List.getElem?_take_of_lt hk, ← List.getD_eq_getElem?_getD]
        rw [eg] at e1
        obtain ⟨p1, p2⟩ := snoc_last (pathT (l.take (spN l.length)) i) (root (l.drop (spN l.length))) (shaD [])
        rw [foldT_l h2 hk, pathT_l h2 hk, p1, p2, e1, depthN_l h2 hk, e2, List.length_append]
        exact ⟨rfl, rfl⟩
      · obtain ⟨e1, e2⟩ := fold_path N (i - spN l.length) (l.drop (spN l.length)) (by omega) (by omega)
        rw [hd] at e1 e2
        have eg : (l.drop (spN l.length)).getD (i - spN l.length) [] = l.getD i [] := by rw [List.getD_eq_getElem?_getD, List.getElem?_drop, show spN l.length + (i - spN l.length) = i by omega, ← List.getD_eq_getElem?_getD]
        rw [eg] at e1
        obtain ⟨p1, p2⟩ := snoc_last (pathT (l.drop (spN l.length)) (i - spN l.length)) (root (l.take (spN l.length))) (shaD [])
        rw [foldT_r h2 hk, pathT_r h2 hk, p1, p2, e1, depthN_r h2 hk, e2, List.length_append]
        exact ⟨rfl, rfl⟩
    · match l, h2, hi with
      | [x], _, hi =>
        obtain rfl : i = 0 := by simp at hi; exact hi
        rw [foldT_one (by simp), root_one, depthN_one (by simp), pathT_one rfl]
        exact ⟨rfl, rfl⟩
      | x :: y :: r, h2, _ => exact absurd (by simp) h2
theorem fold_ok {l : List (List UInt8)} {i : Nat} (hi : i < l.length) (hn : l.length ≤ 1099511627776) : foldZ (lf (l.getD i [])) (i : Int) (l.length : Int) (pathZ l (i : Int)) = (root l, true) := by
  obtain ⟨e1, e2⟩ := fold_path (l.length + 1) i l (by omega) hi
  rw [pathZ_nat hi, foldZ_yes hi hn e2, e1]
/-- A proof is one. -/
theorem check_proof {l : List (List UInt8)} {m : Nat} (hm : m ≤ l.length) (hn : l.length ≤ 1099511627776) : checkZ (m : Int) (l.length : Int) (root (l.take m)) (root l) (proofZ l (m : Int)) = true := by
  have hmay : mayZ (m : Int) (l.length : Int) = true := decide_eq_true (by omega)
  by_cases h0 : m = 0
  · subst h0
    rw [checkZ_0 hmay rfl (by rw [sizeZ, if_pos hmay, if_pos (show ((0 : Nat) : Int) = 0 from rfl), proofZ, if_neg (by omega)]; rfl)]
    exact decide_eq_true rfl
  · have hp : proofZ l (m : Int) = proofT l m false := by rw [proofZ, if_pos (by omega), Int.toNat_natCast]
    rw [hp, checkZ_n hmay h0 (proofT_len (l.length + 1) m l false (by omega) (by omega) hm)]
    exact decide_eq_true (put_proof (l.length + 1) m l false (by omega) (by omega) hm)
/-- Entries' cells, one behind the other. -/
abbrev ecs (es : List Ent) : List Value := es.flatMap entc
theorem SLC.elE {H : Hp} {c0 i : Nat} {A0 : Option Addr} {es : List Ent} (hS : SLC H 65 A0 es.length c0 (ecs es)) (hi : i < es.length) :
    ∃ n off sp, aslcAt H 65 i (.slice A0 es.length c0) = some (ptr n off sp) ∧ PAt H n off sp (entc (es.getD i eD)) := by
  obtain ⟨n, off, sp, h1, h2⟩ := slcEl hS.cells entc_len (by decide) hi
  rw [← getD_el (d := eD) hi] at h2
  exact ⟨n, off, sp, h1, h2⟩
abbrev e1 : Ent := ⟨zeroD, 1, zeroD⟩
theorem awkL : decide (headD 1 (root [formB e1]) = headD 0 (root [])) = false := by
  rw [root_one, root_nil, formB, show e1.g.toNat = 1 from rfl, varB_small (by decide)]
  exact decide_eq_false fun h => absurd (congrArg Dg.l h) (by decide +kernel)
theorem pick_mod (x n : Int) (h : 0 < n) : (x.tmod n < 0 → x.tmod n + n = x % n) ∧ (0 ≤ x.tmod n → x.tmod n = x % n) ∧ -n < x.tmod n ∧ x.tmod n < n := by
  have e := @Int.tmod_eq_emod x n
  have r1 := Int.emod_nonneg x (show n ≠ 0 by omega)
  have r2 := Int.emod_lt_of_pos x h
  split at e
  · omega
  · rename_i hc
    have r3 : x % n ≠ 0 := fun h0 => hc (.inr (Int.dvd_of_emod_eq_zero h0))
    omega
def goodL (e : Ent) : List Ent := if good e then [e] else []
section
variable (H : Hp) (k : Nat)

theorem pick_b (x n : Int) (h1 : 1 ≤ n) (h2 : n ≤ 9223372036854775807) (hx1 : -9223372036854775808 ≤ x) (hx2 : x ≤ 9223372036854775807) : ACalls Tryd.prog 1 37 [.int .i64 x, .int .i64 n] H k (Same H k (.int .i64 (x % n))) := by
  refine ACalls.fresh fun hf => ?_
  refine ACalls.body Tryd.func37 rfl (Nat.le_of_ble_eq_true rfl) ?_
  refine ACode.seq ?_
  refine ACode.region' [0] (by kernel_rfl) rfl ?_
  refine aOps_1 rfl rfl rfl (AOp.move' (.inr rfl) rfl ?_)
  refine aOps_end ?_
  show ACode _ _ _ _ _ _
  refine ACode.seq ?_
  refine ACode.seq ?_
  refine ACode.region' [0, 1] (by kernel_rfl) rfl ?_
  refine aOps_1 rfl rfl rfl (AOp.move' (.inl rfl) rfl ?_)
  refine aOps_1 rfl rfl rfl (AOp.bin' rfl rfl rfl rfl ?_)
  refine aOps_end ?_
  show ACode _ _ _ _ _ _
  refine ACode.cond rfl (fun c0 => absurd c0 (by simp; omega)) (fun c0 => ?_)
  refine ACode.skip ?_
  show ACode _ _ _ _ _ _
  refine ACode.seq ?_
  refine ACode.region' [0, 1, 2, 3] (by kernel_rfl) rfl ?_
  refine aOps_1 rfl rfl rfl (AOp.move' (.inl rfl) rfl ?_)
  refine aOps_1 rfl rfl rfl (AOp.move' (.inl rfl) rfl ?_)
  refine aOps_1 rfl rfl rfl (AOp.bin' rfl rfl rfl (if_neg (by first | decide | omega)) ?_)
  refine aOps_1 rfl rfl rfl (AOp.move' (.inr rfl) rfl ?_)
  refine aOps_end ?_
  show ACode _ _ _ _ _ _
  refine ACode.seq ?_
  refine ACode.seq ?_
  obtain ⟨ht1, ht2, ht3, ht4⟩ := pick_mod x n (by omega)
  refine ACode.region' [0, 1] (by kernel_rfl) rfl ?_
  refine aOps_1 rfl rfl rfl (AOp.move' (.inl rfl) rfl ?_)
  refine aOps_1 rfl rfl rfl (AOp.bin' rfl rfl rfl rfl ?_)
  refine aOps_end ?_
  show ACode _ _ _ _ _ _
  refine ACode.cond rfl (fun c1 => ?_) (fun c1 => ?_)
  · try simp only [decide_eq_true_eq, decide_eq_false_iff_not, beq_iff_eq, beq_eq_false_iff_ne, ne_eq, bne_iff_ne, Bool.not_eq_true', Bool.not_eq_false', Int.not_lt, Int.not_le, gt_iff_lt, ge_iff_le, bne_eq_false_iff_eq, Bool.not_eq_eq_eq_not, Bool.not_true, Bool.not_false] at c1
    refine ACode.region' [0, 1, 2, 3] (by kernel_rfl) rfl ?_
    refine aOps_1 rfl rfl rfl (AOp.move' (.inl rfl) rfl ?_)
    refine aOps_1 rfl rfl rfl (AOp.move' (.inl rfl) rfl ?_)
    refine aOps_1 rfl rfl rfl (AOp.add rfl rfl rfl (i64_wrap (by omega) (by omega)) ?_)
    refine aOps_1 rfl rfl rfl (AOp.move' (.inr rfl) rfl ?_)
    refine aOps_end ?_
    show ACode _ _ _ _ _ _
    refine ACode.seq ?_
    refine ACode.region' [0, 1] (by kernel_rfl) rfl ?_
    refine aOps_1 rfl rfl rfl (AOp.move' (.inl rfl) rfl ?_)
    refine aOps_1 rfl rfl rfl (AOp.move' (.inr rfl) rfl ?_)
    refine aOps_end ?_
    show ACode _ _ _ _ _ _
    refine ACode.ret ?_
    exact RetQ.one rfl rfl (by (repeat (first | exact sub_refl _ | assumption | refine sub_upd' ?_ (by ((repeat refine (upd_other _ _ (by omega)).trans ?_); first | exact hf _ (by omega))) | refine sub_over (by assumption) | refine sub_over0 ?_ | refine sub_trans (sub_same (by assumption)) ?_ | refine sub_dropu ?_ | refine sub_drop ?_ | refine sub_put ?_ (by repeat (first | assumption | exact upd_same _ _ _ | refine (upd_other _ _ (by omega)).trans ?_))))) stays (fun hk => ⟨(by rw [ht1 c1]), rfl, by omega⟩)
  · try simp only [decide_eq_true_eq, decide_eq_false_iff_not, beq_iff_eq, beq_eq_false_iff_ne, ne_eq, bne_iff_ne, Bool.not_eq_true', Bool.not_eq_false', Int.not_lt, Int.not_le, gt_iff_lt, ge_iff_le, bne_eq_false_iff_eq, Bool.not_eq_eq_eq_not, Bool.not_true, Bool.not_false] at c1
    refine ACode.skip ?_
    show ACode _ _ _ _ _ _
    refine ACode.seq ?_
    refine ACode.region' [0, 1] (by kernel_rfl) rfl ?_
    refine aOps_1 rfl rfl rfl (AOp.move' (.inl rfl) rfl ?_)
    refine aOps_1 rfl rfl rfl (AOp.move' (.inr rfl) rfl ?_)
    refine aOps_end ?_
    show ACode _ _ _ _ _ _
    refine ACode.ret ?_
    exact RetQ.one rfl rfl (by (repeat (first | exact sub_refl _ | assumption | refine sub_upd' ?_ (by ((repeat refine (upd_other _ _ (by omega)).trans ?_); first | exact hf _ (by omega))) | refine sub_over (by assumption) | refine sub_over0 ?_ | refine sub_trans (sub_same (by assumption)) ?_ | refine sub_dropu ?_ | refine sub_drop ?_ | refine sub_put ?_ (by repeat (first | assumption | exact upd_same _ _ _ | refine (upd_other _ _ (by omega)).trans ?_))))) stays (fun hk => ⟨(by rw [ht2 c1]), rfl, by omega⟩)

theorem add_any (e : Ent) (n q : Nat) (es : List Ent) (vs : List Value) (hG : LG H n q es vs) (hm : es.length < 1000000000) : ACalls Tryd.prog 1 18 [.pointer (some ⟨n, 0, none⟩), entv e] H k (fun v H' k' => k ≤ k' ∧ v = .int .i64 (if good e then 0 else 1) ∧ (∀ m, k' ≤ m → H' m = none) ∧ Ab.Sub (upd (upd H q none) n none) H' ∧ ∃ vs', LG H' n q (es ++ goodL e) vs') := by
  refine ACalls.fresh fun hf => ?_
  have hnk := old_lt hf hG.hn
  have hqk := old_lt hf hG.hq
  cases hg : good e with
  | false =>
    refine (add_bad H k e hg n).mono ?_
    rintro v H' k' ⟨rfl, rfl, hk⟩
    refine ⟨hk, rfl, fun m hm => hf m (by omega), sub_drop (sub_drop (sub_refl _)), vs, ?_⟩
    rw [goodL, hg, if_neg (by decide), List.append_nil]
    exact hG
  | true =>
    refine (add_good H k e hg n q hG.hnq es vs hG.len (by omega) hG.hn hG.hq).mono ?_
    rintro v H' k' ⟨f, h1, h2, rfl, rfl⟩
    refine ⟨by omega, rfl, fun m hm => ?_, ?_, vs ++ [gsl f (formB e).length], ?_⟩
    · (repeat refine (upd_other _ _ (by omega)).trans ?_)
      exact hf m (by omega)
    · refine sub_upd' (sub_upd' (sub_upf (fun m hm => ?_) h1 (sub_drop (sub_drop (sub_refl _)))) ?_) (upd_same _ _ _)
      · rw [upd_other _ _ (by omega), upd_other _ _ (by omega)]; exact hf m hm
      · rw [upd_other _ _ (fun h => hG.hnq h.symm)]; exact upd_same _ _ _
    · rw [goodL, hg, if_pos rfl]
      have hqn : q ≠ n := fun h => hG.hnq h.symm
      refine ⟨upd_same _ _ _, (upd_other _ _ hqn).trans (upd_same _ _ _), ?_, ?_, by rw [List.length_append]; show es.length + 1 ≤ _; omega, hG.hnq⟩
      · rw [forms, List.map_append]
        refine Lvs.append (hG.hL0.sub ?_) (Lvs.cons (SLC.gb (e := 5) ?_) Lvs.nil)
        · intro m b hm
          by_cases h3 : m = n
          · subst h3; rw [upd_same] at hm; cases hm
          · by_cases h4 : m = q
            · subst h4; rw [upd_other _ _ h3, upd_same] at hm; cases hm
            · rw [upd_other _ _ h3, upd_other _ _ h4] at hm
              have h5 : m ≠ f := fun h => by rw [h, hf f h1] at hm; cases hm
              rw [upd_other _ _ h3, upd_other _ _ h4, upd_other _ _ h3, upd_other _ _ h4, upd_other _ _ h5]
              exact hm
        · rw [upd_other _ _ (by omega), upd_other _ _ (by omega), upd_other _ _ (by omega), upd_other _ _ (by omega)]
          exact upd_same _ _ _
      · intro x hx
        rcases List.mem_append.1 hx with h | h
        · exact hG.hg x h
        · rw [List.mem_singleton.1 h]; exact hg
end

end Go.Proofs.YtipaiielkpifoaaDoor
