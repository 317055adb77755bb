/- Contracts over the abstract states: whether texts clash; the statement that roots tell leaves. -/
import Derived.Test.YtlbcgadmcjobiaaDoorS33
set_option linter.unusedVariables false
set_option linter.unusedSimpArgs false
set_option maxRecDepth 100000
namespace Go.Proofs.YtlbcgadmcjobiaaDoor
open Go Go.Ab

abbrev shs (l : List (List UInt8)) : List Dg := l.map shaD
theorem shs_at {l : List (List UInt8)} {i : Nat} (h : i < l.length) : (shs l).getD i (shaD []) = shaD (l.getD i []) := by
  rw [List.getD_eq_getElem?_getD, List.getElem?_map, List.getElem?_eq_getElem h, getD_el h]; rfl
theorem shs_take {l : List (List UInt8)} {i : Nat} (h : i < l.length) : shs (l.take (i + 1)) = shs (l.take i) ++ [shaD (l.getD i [])] := by
  rw [shs, take_el l [] h, List.map_append]; rfl
/-- Two texts clash. -/
def cl2 (l : List (List UInt8)) (a b : Nat) : Prop := shaD (l.getD a []) = shaD (l.getD b []) ∧ ¬ l.getD a [] = l.getD b []
theorem clash_yes {l : List (List UInt8)} {a b : Nat} (ha : a < l.length) (hb : b < l.length) (h : cl2 l a b) : clashT l = true :=
  decide_eq_true ⟨l.getD a [], by rw [getD_el ha]; exact List.getElem_mem _, l.getD b [], by rw [getD_el hb]; exact List.getElem_mem _, h.2, h.1⟩
theorem clash_no {l : List (List UInt8)} (h : ∀ a, a < l.length → ∀ b, b < a → ¬ cl2 l a b) : clashT l = false := by
  refine decide_eq_false ?_
  rintro ⟨x, hx, y, hy, hne, he⟩
  obtain ⟨a, ha, rfl⟩ := List.getElem_of_mem hx
  obtain ⟨b, hb, rfl⟩ := List.getElem_of_mem hy
  rw [← getD_el (d := []) ha, ← getD_el (d := []) hb] at hne he
  rcases Nat.lt_trichotomy a b with hl | hl | hl
  · exact h b hb a hl ⟨he.symm, fun e => hne e.symm⟩
  · subst hl; exact hne rfl
  · exact h a ha b hl ⟨he, hne⟩
section
variable (H : Hp) (k : Nat)

theorem clash_b (ls : List (List UInt8)) (vs : List Value) (A : Option Addr) (c : Nat) (hs : SLC H 1 A vs.length c vs) (hL : Lvs H vs ls) (hl : vs.length ≤ 1099511627776) (hb : ∀ x ∈ ls, x.length ≤ 549755813888) : ACalls Tryd.prog 1 24 [.slice A vs.length c] H k (Same H k (.bool (clashT ls))) := by
  refine ACalls.fresh fun hf => ?_
  refine ACalls.body Tryd.func24 rfl (Nat.le_of_ble_eq_true rfl) ?_
  have hvl := hL.len
  refine ACode.seq ?_
  refine ACode.region' [0] (by kernel_rfl) rfl ?_
  refine aOps_1 rfl rfl rfl (AOp.move' (.inr rfl) rfl ?_)
  refine aOps_end ?_
  show ACode _ _ _ _ _ _
  refine ACode.seq ?_
  refine ACode.region' [0] (by kernel_rfl) rfl ?_
  refine aOps_1 rfl rfl rfl (AOp.move' (.inr rfl) rfl ?_)
  refine aOps_end ?_
  show ACode _ _ _ _ _ _
  refine ACode.seq ?_
  refine ACode.seq ?_
  refine ACode.region' [0] (by kernel_rfl) rfl ?_
  refine aOps_1 rfl rfl rfl (AOp.move' (.inr rfl) rfl ?_)
  refine aOps_end ?_
  show ACode _ _ _ _ _ _
  refine ACode.block ?_
  refine ACode.adopt (t := 3) 24 32 (by decide) rfl ?_
  refine ACode.count (fun i => [(4, .int .i64 (i : Int)), (3, psl k (shs (ls.take i)))]) [(0, _), (2, _)] (fun i => upd H k (some (pbk 24 (shs (ls.take i))))) (vs.length) (fun _ => True) (.cons rfl (.cons rfl .nil)) (.cons rfl (.cons rfl .nil)) (by (repeat (first | exact sub_refl _ | assumption | refine sub_upd' ?_ (by ((repeat refine (upd_other _ _ (by omega)).trans ?_); first | exact hf _ (by omega))) | refine sub_over (by assumption) | refine sub_over0 ?_ | refine sub_trans (sub_same (by assumption)) ?_ | refine sub_dropu ?_ | refine sub_drop ?_ | refine sub_put ?_ (by repeat (first | assumption | exact upd_same _ _ _ | refine (upd_other _ _ (by omega)).trans ?_))))) trivial (fun i0 kL0 HL0 hiL0 hkL0 hsL0 hfL0 hxL0 => ?_)
  show ACode _ _ _ _ _ ⟨_, _, _⟩
  refine ACode.seq ?_
  refine ACode.seq ?_
  refine ACode.region' [0, 1, 2, 3] (by kernel_rfl) rfl ?_
  refine aOps_1 rfl rfl rfl (AOp.move' (.inl rfl) rfl ?_)
  refine aOps_1 rfl rfl rfl (AOp.move' (.inl rfl) rfl ?_)
  refine aOps_1 rfl rfl rfl (AOp.len' rfl rfl ?_)
  refine aOps_1 rfl rfl rfl (AOp.bin' rfl rfl rfl rfl ?_)
  refine aOps_end ?_
  show ACode _ _ _ _ _ _
  refine ACode.cond rfl (fun c0 => ?_) (fun c0 => ?_)
  · try simp only [decide_eq_true_eq, decide_eq_false_iff_not, beq_iff_eq, beq_eq_false_iff_ne, ne_eq, bne_iff_ne, Bool.not_eq_true', Bool.not_eq_false', Int.not_lt, Int.not_le, gt_iff_lt, ge_iff_le, bne_eq_false_iff_eq, Bool.not_eq_eq_eq_not, Bool.not_true, Bool.not_false] at c0
    refine ACode.skip ?_
    show ACode _ _ _ _ _ _
    refine ACode.seq ?_
    refine ACode.block ?_
    obtain ⟨A1, d1, e1, hc1⟩ := hL.at_ i0 (by omega)
    have hm : ls.getD i0 [] ∈ ls := by rw [getD_el (by omega)]; exact List.getElem_mem _
    have hpl : (shs (ls.take i0)).length ≤ vs.length := by rw [List.length_map, List.length_take]; omega
    obtain ⟨n5_3, o5_3, s5_3, hq5_3, hp5_3⟩ := e1 ▸ slcElV hs.cells (show i0 < vs.length by omega)
    refine ACode.region' [0, 1, 2, 3, 4, 5, 6, 7, 8] (by kernel_rfl) rfl ?_
    refine aOps_1 rfl rfl rfl (AOp.move' (.inl rfl) rfl ?_)
    refine aOps_1 rfl rfl rfl (AOp.move' (.inl rfl) rfl ?_)
    refine aOps_1 rfl rfl rfl (AOp.move' (.inl rfl) rfl ?_)
    refine aOps_1 rfl rfl rfl (AOp.indexP (aslcAt_sub (by (repeat (first | exact sub_refl _ | assumption | refine sub_upd' ?_ (by ((repeat refine (upd_other _ _ (by omega)).trans ?_); first | exact hf _ (by omega) | exact hfL0 _ (by omega))) | refine sub_trans ?_ hsL0 | refine sub_over (by assumption) | refine sub_over0 ?_ | refine sub_trans (sub_same (by assumption)) ?_ | refine sub_dropu ?_ | refine sub_drop ?_ | refine sub_put ?_ (by repeat (first | assumption | exact upd_same _ _ _ | refine (upd_other _ _ (by omega)).trans ?_ | refine hsL0 _ _ ?_))))) hq5_3) rfl rfl rfl ?_)
    refine aOps_1 rfl rfl rfl (AOp.loadP0 (hp5_3.sub (by (repeat (first | exact sub_refl _ | assumption | refine sub_upd' ?_ (by ((repeat refine (upd_other _ _ (by omega)).trans ?_); first | exact hf _ (by omega) | exact hfL0 _ (by omega))) | refine sub_trans ?_ hsL0 | refine sub_over (by assumption) | refine sub_over0 ?_ | refine sub_trans (sub_same (by assumption)) ?_ | refine sub_dropu ?_ | refine sub_drop ?_ | refine sub_put ?_ (by repeat (first | assumption | exact upd_same _ _ _ | refine (upd_other _ _ (by omega)).trans ?_ | refine hsL0 _ _ ?_)))))) rfl rfl rfl ?_)
    refine aOps_q rfl rfl rfl (AOp.call' rfl rfl rfl (refsum_b _ _ (ls.getD i0 []) A1 d1 (hc1.sub (by (repeat (first | exact sub_refl _ | assumption | refine sub_upd' ?_ (by ((repeat refine (upd_other _ _ (by omega)).trans ?_); first | exact hf _ (by omega) | exact hfL0 _ (by omega))) | refine sub_trans ?_ hsL0 | refine sub_over (by assumption) | refine sub_over0 ?_ | refine sub_trans (sub_same (by assumption)) ?_ | refine sub_dropu ?_ | refine sub_drop ?_ | refine sub_put ?_ (by repeat (first | assumption | exact upd_same _ _ _ | refine (upd_other _ _ (by omega)).trans ?_ | refine hsL0 _ _ ?_)))))) (hb _ hm)) (fun _ _ _ h => h)) (fun kq hkq => ?_)
    refine aOps_1 rfl rfl rfl (AOp.buildD _ rfl rfl ?_)
    refine aOps_1 rfl rfl rfl (AOp.appendP (shs (ls.take i0)) [shaD (ls.getD i0 [])] rfl rfl rfl (by repeat (first | assumption | exact upd_same _ _ _ | refine (upd_other _ _ (by omega)).trans ?_ | refine hsL0 _ _ ?_)) (by repeat (first | assumption | exact upd_same _ _ _ | refine (upd_other _ _ (by omega)).trans ?_ | refine hsL0 _ _ ?_)) (by rw [List.length_singleton]; omega) (by rw [List.length_singleton]; omega) ?_)
    refine aOps_1 rfl rfl rfl (AOp.move' (.inr rfl) rfl ?_)
    refine aOps_end ?_
    show ACode _ _ _ _ _ _
    refine ACode.region' [0, 1, 2] (by kernel_rfl) rfl ?_
    refine aOps_1 rfl rfl rfl (AOp.move' (.inl rfl) rfl ?_)
    refine aOps_1 rfl rfl rfl (AOp.add rfl rfl rfl (i64_wrap (by omega) (by omega)) ?_)
    refine aOps_1 rfl rfl rfl (AOp.move' (.inr rfl) rfl ?_)
    refine aOps_end ?_
    have e4 := shs_take (l := ls) (i := i0) (by omega)
    first | refine thenA_n ?_ | simp only [thenA, blockA, if_true]
    exact NextR.mk (by omega) (by omega) (.cons rfl (.cons (show _ = some (psl k _) by rw [e4]; rfl) .nil)) (.cons rfl (.cons rfl .nil)) (by rw [e4]; (repeat (first | exact sub_refl _ | assumption | refine sub_upd' ?_ (by ((repeat refine (upd_other _ _ (by omega)).trans ?_); first | exact hf _ (by omega) | exact hfL0 _ (by omega))) | refine sub_trans ?_ hsL0 | refine sub_over (by assumption) | refine sub_over0 ?_ | refine sub_trans (sub_same (by assumption)) ?_ | refine sub_dropu ?_ | refine sub_drop ?_ | refine sub_put ?_ (by repeat (first | assumption | exact upd_same _ _ _ | refine (upd_other _ _ (by omega)).trans ?_ | refine hsL0 _ _ ?_))))) trivial
  · try simp only [decide_eq_true_eq, decide_eq_false_iff_not, beq_iff_eq, beq_eq_false_iff_ne, ne_eq, bne_iff_ne, Bool.not_eq_true', Bool.not_eq_false', Int.not_lt, Int.not_le, gt_iff_lt, ge_iff_le, bne_eq_false_iff_eq, Bool.not_eq_eq_eq_not, Bool.not_true, Bool.not_false] at c0
    refine ACode.exit ?_
    show ACode _ _ _ _ _ _
    refine ACode.seq ?_
    refine ACode.seq ?_
    refine ACode.region' [0] (by kernel_rfl) rfl ?_
    refine aOps_1 rfl rfl rfl (AOp.move' (.inr rfl) rfl ?_)
    refine aOps_end ?_
    show ACode _ _ _ _ _ _
    refine ACode.block ?_
    have et : ls.take i0 = ls := List.take_of_length_le (by omega)
    rw [et] at hsL0
    rw [et]
    have hP : SLC HL0 32 (some ⟨k, 0, some 1⟩) (shs ls).length (shs ls).length (hcs (shs ls)) := SLC.pbk (hsL0 _ _ (upd_same _ _ _))
    have hsl : (shs ls).length = ls.length := List.length_map _
    refine ACode.count0 (fun i => [(5, .int .i64 (i : Int))]) [(0, _), (3, _), (4, _), (7, _), (8, _), (9, _), (10, _)] (vs.length) (fun i => ∀ a, a < i → ∀ b, b < a → ¬ cl2 ls a b) (.cons rfl .nil) (.cons rfl (.cons rfl (.cons rfl (.cons rfl (.cons rfl (.cons rfl (.cons rfl .nil))))))) (fun a ha => by omega) (fun i1 kL1 HL1 hiL1 hkL1 hsL1 hfL1 hxL1 => ?_)
    show ACode _ _ _ _ _ ⟨_, _, _⟩
    refine ACode.seq ?_
    refine ACode.seq ?_
    refine ACode.region' [0, 1, 2, 3] (by kernel_rfl) rfl ?_
    refine aOps_1 rfl rfl rfl (AOp.move' (.inl rfl) rfl ?_)
    refine aOps_1 rfl rfl rfl (AOp.move' (.inl rfl) rfl ?_)
    refine aOps_1 rfl rfl rfl (AOp.len' rfl rfl ?_)
    refine aOps_1 rfl rfl rfl (AOp.bin' rfl rfl rfl rfl ?_)
    refine aOps_end ?_
    show ACode _ _ _ _ _ _
    refine ACode.cond rfl (fun c1 => ?_) (fun c1 => ?_)
    · try simp only [decide_eq_true_eq, decide_eq_false_iff_not, beq_iff_eq, beq_eq_false_iff_ne, ne_eq, bne_iff_ne, Bool.not_eq_true', Bool.not_eq_false', Int.not_lt, Int.not_le, gt_iff_lt, ge_iff_le, bne_eq_false_iff_eq, Bool.not_eq_eq_eq_not, Bool.not_true, Bool.not_false] at c1
      refine ACode.skip ?_
      show ACode _ _ _ _ _ _
      refine ACode.seq ?_
      refine ACode.block ?_
      refine ACode.seq ?_
      refine ACode.region' [0] (by kernel_rfl) rfl ?_
      refine aOps_1 rfl rfl rfl (AOp.move' (.inr rfl) rfl ?_)
      refine aOps_end ?_
      show ACode _ _ _ _ _ _
      refine ACode.block ?_
      refine ACode.count0 (fun i => [(6, .int .i64 (i : Int))]) [(0, _), (3, _), (4, _), (5, _), (7, _), (8, _), (9, _), (10, _), (21, _), (22, _), (23, _), (24, _)] (i1) (fun i => ∀ b, b < i → ¬ cl2 ls i1 b) (.cons rfl .nil) (.cons rfl (.cons rfl (.cons rfl (.cons rfl (.cons rfl (.cons rfl (.cons rfl (.cons rfl (.cons rfl (.cons rfl (.cons rfl (.cons rfl .nil)))))))))))) (fun b hb => by omega) (fun i2 kL2 HL2 hiL2 hkL2 hsL2 hfL2 hxL2 => ?_)
      show ACode _ _ _ _ _ ⟨_, _, _⟩
      refine ACode.seq ?_
      refine ACode.seq ?_
      refine ACode.region' [0, 1, 2] (by kernel_rfl) rfl ?_
      refine aOps_1 rfl rfl rfl (AOp.move' (.inl rfl) rfl ?_)
      refine aOps_1 rfl rfl rfl (AOp.move' (.inl rfl) rfl ?_)
      refine aOps_1 rfl rfl rfl (AOp.bin' rfl rfl rfl rfl ?_)
      refine aOps_end ?_
      show ACode _ _ _ _ _ _
      refine ACode.cond rfl (fun c2 => ?_) (fun c2 => ?_)
      · try simp only [decide_eq_true_eq, decide_eq_false_iff_not, beq_iff_eq, beq_eq_false_iff_ne, ne_eq, bne_iff_ne, Bool.not_eq_true', Bool.not_eq_false', Int.not_lt, Int.not_le, gt_iff_lt, ge_iff_le, bne_eq_false_iff_eq, Bool.not_eq_eq_eq_not, Bool.not_true, Bool.not_false] at c2
        refine ACode.skip ?_
        show ACode _ _ _ _ _ _
        refine ACode.seq ?_
        refine ACode.block ?_
        refine ACode.seq ?_
        obtain ⟨A1, d1, e1, hc1⟩ := hL.at_ i1 (by omega)
        obtain ⟨A2, d2, e2, hc2⟩ := hL.at_ i2 (by omega)
        obtain ⟨n12_2, o12_2, s12_2, hq12_2, hp12_2⟩ := SLC.elH hP (shaD []) (show i1 < (shs ls).length by omega)
        obtain ⟨n12_6, o12_6, s12_6, hq12_6, hp12_6⟩ := SLC.elH hP (shaD []) (show i2 < (shs ls).length by omega)
        obtain ⟨n12_12, o12_12, s12_12, hq12_12, hp12_12⟩ := e1 ▸ slcElV hs.cells (show i1 < vs.length by omega)
        obtain ⟨n12_17, o12_17, s12_17, hq12_17, hp12_17⟩ := e2 ▸ slcElV hs.cells (show i2 < vs.length by omega)
        refine ACode.draw' 22 [(0, 32), (1, 33), (2, 34), (3, 35), (4, 36), (5, 37), (6, 38), (7, 39), (8, 40), (9, 41), (10, 42), (11, 43), (12, 44), (13, 45), (14, 46), (15, 47), (16, 48), (17, 49), (18, 50), (19, 51), (20, 52), (21, 53)] mixed (by kernel_rfl) ?_
        refine Draw.step [(3, none)] rfl (by kernel_rfl) rfl (fun kq hkq => AOp.move' (.inl rfl) rfl ⟨rfl, rfl, Nat.le_refl _⟩) ?_
        refine Draw.step [(5, none)] rfl (by kernel_rfl) rfl (fun kq hkq => AOp.move' (.inl rfl) rfl ⟨rfl, rfl, Nat.le_refl _⟩) ?_
        refine Draw.step [(32, some 0), (33, some 1)] rfl (by kernel_rfl) rfl (fun kq hkq => AOp.indexP (aslcAt_sub (by (repeat (first | exact sub_refl _ | assumption | refine sub_upd' ?_ (by ((repeat refine (upd_other _ _ (by omega)).trans ?_); first | exact hf _ (by omega) | exact hfL0 _ (by omega) | exact hfL1 _ (by omega) | exact hfL2 _ (by omega))) | refine sub_trans ?_ hsL2 | refine sub_trans ?_ hsL1 | refine sub_trans ?_ hsL0 | refine sub_over (by assumption) | refine sub_over0 ?_ | refine sub_trans (sub_same (by assumption)) ?_ | refine sub_dropu ?_ | refine sub_drop ?_ | refine sub_put ?_ (by repeat (first | assumption | exact upd_same _ _ _ | refine (upd_other _ _ (by omega)).trans ?_ | refine hsL2 _ _ ?_ | refine hsL1 _ _ ?_ | refine hsL0 _ _ ?_))))) hq12_2) rfl rfl rfl ⟨rfl, rfl, Nat.le_refl _⟩) ?_
        refine Draw.step [(34, some 2)] rfl (by kernel_rfl) rfl (fun kq hkq => AOp.loadPA (v := hv ((shs ls).getD i1 (shaD []))) (hp12_2.sub (by (repeat (first | exact sub_refl _ | assumption | refine sub_upd' ?_ (by ((repeat refine (upd_other _ _ (by omega)).trans ?_); first | exact hf _ (by omega) | exact hfL0 _ (by omega) | exact hfL1 _ (by omega) | exact hfL2 _ (by omega))) | refine sub_trans ?_ hsL2 | refine sub_trans ?_ hsL1 | refine sub_trans ?_ hsL0 | refine sub_over (by assumption) | refine sub_over0 ?_ | refine sub_trans (sub_same (by assumption)) ?_ | refine sub_dropu ?_ | refine sub_drop ?_ | refine sub_put ?_ (by repeat (first | assumption | exact upd_same _ _ _ | refine (upd_other _ _ (by omega)).trans ?_ | refine hsL2 _ _ ?_ | refine hsL1 _ _ ?_ | refine hsL0 _ _ ?_)))))) rfl rfl rfl rfl (by first | rfl | exact hv_size _ | exact hcs_one _ | exact (aw_size _).trans rfl | exact one_wv _ | exact one_bv _ | (simp; done)) (by decide) ⟨rfl, rfl, Nat.le_refl _⟩) ?_
        refine Draw.step [(3, none)] rfl (by kernel_rfl) rfl (fun kq hkq => AOp.move' (.inl rfl) rfl ⟨rfl, rfl, Nat.le_refl _⟩) ?_
        refine Draw.step [(6, none)] rfl (by kernel_rfl) rfl (fun kq hkq => AOp.move' (.inl rfl) rfl ⟨rfl, rfl, Nat.le_refl _⟩) ?_
        refine Draw.step [(36, some 4), (37, some 5)] rfl (by kernel_rfl) rfl (fun kq hkq => AOp.indexP (aslcAt_sub (by (repeat (first | exact sub_refl _ | assumption | refine sub_upd' ?_ (by ((repeat refine (upd_other _ _ (by omega)).trans ?_); first | exact hf _ (by omega) | exact hfL0 _ (by omega) | exact hfL1 _ (by omega) | exact hfL2 _ (by omega))) | refine sub_trans ?_ hsL2 | refine sub_trans ?_ hsL1 | refine sub_trans ?_ hsL0 | refine sub_over (by assumption) | refine sub_over0 ?_ | refine sub_trans (sub_same (by assumption)) ?_ | refine sub_dropu ?_ | refine sub_drop ?_ | refine sub_put ?_ (by repeat (first | assumption | exact upd_same _ _ _ | refine (upd_other _ _ (by omega)).trans ?_ | refine hsL2 _ _ ?_ | refine hsL1 _ _ ?_ | refine hsL0 _ _ ?_))))) hq12_6) rfl rfl rfl ⟨rfl, rfl, Nat.le_refl _⟩) ?_
        refine Draw.step [(38, some 6)] rfl (by kernel_rfl) rfl (fun kq hkq => AOp.loadPA (v := hv ((shs ls).getD i2 (shaD []))) (hp12_6.sub (by (repeat (first | exact sub_refl _ | assumption | refine sub_upd' ?_ (by ((repeat refine (upd_other _ _ (by omega)).trans ?_); first | exact hf _ (by omega) | exact hfL0 _ (by omega) | exact hfL1 _ (by omega) | exact hfL2 _ (by omega))) | refine sub_trans ?_ hsL2 | refine sub_trans ?_ hsL1 | refine sub_trans ?_ hsL0 | refine sub_over (by assumption) | refine sub_over0 ?_ | refine sub_trans (sub_same (by assumption)) ?_ | refine sub_dropu ?_ | refine sub_drop ?_ | refine sub_put ?_ (by repeat (first | assumption | exact upd_same _ _ _ | refine (upd_other _ _ (by omega)).trans ?_ | refine hsL2 _ _ ?_ | refine hsL1 _ _ ?_ | refine hsL0 _ _ ?_)))))) rfl rfl rfl rfl (by first | rfl | exact hv_size _ | exact hcs_one _ | exact (aw_size _).trans rfl | exact one_wv _ | exact one_bv _ | (simp; done)) (by decide) ⟨rfl, rfl, Nat.le_refl _⟩) ?_
        refine Draw.step [(35, some 3), (39, some 7)] rfl (by kernel_rfl) rfl (fun kq hkq => AOp.eqAgg (decide ((shs ls).getD i1 (shaD []) = (shs ls).getD i2 (shaD []))) rfl rfl rfl (hv_sc _) (hv_sc _) (hv_iff _ _) ⟨rfl, rfl, Nat.le_refl _⟩) ?_
        refine Draw.step [(40, some 8)] rfl (by kernel_rfl) rfl (fun kq hkq => AOp.move' (.inl rfl) rfl ⟨rfl, rfl, Nat.le_refl _⟩) ?_
        refine Draw.gd [(0, none), (41, some 9)] rfl (by kernel_rfl) (wantT rfl rfl rfl) (fun kq hkq hc => AOp.slots [(0, _)] (.cons rfl .nil) (AOp.move' (.inl rfl) rfl ⟨rfl, rfl, Nat.le_refl _⟩)) ?_
        refine Draw.gd [(5, none), (41, some 9)] rfl (by kernel_rfl) (wantT rfl rfl rfl) (fun kq hkq hc => AOp.slots [(5, _)] (.cons rfl .nil) (AOp.move' (.inl rfl) rfl ⟨rfl, rfl, Nat.le_refl _⟩)) ?_
        refine Draw.gd [(42, some 10), (43, some 11), (41, some 9)] rfl (by kernel_rfl) (wantT rfl rfl rfl) (fun kq hkq hc => AOp.slots [(42, _), (43, _)] (.cons (gvT rfl hc) (.cons (gvT rfl hc) .nil)) (AOp.indexP (aslcAt_sub (by (repeat (first | exact sub_refl _ | assumption | refine sub_upd' ?_ (by ((repeat refine (upd_other _ _ (by omega)).trans ?_); first | exact hf _ (by omega) | exact hfL0 _ (by omega) | exact hfL1 _ (by omega) | exact hfL2 _ (by omega))) | refine sub_trans ?_ hsL2 | refine sub_trans ?_ hsL1 | refine sub_trans ?_ hsL0 | refine sub_over (by assumption) | refine sub_over0 ?_ | refine sub_trans (sub_same (by assumption)) ?_ | refine sub_dropu ?_ | refine sub_drop ?_ | refine sub_put ?_ (by repeat (first | assumption | exact upd_same _ _ _ | refine (upd_other _ _ (by omega)).trans ?_ | refine hsL2 _ _ ?_ | refine hsL1 _ _ ?_ | refine hsL0 _ _ ?_))))) hq12_12) rfl rfl rfl ⟨rfl, rfl, Nat.le_refl _⟩)) ?_
        refine Draw.gd [(44, some 12), (41, some 9)] rfl (by kernel_rfl) (wantT rfl rfl rfl) (fun kq hkq hc => AOp.slots [(44, _)] (.cons (gvT rfl hc) .nil) (AOp.loadP0 (hp12_12.sub (by (repeat (first | exact sub_refl _ | assumption | refine sub_upd' ?_ (by ((repeat refine (upd_other _ _ (by omega)).trans ?_); first | exact hf _ (by omega) | exact hfL0 _ (by omega) | exact hfL1 _ (by omega) | exact hfL2 _ (by omega))) | refine sub_trans ?_ hsL2 | refine sub_trans ?_ hsL1 | refine sub_trans ?_ hsL0 | refine sub_over (by assumption) | refine sub_over0 ?_ | refine sub_trans (sub_same (by assumption)) ?_ | refine sub_dropu ?_ | refine sub_drop ?_ | refine sub_put ?_ (by repeat (first | assumption | exact upd_same _ _ _ | refine (upd_other _ _ (by omega)).trans ?_ | refine hsL2 _ _ ?_ | refine hsL1 _ _ ?_ | refine hsL0 _ _ ?_)))))) rfl rfl rfl ⟨rfl, rfl, Nat.le_refl _⟩)) ?_
        refine Draw.gd [(45, some 13), (41, some 9)] rfl (by kernel_rfl) (wantT rfl rfl rfl) (fun kq hkq hc => AOp.slots [(45, _)] (.cons (gvT rfl hc) .nil) (AOp.toStr (bs := ls.getD i1 []) (SLC.cells (hc1.sub (by (repeat (first | exact sub_refl _ | assumption | refine sub_upd' ?_ (by ((repeat refine (upd_other _ _ (by omega)).trans ?_); first | exact hf _ (by omega) | exact hfL0 _ (by omega) | exact hfL1 _ (by omega) | exact hfL2 _ (by omega))) | refine sub_trans ?_ hsL2 | refine sub_trans ?_ hsL1 | refine sub_trans ?_ hsL0 | refine sub_over (by assumption) | refine sub_over0 ?_ | refine sub_trans (sub_same (by assumption)) ?_ | refine sub_dropu ?_ | refine sub_drop ?_ | refine sub_put ?_ (by repeat (first | assumption | exact upd_same _ _ _ | refine (upd_other _ _ (by omega)).trans ?_ | refine hsL2 _ _ ?_ | refine hsL1 _ _ ?_ | refine hsL0 _ _ ?_))))))) rfl rfl ⟨rfl, rfl, Nat.le_refl _⟩)) ?_
        refine Draw.gd [(0, none), (41, some 9)] rfl (by kernel_rfl) (wantT rfl rfl rfl) (fun kq hkq hc => AOp.slots [(0, _)] (.cons rfl .nil) (AOp.move' (.inl rfl) rfl ⟨rfl, rfl, Nat.le_refl _⟩)) ?_
        refine Draw.gd [(6, none), (41, some 9)] rfl (by kernel_rfl) (wantT rfl rfl rfl) (fun kq hkq hc => AOp.slots [(6, _)] (.cons rfl .nil) (AOp.move' (.inl rfl) rfl ⟨rfl, rfl, Nat.le_refl _⟩)) ?_
        refine Draw.gd [(47, some 15), (48, some 16), (41, some 9)] rfl (by kernel_rfl) (wantT rfl rfl rfl) (fun kq hkq hc => AOp.slots [(47, _), (48, _)] (.cons (gvT rfl hc) (.cons (gvT rfl hc) .nil)) (AOp.indexP (aslcAt_sub (by (repeat (first | exact sub_refl _ | assumption | refine sub_upd' ?_ (by ((repeat refine (upd_other _ _ (by omega)).trans ?_); first | exact hf _ (by omega) | exact hfL0 _ (by omega) | exact hfL1 _ (by omega) | exact hfL2 _ (by omega))) | refine sub_trans ?_ hsL2 | refine sub_trans ?_ hsL1 | refine sub_trans ?_ hsL0 | refine sub_over (by assumption) | refine sub_over0 ?_ | refine sub_trans (sub_same (by assumption)) ?_ | refine sub_dropu ?_ | refine sub_drop ?_ | refine sub_put ?_ (by repeat (first | assumption | exact upd_same _ _ _ | refine (upd_other _ _ (by omega)).trans ?_ | refine hsL2 _ _ ?_ | refine hsL1 _ _ ?_ | refine hsL0 _ _ ?_))))) hq12_17) rfl rfl rfl ⟨rfl, rfl, Nat.le_refl _⟩)) ?_
        refine Draw.gd [(49, some 17), (41, some 9)] rfl (by kernel_rfl) (wantT rfl rfl rfl) (fun kq hkq hc => AOp.slots [(49, _)] (.cons (gvT rfl hc) .nil) (AOp.loadP0 (hp12_17.sub (by (repeat (first | exact sub_refl _ | assumption | refine sub_upd' ?_ (by ((repeat refine (upd_other _ _ (by omega)).trans ?_); first | exact hf _ (by omega) | exact hfL0 _ (by omega) | exact hfL1 _ (by omega) | exact hfL2 _ (by omega))) | refine sub_trans ?_ hsL2 | refine sub_trans ?_ hsL1 | refine sub_trans ?_ hsL0 | refine sub_over (by assumption) | refine sub_over0 ?_ | refine sub_trans (sub_same (by assumption)) ?_ | refine sub_dropu ?_ | refine sub_drop ?_ | refine sub_put ?_ (by repeat (first | assumption | exact upd_same _ _ _ | refine (upd_other _ _ (by omega)).trans ?_ | refine hsL2 _ _ ?_ | refine hsL1 _ _ ?_ | refine hsL0 _ _ ?_)))))) rfl rfl rfl ⟨rfl, rfl, Nat.le_refl _⟩)) ?_
        refine Draw.gd [(50, some 18), (41, some 9)] rfl (by kernel_rfl) (wantT rfl rfl rfl) (fun kq hkq hc => AOp.slots [(50, _)] (.cons (gvT rfl hc) .nil) (AOp.toStr (bs := ls.getD i2 []) (SLC.cells (hc2.sub (by (repeat (first | exact sub_refl _ | assumption | refine sub_upd' ?_ (by ((repeat refine (upd_other _ _ (by omega)).trans ?_); first | exact hf _ (by omega) | exact hfL0 _ (by omega) | exact hfL1 _ (by omega) | exact hfL2 _ (by omega))) | refine sub_trans ?_ hsL2 | refine sub_trans ?_ hsL1 | refine sub_trans ?_ hsL0 | refine sub_over (by assumption) | refine sub_over0 ?_ | refine sub_trans (sub_same (by assumption)) ?_ | refine sub_dropu ?_ | refine sub_drop ?_ | refine sub_put ?_ (by repeat (first | assumption | exact upd_same _ _ _ | refine (upd_other _ _ (by omega)).trans ?_ | refine hsL2 _ _ ?_ | refine hsL1 _ _ ?_ | refine hsL0 _ _ ?_))))))) rfl rfl ⟨rfl, rfl, Nat.le_refl _⟩)) ?_
        refine Draw.gd [(46, some 14), (51, some 19), (41, some 9)] rfl (by kernel_rfl) (wantT rfl rfl rfl) (fun kq hkq hc => AOp.slots [(46, _), (51, _)] (.cons (gvT rfl hc) (.cons (gvT rfl hc) .nil)) (AOp.neS (ls.getD i1 []) (ls.getD i2 []) rfl rfl rfl ⟨rfl, rfl, Nat.le_refl _⟩)) ?_
        refine Draw.step [(41, some 9), (52, some 20)] rfl (by kernel_rfl) rfl (fun kq hkq => AOp.pickAnd rfl rfl rfl (fun hb => gvE rfl hb) ⟨rfl, rfl, Nat.le_refl _⟩) ?_
        refine Draw.done fun kq hkq => ?_
        show aOps _ _ _ _ [] ⟨_, _, _⟩
        refine aOps_end ?_
        show ACode _ _ _ _ _ _
        refine ACode.cond rfl (fun c3 => ?_) (fun c3 => ?_)
        · try simp only [decide_eq_true_eq, decide_eq_false_iff_not, beq_iff_eq, beq_eq_false_iff_ne, ne_eq, bne_iff_ne, Bool.not_eq_true', Bool.not_eq_false', Int.not_lt, Int.not_le, gt_iff_lt, ge_iff_le, bne_eq_false_iff_eq, Bool.not_eq_eq_eq_not, Bool.not_true, Bool.not_false] at c3
          simp only [Bool.and_eq_true, decide_eq_true_eq, Bool.not_eq_true', decide_eq_false_iff_not] at c3
          rw [shs_at (by omega), shs_at (by omega)] at c3
          have hyes := clash_yes (l := ls) (a := i1) (b := i2) (by omega) (by omega) c3
          refine ACode.seq ?_
          refine ACode.region' [0] (by kernel_rfl) rfl ?_
          refine aOps_1 rfl rfl rfl (AOp.move' (.inr rfl) rfl ?_)
          refine aOps_end ?_
          show ACode _ _ _ _ _ _
          refine ACode.ret ?_
          exact RetQ.one rfl rfl (by (repeat (first | exact sub_refl _ | assumption | refine sub_upd' ?_ (by ((repeat refine (upd_other _ _ (by omega)).trans ?_); first | exact hf _ (by omega) | exact hfL0 _ (by omega) | exact hfL1 _ (by omega) | exact hfL2 _ (by omega))) | refine sub_trans ?_ hsL2 | refine sub_trans ?_ hsL1 | refine sub_trans ?_ hsL0 | refine sub_over (by assumption) | refine sub_over0 ?_ | refine sub_trans (sub_same (by assumption)) ?_ | refine sub_dropu ?_ | refine sub_drop ?_ | refine sub_put ?_ (by repeat (first | assumption | exact upd_same _ _ _ | refine (upd_other _ _ (by omega)).trans ?_ | refine hsL2 _ _ ?_ | refine hsL1 _ _ ?_ | refine hsL0 _ _ ?_))))) stays (fun hk => ⟨(by rw [hyes]), rfl, by omega⟩)
        · try simp only [decide_eq_true_eq, decide_eq_false_iff_not, beq_iff_eq, beq_eq_false_iff_ne, ne_eq, bne_iff_ne, Bool.not_eq_true', Bool.not_eq_false', Int.not_lt, Int.not_le, gt_iff_lt, ge_iff_le, bne_eq_false_iff_eq, Bool.not_eq_eq_eq_not, Bool.not_true, Bool.not_false] at c3
          have hnc : ¬ cl2 ls i1 i2 := by { rintro ⟨g1, g2⟩; rw [shs_at (by omega), shs_at (by omega), decide_eq_true g1, decide_eq_false g2] at c3; cases c3 }
          refine ACode.skip ?_
          show ACode _ _ _ _ _ _
          refine ACode.region' [0, 1, 2] (by kernel_rfl) rfl ?_
          refine aOps_1 rfl rfl rfl (AOp.move' (.inl rfl) rfl ?_)
          refine aOps_1 rfl rfl rfl (AOp.add rfl rfl rfl (i64_wrap (by omega) (by omega)) ?_)
          refine aOps_1 rfl rfl rfl (AOp.move' (.inr rfl) rfl ?_)
          refine aOps_end ?_
          first | refine thenA_n ?_ | simp only [thenA, blockA, if_true]
          exact NextR.mk (by omega) (by omega) (.cons rfl .nil) (.cons rfl (.cons rfl (.cons rfl (.cons rfl (.cons rfl (.cons rfl (.cons rfl (.cons rfl (.cons rfl (.cons rfl (.cons rfl (.cons rfl .nil)))))))))))) (by (repeat (first | exact sub_refl _ | assumption | refine sub_upd' ?_ (by ((repeat refine (upd_other _ _ (by omega)).trans ?_); first | exact hf _ (by omega) | exact hfL0 _ (by omega) | exact hfL1 _ (by omega) | exact hfL2 _ (by omega))) | refine sub_trans ?_ hsL2 | refine sub_trans ?_ hsL1 | refine sub_trans ?_ hsL0 | refine sub_over (by assumption) | refine sub_over0 ?_ | refine sub_trans (sub_same (by assumption)) ?_ | refine sub_dropu ?_ | refine sub_drop ?_ | refine sub_put ?_ (by repeat (first | assumption | exact upd_same _ _ _ | refine (upd_other _ _ (by omega)).trans ?_ | refine hsL2 _ _ ?_ | refine hsL1 _ _ ?_ | refine hsL0 _ _ ?_))))) (fun b hb => by rcases Nat.lt_succ_iff_lt_or_eq.1 hb with h | h; exact hxL2 b h; subst h; exact hnc)
      · try simp only [decide_eq_true_eq, decide_eq_false_iff_not, beq_iff_eq, beq_eq_false_iff_ne, ne_eq, bne_iff_ne, Bool.not_eq_true', Bool.not_eq_false', Int.not_lt, Int.not_le, gt_iff_lt, ge_iff_le, bne_eq_false_iff_eq, Bool.not_eq_eq_eq_not, Bool.not_true, Bool.not_false] at c2
        refine ACode.exit ?_
        show ACode _ _ _ _ _ _
        refine ACode.region' [0, 1, 2] (by kernel_rfl) rfl ?_
        refine aOps_1 rfl rfl rfl (AOp.move' (.inl rfl) rfl ?_)
        refine aOps_1 rfl rfl rfl (AOp.add rfl rfl rfl (i64_wrap (by omega) (by omega)) ?_)
        refine aOps_1 rfl rfl rfl (AOp.move' (.inr rfl) rfl ?_)
        refine aOps_end ?_
        first | refine thenA_n ?_ | simp only [thenA, blockA, if_true]
        exact NextR.mk (by omega) (by omega) (.cons rfl .nil) (.cons rfl (.cons rfl (.cons rfl (.cons rfl (.cons rfl (.cons rfl (.cons rfl .nil))))))) (by (repeat (first | exact sub_refl _ | assumption | refine sub_upd' ?_ (by ((repeat refine (upd_other _ _ (by omega)).trans ?_); first | exact hf _ (by omega) | exact hfL0 _ (by omega) | exact hfL1 _ (by omega) | exact hfL2 _ (by omega))) | refine sub_trans ?_ hsL2 | refine sub_trans ?_ hsL1 | refine sub_trans ?_ hsL0 | refine sub_over (by assumption) | refine sub_over0 ?_ | refine sub_trans (sub_same (by assumption)) ?_ | refine sub_dropu ?_ | refine sub_drop ?_ | refine sub_put ?_ (by repeat (first | assumption | exact upd_same _ _ _ | refine (upd_other _ _ (by omega)).trans ?_ | refine hsL2 _ _ ?_ | refine hsL1 _ _ ?_ | refine hsL0 _ _ ?_))))) (fun a ha b hb => by rcases Nat.lt_succ_iff_lt_or_eq.1 ha with h | h; exact hxL1 a h b hb; subst h; exact hxL2 b (by omega))
    · try simp only [decide_eq_true_eq, decide_eq_false_iff_not, beq_iff_eq, beq_eq_false_iff_ne, ne_eq, bne_iff_ne, Bool.not_eq_true', Bool.not_eq_false', Int.not_lt, Int.not_le, gt_iff_lt, ge_iff_le, bne_eq_false_iff_eq, Bool.not_eq_eq_eq_not, Bool.not_true, Bool.not_false] at c1
      refine ACode.exit ?_
      show ACode _ _ _ _ _ _
      refine ACode.seq ?_
      refine ACode.region' [0] (by kernel_rfl) rfl ?_
      refine aOps_1 rfl rfl rfl (AOp.move' (.inr rfl) rfl ?_)
      refine aOps_end ?_
      show ACode _ _ _ _ _ _
      refine ACode.ret ?_
      exact RetQ.one rfl rfl (by (repeat (first | exact sub_refl _ | assumption | refine sub_upd' ?_ (by ((repeat refine (upd_other _ _ (by omega)).trans ?_); first | exact hf _ (by omega) | exact hfL0 _ (by omega) | exact hfL1 _ (by omega))) | refine sub_trans ?_ hsL1 | refine sub_trans ?_ hsL0 | refine sub_over (by assumption) | refine sub_over0 ?_ | refine sub_trans (sub_same (by assumption)) ?_ | refine sub_dropu ?_ | refine sub_drop ?_ | refine sub_put ?_ (by repeat (first | assumption | exact upd_same _ _ _ | refine (upd_other _ _ (by omega)).trans ?_ | refine hsL1 _ _ ?_ | refine hsL0 _ _ ?_))))) stays (fun hk => ⟨(by rw [clash_no fun a ha b hb => hxL1 a (by omega) b hb]), rfl, by omega⟩)
end

end Go.Proofs.YtlbcgadmcjobiaaDoor
