/- Contracts over the abstract states: the document's forms and head; an entry is added, or not; the example of ledgers. -/
import Derived.Test.YtipaiielkpifoaaDoorL16
set_option linter.unusedVariables false
set_option linter.unusedSimpArgs false
set_option maxRecDepth 100000
namespace Go.Proofs.YtipaiielkpifoaaDoor
open Go Go.Ab

/-- Entries' cells, one behind the other. -/
abbrev ecs (es : List Ent) : List Value := es.flatMap entc
theorem SLC.elE {H : Hp} {c0 i : Nat} {A0 : Option Addr} {es : List Ent} (hS : SLC H 65 A0 es.length c0 (ecs es)) (hi : i < es.length) :
    ∃ n off sp, aslcAt H 65 i (.slice A0 es.length c0) = some (ptr n off sp) ∧ PAt H n off sp (entc (es.getD i eD)) := by
  obtain ⟨n, off, sp, h1, h2⟩ := slcEl hS.cells entc_len (by decide) hi
  rw [← getD_el (d := eD) hi] at h2
  exact ⟨n, off, sp, h1, h2⟩
abbrev e1 : Ent := ⟨zeroD, 1, zeroD⟩
theorem awkL : decide (headD 1 (root [formB e1]) = headD 0 (root [])) = false := by
  rw [root_one, root_nil, formB, show e1.g.toNat = 1 from rfl, varB_small (by decide)]
  exact decide_eq_false fun h => absurd (congrArg Dg.l h) (by decide +kernel)
def goodL (e : Ent) : List Ent := if good e then [e] else []
section
variable (H : Hp) (k : Nat)

theorem refforms (es : List Ent) (A : Option Addr) (c : Nat) (hs : SLC H 65 A es.length c (ecs es)) (hg : ∀ e ∈ es, good e = true) (hm : es.length ≤ 1000000000) : ACalls Tryd.prog 1 23 [.slice A es.length c] H k (NewF H k (forms es)) := by
  refine ACalls.fresh fun hf => ?_
  refine ACalls.body Tryd.func23 rfl (Nat.le_of_ble_eq_true rfl) ?_
  refine ACode.seq ?_
  refine ACode.region' [0] (by kernel_rfl) rfl ?_
  refine aOps_1 rfl rfl rfl (AOp.move' (.inr rfl) rfl ?_)
  refine aOps_end ?_
  show ACode _ _ _ _ _ _
  refine ACode.seq ?_
  refine ACode.region' [0] (by kernel_rfl) rfl ?_
  refine aOps_1 rfl rfl rfl (AOp.move' (.inr rfl) rfl ?_)
  refine aOps_end ?_
  show ACode _ _ _ _ _ _
  refine ACode.seq ?_
  refine ACode.seq ?_
  refine ACode.region' [0] (by kernel_rfl) rfl ?_
  refine aOps_1 rfl rfl rfl (AOp.move' (.inr rfl) rfl ?_)
  refine aOps_end ?_
  show ACode _ _ _ _ _ _
  refine ACode.block ?_
  refine ACode.adopt (t := 3) 25 1 (by decide) rfl ?_
  refine ACode.countG (γ := Hp × List Value) (fun i g => [(4, .int .i64 (i : Int)), (3, .slice (some ⟨k, 0, some 1⟩) i i)]) [(0, _), (2, _)] (fun i g => upd g.1 k (some (tbl g.2))) (es.length) (fun i g => Ab.Sub H g.1 ∧ g.1 k = none ∧ g.2.length = i ∧ Lvs g.1 g.2 (forms (es.take i))) ((H, [])) (.cons rfl (.cons rfl .nil)) (.cons rfl (.cons rfl .nil)) (by (repeat (first | exact sub_refl _ | assumption | refine sub_upd' ?_ (by ((repeat refine (upd_other _ _ (by omega)).trans ?_); first | exact hf _ (by omega))) | refine sub_over (by assumption) | refine sub_over0 ?_ | refine sub_trans (sub_same (by assumption)) ?_ | refine sub_dropu ?_ | refine sub_drop ?_ | refine sub_put ?_ (by repeat (first | assumption | exact upd_same _ _ _ | refine (upd_other _ _ (by omega)).trans ?_))))) ⟨sub_refl _, hf k (Nat.le_refl _), rfl, Lvs.nil⟩ (fun i0 g0 kL0 HL0 hiL0 hkL0 hsL0 hfL0 hxL0 => ?_)
  show ACode _ _ _ _ _ ⟨_, _, _⟩
  refine ACode.seq ?_
  refine ACode.seq ?_
  refine ACode.region' [0, 1, 2, 3] (by kernel_rfl) rfl ?_
  refine aOps_1 rfl rfl rfl (AOp.move' (.inl rfl) rfl ?_)
  refine aOps_1 rfl rfl rfl (AOp.move' (.inl rfl) rfl ?_)
  refine aOps_1 rfl rfl rfl (AOp.len' rfl rfl ?_)
  refine aOps_1 rfl rfl rfl (AOp.bin' rfl rfl rfl rfl ?_)
  refine aOps_end ?_
  show ACode _ _ _ _ _ _
  refine ACode.cond rfl (fun c0 => ?_) (fun c0 => ?_)
  · try simp only [decide_eq_true_eq, decide_eq_false_iff_not, beq_iff_eq, beq_eq_false_iff_ne, ne_eq, bne_iff_ne, Bool.not_eq_true', Bool.not_eq_false', Int.not_lt, Int.not_le, gt_iff_lt, ge_iff_le, bne_eq_false_iff_eq, Bool.not_eq_eq_eq_not, Bool.not_true, Bool.not_false] at c0
    refine ACode.skip ?_
    show ACode _ _ _ _ _ _
    refine ACode.seq ?_
    refine ACode.block ?_
    obtain ⟨hx1, hx2, hx3, hx4⟩ := hxL0
    have hH : Ab.Sub H HL0 := sub_trans (sub_upf hf (Nat.le_refl k) hx1) hsL0
    have hX : Ab.Sub g0.1 HL0 := sub_trans (sub_upd' (sub_refl _) hx2) hsL0
    have hk0 : HL0 k = some (tbl g0.2) := hsL0 _ _ (upd_same _ _ _)
    have hge := hg (es.getD i0 eD) (by rw [getD_el (by omega)]; exact List.getElem_mem _)
    have hfl := formB_len (es.getD i0 eD) hge
    have hsE := hs.sub hH
    obtain ⟨n5_3, o5_3, s5_3, hq5_3, hp5_3⟩ := SLC.elE hsE (show i0 < es.length by omega)
    refine ACode.region' [0, 1, 2, 3, 4, 5, 6, 7, 8] (by kernel_rfl) rfl ?_
    refine aOps_1 rfl rfl rfl (AOp.move' (.inl rfl) rfl ?_)
    refine aOps_1 rfl rfl rfl (AOp.move' (.inl rfl) rfl ?_)
    refine aOps_1 rfl rfl rfl (AOp.move' (.inl rfl) rfl ?_)
    refine aOps_1 rfl rfl rfl (AOp.indexP (aslcAt_sub (by (repeat (first | exact sub_refl _ | assumption | refine sub_upd' ?_ (by ((repeat refine (upd_other _ _ (by omega)).trans ?_); first | exact hf _ (by omega) | exact hfL0 _ (by omega))) | refine sub_trans ?_ hsL0 | refine sub_over (by assumption) | refine sub_over0 ?_ | refine sub_trans (sub_same (by assumption)) ?_ | refine sub_dropu ?_ | refine sub_drop ?_ | refine sub_put ?_ (by repeat (first | assumption | exact upd_same _ _ _ | refine (upd_other _ _ (by omega)).trans ?_ | refine hsL0 _ _ ?_))))) hq5_3) rfl rfl rfl ?_)
    refine aOps_1 rfl rfl rfl (AOp.loadPA (v := entv (es.getD i0 eD)) (hp5_3.sub (by (repeat (first | exact sub_refl _ | assumption | refine sub_upd' ?_ (by ((repeat refine (upd_other _ _ (by omega)).trans ?_); first | exact hf _ (by omega) | exact hfL0 _ (by omega))) | refine sub_trans ?_ hsL0 | refine sub_over (by assumption) | refine sub_over0 ?_ | refine sub_trans (sub_same (by assumption)) ?_ | refine sub_dropu ?_ | refine sub_drop ?_ | refine sub_put ?_ (by repeat (first | assumption | exact upd_same _ _ _ | refine (upd_other _ _ (by omega)).trans ?_ | refine hsL0 _ _ ?_)))))) rfl rfl rfl rfl (by first | rfl | exact hv_size _ | exact hcs_one _ | exact (aw_size _).trans rfl | exact one_wv _ | exact one_bv _ | exact entv_size _ | exact entc_one _ | (simp; done)) (by decide) ?_)
    refine aOps_1 rfl rfl rfl ?_
    refine AOp.call' rfl rfl rfl (refput_e _ _ (es.getD i0 eD) hge) ?_
    rintro _ _ ka ⟨f, hf1, hf2, rfl, rfl⟩
    refine aOps_1 rfl rfl rfl (AOp.buildG1 (vals := [_]) rfl (by decide) rfl rfl (by intro u hu; simp at hu; first | (rcases hu with rfl | rfl | rfl <;> rfl) | (rcases hu with rfl | rfl <;> rfl) | (subst hu; rfl) | (rcases hu with rfl | rfl | rfl | rfl <;> rfl)) ?_)
    refine aOps_1 rfl rfl rfl (AOp.append' (b := tbl g0.2) (m := 1) (news := [gsl f (formB (es.getD i0 eD)).length]) rfl rfl rfl (by repeat (first | assumption | exact upd_same _ _ _ | refine (upd_other _ _ (by omega)).trans ?_ | refine hsL0 _ _ ?_)) (srcOf_grow (b := tbl [gsl f (formB (es.getD i0 eD)).length]) (by repeat (first | assumption | exact upd_same _ _ _ | refine (upd_other _ _ (by omega)).trans ?_ | refine hsL0 _ _ ?_)) rfl rfl) rfl rfl rfl (by rw [hx3, Nat.mul_one]) srcOk_sl (by intro u hu; simp at hu; subst hu; rfl) (by omega) (by omega) ?_)
    refine aOps_1 rfl rfl rfl (AOp.move' (.inr rfl) rfl ?_)
    refine aOps_end ?_
    show ACode _ _ _ _ _ _
    refine ACode.region' [0, 1, 2] (by kernel_rfl) rfl ?_
    refine aOps_1 rfl rfl rfl (AOp.move' (.inl rfl) rfl ?_)
    refine aOps_1 rfl rfl rfl (AOp.add rfl rfl rfl (i64_wrap (by omega) (by omega)) ?_)
    refine aOps_1 rfl rfl rfl (AOp.move' (.inr rfl) rfl ?_)
    refine aOps_end ?_
    have hXf : Ab.Sub g0.1 (upd HL0 f (some (gb (formB (es.getD i0 eD))))) := sub_trans hX (sub_upd' (sub_refl _) (hfL0 f (by omega)))
    have hLn : Lvs (upd (upd HL0 f (some (gb (formB (es.getD i0 eD))))) k none) (g0.2 ++ [gsl f (formB (es.getD i0 eD)).length]) (forms (es.take (i0 + 1))) := by rw [forms_take (by omega)]; exact Lvs.append (hx4.sub (sub_cut hXf hx2)) (Lvs.cons (SLC.gb (e := 5) ((upd_other _ _ (by omega)).trans (upd_same _ _ _))) Lvs.nil)
    first | refine thenA_n ?_ | simp only [thenA, blockA, if_true]
    exact NextG.mk (by omega) (by omega) ((upd (upd HL0 f (some (gb (formB (es.getD i0 eD))))) k none, g0.2 ++ [gsl f (formB (es.getD i0 eD)).length])) (.cons rfl (.cons rfl .nil)) (.cons rfl (.cons rfl .nil)) (by rw [upd_upd]; refine sub_over0 (sub_upd' (sub_refl _) ((upd_other _ _ (by omega)).trans (hfL0 _ (by omega))))) ⟨sub_cut (sub_upf hf (by omega) hH) (hf k (Nat.le_refl _)), upd_same _ _ _, by rw [List.length_append, hx3]; rfl, hLn⟩
  · try simp only [decide_eq_true_eq, decide_eq_false_iff_not, beq_iff_eq, beq_eq_false_iff_ne, ne_eq, bne_iff_ne, Bool.not_eq_true', Bool.not_eq_false', Int.not_lt, Int.not_le, gt_iff_lt, ge_iff_le, bne_eq_false_iff_eq, Bool.not_eq_eq_eq_not, Bool.not_true, Bool.not_false] at c0
    refine ACode.exit ?_
    show ACode _ _ _ _ _ _
    refine ACode.seq ?_
    refine ACode.region' [0, 1] (by kernel_rfl) rfl ?_
    refine aOps_1 rfl rfl rfl (AOp.move' (.inl rfl) rfl ?_)
    refine aOps_1 rfl rfl rfl (AOp.move' (.inr rfl) rfl ?_)
    refine aOps_end ?_
    show ACode _ _ _ _ _ _
    refine ACode.ret ?_
    obtain ⟨hx1, hx2, hx3, hx4⟩ := hxL0
    have hi : i0 = es.length := by omega
    subst hi
    rw [List.take_length] at hx4
    have hX : Ab.Sub g0.1 HL0 := sub_trans (sub_upd' (sub_refl _) hx2) hsL0
    exact RetQ.one rfl rfl (sub_refl _) (stays_sub (sub_trans hx1 hX)) (fun hk => ⟨k, g0.2, Nat.le_refl _, by omega, by rw [hx3], sub_trans hx1 hX, (fun m hm => hfL0 m (by omega)), hsL0 _ _ (upd_same _ _ _), hx4.sub hX⟩)

theorem refhead (ht : H 0 = some tabBlk) (es : List Ent) (A : Option Addr) (c : Nat) (hs : SLC H 65 A es.length c (ecs es)) (hg : ∀ e ∈ es, good e = true) (hm : es.length ≤ 1000000000) : ACalls Tryd.prog 1 30 [.slice A es.length c] H k (Same H k (hv (headD (es.length : Int) (root (forms es))))) := by
  refine ACalls.fresh fun hf => ?_
  refine ACalls.body Tryd.func30 rfl (Nat.le_of_ble_eq_true rfl) ?_
  have h0k := old_lt hf ht
  refine ACode.seq ?_
  refine ACode.region' [0] (by kernel_rfl) rfl ?_
  refine aOps_1 rfl rfl rfl (AOp.alloc' rfl ?_)
  refine aOps_end ?_
  show ACode _ _ _ _ _ _
  refine ACode.seq ?_
  refine ACode.region' [0, 1, 2, 3, 4, 5, 6] (by kernel_rfl) rfl ?_
  refine aOps_1 rfl rfl rfl (AOp.move' (.inl rfl) rfl ?_)
  refine aOps_1 rfl rfl rfl (AOp.len' rfl rfl ?_)
  refine aOps_1 rfl rfl rfl (AOp.move' (.inl rfl) rfl ?_)
  refine aOps_1 rfl rfl rfl ?_
  refine AOp.call' rfl rfl rfl (refforms _ _ es A c (hs.sub (by (repeat (first | exact sub_refl _ | assumption | refine sub_upd' ?_ (by ((repeat refine (upd_other _ _ (by omega)).trans ?_); first | exact hf _ (by omega) | exact hfL8 _ (by omega))) | refine sub_trans ?_ hsL8 | refine sub_over (by assumption) | refine sub_over0 ?_ | refine sub_trans (sub_same (by assumption)) ?_ | refine sub_dropu ?_ | refine sub_drop ?_ | refine sub_put ?_ (by repeat (first | assumption | exact upd_same _ _ _ | refine (upd_other _ _ (by omega)).trans ?_ | refine hsL8 _ _ ?_)))))) hg hm) ?_
  rintro _ H1 k1 ⟨q1, ws, h1a, h1b, rfl, hsL8, hfL8, hq1, hL1⟩
  have hwl := hL1.len
  rw [List.length_map] at hwl
  refine aOps_q rfl rfl rfl (AOp.call' rfl rfl rfl (refroot_b (ws.length + 1) (forms es) ws (some ⟨q1, 0, some 1⟩) _ _ _ (by repeat (first | assumption | exact upd_same _ _ _ | refine (upd_other _ _ (by omega)).trans ?_ | refine hsL8 _ _ ?_)) (NewF.slc hq1) hL1 (by omega) (forms_le hg) (by omega)) (fun _ _ _ h => h)) (fun kq hkq => ?_)
  refine aOps_q rfl rfl rfl (AOp.call' rfl rfl rfl (refheadof_b _ _ (es.length : Int) (root (forms es))) (fun _ _ _ h => h)) (fun kq hkq => ?_)
  generalize headD (es.length : Int) (root (forms es)) = D
  refine aOps_0 rfl rfl rfl ?_
  refine AOp.storeAll (b := ?b1) rfl rfl rfl ?hn1 ?hk1 rfl ?hw1 ?ho1 ?hl1 ?hR1
  (case hn1 => repeat (first | assumption | exact upd_same _ _ _ | refine (upd_other _ _ (by omega)).trans ?_ | refine hsL8 _ _ ?_))
  (case hk1 => rfl)
  (case hw1 => first | rfl | exact hv_size _ | exact hcs_one _ | exact (aw_size _).trans rfl | exact one_wv _ | exact one_bv _ | exact entv_size _ | exact entc_one _ | (simp; done))
  (case ho1 => first | rfl | exact hv_size _ | exact hcs_one _ | exact (aw_size _).trans rfl | exact one_wv _ | exact one_bv _ | exact entv_size _ | exact entc_one _ | decide | (simp; done))
  (case hl1 => first | rfl | exact hv_size _ | exact hcs_one _ | exact (aw_size _).trans rfl | exact one_wv _ | exact one_bv _ | exact entv_size _ | exact entc_one _ | (simp; done))
  refine aOps_end ?_
  show ACode _ _ _ _ _ _
  refine ACode.ret ?_
  exact RetQ.cell rfl rfl (aloadAll (b := dblk D.l) (v := hv D) (upd_same _ _ _) rfl rfl (hv_size _)) (by (repeat (first | exact sub_refl _ | assumption | refine sub_upd' ?_ (by ((repeat refine (upd_other _ _ (by omega)).trans ?_); first | exact hf _ (by omega) | exact hfL8 _ (by omega))) | refine sub_trans ?_ hsL8 | refine sub_over (by assumption) | refine sub_over0 ?_ | refine sub_trans (sub_same (by assumption)) ?_ | refine sub_dropu ?_ | refine sub_drop ?_ | refine sub_put ?_ (by repeat (first | assumption | exact upd_same _ _ _ | refine (upd_other _ _ (by omega)).trans ?_ | refine hsL8 _ _ ?_))))) stays (fun hk => ⟨rfl, rfl, by omega⟩)

theorem sameAll_b (ls ms : List (List UInt8)) (vs ws : List Value) (A B : Option Addr) (c d : Nat) (hs : SLC H 1 A vs.length c vs) (hL : Lvs H vs ls) (hs2 : SLC H 1 B ws.length d ws) (hM : Lvs H ws ms) (hl : vs.length ≤ 9223372036854775807) (hb : ∀ x ∈ ls, x.length ≤ 549755813000) : ACalls Tryd.prog 1 31 [.slice A vs.length c, .slice B ws.length d] H k (Same H k (.bool (decide (ls = ms)))) := by
  refine ACalls.fresh fun hf => ?_
  refine ACalls.body Tryd.func31 rfl (Nat.le_of_ble_eq_true rfl) ?_
  have hvl := hL.len
  have hwl := hM.len
  refine ACode.seq ?_
  refine ACode.region' [0] (by kernel_rfl) rfl ?_
  refine aOps_1 rfl rfl rfl (AOp.move' (.inr rfl) rfl ?_)
  refine aOps_end ?_
  show ACode _ _ _ _ _ _
  refine ACode.seq ?_
  refine ACode.seq ?_
  refine ACode.region' [0, 1, 2, 3, 4] (by kernel_rfl) rfl ?_
  refine aOps_1 rfl rfl rfl (AOp.move' (.inl rfl) rfl ?_)
  refine aOps_1 rfl rfl rfl (AOp.len' rfl rfl ?_)
  refine aOps_1 rfl rfl rfl (AOp.move' (.inl rfl) rfl ?_)
  refine aOps_1 rfl rfl rfl (AOp.len' rfl rfl ?_)
  refine aOps_1 rfl rfl rfl (AOp.bin' rfl rfl rfl rfl ?_)
  refine aOps_end ?_
  show ACode _ _ _ _ _ _
  refine ACode.cond rfl (fun c0 => ?_) (fun c0 => ?_)
  · try simp only [decide_eq_true_eq, decide_eq_false_iff_not, beq_iff_eq, beq_eq_false_iff_ne, ne_eq, bne_iff_ne, Bool.not_eq_true', Bool.not_eq_false', Int.not_lt, Int.not_le, gt_iff_lt, ge_iff_le, bne_eq_false_iff_eq, Bool.not_eq_eq_eq_not, Bool.not_true, Bool.not_false] at c0
    refine ACode.seq ?_
    refine ACode.region' [0] (by kernel_rfl) rfl ?_
    refine aOps_1 rfl rfl rfl (AOp.move' (.inr rfl) rfl ?_)
    refine aOps_end ?_
    show ACode _ _ _ _ _ _
    refine ACode.ret ?_
    exact RetQ.one rfl rfl (by (repeat (first | exact sub_refl _ | assumption | refine sub_upd' ?_ (by ((repeat refine (upd_other _ _ (by omega)).trans ?_); first | exact hf _ (by omega))) | refine sub_over (by assumption) | refine sub_over0 ?_ | refine sub_trans (sub_same (by assumption)) ?_ | refine sub_dropu ?_ | refine sub_drop ?_ | refine sub_put ?_ (by repeat (first | assumption | exact upd_same _ _ _ | refine (upd_other _ _ (by omega)).trans ?_))))) stays (fun hk => ⟨(by rw [decide_eq_false]; intro e; subst e; omega), rfl, by omega⟩)
  · try simp only [decide_eq_true_eq, decide_eq_false_iff_not, beq_iff_eq, beq_eq_false_iff_ne, ne_eq, bne_iff_ne, Bool.not_eq_true', Bool.not_eq_false', Int.not_lt, Int.not_le, gt_iff_lt, ge_iff_le, bne_eq_false_iff_eq, Bool.not_eq_eq_eq_not, Bool.not_true, Bool.not_false] at c0
    refine ACode.skip ?_
    show ACode _ _ _ _ _ _
    refine ACode.seq ?_
    refine ACode.seq ?_
    refine ACode.region' [0] (by kernel_rfl) rfl ?_
    refine aOps_1 rfl rfl rfl (AOp.move' (.inr rfl) rfl ?_)
    refine aOps_end ?_
    show ACode _ _ _ _ _ _
    refine ACode.block ?_
    refine ACode.count0 (fun i => [(5, .int .i64 (i : Int))]) [(0, _), (1, _), (6, _), (7, _), (8, _), (9, _), (10, _)] (vs.length) (fun i => ls.take i = ms.take i) (.cons rfl .nil) (.cons rfl (.cons rfl (.cons rfl (.cons rfl (.cons rfl (.cons rfl (.cons rfl .nil))))))) rfl (fun i0 kL0 HL0 hiL0 hkL0 hsL0 hfL0 hxL0 => ?_)
    show ACode _ _ _ _ _ ⟨_, _, _⟩
    refine ACode.seq ?_
    refine ACode.seq ?_
    refine ACode.region' [0, 1, 2, 3] (by kernel_rfl) rfl ?_
    refine aOps_1 rfl rfl rfl (AOp.move' (.inl rfl) rfl ?_)
    refine aOps_1 rfl rfl rfl (AOp.move' (.inl rfl) rfl ?_)
    refine aOps_1 rfl rfl rfl (AOp.len' rfl rfl ?_)
    refine aOps_1 rfl rfl rfl (AOp.bin' rfl rfl rfl rfl ?_)
    refine aOps_end ?_
    show ACode _ _ _ _ _ _
    refine ACode.cond rfl (fun c1 => ?_) (fun c1 => ?_)
    · try simp only [decide_eq_true_eq, decide_eq_false_iff_not, beq_iff_eq, beq_eq_false_iff_ne, ne_eq, bne_iff_ne, Bool.not_eq_true', Bool.not_eq_false', Int.not_lt, Int.not_le, gt_iff_lt, ge_iff_le, bne_eq_false_iff_eq, Bool.not_eq_eq_eq_not, Bool.not_true, Bool.not_false] at c1
      refine ACode.skip ?_
      show ACode _ _ _ _ _ _
      refine ACode.seq ?_
      refine ACode.block ?_
      refine ACode.seq ?_
      obtain ⟨A1, d1, e1, hc1⟩ := hL.at_ i0 (by omega)
      obtain ⟨A2, d2, e2, hc2⟩ := hM.at_ i0 (by omega)
      have hm2 := hb (ls.getD i0 []) (by rw [getD_el (by omega)]; exact List.getElem_mem _)
      obtain ⟨n6_2, o6_2, s6_2, hq6_2, hp6_2⟩ := e1 ▸ slcElV hs.cells (show i0 < vs.length by omega)
      obtain ⟨n6_6, o6_6, s6_6, hq6_6, hp6_6⟩ := e2 ▸ slcElV hs2.cells (show i0 < ws.length by omega)
      refine ACode.draw' 10 [(0, 17), (1, 18), (2, 19), (3, 20), (4, 21), (5, 22), (6, 23), (7, 24), (8, 25), (9, 26)] mixed (by kernel_rfl) ?_
      refine Draw.step [(0, none)] rfl (by kernel_rfl) rfl (fun kq hkq => AOp.move' (.inl rfl) rfl ⟨rfl, rfl, Nat.le_refl _⟩) ?_
      refine Draw.step [(5, none)] rfl (by kernel_rfl) rfl (fun kq hkq => AOp.move' (.inl rfl) rfl ⟨rfl, rfl, Nat.le_refl _⟩) ?_
      refine Draw.step [(17, some 0), (18, some 1)] rfl (by kernel_rfl) rfl (fun kq hkq => AOp.indexP (aslcAt_sub (by (repeat (first | exact sub_refl _ | assumption | refine sub_upd' ?_ (by ((repeat refine (upd_other _ _ (by omega)).trans ?_); first | exact hf _ (by omega) | exact hfL0 _ (by omega))) | refine sub_trans ?_ hsL0 | refine sub_over (by assumption) | refine sub_over0 ?_ | refine sub_trans (sub_same (by assumption)) ?_ | refine sub_dropu ?_ | refine sub_drop ?_ | refine sub_put ?_ (by repeat (first | assumption | exact upd_same _ _ _ | refine (upd_other _ _ (by omega)).trans ?_ | refine hsL0 _ _ ?_))))) hq6_2) rfl rfl rfl ⟨rfl, rfl, Nat.le_refl _⟩) ?_
      refine Draw.step [(19, some 2)] rfl (by kernel_rfl) rfl (fun kq hkq => AOp.loadP0 (hp6_2.sub (by (repeat (first | exact sub_refl _ | assumption | refine sub_upd' ?_ (by ((repeat refine (upd_other _ _ (by omega)).trans ?_); first | exact hf _ (by omega) | exact hfL0 _ (by omega))) | refine sub_trans ?_ hsL0 | refine sub_over (by assumption) | refine sub_over0 ?_ | refine sub_trans (sub_same (by assumption)) ?_ | refine sub_dropu ?_ | refine sub_drop ?_ | refine sub_put ?_ (by repeat (first | assumption | exact upd_same _ _ _ | refine (upd_other _ _ (by omega)).trans ?_ | refine hsL0 _ _ ?_)))))) rfl rfl rfl ⟨rfl, rfl, Nat.le_refl _⟩) ?_
      refine Draw.step [(1, none)] rfl (by kernel_rfl) rfl (fun kq hkq => AOp.move' (.inl rfl) rfl ⟨rfl, rfl, Nat.le_refl _⟩) ?_
      refine Draw.step [(5, none)] rfl (by kernel_rfl) rfl (fun kq hkq => AOp.move' (.inl rfl) rfl ⟨rfl, rfl, Nat.le_refl _⟩) ?_
      refine Draw.step [(21, some 4), (22, some 5)] rfl (by kernel_rfl) rfl (fun kq hkq => AOp.indexP (aslcAt_sub (by (repeat (first | exact sub_refl _ | assumption | refine sub_upd' ?_ (by ((repeat refine (upd_other _ _ (by omega)).trans ?_); first | exact hf _ (by omega) | exact hfL0 _ (by omega))) | refine sub_trans ?_ hsL0 | refine sub_over (by assumption) | refine sub_over0 ?_ | refine sub_trans (sub_same (by assumption)) ?_ | refine sub_dropu ?_ | refine sub_drop ?_ | refine sub_put ?_ (by repeat (first | assumption | exact upd_same _ _ _ | refine (upd_other _ _ (by omega)).trans ?_ | refine hsL0 _ _ ?_))))) hq6_6) rfl rfl rfl ⟨rfl, rfl, Nat.le_refl _⟩) ?_
      refine Draw.step [(23, some 6)] rfl (by kernel_rfl) rfl (fun kq hkq => AOp.loadP0 (hp6_6.sub (by (repeat (first | exact sub_refl _ | assumption | refine sub_upd' ?_ (by ((repeat refine (upd_other _ _ (by omega)).trans ?_); first | exact hf _ (by omega) | exact hfL0 _ (by omega))) | refine sub_trans ?_ hsL0 | refine sub_over (by assumption) | refine sub_over0 ?_ | refine sub_trans (sub_same (by assumption)) ?_ | refine sub_dropu ?_ | refine sub_drop ?_ | refine sub_put ?_ (by repeat (first | assumption | exact upd_same _ _ _ | refine (upd_other _ _ (by omega)).trans ?_ | refine hsL0 _ _ ?_)))))) rfl rfl rfl ⟨rfl, rfl, Nat.le_refl _⟩) ?_
      refine Draw.step [(20, some 3), (24, some 7)] rfl (by kernel_rfl) rfl (fun kq hkq => AOp.call' rfl rfl rfl (same_b _ _ (ls.getD i0 []) (ms.getD i0 []) A1 A2 d1 d2 (hc1.sub (by (repeat (first | exact sub_refl _ | assumption | refine sub_upd' ?_ (by ((repeat refine (upd_other _ _ (by omega)).trans ?_); first | exact hf _ (by omega) | exact hfL0 _ (by omega))) | refine sub_trans ?_ hsL0 | refine sub_over (by assumption) | refine sub_over0 ?_ | refine sub_trans (sub_same (by assumption)) ?_ | refine sub_dropu ?_ | refine sub_drop ?_ | refine sub_put ?_ (by repeat (first | assumption | exact upd_same _ _ _ | refine (upd_other _ _ (by omega)).trans ?_ | refine hsL0 _ _ ?_)))))) (hc2.sub (by (repeat (first | exact sub_refl _ | assumption | refine sub_upd' ?_ (by ((repeat refine (upd_other _ _ (by omega)).trans ?_); first | exact hf _ (by omega) | exact hfL0 _ (by omega))) | refine sub_trans ?_ hsL0 | refine sub_over (by assumption) | refine sub_over0 ?_ | refine sub_trans (sub_same (by assumption)) ?_ | refine sub_dropu ?_ | refine sub_drop ?_ | refine sub_put ?_ (by repeat (first | assumption | exact upd_same _ _ _ | refine (upd_other _ _ (by omega)).trans ?_ | refine hsL0 _ _ ?_)))))) (by omega)) (fun _ _ _ h => h)) ?_
      refine Draw.step [(25, some 8)] rfl (by kernel_rfl) rfl (fun kq hkq => AOp.un' rfl rfl rfl ⟨rfl, rfl, Nat.le_refl _⟩) ?_
      refine Draw.done fun kq hkq => ?_
      show aOps _ _ _ _ [] ⟨_, _, _⟩
      refine aOps_end ?_
      show ACode _ _ _ _ _ _
      refine ACode.cond rfl (fun c2 => ?_) (fun c2 => ?_)
      · try simp only [decide_eq_true_eq, decide_eq_false_iff_not, beq_iff_eq, beq_eq_false_iff_ne, ne_eq, bne_iff_ne, Bool.not_eq_true', Bool.not_eq_false', Int.not_lt, Int.not_le, gt_iff_lt, ge_iff_le, bne_eq_false_iff_eq, Bool.not_eq_eq_eq_not, Bool.not_true, Bool.not_false] at c2
        refine ACode.seq ?_
        refine ACode.region' [0] (by kernel_rfl) rfl ?_
        refine aOps_1 rfl rfl rfl (AOp.move' (.inr rfl) rfl ?_)
        refine aOps_end ?_
        show ACode _ _ _ _ _ _
        refine ACode.ret ?_
        exact RetQ.one rfl rfl (by (repeat (first | exact sub_refl _ | assumption | refine sub_upd' ?_ (by ((repeat refine (upd_other _ _ (by omega)).trans ?_); first | exact hf _ (by omega) | exact hfL0 _ (by omega))) | refine sub_trans ?_ hsL0 | refine sub_over (by assumption) | refine sub_over0 ?_ | refine sub_trans (sub_same (by assumption)) ?_ | refine sub_dropu ?_ | refine sub_drop ?_ | refine sub_put ?_ (by repeat (first | assumption | exact upd_same _ _ _ | refine (upd_other _ _ (by omega)).trans ?_ | refine hsL0 _ _ ?_))))) stays (fun hk => ⟨(by rw [decide_eq_false]; intro e; subst e; exact c2 rfl), rfl, by omega⟩)
      · try simp only [decide_eq_true_eq, decide_eq_false_iff_not, beq_iff_eq, beq_eq_false_iff_ne, ne_eq, bne_iff_ne, Bool.not_eq_true', Bool.not_eq_false', Int.not_lt, Int.not_le, gt_iff_lt, ge_iff_le, bne_eq_false_iff_eq, Bool.not_eq_eq_eq_not, Bool.not_true, Bool.not_false] at c2
        refine ACode.skip ?_
        show ACode _ _ _ _ _ _
        refine ACode.region' [0, 1, 2] (by kernel_rfl) rfl ?_
        refine aOps_1 rfl rfl rfl (AOp.move' (.inl rfl) rfl ?_)
        refine aOps_1 rfl rfl rfl (AOp.add rfl rfl rfl (i64_wrap (by omega) (by omega)) ?_)
        refine aOps_1 rfl rfl rfl (AOp.move' (.inr rfl) rfl ?_)
        refine aOps_end ?_
        first | refine thenA_n ?_ | simp only [thenA, blockA, if_true]
        exact NextR.mk (by omega) (by omega) (.cons rfl .nil) (.cons rfl (.cons rfl (.cons rfl (.cons rfl (.cons rfl (.cons rfl (.cons rfl .nil))))))) (by (repeat (first | exact sub_refl _ | assumption | refine sub_upd' ?_ (by ((repeat refine (upd_other _ _ (by omega)).trans ?_); first | exact hf _ (by omega) | exact hfL0 _ (by omega))) | refine sub_trans ?_ hsL0 | refine sub_over (by assumption) | refine sub_over0 ?_ | refine sub_trans (sub_same (by assumption)) ?_ | refine sub_dropu ?_ | refine sub_drop ?_ | refine sub_put ?_ (by repeat (first | assumption | exact upd_same _ _ _ | refine (upd_other _ _ (by omega)).trans ?_ | refine hsL0 _ _ ?_))))) (by rw [take_el ls [] (by omega), take_el ms [] (by omega), hxL0, c2])
    · try simp only [decide_eq_true_eq, decide_eq_false_iff_not, beq_iff_eq, beq_eq_false_iff_ne, ne_eq, bne_iff_ne, Bool.not_eq_true', Bool.not_eq_false', Int.not_lt, Int.not_le, gt_iff_lt, ge_iff_le, bne_eq_false_iff_eq, Bool.not_eq_eq_eq_not, Bool.not_true, Bool.not_false] at c1
      refine ACode.exit ?_
      show ACode _ _ _ _ _ _
      refine ACode.seq ?_
      refine ACode.region' [0] (by kernel_rfl) rfl ?_
      refine aOps_1 rfl rfl rfl (AOp.move' (.inr rfl) rfl ?_)
      refine aOps_end ?_
      show ACode _ _ _ _ _ _
      refine ACode.ret ?_
      exact RetQ.one rfl rfl (by (repeat (first | exact sub_refl _ | assumption | refine sub_upd' ?_ (by ((repeat refine (upd_other _ _ (by omega)).trans ?_); first | exact hf _ (by omega) | exact hfL0 _ (by omega))) | refine sub_trans ?_ hsL0 | refine sub_over (by assumption) | refine sub_over0 ?_ | refine sub_trans (sub_same (by assumption)) ?_ | refine sub_dropu ?_ | refine sub_drop ?_ | refine sub_put ?_ (by repeat (first | assumption | exact upd_same _ _ _ | refine (upd_other _ _ (by omega)).trans ?_ | refine hsL0 _ _ ?_))))) stays (fun hk => ⟨(by rw [decide_eq_true]; have e1 := List.take_of_length_le (l := ls) (i := i0) (by omega); have e2 := List.take_of_length_le (l := ms) (i := i0) (by omega); rw [← e1, ← e2]; exact hxL0), rfl, by omega⟩)

theorem add_any (e : Ent) (n q : Nat) (es : List Ent) (vs : List Value) (hG : LG H n q es vs) (hm : es.length < 1000000000) : ACalls Tryd.prog 1 18 [.pointer (some ⟨n, 0, none⟩), entv e] H k (fun v H' k' => k ≤ k' ∧ v = .int .i64 (if good e then 0 else 1) ∧ (∀ m, k' ≤ m → H' m = none) ∧ Ab.Sub (upd (upd H q none) n none) H' ∧ ∃ vs', LG H' n q (es ++ goodL e) vs') := by
  refine ACalls.fresh fun hf => ?_
  have hnk := old_lt hf hG.hn
  have hqk := old_lt hf hG.hq
  cases hg : good e with
  | false =>
    refine (add_bad H k e hg n).mono ?_
    rintro v H' k' ⟨rfl, rfl, hk⟩
    refine ⟨hk, rfl, fun m hm => hf m (by omega), sub_drop (sub_drop (sub_refl _)), vs, ?_⟩
    rw [goodL, hg, if_neg (by decide), List.append_nil]
    exact hG
  | true =>
    refine (add_good H k e hg n q hG.hnq es vs hG.len (by omega) hG.hn hG.hq).mono ?_
    rintro v H' k' ⟨f, h1, h2, rfl, rfl⟩
    refine ⟨by omega, rfl, fun m hm => ?_, ?_, vs ++ [gsl f (formB e).length], ?_⟩
    · (repeat refine (upd_other _ _ (by omega)).trans ?_)
      exact hf m (by omega)
    · refine sub_upd' (sub_upd' (sub_upf (fun m hm => ?_) h1 (sub_drop (sub_drop (sub_refl _)))) ?_) (upd_same _ _ _)
      · rw [upd_other _ _ (by omega), upd_other _ _ (by omega)]; exact hf m hm
      · rw [upd_other _ _ (fun h => hG.hnq h.symm)]; exact upd_same _ _ _
    · rw [goodL, hg, if_pos rfl]
      have hqn : q ≠ n := fun h => hG.hnq h.symm
      refine ⟨upd_same _ _ _, (upd_other _ _ hqn).trans (upd_same _ _ _), ?_, ?_, by rw [List.length_append]; show es.length + 1 ≤ _; omega, hG.hnq⟩
      · rw [forms, List.map_append]
        refine Lvs.append (hG.hL0.sub ?_) (Lvs.cons (SLC.gb (e := 5) ?_) Lvs.nil)
        · intro m b hm
          by_cases h3 : m = n
          · subst h3; rw [upd_same] at hm; cases hm
          · by_cases h4 : m = q
            · subst h4; rw [upd_other _ _ h3, upd_same] at hm; cases hm
            · rw [upd_other _ _ h3, upd_other _ _ h4] at hm
              have h5 : m ≠ f := fun h => by rw [h, hf f h1] at hm; cases hm
              rw [upd_other _ _ h3, upd_other _ _ h4, upd_other _ _ h3, upd_other _ _ h4, upd_other _ _ h5]
              exact hm
        · rw [upd_other _ _ (by omega), upd_other _ _ (by omega), upd_other _ _ (by omega), upd_other _ _ (by omega)]
          exact upd_same _ _ _
      · intro x hx
        rcases List.mem_append.1 hx with h | h
        · exact hG.hg x h
        · rw [List.mem_singleton.1 h]; exact hg
end

end Go.Proofs.YtipaiielkpifoaaDoor
