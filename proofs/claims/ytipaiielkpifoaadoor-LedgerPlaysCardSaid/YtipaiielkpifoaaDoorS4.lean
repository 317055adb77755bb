/- Contracts over the abstract states: the digest of bytes, of a tag and parts; a digest's text. -/
import Derived.Test.YtipaiielkpifoaaDoorS3
set_option linter.unusedVariables false
set_option linter.unusedSimpArgs false
set_option maxRecDepth 100000
namespace Go.Proofs.YtipaiielkpifoaaDoor
open Go Go.Ab

section
variable (H : Hp) (k : Nat)
abbrev dblk (l : List UInt8) : Blk := { cells := l.map bv, elem := 31, kind := .fix }

theorem sum_b (ht : H 0 = some tabBlk) (b : List UInt8) (A : Option Addr) (c : Nat) (hs : SLC H 1 A b.length c (b.map bv)) (hl : b.length ≤ 549755813888) : ACalls Tryd.prog 1 77 [.slice A b.length c] H k (Same H k (hv (shaD b))) := by
  refine ACalls.fresh fun hf => ?_
  refine ACalls.body Tryd.func77 rfl (Nat.le_of_ble_eq_true rfl) ?_
  have h0k := old_lt hf ht
  have hfl := fillB_len b.length
  have hpz : padZ b.length < 64 := Nat.mod_lt _ (by decide)
  have hpb := padB_len b
  rw [padB, List.length_append] at hpb
  refine ACode.seq ?_
  refine ACode.region' [0] (by kernel_rfl) rfl ?_
  refine aOps_1 rfl rfl rfl (AOp.alloc' rfl ?_)
  refine aOps_end ?_
  show ACode _ _ _ _ _ _
  refine ACode.seq ?_
  refine ACode.region' [0, 1, 2] (by kernel_rfl) rfl ?_
  refine aOps_q rfl rfl rfl (AOp.call' rfl rfl rfl (first_s 1 _ _) (fun _ _ _ h => h)) (fun kw hkw => ?_)
  refine aOps_1 rfl rfl rfl (AOp.alloc' rfl ?_)
  refine aOps_0 rfl rfl rfl ?_
  refine AOp.storeAll (b := ?b1) rfl rfl rfl ?hn1 ?hk1 rfl ?hw1 ?ho1 ?hl1 ?hR1
  (case hn1 => repeat (first | assumption | exact upd_same _ _ _ | refine (upd_other _ _ (by omega)).trans ?_))
  (case hk1 => rfl)
  (case hw1 => first | rfl | exact hv_size _ | exact (aw_size _).trans rfl | exact one_wv _ | exact one_bv _ | (simp; done))
  (case ho1 => first | rfl | exact hv_size _ | exact (aw_size _).trans rfl | exact one_wv _ | exact one_bv _ | decide | (simp; done))
  (case hl1 => first | rfl | exact hv_size _ | exact (aw_size _).trans rfl | exact one_wv _ | exact one_bv _ | (simp; done))
  refine aOps_end ?_
  show ACode _ _ _ _ _ _
  refine ACode.seq ?_
  refine ACode.region' [0, 1, 2, 3, 4] (by kernel_rfl) rfl ?_
  refine aOps_1 rfl rfl rfl (AOp.move' (.inl rfl) rfl ?_)
  refine aOps_1 rfl rfl rfl (AOp.len' rfl rfl ?_)
  refine aOps_1 rfl rfl rfl (AOp.bin' rfl rfl rfl rfl ?_)
  rw [show IntKind.i64.wrap ((b.length : Int).tdiv 64) = ((b.length / 64 : Nat) : Int) by rw [tdiv64, i64_wrap] <;> omega]
  refine aOps_1 rfl rfl rfl (AOp.mul rfl rfl rfl (i64_wrap (by omega) (by omega)) ?_)
  rw [show ((b.length / 64 : Nat) : Int) * 64 = ((b.length / 64 * 64 : Nat) : Int) by omega]
  refine aOps_1 rfl rfl rfl (AOp.move' (.inr rfl) rfl ?_)
  refine aOps_end ?_
  show ACode _ _ _ _ _ _
  refine ACode.seq ?_
  refine ACode.seq ?_
  refine ACode.region' [0] (by kernel_rfl) rfl ?_
  refine aOps_1 rfl rfl rfl (AOp.move' (.inr rfl) rfl ?_)
  refine aOps_end ?_
  show ACode _ _ _ _ _ _
  refine ACode.block ?_
  refine ACode.count (fun i => [(5, .int .i64 ((64 * i : Nat) : Int))]) [(0, _), (2, _), (3, _), (4, _), (10, _), (11, _), (12, _), (13, _), (14, _)] (fun i => (upd (upd H k (some (dblk (List.replicate 32 0)))) kw (some (sblk (blksTo b first8 i))))) (b.length / 64) (fun _ => True) (.cons rfl .nil) (.cons rfl (.cons rfl (.cons rfl (.cons rfl (.cons rfl (.cons rfl (.cons rfl (.cons rfl (.cons rfl .nil))))))))) (by (repeat (first | exact sub_refl _ | assumption | refine sub_upd' ?_ (by ((repeat refine (upd_other _ _ (by omega)).trans ?_); first | exact hf _ (by omega))) | refine sub_over (by assumption) | refine sub_over0 ?_ | refine sub_trans (sub_same (by assumption)) ?_ | refine sub_dropu ?_ | refine sub_drop ?_ | refine sub_put ?_ (by repeat (first | assumption | exact upd_same _ _ _ | refine (upd_other _ _ (by omega)).trans ?_))))) trivial (fun i0 kL0 HL0 hiL0 hkL0 hsL0 hfL0 hxL0 => ?_)
  show ACode _ _ _ _ _ ⟨_, _, _⟩
  refine ACode.seq ?_
  refine ACode.seq ?_
  refine ACode.region' [0, 1, 2] (by kernel_rfl) rfl ?_
  refine aOps_1 rfl rfl rfl (AOp.move' (.inl rfl) rfl ?_)
  refine aOps_1 rfl rfl rfl (AOp.move' (.inl rfl) rfl ?_)
  refine aOps_1 rfl rfl rfl (AOp.bin' rfl rfl rfl rfl ?_)
  refine aOps_end ?_
  show ACode _ _ _ _ _ _
  refine ACode.cond rfl (fun c0 => ?_) (fun c0 => ?_)
  · try simp only [decide_eq_true_eq, decide_eq_false_iff_not, beq_iff_eq, beq_eq_false_iff_ne, ne_eq, bne_iff_ne, Bool.not_eq_true', Bool.not_eq_false', Int.not_lt, Int.not_le, gt_iff_lt, ge_iff_le, bne_eq_false_iff_eq, Bool.not_eq_eq_eq_not, Bool.not_true, Bool.not_false] at c0
    refine ACode.skip ?_
    show ACode _ _ _ _ _ _
    refine ACode.seq ?_
    refine ACode.block ?_
    obtain ⟨A6_4, c6_4, hq6_4, hs6_4⟩ := hs.cut (64 * i0) (64 * i0 + 64) none (by omega) (by omega) (by intro x hx; cases hx)
    rw [show 64 * i0 + 64 - 64 * i0 = 64 by omega] at hq6_4 hs6_4
    rw [take64 b (64 * i0)] at hs6_4
    refine ACode.region' [0, 1, 2, 3, 4, 5] (by kernel_rfl) rfl ?_
    refine aOps_1 rfl rfl rfl (AOp.move' (.inl rfl) rfl ?_)
    refine aOps_1 rfl rfl rfl (AOp.move' (.inl rfl) rfl ?_)
    refine aOps_1 rfl rfl rfl (AOp.move' (.inl rfl) rfl ?_)
    refine aOps_1 rfl rfl rfl (AOp.add rfl rfl rfl (i64_wrap (by omega) (by omega)) ?_)
    rw [show ((64 * i0 : Nat) : Int) + 64 = ((64 * i0 + 64 : Nat) : Int) by omega]
    refine aOps_1 rfl rfl rfl (AOp.cutQ (aslice_sub (by (repeat (first | exact sub_refl _ | assumption | refine sub_upd' ?_ (by ((repeat refine (upd_other _ _ (by omega)).trans ?_); first | exact hf _ (by omega) | exact hfL0 _ (by omega))) | refine sub_trans ?_ hsL0 | refine sub_over (by assumption) | refine sub_over0 ?_ | refine sub_trans (sub_same (by assumption)) ?_ | refine sub_dropu ?_ | refine sub_drop ?_ | refine sub_put ?_ (by repeat (first | assumption | exact upd_same _ _ _ | refine (upd_other _ _ (by omega)).trans ?_ | refine hsL0 _ _ ?_))))) hq6_4) rfl rfl (bnd_at rfl rfl) (bnd_at rfl rfl) mx_no ?_)
    refine aOps_1 rfl rfl rfl ?_
    refine AOp.call' rfl rfl rfl (take_s _ _ (by repeat (first | assumption | exact upd_same _ _ _ | refine (upd_other _ _ (by omega)).trans ?_ | refine hsL0 _ _ ?_)) kw (blksTo b first8 i0) ((b.drop (64 * i0)).take 64) A6_4 c6_4 (by repeat (first | assumption | exact upd_same _ _ _ | refine (upd_other _ _ (by omega)).trans ?_ | refine hsL0 _ _ ?_)) (hs6_4.sub (by (repeat (first | exact sub_refl _ | assumption | refine sub_upd' ?_ (by ((repeat refine (upd_other _ _ (by omega)).trans ?_); first | exact hf _ (by omega) | exact hfL0 _ (by omega))) | refine sub_trans ?_ hsL0 | refine sub_over (by assumption) | refine sub_over0 ?_ | refine sub_trans (sub_same (by assumption)) ?_ | refine sub_dropu ?_ | refine sub_drop ?_ | refine sub_put ?_ (by repeat (first | assumption | exact upd_same _ _ _ | refine (upd_other _ _ (by omega)).trans ?_ | refine hsL0 _ _ ?_)))))) (by rw [List.length_take, List.length_drop]; omega)) ?_
    rintro _ _ kq2 ⟨rfl, rfl, hkq2⟩
    refine aOps_end ?_
    show ACode _ _ _ _ _ _
    refine ACode.region' [0, 1, 2] (by kernel_rfl) rfl ?_
    refine aOps_1 rfl rfl rfl (AOp.move' (.inl rfl) rfl ?_)
    refine aOps_1 rfl rfl rfl (AOp.add rfl rfl rfl (i64_wrap (by omega) (by omega)) ?_)
    refine aOps_1 rfl rfl rfl (AOp.move' (.inr rfl) rfl ?_)
    refine aOps_end ?_
    first | refine thenA_n ?_ | simp only [thenA, blockA, if_true]
    exact NextR.mk (by omega) (by omega) (.cons (show _ = some (Value.int .i64 _) by rw [show ((64 * (i0 + 1) : Nat) : Int) = ((64 * i0 : Nat) : Int) + 64 by omega]; rfl) .nil) (.cons rfl (.cons rfl (.cons rfl (.cons rfl (.cons rfl (.cons rfl (.cons rfl (.cons rfl (.cons rfl .nil))))))))) (by exact sub_over_eq (y := some (sblk (blksTo b first8 i0))) (by (repeat (first | exact sub_refl _ | assumption | refine sub_upd' ?_ (by ((repeat refine (upd_other _ _ (by omega)).trans ?_); first | exact hf _ (by omega) | exact hfL0 _ (by omega))) | refine sub_trans ?_ hsL0 | refine sub_over (by assumption) | refine sub_over0 ?_ | refine sub_trans (sub_same (by assumption)) ?_ | refine sub_dropu ?_ | refine sub_drop ?_ | refine sub_put ?_ (by repeat (first | assumption | exact upd_same _ _ _ | refine (upd_other _ _ (by omega)).trans ?_ | refine hsL0 _ _ ?_))))) rfl) trivial
  · try simp only [decide_eq_true_eq, decide_eq_false_iff_not, beq_iff_eq, beq_eq_false_iff_ne, ne_eq, bne_iff_ne, Bool.not_eq_true', Bool.not_eq_false', Int.not_lt, Int.not_le, gt_iff_lt, ge_iff_le, bne_eq_false_iff_eq, Bool.not_eq_eq_eq_not, Bool.not_true, Bool.not_false] at c0
    refine ACode.exit ?_
    show ACode _ _ _ _ _ _
    refine ACode.seq ?_
    obtain ⟨A7_2, c7_2, hq7_2, hs7_2⟩ := hs.cut (b.length / 64 * 64) b.length none (by omega) (by omega) (by intro x hx; cases hx)
    rw [dropB b _ _ (by omega), ← List.length_drop] at hs7_2
    rw [← List.length_drop] at hq7_2
    refine ACode.drawM0 6 [(0, 26), (1, 27), (2, 28), (3, 29), (4, 30), (5, 31)] [5] [([], []), ([], []), ([], []), ([], []), ([], []), ([5], [])] mixed (by kernel_rfl) (by kernel_rfl) (by decide) ?_
    refine DrawM.q 0 [(0, none)] rfl rfl (by kernel_rfl) rfl rfl (fun Hc kq hkq hF hSb hfr => AOp.move' (.inl rfl) rfl ⟨rfl, rfl, Nat.le_refl _⟩) ?_
    refine DrawM.q 1 [(4, none)] rfl rfl (by kernel_rfl) rfl rfl (fun Hc kq hkq hF hSb hfr => AOp.move' (.inl rfl) rfl ⟨rfl, rfl, Nat.le_refl _⟩) ?_
    refine DrawM.q 2 [(26, some 0), (27, some 1)] rfl rfl (by kernel_rfl) rfl rfl (fun Hc kq hkq hF hSb hfr => AOp.cutQ (aslice_sub (by (repeat (first | exact sub_refl _ | assumption | refine sub_upd' ?_ (by ((repeat refine (upd_other _ _ (by omega)).trans ?_); first | exact hf _ (by omega) | exact hfL0 _ (by omega))) | refine sub_trans ?_ hSb | refine sub_trans ?_ hsL0 | refine sub_over (by assumption) | refine sub_over0 ?_ | refine sub_trans (sub_same (by assumption)) ?_ | refine sub_dropu ?_ | refine sub_drop ?_ | refine sub_put ?_ (by repeat (first | assumption | exact upd_same _ _ _ | refine (upd_other _ _ (by omega)).trans ?_ | refine hSb _ _ ?_ | refine hsL0 _ _ ?_))))) hq7_2) rfl rfl (bnd_at rfl rfl) (bnd_no rfl) mx_no ⟨rfl, rfl, Nat.le_refl _⟩) ?_
    refine DrawM.q 3 [(0, none)] rfl rfl (by kernel_rfl) rfl rfl (fun Hc kq hkq hF hSb hfr => AOp.move' (.inl rfl) rfl ⟨rfl, rfl, Nat.le_refl _⟩) ?_
    refine DrawM.q 4 [(29, some 3)] rfl rfl (by kernel_rfl) rfl rfl (fun Hc kq hkq hF hSb hfr => AOp.len' rfl rfl ⟨rfl, rfl, Nat.le_refl _⟩) ?_
    refine DrawM.new 5 _ _ [(30, some 4)] rfl (by decide) rfl (by kernel_rfl) rfl rfl RenOk.grow (fun Hc kq hkq hF hSb hfr => AOp.call' rfl rfl rfl (fill_b 1 _ _ b.length (by omega)) (fun _ _ _ h => h)) ?_
    refine DrawM.done fun kq hkq => ?_
    show aOps _ _ _ _ [6, 7, 8] ⟨_, (upd _ (_ + 5) _), _⟩
    refine aOps_1 rfl rfl rfl (AOp.buildG1 (vals := [_, _]) rfl (by decide) rfl rfl (by intro u hu; simp at hu; first | (rcases hu with rfl | rfl | rfl <;> rfl) | (rcases hu with rfl | rfl <;> rfl) | (subst hu; rfl) | (rcases hu with rfl | rfl | rfl | rfl <;> rfl)) ?_)
    refine aOps_1 rfl rfl rfl ?_
    refine AOp.call' rfl rfl rfl (concat_b 1 _ _ [b.drop (b.length / 64 * 64), fillB b.length] [.slice A7_2 (b.drop (b.length / 64 * 64)).length c7_2, gsl (kL0 + 5) (fillB b.length).length] (some ⟨kq, 0, some 1⟩) 2 (SLC.grow (n := kq) (l := 2) (b := { cells := [.slice A7_2 (b.drop (b.length / 64 * 64)).length c7_2, gsl (kL0 + 5) (fillB b.length).length], elem := 25, kind := .grow }) (by repeat (first | assumption | exact upd_same _ _ _ | refine (upd_other _ _ (by omega)).trans ?_ | refine hsL0 _ _ ?_)) rfl rfl) (Lvs.cons (hs7_2.sub (by (repeat (first | exact sub_refl _ | assumption | refine sub_upd' ?_ (by ((repeat refine (upd_other _ _ (by omega)).trans ?_); first | exact hf _ (by omega) | exact hfL0 _ (by omega))) | refine sub_trans ?_ hsL0 | refine sub_over (by assumption) | refine sub_over0 ?_ | refine sub_trans (sub_same (by assumption)) ?_ | refine sub_dropu ?_ | refine sub_drop ?_ | refine sub_put ?_ (by repeat (first | assumption | exact upd_same _ _ _ | refine (upd_other _ _ (by omega)).trans ?_ | refine hsL0 _ _ ?_)))))) (Lvs.cons (SLC.gb (n := kL0 + 5) (e := 5) (bs := fillB b.length) (by repeat (first | assumption | exact upd_same _ _ _ | refine (upd_other _ _ (by omega)).trans ?_ | refine hsL0 _ _ ?_))) Lvs.nil)) (by simp) (by simp; omega)) ?_
    rintro _ _ kqq ⟨q, hq1, hq2, rfl, rfl⟩
    have e0 : i0 = b.length / 64 := by omega
    subst e0
    have hsp := shaB_parts b
    have hfr : [b.drop (b.length / 64 * 64), fillB b.length].flatten = b.drop (b.length / 64 * 64) ++ fillB b.length := by simp
    rw [hfr]
    have hrl : (b.drop (b.length / 64 * 64) ++ fillB b.length).length % 64 = 0 := by rw [List.length_append, List.length_drop]; omega
    have hrb : (b.drop (b.length / 64 * 64) ++ fillB b.length).length ≤ 549755814800 := by rw [List.length_append, List.length_drop]; omega
    generalize b.drop (b.length / 64 * 64) ++ fillB b.length = rest at *
    generalize blksTo b first8 (b.length / 64) = s1 at *
    have hsr : SLC (upd H q (some (gb rest))) 1 (some ⟨q, 0, some 1⟩) rest.length rest.length (rest.map bv) := SLC.gb (upd_same _ _ _)
    refine aOps_1 rfl rfl rfl (AOp.move' (.inr rfl) rfl ?_)
    refine aOps_end ?_
    show ACode _ _ _ _ _ _
    refine ACode.seq ?_
    refine ACode.seq ?_
    refine ACode.region' [0] (by kernel_rfl) rfl ?_
    refine aOps_1 rfl rfl rfl (AOp.move' (.inr rfl) rfl ?_)
    refine aOps_end ?_
    show ACode _ _ _ _ _ _
    refine ACode.block ?_
    refine ACode.count (fun i => [(7, .int .i64 ((64 * i : Nat) : Int))]) [(0, _), (2, _), (3, _), (4, _), (5, _), (6, _), (10, _), (11, _), (12, _), (13, _), (14, _), (15, _), (16, _), (17, _), (26, _), (27, _), (28, _), (29, _), (30, _), (31, _), (32, _), (33, _)] (fun i => (upd (upd (upd H k (some (dblk (List.replicate 32 0)))) q (some (gb rest))) kw (some (sblk (blksTo rest s1 i))))) (rest.length / 64) (fun _ => True) (.cons rfl .nil) (.cons rfl (.cons rfl (.cons rfl (.cons rfl (.cons rfl (.cons rfl (.cons rfl (.cons rfl (.cons rfl (.cons rfl (.cons rfl (.cons rfl (.cons rfl (.cons rfl (.cons rfl (.cons rfl (.cons rfl (.cons rfl (.cons rfl (.cons rfl (.cons rfl (.cons rfl .nil)))))))))))))))))))))) (by (repeat (first | exact sub_refl _ | assumption | refine sub_upd' ?_ (by ((repeat refine (upd_other _ _ (by omega)).trans ?_); first | exact hf _ (by omega) | exact hfL0 _ (by omega))) | refine sub_trans ?_ hsL0 | refine sub_over (by assumption) | refine sub_over0 ?_ | refine sub_trans (sub_same (by assumption)) ?_ | refine sub_dropu ?_ | refine sub_drop ?_ | refine sub_put ?_ (by repeat (first | assumption | exact upd_same _ _ _ | refine (upd_other _ _ (by omega)).trans ?_ | refine hsL0 _ _ ?_))))) trivial (fun i1 kL1 HL1 hiL1 hkL1 hsL1 hfL1 hxL1 => ?_)
    show ACode _ _ _ _ _ ⟨_, _, _⟩
    refine ACode.seq ?_
    refine ACode.seq ?_
    refine ACode.region' [0, 1, 2, 3] (by kernel_rfl) rfl ?_
    refine aOps_1 rfl rfl rfl (AOp.move' (.inl rfl) rfl ?_)
    refine aOps_1 rfl rfl rfl (AOp.move' (.inl rfl) rfl ?_)
    refine aOps_1 rfl rfl rfl (AOp.len' rfl rfl ?_)
    refine aOps_1 rfl rfl rfl (AOp.bin' rfl rfl rfl rfl ?_)
    refine aOps_end ?_
    show ACode _ _ _ _ _ _
    refine ACode.cond rfl (fun c1 => ?_) (fun c1 => ?_)
    · try simp only [decide_eq_true_eq, decide_eq_false_iff_not, beq_iff_eq, beq_eq_false_iff_ne, ne_eq, bne_iff_ne, Bool.not_eq_true', Bool.not_eq_false', Int.not_lt, Int.not_le, gt_iff_lt, ge_iff_le, bne_eq_false_iff_eq, Bool.not_eq_eq_eq_not, Bool.not_true, Bool.not_false] at c1
      refine ACode.skip ?_
      show ACode _ _ _ _ _ _
      refine ACode.seq ?_
      refine ACode.block ?_
      obtain ⟨A11_4, c11_4, hq11_4, hs11_4⟩ := hsr.cut (64 * i1) (64 * i1 + 64) none (by omega) (by omega) (by intro x hx; cases hx)
      rw [show 64 * i1 + 64 - 64 * i1 = 64 by omega] at hq11_4 hs11_4
      rw [take64 rest (64 * i1)] at hs11_4
      refine ACode.region' [0, 1, 2, 3, 4, 5] (by kernel_rfl) rfl ?_
      refine aOps_1 rfl rfl rfl (AOp.move' (.inl rfl) rfl ?_)
      refine aOps_1 rfl rfl rfl (AOp.move' (.inl rfl) rfl ?_)
      refine aOps_1 rfl rfl rfl (AOp.move' (.inl rfl) rfl ?_)
      refine aOps_1 rfl rfl rfl (AOp.add rfl rfl rfl (i64_wrap (by omega) (by omega)) ?_)
      rw [show ((64 * i1 : Nat) : Int) + 64 = ((64 * i1 + 64 : Nat) : Int) by omega]
      refine aOps_1 rfl rfl rfl (AOp.cutQ (aslice_sub (by (repeat (first | exact sub_refl _ | assumption | refine sub_upd' ?_ (by ((repeat refine (upd_other _ _ (by omega)).trans ?_); first | exact hf _ (by omega) | exact hfL0 _ (by omega) | exact hfL1 _ (by omega))) | refine sub_trans ?_ hsL1 | refine sub_trans ?_ hsL0 | refine sub_over (by assumption) | refine sub_over0 ?_ | refine sub_trans (sub_same (by assumption)) ?_ | refine sub_dropu ?_ | refine sub_drop ?_ | refine sub_put ?_ (by repeat (first | assumption | exact upd_same _ _ _ | refine (upd_other _ _ (by omega)).trans ?_ | refine hsL1 _ _ ?_ | refine hsL0 _ _ ?_))))) hq11_4) rfl rfl (bnd_at rfl rfl) (bnd_at rfl rfl) mx_no ?_)
      refine aOps_1 rfl rfl rfl ?_
      refine AOp.call' rfl rfl rfl (take_s _ _ (by repeat (first | assumption | exact upd_same _ _ _ | refine (upd_other _ _ (by omega)).trans ?_ | refine hsL1 _ _ ?_ | refine hsL0 _ _ ?_)) kw (blksTo rest s1 i1) ((rest.drop (64 * i1)).take 64) A11_4 c11_4 (by repeat (first | assumption | exact upd_same _ _ _ | refine (upd_other _ _ (by omega)).trans ?_ | refine hsL1 _ _ ?_ | refine hsL0 _ _ ?_)) (hs11_4.sub (by (repeat (first | exact sub_refl _ | assumption | refine sub_upd' ?_ (by ((repeat refine (upd_other _ _ (by omega)).trans ?_); first | exact hf _ (by omega) | exact hfL0 _ (by omega) | exact hfL1 _ (by omega))) | refine sub_trans ?_ hsL1 | refine sub_trans ?_ hsL0 | refine sub_over (by assumption) | refine sub_over0 ?_ | refine sub_trans (sub_same (by assumption)) ?_ | refine sub_dropu ?_ | refine sub_drop ?_ | refine sub_put ?_ (by repeat (first | assumption | exact upd_same _ _ _ | refine (upd_other _ _ (by omega)).trans ?_ | refine hsL1 _ _ ?_ | refine hsL0 _ _ ?_)))))) (by rw [List.length_take, List.length_drop]; omega)) ?_
      rintro _ _ kq3 ⟨rfl, rfl, hkq3⟩
      refine aOps_end ?_
      show ACode _ _ _ _ _ _
      refine ACode.region' [0, 1, 2] (by kernel_rfl) rfl ?_
      refine aOps_1 rfl rfl rfl (AOp.move' (.inl rfl) rfl ?_)
      refine aOps_1 rfl rfl rfl (AOp.add rfl rfl rfl (i64_wrap (by omega) (by omega)) ?_)
      refine aOps_1 rfl rfl rfl (AOp.move' (.inr rfl) rfl ?_)
      refine aOps_end ?_
      first | refine thenA_n ?_ | simp only [thenA, blockA, if_true]
      exact NextR.mk (by omega) (by omega) (.cons (show _ = some (Value.int .i64 _) by rw [show ((64 * (i1 + 1) : Nat) : Int) = ((64 * i1 : Nat) : Int) + 64 by omega]; rfl) .nil) (.cons rfl (.cons rfl (.cons rfl (.cons rfl (.cons rfl (.cons rfl (.cons rfl (.cons rfl (.cons rfl (.cons rfl (.cons rfl (.cons rfl (.cons rfl (.cons rfl (.cons rfl (.cons rfl (.cons rfl (.cons rfl (.cons rfl (.cons rfl (.cons rfl (.cons rfl .nil)))))))))))))))))))))) (by exact sub_over_eq (y := some (sblk (blksTo rest s1 i1))) (by (repeat (first | exact sub_refl _ | assumption | refine sub_upd' ?_ (by ((repeat refine (upd_other _ _ (by omega)).trans ?_); first | exact hf _ (by omega) | exact hfL0 _ (by omega) | exact hfL1 _ (by omega))) | refine sub_trans ?_ hsL1 | refine sub_trans ?_ hsL0 | refine sub_over (by assumption) | refine sub_over0 ?_ | refine sub_trans (sub_same (by assumption)) ?_ | refine sub_dropu ?_ | refine sub_drop ?_ | refine sub_put ?_ (by repeat (first | assumption | exact upd_same _ _ _ | refine (upd_other _ _ (by omega)).trans ?_ | refine hsL1 _ _ ?_ | refine hsL0 _ _ ?_))))) rfl) trivial
    · try simp only [decide_eq_true_eq, decide_eq_false_iff_not, beq_iff_eq, beq_eq_false_iff_ne, ne_eq, bne_iff_ne, Bool.not_eq_true', Bool.not_eq_false', Int.not_lt, Int.not_le, gt_iff_lt, ge_iff_le, bne_eq_false_iff_eq, Bool.not_eq_eq_eq_not, Bool.not_true, Bool.not_false] at c1
      refine ACode.exit ?_
      show ACode _ _ _ _ _ _
      refine ACode.seq ?_
      refine ACode.seq ?_
      have e1 : i1 = rest.length / 64 := by omega
      subst e1
      generalize blksTo rest s1 (rest.length / 64) = s2 at *
      refine ACode.region' [0, 1] (by kernel_rfl) rfl ?_
      refine aOps_1 rfl rfl rfl ?_
      refine AOp.loadAll (b := ?b2) (v := s8v s2) rfl rfl ?hn2 ?hv2 ?hw2 ?hz2 ?hR2
      (case hn2 => repeat (first | assumption | exact upd_same _ _ _ | refine (upd_other _ _ (by omega)).trans ?_ | refine hsL1 _ _ ?_ | refine hsL0 _ _ ?_))
      (case hv2 => rfl)
      (case hw2 => rfl)
      (case hz2 => first | rfl | exact hv_size _ | exact (aw_size _).trans rfl | exact one_wv _ | exact one_bv _ | (simp; done))
      refine aOps_1 rfl rfl rfl (AOp.move' (.inl rfl) rfl ?_)
      refine aOps_end ?_
      show ACode _ _ _ _ _ _
      refine ACode.block ?_
      refine ACode.count (fun i => [(47, .int .i64 (i : Int))]) [(0, _), (2, _), (3, _), (4, _), (5, _), (6, _), (7, _), (10, _), (11, _), (12, _), (13, _), (14, _), (15, _), (16, _), (17, _), (26, _), (27, _), (28, _), (29, _), (30, _), (31, _), (32, _), (33, _), (34, _), (35, _), (36, _), (37, _), (46, _)] (fun i => (upd H k (some (dblk (hPart s2 i))))) (8) (fun _ => True) (.cons rfl .nil) (.cons rfl (.cons rfl (.cons rfl (.cons rfl (.cons rfl (.cons rfl (.cons rfl (.cons rfl (.cons rfl (.cons rfl (.cons rfl (.cons rfl (.cons rfl (.cons rfl (.cons rfl (.cons rfl (.cons rfl (.cons rfl (.cons rfl (.cons rfl (.cons rfl (.cons rfl (.cons rfl (.cons rfl (.cons rfl (.cons rfl (.cons rfl (.cons rfl .nil)))))))))))))))))))))))))))) (by (repeat (first | exact sub_refl _ | assumption | refine sub_upd' ?_ (by ((repeat refine (upd_other _ _ (by omega)).trans ?_); first | exact hf _ (by omega) | exact hfL0 _ (by omega) | exact hfL1 _ (by omega))) | refine sub_trans ?_ hsL1 | refine sub_trans ?_ hsL0 | refine sub_over (by assumption) | refine sub_over0 ?_ | refine sub_trans (sub_same (by assumption)) ?_ | refine sub_dropu ?_ | refine sub_drop ?_ | refine sub_put ?_ (by repeat (first | assumption | exact upd_same _ _ _ | refine (upd_other _ _ (by omega)).trans ?_ | refine hsL1 _ _ ?_ | refine hsL0 _ _ ?_))))) trivial (fun i2 kL2 HL2 hiL2 hkL2 hsL2 hfL2 hxL2 => ?_)
      show ACode _ _ _ _ _ ⟨_, _, _⟩
      refine ACode.seq ?_
      refine ACode.region' [0] (by kernel_rfl) rfl ?_
      refine aOps_1 rfl rfl rfl (AOp.bin' rfl rfl rfl rfl ?_)
      refine aOps_end ?_
      show ACode _ _ _ _ _ _
      refine ACode.seq ?_
      refine ACode.cond rfl (fun c2 => ?_) (fun c2 => ?_)
      · try simp only [decide_eq_true_eq, decide_eq_false_iff_not, beq_iff_eq, beq_eq_false_iff_ne, ne_eq, bne_iff_ne, Bool.not_eq_true', Bool.not_eq_false', Int.not_lt, Int.not_le, gt_iff_lt, ge_iff_le, bne_eq_false_iff_eq, Bool.not_eq_eq_eq_not, Bool.not_true, Bool.not_false] at c2
        refine ACode.skip ?_
        show ACode _ _ _ _ _ _
        refine ACode.seq ?_
        refine ACode.block ?_
        refine ACode.seq ?_
        refine ACode.region' [0, 1, 2, 3] (by kernel_rfl) rfl ?_
        refine aOps_1 rfl rfl rfl (AOp.move' (.inl rfl) rfl ?_)
        refine aOps_1 rfl rfl rfl (AOp.indexM wv (s2.l) 0 (by show i2 < 8; omega) rfl rfl rfl rfl ?_)
        refine aOps_1 rfl rfl rfl (AOp.move' (.inr rfl) rfl ?_)
        refine aOps_1 rfl rfl rfl (AOp.move' (.inr rfl) rfl ?_)
        refine aOps_end ?_
        show ACode _ _ _ _ _ _
        refine ACode.region' [0, 1, 2, 3, 4, 5, 6, 7, 8, 9, 10, 11, 12, 13, 14, 15, 16, 17, 18, 19, 20, 21, 22, 23, 24, 25, 26, 27, 28, 29] (by kernel_rfl) rfl ?_
        refine aOps_1 rfl rfl rfl (AOp.move' (.inl rfl) rfl ?_)
        refine aOps_1 rfl rfl rfl (AOp.mul rfl rfl rfl (i64_wrap (by omega) (by omega)) ?_)
        rw [show 4 * (i2 : Int) = ((4 * i2 : Nat) : Int) by omega]
        refine aOps_1 rfl rfl rfl (AOp.move' (.inl rfl) rfl ?_)
        refine aOps_1 rfl rfl rfl (AOp.mul rfl rfl rfl (i64_wrap (by omega) (by omega)) ?_)
        rw [show 4 * (i2 : Int) = ((4 * i2 : Nat) : Int) by omega]
        refine aOps_1 rfl rfl rfl (AOp.add rfl rfl rfl (i64_wrap (by omega) (by omega)) ?_)
        rw [show ((4 * i2 : Nat) : Int) + 1 = ((4 * i2 + 1 : Nat) : Int) by omega]
        refine aOps_1 rfl rfl rfl (AOp.move' (.inl rfl) rfl ?_)
        refine aOps_1 rfl rfl rfl (AOp.mul rfl rfl rfl (i64_wrap (by omega) (by omega)) ?_)
        rw [show 4 * (i2 : Int) = ((4 * i2 : Nat) : Int) by omega]
        refine aOps_1 rfl rfl rfl (AOp.add rfl rfl rfl (i64_wrap (by omega) (by omega)) ?_)
        rw [show ((4 * i2 : Nat) : Int) + 2 = ((4 * i2 + 2 : Nat) : Int) by omega]
        refine aOps_1 rfl rfl rfl (AOp.move' (.inl rfl) rfl ?_)
        refine aOps_1 rfl rfl rfl (AOp.mul rfl rfl rfl (i64_wrap (by omega) (by omega)) ?_)
        rw [show 4 * (i2 : Int) = ((4 * i2 : Nat) : Int) by omega]
        refine aOps_1 rfl rfl rfl (AOp.add rfl rfl rfl (i64_wrap (by omega) (by omega)) ?_)
        rw [show ((4 * i2 : Nat) : Int) + 3 = ((4 * i2 + 3 : Nat) : Int) by omega]
        refine aOps_1 rfl rfl rfl (AOp.move' (.inl rfl) rfl ?_)
        refine aOps_1 rfl rfl rfl (AOp.wshr (n := 24) rfl rfl rfl (by first | decide | omega) ?_)
        refine aOps_1 rfl rfl rfl (AOp.wtoByte rfl rfl ?_)
        refine aOps_1 rfl rfl rfl (AOp.move' (.inl rfl) rfl ?_)
        refine aOps_1 rfl rfl rfl (AOp.wshr (n := 16) rfl rfl rfl (by first | decide | omega) ?_)
        refine aOps_1 rfl rfl rfl (AOp.wtoByte rfl rfl ?_)
        refine aOps_1 rfl rfl rfl (AOp.move' (.inl rfl) rfl ?_)
        refine aOps_1 rfl rfl rfl (AOp.wshr (n := 8) rfl rfl rfl (by first | decide | omega) ?_)
        refine aOps_1 rfl rfl rfl (AOp.wtoByte rfl rfl ?_)
        refine aOps_1 rfl rfl rfl (AOp.move' (.inl rfl) rfl ?_)
        refine aOps_1 rfl rfl rfl (AOp.wtoByte rfl rfl ?_)
        refine aOps_1 rfl rfl rfl (AOp.indexA (by omega) rfl rfl rfl ?_)
        refine aOps_0 rfl rfl rfl ?_
        refine AOp.storeM bv (hPart s2 i2) (_) (b := ?b3) ?hn3 ?hv3 ?hw3 rfl rfl rfl rfl rfl ?hR3
        (case hn3 => repeat (first | assumption | exact upd_same _ _ _ | refine (upd_other _ _ (by omega)).trans ?_ | refine hsL2 _ _ ?_ | refine hsL1 _ _ ?_ | refine hsL0 _ _ ?_))
        (case hv3 => rfl)
        (case hw3 => exact (by (try simp only [List.length_set]); rw [hPart_len s2 i2 (by omega)]; omega))
        refine aOps_1 rfl rfl rfl (AOp.indexA (by omega) rfl rfl rfl ?_)
        refine aOps_0 rfl rfl rfl ?_
        refine AOp.storeM bv ((hPart s2 i2).set (4 * i2) (UInt8.ofNat (s2.l.getD i2 0 >>> 24).toNat)) (_) (b := ?b4) ?hn4 ?hv4 ?hw4 rfl rfl rfl rfl rfl ?hR4
        (case hn4 => repeat (first | assumption | exact upd_same _ _ _ | refine (upd_other _ _ (by omega)).trans ?_ | refine hsL2 _ _ ?_ | refine hsL1 _ _ ?_ | refine hsL0 _ _ ?_))
        (case hv4 => rfl)
        (case hw4 => exact (by (try simp only [List.length_set]); rw [hPart_len s2 i2 (by omega)]; omega))
        refine aOps_1 rfl rfl rfl (AOp.indexA (by omega) rfl rfl rfl ?_)
        refine aOps_0 rfl rfl rfl ?_
        refine AOp.storeM bv (((hPart s2 i2).set (4 * i2) (UInt8.ofNat (s2.l.getD i2 0 >>> 24).toNat)).set (4 * i2 + 1) (UInt8.ofNat (s2.l.getD i2 0 >>> 16).toNat)) (_) (b := ?b5) ?hn5 ?hv5 ?hw5 rfl rfl rfl rfl rfl ?hR5
        (case hn5 => repeat (first | assumption | exact upd_same _ _ _ | refine (upd_other _ _ (by omega)).trans ?_ | refine hsL2 _ _ ?_ | refine hsL1 _ _ ?_ | refine hsL0 _ _ ?_))
        (case hv5 => rfl)
        (case hw5 => exact (by (try simp only [List.length_set]); rw [hPart_len s2 i2 (by omega)]; omega))
        refine aOps_1 rfl rfl rfl (AOp.indexA (by omega) rfl rfl rfl ?_)
        refine aOps_0 rfl rfl rfl ?_
        refine AOp.storeM bv ((((hPart s2 i2).set (4 * i2) (UInt8.ofNat (s2.l.getD i2 0 >>> 24).toNat)).set (4 * i2 + 1) (UInt8.ofNat (s2.l.getD i2 0 >>> 16).toNat)).set (4 * i2 + 2) (UInt8.ofNat (s2.l.getD i2 0 >>> 8).toNat)) (_) (b := ?b6) ?hn6 ?hv6 ?hw6 rfl rfl rfl rfl rfl ?hR6
        (case hn6 => repeat (first | assumption | exact upd_same _ _ _ | refine (upd_other _ _ (by omega)).trans ?_ | refine hsL2 _ _ ?_ | refine hsL1 _ _ ?_ | refine hsL0 _ _ ?_))
        (case hv6 => rfl)
        (case hw6 => exact (by (try simp only [List.length_set]); rw [hPart_len s2 i2 (by omega)]; omega))
        refine aOps_end ?_
        show ACode _ _ _ _ _ _
        refine ACode.region' [0, 1] (by kernel_rfl) rfl ?_
        refine aOps_1 rfl rfl rfl (AOp.add rfl rfl rfl (i64_wrap (by omega) (by omega)) ?_)
        refine aOps_1 rfl rfl rfl (AOp.move' (.inl rfl) rfl ?_)
        refine aOps_end ?_
        first | refine thenA_n ?_ | simp only [thenA, blockA, if_true]
        exact NextR.mk (by omega) (by omega) (.cons rfl .nil) (.cons rfl (.cons rfl (.cons rfl (.cons rfl (.cons rfl (.cons rfl (.cons rfl (.cons rfl (.cons rfl (.cons rfl (.cons rfl (.cons rfl (.cons rfl (.cons rfl (.cons rfl (.cons rfl (.cons rfl (.cons rfl (.cons rfl (.cons rfl (.cons rfl (.cons rfl (.cons rfl (.cons rfl (.cons rfl (.cons rfl (.cons rfl (.cons rfl .nil)))))))))))))))))))))))))))) (by exact sub_put (by (repeat (first | exact sub_refl _ | assumption | refine sub_upd' ?_ (by ((repeat refine (upd_other _ _ (by omega)).trans ?_); first | exact hf _ (by omega) | exact hfL0 _ (by omega) | exact hfL1 _ (by omega) | exact hfL2 _ (by omega))) | refine sub_trans ?_ hsL2 | refine sub_trans ?_ hsL1 | refine sub_trans ?_ hsL0 | refine sub_over (by assumption) | refine sub_over0 ?_ | refine sub_trans (sub_same (by assumption)) ?_ | refine sub_dropu ?_ | refine sub_drop ?_ | refine sub_put ?_ (by repeat (first | assumption | exact upd_same _ _ _ | refine (upd_other _ _ (by omega)).trans ?_ | refine hsL2 _ _ ?_ | refine hsL1 _ _ ?_ | refine hsL0 _ _ ?_))))) ((upd_same _ _ _).trans (by rw [← hPart_set s2 i2 (by omega)]))) trivial
      · try simp only [decide_eq_true_eq, decide_eq_false_iff_not, beq_iff_eq, beq_eq_false_iff_ne, ne_eq, bne_iff_ne, Bool.not_eq_true', Bool.not_eq_false', Int.not_lt, Int.not_le, gt_iff_lt, ge_iff_le, bne_eq_false_iff_eq, Bool.not_eq_eq_eq_not, Bool.not_true, Bool.not_false] at c2
        refine ACode.exit ?_
        show ACode _ _ _ _ _ _
        refine ACode.seq ?_
        have e2 : i2 = 8 := by omega
        subst e2
        refine ACode.region' [0, 1] (by kernel_rfl) rfl ?_
        refine aOps_1 rfl rfl rfl ?_
        refine AOp.loadAll (b := ?b7) (v := hv ⟨hPart s2 8, rfl⟩) rfl rfl ?hn7 ?hv7 ?hw7 ?hz7 ?hR7
        (case hn7 => repeat (first | assumption | exact upd_same _ _ _ | refine (upd_other _ _ (by omega)).trans ?_ | refine hsL2 _ _ ?_ | refine hsL1 _ _ ?_ | refine hsL0 _ _ ?_))
        (case hv7 => rfl)
        (case hw7 => rfl)
        (case hz7 => first | rfl | exact hv_size _ | exact (aw_size _).trans rfl | exact one_wv _ | exact one_bv _ | (simp; done))
        refine aOps_0 rfl rfl rfl ?_
        refine AOp.storeAll (b := ?b8) rfl rfl rfl ?hn8 ?hk8 rfl ?hw8 ?ho8 ?hl8 ?hR8
        (case hn8 => repeat (first | assumption | exact upd_same _ _ _ | refine (upd_other _ _ (by omega)).trans ?_ | refine hsL2 _ _ ?_ | refine hsL1 _ _ ?_ | refine hsL0 _ _ ?_))
        (case hk8 => rfl)
        (case hw8 => first | rfl | exact hv_size _ | exact (aw_size _).trans rfl | exact one_wv _ | exact one_bv _ | (simp; done))
        (case ho8 => first | rfl | exact hv_size _ | exact (aw_size _).trans rfl | exact one_wv _ | exact one_bv _ | decide | (simp; done))
        (case hl8 => first | rfl | exact hv_size _ | exact (aw_size _).trans rfl | exact one_wv _ | exact one_bv _ | (simp; done))
        refine aOps_end ?_
        show ACode _ _ _ _ _ _
        refine ACode.ret ?_
        exact RetQ.cell rfl rfl (aloadAll (b := dblk (hPart s2 8)) (v := hv ⟨hPart s2 8, rfl⟩) (upd_same _ _ _) rfl rfl (hv_size _)) (by (repeat (first | exact sub_refl _ | assumption | refine sub_upd' ?_ (by ((repeat refine (upd_other _ _ (by omega)).trans ?_); first | exact hf _ (by omega) | exact hfL0 _ (by omega) | exact hfL1 _ (by omega) | exact hfL2 _ (by omega))) | refine sub_trans ?_ hsL2 | refine sub_trans ?_ hsL1 | refine sub_trans ?_ hsL0 | refine sub_over (by assumption) | refine sub_over0 ?_ | refine sub_trans (sub_same (by assumption)) ?_ | refine sub_dropu ?_ | refine sub_drop ?_ | refine sub_put ?_ (by repeat (first | assumption | exact upd_same _ _ _ | refine (upd_other _ _ (by omega)).trans ?_ | refine hsL2 _ _ ?_ | refine hsL1 _ _ ?_ | refine hsL0 _ _ ?_))))) stays (fun hk => ⟨by show _ = Value.agg ((shaB b).map bv).toArray; rw [hsp]; rfl, rfl, by omega⟩)
end

end Go.Proofs.YtipaiielkpifoaaDoor
