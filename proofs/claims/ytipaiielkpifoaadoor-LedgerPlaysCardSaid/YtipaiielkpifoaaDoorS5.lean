/- Contracts over the abstract states: the digest of a tag and parts; a digest's text; the document's words, filling, table. -/
import Derived.Test.YtipaiielkpifoaaDoorS4
set_option linter.unusedVariables false
set_option linter.unusedSimpArgs false
set_option maxRecDepth 100000
namespace Go.Proofs.YtipaiielkpifoaaDoor
open Go Go.Ab

section
variable (H : Hp) (k : Nat)
abbrev gw (l : List W32) : Blk := { cells := l.map wv, elem := 100, kind := .grow, esz := 1 }
abbrev sls (n l : Nat) : Value := .slice (some ⟨n, 0, some 1⟩) l l

theorem tagged_b (ht : H 0 = some tabBlk) (tag : UInt8) (ls : List (List UInt8)) (vs : List Value) (A : Option Addr) (c : Nat) (hs : SLC H 1 A vs.length c vs) (hL : Lvs H vs ls) (hl : vs.length ≤ 1099511627776) (hb : ls.flatten.length ≤ 549755813000) : ACalls Tryd.prog 1 72 [bv tag, .slice A vs.length c] H k (Same H k (hv (shaD (tag :: ls.flatten)))) := by
  refine ACalls.fresh fun hf => ?_
  refine ACalls.body Tryd.func72 rfl (Nat.le_of_ble_eq_true rfl) ?_
  have h0k := old_lt hf ht
  refine ACode.seq ?_
  refine ACode.region' [0] (by kernel_rfl) rfl ?_
  refine aOps_1 rfl rfl rfl (AOp.alloc' rfl ?_)
  refine aOps_end ?_
  show ACode _ _ _ _ _ _
  refine ACode.seq ?_
  refine ACode.region' [0, 1, 2, 3, 4, 5, 6, 7] (by kernel_rfl) rfl ?_
  refine aOps_1 rfl rfl rfl (AOp.move' (.inl rfl) rfl ?_)
  refine aOps_1 rfl rfl rfl (AOp.buildB [_] rfl (by decide) rfl rfl ?_)
  refine aOps_1 rfl rfl rfl (AOp.move' (.inl rfl) rfl ?_)
  refine aOps_1 rfl rfl rfl ?_
  refine AOp.call' rfl rfl rfl (concat_b 1 _ _ ls vs A c (hs.sub (by (repeat (first | exact sub_refl _ | assumption | refine sub_upd' ?_ (by ((repeat refine (upd_other _ _ (by omega)).trans ?_); first | exact hf _ (by omega))) | refine sub_over (by assumption) | refine sub_over0 ?_ | refine sub_trans (sub_same (by assumption)) ?_ | refine sub_dropu ?_ | refine sub_drop ?_ | refine sub_put ?_ (by repeat (first | assumption | exact upd_same _ _ _ | refine (upd_other _ _ (by omega)).trans ?_)))))) (hL.sub (by (repeat (first | exact sub_refl _ | assumption | refine sub_upd' ?_ (by ((repeat refine (upd_other _ _ (by omega)).trans ?_); first | exact hf _ (by omega))) | refine sub_over (by assumption) | refine sub_over0 ?_ | refine sub_trans (sub_same (by assumption)) ?_ | refine sub_dropu ?_ | refine sub_drop ?_ | refine sub_put ?_ (by repeat (first | assumption | exact upd_same _ _ _ | refine (upd_other _ _ (by omega)).trans ?_)))))) hl (by omega)) ?_
  rintro _ _ kq ⟨q, hq1, hq2, rfl, rfl⟩
  refine aOps_1 rfl rfl rfl (AOp.buildG1 (vals := [_, _]) rfl (by decide) rfl rfl (by intro u hu; simp at hu; first | (rcases hu with rfl | rfl | rfl <;> rfl) | (rcases hu with rfl | rfl <;> rfl) | (subst hu; rfl) | (rcases hu with rfl | rfl | rfl | rfl <;> rfl)) ?_)
  have hb2 : [[tag], ls.flatten].flatten.length ≤ 1099511627776 := by rw [show [[tag], ls.flatten].flatten = tag :: ls.flatten by simp, List.length_cons]; omega
  refine aOps_1 rfl rfl rfl ?_
  refine AOp.call' rfl rfl rfl (concat_b 1 _ _ [[tag], ls.flatten] [gsl (k + 1) [tag].length, gsl q ls.flatten.length] (some ⟨kq, 0, some 1⟩) 2 (SLC.grow (n := kq) (l := 2) (b := { cells := [gsl (k + 1) [tag].length, gsl q ls.flatten.length], elem := 25, kind := .grow }) (by repeat (first | assumption | exact upd_same _ _ _ | refine (upd_other _ _ (by omega)).trans ?_)) rfl rfl) (Lvs.cons (SLC.gb (n := k + 1) (e := 5) (bs := [tag]) (by repeat (first | assumption | exact upd_same _ _ _ | refine (upd_other _ _ (by omega)).trans ?_))) (Lvs.cons (SLC.gb (n := q) (e := 5) (bs := ls.flatten) (by repeat (first | assumption | exact upd_same _ _ _ | refine (upd_other _ _ (by omega)).trans ?_))) Lvs.nil)) (by simp) hb2) ?_
  rintro _ _ kq2 ⟨q2, hq3, hq4, rfl, rfl⟩
  rw [show [[tag], ls.flatten].flatten = tag :: ls.flatten by simp]
  refine aOps_q rfl rfl rfl (AOp.call' rfl rfl rfl (sum_b _ _ (by repeat (first | assumption | exact upd_same _ _ _ | refine (upd_other _ _ (by omega)).trans ?_)) (tag :: ls.flatten) (some ⟨q2, 0, some 1⟩) _ (SLC.gb (e := 5) (by repeat (first | assumption | exact upd_same _ _ _ | refine (upd_other _ _ (by omega)).trans ?_))) (by rw [List.length_cons]; omega)) (fun _ _ _ h => h)) (fun kq3 hkq3 => ?_)
  generalize shaD (tag :: ls.flatten) = D
  refine aOps_0 rfl rfl rfl ?_
  refine AOp.storeAll (b := ?b1) rfl rfl rfl ?hn1 ?hk1 rfl ?hw1 ?ho1 ?hl1 ?hR1
  (case hn1 => repeat (first | assumption | exact upd_same _ _ _ | refine (upd_other _ _ (by omega)).trans ?_))
  (case hk1 => rfl)
  (case hw1 => first | rfl | exact hv_size _ | exact (aw_size _).trans rfl | exact one_wv _ | exact one_bv _ | (simp; done))
  (case ho1 => first | rfl | exact hv_size _ | exact (aw_size _).trans rfl | exact one_wv _ | exact one_bv _ | decide | (simp; done))
  (case hl1 => first | rfl | exact hv_size _ | exact (aw_size _).trans rfl | exact one_wv _ | exact one_bv _ | (simp; done))
  refine aOps_end ?_
  show ACode _ _ _ _ _ _
  refine ACode.ret ?_
  exact RetQ.cell rfl rfl (aloadAll (b := dblk D.l) (v := hv D) (upd_same _ _ _) rfl rfl (hv_size _)) (by (repeat (first | exact sub_refl _ | assumption | refine sub_upd' ?_ (by ((repeat refine (upd_other _ _ (by omega)).trans ?_); first | exact hf _ (by omega))) | refine sub_over (by assumption) | refine sub_over0 ?_ | refine sub_trans (sub_same (by assumption)) ?_ | refine sub_dropu ?_ | refine sub_drop ?_ | refine sub_put ?_ (by repeat (first | assumption | exact upd_same _ _ _ | refine (upd_other _ _ (by omega)).trans ?_))))) stays (fun hk => ⟨rfl, rfl, by omega⟩)

theorem refr_w (x : W32) (n : Nat) (h : 1 ≤ n) (hn : n ≤ 31) : ACalls Tryd.prog 1 97 [wv x, .int .u64 (n : Int)] H k (Same H k (wv (rotr x n))) := by
  refine ACalls.fresh fun hf => ?_
  refine ACalls.body Tryd.func97 rfl (Nat.le_of_ble_eq_true rfl) ?_
  refine ACode.seq ?_
  refine ACode.region' [0] (by kernel_rfl) rfl ?_
  refine aOps_1 rfl rfl rfl (AOp.move' (.inr rfl) rfl ?_)
  refine aOps_end ?_
  show ACode _ _ _ _ _ _
  refine ACode.seq ?_
  refine ACode.region' [0, 1, 2, 3, 4, 5, 6, 7, 8] (by kernel_rfl) rfl ?_
  refine aOps_1 rfl rfl rfl (AOp.move' (.inl rfl) rfl ?_)
  refine aOps_1 rfl rfl rfl (AOp.move' (.inl rfl) rfl ?_)
  refine aOps_1 rfl rfl rfl (AOp.wshr rfl rfl rfl (by first | decide | omega) ?_)
  refine aOps_1 rfl rfl rfl (AOp.move' (.inl rfl) rfl ?_)
  refine aOps_1 rfl rfl rfl (AOp.move' (.inl rfl) rfl ?_)
  refine aOps_1 rfl rfl rfl (AOp.sub rfl rfl rfl (by rw [IntKind.wrap_u64]; omega) ?_)
  rw [show (32 - (n : Int)) = ((32 - n : Nat) : Int) by omega]
  refine aOps_1 rfl rfl rfl (AOp.wshl rfl rfl rfl (by first | decide | omega) ?_)
  refine aOps_1 rfl rfl rfl (AOp.wor rfl rfl rfl ?_)
  refine aOps_1 rfl rfl rfl (AOp.move' (.inr rfl) rfl ?_)
  refine aOps_end ?_
  show ACode _ _ _ _ _ _
  refine ACode.ret ?_
  exact RetQ.one rfl rfl (by (repeat (first | exact sub_refl _ | assumption | refine sub_upd' ?_ (by ((repeat refine (upd_other _ _ (by omega)).trans ?_); first | exact hf _ (by omega))) | refine sub_over (by assumption) | refine sub_over0 ?_ | refine sub_trans (sub_same (by assumption)) ?_ | refine sub_dropu ?_ | refine sub_drop ?_ | refine sub_put ?_ (by repeat (first | assumption | exact upd_same _ _ _ | refine (upd_other _ _ (by omega)).trans ?_))))) stays (fun hk => ⟨rfl, rfl, by omega⟩)

theorem refdiv_w (x : W32) (n : Nat) (hn : n ≤ 31) : ACalls Tryd.prog 1 98 [wv x, .int .u64 (n : Int)] H k (Same H k (wv (x >>> n))) := by
  refine ACalls.fresh fun hf => ?_
  refine ACalls.body Tryd.func98 rfl (Nat.le_of_ble_eq_true rfl) ?_
  refine ACode.seq ?_
  refine ACode.region' [0] (by kernel_rfl) rfl ?_
  refine aOps_1 rfl rfl rfl (AOp.move' (.inr rfl) rfl ?_)
  refine aOps_end ?_
  show ACode _ _ _ _ _ _
  refine ACode.seq ?_
  refine ACode.region' [0, 1, 2, 3] (by kernel_rfl) rfl ?_
  refine aOps_1 rfl rfl rfl (AOp.move' (.inl rfl) rfl ?_)
  refine aOps_1 rfl rfl rfl (AOp.move' (.inl rfl) rfl ?_)
  refine aOps_1 rfl rfl rfl (AOp.wshr rfl rfl rfl (by first | decide | omega) ?_)
  refine aOps_1 rfl rfl rfl (AOp.move' (.inr rfl) rfl ?_)
  refine aOps_end ?_
  show ACode _ _ _ _ _ _
  refine ACode.ret ?_
  exact RetQ.one rfl rfl (by (repeat (first | exact sub_refl _ | assumption | refine sub_upd' ?_ (by ((repeat refine (upd_other _ _ (by omega)).trans ?_); first | exact hf _ (by omega))) | refine sub_over (by assumption) | refine sub_over0 ?_ | refine sub_trans (sub_same (by assumption)) ?_ | refine sub_dropu ?_ | refine sub_drop ?_ | refine sub_put ?_ (by repeat (first | assumption | exact upd_same _ _ _ | refine (upd_other _ _ (by omega)).trans ?_))))) stays (fun hk => ⟨rfl, rfl, by omega⟩)

theorem reftab : ACalls Tryd.prog 1 87 [] H k (NewS H k 100 1 64 (kTab.map wv)) := by
  refine ACalls.fresh fun hf => ?_
  refine ACalls.body Tryd.func87 rfl (Nat.le_of_ble_eq_true rfl) ?_
  refine ACode.seq ?_
  refine ACode.region' [0] (by kernel_rfl) rfl ?_
  refine aOps_1 rfl rfl rfl (AOp.move' (.inr rfl) rfl ?_)
  refine aOps_end ?_
  show ACode _ _ _ _ _ _
  refine ACode.seq ?_
  refine ACode.region' [0, 1] (by kernel_rfl) rfl ?_
  refine aOps_1 rfl rfl rfl (AOp.buildG1 (vals := kTab.map wv) rfl (by decide) rfl rfl (wv_ones _) ?_)
  refine aOps_1 rfl rfl rfl (AOp.move' (.inr rfl) rfl ?_)
  refine aOps_end ?_
  show ACode _ _ _ _ _ _
  refine ACode.ret ?_
  exact RetQ.one rfl rfl (sub_refl _) stays_upd (fun hk => ⟨k, Nat.le_refl _, by omega, rfl, rfl⟩)

theorem reffill_b (b : List UInt8) (A : Option Addr) (c : Nat) (hs : SLC H 1 A b.length c (b.map bv)) (hl : b.length ≤ 549755813888) : ACalls Tryd.prog 1 88 [.slice A b.length c] H k (NewB H k 5 (padB b)) := by
  refine ACalls.fresh fun hf => ?_
  refine ACalls.body Tryd.func88 rfl (Nat.le_of_ble_eq_true rfl) ?_
  have hpz : padZ b.length = (119 - b.length % 64) % 64 := rfl
  have hp64 : padZ b.length < 64 := by omega
  refine ACode.seq ?_
  refine ACode.region' [0] (by kernel_rfl) rfl ?_
  refine aOps_1 rfl rfl rfl (AOp.move' (.inr rfl) rfl ?_)
  refine aOps_end ?_
  show ACode _ _ _ _ _ _
  refine ACode.seq ?_
  refine ACode.region' [0, 1, 2, 3, 4, 5] (by kernel_rfl) rfl ?_
  refine aOps_1 rfl rfl rfl (AOp.buildB [] rfl (by decide) rfl rfl ?_)
  refine aOps_1 rfl rfl rfl (AOp.move' (.inl rfl) rfl ?_)
  refine aOps_1 rfl rfl rfl ?_
  refine AOp.appendB (ps := ?ns2) rfl rfl rfl ?hn2 ?hsrc2 ?ht2 ?hw2 ?hz2 ?hR2
  (case hn2 => repeat (first | assumption | exact upd_same _ _ _ | refine (upd_other _ _ (by omega)).trans ?_))
  (case hsrc2 => refine srcOf_slc (SLC.sub hs ?_).cells; (repeat (first | exact sub_refl _ | assumption | refine sub_upd' ?_ (by ((repeat refine (upd_other _ _ (by omega)).trans ?_); first | exact hf _ (by omega))) | refine sub_over (by assumption) | refine sub_over0 ?_ | refine sub_trans (sub_same (by assumption)) ?_ | refine sub_dropu ?_ | refine sub_drop ?_ | refine sub_put ?_ (by repeat (first | assumption | exact upd_same _ _ _ | refine (upd_other _ _ (by omega)).trans ?_)))))
  (case ht2 => exact srcOk_sl)
  (case hw2 => (first | omega | (simp only [List.length_cons, List.length_nil]; omega) | (simp only [List.length_append, List.length_cons, List.length_nil]; omega) | (simp; omega)))
  (case hz2 => (first | omega | (simp only [List.length_cons, List.length_nil]; omega) | (simp only [List.length_append, List.length_cons, List.length_nil]; omega) | (simp; omega)))
  refine aOps_1 rfl rfl rfl (AOp.buildB [128] rfl (by decide) rfl rfl ?_)
  refine aOps_1 rfl rfl rfl ?_
  refine AOp.appendB (ps := ?ns3) rfl rfl rfl ?hn3 ?hsrc3 ?ht3 ?hw3 ?hz3 ?hR3
  (case hn3 => repeat (first | assumption | exact upd_same _ _ _ | refine (upd_other _ _ (by omega)).trans ?_))
  (case hsrc3 => refine srcOf_gb (e := 5) ?e13; (case e13 => repeat (first | assumption | exact upd_same _ _ _ | refine (upd_other _ _ (by omega)).trans ?_)))
  (case ht3 => exact srcOk_sl)
  (case hw3 => (first | omega | (simp only [List.length_cons, List.length_nil]; omega) | (simp only [List.length_append, List.length_cons, List.length_nil]; omega) | (simp; omega)))
  (case hz3 => (first | omega | (simp only [List.length_cons, List.length_nil]; omega) | (simp only [List.length_append, List.length_cons, List.length_nil]; omega) | (simp; omega)))
  refine aOps_1 rfl rfl rfl (AOp.move' (.inr rfl) rfl ?_)
  refine aOps_end ?_
  show ACode _ _ _ _ _ _
  refine ACode.seq ?_
  refine ACode.block ?_
  refine ACode.count (fun i => [(3, gsl k (b ++ 128 :: List.replicate i 0).length)]) [(0, _), (2, _), (7, _), (8, _), (9, _), (10, _), (11, _)] (fun i => upd H k (some (gb (b ++ 128 :: List.replicate i 0)))) (padZ b.length) (fun _ => True) (.cons rfl .nil) (.cons rfl (.cons rfl (.cons rfl (.cons rfl (.cons rfl (.cons rfl (.cons rfl .nil))))))) (by (repeat (first | exact sub_refl _ | assumption | refine sub_upd' ?_ (by ((repeat refine (upd_other _ _ (by omega)).trans ?_); first | exact hf _ (by omega))) | refine sub_over (by assumption) | refine sub_over0 ?_ | refine sub_trans (sub_same (by assumption)) ?_ | refine sub_dropu ?_ | refine sub_drop ?_ | refine sub_put ?_ (by repeat (first | assumption | exact upd_same _ _ _ | refine (upd_other _ _ (by omega)).trans ?_))))) trivial (fun i0 kL0 HL0 hiL0 hkL0 hsL0 hfL0 hxL0 => ?_)
  show ACode _ _ _ _ _ ⟨_, _, _⟩
  refine ACode.seq ?_
  refine ACode.seq ?_
  have hlr : (b ++ 128 :: List.replicate i0 0).length = b.length + 1 + i0 := by simp; omega
  have hl8 : (((b ++ 128 :: List.replicate i0 0).length : Nat) : Int) + 8 = ((b.length + 9 + i0 : Nat) : Int) := by omega
  refine ACode.region' [0, 1, 2, 3, 4] (by kernel_rfl) rfl ?_
  refine aOps_1 rfl rfl rfl (AOp.move' (.inl rfl) rfl ?_)
  refine aOps_1 rfl rfl rfl (AOp.len' rfl rfl ?_)
  refine aOps_1 rfl rfl rfl (AOp.add rfl rfl rfl (i64_wrap (by omega) (by omega)) ?_)
  rw [hl8]
  refine aOps_1 rfl rfl rfl (AOp.bin' rfl rfl rfl rfl ?_)
  rw [tmod64 (b.length + 9 + i0)]
  refine aOps_1 rfl rfl rfl (AOp.bin' rfl rfl rfl rfl ?_)
  refine aOps_end ?_
  show ACode _ _ _ _ _ _
  refine ACode.cond rfl (fun c0 => ?_) (fun c0 => ?_)
  · try simp only [decide_eq_true_eq, decide_eq_false_iff_not, beq_iff_eq, beq_eq_false_iff_ne, ne_eq, bne_iff_ne, Bool.not_eq_true', Bool.not_eq_false', Int.not_lt, Int.not_le, gt_iff_lt, ge_iff_le, bne_eq_false_iff_eq, Bool.not_eq_eq_eq_not, Bool.not_true, Bool.not_false] at c0
    refine ACode.skip ?_
    show ACode _ _ _ _ _ _
    refine ACode.block ?_
    refine ACode.region' [0, 1, 2, 3] (by kernel_rfl) rfl ?_
    refine aOps_1 rfl rfl rfl (AOp.move' (.inl rfl) rfl ?_)
    refine aOps_1 rfl rfl rfl (AOp.buildB [0] rfl (by decide) rfl rfl ?_)
    refine aOps_1 rfl rfl rfl ?_
    refine AOp.appendB (ps := ?ns4) rfl rfl rfl ?hn4 ?hsrc4 ?ht4 ?hw4 ?hz4 ?hR4
    (case hn4 => repeat (first | assumption | exact upd_same _ _ _ | refine (upd_other _ _ (by omega)).trans ?_ | refine hsL0 _ _ ?_))
    (case hsrc4 => refine srcOf_gb (e := 5) ?e14; (case e14 => repeat (first | assumption | exact upd_same _ _ _ | refine (upd_other _ _ (by omega)).trans ?_ | refine hsL0 _ _ ?_)))
    (case ht4 => exact srcOk_sl)
    (case hw4 => (first | omega | (simp only [List.length_cons, List.length_nil]; omega) | (simp only [List.length_append, List.length_cons, List.length_nil]; omega) | (simp; omega)))
    (case hz4 => (first | omega | (simp only [List.length_cons, List.length_nil]; omega) | (simp only [List.length_append, List.length_cons, List.length_nil]; omega) | (simp; omega)))
    refine aOps_1 rfl rfl rfl (AOp.move' (.inr rfl) rfl ?_)
    refine aOps_end ?_
    have e4 : (b ++ 128 :: List.replicate (i0 + 1) 0) = (b ++ 128 :: List.replicate i0 0) ++ [0] := by rw [List.replicate_succ']; simp
    first | refine thenA_n ?_ | simp only [thenA, blockA, if_true]
    exact NextR.mk (by omega) (by omega) (.cons (show _ = some (gsl k _) by rw [e4]; rfl) .nil) (.cons rfl (.cons rfl (.cons rfl (.cons rfl (.cons rfl (.cons rfl (.cons rfl .nil))))))) (by exact sub_over_eq (y := some (gb (b ++ 128 :: List.replicate i0 0))) (by (repeat (first | exact sub_refl _ | assumption | refine sub_upd' ?_ (by ((repeat refine (upd_other _ _ (by omega)).trans ?_); first | exact hf _ (by omega) | exact hfL0 _ (by omega))) | refine sub_trans ?_ hsL0 | refine sub_over (by assumption) | refine sub_over0 ?_ | refine sub_trans (sub_same (by assumption)) ?_ | refine sub_dropu ?_ | refine sub_drop ?_ | refine sub_put ?_ (by repeat (first | assumption | exact upd_same _ _ _ | refine (upd_other _ _ (by omega)).trans ?_ | refine hsL0 _ _ ?_))))) (by rw [e4])) trivial
  · try simp only [decide_eq_true_eq, decide_eq_false_iff_not, beq_iff_eq, beq_eq_false_iff_ne, ne_eq, bne_iff_ne, Bool.not_eq_true', Bool.not_eq_false', Int.not_lt, Int.not_le, gt_iff_lt, ge_iff_le, bne_eq_false_iff_eq, Bool.not_eq_eq_eq_not, Bool.not_true, Bool.not_false] at c0
    refine ACode.exit ?_
    show ACode _ _ _ _ _ _
    refine ACode.seq ?_
    have e0 : i0 = padZ b.length := by omega
    subst e0
    refine ACode.region' [0, 1, 2, 3, 4] (by kernel_rfl) rfl ?_
    refine aOps_1 rfl rfl rfl (AOp.move' (.inl rfl) rfl ?_)
    refine aOps_1 rfl rfl rfl (AOp.len' rfl rfl ?_)
    refine aOps_1 rfl rfl rfl (AOp.convU64 rfl rfl (by omega) ?_)
    refine aOps_1 rfl rfl rfl (AOp.bin' (z := .int .u64 ((b.length * 8 : Nat) : Int)) rfl rfl rfl (congrArg (fun z => some (Value.int .u64 z)) (by show IntKind.u64.wrap ((b.length : Int) * 8) = _; rw [IntKind.wrap_u64]; omega)) ?_)
    refine aOps_1 rfl rfl rfl (AOp.move' (.inr rfl) rfl ?_)
    refine aOps_end ?_
    show ACode _ _ _ _ _ _
    refine ACode.seq ?_
    refine ACode.region' [0] (by kernel_rfl) rfl ?_
    refine aOps_1 rfl rfl rfl (AOp.move' (.inr rfl) rfl ?_)
    refine aOps_end ?_
    show ACode _ _ _ _ _ _
    refine ACode.seq ?_
    refine ACode.seq ?_
    refine ACode.region' [0] (by kernel_rfl) rfl ?_
    refine aOps_1 rfl rfl rfl (AOp.move' (.inr rfl) rfl ?_)
    refine aOps_end ?_
    show ACode _ _ _ _ _ _
    refine ACode.block ?_
    refine ACode.adopt (t := 5) 5 1 (by decide) rfl ?_
    refine ACode.countG (γ := Nat) (fun i g => [(6, .int .i64 (i : Int)), (4, .int .u64 ((b.length * 8 / 256 ^ i : Nat) : Int)), (5, gsl g ((len8 b.length).drop (8 - i)).length)]) [(0, _), (2, _), (3, _), (7, _), (8, _), (9, _), (10, _), (11, _), (12, _), (13, _), (14, _), (15, _), (16, _), (20, _), (21, _), (22, _), (23, _)] (fun i g => upd (upd H k (some (gb (b ++ 128 :: List.replicate (padZ b.length) 0)))) g (some (gb ((len8 b.length).drop (8 - i))))) (8) (fun i g => k < g) (kL0) (.cons rfl (.cons (show _ = some (Value.int .u64 _) by rw [Nat.pow_zero, Nat.div_one]; rfl) (.cons rfl .nil))) (.cons rfl (.cons rfl (.cons rfl (.cons rfl (.cons rfl (.cons rfl (.cons rfl (.cons rfl (.cons rfl (.cons rfl (.cons rfl (.cons rfl (.cons rfl (.cons rfl (.cons rfl (.cons rfl (.cons rfl .nil))))))))))))))))) (by (repeat (first | exact sub_refl _ | assumption | refine sub_upd' ?_ (by ((repeat refine (upd_other _ _ (by omega)).trans ?_); first | exact hf _ (by omega) | exact hfL0 _ (by omega))) | refine sub_trans ?_ hsL0 | refine sub_over (by assumption) | refine sub_over0 ?_ | refine sub_trans (sub_same (by assumption)) ?_ | refine sub_dropu ?_ | refine sub_drop ?_ | refine sub_put ?_ (by repeat (first | assumption | exact upd_same _ _ _ | refine (upd_other _ _ (by omega)).trans ?_ | refine hsL0 _ _ ?_))))) (by omega) (fun i1 g1 kL1 HL1 hiL1 hkL1 hsL1 hfL1 hxL1 => ?_)
    show ACode _ _ _ _ _ ⟨_, _, _⟩
    have hgk1 := old_lt hfL1 (hsL1 _ _ (upd_same _ _ _))
    refine ACode.seq ?_
    refine ACode.seq ?_
    refine ACode.region' [0, 1] (by kernel_rfl) rfl ?_
    refine aOps_1 rfl rfl rfl (AOp.move' (.inl rfl) rfl ?_)
    refine aOps_1 rfl rfl rfl (AOp.bin' rfl rfl rfl rfl ?_)
    refine aOps_end ?_
    show ACode _ _ _ _ _ _
    refine ACode.cond rfl (fun c1 => ?_) (fun c1 => ?_)
    · try simp only [decide_eq_true_eq, decide_eq_false_iff_not, beq_iff_eq, beq_eq_false_iff_ne, ne_eq, bne_iff_ne, Bool.not_eq_true', Bool.not_eq_false', Int.not_lt, Int.not_le, gt_iff_lt, ge_iff_le, bne_eq_false_iff_eq, Bool.not_eq_eq_eq_not, Bool.not_true, Bool.not_false] at c1
      refine ACode.skip ?_
      show ACode _ _ _ _ _ _
      refine ACode.seq ?_
      refine ACode.block ?_
      refine ACode.seq ?_
      have hi8 : i1 < 8 := by omega
      have hl8n : (len8 b.length).length = 8 := rfl
      have hdl : ((len8 b.length).drop (8 - i1)).length = i1 := by rw [List.length_drop]; show 8 - (8 - i1) = i1; omega
      refine ACode.region' [0, 1, 2, 3, 4, 5, 6] (by kernel_rfl) rfl ?_
      refine aOps_1 rfl rfl rfl (AOp.move' (.inl rfl) rfl ?_)
      refine aOps_1 rfl rfl rfl (AOp.bin' (z := .int .u64 ((b.length * 8 / 256 ^ i1 % 256 : Nat) : Int)) rfl rfl rfl rfl ?_)
      refine aOps_1 rfl rfl rfl (AOp.toU8 rfl rfl ?_)
      refine aOps_1 rfl rfl rfl (AOp.buildB [_] rfl (by decide) rfl rfl ?_)
      refine aOps_1 rfl rfl rfl (AOp.move' (.inl rfl) rfl ?_)
      refine aOps_1 rfl rfl rfl ?_
      refine AOp.appendB (ps := ?ns5) rfl rfl rfl ?hn5 ?hsrc5 ?ht5 ?hw5 ?hz5 ?hR5
      (case hn5 => repeat (first | assumption | exact upd_same _ _ _ | refine (upd_other _ _ (by omega)).trans ?_ | refine hsL1 _ _ ?_ | refine hsL0 _ _ ?_))
      (case hsrc5 => refine srcOf_gb (e := 5) ?e15; (case e15 => repeat (first | assumption | exact upd_same _ _ _ | refine (upd_other _ _ (by omega)).trans ?_ | refine hsL1 _ _ ?_ | refine hsL0 _ _ ?_)))
      (case ht5 => exact srcOk_sl)
      (case hw5 => (first | omega | (simp only [List.length_cons, List.length_nil]; omega) | (simp only [List.length_append, List.length_cons, List.length_nil]; omega) | (simp; omega)))
      (case hz5 => (first | omega | (simp only [List.length_cons, List.length_nil]; omega) | (simp only [List.length_append, List.length_cons, List.length_nil]; omega) | (simp; omega)))
      refine aOps_1 rfl rfl rfl (AOp.move' (.inr rfl) rfl ?_)
      refine aOps_end ?_
      show ACode _ _ _ _ _ _
      refine ACode.region' [0, 1, 2] (by kernel_rfl) rfl ?_
      refine aOps_1 rfl rfl rfl (AOp.move' (.inl rfl) rfl ?_)
      refine aOps_1 rfl rfl rfl (AOp.bin' (z := .int .u64 ((b.length * 8 / 256 ^ i1 / 256 : Nat) : Int)) rfl rfl rfl (congrArg (fun z => some (Value.int .u64 z)) (by have h9 : b.length * 8 / 256 ^ i1 ≤ b.length * 8 := Nat.div_le_self _ _; generalize b.length * 8 / 256 ^ i1 = y at h9 ⊢; show IntKind.u64.wrap (((y / 256 : Nat) : Int)) = _; rw [IntKind.wrap_u64]; omega)) ?_)
      refine aOps_1 rfl rfl rfl (AOp.move' (.inr rfl) rfl ?_)
      refine aOps_end ?_
      show ACode _ _ _ _ _ _
      refine ACode.region' [0, 1, 2] (by kernel_rfl) rfl ?_
      refine aOps_1 rfl rfl rfl (AOp.move' (.inl rfl) rfl ?_)
      refine aOps_1 rfl rfl rfl (AOp.add rfl rfl rfl (i64_wrap (by omega) (by omega)) ?_)
      refine aOps_1 rfl rfl rfl (AOp.move' (.inr rfl) rfl ?_)
      refine aOps_end ?_
      have e5 := len8_drop b.length i1 hi8
      have e6 := div_pow256 (b.length * 8) i1
      first | refine thenA_n ?_ | simp only [thenA, blockA, if_true]
      exact NextG.mk (by omega) (by omega) (kL1) (.cons rfl (.cons (show _ = some (Value.int .u64 _) by rw [e6]; rfl) (.cons (show _ = some (gsl kL1 _) by rw [e5]; rfl) .nil))) (.cons rfl (.cons rfl (.cons rfl (.cons rfl (.cons rfl (.cons rfl (.cons rfl (.cons rfl (.cons rfl (.cons rfl (.cons rfl (.cons rfl (.cons rfl (.cons rfl (.cons rfl (.cons rfl (.cons rfl .nil))))))))))))))))) (by exact sub_put (by (repeat (first | exact sub_refl _ | assumption | refine sub_upd' ?_ (by ((repeat refine (upd_other _ _ (by omega)).trans ?_); first | exact hf _ (by omega) | exact hfL0 _ (by omega) | exact hfL1 _ (by omega))) | refine sub_trans ?_ hsL1 | refine sub_trans ?_ hsL0 | refine sub_over (by assumption) | refine sub_over0 ?_ | refine sub_trans (sub_same (by assumption)) ?_ | refine sub_dropu ?_ | refine sub_drop ?_ | refine sub_put ?_ (by repeat (first | assumption | exact upd_same _ _ _ | refine (upd_other _ _ (by omega)).trans ?_ | refine hsL1 _ _ ?_ | refine hsL0 _ _ ?_))))) ((upd_same _ _ _).trans (by rw [e5]; rfl))) (by omega)
    · try simp only [decide_eq_true_eq, decide_eq_false_iff_not, beq_iff_eq, beq_eq_false_iff_ne, ne_eq, bne_iff_ne, Bool.not_eq_true', Bool.not_eq_false', Int.not_lt, Int.not_le, gt_iff_lt, ge_iff_le, bne_eq_false_iff_eq, Bool.not_eq_eq_eq_not, Bool.not_true, Bool.not_false] at c1
      refine ACode.exit ?_
      show ACode _ _ _ _ _ _
      refine ACode.seq ?_
      have hl8n : (len8 b.length).length = 8 := rfl
      have e1 : i1 = 8 := by omega
      subst e1
      refine ACode.region' [0, 1, 2, 3] (by kernel_rfl) rfl ?_
      refine aOps_1 rfl rfl rfl (AOp.move' (.inl rfl) rfl ?_)
      refine aOps_1 rfl rfl rfl (AOp.move' (.inl rfl) rfl ?_)
      refine aOps_1 rfl rfl rfl ?_
      refine AOp.appendB (ps := ?ns6) rfl rfl rfl ?hn6 ?hsrc6 ?ht6 ?hw6 ?hz6 ?hR6
      (case hn6 => repeat (first | assumption | exact upd_same _ _ _ | refine (upd_other _ _ (by omega)).trans ?_ | refine hsL1 _ _ ?_ | refine hsL0 _ _ ?_))
      (case hsrc6 => refine srcOf_gb (e := 5) ?e16; (case e16 => repeat (first | assumption | exact upd_same _ _ _ | refine (upd_other _ _ (by omega)).trans ?_ | refine hsL1 _ _ ?_ | refine hsL0 _ _ ?_)))
      (case ht6 => exact srcOk_sl)
      (case hw6 => (first | omega | (simp only [List.length_cons, List.length_nil]; omega) | (simp only [List.length_append, List.length_cons, List.length_nil]; omega) | (simp; omega)))
      (case hz6 => (first | omega | (simp only [List.length_cons, List.length_nil]; omega) | (simp only [List.length_append, List.length_cons, List.length_nil]; omega) | (simp; omega)))
      refine aOps_1 rfl rfl rfl (AOp.move' (.inr rfl) rfl ?_)
      refine aOps_end ?_
      show ACode _ _ _ _ _ _
      refine ACode.ret ?_
      have e9 : (b ++ 128 :: List.replicate (padZ b.length) 0) ++ ((len8 b.length).drop (8 - 8)) = padB b := by rw [padB, fillB, List.append_assoc]; rfl
      exact RetQ.one (H'' := upd H k (some (gb (padB b)))) rfl rfl (sub_put (by (repeat (first | exact sub_refl _ | assumption | refine sub_upd' ?_ (by ((repeat refine (upd_other _ _ (by omega)).trans ?_); first | exact hf _ (by omega) | exact hfL0 _ (by omega) | exact hfL1 _ (by omega))) | refine sub_trans ?_ hsL1 | refine sub_trans ?_ hsL0 | refine sub_over (by assumption) | refine sub_over0 ?_ | refine sub_trans (sub_same (by assumption)) ?_ | refine sub_dropu ?_ | refine sub_drop ?_ | refine sub_put ?_ (by repeat (first | assumption | exact upd_same _ _ _ | refine (upd_other _ _ (by omega)).trans ?_ | refine hsL1 _ _ ?_ | refine hsL0 _ _ ?_))))) ((upd_same _ _ _).trans (by rw [e9]))) stays_upd (fun hk => ⟨k, Nat.le_refl _, by omega, by rw [e9], rfl⟩)
end

end Go.Proofs.YtipaiielkpifoaaDoor
