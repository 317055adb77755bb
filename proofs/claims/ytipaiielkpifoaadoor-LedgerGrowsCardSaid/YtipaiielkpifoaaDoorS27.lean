/- Contracts over the abstract states: what a proof is put together to. -/
import Derived.Test.YtipaiielkpifoaaDoorS26
set_option linter.unusedVariables false
set_option linter.unusedSimpArgs false
set_option maxRecDepth 100000
namespace Go.Proofs.YtipaiielkpifoaaDoor
open Go Go.Ab

theorem sizeN_pos {m n : Nat} {part : Bool} (h : 2 ≤ n) (hmn : m < n) : 1 ≤ sizeN m n part := by
  rcases Nat.lt_or_ge (spN n) m with g | g
  · rw [sizeN_r h hmn (by omega)]; omega
  · rw [sizeN_l h g]; omega
abbrev rbk (a b : Dg) : Blk := { cells := rcs a b [], elem := 87, kind := .fix }
section
variable (H : Hp) (k : Nat)

theorem put_b : ∀ (N : Nat) (m n : Nat) (a : Dg) (p : List Dg) (part : Bool) (A : Option Addr) (c : Nat) (H : Hp) (k : Nat), H 0 = some tabBlk → SLC H 32 A p.length c (hcs p) → 1 ≤ m → m ≤ n → n ≤ 1099511627776 → p.length = sizeN m n part → n < N → ACalls Tryd.prog 1 71 [.int .i64 (m : Int), .int .i64 (n : Int), hv a, .slice A p.length c, .bool part] H k (Same H k (rv (putT m n a p part))) := by
  intro N
  induction N
  case zero => intro m n a p part A c H k ht hs h1 h2 h3 h4 hN; omega
  rename_i N ih
  intro m n a p part A c H k ht hs hm1 hm2 hn hsz hN
  refine ACalls.fresh fun hf => ?_
  refine ACalls.body Tryd.func71 rfl (Nat.le_of_ble_eq_true rfl) ?_
  have h0k := old_lt hf ht
  have hs41 := sizeN_le (part := part) 40 (m := m) (n := n) (by omega) hm2
  refine ACode.seq ?_
  refine ACode.region' [0, 1] (by kernel_rfl) rfl ?_
  refine aOps_1 rfl rfl rfl (AOp.boxV rfl rfl ?_)
  refine aOps_1 rfl rfl rfl (AOp.alloc' rfl ?_)
  refine aOps_end ?_
  show ACode _ _ _ _ _ _
  refine ACode.seq ?_
  refine ACode.seq ?_
  refine ACode.region' [0, 1, 2] (by kernel_rfl) rfl ?_
  refine aOps_1 rfl rfl rfl (AOp.move' (.inl rfl) rfl ?_)
  refine aOps_1 rfl rfl rfl (AOp.move' (.inl rfl) rfl ?_)
  refine aOps_1 rfl rfl rfl (AOp.bin' rfl rfl rfl rfl ?_)
  refine aOps_end ?_
  show ACode _ _ _ _ _ _
  refine ACode.cond rfl (fun c0 => ?_) (fun c0 => ?_)
  · try simp only [decide_eq_true_eq, decide_eq_false_iff_not, beq_iff_eq, beq_eq_false_iff_ne, ne_eq, bne_iff_ne, Bool.not_eq_true', Bool.not_eq_false', Int.not_lt, Int.not_le, gt_iff_lt, ge_iff_le, bne_eq_false_iff_eq, Bool.not_eq_eq_eq_not, Bool.not_true, Bool.not_false] at c0
    have hmn : m = n := by omega
    have hpe := putT_eq (n := n) (a := a) (p := p) (part := part)
    rw [hmn, sizeN_eq] at hsz
    refine ACode.seq ?_
    refine ACode.seq ?_
    refine ACode.region' [0] (by kernel_rfl) rfl ?_
    refine aOps_1 rfl rfl rfl (AOp.move' (.inl rfl) rfl ?_)
    refine aOps_end ?_
    show ACode _ _ _ _ _ _
    refine ACode.cond rfl (fun c1 => ?_) (fun c1 => ?_)
    · try simp only [decide_eq_true_eq, decide_eq_false_iff_not, beq_iff_eq, beq_eq_false_iff_ne, ne_eq, bne_iff_ne, Bool.not_eq_true', Bool.not_eq_false', Int.not_lt, Int.not_le, gt_iff_lt, ge_iff_le, bne_eq_false_iff_eq, Bool.not_eq_eq_eq_not, Bool.not_true, Bool.not_false] at c1
      obtain rfl : part = true := c1
      have hp0 : 0 < p.length := by rw [hsz]; decide
      rw [if_pos rfl] at hpe
      obtain ⟨n3_1, o3_1, s3_1, hq3_1, hp3_1⟩ := SLC.elH hs (shaD []) (show 0 < p.length by omega)
      refine ACode.region' [0, 1, 2, 3] (by kernel_rfl) rfl ?_
      refine aOps_1 rfl rfl rfl (AOp.move' (.inl rfl) rfl ?_)
      refine aOps_1 rfl rfl rfl (AOp.indexP (aslcAt_sub (by (repeat (first | exact sub_refl _ | assumption | refine sub_upd' ?_ (by ((repeat refine (upd_other _ _ (by omega)).trans ?_); first | exact hf _ (by omega))) | refine sub_over (by assumption) | refine sub_over0 ?_ | refine sub_trans (sub_same (by assumption)) ?_ | refine sub_dropu ?_ | refine sub_drop ?_ | refine sub_put ?_ (by repeat (first | assumption | exact upd_same _ _ _ | refine (upd_other _ _ (by omega)).trans ?_))))) hq3_1) rfl rfl rfl ?_)
      refine aOps_1 rfl rfl rfl (AOp.loadPA (v := hv (p.getD 0 (shaD []))) (hp3_1.sub (by (repeat (first | exact sub_refl _ | assumption | refine sub_upd' ?_ (by ((repeat refine (upd_other _ _ (by omega)).trans ?_); first | exact hf _ (by omega))) | refine sub_over (by assumption) | refine sub_over0 ?_ | refine sub_trans (sub_same (by assumption)) ?_ | refine sub_dropu ?_ | refine sub_drop ?_ | refine sub_put ?_ (by repeat (first | assumption | exact upd_same _ _ _ | refine (upd_other _ _ (by omega)).trans ?_)))))) rfl rfl rfl rfl (by first | rfl | exact hv_size _ | exact hcs_one _ | exact (aw_size _).trans rfl | exact one_wv _ | exact one_bv _ | exact rv_size _ | exact bvv_size _ | exact rcs_arr _ _ _ rfl | exact rcs_one _ _ _ rfl | (rw [rcs_len]; rfl) | (simp; done)) (by decide) ?_)
      refine aOps_0 rfl rfl rfl ?_
      refine AOp.storeAll (b := ?b1) rfl rfl rfl ?hn1 ?hk1 rfl ?hw1 ?ho1 ?hl1 ?hR1
      (case hn1 => repeat (first | assumption | exact upd_same _ _ _ | refine (upd_other _ _ (by omega)).trans ?_))
      (case hk1 => rfl)
      (case hw1 => first | rfl | exact hv_size _ | exact hcs_one _ | exact (aw_size _).trans rfl | exact one_wv _ | exact one_bv _ | exact rv_size _ | exact bvv_size _ | exact rcs_arr _ _ _ rfl | exact rcs_one _ _ _ rfl | (rw [rcs_len]; rfl) | (simp; done))
      (case ho1 => first | rfl | exact hv_size _ | exact hcs_one _ | exact (aw_size _).trans rfl | exact one_wv _ | exact one_bv _ | exact rv_size _ | exact bvv_size _ | exact rcs_arr _ _ _ rfl | exact rcs_one _ _ _ rfl | (rw [rcs_len]; rfl) | decide | (simp; done))
      (case hl1 => first | rfl | exact hv_size _ | exact hcs_one _ | exact (aw_size _).trans rfl | exact one_wv _ | exact one_bv _ | exact rv_size _ | exact bvv_size _ | exact rcs_arr _ _ _ rfl | exact rcs_one _ _ _ rfl | (rw [rcs_len]; rfl) | (simp; done))
      generalize p.getD 0 (shaD []) = D at *
      refine aOps_end ?_
      show ACode _ _ _ _ _ _
      refine ACode.seq ?_
      refine ACode.region' [0, 1, 2, 3] (by kernel_rfl) rfl ?_
      refine aOps_1 rfl rfl rfl ?_
      refine AOp.loadAll (b := ?b2) (v := hv D) rfl rfl ?hn2 ?hv2 ?hw2 ?hz2 ?hR2
      (case hn2 => repeat (first | assumption | exact upd_same _ _ _ | refine (upd_other _ _ (by omega)).trans ?_))
      (case hv2 => rfl)
      (case hw2 => rfl)
      (case hz2 => first | rfl | exact hv_size _ | exact hcs_one _ | exact (aw_size _).trans rfl | exact one_wv _ | exact one_bv _ | exact rv_size _ | exact bvv_size _ | exact rcs_arr _ _ _ rfl | exact rcs_one _ _ _ rfl | (rw [rcs_len]; rfl) | (simp; done))
      refine aOps_1 rfl rfl rfl ?_
      refine AOp.loadAll (b := ?b3) (v := hv D) rfl rfl ?hn3 ?hv3 ?hw3 ?hz3 ?hR3
      (case hn3 => repeat (first | assumption | exact upd_same _ _ _ | refine (upd_other _ _ (by omega)).trans ?_))
      (case hv3 => rfl)
      (case hw3 => rfl)
      (case hz3 => first | rfl | exact hv_size _ | exact hcs_one _ | exact (aw_size _).trans rfl | exact one_wv _ | exact one_bv _ | exact rv_size _ | exact bvv_size _ | exact rcs_arr _ _ _ rfl | exact rcs_one _ _ _ rfl | (rw [rcs_len]; rfl) | (simp; done))
      refine aOps_1 rfl rfl rfl (AOp.buildR _ _ rfl (by simp) rfl ?_)
      refine aOps_0 rfl rfl rfl ?_
      refine AOp.storeAll (b := ?b4) rfl rfl rfl ?hn4 ?hk4 rfl ?hw4 ?ho4 ?hl4 ?hR4
      (case hn4 => repeat (first | assumption | exact upd_same _ _ _ | refine (upd_other _ _ (by omega)).trans ?_))
      (case hk4 => rfl)
      (case hw4 => first | rfl | exact hv_size _ | exact hcs_one _ | exact (aw_size _).trans rfl | exact one_wv _ | exact one_bv _ | exact rv_size _ | exact bvv_size _ | exact rcs_arr _ _ _ rfl | exact rcs_one _ _ _ rfl | (rw [rcs_len]; rfl) | (simp; done))
      (case ho4 => first | rfl | exact hv_size _ | exact hcs_one _ | exact (aw_size _).trans rfl | exact one_wv _ | exact one_bv _ | exact rv_size _ | exact bvv_size _ | exact rcs_arr _ _ _ rfl | exact rcs_one _ _ _ rfl | (rw [rcs_len]; rfl) | decide | (simp; done))
      (case hl4 => first | rfl | exact hv_size _ | exact hcs_one _ | exact (aw_size _).trans rfl | exact one_wv _ | exact one_bv _ | exact rv_size _ | exact bvv_size _ | exact rcs_arr _ _ _ rfl | exact rcs_one _ _ _ rfl | (rw [rcs_len]; rfl) | (simp; done))
      refine aOps_end ?_
      show ACode _ _ _ _ _ _
      refine ACode.ret ?_
      rw [hmn]
      exact RetQ.cell rfl rfl (aloadAll (b := rbk ((D, D)).1 ((D, D)).2) (v := rv ((D, D))) (upd_same _ _ _) rfl rfl (rv_size _)) (by (repeat (first | exact sub_refl _ | assumption | refine sub_upd' ?_ (by ((repeat refine (upd_other _ _ (by omega)).trans ?_); first | exact hf _ (by omega))) | refine sub_over (by assumption) | refine sub_over0 ?_ | refine sub_trans (sub_same (by assumption)) ?_ | refine sub_dropu ?_ | refine sub_drop ?_ | refine sub_put ?_ (by repeat (first | assumption | exact upd_same _ _ _ | refine (upd_other _ _ (by omega)).trans ?_))))) stays (fun hk => ⟨by rw [hpe], rfl, by omega⟩)
    · try simp only [decide_eq_true_eq, decide_eq_false_iff_not, beq_iff_eq, beq_eq_false_iff_ne, ne_eq, bne_iff_ne, Bool.not_eq_true', Bool.not_eq_false', Int.not_lt, Int.not_le, gt_iff_lt, ge_iff_le, bne_eq_false_iff_eq, Bool.not_eq_eq_eq_not, Bool.not_true, Bool.not_false] at c1
      obtain rfl : part = false := by simpa using c1
      rw [if_neg (by decide)] at hpe
      rename Dg => D
      refine ACode.skip ?_
      show ACode _ _ _ _ _ _
      refine ACode.seq ?_
      refine ACode.region' [0, 1, 2, 3] (by kernel_rfl) rfl ?_
      refine aOps_1 rfl rfl rfl ?_
      refine AOp.loadAll (b := ?b5) (v := hv D) rfl rfl ?hn5 ?hv5 ?hw5 ?hz5 ?hR5
      (case hn5 => repeat (first | assumption | exact upd_same _ _ _ | refine (upd_other _ _ (by omega)).trans ?_))
      (case hv5 => rfl)
      (case hw5 => rfl)
      (case hz5 => first | rfl | exact hv_size _ | exact hcs_one _ | exact (aw_size _).trans rfl | exact one_wv _ | exact one_bv _ | exact rv_size _ | exact bvv_size _ | exact rcs_arr _ _ _ rfl | exact rcs_one _ _ _ rfl | (rw [rcs_len]; rfl) | (simp; done))
      refine aOps_1 rfl rfl rfl ?_
      refine AOp.loadAll (b := ?b6) (v := hv D) rfl rfl ?hn6 ?hv6 ?hw6 ?hz6 ?hR6
      (case hn6 => repeat (first | assumption | exact upd_same _ _ _ | refine (upd_other _ _ (by omega)).trans ?_))
      (case hv6 => rfl)
      (case hw6 => rfl)
      (case hz6 => first | rfl | exact hv_size _ | exact hcs_one _ | exact (aw_size _).trans rfl | exact one_wv _ | exact one_bv _ | exact rv_size _ | exact bvv_size _ | exact rcs_arr _ _ _ rfl | exact rcs_one _ _ _ rfl | (rw [rcs_len]; rfl) | (simp; done))
      refine aOps_1 rfl rfl rfl (AOp.buildR _ _ rfl (by simp) rfl ?_)
      refine aOps_0 rfl rfl rfl ?_
      refine AOp.storeAll (b := ?b7) rfl rfl rfl ?hn7 ?hk7 rfl ?hw7 ?ho7 ?hl7 ?hR7
      (case hn7 => repeat (first | assumption | exact upd_same _ _ _ | refine (upd_other _ _ (by omega)).trans ?_))
      (case hk7 => rfl)
      (case hw7 => first | rfl | exact hv_size _ | exact hcs_one _ | exact (aw_size _).trans rfl | exact one_wv _ | exact one_bv _ | exact rv_size _ | exact bvv_size _ | exact rcs_arr _ _ _ rfl | exact rcs_one _ _ _ rfl | (rw [rcs_len]; rfl) | (simp; done))
      (case ho7 => first | rfl | exact hv_size _ | exact hcs_one _ | exact (aw_size _).trans rfl | exact one_wv _ | exact one_bv _ | exact rv_size _ | exact bvv_size _ | exact rcs_arr _ _ _ rfl | exact rcs_one _ _ _ rfl | (rw [rcs_len]; rfl) | decide | (simp; done))
      (case hl7 => first | rfl | exact hv_size _ | exact hcs_one _ | exact (aw_size _).trans rfl | exact one_wv _ | exact one_bv _ | exact rv_size _ | exact bvv_size _ | exact rcs_arr _ _ _ rfl | exact rcs_one _ _ _ rfl | (rw [rcs_len]; rfl) | (simp; done))
      refine aOps_end ?_
      show ACode _ _ _ _ _ _
      refine ACode.ret ?_
      rw [hmn]
      exact RetQ.cell rfl rfl (aloadAll (b := rbk ((D, D)).1 ((D, D)).2) (v := rv ((D, D))) (upd_same _ _ _) rfl rfl (rv_size _)) (by (repeat (first | exact sub_refl _ | assumption | refine sub_upd' ?_ (by ((repeat refine (upd_other _ _ (by omega)).trans ?_); first | exact hf _ (by omega))) | refine sub_over (by assumption) | refine sub_over0 ?_ | refine sub_trans (sub_same (by assumption)) ?_ | refine sub_dropu ?_ | refine sub_drop ?_ | refine sub_put ?_ (by repeat (first | assumption | exact upd_same _ _ _ | refine (upd_other _ _ (by omega)).trans ?_))))) stays (fun hk => ⟨by rw [hpe], rfl, by omega⟩)
  · try simp only [decide_eq_true_eq, decide_eq_false_iff_not, beq_iff_eq, beq_eq_false_iff_ne, ne_eq, bne_iff_ne, Bool.not_eq_true', Bool.not_eq_false', Int.not_lt, Int.not_le, gt_iff_lt, ge_iff_le, bne_eq_false_iff_eq, Bool.not_eq_eq_eq_not, Bool.not_true, Bool.not_false] at c0
    have h2 : 2 ≤ n := by omega
    obtain ⟨s1, s2, s3⟩ := spN_spec h2
    have hpt : (p.take (p.length - 1)).length = p.length - 1 := by rw [List.length_take]; omega
    have hp1 := sizeN_pos (part := part) h2 (show m < n by omega)
    rw [← hsz] at hp1
    refine ACode.skip ?_
    show ACode _ _ _ _ _ _
    refine ACode.seq ?_
    refine ACode.region' [0, 1, 2, 3, 4, 5, 6] (by kernel_rfl) rfl ?_
    refine aOps_1 rfl rfl rfl (AOp.move' (.inl rfl) rfl ?_)
    refine aOps_q rfl rfl rfl (AOp.call' rfl rfl rfl (split_b _ _ n h2 (by omega)) (fun _ _ _ h => h)) (fun kq hkq => ?_)
    refine aOps_1 rfl rfl rfl (AOp.move' (.inl rfl) rfl ?_)
    refine aOps_1 rfl rfl rfl (AOp.len' rfl rfl ?_)
    refine aOps_1 rfl rfl rfl (AOp.sub rfl rfl rfl (i64_wrap (by omega) (by omega)) ?_)
    rw [show ((p.length : Int) - 1) = ((p.length - 1 : Nat) : Int) by omega]
    refine aOps_1 rfl rfl rfl (AOp.move' (.inr rfl) rfl ?_)
    refine aOps_1 rfl rfl rfl (AOp.move' (.inr rfl) rfl ?_)
    refine aOps_end ?_
    show ACode _ _ _ _ _ _
    refine ACode.seq ?_
    obtain ⟨n6_2, o6_2, s6_2, hq6_2, hp6_2⟩ := SLC.elH hs (shaD []) (show p.length - 1 < p.length by omega)
    refine ACode.region' [0, 1, 2, 3, 4, 5] (by kernel_rfl) rfl ?_
    refine aOps_1 rfl rfl rfl (AOp.move' (.inl rfl) rfl ?_)
    refine aOps_1 rfl rfl rfl (AOp.move' (.inl rfl) rfl ?_)
    refine aOps_1 rfl rfl rfl (AOp.indexP (aslcAt_sub (by (repeat (first | exact sub_refl _ | assumption | refine sub_upd' ?_ (by ((repeat refine (upd_other _ _ (by omega)).trans ?_); first | exact hf _ (by omega))) | refine sub_over (by assumption) | refine sub_over0 ?_ | refine sub_trans (sub_same (by assumption)) ?_ | refine sub_dropu ?_ | refine sub_drop ?_ | refine sub_put ?_ (by repeat (first | assumption | exact upd_same _ _ _ | refine (upd_other _ _ (by omega)).trans ?_))))) hq6_2) rfl rfl rfl ?_)
    refine aOps_1 rfl rfl rfl (AOp.loadPA (v := hv (p.getD (p.length - 1) (shaD []))) (hp6_2.sub (by (repeat (first | exact sub_refl _ | assumption | refine sub_upd' ?_ (by ((repeat refine (upd_other _ _ (by omega)).trans ?_); first | exact hf _ (by omega))) | refine sub_over (by assumption) | refine sub_over0 ?_ | refine sub_trans (sub_same (by assumption)) ?_ | refine sub_dropu ?_ | refine sub_drop ?_ | refine sub_put ?_ (by repeat (first | assumption | exact upd_same _ _ _ | refine (upd_other _ _ (by omega)).trans ?_)))))) rfl rfl rfl rfl (by first | rfl | exact hv_size _ | exact hcs_one _ | exact (aw_size _).trans rfl | exact one_wv _ | exact one_bv _ | exact rv_size _ | exact bvv_size _ | exact rcs_arr _ _ _ rfl | exact rcs_one _ _ _ rfl | (rw [rcs_len]; rfl) | (simp; done)) (by decide) ?_)
    refine aOps_1 rfl rfl rfl (AOp.alloc' rfl ?_)
    refine aOps_0 rfl rfl rfl ?_
    refine AOp.storeAll (b := ?b8) rfl rfl rfl ?hn8 ?hk8 rfl ?hw8 ?ho8 ?hl8 ?hR8
    (case hn8 => repeat (first | assumption | exact upd_same _ _ _ | refine (upd_other _ _ (by omega)).trans ?_))
    (case hk8 => rfl)
    (case hw8 => first | rfl | exact hv_size _ | exact hcs_one _ | exact (aw_size _).trans rfl | exact one_wv _ | exact one_bv _ | exact rv_size _ | exact bvv_size _ | exact rcs_arr _ _ _ rfl | exact rcs_one _ _ _ rfl | (rw [rcs_len]; rfl) | (simp; done))
    (case ho8 => first | rfl | exact hv_size _ | exact hcs_one _ | exact (aw_size _).trans rfl | exact one_wv _ | exact one_bv _ | exact rv_size _ | exact bvv_size _ | exact rcs_arr _ _ _ rfl | exact rcs_one _ _ _ rfl | (rw [rcs_len]; rfl) | decide | (simp; done))
    (case hl8 => first | rfl | exact hv_size _ | exact hcs_one _ | exact (aw_size _).trans rfl | exact one_wv _ | exact one_bv _ | exact rv_size _ | exact bvv_size _ | exact rcs_arr _ _ _ rfl | exact rcs_one _ _ _ rfl | (rw [rcs_len]; rfl) | (simp; done))
    refine aOps_end ?_
    show ACode _ _ _ _ _ _
    refine ACode.seq ?_
    refine ACode.seq ?_
    refine ACode.region' [0, 1, 2] (by kernel_rfl) rfl ?_
    refine aOps_1 rfl rfl rfl (AOp.move' (.inl rfl) rfl ?_)
    refine aOps_1 rfl rfl rfl (AOp.move' (.inl rfl) rfl ?_)
    refine aOps_1 rfl rfl rfl (AOp.bin' rfl rfl rfl rfl ?_)
    refine aOps_end ?_
    show ACode _ _ _ _ _ _
    refine ACode.cond rfl (fun c2 => ?_) (fun c2 => ?_)
    · try simp only [decide_eq_true_eq, decide_eq_false_iff_not, beq_iff_eq, beq_eq_false_iff_ne, ne_eq, bne_iff_ne, Bool.not_eq_true', Bool.not_eq_false', Int.not_lt, Int.not_le, gt_iff_lt, ge_iff_le, bne_eq_false_iff_eq, Bool.not_eq_eq_eq_not, Bool.not_true, Bool.not_false] at c2
      have hle : m ≤ spN n := by omega
      rw [sizeN_l h2 hle] at hsz
      have hpe := putT_l (a := a) (p := p) (part := part) h2 hle
      refine ACode.seq ?_
      obtain ⟨A8_5, c8_5, hq8_5, hs8_5⟩ := SLC.cutH hs (p.length - 1) (by omega)
      refine ACode.drawM0 9 [(0, 38), (1, 39), (2, 40), (3, 41), (4, 42), (5, 43), (6, 44), (7, 45), (8, 14)] [8] [([], []), ([], []), ([], []), ([], []), ([], []), ([], []), ([], []), ([], []), ([8], [])] mixed (by kernel_rfl) (by kernel_rfl) (by decide) ?_
      refine DrawM.q 0 [(0, none)] rfl rfl (by kernel_rfl) rfl rfl (fun Hc kq hkq hF hSb hfr => AOp.move' (.inl rfl) rfl ⟨rfl, rfl, Nat.le_refl _⟩) ?_
      refine DrawM.q 1 [(11, none)] rfl rfl (by kernel_rfl) rfl rfl (fun Hc kq hkq hF hSb hfr => AOp.move' (.inl rfl) rfl ⟨rfl, rfl, Nat.le_refl _⟩) ?_
      refine DrawM.q 2 [(7, none)] rfl rfl (by kernel_rfl) rfl rfl (fun Hc kq hkq hF hSb hfr => (by refine AOp.loadAll (b := ?b9) (v := hv a) rfl rfl ?hn9 ?hv9 ?hw9 ?hz9 ?hR9; (case hn9 => repeat (first | assumption | exact upd_same _ _ _ | refine (upd_other _ _ (by omega)).trans ?_ | refine hSb _ _ ?_)); (case hv9 => rfl); (case hw9 => rfl); (case hz9 => first | rfl | exact hv_size _ | exact hcs_one _ | exact (aw_size _).trans rfl | exact one_wv _ | exact one_bv _ | exact rv_size _ | exact bvv_size _ | exact rcs_arr _ _ _ rfl | exact rcs_one _ _ _ rfl | (rw [rcs_len]; rfl) | (simp; done)); exact ⟨rfl, rfl, Nat.le_refl _⟩)) ?_
      refine DrawM.q 3 [(3, none)] rfl rfl (by kernel_rfl) rfl rfl (fun Hc kq hkq hF hSb hfr => AOp.move' (.inl rfl) rfl ⟨rfl, rfl, Nat.le_refl _⟩) ?_
      refine DrawM.q 4 [(12, none)] rfl rfl (by kernel_rfl) rfl rfl (fun Hc kq hkq hF hSb hfr => AOp.move' (.inl rfl) rfl ⟨rfl, rfl, Nat.le_refl _⟩) ?_
      refine DrawM.q 5 [(41, some 3), (42, some 4)] rfl rfl (by kernel_rfl) rfl rfl (fun Hc kq hkq hF hSb hfr => AOp.cutQ (aslice_sub (by (repeat (first | exact sub_refl _ | assumption | refine sub_upd' ?_ (by ((repeat refine (upd_other _ _ (by omega)).trans ?_); first | exact hf _ (by omega))) | refine sub_trans ?_ hSb | refine sub_over (by assumption) | refine sub_over0 ?_ | refine sub_trans (sub_same (by assumption)) ?_ | refine sub_dropu ?_ | refine sub_drop ?_ | refine sub_put ?_ (by repeat (first | assumption | exact upd_same _ _ _ | refine (upd_other _ _ (by omega)).trans ?_ | refine hSb _ _ ?_))))) hq8_5) rfl rfl (bnd_no rfl) (bnd_at rfl rfl) mx_no ⟨rfl, rfl, Nat.le_refl _⟩) ?_
      refine DrawM.q 6 [(4, none)] rfl rfl (by kernel_rfl) rfl rfl (fun Hc kq hkq hF hSb hfr => AOp.move' (.inl rfl) rfl ⟨rfl, rfl, Nat.le_refl _⟩) ?_
      refine DrawM.q 7 [(38, some 0), (39, some 1), (40, some 2), (43, some 5), (44, some 6)] rfl rfl (by kernel_rfl) rfl rfl (fun Hc kq hkq hF hSb hfr => AOp.call' rfl rfl rfl (ih m (spN n) a (p.take (p.length - 1)) part A8_5 c8_5 _ _ (by repeat (first | assumption | exact upd_same _ _ _ | refine (upd_other _ _ (by omega)).trans ?_ | refine hSb _ _ ?_)) (hs8_5.sub (by (repeat (first | exact sub_refl _ | assumption | refine sub_upd' ?_ (by ((repeat refine (upd_other _ _ (by omega)).trans ?_); first | exact hf _ (by omega))) | refine sub_trans ?_ hSb | refine sub_over (by assumption) | refine sub_over0 ?_ | refine sub_trans (sub_same (by assumption)) ?_ | refine sub_dropu ?_ | refine sub_drop ?_ | refine sub_put ?_ (by repeat (first | assumption | exact upd_same _ _ _ | refine (upd_other _ _ (by omega)).trans ?_ | refine hSb _ _ ?_)))))) (by omega) (by omega) (by omega) (by omega) (by omega)) (fun _ _ _ h => h)) ?_
      refine DrawM.new 8 _ _ [] rfl (by decide) rfl (by kernel_rfl) rfl rfl RenOk.ptr (fun Hc kq hkq hF hSb hfr => AOp.alloc' rfl ⟨kq, Nat.le_refl _, Nat.lt_succ_self _, rfl, rfl⟩) ?_
      refine DrawM.done fun kq hkq => ?_
      show aOps _ _ _ _ [9] ⟨_, (upd _ (_ + 8) _), _⟩
      refine aOps_0 rfl rfl rfl ?_
      refine AOp.storeAll (b := ?b10) rfl rfl rfl ?hn10 ?hk10 rfl ?hw10 ?ho10 ?hl10 ?hR10
      (case hn10 => repeat (first | assumption | exact upd_same _ _ _ | refine (upd_other _ _ (by omega)).trans ?_))
      (case hk10 => rfl)
      (case hw10 => first | rfl | exact hv_size _ | exact hcs_one _ | exact (aw_size _).trans rfl | exact one_wv _ | exact one_bv _ | exact rv_size _ | exact bvv_size _ | exact rcs_arr _ _ _ rfl | exact rcs_one _ _ _ rfl | (rw [rcs_len]; rfl) | (simp; done))
      (case ho10 => first | rfl | exact hv_size _ | exact hcs_one _ | exact (aw_size _).trans rfl | exact one_wv _ | exact one_bv _ | exact rv_size _ | exact bvv_size _ | exact rcs_arr _ _ _ rfl | exact rcs_one _ _ _ rfl | (rw [rcs_len]; rfl) | decide | (simp; done))
      (case hl10 => first | rfl | exact hv_size _ | exact hcs_one _ | exact (aw_size _).trans rfl | exact one_wv _ | exact one_bv _ | exact rv_size _ | exact bvv_size _ | exact rcs_arr _ _ _ rfl | exact rcs_one _ _ _ rfl | (rw [rcs_len]; rfl) | (simp; done))
      refine aOps_end ?_
      show ACode _ _ _ _ _ _
      refine ACode.seq ?_
      generalize hX : putT m (spN n) a (p.take (p.length - 1)) part = X at *
      obtain ⟨Y, Z⟩ := X
      refine ACode.draw' 7 [(0, 46), (1, 47), (2, 48), (3, 49), (4, 50), (5, 51), (6, 52)] mixed (by kernel_rfl) ?_
      refine Draw.step [(14, none)] rfl (by kernel_rfl) rfl (fun kq hkq => AOp.fieldAddr' rfl (by decide) rfl ⟨rfl, rfl, Nat.le_refl _⟩) ?_
      refine Draw.step [(46, some 0)] rfl (by kernel_rfl) rfl (fun kq hkq => AOp.loadFst (b := rbk Y Z) Y _ (by repeat (first | assumption | exact upd_same _ _ _ | refine (upd_other _ _ (by omega)).trans ?_)) rfl rfl rfl ⟨rfl, rfl, Nat.le_refl _⟩) ?_
      refine Draw.step [(14, none)] rfl (by kernel_rfl) rfl (fun kq hkq => AOp.fieldAddr' rfl (by decide) rfl ⟨rfl, rfl, Nat.le_refl _⟩) ?_
      refine Draw.step [(48, some 2)] rfl (by kernel_rfl) rfl (fun kq hkq => AOp.loadSnd (b := rbk Y Z) Y Z [] (by repeat (first | assumption | exact upd_same _ _ _ | refine (upd_other _ _ (by omega)).trans ?_)) rfl rfl rfl ⟨rfl, rfl, Nat.le_refl _⟩) ?_
      refine Draw.step [(13, none)] rfl (by kernel_rfl) rfl (fun kq hkq => (by refine AOp.loadAll (b := ?b11) (v := hv (p.getD (p.length - 1) (shaD []))) rfl rfl ?hn11 ?hv11 ?hw11 ?hz11 ?hR11; (case hn11 => repeat (first | assumption | exact upd_same _ _ _ | refine (upd_other _ _ (by omega)).trans ?_)); (case hv11 => rfl); (case hw11 => rfl); (case hz11 => first | rfl | exact hv_size _ | exact hcs_one _ | exact (aw_size _).trans rfl | exact one_wv _ | exact one_bv _ | exact rv_size _ | exact bvv_size _ | exact rcs_arr _ _ _ rfl | exact rcs_one _ _ _ rfl | (rw [rcs_len]; rfl) | (simp; done)); exact ⟨rfl, rfl, Nat.le_refl _⟩)) ?_
      refine Draw.step [(49, some 3), (50, some 4)] rfl (by kernel_rfl) rfl (fun kq hkq => AOp.call' rfl rfl rfl (node_b _ _ (by repeat (first | assumption | exact upd_same _ _ _ | refine (upd_other _ _ (by omega)).trans ?_)) _ _) (fun _ _ _ h => h)) ?_
      refine Draw.step [(47, some 1), (51, some 5)] rfl (by kernel_rfl) rfl (fun kq hkq => AOp.buildR _ _ rfl (by simp) rfl ⟨rfl, rfl, Nat.le_refl _⟩) ?_
      refine Draw.done fun kq hkq => ?_
      show aOps _ _ _ _ [7] ⟨_, _, _⟩
      refine aOps_0 rfl rfl rfl ?_
      refine AOp.storeAll (b := ?b12) rfl rfl rfl ?hn12 ?hk12 rfl ?hw12 ?ho12 ?hl12 ?hR12
      (case hn12 => repeat (first | assumption | exact upd_same _ _ _ | refine (upd_other _ _ (by omega)).trans ?_))
      (case hk12 => rfl)
      (case hw12 => first | rfl | exact hv_size _ | exact hcs_one _ | exact (aw_size _).trans rfl | exact one_wv _ | exact one_bv _ | exact rv_size _ | exact bvv_size _ | exact rcs_arr _ _ _ rfl | exact rcs_one _ _ _ rfl | (rw [rcs_len]; rfl) | (simp; done))
      (case ho12 => first | rfl | exact hv_size _ | exact hcs_one _ | exact (aw_size _).trans rfl | exact one_wv _ | exact one_bv _ | exact rv_size _ | exact bvv_size _ | exact rcs_arr _ _ _ rfl | exact rcs_one _ _ _ rfl | (rw [rcs_len]; rfl) | decide | (simp; done))
      (case hl12 => first | rfl | exact hv_size _ | exact hcs_one _ | exact (aw_size _).trans rfl | exact one_wv _ | exact one_bv _ | exact rv_size _ | exact bvv_size _ | exact rcs_arr _ _ _ rfl | exact rcs_one _ _ _ rfl | (rw [rcs_len]; rfl) | (simp; done))
      refine aOps_end ?_
      show ACode _ _ _ _ _ _
      refine ACode.ret ?_
      rw [hpe]
      exact RetQ.cell rfl rfl (aloadAll (b := rbk ((Y, nd Z (p.getD (p.length - 1) (shaD [])))).1 ((Y, nd Z (p.getD (p.length - 1) (shaD [])))).2) (v := rv ((Y, nd Z (p.getD (p.length - 1) (shaD []))))) (upd_same _ _ _) rfl rfl (rv_size _)) (by (repeat (first | exact sub_refl _ | assumption | refine sub_upd' ?_ (by ((repeat refine (upd_other _ _ (by omega)).trans ?_); first | exact hf _ (by omega))) | refine sub_over (by assumption) | refine sub_over0 ?_ | refine sub_trans (sub_same (by assumption)) ?_ | refine sub_dropu ?_ | refine sub_drop ?_ | refine sub_put ?_ (by repeat (first | assumption | exact upd_same _ _ _ | refine (upd_other _ _ (by omega)).trans ?_))))) stays (fun hk => ⟨by rfl, rfl, by omega⟩)
    · try simp only [decide_eq_true_eq, decide_eq_false_iff_not, beq_iff_eq, beq_eq_false_iff_ne, ne_eq, bne_iff_ne, Bool.not_eq_true', Bool.not_eq_false', Int.not_lt, Int.not_le, gt_iff_lt, ge_iff_le, bne_eq_false_iff_eq, Bool.not_eq_eq_eq_not, Bool.not_true, Bool.not_false] at c2
      have hle : ¬ m ≤ spN n := by omega
      rw [sizeN_r h2 (by omega) hle] at hsz
      have hpe := putT_r (a := a) (p := p) (part := part) h2 (by omega) hle
      refine ACode.skip ?_
      show ACode _ _ _ _ _ _
      refine ACode.seq ?_
      obtain ⟨A10_9, c10_9, hq10_9, hs10_9⟩ := SLC.cutH hs (p.length - 1) (by omega)
      refine ACode.drawM0 12 [(0, 53), (1, 54), (2, 55), (3, 56), (4, 57), (5, 58), (6, 59), (7, 60), (8, 61), (9, 62), (10, 63), (11, 15)] [11] [([], []), ([], []), ([], []), ([], []), ([], []), ([], []), ([], []), ([], []), ([], []), ([], []), ([], []), ([11], [])] mixed (by kernel_rfl) (by kernel_rfl) (by decide) ?_
      refine DrawM.q 0 [(0, none)] rfl rfl (by kernel_rfl) rfl rfl (fun Hc kq hkq hF hSb hfr => AOp.move' (.inl rfl) rfl ⟨rfl, rfl, Nat.le_refl _⟩) ?_
      refine DrawM.q 1 [(11, none)] rfl rfl (by kernel_rfl) rfl rfl (fun Hc kq hkq hF hSb hfr => AOp.move' (.inl rfl) rfl ⟨rfl, rfl, Nat.le_refl _⟩) ?_
      refine DrawM.q 2 [(53, some 0), (54, some 1)] rfl rfl (by kernel_rfl) rfl rfl (fun Hc kq hkq hF hSb hfr => AOp.sub rfl rfl rfl (i64_wrap (by omega) (by omega)) ⟨rfl, rfl, Nat.le_refl _⟩) ?_
      rw [show ((m : Int) - (spN n : Int)) = ((m - spN n : Nat) : Int) by omega]
      refine DrawM.q 3 [(1, none)] rfl rfl (by kernel_rfl) rfl rfl (fun Hc kq hkq hF hSb hfr => AOp.move' (.inl rfl) rfl ⟨rfl, rfl, Nat.le_refl _⟩) ?_
      refine DrawM.q 4 [(11, none)] rfl rfl (by kernel_rfl) rfl rfl (fun Hc kq hkq hF hSb hfr => AOp.move' (.inl rfl) rfl ⟨rfl, rfl, Nat.le_refl _⟩) ?_
      refine DrawM.q 5 [(56, some 3), (57, some 4)] rfl rfl (by kernel_rfl) rfl rfl (fun Hc kq hkq hF hSb hfr => AOp.sub rfl rfl rfl (i64_wrap (by omega) (by omega)) ⟨rfl, rfl, Nat.le_refl _⟩) ?_
      rw [show ((n : Int) - (spN n : Int)) = ((n - spN n : Nat) : Int) by omega]
      refine DrawM.q 6 [(7, none)] rfl rfl (by kernel_rfl) rfl rfl (fun Hc kq hkq hF hSb hfr => (by refine AOp.loadAll (b := ?b13) (v := hv a) rfl rfl ?hn13 ?hv13 ?hw13 ?hz13 ?hR13; (case hn13 => repeat (first | assumption | exact upd_same _ _ _ | refine (upd_other _ _ (by omega)).trans ?_ | refine hSb _ _ ?_)); (case hv13 => rfl); (case hw13 => rfl); (case hz13 => first | rfl | exact hv_size _ | exact hcs_one _ | exact (aw_size _).trans rfl | exact one_wv _ | exact one_bv _ | exact rv_size _ | exact bvv_size _ | exact rcs_arr _ _ _ rfl | exact rcs_one _ _ _ rfl | (rw [rcs_len]; rfl) | (simp; done)); exact ⟨rfl, rfl, Nat.le_refl _⟩)) ?_
      refine DrawM.q 7 [(3, none)] rfl rfl (by kernel_rfl) rfl rfl (fun Hc kq hkq hF hSb hfr => AOp.move' (.inl rfl) rfl ⟨rfl, rfl, Nat.le_refl _⟩) ?_
      refine DrawM.q 8 [(12, none)] rfl rfl (by kernel_rfl) rfl rfl (fun Hc kq hkq hF hSb hfr => AOp.move' (.inl rfl) rfl ⟨rfl, rfl, Nat.le_refl _⟩) ?_
      refine DrawM.q 9 [(60, some 7), (61, some 8)] rfl rfl (by kernel_rfl) rfl rfl (fun Hc kq hkq hF hSb hfr => AOp.cutQ (aslice_sub (by (repeat (first | exact sub_refl _ | assumption | refine sub_upd' ?_ (by ((repeat refine (upd_other _ _ (by omega)).trans ?_); first | exact hf _ (by omega))) | refine sub_trans ?_ hSb | refine sub_over (by assumption) | refine sub_over0 ?_ | refine sub_trans (sub_same (by assumption)) ?_ | refine sub_dropu ?_ | refine sub_drop ?_ | refine sub_put ?_ (by repeat (first | assumption | exact upd_same _ _ _ | refine (upd_other _ _ (by omega)).trans ?_ | refine hSb _ _ ?_))))) hq10_9) rfl rfl (bnd_no rfl) (bnd_at rfl rfl) mx_no ⟨rfl, rfl, Nat.le_refl _⟩) ?_
      refine DrawM.q 10 [(55, some 2), (58, some 5), (59, some 6), (62, some 9)] rfl rfl (by kernel_rfl) rfl rfl (fun Hc kq hkq hF hSb hfr => AOp.call' rfl rfl rfl (ih (m - spN n) (n - spN n) a (p.take (p.length - 1)) true A10_9 c10_9 _ _ (by repeat (first | assumption | exact upd_same _ _ _ | refine (upd_other _ _ (by omega)).trans ?_ | refine hSb _ _ ?_)) (hs10_9.sub (by (repeat (first | exact sub_refl _ | assumption | refine sub_upd' ?_ (by ((repeat refine (upd_other _ _ (by omega)).trans ?_); first | exact hf _ (by omega))) | refine sub_trans ?_ hSb | refine sub_over (by assumption) | refine sub_over0 ?_ | refine sub_trans (sub_same (by assumption)) ?_ | refine sub_dropu ?_ | refine sub_drop ?_ | refine sub_put ?_ (by repeat (first | assumption | exact upd_same _ _ _ | refine (upd_other _ _ (by omega)).trans ?_ | refine hSb _ _ ?_)))))) (by omega) (by omega) (by omega) (by omega) (by omega)) (fun _ _ _ h => h)) ?_
      refine DrawM.new 11 _ _ [] rfl (by decide) rfl (by kernel_rfl) rfl rfl RenOk.ptr (fun Hc kq hkq hF hSb hfr => AOp.alloc' rfl ⟨kq, Nat.le_refl _, Nat.lt_succ_self _, rfl, rfl⟩) ?_
      refine DrawM.done fun kq hkq => ?_
      show aOps _ _ _ _ [12] ⟨_, (upd _ (_ + 11) _), _⟩
      refine aOps_0 rfl rfl rfl ?_
      refine AOp.storeAll (b := ?b14) rfl rfl rfl ?hn14 ?hk14 rfl ?hw14 ?ho14 ?hl14 ?hR14
      (case hn14 => repeat (first | assumption | exact upd_same _ _ _ | refine (upd_other _ _ (by omega)).trans ?_))
      (case hk14 => rfl)
      (case hw14 => first | rfl | exact hv_size _ | exact hcs_one _ | exact (aw_size _).trans rfl | exact one_wv _ | exact one_bv _ | exact rv_size _ | exact bvv_size _ | exact rcs_arr _ _ _ rfl | exact rcs_one _ _ _ rfl | (rw [rcs_len]; rfl) | (simp; done))
      (case ho14 => first | rfl | exact hv_size _ | exact hcs_one _ | exact (aw_size _).trans rfl | exact one_wv _ | exact one_bv _ | exact rv_size _ | exact bvv_size _ | exact rcs_arr _ _ _ rfl | exact rcs_one _ _ _ rfl | (rw [rcs_len]; rfl) | decide | (simp; done))
      (case hl14 => first | rfl | exact hv_size _ | exact hcs_one _ | exact (aw_size _).trans rfl | exact one_wv _ | exact one_bv _ | exact rv_size _ | exact bvv_size _ | exact rcs_arr _ _ _ rfl | exact rcs_one _ _ _ rfl | (rw [rcs_len]; rfl) | (simp; done))
      refine aOps_end ?_
      show ACode _ _ _ _ _ _
      refine ACode.seq ?_
      generalize hX : putT (m - spN n) (n - spN n) a (p.take (p.length - 1)) true = X at *
      obtain ⟨Y, Z⟩ := X
      refine ACode.draw' 9 [(0, 64), (1, 65), (2, 66), (3, 67), (4, 68), (5, 69), (6, 70), (7, 71), (8, 72)] mixed (by kernel_rfl) ?_
      refine Draw.step [(13, none)] rfl (by kernel_rfl) rfl (fun kq hkq => (by refine AOp.loadAll (b := ?b15) (v := hv (p.getD (p.length - 1) (shaD []))) rfl rfl ?hn15 ?hv15 ?hw15 ?hz15 ?hR15; (case hn15 => repeat (first | assumption | exact upd_same _ _ _ | refine (upd_other _ _ (by omega)).trans ?_)); (case hv15 => rfl); (case hw15 => rfl); (case hz15 => first | rfl | exact hv_size _ | exact hcs_one _ | exact (aw_size _).trans rfl | exact one_wv _ | exact one_bv _ | exact rv_size _ | exact bvv_size _ | exact rcs_arr _ _ _ rfl | exact rcs_one _ _ _ rfl | (rw [rcs_len]; rfl) | (simp; done)); exact ⟨rfl, rfl, Nat.le_refl _⟩)) ?_
      refine Draw.step [(15, none)] rfl (by kernel_rfl) rfl (fun kq hkq => AOp.fieldAddr' rfl (by decide) rfl ⟨rfl, rfl, Nat.le_refl _⟩) ?_
      refine Draw.step [(65, some 1)] rfl (by kernel_rfl) rfl (fun kq hkq => AOp.loadFst (b := rbk Y Z) Y _ (by repeat (first | assumption | exact upd_same _ _ _ | refine (upd_other _ _ (by omega)).trans ?_)) rfl rfl rfl ⟨rfl, rfl, Nat.le_refl _⟩) ?_
      refine Draw.step [(64, some 0), (66, some 2)] rfl (by kernel_rfl) rfl (fun kq hkq => AOp.call' rfl rfl rfl (node_b _ _ (by repeat (first | assumption | exact upd_same _ _ _ | refine (upd_other _ _ (by omega)).trans ?_)) _ _) (fun _ _ _ h => h)) ?_
      refine Draw.step [(13, none)] rfl (by kernel_rfl) rfl (fun kq hkq => (by refine AOp.loadAll (b := ?b16) (v := hv (p.getD (p.length - 1) (shaD []))) rfl rfl ?hn16 ?hv16 ?hw16 ?hz16 ?hR16; (case hn16 => repeat (first | assumption | exact upd_same _ _ _ | refine (upd_other _ _ (by omega)).trans ?_)); (case hv16 => rfl); (case hw16 => rfl); (case hz16 => first | rfl | exact hv_size _ | exact hcs_one _ | exact (aw_size _).trans rfl | exact one_wv _ | exact one_bv _ | exact rv_size _ | exact bvv_size _ | exact rcs_arr _ _ _ rfl | exact rcs_one _ _ _ rfl | (rw [rcs_len]; rfl) | (simp; done)); exact ⟨rfl, rfl, Nat.le_refl _⟩)) ?_
      refine Draw.step [(15, none)] rfl (by kernel_rfl) rfl (fun kq hkq => AOp.fieldAddr' rfl (by decide) rfl ⟨rfl, rfl, Nat.le_refl _⟩) ?_
      refine Draw.step [(69, some 5)] rfl (by kernel_rfl) rfl (fun kq hkq => AOp.loadSnd (b := rbk Y Z) Y Z [] (by repeat (first | assumption | exact upd_same _ _ _ | refine (upd_other _ _ (by omega)).trans ?_)) rfl rfl rfl ⟨rfl, rfl, Nat.le_refl _⟩) ?_
      refine Draw.step [(68, some 4), (70, some 6)] rfl (by kernel_rfl) rfl (fun kq hkq => AOp.call' rfl rfl rfl (node_b _ _ (by repeat (first | assumption | exact upd_same _ _ _ | refine (upd_other _ _ (by omega)).trans ?_)) _ _) (fun _ _ _ h => h)) ?_
      refine Draw.step [(67, some 3), (71, some 7)] rfl (by kernel_rfl) rfl (fun kq hkq => AOp.buildR _ _ rfl (by simp) rfl ⟨rfl, rfl, Nat.le_refl _⟩) ?_
      refine Draw.done fun kq hkq => ?_
      show aOps _ _ _ _ [9] ⟨_, _, _⟩
      refine aOps_0 rfl rfl rfl ?_
      refine AOp.storeAll (b := ?b17) rfl rfl rfl ?hn17 ?hk17 rfl ?hw17 ?ho17 ?hl17 ?hR17
      (case hn17 => repeat (first | assumption | exact upd_same _ _ _ | refine (upd_other _ _ (by omega)).trans ?_))
      (case hk17 => rfl)
      (case hw17 => first | rfl | exact hv_size _ | exact hcs_one _ | exact (aw_size _).trans rfl | exact one_wv _ | exact one_bv _ | exact rv_size _ | exact bvv_size _ | exact rcs_arr _ _ _ rfl | exact rcs_one _ _ _ rfl | (rw [rcs_len]; rfl) | (simp; done))
      (case ho17 => first | rfl | exact hv_size _ | exact hcs_one _ | exact (aw_size _).trans rfl | exact one_wv _ | exact one_bv _ | exact rv_size _ | exact bvv_size _ | exact rcs_arr _ _ _ rfl | exact rcs_one _ _ _ rfl | (rw [rcs_len]; rfl) | decide | (simp; done))
      (case hl17 => first | rfl | exact hv_size _ | exact hcs_one _ | exact (aw_size _).trans rfl | exact one_wv _ | exact one_bv _ | exact rv_size _ | exact bvv_size _ | exact rcs_arr _ _ _ rfl | exact rcs_one _ _ _ rfl | (rw [rcs_len]; rfl) | (simp; done))
      refine aOps_end ?_
      show ACode _ _ _ _ _ _
      refine ACode.ret ?_
      rw [hpe]
      exact RetQ.cell rfl rfl (aloadAll (b := rbk ((nd (p.getD (p.length - 1) (shaD [])) Y, nd (p.getD (p.length - 1) (shaD [])) Z)).1 ((nd (p.getD (p.length - 1) (shaD [])) Y, nd (p.getD (p.length - 1) (shaD [])) Z)).2) (v := rv ((nd (p.getD (p.length - 1) (shaD [])) Y, nd (p.getD (p.length - 1) (shaD [])) Z))) (upd_same _ _ _) rfl rfl (rv_size _)) (by (repeat (first | exact sub_refl _ | assumption | refine sub_upd' ?_ (by ((repeat refine (upd_other _ _ (by omega)).trans ?_); first | exact hf _ (by omega))) | refine sub_over (by assumption) | refine sub_over0 ?_ | refine sub_trans (sub_same (by assumption)) ?_ | refine sub_dropu ?_ | refine sub_drop ?_ | refine sub_put ?_ (by repeat (first | assumption | exact upd_same _ _ _ | refine (upd_other _ _ (by omega)).trans ?_))))) stays (fun hk => ⟨by rfl, rfl, by omega⟩)

end

end Go.Proofs.YtipaiielkpifoaaDoor
