/- Contracts over the abstract states: rows out of readers. -/
import Derived.Test.YteoofihjmldllaaDoorR6
set_option linter.unusedVariables false
set_option linter.unusedSimpArgs false
set_option maxRecDepth 100000
namespace Go.Proofs.YteoofihjmldllaaDoor
open Go Go.Ab

section
variable (H : Hp) (k : Nat)

theorem ntakeW (h2 : H 1 = some hBlk) (n c : Nat) (A : Option Addr) (ev : Value) (r : Rd) (hR : RdN H n A c ev r) (cols : List Col) (B : Option Addr) (d : Nat) (hC : SLC H 3 B cols.length d (cols3 cols)) (hBn : Away B cols.length n) (hcl : cols.length ≤ 1000000) : ACalls Tryd.prog 3 46 [ptr n 0 none, .slice B cols.length d] H k (fun v H' k' => NewR H' k (takeRows cols r).1 v ∧ RdP H k n A c (takeRows cols r).2 H' k') := by
  refine ACalls.fresh fun hf => ?_
  refine ACalls.body Tryd.func46 rfl (Nat.le_of_ble_eq_true rfl) ?_
  have hn := hR.hn
  have hnk := old_lt hf hn
  have hok := hR.ok
  have hal := hok.at_le
  have hle := hok.len
  have h2n := hR.ne2 h2
  have h2k := old_lt hf h2
  have hvx := Rd.var_ok hok
  refine ACode.seq ?_
  refine ACode.region' [0] (by kernel_rfl) rfl ?_
  refine aOps_1 rfl rfl rfl (AOp.move' (.inr rfl) rfl ?_)
  refine aOps_end ?_
  show ACode _ _ _ _ _ _
  refine ACode.seq ?_
  refine ACode.region' [0, 1, 2] (by kernel_rfl) rfl ?_
  refine aOps_1 rfl rfl rfl (AOp.move' (.inl rfl) rfl ?_)
  refine aOps_1 rfl rfl rfl ?_
  refine AOp.call' rfl rfl rfl (nvar _ _ n c A ev r (hR.sub subA)) ?_
  rintro _ HLv kv ⟨rfl, hPv⟩
  have hkv := hPv.1
  have hfLv := hPv.2.1
  have hsLv := hPv.2.2.1
  have hPvb := hPv
  obtain ⟨evv, hRv⟩ := hPvb.2.2.2
  have hnv := hRv.hn
  have thsLv := SubS.of hsLv
  have hSv : Ab.Sub (upd H n none) HLv := hsLv
  have h2v : HLv 1 = some hBlk := hSv _ _ ((upd_other _ _ h2n).trans h2)
  refine aOps_1 rfl rfl rfl (AOp.move' (.inr rfl) rfl ?_)
  refine aOps_end ?_
  show ACode _ _ _ _ _ _
  refine ACode.seq ?_
  refine ACode.seq ?_
  refine ACode.region' [0, 1] (by kernel_rfl) rfl ?_
  refine aOps_1 rfl rfl rfl (AOp.move' (.inl rfl) rfl ?_)
  refine aOps_1 rfl rfl rfl (AOp.bin' rfl rfl rfl rfl ?_)
  refine aOps_end ?_
  show ACode _ _ _ _ _ _
  refine ACode.cond rfl (fun c0 => ?_) (fun c0 => ?_)
  · try simp only [decide_eq_true_eq, decide_eq_false_iff_not, beq_iff_eq, beq_eq_false_iff_ne, ne_eq, bne_iff_ne, Bool.not_eq_true', Bool.not_eq_false', Int.not_lt, Int.not_le, gt_iff_lt, ge_iff_le, bne_eq_false_iff_eq, Bool.not_eq_eq_eq_not, Bool.not_true, Bool.not_false] at c0
    refine ACode.region' [0, 1] (by kernel_rfl) rfl ?_
    refine aOps_1 rfl rfl rfl (AOp.move' (.inl rfl) rfl ?_)
    refine aOps_1 rfl rfl rfl ?_
    refine AOp.call' rfl rfl rfl (nfail _ _ n c A evv r.var.2 hRv 12 (by decide) (by decide)) ?_
    rintro _ HLw kw ⟨rfl, hPw⟩
    have hkw := hPw.1
    have hfLw := hPw.2.1
    have hsLw := hPw.2.2.1
    have hPwb := hPw
    obtain ⟨evw, hRw⟩ := hPwb.2.2.2
    have hnw := hRw.hn
    have thsLw := SubS.of hsLw
    have hSw := sub_cutn hSv hsLw
    have h2w : HLw 1 = some hBlk := hSw _ _ ((upd_other _ _ h2n).trans h2)
    refine aOps_end ?_
    show ACode _ _ _ _ _ _
    refine ACode.seq ?_
    refine ACode.seq ?_
    refine ACode.region' [0, 1, 2] (by kernel_rfl) rfl ?_
    refine aOps_1 rfl rfl rfl (AOp.move' (.inl rfl) rfl ?_)
    refine aOps_q rfl rfl rfl (AOp.call' rfl rfl rfl (ngood _ _ h2w n c A evw _ hRw) (fun _ _ _ h => h)) (fun kg hkg => ?_)
    refine aOps_1 rfl rfl rfl (AOp.un' rfl rfl rfl ?_)
    refine aOps_end ?_
    show ACode _ _ _ _ _ _
    refine ACode.cond rfl (fun c1 => ?_) (fun c1 => absurd c1 (by rw [decide_eq_false (Rd.fail_ne _ (by decide))]; decide))
    have c1 := Rd.fail_ne r.var.2 (e := 12) (by decide)
    refine ACode.seq ?_
    refine ACode.region' [0] (by kernel_rfl) rfl ?_
    refine aOps_1 rfl rfl rfl (AOp.move' (.inr rfl) rfl ?_)
    refine aOps_end ?_
    show ACode _ _ _ _ _ _
    refine ACode.ret ?_
    try simp only [thenA, blockA, if_true]
    have hr0 : rows0 r = r.var.2.fail 12 := if_pos (by omega)
    have hru : rowsRun cols r = ([], r.var.2.fail 12) := by rw [rowsRun, hr0]; exact runR_err (s := ([], r.var.2.fail 12)) c1 _
    rw [takeRows_err hru c1]
    have hPz : ∀ kz, kw ≤ kz → k ≤ kz → RdP H k n A c _ HLw kz := fun kz h1 h3 => ⟨h3, (fun m hm => hfLw m (by omega)), hSw, _, hRw⟩
    exact RetQ.one rfl rfl (sub_refl _) (hPz (max kw k) (Nat.le_max_left _ _) (Nat.le_max_right _ _)).stays (fun hk => ⟨NewR.none_, hPz _ (by omega) (by omega)⟩)
  · try simp only [decide_eq_true_eq, decide_eq_false_iff_not, beq_iff_eq, beq_eq_false_iff_ne, ne_eq, bne_iff_ne, Bool.not_eq_true', Bool.not_eq_false', Int.not_lt, Int.not_le, gt_iff_lt, ge_iff_le, bne_eq_false_iff_eq, Bool.not_eq_eq_eq_not, Bool.not_true, Bool.not_false] at c0
    refine ACode.skip ?_
    show ACode _ _ _ _ _ _
    refine ACode.seq ?_
    refine ACode.seq ?_
    refine ACode.region' [0, 1, 2] (by kernel_rfl) rfl ?_
    refine aOps_1 rfl rfl rfl (AOp.move' (.inl rfl) rfl ?_)
    refine aOps_q rfl rfl rfl (AOp.call' rfl rfl rfl (ngood _ _ h2v n c A evv _ hRv) (fun _ _ _ h => h)) (fun kg hkg => ?_)
    refine aOps_1 rfl rfl rfl (AOp.un' rfl rfl rfl ?_)
    refine aOps_end ?_
    show ACode _ _ _ _ _ _
    refine ACode.cond rfl (fun c1 => ?_) (fun c1 => ?_)
    · try simp only [decide_eq_true_eq, decide_eq_false_iff_not, beq_iff_eq, beq_eq_false_iff_ne, ne_eq, bne_iff_ne, Bool.not_eq_true', Bool.not_eq_false', Int.not_lt, Int.not_le, gt_iff_lt, ge_iff_le, bne_eq_false_iff_eq, Bool.not_eq_eq_eq_not, Bool.not_true, Bool.not_false] at c1
      refine ACode.seq ?_
      refine ACode.region' [0] (by kernel_rfl) rfl ?_
      refine aOps_1 rfl rfl rfl (AOp.move' (.inr rfl) rfl ?_)
      refine aOps_end ?_
      show ACode _ _ _ _ _ _
      refine ACode.ret ?_
      try simp only [thenA, blockA, if_true]
      have hr0 : rows0 r = r.var.2 := if_neg (by omega)
      have hru : rowsRun cols r = ([], r.var.2) := by rw [rowsRun, hr0]; exact runR_err (s := ([], r.var.2)) c1 _
      rw [takeRows_err hru c1]
      have hPz : ∀ kz, kv ≤ kz → k ≤ kz → RdP H k n A c _ HLv kz := fun kz h1 h3 => ⟨h3, (fun m hm => hfLv m (by omega)), hSv, _, hRv⟩
      exact RetQ.one rfl rfl (sub_refl _) (hPz (max kv k) (Nat.le_max_left _ _) (Nat.le_max_right _ _)).stays (fun hk => ⟨NewR.none_, hPz _ (by omega) (by omega)⟩)
    · try simp only [decide_eq_true_eq, decide_eq_false_iff_not, beq_iff_eq, beq_eq_false_iff_ne, ne_eq, bne_iff_ne, Bool.not_eq_true', Bool.not_eq_false', Int.not_lt, Int.not_le, gt_iff_lt, ge_iff_le, bne_eq_false_iff_eq, Bool.not_eq_eq_eq_not, Bool.not_true, Bool.not_false] at c1
      refine ACode.skip ?_
      show ACode _ _ _ _ _ _
      refine ACode.seq ?_
      refine ACode.region' [0] (by kernel_rfl) rfl ?_
      refine aOps_1 rfl rfl rfl (AOp.move' (.inr rfl) rfl ?_)
      refine aOps_end ?_
      show ACode _ _ _ _ _ _
      refine ACode.seq ?_
      refine ACode.seq ?_
      obtain ⟨Q, hQ⟩ : ∃ Q, Q = kg := ⟨_, rfl⟩
      have hrow0 : rows0 r = r.var.2 := if_neg (by omega)
      have hQv : HLv kg = none := hfLv kg (by omega)
      have hAq : Away A r.bs.length Q := by have h := Away.of hRv.hs hQv; rw [Rd.var_bs] at h; rw [hQ]; exact h
      refine ACode.adopt (t := 6) 29 1 (by decide) rfl ?_
      subst hQ
      refine ACode.region' [0, 1] (by kernel_rfl) rfl ?_
      refine aOps_1 rfl rfl rfl (AOp.move' (.inl rfl) rfl ?_)
      refine aOps_1 rfl rfl rfl (AOp.move' (.inl rfl) rfl ?_)
      refine aOps_end ?_
      show ACode _ _ _ _ _ _
      refine ACode.block ?_
      refine ACode.countG (γ := Hp × List Value) (fun i g => [(6, .slice (some ⟨Q, 0, some 1⟩) g.2.length g.2.length), (18, u64 i)]) [(0, _), (1, _), (17, _)] (fun i g => g.1) (r.var.1) (fun i g => g.1 Q = some (tblW g.2) ∧ Ab.Sub (upd H n none) g.1 ∧ (∃ ev, RdN g.1 n A c ev (itR (rStep cols) ([], rows0 r) (i)).2) ∧ rowsRun cols r = runR (rStep cols) (r.var.1 - i) (itR (rStep cols) ([], rows0 r) (i)) ∧ Rws (cutQ g.1 k Q) g.2 (itR (rStep cols) ([], rows0 r) (i)).1 ∧ (itR (rStep cols) ([], rows0 r) (i)).2.e = 0) ((upd HLv Q (some (tblW [])), [])) (.cons rfl (.cons rfl .nil)) (.cons rfl (.cons rfl (.cons rfl .nil))) (by exact sub_refl _) ⟨upd_same _ _ _, sub_new hSv (none_n (hf Q (by omega))), ⟨evv, by rw [show (itR (rStep cols) ([], rows0 r) 0).2 = r.var.2 from hrow0]; exact hRv.sub (sub_upd' (sub_refl _) hQv)⟩, rfl, Rws.nil, by rw [show (itR (rStep cols) ([], rows0 r) 0).2 = r.var.2 from hrow0]; exact c1⟩ (fun i0 g0 kL0 HL0 hiL0 hkL0 hsL0 hfL0 hxL0 => ?_)
      show ACode _ _ _ _ _ ⟨_, _, _⟩
      have tsL0 := SubS.of hsL0
      obtain ⟨hx1, hx2, ⟨ev0, hx3⟩, hx4, hx6, hx5⟩ := hxL0
      have hq0 : HL0 Q = some (tblW g0.2) := hsL0 _ _ hx1
      have hR0 := hx3.sub hsL0
      have hn0 := hR0.hn
      have hS0 := sub_trans hx2 hsL0
      have hAp := Away.of hR0.hs (hfL0 _ (Nat.le_refl kL0))
      have hvl := hx6.len
      have hln := itRow_len cols ([], rows0 r) i0
      have hbi := itRow_bs cols ([], rows0 r) i0
      rw [rows0_bs] at hbi
      simp only [List.length_nil, Nat.zero_add] at hln
      have h20 : HL0 1 = some hBlk := hS0 _ _ ((upd_other _ _ h2n).trans h2)
      refine ACode.seq ?_
      refine ACode.region' [0] (by kernel_rfl) rfl ?_
      refine aOps_1 rfl rfl rfl (AOp.bin' rfl rfl rfl rfl ?_)
      refine aOps_end ?_
      show ACode _ _ _ _ _ _
      refine ACode.seq ?_
      refine ACode.cond rfl (fun c2 => ?_) (fun c2 => ?_)
      · try simp only [decide_eq_true_eq, decide_eq_false_iff_not, beq_iff_eq, beq_eq_false_iff_ne, ne_eq, bne_iff_ne, Bool.not_eq_true', Bool.not_eq_false', Int.not_lt, Int.not_le, gt_iff_lt, ge_iff_le, bne_eq_false_iff_eq, Bool.not_eq_eq_eq_not, Bool.not_true, Bool.not_false] at c2
        have hin : i0 < r.var.1 := by omega
        refine ACode.skip ?_
        show ACode _ _ _ _ _ _
        refine ACode.seq ?_
        refine ACode.block ?_
        refine ACode.seq ?_
        refine ACode.region' [0] (by kernel_rfl) rfl ?_
        refine aOps_1 rfl rfl rfl (AOp.move' (.inr rfl) rfl ?_)
        refine aOps_end ?_
        show ACode _ _ _ _ _ _
        refine ACode.seq ?_
        refine ACode.seq ?_
        refine ACode.adopt (t := 7) 59 3 (by decide) rfl ?_
        refine ACode.region' [0, 1, 2] (by kernel_rfl) rfl ?_
        refine aOps_1 rfl rfl rfl (AOp.move' (.inl rfl) rfl ?_)
        refine aOps_1 rfl rfl rfl (AOp.len' rfl rfl ?_)
        refine aOps_1 rfl rfl rfl (AOp.move' (.inl rfl) rfl ?_)
        refine aOps_end ?_
        show ACode _ _ _ _ _ _
        refine ACode.block ?_
        refine ACode.countG (γ := Hp) (fun i g => [(7, .slice (some ⟨kL0, 0, some 1⟩) (itR vStep ([], (itR (rStep cols) ([], rows0 r) (i0)).2) (i)).1.length (itR vStep ([], (itR (rStep cols) ([], rows0 r) (i0)).2) (i)).1.length), (22, .int .i64 (i : Int))]) [(0, _), (1, _), (6, _), (17, _), (18, _), (19, _), (20, _), (21, _)] (fun i g => g) (cols.length) (fun i g => g kL0 = some (vlblk (itR vStep ([], (itR (rStep cols) ([], rows0 r) (i0)).2) (i)).1) ∧ Ab.Sub (upd HL0 n none) g ∧ (∃ ev, RdN g n A c ev (itR vStep ([], (itR (rStep cols) ([], rows0 r) (i0)).2) (i)).2)) ((upd HL0 kL0 (some (vlblk [])))) (.cons rfl (.cons rfl .nil)) (.cons rfl (.cons rfl (.cons rfl (.cons rfl (.cons rfl (.cons rfl (.cons rfl (.cons rfl .nil)))))))) (by exact sub_refl _) ⟨upd_same _ _ _, sub_new (sub_drop (sub_refl _)) (none_n (hfL0 _ (Nat.le_refl _))), ⟨ev0, hR0.sub (sub_upd' (sub_refl _) (hfL0 _ (Nat.le_refl _)))⟩⟩ (fun i1 g1 kL1 HL1 hiL1 hkL1 hsL1 hfL1 hxL1 => ?_)
        show ACode _ _ _ _ _ ⟨_, _, _⟩
        have tsL1 := SubS.of hsL1
        obtain ⟨hy1, hy2, ⟨ev1, hy3⟩⟩ := hxL1
        have hp1 : HL1 kL0 = some (vlblk (itR vStep ([], (itR (rStep cols) ([], rows0 r) (i0)).2) (i1)).1) := hsL1 _ _ hy1
        have hR1 := hy3.sub hsL1
        have hn1 := hR1.hn
        have hT1 := sub_trans hy2 hsL1
        have hS1 := sub_cutn hS0 hT1
        have hbj := itV_bs ([], (itR (rStep cols) ([], rows0 r) (i0)).2) i1
        simp only at hbj
        have hlj := itV_len ([], (itR (rStep cols) ([], rows0 r) (i0)).2) i1
        simp only [List.length_nil, Nat.zero_add] at hlj
        have h21 : HL1 1 = some hBlk := hS1 _ _ ((upd_other _ _ h2n).trans h2)
        refine ACode.seq ?_
        refine ACode.region' [0] (by kernel_rfl) rfl ?_
        refine aOps_1 rfl rfl rfl (AOp.bin' rfl rfl rfl rfl ?_)
        refine aOps_end ?_
        show ACode _ _ _ _ _ _
        refine ACode.seq ?_
        refine ACode.cond rfl (fun c3 => ?_) (fun c3 => ?_)
        · try simp only [decide_eq_true_eq, decide_eq_false_iff_not, beq_iff_eq, beq_eq_false_iff_ne, ne_eq, bne_iff_ne, Bool.not_eq_true', Bool.not_eq_false', Int.not_lt, Int.not_le, gt_iff_lt, ge_iff_le, bne_eq_false_iff_eq, Bool.not_eq_eq_eq_not, Bool.not_true, Bool.not_false] at c3
          have hjn : i1 < cols.length := by omega
          refine ACode.skip ?_
          show ACode _ _ _ _ _ _
          refine ACode.seq ?_
          refine ACode.block ?_
          refine ACode.region' [0, 1, 2, 3, 4, 5] (by kernel_rfl) rfl ?_
          refine aOps_1 rfl rfl rfl (AOp.move' (.inl rfl) rfl ?_)
          refine aOps_1 rfl rfl rfl (AOp.move' (.inl rfl) rfl ?_)
          refine aOps_1 rfl rfl rfl ?_
          refine AOp.call' rfl rfl rfl (ntakeV _ _ h21 n c A ev1 (itR vStep ([], (itR (rStep cols) ([], rows0 r) (i0)).2) (i1)).2 (hR1.sub subA)) ?_
          rintro _ HLt kt ⟨rfl, hPt⟩
          have hkt := hPt.1
          have hfLt := hPt.2.1
          have hsLt := hPt.2.2.1
          have hPtb := hPt
          obtain ⟨evt, hRt⟩ := hPtb.2.2.2
          have hnt := hRt.hn
          have thsLt := SubS.of hsLt
          have hpt : HLt kL0 = some (vlblk (itR vStep ([], (itR (rStep cols) ([], rows0 r) (i0)).2) (i1)).1) := hsLt _ _ ((upd_other _ _ (by omega)).trans hp1)
          refine aOps_1 rfl rfl rfl (AOp.buildH (vals3 [(takeV (itR vStep ([], (itR (rStep cols) ([], rows0 r) (i0)).2) (i1)).2).1]) rfl rfl (by show 0 < 3; decide) (by show 3 ≤ 16777216; decide) rfl rfl ?_)
          refine aOps_1 rfl rfl rfl (AOp.append' (b := vlblk (itR vStep ([], (itR (rStep cols) ([], rows0 r) (i0)).2) (i1)).1) (m := 1) (news := vals3 [(takeV (itR vStep ([], (itR (rStep cols) ([], rows0 r) (i0)).2) (i1)).2).1]) rfl rfl rfl hpA (srcOf_grow (b := vlblk [(takeV (itR vStep ([], (itR (rStep cols) ([], rows0 r) (i0)).2) (i1)).2).1]) hpA rfl rfl) rfl rfl rfl (by first | exact vals3_len' _ | exact (vals3_len' _).symm) srcOk_sl (vals3_one' _) (by omega) (by omega) ?_)
          refine aOps_1 rfl rfl rfl (AOp.move' (.inr rfl) rfl ?_)
          refine aOps_end ?_
          show ACode _ _ _ _ _ _
          refine ACode.region' [0, 1] (by kernel_rfl) rfl ?_
          refine aOps_1 rfl rfl rfl (AOp.add rfl rfl rfl (i64_wrap (by omega) (by omega)) ?_)
          refine aOps_1 rfl rfl rfl (AOp.move' (.inl rfl) rfl ?_)
          refine aOps_end ?_
          have hsn : vlblk ((itR vStep ([], (itR (rStep cols) ([], rows0 r) (i0)).2) (i1)).1 ++ [(takeV (itR vStep ([], (itR (rStep cols) ([], rows0 r) (i0)).2) (i1)).2).1]) = { cells := vals3 (itR vStep ([], (itR (rStep cols) ([], rows0 r) (i0)).2) (i1)).1 ++ vals3 [(takeV (itR vStep ([], (itR (rStep cols) ([], rows0 r) (i0)).2) (i1)).2).1], elem := 59, kind := .grow, esz := 3 } := by unfold vlblk; rw [vals3_snoc]
          have hAp2 : Away A (takeV (itR vStep ([], (itR (rStep cols) ([], rows0 r) (i0)).2) (i1)).2).2.bs.length kL0 := by rw [takeV_bs, hbj]; exact hAp
          first | refine thenA_n ?_ | simp only [thenA, blockA, if_true]
          exact NextG.mk (by omega) (by omega) ((upd (upd HLt kt (some (vlblk [(takeV (itR vStep ([], (itR (rStep cols) ([], rows0 r) (i0)).2) (i1)).2).1]))) kL0 (some (vlblk ((itR vStep ([], (itR (rStep cols) ([], rows0 r) (i0)).2) (i1)).1 ++ [(takeV (itR vStep ([], (itR (rStep cols) ([], rows0 r) (i0)).2) (i1)).2).1]))))) (.cons (show _ = some (Value.slice _ _ _) by rw [show ((itR vStep ([], (itR (rStep cols) ([], rows0 r) (i0)).2) (i1 + 1))).1 = ((itR vStep ([], (itR (rStep cols) ([], rows0 r) (i0)).2) (i1))).1 ++ [(takeV (itR vStep ([], (itR (rStep cols) ([], rows0 r) (i0)).2) (i1)).2).1] from rfl, List.length_append]; rfl) (.cons (show _ = some (Value.int .i64 (((i1 + 1 : Nat)) : Int)) from rfl) .nil)) (.cons rfl (.cons rfl (.cons rfl (.cons rfl (.cons rfl (.cons rfl (.cons rfl (.cons rfl .nil)))))))) (by rw [hsn]; exact sub_refl _) ⟨upd_same _ _ _, sub_new (sub_new (sub_cutn hT1 hsLt) (none_n (hfL0 _ (by omega)))) (none_n (hfL0 _ (Nat.le_refl _))), ⟨evt, (hRt.sub (sub_upd' (sub_refl _) (hfLt _ (Nat.le_refl _)))).away (by omega) hAp2 ((upd_other _ _ (by omega)).trans hpt) (by show (59 : Nat) ≠ 101; decide)⟩⟩
        · try simp only [decide_eq_true_eq, decide_eq_false_iff_not, beq_iff_eq, beq_eq_false_iff_ne, ne_eq, bne_iff_ne, Bool.not_eq_true', Bool.not_eq_false', Int.not_lt, Int.not_le, gt_iff_lt, ge_iff_le, bne_eq_false_iff_eq, Bool.not_eq_eq_eq_not, Bool.not_true, Bool.not_false] at c3
          have hij : i1 = cols.length := by omega
          subst hij
          have hro : ∀ v ∈ (rowOf cols.length (itR (rStep cols) ([], rows0 r) (i0)).2).1, v.ok := (itV_ok ([], (itR (rStep cols) ([], rows0 r) (i0)).2) hR0.ok (fun v hv => by cases hv) _).2
          have hq1 : HL1 Q = some (tblW g0.2) := hT1 _ _ ((upd_other _ _ (by omega)).trans hq0)
          have hp1 : HL1 kL0 = some (vlblk (rowOf cols.length (itR (rStep cols) ([], rows0 r) (i0)).2).1) := hp1
          have hR1 : RdN HL1 n A c ev1 (rowOf cols.length (itR (rStep cols) ([], rows0 r) (i0)).2).2 := hR1
          refine ACode.exit ?_
          show ACode _ _ _ _ _ _
          refine ACode.seq ?_
          refine ACode.seq ?_
          refine ACode.region' [0, 1] (by kernel_rfl) rfl ?_
          refine aOps_1 rfl rfl rfl (AOp.move' (.inl rfl) rfl ?_)
          refine aOps_q rfl rfl rfl (AOp.call' rfl rfl rfl (ngood _ _ h21 n c A ev1 _ hR1) (fun _ _ _ h => h)) (fun kq hkq => ?_)
          refine aOps_end ?_
          show ACode _ _ _ _ _ _
          refine ACode.cond rfl (fun c4 => ?_) (fun c4 => ?_)
          · try simp only [decide_eq_true_eq, decide_eq_false_iff_not, beq_iff_eq, beq_eq_false_iff_ne, ne_eq, bne_iff_ne, Bool.not_eq_true', Bool.not_eq_false', Int.not_lt, Int.not_le, gt_iff_lt, ge_iff_le, bne_eq_false_iff_eq, Bool.not_eq_eq_eq_not, Bool.not_true, Bool.not_false] at c4
            refine ACode.region' [0, 1, 2, 3, 4] (by kernel_rfl) rfl ?_
            refine aOps_1 rfl rfl rfl (AOp.move' (.inl rfl) rfl ?_)
            refine aOps_1 rfl rfl rfl (AOp.move' (.inl rfl) rfl ?_)
            refine aOps_1 rfl rfl rfl (AOp.move' (.inl rfl) rfl ?_)
            refine aOps_q rfl rfl rfl (AOp.call' rfl rfl rfl (row_vals 3 _ _ cols (rowOf cols.length (itR (rStep cols) ([], rows0 r) (i0)).2).1 B d ((SLC.away hBn hC).sub hS1).cells (some ⟨kL0, 0, some 1⟩) _ (SLC.vlblk hp1).cells (by rw [rowOf_len]; omega) hro) (fun _ _ _ h => h)) (fun kq hkq => ?_)
            rw [row_same]
            refine aOps_1 rfl rfl rfl ?_
            refine AOp.call' rfl rfl rfl (nfail _ _ n c A ev1 (rowOf cols.length (itR (rStep cols) ([], rows0 r) (i0)).2).2 (hR1.sub subA) (rowI wrongR cols (rowOf cols.length (itR (rStep cols) ([], rows0 r) (i0)).2).1) (rowI_le _ _ _).1 (rowI_le _ _ _).2) ?_
            rintro _ HLf kf ⟨rfl, hPf⟩
            have hkf := hPf.1
            have hfLf := hPf.2.1
            have hsLf := hPf.2.2.1
            have hPfb := hPf
            obtain ⟨evf, hRf⟩ := hPfb.2.2.2
            have hnf := hRf.hn
            have thsLf := SubS.of hsLf
            have hqf : HLf Q = some (tblW g0.2) := hsLf _ _ ((upd_other _ _ (by omega)).trans hq1)
            have hpf : HLf kL0 = some (vlblk (rowOf cols.length (itR (rStep cols) ([], rows0 r) (i0)).2).1) := hsLf _ _ ((upd_other _ _ (by omega)).trans hp1)
            have hSf := sub_cutn hS1 hsLf
            have h2f : HLf 1 = some hBlk := hSf _ _ ((upd_other _ _ h2n).trans h2)
            refine aOps_end ?_
            show ACode _ _ _ _ _ _
            refine ACode.seq ?_
            refine ACode.seq ?_
            refine ACode.region' [0, 1, 2] (by kernel_rfl) rfl ?_
            refine aOps_1 rfl rfl rfl (AOp.move' (.inl rfl) rfl ?_)
            refine aOps_q rfl rfl rfl (AOp.call' rfl rfl rfl (ngood _ _ h2f n c A evf _ hRf) (fun _ _ _ h => h)) (fun kb hkb => ?_)
            refine aOps_1 rfl rfl rfl (AOp.un' rfl rfl rfl ?_)
            refine aOps_end ?_
            show ACode _ _ _ _ _ _
            refine ACode.cond rfl (fun c5 => ?_) (fun c5 => ?_)
            · try simp only [decide_eq_true_eq, decide_eq_false_iff_not, beq_iff_eq, beq_eq_false_iff_ne, ne_eq, bne_iff_ne, Bool.not_eq_true', Bool.not_eq_false', Int.not_lt, Int.not_le, gt_iff_lt, ge_iff_le, bne_eq_false_iff_eq, Bool.not_eq_eq_eq_not, Bool.not_true, Bool.not_false] at c5
              refine ACode.seq ?_
              refine ACode.region' [0] (by kernel_rfl) rfl ?_
              refine aOps_1 rfl rfl rfl (AOp.move' (.inr rfl) rfl ?_)
              refine aOps_end ?_
              show ACode _ _ _ _ _ _
              refine ACode.ret ?_
              try simp only [thenA, blockA, if_true]
              have hru := rowsRun_end (runR_step hx4 hin hx5) (.inr c5)
              have hte := takeRows_err hru c5
              rw [hte, show (itR (rStep cols) ([], rows0 r) (i0 + 1)).2 = (rowOf cols.length (itR (rStep cols) ([], rows0 r) (i0)).2).2.fail (rowI wrongR cols (rowOf cols.length (itR (rStep cols) ([], rows0 r) (i0)).2).1) from rfl]
              have hPz : ∀ kz, kf ≤ kz → k ≤ kz → RdP H k n A c _ HLf kz := fun kz h1 h3 => ⟨h3, (fun m hm => hfLf m (by omega)), hSf, _, hRf⟩
              exact RetQ.one rfl rfl (sub_refl _) (hPz (max kf k) (Nat.le_max_left _ _) (Nat.le_max_right _ _)).stays (fun hk => ⟨NewR.none_, hPz _ (by omega) (by omega)⟩)
            · try simp only [decide_eq_true_eq, decide_eq_false_iff_not, beq_iff_eq, beq_eq_false_iff_ne, ne_eq, bne_iff_ne, Bool.not_eq_true', Bool.not_eq_false', Int.not_lt, Int.not_le, gt_iff_lt, ge_iff_le, bne_eq_false_iff_eq, Bool.not_eq_eq_eq_not, Bool.not_true, Bool.not_false] at c5
              refine ACode.skip ?_
              show ACode _ _ _ _ _ _
              refine ACode.region' [0, 1, 2, 3, 4] (by kernel_rfl) rfl ?_
              refine aOps_1 rfl rfl rfl (AOp.move' (.inl rfl) rfl ?_)
              refine aOps_1 rfl rfl rfl (AOp.move' (.inl rfl) rfl ?_)
              refine aOps_1 rfl rfl rfl (AOp.buildG1 (vals := [.slice (some ⟨kL0, 0, some 1⟩) (rowOf cols.length (itR (rStep cols) ([], rows0 r) (i0)).2).1.length (rowOf cols.length (itR (rStep cols) ([], rows0 r) (i0)).2).1.length]) rfl (by decide) rfl rfl (by intro u hu; simp at hu; subst hu; rfl) ?_)
              refine aOps_1 rfl rfl rfl (AOp.append' (b := tblW g0.2) (m := 1) (news := [.slice (some ⟨kL0, 0, some 1⟩) (rowOf cols.length (itR (rStep cols) ([], rows0 r) (i0)).2).1.length (rowOf cols.length (itR (rStep cols) ([], rows0 r) (i0)).2).1.length]) rfl rfl rfl hpA (srcOf_grow (b := tblW [.slice (some ⟨kL0, 0, some 1⟩) (rowOf cols.length (itR (rStep cols) ([], rows0 r) (i0)).2).1.length (rowOf cols.length (itR (rStep cols) ([], rows0 r) (i0)).2).1.length]) hpA rfl rfl) rfl rfl rfl (by rw [Nat.mul_one]) srcOk_sl (by intro u hu; simp at hu; subst hu; rfl) (by omega) (by omega) ?_)
              refine aOps_1 rfl rfl rfl (AOp.move' (.inr rfl) rfl ?_)
              refine aOps_end ?_
              show ACode _ _ _ _ _ _
              refine ACode.region' [0, 1] (by kernel_rfl) rfl ?_
              refine aOps_1 rfl rfl rfl (AOp.bin' (z := u64 (i0 + 1)) rfl rfl rfl (show some (Value.int .u64 (IntKind.u64.wrap ((i0 : Int) + 1))) = _ by rw [show (i0 : Int) + 1 = ((i0 + 1 : Nat) : Int) from rfl, wrapN _ (by omega)]) ?_)
              refine aOps_1 rfl rfl rfl (AOp.move' (.inl rfl) rfl ?_)
              refine aOps_end ?_
              have hcs : (itR (rStep cols) ([], rows0 r) (i0 + 1)) = ((itR (rStep cols) ([], rows0 r) (i0)).1 ++ [(rowOf cols.length (itR (rStep cols) ([], rows0 r) (i0)).2).1], ((rowOf cols.length (itR (rStep cols) ([], rows0 r) (i0)).2).2.fail (rowI wrongR cols (rowOf cols.length (itR (rStep cols) ([], rows0 r) (i0)).2).1))) := congrArg (fun x => ((itR (rStep cols) ([], rows0 r) (i0)).1 ++ [(rowOf cols.length (itR (rStep cols) ([], rows0 r) (i0)).2).1], x)) (show (rowOf cols.length (itR (rStep cols) ([], rows0 r) (i0)).2).2.fail (rowI wrongR cols (rowOf cols.length (itR (rStep cols) ([], rows0 r) (i0)).2).1) = ((rowOf cols.length (itR (rStep cols) ([], rows0 r) (i0)).2).2.fail (rowI wrongR cols (rowOf cols.length (itR (rStep cols) ([], rows0 r) (i0)).2).1)) from rfl)
              have hAx : Away A ((rowOf cols.length (itR (rStep cols) ([], rows0 r) (i0)).2).2.fail (rowI wrongR cols (rowOf cols.length (itR (rStep cols) ([], rows0 r) (i0)).2).1)).bs.length Q := by rw [← show (itR (rStep cols) ([], rows0 r) (i0 + 1)).2.bs = ((rowOf cols.length (itR (rStep cols) ([], rows0 r) (i0)).2).2.fail (rowI wrongR cols (rowOf cols.length (itR (rStep cols) ([], rows0 r) (i0)).2).1)).bs from congrArg (fun s => s.2.bs) hcs, itRow_bs, rows0_bs]; exact hAq
              have hmx : ∀ m b, k ≤ m → m ≠ Q → g0.1 m = some b → (upd (upd HLf kb (some (tblW [.slice (some ⟨kL0, 0, some 1⟩) (rowOf cols.length (itR (rStep cols) ([], rows0 r) (i0)).2).1.length (rowOf cols.length (itR (rStep cols) ([], rows0 r) (i0)).2).1.length]))) Q (some (tblW (g0.2 ++ [.slice (some ⟨kL0, 0, some 1⟩) (rowOf cols.length (itR (rStep cols) ([], rows0 r) (i0)).2).1.length (rowOf cols.length (itR (rStep cols) ([], rows0 r) (i0)).2).1.length])))) m = some b := fun m b hm hmq hb => by
                have hmn : m ≠ n := by omega
                have hb1 := hsL0 _ _ hb
                have hb2 := hT1 _ _ ((upd_other _ _ hmn).trans hb1)
                have hb3 : HLf m = some b := hsLf _ _ ((upd_other _ _ hmn).trans hb2)
                exact (upd_other _ _ hmq).trans ((upd_other _ _ (fun e => by rw [e, hfLf kb (by omega)] at hb3; cases hb3)).trans hb3)
              have hrws := (hx6.sub (cutQ_sub hmx)).snoc (row := (rowOf cols.length (itR (rStep cols) ([], rows0 r) (i0)).2).1) (SLC.vlblk ((cutQ_at (show k ≤ kL0 by omega) (by omega)).trans ((upd_other _ _ (by omega)).trans ((upd_other _ _ (by omega)).trans hpf))))
              first | refine thenA_n ?_ | simp only [thenA, blockA, if_true]
              exact NextG.mk (by omega) (by omega) ((upd (upd HLf kb (some (tblW [.slice (some ⟨kL0, 0, some 1⟩) (rowOf cols.length (itR (rStep cols) ([], rows0 r) (i0)).2).1.length (rowOf cols.length (itR (rStep cols) ([], rows0 r) (i0)).2).1.length]))) Q (some (tblW (g0.2 ++ [.slice (some ⟨kL0, 0, some 1⟩) (rowOf cols.length (itR (rStep cols) ([], rows0 r) (i0)).2).1.length (rowOf cols.length (itR (rStep cols) ([], rows0 r) (i0)).2).1.length]))), g0.2 ++ [.slice (some ⟨kL0, 0, some 1⟩) (rowOf cols.length (itR (rStep cols) ([], rows0 r) (i0)).2).1.length (rowOf cols.length (itR (rStep cols) ([], rows0 r) (i0)).2).1.length])) (.cons (show _ = some (Value.slice _ _ _) by rw [List.length_append]; rfl) (.cons rfl .nil)) (.cons rfl (.cons rfl (.cons rfl .nil))) (by exact sub_refl _) (by rw [hcs]; exact ⟨upd_same _ _ _, sub_new (sub_new hSf (none_n (hf kb (by omega)))) (none_n (hf Q (by omega))), ⟨_, (hRf.sub (sub_upd' (sub_refl _) (hfLf kb (by omega)))).away (by omega) hAx ((upd_other _ _ (by omega)).trans hqf) (by show (29 : Nat) ≠ 101; decide)⟩, by rw [← hcs]; exact runR_step hx4 (by omega) hx5, hrws, c5⟩)
          · try simp only [decide_eq_true_eq, decide_eq_false_iff_not, beq_iff_eq, beq_eq_false_iff_ne, ne_eq, bne_iff_ne, Bool.not_eq_true', Bool.not_eq_false', Int.not_lt, Int.not_le, gt_iff_lt, ge_iff_le, bne_eq_false_iff_eq, Bool.not_eq_eq_eq_not, Bool.not_true, Bool.not_false] at c4
            refine ACode.skip ?_
            show ACode _ _ _ _ _ _
            refine ACode.seq ?_
            refine ACode.seq ?_
            refine ACode.region' [0, 1, 2] (by kernel_rfl) rfl ?_
            refine aOps_1 rfl rfl rfl (AOp.move' (.inl rfl) rfl ?_)
            refine aOps_q rfl rfl rfl (AOp.call' rfl rfl rfl (ngood _ _ h21 n c A ev1 _ hR1) (fun _ _ _ h => h)) (fun kb hkb => ?_)
            refine aOps_1 rfl rfl rfl (AOp.un' rfl rfl rfl ?_)
            refine aOps_end ?_
            show ACode _ _ _ _ _ _
            refine ACode.cond rfl (fun c5 => ?_) (fun c5 => absurd c5 (by rw [decide_eq_false c4]; decide))
            refine ACode.seq ?_
            refine ACode.region' [0] (by kernel_rfl) rfl ?_
            refine aOps_1 rfl rfl rfl (AOp.move' (.inr rfl) rfl ?_)
            refine aOps_end ?_
            show ACode _ _ _ _ _ _
            refine ACode.ret ?_
            try simp only [thenA, blockA, if_true]
            have hcs : (itR (rStep cols) ([], rows0 r) (i0 + 1)).2 = (rowOf cols.length (itR (rStep cols) ([], rows0 r) (i0)).2).2 := if_neg (fun h => c4 h.1)
            have hru := rowsRun_end (runR_step hx4 hin hx5) (.inr (by rw [hcs]; exact c4))
            have hte := takeRows_err hru (by rw [hcs]; exact c4)
            rw [hte, hcs]
            have hPz : ∀ kz, kL1 ≤ kz → k ≤ kz → RdP H k n A c _ HL1 kz := fun kz h1 h3 => ⟨h3, (fun m hm => hfL1 m (by omega)), hS1, _, hR1⟩
            exact RetQ.one rfl rfl (sub_refl _) (hPz (max kL1 k) (Nat.le_max_left _ _) (Nat.le_max_right _ _)).stays (fun hk => ⟨NewR.none_, hPz _ (by omega) (by omega)⟩)
      · try simp only [decide_eq_true_eq, decide_eq_false_iff_not, beq_iff_eq, beq_eq_false_iff_ne, ne_eq, bne_iff_ne, Bool.not_eq_true', Bool.not_eq_false', Int.not_lt, Int.not_le, gt_iff_lt, ge_iff_le, bne_eq_false_iff_eq, Bool.not_eq_eq_eq_not, Bool.not_true, Bool.not_false] at c2
        have hin : i0 = r.var.1 := by omega
        have hrun := rowsRun_end hx4 (.inl hin)
        refine ACode.exit ?_
        show ACode _ _ _ _ _ _
        refine ACode.seq ?_
        refine ACode.region' [0, 1] (by kernel_rfl) rfl ?_
        refine aOps_1 rfl rfl rfl (AOp.move' (.inl rfl) rfl ?_)
        refine aOps_1 rfl rfl rfl (AOp.move' (.inr rfl) rfl ?_)
        refine aOps_end ?_
        show ACode _ _ _ _ _ _
        refine ACode.ret ?_
        try simp only [thenA, blockA, if_true]
        have hte : takeRows cols r = (itR (rStep cols) ([], rows0 r) (i0)) := by rw [takeRows, hrun, if_neg (fun h => h hx5)]
        rw [hte]
        have hPz : ∀ kz, kL0 ≤ kz → k ≤ kz → RdP H k n A c _ HL0 kz := fun kz h1 h3 => ⟨h3, (fun m hm => hfL0 m (by omega)), hS0, _, hR0⟩
        exact RetQ.one rfl rfl (sub_refl _) (hPz (max kL0 k) (Nat.le_max_left _ _) (Nat.le_max_right _ _)).stays (fun hk => ⟨⟨_, _, g0.2, rfl, SLC.grow (b := tblW g0.2) ((cutH_at (by omega)).trans hq0) rfl (Nat.mul_one _), (hx6.sub cutQH).sub (cutH_mono hsL0)⟩, hPz _ (by omega) (by omega)⟩)

end

end Go.Proofs.YteoofihjmldllaaDoor
