/- Contracts over the abstract states: commands out of bytes, the program's and the document's. -/
import Derived.Test.YteoofihjmldllaaDoorZ0
set_option linter.unusedVariables false
set_option linter.unusedSimpArgs false
set_option maxRecDepth 100000
namespace Go.Proofs.YteoofihjmldllaaDoor
open Go Go.Ab

theorem minN {v : Nat} (hv : v < 18446744073709551616) : IntKind.i64.wrap (min ((v : Nat) : Int) 1099511627776) = gN v := by
  unfold gN
  split
  · rename_i h
    rw [Int.min_eq_right (by omega)]
    rfl
  · rename_i h
    rw [Int.min_eq_left (by omega)]
    exact i64_wrap (by omega) (by omega)
section
variable (H : Hp) (k : Nat)

theorem nnumber (n c : Nat) (A : Option Addr) (ev : Value) (r : Rd) (hR : RdN H n A c ev r) : ACalls Tryd.prog 3 45 [ptr n 0 none] H k (fun v H' k' => v = .int .i64 (gN (numR r).1) ∧ RdP H k n A c (numR r).2 H' k') := by
  refine ACalls.fresh fun hf => ?_
  refine ACalls.body Tryd.func45 rfl (Nat.le_of_ble_eq_true rfl) ?_
  have hn := hR.hn
  have hnk := old_lt hf hn
  have hok := hR.ok
  have hal := hok.at_le
  have hle := hok.len
  have hvx := Rd.var_ok hok
  refine ACode.seq ?_
  refine ACode.region' [0] (by kernel_rfl) rfl ?_
  refine aOps_1 rfl rfl rfl (AOp.move' (.inr rfl) rfl ?_)
  refine aOps_end ?_
  show ACode _ _ _ _ _ _
  refine ACode.seq ?_
  refine ACode.region' [0, 1, 2] (by kernel_rfl) rfl ?_
  refine aOps_1 rfl rfl rfl (AOp.move' (.inl rfl) rfl ?_)
  refine aOps_1 rfl rfl rfl ?_
  refine AOp.call' rfl rfl rfl (nvar _ _ n c A ev r (hR.sub subA)) ?_
  rintro _ HLv kv ⟨rfl, hPv⟩
  have hkv := hPv.1
  have hfLv := hPv.2.1
  have hsLv := hPv.2.2.1
  have hPvb := hPv
  obtain ⟨evv, hRv⟩ := hPvb.2.2.2
  have hnv := hRv.hn
  have thsLv := SubS.of hsLv
  refine aOps_1 rfl rfl rfl (AOp.move' (.inr rfl) rfl ?_)
  refine aOps_end ?_
  show ACode _ _ _ _ _ _
  refine ACode.seq ?_
  refine ACode.seq ?_
  refine ACode.region' [0, 1] (by kernel_rfl) rfl ?_
  refine aOps_1 rfl rfl rfl (AOp.move' (.inl rfl) rfl ?_)
  refine aOps_1 rfl rfl rfl (AOp.bin' rfl rfl rfl rfl ?_)
  refine aOps_end ?_
  show ACode _ _ _ _ _ _
  refine ACode.cond rfl (fun c0 => ?_) (fun c0 => ?_)
  · try simp only [decide_eq_true_eq, decide_eq_false_iff_not, beq_iff_eq, beq_eq_false_iff_ne, ne_eq, bne_iff_ne, Bool.not_eq_true', Bool.not_eq_false', Int.not_lt, Int.not_le, gt_iff_lt, ge_iff_le, bne_eq_false_iff_eq, Bool.not_eq_eq_eq_not, Bool.not_true, Bool.not_false] at c0
    refine ACode.region' [0, 1] (by kernel_rfl) rfl ?_
    refine aOps_1 rfl rfl rfl (AOp.move' (.inl rfl) rfl ?_)
    refine aOps_1 rfl rfl rfl ?_
    refine AOp.call' rfl rfl rfl (nfail _ _ n c A evv r.var.2 hRv 12 (by decide) (by decide)) ?_
    rintro _ HLw kw ⟨rfl, hPw⟩
    have hkw := hPw.1
    have hfLw := hPw.2.1
    have hsLw := hPw.2.2.1
    have hPwb := hPw
    obtain ⟨evw, hRw⟩ := hPwb.2.2.2
    have hnw := hRw.hn
    have thsLw := SubS.of hsLw
    refine aOps_end ?_
    show ACode _ _ _ _ _ _
    refine ACode.seq ?_
    refine ACode.region' [0, 1, 2, 3] (by kernel_rfl) rfl ?_
    refine aOps_1 rfl rfl rfl (AOp.move' (.inl rfl) rfl ?_)
    refine aOps_1 rfl rfl rfl (AOp.min2 rfl rfl rfl ?_)
    refine aOps_1 rfl rfl rfl (AOp.convInt rfl rfl ?_)
    rw [minN hvx.2]
    refine aOps_1 rfl rfl rfl (AOp.move' (.inr rfl) rfl ?_)
    refine aOps_end ?_
    show ACode _ _ _ _ _ _
    refine ACode.ret ?_
    have e1 : numR r = (r.var.1, r.var.2.fail 12) := congrArg (Prod.mk _) (if_pos (by omega))
    rw [e1]
    have hPc := hPv.trans hPw
    try simp only [thenA, blockA, if_true]
    have hPz : ∀ kz, kw ≤ kz → k ≤ kz → RdP H k n A c (r.var.2.fail 12) HLw kz := fun kz h1 h3 => (hPc).at_ (Nat.le_refl _) h1
    exact RetQ.one rfl rfl (sub_refl _) (hPz (max kw k) (Nat.le_max_left _ _) (Nat.le_max_right _ _)).stays (fun hk => ⟨rfl, hPz _ (by omega) (by omega)⟩)
  · try simp only [decide_eq_true_eq, decide_eq_false_iff_not, beq_iff_eq, beq_eq_false_iff_ne, ne_eq, bne_iff_ne, Bool.not_eq_true', Bool.not_eq_false', Int.not_lt, Int.not_le, gt_iff_lt, ge_iff_le, bne_eq_false_iff_eq, Bool.not_eq_eq_eq_not, Bool.not_true, Bool.not_false] at c0
    refine ACode.skip ?_
    show ACode _ _ _ _ _ _
    refine ACode.seq ?_
    refine ACode.region' [0, 1, 2, 3] (by kernel_rfl) rfl ?_
    refine aOps_1 rfl rfl rfl (AOp.move' (.inl rfl) rfl ?_)
    refine aOps_1 rfl rfl rfl (AOp.min2 rfl rfl rfl ?_)
    refine aOps_1 rfl rfl rfl (AOp.convInt rfl rfl ?_)
    rw [minN hvx.2]
    refine aOps_1 rfl rfl rfl (AOp.move' (.inr rfl) rfl ?_)
    refine aOps_end ?_
    show ACode _ _ _ _ _ _
    refine ACode.ret ?_
    have e1 : numR r = (r.var.1, r.var.2) := congrArg (Prod.mk _) (if_neg (by omega))
    rw [e1]
    have hPc := hPv
    try simp only [thenA, blockA, if_true]
    have hPz : ∀ kz, kv ≤ kz → k ≤ kz → RdP H k n A c r.var.2 HLv kz := fun kz h1 h3 => (hPc).at_ (Nat.le_refl _) h1
    exact RetQ.one rfl rfl (sub_refl _) (hPz (max kv k) (Nat.le_max_left _ _) (Nat.le_max_right _ _)).stays (fun hk => ⟨rfl, hPz _ (by omega) (by omega)⟩)

set_option maxHeartbeats 4000000 in
theorem nlogTake (h2 : H 1 = some hBlk) (bs : List UInt8) (A : Option Addr) (c : Nat) (hD : SLC H 1 A bs.length c (bs.map bv)) (hbl : bs.length ≤ 1000000000) (cols : List Col) (B : Option Addr) (d : Nat) (hC : SLC H 3 B cols.length d (cols3 cols)) (hcl : cols.length ≤ 1000000) : ACalls Tryd.prog 3 16 [.slice A bs.length c, .slice B cols.length d] H k (fun v H' k' => ∃ cv, v = .tuple #[cv, .int .i64 (takeC cols bs).2.1, .int .i64 (takeC cols bs).2.2] ∧ CmV (cutH H' k) (takeC cols bs).1 cv ∧ k ≤ k' ∧ (∀ m, k' ≤ m → H' m = none) ∧ Ab.Sub H H') := by
  refine ACalls.fresh fun hf => ?_
  refine ACalls.body Tryd.func16 rfl (Nat.le_of_ble_eq_true rfl) ?_
  obtain ⟨r, hr⟩ : ∃ r : Rd, r = ⟨bs, 0, 0, 0⟩ := ⟨_, rfl⟩
  have hbl2 : r.bs.length = bs.length := by rw [hr]
  have hok : r.ok := by rw [hr]; exact ⟨Nat.zero_le _, hbl, Int.le_refl 0, (by decide : (0 : Int) ≤ 100), Int.le_refl 0, (by decide : (0 : Int) ≤ 1000000000), fun _ => rfl⟩
  have hfx := Rd.fix1_ok hok
  have hfb := Rd.fix1_bs r
  have hHk := hf k (Nat.le_refl k)
  have h2k := old_lt hf h2
  refine ACode.seq ?_
  refine ACode.region' [0, 1, 2] (by kernel_rfl) rfl ?_
  refine aOps_1 rfl rfl rfl (AOp.alloc' rfl ?_)
  refine aOps_1 rfl rfl rfl (AOp.move' (.inr rfl) rfl ?_)
  refine aOps_1 rfl rfl rfl (AOp.move' (.inr rfl) rfl ?_)
  refine aOps_end ?_
  show ACode _ _ _ _ _ _
  refine ACode.seq ?_
  refine ACode.region' [0, 1, 2] (by kernel_rfl) rfl ?_
  refine aOps_1 rfl rfl rfl (AOp.move' (.inl rfl) rfl ?_)
  refine aOps_1 rfl rfl rfl ?_
  refine AOp.call' rfl rfl rfl (newN _ _ A c bs (hD.sub subA) hbl) ?_
  rintro _ HLn kn ⟨hkn0, hfLn, hsLn, n, Bn, dn, rfl, hna, hnb, hRn, hBn⟩
  have thsLn := SubS.of hsLn
  rw [← hr] at hRn
  have hb0 : HLn k = some (cmblk 0 NIL 0 NIL 0 0 NIL NIL 0 0) := hpA
  have hSn : Ab.Sub H HLn := sub_trans (sub_new (sub_refl H) hHk) hsLn
  have hnk : n ≠ k := by omega
  have hkn : k ≠ n := by omega
  have hHn : H n = none := hf n (by omega)
  have hAk : Away Bn bs.length k := Away.ne (fun a ha => by have := (hBn a ha).1; omega)
  refine aOps_1 rfl rfl rfl (AOp.move' (.inr rfl) rfl ?_)
  refine aOps_end ?_
  show ACode _ _ _ _ _ _
  refine ACode.seq ?_
  refine ACode.region' [0, 1, 2, 3, 4] (by kernel_rfl) rfl ?_
  refine aOps_1 rfl rfl rfl (AOp.move' (.inl rfl) rfl ?_)
  refine aOps_1 rfl rfl rfl ?_
  refine AOp.call' rfl rfl rfl (nfix1 _ _ n dn Bn _ r hRn) ?_
  rintro _ HLx kx ⟨rfl, hPx⟩
  have hkx := hPx.1
  have hfLx := hPx.2.1
  have hsLx := hPx.2.2.1
  have hPxb := hPx
  obtain ⟨evx, hRx⟩ := hPxb.2.2.2
  have hnx := hRx.hn
  have thsLx := SubS.of hsLx
  have hbx : HLx k = some (cmblk 0 NIL 0 NIL 0 0 NIL NIL 0 0) := hsLx _ _ ((upd_other _ _ hkn).trans hb0)
  have hSx : Ab.Sub H HLx := sub_past hSn hHn hsLx
  have h2x := hSx _ _ h2
  have hRy := fun y => hRx.away (x := y) hnk (by rw [hfb, hbl2]; exact hAk) hbx (by show (44 : Nat) ≠ 101; decide)
  refine aOps_1 rfl rfl rfl (AOp.convInt rfl rfl ?_)
  rw [show IntKind.i64.wrap ((r.fix1.1 : Nat) : Int) = ((r.fix1.1 : Nat) : Int) from i64_wrap (by omega) (by omega)]
  refine aOps_1 rfl rfl rfl (AOp.fieldAddr' rfl (by decide) rfl ?_)
  refine aOps_0 rfl rfl rfl ?_
  refine AOp.store1 (b := ?b1) rfl rfl rfl ?hn1 ?hk1 rfl rfl ?hl1 ?hR1
  (case hn1 => exact hpA)
  (case hk1 => rfl)
  (case hl1 => first | (simp; done) | exact Nat.le_of_ble_eq_true rfl)
  refine aOps_end ?_
  show ACode _ _ _ _ _ _
  refine ACode.seq ?_
  refine ACode.seq ?_
  refine ACode.region' [0, 1] (by kernel_rfl) rfl ?_
  refine aOps_1 rfl rfl rfl (AOp.fieldAddr' rfl (by decide) rfl ?_)
  refine aOps_1 rfl rfl rfl ?_
  refine AOp.load1 (b := ?b2) (v := ?v2) rfl rfl ?hn2 ?hv2 ?hR2
  (case hn2 => exact hpA)
  (case hv2 => rfl)
  refine aOps_end ?_
  show ACode _ _ _ _ _ _
  refine ACode.block ?_
  refine ACode.seq ?_
  refine ACode.region' [0, 1] (by kernel_rfl) rfl ?_
  refine aOps_1 rfl rfl rfl (AOp.bin' rfl rfl rfl rfl ?_)
  refine aOps_1 rfl rfl rfl (AOp.move' (.inr rfl) rfl ?_)
  refine aOps_end ?_
  show ACode _ _ _ _ _ _
  refine ACode.cond rfl (fun c0 => ?_) (fun c0 => ?_)
  · try simp only [decide_eq_true_eq, decide_eq_false_iff_not, beq_iff_eq, beq_eq_false_iff_ne, ne_eq, bne_iff_ne, Bool.not_eq_true', Bool.not_eq_false', Int.not_lt, Int.not_le, gt_iff_lt, ge_iff_le, bne_eq_false_iff_eq, Bool.not_eq_eq_eq_not, Bool.not_true, Bool.not_false] at c0
    rw [c0]
    refine ACode.region' [0, 1, 2, 3, 4, 5, 6, 7] (by kernel_rfl) rfl ?_
    refine aOps_1 rfl rfl rfl (AOp.move' (.inl rfl) rfl ?_)
    refine aOps_1 rfl rfl rfl ?_
    refine AOp.call' rfl rfl rfl (ntakeS _ _ ((upd_other _ _ (by omega)).trans h2x) n dn Bn evx r.fix1.2 (hRy _)) ?_
    rintro _ HLs ks ⟨⟨As, cs, rfl, hs1, hsa⟩, hPs⟩
    have hks := hPs.1
    have hfLs := hPs.2.1
    have hsLs := hPs.2.2.1
    have hPsb := hPs
    obtain ⟨evs, hRs⟩ := hPsb.2.2.2
    have hns := hRs.hn
    have thsLs := SubS.of hsLs
    have hbs : HLs k = some (cmblk 1 NIL 0 NIL 0 0 NIL NIL 0 0) := hsLs _ _ ((upd_other _ _ hkn).trans (upd_same _ _ _))
    have hSs : Ab.Sub H HLs := sub_past (sub_new hSx hHk) hHn hsLs
    have h2s := hSs _ _ h2
    refine aOps_1 rfl rfl rfl (AOp.move' (.inl rfl) rfl ?_)
    refine aOps_1 rfl rfl rfl ?_
    refine AOp.call' rfl rfl rfl (nnumber _ _ n dn Bn evs (takeSch r.fix1.2).2 hRs) ?_
    rintro _ HLm km ⟨rfl, hPm⟩
    have hkm := hPm.1
    have hfLm := hPm.2.1
    have hsLm := hPm.2.2.1
    have hPmb := hPm
    obtain ⟨evm, hRm⟩ := hPmb.2.2.2
    have hnm := hRm.hn
    have thsLm := SubS.of hsLm
    have hbm : HLm k = some (cmblk 1 NIL 0 NIL 0 0 NIL NIL 0 0) := hsLm _ _ ((upd_other _ _ hkn).trans hbs)
    have hSm : Ab.Sub H HLm := sub_past hSs hHn hsLm
    have h2m := hSm _ _ h2
    have hsm : SLC HLm 3 As (takeSch r.fix1.2).1.length cs (cols3 (takeSch r.fix1.2).1) := (SLC.away (Away.ne (fun a ha => by have := (hsa a ha).1; omega)) hs1).sub hsLm
    refine aOps_1 rfl rfl rfl (AOp.fieldAddr' rfl (by decide) rfl ?_)
    refine aOps_0 rfl rfl rfl ?_
    refine AOp.store1 (b := ?b3) rfl rfl rfl ?hn3 ?hk3 rfl rfl ?hl3 ?hR3
    (case hn3 => exact hpA)
    (case hk3 => rfl)
    (case hl3 => first | (simp; done) | exact Nat.le_of_ble_eq_true rfl)
    refine aOps_1 rfl rfl rfl (AOp.fieldAddr' rfl (by decide) rfl ?_)
    refine aOps_0 rfl rfl rfl ?_
    refine AOp.store1 (b := ?b4) rfl rfl rfl ?hn4 ?hk4 rfl rfl ?hl4 ?hR4
    (case hn4 => exact hpA)
    (case hk4 => rfl)
    (case hl4 => first | (simp; done) | exact Nat.le_of_ble_eq_true rfl)
    rw [rd_upd2]
    refine aOps_end ?_
    show ACode _ _ _ _ _ _
    refine ACode.seq ?_
    refine ACode.seq ?_
    have hcr : takeCr gN cols r = (⟨1, (takeSch r.fix1.2).1, gN (numR (takeSch r.fix1.2).2).1, [], pD0, 0, 0⟩, (numR (takeSch r.fix1.2).2).2) := by unfold takeCr cmK; rw [if_pos (show r.fix1.1 = 1 by omega)]
    have hbe : (numR (takeSch r.fix1.2).2).2.bs.length = bs.length := by rw [show (numR (takeSch r.fix1.2).2).2.bs = r.bs from (numR_bs _).trans ((takeSch_ok hfx.1).2.2.trans hfb)]; exact hbl2
    have hRe := fun y => hRm.away (x := y) hnk (by first | rw [hbe]; exact hAk | exact hAk) hbm (by show (44 : Nat) ≠ 101; decide)
    have hSe : Ab.Sub H HLm := hSm
    refine ACode.region' [0, 1, 2, 3, 4, 5, 6] (by kernel_rfl) rfl ?_
    refine aOps_1 rfl rfl rfl (AOp.move' (.inl rfl) rfl ?_)
    refine aOps_q rfl rfl rfl (AOp.call' rfl rfl rfl (nend _ _ ((upd_other _ _ (by omega)).trans h2m) n dn Bn _ (numR (takeSch r.fix1.2).2).2 (hRe _)) (fun _ _ _ h => h)) (fun kq hkq => ?_)
    refine aOps_1 rfl rfl rfl (AOp.move' (.inl rfl) rfl ?_)
    refine aOps_1 rfl rfl rfl (AOp.extract' rfl rfl rfl ?_)
    refine aOps_1 rfl rfl rfl (AOp.extract' rfl rfl rfl ?_)
    refine aOps_1 rfl rfl rfl (AOp.move' (.inr rfl) rfl ?_)
    refine aOps_1 rfl rfl rfl (AOp.move' (.inr rfl) rfl ?_)
    refine aOps_end ?_
    show ACode _ _ _ _ _ _
    refine ACode.seq ?_
    refine ACode.region' [0, 1] (by kernel_rfl) rfl ?_
    refine aOps_1 rfl rfl rfl (AOp.move' (.inl rfl) rfl ?_)
    refine aOps_1 rfl rfl rfl (AOp.bin' rfl rfl rfl rfl ?_)
    refine aOps_end ?_
    show ACode _ _ _ _ _ _
    refine ACode.cond rfl (fun c5 => ?_) (fun c5 => ?_)
    · try simp only [decide_eq_true_eq, decide_eq_false_iff_not, beq_iff_eq, beq_eq_false_iff_ne, ne_eq, bne_iff_ne, Bool.not_eq_true', Bool.not_eq_false', Int.not_lt, Int.not_le, gt_iff_lt, ge_iff_le, bne_eq_false_iff_eq, Bool.not_eq_eq_eq_not, Bool.not_true, Bool.not_false] at c5
      refine ACode.seq ?_
      refine ACode.region' [0, 1, 2, 3, 4, 5] (by kernel_rfl) rfl ?_
      refine aOps_1 rfl rfl rfl (AOp.buildS (cells := #[_, _, _, _, _, _, _, _, _, _]) rfl rfl rfl ?_)
      refine aOps_1 rfl rfl rfl (AOp.move' (.inl rfl) rfl ?_)
      refine aOps_1 rfl rfl rfl (AOp.move' (.inl rfl) rfl ?_)
      refine aOps_0 rfl rfl rfl ?_
      refine AOp.storeAll (b := ?b5) rfl rfl rfl ?hn5 ?hk5 rfl ?hw5 ?ho5 ?hl5 ?hR5
      (case hn5 => exact hpA)
      (case hk5 => rfl)
      (case hw5 => first | rfl | (simp; done))
      (case ho5 => first | rfl | decide | (simp; done))
      (case hl5 => first | rfl | (simp; done))
      refine aOps_1 rfl rfl rfl (AOp.move' (.inr rfl) rfl ?_)
      refine aOps_1 rfl rfl rfl (AOp.move' (.inr rfl) rfl ?_)
      try rw [rd_upd2]
      refine aOps_end ?_
      show ACode _ _ _ _ _ _
      refine ACode.ret ?_
      try simp only [thenA, blockA, if_true]
      have e1 : takeC cols bs = (cmD 0, (numR (takeSch r.fix1.2).2).2.end_.1, (numR (takeSch r.fix1.2).2).2.end_.2) := by rw [← takeC_n, ← hr]; unfold ansC; rw [hcr]; exact if_pos c5
      rw [e1]
      exact RetQ.cell3 rfl rfl (aloadAll (b := cmblk 0 NIL 0 NIL 0 0 NIL NIL 0 0) (v := cmv 0 NIL 0 NIL 0 0 NIL NIL 0 0) (upd_same _ _ _) rfl rfl rfl) rfl rfl (sub_refl _) (fun m b h => ⟨b, sub_new hSe hHk m b h⟩) (fun hk => ⟨_, rfl, CmV.zero 0, by omega, (fun m hm => (upd_other _ _ (by omega)).trans (hfLm m (by omega))), sub_new hSe hHk⟩)
    · try simp only [decide_eq_true_eq, decide_eq_false_iff_not, beq_iff_eq, beq_eq_false_iff_ne, ne_eq, bne_iff_ne, Bool.not_eq_true', Bool.not_eq_false', Int.not_lt, Int.not_le, gt_iff_lt, ge_iff_le, bne_eq_false_iff_eq, Bool.not_eq_eq_eq_not, Bool.not_true, Bool.not_false] at c5
      refine ACode.skip ?_
      show ACode _ _ _ _ _ _
      refine ACode.seq ?_
      refine ACode.region' [0, 1, 2, 3] (by kernel_rfl) rfl ?_
      refine aOps_1 rfl rfl rfl ?_
      refine AOp.loadAll (b := ?b6) (v := cmv 1 (.slice As (takeSch r.fix1.2).1.length cs) (gN (numR (takeSch r.fix1.2).2).1) NIL 0 0 NIL NIL 0 0) rfl rfl ?hn6 ?hv6 ?hw6 ?hz6 ?hR6
      (case hn6 => exact hpA)
      (case hv6 => rfl)
      (case hw6 => rfl)
      (case hz6 => first | rfl | (simp; done))
      refine aOps_0 rfl rfl rfl ?_
      refine AOp.storeAll (b := ?b7) rfl rfl rfl ?hn7 ?hk7 rfl ?hw7 ?ho7 ?hl7 ?hR7
      (case hn7 => exact hpA)
      (case hk7 => rfl)
      (case hw7 => first | rfl | (simp; done))
      (case ho7 => first | rfl | decide | (simp; done))
      (case hl7 => first | rfl | (simp; done))
      refine aOps_1 rfl rfl rfl (AOp.move' (.inr rfl) rfl ?_)
      refine aOps_1 rfl rfl rfl (AOp.move' (.inr rfl) rfl ?_)
      try rw [rd_upd2]
      refine aOps_end ?_
      show ACode _ _ _ _ _ _
      refine ACode.ret ?_
      try simp only [thenA, blockA, if_true]
      have e1 : takeC cols bs = (⟨1, (takeSch r.fix1.2).1, gN (numR (takeSch r.fix1.2).2).1, [], pD0, 0, 0⟩, 0, 0) := by rw [← takeC_n, ← hr]; unfold ansC; rw [hcr]; exact if_neg (fun h => h c5)
      rw [e1]
      exact RetQ.cell3 rfl rfl (aloadAll (b := cmblk 1 (.slice As (takeSch r.fix1.2).1.length cs) (gN (numR (takeSch r.fix1.2).2).1) NIL 0 0 NIL NIL 0 0) (v := cmv 1 (.slice As (takeSch r.fix1.2).1.length cs) (gN (numR (takeSch r.fix1.2).2).1) NIL 0 0 NIL NIL 0 0) (upd_same _ _ _) rfl rfl rfl) rfl rfl (sub_refl _) (fun m b h => ⟨b, sub_new hSe hHk m b h⟩) (fun hk => ⟨_, rfl, CmV.mk (SLC.cutK (SLC.away (Away.ne (fun a ha => by have := (hsa a ha).1; omega)) hsm) (fun a ha => by have := (hsa a ha).1; omega)) SLC.nil Rws.nil PdV.zero, by omega, (fun m hm => (upd_other _ _ (by omega)).trans (hfLm m (by omega))), sub_new hSe hHk⟩)
  · try simp only [decide_eq_true_eq, decide_eq_false_iff_not, beq_iff_eq, beq_eq_false_iff_ne, ne_eq, bne_iff_ne, Bool.not_eq_true', Bool.not_eq_false', Int.not_lt, Int.not_le, gt_iff_lt, ge_iff_le, bne_eq_false_iff_eq, Bool.not_eq_eq_eq_not, Bool.not_true, Bool.not_false] at c0
    refine ACode.seq ?_
    refine ACode.region' [0, 1] (by kernel_rfl) rfl ?_
    refine aOps_1 rfl rfl rfl (AOp.bin' rfl rfl rfl rfl ?_)
    refine aOps_1 rfl rfl rfl (AOp.move' (.inr rfl) rfl ?_)
    refine aOps_end ?_
    show ACode _ _ _ _ _ _
    refine ACode.cond rfl (fun c1 => ?_) (fun c1 => ?_)
    · try simp only [decide_eq_true_eq, decide_eq_false_iff_not, beq_iff_eq, beq_eq_false_iff_ne, ne_eq, bne_iff_ne, Bool.not_eq_true', Bool.not_eq_false', Int.not_lt, Int.not_le, gt_iff_lt, ge_iff_le, bne_eq_false_iff_eq, Bool.not_eq_eq_eq_not, Bool.not_true, Bool.not_false] at c1
      rw [c1]
      refine ACode.region' [0, 1, 2, 3, 4] (by kernel_rfl) rfl ?_
      refine aOps_1 rfl rfl rfl (AOp.move' (.inl rfl) rfl ?_)
      refine aOps_1 rfl rfl rfl (AOp.move' (.inl rfl) rfl ?_)
      refine aOps_1 rfl rfl rfl ?_
      refine AOp.call' rfl rfl rfl (ntakeW _ _ ((upd_other _ _ (by omega)).trans h2x) n dn Bn evx r.fix1.2 (hRy _) cols B d (hC.sub (sub_new hSx hHk)) (Away.of hC hHn) hcl) ?_
      rintro _ HLw kw ⟨⟨Aw, cw, ws, rfl, hw1, hw0⟩, hPw⟩
      have hkw := hPw.1
      have hfLw := hPw.2.1
      have hsLw := hPw.2.2.1
      have hPwb := hPw
      obtain ⟨evw, hRw⟩ := hPwb.2.2.2
      have hnw := hRw.hn
      have thsLw := SubS.of hsLw
      have hbw : HLw k = some (cmblk 2 NIL 0 NIL 0 0 NIL NIL 0 0) := hsLw _ _ ((upd_other _ _ hkn).trans (upd_same _ _ _))
      have hSw : Ab.Sub H HLw := sub_past (sub_new hSx hHk) hHn hsLw
      have h2w := hSw _ _ h2
      refine aOps_1 rfl rfl rfl (AOp.fieldAddr' rfl (by decide) rfl ?_)
      refine aOps_0 rfl rfl rfl ?_
      refine AOp.store1 (b := ?b8) rfl rfl rfl ?hn8 ?hk8 rfl rfl ?hl8 ?hR8
      (case hn8 => exact hpA)
      (case hk8 => rfl)
      (case hl8 => first | (simp; done) | exact Nat.le_of_ble_eq_true rfl)
      refine aOps_end ?_
      show ACode _ _ _ _ _ _
      refine ACode.seq ?_
      refine ACode.seq ?_
      have hcr : takeCr gN cols r = (⟨2, [], 0, (takeRows cols r.fix1.2).1, pD0, 0, 0⟩, (takeRows cols r.fix1.2).2) := by unfold takeCr cmK; rw [if_neg (show ¬ r.fix1.1 = 1 by omega), if_pos (show r.fix1.1 = 2 by omega)]
      have hbe : (takeRows cols r.fix1.2).2.bs.length = bs.length := by rw [show (takeRows cols r.fix1.2).2.bs = r.bs from (takeRows_ok cols hfx.1).2.2.trans hfb]; exact hbl2
      have hRe := fun y => hRw.away (x := y) hnk (by first | rw [hbe]; exact hAk | exact hAk) hbw (by show (44 : Nat) ≠ 101; decide)
      have hSe : Ab.Sub H HLw := hSw
      refine ACode.region' [0, 1, 2, 3, 4, 5, 6] (by kernel_rfl) rfl ?_
      refine aOps_1 rfl rfl rfl (AOp.move' (.inl rfl) rfl ?_)
      refine aOps_q rfl rfl rfl (AOp.call' rfl rfl rfl (nend _ _ ((upd_other _ _ (by omega)).trans h2w) n dn Bn _ (takeRows cols r.fix1.2).2 (hRe _)) (fun _ _ _ h => h)) (fun kq hkq => ?_)
      refine aOps_1 rfl rfl rfl (AOp.move' (.inl rfl) rfl ?_)
      refine aOps_1 rfl rfl rfl (AOp.extract' rfl rfl rfl ?_)
      refine aOps_1 rfl rfl rfl (AOp.extract' rfl rfl rfl ?_)
      refine aOps_1 rfl rfl rfl (AOp.move' (.inr rfl) rfl ?_)
      refine aOps_1 rfl rfl rfl (AOp.move' (.inr rfl) rfl ?_)
      refine aOps_end ?_
      show ACode _ _ _ _ _ _
      refine ACode.seq ?_
      refine ACode.region' [0, 1] (by kernel_rfl) rfl ?_
      refine aOps_1 rfl rfl rfl (AOp.move' (.inl rfl) rfl ?_)
      refine aOps_1 rfl rfl rfl (AOp.bin' rfl rfl rfl rfl ?_)
      refine aOps_end ?_
      show ACode _ _ _ _ _ _
      refine ACode.cond rfl (fun c5 => ?_) (fun c5 => ?_)
      · try simp only [decide_eq_true_eq, decide_eq_false_iff_not, beq_iff_eq, beq_eq_false_iff_ne, ne_eq, bne_iff_ne, Bool.not_eq_true', Bool.not_eq_false', Int.not_lt, Int.not_le, gt_iff_lt, ge_iff_le, bne_eq_false_iff_eq, Bool.not_eq_eq_eq_not, Bool.not_true, Bool.not_false] at c5
        refine ACode.seq ?_
        refine ACode.region' [0, 1, 2, 3, 4, 5] (by kernel_rfl) rfl ?_
        refine aOps_1 rfl rfl rfl (AOp.buildS (cells := #[_, _, _, _, _, _, _, _, _, _]) rfl rfl rfl ?_)
        refine aOps_1 rfl rfl rfl (AOp.move' (.inl rfl) rfl ?_)
        refine aOps_1 rfl rfl rfl (AOp.move' (.inl rfl) rfl ?_)
        refine aOps_0 rfl rfl rfl ?_
        refine AOp.storeAll (b := ?b9) rfl rfl rfl ?hn9 ?hk9 rfl ?hw9 ?ho9 ?hl9 ?hR9
        (case hn9 => exact hpA)
        (case hk9 => rfl)
        (case hw9 => first | rfl | (simp; done))
        (case ho9 => first | rfl | decide | (simp; done))
        (case hl9 => first | rfl | (simp; done))
        refine aOps_1 rfl rfl rfl (AOp.move' (.inr rfl) rfl ?_)
        refine aOps_1 rfl rfl rfl (AOp.move' (.inr rfl) rfl ?_)
        try rw [rd_upd2]
        refine aOps_end ?_
        show ACode _ _ _ _ _ _
        refine ACode.ret ?_
        try simp only [thenA, blockA, if_true]
        have e1 : takeC cols bs = (cmD 0, (takeRows cols r.fix1.2).2.end_.1, (takeRows cols r.fix1.2).2.end_.2) := by rw [← takeC_n, ← hr]; unfold ansC; rw [hcr]; exact if_pos c5
        rw [e1]
        exact RetQ.cell3 rfl rfl (aloadAll (b := cmblk 0 NIL 0 NIL 0 0 NIL NIL 0 0) (v := cmv 0 NIL 0 NIL 0 0 NIL NIL 0 0) (upd_same _ _ _) rfl rfl rfl) rfl rfl (sub_refl _) (fun m b h => ⟨b, sub_new hSe hHk m b h⟩) (fun hk => ⟨_, rfl, CmV.zero 0, by omega, (fun m hm => (upd_other _ _ (by omega)).trans (hfLw m (by omega))), sub_new hSe hHk⟩)
      · try simp only [decide_eq_true_eq, decide_eq_false_iff_not, beq_iff_eq, beq_eq_false_iff_ne, ne_eq, bne_iff_ne, Bool.not_eq_true', Bool.not_eq_false', Int.not_lt, Int.not_le, gt_iff_lt, ge_iff_le, bne_eq_false_iff_eq, Bool.not_eq_eq_eq_not, Bool.not_true, Bool.not_false] at c5
        refine ACode.skip ?_
        show ACode _ _ _ _ _ _
        refine ACode.seq ?_
        refine ACode.region' [0, 1, 2, 3] (by kernel_rfl) rfl ?_
        refine aOps_1 rfl rfl rfl ?_
        refine AOp.loadAll (b := ?b10) (v := cmv 2 NIL 0 (.slice Aw ws.length cw) 0 0 NIL NIL 0 0) rfl rfl ?hn10 ?hv10 ?hw10 ?hz10 ?hR10
        (case hn10 => exact hpA)
        (case hv10 => rfl)
        (case hw10 => rfl)
        (case hz10 => first | rfl | (simp; done))
        refine aOps_0 rfl rfl rfl ?_
        refine AOp.storeAll (b := ?b11) rfl rfl rfl ?hn11 ?hk11 rfl ?hw11 ?ho11 ?hl11 ?hR11
        (case hn11 => exact hpA)
        (case hk11 => rfl)
        (case hw11 => first | rfl | (simp; done))
        (case ho11 => first | rfl | decide | (simp; done))
        (case hl11 => first | rfl | (simp; done))
        refine aOps_1 rfl rfl rfl (AOp.move' (.inr rfl) rfl ?_)
        refine aOps_1 rfl rfl rfl (AOp.move' (.inr rfl) rfl ?_)
        try rw [rd_upd2]
        refine aOps_end ?_
        show ACode _ _ _ _ _ _
        refine ACode.ret ?_
        try simp only [thenA, blockA, if_true]
        have e1 : takeC cols bs = (⟨2, [], 0, (takeRows cols r.fix1.2).1, pD0, 0, 0⟩, 0, 0) := by rw [← takeC_n, ← hr]; unfold ansC; rw [hcr]; exact if_neg (fun h => h c5)
        rw [e1]
        exact RetQ.cell3 rfl rfl (aloadAll (b := cmblk 2 NIL 0 (.slice Aw ws.length cw) 0 0 NIL NIL 0 0) (v := cmv 2 NIL 0 (.slice Aw ws.length cw) 0 0 NIL NIL 0 0) (upd_same _ _ _) rfl rfl rfl) rfl rfl (sub_refl _) (fun m b h => ⟨b, sub_new hSe hHk m b h⟩) (fun hk => ⟨_, rfl, CmV.mk (sch := []) SLC.nil (hw1.sub (cutH_upd (by omega))) (hw0.sub (cutH_upd (by omega))) PdV.zero, by omega, (fun m hm => (upd_other _ _ (by omega)).trans (hfLw m (by omega))), sub_new hSe hHk⟩)
    · try simp only [decide_eq_true_eq, decide_eq_false_iff_not, beq_iff_eq, beq_eq_false_iff_ne, ne_eq, bne_iff_ne, Bool.not_eq_true', Bool.not_eq_false', Int.not_lt, Int.not_le, gt_iff_lt, ge_iff_le, bne_eq_false_iff_eq, Bool.not_eq_eq_eq_not, Bool.not_true, Bool.not_false] at c1
      refine ACode.seq ?_
      refine ACode.region' [0, 1] (by kernel_rfl) rfl ?_
      refine aOps_1 rfl rfl rfl (AOp.bin' rfl rfl rfl rfl ?_)
      refine aOps_1 rfl rfl rfl (AOp.move' (.inr rfl) rfl ?_)
      refine aOps_end ?_
      show ACode _ _ _ _ _ _
      refine ACode.cond rfl (fun c2 => ?_) (fun c2 => ?_)
      · try simp only [decide_eq_true_eq, decide_eq_false_iff_not, beq_iff_eq, beq_eq_false_iff_ne, ne_eq, bne_iff_ne, Bool.not_eq_true', Bool.not_eq_false', Int.not_lt, Int.not_le, gt_iff_lt, ge_iff_le, bne_eq_false_iff_eq, Bool.not_eq_eq_eq_not, Bool.not_true, Bool.not_false] at c2
        rw [c2]
        refine ACode.region' [0, 1, 2, 3] (by kernel_rfl) rfl ?_
        refine aOps_1 rfl rfl rfl (AOp.move' (.inl rfl) rfl ?_)
        refine aOps_1 rfl rfl rfl ?_
        refine AOp.call' rfl rfl rfl (ntakePr _ _ ((upd_other _ _ (by omega)).trans h2x) n dn Bn evx r.fix1.2 (hRy _)) ?_
        rintro vp HLp kp ⟨hVp, hPp⟩
        have hkp := hPp.1
        have hfLp := hPp.2.1
        have hsLp := hPp.2.2.1
        have hPpb := hPp
        obtain ⟨evp, hRp⟩ := hPpb.2.2.2
        have hnp := hRp.hn
        have thsLp := SubS.of hsLp
        have hbp : HLp k = some (cmblk 3 NIL 0 NIL 0 0 NIL NIL 0 0) := hsLp _ _ ((upd_other _ _ hkn).trans (upd_same _ _ _))
        have hSp : Ab.Sub H HLp := sub_past (sub_new hSx hHk) hHn hsLp
        have h2p := hSp _ _ h2
        obtain ⟨xo, xc, xA, xl, xcc, xB, xm, xd, rfl⟩ := hVp.form
        refine aOps_1 rfl rfl rfl (AOp.fieldAddr' rfl (by decide) rfl ?_)
        refine aOps_0 rfl rfl rfl ?_
        refine AOp.storeN (b := ?b12) rfl rfl rfl ?hn12 ?hk12 rfl ?ho12 ?hl12 ?hR12
        (case hn12 => exact hpA)
        (case hk12 => rfl)
        (case ho12 => first | rfl | decide | (simp; done) | (simp [Value.oneCell']; done))
        (case hl12 => simp)
        refine aOps_end ?_
        show ACode _ _ _ _ _ _
        refine ACode.seq ?_
        refine ACode.seq ?_
        have hcr : takeCr gN cols r = (⟨3, [], 0, [], (takePr r.fix1.2).1, 0, 0⟩, (takePr r.fix1.2).2) := by unfold takeCr cmK; rw [if_neg (show ¬ r.fix1.1 = 1 by omega), if_neg (show ¬ r.fix1.1 = 2 by omega), if_pos (show r.fix1.1 = 3 by omega)]
        have hbe : (takePr r.fix1.2).2.bs.length = bs.length := by rw [show (takePr r.fix1.2).2.bs = r.bs from (takeP_bs 32 _).trans hfb]; exact hbl2
        have hRe := fun y => hRp.away (x := y) hnk (by first | rw [hbe]; exact hAk | exact hAk) hbp (by show (44 : Nat) ≠ 101; decide)
        have hSe : Ab.Sub H HLp := hSp
        refine ACode.region' [0, 1, 2, 3, 4, 5, 6] (by kernel_rfl) rfl ?_
        refine aOps_1 rfl rfl rfl (AOp.move' (.inl rfl) rfl ?_)
        refine aOps_q rfl rfl rfl (AOp.call' rfl rfl rfl (nend _ _ ((upd_other _ _ (by omega)).trans h2p) n dn Bn _ (takePr r.fix1.2).2 (hRe _)) (fun _ _ _ h => h)) (fun kq hkq => ?_)
        refine aOps_1 rfl rfl rfl (AOp.move' (.inl rfl) rfl ?_)
        refine aOps_1 rfl rfl rfl (AOp.extract' rfl rfl rfl ?_)
        refine aOps_1 rfl rfl rfl (AOp.extract' rfl rfl rfl ?_)
        refine aOps_1 rfl rfl rfl (AOp.move' (.inr rfl) rfl ?_)
        refine aOps_1 rfl rfl rfl (AOp.move' (.inr rfl) rfl ?_)
        refine aOps_end ?_
        show ACode _ _ _ _ _ _
        refine ACode.seq ?_
        refine ACode.region' [0, 1] (by kernel_rfl) rfl ?_
        refine aOps_1 rfl rfl rfl (AOp.move' (.inl rfl) rfl ?_)
        refine aOps_1 rfl rfl rfl (AOp.bin' rfl rfl rfl rfl ?_)
        refine aOps_end ?_
        show ACode _ _ _ _ _ _
        refine ACode.cond rfl (fun c5 => ?_) (fun c5 => ?_)
        · try simp only [decide_eq_true_eq, decide_eq_false_iff_not, beq_iff_eq, beq_eq_false_iff_ne, ne_eq, bne_iff_ne, Bool.not_eq_true', Bool.not_eq_false', Int.not_lt, Int.not_le, gt_iff_lt, ge_iff_le, bne_eq_false_iff_eq, Bool.not_eq_eq_eq_not, Bool.not_true, Bool.not_false] at c5
          refine ACode.seq ?_
          refine ACode.region' [0, 1, 2, 3, 4, 5] (by kernel_rfl) rfl ?_
          refine aOps_1 rfl rfl rfl (AOp.buildS (cells := #[_, _, _, _, _, _, _, _, _, _]) rfl rfl rfl ?_)
          refine aOps_1 rfl rfl rfl (AOp.move' (.inl rfl) rfl ?_)
          refine aOps_1 rfl rfl rfl (AOp.move' (.inl rfl) rfl ?_)
          refine aOps_0 rfl rfl rfl ?_
          refine AOp.storeAll (b := ?b13) rfl rfl rfl ?hn13 ?hk13 rfl ?hw13 ?ho13 ?hl13 ?hR13
          (case hn13 => exact hpA)
          (case hk13 => rfl)
          (case hw13 => first | rfl | (simp; done))
          (case ho13 => first | rfl | decide | (simp; done))
          (case hl13 => first | rfl | (simp; done))
          refine aOps_1 rfl rfl rfl (AOp.move' (.inr rfl) rfl ?_)
          refine aOps_1 rfl rfl rfl (AOp.move' (.inr rfl) rfl ?_)
          try rw [rd_upd2]
          refine aOps_end ?_
          show ACode _ _ _ _ _ _
          refine ACode.ret ?_
          try simp only [thenA, blockA, if_true]
          have e1 : takeC cols bs = (cmD 0, (takePr r.fix1.2).2.end_.1, (takePr r.fix1.2).2.end_.2) := by rw [← takeC_n, ← hr]; unfold ansC; rw [hcr]; exact if_pos c5
          rw [e1]
          exact RetQ.cell3 rfl rfl (aloadAll (b := cmblk 0 NIL 0 NIL 0 0 NIL NIL 0 0) (v := cmv 0 NIL 0 NIL 0 0 NIL NIL 0 0) (upd_same _ _ _) rfl rfl rfl) rfl rfl (sub_refl _) (fun m b h => ⟨b, sub_new hSe hHk m b h⟩) (fun hk => ⟨_, rfl, CmV.zero 0, by omega, (fun m hm => (upd_other _ _ (by omega)).trans (hfLp m (by omega))), sub_new hSe hHk⟩)
        · try simp only [decide_eq_true_eq, decide_eq_false_iff_not, beq_iff_eq, beq_eq_false_iff_ne, ne_eq, bne_iff_ne, Bool.not_eq_true', Bool.not_eq_false', Int.not_lt, Int.not_le, gt_iff_lt, ge_iff_le, bne_eq_false_iff_eq, Bool.not_eq_eq_eq_not, Bool.not_true, Bool.not_false] at c5
          refine ACode.skip ?_
          show ACode _ _ _ _ _ _
          refine ACode.seq ?_
          refine ACode.region' [0, 1, 2, 3] (by kernel_rfl) rfl ?_
          refine aOps_1 rfl rfl rfl ?_
          refine AOp.loadAll (b := ?b14) (v := cmv 3 NIL 0 NIL xo xc (.slice xA xl xcc) (.slice xB xm xd) 0 0) rfl rfl ?hn14 ?hv14 ?hw14 ?hz14 ?hR14
          (case hn14 => exact hpA)
          (case hv14 => rfl)
          (case hw14 => rfl)
          (case hz14 => first | rfl | (simp; done))
          refine aOps_0 rfl rfl rfl ?_
          refine AOp.storeAll (b := ?b15) rfl rfl rfl ?hn15 ?hk15 rfl ?hw15 ?ho15 ?hl15 ?hR15
          (case hn15 => exact hpA)
          (case hk15 => rfl)
          (case hw15 => first | rfl | (simp; done))
          (case ho15 => first | rfl | decide | (simp; done))
          (case hl15 => first | rfl | (simp; done))
          refine aOps_1 rfl rfl rfl (AOp.move' (.inr rfl) rfl ?_)
          refine aOps_1 rfl rfl rfl (AOp.move' (.inr rfl) rfl ?_)
          try rw [rd_upd2]
          refine aOps_end ?_
          show ACode _ _ _ _ _ _
          refine ACode.ret ?_
          try simp only [thenA, blockA, if_true]
          have e1 : takeC cols bs = (⟨3, [], 0, [], (takePr r.fix1.2).1, 0, 0⟩, 0, 0) := by rw [← takeC_n, ← hr]; unfold ansC; rw [hcr]; exact if_neg (fun h => h c5)
          rw [e1]
          exact RetQ.cell3 rfl rfl (aloadAll (b := cmblk 3 NIL 0 NIL xo xc (.slice xA xl xcc) (.slice xB xm xd) 0 0) (v := cmv 3 NIL 0 NIL xo xc (.slice xA xl xcc) (.slice xB xm xd) 0 0) (upd_same _ _ _) rfl rfl rfl) rfl rfl (sub_refl _) (fun m b h => ⟨b, sub_new hSe hHk m b h⟩) (fun hk => ⟨_, rfl, CmV.mk (sch := []) (ws := []) SLC.nil SLC.nil Rws.nil (hVp.sub (cutH_upd (by omega))), by omega, (fun m hm => (upd_other _ _ (by omega)).trans (hfLp m (by omega))), sub_new hSe hHk⟩)
      · try simp only [decide_eq_true_eq, decide_eq_false_iff_not, beq_iff_eq, beq_eq_false_iff_ne, ne_eq, bne_iff_ne, Bool.not_eq_true', Bool.not_eq_false', Int.not_lt, Int.not_le, gt_iff_lt, ge_iff_le, bne_eq_false_iff_eq, Bool.not_eq_eq_eq_not, Bool.not_true, Bool.not_false] at c2
        refine ACode.seq ?_
        refine ACode.region' [0, 1] (by kernel_rfl) rfl ?_
        refine aOps_1 rfl rfl rfl (AOp.bin' rfl rfl rfl rfl ?_)
        refine aOps_1 rfl rfl rfl (AOp.move' (.inr rfl) rfl ?_)
        refine aOps_end ?_
        show ACode _ _ _ _ _ _
        refine ACode.cond rfl (fun c3 => ?_) (fun c3 => ?_)
        · try simp only [decide_eq_true_eq, decide_eq_false_iff_not, beq_iff_eq, beq_eq_false_iff_ne, ne_eq, bne_iff_ne, Bool.not_eq_true', Bool.not_eq_false', Int.not_lt, Int.not_le, gt_iff_lt, ge_iff_le, bne_eq_false_iff_eq, Bool.not_eq_eq_eq_not, Bool.not_true, Bool.not_false] at c3
          rw [c3]
          refine ACode.skip ?_
          show ACode _ _ _ _ _ _
          refine ACode.seq ?_
          refine ACode.seq ?_
          have hcr : takeCr gN cols r = (cmD 4, r.fix1.2) := by unfold takeCr cmK; rw [if_neg (show ¬ r.fix1.1 = 1 by omega), if_neg (show ¬ r.fix1.1 = 2 by omega), if_neg (show ¬ r.fix1.1 = 3 by omega), if_pos (show r.fix1.1 = 4 by omega)]
          have hbe : r.fix1.2.bs.length = bs.length := by rw [show r.fix1.2.bs = r.bs from hfb]; exact hbl2
          have hRe := fun y => hRx.away (x := y) hnk (by first | rw [hbe]; exact hAk | exact hAk) hbx (by show (44 : Nat) ≠ 101; decide)
          have hSe : Ab.Sub H HLx := hSx
          refine ACode.region' [0, 1, 2, 3, 4, 5, 6] (by kernel_rfl) rfl ?_
          refine aOps_1 rfl rfl rfl (AOp.move' (.inl rfl) rfl ?_)
          refine aOps_q rfl rfl rfl (AOp.call' rfl rfl rfl (nend _ _ ((upd_other _ _ (by omega)).trans h2x) n dn Bn _ r.fix1.2 (hRe _)) (fun _ _ _ h => h)) (fun kq hkq => ?_)
          refine aOps_1 rfl rfl rfl (AOp.move' (.inl rfl) rfl ?_)
          refine aOps_1 rfl rfl rfl (AOp.extract' rfl rfl rfl ?_)
          refine aOps_1 rfl rfl rfl (AOp.extract' rfl rfl rfl ?_)
          refine aOps_1 rfl rfl rfl (AOp.move' (.inr rfl) rfl ?_)
          refine aOps_1 rfl rfl rfl (AOp.move' (.inr rfl) rfl ?_)
          refine aOps_end ?_
          show ACode _ _ _ _ _ _
          refine ACode.seq ?_
          refine ACode.region' [0, 1] (by kernel_rfl) rfl ?_
          refine aOps_1 rfl rfl rfl (AOp.move' (.inl rfl) rfl ?_)
          refine aOps_1 rfl rfl rfl (AOp.bin' rfl rfl rfl rfl ?_)
          refine aOps_end ?_
          show ACode _ _ _ _ _ _
          refine ACode.cond rfl (fun c5 => ?_) (fun c5 => ?_)
          · try simp only [decide_eq_true_eq, decide_eq_false_iff_not, beq_iff_eq, beq_eq_false_iff_ne, ne_eq, bne_iff_ne, Bool.not_eq_true', Bool.not_eq_false', Int.not_lt, Int.not_le, gt_iff_lt, ge_iff_le, bne_eq_false_iff_eq, Bool.not_eq_eq_eq_not, Bool.not_true, Bool.not_false] at c5
            refine ACode.seq ?_
            refine ACode.region' [0, 1, 2, 3, 4, 5] (by kernel_rfl) rfl ?_
            refine aOps_1 rfl rfl rfl (AOp.buildS (cells := #[_, _, _, _, _, _, _, _, _, _]) rfl rfl rfl ?_)
            refine aOps_1 rfl rfl rfl (AOp.move' (.inl rfl) rfl ?_)
            refine aOps_1 rfl rfl rfl (AOp.move' (.inl rfl) rfl ?_)
            refine aOps_0 rfl rfl rfl ?_
            refine AOp.storeAll (b := ?b16) rfl rfl rfl ?hn16 ?hk16 rfl ?hw16 ?ho16 ?hl16 ?hR16
            (case hn16 => exact hpA)
            (case hk16 => rfl)
            (case hw16 => first | rfl | (simp; done))
            (case ho16 => first | rfl | decide | (simp; done))
            (case hl16 => first | rfl | (simp; done))
            refine aOps_1 rfl rfl rfl (AOp.move' (.inr rfl) rfl ?_)
            refine aOps_1 rfl rfl rfl (AOp.move' (.inr rfl) rfl ?_)
            try rw [rd_upd2]
            refine aOps_end ?_
            show ACode _ _ _ _ _ _
            refine ACode.ret ?_
            try simp only [thenA, blockA, if_true]
            have e1 : takeC cols bs = (cmD 0, r.fix1.2.end_.1, r.fix1.2.end_.2) := by rw [← takeC_n, ← hr]; unfold ansC; rw [hcr]; exact if_pos c5
            rw [e1]
            exact RetQ.cell3 rfl rfl (aloadAll (b := cmblk 0 NIL 0 NIL 0 0 NIL NIL 0 0) (v := cmv 0 NIL 0 NIL 0 0 NIL NIL 0 0) (upd_same _ _ _) rfl rfl rfl) rfl rfl (sub_refl _) (fun m b h => ⟨b, sub_new hSe hHk m b h⟩) (fun hk => ⟨_, rfl, CmV.zero 0, by omega, (fun m hm => (upd_other _ _ (by omega)).trans (hfLx m (by omega))), sub_new hSe hHk⟩)
          · try simp only [decide_eq_true_eq, decide_eq_false_iff_not, beq_iff_eq, beq_eq_false_iff_ne, ne_eq, bne_iff_ne, Bool.not_eq_true', Bool.not_eq_false', Int.not_lt, Int.not_le, gt_iff_lt, ge_iff_le, bne_eq_false_iff_eq, Bool.not_eq_eq_eq_not, Bool.not_true, Bool.not_false] at c5
            refine ACode.skip ?_
            show ACode _ _ _ _ _ _
            refine ACode.seq ?_
            refine ACode.region' [0, 1, 2, 3] (by kernel_rfl) rfl ?_
            refine aOps_1 rfl rfl rfl ?_
            refine AOp.loadAll (b := ?b17) (v := cmv 4 NIL 0 NIL 0 0 NIL NIL 0 0) rfl rfl ?hn17 ?hv17 ?hw17 ?hz17 ?hR17
            (case hn17 => exact hpA)
            (case hv17 => rfl)
            (case hw17 => rfl)
            (case hz17 => first | rfl | (simp; done))
            refine aOps_0 rfl rfl rfl ?_
            refine AOp.storeAll (b := ?b18) rfl rfl rfl ?hn18 ?hk18 rfl ?hw18 ?ho18 ?hl18 ?hR18
            (case hn18 => exact hpA)
            (case hk18 => rfl)
            (case hw18 => first | rfl | (simp; done))
            (case ho18 => first | rfl | decide | (simp; done))
            (case hl18 => first | rfl | (simp; done))
            refine aOps_1 rfl rfl rfl (AOp.move' (.inr rfl) rfl ?_)
            refine aOps_1 rfl rfl rfl (AOp.move' (.inr rfl) rfl ?_)
            try rw [rd_upd2]
            refine aOps_end ?_
            show ACode _ _ _ _ _ _
            refine ACode.ret ?_
            try simp only [thenA, blockA, if_true]
            have e1 : takeC cols bs = (cmD 4, 0, 0) := by rw [← takeC_n, ← hr]; unfold ansC; rw [hcr]; exact if_neg (fun h => h c5)
            rw [e1]
            exact RetQ.cell3 rfl rfl (aloadAll (b := cmblk 4 NIL 0 NIL 0 0 NIL NIL 0 0) (v := cmv 4 NIL 0 NIL 0 0 NIL NIL 0 0) (upd_same _ _ _) rfl rfl rfl) rfl rfl (sub_refl _) (fun m b h => ⟨b, sub_new hSe hHk m b h⟩) (fun hk => ⟨_, rfl, CmV.zero 4, by omega, (fun m hm => (upd_other _ _ (by omega)).trans (hfLx m (by omega))), sub_new hSe hHk⟩)
        · try simp only [decide_eq_true_eq, decide_eq_false_iff_not, beq_iff_eq, beq_eq_false_iff_ne, ne_eq, bne_iff_ne, Bool.not_eq_true', Bool.not_eq_false', Int.not_lt, Int.not_le, gt_iff_lt, ge_iff_le, bne_eq_false_iff_eq, Bool.not_eq_eq_eq_not, Bool.not_true, Bool.not_false] at c3
          refine ACode.seq ?_
          refine ACode.region' [0, 1] (by kernel_rfl) rfl ?_
          refine aOps_1 rfl rfl rfl (AOp.bin' rfl rfl rfl rfl ?_)
          refine aOps_1 rfl rfl rfl (AOp.move' (.inr rfl) rfl ?_)
          refine aOps_end ?_
          show ACode _ _ _ _ _ _
          refine ACode.cond rfl (fun c4 => ?_) (fun c4 => ?_)
          · try simp only [decide_eq_true_eq, decide_eq_false_iff_not, beq_iff_eq, beq_eq_false_iff_ne, ne_eq, bne_iff_ne, Bool.not_eq_true', Bool.not_eq_false', Int.not_lt, Int.not_le, gt_iff_lt, ge_iff_le, bne_eq_false_iff_eq, Bool.not_eq_eq_eq_not, Bool.not_true, Bool.not_false] at c4
            rw [c4]
            refine ACode.region' [0, 1, 2, 3, 4, 5, 6, 7] (by kernel_rfl) rfl ?_
            refine aOps_1 rfl rfl rfl (AOp.move' (.inl rfl) rfl ?_)
            refine aOps_1 rfl rfl rfl ?_
            refine AOp.call' rfl rfl rfl (nnumber _ _ n dn Bn evx r.fix1.2 (hRy _)) ?_
            rintro _ HLu ku ⟨rfl, hPu⟩
            have hku := hPu.1
            have hfLu := hPu.2.1
            have hsLu := hPu.2.2.1
            have hPub := hPu
            obtain ⟨evu, hRu⟩ := hPub.2.2.2
            have hnu := hRu.hn
            have thsLu := SubS.of hsLu
            have hbu : HLu k = some (cmblk 5 NIL 0 NIL 0 0 NIL NIL 0 0) := hsLu _ _ ((upd_other _ _ hkn).trans (upd_same _ _ _))
            have hSu : Ab.Sub H HLu := sub_past (sub_new hSx hHk) hHn hsLu
            have h2u := hSu _ _ h2
            refine aOps_1 rfl rfl rfl (AOp.move' (.inl rfl) rfl ?_)
            refine aOps_1 rfl rfl rfl ?_
            refine AOp.call' rfl rfl rfl (nnumber _ _ n dn Bn evu (numR r.fix1.2).2 hRu) ?_
            rintro _ HLv kv ⟨rfl, hPv⟩
            have hkv := hPv.1
            have hfLv := hPv.2.1
            have hsLv := hPv.2.2.1
            have hPvb := hPv
            obtain ⟨evv, hRv⟩ := hPvb.2.2.2
            have hnv := hRv.hn
            have thsLv := SubS.of hsLv
            have hbv : HLv k = some (cmblk 5 NIL 0 NIL 0 0 NIL NIL 0 0) := hsLv _ _ ((upd_other _ _ hkn).trans hbu)
            have hSv : Ab.Sub H HLv := sub_past hSu hHn hsLv
            have h2v := hSv _ _ h2
            refine aOps_1 rfl rfl rfl (AOp.fieldAddr' rfl (by decide) rfl ?_)
            refine aOps_0 rfl rfl rfl ?_
            refine AOp.store1 (b := ?b19) rfl rfl rfl ?hn19 ?hk19 rfl rfl ?hl19 ?hR19
            (case hn19 => exact hpA)
            (case hk19 => rfl)
            (case hl19 => first | (simp; done) | exact Nat.le_of_ble_eq_true rfl)
            refine aOps_1 rfl rfl rfl (AOp.fieldAddr' rfl (by decide) rfl ?_)
            refine aOps_0 rfl rfl rfl ?_
            refine AOp.store1 (b := ?b20) rfl rfl rfl ?hn20 ?hk20 rfl rfl ?hl20 ?hR20
            (case hn20 => exact hpA)
            (case hk20 => rfl)
            (case hl20 => first | (simp; done) | exact Nat.le_of_ble_eq_true rfl)
            rw [rd_upd2]
            refine aOps_end ?_
            show ACode _ _ _ _ _ _
            refine ACode.seq ?_
            refine ACode.seq ?_
            have hcr : takeCr gN cols r = (⟨5, [], 0, [], pD0, gN (numR r.fix1.2).1, gN (numR (numR r.fix1.2).2).1⟩, (numR (numR r.fix1.2).2).2) := by unfold takeCr cmK; rw [if_neg (show ¬ r.fix1.1 = 1 by omega), if_neg (show ¬ r.fix1.1 = 2 by omega), if_neg (show ¬ r.fix1.1 = 3 by omega), if_neg (show ¬ r.fix1.1 = 4 by omega), if_pos (show r.fix1.1 = 5 by omega)]
            have hbe : (numR (numR r.fix1.2).2).2.bs.length = bs.length := by rw [show (numR (numR r.fix1.2).2).2.bs = r.bs from (numR_bs _).trans ((numR_bs _).trans hfb)]; exact hbl2
            have hRe := fun y => hRv.away (x := y) hnk (by first | rw [hbe]; exact hAk | exact hAk) hbv (by show (44 : Nat) ≠ 101; decide)
            have hSe : Ab.Sub H HLv := hSv
            refine ACode.region' [0, 1, 2, 3, 4, 5, 6] (by kernel_rfl) rfl ?_
            refine aOps_1 rfl rfl rfl (AOp.move' (.inl rfl) rfl ?_)
            refine aOps_q rfl rfl rfl (AOp.call' rfl rfl rfl (nend _ _ ((upd_other _ _ (by omega)).trans h2v) n dn Bn _ (numR (numR r.fix1.2).2).2 (hRe _)) (fun _ _ _ h => h)) (fun kq hkq => ?_)
            refine aOps_1 rfl rfl rfl (AOp.move' (.inl rfl) rfl ?_)
            refine aOps_1 rfl rfl rfl (AOp.extract' rfl rfl rfl ?_)
            refine aOps_1 rfl rfl rfl (AOp.extract' rfl rfl rfl ?_)
            refine aOps_1 rfl rfl rfl (AOp.move' (.inr rfl) rfl ?_)
            refine aOps_1 rfl rfl rfl (AOp.move' (.inr rfl) rfl ?_)
            refine aOps_end ?_
            show ACode _ _ _ _ _ _
            refine ACode.seq ?_
            refine ACode.region' [0, 1] (by kernel_rfl) rfl ?_
            refine aOps_1 rfl rfl rfl (AOp.move' (.inl rfl) rfl ?_)
            refine aOps_1 rfl rfl rfl (AOp.bin' rfl rfl rfl rfl ?_)
            refine aOps_end ?_
            show ACode _ _ _ _ _ _
            refine ACode.cond rfl (fun c5 => ?_) (fun c5 => ?_)
            · try simp only [decide_eq_true_eq, decide_eq_false_iff_not, beq_iff_eq, beq_eq_false_iff_ne, ne_eq, bne_iff_ne, Bool.not_eq_true', Bool.not_eq_false', Int.not_lt, Int.not_le, gt_iff_lt, ge_iff_le, bne_eq_false_iff_eq, Bool.not_eq_eq_eq_not, Bool.not_true, Bool.not_false] at c5
              refine ACode.seq ?_
              refine ACode.region' [0, 1, 2, 3, 4, 5] (by kernel_rfl) rfl ?_
              refine aOps_1 rfl rfl rfl (AOp.buildS (cells := #[_, _, _, _, _, _, _, _, _, _]) rfl rfl rfl ?_)
              refine aOps_1 rfl rfl rfl (AOp.move' (.inl rfl) rfl ?_)
              refine aOps_1 rfl rfl rfl (AOp.move' (.inl rfl) rfl ?_)
              refine aOps_0 rfl rfl rfl ?_
              refine AOp.storeAll (b := ?b21) rfl rfl rfl ?hn21 ?hk21 rfl ?hw21 ?ho21 ?hl21 ?hR21
              (case hn21 => exact hpA)
              (case hk21 => rfl)
              (case hw21 => first | rfl | (simp; done))
              (case ho21 => first | rfl | decide | (simp; done))
              (case hl21 => first | rfl | (simp; done))
              refine aOps_1 rfl rfl rfl (AOp.move' (.inr rfl) rfl ?_)
              refine aOps_1 rfl rfl rfl (AOp.move' (.inr rfl) rfl ?_)
              try rw [rd_upd2]
              refine aOps_end ?_
              show ACode _ _ _ _ _ _
              refine ACode.ret ?_
              try simp only [thenA, blockA, if_true]
              have e1 : takeC cols bs = (cmD 0, (numR (numR r.fix1.2).2).2.end_.1, (numR (numR r.fix1.2).2).2.end_.2) := by rw [← takeC_n, ← hr]; unfold ansC; rw [hcr]; exact if_pos c5
              rw [e1]
              exact RetQ.cell3 rfl rfl (aloadAll (b := cmblk 0 NIL 0 NIL 0 0 NIL NIL 0 0) (v := cmv 0 NIL 0 NIL 0 0 NIL NIL 0 0) (upd_same _ _ _) rfl rfl rfl) rfl rfl (sub_refl _) (fun m b h => ⟨b, sub_new hSe hHk m b h⟩) (fun hk => ⟨_, rfl, CmV.zero 0, by omega, (fun m hm => (upd_other _ _ (by omega)).trans (hfLv m (by omega))), sub_new hSe hHk⟩)
            · try simp only [decide_eq_true_eq, decide_eq_false_iff_not, beq_iff_eq, beq_eq_false_iff_ne, ne_eq, bne_iff_ne, Bool.not_eq_true', Bool.not_eq_false', Int.not_lt, Int.not_le, gt_iff_lt, ge_iff_le, bne_eq_false_iff_eq, Bool.not_eq_eq_eq_not, Bool.not_true, Bool.not_false] at c5
              refine ACode.skip ?_
              show ACode _ _ _ _ _ _
              refine ACode.seq ?_
              refine ACode.region' [0, 1, 2, 3] (by kernel_rfl) rfl ?_
              refine aOps_1 rfl rfl rfl ?_
              refine AOp.loadAll (b := ?b22) (v := cmv 5 NIL 0 NIL 0 0 NIL NIL (gN (numR r.fix1.2).1) (gN (numR (numR r.fix1.2).2).1)) rfl rfl ?hn22 ?hv22 ?hw22 ?hz22 ?hR22
              (case hn22 => exact hpA)
              (case hv22 => rfl)
              (case hw22 => rfl)
              (case hz22 => first | rfl | (simp; done))
              refine aOps_0 rfl rfl rfl ?_
              refine AOp.storeAll (b := ?b23) rfl rfl rfl ?hn23 ?hk23 rfl ?hw23 ?ho23 ?hl23 ?hR23
              (case hn23 => exact hpA)
              (case hk23 => rfl)
              (case hw23 => first | rfl | (simp; done))
              (case ho23 => first | rfl | decide | (simp; done))
              (case hl23 => first | rfl | (simp; done))
              refine aOps_1 rfl rfl rfl (AOp.move' (.inr rfl) rfl ?_)
              refine aOps_1 rfl rfl rfl (AOp.move' (.inr rfl) rfl ?_)
              try rw [rd_upd2]
              refine aOps_end ?_
              show ACode _ _ _ _ _ _
              refine ACode.ret ?_
              try simp only [thenA, blockA, if_true]
              have e1 : takeC cols bs = (⟨5, [], 0, [], pD0, gN (numR r.fix1.2).1, gN (numR (numR r.fix1.2).2).1⟩, 0, 0) := by rw [← takeC_n, ← hr]; unfold ansC; rw [hcr]; exact if_neg (fun h => h c5)
              rw [e1]
              exact RetQ.cell3 rfl rfl (aloadAll (b := cmblk 5 NIL 0 NIL 0 0 NIL NIL (gN (numR r.fix1.2).1) (gN (numR (numR r.fix1.2).2).1)) (v := cmv 5 NIL 0 NIL 0 0 NIL NIL (gN (numR r.fix1.2).1) (gN (numR (numR r.fix1.2).2).1)) (upd_same _ _ _) rfl rfl rfl) rfl rfl (sub_refl _) (fun m b h => ⟨b, sub_new hSe hHk m b h⟩) (fun hk => ⟨_, rfl, CmV.mk (sch := []) (ws := []) SLC.nil SLC.nil Rws.nil PdV.zero, by omega, (fun m hm => (upd_other _ _ (by omega)).trans (hfLv m (by omega))), sub_new hSe hHk⟩)
          · try simp only [decide_eq_true_eq, decide_eq_false_iff_not, beq_iff_eq, beq_eq_false_iff_ne, ne_eq, bne_iff_ne, Bool.not_eq_true', Bool.not_eq_false', Int.not_lt, Int.not_le, gt_iff_lt, ge_iff_le, bne_eq_false_iff_eq, Bool.not_eq_eq_eq_not, Bool.not_true, Bool.not_false] at c4
            refine ACode.region' [0, 1] (by kernel_rfl) rfl ?_
            refine aOps_1 rfl rfl rfl (AOp.move' (.inl rfl) rfl ?_)
            refine aOps_1 rfl rfl rfl ?_
            refine AOp.call' rfl rfl rfl (nfail _ _ n dn Bn evx r.fix1.2 (hRy _) 11 (by decide) (by decide)) ?_
            rintro _ HLf kf ⟨rfl, hPf⟩
            have hkf := hPf.1
            have hfLf := hPf.2.1
            have hsLf := hPf.2.2.1
            have hPfb := hPf
            obtain ⟨evf, hRf⟩ := hPfb.2.2.2
            have hnf := hRf.hn
            have thsLf := SubS.of hsLf
            have hbf : HLf k = some (cmblk (r.fix1.1 : Int) NIL 0 NIL 0 0 NIL NIL 0 0) := hsLf _ _ ((upd_other _ _ hkn).trans (upd_same _ _ _))
            have hSf : Ab.Sub H HLf := sub_past (sub_new hSx hHk) hHn hsLf
            have h2f := hSf _ _ h2
            refine aOps_end ?_
            show ACode _ _ _ _ _ _
            refine ACode.seq ?_
            refine ACode.seq ?_
            have hcr : takeCr gN cols r = (cmD (r.fix1.1 : Int), (r.fix1.2.fail 11)) := by unfold takeCr cmK; rw [if_neg (show ¬ r.fix1.1 = 1 by omega), if_neg (show ¬ r.fix1.1 = 2 by omega), if_neg (show ¬ r.fix1.1 = 3 by omega), if_neg (show ¬ r.fix1.1 = 4 by omega), if_neg (show ¬ r.fix1.1 = 5 by omega)]
            have hbe : (r.fix1.2.fail 11).bs.length = bs.length := by rw [show (r.fix1.2.fail 11).bs = r.bs from (Rd.fail_bs _ _).trans hfb]; exact hbl2
            have hRe := fun y => hRf.away (x := y) hnk (by first | rw [hbe]; exact hAk | exact hAk) hbf (by show (44 : Nat) ≠ 101; decide)
            have hSe : Ab.Sub H HLf := hSf
            have hRe := fun _ : Unit => hRf
            refine ACode.region' [0, 1, 2, 3, 4, 5, 6] (by kernel_rfl) rfl ?_
            refine aOps_1 rfl rfl rfl (AOp.move' (.inl rfl) rfl ?_)
            refine aOps_q rfl rfl rfl (AOp.call' rfl rfl rfl (nend _ _ h2f n dn Bn _ (r.fix1.2.fail 11) (hRe ())) (fun _ _ _ h => h)) (fun kq hkq => ?_)
            refine aOps_1 rfl rfl rfl (AOp.move' (.inl rfl) rfl ?_)
            refine aOps_1 rfl rfl rfl (AOp.extract' rfl rfl rfl ?_)
            refine aOps_1 rfl rfl rfl (AOp.extract' rfl rfl rfl ?_)
            refine aOps_1 rfl rfl rfl (AOp.move' (.inr rfl) rfl ?_)
            refine aOps_1 rfl rfl rfl (AOp.move' (.inr rfl) rfl ?_)
            refine aOps_end ?_
            show ACode _ _ _ _ _ _
            refine ACode.seq ?_
            refine ACode.region' [0, 1] (by kernel_rfl) rfl ?_
            refine aOps_1 rfl rfl rfl (AOp.move' (.inl rfl) rfl ?_)
            refine aOps_1 rfl rfl rfl (AOp.bin' rfl rfl rfl rfl ?_)
            refine aOps_end ?_
            show ACode _ _ _ _ _ _
            refine ACode.cond rfl (fun c5 => ?_) (fun c5 => ?_)
            · try simp only [decide_eq_true_eq, decide_eq_false_iff_not, beq_iff_eq, beq_eq_false_iff_ne, ne_eq, bne_iff_ne, Bool.not_eq_true', Bool.not_eq_false', Int.not_lt, Int.not_le, gt_iff_lt, ge_iff_le, bne_eq_false_iff_eq, Bool.not_eq_eq_eq_not, Bool.not_true, Bool.not_false] at c5
              refine ACode.seq ?_
              refine ACode.region' [0, 1, 2, 3, 4, 5] (by kernel_rfl) rfl ?_
              refine aOps_1 rfl rfl rfl (AOp.buildS (cells := #[_, _, _, _, _, _, _, _, _, _]) rfl rfl rfl ?_)
              refine aOps_1 rfl rfl rfl (AOp.move' (.inl rfl) rfl ?_)
              refine aOps_1 rfl rfl rfl (AOp.move' (.inl rfl) rfl ?_)
              refine aOps_0 rfl rfl rfl ?_
              refine AOp.storeAll (b := ?b24) rfl rfl rfl ?hn24 ?hk24 rfl ?hw24 ?ho24 ?hl24 ?hR24
              (case hn24 => exact hpA)
              (case hk24 => rfl)
              (case hw24 => first | rfl | (simp; done))
              (case ho24 => first | rfl | decide | (simp; done))
              (case hl24 => first | rfl | (simp; done))
              refine aOps_1 rfl rfl rfl (AOp.move' (.inr rfl) rfl ?_)
              refine aOps_1 rfl rfl rfl (AOp.move' (.inr rfl) rfl ?_)
              try rw [rd_upd2]
              refine aOps_end ?_
              show ACode _ _ _ _ _ _
              refine ACode.ret ?_
              try simp only [thenA, blockA, if_true]
              have e1 : takeC cols bs = (cmD 0, (r.fix1.2.fail 11).end_.1, (r.fix1.2.fail 11).end_.2) := by rw [← takeC_n, ← hr]; unfold ansC; rw [hcr]; exact if_pos c5
              rw [e1]
              exact RetQ.cell3 rfl rfl (aloadAll (b := cmblk 0 NIL 0 NIL 0 0 NIL NIL 0 0) (v := cmv 0 NIL 0 NIL 0 0 NIL NIL 0 0) (upd_same _ _ _) rfl rfl rfl) rfl rfl (sub_refl _) (fun m b h => ⟨b, sub_new hSe hHk m b h⟩) (fun hk => ⟨_, rfl, CmV.zero 0, by omega, (fun m hm => (upd_other _ _ (by omega)).trans (hfLf m (by omega))), sub_new hSe hHk⟩)
            · try simp only [decide_eq_true_eq, decide_eq_false_iff_not, beq_iff_eq, beq_eq_false_iff_ne, ne_eq, bne_iff_ne, Bool.not_eq_true', Bool.not_eq_false', Int.not_lt, Int.not_le, gt_iff_lt, ge_iff_le, bne_eq_false_iff_eq, Bool.not_eq_eq_eq_not, Bool.not_true, Bool.not_false] at c5
              refine ACode.skip ?_
              show ACode _ _ _ _ _ _
              refine ACode.seq ?_
              refine ACode.region' [0, 1, 2, 3] (by kernel_rfl) rfl ?_
              refine aOps_1 rfl rfl rfl ?_
              refine AOp.loadAll (b := ?b25) (v := cmv (r.fix1.1 : Int) NIL 0 NIL 0 0 NIL NIL 0 0) rfl rfl ?hn25 ?hv25 ?hw25 ?hz25 ?hR25
              (case hn25 => exact hpA)
              (case hv25 => rfl)
              (case hw25 => rfl)
              (case hz25 => first | rfl | (simp; done))
              refine aOps_0 rfl rfl rfl ?_
              refine AOp.storeAll (b := ?b26) rfl rfl rfl ?hn26 ?hk26 rfl ?hw26 ?ho26 ?hl26 ?hR26
              (case hn26 => exact hpA)
              (case hk26 => rfl)
              (case hw26 => first | rfl | (simp; done))
              (case ho26 => first | rfl | decide | (simp; done))
              (case hl26 => first | rfl | (simp; done))
              refine aOps_1 rfl rfl rfl (AOp.move' (.inr rfl) rfl ?_)
              refine aOps_1 rfl rfl rfl (AOp.move' (.inr rfl) rfl ?_)
              try rw [rd_upd2]
              refine aOps_end ?_
              show ACode _ _ _ _ _ _
              refine ACode.ret ?_
              try simp only [thenA, blockA, if_true]
              have e1 : takeC cols bs = (cmD (r.fix1.1 : Int), 0, 0) := by rw [← takeC_n, ← hr]; unfold ansC; rw [hcr]; exact if_neg (fun h => h c5)
              rw [e1]
              exact RetQ.cell3 rfl rfl (aloadAll (b := cmblk (r.fix1.1 : Int) NIL 0 NIL 0 0 NIL NIL 0 0) (v := cmv (r.fix1.1 : Int) NIL 0 NIL 0 0 NIL NIL 0 0) (upd_same _ _ _) rfl rfl rfl) rfl rfl (sub_refl _) (fun m b h => ⟨b, sub_new hSe hHk m b h⟩) (fun hk => ⟨_, rfl, CmV.zero _, by omega, (fun m hm => (upd_other _ _ (by omega)).trans (hfLf m (by omega))), sub_new hSe hHk⟩)
end

end Go.Proofs.YteoofihjmldllaaDoor
