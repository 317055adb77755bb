/- Contracts over the abstract states: predicates out of the reference's readers. -/
import Derived.Test.YteoofihjmldllaaDoorR12
set_option linter.unusedVariables false
set_option linter.unusedSimpArgs false
set_option maxRecDepth 100000
namespace Go.Proofs.YteoofihjmldllaaDoor
open Go Go.Ab

section
variable (H : Hp) (k : Nat)

theorem rtakeP_0 (n c : Nat) (A : Option Addr) (r : Rd) (hR : RfN H n A c r) : ACalls Tryd.prog 3 40 [ptr n 0 none, .int .i64 32] H k (fun v H' k' => PdV (cutH H' k) (takeP 0 r).1 v ∧ RfP H k n A c (takeP 0 r).2 H' k') := by
  refine ACalls.fresh fun hf => ?_
  refine ACalls.body Tryd.func40 rfl (Nat.le_of_ble_eq_true rfl) ?_
  have hn := hR.hn
  have hnk := old_lt hf hn
  have hok := hR.ok
  have hal := hok.at_le
  have hle := hok.len
  have hk0 : (upd H n none) k = none := none_n (hf k (Nat.le_refl k))
  have hk1 : (upd H n none) (k + 1) = none := none_n (hf (k + 1) (Nat.le_succ k))
  have hAk : Away A r.bs.length k := Away.of hR.hs (hf k (Nat.le_refl k))
  refine ACode.seq ?_
  refine ACode.region' [0] (by kernel_rfl) rfl ?_
  refine aOps_1 rfl rfl rfl (AOp.alloc' rfl ?_)
  refine aOps_end ?_
  show ACode _ _ _ _ _ _
  refine ACode.seq ?_
  refine ACode.region' [0, 1, 2] (by kernel_rfl) rfl ?_
  refine aOps_1 rfl rfl rfl (AOp.buildS (cells := #[.int .i64 0, .int .i64 0, NIL, NIL]) rfl rfl rfl ?_)
  refine aOps_1 rfl rfl rfl (AOp.alloc' rfl ?_)
  refine aOps_0 rfl rfl rfl ?_
  refine AOp.storeAll (b := ?b1) rfl rfl rfl ?hn1 ?hk1 rfl ?hw1 ?ho1 ?hl1 ?hR1
  (case hn1 => exact hpA)
  (case hk1 => rfl)
  (case hw1 => first | rfl | (simp; done))
  (case ho1 => first | rfl | decide | (simp; done))
  (case hl1 => first | rfl | (simp; done))
  rw [rd_upd2]
  refine aOps_end ?_
  show ACode _ _ _ _ _ _
  refine ACode.seq ?_
  refine ACode.seq ?_
  refine ACode.region' [0, 1] (by kernel_rfl) rfl ?_
  refine aOps_1 rfl rfl rfl (AOp.move' (.inl rfl) rfl ?_)
  refine aOps_1 rfl rfl rfl (AOp.bin' rfl rfl rfl rfl ?_)
  refine aOps_end ?_
  show ACode _ _ _ _ _ _
  refine ACode.cond rfl (fun c0 => ?_) (fun c0 => absurd c0 (by simp))
  refine ACode.seq ?_
  refine ACode.region' [0, 1] (by kernel_rfl) rfl ?_
  refine aOps_1 rfl rfl rfl (AOp.move' (.inl rfl) rfl ?_)
  refine aOps_1 rfl rfl rfl ?_
  refine AOp.call' rfl rfl rfl (rfail _ _ n c A r (hR.sub subA) 18 (by decide) (by decide)) ?_
  rintro _ HLx kx ⟨rfl, hPx⟩
  have hkx := hPx.1
  have hfLx := hPx.2.1
  have hsLx := hPx.2.2.1
  have hRx := hPx.2.2.2
  have hnx := hRx.hn
  have thsLx := SubS.of hsLx
  have hb1 : HLx (k + 1) = some (pblk 0 0 NIL NIL) := hpA
  have hzx : HLx k = some (pblk 0 0 NIL NIL) := hpA
  have hS1 := sub_cutn (sub_new (sub_new (sub_drop (sub_refl H)) hk0) hk1) hsLx
  refine aOps_end ?_
  show ACode _ _ _ _ _ _
  refine ACode.seq ?_
  refine ACode.region' [0, 1] (by kernel_rfl) rfl ?_
  refine aOps_1 rfl rfl rfl ?_
  refine AOp.loadAll (b := ?b2) (v := pv 0 0 none 0 0 none 0 0) rfl rfl ?hn2 ?hv2 ?hw2 ?hz2 ?hR2
  (case hn2 => exact hpA)
  (case hv2 => rfl)
  (case hw2 => rfl)
  (case hz2 => first | rfl | (simp; done))
  refine aOps_0 rfl rfl rfl ?_
  refine AOp.storeAll (b := ?b3) rfl rfl rfl ?hn3 ?hk3 rfl ?hw3 ?ho3 ?hl3 ?hR3
  (case hn3 => exact hpA)
  (case hk3 => rfl)
  (case hw3 => first | rfl | (simp; done))
  (case ho3 => first | rfl | decide | (simp; done))
  (case hl3 => first | rfl | (simp; done))
  refine aOps_end ?_
  show ACode _ _ _ _ _ _
  refine ACode.ret ?_
  try simp only [thenA, blockA, if_true]
  have hRz : RfN (upd HLx k (some (pblk 0 0 NIL NIL))) n A c (r.fail 18) := hRx.away (by omega) (by rw [Rd.fail_bs]; exact hAk)
  have hPz : ∀ kz, kx ≤ kz → k ≤ kz → RfP H k n A c (r.fail 18) (upd HLx k (some (pblk 0 0 NIL NIL))) kz := fun kz h1 h3 => ⟨h3, (fun m hm => (upd_other _ _ (by omega)).trans (hfLx m (by omega))), sub_new hS1 hk0, hRz⟩
  exact RetQ.cell rfl rfl (aloadAll (b := pblk 0 0 NIL NIL) (v := pv 0 0 none 0 0 none 0 0) (upd_same _ _ _) rfl rfl rfl) (sub_refl _) (hPz (max kx k) (Nat.le_max_left _ _) (Nat.le_max_right _ _)).stays (fun hk => ⟨PdV.zero, hPz _ (by omega) (by omega)⟩)

theorem rtakeP (n c : Nat) (A : Option Addr) : ∀ (f deep : Nat), deep + f = 32 → ∀ (H : Hp) (k : Nat) (r : Rd), RfN H n A c r → ACalls Tryd.prog 3 40 [ptr n 0 none, .int .i64 (deep : Int)] H k (fun v H' k' => PdV (cutH H' k) (takeP f r).1 v ∧ RfP H k n A c (takeP f r).2 H' k')
  | 0, deep, hd, H, k, r, hR => by
    obtain rfl : deep = 32 := by omega
    exact rtakeP_0 H k n c A r hR
  | f + 1, deep, hd, H, k, r, hR => rtakeP_step H k f deep (by omega) n c A (fun H k r hR => rtakeP n c A f (deep + 1) (by omega) H k r hR) r hR

theorem rtakePr (n c : Nat) (A : Option Addr) (r : Rd) (hR : RfN H n A c r) : ACalls Tryd.prog 3 11 [ptr n 0 none] H k (fun v H' k' => PdV (cutH H' k) (takePr r).1 v ∧ RfP H k n A c (takePr r).2 H' k') := by
  refine ACalls.fresh fun hf => ?_
  refine ACalls.body Tryd.func11 rfl (Nat.le_of_ble_eq_true rfl) ?_
  have hn := hR.hn
  have hnk := old_lt hf hn
  have hok := hR.ok
  have hal := hok.at_le
  have hle := hok.len
  have hk0 : (upd H n none) k = none := none_n (hf k (Nat.le_refl k))
  have hAk : Away A r.bs.length k := Away.of hR.hs (hf k (Nat.le_refl k))
  refine ACode.seq ?_
  refine ACode.region' [0] (by kernel_rfl) rfl ?_
  refine aOps_1 rfl rfl rfl (AOp.alloc' rfl ?_)
  refine aOps_end ?_
  show ACode _ _ _ _ _ _
  refine ACode.seq ?_
  refine ACode.region' [0, 1, 2, 3] (by kernel_rfl) rfl ?_
  refine aOps_1 rfl rfl rfl (AOp.move' (.inl rfl) rfl ?_)
  refine aOps_1 rfl rfl rfl ?_
  refine AOp.call' rfl rfl rfl (rtakeP n c A 32 0 rfl _ _ r (hR.sub subA)) ?_
  rintro v HLx kx ⟨hV, hPx⟩
  have hkx := hPx.1
  have hfLx := hPx.2.1
  have hsLx := hPx.2.2.1
  have hRx := hPx.2.2.2
  have hnx := hRx.hn
  have thsLx := SubS.of hsLx
  obtain ⟨op, col, VA, vl, vc, VB, vm, vd, rfl⟩ := hV.form
  have hb1 : HLx k = some (pblk 0 0 NIL NIL) := hpA
  have hS1 := sub_cutn (sub_new (sub_drop (sub_refl H)) hk0) hsLx
  have hkx0 : HLx kx = none := hfLx kx (Nat.le_refl _)
  have hbx := takeP_bs 32 r
  have hAx : Away A r.bs.length kx := by have h := Away.of hRx.hs hkx0; rw [hbx] at h; exact h
  refine aOps_1 rfl rfl rfl (AOp.alloc' rfl ?_)
  refine aOps_0 rfl rfl rfl ?_
  refine AOp.storeAll (b := ?b4) rfl rfl rfl ?hn4 ?hk4 rfl ?hw4 ?ho4 ?hl4 ?hR4
  (case hn4 => exact hpA)
  (case hk4 => rfl)
  (case hw4 => first | rfl | (simp; done))
  (case ho4 => first | rfl | decide | (simp; done))
  (case hl4 => first | rfl | (simp; done))
  rw [rd_upd2]
  refine aOps_end ?_
  show ACode _ _ _ _ _ _
  refine ACode.seq ?_
  refine ACode.seq ?_
  refine ACode.region' [0, 1, 2, 3, 4] (by kernel_rfl) rfl ?_
  refine aOps_1 rfl rfl rfl (AOp.move' (.inl rfl) rfl ?_)
  refine aOps_1 rfl rfl rfl (AOp.nilCheck' rfl rfl ?_)
  refine aOps_1 rfl rfl rfl (AOp.fieldAddr' rfl (by decide) rfl ?_)
  refine aOps_1 rfl rfl rfl ?_
  refine AOp.load1 (b := ?b5) (v := ?v5) rfl rfl ?hn5 ?hv5 ?hR5
  (case hn5 => exact hpA)
  (case hv5 => rfl)
  refine aOps_1 rfl rfl rfl (AOp.bin' rfl rfl rfl rfl ?_)
  refine aOps_end ?_
  show ACode _ _ _ _ _ _
  refine ACode.cond rfl (fun c0 => ?_) (fun c0 => ?_)
  · try simp only [decide_eq_true_eq, decide_eq_false_iff_not, beq_iff_eq, beq_eq_false_iff_ne, ne_eq, bne_iff_ne, Bool.not_eq_true', Bool.not_eq_false', Int.not_lt, Int.not_le, gt_iff_lt, ge_iff_le, bne_eq_false_iff_eq, Bool.not_eq_eq_eq_not, Bool.not_true, Bool.not_false] at c0
    refine ACode.seq ?_
    refine ACode.region' [0, 1] (by kernel_rfl) rfl ?_
    refine aOps_1 rfl rfl rfl (AOp.buildS (cells := #[_, _, _, _]) rfl rfl rfl ?_)
    refine aOps_0 rfl rfl rfl ?_
    refine AOp.storeAll (b := ?b6) rfl rfl rfl ?hn6 ?hk6 rfl ?hw6 ?ho6 ?hl6 ?hR6
    (case hn6 => exact hpA)
    (case hk6 => rfl)
    (case hw6 => first | rfl | (simp; done))
    (case ho6 => first | rfl | decide | (simp; done))
    (case hl6 => first | rfl | (simp; done))
    refine aOps_end ?_
    show ACode _ _ _ _ _ _
    refine ACode.ret ?_
    try simp only [thenA, blockA, if_true]
    have e1 : takePr r = (pD0, (takeP 32 r).2) := by unfold takePr; rw [if_pos c0]
    rw [e1]
    have hPz : ∀ (w : Blk) kz, kx + 1 ≤ kz → k ≤ kz → RfP H k n A c (takeP 32 r).2 (upd (upd HLx kx (some (pblk op col (.slice VA vl vc) (.slice VB vm vd)))) k (some w)) kz := fun w kz h1 h3 => ⟨h3, (fun m hm => (upd_other _ _ (by omega)).trans ((upd_other _ _ (by omega)).trans (hfLx m (by omega)))), sub_new (sub_new hS1 (none_n (hf kx (by omega)))) hk0, (hRx.sub (sub_upd' (sub_refl _) hkx0)).away (by omega) (by rw [hbx]; exact hAk)⟩
    exact RetQ.cell rfl rfl (aloadAll (b := pblk 0 0 NIL NIL) (v := pv 0 0 none 0 0 none 0 0) (upd_same _ _ _) rfl rfl rfl) (sub_refl _) (hPz _ (max (kx + 1) k) (Nat.le_max_left _ _) (Nat.le_max_right _ _)).stays (fun hk => ⟨PdV.zero, hPz _ _ (by omega) (by omega)⟩)
  · try simp only [decide_eq_true_eq, decide_eq_false_iff_not, beq_iff_eq, beq_eq_false_iff_ne, ne_eq, bne_iff_ne, Bool.not_eq_true', Bool.not_eq_false', Int.not_lt, Int.not_le, gt_iff_lt, ge_iff_le, bne_eq_false_iff_eq, Bool.not_eq_eq_eq_not, Bool.not_true, Bool.not_false] at c0
    refine ACode.skip ?_
    show ACode _ _ _ _ _ _
    refine ACode.seq ?_
    refine ACode.region' [0, 1] (by kernel_rfl) rfl ?_
    refine aOps_1 rfl rfl rfl ?_
    refine AOp.loadAll (b := ?b7) (v := pv op col VA vl vc VB vm vd) rfl rfl ?hn7 ?hv7 ?hw7 ?hz7 ?hR7
    (case hn7 => exact hpA)
    (case hv7 => rfl)
    (case hw7 => rfl)
    (case hz7 => first | rfl | (simp; done))
    refine aOps_0 rfl rfl rfl ?_
    refine AOp.storeAll (b := ?b8) rfl rfl rfl ?hn8 ?hk8 rfl ?hw8 ?ho8 ?hl8 ?hR8
    (case hn8 => exact hpA)
    (case hk8 => rfl)
    (case hw8 => first | rfl | (simp; done))
    (case ho8 => first | rfl | decide | (simp; done))
    (case hl8 => first | rfl | (simp; done))
    refine aOps_end ?_
    show ACode _ _ _ _ _ _
    refine ACode.ret ?_
    try simp only [thenA, blockA, if_true]
    have e1 : takePr r = ((takeP 32 r).1, (takeP 32 r).2) := by unfold takePr; rw [if_neg (fun h => h c0)]
    rw [e1]
    have hPz : ∀ (w : Blk) kz, kx + 1 ≤ kz → k ≤ kz → RfP H k n A c (takeP 32 r).2 (upd (upd HLx kx (some (pblk op col (.slice VA vl vc) (.slice VB vm vd)))) k (some w)) kz := fun w kz h1 h3 => ⟨h3, (fun m hm => (upd_other _ _ (by omega)).trans ((upd_other _ _ (by omega)).trans (hfLx m (by omega)))), sub_new (sub_new hS1 (none_n (hf kx (by omega)))) hk0, (hRx.sub (sub_upd' (sub_refl _) hkx0)).away (by omega) (by rw [hbx]; exact hAk)⟩
    exact RetQ.cell rfl rfl (aloadAll (b := pblk op col (.slice VA vl vc) (.slice VB vm vd)) (v := pv op col VA vl vc VB vm vd) (upd_same _ _ _) rfl rfl rfl) (sub_refl _) (hPz _ (max (kx + 1) k) (Nat.le_max_left _ _) (Nat.le_max_right _ _)).stays (fun hk => ⟨hV.sub (fun m b hm => by
      unfold cutH at hm
      split at hm
      · rename_i hc
        exact (cutH_at (by omega)).trans ((upd_other _ _ (by omega)).trans ((upd_other _ _ (fun e => by rw [e, hkx0] at hm; cases hm)).trans hm))
      · cases hm), hPz _ _ (by omega) (by omega)⟩)
end

end Go.Proofs.YteoofihjmldllaaDoor
