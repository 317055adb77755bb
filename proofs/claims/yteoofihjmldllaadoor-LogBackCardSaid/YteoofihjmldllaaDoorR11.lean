/- Contracts over the abstract states: predicates out of readers. -/
import Derived.Test.YteoofihjmldllaaDoorR10
import Derived.Test.YteoofihjmldllaaDoorP7
set_option linter.unusedVariables false
set_option linter.unusedSimpArgs false
set_option maxRecDepth 100000
namespace Go.Proofs.YteoofihjmldllaaDoor
open Go Go.Ab

theorem PdV.zero {H : Hp} : PdV H pD0 (pv 0 0 none 0 0 none 0 0) := PdV.intro (vals := []) (of := []) rfl (by decide) (by decide) (by decide) (by decide) (fun v hv => by cases hv) SLC.nil PdVs.nil
section
variable (H : Hp) (k : Nat)

theorem ntakeP_0 (n c : Nat) (A : Option Addr) (ev : Value) (r : Rd) (hR : RdN H n A c ev r) : ACalls Tryd.prog 3 38 [ptr n 0 none, .int .i64 32] H k (fun v H' k' => PdV (cutH H' k) (takeP 0 r).1 v ∧ RdP H k n A c (takeP 0 r).2 H' k') := by
  refine ACalls.fresh fun hf => ?_
  refine ACalls.body Tryd.func38 rfl (Nat.le_of_ble_eq_true rfl) ?_
  have hn := hR.hn
  have hnk := old_lt hf hn
  have hok := hR.ok
  have hal := hok.at_le
  have hle := hok.len
  have hk0 : (upd H n none) k = none := none_n (hf k (Nat.le_refl k))
  have hAk : Away A r.bs.length k := Away.of hR.hs (hf k (Nat.le_refl k))
  refine ACode.seq ?_
  refine ACode.region' [0] (by kernel_rfl) rfl ?_
  refine aOps_1 rfl rfl rfl (AOp.alloc' rfl ?_)
  refine aOps_end ?_
  show ACode _ _ _ _ _ _
  refine ACode.seq ?_
  refine ACode.seq ?_
  refine ACode.region' [0, 1] (by kernel_rfl) rfl ?_
  refine aOps_1 rfl rfl rfl (AOp.move' (.inl rfl) rfl ?_)
  refine aOps_1 rfl rfl rfl (AOp.bin' rfl rfl rfl rfl ?_)
  refine aOps_end ?_
  show ACode _ _ _ _ _ _
  refine ACode.cond rfl (fun c0 => ?_) (fun c0 => absurd c0 (by simp))
  refine ACode.seq ?_
  refine ACode.region' [0, 1] (by kernel_rfl) rfl ?_
  refine aOps_1 rfl rfl rfl (AOp.move' (.inl rfl) rfl ?_)
  refine aOps_1 rfl rfl rfl ?_
  refine AOp.call' rfl rfl rfl (nfail _ _ n c A ev r (hR.sub subA) 18 (by decide) (by decide)) ?_
  rintro _ HLx kx ⟨rfl, hPx⟩
  have hkx := hPx.1
  have hfLx := hPx.2.1
  have hsLx := hPx.2.2.1
  have hPxb := hPx
  obtain ⟨evx, hRx⟩ := hPxb.2.2.2
  have hnx := hRx.hn
  have thsLx := SubS.of hsLx
  have hb1 : HLx k = some (pblk 0 0 NIL NIL) := hpA
  have hS1 := sub_cutn (sub_new (sub_drop (sub_refl H)) hk0) hsLx
  refine aOps_end ?_
  show ACode _ _ _ _ _ _
  refine ACode.seq ?_
  refine ACode.region' [0, 1] (by kernel_rfl) rfl ?_
  refine aOps_1 rfl rfl rfl ?_
  refine AOp.loadAll (b := ?b1) (v := pv 0 0 none 0 0 none 0 0) rfl rfl ?hn1 ?hv1 ?hw1 ?hz1 ?hR1
  (case hn1 => exact hpA)
  (case hv1 => rfl)
  (case hw1 => rfl)
  (case hz1 => first | rfl | (simp; done))
  refine aOps_0 rfl rfl rfl ?_
  refine AOp.storeAll (b := ?b2) rfl rfl rfl ?hn2 ?hk2 rfl ?hw2 ?ho2 ?hl2 ?hR2
  (case hn2 => exact hpA)
  (case hk2 => rfl)
  (case hw2 => first | rfl | (simp; done))
  (case ho2 => first | rfl | decide | (simp; done))
  (case hl2 => first | rfl | (simp; done))
  refine aOps_end ?_
  show ACode _ _ _ _ _ _
  refine ACode.ret ?_
  try simp only [thenA, blockA, if_true]
  have hRz : RdN (upd HLx k (some (pblk 0 0 NIL NIL))) n A c evx (r.fail 18) := hRx.away (by omega) (by rw [Rd.fail_bs]; exact hAk) hb1 (by show (32 : Nat) ≠ 101; decide)
  have hPz : ∀ kz, kx ≤ kz → k ≤ kz → RdP H k n A c (r.fail 18) (upd HLx k (some (pblk 0 0 NIL NIL))) kz := fun kz h1 h3 => ⟨h3, (fun m hm => (upd_other _ _ (by omega)).trans (hfLx m (by omega))), sub_new hS1 hk0, _, hRz⟩
  exact RetQ.cell rfl rfl (aloadAll (b := pblk 0 0 NIL NIL) (v := pv 0 0 none 0 0 none 0 0) (upd_same _ _ _) rfl rfl rfl) (sub_refl _) (hPz (max kx k) (Nat.le_max_left _ _) (Nat.le_max_right _ _)).stays (fun hk => ⟨PdV.zero, hPz _ (by omega) (by omega)⟩)

theorem ntakeP (n c : Nat) (A : Option Addr) : ∀ (f deep : Nat), deep + f = 32 → ∀ (H : Hp) (k : Nat) (ev : Value) (r : Rd), H 1 = some hBlk → RdN H n A c ev r → ACalls Tryd.prog 3 38 [ptr n 0 none, .int .i64 (deep : Int)] H k (fun v H' k' => PdV (cutH H' k) (takeP f r).1 v ∧ RdP H k n A c (takeP f r).2 H' k')
  | 0, deep, hd, H, k, ev, r, h2, hR => by
    obtain rfl : deep = 32 := by omega
    exact ntakeP_0 H k n c A ev r hR
  | f + 1, deep, hd, H, k, ev, r, h2, hR => ntakeP_step H k f deep (by omega) n c A (fun H k ev r h2 hR => ntakeP n c A f (deep + 1) (by omega) H k ev r h2 hR) ev r h2 hR

theorem ntakePr (h2 : H 1 = some hBlk) (n c : Nat) (A : Option Addr) (ev : Value) (r : Rd) (hR : RdN H n A c ev r) : ACalls Tryd.prog 3 10 [ptr n 0 none] H k (fun v H' k' => PdV (cutH H' k) (takePr r).1 v ∧ RdP H k n A c (takePr r).2 H' k') := by
  refine ACalls.fresh fun hf => ?_
  refine ACalls.body Tryd.func10 rfl (Nat.le_of_ble_eq_true rfl) ?_
  have hn := hR.hn
  have hnk := old_lt hf hn
  have hok := hR.ok
  have hal := hok.at_le
  have hle := hok.len
  have h2n := hR.ne2 h2
  have h2k := old_lt hf h2
  have hk0 : (upd H n none) k = none := none_n (hf k (Nat.le_refl k))
  have hAk : Away A r.bs.length k := Away.of hR.hs (hf k (Nat.le_refl k))
  refine ACode.seq ?_
  refine ACode.region' [0] (by kernel_rfl) rfl ?_
  refine aOps_1 rfl rfl rfl (AOp.alloc' rfl ?_)
  refine aOps_end ?_
  show ACode _ _ _ _ _ _
  refine ACode.seq ?_
  refine ACode.region' [0, 1, 2, 3] (by kernel_rfl) rfl ?_
  refine aOps_1 rfl rfl rfl (AOp.move' (.inl rfl) rfl ?_)
  refine aOps_1 rfl rfl rfl ?_
  refine AOp.call' rfl rfl rfl (ntakeP n c A 32 0 rfl _ _ ev r hpA (hR.sub subA)) ?_
  rintro v HLx kx ⟨hV, hPx⟩
  have hkx := hPx.1
  have hfLx := hPx.2.1
  have hsLx := hPx.2.2.1
  have hPxb := hPx
  obtain ⟨evx, hRx⟩ := hPxb.2.2.2
  have hnx := hRx.hn
  have thsLx := SubS.of hsLx
  obtain ⟨op, col, VA, vl, vc, VB, vm, vd, rfl⟩ := hV.form
  have hb1 : HLx k = some (pblk 0 0 NIL NIL) := hpA
  have hS1 := sub_cutn (sub_new (sub_drop (sub_refl H)) hk0) hsLx
  have h2x : HLx 1 = some hBlk := hS1 _ _ ((upd_other _ _ h2n).trans h2)
  have hkx0 : HLx kx = none := hfLx kx (Nat.le_refl _)
  have hbx := takeP_bs 32 r
  have hAx : Away A r.bs.length kx := by have h := Away.of hRx.hs hkx0; rw [hbx] at h; exact h
  refine aOps_1 rfl rfl rfl (AOp.alloc' rfl ?_)
  refine aOps_0 rfl rfl rfl ?_
  refine AOp.storeAll (b := ?b3) rfl rfl rfl ?hn3 ?hk3 rfl ?hw3 ?ho3 ?hl3 ?hR3
  (case hn3 => exact hpA)
  (case hk3 => rfl)
  (case hw3 => first | rfl | (simp; done))
  (case ho3 => first | rfl | decide | (simp; done))
  (case hl3 => first | rfl | (simp; done))
  rw [rd_upd2]
  refine aOps_end ?_
  show ACode _ _ _ _ _ _
  refine ACode.seq ?_
  refine ACode.seq ?_
  refine ACode.region' [0, 1, 2] (by kernel_rfl) rfl ?_
  refine aOps_1 rfl rfl rfl (AOp.move' (.inl rfl) rfl ?_)
  refine aOps_q rfl rfl rfl (AOp.call' rfl rfl rfl (ngoodP _ _ ((upd_other _ _ (by omega)).trans h2x) n c A evx _ (hRx.sub (sub_upd' (sub_refl _) hkx0))) (fun _ _ _ h => h)) (fun kq hkq => ?_)
  refine aOps_1 rfl rfl rfl (AOp.un' rfl rfl rfl ?_)
  refine aOps_end ?_
  show ACode _ _ _ _ _ _
  refine ACode.cond rfl (fun c0 => ?_) (fun c0 => ?_)
  · try simp only [decide_eq_true_eq, decide_eq_false_iff_not, beq_iff_eq, beq_eq_false_iff_ne, ne_eq, bne_iff_ne, Bool.not_eq_true', Bool.not_eq_false', Int.not_lt, Int.not_le, gt_iff_lt, ge_iff_le, bne_eq_false_iff_eq, Bool.not_eq_eq_eq_not, Bool.not_true, Bool.not_false] at c0
    refine ACode.seq ?_
    refine ACode.region' [0, 1] (by kernel_rfl) rfl ?_
    refine aOps_1 rfl rfl rfl (AOp.buildS (cells := #[_, _, _, _]) rfl rfl rfl ?_)
    refine aOps_0 rfl rfl rfl ?_
    refine AOp.storeAll (b := ?b4) rfl rfl rfl ?hn4 ?hk4 rfl ?hw4 ?ho4 ?hl4 ?hR4
    (case hn4 => exact hpA)
    (case hk4 => rfl)
    (case hw4 => first | rfl | (simp; done))
    (case ho4 => first | rfl | decide | (simp; done))
    (case hl4 => first | rfl | (simp; done))
    refine aOps_end ?_
    show ACode _ _ _ _ _ _
    refine ACode.ret ?_
    try simp only [thenA, blockA, if_true]
    have e1 : takePr r = (pD0, (takeP 32 r).2) := congrArg (·, _) (if_pos c0)
    rw [e1]
    have hPz : ∀ (w : Blk) kz, kx + 1 ≤ kz → k ≤ kz → RdP H k n A c (takeP 32 r).2 (upd (upd HLx kx (some (pblk op col (.slice VA vl vc) (.slice VB vm vd)))) k (some w)) kz := fun w kz h1 h3 => ⟨h3, (fun m hm => (upd_other _ _ (by omega)).trans ((upd_other _ _ (by omega)).trans (hfLx m (by omega)))), sub_new (sub_new hS1 (none_n (hf kx (by omega)))) hk0, _, (hRx.sub (sub_upd' (sub_refl _) hkx0)).away (by omega) (by rw [hbx]; exact hAk) ((upd_other _ _ (by omega)).trans hb1) (by show (32 : Nat) ≠ 101; decide)⟩
    exact RetQ.cell rfl rfl (aloadAll (b := pblk 0 0 NIL NIL) (v := pv 0 0 none 0 0 none 0 0) (upd_same _ _ _) rfl rfl rfl) (sub_refl _) (hPz _ (max (kx + 1) k) (Nat.le_max_left _ _) (Nat.le_max_right _ _)).stays (fun hk => ⟨PdV.zero, hPz _ _ (by omega) (by omega)⟩)
  · try simp only [decide_eq_true_eq, decide_eq_false_iff_not, beq_iff_eq, beq_eq_false_iff_ne, ne_eq, bne_iff_ne, Bool.not_eq_true', Bool.not_eq_false', Int.not_lt, Int.not_le, gt_iff_lt, ge_iff_le, bne_eq_false_iff_eq, Bool.not_eq_eq_eq_not, Bool.not_true, Bool.not_false] at c0
    refine ACode.skip ?_
    show ACode _ _ _ _ _ _
    refine ACode.seq ?_
    refine ACode.region' [0, 1] (by kernel_rfl) rfl ?_
    refine aOps_1 rfl rfl rfl ?_
    refine AOp.loadAll (b := ?b5) (v := pv op col VA vl vc VB vm vd) rfl rfl ?hn5 ?hv5 ?hw5 ?hz5 ?hR5
    (case hn5 => exact hpA)
    (case hv5 => rfl)
    (case hw5 => rfl)
    (case hz5 => first | rfl | (simp; done))
    refine aOps_0 rfl rfl rfl ?_
    refine AOp.storeAll (b := ?b6) rfl rfl rfl ?hn6 ?hk6 rfl ?hw6 ?ho6 ?hl6 ?hR6
    (case hn6 => exact hpA)
    (case hk6 => rfl)
    (case hw6 => first | rfl | (simp; done))
    (case ho6 => first | rfl | decide | (simp; done))
    (case hl6 => first | rfl | (simp; done))
    refine aOps_end ?_
    show ACode _ _ _ _ _ _
    refine ACode.ret ?_
    try simp only [thenA, blockA, if_true]
    have e1 : takePr r = ((takeP 32 r).1, (takeP 32 r).2) := congrArg (·, _) (if_neg (fun h => h c0))
    rw [e1]
    have hPz : ∀ (w : Blk) kz, kx + 1 ≤ kz → k ≤ kz → RdP H k n A c (takeP 32 r).2 (upd (upd HLx kx (some (pblk op col (.slice VA vl vc) (.slice VB vm vd)))) k (some w)) kz := fun w kz h1 h3 => ⟨h3, (fun m hm => (upd_other _ _ (by omega)).trans ((upd_other _ _ (by omega)).trans (hfLx m (by omega)))), sub_new (sub_new hS1 (none_n (hf kx (by omega)))) hk0, _, (hRx.sub (sub_upd' (sub_refl _) hkx0)).away (by omega) (by rw [hbx]; exact hAk) ((upd_other _ _ (by omega)).trans hb1) (by show (32 : Nat) ≠ 101; decide)⟩
    exact RetQ.cell rfl rfl (aloadAll (b := pblk op col (.slice VA vl vc) (.slice VB vm vd)) (v := pv op col VA vl vc VB vm vd) (upd_same _ _ _) rfl rfl rfl) (sub_refl _) (hPz _ (max (kx + 1) k) (Nat.le_max_left _ _) (Nat.le_max_right _ _)).stays (fun hk => ⟨hV.sub (fun m b hm => by
      unfold cutH at hm
      split at hm
      · rename_i hc
        exact (cutH_at (by omega)).trans ((upd_other _ _ (by omega)).trans ((upd_other _ _ (fun e => by rw [e, hkx0] at hm; cases hm)).trans hm))
      · cases hm), hPz _ _ (by omega) (by omega)⟩)
end

end Go.Proofs.YteoofihjmldllaaDoor
