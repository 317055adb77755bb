/- Contracts over the abstract states: predicates out of the reference's readers. -/
import Derived.Test.YteoofihjmldllaaDoorR11
import Derived.Test.YteoofihjmldllaaDoorRM
set_option linter.unusedVariables false
set_option linter.unusedSimpArgs false
set_option maxRecDepth 100000
namespace Go.Proofs.YteoofihjmldllaaDoor
open Go Go.Ab

def raw1 (r : Rd) : Nat := (pr1 r).var.2.var.1
def raw2 (r : Rd) : Nat := (pvals r).2.var.1
theorem cntR_raw {α : Type} (f : α × Rd → α × Rd) (a : α) (r : Rd) : runR f (cntR r).1 (a, (cntR r).2) = runR f r.var.1 (a, (cntR r).2) := by
  unfold cntR
  split
  · rw [runR_err (s := (a, r.var.2.fail 12)) (Rd.fail_ne _ (by decide)), runR_err (s := (a, r.var.2.fail 12)) (Rd.fail_ne _ (by decide))]
  · rfl
theorem cntR_le {r : Rd} (h : (cntR r).2.e = 0) : r.var.1 ≤ 256 := by
  unfold cntR at h
  split at h
  · exact absurd h (Rd.fail_ne _ (by decide))
  · omega
theorem pvals_raw (r : Rd) : pvals r = runR vStep (raw1 r) ([], (pc1 r).2) := cntR_raw vStep [] _
theorem run_end {α : Type} {f : α × Rd → α × Rd} {s s0 : α × Rd} {n i : Nat} (h : s0 = runR f (n - i) s) (hi : i = n ∨ s.2.e ≠ 0) : s0 = s := by
  rcases hi with hi | hi
  · rw [h, hi, Nat.sub_self]; rfl
  · rw [h, runR_err hi]
section
variable (H : Hp) (k : Nat)

set_option maxHeartbeats 8000000 in
theorem rtakeP_step (f deep : Nat) (hdp : deep < 32) (n c : Nat) (A : Option Addr) (ih : ∀ (H : Hp) (k : Nat) (r : Rd), RfN H n A c r → ACalls Tryd.prog 3 40 [ptr n 0 none, .int .i64 ((deep + 1 : Nat) : Int)] H k (fun v H' k' => PdV (cutH H' k) (takeP f r).1 v ∧ RfP H k n A c (takeP f r).2 H' k')) (r : Rd) (hR : RfN H n A c r) : ACalls Tryd.prog 3 40 [ptr n 0 none, .int .i64 (deep : Int)] H k (fun v H' k' => PdV (cutH H' k) (takeP (f + 1) r).1 v ∧ RfP H k n A c (takeP (f + 1) r).2 H' k') := by
  refine ACalls.fresh fun hf => ?_
  refine ACalls.body Tryd.func40 rfl (Nat.le_of_ble_eq_true rfl) ?_
  have hn := hR.hn
  have hnk := old_lt hf hn
  have hok := hR.ok
  have hal := hok.at_le
  have hle := hok.len
  have hfx := Rd.fix1_ok hok
  have hk0 : (upd H n none) k = none := none_n (hf k (Nat.le_refl k))
  have hk1 : (upd H n none) (k + 1) = none := none_n (hf (k + 1) (Nat.le_succ k))
  have hAk : Away A r.bs.length k := Away.of hR.hs (hf k (Nat.le_refl k))
  have hAk1 : Away A r.bs.length (k + 1) := Away.of hR.hs (hf (k + 1) (Nat.le_succ k))
  have hp1 := pr1_ok hok
  have hbc1 : (pc1 r).2.bs = r.bs := (cntR_bs _).trans ((Rd.var_bs _).trans (pr1_bs r))
  have hpv := pvals_ok hok
  have hbc2 : (pc2 r).2.bs = r.bs := (cntR_bs _).trans hpv.2.1
  refine ACode.seq ?_
  refine ACode.region' [0] (by kernel_rfl) rfl ?_
  refine aOps_1 rfl rfl rfl (AOp.alloc' rfl ?_)
  refine aOps_end ?_
  show ACode _ _ _ _ _ _
  refine ACode.seq ?_
  refine ACode.region' [0, 1, 2] (by kernel_rfl) rfl ?_
  refine aOps_1 rfl rfl rfl (AOp.buildS (cells := #[.int .i64 0, .int .i64 0, NIL, NIL]) rfl rfl rfl ?_)
  refine aOps_1 rfl rfl rfl (AOp.alloc' rfl ?_)
  refine aOps_0 rfl rfl rfl ?_
  refine AOp.storeAll (b := ?b1) rfl rfl rfl ?hn1 ?hk1 rfl ?hw1 ?ho1 ?hl1 ?hR1
  (case hn1 => exact hpA)
  (case hk1 => rfl)
  (case hw1 => first | rfl | (simp; done))
  (case ho1 => first | rfl | decide | (simp; done))
  (case hl1 => first | rfl | (simp; done))
  rw [rd_upd2]
  refine aOps_end ?_
  show ACode _ _ _ _ _ _
  refine ACode.seq ?_
  refine ACode.seq ?_
  refine ACode.region' [0, 1] (by kernel_rfl) rfl ?_
  refine aOps_1 rfl rfl rfl (AOp.move' (.inl rfl) rfl ?_)
  refine aOps_1 rfl rfl rfl (AOp.bin' rfl rfl rfl rfl ?_)
  refine aOps_end ?_
  show ACode _ _ _ _ _ _
  refine ACode.cond rfl (fun c0 => absurd c0 (by simp; omega)) (fun c0 => ?_)
  refine ACode.skip ?_
  show ACode _ _ _ _ _ _
  refine ACode.seq ?_
  refine ACode.region' [0, 1, 2, 3, 4] (by kernel_rfl) rfl ?_
  refine aOps_1 rfl rfl rfl (AOp.move' (.inl rfl) rfl ?_)
  refine aOps_1 rfl rfl rfl ?_
  refine AOp.call' rfl rfl rfl (rfix1 _ _ n c A r (hR.sub subA)) ?_
  rintro _ HLx kx ⟨rfl, hPx⟩
  have hkx := hPx.1
  have hfLx := hPx.2.1
  have hsLx := hPx.2.2.1
  have hRx := hPx.2.2.2
  have hnx := hRx.hn
  have thsLx := SubS.of hsLx
  have hb1 : HLx (k + 1) = some (pblk 0 0 NIL NIL) := hpA
  have hzx : HLx k = some (pblk 0 0 NIL NIL) := hpA
  have hS1 := sub_cutn (sub_new (sub_new (sub_drop (sub_refl H)) hk0) hk1) hsLx
  refine aOps_1 rfl rfl rfl (AOp.convInt rfl rfl ?_)
  rw [show IntKind.i64.wrap ((r.fix1.1 : Nat) : Int) = ((r.fix1.1 : Nat) : Int) from i64_wrap (by omega) (by omega)]
  refine aOps_1 rfl rfl rfl (AOp.fieldAddr' rfl (by decide) rfl ?_)
  refine aOps_0 rfl rfl rfl ?_
  refine AOp.store1 (b := ?b2) rfl rfl rfl ?hn2 ?hk2 rfl rfl ?hl2 ?hR2
  (case hn2 => exact hpA)
  (case hk2 => rfl)
  (case hl2 => first | (simp; done) | exact Nat.le_of_ble_eq_true rfl)
  refine aOps_end ?_
  show ACode _ _ _ _ _ _
  refine ACode.meet (γ := Unit) (fun g => []) [(0, _), (1, _), (4, _), (5, _)] (.cons rfl (.cons rfl (.cons rfl (.cons rfl .nil)))) (fun g H' k' => k + 2 ≤ k' ∧ Ab.Sub (upd H n none) H' ∧ H' (k + 1) = some (pblk (r.fix1.1 : Int) 0 NIL NIL) ∧ H' k = some (pblk 0 0 NIL NIL) ∧ RfN H' n A c (pr1 r)) ?_ (fun g HLa ka hfLa hXa => ?_)
  · show ACode _ _ _ _ _ _
    refine ACode.seq ?_
    refine ACode.region' [0, 1, 2] (by kernel_rfl) rfl ?_
    refine aOps_1 rfl rfl rfl (AOp.fieldAddr' rfl (by decide) rfl ?_)
    refine aOps_1 rfl rfl rfl ?_
    refine AOp.load1 (b := ?b3) (v := ?v3) rfl rfl ?hn3 ?hv3 ?hR3
    (case hn3 => exact hpA)
    (case hv3 => rfl)
    refine aOps_1 rfl rfl rfl (AOp.bin' rfl rfl rfl rfl ?_)
    refine aOps_end ?_
    show ACode _ _ _ _ _ _
    refine ACode.cond rfl (fun c1 => ?_) (fun c1 => ?_)
    · try simp only [decide_eq_true_eq, decide_eq_false_iff_not, beq_iff_eq, beq_eq_false_iff_ne, ne_eq, bne_iff_ne, Bool.not_eq_true', Bool.not_eq_false', Int.not_lt, Int.not_le, gt_iff_lt, ge_iff_le, bne_eq_false_iff_eq, Bool.not_eq_eq_eq_not, Bool.not_true, Bool.not_false] at c1
      have hpr : pr1 r = r.fix1.2.fail 4 := if_neg (by omega)
      refine ACode.region' [0, 1] (by kernel_rfl) rfl ?_
      refine aOps_1 rfl rfl rfl (AOp.move' (.inl rfl) rfl ?_)
      refine aOps_1 rfl rfl rfl ?_
      refine AOp.call' rfl rfl rfl (rfail _ _ n c A r.fix1.2 (hRx.away (by omega) (by rw [Rd.fix1_bs]; exact hAk1)) 4 (by decide) (by decide)) ?_
      rintro _ HLf kf ⟨rfl, hPf⟩
      have hkf := hPf.1
      have hfLf := hPf.2.1
      have hsLf := hPf.2.2.1
      have hRf := hPf.2.2.2
      have hnf := hRf.hn
      have thsLf := SubS.of hsLf
      have hSf := sub_cutn (sub_new hS1 hk1) hsLf
      have hbf : HLf (k + 1) = some (pblk (r.fix1.1 : Int) 0 NIL NIL) := hpA
      have hzf : HLf k = some (pblk 0 0 NIL NIL) := hpA
      refine aOps_end ?_
      first | refine thenA_n ?_ | simp only [thenA, blockA, if_true]
      exact ⟨(), has_append .nil (.cons rfl (.cons rfl (.cons rfl (.cons rfl .nil)))), (by (try dsimp only); exact ⟨by omega, hSf, hbf, hzf, by rw [hpr]; exact hRf⟩)⟩
    · try simp only [decide_eq_true_eq, decide_eq_false_iff_not, beq_iff_eq, beq_eq_false_iff_ne, ne_eq, bne_iff_ne, Bool.not_eq_true', Bool.not_eq_false', Int.not_lt, Int.not_le, gt_iff_lt, ge_iff_le, bne_eq_false_iff_eq, Bool.not_eq_eq_eq_not, Bool.not_true, Bool.not_false] at c1
      have hpr : pr1 r = r.fix1.2 := if_pos (by omega)
      refine ACode.skip ?_
      first | refine thenA_n ?_ | simp only [thenA, blockA, if_true]
      exact ⟨(), has_append .nil (.cons rfl (.cons rfl (.cons rfl (.cons rfl .nil)))), (by (try dsimp only); exact ⟨by omega, sub_new hS1 hk1, upd_same _ _ _, (upd_other _ _ (by omega)).trans hzx, by rw [hpr]; exact hRx.away (by omega) (by rw [Rd.fix1_bs]; exact hAk1)⟩)⟩
  · show ACode _ _ _ _ _ ⟨_, _, _⟩
    obtain ⟨hka, hSa, hba, hza, hRa⟩ := hXa
    refine ACode.seq ?_
    refine ACode.region' [0, 1, 2, 3, 4] (by kernel_rfl) rfl ?_
    refine aOps_1 rfl rfl rfl (AOp.move' (.inl rfl) rfl ?_)
    refine aOps_1 rfl rfl rfl ?_
    refine AOp.call' rfl rfl rfl (rvar _ _ n c A (pr1 r) hRa) ?_
    rintro _ HLv kv ⟨rfl, hPv⟩
    have hkv := hPv.1
    have hfLv := hPv.2.1
    have hsLv := hPv.2.2.1
    have hRv := hPv.2.2.2
    have hnv := hRv.hn
    have thsLv := SubS.of hsLv
    have hbv : HLv (k + 1) = some (pblk (r.fix1.1 : Int) 0 NIL NIL) := hpA
    have hzv : HLv k = some (pblk 0 0 NIL NIL) := hpA
    have hSv : Ab.Sub (upd H n none) HLv := sub_cutn hSa hsLv
    refine aOps_1 rfl rfl rfl (AOp.convInt rfl rfl ?_)
    rw [show IntKind.i64.wrap (((pr1 r).var.1 : Nat) : Int) = pcol r from rfl]
    refine aOps_1 rfl rfl rfl (AOp.fieldAddr' rfl (by decide) rfl ?_)
    refine aOps_0 rfl rfl rfl ?_
    refine AOp.store1 (b := ?b4) rfl rfl rfl ?hn4 ?hk4 rfl rfl ?hl4 ?hR4
    (case hn4 => exact hpA)
    (case hk4 => rfl)
    (case hl4 => first | (simp; done) | exact Nat.le_of_ble_eq_true rfl)
    refine aOps_end ?_
    show ACode _ _ _ _ _ _
    refine ACode.seq ?_
    refine ACode.region' [0, 1, 2] (by kernel_rfl) rfl ?_
    refine aOps_1 rfl rfl rfl (AOp.move' (.inl rfl) rfl ?_)
    refine aOps_1 rfl rfl rfl ?_
    refine AOp.call' rfl rfl rfl (rvar _ _ n c A (pr1 r).var.2 (hRv.away (by omega) (by rw [Rd.var_bs, pr1_bs]; exact hAk1))) ?_
    rintro _ HLc kc ⟨rfl, hPc⟩
    have hkc := hPc.1
    have hfLc := hPc.2.1
    have hsLc := hPc.2.2.1
    have hRc := hPc.2.2.2
    have hnc := hRc.hn
    have thsLc := SubS.of hsLc
    have hbc : HLc (k + 1) = some (pblk (r.fix1.1 : Int) (pcol r) NIL NIL) := hpA
    have hzc : HLc k = some (pblk 0 0 NIL NIL) := hpA
    have hSc := sub_cutn (sub_new hSv hk1) hsLc
    rw [show (pr1 r).var.2.var.1 = raw1 r from rfl]
    have hrw1 : (pr1 r).var.2.var.1 = raw1 r := rfl
    refine aOps_1 rfl rfl rfl (AOp.move' (.inr rfl) rfl ?_)
    refine aOps_end ?_
    show ACode _ _ _ _ _ _
    refine ACode.meet (γ := Unit) (fun g => []) [(0, _), (1, _), (4, _), (5, _), (6, _)] (.cons rfl (.cons rfl (.cons rfl (.cons rfl (.cons rfl .nil))))) (fun g H' k' => k + 2 ≤ k' ∧ Ab.Sub (upd H n none) H' ∧ H' (k + 1) = some (pblk (r.fix1.1 : Int) (pcol r) NIL NIL) ∧ H' k = some (pblk 0 0 NIL NIL) ∧ RfN H' n A c (pc1 r).2) ?_ (fun g HLb kb hfLb hXb => ?_)
    · show ACode _ _ _ _ _ _
      refine ACode.seq ?_
      refine ACode.region' [0, 1] (by kernel_rfl) rfl ?_
      refine aOps_1 rfl rfl rfl (AOp.move' (.inl rfl) rfl ?_)
      refine aOps_1 rfl rfl rfl (AOp.bin' rfl rfl rfl rfl ?_)
      refine aOps_end ?_
      show ACode _ _ _ _ _ _
      refine ACode.cond rfl (fun c2 => ?_) (fun c2 => ?_)
      · try simp only [decide_eq_true_eq, decide_eq_false_iff_not, beq_iff_eq, beq_eq_false_iff_ne, ne_eq, bne_iff_ne, Bool.not_eq_true', Bool.not_eq_false', Int.not_lt, Int.not_le, gt_iff_lt, ge_iff_le, bne_eq_false_iff_eq, Bool.not_eq_eq_eq_not, Bool.not_true, Bool.not_false] at c2
        have hpc : (pc1 r).2 = (pr1 r).var.2.var.2.fail 12 := congrArg Prod.snd (show pc1 r = (0, (pr1 r).var.2.var.2.fail 12) from if_pos (by omega))
        refine ACode.region' [0, 1] (by kernel_rfl) rfl ?_
        refine aOps_1 rfl rfl rfl (AOp.move' (.inl rfl) rfl ?_)
        refine aOps_1 rfl rfl rfl ?_
        refine AOp.call' rfl rfl rfl (rfail _ _ n c A (pr1 r).var.2.var.2 hRc 12 (by decide) (by decide)) ?_
        rintro _ HLg kg ⟨rfl, hPg⟩
        have hkg := hPg.1
        have hfLg := hPg.2.1
        have hsLg := hPg.2.2.1
        have hRg := hPg.2.2.2
        have hng := hRg.hn
        have thsLg := SubS.of hsLg
        have hbg : HLg (k + 1) = some (pblk (r.fix1.1 : Int) (pcol r) NIL NIL) := hpA
        have hzg : HLg k = some (pblk 0 0 NIL NIL) := hpA
        have hSg := sub_cutn hSc hsLg
        refine aOps_end ?_
        first | refine thenA_n ?_ | simp only [thenA, blockA, if_true]
        exact ⟨(), has_append .nil (.cons rfl (.cons rfl (.cons rfl (.cons rfl (.cons rfl .nil))))), (by (try dsimp only); exact ⟨by omega, hSg, hbg, hzg, by rw [hpc]; exact hRg⟩)⟩
      · try simp only [decide_eq_true_eq, decide_eq_false_iff_not, beq_iff_eq, beq_eq_false_iff_ne, ne_eq, bne_iff_ne, Bool.not_eq_true', Bool.not_eq_false', Int.not_lt, Int.not_le, gt_iff_lt, ge_iff_le, bne_eq_false_iff_eq, Bool.not_eq_eq_eq_not, Bool.not_true, Bool.not_false] at c2
        have hpc : (pc1 r).2 = (pr1 r).var.2.var.2 := congrArg Prod.snd (show pc1 r = ((pr1 r).var.2.var.1, (pr1 r).var.2.var.2) from if_neg (by omega))
        refine ACode.skip ?_
        first | refine thenA_n ?_ | simp only [thenA, blockA, if_true]
        exact ⟨(), has_append .nil (.cons rfl (.cons rfl (.cons rfl (.cons rfl (.cons rfl .nil))))), (by (try dsimp only); exact ⟨by omega, hSc, hbc, hzc, by rw [hpc]; exact hRc⟩)⟩
    · show ACode _ _ _ _ _ ⟨_, _, _⟩
      obtain ⟨hkb, hSb, hbb, hzb, hRb⟩ := hXb
      refine ACode.seq ?_
      refine ACode.seq ?_
      refine ACode.region' [0] (by kernel_rfl) rfl ?_
      refine aOps_1 rfl rfl rfl (AOp.move' (.inr rfl) rfl ?_)
      refine aOps_end ?_
      show ACode _ _ _ _ _ _
      refine ACode.block ?_
      have hQ0 : HLb kb = none := hfLb kb (Nat.le_refl _)
      have hAc : Away A r.bs.length kb := by have h := Away.of hRb.hs hQ0; rw [hbc1] at h; exact h
      obtain ⟨Q, hQ⟩ : ∃ Q, Q = kb := ⟨_, rfl⟩
      refine ACode.adoptC 59 3 (by decide) (j := 2) hbb rfl rfl ?_
      subst hQ
      have hkQ : k + 1 < Q := by omega
      refine ACode.countG (γ := Hp) (fun i g => [(7, .int .i64 (i : Int))]) [(0, _), (1, _), (4, _), (5, _), (6, _)] (fun i g => g) (raw1 r) (fun i g => g Q = some (vlblk (itR vStep ([], (pc1 r).2) (i)).1) ∧ g (k + 1) = some (pblk (r.fix1.1 : Int) (pcol r) (.slice (some ⟨Q, 0, some 1⟩) (itR vStep ([], (pc1 r).2) (i)).1.length (itR vStep ([], (pc1 r).2) (i)).1.length) NIL) ∧ Ab.Sub (upd H n none) g ∧ RfN g n A c (itR vStep ([], (pc1 r).2) (i)).2 ∧ pvals r = runR vStep (raw1 r - i) (itR vStep ([], (pc1 r).2) (i)) ∧ (0 < i → (pc1 r).2.e = 0) ∧ g k = some (pblk 0 0 NIL NIL)) ((upd (upd HLb Q (some (vlblk []))) (k + 1) (some (pblk (r.fix1.1 : Int) (pcol r) (.slice (some ⟨Q, 0, some 1⟩) ([] : List Val).length ([] : List Val).length) NIL)))) (.cons rfl .nil) (.cons rfl (.cons rfl (.cons rfl (.cons rfl (.cons rfl .nil))))) (by exact sub_refl _) ⟨(upd_other _ _ (by omega)).trans (upd_same _ _ _), upd_same _ _ _, sub_new (sub_new hSb (none_n (hf Q (by omega)))) hk1, (hRb.sub (sub_upd' (sub_refl _) hQ0)).away (by omega) (by rw [hbc1]; exact hAk1), pvals_raw r, fun h => absurd h (Nat.lt_irrefl 0), (upd_other _ _ (by omega)).trans ((upd_other _ _ (by omega)).trans hzb)⟩ (fun i0 g0 kL0 HL0 hiL0 hkL0 hsL0 hfL0 hxL0 => ?_)
      show ACode _ _ _ _ _ ⟨_, _, _⟩
      have tsL0 := SubS.of hsL0
      obtain ⟨hx1, hx2, hx3, hx4, hx5, hx6, hx7⟩ := hxL0
      have hq0 := hsL0 _ _ hx1
      have hb0 := hsL0 _ _ hx2
      have hz0 := hsL0 _ _ hx7
      have hS0 := sub_trans hx3 hsL0
      have hR0 := hx4.sub hsL0
      have hn0 := hR0.hn
      have hbi := itV_bs ([], (pc1 r).2) i0
      simp only at hbi
      rw [hbc1] at hbi
      have hli := itV_len ([], (pc1 r).2) i0
      simp only [List.length_nil, Nat.zero_add] at hli
      refine ACode.seq ?_
      refine ACode.seq ?_
      refine ACode.region' [0, 1, 2, 3, 4, 5, 6, 7, 8, 9, 10] (by kernel_rfl) rfl ?_
      refine aOps_1 rfl rfl rfl (AOp.move' (.inl rfl) rfl ?_)
      refine aOps_1 rfl rfl rfl (AOp.move' (.inl rfl) rfl ?_)
      refine aOps_1 rfl rfl rfl (AOp.convInt rfl rfl ?_)
      refine aOps_1 rfl rfl rfl (AOp.bin' rfl rfl rfl rfl ?_)
      refine aOps_1 rfl rfl rfl (AOp.move' (.inl rfl) rfl ?_)
      refine aOps_gd0 rfl rfl (wantT rfl rfl rfl) (fun hc => AOp.slots [(0, _)] (.cons rfl .nil) (AOp.move' (.inl rfl) rfl ⟨rfl, rfl, rfl⟩)) ?_
      refine aOps_gd0 rfl rfl (wantT rfl rfl rfl) (fun hc => AOp.slots [(40, _)] (.cons (gvT rfl hc) .nil) (AOp.nilCheck' rfl rfl ⟨rfl, rfl, rfl⟩)) ?_
      refine aOps_gd0 rfl rfl (wantT rfl rfl rfl) (fun hc => AOp.slots [(41, _)] (.cons (gvT rfl hc) .nil) (AOp.fieldAddr' rfl (by decide) rfl ⟨rfl, rfl, rfl⟩)) ?_
      refine aOps_gd0 rfl rfl (wantT rfl rfl rfl) (fun hc => AOp.slots [(42, _)] (.cons (gvT rfl hc) .nil) ((by refine AOp.load1 (b := ?b5) (v := ?v5) rfl rfl ?hn5 ?hv5 ?hR5; (case hn5 => exact hpA); (case hv5 => rfl); exact ⟨rfl, rfl, rfl⟩))) ?_
      refine aOps_gd0 rfl rfl (wantT rfl rfl rfl) (fun hc => AOp.slots [(43, _)] (.cons (gvT rfl hc) .nil) (AOp.bin' rfl rfl rfl rfl ⟨rfl, rfl, rfl⟩)) ?_
      refine aOps_1 rfl rfl rfl (AOp.pickAnd rfl rfl rfl (fun hb => gvE rfl hb) ?_)
      refine aOps_end ?_
      show ACode _ _ _ _ _ _
      have hlc3 := rloop_c (i := i0) (m := raw1 r) (e := (itR vStep ([], (pc1 r).2) (i0)).2.e) (e0 := (pc1 r).2.e) (fun h he => by subst h; exact he) hx6 (fun h => Nat.le_trans (cntR_le h) (by decide)) hiL0
      refine ACode.cond rfl (fun c3 => ?_) (fun c3 => ?_)
      · skip
        have c3b := of_decide_eq_true (hlc3.symm.trans c3)
        have hr00 : (pc1 r).2.e = 0 := (Nat.eq_zero_or_pos i0).elim (fun h => by have h2 := c3b.2; rw [h] at h2; exact h2) hx6
        have hhr002 : raw1 r ≤ 256 := cntR_le hr00
        refine ACode.skip ?_
        show ACode _ _ _ _ _ _
        refine ACode.seq ?_
        refine ACode.block ?_
        have hq8 := sub_one hb0
        refine ACode.any mixed (by kernel_rfl) ?_
        refine AnyA.split 6 (by kernel_rfl) (by kernel_rfl) (by decide) (by decide) (Nat.le_of_ble_eq_true rfl) ?_
        refine AnyA.float (Hq := (upd (fun _ => none) (k + 1) (some (pblk (r.fix1.1 : Int) (pcol r) (.slice (some ⟨Q, 0, some 1⟩) (itR vStep ([], (pc1 r).2) (i0)).1.length (itR vStep ([], (pc1 r).2) (i0)).1.length) NIL)))) [(0, 48), (1, 49), (2, 50)] [3, 4, 5] (by kernel_rfl) (Nat.le_of_ble_eq_true rfl) (by kernel_rfl) subA ?_
        refine DrawF.q 0 48 [(5, none)] rfl (by kernel_rfl) rfl (fun Hc kq hSb => AOp.fieldAddr' rfl (by decide) rfl ⟨rfl, rfl, rfl⟩) ?_
        refine DrawF.q 1 49 [(48, some 0)] rfl (by kernel_rfl) rfl (fun Hc kq hSb => have tSb := SubS.of hSb; (by refine AOp.load1 (b := ?b6) (v := ?v6) rfl rfl ?hn6 ?hv6 ?hR6; (case hn6 => exact hpA); (case hv6 => rfl); exact ⟨rfl, rfl, rfl⟩)) ?_
        refine DrawF.q 2 50 [(0, none)] rfl (by kernel_rfl) rfl (fun Hc kq hSb => AOp.move' (.inl rfl) rfl ⟨rfl, rfl, rfl⟩) ?_
        refine DrawF.done ?_
        show aOpsF _ _ _ _ _ _ [3, 4, 5] ⟨_, _, _⟩
        refine aOpsF_1 [50] rfl rfl (by kernel_rfl) rfl ?_
        refine AOp.call' rfl rfl rfl (rtakeV _ _ n c A (itR vStep ([], (pc1 r).2) (i0)).2 hR0) ?_
        rintro _ HLt kt ⟨rfl, hPt⟩
        have hkt := hPt.1
        have hfLt := hPt.2.1
        have hsLt := hPt.2.2.1
        have hRt := hPt.2.2.2
        have hnt := hRt.hn
        have thsLt := SubS.of hsLt
        have hqt : HLt Q = some (vlblk (itR vStep ([], (pc1 r).2) (i0)).1) := hsLt _ _ ((upd_other _ _ (by omega)).trans hq0)
        have hbt : HLt (k + 1) = some (pblk (r.fix1.1 : Int) (pcol r) (.slice (some ⟨Q, 0, some 1⟩) (itR vStep ([], (pc1 r).2) (i0)).1.length (itR vStep ([], (pc1 r).2) (i0)).1.length) NIL) := hsLt _ _ ((upd_other _ _ (by omega)).trans hb0)
        have hzt : HLt k = some (pblk 0 0 NIL NIL) := hsLt _ _ ((upd_other _ _ (by omega)).trans hz0)
        have hq9 := sub_one hbt
        have hq10 := sub_new (q := kt) (z := some (vlblk [(takeV (itR vStep ([], (pc1 r).2) (i0)).2).1])) hq9 (upd_other _ _ (by omega))
        have hq11 := sub_new (q := Q) (z := some { cells := vals3 (itR vStep ([], (pc1 r).2) (i0)).1 ++ vals3 [(takeV (itR vStep ([], (pc1 r).2) (i0)).2).1], elem := 59, kind := .grow, esz := 3 }) hq10 (upd_other _ _ (by omega))
        refine ⟨by exact subA, ?_⟩
        refine aOpsF_1 [51] rfl rfl (by kernel_rfl) rfl (AOp.buildH (vals3 [(takeV (itR vStep ([], (pc1 r).2) (i0)).2).1]) rfl rfl (by show 0 < 3; decide) (by show 3 ≤ 16777216; decide) rfl rfl ?_)
        refine ⟨by exact subA, ?_⟩
        refine aOpsF_1 [49, 52] rfl rfl (by kernel_rfl) rfl (AOp.append' (b := vlblk (itR vStep ([], (pc1 r).2) (i0)).1) (m := 1) (news := vals3 [(takeV (itR vStep ([], (pc1 r).2) (i0)).2).1]) rfl rfl rfl hpA (srcOf_grow (b := vlblk [(takeV (itR vStep ([], (pc1 r).2) (i0)).2).1]) hpA rfl rfl) rfl rfl rfl (by first | exact vals3_len' _ | exact (vals3_len' _).symm) srcOk_sl (vals3_one' _) (by omega) (by omega) ?_)
        refine ⟨by exact subA, ?_⟩
        refine aOpsF_end ?_
        refine AnyA.float (Hq := (fun _ => none)) [] [6, 7] (by kernel_rfl) (Nat.le_of_ble_eq_true rfl) (by kernel_rfl) (sub_none _) ?_
        refine DrawF.done ?_
        show aOpsF _ _ _ _ _ _ [6, 7] ⟨_, _, _⟩
        refine aOpsF_1 [5] rfl rfl (by kernel_rfl) rfl (AOp.fieldAddr' rfl (by decide) rfl ?_)
        refine ⟨sub_none _, ?_⟩
        refine aOpsF_0 [54, 53] rfl rfl (by kernel_rfl) rfl ?_
        refine AOp.store1 (b := ?b7) rfl rfl rfl ?hn7 ?hk7 rfl rfl ?hl7 ?hR7
        (case hn7 => exact hpA)
        (case hk7 => rfl)
        (case hl7 => first | (simp; done) | exact Nat.le_of_ble_eq_true rfl)
        refine ⟨sub_none _, ?_⟩
        refine aOpsF_end ?_
        show ACode _ _ _ _ _ _
        refine ACode.region' [0, 1, 2] (by kernel_rfl) rfl ?_
        refine aOps_1 rfl rfl rfl (AOp.move' (.inl rfl) rfl ?_)
        refine aOps_1 rfl rfl rfl (AOp.add rfl rfl rfl (i64_wrap (by omega) (by omega)) ?_)
        refine aOps_1 rfl rfl rfl (AOp.move' (.inr rfl) rfl ?_)
        refine aOps_end ?_
        have hsn : vlblk ((itR vStep ([], (pc1 r).2) (i0)).1 ++ [(takeV (itR vStep ([], (pc1 r).2) (i0)).2).1]) = { cells := vals3 (itR vStep ([], (pc1 r).2) (i0)).1 ++ vals3 [(takeV (itR vStep ([], (pc1 r).2) (i0)).2).1], elem := 59, kind := .grow, esz := 3 } := by unfold vlblk; rw [vals3_snoc]
        have hln : ((itR vStep ([], (pc1 r).2) (i0)).1 ++ [(takeV (itR vStep ([], (pc1 r).2) (i0)).2).1]).length = (itR vStep ([], (pc1 r).2) (i0)).1.length + 1 := by rw [List.length_append]; rfl
        have hAt : Away A (takeV (itR vStep ([], (pc1 r).2) (i0)).2).2.bs.length (k + 1) := by rw [takeV_bs, hbi]; exact hAk1
        have hAt2 : Away A (takeV (itR vStep ([], (pc1 r).2) (i0)).2).2.bs.length Q := by rw [takeV_bs, hbi]; exact hAc
        first | refine thenA_n ?_ | simp only [thenA, blockA, if_true]
        exact NextG.mk (by omega) (by omega) ((upd (upd (upd HLt kt (some (vlblk [(takeV (itR vStep ([], (pc1 r).2) (i0)).2).1]))) Q (some (vlblk ((itR vStep ([], (pc1 r).2) (i0)).1 ++ [(takeV (itR vStep ([], (pc1 r).2) (i0)).2).1])))) (k + 1) (some (pblk (r.fix1.1 : Int) (pcol r) (.slice (some ⟨Q, 0, some 1⟩) ((itR vStep ([], (pc1 r).2) (i0)).1 ++ [(takeV (itR vStep ([], (pc1 r).2) (i0)).2).1]).length ((itR vStep ([], (pc1 r).2) (i0)).1 ++ [(takeV (itR vStep ([], (pc1 r).2) (i0)).2).1]).length) NIL)))) (.cons (show _ = some (Value.int .i64 (((i0 + 1 : Nat)) : Int)) from rfl) .nil) (.cons rfl (.cons rfl (.cons rfl (.cons rfl (.cons rfl .nil))))) (by rw [hsn, hln]; exact sub_refl _) ⟨(upd_other _ _ (by omega)).trans (upd_same _ _ _), upd_same _ _ _, sub_new (sub_new (sub_new (sub_cutn hS0 hsLt) (none_n (hf _ (by omega)))) (none_n (hf Q (by omega)))) hk1, ((hRt.sub (sub_upd' (sub_refl _) (hfLt _ (Nat.le_refl _)))).away (by omega) hAt2).away (by omega) hAt, (pvals_raw r).trans (runR_step ((pvals_raw r).symm.trans hx5) c3b.1 c3b.2), fun _ => hr00, (upd_other _ _ (by omega)).trans ((upd_other _ _ (by omega)).trans ((upd_other _ _ (by omega)).trans hzt))⟩
      · skip
        have c3f := of_decide_eq_false (hlc3.symm.trans c3)
        have hrun : pvals r = (itR vStep ([], (pc1 r).2) (i0)) := run_end hx5 (by omega)
        refine ACode.exit ?_
        show ACode _ _ _ _ _ _
        refine ACode.seq ?_
        have hb0v : HL0 (k + 1) = some (pblk (r.fix1.1 : Int) (pcol r) (.slice (some ⟨Q, 0, some 1⟩) (pvals r).1.length (pvals r).1.length) NIL) := by rw [hrun]; exact hb0
        have hq0v : HL0 Q = some (vlblk (pvals r).1) := by rw [hrun]; exact hq0
        refine ACode.region' [0, 1, 2] (by kernel_rfl) rfl ?_
        refine aOps_1 rfl rfl rfl (AOp.move' (.inl rfl) rfl ?_)
        refine aOps_1 rfl rfl rfl ?_
        refine AOp.call' rfl rfl rfl (rvar _ _ n c A (pvals r).2 (by rw [hrun]; exact hR0)) ?_
        rintro _ HLd kd ⟨rfl, hPd⟩
        have hkd := hPd.1
        have hfLd := hPd.2.1
        have hsLd := hPd.2.2.1
        have hRd := hPd.2.2.2
        have hnd := hRd.hn
        have thsLd := SubS.of hsLd
        have hbd : HLd (k + 1) = some (pblk (r.fix1.1 : Int) (pcol r) (.slice (some ⟨Q, 0, some 1⟩) (pvals r).1.length (pvals r).1.length) NIL) := hsLd _ _ ((upd_other _ _ (by omega)).trans hb0v)
        have hzd : HLd k = some (pblk 0 0 NIL NIL) := hsLd _ _ ((upd_other _ _ (by omega)).trans hz0)
        have hqd : HLd Q = some (vlblk (pvals r).1) := hsLd _ _ ((upd_other _ _ (by omega)).trans hq0v)
        have hSd := sub_cutn hS0 hsLd
        rw [show (pvals r).2.var.1 = raw2 r from rfl]
        have hrw2 : (pvals r).2.var.1 = raw2 r := rfl
        refine aOps_1 rfl rfl rfl (AOp.move' (.inr rfl) rfl ?_)
        refine aOps_end ?_
        show ACode _ _ _ _ _ _
        refine ACode.meet (γ := Unit) (fun g => []) [(0, _), (1, _), (4, _), (5, _), (6, _), (7, _), (8, _), (35, _), (36, _), (37, _), (38, _), (39, _), (40, _), (41, _), (42, _), (43, _), (44, _), (45, _), (55, _), (56, _)] (.cons rfl (.cons rfl (.cons rfl (.cons rfl (.cons rfl (.cons rfl (.cons rfl (.cons rfl (.cons rfl (.cons rfl (.cons rfl (.cons rfl (.cons rfl (.cons rfl (.cons rfl (.cons rfl (.cons rfl (.cons rfl (.cons rfl (.cons rfl .nil)))))))))))))))))))) (fun g H' k' => k + 2 ≤ k' ∧ Q < k' ∧ Ab.Sub (upd H n none) H' ∧ H' (k + 1) = some (pblk (r.fix1.1 : Int) (pcol r) (.slice (some ⟨Q, 0, some 1⟩) (pvals r).1.length (pvals r).1.length) NIL) ∧ H' Q = some (vlblk (pvals r).1) ∧ H' k = some (pblk 0 0 NIL NIL) ∧ RfN H' n A c (pc2 r).2) ?_ (fun g HLe ke hfLe hXe => ?_)
        · show ACode _ _ _ _ _ _
          refine ACode.seq ?_
          refine ACode.region' [0, 1] (by kernel_rfl) rfl ?_
          refine aOps_1 rfl rfl rfl (AOp.move' (.inl rfl) rfl ?_)
          refine aOps_1 rfl rfl rfl (AOp.bin' rfl rfl rfl rfl ?_)
          refine aOps_end ?_
          show ACode _ _ _ _ _ _
          refine ACode.cond rfl (fun c4 => ?_) (fun c4 => ?_)
          · try simp only [decide_eq_true_eq, decide_eq_false_iff_not, beq_iff_eq, beq_eq_false_iff_ne, ne_eq, bne_iff_ne, Bool.not_eq_true', Bool.not_eq_false', Int.not_lt, Int.not_le, gt_iff_lt, ge_iff_le, bne_eq_false_iff_eq, Bool.not_eq_eq_eq_not, Bool.not_true, Bool.not_false] at c4
            have hpd : (pc2 r).2 = (pvals r).2.var.2.fail 12 := congrArg Prod.snd (show pc2 r = (0, (pvals r).2.var.2.fail 12) from if_pos (by omega))
            refine ACode.region' [0, 1] (by kernel_rfl) rfl ?_
            refine aOps_1 rfl rfl rfl (AOp.move' (.inl rfl) rfl ?_)
            refine aOps_1 rfl rfl rfl ?_
            refine AOp.call' rfl rfl rfl (rfail _ _ n c A (pvals r).2.var.2 hRd 12 (by decide) (by decide)) ?_
            rintro _ HLh kh ⟨rfl, hPh⟩
            have hkh := hPh.1
            have hfLh := hPh.2.1
            have hsLh := hPh.2.2.1
            have hRh := hPh.2.2.2
            have hnh := hRh.hn
            have thsLh := SubS.of hsLh
            have hbh : HLh (k + 1) = some (pblk (r.fix1.1 : Int) (pcol r) (.slice (some ⟨Q, 0, some 1⟩) (pvals r).1.length (pvals r).1.length) NIL) := hsLh _ _ ((upd_other _ _ (by omega)).trans hbd)
            have hzh : HLh k = some (pblk 0 0 NIL NIL) := hsLh _ _ ((upd_other _ _ (by omega)).trans hzd)
            have hqh : HLh Q = some (vlblk (pvals r).1) := hsLh _ _ ((upd_other _ _ (by omega)).trans hqd)
            have hSh := sub_cutn hSd hsLh
            refine aOps_end ?_
            first | refine thenA_n ?_ | simp only [thenA, blockA, if_true]
            exact ⟨(), has_append .nil (.cons rfl (.cons rfl (.cons rfl (.cons rfl (.cons rfl (.cons rfl (.cons rfl (.cons rfl (.cons rfl (.cons rfl (.cons rfl (.cons rfl (.cons rfl (.cons rfl (.cons rfl (.cons rfl (.cons rfl (.cons rfl (.cons rfl (.cons rfl .nil)))))))))))))))))))), (by (try dsimp only); exact ⟨by omega, by omega, hSh, hbh, hqh, hzh, by rw [hpd]; exact hRh⟩)⟩
          · try simp only [decide_eq_true_eq, decide_eq_false_iff_not, beq_iff_eq, beq_eq_false_iff_ne, ne_eq, bne_iff_ne, Bool.not_eq_true', Bool.not_eq_false', Int.not_lt, Int.not_le, gt_iff_lt, ge_iff_le, bne_eq_false_iff_eq, Bool.not_eq_eq_eq_not, Bool.not_true, Bool.not_false] at c4
            have hpd : (pc2 r).2 = (pvals r).2.var.2 := congrArg Prod.snd (show pc2 r = ((pvals r).2.var.1, (pvals r).2.var.2) from if_neg (by omega))
            refine ACode.skip ?_
            first | refine thenA_n ?_ | simp only [thenA, blockA, if_true]
            exact ⟨(), has_append .nil (.cons rfl (.cons rfl (.cons rfl (.cons rfl (.cons rfl (.cons rfl (.cons rfl (.cons rfl (.cons rfl (.cons rfl (.cons rfl (.cons rfl (.cons rfl (.cons rfl (.cons rfl (.cons rfl (.cons rfl (.cons rfl (.cons rfl (.cons rfl .nil)))))))))))))))))))), (by (try dsimp only); exact ⟨by omega, by omega, hSd, hbd, hqd, hzd, by rw [hpd]; exact hRd⟩)⟩
        · show ACode _ _ _ _ _ ⟨_, _, _⟩
          obtain ⟨hke, hkeQ, hSe, hbe, hqe, hze, hRe⟩ := hXe
          refine ACode.seq ?_
          refine ACode.seq ?_
          refine ACode.region' [0] (by kernel_rfl) rfl ?_
          refine aOps_1 rfl rfl rfl (AOp.move' (.inr rfl) rfl ?_)
          refine aOps_end ?_
          show ACode _ _ _ _ _ _
          refine ACode.block ?_
          have hW0 : HLe ke = none := hfLe ke (Nat.le_refl _)
          have hAd : Away A r.bs.length ke := by have h := Away.of hRe.hs hW0; rw [hbc2] at h; exact h
          obtain ⟨W, hW⟩ : ∃ W, W = ke := ⟨_, rfl⟩
          refine ACode.adoptC 32 4 (by decide) (j := 3) hbe rfl rfl ?_
          subst hW
          have hkW : k + 1 < W ∧ Q < W := by omega
          refine ACode.countG (γ := Hp × List Value) (fun i g => [(9, .int .i64 (i : Int))]) [(0, _), (1, _), (4, _), (5, _), (6, _), (7, _), (8, _), (35, _), (36, _), (37, _), (38, _), (39, _), (40, _), (41, _), (42, _), (43, _), (44, _), (45, _), (55, _), (56, _)] (fun i g => g.1) (raw2 r) (fun i g => g.1 W = some (oblk g.2) ∧ g.1 (k + 1) = some (pblk (r.fix1.1 : Int) (pcol r) (.slice (some ⟨Q, 0, some 1⟩) (pvals r).1.length (pvals r).1.length) (.slice (some ⟨W, 0, some 1⟩) (itR (pStep (takeP f)) ([], (pc2 r).2) (i)).1.length (itR (pStep (takeP f)) ([], (pc2 r).2) (i)).1.length)) ∧ g.1 Q = some (vlblk (pvals r).1) ∧ Ab.Sub (upd H n none) g.1 ∧ RfN g.1 n A c (itR (pStep (takeP f)) ([], (pc2 r).2) (i)).2 ∧ (runR (pStep (takeP f)) (raw2 r) ([], (pc2 r).2)) = runR (pStep (takeP f)) (raw2 r - i) (itR (pStep (takeP f)) ([], (pc2 r).2) (i)) ∧ PdVs (cutQ g.1 (k + 2) W) (itR (pStep (takeP f)) ([], (pc2 r).2) (i)).1 g.2 ∧ (itR (pStep (takeP f)) ([], (pc2 r).2) (i)).2.bs = r.bs ∧ (itR (pStep (takeP f)) ([], (pc2 r).2) (i)).1.length = i ∧ (0 < i → (pc2 r).2.e = 0) ∧ g.1 k = some (pblk 0 0 NIL NIL)) ((upd (upd HLe W (some (oblk []))) (k + 1) (some (pblk (r.fix1.1 : Int) (pcol r) (.slice (some ⟨Q, 0, some 1⟩) (pvals r).1.length (pvals r).1.length) (.slice (some ⟨W, 0, some 1⟩) ([] : List Pd).length ([] : List Pd).length))), [])) (.cons rfl .nil) (.cons rfl (.cons rfl (.cons rfl (.cons rfl (.cons rfl (.cons rfl (.cons rfl (.cons rfl (.cons rfl (.cons rfl (.cons rfl (.cons rfl (.cons rfl (.cons rfl (.cons rfl (.cons rfl (.cons rfl (.cons rfl (.cons rfl (.cons rfl .nil)))))))))))))))))))) (by exact sub_refl _) ⟨(upd_other _ _ (by omega)).trans (upd_same _ _ _), upd_same _ _ _, (upd_other _ _ (by omega)).trans ((upd_other _ _ (by omega)).trans hqe), sub_new (sub_new hSe (none_n (hf W (by omega)))) hk1, (hRe.sub (sub_upd' (sub_refl _) hW0)).away (by omega) (by rw [hbc2]; exact hAk1), rfl, PdVs.nil, hbc2, rfl, fun h => absurd h (Nat.lt_irrefl 0), (upd_other _ _ (by omega)).trans ((upd_other _ _ (by omega)).trans hze)⟩ (fun i1 g1 kL1 HL1 hiL1 hkL1 hsL1 hfL1 hxL1 => ?_)
          show ACode _ _ _ _ _ ⟨_, _, _⟩
          have tsL1 := SubS.of hsL1
          obtain ⟨hy1, hy2, hy3, hy4, hy6, hy5, hy7, hy8, hy9, hy10, hy11⟩ := hxL1
          have hd1 := hsL1 _ _ hy1
          have hb1x := hsL1 _ _ hy2
          have hq1 := hsL1 _ _ hy3
          have hz1 := hsL1 _ _ hy11
          have hS1x := sub_trans hy4 hsL1
          have hR1x := hy6.sub hsL1
          have hn1x := hR1x.hn
          have hvl := hy7.len
          refine ACode.seq ?_
          refine ACode.seq ?_
          refine ACode.region' [0, 1, 2, 3, 4, 5, 6, 7, 8, 9, 10] (by kernel_rfl) rfl ?_
          refine aOps_1 rfl rfl rfl (AOp.move' (.inl rfl) rfl ?_)
          refine aOps_1 rfl rfl rfl (AOp.move' (.inl rfl) rfl ?_)
          refine aOps_1 rfl rfl rfl (AOp.convInt rfl rfl ?_)
          refine aOps_1 rfl rfl rfl (AOp.bin' rfl rfl rfl rfl ?_)
          refine aOps_1 rfl rfl rfl (AOp.move' (.inl rfl) rfl ?_)
          refine aOps_gd0 rfl rfl (wantT rfl rfl rfl) (fun hc => AOp.slots [(0, _)] (.cons rfl .nil) (AOp.move' (.inl rfl) rfl ⟨rfl, rfl, rfl⟩)) ?_
          refine aOps_gd0 rfl rfl (wantT rfl rfl rfl) (fun hc => AOp.slots [(66, _)] (.cons (gvT rfl hc) .nil) (AOp.nilCheck' rfl rfl ⟨rfl, rfl, rfl⟩)) ?_
          refine aOps_gd0 rfl rfl (wantT rfl rfl rfl) (fun hc => AOp.slots [(67, _)] (.cons (gvT rfl hc) .nil) (AOp.fieldAddr' rfl (by decide) rfl ⟨rfl, rfl, rfl⟩)) ?_
          refine aOps_gd0 rfl rfl (wantT rfl rfl rfl) (fun hc => AOp.slots [(68, _)] (.cons (gvT rfl hc) .nil) ((by refine AOp.load1 (b := ?b8) (v := ?v8) rfl rfl ?hn8 ?hv8 ?hR8; (case hn8 => exact hpA); (case hv8 => rfl); exact ⟨rfl, rfl, rfl⟩))) ?_
          refine aOps_gd0 rfl rfl (wantT rfl rfl rfl) (fun hc => AOp.slots [(69, _)] (.cons (gvT rfl hc) .nil) (AOp.bin' rfl rfl rfl rfl ⟨rfl, rfl, rfl⟩)) ?_
          refine aOps_1 rfl rfl rfl (AOp.pickAnd rfl rfl rfl (fun hb => gvE rfl hb) ?_)
          refine aOps_end ?_
          show ACode _ _ _ _ _ _
          have hlc5 := rloop_c (i := i1) (m := raw2 r) (e := (itR (pStep (takeP f)) ([], (pc2 r).2) (i1)).2.e) (e0 := (pc2 r).2.e) (fun h he => by subst h; exact he) hy10 (fun h => Nat.le_trans (cntR_le h) (by decide)) hiL1
          refine ACode.cond rfl (fun c5 => ?_) (fun c5 => ?_)
          · skip
            have c5b := of_decide_eq_true (hlc5.symm.trans c5)
            have hs00 : (pc2 r).2.e = 0 := (Nat.eq_zero_or_pos i1).elim (fun h => by have h2 := c5b.2; rw [h] at h2; exact h2) hy10
            have hhs002 : raw2 r ≤ 256 := cntR_le hs00
            refine ACode.skip ?_
            show ACode _ _ _ _ _ _
            refine ACode.seq ?_
            refine ACode.block ?_
            have hq8 := sub_one hb1x
            refine ACode.any mixed (by kernel_rfl) ?_
            refine AnyA.split 8 (by kernel_rfl) (by kernel_rfl) (by decide) (by decide) (Nat.le_of_ble_eq_true rfl) ?_
            refine AnyA.float (Hq := (upd (fun _ => none) (k + 1) (some (pblk (r.fix1.1 : Int) (pcol r) (.slice (some ⟨Q, 0, some 1⟩) (pvals r).1.length (pvals r).1.length) (.slice (some ⟨W, 0, some 1⟩) (itR (pStep (takeP f)) ([], (pc2 r).2) (i1)).1.length (itR (pStep (takeP f)) ([], (pc2 r).2) (i1)).1.length))))) [(0, 74), (1, 75), (2, 76), (3, 77), (4, 78)] [5, 6, 7] (by kernel_rfl) (Nat.le_of_ble_eq_true rfl) (by kernel_rfl) subA ?_
            refine DrawF.q 0 74 [(5, none)] rfl (by kernel_rfl) rfl (fun Hc kq hSb => AOp.fieldAddr' rfl (by decide) rfl ⟨rfl, rfl, rfl⟩) ?_
            refine DrawF.q 1 75 [(74, some 0)] rfl (by kernel_rfl) rfl (fun Hc kq hSb => have tSb := SubS.of hSb; (by refine AOp.load1 (b := ?b9) (v := ?v9) rfl rfl ?hn9 ?hv9 ?hR9; (case hn9 => exact hpA); (case hv9 => rfl); exact ⟨rfl, rfl, rfl⟩)) ?_
            refine DrawF.q 2 76 [(0, none)] rfl (by kernel_rfl) rfl (fun Hc kq hSb => AOp.move' (.inl rfl) rfl ⟨rfl, rfl, rfl⟩) ?_
            refine DrawF.q 3 77 [(1, none)] rfl (by kernel_rfl) rfl (fun Hc kq hSb => AOp.move' (.inl rfl) rfl ⟨rfl, rfl, rfl⟩) ?_
            refine DrawF.q 4 78 [(77, some 3)] rfl (by kernel_rfl) rfl (fun Hc kq hSb => AOp.add rfl rfl rfl (i64_wrap (by omega) (by omega)) ⟨rfl, rfl, rfl⟩) ?_
            refine DrawF.done ?_
            show aOpsF _ _ _ _ _ _ [5, 6, 7] ⟨_, _, _⟩
            refine aOpsF_1 [76, 78] rfl rfl (by kernel_rfl) rfl ?_
            refine AOp.call' rfl rfl rfl (ih _ _ (itR (pStep (takeP f)) ([], (pc2 r).2) (i1)).2 hR1x) ?_
            rintro vu HLu ku ⟨hVu, hPu⟩
            have hku := hPu.1
            have hfLu := hPu.2.1
            have hsLu := hPu.2.2.1
            have hRu := hPu.2.2.2
            have thsLu := SubS.of hsLu
            have hVu1 := hVu.one'
            have hdu : HLu W = some (oblk g1.2) := hsLu _ _ ((upd_other _ _ (by omega)).trans hd1)
            have hqu : HLu Q = some (vlblk (pvals r).1) := hsLu _ _ ((upd_other _ _ (by omega)).trans hq1)
            have hzu : HLu k = some (pblk 0 0 NIL NIL) := hsLu _ _ ((upd_other _ _ (by omega)).trans hz1)
            have hbu : HLu (k + 1) = some (pblk (r.fix1.1 : Int) (pcol r) (.slice (some ⟨Q, 0, some 1⟩) (pvals r).1.length (pvals r).1.length) (.slice (some ⟨W, 0, some 1⟩) (itR (pStep (takeP f)) ([], (pc2 r).2) (i1)).1.length (itR (pStep (takeP f)) ([], (pc2 r).2) (i1)).1.length)) := hsLu _ _ ((upd_other _ _ (by omega)).trans hb1x)
            have hq9 := sub_one hbu
            have hq10 := sub_new (q := ku) (z := some (oblk vu.cells.toList)) hq9 (upd_other _ _ (by omega))
            have hq11 := sub_new (q := W) (z := some (oblk (g1.2 ++ vu.cells.toList))) hq10 (upd_other _ _ (by omega))
            refine ⟨by exact subA, ?_⟩
            refine aOpsF_1 [79] rfl rfl (by kernel_rfl) rfl (AOp.buildH vu.cells.toList (hVu.agg.1.trans (by rw [Array.toArray_toList])) hVu.agg.2 (by decide) (by decide) rfl rfl ?_)
            refine ⟨by exact subA, ?_⟩
            refine aOpsF_1 [75, 80] rfl rfl (by kernel_rfl) rfl (AOp.append' (b := oblk g1.2) (m := 1) (news := vu.cells.toList) rfl rfl rfl hpA (srcOf_grow (b := oblk vu.cells.toList) hpA rfl hVu.agg.2.symm) rfl rfl rfl (by first | exact hvl.symm | exact hvl) srcOk_sl hVu1 (by omega) (by omega) ?_)
            refine ⟨by exact subA, ?_⟩
            refine aOpsF_end ?_
            refine AnyA.float (Hq := (fun _ => none)) [] [8, 9] (by kernel_rfl) (Nat.le_of_ble_eq_true rfl) (by kernel_rfl) (sub_none _) ?_
            refine DrawF.done ?_
            show aOpsF _ _ _ _ _ _ [8, 9] ⟨_, _, _⟩
            refine aOpsF_1 [5] rfl rfl (by kernel_rfl) rfl (AOp.fieldAddr' rfl (by decide) rfl ?_)
            refine ⟨sub_none _, ?_⟩
            refine aOpsF_0 [82, 81] rfl rfl (by kernel_rfl) rfl ?_
            refine AOp.store1 (b := ?b10) rfl rfl rfl ?hn10 ?hk10 rfl rfl ?hl10 ?hR10
            (case hn10 => exact hpA)
            (case hk10 => rfl)
            (case hl10 => first | (simp; done) | exact Nat.le_of_ble_eq_true rfl)
            refine ⟨sub_none _, ?_⟩
            refine aOpsF_end ?_
            show ACode _ _ _ _ _ _
            refine ACode.region' [0, 1, 2] (by kernel_rfl) rfl ?_
            refine aOps_1 rfl rfl rfl (AOp.move' (.inl rfl) rfl ?_)
            refine aOps_1 rfl rfl rfl (AOp.add rfl rfl rfl (i64_wrap (by omega) (by omega)) ?_)
            refine aOps_1 rfl rfl rfl (AOp.move' (.inr rfl) rfl ?_)
            refine aOps_end ?_
            have hln : ((itR (pStep (takeP f)) ([], (pc2 r).2) (i1)).1 ++ [(takeP f (itR (pStep (takeP f)) ([], (pc2 r).2) (i1)).2).1]).length = (itR (pStep (takeP f)) ([], (pc2 r).2) (i1)).1.length + 1 := by rw [List.length_append]; rfl
            have hbs2 : (takeP f (itR (pStep (takeP f)) ([], (pc2 r).2) (i1)).2).2.bs = r.bs := (takeP_bs f _).trans hy8
            have hmx : ∀ m b, k + 2 ≤ m → m ≠ W → g1.1 m = some b → (upd (upd (upd HLu ku (some (oblk vu.cells.toList))) W (some (oblk (g1.2 ++ vu.cells.toList)))) (k + 1) (some (pblk (r.fix1.1 : Int) (pcol r) (.slice (some ⟨Q, 0, some 1⟩) (pvals r).1.length (pvals r).1.length) (.slice (some ⟨W, 0, some 1⟩) ((itR (pStep (takeP f)) ([], (pc2 r).2) (i1)).1 ++ [(takeP f (itR (pStep (takeP f)) ([], (pc2 r).2) (i1)).2).1]).length ((itR (pStep (takeP f)) ([], (pc2 r).2) (i1)).1 ++ [(takeP f (itR (pStep (takeP f)) ([], (pc2 r).2) (i1)).2).1]).length)))) m = some b := fun m b hm hmq hb => by
              have hb1 := hsL1 _ _ hb
              have hb2 := hsLu _ _ ((upd_other _ _ (by omega)).trans hb1)
              exact (upd_other _ _ (by omega)).trans ((upd_other _ _ hmq).trans ((upd_other _ _ (fun e => by rw [e, hfLu ku (Nat.le_refl _)] at hb2; cases hb2)).trans hb2))
            have hV2 : PdV (cutQ (upd (upd (upd HLu ku (some (oblk vu.cells.toList))) W (some (oblk (g1.2 ++ vu.cells.toList)))) (k + 1) (some (pblk (r.fix1.1 : Int) (pcol r) (.slice (some ⟨Q, 0, some 1⟩) (pvals r).1.length (pvals r).1.length) (.slice (some ⟨W, 0, some 1⟩) ((itR (pStep (takeP f)) ([], (pc2 r).2) (i1)).1 ++ [(takeP f (itR (pStep (takeP f)) ([], (pc2 r).2) (i1)).2).1]).length ((itR (pStep (takeP f)) ([], (pc2 r).2) (i1)).1 ++ [(takeP f (itR (pStep (takeP f)) ([], (pc2 r).2) (i1)).2).1]).length)))) (k + 2) W) (takeP f (itR (pStep (takeP f)) ([], (pc2 r).2) (i1)).2).1 vu := hVu.sub (fun m b hm => by
              unfold cutH at hm
              split at hm
              · rename_i hc
                rw [cutQ_at (by omega) (by omega)]
                exact (upd_other _ _ (by omega)).trans ((upd_other _ _ (by omega)).trans ((upd_other _ _ (fun e => by rw [e, hfLu ku (Nat.le_refl _)] at hm; cases hm)).trans hm))
              · cases hm)
            have hAu : Away A (takeP f (itR (pStep (takeP f)) ([], (pc2 r).2) (i1)).2).2.bs.length (k + 1) := by rw [hbs2]; exact hAk1
            have hAu2 : Away A (takeP f (itR (pStep (takeP f)) ([], (pc2 r).2) (i1)).2).2.bs.length W := by rw [hbs2]; exact hAd
            first | refine thenA_n ?_ | simp only [thenA, blockA, if_true]
            exact NextG.mk (by omega) (by omega) ((upd (upd (upd HLu ku (some (oblk vu.cells.toList))) W (some (oblk (g1.2 ++ vu.cells.toList)))) (k + 1) (some (pblk (r.fix1.1 : Int) (pcol r) (.slice (some ⟨Q, 0, some 1⟩) (pvals r).1.length (pvals r).1.length) (.slice (some ⟨W, 0, some 1⟩) ((itR (pStep (takeP f)) ([], (pc2 r).2) (i1)).1 ++ [(takeP f (itR (pStep (takeP f)) ([], (pc2 r).2) (i1)).2).1]).length ((itR (pStep (takeP f)) ([], (pc2 r).2) (i1)).1 ++ [(takeP f (itR (pStep (takeP f)) ([], (pc2 r).2) (i1)).2).1]).length))), g1.2 ++ vu.cells.toList)) (.cons (show _ = some (Value.int .i64 (((i1 + 1 : Nat)) : Int)) from rfl) .nil) (.cons rfl (.cons rfl (.cons rfl (.cons rfl (.cons rfl (.cons rfl (.cons rfl (.cons rfl (.cons rfl (.cons rfl (.cons rfl (.cons rfl (.cons rfl (.cons rfl (.cons rfl (.cons rfl (.cons rfl (.cons rfl (.cons rfl (.cons rfl .nil)))))))))))))))))))) (by simp only [hln]; exact sub_refl _) ⟨(upd_other _ _ (by omega)).trans (upd_same _ _ _), upd_same _ _ _, (upd_other _ _ (by omega)).trans ((upd_other _ _ (by omega)).trans ((upd_other _ _ (by omega)).trans hqu)), sub_new (sub_new (sub_new (sub_cutn hS1x hsLu) (none_n (hf _ (by omega)))) (none_n (hf W (by omega)))) hk1, ((hRu.sub (sub_upd' (sub_refl _) (hfLu _ (Nat.le_refl _)))).away (by omega) hAu2).away (by omega) hAu, runR_step hy5 c5b.1 c5b.2, PdVs.snoc hV2 (PdVs.sub (cutQ_sub hmx) hy7), hbs2, by rw [show ((itR (pStep (takeP f)) ([], (pc2 r).2) (i1 + 1))).1 = (itR (pStep (takeP f)) ([], (pc2 r).2) (i1)).1 ++ [(takeP f (itR (pStep (takeP f)) ([], (pc2 r).2) (i1)).2).1] from rfl, hln]; omega, fun _ => hs00, (upd_other _ _ (by omega)).trans ((upd_other _ _ (by omega)).trans ((upd_other _ _ (by omega)).trans hzu))⟩
          · skip
            have c5f := of_decide_eq_false (hlc5.symm.trans c5)
            have hrun2 : (runR (pStep (takeP f)) (raw2 r) ([], (pc2 r).2)) = (itR (pStep (takeP f)) ([], (pc2 r).2) (i1)) := run_end hy5 (by omega)
            refine ACode.exit ?_
            show ACode _ _ _ _ _ _
            refine ACode.seq ?_
            refine ACode.region' [0, 1] (by kernel_rfl) rfl ?_
            refine aOps_1 rfl rfl rfl ?_
            refine AOp.loadAll (b := ?b11) (v := pv (r.fix1.1 : Int) (pcol r) (some ⟨Q, 0, some 1⟩) (pvals r).1.length (pvals r).1.length (some ⟨W, 0, some 1⟩) (itR (pStep (takeP f)) ([], (pc2 r).2) (i1)).1.length (itR (pStep (takeP f)) ([], (pc2 r).2) (i1)).1.length) rfl rfl ?hn11 ?hv11 ?hw11 ?hz11 ?hR11
            (case hn11 => exact hpA)
            (case hv11 => rfl)
            (case hw11 => rfl)
            (case hz11 => first | rfl | (simp; done))
            refine aOps_0 rfl rfl rfl ?_
            refine AOp.storeAll (b := ?b12) rfl rfl rfl ?hn12 ?hk12 rfl ?hw12 ?ho12 ?hl12 ?hR12
            (case hn12 => exact hpA)
            (case hk12 => rfl)
            (case hw12 => first | rfl | (simp; done))
            (case ho12 => first | rfl | decide | (simp; done))
            (case hl12 => first | rfl | (simp; done))
            refine aOps_end ?_
            show ACode _ _ _ _ _ _
            refine ACode.ret ?_
            try simp only [thenA, blockA, if_true]
            have e1 : takeP (f + 1) r = (.mk (r.fix1.1 : Int) (pcol r) (pvals r).1 (itR (pStep (takeP f)) ([], (pc2 r).2) (i1)).1, (itR (pStep (takeP f)) ([], (pc2 r).2) (i1)).2) := by
              have h9 : runR (pStep (takeP f)) (pc2 r).1 ([], (pc2 r).2) = (itR (pStep (takeP f)) ([], (pc2 r).2) (i1)) := (cntR_raw (pStep (takeP f)) [] (pvals r).2).trans hrun2
              show ((.mk (r.fix1.1 : Int) (pcol r) (pvals r).1 (runR (pStep (takeP f)) (pc2 r).1 ([], (pc2 r).2)).1 : Pd), (runR (pStep (takeP f)) (pc2 r).1 ([], (pc2 r).2)).2) = _
              rw [h9]
            rw [e1]
            have hRz : RfN (upd HL1 k (some (pblk (r.fix1.1 : Int) (pcol r) (.slice (some ⟨Q, 0, some 1⟩) (pvals r).1.length (pvals r).1.length) (.slice (some ⟨W, 0, some 1⟩) (itR (pStep (takeP f)) ([], (pc2 r).2) (i1)).1.length (itR (pStep (takeP f)) ([], (pc2 r).2) (i1)).1.length)))) n A c (itR (pStep (takeP f)) ([], (pc2 r).2) (i1)).2 := hR1x.away (by omega) (by rw [hy8]; exact hAk)
            have hPz : ∀ kz, kL1 ≤ kz → k ≤ kz → RfP H k n A c (itR (pStep (takeP f)) ([], (pc2 r).2) (i1)).2 (upd HL1 k (some (pblk (r.fix1.1 : Int) (pcol r) (.slice (some ⟨Q, 0, some 1⟩) (pvals r).1.length (pvals r).1.length) (.slice (some ⟨W, 0, some 1⟩) (itR (pStep (takeP f)) ([], (pc2 r).2) (i1)).1.length (itR (pStep (takeP f)) ([], (pc2 r).2) (i1)).1.length)))) kz := fun kz h1 h3 => ⟨h3, (fun m hm => (upd_other _ _ (by omega)).trans (hfL1 m (by omega))), sub_new hS1x hk0, hRz⟩
            have hlen1 := hpv.2.2.2
            have hlen2 : (itR (pStep (takeP f)) ([], (pc2 r).2) (i1)).1.length ≤ 256 := (Nat.eq_zero_or_pos i1).elim (fun h => by omega) (fun h => by have h5 := cntR_le (hy10 h); have e : (pvals r).2.var.1 = raw2 r := rfl; omega)
            have hcr : -9223372036854775808 ≤ pcol r ∧ pcol r ≤ 9223372036854775807 := by rw [pcol, IntKind.wrap_i64]; omega
            have hVz : PdV (cutH (upd HL1 k (some (pblk (r.fix1.1 : Int) (pcol r) (.slice (some ⟨Q, 0, some 1⟩) (pvals r).1.length (pvals r).1.length) (.slice (some ⟨W, 0, some 1⟩) (itR (pStep (takeP f)) ([], (pc2 r).2) (i1)).1.length (itR (pStep (takeP f)) ([], (pc2 r).2) (i1)).1.length)))) k) (.mk (r.fix1.1 : Int) (pcol r) (pvals r).1 (itR (pStep (takeP f)) ([], (pc2 r).2) (i1)).1) (pv (r.fix1.1 : Int) (pcol r) (some ⟨Q, 0, some 1⟩) (pvals r).1.length (pvals r).1.length (some ⟨W, 0, some 1⟩) (itR (pStep (takeP f)) ([], (pc2 r).2) (i1)).1.length (itR (pStep (takeP f)) ([], (pc2 r).2) (i1)).1.length) := PdV.intro (SLC.vlblk ((cutH_at (by omega)).trans ((upd_other _ _ (by omega)).trans hq1))).cells (by omega) (by omega) (by omega) hcr hpv.2.2.1 (SLC.grow (b := oblk g1.2) ((cutH_at (by omega)).trans ((upd_other _ _ (by omega)).trans hd1)) rfl hvl.symm) (PdVs.sub (fun m b hm => by
              unfold cutQ at hm
              split at hm
              · rename_i hc
                exact (cutH_at (by omega)).trans ((upd_other _ _ (by omega)).trans (hsL1 _ _ hm))
              · cases hm) hy7)
            exact RetQ.cell rfl rfl (aloadAll (b := pblk (r.fix1.1 : Int) (pcol r) (.slice (some ⟨Q, 0, some 1⟩) (pvals r).1.length (pvals r).1.length) (.slice (some ⟨W, 0, some 1⟩) (itR (pStep (takeP f)) ([], (pc2 r).2) (i1)).1.length (itR (pStep (takeP f)) ([], (pc2 r).2) (i1)).1.length)) (v := pv (r.fix1.1 : Int) (pcol r) (some ⟨Q, 0, some 1⟩) (pvals r).1.length (pvals r).1.length (some ⟨W, 0, some 1⟩) (itR (pStep (takeP f)) ([], (pc2 r).2) (i1)).1.length (itR (pStep (takeP f)) ([], (pc2 r).2) (i1)).1.length) (upd_same _ _ _) rfl rfl rfl) (sub_refl _) (hPz (max kL1 k) (Nat.le_max_left _ _) (Nat.le_max_right _ _)).stays (fun hk => ⟨hVz, hPz _ (by omega) (by omega)⟩)
end

end Go.Proofs.YteoofihjmldllaaDoor
