/- Contracts over the abstract states: counts and predicates out of readers. -/
import Derived.Test.YteoofihjmldllaaDoorRW
import Derived.Test.YteoofihjmldllaaDoorRM
set_option linter.unusedVariables false
set_option linter.unusedSimpArgs false
set_option maxRecDepth 100000
namespace Go.Proofs.YteoofihjmldllaaDoor
open Go Go.Ab

theorem known_yes {m : Nat} (h : (!known (m : Int)) = false) : m < 13 := by
  unfold known at h
  simp at h
  omega
theorem known_no {m : Nat} (h : (!known (m : Int)) = true) : ¬ m < 13 := by
  unfold known at h
  simp at h
  omega
abbrev NIL : Value := .slice none 0 0
abbrev pblk (op col : Int) (v o : Value) : Blk := { cells := [.int .i64 op, .int .i64 col, v, o], elem := 32, kind := .fix }
theorem PdV.one' {H : Hp} {p : Pd} {v : Value} (h : PdV H p v) : ∀ u ∈ v.cells.toList, u.oneCell' = true := by
  obtain ⟨op, col, A, l, c, B, m, d, rfl⟩ := h.form
  intro u hu
  have hu : u ∈ ([.int .i64 op, .int .i64 col, .slice A l c, .slice B m d] : List Value) := hu
  simp only [List.mem_cons, List.not_mem_nil, or_false] at hu
  rcases hu with rfl | rfl | rfl | rfl <;> rfl
theorem takeP_bs : ∀ (f : Nat) (r : Rd), (takeP f r).2.bs = r.bs
  | 0, r => Rd.fail_bs r 18
  | f + 1, r => by
    obtain ⟨i, hi⟩ := runR_it (pStep (takeP f)) (pc2 r).1 ([], (pc2 r).2)
    have h1 : ∀ i, (itR (pStep (takeP f)) ([], (pc2 r).2) i).2.bs = (pc2 r).2.bs := by
      intro i
      induction i with
      | zero => rfl
      | succ i ih => exact (takeP_bs f _).trans ih
    show (runR (pStep (takeP f)) (pc2 r).1 ([], (pc2 r).2)).2.bs = r.bs
    rw [hi, h1]
    obtain ⟨j, hj⟩ := runR_it vStep (pc1 r).1 ([], (pc1 r).2)
    refine (cntR_bs _).trans ?_
    unfold pvals
    rw [hj, itV_bs]
    exact (cntR_bs _).trans ((Rd.var_bs _).trans (pr1_bs r))
abbrev oblk (bs : List Value) : Blk := { cells := bs, elem := 32, kind := .grow, esz := 4 }
theorem sub_one {H : Hp} {k : Nat} {b : Blk} (h : H k = some b) : Ab.Sub (upd (fun _ => none) k (some b)) H := fun m c hm => by
  by_cases e : m = k
  · subst e; rw [upd_same] at hm; injection hm with hm; subst hm; exact h
  · rw [upd_other _ _ e] at hm; cases hm
section
variable (H : Hp) (k : Nat)

theorem ngoodP (h2 : H 1 = some hBlk) (n c : Nat) (A : Option Addr) (ev : Value) (r : Rd) (hR : RdN H n A c ev r) : ACalls Tryd.prog 3 39 [ptr n 0 none] H k (Same H k (.bool (decide (r.e = 0)))) := by
  refine ACalls.fresh fun hf => ?_
  refine ACalls.body Tryd.func39 rfl (Nat.le_of_ble_eq_true rfl) ?_
  refine ACode.seq ?_
  refine ACode.region' [0] (by kernel_rfl) rfl ?_
  refine aOps_1 rfl rfl rfl (AOp.move' (.inr rfl) rfl ?_)
  refine aOps_end ?_
  show ACode _ _ _ _ _ _
  refine ACode.seq ?_
  refine ACode.region' [0, 1, 2, 3, 4, 5, 6] (by kernel_rfl) rfl ?_
  refine aOps_1 rfl rfl rfl (AOp.move' (.inl rfl) rfl ?_)
  refine aOps_q rfl rfl rfl (AOp.call' rfl rfl rfl (nerr _ _ hpA n c A ev r (hR.sub subA)) (fun _ _ _ h => h)) (fun kq hkq => ?_)
  refine aOps_1 rfl rfl rfl (AOp.move' (.inl rfl) rfl ?_)
  refine aOps_1 rfl rfl rfl (AOp.extract' rfl rfl rfl ?_)
  refine aOps_1 rfl rfl rfl (AOp.extract' rfl rfl rfl ?_)
  refine aOps_1 rfl rfl rfl (AOp.move' (.inr rfl) rfl ?_)
  refine aOps_1 rfl rfl rfl (AOp.move' (.inr rfl) rfl ?_)
  refine aOps_end ?_
  show ACode _ _ _ _ _ _
  refine ACode.seq ?_
  refine ACode.region' [0, 1, 2] (by kernel_rfl) rfl ?_
  refine aOps_1 rfl rfl rfl (AOp.move' (.inl rfl) rfl ?_)
  refine aOps_1 rfl rfl rfl (AOp.bin' rfl rfl rfl rfl ?_)
  refine aOps_1 rfl rfl rfl (AOp.move' (.inr rfl) rfl ?_)
  refine aOps_end ?_
  show ACode _ _ _ _ _ _
  refine ACode.ret ?_
  exact RetQ.one rfl rfl subA stays (fun hk => ⟨rfl, rfl, by omega⟩)

theorem ncount (n c : Nat) (A : Option Addr) (ev : Value) (r : Rd) (hR : RdN H n A c ev r) : ACalls Tryd.prog 3 91 [ptr n 0 none] H k (fun v H' k' => v = .int .i64 ((cntR r).1 : Int) ∧ RdP H k n A c (cntR r).2 H' k') := by
  refine ACalls.fresh fun hf => ?_
  refine ACalls.body Tryd.func91 rfl (Nat.le_of_ble_eq_true rfl) ?_
  have hn := hR.hn
  have hnk := old_lt hf hn
  have hok := hR.ok
  have hal := hok.at_le
  have hle := hok.len
  have hvx := Rd.var_ok hok
  refine ACode.seq ?_
  refine ACode.region' [0] (by kernel_rfl) rfl ?_
  refine aOps_1 rfl rfl rfl (AOp.move' (.inr rfl) rfl ?_)
  refine aOps_end ?_
  show ACode _ _ _ _ _ _
  refine ACode.seq ?_
  refine ACode.region' [0, 1, 2] (by kernel_rfl) rfl ?_
  refine aOps_1 rfl rfl rfl (AOp.move' (.inl rfl) rfl ?_)
  refine aOps_1 rfl rfl rfl ?_
  refine AOp.call' rfl rfl rfl (nvar _ _ n c A ev r (hR.sub subA)) ?_
  rintro _ HLv kv ⟨rfl, hPv⟩
  have hkv := hPv.1
  have hfLv := hPv.2.1
  have hsLv := hPv.2.2.1
  have hPvb := hPv
  obtain ⟨evv, hRv⟩ := hPvb.2.2.2
  have hnv := hRv.hn
  have thsLv := SubS.of hsLv
  refine aOps_1 rfl rfl rfl (AOp.move' (.inr rfl) rfl ?_)
  refine aOps_end ?_
  show ACode _ _ _ _ _ _
  refine ACode.seq ?_
  refine ACode.seq ?_
  refine ACode.region' [0, 1] (by kernel_rfl) rfl ?_
  refine aOps_1 rfl rfl rfl (AOp.move' (.inl rfl) rfl ?_)
  refine aOps_1 rfl rfl rfl (AOp.bin' rfl rfl rfl rfl ?_)
  refine aOps_end ?_
  show ACode _ _ _ _ _ _
  refine ACode.cond rfl (fun c0 => ?_) (fun c0 => ?_)
  · try simp only [decide_eq_true_eq, decide_eq_false_iff_not, beq_iff_eq, beq_eq_false_iff_ne, ne_eq, bne_iff_ne, Bool.not_eq_true', Bool.not_eq_false', Int.not_lt, Int.not_le, gt_iff_lt, ge_iff_le, bne_eq_false_iff_eq, Bool.not_eq_eq_eq_not, Bool.not_true, Bool.not_false] at c0
    refine ACode.seq ?_
    refine ACode.region' [0, 1] (by kernel_rfl) rfl ?_
    refine aOps_1 rfl rfl rfl (AOp.move' (.inl rfl) rfl ?_)
    refine aOps_1 rfl rfl rfl ?_
    refine AOp.call' rfl rfl rfl (nfail _ _ n c A evv r.var.2 hRv 12 (by decide) (by decide)) ?_
    rintro _ HLw kw ⟨rfl, hPw⟩
    have hkw := hPw.1
    have hfLw := hPw.2.1
    have hsLw := hPw.2.2.1
    have hPwb := hPw
    obtain ⟨evw, hRw⟩ := hPwb.2.2.2
    have hnw := hRw.hn
    have thsLw := SubS.of hsLw
    refine aOps_end ?_
    show ACode _ _ _ _ _ _
    refine ACode.seq ?_
    refine ACode.region' [0] (by kernel_rfl) rfl ?_
    refine aOps_1 rfl rfl rfl (AOp.move' (.inr rfl) rfl ?_)
    refine aOps_end ?_
    show ACode _ _ _ _ _ _
    refine ACode.ret ?_
    have e1 : cntR r = (0, r.var.2.fail 12) := if_pos (by omega)
    rw [e1]
    have hPc := hPv.trans hPw
    try simp only [thenA, blockA, if_true]
    have hPz : ∀ kz, kw ≤ kz → k ≤ kz → RdP H k n A c (r.var.2.fail 12) HLw kz := fun kz h1 h3 => (hPc).at_ (Nat.le_refl _) h1
    exact RetQ.one rfl rfl (sub_refl _) (hPz (max kw k) (Nat.le_max_left _ _) (Nat.le_max_right _ _)).stays (fun hk => ⟨rfl, hPz _ (by omega) (by omega)⟩)
  · try simp only [decide_eq_true_eq, decide_eq_false_iff_not, beq_iff_eq, beq_eq_false_iff_ne, ne_eq, bne_iff_ne, Bool.not_eq_true', Bool.not_eq_false', Int.not_lt, Int.not_le, gt_iff_lt, ge_iff_le, bne_eq_false_iff_eq, Bool.not_eq_eq_eq_not, Bool.not_true, Bool.not_false] at c0
    refine ACode.skip ?_
    show ACode _ _ _ _ _ _
    refine ACode.seq ?_
    refine ACode.region' [0, 1, 2] (by kernel_rfl) rfl ?_
    refine aOps_1 rfl rfl rfl (AOp.move' (.inl rfl) rfl ?_)
    refine aOps_1 rfl rfl rfl (AOp.convInt rfl rfl ?_)
    rw [show IntKind.i64.wrap ((r.var.1 : Nat) : Int) = ((r.var.1 : Nat) : Int) from i64_wrap (by omega) (by omega)]
    refine aOps_1 rfl rfl rfl (AOp.move' (.inr rfl) rfl ?_)
    refine aOps_end ?_
    show ACode _ _ _ _ _ _
    refine ACode.ret ?_
    have e1 : cntR r = (r.var.1, r.var.2) := if_neg (by omega)
    rw [e1]
    have hPc := hPv
    try simp only [thenA, blockA, if_true]
    have hPz : ∀ kz, kv ≤ kz → k ≤ kz → RdP H k n A c r.var.2 HLv kz := fun kz h1 h3 => (hPc).at_ (Nat.le_refl _) h1
    exact RetQ.one rfl rfl (sub_refl _) (hPz (max kv k) (Nat.le_max_left _ _) (Nat.le_max_right _ _)).stays (fun hk => ⟨rfl, hPz _ (by omega) (by omega)⟩)

set_option maxHeartbeats 4000000 in
theorem ntakeP_step (f deep : Nat) (hdp : deep < 32) (n c : Nat) (A : Option Addr) (ih : ∀ (H : Hp) (k : Nat) (ev : Value) (r : Rd), H 1 = some hBlk → RdN H n A c ev r → ACalls Tryd.prog 3 38 [ptr n 0 none, .int .i64 ((deep + 1 : Nat) : Int)] H k (fun v H' k' => PdV (cutH H' k) (takeP f r).1 v ∧ RdP H k n A c (takeP f r).2 H' k')) (ev : Value) (r : Rd) (h2 : H 1 = some hBlk) (hR : RdN H n A c ev r) : ACalls Tryd.prog 3 38 [ptr n 0 none, .int .i64 (deep : Int)] H k (fun v H' k' => PdV (cutH H' k) (takeP (f + 1) r).1 v ∧ RdP H k n A c (takeP (f + 1) r).2 H' k') := by
  refine ACalls.fresh fun hf => ?_
  refine ACalls.body Tryd.func38 rfl (Nat.le_of_ble_eq_true rfl) ?_
  have hn := hR.hn
  have hnk := old_lt hf hn
  have hok := hR.ok
  have hal := hok.at_le
  have hle := hok.len
  have h2n := hR.ne2 h2
  have h2k := old_lt hf h2
  have hfx := Rd.fix1_ok hok
  have hk0 : (upd H n none) k = none := none_n (hf k (Nat.le_refl k))
  have hAk : Away A r.bs.length k := Away.of hR.hs (hf k (Nat.le_refl k))
  have hp1 := pr1_ok hok
  have hbc1 : (pc1 r).2.bs = r.bs := (cntR_bs _).trans ((Rd.var_bs _).trans (pr1_bs r))
  have hpc1 := cntR_ok (Rd.var_ok hp1).1
  have hpv := pvals_ok hok
  refine ACode.seq ?_
  refine ACode.region' [0] (by kernel_rfl) rfl ?_
  refine aOps_1 rfl rfl rfl (AOp.alloc' rfl ?_)
  refine aOps_end ?_
  show ACode _ _ _ _ _ _
  refine ACode.seq ?_
  refine ACode.seq ?_
  refine ACode.region' [0, 1] (by kernel_rfl) rfl ?_
  refine aOps_1 rfl rfl rfl (AOp.move' (.inl rfl) rfl ?_)
  refine aOps_1 rfl rfl rfl (AOp.bin' rfl rfl rfl rfl ?_)
  refine aOps_end ?_
  show ACode _ _ _ _ _ _
  refine ACode.cond rfl (fun c0 => absurd c0 (by simp; omega)) (fun c0 => ?_)
  refine ACode.skip ?_
  show ACode _ _ _ _ _ _
  refine ACode.seq ?_
  refine ACode.region' [0, 1, 2, 3, 4] (by kernel_rfl) rfl ?_
  refine aOps_1 rfl rfl rfl (AOp.move' (.inl rfl) rfl ?_)
  refine aOps_1 rfl rfl rfl ?_
  refine AOp.call' rfl rfl rfl (nfix1 _ _ n c A ev r (hR.sub subA)) ?_
  rintro _ HLx kx ⟨rfl, hPx⟩
  have hkx := hPx.1
  have hfLx := hPx.2.1
  have hsLx := hPx.2.2.1
  have hPxb := hPx
  obtain ⟨evx, hRx⟩ := hPxb.2.2.2
  have hnx := hRx.hn
  have thsLx := SubS.of hsLx
  have hb1 : HLx k = some (pblk 0 0 NIL NIL) := hpA
  have hS1 := sub_cutn (sub_new (sub_drop (sub_refl H)) hk0) hsLx
  refine aOps_1 rfl rfl rfl (AOp.convInt rfl rfl ?_)
  rw [show IntKind.i64.wrap ((r.fix1.1 : Nat) : Int) = ((r.fix1.1 : Nat) : Int) from i64_wrap (by omega) (by omega)]
  refine aOps_1 rfl rfl rfl (AOp.fieldAddr' rfl (by decide) rfl ?_)
  refine aOps_0 rfl rfl rfl ?_
  refine AOp.store1 (b := ?b1) rfl rfl rfl ?hn1 ?hk1 rfl rfl ?hl1 ?hR1
  (case hn1 => exact hpA)
  (case hk1 => rfl)
  (case hl1 => first | (simp; done) | exact Nat.le_of_ble_eq_true rfl)
  refine aOps_end ?_
  show ACode _ _ _ _ _ _
  refine ACode.meet (γ := Unit) (fun g => []) [(0, _), (1, _), (4, _)] (.cons rfl (.cons rfl (.cons rfl .nil))) (fun g H' k' => k + 1 ≤ k' ∧ Ab.Sub (upd H n none) H' ∧ H' k = some (pblk (r.fix1.1 : Int) 0 NIL NIL) ∧ ∃ ev, RdN H' n A c ev (pr1 r)) ?_ (fun g HLa ka hfLa hXa => ?_)
  · show ACode _ _ _ _ _ _
    refine ACode.seq ?_
    refine ACode.region' [0, 1, 2, 3] (by kernel_rfl) rfl ?_
    refine aOps_1 rfl rfl rfl (AOp.fieldAddr' rfl (by decide) rfl ?_)
    refine aOps_1 rfl rfl rfl ?_
    refine AOp.load1 (b := ?b2) (v := ?v2) rfl rfl ?hn2 ?hv2 ?hR2
    (case hn2 => exact hpA)
    (case hv2 => rfl)
    refine aOps_q rfl rfl rfl (AOp.call' rfl rfl rfl ((known_b _ _ (r.fix1.1 : Int)).lift (by decide)) (fun _ _ _ h => h)) (fun kq hkq => ?_)
    refine aOps_1 rfl rfl rfl (AOp.un' rfl rfl rfl ?_)
    refine aOps_end ?_
    show ACode _ _ _ _ _ _
    refine ACode.cond rfl (fun c1 => ?_) (fun c1 => ?_)
    · skip
      have hpr : pr1 r = r.fix1.2.fail 4 := if_neg (known_no c1)
      refine ACode.region' [0, 1] (by kernel_rfl) rfl ?_
      refine aOps_1 rfl rfl rfl (AOp.move' (.inl rfl) rfl ?_)
      refine aOps_1 rfl rfl rfl ?_
      refine AOp.call' rfl rfl rfl (nfail _ _ n c A evx r.fix1.2 (hRx.away (by omega) (by rw [Rd.fix1_bs]; exact hAk) hb1 (by show (32 : Nat) ≠ 101; decide)) 4 (by decide) (by decide)) ?_
      rintro _ HLf kf ⟨rfl, hPf⟩
      have hkf := hPf.1
      have hfLf := hPf.2.1
      have hsLf := hPf.2.2.1
      have hPfb := hPf
      obtain ⟨evf, hRf⟩ := hPfb.2.2.2
      have hnf := hRf.hn
      have thsLf := SubS.of hsLf
      have hSf := sub_cutn (sub_new hS1 hk0) hsLf
      have hbf : HLf k = some (pblk (r.fix1.1 : Int) 0 NIL NIL) := hpA
      refine aOps_end ?_
      first | refine thenA_n ?_ | simp only [thenA, blockA, if_true]
      exact ⟨(), has_append .nil (.cons rfl (.cons rfl (.cons rfl .nil))), (by (try dsimp only); exact ⟨by omega, hSf, hbf, evf, by rw [hpr]; exact hRf⟩)⟩
    · skip
      have hpr : pr1 r = r.fix1.2 := if_pos (known_yes c1)
      refine ACode.skip ?_
      first | refine thenA_n ?_ | simp only [thenA, blockA, if_true]
      exact ⟨(), has_append .nil (.cons rfl (.cons rfl (.cons rfl .nil))), (by (try dsimp only); exact ⟨by omega, sub_new hS1 hk0, upd_same _ _ _, evx, by rw [hpr]; exact hRx.away (by omega) (by rw [Rd.fix1_bs]; exact hAk) hb1 (by show (32 : Nat) ≠ 101; decide)⟩)⟩
  · show ACode _ _ _ _ _ ⟨_, _, _⟩
    obtain ⟨hka, hSa, hba, eva, hRa⟩ := hXa
    refine ACode.seq ?_
    refine ACode.region' [0, 1, 2, 3, 4] (by kernel_rfl) rfl ?_
    refine aOps_1 rfl rfl rfl (AOp.move' (.inl rfl) rfl ?_)
    refine aOps_1 rfl rfl rfl ?_
    refine AOp.call' rfl rfl rfl (nvar _ _ n c A eva (pr1 r) hRa) ?_
    rintro _ HLv kv ⟨rfl, hPv⟩
    have hkv := hPv.1
    have hfLv := hPv.2.1
    have hsLv := hPv.2.2.1
    have hPvb := hPv
    obtain ⟨evv, hRv⟩ := hPvb.2.2.2
    have hnv := hRv.hn
    have thsLv := SubS.of hsLv
    have hbv : HLv k = some (pblk (r.fix1.1 : Int) 0 NIL NIL) := hpA
    have hSv : Ab.Sub (upd H n none) HLv := sub_cutn hSa hsLv
    refine aOps_1 rfl rfl rfl (AOp.convInt rfl rfl ?_)
    rw [show IntKind.i64.wrap (((pr1 r).var.1 : Nat) : Int) = pcol r from rfl]
    refine aOps_1 rfl rfl rfl (AOp.fieldAddr' rfl (by decide) rfl ?_)
    refine aOps_0 rfl rfl rfl ?_
    refine AOp.store1 (b := ?b3) rfl rfl rfl ?hn3 ?hk3 rfl rfl ?hl3 ?hR3
    (case hn3 => exact hpA)
    (case hk3 => rfl)
    (case hl3 => first | (simp; done) | exact Nat.le_of_ble_eq_true rfl)
    refine aOps_end ?_
    show ACode _ _ _ _ _ _
    refine ACode.meet (γ := Unit) (fun g => []) [(0, _), (1, _), (4, _)] (.cons rfl (.cons rfl (.cons rfl .nil))) (fun g H' k' => ∃ kc ev, k + 1 ≤ kc ∧ kc < k' ∧ Ab.Sub (upd H n none) H' ∧ H' k = some (pblk (r.fix1.1 : Int) (pcol r) (.slice (some ⟨kc, 0, some 1⟩) (pvals r).1.length (pvals r).1.length) NIL) ∧ H' kc = some (vlblk (pvals r).1) ∧ RdN H' n A c ev (pvals r).2) ?_ (fun g HLb kb hfLb hXb => ?_)
    · show ACode _ _ _ _ _ _
      refine ACode.seq ?_
      refine ACode.region' [0, 1, 2] (by kernel_rfl) rfl ?_
      refine aOps_1 rfl rfl rfl (AOp.move' (.inl rfl) rfl ?_)
      refine aOps_1 rfl rfl rfl ?_
      refine AOp.call' rfl rfl rfl (ncount _ _ n c A evv (pr1 r).var.2 (hRv.away (by omega) (by rw [Rd.var_bs, pr1_bs]; exact hAk) hbv (by show (32 : Nat) ≠ 101; decide))) ?_
      rintro _ HLc kc ⟨rfl, hPc⟩
      have hkc := hPc.1
      have hfLc := hPc.2.1
      have hsLc := hPc.2.2.1
      have hPcb := hPc
      obtain ⟨evc, hRc⟩ := hPcb.2.2.2
      have hnc := hRc.hn
      have thsLc := SubS.of hsLc
      rw [show (cntR (pr1 r).var.2).1 = (pc1 r).1 from rfl]
      have hbc : HLc k = some (pblk (r.fix1.1 : Int) (pcol r) NIL NIL) := hpA
      have hSc := sub_cutn (sub_new hSv hk0) hsLc
      have hRc : RdN HLc n A c evc (pc1 r).2 := hRc
      have h2c : HLc 1 = some hBlk := hSc _ _ ((upd_other _ _ h2n).trans h2)
      have hAc : Away A r.bs.length kc := by have h := Away.of hRc.hs (hfLc kc (Nat.le_refl _)); rw [hbc1] at h; exact h
      refine aOps_1 rfl rfl rfl (AOp.move' (.inl rfl) rfl ?_)
      refine aOps_end ?_
      show ACode _ _ _ _ _ _
      refine ACode.block ?_
      refine ACode.adoptC 59 3 (by decide) (j := 2) hbc rfl rfl ?_
      have hkc0 : HLc kc = none := hfLc kc (Nat.le_refl _)
      refine ACode.countG (γ := Hp) (fun i g => [(26, .int .i64 (i : Int))]) [(0, _), (1, _), (4, _), (25, _)] (fun i g => g) ((pc1 r).1) (fun i g => g kc = some (vlblk (itR vStep ([], (pc1 r).2) (i)).1) ∧ g k = some (pblk (r.fix1.1 : Int) (pcol r) (.slice (some ⟨kc, 0, some 1⟩) (itR vStep ([], (pc1 r).2) (i)).1.length (itR vStep ([], (pc1 r).2) (i)).1.length) NIL) ∧ Ab.Sub (upd H n none) g ∧ (∃ ev, RdN g n A c ev (itR vStep ([], (pc1 r).2) (i)).2) ∧ pvals r = runR vStep ((pc1 r).1 - i) (itR vStep ([], (pc1 r).2) (i))) ((upd (upd HLc kc (some (vlblk []))) k (some (pblk (r.fix1.1 : Int) (pcol r) (.slice (some ⟨kc, 0, some 1⟩) ([] : List Val).length ([] : List Val).length) NIL)))) (.cons rfl .nil) (.cons rfl (.cons rfl (.cons rfl (.cons rfl .nil)))) (by exact sub_refl _) ⟨(upd_other _ _ (by omega)).trans (upd_same _ _ _), upd_same _ _ _, sub_new (sub_new hSc (none_n (hf kc (by omega)))) hk0, ⟨evc, (hRc.sub (sub_upd' (sub_refl _) hkc0)).away (by omega) (by rw [hbc1]; exact hAk) ((upd_other _ _ (by omega)).trans hbc) (by show (32 : Nat) ≠ 101; decide)⟩, rfl⟩ (fun i0 g0 kL0 HL0 hiL0 hkL0 hsL0 hfL0 hxL0 => ?_)
      show ACode _ _ _ _ _ ⟨_, _, _⟩
      have tsL0 := SubS.of hsL0
      obtain ⟨hx1, hx2, hx3, ⟨ev0, hx4⟩, hx5⟩ := hxL0
      have hq0 := hsL0 _ _ hx1
      have hb0 := hsL0 _ _ hx2
      have hS0 := sub_trans hx3 hsL0
      have hR0 := hx4.sub hsL0
      have hn0 := hR0.hn
      have h20 : HL0 1 = some hBlk := hS0 _ _ ((upd_other _ _ h2n).trans h2)
      have hbi := itV_bs ([], (pc1 r).2) i0
      simp only at hbi
      rw [hbc1] at hbi
      have hli := itV_len ([], (pc1 r).2) i0
      simp only [List.length_nil, Nat.zero_add] at hli
      have hiN : i0 ≤ 256 := by have := hpc1.2; have e : (pc1 r).1 = (cntR (pr1 r).var.2).1 := rfl; omega
      refine ACode.seq ?_
      refine ACode.region' [0] (by kernel_rfl) rfl ?_
      refine aOps_1 rfl rfl rfl (AOp.bin' rfl rfl rfl rfl ?_)
      refine aOps_end ?_
      show ACode _ _ _ _ _ _
      refine ACode.seq ?_
      refine ACode.cond rfl (fun c2 => ?_) (fun c2 => ?_)
      · try simp only [decide_eq_true_eq, decide_eq_false_iff_not, beq_iff_eq, beq_eq_false_iff_ne, ne_eq, bne_iff_ne, Bool.not_eq_true', Bool.not_eq_false', Int.not_lt, Int.not_le, gt_iff_lt, ge_iff_le, bne_eq_false_iff_eq, Bool.not_eq_eq_eq_not, Bool.not_true, Bool.not_false] at c2
        have hin : i0 < (pc1 r).1 := by omega
        refine ACode.skip ?_
        show ACode _ _ _ _ _ _
        refine ACode.seq ?_
        refine ACode.block ?_
        refine ACode.seq ?_
        refine ACode.seq ?_
        refine ACode.region' [0, 1, 2] (by kernel_rfl) rfl ?_
        refine aOps_1 rfl rfl rfl (AOp.move' (.inl rfl) rfl ?_)
        refine aOps_q rfl rfl rfl (AOp.call' rfl rfl rfl (ngoodP _ _ h20 n c A ev0 _ hR0) (fun _ _ _ h => h)) (fun kq hkq => ?_)
        refine aOps_1 rfl rfl rfl (AOp.un' rfl rfl rfl ?_)
        refine aOps_end ?_
        show ACode _ _ _ _ _ _
        refine ACode.cond rfl (fun c3 => ?_) (fun c3 => ?_)
        · try simp only [decide_eq_true_eq, decide_eq_false_iff_not, beq_iff_eq, beq_eq_false_iff_ne, ne_eq, bne_iff_ne, Bool.not_eq_true', Bool.not_eq_false', Int.not_lt, Int.not_le, gt_iff_lt, ge_iff_le, bne_eq_false_iff_eq, Bool.not_eq_eq_eq_not, Bool.not_true, Bool.not_false] at c3
          have hrun : pvals r = (itR vStep ([], (pc1 r).2) (i0)) := by rw [hx5]; exact runR_err c3 _
          refine ACode.exit ?_
          first | refine thenA_n ?_ | simp only [thenA, blockA, if_true]
          exact ⟨(), has_append .nil (.cons rfl (.cons rfl (.cons rfl .nil))), (by (try dsimp only); exact ⟨kc, ev0, by omega, by omega, hS0, by rw [hrun]; exact hb0, by rw [hrun]; exact hq0, by rw [hrun]; exact hR0⟩)⟩
        · try simp only [decide_eq_true_eq, decide_eq_false_iff_not, beq_iff_eq, beq_eq_false_iff_ne, ne_eq, bne_iff_ne, Bool.not_eq_true', Bool.not_eq_false', Int.not_lt, Int.not_le, gt_iff_lt, ge_iff_le, bne_eq_false_iff_eq, Bool.not_eq_eq_eq_not, Bool.not_true, Bool.not_false] at c3
          refine ACode.skip ?_
          show ACode _ _ _ _ _ _
          have hq8 := sub_one hb0
          refine ACode.any mixed (by kernel_rfl) ?_
          refine AnyA.split 6 (by kernel_rfl) (by kernel_rfl) (by decide) (by decide) (Nat.le_of_ble_eq_true rfl) ?_
          refine AnyA.float (Hq := (upd (fun _ => none) k (some (pblk (r.fix1.1 : Int) (pcol r) (.slice (some ⟨kc, 0, some 1⟩) (itR vStep ([], (pc1 r).2) (i0)).1.length (itR vStep ([], (pc1 r).2) (i0)).1.length) NIL)))) [(0, 31), (1, 32), (2, 33)] [3, 4, 5] (by kernel_rfl) (Nat.le_of_ble_eq_true rfl) (by kernel_rfl) subA ?_
          refine DrawF.q 0 31 [(4, none)] rfl (by kernel_rfl) rfl (fun Hc kq hSb => AOp.fieldAddr' rfl (by decide) rfl ⟨rfl, rfl, rfl⟩) ?_
          refine DrawF.q 1 32 [(31, some 0)] rfl (by kernel_rfl) rfl (fun Hc kq hSb => have tSb := SubS.of hSb; (by refine AOp.load1 (b := ?b4) (v := ?v4) rfl rfl ?hn4 ?hv4 ?hR4; (case hn4 => exact hpA); (case hv4 => rfl); exact ⟨rfl, rfl, rfl⟩)) ?_
          refine DrawF.q 2 33 [(0, none)] rfl (by kernel_rfl) rfl (fun Hc kq hSb => AOp.move' (.inl rfl) rfl ⟨rfl, rfl, rfl⟩) ?_
          refine DrawF.done ?_
          show aOpsF _ _ _ _ _ _ [3, 4, 5] ⟨_, _, _⟩
          refine aOpsF_1 [33] rfl rfl (by kernel_rfl) rfl ?_
          refine AOp.call' rfl rfl rfl (ntakeV _ _ h20 n c A ev0 (itR vStep ([], (pc1 r).2) (i0)).2 hR0) ?_
          rintro _ HLt kt ⟨rfl, hPt⟩
          have hkt := hPt.1
          have hfLt := hPt.2.1
          have hsLt := hPt.2.2.1
          have hPtb := hPt
          obtain ⟨evt, hRt⟩ := hPtb.2.2.2
          have hnt := hRt.hn
          have thsLt := SubS.of hsLt
          have hqt : HLt kc = some (vlblk (itR vStep ([], (pc1 r).2) (i0)).1) := hsLt _ _ ((upd_other _ _ (by omega)).trans hq0)
          have hbt : HLt k = some (pblk (r.fix1.1 : Int) (pcol r) (.slice (some ⟨kc, 0, some 1⟩) (itR vStep ([], (pc1 r).2) (i0)).1.length (itR vStep ([], (pc1 r).2) (i0)).1.length) NIL) := hsLt _ _ ((upd_other _ _ (by omega)).trans hb0)
          have hq9 := sub_one hbt
          have hq10 := sub_new (q := kt) (z := some (vlblk [(takeV (itR vStep ([], (pc1 r).2) (i0)).2).1])) hq9 (upd_other _ _ (by omega))
          have hq11 := sub_new (q := kc) (z := some { cells := vals3 (itR vStep ([], (pc1 r).2) (i0)).1 ++ vals3 [(takeV (itR vStep ([], (pc1 r).2) (i0)).2).1], elem := 59, kind := .grow, esz := 3 }) hq10 (upd_other _ _ (by omega))
          refine ⟨by exact subA, ?_⟩
          refine aOpsF_1 [34] rfl rfl (by kernel_rfl) rfl (AOp.buildH (vals3 [(takeV (itR vStep ([], (pc1 r).2) (i0)).2).1]) rfl rfl (by show 0 < 3; decide) (by show 3 ≤ 16777216; decide) rfl rfl ?_)
          refine ⟨by exact subA, ?_⟩
          refine aOpsF_1 [32, 35] rfl rfl (by kernel_rfl) rfl (AOp.append' (b := vlblk (itR vStep ([], (pc1 r).2) (i0)).1) (m := 1) (news := vals3 [(takeV (itR vStep ([], (pc1 r).2) (i0)).2).1]) rfl rfl rfl hpA (srcOf_grow (b := vlblk [(takeV (itR vStep ([], (pc1 r).2) (i0)).2).1]) hpA rfl rfl) rfl rfl rfl (by first | exact vals3_len' _ | exact (vals3_len' _).symm) srcOk_sl (vals3_one' _) (by omega) (by omega) ?_)
          refine ⟨by exact subA, ?_⟩
          refine aOpsF_end ?_
          refine AnyA.float (Hq := (fun _ => none)) [] [6, 7] (by kernel_rfl) (Nat.le_of_ble_eq_true rfl) (by kernel_rfl) (sub_none _) ?_
          refine DrawF.done ?_
          show aOpsF _ _ _ _ _ _ [6, 7] ⟨_, _, _⟩
          refine aOpsF_1 [4] rfl rfl (by kernel_rfl) rfl (AOp.fieldAddr' rfl (by decide) rfl ?_)
          refine ⟨sub_none _, ?_⟩
          refine aOpsF_0 [37, 36] rfl rfl (by kernel_rfl) rfl ?_
          refine AOp.store1 (b := ?b5) rfl rfl rfl ?hn5 ?hk5 rfl rfl ?hl5 ?hR5
          (case hn5 => exact hpA)
          (case hk5 => rfl)
          (case hl5 => first | (simp; done) | exact Nat.le_of_ble_eq_true rfl)
          refine ⟨sub_none _, ?_⟩
          refine aOpsF_end ?_
          show ACode _ _ _ _ _ _
          refine ACode.region' [0, 1] (by kernel_rfl) rfl ?_
          refine aOps_1 rfl rfl rfl (AOp.add rfl rfl rfl (i64_wrap (by omega) (by omega)) ?_)
          refine aOps_1 rfl rfl rfl (AOp.move' (.inl rfl) rfl ?_)
          refine aOps_end ?_
          have hsn : vlblk ((itR vStep ([], (pc1 r).2) (i0)).1 ++ [(takeV (itR vStep ([], (pc1 r).2) (i0)).2).1]) = { cells := vals3 (itR vStep ([], (pc1 r).2) (i0)).1 ++ vals3 [(takeV (itR vStep ([], (pc1 r).2) (i0)).2).1], elem := 59, kind := .grow, esz := 3 } := by unfold vlblk; rw [vals3_snoc]
          have hln : ((itR vStep ([], (pc1 r).2) (i0)).1 ++ [(takeV (itR vStep ([], (pc1 r).2) (i0)).2).1]).length = (itR vStep ([], (pc1 r).2) (i0)).1.length + 1 := by rw [List.length_append]; rfl
          have hAt : Away A (takeV (itR vStep ([], (pc1 r).2) (i0)).2).2.bs.length k := by rw [takeV_bs, hbi]; exact hAk
          have hAt2 : Away A (takeV (itR vStep ([], (pc1 r).2) (i0)).2).2.bs.length kc := by rw [takeV_bs, hbi]; exact hAc
          first | refine thenA_n ?_ | simp only [thenA, blockA, if_true]
          exact NextG.mk (by omega) (by omega) ((upd (upd (upd HLt kt (some (vlblk [(takeV (itR vStep ([], (pc1 r).2) (i0)).2).1]))) kc (some (vlblk ((itR vStep ([], (pc1 r).2) (i0)).1 ++ [(takeV (itR vStep ([], (pc1 r).2) (i0)).2).1])))) k (some (pblk (r.fix1.1 : Int) (pcol r) (.slice (some ⟨kc, 0, some 1⟩) ((itR vStep ([], (pc1 r).2) (i0)).1 ++ [(takeV (itR vStep ([], (pc1 r).2) (i0)).2).1]).length ((itR vStep ([], (pc1 r).2) (i0)).1 ++ [(takeV (itR vStep ([], (pc1 r).2) (i0)).2).1]).length) NIL)))) (.cons rfl .nil) (.cons rfl (.cons rfl (.cons rfl (.cons rfl .nil)))) (by rw [hsn, hln]; exact sub_refl _) ⟨(upd_other _ _ (by omega)).trans (upd_same _ _ _), upd_same _ _ _, sub_new (sub_new (sub_new (sub_cutn hS0 hsLt) (none_n (hf _ (by omega)))) (none_n (hf kc (by omega)))) hk0, ⟨evt, ((hRt.sub (sub_upd' (sub_refl _) (hfLt _ (Nat.le_refl _)))).away (by omega) hAt2 ((upd_other _ _ (by omega)).trans hqt) (by show (59 : Nat) ≠ 101; decide)).away (by omega) hAt ((upd_other _ _ (by omega)).trans ((upd_other _ _ (by omega)).trans hbt)) (by show (32 : Nat) ≠ 101; decide)⟩, runR_step hx5 hin c3⟩
      · try simp only [decide_eq_true_eq, decide_eq_false_iff_not, beq_iff_eq, beq_eq_false_iff_ne, ne_eq, bne_iff_ne, Bool.not_eq_true', Bool.not_eq_false', Int.not_lt, Int.not_le, gt_iff_lt, ge_iff_le, bne_eq_false_iff_eq, Bool.not_eq_eq_eq_not, Bool.not_true, Bool.not_false] at c2
        have hin : i0 = (pc1 r).1 := by omega
        have hrun : pvals r = (itR vStep ([], (pc1 r).2) (i0)) := by rw [hx5, hin, Nat.sub_self]; rfl
        refine ACode.exit ?_
        first | refine thenA_n ?_ | simp only [thenA, blockA, if_true]
        exact ⟨(), has_append .nil (.cons rfl (.cons rfl (.cons rfl .nil))), (by (try dsimp only); exact ⟨kc, ev0, by omega, by omega, hS0, by rw [hrun]; exact hb0, by rw [hrun]; exact hq0, by rw [hrun]; exact hR0⟩)⟩
    · show ACode _ _ _ _ _ ⟨_, _, _⟩
      obtain ⟨kc, ev0, hkc, hkcb, hS0, hb0v, hq0v, hR0⟩ := hXb
      refine ACode.seq ?_
      refine ACode.seq ?_
      refine ACode.region' [0, 1, 2] (by kernel_rfl) rfl ?_
      refine aOps_1 rfl rfl rfl (AOp.move' (.inl rfl) rfl ?_)
      refine aOps_1 rfl rfl rfl ?_
      refine AOp.call' rfl rfl rfl (ncount _ _ n c A ev0 (pvals r).2 hR0) ?_
      rintro _ HLd kd ⟨rfl, hPd⟩
      have hkd := hPd.1
      have hfLd := hPd.2.1
      have hsLd := hPd.2.2.1
      have hPdb := hPd
      obtain ⟨evd, hRd⟩ := hPdb.2.2.2
      have hnd := hRd.hn
      have thsLd := SubS.of hsLd
      rw [show (cntR (pvals r).2).1 = (pc2 r).1 from rfl]
      have hRd : RdN HLd n A c evd (pc2 r).2 := hRd
      have hbd : HLd k = some (pblk (r.fix1.1 : Int) (pcol r) (.slice (some ⟨kc, 0, some 1⟩) (pvals r).1.length (pvals r).1.length) NIL) := hsLd _ _ ((upd_other _ _ (by omega)).trans hb0v)
      have hqd : HLd kc = some (vlblk (pvals r).1) := hsLd _ _ ((upd_other _ _ (by omega)).trans hq0v)
      have hSd := sub_cutn hS0 hsLd
      have hbc2 : (pc2 r).2.bs = r.bs := (cntR_bs _).trans hpv.2.1
      have hAd : Away A r.bs.length kd := by have h := Away.of hRd.hs (hfLd kd (Nat.le_refl _)); rw [hbc2] at h; exact h
      have hpc2 : (pc2 r).1 ≤ 256 := (cntR_ok hpv.1).2
      refine aOps_1 rfl rfl rfl (AOp.move' (.inl rfl) rfl ?_)
      refine aOps_end ?_
      show ACode _ _ _ _ _ _
      refine ACode.block ?_
      refine ACode.adoptC 32 4 (by decide) (j := 3) hbd rfl rfl ?_
      have hkd0 : HLd kd = none := hfLd kd (Nat.le_refl _)
      refine ACode.countG (γ := Hp × List Value) (fun i g => [(41, .int .i64 (i : Int))]) [(0, _), (1, _), (4, _), (40, _)] (fun i g => g.1) ((pc2 r).1) (fun i g => g.1 kd = some (oblk g.2) ∧ g.1 k = some (pblk (r.fix1.1 : Int) (pcol r) (.slice (some ⟨kc, 0, some 1⟩) (pvals r).1.length (pvals r).1.length) (.slice (some ⟨kd, 0, some 1⟩) (itR (pStep (takeP f)) ([], (pc2 r).2) (i)).1.length (itR (pStep (takeP f)) ([], (pc2 r).2) (i)).1.length)) ∧ g.1 kc = some (vlblk (pvals r).1) ∧ Ab.Sub (upd H n none) g.1 ∧ (∃ ev, RdN g.1 n A c ev (itR (pStep (takeP f)) ([], (pc2 r).2) (i)).2) ∧ (runR (pStep (takeP f)) (pc2 r).1 ([], (pc2 r).2)) = runR (pStep (takeP f)) ((pc2 r).1 - i) (itR (pStep (takeP f)) ([], (pc2 r).2) (i)) ∧ PdVs (cutQ g.1 (k + 1) kd) (itR (pStep (takeP f)) ([], (pc2 r).2) (i)).1 g.2 ∧ (itR (pStep (takeP f)) ([], (pc2 r).2) (i)).2.bs = r.bs ∧ (itR (pStep (takeP f)) ([], (pc2 r).2) (i)).1.length = i) ((upd (upd HLd kd (some (oblk []))) k (some (pblk (r.fix1.1 : Int) (pcol r) (.slice (some ⟨kc, 0, some 1⟩) (pvals r).1.length (pvals r).1.length) (.slice (some ⟨kd, 0, some 1⟩) ([] : List Pd).length ([] : List Pd).length))), [])) (.cons rfl .nil) (.cons rfl (.cons rfl (.cons rfl (.cons rfl .nil)))) (by exact sub_refl _) ⟨(upd_other _ _ (by omega)).trans (upd_same _ _ _), upd_same _ _ _, (upd_other _ _ (by omega)).trans ((upd_other _ _ (by omega)).trans hqd), sub_new (sub_new hSd (none_n (hf kd (by omega)))) hk0, ⟨evd, (hRd.sub (sub_upd' (sub_refl _) hkd0)).away (by omega) (by rw [hbc2]; exact hAk) ((upd_other _ _ (by omega)).trans hbd) (by show (32 : Nat) ≠ 101; decide)⟩, rfl, PdVs.nil, hbc2, rfl⟩ (fun i1 g1 kL1 HL1 hiL1 hkL1 hsL1 hfL1 hxL1 => ?_)
      show ACode _ _ _ _ _ ⟨_, _, _⟩
      have tsL1 := SubS.of hsL1
      obtain ⟨hy1, hy2, hy3, hy4, ⟨ev1x, hy6⟩, hy5, hy7, hy8, hy9⟩ := hxL1
      have hd1 := hsL1 _ _ hy1
      have hb1x := hsL1 _ _ hy2
      have hq1 := hsL1 _ _ hy3
      have hS1x := sub_trans hy4 hsL1
      have hR1x := hy6.sub hsL1
      have hn1x := hR1x.hn
      have h21 : HL1 1 = some hBlk := hS1x _ _ ((upd_other _ _ h2n).trans h2)
      have hvl := hy7.len
      refine ACode.seq ?_
      refine ACode.region' [0] (by kernel_rfl) rfl ?_
      refine aOps_1 rfl rfl rfl (AOp.bin' rfl rfl rfl rfl ?_)
      refine aOps_end ?_
      show ACode _ _ _ _ _ _
      refine ACode.seq ?_
      refine ACode.cond rfl (fun c4 => ?_) (fun c4 => ?_)
      · try simp only [decide_eq_true_eq, decide_eq_false_iff_not, beq_iff_eq, beq_eq_false_iff_ne, ne_eq, bne_iff_ne, Bool.not_eq_true', Bool.not_eq_false', Int.not_lt, Int.not_le, gt_iff_lt, ge_iff_le, bne_eq_false_iff_eq, Bool.not_eq_eq_eq_not, Bool.not_true, Bool.not_false] at c4
        have hjn : i1 < (pc2 r).1 := by omega
        refine ACode.skip ?_
        show ACode _ _ _ _ _ _
        refine ACode.seq ?_
        refine ACode.block ?_
        refine ACode.seq ?_
        refine ACode.seq ?_
        refine ACode.region' [0, 1, 2] (by kernel_rfl) rfl ?_
        refine aOps_1 rfl rfl rfl (AOp.move' (.inl rfl) rfl ?_)
        refine aOps_q rfl rfl rfl (AOp.call' rfl rfl rfl (ngoodP _ _ h21 n c A ev1x _ hR1x) (fun _ _ _ h => h)) (fun kq hkq => ?_)
        refine aOps_1 rfl rfl rfl (AOp.un' rfl rfl rfl ?_)
        refine aOps_end ?_
        show ACode _ _ _ _ _ _
        refine ACode.cond rfl (fun c5 => ?_) (fun c5 => ?_)
        · try simp only [decide_eq_true_eq, decide_eq_false_iff_not, beq_iff_eq, beq_eq_false_iff_ne, ne_eq, bne_iff_ne, Bool.not_eq_true', Bool.not_eq_false', Int.not_lt, Int.not_le, gt_iff_lt, ge_iff_le, bne_eq_false_iff_eq, Bool.not_eq_eq_eq_not, Bool.not_true, Bool.not_false] at c5
          have hrun2 : (runR (pStep (takeP f)) (pc2 r).1 ([], (pc2 r).2)) = (itR (pStep (takeP f)) ([], (pc2 r).2) (i1)) := by rw [hy5]; exact runR_err c5 _
          refine ACode.exit ?_
          show ACode _ _ _ _ _ _
          refine ACode.seq ?_
          refine ACode.region' [0, 1] (by kernel_rfl) rfl ?_
          refine aOps_1 rfl rfl rfl ?_
          refine AOp.loadAll (b := ?b6) (v := pv (r.fix1.1 : Int) (pcol r) (some ⟨kc, 0, some 1⟩) (pvals r).1.length (pvals r).1.length (some ⟨kd, 0, some 1⟩) (itR (pStep (takeP f)) ([], (pc2 r).2) (i1)).1.length (itR (pStep (takeP f)) ([], (pc2 r).2) (i1)).1.length) rfl rfl ?hn6 ?hv6 ?hw6 ?hz6 ?hR6
          (case hn6 => exact hpA)
          (case hv6 => rfl)
          (case hw6 => rfl)
          (case hz6 => first | rfl | (simp; done))
          refine aOps_0 rfl rfl rfl ?_
          refine AOp.storeAll (b := ?b7) rfl rfl rfl ?hn7 ?hk7 rfl ?hw7 ?ho7 ?hl7 ?hR7
          (case hn7 => exact hpA)
          (case hk7 => rfl)
          (case hw7 => first | rfl | (simp; done))
          (case ho7 => first | rfl | decide | (simp; done))
          (case hl7 => first | rfl | (simp; done))
          refine aOps_end ?_
          show ACode _ _ _ _ _ _
          refine ACode.ret ?_
          try simp only [thenA, blockA, if_true]
          have e1 : takeP (f + 1) r = (.mk (r.fix1.1 : Int) (pcol r) (pvals r).1 (itR (pStep (takeP f)) ([], (pc2 r).2) (i1)).1, (itR (pStep (takeP f)) ([], (pc2 r).2) (i1)).2) := by
            show ((.mk (r.fix1.1 : Int) (pcol r) (pvals r).1 (runR (pStep (takeP f)) (pc2 r).1 ([], (pc2 r).2)).1 : Pd), (runR (pStep (takeP f)) (pc2 r).1 ([], (pc2 r).2)).2) = _
            rw [hrun2]
          rw [e1]
          have hRz : RdN (upd HL1 k (some (pblk (r.fix1.1 : Int) (pcol r) (.slice (some ⟨kc, 0, some 1⟩) (pvals r).1.length (pvals r).1.length) (.slice (some ⟨kd, 0, some 1⟩) (itR (pStep (takeP f)) ([], (pc2 r).2) (i1)).1.length (itR (pStep (takeP f)) ([], (pc2 r).2) (i1)).1.length)))) n A c ev1x (itR (pStep (takeP f)) ([], (pc2 r).2) (i1)).2 := hR1x.away (by omega) (by rw [hy8]; exact hAk) hb1x (by show (32 : Nat) ≠ 101; decide)
          have hPz : ∀ kz, kL1 ≤ kz → k ≤ kz → RdP H k n A c (itR (pStep (takeP f)) ([], (pc2 r).2) (i1)).2 (upd HL1 k (some (pblk (r.fix1.1 : Int) (pcol r) (.slice (some ⟨kc, 0, some 1⟩) (pvals r).1.length (pvals r).1.length) (.slice (some ⟨kd, 0, some 1⟩) (itR (pStep (takeP f)) ([], (pc2 r).2) (i1)).1.length (itR (pStep (takeP f)) ([], (pc2 r).2) (i1)).1.length)))) kz := fun kz h1 h3 => ⟨h3, (fun m hm => (upd_other _ _ (by omega)).trans (hfL1 m (by omega))), sub_new hS1x hk0, _, hRz⟩
          have hlen1 := hpv.2.2.2
          have hcr : -9223372036854775808 ≤ pcol r ∧ pcol r ≤ 9223372036854775807 := by rw [pcol, IntKind.wrap_i64]; omega
          have hVz : PdV (cutH (upd HL1 k (some (pblk (r.fix1.1 : Int) (pcol r) (.slice (some ⟨kc, 0, some 1⟩) (pvals r).1.length (pvals r).1.length) (.slice (some ⟨kd, 0, some 1⟩) (itR (pStep (takeP f)) ([], (pc2 r).2) (i1)).1.length (itR (pStep (takeP f)) ([], (pc2 r).2) (i1)).1.length)))) k) (.mk (r.fix1.1 : Int) (pcol r) (pvals r).1 (itR (pStep (takeP f)) ([], (pc2 r).2) (i1)).1) (pv (r.fix1.1 : Int) (pcol r) (some ⟨kc, 0, some 1⟩) (pvals r).1.length (pvals r).1.length (some ⟨kd, 0, some 1⟩) (itR (pStep (takeP f)) ([], (pc2 r).2) (i1)).1.length (itR (pStep (takeP f)) ([], (pc2 r).2) (i1)).1.length) := PdV.intro (SLC.vlblk ((cutH_at (by omega)).trans ((upd_other _ _ (by omega)).trans hq1))).cells (by omega) (by omega) (by omega) hcr hpv.2.2.1 (SLC.grow (b := oblk g1.2) ((cutH_at (by omega)).trans ((upd_other _ _ (by omega)).trans hd1)) rfl hvl.symm) (PdVs.sub (fun m b hm => by
            unfold cutQ at hm
            split at hm
            · rename_i hc
              exact (cutH_at (by omega)).trans ((upd_other _ _ (by omega)).trans (hsL1 _ _ hm))
            · cases hm) hy7)
          exact RetQ.cell rfl rfl (aloadAll (b := pblk (r.fix1.1 : Int) (pcol r) (.slice (some ⟨kc, 0, some 1⟩) (pvals r).1.length (pvals r).1.length) (.slice (some ⟨kd, 0, some 1⟩) (itR (pStep (takeP f)) ([], (pc2 r).2) (i1)).1.length (itR (pStep (takeP f)) ([], (pc2 r).2) (i1)).1.length)) (v := pv (r.fix1.1 : Int) (pcol r) (some ⟨kc, 0, some 1⟩) (pvals r).1.length (pvals r).1.length (some ⟨kd, 0, some 1⟩) (itR (pStep (takeP f)) ([], (pc2 r).2) (i1)).1.length (itR (pStep (takeP f)) ([], (pc2 r).2) (i1)).1.length) (upd_same _ _ _) rfl rfl rfl) (sub_refl _) (hPz (max kL1 k) (Nat.le_max_left _ _) (Nat.le_max_right _ _)).stays (fun hk => ⟨hVz, hPz _ (by omega) (by omega)⟩)
        · try simp only [decide_eq_true_eq, decide_eq_false_iff_not, beq_iff_eq, beq_eq_false_iff_ne, ne_eq, bne_iff_ne, Bool.not_eq_true', Bool.not_eq_false', Int.not_lt, Int.not_le, gt_iff_lt, ge_iff_le, bne_eq_false_iff_eq, Bool.not_eq_eq_eq_not, Bool.not_true, Bool.not_false] at c5
          refine ACode.skip ?_
          show ACode _ _ _ _ _ _
          have hq8 := sub_one hb1x
          refine ACode.any mixed (by kernel_rfl) ?_
          refine AnyA.split 8 (by kernel_rfl) (by kernel_rfl) (by decide) (by decide) (Nat.le_of_ble_eq_true rfl) ?_
          refine AnyA.float (Hq := (upd (fun _ => none) k (some (pblk (r.fix1.1 : Int) (pcol r) (.slice (some ⟨kc, 0, some 1⟩) (pvals r).1.length (pvals r).1.length) (.slice (some ⟨kd, 0, some 1⟩) (itR (pStep (takeP f)) ([], (pc2 r).2) (i1)).1.length (itR (pStep (takeP f)) ([], (pc2 r).2) (i1)).1.length))))) [(0, 46), (1, 47), (2, 48), (3, 49), (4, 50)] [5, 6, 7] (by kernel_rfl) (Nat.le_of_ble_eq_true rfl) (by kernel_rfl) subA ?_
          refine DrawF.q 0 46 [(4, none)] rfl (by kernel_rfl) rfl (fun Hc kq hSb => AOp.fieldAddr' rfl (by decide) rfl ⟨rfl, rfl, rfl⟩) ?_
          refine DrawF.q 1 47 [(46, some 0)] rfl (by kernel_rfl) rfl (fun Hc kq hSb => have tSb := SubS.of hSb; (by refine AOp.load1 (b := ?b8) (v := ?v8) rfl rfl ?hn8 ?hv8 ?hR8; (case hn8 => exact hpA); (case hv8 => rfl); exact ⟨rfl, rfl, rfl⟩)) ?_
          refine DrawF.q 2 48 [(0, none)] rfl (by kernel_rfl) rfl (fun Hc kq hSb => AOp.move' (.inl rfl) rfl ⟨rfl, rfl, rfl⟩) ?_
          refine DrawF.q 3 49 [(1, none)] rfl (by kernel_rfl) rfl (fun Hc kq hSb => AOp.move' (.inl rfl) rfl ⟨rfl, rfl, rfl⟩) ?_
          refine DrawF.q 4 50 [(49, some 3)] rfl (by kernel_rfl) rfl (fun Hc kq hSb => AOp.add rfl rfl rfl (i64_wrap (by omega) (by omega)) ⟨rfl, rfl, rfl⟩) ?_
          refine DrawF.done ?_
          show aOpsF _ _ _ _ _ _ [5, 6, 7] ⟨_, _, _⟩
          refine aOpsF_1 [48, 50] rfl rfl (by kernel_rfl) rfl ?_
          refine AOp.call' rfl rfl rfl (ih _ _ ev1x (itR (pStep (takeP f)) ([], (pc2 r).2) (i1)).2 h21 hR1x) ?_
          rintro vu HLu ku ⟨hVu, hPu⟩
          have hku := hPu.1
          have hfLu := hPu.2.1
          have hsLu := hPu.2.2.1
          have hPu2 := hPu
          obtain ⟨evu, hRu⟩ := hPu2.2.2.2
          have thsLu := SubS.of hsLu
          have hVu1 := hVu.one'
          have hdu : HLu kd = some (oblk g1.2) := hsLu _ _ ((upd_other _ _ (by omega)).trans hd1)
          have hqu : HLu kc = some (vlblk (pvals r).1) := hsLu _ _ ((upd_other _ _ (by omega)).trans hq1)
          have hbu : HLu k = some (pblk (r.fix1.1 : Int) (pcol r) (.slice (some ⟨kc, 0, some 1⟩) (pvals r).1.length (pvals r).1.length) (.slice (some ⟨kd, 0, some 1⟩) (itR (pStep (takeP f)) ([], (pc2 r).2) (i1)).1.length (itR (pStep (takeP f)) ([], (pc2 r).2) (i1)).1.length)) := hsLu _ _ ((upd_other _ _ (by omega)).trans hb1x)
          have hq9 := sub_one hbu
          have hq10 := sub_new (q := ku) (z := some (oblk vu.cells.toList)) hq9 (upd_other _ _ (by omega))
          have hq11 := sub_new (q := kd) (z := some (oblk (g1.2 ++ vu.cells.toList))) hq10 (upd_other _ _ (by omega))
          refine ⟨by exact subA, ?_⟩
          refine aOpsF_1 [51] rfl rfl (by kernel_rfl) rfl (AOp.buildH vu.cells.toList (hVu.agg.1.trans (by rw [Array.toArray_toList])) hVu.agg.2 (by decide) (by decide) rfl rfl ?_)
          refine ⟨by exact subA, ?_⟩
          refine aOpsF_1 [47, 52] rfl rfl (by kernel_rfl) rfl (AOp.append' (b := oblk g1.2) (m := 1) (news := vu.cells.toList) rfl rfl rfl hpA (srcOf_grow (b := oblk vu.cells.toList) hpA rfl hVu.agg.2.symm) rfl rfl rfl (by first | exact hvl.symm | exact hvl) srcOk_sl hVu1 (by omega) (by omega) ?_)
          refine ⟨by exact subA, ?_⟩
          refine aOpsF_end ?_
          refine AnyA.float (Hq := (fun _ => none)) [] [8, 9] (by kernel_rfl) (Nat.le_of_ble_eq_true rfl) (by kernel_rfl) (sub_none _) ?_
          refine DrawF.done ?_
          show aOpsF _ _ _ _ _ _ [8, 9] ⟨_, _, _⟩
          refine aOpsF_1 [4] rfl rfl (by kernel_rfl) rfl (AOp.fieldAddr' rfl (by decide) rfl ?_)
          refine ⟨sub_none _, ?_⟩
          refine aOpsF_0 [54, 53] rfl rfl (by kernel_rfl) rfl ?_
          refine AOp.store1 (b := ?b9) rfl rfl rfl ?hn9 ?hk9 rfl rfl ?hl9 ?hR9
          (case hn9 => exact hpA)
          (case hk9 => rfl)
          (case hl9 => first | (simp; done) | exact Nat.le_of_ble_eq_true rfl)
          refine ⟨sub_none _, ?_⟩
          refine aOpsF_end ?_
          show ACode _ _ _ _ _ _
          refine ACode.region' [0, 1] (by kernel_rfl) rfl ?_
          refine aOps_1 rfl rfl rfl (AOp.add rfl rfl rfl (i64_wrap (by omega) (by omega)) ?_)
          refine aOps_1 rfl rfl rfl (AOp.move' (.inl rfl) rfl ?_)
          refine aOps_end ?_
          have hln : ((itR (pStep (takeP f)) ([], (pc2 r).2) (i1)).1 ++ [(takeP f (itR (pStep (takeP f)) ([], (pc2 r).2) (i1)).2).1]).length = (itR (pStep (takeP f)) ([], (pc2 r).2) (i1)).1.length + 1 := by rw [List.length_append]; rfl
          have hbs2 : (takeP f (itR (pStep (takeP f)) ([], (pc2 r).2) (i1)).2).2.bs = r.bs := (takeP_bs f _).trans hy8
          have hmx : ∀ m b, k + 1 ≤ m → m ≠ kd → g1.1 m = some b → (upd (upd (upd HLu ku (some (oblk vu.cells.toList))) kd (some (oblk (g1.2 ++ vu.cells.toList)))) k (some (pblk (r.fix1.1 : Int) (pcol r) (.slice (some ⟨kc, 0, some 1⟩) (pvals r).1.length (pvals r).1.length) (.slice (some ⟨kd, 0, some 1⟩) ((itR (pStep (takeP f)) ([], (pc2 r).2) (i1)).1 ++ [(takeP f (itR (pStep (takeP f)) ([], (pc2 r).2) (i1)).2).1]).length ((itR (pStep (takeP f)) ([], (pc2 r).2) (i1)).1 ++ [(takeP f (itR (pStep (takeP f)) ([], (pc2 r).2) (i1)).2).1]).length)))) m = some b := fun m b hm hmq hb => by
            have hb1 := hsL1 _ _ hb
            have hb2 := hsLu _ _ ((upd_other _ _ (by omega)).trans hb1)
            exact (upd_other _ _ (by omega)).trans ((upd_other _ _ hmq).trans ((upd_other _ _ (fun e => by rw [e, hfLu ku (Nat.le_refl _)] at hb2; cases hb2)).trans hb2))
          have hV2 : PdV (cutQ (upd (upd (upd HLu ku (some (oblk vu.cells.toList))) kd (some (oblk (g1.2 ++ vu.cells.toList)))) k (some (pblk (r.fix1.1 : Int) (pcol r) (.slice (some ⟨kc, 0, some 1⟩) (pvals r).1.length (pvals r).1.length) (.slice (some ⟨kd, 0, some 1⟩) ((itR (pStep (takeP f)) ([], (pc2 r).2) (i1)).1 ++ [(takeP f (itR (pStep (takeP f)) ([], (pc2 r).2) (i1)).2).1]).length ((itR (pStep (takeP f)) ([], (pc2 r).2) (i1)).1 ++ [(takeP f (itR (pStep (takeP f)) ([], (pc2 r).2) (i1)).2).1]).length)))) (k + 1) kd) (takeP f (itR (pStep (takeP f)) ([], (pc2 r).2) (i1)).2).1 vu := hVu.sub (fun m b hm => by
            unfold cutH at hm
            split at hm
            · rename_i hc
              rw [cutQ_at (by omega) (by omega)]
              exact (upd_other _ _ (by omega)).trans ((upd_other _ _ (by omega)).trans ((upd_other _ _ (fun e => by rw [e, hfLu ku (Nat.le_refl _)] at hm; cases hm)).trans hm))
            · cases hm)
          have hAu : Away A (takeP f (itR (pStep (takeP f)) ([], (pc2 r).2) (i1)).2).2.bs.length k := by rw [hbs2]; exact hAk
          have hAu2 : Away A (takeP f (itR (pStep (takeP f)) ([], (pc2 r).2) (i1)).2).2.bs.length kd := by rw [hbs2]; exact hAd
          first | refine thenA_n ?_ | simp only [thenA, blockA, if_true]
          exact NextG.mk (by omega) (by omega) ((upd (upd (upd HLu ku (some (oblk vu.cells.toList))) kd (some (oblk (g1.2 ++ vu.cells.toList)))) k (some (pblk (r.fix1.1 : Int) (pcol r) (.slice (some ⟨kc, 0, some 1⟩) (pvals r).1.length (pvals r).1.length) (.slice (some ⟨kd, 0, some 1⟩) ((itR (pStep (takeP f)) ([], (pc2 r).2) (i1)).1 ++ [(takeP f (itR (pStep (takeP f)) ([], (pc2 r).2) (i1)).2).1]).length ((itR (pStep (takeP f)) ([], (pc2 r).2) (i1)).1 ++ [(takeP f (itR (pStep (takeP f)) ([], (pc2 r).2) (i1)).2).1]).length))), g1.2 ++ vu.cells.toList)) (.cons rfl .nil) (.cons rfl (.cons rfl (.cons rfl (.cons rfl .nil)))) (by simp only [hln]; exact sub_refl _) ⟨(upd_other _ _ (by omega)).trans (upd_same _ _ _), upd_same _ _ _, (upd_other _ _ (by omega)).trans ((upd_other _ _ (by omega)).trans ((upd_other _ _ (by omega)).trans hqu)), sub_new (sub_new (sub_new (sub_cutn hS1x hsLu) (none_n (hf _ (by omega)))) (none_n (hf kd (by omega)))) hk0, ⟨evu, ((hRu.sub (sub_upd' (sub_refl _) (hfLu _ (Nat.le_refl _)))).away (by omega) hAu2 ((upd_other _ _ (by omega)).trans hdu) (by show (32 : Nat) ≠ 101; decide)).away (by omega) hAu ((upd_other _ _ (by omega)).trans ((upd_other _ _ (by omega)).trans hbu)) (by show (32 : Nat) ≠ 101; decide)⟩, runR_step hy5 hjn c5, PdVs.snoc hV2 (PdVs.sub (cutQ_sub hmx) hy7), hbs2, by rw [show ((itR (pStep (takeP f)) ([], (pc2 r).2) (i1 + 1))).1 = (itR (pStep (takeP f)) ([], (pc2 r).2) (i1)).1 ++ [(takeP f (itR (pStep (takeP f)) ([], (pc2 r).2) (i1)).2).1] from rfl, hln]; omega⟩
      · try simp only [decide_eq_true_eq, decide_eq_false_iff_not, beq_iff_eq, beq_eq_false_iff_ne, ne_eq, bne_iff_ne, Bool.not_eq_true', Bool.not_eq_false', Int.not_lt, Int.not_le, gt_iff_lt, ge_iff_le, bne_eq_false_iff_eq, Bool.not_eq_eq_eq_not, Bool.not_true, Bool.not_false] at c4
        have hjn : i1 = (pc2 r).1 := by omega
        have hrun2 : (runR (pStep (takeP f)) (pc2 r).1 ([], (pc2 r).2)) = (itR (pStep (takeP f)) ([], (pc2 r).2) (i1)) := by rw [hy5, hjn, Nat.sub_self]; rfl
        refine ACode.exit ?_
        show ACode _ _ _ _ _ _
        refine ACode.seq ?_
        refine ACode.region' [0, 1] (by kernel_rfl) rfl ?_
        refine aOps_1 rfl rfl rfl ?_
        refine AOp.loadAll (b := ?b10) (v := pv (r.fix1.1 : Int) (pcol r) (some ⟨kc, 0, some 1⟩) (pvals r).1.length (pvals r).1.length (some ⟨kd, 0, some 1⟩) (itR (pStep (takeP f)) ([], (pc2 r).2) (i1)).1.length (itR (pStep (takeP f)) ([], (pc2 r).2) (i1)).1.length) rfl rfl ?hn10 ?hv10 ?hw10 ?hz10 ?hR10
        (case hn10 => exact hpA)
        (case hv10 => rfl)
        (case hw10 => rfl)
        (case hz10 => first | rfl | (simp; done))
        refine aOps_0 rfl rfl rfl ?_
        refine AOp.storeAll (b := ?b11) rfl rfl rfl ?hn11 ?hk11 rfl ?hw11 ?ho11 ?hl11 ?hR11
        (case hn11 => exact hpA)
        (case hk11 => rfl)
        (case hw11 => first | rfl | (simp; done))
        (case ho11 => first | rfl | decide | (simp; done))
        (case hl11 => first | rfl | (simp; done))
        refine aOps_end ?_
        show ACode _ _ _ _ _ _
        refine ACode.ret ?_
        try simp only [thenA, blockA, if_true]
        have e1 : takeP (f + 1) r = (.mk (r.fix1.1 : Int) (pcol r) (pvals r).1 (itR (pStep (takeP f)) ([], (pc2 r).2) (i1)).1, (itR (pStep (takeP f)) ([], (pc2 r).2) (i1)).2) := by
          show ((.mk (r.fix1.1 : Int) (pcol r) (pvals r).1 (runR (pStep (takeP f)) (pc2 r).1 ([], (pc2 r).2)).1 : Pd), (runR (pStep (takeP f)) (pc2 r).1 ([], (pc2 r).2)).2) = _
          rw [hrun2]
        rw [e1]
        have hRz : RdN (upd HL1 k (some (pblk (r.fix1.1 : Int) (pcol r) (.slice (some ⟨kc, 0, some 1⟩) (pvals r).1.length (pvals r).1.length) (.slice (some ⟨kd, 0, some 1⟩) (itR (pStep (takeP f)) ([], (pc2 r).2) (i1)).1.length (itR (pStep (takeP f)) ([], (pc2 r).2) (i1)).1.length)))) n A c ev1x (itR (pStep (takeP f)) ([], (pc2 r).2) (i1)).2 := hR1x.away (by omega) (by rw [hy8]; exact hAk) hb1x (by show (32 : Nat) ≠ 101; decide)
        have hPz : ∀ kz, kL1 ≤ kz → k ≤ kz → RdP H k n A c (itR (pStep (takeP f)) ([], (pc2 r).2) (i1)).2 (upd HL1 k (some (pblk (r.fix1.1 : Int) (pcol r) (.slice (some ⟨kc, 0, some 1⟩) (pvals r).1.length (pvals r).1.length) (.slice (some ⟨kd, 0, some 1⟩) (itR (pStep (takeP f)) ([], (pc2 r).2) (i1)).1.length (itR (pStep (takeP f)) ([], (pc2 r).2) (i1)).1.length)))) kz := fun kz h1 h3 => ⟨h3, (fun m hm => (upd_other _ _ (by omega)).trans (hfL1 m (by omega))), sub_new hS1x hk0, _, hRz⟩
        have hlen1 := hpv.2.2.2
        have hcr : -9223372036854775808 ≤ pcol r ∧ pcol r ≤ 9223372036854775807 := by rw [pcol, IntKind.wrap_i64]; omega
        have hVz : PdV (cutH (upd HL1 k (some (pblk (r.fix1.1 : Int) (pcol r) (.slice (some ⟨kc, 0, some 1⟩) (pvals r).1.length (pvals r).1.length) (.slice (some ⟨kd, 0, some 1⟩) (itR (pStep (takeP f)) ([], (pc2 r).2) (i1)).1.length (itR (pStep (takeP f)) ([], (pc2 r).2) (i1)).1.length)))) k) (.mk (r.fix1.1 : Int) (pcol r) (pvals r).1 (itR (pStep (takeP f)) ([], (pc2 r).2) (i1)).1) (pv (r.fix1.1 : Int) (pcol r) (some ⟨kc, 0, some 1⟩) (pvals r).1.length (pvals r).1.length (some ⟨kd, 0, some 1⟩) (itR (pStep (takeP f)) ([], (pc2 r).2) (i1)).1.length (itR (pStep (takeP f)) ([], (pc2 r).2) (i1)).1.length) := PdV.intro (SLC.vlblk ((cutH_at (by omega)).trans ((upd_other _ _ (by omega)).trans hq1))).cells (by omega) (by omega) (by omega) hcr hpv.2.2.1 (SLC.grow (b := oblk g1.2) ((cutH_at (by omega)).trans ((upd_other _ _ (by omega)).trans hd1)) rfl hvl.symm) (PdVs.sub (fun m b hm => by
          unfold cutQ at hm
          split at hm
          · rename_i hc
            exact (cutH_at (by omega)).trans ((upd_other _ _ (by omega)).trans (hsL1 _ _ hm))
          · cases hm) hy7)
        exact RetQ.cell rfl rfl (aloadAll (b := pblk (r.fix1.1 : Int) (pcol r) (.slice (some ⟨kc, 0, some 1⟩) (pvals r).1.length (pvals r).1.length) (.slice (some ⟨kd, 0, some 1⟩) (itR (pStep (takeP f)) ([], (pc2 r).2) (i1)).1.length (itR (pStep (takeP f)) ([], (pc2 r).2) (i1)).1.length)) (v := pv (r.fix1.1 : Int) (pcol r) (some ⟨kc, 0, some 1⟩) (pvals r).1.length (pvals r).1.length (some ⟨kd, 0, some 1⟩) (itR (pStep (takeP f)) ([], (pc2 r).2) (i1)).1.length (itR (pStep (takeP f)) ([], (pc2 r).2) (i1)).1.length) (upd_same _ _ _) rfl rfl rfl) (sub_refl _) (hPz (max kL1 k) (Nat.le_max_left _ _) (Nat.le_max_right _ _)).stays (fun hk => ⟨hVz, hPz _ (by omega) (by omega)⟩)
end

end Go.Proofs.YteoofihjmldllaaDoor
