/- Contracts over the abstract states: the example; the statements on proofs and on checks. -/
import Derived.Test.YtlbcgadmcjobiaaDoorS28
set_option linter.unusedVariables false
set_option linter.unusedSimpArgs false
set_option maxRecDepth 100000
namespace Go.Proofs.YtlbcgadmcjobiaaDoor
open Go Go.Ab

theorem check_proof {l : List (List UInt8)} {m : Nat} (h : m ≤ l.length) (hl : l.length ≤ 1099511627776) : checkZ (m : Int) (l.length : Int) (root (l.take m)) (root l) (proofZ l (m : Int)) = true := by
  have hmy : mayZ (m : Int) (l.length : Int) = true := decide_eq_true (by omega)
  by_cases h0 : m = 0
  · subst h0
    have hp : proofZ l ((0 : Nat) : Int) = [] := if_neg (by omega)
    rw [hp, checkZ_0 hmy rfl (by rw [sizeZ, if_pos hmy]; rfl), List.take_zero]
    exact decide_eq_true rfl
  · have hp : proofZ l (m : Int) = proofT l m false := (if_pos (by omega)).trans (by rw [Int.toNat_natCast])
    rw [hp, checkZ_n hmy h0 (proofT_len (l.length + 1) m l false (by omega) (by omega) h), put_proof (l.length + 1) m l false (by omega) (by omega) h]
    exact decide_eq_true rfl
theorem proofZ_len {l : List (List UInt8)} {m : Int} (h0 : 0 ≤ m) (h : m ≤ l.length) (hl : l.length ≤ 1099511627776) : ((proofZ l m).length : Int) = sizeZ m l.length := by
  have hmy : mayZ m (l.length : Int) = true := decide_eq_true (by omega)
  obtain ⟨a, rfl⟩ : ∃ a : Nat, m = a := ⟨m.toNat, by omega⟩
  by_cases h1 : a = 0
  · subst h1
    rw [show proofZ l ((0 : Nat) : Int) = [] from if_neg (by omega), sizeZ, if_pos hmy]
    rfl
  · rw [show proofZ l (a : Int) = proofT l a false from (if_pos (by omega)).trans (by rw [Int.toNat_natCast]), sizeZ_nat hmy h1, proofT_len (l.length + 1) a l false (by omega) (by omega) (by omega)]
abbrev awL : List (List UInt8) := [[97], [98], [99]]
theorem awk3 : proofZ awL 2 = [lf [99]] ∧ mayZ 2 3 = true := by
  have s3 : spN 3 = 2 := by decide
  have hp : proofZ awL 2 = proofT awL 2 false := rfl
  rw [hp, proofT_l (by decide) (by rw [show awL.length = 3 from rfl, s3]; omega), proofT_eq (by rw [show awL.length = 3 from rfl, s3]; rfl)]
  simp only [List.length_cons, List.length_nil, s3, List.drop_succ_cons, List.drop_zero, root_one]
  exact ⟨rfl, by decide⟩
theorem awk4 : checkZ 2 3 (root (awL.take 2)) (root awL) [lf [99]] = true := by
  have := check_proof (l := awL) (m := 2) (by decide) (by decide)
  rw [show ((2 : Nat) : Int) = 2 from rfl, awk3.1] at this
  exact this
theorem awk6 : ¬ nd (root awL) (lf [99]) = root awL := by
  rw [awk1]
  intro h
  have h2 := congrArg Dg.l h
  exact absurd h2 (by decide +kernel)
theorem awk5 : checkZ 2 3 (root awL) (root awL) [lf [99]] = false := by
  have s3 : spN 3 = 2 := by decide
  have e1 : stepsN 2 3 = 1 := by rw [stepsN_l (by omega) (by rw [s3]; omega), s3, stepsN_eq]
  have e2 : endP 2 3 false = false := by rw [endP_l (by omega) (by rw [s3]; omega), s3, endP_eq]
  have hmy : mayZ ((2 : Nat) : Int) ((3 : Nat) : Int) = true := by decide
  have := checkZ_n (a := root awL) (b := root awL) (p := [lf [99]]) hmy (by omega) (by rw [sizeN, e1, e2]; rfl)
  refine Eq.trans this (decide_eq_false fun h => ?_)
  rw [putT_l (by omega) (by rw [s3]; omega), s3, putT_eq] at h
  exact awk6 (congrArg Prod.snd h)
section
variable (H : Hp) (k : Nat)
abbrev lb (c : UInt8) : Blk := { cells := [c].map bv, elem := 5, kind := .fix }
abbrev awH (q : Nat) : Hp := upd (upd (upd (upd (upd H k (some (lb 97))) (k + 1) (some (lb 98))) (k + 1 + 1) (some (lb 99))) (k + 1 + 1 + 1) (some { cells := [.slice (some ⟨k, 0, none⟩) 1 1, .slice (some ⟨k + 1, 0, none⟩) 1 1, .slice (some ⟨k + 1 + 1, 0, none⟩) 1 1], elem := 22, kind := .grow })) q (some (pbk 24 [lf [99]]))

theorem awake20 (ht : H 0 = some tabBlk) : ACalls Tryd.prog 1 40 [] H k (Same H k (.bool true)) := by
  refine ACalls.fresh fun hf => ?_
  refine ACalls.body Tryd.func40 rfl (Nat.le_of_ble_eq_true rfl) ?_
  have h0k := old_lt hf ht
  refine ACode.seq ?_
  refine ACode.region' [0] (by kernel_rfl) rfl ?_
  refine aOps_1 rfl rfl rfl (AOp.move' (.inr rfl) rfl ?_)
  refine aOps_end ?_
  show ACode _ _ _ _ _ _
  refine ACode.seq ?_
  refine ACode.region' [0, 1, 2, 3, 4, 5, 6, 7] (by kernel_rfl) rfl ?_
  refine aOps_1 rfl rfl rfl (AOp.buildF1 (vals := [97].map bv) rfl (by decide) rfl rfl (bv_ones _) ?_)
  refine aOps_1 rfl rfl rfl (AOp.convB rfl rfl (by repeat (first | assumption | exact upd_same _ _ _ | refine (upd_other _ _ (by omega)).trans ?_)) rfl ?_)
  refine aOps_1 rfl rfl rfl (AOp.buildF1 (vals := [98].map bv) rfl (by decide) rfl rfl (bv_ones _) ?_)
  refine aOps_1 rfl rfl rfl (AOp.convB rfl rfl (by repeat (first | assumption | exact upd_same _ _ _ | refine (upd_other _ _ (by omega)).trans ?_)) rfl ?_)
  refine aOps_1 rfl rfl rfl (AOp.buildF1 (vals := [99].map bv) rfl (by decide) rfl rfl (bv_ones _) ?_)
  refine aOps_1 rfl rfl rfl (AOp.convB rfl rfl (by repeat (first | assumption | exact upd_same _ _ _ | refine (upd_other _ _ (by omega)).trans ?_)) rfl ?_)
  refine aOps_1 rfl rfl rfl (AOp.buildG1 (vals := [_, _, _]) rfl (by decide) rfl rfl (by intro u hu; simp at hu; first | (rcases hu with rfl | rfl | rfl <;> rfl) | (rcases hu with rfl | rfl <;> rfl) | (subst hu; rfl) | (rcases hu with rfl | rfl | rfl | rfl <;> rfl)) ?_)
  refine aOps_1 rfl rfl rfl (AOp.move' (.inr rfl) rfl ?_)
  refine aOps_end ?_
  show ACode _ _ _ _ _ _
  refine ACode.seq ?_
  refine ACode.region' [0, 1, 2, 3, 4, 5, 6] (by kernel_rfl) rfl ?_
  refine aOps_1 rfl rfl rfl (AOp.move' (.inl rfl) rfl ?_)
  refine aOps_1 rfl rfl rfl ?_
  refine AOp.call' rfl rfl rfl (proofF_b _ _ (by repeat (first | assumption | exact upd_same _ _ _ | refine (upd_other _ _ (by omega)).trans ?_)) awL [.slice (some ⟨k, 0, none⟩) 1 1, .slice (some ⟨k + 1, 0, none⟩) 1 1, .slice (some ⟨k + 2, 0, none⟩) 1 1] (some ⟨k + 3, 0, some 1⟩) 3 (SLC.grow (n := k + 3) (l := 3) (b := { cells := [.slice (some ⟨k, 0, none⟩) 1 1, .slice (some ⟨k + 1, 0, none⟩) 1 1, .slice (some ⟨k + 2, 0, none⟩) 1 1], elem := 22, kind := .grow }) (by repeat (first | assumption | exact upd_same _ _ _ | refine (upd_other _ _ (by omega)).trans ?_)) rfl rfl) (Lvs.cons (l := [97]) (A := some ⟨k, 0, none⟩) (c := 1) (SLC.fix (n := k) (l := 1) (b := { cells := [97].map bv, elem := 5, kind := .fix }) (by repeat (first | assumption | exact upd_same _ _ _ | refine (upd_other _ _ (by omega)).trans ?_)) rfl) (Lvs.cons (l := [98]) (A := some ⟨k + 1, 0, none⟩) (c := 1) (SLC.fix (n := k + 1) (l := 1) (b := { cells := [98].map bv, elem := 5, kind := .fix }) (by repeat (first | assumption | exact upd_same _ _ _ | refine (upd_other _ _ (by omega)).trans ?_)) rfl) (Lvs.cons (l := [99]) (A := some ⟨k + 2, 0, none⟩) (c := 1) (SLC.fix (n := k + 2) (l := 1) (b := { cells := [99].map bv, elem := 5, kind := .fix }) (by repeat (first | assumption | exact upd_same _ _ _ | refine (upd_other _ _ (by omega)).trans ?_)) rfl) Lvs.nil))) (by simp) (by simp) 2 (by decide) (by decide)) ?_
  rintro _ _ kq0 ⟨q, hq1, hq2, rfl, rfl⟩
  rw [awk3.1, show mayZ 2 ((List.length (α := Value) [.slice (some ⟨k, 0, none⟩) 1 1, .slice (some ⟨k + 1, 0, none⟩) 1 1, .slice (some ⟨k + 2, 0, none⟩) 1 1] : Nat) : Int) = true from awk3.2]
  refine aOps_1 rfl rfl rfl (AOp.move' (.inl rfl) rfl ?_)
  refine aOps_1 rfl rfl rfl (AOp.extract' rfl rfl rfl ?_)
  refine aOps_1 rfl rfl rfl (AOp.extract' rfl rfl rfl ?_)
  refine aOps_1 rfl rfl rfl (AOp.move' (.inr rfl) rfl ?_)
  refine aOps_1 rfl rfl rfl (AOp.move' (.inr rfl) rfl ?_)
  refine aOps_end ?_
  show ACode _ _ _ _ _ _
  refine ACode.seq ?_
  obtain ⟨A3_18, c3_18, hq3_18, hs3_18⟩ := SLC.cutL (vs := [.slice (some ⟨k, 0, none⟩) 1 1, .slice (some ⟨k + 1, 0, none⟩) 1 1, .slice (some ⟨k + 2, 0, none⟩) 1 1]) (SLC.grow (H := awH H k q) (n := k + 3) (l := 3) (b := { cells := [.slice (some ⟨k, 0, none⟩) 1 1, .slice (some ⟨k + 1, 0, none⟩) 1 1, .slice (some ⟨k + 2, 0, none⟩) 1 1], elem := 22, kind := .grow }) (by repeat (first | assumption | exact upd_same _ _ _ | refine (upd_other _ _ (by omega)).trans ?_)) rfl rfl) 2 none (by simp) (by intro x hx; cases hx)
  obtain ⟨n3_8, o3_8, s3_8, hq3_8, hp3_8⟩ := SLC.elH (l := [lf [99]]) (SLC.pbk (H := awH H k q) (n := q) (e := 24) (by repeat (first | assumption | exact upd_same _ _ _ | refine (upd_other _ _ (by omega)).trans ?_))) (shaD []) (show 0 < 1 by decide)
  obtain ⟨n3_11, o3_11, s3_11, hq3_11, hp3_11⟩ := slcElV (SLC.grow (H := awH H k q) (n := k + 3) (l := 3) (b := { cells := [.slice (some ⟨k, 0, none⟩) 1 1, .slice (some ⟨k + 1, 0, none⟩) 1 1, .slice (some ⟨k + 2, 0, none⟩) 1 1], elem := 22, kind := .grow }) (by repeat (first | assumption | exact upd_same _ _ _ | refine (upd_other _ _ (by omega)).trans ?_)) rfl rfl).cells (show 2 < 3 by decide)
  refine ACode.draw' 35 [(0, 16), (1, 17), (2, 18), (3, 19), (4, 20), (5, 21), (6, 22), (7, 23), (8, 24), (9, 25), (10, 26), (11, 27), (12, 28), (13, 29), (14, 30), (15, 31), (16, 32), (17, 33), (18, 34), (19, 35), (20, 36), (21, 37), (22, 38), (23, 39), (24, 40), (25, 41), (26, 42), (27, 43), (28, 44), (29, 45), (30, 46), (31, 47), (32, 48), (33, 49), (34, 0)] mixed (by kernel_rfl) ?_
  refine Draw.step [(3, none)] rfl (by kernel_rfl) rfl (fun kq hkq => AOp.move' (.inl rfl) rfl ⟨rfl, rfl, Nat.le_refl _⟩) ?_
  refine Draw.step [(16, some 0)] rfl (by kernel_rfl) rfl (fun kq hkq => AOp.move' (.inl rfl) rfl ⟨rfl, rfl, Nat.le_refl _⟩) ?_
  refine Draw.gd [(2, none), (17, some 1)] rfl (by kernel_rfl) (wantT rfl rfl rfl) (fun kq hkq hc => AOp.slots [(2, _)] (.cons rfl .nil) (AOp.move' (.inl rfl) rfl ⟨rfl, rfl, Nat.le_refl _⟩)) ?_
  refine Draw.gd [(18, some 2), (17, some 1)] rfl (by kernel_rfl) (wantT rfl rfl rfl) (fun kq hkq hc => AOp.slots [(18, _)] (.cons (gvT rfl hc) .nil) (AOp.len' rfl rfl ⟨rfl, rfl, Nat.le_refl _⟩)) ?_
  refine Draw.gd [(19, some 3), (17, some 1)] rfl (by kernel_rfl) (wantT rfl rfl rfl) (fun kq hkq hc => AOp.slots [(19, _)] (.cons (gvT rfl hc) .nil) (AOp.bin' rfl rfl rfl rfl ⟨rfl, rfl, Nat.le_refl _⟩)) ?_
  refine Draw.step [(17, some 1), (20, some 4)] rfl (by kernel_rfl) rfl (fun kq hkq => AOp.pickAnd rfl rfl rfl (fun hb => gvE rfl hb) ⟨rfl, rfl, Nat.le_refl _⟩) ?_
  refine Draw.step [(21, some 5)] rfl (by kernel_rfl) rfl (fun kq hkq => AOp.move' (.inl rfl) rfl ⟨rfl, rfl, Nat.le_refl _⟩) ?_
  refine Draw.gd [(2, none), (22, some 6)] rfl (by kernel_rfl) (wantT rfl rfl rfl) (fun kq hkq hc => AOp.slots [(2, _)] (.cons rfl .nil) (AOp.move' (.inl rfl) rfl ⟨rfl, rfl, Nat.le_refl _⟩)) ?_
  refine Draw.gd [(23, some 7), (22, some 6)] rfl (by kernel_rfl) (wantT rfl rfl rfl) (fun kq hkq hc => AOp.slots [(23, _)] (.cons (gvT rfl hc) .nil) (AOp.indexP (aslcAt_sub (by (repeat (first | exact sub_refl _ | assumption | refine sub_upd' ?_ (by ((repeat refine (upd_other _ _ (by omega)).trans ?_); first | exact hf _ (by omega))) | refine sub_over (by assumption) | refine sub_over0 ?_ | refine sub_trans (sub_same (by assumption)) ?_ | refine sub_dropu ?_ | refine sub_drop ?_ | refine sub_put ?_ (by repeat (first | assumption | exact upd_same _ _ _ | refine (upd_other _ _ (by omega)).trans ?_))))) hq3_8) rfl rfl rfl ⟨rfl, rfl, Nat.le_refl _⟩)) ?_
  refine Draw.gd [(24, some 8), (22, some 6)] rfl (by kernel_rfl) (wantT rfl rfl rfl) (fun kq hkq hc => AOp.slots [(24, _)] (.cons (gvT rfl hc) .nil) (AOp.loadPA (v := hv (lf [99])) (hp3_8.sub (by (repeat (first | exact sub_refl _ | assumption | refine sub_upd' ?_ (by ((repeat refine (upd_other _ _ (by omega)).trans ?_); first | exact hf _ (by omega))) | refine sub_over (by assumption) | refine sub_over0 ?_ | refine sub_trans (sub_same (by assumption)) ?_ | refine sub_dropu ?_ | refine sub_drop ?_ | refine sub_put ?_ (by repeat (first | assumption | exact upd_same _ _ _ | refine (upd_other _ _ (by omega)).trans ?_)))))) rfl rfl rfl rfl (by first | rfl | exact hv_size _ | exact hcs_one _ | exact (aw_size _).trans rfl | exact one_wv _ | exact one_bv _ | exact rv_size _ | (simp; done)) (by decide) ⟨rfl, rfl, Nat.le_refl _⟩)) ?_
  refine Draw.gd [(1, none), (22, some 6)] rfl (by kernel_rfl) (wantT rfl rfl rfl) (fun kq hkq hc => AOp.slots [(1, _)] (.cons rfl .nil) (AOp.move' (.inl rfl) rfl ⟨rfl, rfl, Nat.le_refl _⟩)) ?_
  refine Draw.gd [(26, some 10), (22, some 6)] rfl (by kernel_rfl) (wantT rfl rfl rfl) (fun kq hkq hc => AOp.slots [(26, _)] (.cons (gvT rfl hc) .nil) (AOp.indexP (aslcAt_sub (by (repeat (first | exact sub_refl _ | assumption | refine sub_upd' ?_ (by ((repeat refine (upd_other _ _ (by omega)).trans ?_); first | exact hf _ (by omega))) | refine sub_over (by assumption) | refine sub_over0 ?_ | refine sub_trans (sub_same (by assumption)) ?_ | refine sub_dropu ?_ | refine sub_drop ?_ | refine sub_put ?_ (by repeat (first | assumption | exact upd_same _ _ _ | refine (upd_other _ _ (by omega)).trans ?_))))) hq3_11) rfl rfl rfl ⟨rfl, rfl, Nat.le_refl _⟩)) ?_
  refine Draw.gd [(27, some 11), (22, some 6)] rfl (by kernel_rfl) (wantT rfl rfl rfl) (fun kq hkq hc => AOp.slots [(27, _)] (.cons (gvT rfl hc) .nil) (AOp.loadP0 (hp3_11.sub (by (repeat (first | exact sub_refl _ | assumption | refine sub_upd' ?_ (by ((repeat refine (upd_other _ _ (by omega)).trans ?_); first | exact hf _ (by omega))) | refine sub_over (by assumption) | refine sub_over0 ?_ | refine sub_trans (sub_same (by assumption)) ?_ | refine sub_dropu ?_ | refine sub_drop ?_ | refine sub_put ?_ (by repeat (first | assumption | exact upd_same _ _ _ | refine (upd_other _ _ (by omega)).trans ?_)))))) rfl rfl rfl ⟨rfl, rfl, Nat.le_refl _⟩)) ?_
  refine Draw.gd [(28, some 12), (22, some 6)] rfl (by kernel_rfl) (wantT rfl rfl rfl) (fun kq hkq hc => AOp.slots [(28, _)] (.cons (gvT rfl hc) .nil) (AOp.call' rfl rfl rfl (leaf_b _ _ (by repeat (first | assumption | exact upd_same _ _ _ | refine (upd_other _ _ (by omega)).trans ?_)) [99] (some ⟨k + 2, 0, none⟩) 1 (SLC.fix (n := k + 2) (l := 1) (b := { cells := [99].map bv, elem := 5, kind := .fix }) (by repeat (first | assumption | exact upd_same _ _ _ | refine (upd_other _ _ (by omega)).trans ?_)) rfl) (by decide)) (fun _ _ _ h => h))) ?_
  refine Draw.gd [(25, some 9), (29, some 13), (22, some 6)] rfl (by kernel_rfl) (wantT rfl rfl rfl) (fun kq hkq hc => AOp.slots [(25, _), (29, _)] (.cons (gvT rfl hc) (.cons (gvT rfl hc) .nil)) (AOp.eqAgg (decide (lf [99] = lf [99])) rfl rfl rfl (hv_sc _) (hv_sc _) (hv_iff _ _) ⟨rfl, rfl, Nat.le_refl _⟩)) ?_
  refine Draw.step [(22, some 6), (30, some 14)] rfl (by kernel_rfl) rfl (fun kq hkq => AOp.pickAnd rfl rfl rfl (fun hb => gvE rfl hb) ⟨rfl, rfl, Nat.le_refl _⟩) ?_
  refine Draw.step [(31, some 15)] rfl (by kernel_rfl) rfl (fun kq hkq => AOp.move' (.inl rfl) rfl ⟨rfl, rfl, Nat.le_refl _⟩) ?_
  refine Draw.gd [(1, none), (32, some 16)] rfl (by kernel_rfl) (wantT rfl rfl rfl) (fun kq hkq hc => AOp.slots [(1, _)] (.cons rfl .nil) (AOp.move' (.inl rfl) rfl ⟨rfl, rfl, Nat.le_refl _⟩)) ?_
  refine Draw.gd [(33, some 17), (32, some 16)] rfl (by kernel_rfl) (wantT rfl rfl rfl) (fun kq hkq hc => AOp.slots [(33, _)] (.cons (gvT rfl hc) .nil) (AOp.cutQ (aslice_sub (by (repeat (first | exact sub_refl _ | assumption | refine sub_upd' ?_ (by ((repeat refine (upd_other _ _ (by omega)).trans ?_); first | exact hf _ (by omega))) | refine sub_over (by assumption) | refine sub_over0 ?_ | refine sub_trans (sub_same (by assumption)) ?_ | refine sub_dropu ?_ | refine sub_drop ?_ | refine sub_put ?_ (by repeat (first | assumption | exact upd_same _ _ _ | refine (upd_other _ _ (by omega)).trans ?_))))) hq3_18) rfl rfl (bnd_no rfl) (bnd_at rfl rfl) mx_no ⟨rfl, rfl, Nat.le_refl _⟩)) ?_
  refine Draw.gd [(34, some 18), (32, some 16)] rfl (by kernel_rfl) (wantT rfl rfl rfl) (fun kq hkq hc => AOp.slots [(34, _)] (.cons (gvT rfl hc) .nil) (AOp.call' rfl rfl rfl (root_b 4 [[97], [98]] [.slice (some ⟨k, 0, none⟩) 1 1, .slice (some ⟨k + 1, 0, none⟩) 1 1] A3_18 c3_18 _ _ (by repeat (first | assumption | exact upd_same _ _ _ | refine (upd_other _ _ (by omega)).trans ?_)) (hs3_18.sub (by (repeat (first | exact sub_refl _ | assumption | refine sub_upd' ?_ (by ((repeat refine (upd_other _ _ (by omega)).trans ?_); first | exact hf _ (by omega))) | refine sub_over (by assumption) | refine sub_over0 ?_ | refine sub_trans (sub_same (by assumption)) ?_ | refine sub_dropu ?_ | refine sub_drop ?_ | refine sub_put ?_ (by repeat (first | assumption | exact upd_same _ _ _ | refine (upd_other _ _ (by omega)).trans ?_)))))) (Lvs.cons (l := [97]) (A := some ⟨k, 0, none⟩) (c := 1) (SLC.fix (n := k) (l := 1) (b := { cells := [97].map bv, elem := 5, kind := .fix }) (by repeat (first | assumption | exact upd_same _ _ _ | refine (upd_other _ _ (by omega)).trans ?_)) rfl) (Lvs.cons (l := [98]) (A := some ⟨k + 1, 0, none⟩) (c := 1) (SLC.fix (n := k + 1) (l := 1) (b := { cells := [98].map bv, elem := 5, kind := .fix }) (by repeat (first | assumption | exact upd_same _ _ _ | refine (upd_other _ _ (by omega)).trans ?_)) rfl) Lvs.nil)) (by simp) (by simp) (by simp)) (fun _ _ _ h => h))) ?_
  refine Draw.gd [(1, none), (32, some 16)] rfl (by kernel_rfl) (wantT rfl rfl rfl) (fun kq hkq hc => AOp.slots [(1, _)] (.cons rfl .nil) (AOp.move' (.inl rfl) rfl ⟨rfl, rfl, Nat.le_refl _⟩)) ?_
  refine Draw.gd [(36, some 20), (32, some 16)] rfl (by kernel_rfl) (wantT rfl rfl rfl) (fun kq hkq hc => AOp.slots [(36, _)] (.cons (gvT rfl hc) .nil) (AOp.call' rfl rfl rfl (root_b 4 awL [.slice (some ⟨k, 0, none⟩) 1 1, .slice (some ⟨k + 1, 0, none⟩) 1 1, .slice (some ⟨k + 2, 0, none⟩) 1 1] (some ⟨k + 3, 0, some 1⟩) 3 _ _ (by repeat (first | assumption | exact upd_same _ _ _ | refine (upd_other _ _ (by omega)).trans ?_)) (SLC.grow (n := k + 3) (l := 3) (b := { cells := [.slice (some ⟨k, 0, none⟩) 1 1, .slice (some ⟨k + 1, 0, none⟩) 1 1, .slice (some ⟨k + 2, 0, none⟩) 1 1], elem := 22, kind := .grow }) (by repeat (first | assumption | exact upd_same _ _ _ | refine (upd_other _ _ (by omega)).trans ?_)) rfl rfl) (Lvs.cons (l := [97]) (A := some ⟨k, 0, none⟩) (c := 1) (SLC.fix (n := k) (l := 1) (b := { cells := [97].map bv, elem := 5, kind := .fix }) (by repeat (first | assumption | exact upd_same _ _ _ | refine (upd_other _ _ (by omega)).trans ?_)) rfl) (Lvs.cons (l := [98]) (A := some ⟨k + 1, 0, none⟩) (c := 1) (SLC.fix (n := k + 1) (l := 1) (b := { cells := [98].map bv, elem := 5, kind := .fix }) (by repeat (first | assumption | exact upd_same _ _ _ | refine (upd_other _ _ (by omega)).trans ?_)) rfl) (Lvs.cons (l := [99]) (A := some ⟨k + 2, 0, none⟩) (c := 1) (SLC.fix (n := k + 2) (l := 1) (b := { cells := [99].map bv, elem := 5, kind := .fix }) (by repeat (first | assumption | exact upd_same _ _ _ | refine (upd_other _ _ (by omega)).trans ?_)) rfl) Lvs.nil))) (by simp) (by simp) (by simp)) (fun _ _ _ h => h))) ?_
  refine Draw.gd [(2, none), (32, some 16)] rfl (by kernel_rfl) (wantT rfl rfl rfl) (fun kq hkq hc => AOp.slots [(2, _)] (.cons rfl .nil) (AOp.move' (.inl rfl) rfl ⟨rfl, rfl, Nat.le_refl _⟩)) ?_
  refine Draw.gd [(35, some 19), (37, some 21), (38, some 22), (32, some 16)] rfl (by kernel_rfl) (wantT rfl rfl rfl) (fun kq hkq hc => AOp.slots [(35, _), (37, _), (38, _)] (.cons (gvT rfl hc) (.cons (gvT rfl hc) (.cons (gvT rfl hc) .nil))) (AOp.call' rfl rfl rfl (check_b _ _ (by repeat (first | assumption | exact upd_same _ _ _ | refine (upd_other _ _ (by omega)).trans ?_)) 2 3 (by decide) (by decide) (by decide) (by decide) (root (awL.take 2)) (root awL) [lf [99]] (some ⟨q, 0, some 1⟩) 1 (SLC.pbk (n := q) (e := 24) (by repeat (first | assumption | exact upd_same _ _ _ | refine (upd_other _ _ (by omega)).trans ?_))) (by decide)) (fun _ _ _ h => h))) ?_
  rw [awk4]
  refine Draw.step [(32, some 16), (39, some 23)] rfl (by kernel_rfl) rfl (fun kq hkq => AOp.pickAnd rfl rfl rfl (fun hb => gvE rfl hb) ⟨rfl, rfl, Nat.le_refl _⟩) ?_
  refine Draw.step [(40, some 24)] rfl (by kernel_rfl) rfl (fun kq hkq => AOp.move' (.inl rfl) rfl ⟨rfl, rfl, Nat.le_refl _⟩) ?_
  refine Draw.gd [(1, none), (41, some 25)] rfl (by kernel_rfl) (wantT rfl rfl rfl) (fun kq hkq hc => AOp.slots [(1, _)] (.cons rfl .nil) (AOp.move' (.inl rfl) rfl ⟨rfl, rfl, Nat.le_refl _⟩)) ?_
  refine Draw.gd [(42, some 26), (41, some 25)] rfl (by kernel_rfl) (wantT rfl rfl rfl) (fun kq hkq hc => AOp.slots [(42, _)] (.cons (gvT rfl hc) .nil) (AOp.call' rfl rfl rfl (root_b 4 awL [.slice (some ⟨k, 0, none⟩) 1 1, .slice (some ⟨k + 1, 0, none⟩) 1 1, .slice (some ⟨k + 2, 0, none⟩) 1 1] (some ⟨k + 3, 0, some 1⟩) 3 _ _ (by repeat (first | assumption | exact upd_same _ _ _ | refine (upd_other _ _ (by omega)).trans ?_)) (SLC.grow (n := k + 3) (l := 3) (b := { cells := [.slice (some ⟨k, 0, none⟩) 1 1, .slice (some ⟨k + 1, 0, none⟩) 1 1, .slice (some ⟨k + 2, 0, none⟩) 1 1], elem := 22, kind := .grow }) (by repeat (first | assumption | exact upd_same _ _ _ | refine (upd_other _ _ (by omega)).trans ?_)) rfl rfl) (Lvs.cons (l := [97]) (A := some ⟨k, 0, none⟩) (c := 1) (SLC.fix (n := k) (l := 1) (b := { cells := [97].map bv, elem := 5, kind := .fix }) (by repeat (first | assumption | exact upd_same _ _ _ | refine (upd_other _ _ (by omega)).trans ?_)) rfl) (Lvs.cons (l := [98]) (A := some ⟨k + 1, 0, none⟩) (c := 1) (SLC.fix (n := k + 1) (l := 1) (b := { cells := [98].map bv, elem := 5, kind := .fix }) (by repeat (first | assumption | exact upd_same _ _ _ | refine (upd_other _ _ (by omega)).trans ?_)) rfl) (Lvs.cons (l := [99]) (A := some ⟨k + 2, 0, none⟩) (c := 1) (SLC.fix (n := k + 2) (l := 1) (b := { cells := [99].map bv, elem := 5, kind := .fix }) (by repeat (first | assumption | exact upd_same _ _ _ | refine (upd_other _ _ (by omega)).trans ?_)) rfl) Lvs.nil))) (by simp) (by simp) (by simp)) (fun _ _ _ h => h))) ?_
  refine Draw.gd [(1, none), (41, some 25)] rfl (by kernel_rfl) (wantT rfl rfl rfl) (fun kq hkq hc => AOp.slots [(1, _)] (.cons rfl .nil) (AOp.move' (.inl rfl) rfl ⟨rfl, rfl, Nat.le_refl _⟩)) ?_
  refine Draw.gd [(44, some 28), (41, some 25)] rfl (by kernel_rfl) (wantT rfl rfl rfl) (fun kq hkq hc => AOp.slots [(44, _)] (.cons (gvT rfl hc) .nil) (AOp.call' rfl rfl rfl (root_b 4 awL [.slice (some ⟨k, 0, none⟩) 1 1, .slice (some ⟨k + 1, 0, none⟩) 1 1, .slice (some ⟨k + 2, 0, none⟩) 1 1] (some ⟨k + 3, 0, some 1⟩) 3 _ _ (by repeat (first | assumption | exact upd_same _ _ _ | refine (upd_other _ _ (by omega)).trans ?_)) (SLC.grow (n := k + 3) (l := 3) (b := { cells := [.slice (some ⟨k, 0, none⟩) 1 1, .slice (some ⟨k + 1, 0, none⟩) 1 1, .slice (some ⟨k + 2, 0, none⟩) 1 1], elem := 22, kind := .grow }) (by repeat (first | assumption | exact upd_same _ _ _ | refine (upd_other _ _ (by omega)).trans ?_)) rfl rfl) (Lvs.cons (l := [97]) (A := some ⟨k, 0, none⟩) (c := 1) (SLC.fix (n := k) (l := 1) (b := { cells := [97].map bv, elem := 5, kind := .fix }) (by repeat (first | assumption | exact upd_same _ _ _ | refine (upd_other _ _ (by omega)).trans ?_)) rfl) (Lvs.cons (l := [98]) (A := some ⟨k + 1, 0, none⟩) (c := 1) (SLC.fix (n := k + 1) (l := 1) (b := { cells := [98].map bv, elem := 5, kind := .fix }) (by repeat (first | assumption | exact upd_same _ _ _ | refine (upd_other _ _ (by omega)).trans ?_)) rfl) (Lvs.cons (l := [99]) (A := some ⟨k + 2, 0, none⟩) (c := 1) (SLC.fix (n := k + 2) (l := 1) (b := { cells := [99].map bv, elem := 5, kind := .fix }) (by repeat (first | assumption | exact upd_same _ _ _ | refine (upd_other _ _ (by omega)).trans ?_)) rfl) Lvs.nil))) (by simp) (by simp) (by simp)) (fun _ _ _ h => h))) ?_
  refine Draw.gd [(2, none), (41, some 25)] rfl (by kernel_rfl) (wantT rfl rfl rfl) (fun kq hkq hc => AOp.slots [(2, _)] (.cons rfl .nil) (AOp.move' (.inl rfl) rfl ⟨rfl, rfl, Nat.le_refl _⟩)) ?_
  refine Draw.gd [(43, some 27), (45, some 29), (46, some 30), (41, some 25)] rfl (by kernel_rfl) (wantT rfl rfl rfl) (fun kq hkq hc => AOp.slots [(43, _), (45, _), (46, _)] (.cons (gvT rfl hc) (.cons (gvT rfl hc) (.cons (gvT rfl hc) .nil))) (AOp.call' rfl rfl rfl (check_b _ _ (by repeat (first | assumption | exact upd_same _ _ _ | refine (upd_other _ _ (by omega)).trans ?_)) 2 3 (by decide) (by decide) (by decide) (by decide) (root awL) (root awL) [lf [99]] (some ⟨q, 0, some 1⟩) 1 (SLC.pbk (n := q) (e := 24) (by repeat (first | assumption | exact upd_same _ _ _ | refine (upd_other _ _ (by omega)).trans ?_))) (by decide)) (fun _ _ _ h => h))) ?_
  rw [awk5]
  refine Draw.gd [(47, some 31), (41, some 25)] rfl (by kernel_rfl) (wantT rfl rfl rfl) (fun kq hkq hc => AOp.slots [(47, _)] (.cons (gvT rfl hc) .nil) (AOp.un' rfl rfl rfl ⟨rfl, rfl, Nat.le_refl _⟩)) ?_
  refine Draw.step [(41, some 25), (48, some 32)] rfl (by kernel_rfl) rfl (fun kq hkq => AOp.pickAnd rfl rfl rfl (fun hb => gvE rfl hb) ⟨rfl, rfl, Nat.le_refl _⟩) ?_
  refine Draw.step [(49, some 33)] rfl (by kernel_rfl) rfl (fun kq hkq => AOp.move' (.inr rfl) rfl ⟨rfl, rfl, Nat.le_refl _⟩) ?_
  refine Draw.done fun kq hkq => ?_
  show aOps _ _ _ _ [] ⟨_, _, _⟩
  refine aOps_end ?_
  show ACode _ _ _ _ _ _
  refine ACode.ret ?_
  exact RetQ.one rfl rfl (by (repeat (first | exact sub_refl _ | assumption | refine sub_upd' ?_ (by ((repeat refine (upd_other _ _ (by omega)).trans ?_); first | exact hf _ (by omega))) | refine sub_over (by assumption) | refine sub_over0 ?_ | refine sub_trans (sub_same (by assumption)) ?_ | refine sub_dropu ?_ | refine sub_drop ?_ | refine sub_put ?_ (by repeat (first | assumption | exact upd_same _ _ _ | refine (upd_other _ _ (by omega)).trans ?_))))) stays (fun hk => ⟨rfl, rfl, by omega⟩)

theorem growChecks (ht : H 0 = some tabBlk) (m n : Int) (hm1 : -9223372036854775808 ≤ m) (hm2 : m ≤ 9223372036854775807) (hn1 : -9223372036854775808 ≤ n) (hn2 : n ≤ 9223372036854775807) (a b : Dg) (p : List Dg) (A : Option Addr) (c : Nat) (hs : SLC H 32 A p.length c (hcs p)) (hpl : p.length ≤ 9223372036854775807) : ACalls Tryd.prog 1 11 [.int .i64 m, .int .i64 n, hv a, hv b, .slice A p.length c] H k (Same H k (.bool true)) := by
  refine ACalls.fresh fun hf => ?_
  refine ACalls.body Tryd.func11 rfl (Nat.le_of_ble_eq_true rfl) ?_
  have h0k := old_lt hf ht
  refine ACode.seq ?_
  refine ACode.region' [0, 1, 2] (by kernel_rfl) rfl ?_
  refine aOps_1 rfl rfl rfl (AOp.boxV rfl rfl ?_)
  refine aOps_1 rfl rfl rfl (AOp.boxV rfl rfl ?_)
  refine aOps_1 rfl rfl rfl (AOp.move' (.inr rfl) rfl ?_)
  refine aOps_end ?_
  show ACode _ _ _ _ _ _
  refine ACode.seq ?_
  refine ACode.draw' 22 [(0, 11), (1, 12), (2, 13), (3, 14), (4, 15), (5, 16), (6, 17), (7, 18), (8, 19), (9, 20), (10, 21), (11, 22), (12, 23), (13, 24), (14, 25), (15, 26), (16, 27), (17, 28), (18, 29), (19, 30), (20, 31), (21, 10)] mixed (by kernel_rfl) ?_
  refine Draw.step [(4, none)] rfl (by kernel_rfl) rfl (fun kq hkq => AOp.move' (.inl rfl) rfl ⟨rfl, rfl, Nat.le_refl _⟩) ?_
  refine Draw.step [(11, some 0)] rfl (by kernel_rfl) rfl (fun kq hkq => AOp.len' rfl rfl ⟨rfl, rfl, Nat.le_refl _⟩) ?_
  refine Draw.step [(12, some 1)] rfl (by kernel_rfl) rfl (fun kq hkq => AOp.bin' rfl rfl rfl rfl ⟨rfl, rfl, Nat.le_refl _⟩) ?_
  refine Draw.step [(13, some 2)] rfl (by kernel_rfl) rfl (fun kq hkq => AOp.move' (.inl rfl) rfl ⟨rfl, rfl, Nat.le_refl _⟩) ?_
  refine Draw.gd [(0, none), (14, some 3)] rfl (by kernel_rfl) (wantF rfl rfl rfl) (fun kq hkq hc => AOp.slots [(0, _)] (.cons rfl .nil) (AOp.move' (.inl rfl) rfl ⟨rfl, rfl, Nat.le_refl _⟩)) ?_
  refine Draw.gd [(1, none), (14, some 3)] rfl (by kernel_rfl) (wantF rfl rfl rfl) (fun kq hkq hc => AOp.slots [(1, _)] (.cons rfl .nil) (AOp.move' (.inl rfl) rfl ⟨rfl, rfl, Nat.le_refl _⟩)) ?_
  refine Draw.gd [(7, none), (14, some 3)] rfl (by kernel_rfl) (wantF rfl rfl rfl) (fun kq hkq hc => AOp.slots [(7, _)] (.cons rfl .nil) ((by refine AOp.loadAll (b := ?b1) (v := hv a) rfl rfl ?hn1 ?hv1 ?hw1 ?hz1 ?hR1; (case hn1 => repeat (first | assumption | exact upd_same _ _ _ | refine (upd_other _ _ (by omega)).trans ?_)); (case hv1 => rfl); (case hw1 => rfl); (case hz1 => first | rfl | exact hv_size _ | exact hcs_one _ | exact (aw_size _).trans rfl | exact one_wv _ | exact one_bv _ | exact rv_size _ | (simp; done)); exact ⟨rfl, rfl, Nat.le_refl _⟩))) ?_
  refine Draw.gd [(8, none), (14, some 3)] rfl (by kernel_rfl) (wantF rfl rfl rfl) (fun kq hkq hc => AOp.slots [(8, _)] (.cons rfl .nil) ((by refine AOp.loadAll (b := ?b2) (v := hv b) rfl rfl ?hn2 ?hv2 ?hw2 ?hz2 ?hR2; (case hn2 => repeat (first | assumption | exact upd_same _ _ _ | refine (upd_other _ _ (by omega)).trans ?_)); (case hv2 => rfl); (case hw2 => rfl); (case hz2 => first | rfl | exact hv_size _ | exact hcs_one _ | exact (aw_size _).trans rfl | exact one_wv _ | exact one_bv _ | exact rv_size _ | (simp; done)); exact ⟨rfl, rfl, Nat.le_refl _⟩))) ?_
  refine Draw.gd [(4, none), (14, some 3)] rfl (by kernel_rfl) (wantF rfl rfl rfl) (fun kq hkq hc => AOp.slots [(4, _)] (.cons rfl .nil) (AOp.move' (.inl rfl) rfl ⟨rfl, rfl, Nat.le_refl _⟩)) ?_
  refine Draw.gd [(15, some 4), (16, some 5), (17, some 6), (18, some 7), (19, some 8), (14, some 3)] rfl (by kernel_rfl) (wantF rfl rfl rfl) (fun kq hkq hc => AOp.slots [(15, _), (16, _), (17, _), (18, _), (19, _)] (.cons (gvT rfl hc) (.cons (gvT rfl hc) (.cons (gvT rfl hc) (.cons (gvT rfl hc) (.cons (gvT rfl hc) .nil))))) (AOp.call' rfl rfl rfl (check_b _ _ (by repeat (first | assumption | exact upd_same _ _ _ | refine (upd_other _ _ (by omega)).trans ?_)) m n hm1 hm2 hn1 hn2 a b p A c (hs.sub (by (repeat (first | exact sub_refl _ | assumption | refine sub_upd' ?_ (by ((repeat refine (upd_other _ _ (by omega)).trans ?_); first | exact hf _ (by omega))) | refine sub_over (by assumption) | refine sub_over0 ?_ | refine sub_trans (sub_same (by assumption)) ?_ | refine sub_dropu ?_ | refine sub_drop ?_ | refine sub_put ?_ (by repeat (first | assumption | exact upd_same _ _ _ | refine (upd_other _ _ (by omega)).trans ?_)))))) hpl) (fun _ _ _ h => h))) ?_
  refine Draw.gd [(0, none), (14, some 3)] rfl (by kernel_rfl) (wantF rfl rfl rfl) (fun kq hkq hc => AOp.slots [(0, _)] (.cons rfl .nil) (AOp.move' (.inl rfl) rfl ⟨rfl, rfl, Nat.le_refl _⟩)) ?_
  refine Draw.gd [(1, none), (14, some 3)] rfl (by kernel_rfl) (wantF rfl rfl rfl) (fun kq hkq hc => AOp.slots [(1, _)] (.cons rfl .nil) (AOp.move' (.inl rfl) rfl ⟨rfl, rfl, Nat.le_refl _⟩)) ?_
  refine Draw.gd [(7, none), (14, some 3)] rfl (by kernel_rfl) (wantF rfl rfl rfl) (fun kq hkq hc => AOp.slots [(7, _)] (.cons rfl .nil) ((by refine AOp.loadAll (b := ?b3) (v := hv a) rfl rfl ?hn3 ?hv3 ?hw3 ?hz3 ?hR3; (case hn3 => repeat (first | assumption | exact upd_same _ _ _ | refine (upd_other _ _ (by omega)).trans ?_)); (case hv3 => rfl); (case hw3 => rfl); (case hz3 => first | rfl | exact hv_size _ | exact hcs_one _ | exact (aw_size _).trans rfl | exact one_wv _ | exact one_bv _ | exact rv_size _ | (simp; done)); exact ⟨rfl, rfl, Nat.le_refl _⟩))) ?_
  refine Draw.gd [(8, none), (14, some 3)] rfl (by kernel_rfl) (wantF rfl rfl rfl) (fun kq hkq hc => AOp.slots [(8, _)] (.cons rfl .nil) ((by refine AOp.loadAll (b := ?b4) (v := hv b) rfl rfl ?hn4 ?hv4 ?hw4 ?hz4 ?hR4; (case hn4 => repeat (first | assumption | exact upd_same _ _ _ | refine (upd_other _ _ (by omega)).trans ?_)); (case hv4 => rfl); (case hw4 => rfl); (case hz4 => first | rfl | exact hv_size _ | exact hcs_one _ | exact (aw_size _).trans rfl | exact one_wv _ | exact one_bv _ | exact rv_size _ | (simp; done)); exact ⟨rfl, rfl, Nat.le_refl _⟩))) ?_
  refine Draw.gd [(4, none), (14, some 3)] rfl (by kernel_rfl) (wantF rfl rfl rfl) (fun kq hkq hc => AOp.slots [(4, _)] (.cons rfl .nil) (AOp.move' (.inl rfl) rfl ⟨rfl, rfl, Nat.le_refl _⟩)) ?_
  refine Draw.gd [(21, some 10), (22, some 11), (23, some 12), (24, some 13), (25, some 14), (14, some 3)] rfl (by kernel_rfl) (wantF rfl rfl rfl) (fun kq hkq hc => AOp.slots [(21, _), (22, _), (23, _), (24, _), (25, _)] (.cons (gvT rfl hc) (.cons (gvT rfl hc) (.cons (gvT rfl hc) (.cons (gvT rfl hc) (.cons (gvT rfl hc) .nil))))) (AOp.call' rfl rfl rfl (refcheck_b _ _ (by repeat (first | assumption | exact upd_same _ _ _ | refine (upd_other _ _ (by omega)).trans ?_)) m n hm1 hm2 hn1 hn2 a b p A c (hs.sub (by (repeat (first | exact sub_refl _ | assumption | refine sub_upd' ?_ (by ((repeat refine (upd_other _ _ (by omega)).trans ?_); first | exact hf _ (by omega))) | refine sub_over (by assumption) | refine sub_over0 ?_ | refine sub_trans (sub_same (by assumption)) ?_ | refine sub_dropu ?_ | refine sub_drop ?_ | refine sub_put ?_ (by repeat (first | assumption | exact upd_same _ _ _ | refine (upd_other _ _ (by omega)).trans ?_)))))) hpl) (fun _ _ _ h => h))) ?_
  refine Draw.gd [(20, some 9), (26, some 15), (14, some 3)] rfl (by kernel_rfl) (wantF rfl rfl rfl) (fun kq hkq hc => AOp.slots [(20, _), (26, _)] (.cons (gvT rfl hc) (.cons (gvT rfl hc) .nil)) (AOp.eqBool rfl rfl rfl ⟨rfl, rfl, Nat.le_refl _⟩)) ?_
  refine Draw.step [(14, some 3), (27, some 16)] rfl (by kernel_rfl) rfl (fun kq hkq => AOp.pickOr rfl rfl rfl (fun hb => gvE rfl (t_not hb)) ⟨rfl, rfl, Nat.le_refl _⟩) ?_
  refine Draw.step [(28, some 17)] rfl (by kernel_rfl) rfl (fun kq hkq => AOp.move' (.inl rfl) rfl ⟨rfl, rfl, Nat.le_refl _⟩) ?_
  refine Draw.gd [(29, some 18)] rfl (by kernel_rfl) (wantT rfl rfl rfl) (fun kq hkq hc => AOp.slots [] .nil (AOp.call' rfl rfl rfl (awake20 _ _ (by repeat (first | assumption | exact upd_same _ _ _ | refine (upd_other _ _ (by omega)).trans ?_))) (fun _ _ _ h => h))) ?_
  refine Draw.step [(29, some 18), (30, some 19)] rfl (by kernel_rfl) rfl (fun kq hkq => AOp.pickAnd rfl rfl rfl (fun hb => gvE rfl hb) ⟨rfl, rfl, Nat.le_refl _⟩) ?_
  refine Draw.step [(31, some 20)] rfl (by kernel_rfl) rfl (fun kq hkq => AOp.move' (.inr rfl) rfl ⟨rfl, rfl, Nat.le_refl _⟩) ?_
  refine Draw.done fun kq hkq => ?_
  show aOps _ _ _ _ [] ⟨_, _, _⟩
  refine aOps_end ?_
  show ACode _ _ _ _ _ _
  refine ACode.ret ?_
  exact RetQ.one rfl rfl (by (repeat (first | exact sub_refl _ | assumption | refine sub_upd' ?_ (by ((repeat refine (upd_other _ _ (by omega)).trans ?_); first | exact hf _ (by omega))) | refine sub_over (by assumption) | refine sub_over0 ?_ | refine sub_trans (sub_same (by assumption)) ?_ | refine sub_dropu ?_ | refine sub_drop ?_ | refine sub_put ?_ (by repeat (first | assumption | exact upd_same _ _ _ | refine (upd_other _ _ (by omega)).trans ?_))))) stays (fun hk => ⟨(by simp), rfl, by omega⟩)

theorem growProofs (ht : H 0 = some tabBlk) (ls : List (List UInt8)) (vs : List Value) (A : Option Addr) (c : Nat) (hs : SLC H 1 A vs.length c vs) (hL : Lvs H vs ls) (hl : vs.length ≤ 9223372036854775807) (m : Int) (hm1 : -9223372036854775808 ≤ m) (hm2 : m ≤ 9223372036854775807) : ACalls Tryd.prog 1 10 [.slice A vs.length c, .int .i64 m] H k (Same H k (.bool true)) := by
  refine ACalls.fresh fun hf => ?_
  refine ACalls.body Tryd.func10 rfl (Nat.le_of_ble_eq_true rfl) ?_
  have h0k := old_lt hf ht
  have hvl := hL.len
  refine ACode.seq ?_
  refine ACode.region' [0] (by kernel_rfl) rfl ?_
  refine aOps_1 rfl rfl rfl (AOp.move' (.inr rfl) rfl ?_)
  refine aOps_end ?_
  show ACode _ _ _ _ _ _
  refine ACode.seq ?_
  refine ACode.seq ?_
  refine ACode.region' [0, 1] (by kernel_rfl) rfl ?_
  refine aOps_1 rfl rfl rfl (AOp.move' (.inl rfl) rfl ?_)
  refine aOps_q rfl rfl rfl (AOp.call' rfl rfl rfl (great_l _ _ ls vs A c (hs.sub (by (repeat (first | exact sub_refl _ | assumption | refine sub_upd' ?_ (by ((repeat refine (upd_other _ _ (by omega)).trans ?_); first | exact hf _ (by omega))) | refine sub_over (by assumption) | refine sub_over0 ?_ | refine sub_trans (sub_same (by assumption)) ?_ | refine sub_dropu ?_ | refine sub_drop ?_ | refine sub_put ?_ (by repeat (first | assumption | exact upd_same _ _ _ | refine (upd_other _ _ (by omega)).trans ?_)))))) (hL.sub (by (repeat (first | exact sub_refl _ | assumption | refine sub_upd' ?_ (by ((repeat refine (upd_other _ _ (by omega)).trans ?_); first | exact hf _ (by omega))) | refine sub_over (by assumption) | refine sub_over0 ?_ | refine sub_trans (sub_same (by assumption)) ?_ | refine sub_dropu ?_ | refine sub_drop ?_ | refine sub_put ?_ (by repeat (first | assumption | exact upd_same _ _ _ | refine (upd_other _ _ (by omega)).trans ?_)))))) (by omega) 30 60) (fun _ _ _ h => h)) (fun kq hkq => ?_)
  refine aOps_end ?_
  show ACode _ _ _ _ _ _
  refine ACode.cond rfl (fun c0 => ?_) (fun c0 => ?_)
  · try simp only [decide_eq_true_eq, decide_eq_false_iff_not, beq_iff_eq, beq_eq_false_iff_ne, ne_eq, bne_iff_ne, Bool.not_eq_true', Bool.not_eq_false', Int.not_lt, Int.not_le, gt_iff_lt, ge_iff_le, bne_eq_false_iff_eq, Bool.not_eq_eq_eq_not, Bool.not_true, Bool.not_false] at c0
    refine ACode.seq ?_
    refine ACode.region' [0, 1] (by kernel_rfl) rfl ?_
    refine aOps_q rfl rfl rfl (AOp.call' rfl rfl rfl (awake20 _ _ (by repeat (first | assumption | exact upd_same _ _ _ | refine (upd_other _ _ (by omega)).trans ?_))) (fun _ _ _ h => h)) (fun kq hkq => ?_)
    refine aOps_1 rfl rfl rfl (AOp.move' (.inr rfl) rfl ?_)
    refine aOps_end ?_
    show ACode _ _ _ _ _ _
    refine ACode.ret ?_
    exact RetQ.one rfl rfl (by (repeat (first | exact sub_refl _ | assumption | refine sub_upd' ?_ (by ((repeat refine (upd_other _ _ (by omega)).trans ?_); first | exact hf _ (by omega))) | refine sub_over (by assumption) | refine sub_over0 ?_ | refine sub_trans (sub_same (by assumption)) ?_ | refine sub_dropu ?_ | refine sub_drop ?_ | refine sub_put ?_ (by repeat (first | assumption | exact upd_same _ _ _ | refine (upd_other _ _ (by omega)).trans ?_))))) stays (fun hk => ⟨rfl, rfl, by omega⟩)
  · try simp only [decide_eq_true_eq, decide_eq_false_iff_not, beq_iff_eq, beq_eq_false_iff_ne, ne_eq, bne_iff_ne, Bool.not_eq_true', Bool.not_eq_false', Int.not_lt, Int.not_le, gt_iff_lt, ge_iff_le, bne_eq_false_iff_eq, Bool.not_eq_eq_eq_not, Bool.not_true, Bool.not_false] at c0
    obtain ⟨g4, g5⟩ := greatL_of (show greatL 30 60 ls = false by simpa using c0)
    have hb : ∀ x ∈ ls, x.length ≤ 549755813000 := fun x hx => Nat.le_trans (g5 x hx) (by decide)
    refine ACode.skip ?_
    show ACode _ _ _ _ _ _
    refine ACode.seq ?_
    refine ACode.region' [0, 1, 2, 3, 4, 5, 6, 7] (by kernel_rfl) rfl ?_
    refine aOps_1 rfl rfl rfl (AOp.move' (.inl rfl) rfl ?_)
    refine aOps_1 rfl rfl rfl (AOp.move' (.inl rfl) rfl ?_)
    refine aOps_1 rfl rfl rfl ?_
    refine AOp.call' rfl rfl rfl (proofF_b _ _ (by repeat (first | assumption | exact upd_same _ _ _ | refine (upd_other _ _ (by omega)).trans ?_)) ls vs A c (hs.sub (by (repeat (first | exact sub_refl _ | assumption | refine sub_upd' ?_ (by ((repeat refine (upd_other _ _ (by omega)).trans ?_); first | exact hf _ (by omega))) | refine sub_over (by assumption) | refine sub_over0 ?_ | refine sub_trans (sub_same (by assumption)) ?_ | refine sub_dropu ?_ | refine sub_drop ?_ | refine sub_put ?_ (by repeat (first | assumption | exact upd_same _ _ _ | refine (upd_other _ _ (by omega)).trans ?_)))))) (hL.sub (by (repeat (first | exact sub_refl _ | assumption | refine sub_upd' ?_ (by ((repeat refine (upd_other _ _ (by omega)).trans ?_); first | exact hf _ (by omega))) | refine sub_over (by assumption) | refine sub_over0 ?_ | refine sub_trans (sub_same (by assumption)) ?_ | refine sub_dropu ?_ | refine sub_drop ?_ | refine sub_put ?_ (by repeat (first | assumption | exact upd_same _ _ _ | refine (upd_other _ _ (by omega)).trans ?_)))))) (by omega) hb m hm1 hm2) ?_
    rintro _ _ kq0 ⟨q, hq1, hq2, rfl, rfl⟩
    refine aOps_1 rfl rfl rfl (AOp.move' (.inl rfl) rfl ?_)
    refine aOps_1 rfl rfl rfl (AOp.extract' rfl rfl rfl ?_)
    refine aOps_1 rfl rfl rfl (AOp.extract' rfl rfl rfl ?_)
    refine aOps_1 rfl rfl rfl (AOp.move' (.inr rfl) rfl ?_)
    refine aOps_1 rfl rfl rfl (AOp.move' (.inr rfl) rfl ?_)
    refine aOps_end ?_
    show ACode _ _ _ _ _ _
    refine ACode.seq ?_
    refine ACode.seq ?_
    refine ACode.region' [0, 1, 2, 3, 4, 5, 6, 7] (by kernel_rfl) rfl ?_
    refine aOps_1 rfl rfl rfl (AOp.move' (.inl rfl) rfl ?_)
    refine aOps_1 rfl rfl rfl (AOp.bin' rfl rfl rfl rfl ?_)
    refine aOps_1 rfl rfl rfl (AOp.move' (.inl rfl) rfl ?_)
    refine aOps_gd0 rfl rfl (wantF rfl rfl rfl) (fun hc => AOp.slots [(1, _)] (.cons rfl .nil) (AOp.move' (.inl rfl) rfl ⟨rfl, rfl, rfl⟩)) ?_
    refine aOps_gd0 rfl rfl (wantF rfl rfl rfl) (fun hc => AOp.slots [(0, _)] (.cons rfl .nil) (AOp.move' (.inl rfl) rfl ⟨rfl, rfl, rfl⟩)) ?_
    refine aOps_gd0 rfl rfl (wantF rfl rfl rfl) (fun hc => AOp.slots [(20, _)] (.cons (gvT rfl hc) .nil) (AOp.len' rfl rfl ⟨rfl, rfl, rfl⟩)) ?_
    refine aOps_gd0 rfl rfl (wantF rfl rfl rfl) (fun hc => AOp.slots [(19, _), (21, _)] (.cons (gvT rfl hc) (.cons (gvT rfl hc) .nil)) (AOp.bin' rfl rfl rfl rfl ⟨rfl, rfl, rfl⟩)) ?_
    refine aOps_1 rfl rfl rfl (AOp.pickOr rfl rfl rfl (fun hb => gvE rfl (t_not hb)) ?_)
    refine aOps_end ?_
    show ACode _ _ _ _ _ _
    refine ACode.cond rfl (fun c1 => ?_) (fun c1 => ?_)
    · try simp only [decide_eq_true_eq, decide_eq_false_iff_not, beq_iff_eq, beq_eq_false_iff_ne, ne_eq, bne_iff_ne, Bool.not_eq_true', Bool.not_eq_false', Int.not_lt, Int.not_le, gt_iff_lt, ge_iff_le, bne_eq_false_iff_eq, Bool.not_eq_eq_eq_not, Bool.not_true, Bool.not_false] at c1
      simp only [Bool.or_eq_true, decide_eq_true_eq] at c1
      have hmy : mayZ m (vs.length : Int) = false := decide_eq_false (by omega)
      have hpe : proofZ ls m = [] := if_neg (by omega)
      rw [hmy, hpe]
      have hsz : sizeZ m (vs.length : Int) = -1 := by rw [sizeZ, hmy]; rfl
      refine ACode.seq ?_
      refine ACode.region' [0, 1, 2, 3, 4, 5, 6, 7, 8, 9, 10, 11, 12, 13, 14, 15, 16, 17] (by kernel_rfl) rfl ?_
      refine aOps_1 rfl rfl rfl (AOp.move' (.inl rfl) rfl ?_)
      refine aOps_1 rfl rfl rfl (AOp.un' rfl rfl rfl ?_)
      refine aOps_1 rfl rfl rfl (AOp.move' (.inl rfl) rfl ?_)
      refine aOps_gd0 rfl rfl (wantT rfl rfl rfl) (fun hc => AOp.slots [(5, _)] (.cons rfl .nil) (AOp.move' (.inl rfl) rfl ⟨rfl, rfl, rfl⟩)) ?_
      refine aOps_gd0 rfl rfl (wantT rfl rfl rfl) (fun hc => AOp.slots [(27, _)] (.cons (gvT rfl hc) .nil) (AOp.len' rfl rfl ⟨rfl, rfl, rfl⟩)) ?_
      refine aOps_gd0 rfl rfl (wantT rfl rfl rfl) (fun hc => AOp.slots [(28, _)] (.cons (gvT rfl hc) .nil) (AOp.bin' rfl rfl rfl rfl ⟨rfl, rfl, rfl⟩)) ?_
      refine aOps_1 rfl rfl rfl (AOp.pickAnd rfl rfl rfl (fun hb => gvE rfl hb) ?_)
      refine aOps_1 rfl rfl rfl (AOp.move' (.inl rfl) rfl ?_)
      refine aOps_gd0 rfl rfl (wantT rfl rfl rfl) (fun hc => AOp.slots [(1, _)] (.cons rfl .nil) (AOp.move' (.inl rfl) rfl ⟨rfl, rfl, rfl⟩)) ?_
      refine aOps_gd0 rfl rfl (wantT rfl rfl rfl) (fun hc => AOp.slots [(0, _)] (.cons rfl .nil) (AOp.move' (.inl rfl) rfl ⟨rfl, rfl, rfl⟩)) ?_
      refine aOps_gd0 rfl rfl (wantT rfl rfl rfl) (fun hc => AOp.slots [(33, _)] (.cons (gvT rfl hc) .nil) (AOp.len' rfl rfl ⟨rfl, rfl, rfl⟩)) ?_
      refine aOps_gd rfl rfl (wantT rfl rfl rfl) (fun hc => AOp.slots [(32, _), (34, _)] (.cons (gvT rfl hc) (.cons (gvT rfl hc) .nil)) (AOp.call' rfl rfl rfl (size_b _ _ m vs.length hm1 hm2 (by omega) (by omega)) (fun _ _ _ h => h))) (fun kq hkq => ?_)
      refine aOps_gd0 rfl rfl (wantT rfl rfl rfl) (fun hc => AOp.slots [(35, _)] (.cons (gvT rfl hc) .nil) (AOp.bin' rfl rfl rfl rfl ⟨rfl, rfl, rfl⟩)) ?_
      refine aOps_1 rfl rfl rfl (AOp.pickAnd rfl rfl rfl (fun hb => gvE rfl hb) ?_)
      refine aOps_1 rfl rfl rfl (AOp.move' (.inl rfl) rfl ?_)
      refine aOps_gd rfl rfl (wantT rfl rfl rfl) (fun hc => AOp.slots [] .nil (AOp.call' rfl rfl rfl (awake20 _ _ (by repeat (first | assumption | exact upd_same _ _ _ | refine (upd_other _ _ (by omega)).trans ?_))) (fun _ _ _ h => h))) (fun kq hkq => ?_)
      refine aOps_1 rfl rfl rfl (AOp.pickAnd rfl rfl rfl (fun hb => gvE rfl hb) ?_)
      refine aOps_1 rfl rfl rfl (AOp.move' (.inr rfl) rfl ?_)
      refine aOps_end ?_
      show ACode _ _ _ _ _ _
      refine ACode.ret ?_
      exact RetQ.one rfl rfl (by (repeat (first | exact sub_refl _ | assumption | refine sub_upd' ?_ (by ((repeat refine (upd_other _ _ (by omega)).trans ?_); first | exact hf _ (by omega))) | refine sub_over (by assumption) | refine sub_over0 ?_ | refine sub_trans (sub_same (by assumption)) ?_ | refine sub_dropu ?_ | refine sub_drop ?_ | refine sub_put ?_ (by repeat (first | assumption | exact upd_same _ _ _ | refine (upd_other _ _ (by omega)).trans ?_))))) stays (fun hk => ⟨(by simp [hsz]), rfl, by omega⟩)
    · try simp only [decide_eq_true_eq, decide_eq_false_iff_not, beq_iff_eq, beq_eq_false_iff_ne, ne_eq, bne_iff_ne, Bool.not_eq_true', Bool.not_eq_false', Int.not_lt, Int.not_le, gt_iff_lt, ge_iff_le, bne_eq_false_iff_eq, Bool.not_eq_eq_eq_not, Bool.not_true, Bool.not_false] at c1
      simp only [Bool.or_eq_false_iff, decide_eq_false_iff_not] at c1
      have hmy : mayZ m (vs.length : Int) = true := decide_eq_true (by omega)
      rw [hmy]
      have hpl := proofZ_len (l := ls) (m := m) (by omega) (by omega) (by omega)
      rw [← hvl] at hpl
      have hsl : sizeZ m (vs.length : Int) ≤ 41 := by { unfold sizeZ; rw [hmy, if_pos rfl]; have := sizeN_le (part := false) 40 (m := m.toNat) (n := (vs.length : Int).toNat) (by omega) (by omega); split <;> omega }
      refine ACode.skip ?_
      show ACode _ _ _ _ _ _
      refine ACode.seq ?_
      refine ACode.region' [0, 1, 2, 3, 4, 5, 6, 7, 8, 9, 10, 11, 12, 13, 14, 15, 16, 17, 18, 19, 20] (by kernel_rfl) rfl ?_
      refine aOps_1 rfl rfl rfl (AOp.move' (.inl rfl) rfl ?_)
      refine aOps_1 rfl rfl rfl (AOp.move' (.inl rfl) rfl ?_)
      refine aOps_w rfl rfl rfl (AOp.move' (.inl rfl) rfl ?_)
      refine aOps_w rfl rfl rfl (AOp.move' (.inl rfl) rfl ?_)
      refine aOps_w rfl rfl rfl (AOp.move' (.inl rfl) rfl ?_)
      refine aOps_w rfl rfl rfl ?_
      refine AOp.call' rfl rfl rfl (refproofF_b _ _ (by repeat (first | assumption | exact upd_same _ _ _ | refine (upd_other _ _ (by omega)).trans ?_)) ls vs A c (hs.sub (by (repeat (first | exact sub_refl _ | assumption | refine sub_upd' ?_ (by ((repeat refine (upd_other _ _ (by omega)).trans ?_); first | exact hf _ (by omega))) | refine sub_over (by assumption) | refine sub_over0 ?_ | refine sub_trans (sub_same (by assumption)) ?_ | refine sub_dropu ?_ | refine sub_drop ?_ | refine sub_put ?_ (by repeat (first | assumption | exact upd_same _ _ _ | refine (upd_other _ _ (by omega)).trans ?_)))))) (hL.sub (by (repeat (first | exact sub_refl _ | assumption | refine sub_upd' ?_ (by ((repeat refine (upd_other _ _ (by omega)).trans ?_); first | exact hf _ (by omega))) | refine sub_over (by assumption) | refine sub_over0 ?_ | refine sub_trans (sub_same (by assumption)) ?_ | refine sub_dropu ?_ | refine sub_drop ?_ | refine sub_put ?_ (by repeat (first | assumption | exact upd_same _ _ _ | refine (upd_other _ _ (by omega)).trans ?_)))))) (by omega) hb m (by omega) (by omega)) ?_
      rintro _ _ kq1 ⟨q2, hq3, hq4, rfl, rfl⟩
      refine aOps_wq rfl rfl rfl (AOp.call' rfl rfl rfl (sameH_b _ _ (proofZ ls m) (proofZ ls m) (some ⟨q, 0, some 1⟩) (some ⟨q2, 0, some 1⟩) _ _ (SLC.pbk (n := q) (e := 24) (by repeat (first | assumption | exact upd_same _ _ _ | refine (upd_other _ _ (by omega)).trans ?_))) (SLC.pbk (n := q2) (e := 24) (by repeat (first | assumption | exact upd_same _ _ _ | refine (upd_other _ _ (by omega)).trans ?_))) (by omega)) (fun _ _ _ h => h)) (fun kq hkq => ?_)
      rw [show decide (proofZ ls m = proofZ ls m) = true from decide_eq_true rfl]
      refine aOps_1 rfl rfl rfl (AOp.pickAnd rfl rfl rfl (fun _ => rfl) ?_)
      refine aOps_1 rfl rfl rfl (AOp.move' (.inl rfl) rfl ?_)
      refine aOps_gd0 rfl rfl (wantT rfl rfl rfl) (fun hc => AOp.slots [(1, _)] (.cons rfl .nil) (AOp.move' (.inl rfl) rfl ⟨rfl, rfl, rfl⟩)) ?_
      refine aOps_gd0 rfl rfl (wantT rfl rfl rfl) (fun hc => AOp.slots [(0, _)] (.cons rfl .nil) (AOp.move' (.inl rfl) rfl ⟨rfl, rfl, rfl⟩)) ?_
      refine aOps_gd0 rfl rfl (wantT rfl rfl rfl) (fun hc => AOp.slots [(51, _)] (.cons (gvT rfl hc) .nil) (AOp.len' rfl rfl ⟨rfl, rfl, rfl⟩)) ?_
      refine aOps_gd rfl rfl (wantT rfl rfl rfl) (fun hc => AOp.slots [(50, _), (52, _)] (.cons (gvT rfl hc) (.cons (gvT rfl hc) .nil)) (AOp.call' rfl rfl rfl (size_b _ _ m vs.length hm1 hm2 (by omega) (by omega)) (fun _ _ _ h => h))) (fun kq hkq => ?_)
      refine aOps_gd0 rfl rfl (wantT rfl rfl rfl) (fun hc => AOp.slots [(5, _)] (.cons rfl .nil) (AOp.move' (.inl rfl) rfl ⟨rfl, rfl, rfl⟩)) ?_
      refine aOps_gd0 rfl rfl (wantT rfl rfl rfl) (fun hc => AOp.slots [(54, _)] (.cons (gvT rfl hc) .nil) (AOp.len' rfl rfl ⟨rfl, rfl, rfl⟩)) ?_
      refine aOps_gd0 rfl rfl (wantT rfl rfl rfl) (fun hc => AOp.slots [(53, _), (55, _)] (.cons (gvT rfl hc) (.cons (gvT rfl hc) .nil)) (AOp.bin' rfl rfl rfl rfl ⟨rfl, rfl, rfl⟩)) ?_
      refine aOps_1 rfl rfl rfl (AOp.pickAnd rfl rfl rfl (fun hb => gvE rfl hb) ?_)
      refine aOps_1 rfl rfl rfl (AOp.move' (.inl rfl) rfl ?_)
      refine aOps_gd rfl rfl (wantT rfl rfl rfl) (fun hc => AOp.slots [] .nil (AOp.call' rfl rfl rfl (awake20 _ _ (by repeat (first | assumption | exact upd_same _ _ _ | refine (upd_other _ _ (by omega)).trans ?_))) (fun _ _ _ h => h))) (fun kq hkq => ?_)
      refine aOps_1 rfl rfl rfl (AOp.pickAnd rfl rfl rfl (fun hb => gvE rfl hb) ?_)
      refine aOps_1 rfl rfl rfl (AOp.move' (.inr rfl) rfl ?_)
      refine aOps_end ?_
      show ACode _ _ _ _ _ _
      refine ACode.ret ?_
      exact RetQ.one rfl rfl (by (repeat (first | exact sub_refl _ | assumption | refine sub_upd' ?_ (by ((repeat refine (upd_other _ _ (by omega)).trans ?_); first | exact hf _ (by omega))) | refine sub_over (by assumption) | refine sub_over0 ?_ | refine sub_trans (sub_same (by assumption)) ?_ | refine sub_dropu ?_ | refine sub_drop ?_ | refine sub_put ?_ (by repeat (first | assumption | exact upd_same _ _ _ | refine (upd_other _ _ (by omega)).trans ?_))))) stays (fun hk => ⟨(by simp [hpl]), rfl, by omega⟩)
end

end Go.Proofs.YtlbcgadmcjobiaaDoor
