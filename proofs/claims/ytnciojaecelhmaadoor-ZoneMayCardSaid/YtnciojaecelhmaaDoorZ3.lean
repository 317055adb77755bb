/- Contracts over the abstract states: which truths may be, by the document. -/
import Derived.Test.YtnciojaecelhmaaDoorZ2
set_option linter.unusedVariables false
set_option linter.unusedSimpArgs false
set_option maxRecDepth 100000
namespace Go.Proofs.YtnciojaecelhmaaDoor
open Go Go.Ab


theorem rmay_c : ∀ (N : Nat) (p : Pd) (v : Value) (rows : Int) (zs : List Zn) (Z : Option Addr) (zc : Nat) (H : Hp) (k : Nat), PdV H p v → slcCells H 8 (.slice Z zs.length zc) = some (zs8 zs) → zs.length ≤ 1000 → SizeOf.sizeOf p < N → ACalls Tryd.prog 3 16 [v, .int .i64 rows, .slice Z zs.length zc] H k (Same H k (t3v (mayR rows zs p))) := by
  intro N
  induction N
  case zero => intro p v rows zs Z zc H k hp hZ hzl hN; exact absurd hN (Nat.not_lt_zero _)
  rename_i N ih
  intro p v rows zs Z zc H k hp hZ hzl hN
  cases p
  rename_i op col vals of
  have hpS := hp.okS
  rw [PdV] at hp
  obtain ⟨A, c, B, d, bs, rfl, hA, hvl, hol, hop, hcl, hok, hB, hPs⟩ := hp
  rw [Pd.okS] at hpS
  refine ACalls.fresh fun hf => ?_
  refine ACalls.body Tryd.func16 rfl (Nat.le_of_ble_eq_true rfl) ?_
  refine ACode.seq ?_
  refine ACode.region' [0, 1] (by kernel_rfl) rfl ?_
  refine aOps_1 rfl rfl rfl (AOp.boxV rfl rfl ?_)
  refine aOps_1 rfl rfl rfl (AOp.alloc' rfl ?_)
  refine aOps_end ?_
  show ACode _ _ _ _ _ _
  refine ACode.seq ?_
  refine ACode.seq ?_
  refine ACode.region' [0, 1] (by kernel_rfl) rfl ?_
  refine aOps_1 rfl rfl rfl (AOp.move' (.inl rfl) rfl ?_)
  refine aOps_1 rfl rfl rfl (AOp.bin' rfl rfl rfl rfl ?_)
  refine aOps_end ?_
  show ACode _ _ _ _ _ _
  refine ACode.cond rfl (fun c0 => ?_) (fun c0 => ?_)
  · try simp only [decide_eq_true_eq, decide_eq_false_iff_not, beq_iff_eq, beq_eq_false_iff_ne, ne_eq, bne_iff_ne, Bool.not_eq_true', Bool.not_eq_false', Int.not_lt, Int.not_le, gt_iff_lt, ge_iff_le, bne_eq_false_iff_eq, Bool.not_eq_eq_eq_not, Bool.not_true, Bool.not_false] at c0
    refine ACode.seq ?_
    refine ACode.region' [0, 1] (by kernel_rfl) rfl ?_
    refine aOps_1 rfl rfl rfl (AOp.buildA (cells := #[_, _, _]) rfl rfl rfl ?_)
    refine aOps_0 rfl rfl rfl ?_
    refine AOp.storeAll (b := ?b1) rfl rfl rfl ?hn1 ?hk1 rfl ?hw1 ?ho1 ?hl1 ?hR1
    (case hn1 => repeat (first | assumption | exact upd_same _ _ _ | refine (upd_other _ _ (by omega)).trans ?_))
    (case hk1 => rfl)
    (case hw1 => first | rfl | (simp; done))
    (case ho1 => first | rfl | decide | (simp; done))
    (case hl1 => first | rfl | (simp; done))
    refine aOps_end ?_
    show ACode _ _ _ _ _ _
    refine ACode.ret ?_
    exact RetQ.cell rfl rfl (aloadAll (v := t3v _) (upd_same _ _ _) rfl rfl rfl) (by (repeat (first | exact sub_refl _ | assumption | refine sub_upd' ?_ (by ((repeat refine (upd_other _ _ (by omega)).trans ?_); first | exact hf _ (by omega))) | refine sub_over (by assumption) | refine sub_over0 ?_ | refine sub_trans (sub_same (by assumption)) ?_ | refine sub_dropu ?_ | refine sub_drop ?_ | refine sub_put ?_ (by repeat (first | assumption | exact upd_same _ _ _ | refine (upd_other _ _ (by omega)).trans ?_))))) stays (fun hk => ⟨(by rw [mayR, if_pos c0]; try rfl), rfl, by omega⟩)
  · try simp only [decide_eq_true_eq, decide_eq_false_iff_not, beq_iff_eq, beq_eq_false_iff_ne, ne_eq, bne_iff_ne, Bool.not_eq_true', Bool.not_eq_false', Int.not_lt, Int.not_le, gt_iff_lt, ge_iff_le, bne_eq_false_iff_eq, Bool.not_eq_eq_eq_not, Bool.not_true, Bool.not_false] at c0
    refine ACode.skip ?_
    show ACode _ _ _ _ _ _
    refine ACode.seq ?_
    refine ACode.region' [0, 1, 2, 3, 4, 5, 6, 7, 8] (by kernel_rfl) rfl ?_
    refine aOps_1 rfl rfl rfl (AOp.fieldAddr' rfl (by decide) rfl ?_)
    refine aOps_1 rfl rfl rfl ?_
    refine AOp.load1 (b := ?b2) (v := ?v2) rfl rfl ?hn2 ?hv2 ?hR2
    (case hn2 => repeat (first | assumption | exact upd_same _ _ _ | refine (upd_other _ _ (by omega)).trans ?_))
    (case hv2 => rfl)
    refine aOps_1 rfl rfl rfl (AOp.bin' rfl rfl rfl rfl ?_)
    refine aOps_1 rfl rfl rfl (AOp.move' (.inl rfl) rfl ?_)
    refine aOps_gd0 rfl rfl (wantT rfl rfl rfl) (fun hc => AOp.slots [(3, _)] (.cons rfl .nil) (AOp.fieldAddr' rfl (by decide) rfl ⟨rfl, rfl, rfl⟩)) ?_
    refine aOps_gd0 rfl rfl (wantT rfl rfl rfl) (fun hc => AOp.slots [(23, _)] (.cons (gvT rfl hc) .nil) ((by refine AOp.load1 (b := ?b3) (v := ?v3) rfl rfl ?hn3 ?hv3 ?hR3; (case hn3 => repeat (first | assumption | exact upd_same _ _ _ | refine (upd_other _ _ (by omega)).trans ?_)); (case hv3 => rfl); exact ⟨rfl, rfl, rfl⟩))) ?_
    refine aOps_gd0 rfl rfl (wantT rfl rfl rfl) (fun hc => AOp.slots [(24, _)] (.cons (gvT rfl hc) .nil) (AOp.bin' rfl rfl rfl rfl ⟨rfl, rfl, rfl⟩)) ?_
    refine aOps_1 rfl rfl rfl (AOp.pickAnd rfl rfl rfl (fun hb => gvE rfl hb) ?_)
    refine aOps_1 rfl rfl rfl (AOp.move' (.inr rfl) rfl ?_)
    refine aOps_end ?_
    show ACode _ _ _ _ _ _
    refine ACode.seq ?_
    refine ACode.seq ?_
    refine ACode.region' [0, 1, 2, 3, 4, 5, 6, 7, 8, 9, 10, 11, 12, 13, 14, 15, 16, 17] (by kernel_rfl) rfl ?_
    refine aOps_1 rfl rfl rfl ?_
    refine AOp.loadAll (b := ?b4) (v := pv op col A vals.length c B of.length d) rfl rfl ?hn4 ?hv4 ?hw4 ?hz4 ?hR4
    (case hn4 => repeat (first | assumption | exact upd_same _ _ _ | refine (upd_other _ _ (by omega)).trans ?_))
    (case hv4 => rfl)
    (case hw4 => rfl)
    (case hz4 => first | rfl | (simp; done))
    refine aOps_q rfl rfl rfl (AOp.call' rfl rfl rfl (rformed_b _ _ op col vals A c B of.length d hvl hol) (fun _ _ _ h => h)) (fun kq hkq => ?_)
    refine aOps_1 rfl rfl rfl (AOp.un' rfl rfl rfl ?_)
    refine aOps_1 rfl rfl rfl (AOp.move' (.inl rfl) rfl ?_)
    refine aOps_gd0 rfl rfl (wantF rfl rfl rfl) (fun hc => AOp.slots [(7, _)] (.cons rfl .nil) (AOp.move' (.inl rfl) rfl ⟨rfl, rfl, rfl⟩)) ?_
    refine aOps_gd0 rfl rfl (wantF rfl rfl rfl) (fun hc => AOp.slots [(31, _)] (.cons (gvT rfl hc) .nil) (AOp.move' (.inl rfl) rfl ⟨rfl, rfl, rfl⟩)) ?_
    refine aOps_gd0 rfl rfl (wantGT rfl rfl rfl) (fun hc => AOp.slots [(3, _)] (.cons rfl .nil) (AOp.fieldAddr' rfl (by decide) rfl ⟨rfl, rfl, rfl⟩)) ?_
    refine aOps_gd0 rfl rfl (wantGT rfl rfl rfl) (fun hc => AOp.slots [(33, _)] (.cons (gvT rfl hc) .nil) ((by refine AOp.load1 (b := ?b5) (v := ?v5) rfl rfl ?hn5 ?hv5 ?hR5; (case hn5 => repeat (first | assumption | exact upd_same _ _ _ | refine (upd_other _ _ (by omega)).trans ?_)); (case hv5 => rfl); exact ⟨rfl, rfl, rfl⟩))) ?_
    refine aOps_gd0 rfl rfl (wantGT rfl rfl rfl) (fun hc => AOp.slots [(34, _)] (.cons (gvT rfl hc) .nil) (AOp.bin' rfl rfl rfl rfl ⟨rfl, rfl, rfl⟩)) ?_
    refine aOps_gd0 rfl rfl (wantGT rfl rfl rfl) (fun hc => AOp.slots [(35, _)] (.cons (gvT rfl hc) .nil) (AOp.move' (.inl rfl) rfl ⟨rfl, rfl, rfl⟩)) ?_
    refine aOps_gd0 rfl rfl (wantGF rfl rfl rfl) (fun hc => AOp.slots [(3, _)] (.cons rfl .nil) (AOp.fieldAddr' rfl (by decide) rfl ⟨rfl, rfl, rfl⟩)) ?_
    refine aOps_gd0 rfl rfl (wantGF rfl rfl rfl) (fun hc => AOp.slots [(37, _)] (.cons (gvT rfl hc) .nil) ((by refine AOp.load1 (b := ?b6) (v := ?v6) rfl rfl ?hn6 ?hv6 ?hR6; (case hn6 => repeat (first | assumption | exact upd_same _ _ _ | refine (upd_other _ _ (by omega)).trans ?_)); (case hv6 => rfl); exact ⟨rfl, rfl, rfl⟩))) ?_
    refine aOps_gd0 rfl rfl (wantGF rfl rfl rfl) (fun hc => AOp.slots [(2, _)] (.cons rfl .nil) (AOp.move' (.inl rfl) rfl ⟨rfl, rfl, rfl⟩)) ?_
    refine aOps_gd0 rfl rfl (wantGF rfl rfl rfl) (fun hc => AOp.slots [(39, _)] (.cons (gvT rfl hc) .nil) (AOp.len' rfl rfl ⟨rfl, rfl, rfl⟩)) ?_
    refine aOps_gd0 rfl rfl (wantGF rfl rfl rfl) (fun hc => AOp.slots [(38, _), (40, _)] (.cons (gvT rfl hc) (.cons (gvT rfl hc) .nil)) (AOp.bin' rfl rfl rfl rfl ⟨rfl, rfl, rfl⟩)) ?_
    refine aOps_gd0 rfl rfl (wantGT rfl rfl rfl) (fun hc => AOp.pickOr rfl rfl (gvE rfl hc) (fun hb => gvE rfl (and_mk hc (t_not hb))) ⟨rfl, rfl, rfl⟩) ?_
    refine aOps_gd0 rfl rfl (wantF rfl rfl rfl) (fun hc => AOp.pickAnd rfl rfl (gvE rfl hc) (fun hb => gvE rfl (and_mk hc hb)) ⟨rfl, rfl, rfl⟩) ?_
    refine aOps_1 rfl rfl rfl (AOp.pickOr rfl rfl rfl (fun hb => gvE rfl (t_not hb)) ?_)
    refine aOps_end ?_
    show ACode _ _ _ _ _ _
    refine ACode.cond rfl (fun c1 => ?_) (fun c1 => ?_)
    · skip
      have hno : mayOk op col vals.length of.length zs.length = false := by have h := (mayOk_r op col vals.length of.length zs.length).symm.trans c1; simpa using h
      refine ACode.seq ?_
      refine ACode.region' [0, 1] (by kernel_rfl) rfl ?_
      refine aOps_1 rfl rfl rfl (AOp.buildA (cells := #[_, _, _]) rfl rfl rfl ?_)
      refine aOps_0 rfl rfl rfl ?_
      refine AOp.storeAll (b := ?b7) rfl rfl rfl ?hn7 ?hk7 rfl ?hw7 ?ho7 ?hl7 ?hR7
      (case hn7 => repeat (first | assumption | exact upd_same _ _ _ | refine (upd_other _ _ (by omega)).trans ?_))
      (case hk7 => rfl)
      (case hw7 => first | rfl | (simp; done))
      (case ho7 => first | rfl | decide | (simp; done))
      (case hl7 => first | rfl | (simp; done))
      refine aOps_end ?_
      show ACode _ _ _ _ _ _
      refine ACode.ret ?_
      exact RetQ.cell rfl rfl (aloadAll (v := t3v _) (upd_same _ _ _) rfl rfl rfl) (by (repeat (first | exact sub_refl _ | assumption | refine sub_upd' ?_ (by ((repeat refine (upd_other _ _ (by omega)).trans ?_); first | exact hf _ (by omega))) | refine sub_over (by assumption) | refine sub_over0 ?_ | refine sub_trans (sub_same (by assumption)) ?_ | refine sub_dropu ?_ | refine sub_drop ?_ | refine sub_put ?_ (by repeat (first | assumption | exact upd_same _ _ _ | refine (upd_other _ _ (by omega)).trans ?_))))) stays (fun hk => ⟨(by rw [mayR_pos (by omega), mayP, if_neg (by rw [hno]; decide)]; try rfl), rfl, by omega⟩)
    · skip
      have hok2 : mayOk op col vals.length of.length zs.length = true := by have h := (mayOk_r op col vals.length of.length zs.length).symm.trans c1; simpa using h
      have hf0 := may_formed hok2
      obtain ⟨o, rfl, ho⟩ := known_nat (known_of hf0)
      refine ACode.skip ?_
      show ACode _ _ _ _ _ _
      refine ACode.seq ?_
      refine ACode.seq ?_
      refine ACode.region' [0, 1, 2] (by kernel_rfl) rfl ?_
      refine aOps_1 rfl rfl rfl (AOp.fieldAddr' rfl (by decide) rfl ?_)
      refine aOps_1 rfl rfl rfl ?_
      refine AOp.load1 (b := ?b8) (v := ?v8) rfl rfl ?hn8 ?hv8 ?hR8
      (case hn8 => repeat (first | assumption | exact upd_same _ _ _ | refine (upd_other _ _ (by omega)).trans ?_))
      (case hv8 => rfl)
      refine aOps_1 rfl rfl rfl (AOp.bin' rfl rfl rfl rfl ?_)
      refine aOps_end ?_
      show ACode _ _ _ _ _ _
      refine ACode.cond rfl (fun c2 => ?_) (fun c2 => ?_)
      · try simp only [decide_eq_true_eq, decide_eq_false_iff_not, beq_iff_eq, beq_eq_false_iff_ne, ne_eq, bne_iff_ne, Bool.not_eq_true', Bool.not_eq_false', Int.not_lt, Int.not_le, gt_iff_lt, ge_iff_le, bne_eq_false_iff_eq, Bool.not_eq_eq_eq_not, Bool.not_true, Bool.not_false] at c2
        obtain rfl : o = 0 := by omega
        refine ACode.seq ?_
        refine ACode.region' [0, 1] (by kernel_rfl) rfl ?_
        refine aOps_1 rfl rfl rfl (AOp.buildA (cells := #[_, _, _]) rfl rfl rfl ?_)
        refine aOps_0 rfl rfl rfl ?_
        refine AOp.storeAll (b := ?b9) rfl rfl rfl ?hn9 ?hk9 rfl ?hw9 ?ho9 ?hl9 ?hR9
        (case hn9 => repeat (first | assumption | exact upd_same _ _ _ | refine (upd_other _ _ (by omega)).trans ?_))
        (case hk9 => rfl)
        (case hw9 => first | rfl | (simp; done))
        (case ho9 => first | rfl | decide | (simp; done))
        (case hl9 => first | rfl | (simp; done))
        refine aOps_end ?_
        show ACode _ _ _ _ _ _
        refine ACode.ret ?_
        exact RetQ.cell rfl rfl (aloadAll (v := t3v _) (upd_same _ _ _) rfl rfl rfl) (by (repeat (first | exact sub_refl _ | assumption | refine sub_upd' ?_ (by ((repeat refine (upd_other _ _ (by omega)).trans ?_); first | exact hf _ (by omega))) | refine sub_over (by assumption) | refine sub_over0 ?_ | refine sub_trans (sub_same (by assumption)) ?_ | refine sub_dropu ?_ | refine sub_drop ?_ | refine sub_put ?_ (by repeat (first | assumption | exact upd_same _ _ _ | refine (upd_other _ _ (by omega)).trans ?_))))) stays (fun hk => ⟨(by rw [mayR_pos (by omega), mayP, if_pos hok2, if_pos (show ((0 : Nat) : Int) = 0 from rfl)]; try rfl), rfl, by omega⟩)
      · try simp only [decide_eq_true_eq, decide_eq_false_iff_not, beq_iff_eq, beq_eq_false_iff_ne, ne_eq, bne_iff_ne, Bool.not_eq_true', Bool.not_eq_false', Int.not_lt, Int.not_le, gt_iff_lt, ge_iff_le, bne_eq_false_iff_eq, Bool.not_eq_eq_eq_not, Bool.not_true, Bool.not_false] at c2
        have h0 : (o : Int) ≠ 0 := c2
        refine ACode.skip ?_
        show ACode _ _ _ _ _ _
        refine ACode.seq ?_
        refine ACode.seq ?_
        refine ACode.region' [0, 1, 2] (by kernel_rfl) rfl ?_
        refine aOps_1 rfl rfl rfl (AOp.fieldAddr' rfl (by decide) rfl ?_)
        refine aOps_1 rfl rfl rfl ?_
        refine AOp.load1 (b := ?b10) (v := ?v10) rfl rfl ?hn10 ?hv10 ?hR10
        (case hn10 => repeat (first | assumption | exact upd_same _ _ _ | refine (upd_other _ _ (by omega)).trans ?_))
        (case hv10 => rfl)
        refine aOps_1 rfl rfl rfl (AOp.bin' rfl rfl rfl rfl ?_)
        refine aOps_end ?_
        show ACode _ _ _ _ _ _
        refine ACode.cond rfl (fun c3 => ?_) (fun c3 => ?_)
        · try simp only [decide_eq_true_eq, decide_eq_false_iff_not, beq_iff_eq, beq_eq_false_iff_ne, ne_eq, bne_iff_ne, Bool.not_eq_true', Bool.not_eq_false', Int.not_lt, Int.not_le, gt_iff_lt, ge_iff_le, bne_eq_false_iff_eq, Bool.not_eq_eq_eq_not, Bool.not_true, Bool.not_false] at c3
          obtain rfl : o = 9 := by omega
          obtain ⟨x, rfl, hxz⟩ := may_col hok2 rfl
          refine ACode.seq ?_
          obtain ⟨n9_3, o9_3, s9_3, hq9_3, hp9_3⟩ := slcZ hZ hxz
          obtain ⟨n9_11, o9_11, s9_11, hq9_11, hp9_11⟩ := slcZ hZ hxz
          refine ACode.draw' 16 [(0, 53), (1, 54), (2, 55), (3, 56), (4, 57), (5, 58), (6, 59), (7, 60), (8, 61), (9, 62), (10, 63), (11, 64), (12, 65), (13, 66), (14, 67), (15, 68)] mixed (by kernel_rfl) ?_
          refine Draw.step [(2, none)] rfl (by kernel_rfl) rfl (fun kq hkq => AOp.move' (.inl rfl) rfl ⟨rfl, rfl, Nat.le_refl _⟩) ?_
          refine Draw.step [(3, none)] rfl (by kernel_rfl) rfl (fun kq hkq => AOp.fieldAddr' rfl (by decide) rfl ⟨rfl, rfl, Nat.le_refl _⟩) ?_
          refine Draw.step [(54, some 1)] rfl (by kernel_rfl) rfl (fun kq hkq => (by refine AOp.load1 (b := ?b11) (v := ?v11) rfl rfl ?hn11 ?hv11 ?hR11; (case hn11 => repeat (first | assumption | exact upd_same _ _ _ | refine (upd_other _ _ (by omega)).trans ?_)); (case hv11 => rfl); exact ⟨rfl, rfl, Nat.le_refl _⟩)) ?_
          refine Draw.step [(53, some 0), (55, some 2)] rfl (by kernel_rfl) rfl (fun kq hkq => AOp.indexP (aslcAt_sub (by (repeat (first | exact sub_refl _ | assumption | refine sub_upd' ?_ (by ((repeat refine (upd_other _ _ (by omega)).trans ?_); first | exact hf _ (by omega))) | refine sub_over (by assumption) | refine sub_over0 ?_ | refine sub_trans (sub_same (by assumption)) ?_ | refine sub_dropu ?_ | refine sub_drop ?_ | refine sub_put ?_ (by repeat (first | assumption | exact upd_same _ _ _ | refine (upd_other _ _ (by omega)).trans ?_))))) hq9_3) rfl rfl rfl ⟨rfl, rfl, Nat.le_refl _⟩) ?_
          refine Draw.step [(56, some 3)] rfl (by kernel_rfl) rfl (fun kq hkq => AOp.fieldP (hp9_3.sub (by (repeat (first | exact sub_refl _ | assumption | refine sub_upd' ?_ (by ((repeat refine (upd_other _ _ (by omega)).trans ?_); first | exact hf _ (by omega))) | refine sub_over (by assumption) | refine sub_over0 ?_ | refine sub_trans (sub_same (by assumption)) ?_ | refine sub_dropu ?_ | refine sub_drop ?_ | refine sub_put ?_ (by repeat (first | assumption | exact upd_same _ _ _ | refine (upd_other _ _ (by omega)).trans ?_)))))) rfl (by decide) (Nat.le_of_ble_eq_true rfl) rfl ⟨rfl, rfl, Nat.le_refl _⟩) ?_
          refine Draw.step [(57, some 4)] rfl (by kernel_rfl) rfl (fun kq hkq => AOp.loadP1 (hp9_3.sub (by (repeat (first | exact sub_refl _ | assumption | refine sub_upd' ?_ (by ((repeat refine (upd_other _ _ (by omega)).trans ?_); first | exact hf _ (by omega))) | refine sub_over (by assumption) | refine sub_over0 ?_ | refine sub_trans (sub_same (by assumption)) ?_ | refine sub_dropu ?_ | refine sub_drop ?_ | refine sub_put ?_ (by repeat (first | assumption | exact upd_same _ _ _ | refine (upd_other _ _ (by omega)).trans ?_)))))) rfl rfl rfl ⟨rfl, rfl, Nat.le_refl _⟩) ?_
          refine Draw.step [(1, none)] rfl (by kernel_rfl) rfl (fun kq hkq => AOp.move' (.inl rfl) rfl ⟨rfl, rfl, Nat.le_refl _⟩) ?_
          refine Draw.step [(58, some 5), (59, some 6)] rfl (by kernel_rfl) rfl (fun kq hkq => AOp.bin' rfl rfl rfl rfl ⟨rfl, rfl, Nat.le_refl _⟩) ?_
          refine Draw.step [(2, none)] rfl (by kernel_rfl) rfl (fun kq hkq => AOp.move' (.inl rfl) rfl ⟨rfl, rfl, Nat.le_refl _⟩) ?_
          refine Draw.step [(3, none)] rfl (by kernel_rfl) rfl (fun kq hkq => AOp.fieldAddr' rfl (by decide) rfl ⟨rfl, rfl, Nat.le_refl _⟩) ?_
          refine Draw.step [(62, some 9)] rfl (by kernel_rfl) rfl (fun kq hkq => (by refine AOp.load1 (b := ?b12) (v := ?v12) rfl rfl ?hn12 ?hv12 ?hR12; (case hn12 => repeat (first | assumption | exact upd_same _ _ _ | refine (upd_other _ _ (by omega)).trans ?_)); (case hv12 => rfl); exact ⟨rfl, rfl, Nat.le_refl _⟩)) ?_
          refine Draw.step [(61, some 8), (63, some 10)] rfl (by kernel_rfl) rfl (fun kq hkq => AOp.indexP (aslcAt_sub (by (repeat (first | exact sub_refl _ | assumption | refine sub_upd' ?_ (by ((repeat refine (upd_other _ _ (by omega)).trans ?_); first | exact hf _ (by omega))) | refine sub_over (by assumption) | refine sub_over0 ?_ | refine sub_trans (sub_same (by assumption)) ?_ | refine sub_dropu ?_ | refine sub_drop ?_ | refine sub_put ?_ (by repeat (first | assumption | exact upd_same _ _ _ | refine (upd_other _ _ (by omega)).trans ?_))))) hq9_11) rfl rfl rfl ⟨rfl, rfl, Nat.le_refl _⟩) ?_
          refine Draw.step [(64, some 11)] rfl (by kernel_rfl) rfl (fun kq hkq => AOp.fieldP (hp9_11.sub (by (repeat (first | exact sub_refl _ | assumption | refine sub_upd' ?_ (by ((repeat refine (upd_other _ _ (by omega)).trans ?_); first | exact hf _ (by omega))) | refine sub_over (by assumption) | refine sub_over0 ?_ | refine sub_trans (sub_same (by assumption)) ?_ | refine sub_dropu ?_ | refine sub_drop ?_ | refine sub_put ?_ (by repeat (first | assumption | exact upd_same _ _ _ | refine (upd_other _ _ (by omega)).trans ?_)))))) rfl (by decide) (Nat.le_of_ble_eq_true rfl) rfl ⟨rfl, rfl, Nat.le_refl _⟩) ?_
          refine Draw.step [(65, some 12)] rfl (by kernel_rfl) rfl (fun kq hkq => AOp.loadP1 (hp9_11.sub (by (repeat (first | exact sub_refl _ | assumption | refine sub_upd' ?_ (by ((repeat refine (upd_other _ _ (by omega)).trans ?_); first | exact hf _ (by omega))) | refine sub_over (by assumption) | refine sub_over0 ?_ | refine sub_trans (sub_same (by assumption)) ?_ | refine sub_dropu ?_ | refine sub_drop ?_ | refine sub_put ?_ (by repeat (first | assumption | exact upd_same _ _ _ | refine (upd_other _ _ (by omega)).trans ?_)))))) rfl rfl rfl ⟨rfl, rfl, Nat.le_refl _⟩) ?_
          refine Draw.step [(66, some 13)] rfl (by kernel_rfl) rfl (fun kq hkq => AOp.bin' rfl rfl rfl rfl ⟨rfl, rfl, Nat.le_refl _⟩) ?_
          refine Draw.step [(60, some 7), (67, some 14)] rfl (by kernel_rfl) rfl (fun kq hkq => AOp.buildA (cells := #[_, _, _]) rfl rfl rfl ⟨rfl, rfl, Nat.le_refl _⟩) ?_
          refine Draw.done fun kq hkq => ?_
          show aOps _ _ _ _ [16] ⟨_, _, _⟩
          refine aOps_0 rfl rfl rfl ?_
          refine AOp.storeAll (b := ?b13) rfl rfl rfl ?hn13 ?hk13 rfl ?hw13 ?ho13 ?hl13 ?hR13
          (case hn13 => repeat (first | assumption | exact upd_same _ _ _ | refine (upd_other _ _ (by omega)).trans ?_))
          (case hk13 => rfl)
          (case hw13 => first | rfl | (simp; done))
          (case ho13 => first | rfl | decide | (simp; done))
          (case hl13 => first | rfl | (simp; done))
          refine aOps_end ?_
          show ACode _ _ _ _ _ _
          refine ACode.ret ?_
          exact RetQ.cell rfl rfl (aloadAll (v := t3v _) (upd_same _ _ _) rfl rfl rfl) (by (repeat (first | exact sub_refl _ | assumption | refine sub_upd' ?_ (by ((repeat refine (upd_other _ _ (by omega)).trans ?_); first | exact hf _ (by omega))) | refine sub_over (by assumption) | refine sub_over0 ?_ | refine sub_trans (sub_same (by assumption)) ?_ | refine sub_dropu ?_ | refine sub_drop ?_ | refine sub_put ?_ (by repeat (first | assumption | exact upd_same _ _ _ | refine (upd_other _ _ (by omega)).trans ?_))))) stays (fun hk => ⟨(by rw [mayR_pos (by omega), mayP, if_pos hok2, if_neg (by decide), if_pos (by decide), Int.toNat_natCast]; try rfl), rfl, by omega⟩)
        · try simp only [decide_eq_true_eq, decide_eq_false_iff_not, beq_iff_eq, beq_eq_false_iff_ne, ne_eq, bne_iff_ne, Bool.not_eq_true', Bool.not_eq_false', Int.not_lt, Int.not_le, gt_iff_lt, ge_iff_le, bne_eq_false_iff_eq, Bool.not_eq_eq_eq_not, Bool.not_true, Bool.not_false] at c3
          have h9 : (o : Int) ≠ 9 := c3
          refine ACode.skip ?_
          show ACode _ _ _ _ _ _
          refine ACode.seq ?_
          refine ACode.seq ?_
          refine ACode.region' [0] (by kernel_rfl) rfl ?_
          refine aOps_1 rfl rfl rfl (AOp.move' (.inl rfl) rfl ?_)
          refine aOps_end ?_
          show ACode _ _ _ _ _ _
          refine ACode.cond rfl (fun c4 => ?_) (fun c4 => ?_)
          · try simp only [decide_eq_true_eq, decide_eq_false_iff_not, beq_iff_eq, beq_eq_false_iff_ne, ne_eq, bne_iff_ne, Bool.not_eq_true', Bool.not_eq_false', Int.not_lt, Int.not_le, gt_iff_lt, ge_iff_le, bne_eq_false_iff_eq, Bool.not_eq_eq_eq_not, Bool.not_true, Bool.not_false] at c4
            have hc : (sh o).col = true := ((shape_op ho).1).2 (by simp only [Bool.and_eq_true, decide_eq_true_eq] at c4; omega)
            obtain ⟨x, rfl, hxz⟩ := may_col hok2 hc
            obtain ⟨hv1, hv2⟩ := may_vals hok2 ho hc
            have hop := ((shape_op ho).1).1 hc
            refine ACode.seq ?_
            refine ACode.region' [0, 1] (by kernel_rfl) rfl ?_
            refine aOps_1 rfl rfl rfl (AOp.move' (.inr rfl) rfl ?_)
            refine aOps_1 rfl rfl rfl (AOp.move' (.inr rfl) rfl ?_)
            refine aOps_end ?_
            show ACode _ _ _ _ _ _
            refine ACode.seq ?_
            refine ACode.seq ?_
            obtain ⟨n12_3, o12_3, s12_3, hq12_3, hp12_3⟩ := slcZ hZ hxz
            refine ACode.region' [0, 1, 2, 3, 4, 5] (by kernel_rfl) rfl ?_
            refine aOps_1 rfl rfl rfl (AOp.move' (.inl rfl) rfl ?_)
            refine aOps_1 rfl rfl rfl (AOp.fieldAddr' rfl (by decide) rfl ?_)
            refine aOps_1 rfl rfl rfl ?_
            refine AOp.load1 (b := ?b14) (v := ?v14) rfl rfl ?hn14 ?hv14 ?hR14
            (case hn14 => repeat (first | assumption | exact upd_same _ _ _ | refine (upd_other _ _ (by omega)).trans ?_))
            (case hv14 => rfl)
            refine aOps_1 rfl rfl rfl (AOp.indexP (aslcAt_sub (by (repeat (first | exact sub_refl _ | assumption | refine sub_upd' ?_ (by ((repeat refine (upd_other _ _ (by omega)).trans ?_); first | exact hf _ (by omega))) | refine sub_over (by assumption) | refine sub_over0 ?_ | refine sub_trans (sub_same (by assumption)) ?_ | refine sub_dropu ?_ | refine sub_drop ?_ | refine sub_put ?_ (by repeat (first | assumption | exact upd_same _ _ _ | refine (upd_other _ _ (by omega)).trans ?_))))) hq12_3) rfl rfl rfl ?_)
            refine aOps_1 rfl rfl rfl (AOp.fieldP (hp12_3.sub (by (repeat (first | exact sub_refl _ | assumption | refine sub_upd' ?_ (by ((repeat refine (upd_other _ _ (by omega)).trans ?_); first | exact hf _ (by omega))) | refine sub_over (by assumption) | refine sub_over0 ?_ | refine sub_trans (sub_same (by assumption)) ?_ | refine sub_dropu ?_ | refine sub_drop ?_ | refine sub_put ?_ (by repeat (first | assumption | exact upd_same _ _ _ | refine (upd_other _ _ (by omega)).trans ?_)))))) rfl (by decide) (Nat.le_of_ble_eq_true rfl) rfl ?_)
            refine aOps_1 rfl rfl rfl (AOp.loadP1 (hp12_3.sub (by (repeat (first | exact sub_refl _ | assumption | refine sub_upd' ?_ (by ((repeat refine (upd_other _ _ (by omega)).trans ?_); first | exact hf _ (by omega))) | refine sub_over (by assumption) | refine sub_over0 ?_ | refine sub_trans (sub_same (by assumption)) ?_ | refine sub_dropu ?_ | refine sub_drop ?_ | refine sub_put ?_ (by repeat (first | assumption | exact upd_same _ _ _ | refine (upd_other _ _ (by omega)).trans ?_)))))) rfl rfl rfl ?_)
            refine aOps_end ?_
            show ACode _ _ _ _ _ _
            refine ACode.cond rfl (fun c5 => ?_) (fun c5 => ?_)
            · try simp only [decide_eq_true_eq, decide_eq_false_iff_not, beq_iff_eq, beq_eq_false_iff_ne, ne_eq, bne_iff_ne, Bool.not_eq_true', Bool.not_eq_false', Int.not_lt, Int.not_le, gt_iff_lt, ge_iff_le, bne_eq_false_iff_eq, Bool.not_eq_eq_eq_not, Bool.not_true, Bool.not_false] at c5
              obtain ⟨n13_4, o13_4, s13_4, hq13_4, hp13_4⟩ := slcZ hZ hxz
              refine ACode.draw' 12 [(0, 77), (1, 78), (2, 79), (3, 80), (4, 81), (5, 82), (6, 83), (7, 76), (8, 84), (9, 85), (10, 8), (11, 9)] mixed (by kernel_rfl) ?_
              refine Draw.step [(3, none)] rfl (by kernel_rfl) rfl (fun kq hkq => (by refine AOp.loadAll (b := ?b15) (v := pv (o : Int) (x : Int) A vals.length c B of.length d) rfl rfl ?hn15 ?hv15 ?hw15 ?hz15 ?hR15; (case hn15 => repeat (first | assumption | exact upd_same _ _ _ | refine (upd_other _ _ (by omega)).trans ?_)); (case hv15 => rfl); (case hw15 => rfl); (case hz15 => first | rfl | (simp; done)); exact ⟨rfl, rfl, Nat.le_refl _⟩)) ?_
              refine Draw.step [(2, none)] rfl (by kernel_rfl) rfl (fun kq hkq => AOp.move' (.inl rfl) rfl ⟨rfl, rfl, Nat.le_refl _⟩) ?_
              refine Draw.step [(3, none)] rfl (by kernel_rfl) rfl (fun kq hkq => AOp.fieldAddr' rfl (by decide) rfl ⟨rfl, rfl, Nat.le_refl _⟩) ?_
              refine Draw.step [(79, some 2)] rfl (by kernel_rfl) rfl (fun kq hkq => (by refine AOp.load1 (b := ?b16) (v := ?v16) rfl rfl ?hn16 ?hv16 ?hR16; (case hn16 => repeat (first | assumption | exact upd_same _ _ _ | refine (upd_other _ _ (by omega)).trans ?_)); (case hv16 => rfl); exact ⟨rfl, rfl, Nat.le_refl _⟩)) ?_
              refine Draw.step [(78, some 1), (80, some 3)] rfl (by kernel_rfl) rfl (fun kq hkq => AOp.indexP (aslcAt_sub (by (repeat (first | exact sub_refl _ | assumption | refine sub_upd' ?_ (by ((repeat refine (upd_other _ _ (by omega)).trans ?_); first | exact hf _ (by omega))) | refine sub_over (by assumption) | refine sub_over0 ?_ | refine sub_trans (sub_same (by assumption)) ?_ | refine sub_dropu ?_ | refine sub_drop ?_ | refine sub_put ?_ (by repeat (first | assumption | exact upd_same _ _ _ | refine (upd_other _ _ (by omega)).trans ?_))))) hq13_4) rfl rfl rfl ⟨rfl, rfl, Nat.le_refl _⟩) ?_
              refine Draw.step [(81, some 4)] rfl (by kernel_rfl) rfl (fun kq hkq => AOp.loadPA (v := zv (zs.getD x zD)) (hp13_4.sub (by (repeat (first | exact sub_refl _ | assumption | refine sub_upd' ?_ (by ((repeat refine (upd_other _ _ (by omega)).trans ?_); first | exact hf _ (by omega))) | refine sub_over (by assumption) | refine sub_over0 ?_ | refine sub_trans (sub_same (by assumption)) ?_ | refine sub_dropu ?_ | refine sub_drop ?_ | refine sub_put ?_ (by repeat (first | assumption | exact upd_same _ _ _ | refine (upd_other _ _ (by omega)).trans ?_)))))) rfl rfl rfl rfl (by first | rfl | (simp; done)) (by decide) ⟨rfl, rfl, Nat.le_refl _⟩) ?_
              refine Draw.step [(77, some 0), (82, some 5)] rfl (by kernel_rfl) rfl (fun kq hkq => AOp.call' rfl rfl rfl (rone_b _ _ o (by omega) (by omega) (x : Int) vals A c (slcCells_sub (by (repeat (first | exact sub_refl _ | assumption | refine sub_upd' ?_ (by ((repeat refine (upd_other _ _ (by omega)).trans ?_); first | exact hf _ (by omega))) | refine sub_over (by assumption) | refine sub_over0 ?_ | refine sub_trans (sub_same (by assumption)) ?_ | refine sub_dropu ?_ | refine sub_drop ?_ | refine sub_put ?_ (by repeat (first | assumption | exact upd_same _ _ _ | refine (upd_other _ _ (by omega)).trans ?_))))) hA) hvl B of.length d hol (fun h => hv1 h (by omega)) hv2 (zs.getD x zD)) (fun _ _ _ h => h)) ?_
              refine Draw.step [(83, some 6)] rfl (by kernel_rfl) rfl (fun kq hkq => AOp.move' (.inl rfl) rfl ⟨rfl, rfl, Nat.le_refl _⟩) ?_
              refine Draw.step [(76, some 7)] rfl (by kernel_rfl) rfl (fun kq hkq => AOp.extract' rfl rfl rfl ⟨rfl, rfl, Nat.le_refl _⟩) ?_
              refine Draw.step [(76, some 7)] rfl (by kernel_rfl) rfl (fun kq hkq => AOp.extract' rfl rfl rfl ⟨rfl, rfl, Nat.le_refl _⟩) ?_
              refine Draw.step [(84, some 8)] rfl (by kernel_rfl) rfl (fun kq hkq => AOp.move' (.inr rfl) rfl ⟨rfl, rfl, Nat.le_refl _⟩) ?_
              refine Draw.step [(85, some 9)] rfl (by kernel_rfl) rfl (fun kq hkq => AOp.move' (.inr rfl) rfl ⟨rfl, rfl, Nat.le_refl _⟩) ?_
              refine Draw.done fun kq hkq => ?_
              show aOps _ _ _ _ [] ⟨_, _, _⟩
              refine aOps_end ?_
              show ACode _ _ _ _ _ _
              refine ACode.seq ?_
              obtain ⟨n14_4, o14_4, s14_4, hq14_4, hp14_4⟩ := slcZ hZ hxz
              refine ACode.region' [0, 1, 2, 3, 4, 5, 6, 7, 8, 9, 10] (by kernel_rfl) rfl ?_
              refine aOps_1 rfl rfl rfl (AOp.move' (.inl rfl) rfl ?_)
              refine aOps_1 rfl rfl rfl (AOp.move' (.inl rfl) rfl ?_)
              refine aOps_1 rfl rfl rfl (AOp.fieldAddr' rfl (by decide) rfl ?_)
              refine aOps_1 rfl rfl rfl ?_
              refine AOp.load1 (b := ?b17) (v := ?v17) rfl rfl ?hn17 ?hv17 ?hR17
              (case hn17 => repeat (first | assumption | exact upd_same _ _ _ | refine (upd_other _ _ (by omega)).trans ?_))
              (case hv17 => rfl)
              refine aOps_1 rfl rfl rfl (AOp.indexP (aslcAt_sub (by (repeat (first | exact sub_refl _ | assumption | refine sub_upd' ?_ (by ((repeat refine (upd_other _ _ (by omega)).trans ?_); first | exact hf _ (by omega))) | refine sub_over (by assumption) | refine sub_over0 ?_ | refine sub_trans (sub_same (by assumption)) ?_ | refine sub_dropu ?_ | refine sub_drop ?_ | refine sub_put ?_ (by repeat (first | assumption | exact upd_same _ _ _ | refine (upd_other _ _ (by omega)).trans ?_))))) hq14_4) rfl rfl rfl ?_)
              refine aOps_1 rfl rfl rfl (AOp.fieldP (hp14_4.sub (by (repeat (first | exact sub_refl _ | assumption | refine sub_upd' ?_ (by ((repeat refine (upd_other _ _ (by omega)).trans ?_); first | exact hf _ (by omega))) | refine sub_over (by assumption) | refine sub_over0 ?_ | refine sub_trans (sub_same (by assumption)) ?_ | refine sub_dropu ?_ | refine sub_drop ?_ | refine sub_put ?_ (by repeat (first | assumption | exact upd_same _ _ _ | refine (upd_other _ _ (by omega)).trans ?_)))))) rfl (by decide) (Nat.le_of_ble_eq_true rfl) rfl ?_)
              refine aOps_1 rfl rfl rfl (AOp.loadP1 (hp14_4.sub (by (repeat (first | exact sub_refl _ | assumption | refine sub_upd' ?_ (by ((repeat refine (upd_other _ _ (by omega)).trans ?_); first | exact hf _ (by omega))) | refine sub_over (by assumption) | refine sub_over0 ?_ | refine sub_trans (sub_same (by assumption)) ?_ | refine sub_dropu ?_ | refine sub_drop ?_ | refine sub_put ?_ (by repeat (first | assumption | exact upd_same _ _ _ | refine (upd_other _ _ (by omega)).trans ?_)))))) rfl rfl rfl ?_)
              refine aOps_1 rfl rfl rfl (AOp.bin' rfl rfl rfl rfl ?_)
              refine aOps_1 rfl rfl rfl (AOp.move' (.inl rfl) rfl ?_)
              refine aOps_1 rfl rfl rfl (AOp.buildA (cells := #[_, _, _]) rfl rfl rfl ?_)
              refine aOps_0 rfl rfl rfl ?_
              refine AOp.storeAll (b := ?b18) rfl rfl rfl ?hn18 ?hk18 rfl ?hw18 ?ho18 ?hl18 ?hR18
              (case hn18 => repeat (first | assumption | exact upd_same _ _ _ | refine (upd_other _ _ (by omega)).trans ?_))
              (case hk18 => rfl)
              (case hw18 => first | rfl | (simp; done))
              (case ho18 => first | rfl | decide | (simp; done))
              (case hl18 => first | rfl | (simp; done))
              refine aOps_end ?_
              show ACode _ _ _ _ _ _
              refine ACode.ret ?_
              exact RetQ.cell rfl rfl (aloadAll (v := t3v _) (upd_same _ _ _) rfl rfl rfl) (by (repeat (first | exact sub_refl _ | assumption | refine sub_upd' ?_ (by ((repeat refine (upd_other _ _ (by omega)).trans ?_); first | exact hf _ (by omega))) | refine sub_over (by assumption) | refine sub_over0 ?_ | refine sub_trans (sub_same (by assumption)) ?_ | refine sub_dropu ?_ | refine sub_drop ?_ | refine sub_put ?_ (by repeat (first | assumption | exact upd_same _ _ _ | refine (upd_other _ _ (by omega)).trans ?_))))) stays (fun hk => ⟨(by rw [mayR_pos (by omega), mayP, if_pos hok2, if_neg h0, if_pos (by rwa [Int.toNat_natCast]), Int.toNat_natCast, ofColP, if_neg h9, if_pos c5]), rfl, by omega⟩)
            · try simp only [decide_eq_true_eq, decide_eq_false_iff_not, beq_iff_eq, beq_eq_false_iff_ne, ne_eq, bne_iff_ne, Bool.not_eq_true', Bool.not_eq_false', Int.not_lt, Int.not_le, gt_iff_lt, ge_iff_le, bne_eq_false_iff_eq, Bool.not_eq_eq_eq_not, Bool.not_true, Bool.not_false] at c5
              refine ACode.skip ?_
              show ACode _ _ _ _ _ _
              refine ACode.seq ?_
              obtain ⟨n14_4, o14_4, s14_4, hq14_4, hp14_4⟩ := slcZ hZ hxz
              refine ACode.region' [0, 1, 2, 3, 4, 5, 6, 7, 8, 9, 10] (by kernel_rfl) rfl ?_
              refine aOps_1 rfl rfl rfl (AOp.move' (.inl rfl) rfl ?_)
              refine aOps_1 rfl rfl rfl (AOp.move' (.inl rfl) rfl ?_)
              refine aOps_1 rfl rfl rfl (AOp.fieldAddr' rfl (by decide) rfl ?_)
              refine aOps_1 rfl rfl rfl ?_
              refine AOp.load1 (b := ?b19) (v := ?v19) rfl rfl ?hn19 ?hv19 ?hR19
              (case hn19 => repeat (first | assumption | exact upd_same _ _ _ | refine (upd_other _ _ (by omega)).trans ?_))
              (case hv19 => rfl)
              refine aOps_1 rfl rfl rfl (AOp.indexP (aslcAt_sub (by (repeat (first | exact sub_refl _ | assumption | refine sub_upd' ?_ (by ((repeat refine (upd_other _ _ (by omega)).trans ?_); first | exact hf _ (by omega))) | refine sub_over (by assumption) | refine sub_over0 ?_ | refine sub_trans (sub_same (by assumption)) ?_ | refine sub_dropu ?_ | refine sub_drop ?_ | refine sub_put ?_ (by repeat (first | assumption | exact upd_same _ _ _ | refine (upd_other _ _ (by omega)).trans ?_))))) hq14_4) rfl rfl rfl ?_)
              refine aOps_1 rfl rfl rfl (AOp.fieldP (hp14_4.sub (by (repeat (first | exact sub_refl _ | assumption | refine sub_upd' ?_ (by ((repeat refine (upd_other _ _ (by omega)).trans ?_); first | exact hf _ (by omega))) | refine sub_over (by assumption) | refine sub_over0 ?_ | refine sub_trans (sub_same (by assumption)) ?_ | refine sub_dropu ?_ | refine sub_drop ?_ | refine sub_put ?_ (by repeat (first | assumption | exact upd_same _ _ _ | refine (upd_other _ _ (by omega)).trans ?_)))))) rfl (by decide) (Nat.le_of_ble_eq_true rfl) rfl ?_)
              refine aOps_1 rfl rfl rfl (AOp.loadP1 (hp14_4.sub (by (repeat (first | exact sub_refl _ | assumption | refine sub_upd' ?_ (by ((repeat refine (upd_other _ _ (by omega)).trans ?_); first | exact hf _ (by omega))) | refine sub_over (by assumption) | refine sub_over0 ?_ | refine sub_trans (sub_same (by assumption)) ?_ | refine sub_dropu ?_ | refine sub_drop ?_ | refine sub_put ?_ (by repeat (first | assumption | exact upd_same _ _ _ | refine (upd_other _ _ (by omega)).trans ?_)))))) rfl rfl rfl ?_)
              refine aOps_1 rfl rfl rfl (AOp.bin' rfl rfl rfl rfl ?_)
              refine aOps_1 rfl rfl rfl (AOp.move' (.inl rfl) rfl ?_)
              refine aOps_1 rfl rfl rfl (AOp.buildA (cells := #[_, _, _]) rfl rfl rfl ?_)
              refine aOps_0 rfl rfl rfl ?_
              refine AOp.storeAll (b := ?b20) rfl rfl rfl ?hn20 ?hk20 rfl ?hw20 ?ho20 ?hl20 ?hR20
              (case hn20 => repeat (first | assumption | exact upd_same _ _ _ | refine (upd_other _ _ (by omega)).trans ?_))
              (case hk20 => rfl)
              (case hw20 => first | rfl | (simp; done))
              (case ho20 => first | rfl | decide | (simp; done))
              (case hl20 => first | rfl | (simp; done))
              refine aOps_end ?_
              show ACode _ _ _ _ _ _
              refine ACode.ret ?_
              exact RetQ.cell rfl rfl (aloadAll (v := t3v _) (upd_same _ _ _) rfl rfl rfl) (by (repeat (first | exact sub_refl _ | assumption | refine sub_upd' ?_ (by ((repeat refine (upd_other _ _ (by omega)).trans ?_); first | exact hf _ (by omega))) | refine sub_over (by assumption) | refine sub_over0 ?_ | refine sub_trans (sub_same (by assumption)) ?_ | refine sub_dropu ?_ | refine sub_drop ?_ | refine sub_put ?_ (by repeat (first | assumption | exact upd_same _ _ _ | refine (upd_other _ _ (by omega)).trans ?_))))) stays (fun hk => ⟨(by rw [mayR_pos (by omega), mayP, if_pos hok2, if_neg h0, if_pos (by rwa [Int.toNat_natCast]), Int.toNat_natCast, ofColP, if_neg h9, if_neg (by rw [c5]; decide)]; try rfl), rfl, by omega⟩)
          · try simp only [decide_eq_true_eq, decide_eq_false_iff_not, beq_iff_eq, beq_eq_false_iff_ne, ne_eq, bne_iff_ne, Bool.not_eq_true', Bool.not_eq_false', Int.not_lt, Int.not_le, gt_iff_lt, ge_iff_le, bne_eq_false_iff_eq, Bool.not_eq_eq_eq_not, Bool.not_true, Bool.not_false] at c4
            have hc : ¬ (sh o).col = true := fun h => by have := ((shape_op ho).1).1 h; simp only [Bool.and_eq_false_iff, decide_eq_false_iff_not] at c4; omega
            have hof := of_ne hf0 h0 (by rwa [Int.toNat_natCast])
            have hof1 : 1 ≤ of.length := by { cases of with | nil => exact absurd rfl hof | cons a b => simp }
            refine ACode.skip ?_
            show ACode _ _ _ _ _ _
            refine ACode.seq ?_
            obtain ⟨n15_2, o15_2, s15_2, v0, hq15_2, hp15_2, hv0⟩ := PdVs.el pD hB hPs (show 0 < of.length by omega)
            obtain ⟨g01, g02⟩ := hv0.agg
            refine ACode.region' [0, 1, 2, 3, 4, 5, 6, 7, 8] (by kernel_rfl) rfl ?_
            refine aOps_1 rfl rfl rfl (AOp.fieldAddr' rfl (by decide) rfl ?_)
            refine aOps_1 rfl rfl rfl ?_
            refine AOp.load1 (b := ?b21) (v := ?v21) rfl rfl ?hn21 ?hv21 ?hR21
            (case hn21 => repeat (first | assumption | exact upd_same _ _ _ | refine (upd_other _ _ (by omega)).trans ?_))
            (case hv21 => rfl)
            refine aOps_1 rfl rfl rfl (AOp.indexP (aslcAt_sub (by (repeat (first | exact sub_refl _ | assumption | refine sub_upd' ?_ (by ((repeat refine (upd_other _ _ (by omega)).trans ?_); first | exact hf _ (by omega))) | refine sub_over (by assumption) | refine sub_over0 ?_ | refine sub_trans (sub_same (by assumption)) ?_ | refine sub_dropu ?_ | refine sub_drop ?_ | refine sub_put ?_ (by repeat (first | assumption | exact upd_same _ _ _ | refine (upd_other _ _ (by omega)).trans ?_))))) hq15_2) rfl rfl rfl ?_)
            refine aOps_1 rfl rfl rfl (AOp.loadPA (v := v0) (hp15_2.sub (by (repeat (first | exact sub_refl _ | assumption | refine sub_upd' ?_ (by ((repeat refine (upd_other _ _ (by omega)).trans ?_); first | exact hf _ (by omega))) | refine sub_over (by assumption) | refine sub_over0 ?_ | refine sub_trans (sub_same (by assumption)) ?_ | refine sub_dropu ?_ | refine sub_drop ?_ | refine sub_put ?_ (by repeat (first | assumption | exact upd_same _ _ _ | refine (upd_other _ _ (by omega)).trans ?_)))))) rfl rfl rfl g01 g02 (by decide) ?_)
            refine aOps_1 rfl rfl rfl (AOp.move' (.inl rfl) rfl ?_)
            refine aOps_1 rfl rfl rfl (AOp.move' (.inl rfl) rfl ?_)
            refine aOps_q rfl rfl rfl (AOp.call' rfl rfl rfl (ih (of.getD 0 pD) v0 rows zs Z zc _ _ (hv0.sub (by (repeat (first | exact sub_refl _ | assumption | refine sub_upd' ?_ (by ((repeat refine (upd_other _ _ (by omega)).trans ?_); first | exact hf _ (by omega))) | refine sub_over (by assumption) | refine sub_over0 ?_ | refine sub_trans (sub_same (by assumption)) ?_ | refine sub_dropu ?_ | refine sub_drop ?_ | refine sub_put ?_ (by repeat (first | assumption | exact upd_same _ _ _ | refine (upd_other _ _ (by omega)).trans ?_)))))) (slcCells_sub (by (repeat (first | exact sub_refl _ | assumption | refine sub_upd' ?_ (by ((repeat refine (upd_other _ _ (by omega)).trans ?_); first | exact hf _ (by omega))) | refine sub_over (by assumption) | refine sub_over0 ?_ | refine sub_trans (sub_same (by assumption)) ?_ | refine sub_dropu ?_ | refine sub_drop ?_ | refine sub_put ?_ (by repeat (first | assumption | exact upd_same _ _ _ | refine (upd_other _ _ (by omega)).trans ?_))))) hZ) hzl (by have := Pd.lt (op := (o : Int)) (col := col) (vals := vals) (pd_getD (ps := of) (i := 0) (by omega)); omega)) (fun _ _ _ h => h)) (fun kf hkf => ?_)
            rw [mayR_pos (p := of.getD 0 pD) (show ¬ rows < 1 by omega)]
            refine aOps_1 rfl rfl rfl (AOp.alloc' rfl ?_)
            refine aOps_0 rfl rfl rfl ?_
            refine AOp.storeAll (b := ?b22) rfl rfl rfl ?hn22 ?hk22 rfl ?hw22 ?ho22 ?hl22 ?hR22
            (case hn22 => repeat (first | assumption | exact upd_same _ _ _ | refine (upd_other _ _ (by omega)).trans ?_))
            (case hk22 => rfl)
            (case hw22 => first | rfl | (simp; done))
            (case ho22 => first | rfl | decide | (simp; done))
            (case hl22 => first | rfl | (simp; done))
            refine aOps_end ?_
            show ACode _ _ _ _ _ _
            refine ACode.seq ?_
            refine ACode.seq ?_
            refine ACode.region' [0, 1, 2] (by kernel_rfl) rfl ?_
            refine aOps_1 rfl rfl rfl (AOp.fieldAddr' rfl (by decide) rfl ?_)
            refine aOps_1 rfl rfl rfl ?_
            refine AOp.load1 (b := ?b23) (v := ?v23) rfl rfl ?hn23 ?hv23 ?hR23
            (case hn23 => repeat (first | assumption | exact upd_same _ _ _ | refine (upd_other _ _ (by omega)).trans ?_))
            (case hv23 => rfl)
            refine aOps_1 rfl rfl rfl (AOp.bin' rfl rfl rfl rfl ?_)
            refine aOps_end ?_
            show ACode _ _ _ _ _ _
            refine ACode.cond rfl (fun c6 => ?_) (fun c6 => ?_)
            · try simp only [decide_eq_true_eq, decide_eq_false_iff_not, beq_iff_eq, beq_eq_false_iff_ne, ne_eq, bne_iff_ne, Bool.not_eq_true', Bool.not_eq_false', Int.not_lt, Int.not_le, gt_iff_lt, ge_iff_le, bne_eq_false_iff_eq, Bool.not_eq_eq_eq_not, Bool.not_true, Bool.not_false] at c6
              obtain rfl : o = 12 := by omega
              refine ACode.seq ?_
              refine ACode.region' [0, 1, 2, 3, 4, 5, 6, 7] (by kernel_rfl) rfl ?_
              refine aOps_1 rfl rfl rfl (AOp.indexAddr_arr' rfl rfl rfl (by omega) (by omega) ?_)
              refine aOps_1 rfl rfl rfl ?_
              refine AOp.load1 (b := ?b24) (v := ?v24) rfl rfl ?hn24 ?hv24 ?hR24
              (case hn24 => repeat (first | assumption | exact upd_same _ _ _ | refine (upd_other _ _ (by omega)).trans ?_))
              (case hv24 => rfl)
              refine aOps_1 rfl rfl rfl (AOp.indexAddr_arr' rfl rfl rfl (by omega) (by omega) ?_)
              refine aOps_1 rfl rfl rfl ?_
              refine AOp.load1 (b := ?b25) (v := ?v25) rfl rfl ?hn25 ?hv25 ?hR25
              (case hn25 => repeat (first | assumption | exact upd_same _ _ _ | refine (upd_other _ _ (by omega)).trans ?_))
              (case hv25 => rfl)
              refine aOps_1 rfl rfl rfl (AOp.indexAddr_arr' rfl rfl rfl (by omega) (by omega) ?_)
              refine aOps_1 rfl rfl rfl ?_
              refine AOp.load1 (b := ?b26) (v := ?v26) rfl rfl ?hn26 ?hv26 ?hR26
              (case hn26 => repeat (first | assumption | exact upd_same _ _ _ | refine (upd_other _ _ (by omega)).trans ?_))
              (case hv26 => rfl)
              refine aOps_1 rfl rfl rfl (AOp.buildA (cells := #[_, _, _]) rfl rfl rfl ?_)
              refine aOps_0 rfl rfl rfl ?_
              refine AOp.storeAll (b := ?b27) rfl rfl rfl ?hn27 ?hk27 rfl ?hw27 ?ho27 ?hl27 ?hR27
              (case hn27 => repeat (first | assumption | exact upd_same _ _ _ | refine (upd_other _ _ (by omega)).trans ?_))
              (case hk27 => rfl)
              (case hw27 => first | rfl | (simp; done))
              (case ho27 => first | rfl | decide | (simp; done))
              (case hl27 => first | rfl | (simp; done))
              refine aOps_end ?_
              show ACode _ _ _ _ _ _
              refine ACode.ret ?_
              exact RetQ.cell rfl rfl (aloadAll (v := t3v ((mayP rows zs (of.getD 0 pD)).rev)) (upd_same _ _ _) rfl rfl rfl) (by (repeat (first | exact sub_refl _ | assumption | refine sub_upd' ?_ (by ((repeat refine (upd_other _ _ (by omega)).trans ?_); first | exact hf _ (by omega))) | refine sub_over (by assumption) | refine sub_over0 ?_ | refine sub_trans (sub_same (by assumption)) ?_ | refine sub_dropu ?_ | refine sub_drop ?_ | refine sub_put ?_ (by repeat (first | assumption | exact upd_same _ _ _ | refine (upd_other _ _ (by omega)).trans ?_))))) stays (fun hk => ⟨(by rw [mayR_pos (by omega), mayP, if_pos hok2, if_neg (by decide), if_neg (by decide), show ((12 : Nat) : Int) = 12 from rfl, joinM_12 hof]), rfl, by omega⟩)
            · try simp only [decide_eq_true_eq, decide_eq_false_iff_not, beq_iff_eq, beq_eq_false_iff_ne, ne_eq, bne_iff_ne, Bool.not_eq_true', Bool.not_eq_false', Int.not_lt, Int.not_le, gt_iff_lt, ge_iff_le, bne_eq_false_iff_eq, Bool.not_eq_eq_eq_not, Bool.not_true, Bool.not_false] at c6
              have h12 : (o : Int) ≠ 12 := c6
              refine ACode.skip ?_
              show ACode _ _ _ _ _ _
              refine ACode.seq ?_
              refine ACode.seq ?_
              have ha0 : accT (o : Int) of rows zs 0 = mayP rows zs (of.getD 0 pD) := by unfold accT; rw [List.take_zero]; rfl
              refine ACode.region' [0] (by kernel_rfl) rfl ?_
              refine aOps_1 rfl rfl rfl (AOp.move' (.inr rfl) rfl ?_)
              refine aOps_end ?_
              show ACode _ _ _ _ _ _
              refine ACode.block ?_
              refine ACode.count (fun i => [(11, .int .i64 ((i : Int) + 1))]) [(1, _), (2, _), (3, _), (6, _), (10, _)] (fun i => upd (upd (upd H k (some (pbk (o : Int) col A vals.length c B of.length d))) (k + 1) (some (tblk 34 noT))) kf (some (tblk 34 (accT (o : Int) of rows zs i)))) (of.length - 1) (fun _ => True) (.cons rfl .nil) (.cons rfl (.cons rfl (.cons rfl (.cons rfl (.cons rfl .nil))))) (by show Ab.Sub (upd _ _ (some (tblk _ (accT _ of rows zs 0)))) _; rw [ha0]; (repeat (first | exact sub_refl _ | assumption | refine sub_upd' ?_ (by ((repeat refine (upd_other _ _ (by omega)).trans ?_); first | exact hf _ (by omega))) | refine sub_over (by assumption) | refine sub_over0 ?_ | refine sub_trans (sub_same (by assumption)) ?_ | refine sub_dropu ?_ | refine sub_drop ?_ | refine sub_put ?_ (by repeat (first | assumption | exact upd_same _ _ _ | refine (upd_other _ _ (by omega)).trans ?_))))) trivial (fun i0 kL0 HL0 hiL0 hkL0 hsL0 hfL0 hxL0 => ?_)
              show ACode _ _ _ _ _ ⟨_, _, _⟩
              refine ACode.seq ?_
              refine ACode.seq ?_
              refine ACode.region' [0, 1, 2, 3, 4] (by kernel_rfl) rfl ?_
              refine aOps_1 rfl rfl rfl (AOp.move' (.inl rfl) rfl ?_)
              refine aOps_1 rfl rfl rfl (AOp.fieldAddr' rfl (by decide) rfl ?_)
              refine aOps_1 rfl rfl rfl ?_
              refine AOp.load1 (b := ?b28) (v := ?v28) rfl rfl ?hn28 ?hv28 ?hR28
              (case hn28 => repeat (first | assumption | exact upd_same _ _ _ | refine (upd_other _ _ (by omega)).trans ?_ | refine hsL0 _ _ ?_))
              (case hv28 => rfl)
              refine aOps_1 rfl rfl rfl (AOp.len' rfl rfl ?_)
              refine aOps_1 rfl rfl rfl (AOp.bin' rfl rfl rfl rfl ?_)
              refine aOps_end ?_
              show ACode _ _ _ _ _ _
              refine ACode.cond rfl (fun c7 => ?_) (fun c7 => ?_)
              · try simp only [decide_eq_true_eq, decide_eq_false_iff_not, beq_iff_eq, beq_eq_false_iff_ne, ne_eq, bne_iff_ne, Bool.not_eq_true', Bool.not_eq_false', Int.not_lt, Int.not_le, gt_iff_lt, ge_iff_le, bne_eq_false_iff_eq, Bool.not_eq_eq_eq_not, Bool.not_true, Bool.not_false] at c7
                refine ACode.skip ?_
                show ACode _ _ _ _ _ _
                refine ACode.seq ?_
                refine ACode.block ?_
                refine ACode.seq ?_
                obtain ⟨n21_3, o21_3, s21_3, v1, hq21_3, hp21_3, hv1⟩ := PdVs.el pD hB hPs (show (i0 + 1) < of.length by omega)
                obtain ⟨g11, g12⟩ := hv1.agg
                refine ACode.region' [0, 1, 2, 3, 4, 5, 6, 7, 8, 9] (by kernel_rfl) rfl ?_
                refine aOps_1 rfl rfl rfl (AOp.fieldAddr' rfl (by decide) rfl ?_)
                refine aOps_1 rfl rfl rfl ?_
                refine AOp.load1 (b := ?b29) (v := ?v29) rfl rfl ?hn29 ?hv29 ?hR29
                (case hn29 => repeat (first | assumption | exact upd_same _ _ _ | refine (upd_other _ _ (by omega)).trans ?_ | refine hsL0 _ _ ?_))
                (case hv29 => rfl)
                refine aOps_1 rfl rfl rfl (AOp.move' (.inl rfl) rfl ?_)
                refine aOps_1 rfl rfl rfl (AOp.indexP (aslcAt_sub (by (repeat (first | exact sub_refl _ | assumption | refine sub_upd' ?_ (by ((repeat refine (upd_other _ _ (by omega)).trans ?_); first | exact hf _ (by omega) | exact hfL0 _ (by omega))) | refine sub_trans ?_ hsL0 | refine sub_over (by assumption) | refine sub_over0 ?_ | refine sub_trans (sub_same (by assumption)) ?_ | refine sub_dropu ?_ | refine sub_drop ?_ | refine sub_put ?_ (by repeat (first | assumption | exact upd_same _ _ _ | refine (upd_other _ _ (by omega)).trans ?_ | refine hsL0 _ _ ?_))))) hq21_3) rfl rfl rfl ?_)
                refine aOps_1 rfl rfl rfl (AOp.loadPA (v := v1) (hp21_3.sub (by (repeat (first | exact sub_refl _ | assumption | refine sub_upd' ?_ (by ((repeat refine (upd_other _ _ (by omega)).trans ?_); first | exact hf _ (by omega) | exact hfL0 _ (by omega))) | refine sub_trans ?_ hsL0 | refine sub_over (by assumption) | refine sub_over0 ?_ | refine sub_trans (sub_same (by assumption)) ?_ | refine sub_dropu ?_ | refine sub_drop ?_ | refine sub_put ?_ (by repeat (first | assumption | exact upd_same _ _ _ | refine (upd_other _ _ (by omega)).trans ?_ | refine hsL0 _ _ ?_)))))) rfl rfl rfl g11 g12 (by decide) ?_)
                refine aOps_1 rfl rfl rfl (AOp.move' (.inl rfl) rfl ?_)
                refine aOps_1 rfl rfl rfl (AOp.move' (.inl rfl) rfl ?_)
                refine aOps_q rfl rfl rfl (AOp.call' rfl rfl rfl (ih (of.getD (i0 + 1) pD) v1 rows zs Z zc _ _ (hv1.sub (by (repeat (first | exact sub_refl _ | assumption | refine sub_upd' ?_ (by ((repeat refine (upd_other _ _ (by omega)).trans ?_); first | exact hf _ (by omega) | exact hfL0 _ (by omega))) | refine sub_trans ?_ hsL0 | refine sub_over (by assumption) | refine sub_over0 ?_ | refine sub_trans (sub_same (by assumption)) ?_ | refine sub_dropu ?_ | refine sub_drop ?_ | refine sub_put ?_ (by repeat (first | assumption | exact upd_same _ _ _ | refine (upd_other _ _ (by omega)).trans ?_ | refine hsL0 _ _ ?_)))))) (slcCells_sub (by (repeat (first | exact sub_refl _ | assumption | refine sub_upd' ?_ (by ((repeat refine (upd_other _ _ (by omega)).trans ?_); first | exact hf _ (by omega) | exact hfL0 _ (by omega))) | refine sub_trans ?_ hsL0 | refine sub_over (by assumption) | refine sub_over0 ?_ | refine sub_trans (sub_same (by assumption)) ?_ | refine sub_dropu ?_ | refine sub_drop ?_ | refine sub_put ?_ (by repeat (first | assumption | exact upd_same _ _ _ | refine (upd_other _ _ (by omega)).trans ?_ | refine hsL0 _ _ ?_))))) hZ) hzl (by have := Pd.lt (op := (o : Int)) (col := col) (vals := vals) (pd_getD (ps := of) (i := i0 + 1) (by omega)); omega)) (fun _ _ _ h => h)) (fun kg hkg => ?_)
                rw [mayR_pos (p := of.getD (i0 + 1) pD) (show ¬ rows < 1 by omega)]
                refine aOps_1 rfl rfl rfl (AOp.alloc' rfl ?_)
                refine aOps_0 rfl rfl rfl ?_
                refine AOp.storeAll (b := ?b30) rfl rfl rfl ?hn30 ?hk30 rfl ?hw30 ?ho30 ?hl30 ?hR30
                (case hn30 => repeat (first | assumption | exact upd_same _ _ _ | refine (upd_other _ _ (by omega)).trans ?_ | refine hsL0 _ _ ?_))
                (case hk30 => rfl)
                (case hw30 => first | rfl | (simp; done))
                (case ho30 => first | rfl | decide | (simp; done))
                (case hl30 => first | rfl | (simp; done))
                refine aOps_end ?_
                show ACode _ _ _ _ _ _
                refine ACode.seq ?_
                refine ACode.region' [0, 1, 2] (by kernel_rfl) rfl ?_
                refine aOps_1 rfl rfl rfl (AOp.buildA (cells := #[_, _, _]) rfl rfl rfl ?_)
                refine aOps_1 rfl rfl rfl (AOp.alloc' rfl ?_)
                refine aOps_0 rfl rfl rfl ?_
                refine AOp.storeAll (b := ?b31) rfl rfl rfl ?hn31 ?hk31 rfl ?hw31 ?ho31 ?hl31 ?hR31
                (case hn31 => repeat (first | assumption | exact upd_same _ _ _ | refine (upd_other _ _ (by omega)).trans ?_ | refine hsL0 _ _ ?_))
                (case hk31 => rfl)
                (case hw31 => first | rfl | (simp; done))
                (case ho31 => first | rfl | decide | (simp; done))
                (case hl31 => first | rfl | (simp; done))
                refine aOps_end ?_
                show ACode _ _ _ _ _ _
                refine ACode.seq ?_
                refine ACode.seq ?_
                refine ACode.region' [0] (by kernel_rfl) rfl ?_
                refine aOps_1 rfl rfl rfl (AOp.move' (.inr rfl) rfl ?_)
                refine aOps_end ?_
                show ACode _ _ _ _ _ _
                refine ACode.block ?_
                refine ACode.count (fun i => [(14, .int .i64 (i : Int))]) [(1, _), (2, _), (3, _), (6, _), (10, _), (11, _), (12, _), (13, _), (113, _), (114, _), (115, _), (116, _), (117, _), (120, _), (121, _), (122, _), (123, _), (124, _), (125, _), (126, _), (127, _), (128, _)] (fun i => upd (upd HL0 kg (some (tblk 34 (mayP rows zs (of.getD (i0 + 1) pD))))) (kg + 1) (some (jblk 34 (jn ((o : Int) == 10) (accT (o : Int) of rows zs i0) (mayP rows zs (of.getD (i0 + 1) pD)) (3 * i))))) (3) (fun _ => True) (.cons rfl .nil) (.cons rfl (.cons rfl (.cons rfl (.cons rfl (.cons rfl (.cons rfl (.cons rfl (.cons rfl (.cons rfl (.cons rfl (.cons rfl (.cons rfl (.cons rfl (.cons rfl (.cons rfl (.cons rfl (.cons rfl (.cons rfl (.cons rfl (.cons rfl (.cons rfl (.cons rfl .nil)))))))))))))))))))))) (by (repeat (first | exact sub_refl _ | assumption | refine sub_upd' ?_ (by ((repeat refine (upd_other _ _ (by omega)).trans ?_); first | exact hf _ (by omega) | exact hfL0 _ (by omega))) | refine sub_trans ?_ hsL0 | refine sub_over (by assumption) | refine sub_over0 ?_ | refine sub_trans (sub_same (by assumption)) ?_ | refine sub_dropu ?_ | refine sub_drop ?_ | refine sub_put ?_ (by repeat (first | assumption | exact upd_same _ _ _ | refine (upd_other _ _ (by omega)).trans ?_ | refine hsL0 _ _ ?_))))) trivial (fun i1 kL1 HL1 hiL1 hkL1 hsL1 hfL1 hxL1 => ?_)
                show ACode _ _ _ _ _ ⟨_, _, _⟩
                refine ACode.seq ?_
                refine ACode.seq ?_
                refine ACode.region' [0, 1] (by kernel_rfl) rfl ?_
                refine aOps_1 rfl rfl rfl (AOp.move' (.inl rfl) rfl ?_)
                refine aOps_1 rfl rfl rfl (AOp.bin' rfl rfl rfl rfl ?_)
                refine aOps_end ?_
                show ACode _ _ _ _ _ _
                refine ACode.cond rfl (fun c8 => ?_) (fun c8 => ?_)
                · try simp only [decide_eq_true_eq, decide_eq_false_iff_not, beq_iff_eq, beq_eq_false_iff_ne, ne_eq, bne_iff_ne, Bool.not_eq_true', Bool.not_eq_false', Int.not_lt, Int.not_le, gt_iff_lt, ge_iff_le, bne_eq_false_iff_eq, Bool.not_eq_eq_eq_not, Bool.not_true, Bool.not_false] at c8
                  refine ACode.skip ?_
                  show ACode _ _ _ _ _ _
                  refine ACode.seq ?_
                  refine ACode.block ?_
                  refine ACode.seq ?_
                  refine ACode.region' [0] (by kernel_rfl) rfl ?_
                  refine aOps_1 rfl rfl rfl (AOp.move' (.inr rfl) rfl ?_)
                  refine aOps_end ?_
                  show ACode _ _ _ _ _ _
                  refine ACode.block ?_
                  refine ACode.count (fun i => [(15, .int .i64 (i : Int))]) [(1, _), (2, _), (3, _), (6, _), (10, _), (11, _), (12, _), (13, _), (14, _), (113, _), (114, _), (115, _), (116, _), (117, _), (120, _), (121, _), (122, _), (123, _), (124, _), (125, _), (126, _), (127, _), (128, _), (129, _), (130, _)] (fun i => upd (upd HL0 kg (some (tblk 34 (mayP rows zs (of.getD (i0 + 1) pD))))) (kg + 1) (some (jblk 34 (jn ((o : Int) == 10) (accT (o : Int) of rows zs i0) (mayP rows zs (of.getD (i0 + 1) pD)) (3 * i1 + i))))) (3) (fun _ => True) (.cons rfl .nil) (.cons rfl (.cons rfl (.cons rfl (.cons rfl (.cons rfl (.cons rfl (.cons rfl (.cons rfl (.cons rfl (.cons rfl (.cons rfl (.cons rfl (.cons rfl (.cons rfl (.cons rfl (.cons rfl (.cons rfl (.cons rfl (.cons rfl (.cons rfl (.cons rfl (.cons rfl (.cons rfl (.cons rfl (.cons rfl .nil))))))))))))))))))))))))) (by (repeat (first | exact sub_refl _ | assumption | refine sub_upd' ?_ (by ((repeat refine (upd_other _ _ (by omega)).trans ?_); first | exact hf _ (by omega) | exact hfL0 _ (by omega) | exact hfL1 _ (by omega))) | refine sub_trans ?_ hsL1 | refine sub_trans ?_ hsL0 | refine sub_over (by assumption) | refine sub_over0 ?_ | refine sub_trans (sub_same (by assumption)) ?_ | refine sub_dropu ?_ | refine sub_drop ?_ | refine sub_put ?_ (by repeat (first | assumption | exact upd_same _ _ _ | refine (upd_other _ _ (by omega)).trans ?_ | refine hsL1 _ _ ?_ | refine hsL0 _ _ ?_))))) trivial (fun i2 kL2 HL2 hiL2 hkL2 hsL2 hfL2 hxL2 => ?_)
                  show ACode _ _ _ _ _ ⟨_, _, _⟩
                  refine ACode.seq ?_
                  refine ACode.seq ?_
                  refine ACode.region' [0, 1] (by kernel_rfl) rfl ?_
                  refine aOps_1 rfl rfl rfl (AOp.move' (.inl rfl) rfl ?_)
                  refine aOps_1 rfl rfl rfl (AOp.bin' rfl rfl rfl rfl ?_)
                  refine aOps_end ?_
                  show ACode _ _ _ _ _ _
                  refine ACode.cond rfl (fun c9 => ?_) (fun c9 => ?_)
                  · try simp only [decide_eq_true_eq, decide_eq_false_iff_not, beq_iff_eq, beq_eq_false_iff_ne, ne_eq, bne_iff_ne, Bool.not_eq_true', Bool.not_eq_false', Int.not_lt, Int.not_le, gt_iff_lt, ge_iff_le, bne_eq_false_iff_eq, Bool.not_eq_eq_eq_not, Bool.not_true, Bool.not_false] at c9
                    refine ACode.skip ?_
                    show ACode _ _ _ _ _ _
                    refine ACode.seq ?_
                    refine ACode.block ?_
                    refine ACode.seq ?_
                    refine ACode.region' [0, 1, 2, 3, 4, 5, 6, 7] (by kernel_rfl) rfl ?_
                    refine aOps_1 rfl rfl rfl (AOp.move' (.inl rfl) rfl ?_)
                    refine aOps_1 rfl rfl rfl (AOp.indexA (by omega) rfl rfl rfl ?_)
                    refine aOps_1 rfl rfl rfl ?_
                    refine AOp.loadM bl (t3l (accT (o : Int) of rows zs i0)) false (b := ?b32) ?hn32 ?hv32 ?hw32 rfl rfl ?hR32
                    (case hn32 => repeat (first | assumption | exact upd_same _ _ _ | refine (upd_other _ _ (by omega)).trans ?_ | refine hsL2 _ _ ?_ | refine hsL1 _ _ ?_ | refine hsL0 _ _ ?_))
                    (case hv32 => rfl)
                    (case hw32 => exact (by simp; omega))
                    refine aOps_1 rfl rfl rfl (AOp.move' (.inl rfl) rfl ?_)
                    refine aOps_gd0 rfl rfl (wantT rfl rfl rfl) (fun hc => AOp.slots [(15, _)] (.cons rfl .nil) (AOp.move' (.inl rfl) rfl ⟨rfl, rfl, rfl⟩)) ?_
                    refine aOps_gd0 rfl rfl (wantT rfl rfl rfl) (fun hc => AOp.slots [(12, _), (141, _)] (.cons rfl (.cons (gvT rfl hc) .nil)) (AOp.indexA (by omega) rfl rfl rfl ⟨rfl, rfl, rfl⟩)) ?_
                    refine aOps_gd0 rfl rfl (wantT rfl rfl rfl) (fun hc => AOp.slots [(142, _)] (.cons (gvT rfl hc) .nil) ((by refine AOp.loadM bl (t3l (mayP rows zs (of.getD (i0 + 1) pD))) false (b := ?b33) ?hn33 ?hv33 ?hw33 rfl rfl ?hR33; (case hn33 => repeat (first | assumption | exact upd_same _ _ _ | refine (upd_other _ _ (by omega)).trans ?_ | refine hsL2 _ _ ?_ | refine hsL1 _ _ ?_ | refine hsL0 _ _ ?_)); (case hv33 => rfl); (case hw33 => exact (by simp; omega)); exact ⟨rfl, rfl, rfl⟩))) ?_
                    refine aOps_1 rfl rfl rfl (AOp.pickAnd rfl rfl rfl (fun hb => gvE rfl hb) ?_)
                    refine aOps_end ?_
                    show ACode _ _ _ _ _ _
                    refine ACode.cond rfl (fun c10 => ?_) (fun c10 => ?_)
                    · try simp only [decide_eq_true_eq, decide_eq_false_iff_not, beq_iff_eq, beq_eq_false_iff_ne, ne_eq, bne_iff_ne, Bool.not_eq_true', Bool.not_eq_false', Int.not_lt, Int.not_le, gt_iff_lt, ge_iff_le, bne_eq_false_iff_eq, Bool.not_eq_eq_eq_not, Bool.not_true, Bool.not_false] at c10
                      refine ACode.seq ?_
                      refine ACode.region' [0, 1, 2] (by kernel_rfl) rfl ?_
                      refine aOps_1 rfl rfl rfl (AOp.fieldAddr' rfl (by decide) rfl ?_)
                      refine aOps_1 rfl rfl rfl ?_
                      refine AOp.load1 (b := ?b34) (v := ?v34) rfl rfl ?hn34 ?hv34 ?hR34
                      (case hn34 => repeat (first | assumption | exact upd_same _ _ _ | refine (upd_other _ _ (by omega)).trans ?_ | refine hsL2 _ _ ?_ | refine hsL1 _ _ ?_ | refine hsL0 _ _ ?_))
                      (case hv34 => rfl)
                      refine aOps_1 rfl rfl rfl (AOp.bin' rfl rfl rfl rfl ?_)
                      refine aOps_end ?_
                      show ACode _ _ _ _ _ _
                      refine ACode.cond rfl (fun c11 => ?_) (fun c11 => ?_)
                      · try simp only [decide_eq_true_eq, decide_eq_false_iff_not, beq_iff_eq, beq_eq_false_iff_ne, ne_eq, bne_iff_ne, Bool.not_eq_true', Bool.not_eq_false', Int.not_lt, Int.not_le, gt_iff_lt, ge_iff_le, bne_eq_false_iff_eq, Bool.not_eq_eq_eq_not, Bool.not_true, Bool.not_false] at c11
                        have hml := mnI_lt (mn := ((o : Int) == 10)) (show i1 < 3 by omega) (show i2 < 3 by omega)
                        refine ACode.region' [0, 1, 2, 3, 4] (by kernel_rfl) rfl ?_
                        refine aOps_1 rfl rfl rfl (AOp.move' (.inl rfl) rfl ?_)
                        refine aOps_1 rfl rfl rfl (AOp.move' (.inl rfl) rfl ?_)
                        refine aOps_1 rfl rfl rfl (AOp.min2 rfl rfl rfl ?_)
                        rw [show min (i1 : Int) (i2 : Int) = ((mnI ((o : Int) == 10) i1 i2 : Nat) : Int) by rw [c11]; show min (i1 : Int) (i2 : Int) = ((min i1 i2 : Nat) : Int); omega]
                        refine aOps_1 rfl rfl rfl (AOp.indexA (by omega) rfl rfl rfl ?_)
                        refine aOps_0 rfl rfl rfl ?_
                        refine AOp.storeM bl (jn ((o : Int) == 10) (accT (o : Int) of rows zs i0) (mayP rows zs (of.getD (i0 + 1) pD)) (3 * i1 + i2)) (true) (b := ?b35) ?hn35 ?hv35 ?hw35 rfl rfl rfl rfl rfl ?hR35
                        (case hn35 => repeat (first | assumption | exact upd_same _ _ _ | refine (upd_other _ _ (by omega)).trans ?_ | refine hsL2 _ _ ?_ | refine hsL1 _ _ ?_ | refine hsL0 _ _ ?_))
                        (case hv35 => rfl)
                        (case hw35 => exact (by rw [jn_len]; omega))
                        refine aOps_end ?_
                        show ACode _ _ _ _ _ _
                        refine ACode.region' [0, 1, 2] (by kernel_rfl) rfl ?_
                        refine aOps_1 rfl rfl rfl (AOp.move' (.inl rfl) rfl ?_)
                        refine aOps_1 rfl rfl rfl (AOp.add rfl rfl rfl (i64_wrap (by omega) (by omega)) ?_)
                        refine aOps_1 rfl rfl rfl (AOp.move' (.inr rfl) rfl ?_)
                        refine aOps_end ?_
                        have hjn := jn_T (mn := ((o : Int) == 10)) (a := (accT (o : Int) of rows zs i0)) (b := (mayP rows zs (of.getD (i0 + 1) pD))) (i := i1) (j := i2) (by omega) c10
                        first | refine thenA_n ?_ | simp only [thenA, blockA, if_true]
                        exact NextR.mk (by omega) (by omega) (.cons rfl .nil) (.cons rfl (.cons rfl (.cons rfl (.cons rfl (.cons rfl (.cons rfl (.cons rfl (.cons rfl (.cons rfl (.cons rfl (.cons rfl (.cons rfl (.cons rfl (.cons rfl (.cons rfl (.cons rfl (.cons rfl (.cons rfl (.cons rfl (.cons rfl (.cons rfl (.cons rfl (.cons rfl (.cons rfl (.cons rfl .nil))))))))))))))))))))))))) (by show Ab.Sub (upd _ _ (some (jblk _ (jn _ _ _ (3 * i1 + (i2 + 1)))))) _; rw [hjn]; (repeat (first | exact sub_refl _ | assumption | refine sub_upd' ?_ (by ((repeat refine (upd_other _ _ (by omega)).trans ?_); first | exact hf _ (by omega) | exact hfL0 _ (by omega) | exact hfL1 _ (by omega) | exact hfL2 _ (by omega))) | refine sub_trans ?_ hsL2 | refine sub_trans ?_ hsL1 | refine sub_trans ?_ hsL0 | refine sub_over (by assumption) | refine sub_over0 ?_ | refine sub_trans (sub_same (by assumption)) ?_ | refine sub_dropu ?_ | refine sub_drop ?_ | refine sub_put ?_ (by repeat (first | assumption | exact upd_same _ _ _ | refine (upd_other _ _ (by omega)).trans ?_ | refine hsL2 _ _ ?_ | refine hsL1 _ _ ?_ | refine hsL0 _ _ ?_))))) trivial
                      · try simp only [decide_eq_true_eq, decide_eq_false_iff_not, beq_iff_eq, beq_eq_false_iff_ne, ne_eq, bne_iff_ne, Bool.not_eq_true', Bool.not_eq_false', Int.not_lt, Int.not_le, gt_iff_lt, ge_iff_le, bne_eq_false_iff_eq, Bool.not_eq_eq_eq_not, Bool.not_true, Bool.not_false] at c11
                        have hb : ((o : Int) == 10) = false := beq_eq_false_iff_ne.2 c11
                        have hml := mnI_lt (mn := ((o : Int) == 10)) (show i1 < 3 by omega) (show i2 < 3 by omega)
                        refine ACode.region' [0, 1, 2, 3, 4] (by kernel_rfl) rfl ?_
                        refine aOps_1 rfl rfl rfl (AOp.move' (.inl rfl) rfl ?_)
                        refine aOps_1 rfl rfl rfl (AOp.move' (.inl rfl) rfl ?_)
                        refine aOps_1 rfl rfl rfl (AOp.max2 rfl rfl rfl ?_)
                        rw [show max (i1 : Int) (i2 : Int) = ((mnI ((o : Int) == 10) i1 i2 : Nat) : Int) by rw [hb]; show max (i1 : Int) (i2 : Int) = ((max i1 i2 : Nat) : Int); omega]
                        refine aOps_1 rfl rfl rfl (AOp.indexA (by omega) rfl rfl rfl ?_)
                        refine aOps_0 rfl rfl rfl ?_
                        refine AOp.storeM bl (jn ((o : Int) == 10) (accT (o : Int) of rows zs i0) (mayP rows zs (of.getD (i0 + 1) pD)) (3 * i1 + i2)) (true) (b := ?b36) ?hn36 ?hv36 ?hw36 rfl rfl rfl rfl rfl ?hR36
                        (case hn36 => repeat (first | assumption | exact upd_same _ _ _ | refine (upd_other _ _ (by omega)).trans ?_ | refine hsL2 _ _ ?_ | refine hsL1 _ _ ?_ | refine hsL0 _ _ ?_))
                        (case hv36 => rfl)
                        (case hw36 => exact (by rw [jn_len]; omega))
                        refine aOps_end ?_
                        show ACode _ _ _ _ _ _
                        refine ACode.region' [0, 1, 2] (by kernel_rfl) rfl ?_
                        refine aOps_1 rfl rfl rfl (AOp.move' (.inl rfl) rfl ?_)
                        refine aOps_1 rfl rfl rfl (AOp.add rfl rfl rfl (i64_wrap (by omega) (by omega)) ?_)
                        refine aOps_1 rfl rfl rfl (AOp.move' (.inr rfl) rfl ?_)
                        refine aOps_end ?_
                        have hjn := jn_T (mn := ((o : Int) == 10)) (a := (accT (o : Int) of rows zs i0)) (b := (mayP rows zs (of.getD (i0 + 1) pD))) (i := i1) (j := i2) (by omega) c10
                        first | refine thenA_n ?_ | simp only [thenA, blockA, if_true]
                        exact NextR.mk (by omega) (by omega) (.cons rfl .nil) (.cons rfl (.cons rfl (.cons rfl (.cons rfl (.cons rfl (.cons rfl (.cons rfl (.cons rfl (.cons rfl (.cons rfl (.cons rfl (.cons rfl (.cons rfl (.cons rfl (.cons rfl (.cons rfl (.cons rfl (.cons rfl (.cons rfl (.cons rfl (.cons rfl (.cons rfl (.cons rfl (.cons rfl (.cons rfl .nil))))))))))))))))))))))))) (by show Ab.Sub (upd _ _ (some (jblk _ (jn _ _ _ (3 * i1 + (i2 + 1)))))) _; rw [hjn]; (repeat (first | exact sub_refl _ | assumption | refine sub_upd' ?_ (by ((repeat refine (upd_other _ _ (by omega)).trans ?_); first | exact hf _ (by omega) | exact hfL0 _ (by omega) | exact hfL1 _ (by omega) | exact hfL2 _ (by omega))) | refine sub_trans ?_ hsL2 | refine sub_trans ?_ hsL1 | refine sub_trans ?_ hsL0 | refine sub_over (by assumption) | refine sub_over0 ?_ | refine sub_trans (sub_same (by assumption)) ?_ | refine sub_dropu ?_ | refine sub_drop ?_ | refine sub_put ?_ (by repeat (first | assumption | exact upd_same _ _ _ | refine (upd_other _ _ (by omega)).trans ?_ | refine hsL2 _ _ ?_ | refine hsL1 _ _ ?_ | refine hsL0 _ _ ?_))))) trivial
                    · try simp only [decide_eq_true_eq, decide_eq_false_iff_not, beq_iff_eq, beq_eq_false_iff_ne, ne_eq, bne_iff_ne, Bool.not_eq_true', Bool.not_eq_false', Int.not_lt, Int.not_le, gt_iff_lt, ge_iff_le, bne_eq_false_iff_eq, Bool.not_eq_eq_eq_not, Bool.not_true, Bool.not_false] at c10
                      refine ACode.skip ?_
                      show ACode _ _ _ _ _ _
                      refine ACode.region' [0, 1, 2] (by kernel_rfl) rfl ?_
                      refine aOps_1 rfl rfl rfl (AOp.move' (.inl rfl) rfl ?_)
                      refine aOps_1 rfl rfl rfl (AOp.add rfl rfl rfl (i64_wrap (by omega) (by omega)) ?_)
                      refine aOps_1 rfl rfl rfl (AOp.move' (.inr rfl) rfl ?_)
                      refine aOps_end ?_
                      have hjn := jn_F (mn := ((o : Int) == 10)) (a := (accT (o : Int) of rows zs i0)) (b := (mayP rows zs (of.getD (i0 + 1) pD))) (i := i1) (j := i2) (by omega) c10
                      first | refine thenA_n ?_ | simp only [thenA, blockA, if_true]
                      exact NextR.mk (by omega) (by omega) (.cons rfl .nil) (.cons rfl (.cons rfl (.cons rfl (.cons rfl (.cons rfl (.cons rfl (.cons rfl (.cons rfl (.cons rfl (.cons rfl (.cons rfl (.cons rfl (.cons rfl (.cons rfl (.cons rfl (.cons rfl (.cons rfl (.cons rfl (.cons rfl (.cons rfl (.cons rfl (.cons rfl (.cons rfl (.cons rfl (.cons rfl .nil))))))))))))))))))))))))) (by show Ab.Sub (upd _ _ (some (jblk _ (jn _ _ _ (3 * i1 + (i2 + 1)))))) _; rw [hjn]; (repeat (first | exact sub_refl _ | assumption | refine sub_upd' ?_ (by ((repeat refine (upd_other _ _ (by omega)).trans ?_); first | exact hf _ (by omega) | exact hfL0 _ (by omega) | exact hfL1 _ (by omega) | exact hfL2 _ (by omega))) | refine sub_trans ?_ hsL2 | refine sub_trans ?_ hsL1 | refine sub_trans ?_ hsL0 | refine sub_over (by assumption) | refine sub_over0 ?_ | refine sub_trans (sub_same (by assumption)) ?_ | refine sub_dropu ?_ | refine sub_drop ?_ | refine sub_put ?_ (by repeat (first | assumption | exact upd_same _ _ _ | refine (upd_other _ _ (by omega)).trans ?_ | refine hsL2 _ _ ?_ | refine hsL1 _ _ ?_ | refine hsL0 _ _ ?_))))) trivial
                  · try simp only [decide_eq_true_eq, decide_eq_false_iff_not, beq_iff_eq, beq_eq_false_iff_ne, ne_eq, bne_iff_ne, Bool.not_eq_true', Bool.not_eq_false', Int.not_lt, Int.not_le, gt_iff_lt, ge_iff_le, bne_eq_false_iff_eq, Bool.not_eq_eq_eq_not, Bool.not_true, Bool.not_false] at c9
                    refine ACode.exit ?_
                    show ACode _ _ _ _ _ _
                    refine ACode.region' [0, 1, 2] (by kernel_rfl) rfl ?_
                    refine aOps_1 rfl rfl rfl (AOp.move' (.inl rfl) rfl ?_)
                    refine aOps_1 rfl rfl rfl (AOp.add rfl rfl rfl (i64_wrap (by omega) (by omega)) ?_)
                    refine aOps_1 rfl rfl rfl (AOp.move' (.inr rfl) rfl ?_)
                    refine aOps_end ?_
                    obtain rfl : i2 = 3 := by omega
                    first | refine thenA_n ?_ | simp only [thenA, blockA, if_true]
                    exact NextR.mk (by omega) (by omega) (.cons rfl .nil) (.cons rfl (.cons rfl (.cons rfl (.cons rfl (.cons rfl (.cons rfl (.cons rfl (.cons rfl (.cons rfl (.cons rfl (.cons rfl (.cons rfl (.cons rfl (.cons rfl (.cons rfl (.cons rfl (.cons rfl (.cons rfl (.cons rfl (.cons rfl (.cons rfl (.cons rfl .nil)))))))))))))))))))))) (by exact hsL2) trivial
                · try simp only [decide_eq_true_eq, decide_eq_false_iff_not, beq_iff_eq, beq_eq_false_iff_ne, ne_eq, bne_iff_ne, Bool.not_eq_true', Bool.not_eq_false', Int.not_lt, Int.not_le, gt_iff_lt, ge_iff_le, bne_eq_false_iff_eq, Bool.not_eq_eq_eq_not, Bool.not_true, Bool.not_false] at c8
                  refine ACode.exit ?_
                  show ACode _ _ _ _ _ _
                  have h9 : HL1 (kg + 1) = some (tblk 34 (joinT ((o : Int) == 10) (accT (o : Int) of rows zs i0) (mayP rows zs (of.getD (i0 + 1) pD)))) := by { have h := hsL1 _ _ (upd_same _ _ _); rw [show i1 = 3 by omega] at h; rw [h]; show some (jblk _ (jn _ _ _ 9)) = _; rw [jn_all]; rfl }
                  refine ACode.region' [0, 1] (by kernel_rfl) rfl ?_
                  refine aOps_1 rfl rfl rfl ?_
                  refine AOp.loadAll (b := ?b37) (v := t3v (joinT ((o : Int) == 10) (accT (o : Int) of rows zs i0) (mayP rows zs (of.getD (i0 + 1) pD)))) rfl rfl ?hn37 ?hv37 ?hw37 ?hz37 ?hR37
                  (case hn37 => repeat (first | assumption | exact upd_same _ _ _ | refine (upd_other _ _ (by omega)).trans ?_ | refine hsL1 _ _ ?_ | refine hsL0 _ _ ?_))
                  (case hv37 => rfl)
                  (case hw37 => rfl)
                  (case hz37 => first | rfl | (simp; done))
                  refine aOps_0 rfl rfl rfl ?_
                  refine AOp.storeAll (b := ?b38) rfl rfl rfl ?hn38 ?hk38 rfl ?hw38 ?ho38 ?hl38 ?hR38
                  (case hn38 => repeat (first | assumption | exact upd_same _ _ _ | refine (upd_other _ _ (by omega)).trans ?_ | refine hsL1 _ _ ?_ | refine hsL0 _ _ ?_))
                  (case hk38 => rfl)
                  (case hw38 => first | rfl | (simp; done))
                  (case ho38 => first | rfl | decide | (simp; done))
                  (case hl38 => first | rfl | (simp; done))
                  refine aOps_end ?_
                  show ACode _ _ _ _ _ _
                  refine ACode.region' [0, 1, 2] (by kernel_rfl) rfl ?_
                  refine aOps_1 rfl rfl rfl (AOp.move' (.inl rfl) rfl ?_)
                  refine aOps_1 rfl rfl rfl (AOp.add rfl rfl rfl (i64_wrap (by omega) (by omega)) ?_)
                  refine aOps_1 rfl rfl rfl (AOp.move' (.inr rfl) rfl ?_)
                  refine aOps_end ?_
                  have hst := accT_step (op := (o : Int)) (rows := rows) (zs := zs) (i := i0) (show i0 + 1 < of.length by omega)
                  first | refine thenA_n ?_ | simp only [thenA, blockA, if_true]
                  exact NextR.mk (by omega) (by omega) (.cons rfl .nil) (.cons rfl (.cons rfl (.cons rfl (.cons rfl (.cons rfl .nil))))) (by show Ab.Sub (upd _ _ (some (tblk _ (accT _ of rows zs (i0 + 1))))) _; rw [hst]; exact sub_over (sub_trans hsL0 (sub_trans (sub_upd' (sub_upd' (sub_refl _) (hfL0 _ (by omega))) (hfL0 _ (by omega))) hsL1))) trivial
              · try simp only [decide_eq_true_eq, decide_eq_false_iff_not, beq_iff_eq, beq_eq_false_iff_ne, ne_eq, bne_iff_ne, Bool.not_eq_true', Bool.not_eq_false', Int.not_lt, Int.not_le, gt_iff_lt, ge_iff_le, bne_eq_false_iff_eq, Bool.not_eq_eq_eq_not, Bool.not_true, Bool.not_false] at c7
                refine ACode.exit ?_
                show ACode _ _ _ _ _ _
                refine ACode.seq ?_
                refine ACode.region' [0, 1] (by kernel_rfl) rfl ?_
                refine aOps_1 rfl rfl rfl ?_
                refine AOp.loadAll (b := ?b39) (v := t3v (accT (o : Int) of rows zs i0)) rfl rfl ?hn39 ?hv39 ?hw39 ?hz39 ?hR39
                (case hn39 => repeat (first | assumption | exact upd_same _ _ _ | refine (upd_other _ _ (by omega)).trans ?_ | refine hsL0 _ _ ?_))
                (case hv39 => rfl)
                (case hw39 => rfl)
                (case hz39 => first | rfl | (simp; done))
                refine aOps_0 rfl rfl rfl ?_
                refine AOp.storeAll (b := ?b40) rfl rfl rfl ?hn40 ?hk40 rfl ?hw40 ?ho40 ?hl40 ?hR40
                (case hn40 => repeat (first | assumption | exact upd_same _ _ _ | refine (upd_other _ _ (by omega)).trans ?_ | refine hsL0 _ _ ?_))
                (case hk40 => rfl)
                (case hw40 => first | rfl | (simp; done))
                (case ho40 => first | rfl | decide | (simp; done))
                (case hl40 => first | rfl | (simp; done))
                refine aOps_end ?_
                show ACode _ _ _ _ _ _
                refine ACode.ret ?_
                exact RetQ.cell rfl rfl (aloadAll (v := t3v _) (upd_same _ _ _) rfl rfl rfl) (by (repeat (first | exact sub_refl _ | assumption | refine sub_upd' ?_ (by ((repeat refine (upd_other _ _ (by omega)).trans ?_); first | exact hf _ (by omega) | exact hfL0 _ (by omega))) | refine sub_trans ?_ hsL0 | refine sub_over (by assumption) | refine sub_over0 ?_ | refine sub_trans (sub_same (by assumption)) ?_ | refine sub_dropu ?_ | refine sub_drop ?_ | refine sub_put ?_ (by repeat (first | assumption | exact upd_same _ _ _ | refine (upd_other _ _ (by omega)).trans ?_ | refine hsL0 _ _ ?_))))) stays (fun hk => ⟨(by rw [mayR_pos (by omega), mayP, if_pos hok2, if_neg h0, if_neg (by rwa [Int.toNat_natCast]), joinM_all hof h12, show of.length - 1 = i0 by omega]), rfl, by omega⟩)

end Go.Proofs.YtnciojaecelhmaaDoor
