/- Contracts over the abstract states: forms of predicates; what the document finds wrong with one. -/
import Derived.Test.YteoofihjmldllaaDoorR18
import Derived.Test.YteoofihjmldllaaDoorZ2
set_option linter.unusedVariables false
set_option linter.unusedSimpArgs false
set_option maxRecDepth 100000
namespace Go.Proofs.YteoofihjmldllaaDoor
open Go Go.Ab

theorem putPs_take_le (ps : List Pd) (i : Nat) : (putPs (ps.take i)).length ≤ (putPs ps).length := by rw [putPs_flat, putPs_flat]; exact flat_take_le putP ps i
theorem putP_mem : ∀ {ps : List Pd} {p : Pd}, p ∈ ps → (putP p).length ≤ (putPs ps).length
  | q :: ps, p, h => by
    rw [putPs, List.length_append]
    rcases List.mem_cons.1 h with rfl | h
    · omega
    · have := putP_mem h
      omega
theorem sum_mem : ∀ {vals : List Val} {v : Val}, v ∈ vals → v.s.size ≤ (vals.map fun v => 1 + v.s.size).sum
  | u :: us, v, h => by
    rw [List.map_cons, List.sum_cons]
    rcases List.mem_cons.1 h with rfl | h
    · omega
    · have := sum_mem h
      omega
theorem putP_len (op col : Int) (vals : List Val) (of : List Pd) : (putP (.mk op col vals of)).length = 1 + (varB (uN col)).length + (varB vals.length).length + (vals.flatMap putB).length + (varB of.length).length + (putPs of).length := by
  rw [putP]
  simp only [List.length_cons, List.length_append]
  omega
section
variable (H : Hp) (k : Nat)

theorem put_p : ∀ (N : Nat) (p : Pd) (v : Value) (H : Hp) (k : Nat), PdV H p v → p.tiny ∧ (putP p).length ≤ 100000 ∧ szP p ≤ 1000 → SizeOf.sizeOf p < N → ACalls Tryd.prog 3 67 [v] H k (fun r H' k' => ∃ q, r = sl q (putP p).length ∧ k ≤ q ∧ q < k' ∧ H' q = some (gb (putP p)) ∧ (∀ m, k' ≤ m → H' m = none) ∧ Ab.Sub H H') := by
  intro N
  induction N
  case zero => intro p v H k hv ht hN; exact absurd hN (Nat.not_lt_zero _)
  rename_i N ih
  intro p v H k hv ht hN
  cases p
  rename_i op col vals of
  rw [PdV] at hv
  obtain ⟨A, c, B, d, bs, rfl, hA, hvl, hol, hop, hcl, hok, hB, hPs⟩ := hv
  obtain ⟨ht, hpl, hsz⟩ := ht
  rw [szP] at hsz
  rw [Pd.tiny] at ht
  have hpe := putP_len op col vals of
  rw [hpe] at hpl
  refine ACalls.fresh fun hf => ?_
  refine ACalls.body Tryd.func67 rfl (Nat.le_of_ble_eq_true rfl) ?_
  have hHk := hf k (Nat.le_refl k)
  have hHk1 := hf (k + 1) (Nat.le_succ k)
  refine ACode.seq ?_
  refine ACode.region' [0, 1] (by kernel_rfl) rfl ?_
  refine aOps_1 rfl rfl rfl (AOp.boxV rfl rfl ?_)
  refine aOps_1 rfl rfl rfl (AOp.move' (.inr rfl) rfl ?_)
  refine aOps_end ?_
  show ACode _ _ _ _ _ _
  refine ACode.seq ?_
  refine ACode.region' [0, 1, 2, 3, 4, 5, 6, 7, 8] (by kernel_rfl) rfl ?_
  refine aOps_1 rfl rfl rfl (AOp.fieldAddr' rfl (by decide) rfl ?_)
  refine aOps_1 rfl rfl rfl ?_
  refine AOp.load1 (b := ?b1) (v := ?v1) rfl rfl ?hn1 ?hv1 ?hR1
  (case hn1 => exact hpA)
  (case hv1 => rfl)
  refine aOps_1 rfl rfl rfl (AOp.toU8 rfl rfl ?_)
  refine aOps_1 rfl rfl rfl (AOp.buildB [byteI op] rfl (by decide) rfl rfl ?_)
  refine aOps_1 rfl rfl rfl (AOp.fieldAddr' rfl (by decide) rfl ?_)
  refine aOps_1 rfl rfl rfl ?_
  refine AOp.load1 (b := ?b2) (v := ?v2) rfl rfl ?hn2 ?hv2 ?hR2
  (case hn2 => exact hpA)
  (case hv2 => rfl)
  refine aOps_1 rfl rfl rfl (AOp.convInt rfl rfl ?_)
  rw [uN_cast col]
  refine aOps_1 rfl rfl rfl ?_
  refine AOp.call' rfl rfl rfl (putVar 3 _ _ (k + 1) [byteI op] (uN col) hpA (uN_lt col) (by show 1 ≤ 1099511627776; decide)) ?_
  rintro _ _ k7 ⟨rfl, rfl, hk7⟩
  refine aOps_1 rfl rfl rfl (AOp.move' (.inr rfl) rfl ?_)
  rw [rd_upd2]
  refine aOps_end ?_
  show ACode _ _ _ _ _ _
  refine ACode.seq ?_
  refine ACode.region' [0, 1, 2, 3, 4, 5, 6] (by kernel_rfl) rfl ?_
  refine aOps_1 rfl rfl rfl (AOp.move' (.inl rfl) rfl ?_)
  refine aOps_1 rfl rfl rfl (AOp.fieldAddr' rfl (by decide) rfl ?_)
  refine aOps_1 rfl rfl rfl ?_
  refine AOp.load1 (b := ?b3) (v := ?v3) rfl rfl ?hn3 ?hv3 ?hR3
  (case hn3 => exact hpA)
  (case hv3 => rfl)
  refine aOps_1 rfl rfl rfl (AOp.len' rfl rfl ?_)
  refine aOps_1 rfl rfl rfl (AOp.convU64 rfl rfl (by omega) ?_)
  refine aOps_1 rfl rfl rfl ?_
  refine AOp.call' rfl rfl rfl (putVar 3 _ _ (k + 1) ([byteI op] ++ varB (uN col)) vals.length hpA (by omega) (by simp only [List.length_append, List.length_cons, List.length_nil]; omega)) ?_
  rintro _ _ k8 ⟨rfl, rfl, hk8⟩
  refine aOps_1 rfl rfl rfl (AOp.move' (.inr rfl) rfl ?_)
  rw [rd_upd2]
  refine aOps_end ?_
  show ACode _ _ _ _ _ _
  refine ACode.seq ?_
  refine ACode.seq ?_
  refine ACode.region' [0, 1, 2, 3] (by kernel_rfl) rfl ?_
  refine aOps_1 rfl rfl rfl (AOp.fieldAddr' rfl (by decide) rfl ?_)
  refine aOps_1 rfl rfl rfl ?_
  refine AOp.load1 (b := ?b4) (v := ?v4) rfl rfl ?hn4 ?hv4 ?hR4
  (case hn4 => exact hpA)
  (case hv4 => rfl)
  refine aOps_1 rfl rfl rfl (AOp.len' rfl rfl ?_)
  refine aOps_1 rfl rfl rfl (AOp.move' (.inl rfl) rfl ?_)
  refine aOps_end ?_
  show ACode _ _ _ _ _ _
  refine ACode.block ?_
  refine ACode.count (fun i => [(25, .int .i64 (i : Int)), (3, sl (k + 1) ([byteI op] ++ varB (uN col) ++ varB vals.length ++ (vals.take (i)).flatMap putB).length)]) [(1, _), (2, _), (23, _), (24, _)] (fun i => upd (upd H k (some (pblk op col (.slice A vals.length c) (.slice B of.length d)))) (k + 1) (some (gb ([byteI op] ++ varB (uN col) ++ varB vals.length ++ (vals.take (i)).flatMap putB)))) (vals.length) (fun _ => True) (.cons rfl (.cons (show _ = some (sl (k + 1) _) by rw [List.take_zero, List.flatMap_nil, List.append_nil]; rfl) .nil)) (.cons rfl (.cons rfl (.cons rfl (.cons rfl .nil)))) (by rw [List.take_zero, List.flatMap_nil, List.append_nil]; exact sub_refl _) trivial (fun i0 kL0 HL0 hiL0 hkL0 hsL0 hfL0 hxL0 => ?_)
  show ACode _ _ _ _ _ ⟨_, _, _⟩
  have tsL0 := SubS.of hsL0
  refine ACode.seq ?_
  refine ACode.region' [0] (by kernel_rfl) rfl ?_
  refine aOps_1 rfl rfl rfl (AOp.bin' rfl rfl rfl rfl ?_)
  refine aOps_end ?_
  show ACode _ _ _ _ _ _
  refine ACode.seq ?_
  refine ACode.cond rfl (fun c0 => ?_) (fun c0 => ?_)
  · try simp only [decide_eq_true_eq, decide_eq_false_iff_not, beq_iff_eq, beq_eq_false_iff_ne, ne_eq, bne_iff_ne, Bool.not_eq_true', Bool.not_eq_false', Int.not_lt, Int.not_le, gt_iff_lt, ge_iff_le, bne_eq_false_iff_eq, Bool.not_eq_eq_eq_not, Bool.not_true, Bool.not_false] at c0
    refine ACode.skip ?_
    show ACode _ _ _ _ _ _
    refine ACode.seq ?_
    refine ACode.block ?_
    refine ACode.seq ?_
    have hm0 : vals.getD i0 V0_ ∈ vals := getD_mem (by omega)
    have hft := flat_take_le putB vals i0
    have htk := take_snoc V0_ (l := vals) (i := i0) (by omega)
    obtain ⟨n5_0, o5_0, s5_0, hq5_0, hp5_0⟩ := slcElG (fun a => (vv a).cells.toList) V0_ hA (fun _ => rfl) (by decide) (show i0 < vals.length by omega)
    refine ACode.region' [0, 1, 2, 3] (by kernel_rfl) rfl ?_
    refine aOps_1 rfl rfl rfl (AOp.indexP (aslcAt_sub subA hq5_0) rfl rfl rfl ?_)
    refine aOps_1 rfl rfl rfl (AOp.loadPA (v := vv (vals.getD i0 V0_)) (hp5_0.sub subA) rfl rfl rfl rfl (by first | rfl | (simp; done)) (by decide) ?_)
    refine aOps_1 rfl rfl rfl (AOp.alloc' rfl ?_)
    refine aOps_0 rfl rfl rfl ?_
    refine AOp.storeAll (b := ?b5) rfl rfl rfl ?hn5 ?hk5 rfl ?hw5 ?ho5 ?hl5 ?hR5
    (case hn5 => exact hpA)
    (case hk5 => rfl)
    (case hw5 => first | rfl | (simp; done))
    (case ho5 => first | rfl | decide | (simp; done))
    (case hl5 => first | rfl | (simp; done))
    try rw [rd_upd2]
    refine aOps_end ?_
    show ACode _ _ _ _ _ _
    refine ACode.region' [0, 1, 2, 3] (by kernel_rfl) rfl ?_
    refine aOps_1 rfl rfl rfl (AOp.move' (.inl rfl) rfl ?_)
    refine aOps_1 rfl rfl rfl ?_
    refine AOp.loadAll (b := ?b6) (v := vv (vals.getD i0 V0_)) rfl rfl ?hn6 ?hv6 ?hw6 ?hz6 ?hR6
    (case hn6 => exact hpA)
    (case hv6 => rfl)
    (case hw6 => rfl)
    (case hz6 => first | rfl | (simp; done))
    refine aOps_1 rfl rfl rfl ?_
    refine AOp.call' rfl rfl rfl (put_val 3 _ _ (k + 1) ([byteI op] ++ varB (uN col) ++ varB vals.length ++ (vals.take (i0)).flatMap putB) (vals.getD i0 V0_) (hok _ hm0) (by have := sum_mem hm0; omega) hpA (by simp only [List.length_append, List.length_cons, List.length_nil]; omega)) ?_
    rintro _ _ k9 ⟨rfl, rfl, hk9⟩
    refine aOps_1 rfl rfl rfl (AOp.move' (.inr rfl) rfl ?_)
    refine aOps_end ?_
    show ACode _ _ _ _ _ _
    refine ACode.region' [0, 1] (by kernel_rfl) rfl ?_
    refine aOps_1 rfl rfl rfl (AOp.add rfl rfl rfl (i64_wrap (by omega) (by omega)) ?_)
    refine aOps_1 rfl rfl rfl (AOp.move' (.inl rfl) rfl ?_)
    refine aOps_end ?_
    have e5 : ([byteI op] ++ varB (uN col) ++ varB vals.length ++ (vals.take (i0 + 1)).flatMap putB) = ([byteI op] ++ varB (uN col) ++ varB vals.length ++ (vals.take (i0)).flatMap putB) ++ putB (vals.getD i0 V0_) := by rw [htk, List.flatMap_append]; simp
    first | refine thenA_n ?_ | simp only [thenA, blockA, if_true]
    exact NextR.mk (by omega) (by omega) (.cons rfl (.cons (show _ = some (sl (k + 1) _) by rw [e5]; rfl) .nil)) (.cons rfl (.cons rfl (.cons rfl (.cons rfl .nil)))) (by exact sub_over_eq (y := some (gb ([byteI op] ++ varB (uN col) ++ varB vals.length ++ (vals.take (i0)).flatMap putB))) subA (by rw [e5])) trivial
  · try simp only [decide_eq_true_eq, decide_eq_false_iff_not, beq_iff_eq, beq_eq_false_iff_ne, ne_eq, bne_iff_ne, Bool.not_eq_true', Bool.not_eq_false', Int.not_lt, Int.not_le, gt_iff_lt, ge_iff_le, bne_eq_false_iff_eq, Bool.not_eq_eq_eq_not, Bool.not_true, Bool.not_false] at c0
    refine ACode.exit ?_
    show ACode _ _ _ _ _ _
    refine ACode.seq ?_
    rw [show (vals.take i0).flatMap putB = vals.flatMap putB by rw [List.take_of_length_le (by omega)]]
    have hsL0 : Ab.Sub (upd (upd H k (some (pblk op col (.slice A vals.length c) (.slice B of.length d)))) (k + 1) (some (gb ([byteI op] ++ varB (uN col) ++ varB vals.length ++ vals.flatMap putB)))) HL0 := by rw [show (vals.take i0).flatMap putB = vals.flatMap putB by rw [List.take_of_length_le (by omega)]] at hsL0; exact hsL0
    have tsL0 := SubS.of hsL0
    refine ACode.region' [0, 1, 2, 3, 4, 5, 6] (by kernel_rfl) rfl ?_
    refine aOps_1 rfl rfl rfl (AOp.move' (.inl rfl) rfl ?_)
    refine aOps_1 rfl rfl rfl (AOp.fieldAddr' rfl (by decide) rfl ?_)
    refine aOps_1 rfl rfl rfl ?_
    refine AOp.load1 (b := ?b7) (v := ?v7) rfl rfl ?hn7 ?hv7 ?hR7
    (case hn7 => exact hpA)
    (case hv7 => rfl)
    refine aOps_1 rfl rfl rfl (AOp.len' rfl rfl ?_)
    refine aOps_1 rfl rfl rfl (AOp.convU64 rfl rfl (by omega) ?_)
    refine aOps_1 rfl rfl rfl ?_
    refine AOp.call' rfl rfl rfl (putVar 3 _ _ (k + 1) ([byteI op] ++ varB (uN col) ++ varB vals.length ++ vals.flatMap putB) of.length hpA (by omega) (by simp only [List.length_append, List.length_cons, List.length_nil]; omega)) ?_
    rintro _ _ k10 ⟨rfl, rfl, hk10⟩
    refine aOps_1 rfl rfl rfl (AOp.move' (.inr rfl) rfl ?_)
    refine aOps_end ?_
    show ACode _ _ _ _ _ _
    refine ACode.seq ?_
    refine ACode.seq ?_
    refine ACode.region' [0, 1, 2, 3] (by kernel_rfl) rfl ?_
    refine aOps_1 rfl rfl rfl (AOp.fieldAddr' rfl (by decide) rfl ?_)
    refine aOps_1 rfl rfl rfl ?_
    refine AOp.load1 (b := ?b8) (v := ?v8) rfl rfl ?hn8 ?hv8 ?hR8
    (case hn8 => exact hpA)
    (case hv8 => rfl)
    refine aOps_1 rfl rfl rfl (AOp.len' rfl rfl ?_)
    refine aOps_1 rfl rfl rfl (AOp.move' (.inl rfl) rfl ?_)
    refine aOps_end ?_
    show ACode _ _ _ _ _ _
    refine ACode.block ?_
    refine ACode.countG (γ := Hp) (fun i g => [(42, .int .i64 (i : Int)), (3, sl (k + 1) ([byteI op] ++ varB (uN col) ++ varB vals.length ++ vals.flatMap putB ++ varB of.length ++ putPs (of.take (i))).length)]) [(1, _), (2, _), (23, _), (24, _), (25, _), (26, _), (33, _), (34, _), (35, _), (36, _), (37, _), (38, _), (39, _), (40, _), (41, _)] (fun i g => g) (of.length) (fun i g => g (k + 1) = some (gb ([byteI op] ++ varB (uN col) ++ varB vals.length ++ vals.flatMap putB ++ varB of.length ++ putPs (of.take (i)))) ∧ g k = some (pblk op col (.slice A vals.length c) (.slice B of.length d)) ∧ Ab.Sub H g) ((upd HL0 (k + 1) (some (gb ([byteI op] ++ varB (uN col) ++ varB vals.length ++ vals.flatMap putB ++ varB of.length))))) (.cons rfl (.cons (show _ = some (sl (k + 1) _) by rw [List.take_zero, putPs, List.append_nil]; rfl) .nil)) (.cons rfl (.cons rfl (.cons rfl (.cons rfl (.cons rfl (.cons rfl (.cons rfl (.cons rfl (.cons rfl (.cons rfl (.cons rfl (.cons rfl (.cons rfl (.cons rfl (.cons rfl .nil))))))))))))))) (by exact sub_refl _) ⟨by rw [List.take_zero, putPs, List.append_nil]; exact upd_same _ _ _, (upd_other _ _ (by omega)).trans (hsL0 _ _ ((upd_other _ _ (by omega)).trans (upd_same _ _ _))), sub_new (sub_trans (sub_new (sub_new (sub_refl H) hHk) hHk1) hsL0) hHk1⟩ (fun i1 g1 kL1 HL1 hiL1 hkL1 hsL1 hfL1 hxL1 => ?_)
    show ACode _ _ _ _ _ ⟨_, _, _⟩
    have tsL1 := SubS.of hsL1
    obtain ⟨x1, x2, x3⟩ := hxL1
    have hd1 := hsL1 _ _ x1
    have hb1 := hsL1 _ _ x2
    have hS1 : Ab.Sub H HL1 := sub_trans x3 hsL1
    refine ACode.seq ?_
    refine ACode.region' [0] (by kernel_rfl) rfl ?_
    refine aOps_1 rfl rfl rfl (AOp.bin' rfl rfl rfl rfl ?_)
    refine aOps_end ?_
    show ACode _ _ _ _ _ _
    refine ACode.seq ?_
    refine ACode.cond rfl (fun c1 => ?_) (fun c1 => ?_)
    · try simp only [decide_eq_true_eq, decide_eq_false_iff_not, beq_iff_eq, beq_eq_false_iff_ne, ne_eq, bne_iff_ne, Bool.not_eq_true', Bool.not_eq_false', Int.not_lt, Int.not_le, gt_iff_lt, ge_iff_le, bne_eq_false_iff_eq, Bool.not_eq_eq_eq_not, Bool.not_true, Bool.not_false] at c1
      refine ACode.skip ?_
      show ACode _ _ _ _ _ _
      refine ACode.seq ?_
      refine ACode.block ?_
      refine ACode.seq ?_
      obtain ⟨nE, oE, sE, vE, hqE, hpE, hvE⟩ := PdVs.el pD hB hPs (show i1 < of.length by omega)
      obtain ⟨gE1, gE2⟩ := hvE.agg
      obtain ⟨xo, xc, xA, xl, xcc, xB, xm, xd, rfl⟩ := hvE.form
      have hpm := putP_mem (pd_getD (ps := of) (i := i1) (by omega))
      have hpt := putPs_take_le of i1
      refine ACode.region' [0, 1, 2, 3] (by kernel_rfl) rfl ?_
      refine aOps_1 rfl rfl rfl (AOp.indexP (aslcAt_sub hS1 hqE) rfl rfl rfl ?_)
      refine aOps_1 rfl rfl rfl (AOp.loadPA (v := pv xo xc xA xl xcc xB xm xd) (hpE.sub hS1) rfl rfl rfl gE1 gE2 (by decide) ?_)
      refine aOps_1 rfl rfl rfl (AOp.alloc' rfl ?_)
      refine aOps_0 rfl rfl rfl ?_
      refine AOp.storeAll (b := ?b9) rfl rfl rfl ?hn9 ?hk9 rfl ?hw9 ?ho9 ?hl9 ?hR9
      (case hn9 => exact hpA)
      (case hk9 => rfl)
      (case hw9 => first | rfl | (simp; done))
      (case ho9 => first | rfl | decide | (simp; done))
      (case hl9 => first | rfl | (simp; done))
      try rw [rd_upd2]
      refine aOps_end ?_
      show ACode _ _ _ _ _ _
      refine ACode.region' [0, 1, 2, 3, 4] (by kernel_rfl) rfl ?_
      refine aOps_1 rfl rfl rfl (AOp.move' (.inl rfl) rfl ?_)
      refine aOps_1 rfl rfl rfl ?_
      refine AOp.loadAll (b := ?b10) (v := pv xo xc xA xl xcc xB xm xd) rfl rfl ?hn10 ?hv10 ?hw10 ?hz10 ?hR10
      (case hn10 => exact hpA)
      (case hv10 => rfl)
      (case hw10 => rfl)
      (case hz10 => first | rfl | (simp; done))
      refine aOps_1 rfl rfl rfl ?_
      refine AOp.call' rfl rfl rfl (ih (of.getD i1 pD) (pv xo xc xA xl xcc xB xm xd) _ _ (hvE.sub (sub_trans hS1 subA)) ⟨tinys_mem ht.2.2 (pd_getD (by omega)), by omega, by have := szPs_mem (pd_getD (ps := of) (i := i1) (by omega)); omega⟩ (by have := Pd.lt (op := op) (col := col) (vals := vals) (pd_getD (ps := of) (i := i1) (by omega)); omega)) ?_
      rintro _ HLu ku ⟨q, rfl, hq1, hq2, hq3, hfLu, hsLu⟩
      have thsLu := SubS.of hsLu
      have hdu : HLu (k + 1) = some (gb ([byteI op] ++ varB (uN col) ++ varB vals.length ++ vals.flatMap putB ++ varB of.length ++ putPs (of.take (i1)))) := hpA
      have hbu : HLu k = some (pblk op col (.slice A vals.length c) (.slice B of.length d)) := hpA
      refine aOps_1 rfl rfl rfl (AOp.appendB (bs := ([byteI op] ++ varB (uN col) ++ varB vals.length ++ vals.flatMap putB ++ varB of.length ++ putPs (of.take (i1)))) (ps := putP (of.getD i1 pD)) rfl rfl rfl hpA (srcOf_gb (e := 5) hpA) srcOk_sl (by simp only [List.length_append, List.length_cons, List.length_nil]; omega) (by simp only [List.length_append, List.length_cons, List.length_nil]; omega) ?_)
      refine aOps_1 rfl rfl rfl (AOp.move' (.inr rfl) rfl ?_)
      refine aOps_end ?_
      show ACode _ _ _ _ _ _
      refine ACode.region' [0, 1] (by kernel_rfl) rfl ?_
      refine aOps_1 rfl rfl rfl (AOp.add rfl rfl rfl (i64_wrap (by omega) (by omega)) ?_)
      refine aOps_1 rfl rfl rfl (AOp.move' (.inl rfl) rfl ?_)
      refine aOps_end ?_
      have e6 : ([byteI op] ++ varB (uN col) ++ varB vals.length ++ vals.flatMap putB ++ varB of.length ++ putPs (of.take (i1 + 1))) = ([byteI op] ++ varB (uN col) ++ varB vals.length ++ vals.flatMap putB ++ varB of.length ++ putPs (of.take (i1))) ++ putP (of.getD i1 pD) := by rw [take_snoc pD (by omega), putPs_snoc]; simp
      first | refine thenA_n ?_ | simp only [thenA, blockA, if_true]
      exact NextG.mk (by omega) (by omega) ((upd HLu (k + 1) (some (gb (([byteI op] ++ varB (uN col) ++ varB vals.length ++ vals.flatMap putB ++ varB of.length ++ putPs (of.take (i1))) ++ putP (of.getD i1 pD)))))) (.cons rfl (.cons (show _ = some (sl (k + 1) _) by rw [e6]; rfl) .nil)) (.cons rfl (.cons rfl (.cons rfl (.cons rfl (.cons rfl (.cons rfl (.cons rfl (.cons rfl (.cons rfl (.cons rfl (.cons rfl (.cons rfl (.cons rfl (.cons rfl (.cons rfl .nil))))))))))))))) (by exact sub_refl _) ⟨by rw [e6]; exact upd_same _ _ _, (upd_other _ _ (by omega)).trans hbu, sub_new (sub_trans hS1 subA) hHk1⟩
    · try simp only [decide_eq_true_eq, decide_eq_false_iff_not, beq_iff_eq, beq_eq_false_iff_ne, ne_eq, bne_iff_ne, Bool.not_eq_true', Bool.not_eq_false', Int.not_lt, Int.not_le, gt_iff_lt, ge_iff_le, bne_eq_false_iff_eq, Bool.not_eq_eq_eq_not, Bool.not_true, Bool.not_false] at c1
      refine ACode.exit ?_
      show ACode _ _ _ _ _ _
      refine ACode.seq ?_
      refine ACode.region' [0, 1] (by kernel_rfl) rfl ?_
      refine aOps_1 rfl rfl rfl (AOp.move' (.inl rfl) rfl ?_)
      refine aOps_1 rfl rfl rfl (AOp.move' (.inr rfl) rfl ?_)
      refine aOps_end ?_
      show ACode _ _ _ _ _ _
      refine ACode.ret ?_
      try simp only [thenA, blockA, if_true]
      have e7 : ([byteI op] ++ varB (uN col) ++ varB vals.length ++ vals.flatMap putB ++ varB of.length ++ putPs (of.take (i1))) = putP (.mk op col vals of) := by rw [List.take_of_length_le (by omega), putP]; simp
      have hd2 : HL1 (k + 1) = some (gb (putP (.mk op col vals of))) := by rw [← e7]; exact hd1
      exact RetQ.one rfl rfl (sub_refl _) (fun m b h => ⟨b, hS1 m b h⟩) (fun hk => ⟨k + 1, by rw [e7], by omega, by omega, hd2, (fun m hm => hfL1 m (by omega)), hS1⟩)

end

end Go.Proofs.YteoofihjmldllaaDoor
