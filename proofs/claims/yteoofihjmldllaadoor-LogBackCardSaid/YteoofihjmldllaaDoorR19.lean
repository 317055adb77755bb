/- Contracts over the abstract states: forms of predicates; what the document finds wrong with one. -/
import Derived.Test.YteoofihjmldllaaDoorR18
import Derived.Test.YteoofihjmldllaaDoorZ2
set_option linter.unusedVariables false
set_option linter.unusedSimpArgs false
set_option maxRecDepth 100000
namespace Go.Proofs.YteoofihjmldllaaDoor
open Go Go.Ab

theorem putPs_take_le (ps : List Pd) (i : Nat) : (putPs (ps.take i)).length ≤ (putPs ps).length := by rw [putPs_flat, putPs_flat]; exact flat_take_le putP ps i
theorem putP_mem : ∀ {ps : List Pd} {p : Pd}, p ∈ ps → (putP p).length ≤ (putPs ps).length
  | q :: ps, p, h => by
    rw [putPs, List.length_append]
    rcases List.mem_cons.1 h with rfl | h
    · omega
    · have := putP_mem h
      omega
theorem sum_mem : ∀ {vals : List Val} {v : Val}, v ∈ vals → v.s.size ≤ (vals.map fun v => 1 + v.s.size).sum
  | u :: us, v, h => by
    rw [List.map_cons, List.sum_cons]
    rcases List.mem_cons.1 h with rfl | h
    · omega
    · have := sum_mem h
      omega
theorem putP_len (op col : Int) (vals : List Val) (of : List Pd) : (putP (.mk op col vals of)).length = 1 + (varB (uN col)).length + (varB vals.length).length + (vals.flatMap putB).length + (varB of.length).length + (putPs of).length := by
  rw [putP]
  simp only [List.length_cons, List.length_append]
  omega
theorem rerr_ok {k : Int} {v : Val} (h1 : (v.kind == 0 || !right v k) = false) (h2 : ¬ (v.s.size : Int) > 65536) : rerrV k v = 0 := by
  unfold rerrV
  rw [h1, if_neg (by decide), if_neg h2]
section
variable (H : Hp) (k : Nat)

theorem put_p : ∀ (N : Nat) (p : Pd) (v : Value) (H : Hp) (k : Nat), PdV H p v → p.tiny ∧ (putP p).length ≤ 100000 ∧ szP p ≤ 1000 → SizeOf.sizeOf p < N → ACalls Tryd.prog 3 67 [v] H k (fun r H' k' => ∃ q, r = sl q (putP p).length ∧ k ≤ q ∧ q < k' ∧ H' q = some (gb (putP p)) ∧ (∀ m, k' ≤ m → H' m = none) ∧ Ab.Sub H H') := by
  intro N
  induction N
  case zero => intro p v H k hv ht hN; exact absurd hN (Nat.not_lt_zero _)
  rename_i N ih
  intro p v H k hv ht hN
  cases p
  rename_i op col vals of
  rw [PdV] at hv
  obtain ⟨A, c, B, d, bs, rfl, hA, hvl, hol, hop, hcl, hok, hB, hPs⟩ := hv
  obtain ⟨ht, hpl, hsz⟩ := ht
  rw [szP] at hsz
  rw [Pd.tiny] at ht
  have hpe := putP_len op col vals of
  rw [hpe] at hpl
  refine ACalls.fresh fun hf => ?_
  refine ACalls.body Tryd.func67 rfl (Nat.le_of_ble_eq_true rfl) ?_
  have hHk := hf k (Nat.le_refl k)
  have hHk1 := hf (k + 1) (Nat.le_succ k)
  refine ACode.seq ?_
  refine ACode.region' [0, 1] (by kernel_rfl) rfl ?_
  refine aOps_1 rfl rfl rfl (AOp.boxV rfl rfl ?_)
  refine aOps_1 rfl rfl rfl (AOp.move' (.inr rfl) rfl ?_)
  refine aOps_end ?_
  show ACode _ _ _ _ _ _
  refine ACode.seq ?_
  refine ACode.region' [0, 1, 2, 3, 4, 5, 6, 7, 8] (by kernel_rfl) rfl ?_
  refine aOps_1 rfl rfl rfl (AOp.fieldAddr' rfl (by decide) rfl ?_)
  refine aOps_1 rfl rfl rfl ?_
  refine AOp.load1 (b := ?b1) (v := ?v1) rfl rfl ?hn1 ?hv1 ?hR1
  (case hn1 => exact hpA)
  (case hv1 => rfl)
  refine aOps_1 rfl rfl rfl (AOp.toU8 rfl rfl ?_)
  refine aOps_1 rfl rfl rfl (AOp.buildB [byteI op] rfl (by decide) rfl rfl ?_)
  refine aOps_1 rfl rfl rfl (AOp.fieldAddr' rfl (by decide) rfl ?_)
  refine aOps_1 rfl rfl rfl ?_
  refine AOp.load1 (b := ?b2) (v := ?v2) rfl rfl ?hn2 ?hv2 ?hR2
  (case hn2 => exact hpA)
  (case hv2 => rfl)
  refine aOps_1 rfl rfl rfl (AOp.convInt rfl rfl ?_)
  rw [uN_cast col]
  refine aOps_1 rfl rfl rfl ?_
  refine AOp.call' rfl rfl rfl (putVar 3 _ _ (k + 1) [byteI op] (uN col) hpA (uN_lt col) (by show 1 ≤ 1099511627776; decide)) ?_
  rintro _ _ k7 ⟨rfl, rfl, hk7⟩
  refine aOps_1 rfl rfl rfl (AOp.move' (.inr rfl) rfl ?_)
  rw [rd_upd2]
  refine aOps_end ?_
  show ACode _ _ _ _ _ _
  refine ACode.seq ?_
  refine ACode.region' [0, 1, 2, 3, 4, 5, 6] (by kernel_rfl) rfl ?_
  refine aOps_1 rfl rfl rfl (AOp.move' (.inl rfl) rfl ?_)
  refine aOps_1 rfl rfl rfl (AOp.fieldAddr' rfl (by decide) rfl ?_)
  refine aOps_1 rfl rfl rfl ?_
  refine AOp.load1 (b := ?b3) (v := ?v3) rfl rfl ?hn3 ?hv3 ?hR3
  (case hn3 => exact hpA)
  (case hv3 => rfl)
  refine aOps_1 rfl rfl rfl (AOp.len' rfl rfl ?_)
  refine aOps_1 rfl rfl rfl (AOp.convU64 rfl rfl (by omega) ?_)
  refine aOps_1 rfl rfl rfl ?_
  refine AOp.call' rfl rfl rfl (putVar 3 _ _ (k + 1) ([byteI op] ++ varB (uN col)) vals.length hpA (by omega) (by simp only [List.length_append, List.length_cons, List.length_nil]; omega)) ?_
  rintro _ _ k8 ⟨rfl, rfl, hk8⟩
  refine aOps_1 rfl rfl rfl (AOp.move' (.inr rfl) rfl ?_)
  rw [rd_upd2]
  refine aOps_end ?_
  show ACode _ _ _ _ _ _
  refine ACode.seq ?_
  refine ACode.seq ?_
  refine ACode.region' [0, 1, 2, 3] (by kernel_rfl) rfl ?_
  refine aOps_1 rfl rfl rfl (AOp.fieldAddr' rfl (by decide) rfl ?_)
  refine aOps_1 rfl rfl rfl ?_
  refine AOp.load1 (b := ?b4) (v := ?v4) rfl rfl ?hn4 ?hv4 ?hR4
  (case hn4 => exact hpA)
  (case hv4 => rfl)
  refine aOps_1 rfl rfl rfl (AOp.len' rfl rfl ?_)
  refine aOps_1 rfl rfl rfl (AOp.move' (.inl rfl) rfl ?_)
  refine aOps_end ?_
  show ACode _ _ _ _ _ _
  refine ACode.block ?_
  refine ACode.count (fun i => [(25, .int .i64 (i : Int)), (3, sl (k + 1) ([byteI op] ++ varB (uN col) ++ varB vals.length ++ (vals.take (i)).flatMap putB).length)]) [(1, _), (2, _), (23, _), (24, _)] (fun i => upd (upd H k (some (pblk op col (.slice A vals.length c) (.slice B of.length d)))) (k + 1) (some (gb ([byteI op] ++ varB (uN col) ++ varB vals.length ++ (vals.take (i)).flatMap putB)))) (vals.length) (fun _ => True) (.cons rfl (.cons (show _ = some (sl (k + 1) _) by rw [List.take_zero, List.flatMap_nil, List.append_nil]; rfl) .nil)) (.cons rfl (.cons rfl (.cons rfl (.cons rfl .nil)))) (by rw [List.take_zero, List.flatMap_nil, List.append_nil]; exact sub_refl _) trivial (fun i0 kL0 HL0 hiL0 hkL0 hsL0 hfL0 hxL0 => ?_)
  show ACode _ _ _ _ _ ⟨_, _, _⟩
  have tsL0 := SubS.of hsL0
  refine ACode.seq ?_
  refine ACode.region' [0] (by kernel_rfl) rfl ?_
  refine aOps_1 rfl rfl rfl (AOp.bin' rfl rfl rfl rfl ?_)
  refine aOps_end ?_
  show ACode _ _ _ _ _ _
  refine ACode.seq ?_
  refine ACode.cond rfl (fun c0 => ?_) (fun c0 => ?_)
  · try simp only [decide_eq_true_eq, decide_eq_false_iff_not, beq_iff_eq, beq_eq_false_iff_ne, ne_eq, bne_iff_ne, Bool.not_eq_true', Bool.not_eq_false', Int.not_lt, Int.not_le, gt_iff_lt, ge_iff_le, bne_eq_false_iff_eq, Bool.not_eq_eq_eq_not, Bool.not_true, Bool.not_false] at c0
    refine ACode.skip ?_
    show ACode _ _ _ _ _ _
    refine ACode.seq ?_
    refine ACode.block ?_
    refine ACode.seq ?_
    have hm0 : vals.getD i0 V0_ ∈ vals := getD_mem (by omega)
    have hft := flat_take_le putB vals i0
    have htk := take_snoc V0_ (l := vals) (i := i0) (by omega)
    obtain ⟨n5_0, o5_0, s5_0, hq5_0, hp5_0⟩ := slcElG (fun a => (vv a).cells.toList) V0_ hA (fun _ => rfl) (by decide) (show i0 < vals.length by omega)
    refine ACode.region' [0, 1, 2, 3] (by kernel_rfl) rfl ?_
    refine aOps_1 rfl rfl rfl (AOp.indexP (aslcAt_sub subA hq5_0) rfl rfl rfl ?_)
    refine aOps_1 rfl rfl rfl (AOp.loadPA (v := vv (vals.getD i0 V0_)) (hp5_0.sub subA) rfl rfl rfl rfl (by first | rfl | (simp; done)) (by decide) ?_)
    refine aOps_1 rfl rfl rfl (AOp.alloc' rfl ?_)
    refine aOps_0 rfl rfl rfl ?_
    refine AOp.storeAll (b := ?b5) rfl rfl rfl ?hn5 ?hk5 rfl ?hw5 ?ho5 ?hl5 ?hR5
    (case hn5 => exact hpA)
    (case hk5 => rfl)
    (case hw5 => first | rfl | (simp; done))
    (case ho5 => first | rfl | decide | (simp; done))
    (case hl5 => first | rfl | (simp; done))
    try rw [rd_upd2]
    refine aOps_end ?_
    show ACode _ _ _ _ _ _
    refine ACode.region' [0, 1, 2, 3] (by kernel_rfl) rfl ?_
    refine aOps_1 rfl rfl rfl (AOp.move' (.inl rfl) rfl ?_)
    refine aOps_1 rfl rfl rfl ?_
    refine AOp.loadAll (b := ?b6) (v := vv (vals.getD i0 V0_)) rfl rfl ?hn6 ?hv6 ?hw6 ?hz6 ?hR6
    (case hn6 => exact hpA)
    (case hv6 => rfl)
    (case hw6 => rfl)
    (case hz6 => first | rfl | (simp; done))
    refine aOps_1 rfl rfl rfl ?_
    refine AOp.call' rfl rfl rfl (put_val 3 _ _ (k + 1) ([byteI op] ++ varB (uN col) ++ varB vals.length ++ (vals.take (i0)).flatMap putB) (vals.getD i0 V0_) (hok _ hm0) (by have := sum_mem hm0; omega) hpA (by simp only [List.length_append, List.length_cons, List.length_nil]; omega)) ?_
    rintro _ _ k9 ⟨rfl, rfl, hk9⟩
    refine aOps_1 rfl rfl rfl (AOp.move' (.inr rfl) rfl ?_)
    refine aOps_end ?_
    show ACode _ _ _ _ _ _
    refine ACode.region' [0, 1] (by kernel_rfl) rfl ?_
    refine aOps_1 rfl rfl rfl (AOp.add rfl rfl rfl (i64_wrap (by omega) (by omega)) ?_)
    refine aOps_1 rfl rfl rfl (AOp.move' (.inl rfl) rfl ?_)
    refine aOps_end ?_
    have e5 : ([byteI op] ++ varB (uN col) ++ varB vals.length ++ (vals.take (i0 + 1)).flatMap putB) = ([byteI op] ++ varB (uN col) ++ varB vals.length ++ (vals.take (i0)).flatMap putB) ++ putB (vals.getD i0 V0_) := by rw [htk, List.flatMap_append]; simp
    first | refine thenA_n ?_ | simp only [thenA, blockA, if_true]
    exact NextR.mk (by omega) (by omega) (.cons rfl (.cons (show _ = some (sl (k + 1) _) by rw [e5]; rfl) .nil)) (.cons rfl (.cons rfl (.cons rfl (.cons rfl .nil)))) (by exact sub_over_eq (y := some (gb ([byteI op] ++ varB (uN col) ++ varB vals.length ++ (vals.take (i0)).flatMap putB))) subA (by rw [e5])) trivial
  · try simp only [decide_eq_true_eq, decide_eq_false_iff_not, beq_iff_eq, beq_eq_false_iff_ne, ne_eq, bne_iff_ne, Bool.not_eq_true', Bool.not_eq_false', Int.not_lt, Int.not_le, gt_iff_lt, ge_iff_le, bne_eq_false_iff_eq, Bool.not_eq_eq_eq_not, Bool.not_true, Bool.not_false] at c0
    refine ACode.exit ?_
    show ACode _ _ _ _ _ _
    refine ACode.seq ?_
    rw [show (vals.take i0).flatMap putB = vals.flatMap putB by rw [List.take_of_length_le (by omega)]]
    have hsL0 : Ab.Sub (upd (upd H k (some (pblk op col (.slice A vals.length c) (.slice B of.length d)))) (k + 1) (some (gb ([byteI op] ++ varB (uN col) ++ varB vals.length ++ vals.flatMap putB)))) HL0 := by rw [show (vals.take i0).flatMap putB = vals.flatMap putB by rw [List.take_of_length_le (by omega)]] at hsL0; exact hsL0
    have tsL0 := SubS.of hsL0
    refine ACode.region' [0, 1, 2, 3, 4, 5, 6] (by kernel_rfl) rfl ?_
    refine aOps_1 rfl rfl rfl (AOp.move' (.inl rfl) rfl ?_)
    refine aOps_1 rfl rfl rfl (AOp.fieldAddr' rfl (by decide) rfl ?_)
    refine aOps_1 rfl rfl rfl ?_
    refine AOp.load1 (b := ?b7) (v := ?v7) rfl rfl ?hn7 ?hv7 ?hR7
    (case hn7 => exact hpA)
    (case hv7 => rfl)
    refine aOps_1 rfl rfl rfl (AOp.len' rfl rfl ?_)
    refine aOps_1 rfl rfl rfl (AOp.convU64 rfl rfl (by omega) ?_)
    refine aOps_1 rfl rfl rfl ?_
    refine AOp.call' rfl rfl rfl (putVar 3 _ _ (k + 1) ([byteI op] ++ varB (uN col) ++ varB vals.length ++ vals.flatMap putB) of.length hpA (by omega) (by simp only [List.length_append, List.length_cons, List.length_nil]; omega)) ?_
    rintro _ _ k10 ⟨rfl, rfl, hk10⟩
    refine aOps_1 rfl rfl rfl (AOp.move' (.inr rfl) rfl ?_)
    refine aOps_end ?_
    show ACode _ _ _ _ _ _
    refine ACode.seq ?_
    refine ACode.seq ?_
    refine ACode.region' [0, 1, 2, 3] (by kernel_rfl) rfl ?_
    refine aOps_1 rfl rfl rfl (AOp.fieldAddr' rfl (by decide) rfl ?_)
    refine aOps_1 rfl rfl rfl ?_
    refine AOp.load1 (b := ?b8) (v := ?v8) rfl rfl ?hn8 ?hv8 ?hR8
    (case hn8 => exact hpA)
    (case hv8 => rfl)
    refine aOps_1 rfl rfl rfl (AOp.len' rfl rfl ?_)
    refine aOps_1 rfl rfl rfl (AOp.move' (.inl rfl) rfl ?_)
    refine aOps_end ?_
    show ACode _ _ _ _ _ _
    refine ACode.block ?_
    refine ACode.countG (γ := Hp) (fun i g => [(42, .int .i64 (i : Int)), (3, sl (k + 1) ([byteI op] ++ varB (uN col) ++ varB vals.length ++ vals.flatMap putB ++ varB of.length ++ putPs (of.take (i))).length)]) [(1, _), (2, _), (23, _), (24, _), (25, _), (26, _), (33, _), (34, _), (35, _), (36, _), (37, _), (38, _), (39, _), (40, _), (41, _)] (fun i g => g) (of.length) (fun i g => g (k + 1) = some (gb ([byteI op] ++ varB (uN col) ++ varB vals.length ++ vals.flatMap putB ++ varB of.length ++ putPs (of.take (i)))) ∧ g k = some (pblk op col (.slice A vals.length c) (.slice B of.length d)) ∧ Ab.Sub H g) ((upd HL0 (k + 1) (some (gb ([byteI op] ++ varB (uN col) ++ varB vals.length ++ vals.flatMap putB ++ varB of.length))))) (.cons rfl (.cons (show _ = some (sl (k + 1) _) by rw [List.take_zero, putPs, List.append_nil]; rfl) .nil)) (.cons rfl (.cons rfl (.cons rfl (.cons rfl (.cons rfl (.cons rfl (.cons rfl (.cons rfl (.cons rfl (.cons rfl (.cons rfl (.cons rfl (.cons rfl (.cons rfl (.cons rfl .nil))))))))))))))) (by exact sub_refl _) ⟨by rw [List.take_zero, putPs, List.append_nil]; exact upd_same _ _ _, (upd_other _ _ (by omega)).trans (hsL0 _ _ ((upd_other _ _ (by omega)).trans (upd_same _ _ _))), sub_new (sub_trans (sub_new (sub_new (sub_refl H) hHk) hHk1) hsL0) hHk1⟩ (fun i1 g1 kL1 HL1 hiL1 hkL1 hsL1 hfL1 hxL1 => ?_)
    show ACode _ _ _ _ _ ⟨_, _, _⟩
    have tsL1 := SubS.of hsL1
    obtain ⟨x1, x2, x3⟩ := hxL1
    have hd1 := hsL1 _ _ x1
    have hb1 := hsL1 _ _ x2
    have hS1 : Ab.Sub H HL1 := sub_trans x3 hsL1
    refine ACode.seq ?_
    refine ACode.region' [0] (by kernel_rfl) rfl ?_
    refine aOps_1 rfl rfl rfl (AOp.bin' rfl rfl rfl rfl ?_)
    refine aOps_end ?_
    show ACode _ _ _ _ _ _
    refine ACode.seq ?_
    refine ACode.cond rfl (fun c1 => ?_) (fun c1 => ?_)
    · try simp only [decide_eq_true_eq, decide_eq_false_iff_not, beq_iff_eq, beq_eq_false_iff_ne, ne_eq, bne_iff_ne, Bool.not_eq_true', Bool.not_eq_false', Int.not_lt, Int.not_le, gt_iff_lt, ge_iff_le, bne_eq_false_iff_eq, Bool.not_eq_eq_eq_not, Bool.not_true, Bool.not_false] at c1
      refine ACode.skip ?_
      show ACode _ _ _ _ _ _
      refine ACode.seq ?_
      refine ACode.block ?_
      refine ACode.seq ?_
      obtain ⟨nE, oE, sE, vE, hqE, hpE, hvE⟩ := PdVs.el pD hB hPs (show i1 < of.length by omega)
      obtain ⟨gE1, gE2⟩ := hvE.agg
      obtain ⟨xo, xc, xA, xl, xcc, xB, xm, xd, rfl⟩ := hvE.form
      have hpm := putP_mem (pd_getD (ps := of) (i := i1) (by omega))
      have hpt := putPs_take_le of i1
      refine ACode.region' [0, 1, 2, 3] (by kernel_rfl) rfl ?_
      refine aOps_1 rfl rfl rfl (AOp.indexP (aslcAt_sub hS1 hqE) rfl rfl rfl ?_)
      refine aOps_1 rfl rfl rfl (AOp.loadPA (v := pv xo xc xA xl xcc xB xm xd) (hpE.sub hS1) rfl rfl rfl gE1 gE2 (by decide) ?_)
      refine aOps_1 rfl rfl rfl (AOp.alloc' rfl ?_)
      refine aOps_0 rfl rfl rfl ?_
      refine AOp.storeAll (b := ?b9) rfl rfl rfl ?hn9 ?hk9 rfl ?hw9 ?ho9 ?hl9 ?hR9
      (case hn9 => exact hpA)
      (case hk9 => rfl)
      (case hw9 => first | rfl | (simp; done))
      (case ho9 => first | rfl | decide | (simp; done))
      (case hl9 => first | rfl | (simp; done))
      try rw [rd_upd2]
      refine aOps_end ?_
      show ACode _ _ _ _ _ _
      refine ACode.region' [0, 1, 2, 3, 4] (by kernel_rfl) rfl ?_
      refine aOps_1 rfl rfl rfl (AOp.move' (.inl rfl) rfl ?_)
      refine aOps_1 rfl rfl rfl ?_
      refine AOp.loadAll (b := ?b10) (v := pv xo xc xA xl xcc xB xm xd) rfl rfl ?hn10 ?hv10 ?hw10 ?hz10 ?hR10
      (case hn10 => exact hpA)
      (case hv10 => rfl)
      (case hw10 => rfl)
      (case hz10 => first | rfl | (simp; done))
      refine aOps_1 rfl rfl rfl ?_
      refine AOp.call' rfl rfl rfl (ih (of.getD i1 pD) (pv xo xc xA xl xcc xB xm xd) _ _ (hvE.sub (sub_trans hS1 subA)) ⟨tinys_mem ht.2.2 (pd_getD (by omega)), by omega, by have := szPs_mem (pd_getD (ps := of) (i := i1) (by omega)); omega⟩ (by have := Pd.lt (op := op) (col := col) (vals := vals) (pd_getD (ps := of) (i := i1) (by omega)); omega)) ?_
      rintro _ HLu ku ⟨q, rfl, hq1, hq2, hq3, hfLu, hsLu⟩
      have thsLu := SubS.of hsLu
      have hdu : HLu (k + 1) = some (gb ([byteI op] ++ varB (uN col) ++ varB vals.length ++ vals.flatMap putB ++ varB of.length ++ putPs (of.take (i1)))) := hpA
      have hbu : HLu k = some (pblk op col (.slice A vals.length c) (.slice B of.length d)) := hpA
      refine aOps_1 rfl rfl rfl (AOp.appendB (bs := ([byteI op] ++ varB (uN col) ++ varB vals.length ++ vals.flatMap putB ++ varB of.length ++ putPs (of.take (i1)))) (ps := putP (of.getD i1 pD)) rfl rfl rfl hpA (srcOf_gb (e := 5) hpA) srcOk_sl (by simp only [List.length_append, List.length_cons, List.length_nil]; omega) (by simp only [List.length_append, List.length_cons, List.length_nil]; omega) ?_)
      refine aOps_1 rfl rfl rfl (AOp.move' (.inr rfl) rfl ?_)
      refine aOps_end ?_
      show ACode _ _ _ _ _ _
      refine ACode.region' [0, 1] (by kernel_rfl) rfl ?_
      refine aOps_1 rfl rfl rfl (AOp.add rfl rfl rfl (i64_wrap (by omega) (by omega)) ?_)
      refine aOps_1 rfl rfl rfl (AOp.move' (.inl rfl) rfl ?_)
      refine aOps_end ?_
      have e6 : ([byteI op] ++ varB (uN col) ++ varB vals.length ++ vals.flatMap putB ++ varB of.length ++ putPs (of.take (i1 + 1))) = ([byteI op] ++ varB (uN col) ++ varB vals.length ++ vals.flatMap putB ++ varB of.length ++ putPs (of.take (i1))) ++ putP (of.getD i1 pD) := by rw [take_snoc pD (by omega), putPs_snoc]; simp
      first | refine thenA_n ?_ | simp only [thenA, blockA, if_true]
      exact NextG.mk (by omega) (by omega) ((upd HLu (k + 1) (some (gb (([byteI op] ++ varB (uN col) ++ varB vals.length ++ vals.flatMap putB ++ varB of.length ++ putPs (of.take (i1))) ++ putP (of.getD i1 pD)))))) (.cons rfl (.cons (show _ = some (sl (k + 1) _) by rw [e6]; rfl) .nil)) (.cons rfl (.cons rfl (.cons rfl (.cons rfl (.cons rfl (.cons rfl (.cons rfl (.cons rfl (.cons rfl (.cons rfl (.cons rfl (.cons rfl (.cons rfl (.cons rfl (.cons rfl .nil))))))))))))))) (by exact sub_refl _) ⟨by rw [e6]; exact upd_same _ _ _, (upd_other _ _ (by omega)).trans hbu, sub_new (sub_trans hS1 subA) hHk1⟩
    · try simp only [decide_eq_true_eq, decide_eq_false_iff_not, beq_iff_eq, beq_eq_false_iff_ne, ne_eq, bne_iff_ne, Bool.not_eq_true', Bool.not_eq_false', Int.not_lt, Int.not_le, gt_iff_lt, ge_iff_le, bne_eq_false_iff_eq, Bool.not_eq_eq_eq_not, Bool.not_true, Bool.not_false] at c1
      refine ACode.exit ?_
      show ACode _ _ _ _ _ _
      refine ACode.seq ?_
      refine ACode.region' [0, 1] (by kernel_rfl) rfl ?_
      refine aOps_1 rfl rfl rfl (AOp.move' (.inl rfl) rfl ?_)
      refine aOps_1 rfl rfl rfl (AOp.move' (.inr rfl) rfl ?_)
      refine aOps_end ?_
      show ACode _ _ _ _ _ _
      refine ACode.ret ?_
      try simp only [thenA, blockA, if_true]
      have e7 : ([byteI op] ++ varB (uN col) ++ varB vals.length ++ vals.flatMap putB ++ varB of.length ++ putPs (of.take (i1))) = putP (.mk op col vals of) := by rw [List.take_of_length_le (by omega), putP]; simp
      have hd2 : HL1 (k + 1) = some (gb (putP (.mk op col vals of))) := by rw [← e7]; exact hd1
      exact RetQ.one rfl rfl (sub_refl _) (fun m b h => ⟨b, hS1 m b h⟩) (fun hk => ⟨k + 1, by rw [e7], by omega, by omega, hd2, (fun m hm => hfL1 m (by omega)), hS1⟩)

theorem rcheck_c : ∀ (N : Nat) (p : Pd) (v : Value) (deep : Nat) (cols : List Col) (C : Option Addr) (e : Nat) (H : Hp) (k : Nat), PdV H p v → slcCells H 3 (.slice C cols.length e) = some (cols3 cols) → cols.length ≤ 9223372036854775807 → deep ≤ 32 → SizeOf.sizeOf p < N → ACalls Tryd.prog 3 63 [.slice C cols.length e, v, .int .i64 (deep : Int)] H k (Same H k (.int .i64 (rchk cols p deep))) := by
  intro N
  induction N
  case zero => intro p v deep cols C e H k hv hC hcn hd hN; exact absurd hN (Nat.not_lt_zero _)
  rename_i N ih
  intro p v deep cols C e H k hv hC hcn hd hN
  cases p
  rename_i op col vals of
  rw [PdV] at hv
  obtain ⟨A, c, B, d, bs, rfl, hA, hvl, hol, hop, hcl, hok, hB, hPs⟩ := hv
  refine ACalls.fresh fun hf => ?_
  refine ACalls.body Tryd.func63 rfl (Nat.le_of_ble_eq_true rfl) ?_
  refine ACode.seq ?_
  refine ACode.region' [0, 1] (by kernel_rfl) rfl ?_
  refine aOps_1 rfl rfl rfl (AOp.boxV rfl rfl ?_)
  refine aOps_1 rfl rfl rfl (AOp.move' (.inr rfl) rfl ?_)
  refine aOps_end ?_
  show ACode _ _ _ _ _ _
  refine ACode.seq ?_
  refine ACode.seq ?_
  refine ACode.region' [0, 1] (by kernel_rfl) rfl ?_
  refine aOps_1 rfl rfl rfl (AOp.move' (.inl rfl) rfl ?_)
  refine aOps_1 rfl rfl rfl (AOp.bin' rfl rfl rfl rfl ?_)
  refine aOps_end ?_
  show ACode _ _ _ _ _ _
  refine ACode.cond rfl (fun c0 => ?_) (fun c0 => ?_)
  · try simp only [decide_eq_true_eq, decide_eq_false_iff_not, beq_iff_eq, beq_eq_false_iff_ne, ne_eq, bne_iff_ne, Bool.not_eq_true', Bool.not_eq_false', Int.not_lt, Int.not_le, gt_iff_lt, ge_iff_le, bne_eq_false_iff_eq, Bool.not_eq_eq_eq_not, Bool.not_true, Bool.not_false] at c0
    have hd31 : deep > 31 := by omega
    refine ACode.seq ?_
    refine ACode.region' [0] (by kernel_rfl) rfl ?_
    refine aOps_1 rfl rfl rfl (AOp.move' (.inr rfl) rfl ?_)
    refine aOps_end ?_
    show ACode _ _ _ _ _ _
    refine ACode.ret ?_
    exact RetQ.one rfl rfl subA stays (fun hk => ⟨(by rw [rchk, if_pos hd31]), rfl, by omega⟩)
  · try simp only [decide_eq_true_eq, decide_eq_false_iff_not, beq_iff_eq, beq_eq_false_iff_ne, ne_eq, bne_iff_ne, Bool.not_eq_true', Bool.not_eq_false', Int.not_lt, Int.not_le, gt_iff_lt, ge_iff_le, bne_eq_false_iff_eq, Bool.not_eq_eq_eq_not, Bool.not_true, Bool.not_false] at c0
    have hd31 : ¬ deep > 31 := by omega
    refine ACode.skip ?_
    show ACode _ _ _ _ _ _
    refine ACode.seq ?_
    refine ACode.seq ?_
    refine ACode.region' [0, 1, 2, 3, 4, 5, 6, 7, 8, 9] (by kernel_rfl) rfl ?_
    refine aOps_1 rfl rfl rfl (AOp.fieldAddr' rfl (by decide) rfl ?_)
    refine aOps_1 rfl rfl rfl ?_
    refine AOp.load1 (b := ?b11) (v := ?v11) rfl rfl ?hn11 ?hv11 ?hR11
    (case hn11 => exact hpA)
    (case hv11 => rfl)
    refine aOps_1 rfl rfl rfl (AOp.len' rfl rfl ?_)
    refine aOps_1 rfl rfl rfl (AOp.bin' rfl rfl rfl rfl ?_)
    refine aOps_1 rfl rfl rfl (AOp.move' (.inl rfl) rfl ?_)
    refine aOps_gd0 rfl rfl (wantF rfl rfl rfl) (fun hc => AOp.slots [(4, _)] (.cons rfl .nil) (AOp.fieldAddr' rfl (by decide) rfl ⟨rfl, rfl, rfl⟩)) ?_
    refine aOps_gd0 rfl rfl (wantF rfl rfl rfl) (fun hc => AOp.slots [(18, _)] (.cons (gvT rfl hc) .nil) ((by refine AOp.load1 (b := ?b12) (v := ?v12) rfl rfl ?hn12 ?hv12 ?hR12; (case hn12 => exact hpA); (case hv12 => rfl); exact ⟨rfl, rfl, rfl⟩))) ?_
    refine aOps_gd0 rfl rfl (wantF rfl rfl rfl) (fun hc => AOp.slots [(19, _)] (.cons (gvT rfl hc) .nil) (AOp.len' rfl rfl ⟨rfl, rfl, rfl⟩)) ?_
    refine aOps_gd0 rfl rfl (wantF rfl rfl rfl) (fun hc => AOp.slots [(20, _)] (.cons (gvT rfl hc) .nil) (AOp.bin' rfl rfl rfl rfl ⟨rfl, rfl, rfl⟩)) ?_
    refine aOps_1 rfl rfl rfl (AOp.pickOr rfl rfl rfl (fun hb => gvE rfl (t_not hb)) ?_)
    refine aOps_end ?_
    show ACode _ _ _ _ _ _
    refine ACode.cond rfl (fun c1 => ?_) (fun c1 => ?_)
    · skip
      refine ACode.seq ?_
      refine ACode.region' [0] (by kernel_rfl) rfl ?_
      refine aOps_1 rfl rfl rfl (AOp.move' (.inr rfl) rfl ?_)
      refine aOps_end ?_
      show ACode _ _ _ _ _ _
      refine ACode.ret ?_
      exact RetQ.one rfl rfl subA stays (fun hk => ⟨(by rw [rchk, if_neg hd31, if_pos c1]), rfl, by omega⟩)
    · skip
      have c1f : ¬ (decide ((vals.length : Int) > 256) || decide ((of.length : Int) > 256)) = true := by rw [c1]; decide
      refine ACode.skip ?_
      show ACode _ _ _ _ _ _
      refine ACode.seq ?_
      refine ACode.seq ?_
      refine ACode.region' [0, 1, 2] (by kernel_rfl) rfl ?_
      refine aOps_1 rfl rfl rfl ?_
      refine AOp.loadAll (b := ?b13) (v := pv op col A vals.length c B of.length d) rfl rfl ?hn13 ?hv13 ?hw13 ?hz13 ?hR13
      (case hn13 => exact hpA)
      (case hv13 => rfl)
      (case hw13 => rfl)
      (case hz13 => first | rfl | (simp; done))
      refine aOps_q rfl rfl rfl (AOp.call' rfl rfl rfl ((rformed_b _ _ op col vals A c B of.length d hvl hol).lift (by decide)) (fun _ _ _ h => h)) (fun kq hkq => ?_)
      refine aOps_1 rfl rfl rfl (AOp.un' rfl rfl rfl ?_)
      refine aOps_end ?_
      show ACode _ _ _ _ _ _
      refine ACode.cond rfl (fun c2 => ?_) (fun c2 => ?_)
      · skip
        have c2t : formedP op col vals.length of.length = false := by simpa using c2
        refine ACode.seq ?_
        refine ACode.region' [0] (by kernel_rfl) rfl ?_
        refine aOps_1 rfl rfl rfl (AOp.move' (.inr rfl) rfl ?_)
        refine aOps_end ?_
        show ACode _ _ _ _ _ _
        refine ACode.ret ?_
        exact RetQ.one rfl rfl subA stays (fun hk => ⟨(by rw [rchk, if_neg hd31, if_neg c1f, if_pos c2t]), rfl, by omega⟩)
      · skip
        have c2f : ¬ formedP op col vals.length of.length = false := by intro h; rw [h] at c2; cases c2
        refine ACode.skip ?_
        show ACode _ _ _ _ _ _
        refine ACode.meet (γ := Unit) (fun g => []) [(0, _), (2, _), (4, _)] (.cons rfl (.cons rfl (.cons rfl .nil))) (fun g H' k' => Ab.Sub H H' ∧ H' k = some (pblk op col (.slice A vals.length c) (.slice B of.length d)) ∧ k + 1 ≤ k' ∧ rchk cols (.mk op col vals of) deep = rchks cols of (deep + 1)) ?_ (fun g HLm km hfLm hXm => ?_)
        · show ACode _ _ _ _ _ _
          refine ACode.seq ?_
          refine ACode.region' [0, 1, 2] (by kernel_rfl) rfl ?_
          refine aOps_1 rfl rfl rfl (AOp.fieldAddr' rfl (by decide) rfl ?_)
          refine aOps_1 rfl rfl rfl ?_
          refine AOp.load1 (b := ?b14) (v := ?v14) rfl rfl ?hn14 ?hv14 ?hR14
          (case hn14 => exact hpA)
          (case hv14 => rfl)
          refine aOps_q rfl rfl rfl (AOp.call' rfl rfl rfl ((rcol_b _ _ op).lift (by decide)) (fun _ _ _ h => h)) (fun kq hkq => ?_)
          refine aOps_end ?_
          show ACode _ _ _ _ _ _
          refine ACode.cond rfl (fun c3 => ?_) (fun c3 => ?_)
          · try simp only [decide_eq_true_eq, decide_eq_false_iff_not, beq_iff_eq, beq_eq_false_iff_ne, ne_eq, bne_iff_ne, Bool.not_eq_true', Bool.not_eq_false', Int.not_lt, Int.not_le, gt_iff_lt, ge_iff_le, bne_eq_false_iff_eq, Bool.not_eq_eq_eq_not, Bool.not_true, Bool.not_false] at c3
            refine ACode.seq ?_
            refine ACode.seq ?_
            refine ACode.region' [0, 1, 2, 3, 4, 5, 6, 7, 8, 9] (by kernel_rfl) rfl ?_
            refine aOps_1 rfl rfl rfl (AOp.fieldAddr' rfl (by decide) rfl ?_)
            refine aOps_1 rfl rfl rfl ?_
            refine AOp.load1 (b := ?b15) (v := ?v15) rfl rfl ?hn15 ?hv15 ?hR15
            (case hn15 => exact hpA)
            (case hv15 => rfl)
            refine aOps_1 rfl rfl rfl (AOp.bin' rfl rfl rfl rfl ?_)
            refine aOps_1 rfl rfl rfl (AOp.move' (.inl rfl) rfl ?_)
            refine aOps_gd0 rfl rfl (wantF rfl rfl rfl) (fun hc => AOp.slots [(4, _)] (.cons rfl .nil) (AOp.fieldAddr' rfl (by decide) rfl ⟨rfl, rfl, rfl⟩)) ?_
            refine aOps_gd0 rfl rfl (wantF rfl rfl rfl) (fun hc => AOp.slots [(33, _)] (.cons (gvT rfl hc) .nil) ((by refine AOp.load1 (b := ?b16) (v := ?v16) rfl rfl ?hn16 ?hv16 ?hR16; (case hn16 => exact hpA); (case hv16 => rfl); exact ⟨rfl, rfl, rfl⟩))) ?_
            refine aOps_gd0 rfl rfl (wantF rfl rfl rfl) (fun hc => AOp.slots [(0, _)] (.cons rfl .nil) (AOp.move' (.inl rfl) rfl ⟨rfl, rfl, rfl⟩)) ?_
            refine aOps_gd0 rfl rfl (wantF rfl rfl rfl) (fun hc => AOp.slots [(35, _)] (.cons (gvT rfl hc) .nil) (AOp.len' rfl rfl ⟨rfl, rfl, rfl⟩)) ?_
            refine aOps_gd0 rfl rfl (wantF rfl rfl rfl) (fun hc => AOp.slots [(34, _), (36, _)] (.cons (gvT rfl hc) (.cons (gvT rfl hc) .nil)) (AOp.bin' rfl rfl rfl rfl ⟨rfl, rfl, rfl⟩)) ?_
            refine aOps_1 rfl rfl rfl (AOp.pickOr rfl rfl rfl (fun hb => gvE rfl (t_not hb)) ?_)
            refine aOps_end ?_
            show ACode _ _ _ _ _ _
            refine ACode.cond rfl (fun c4 => ?_) (fun c4 => ?_)
            · skip
              refine ACode.seq ?_
              refine ACode.region' [0] (by kernel_rfl) rfl ?_
              refine aOps_1 rfl rfl rfl (AOp.move' (.inr rfl) rfl ?_)
              refine aOps_end ?_
              show ACode _ _ _ _ _ _
              refine ACode.ret ?_
              exact RetQ.one rfl rfl subA stays (fun hk => ⟨(by rw [rchk, if_neg hd31, if_neg c1f, if_neg c2f, if_pos c3, if_pos c4]), rfl, by omega⟩)
            · skip
              have c4f : ¬ (decide (col < 0) || decide (col ≥ (cols.length : Int))) = true := by rw [c4]; decide
              simp only [Bool.or_eq_false_iff, decide_eq_false_iff_not] at c4
              obtain ⟨x, rfl⟩ : ∃ x : Nat, col = x := ⟨col.toNat, by omega⟩
              have hxr : x < cols.length := by omega
              refine ACode.skip ?_
              show ACode _ _ _ _ _ _
              refine ACode.seq ?_
              refine ACode.region' [0] (by kernel_rfl) rfl ?_
              refine aOps_1 rfl rfl rfl (AOp.move' (.inr rfl) rfl ?_)
              refine aOps_end ?_
              show ACode _ _ _ _ _ _
              refine ACode.block ?_
              refine ACode.count0 (fun i => [(7, .int .i64 (i : Int))]) [(0, _), (2, _), (4, _)] (vals.length) (fun i => firstI (rerrV (cols.getD x cD).kind) vals = firstI (rerrV (cols.getD x cD).kind) (vals.drop i)) (.cons rfl .nil) (.cons rfl (.cons rfl (.cons rfl .nil))) rfl (fun i0 kL0 HL0 hiL0 hkL0 hsL0 hfL0 hxL0 => ?_)
              show ACode _ _ _ _ _ ⟨_, _, _⟩
              have tsL0 := SubS.of hsL0
              refine ACode.seq ?_
              refine ACode.seq ?_
              refine ACode.region' [0, 1, 2, 3, 4] (by kernel_rfl) rfl ?_
              refine aOps_1 rfl rfl rfl (AOp.move' (.inl rfl) rfl ?_)
              refine aOps_1 rfl rfl rfl (AOp.fieldAddr' rfl (by decide) rfl ?_)
              refine aOps_1 rfl rfl rfl ?_
              refine AOp.load1 (b := ?b17) (v := ?v17) rfl rfl ?hn17 ?hv17 ?hR17
              (case hn17 => exact hpA)
              (case hv17 => rfl)
              refine aOps_1 rfl rfl rfl (AOp.len' rfl rfl ?_)
              refine aOps_1 rfl rfl rfl (AOp.bin' rfl rfl rfl rfl ?_)
              refine aOps_end ?_
              show ACode _ _ _ _ _ _
              refine ACode.cond rfl (fun c5 => ?_) (fun c5 => ?_)
              · try simp only [decide_eq_true_eq, decide_eq_false_iff_not, beq_iff_eq, beq_eq_false_iff_ne, ne_eq, bne_iff_ne, Bool.not_eq_true', Bool.not_eq_false', Int.not_lt, Int.not_le, gt_iff_lt, ge_iff_le, bne_eq_false_iff_eq, Bool.not_eq_eq_eq_not, Bool.not_true, Bool.not_false] at c5
                refine ACode.skip ?_
                show ACode _ _ _ _ _ _
                refine ACode.seq ?_
                refine ACode.block ?_
                refine ACode.seq ?_
                obtain ⟨n13_3, o13_3, s13_3, hq13_3, hp13_3⟩ := slcV hA (show i0 < vals.length by omega)
                refine ACode.region' [0, 1, 2, 3, 4, 5, 6] (by kernel_rfl) rfl ?_
                refine aOps_1 rfl rfl rfl (AOp.fieldAddr' rfl (by decide) rfl ?_)
                refine aOps_1 rfl rfl rfl ?_
                refine AOp.load1 (b := ?b18) (v := ?v18) rfl rfl ?hn18 ?hv18 ?hR18
                (case hn18 => exact hpA)
                (case hv18 => rfl)
                refine aOps_1 rfl rfl rfl (AOp.move' (.inl rfl) rfl ?_)
                refine aOps_1 rfl rfl rfl (AOp.indexP (aslcAt_sub subA hq13_3) rfl rfl rfl ?_)
                refine aOps_1 rfl rfl rfl (AOp.loadPA (v := vv (vals.getD i0 vD)) (hp13_3.sub subA) rfl rfl rfl rfl (by first | rfl | (simp; done)) (by decide) ?_)
                refine aOps_1 rfl rfl rfl (AOp.alloc' rfl ?_)
                refine aOps_0 rfl rfl rfl ?_
                refine AOp.storeAll (b := ?b19) rfl rfl rfl ?hn19 ?hk19 rfl ?hw19 ?ho19 ?hl19 ?hR19
                (case hn19 => exact hpA)
                (case hk19 => rfl)
                (case hw19 => first | rfl | (simp; done))
                (case ho19 => first | rfl | decide | (simp; done))
                (case hl19 => first | rfl | (simp; done))
                refine aOps_end ?_
                show ACode _ _ _ _ _ _
                refine ACode.seq ?_
                refine ACode.seq ?_
                obtain ⟨n14_8, o14_8, s14_8, hq14_8, hp14_8⟩ := slcC hC hxr
                refine ACode.draw' 14 [(0, 51), (1, 52), (2, 53), (3, 54), (4, 55), (5, 56), (6, 57), (7, 58), (8, 59), (9, 60), (10, 61), (11, 62), (12, 63), (13, 64)] mixed (by kernel_rfl) ?_
                refine Draw.step [(8, none)] rfl (by kernel_rfl) rfl (fun kq hkq => AOp.fieldAddr' rfl (by decide) rfl ⟨rfl, rfl, Nat.le_refl _⟩) ?_
                refine Draw.step [(51, some 0)] rfl (by kernel_rfl) rfl (fun kq hkq => (by refine AOp.load1 (b := ?b20) (v := ?v20) rfl rfl ?hn20 ?hv20 ?hR20; (case hn20 => exact hpA); (case hv20 => rfl); exact ⟨rfl, rfl, Nat.le_refl _⟩)) ?_
                refine Draw.step [(52, some 1)] rfl (by kernel_rfl) rfl (fun kq hkq => AOp.bin' rfl rfl rfl rfl ⟨rfl, rfl, Nat.le_refl _⟩) ?_
                refine Draw.step [(53, some 2)] rfl (by kernel_rfl) rfl (fun kq hkq => AOp.move' (.inl rfl) rfl ⟨rfl, rfl, Nat.le_refl _⟩) ?_
                refine Draw.gd [(8, none), (54, some 3)] rfl (by kernel_rfl) (wantF rfl rfl rfl) (fun kq hkq hc => AOp.slots [(8, _)] (.cons rfl .nil) ((by refine AOp.loadAll (b := ?b21) (v := vv (vals.getD i0 vD)) rfl rfl ?hn21 ?hv21 ?hw21 ?hz21 ?hR21; (case hn21 => exact hpA); (case hv21 => rfl); (case hw21 => rfl); (case hz21 => first | rfl | (simp; done)); exact ⟨rfl, rfl, Nat.le_refl _⟩))) ?_
                refine Draw.gd [(0, none), (54, some 3)] rfl (by kernel_rfl) (wantF rfl rfl rfl) (fun kq hkq hc => AOp.slots [(0, _)] (.cons rfl .nil) (AOp.move' (.inl rfl) rfl ⟨rfl, rfl, Nat.le_refl _⟩)) ?_
                refine Draw.gd [(4, none), (54, some 3)] rfl (by kernel_rfl) (wantF rfl rfl rfl) (fun kq hkq hc => AOp.slots [(4, _)] (.cons rfl .nil) (AOp.fieldAddr' rfl (by decide) rfl ⟨rfl, rfl, Nat.le_refl _⟩)) ?_
                refine Draw.gd [(57, some 6), (54, some 3)] rfl (by kernel_rfl) (wantF rfl rfl rfl) (fun kq hkq hc => AOp.slots [(57, _)] (.cons (gvT rfl hc) .nil) ((by refine AOp.load1 (b := ?b22) (v := ?v22) rfl rfl ?hn22 ?hv22 ?hR22; (case hn22 => exact hpA); (case hv22 => rfl); exact ⟨rfl, rfl, Nat.le_refl _⟩))) ?_
                refine Draw.gd [(56, some 5), (58, some 7), (54, some 3)] rfl (by kernel_rfl) (wantF rfl rfl rfl) (fun kq hkq hc => AOp.slots [(56, _), (58, _)] (.cons (gvT rfl hc) (.cons (gvT rfl hc) .nil)) (AOp.indexP (aslcAt_sub subA hq14_8) rfl rfl rfl ⟨rfl, rfl, Nat.le_refl _⟩)) ?_
                refine Draw.gd [(59, some 8), (54, some 3)] rfl (by kernel_rfl) (wantF rfl rfl rfl) (fun kq hkq hc => AOp.slots [(59, _)] (.cons (gvT rfl hc) .nil) (AOp.fieldP (hp14_8.sub subA) rfl (by decide) (Nat.le_of_ble_eq_true rfl) rfl ⟨rfl, rfl, Nat.le_refl _⟩)) ?_
                refine Draw.gd [(60, some 9), (54, some 3)] rfl (by kernel_rfl) (wantF rfl rfl rfl) (fun kq hkq hc => AOp.slots [(60, _)] (.cons (gvT rfl hc) .nil) (AOp.loadP1 (hp14_8.sub subA) rfl rfl rfl ⟨rfl, rfl, Nat.le_refl _⟩)) ?_
                refine Draw.gd [(55, some 4), (61, some 10), (54, some 3)] rfl (by kernel_rfl) (wantF rfl rfl rfl) (fun kq hkq hc => AOp.slots [(55, _), (61, _)] (.cons (gvT rfl hc) (.cons (gvT rfl hc) .nil)) (AOp.call' rfl rfl rfl (right_val 3 _ _ (vals.getD i0 vD) (cols.getD x cD).kind) (fun _ _ _ h => h))) ?_
                refine Draw.gd [(62, some 11), (54, some 3)] rfl (by kernel_rfl) (wantF rfl rfl rfl) (fun kq hkq hc => AOp.slots [(62, _)] (.cons (gvT rfl hc) .nil) (AOp.un' rfl rfl rfl ⟨rfl, rfl, Nat.le_refl _⟩)) ?_
                refine Draw.step [(54, some 3), (63, some 12)] rfl (by kernel_rfl) rfl (fun kq hkq => AOp.pickOr rfl rfl rfl (fun hb => gvE rfl (t_not hb)) ⟨rfl, rfl, Nat.le_refl _⟩) ?_
                refine Draw.done fun kq hkq => ?_
                show aOps _ _ _ _ [] ⟨_, _, _⟩
                refine aOps_end ?_
                show ACode _ _ _ _ _ _
                refine ACode.cond rfl (fun c6 => ?_) (fun c6 => ?_)
                · skip
                  have c6t : rerrV (cols.getD x cD).kind (vals.getD i0 vD) = 11 := if_pos c6
                  refine ACode.seq ?_
                  refine ACode.region' [0] (by kernel_rfl) rfl ?_
                  refine aOps_1 rfl rfl rfl (AOp.move' (.inr rfl) rfl ?_)
                  refine aOps_end ?_
                  show ACode _ _ _ _ _ _
                  refine ACode.ret ?_
                  exact RetQ.one rfl rfl subA stays (fun hk => ⟨(by rw [rchk, if_neg hd31, if_neg c1f, if_neg c2f, if_pos c3, if_neg c4f, Int.toNat_natCast, hxL0, firstI_hit vD (by omega) (by rw [c6t]; decide), c6t, if_pos (by decide)]), rfl, by omega⟩)
                · skip
                  refine ACode.skip ?_
                  show ACode _ _ _ _ _ _
                  refine ACode.seq ?_
                  refine ACode.region' [0, 1, 2, 3] (by kernel_rfl) rfl ?_
                  refine aOps_1 rfl rfl rfl (AOp.fieldAddr' rfl (by decide) rfl ?_)
                  refine aOps_1 rfl rfl rfl ?_
                  refine AOp.load1 (b := ?b23) (v := ?v23) rfl rfl ?hn23 ?hv23 ?hR23
                  (case hn23 => exact hpA)
                  (case hv23 => rfl)
                  refine aOps_1 rfl rfl rfl (AOp.lenStr' rfl rfl ?_)
                  refine aOps_1 rfl rfl rfl (AOp.bin' rfl rfl rfl rfl ?_)
                  refine aOps_end ?_
                  show ACode _ _ _ _ _ _
                  refine ACode.cond rfl (fun c7 => ?_) (fun c7 => ?_)
                  · try simp only [decide_eq_true_eq, decide_eq_false_iff_not, beq_iff_eq, beq_eq_false_iff_ne, ne_eq, bne_iff_ne, Bool.not_eq_true', Bool.not_eq_false', Int.not_lt, Int.not_le, gt_iff_lt, ge_iff_le, bne_eq_false_iff_eq, Bool.not_eq_eq_eq_not, Bool.not_true, Bool.not_false] at c7
                    have c7t : rerrV (cols.getD x cD).kind (vals.getD i0 vD) = 12 := by unfold rerrV; rw [c6, if_neg (by decide), if_pos c7]
                    refine ACode.seq ?_
                    refine ACode.region' [0] (by kernel_rfl) rfl ?_
                    refine aOps_1 rfl rfl rfl (AOp.move' (.inr rfl) rfl ?_)
                    refine aOps_end ?_
                    show ACode _ _ _ _ _ _
                    refine ACode.ret ?_
                    exact RetQ.one rfl rfl subA stays (fun hk => ⟨(by rw [rchk, if_neg hd31, if_neg c1f, if_neg c2f, if_pos c3, if_neg c4f, Int.toNat_natCast, hxL0, firstI_hit vD (by omega) (by rw [c7t]; decide), c7t, if_pos (by decide)]), rfl, by omega⟩)
                  · try simp only [decide_eq_true_eq, decide_eq_false_iff_not, beq_iff_eq, beq_eq_false_iff_ne, ne_eq, bne_iff_ne, Bool.not_eq_true', Bool.not_eq_false', Int.not_lt, Int.not_le, gt_iff_lt, ge_iff_le, bne_eq_false_iff_eq, Bool.not_eq_eq_eq_not, Bool.not_true, Bool.not_false] at c7
                    have c7f : rerrV (cols.getD x cD).kind (vals.getD i0 vD) = 0 := rerr_ok c6 (by omega)
                    refine ACode.skip ?_
                    show ACode _ _ _ _ _ _
                    refine ACode.region' [0, 1, 2] (by kernel_rfl) rfl ?_
                    refine aOps_1 rfl rfl rfl (AOp.move' (.inl rfl) rfl ?_)
                    refine aOps_1 rfl rfl rfl (AOp.add rfl rfl rfl (i64_wrap (by omega) (by omega)) ?_)
                    refine aOps_1 rfl rfl rfl (AOp.move' (.inr rfl) rfl ?_)
                    refine aOps_end ?_
                    first | refine thenA_n ?_ | simp only [thenA, blockA, if_true]
                    exact NextR.mk (by omega) (by omega) (.cons rfl .nil) (.cons rfl (.cons rfl (.cons rfl .nil))) subA (hxL0.trans (firstI_step vD (by omega) c7f))
              · try simp only [decide_eq_true_eq, decide_eq_false_iff_not, beq_iff_eq, beq_eq_false_iff_ne, ne_eq, bne_iff_ne, Bool.not_eq_true', Bool.not_eq_false', Int.not_lt, Int.not_le, gt_iff_lt, ge_iff_le, bne_eq_false_iff_eq, Bool.not_eq_eq_eq_not, Bool.not_true, Bool.not_false] at c5
                refine ACode.exit ?_
                first | refine thenA_n ?_ | simp only [thenA, blockA, if_true]
                exact ⟨(), has_append .nil (.cons rfl (.cons rfl (.cons rfl .nil))), (by (try dsimp only); exact ⟨by exact subA, hpA, by omega, by rw [rchk, if_neg hd31, if_neg c1f, if_neg c2f, if_pos c3, if_neg c4f, Int.toNat_natCast, if_neg (by rw [hxL0, List.drop_eq_nil_of_le (by omega)]; exact fun h => h rfl)]⟩)⟩
          · try simp only [decide_eq_true_eq, decide_eq_false_iff_not, beq_iff_eq, beq_eq_false_iff_ne, ne_eq, bne_iff_ne, Bool.not_eq_true', Bool.not_eq_false', Int.not_lt, Int.not_le, gt_iff_lt, ge_iff_le, bne_eq_false_iff_eq, Bool.not_eq_eq_eq_not, Bool.not_true, Bool.not_false] at c3
            have c3 : ¬ colO op = true := by rw [c3]; decide
            refine ACode.skip ?_
            first | refine thenA_n ?_ | simp only [thenA, blockA, if_true]
            exact ⟨(), has_append .nil (.cons rfl (.cons rfl (.cons rfl .nil))), (by (try dsimp only); exact ⟨by exact subA, upd_same _ _ _, by omega, by rw [rchk, if_neg hd31, if_neg c1f, if_neg c2f, if_neg c3]⟩)⟩
        · show ACode _ _ _ _ _ ⟨_, _, _⟩
          obtain ⟨hSm, hbm, hkm, hrm⟩ := hXm
          refine ACode.seq ?_
          refine ACode.seq ?_
          refine ACode.region' [0] (by kernel_rfl) rfl ?_
          refine aOps_1 rfl rfl rfl (AOp.move' (.inr rfl) rfl ?_)
          refine aOps_end ?_
          show ACode _ _ _ _ _ _
          refine ACode.block ?_
          refine ACode.count0 (fun i => [(9, .int .i64 (i : Int))]) [(0, _), (2, _), (4, _)] (of.length) (fun i => rchks cols of (deep + 1) = firstI (fun p => rchk cols p (deep + 1)) (of.drop i)) (.cons rfl .nil) (.cons rfl (.cons rfl (.cons rfl .nil))) (rchks_first cols (deep + 1) of) (fun i1 kL1 HL1 hiL1 hkL1 hsL1 hfL1 hxL1 => ?_)
          show ACode _ _ _ _ _ ⟨_, _, _⟩
          have tsL1 := SubS.of hsL1
          refine ACode.seq ?_
          refine ACode.seq ?_
          refine ACode.region' [0, 1, 2, 3, 4] (by kernel_rfl) rfl ?_
          refine aOps_1 rfl rfl rfl (AOp.move' (.inl rfl) rfl ?_)
          refine aOps_1 rfl rfl rfl (AOp.fieldAddr' rfl (by decide) rfl ?_)
          refine aOps_1 rfl rfl rfl ?_
          refine AOp.load1 (b := ?b24) (v := ?v24) rfl rfl ?hn24 ?hv24 ?hR24
          (case hn24 => exact hpA)
          (case hv24 => rfl)
          refine aOps_1 rfl rfl rfl (AOp.len' rfl rfl ?_)
          refine aOps_1 rfl rfl rfl (AOp.bin' rfl rfl rfl rfl ?_)
          refine aOps_end ?_
          show ACode _ _ _ _ _ _
          refine ACode.cond rfl (fun c8 => ?_) (fun c8 => ?_)
          · try simp only [decide_eq_true_eq, decide_eq_false_iff_not, beq_iff_eq, beq_eq_false_iff_ne, ne_eq, bne_iff_ne, Bool.not_eq_true', Bool.not_eq_false', Int.not_lt, Int.not_le, gt_iff_lt, ge_iff_le, bne_eq_false_iff_eq, Bool.not_eq_eq_eq_not, Bool.not_true, Bool.not_false] at c8
            refine ACode.skip ?_
            show ACode _ _ _ _ _ _
            refine ACode.seq ?_
            refine ACode.block ?_
            refine ACode.seq ?_
            obtain ⟨nE, oE, sE, vE, hqE, hpE, hvE⟩ := PdVs.el pD hB hPs (show i1 < of.length by omega)
            obtain ⟨gE1, gE2⟩ := hvE.agg
            obtain ⟨xo, xc, xA, xl, xcc, xB, xm, xd, rfl⟩ := hvE.form
            refine ACode.region' [0, 1, 2, 3, 4, 5, 6, 7, 8, 9] (by kernel_rfl) rfl ?_
            refine aOps_1 rfl rfl rfl (AOp.move' (.inl rfl) rfl ?_)
            refine aOps_1 rfl rfl rfl (AOp.fieldAddr' rfl (by decide) rfl ?_)
            refine aOps_1 rfl rfl rfl ?_
            refine AOp.load1 (b := ?b25) (v := ?v25) rfl rfl ?hn25 ?hv25 ?hR25
            (case hn25 => exact hpA)
            (case hv25 => rfl)
            refine aOps_1 rfl rfl rfl (AOp.move' (.inl rfl) rfl ?_)
            refine aOps_1 rfl rfl rfl (AOp.indexP (aslcAt_sub subA hqE) rfl rfl rfl ?_)
            refine aOps_1 rfl rfl rfl (AOp.loadPA (v := pv xo xc xA xl xcc xB xm xd) (hpE.sub subA) rfl rfl rfl gE1 gE2 (by decide) ?_)
            refine aOps_1 rfl rfl rfl (AOp.move' (.inl rfl) rfl ?_)
            refine aOps_1 rfl rfl rfl (AOp.add rfl rfl rfl (i64_wrap (by omega) (by omega)) ?_)
            rw [show ((deep : Nat) : Int) + 1 = ((deep + 1 : Nat) : Int) by omega]
            refine aOps_q rfl rfl rfl (AOp.call' rfl rfl rfl (ih (of.getD i1 pD) (pv xo xc xA xl xcc xB xm xd) (deep + 1) cols C e _ _ (hvE.sub subA) (slcCells_sub subA hC) hcn (by omega) (by have := Pd.lt (op := op) (col := col) (vals := vals) (pd_getD (ps := of) (i := i1) (by omega)); omega)) (fun _ _ _ h => h)) (fun kq hkq => ?_)
            refine aOps_1 rfl rfl rfl (AOp.move' (.inr rfl) rfl ?_)
            refine aOps_end ?_
            show ACode _ _ _ _ _ _
            refine ACode.seq ?_
            refine ACode.region' [0, 1] (by kernel_rfl) rfl ?_
            refine aOps_1 rfl rfl rfl (AOp.move' (.inl rfl) rfl ?_)
            refine aOps_1 rfl rfl rfl (AOp.bin' rfl rfl rfl rfl ?_)
            refine aOps_end ?_
            show ACode _ _ _ _ _ _
            refine ACode.cond rfl (fun c9 => ?_) (fun c9 => ?_)
            · try simp only [decide_eq_true_eq, decide_eq_false_iff_not, beq_iff_eq, beq_eq_false_iff_ne, ne_eq, bne_iff_ne, Bool.not_eq_true', Bool.not_eq_false', Int.not_lt, Int.not_le, gt_iff_lt, ge_iff_le, bne_eq_false_iff_eq, Bool.not_eq_eq_eq_not, Bool.not_true, Bool.not_false] at c9
              refine ACode.seq ?_
              refine ACode.region' [0, 1] (by kernel_rfl) rfl ?_
              refine aOps_1 rfl rfl rfl (AOp.move' (.inl rfl) rfl ?_)
              refine aOps_1 rfl rfl rfl (AOp.move' (.inr rfl) rfl ?_)
              refine aOps_end ?_
              show ACode _ _ _ _ _ _
              refine ACode.ret ?_
              exact RetQ.one rfl rfl subA stays (fun hk => ⟨(by rw [hrm, hxL1, firstI_hit pD (by omega) c9]), rfl, by omega⟩)
            · try simp only [decide_eq_true_eq, decide_eq_false_iff_not, beq_iff_eq, beq_eq_false_iff_ne, ne_eq, bne_iff_ne, Bool.not_eq_true', Bool.not_eq_false', Int.not_lt, Int.not_le, gt_iff_lt, ge_iff_le, bne_eq_false_iff_eq, Bool.not_eq_eq_eq_not, Bool.not_true, Bool.not_false] at c9
              refine ACode.skip ?_
              show ACode _ _ _ _ _ _
              refine ACode.region' [0, 1, 2] (by kernel_rfl) rfl ?_
              refine aOps_1 rfl rfl rfl (AOp.move' (.inl rfl) rfl ?_)
              refine aOps_1 rfl rfl rfl (AOp.add rfl rfl rfl (i64_wrap (by omega) (by omega)) ?_)
              refine aOps_1 rfl rfl rfl (AOp.move' (.inr rfl) rfl ?_)
              refine aOps_end ?_
              first | refine thenA_n ?_ | simp only [thenA, blockA, if_true]
              exact NextR.mk (by omega) (by omega) (.cons rfl .nil) (.cons rfl (.cons rfl (.cons rfl .nil))) subA (hxL1.trans (firstI_step pD (by omega) c9))
          · try simp only [decide_eq_true_eq, decide_eq_false_iff_not, beq_iff_eq, beq_eq_false_iff_ne, ne_eq, bne_iff_ne, Bool.not_eq_true', Bool.not_eq_false', Int.not_lt, Int.not_le, gt_iff_lt, ge_iff_le, bne_eq_false_iff_eq, Bool.not_eq_eq_eq_not, Bool.not_true, Bool.not_false] at c8
            refine ACode.exit ?_
            show ACode _ _ _ _ _ _
            refine ACode.seq ?_
            refine ACode.region' [0] (by kernel_rfl) rfl ?_
            refine aOps_1 rfl rfl rfl (AOp.move' (.inr rfl) rfl ?_)
            refine aOps_end ?_
            show ACode _ _ _ _ _ _
            refine ACode.ret ?_
            exact RetQ.one rfl rfl subA stays (fun hk => ⟨(by rw [hrm, hxL1, List.drop_eq_nil_of_le (by omega)]; rfl), rfl, by omega⟩)

theorem rCheck (p : Pd) (v : Value) (hv : PdV H p v) (cols : List Col) (C : Option Addr) (e : Nat) (hC : slcCells H 3 (.slice C cols.length e) = some (cols3 cols)) (hcn : cols.length ≤ 9223372036854775807) : ACalls Tryd.prog 3 23 [.slice C cols.length e, v] H k (Same H k (.int .i64 (rchk cols p 0))) := by
  obtain ⟨xo, xc, xA, xl, xcc, xB, xm, xd, rfl⟩ := hv.form
  refine ACalls.fresh fun hf => ?_
  refine ACalls.body Tryd.func23 rfl (Nat.le_of_ble_eq_true rfl) ?_
  refine ACode.seq ?_
  refine ACode.region' [0, 1] (by kernel_rfl) rfl ?_
  refine aOps_1 rfl rfl rfl (AOp.boxV rfl rfl ?_)
  refine aOps_1 rfl rfl rfl (AOp.move' (.inr rfl) rfl ?_)
  refine aOps_end ?_
  show ACode _ _ _ _ _ _
  refine ACode.seq ?_
  refine ACode.region' [0, 1, 2, 3] (by kernel_rfl) rfl ?_
  refine aOps_1 rfl rfl rfl (AOp.move' (.inl rfl) rfl ?_)
  refine aOps_1 rfl rfl rfl ?_
  refine AOp.loadAll (b := ?b26) (v := pv xo xc xA xl xcc xB xm xd) rfl rfl ?hn26 ?hv26 ?hw26 ?hz26 ?hR26
  (case hn26 => exact hpA)
  (case hv26 => rfl)
  (case hw26 => rfl)
  (case hz26 => first | rfl | (simp; done))
  refine aOps_q rfl rfl rfl (AOp.call' rfl rfl rfl (rcheck_c _ p _ 0 cols C e _ _ (hv.sub subA) (slcCells_sub subA hC) hcn (by decide) (Nat.lt_succ_self _)) (fun _ _ _ h => h)) (fun kq hkq => ?_)
  refine aOps_1 rfl rfl rfl (AOp.move' (.inr rfl) rfl ?_)
  refine aOps_end ?_
  show ACode _ _ _ _ _ _
  refine ACode.ret ?_
  exact RetQ.one rfl rfl subA stays (fun hk => ⟨rfl, rfl, by omega⟩)
end

end Go.Proofs.YteoofihjmldllaaDoor
