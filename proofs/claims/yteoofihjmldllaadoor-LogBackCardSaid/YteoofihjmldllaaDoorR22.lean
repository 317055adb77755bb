/- Contracts over the abstract states: the form of a command. -/
import Derived.Test.YteoofihjmldllaaDoorR21
import Derived.Test.YteoofihjmldllaaDoorR20
import Derived.Test.YteoofihjmldllaaDoorR19
set_option linter.unusedVariables false
set_option linter.unusedSimpArgs false
set_option maxRecDepth 100000
namespace Go.Proofs.YteoofihjmldllaaDoor
open Go Go.Ab

theorem putC_bad {c : Cm} {e : Int} (h : putE (plainC c) = e) (he : e ≠ 0) : putC c = ([], e) := by unfold putC; rw [h, if_neg he]
theorem putC_ok {c : Cm} (h : putE (plainC c) = 0) : putC c = (byteI c.kind :: bodyC (plainC c), 0) := by unfold putC; rw [if_pos h]
theorem lean_plain {c : Cm} (h : c.lean_) : (plainC c).lean_ := by
  have h0 : (cmD c.kind).lean_ := ⟨Nat.zero_le _, ⟨Nat.zero_le _, fun r hr => (nomatch hr), fun r hr => (nomatch hr)⟩, by show pD0.tiny; rw [Pd.tiny]; exact ⟨Nat.zero_le _, Nat.zero_le _, by rw [Pd.tinys]; trivial⟩, fun hf => Nat.le_trans (putP_le pD0 hf (by decide)) (by decide), (by decide : szP pD0 ≤ 1000)⟩
  unfold plainC
  split
  · exact ⟨h.sch, h0.small, h0.tiny, h0.len, h0.sz⟩
  · split
    · exact ⟨h0.sch, h.small, h0.tiny, h0.len, h0.sz⟩
    · split
      · exact ⟨h0.sch, h0.small, h.tiny, h.len, h.sz⟩
      · split
        · exact ⟨h0.sch, h0.small, h0.tiny, h0.len, h0.sz⟩
        · exact h0
theorem putE_neg {d : Cm} (h : min (min d.most d.fr) d.to < 0) : putE d = 1 := if_pos h
theorem putE_ok {d : Cm} (h : ¬ min (min d.most d.fr) d.to < 0) (h1 : 1 ≤ d.kind) (h2 : d.kind ≤ 5) : putE d = 0 := by unfold putE; rw [if_neg h, if_pos ⟨h1, h2⟩]
theorem putE_kind {d : Cm} (h : ¬ min (min d.most d.fr) d.to < 0) (h1 : ¬ (1 ≤ d.kind ∧ d.kind ≤ 5)) : putE d = 11 := by unfold putE; rw [if_neg h, if_neg h1]
theorem newS_gb {H' : Hp} {k k' q : Nat} {l : List UInt8} (h : H' q = some (gb l)) (h1 : k ≤ q) (h2 : q < k') : NewS H' k k' l (sl q l.length) := ⟨_, _, rfl, SLC.gb h, fun a ha => by cases ha; exact ⟨h1, h2⟩⟩
section
variable (H : Hp) (k : Nat)

set_option maxHeartbeats 1000000 in
theorem put_c (c : Cm) (ho : c.ok) (xs : Option Addr) (xn : Nat) (xw : Option Addr) (xwn : Nat) (xws : List Value) (xo xc : Int) (xA : Option Addr) (xl xcc : Nat) (xB : Option Addr) (xm xd : Nat) (x1 : SLC H 3 xs c.sch.length xn (cols3 c.sch)) (x2 : SLC H 1 xw xws.length xwn xws) (x3 : Rws H xws c.rows) (x4 : PdV H c.pred (pv xo xc xA xl xcc xB xm xd)) (hl : c.lean_) : ACalls Tryd.prog 3 24 [cmv c.kind (.slice xs c.sch.length xn) c.most (.slice xw xws.length xwn) xo xc (.slice xA xl xcc) (.slice xB xm xd) c.fr c.to] H k (fun r H' k' => ∃ v, r = .tuple #[v, .int .i64 (putC c).2] ∧ NewS H' k k' (putC c).1 v ∧ k ≤ k' ∧ (∀ m, k' ≤ m → H' m = none) ∧ Ab.Sub H H') := by
  refine ACalls.fresh fun hf => ?_
  refine ACalls.body Tryd.func24 rfl (Nat.le_of_ble_eq_true rfl) ?_
  have hHk := hf k (Nat.le_refl k)
  have hHk1 := hf (k + 1) (Nat.le_succ k)
  have hsm := hl.small
  have hld := lean_plain hl
  have hdk := plainC_kind c
  have hls := hld.sch
  refine ACode.seq ?_
  refine ACode.region' [0, 1, 2] (by kernel_rfl) rfl ?_
  refine aOps_1 rfl rfl rfl (AOp.boxV rfl rfl ?_)
  refine aOps_1 rfl rfl rfl (AOp.move' (.inr rfl) rfl ?_)
  refine aOps_1 rfl rfl rfl (AOp.move' (.inr rfl) rfl ?_)
  refine aOps_end ?_
  show ACode _ _ _ _ _ _
  refine ACode.seq ?_
  refine ACode.region' [0, 1, 2, 3, 4] (by kernel_rfl) rfl ?_
  refine aOps_1 rfl rfl rfl (AOp.fieldAddr' rfl (by decide) rfl ?_)
  refine aOps_1 rfl rfl rfl ?_
  refine AOp.load1 (b := ?b1) (v := ?v1) rfl rfl ?hn1 ?hv1 ?hR1
  (case hn1 => exact hpA)
  (case hv1 => rfl)
  refine aOps_1 rfl rfl rfl (AOp.toU8 rfl rfl ?_)
  refine aOps_1 rfl rfl rfl (AOp.buildB [byteI c.kind] rfl (by decide) rfl rfl ?_)
  refine aOps_1 rfl rfl rfl (AOp.move' (.inr rfl) rfl ?_)
  refine aOps_end ?_
  show ACode _ _ _ _ _ _
  refine ACode.seq ?_
  refine ACode.region' [0, 1, 2] (by kernel_rfl) rfl ?_
  refine aOps_1 rfl rfl rfl ?_
  refine AOp.loadAll (b := ?b2) (v := cmv c.kind (.slice xs c.sch.length xn) c.most (.slice xw xws.length xwn) xo xc (.slice xA xl xcc) (.slice xB xm xd) c.fr c.to) rfl rfl ?hn2 ?hv2 ?hw2 ?hz2 ?hR2
  (case hn2 => exact hpA)
  (case hv2 => rfl)
  (case hw2 => rfl)
  (case hz2 => first | rfl | (simp; done))
  refine aOps_1 rfl rfl rfl ?_
  refine AOp.call' rfl rfl rfl (plain_c _ _ c ho xs xn xw xwn xws xo xc xA xl xcc xB xm xd (x1.sub subA) (x2.sub subA) (x3.sub subA) (x4.sub subA) ⟨by have := hl.sch; omega, by have := hsm.n; omega, fun r hr => by have := hsm.w r hr; omega, hl.tiny⟩) ?_
  rintro u HLp kp ⟨⟨s, w, op, col, v, o, rfl, hP9⟩, hkp, hfLp, hsLp⟩
  have thsLp := SubS.of hsLp
  obtain ⟨⟨As, cs9, rfl, hs9⟩, hw9, VA9, vl9, vc9, VB9, om9, od9, rfl, rfl, hp9⟩ := hP9
  obtain ⟨Aw9, cw9, ws9, rfl, hw91, hw92⟩ := hw9.slc
  have hfn := hp9.fine
  have hbk : HLp (k + 1) = some (gb [byteI c.kind]) := hpA
  have hxk : HLp k = some (cmblk c.kind (.slice xs c.sch.length xn) c.most (.slice xw xws.length xwn) xo xc (.slice xA xl xcc) (.slice xB xm xd) c.fr c.to) := hpA
  have hSp : Ab.Sub H HLp := by exact subA
  refine aOps_0 rfl rfl rfl ?_
  refine AOp.storeAll (b := ?b3) rfl rfl rfl ?hn3 ?hk3 rfl ?hw3 ?ho3 ?hl3 ?hR3
  (case hn3 => exact hpA)
  (case hk3 => rfl)
  (case hw3 => first | rfl | (simp; done))
  (case ho3 => first | rfl | decide | (simp; done))
  (case hl3 => first | rfl | (simp; done))
  try rw [rd_upd2]
  have hcu : Ab.Sub (cutH HLp (k + 2)) (upd HLp k (some (cmblk (plainC c).kind (.slice As (plainC c).sch.length cs9) (plainC c).most (.slice Aw9 ws9.length cw9) op col (.slice VA9 vl9 vc9) (.slice VB9 om9 od9) (plainC c).fr (plainC c).to))) := fun m b hm => by
    unfold cutH at hm
    split at hm
    · rename_i hc
      exact (upd_other _ _ (by omega)).trans hm
    · cases hm
  refine aOps_end ?_
  show ACode _ _ _ _ _ _
  refine ACode.seq ?_
  refine ACode.seq ?_
  refine ACode.region' [0, 1, 2, 3, 4, 5, 6, 7] (by kernel_rfl) rfl ?_
  refine aOps_1 rfl rfl rfl (AOp.fieldAddr' rfl (by decide) rfl ?_)
  refine aOps_1 rfl rfl rfl ?_
  refine AOp.load1 (b := ?b4) (v := ?v4) rfl rfl ?hn4 ?hv4 ?hR4
  (case hn4 => exact hpA)
  (case hv4 => rfl)
  refine aOps_1 rfl rfl rfl (AOp.fieldAddr' rfl (by decide) rfl ?_)
  refine aOps_1 rfl rfl rfl ?_
  refine AOp.load1 (b := ?b5) (v := ?v5) rfl rfl ?hn5 ?hv5 ?hR5
  (case hn5 => exact hpA)
  (case hv5 => rfl)
  refine aOps_1 rfl rfl rfl (AOp.fieldAddr' rfl (by decide) rfl ?_)
  refine aOps_1 rfl rfl rfl ?_
  refine AOp.load1 (b := ?b6) (v := ?v6) rfl rfl ?hn6 ?hv6 ?hR6
  (case hn6 => exact hpA)
  (case hv6 => rfl)
  refine aOps_1 rfl rfl rfl (AOp.min3 rfl rfl rfl rfl ?_)
  refine aOps_1 rfl rfl rfl (AOp.bin' rfl rfl rfl rfl ?_)
  refine aOps_end ?_
  show ACode _ _ _ _ _ _
  refine ACode.cond rfl (fun c0 => ?_) (fun c0 => ?_)
  · try simp only [decide_eq_true_eq, decide_eq_false_iff_not, beq_iff_eq, beq_eq_false_iff_ne, ne_eq, bne_iff_ne, Bool.not_eq_true', Bool.not_eq_false', Int.not_lt, Int.not_le, gt_iff_lt, ge_iff_le, bne_eq_false_iff_eq, Bool.not_eq_eq_eq_not, Bool.not_true, Bool.not_false] at c0
    refine ACode.seq ?_
    refine ACode.region' [0, 1] (by kernel_rfl) rfl ?_
    refine aOps_1 rfl rfl rfl (AOp.move' (.inr rfl) rfl ?_)
    refine aOps_1 rfl rfl rfl (AOp.move' (.inr rfl) rfl ?_)
    refine aOps_end ?_
    show ACode _ _ _ _ _ _
    refine ACode.ret ?_
    try simp only [thenA, blockA, if_true]
    have e1 : putC c = ([], 1) := putC_bad (putE_neg c0) (by decide)
    rw [e1]
    exact RetQ.two rfl rfl rfl (sub_refl _) (fun m b h => ⟨b, (show Ab.Sub H _ from by exact subA) m b h⟩) (fun hk => ⟨_, rfl, NewS.none_, by omega, (fun m hm => by (repeat refine (upd_other _ _ (by omega)).trans ?_); apply_assumption; omega), by exact subA⟩)
  · try simp only [decide_eq_true_eq, decide_eq_false_iff_not, beq_iff_eq, beq_eq_false_iff_ne, ne_eq, bne_iff_ne, Bool.not_eq_true', Bool.not_eq_false', Int.not_lt, Int.not_le, gt_iff_lt, ge_iff_le, bne_eq_false_iff_eq, Bool.not_eq_eq_eq_not, Bool.not_true, Bool.not_false] at c0
    have c0n : ¬ min (min (plainC c).most (plainC c).fr) (plainC c).to < 0 := by omega
    refine ACode.skip ?_
    show ACode _ _ _ _ _ _
    refine ACode.seq ?_
    refine ACode.seq ?_
    refine ACode.region' [0, 1] (by kernel_rfl) rfl ?_
    refine aOps_1 rfl rfl rfl (AOp.fieldAddr' rfl (by decide) rfl ?_)
    refine aOps_1 rfl rfl rfl ?_
    refine AOp.load1 (b := ?b7) (v := ?v7) rfl rfl ?hn7 ?hv7 ?hR7
    (case hn7 => exact hpA)
    (case hv7 => rfl)
    refine aOps_end ?_
    show ACode _ _ _ _ _ _
    refine ACode.block ?_
    refine ACode.seq ?_
    refine ACode.region' [0, 1] (by kernel_rfl) rfl ?_
    refine aOps_1 rfl rfl rfl (AOp.bin' rfl rfl rfl rfl ?_)
    refine aOps_1 rfl rfl rfl (AOp.move' (.inr rfl) rfl ?_)
    refine aOps_end ?_
    show ACode _ _ _ _ _ _
    refine ACode.cond rfl (fun c1 => ?_) (fun c1 => ?_)
    · try simp only [decide_eq_true_eq, decide_eq_false_iff_not, beq_iff_eq, beq_eq_false_iff_ne, ne_eq, bne_iff_ne, Bool.not_eq_true', Bool.not_eq_false', Int.not_lt, Int.not_le, gt_iff_lt, ge_iff_le, bne_eq_false_iff_eq, Bool.not_eq_eq_eq_not, Bool.not_true, Bool.not_false] at c1
      have hk1 : (plainC c).kind = 1 := c1
      refine ACode.seq ?_
      have hlb : (schB (plainC c).sch).length ≤ 300 := by rw [schB, List.length_cons, colB_len]; omega
      refine ACode.any mixed (by kernel_rfl) ?_
      refine AnyA.float (Hq := (upd (fun _ => none) k (some (cmblk (plainC c).kind (.slice As (plainC c).sch.length cs9) (plainC c).most (.slice Aw9 ws9.length cw9) op col (.slice VA9 vl9 vc9) (.slice VB9 om9 od9) (plainC c).fr (plainC c).to)))) [(0, 23), (1, 24), (2, 25), (5, 28), (6, 29), (7, 30), (10, 3)] [3, 4, 8, 9] (by kernel_rfl) (Nat.le_of_ble_eq_true rfl) (by kernel_rfl) subA ?_
      refine DrawF.q 0 23 [(4, none)] rfl (by kernel_rfl) rfl (fun Hc kq hSb => AOp.move' (.inl rfl) rfl ⟨rfl, rfl, rfl⟩) ?_
      refine DrawF.q 1 24 [(1, none)] rfl (by kernel_rfl) rfl (fun Hc kq hSb => AOp.fieldAddr' rfl (by decide) rfl ⟨rfl, rfl, rfl⟩) ?_
      refine DrawF.q 2 25 [(24, some 1)] rfl (by kernel_rfl) rfl (fun Hc kq hSb => have tSb := SubS.of hSb; (by refine AOp.load1 (b := ?b8) (v := ?v8) rfl rfl ?hn8 ?hv8 ?hR8; (case hn8 => exact hpA); (case hv8 => rfl); exact ⟨rfl, rfl, rfl⟩)) ?_
      refine DrawF.q 5 28 [(1, none)] rfl (by kernel_rfl) rfl (fun Hc kq hSb => AOp.fieldAddr' rfl (by decide) rfl ⟨rfl, rfl, rfl⟩) ?_
      refine DrawF.q 6 29 [(28, some 5)] rfl (by kernel_rfl) rfl (fun Hc kq hSb => have tSb := SubS.of hSb; (by refine AOp.load1 (b := ?b9) (v := ?v9) rfl rfl ?hn9 ?hv9 ?hR9; (case hn9 => exact hpA); (case hv9 => rfl); exact ⟨rfl, rfl, rfl⟩)) ?_
      refine DrawF.q 7 30 [(29, some 6)] rfl (by kernel_rfl) rfl (fun Hc kq hSb => AOp.convInt rfl rfl ⟨rfl, rfl, rfl⟩) ?_
      rw [uN_cast (plainC c).most]
      refine DrawF.q 10 3 [] rfl (by kernel_rfl) rfl (fun Hc kq hSb => AOp.move' (.inr rfl) rfl ⟨rfl, rfl, rfl⟩) ?_
      refine DrawF.done ?_
      show aOpsF _ _ _ _ _ _ [3, 4, 8, 9] ⟨_, _, _⟩
      refine aOpsF_1 [25] rfl rfl (by kernel_rfl) rfl ?_
      refine AOp.call' rfl rfl rfl (putSchema_b 3 _ _ (plainC c).sch As cs9 (hs9.sub hcu) (by omega)) ?_
      rintro _ _ kq1 ⟨q, hq1, hq2, rfl, rfl⟩
      refine ⟨by exact subA, ?_⟩
      refine aOpsF_1 [23, 26] rfl rfl (by kernel_rfl) rfl (AOp.appendB (bs := [byteI c.kind]) (ps := schB (plainC c).sch) rfl rfl rfl hpA (srcOf_gb (e := 5) hpA) srcOk_sl (by simp only [List.length_append, List.length_cons, List.length_nil]; omega) (by simp only [List.length_append, List.length_cons, List.length_nil]; omega) ?_)
      refine ⟨by exact subA, ?_⟩
      refine aOpsF_1 [27, 30] rfl rfl (by kernel_rfl) rfl ?_
      refine AOp.call' rfl rfl rfl (putVar 3 _ _ (k + 1) ([byteI c.kind] ++ schB (plainC c).sch) (uN (plainC c).most) hpA (uN_lt _) (by simp only [List.length_append, List.length_cons, List.length_nil]; omega)) ?_
      rintro _ _ kq2 ⟨rfl, rfl, hkq2⟩
      refine ⟨by exact subA, ?_⟩
      refine aOpsF_1 [31] rfl rfl (by kernel_rfl) rfl (AOp.move' (.inr rfl) rfl ?_)
      refine ⟨by exact subA, ?_⟩
      refine aOpsF_end ?_
      show ACode _ _ _ _ _ _
      refine ACode.ret ?_
      try simp only [thenA, blockA, if_true]
      have e0 : putE (plainC c) = 0 := putE_ok c0n (by omega) (by omega)
      have e1 : putC c = ([byteI c.kind] ++ schB (plainC c).sch ++ varB (uN (plainC c).most), 0) := by rw [putC_ok e0, bodyC, if_pos hk1]; (try simp)
      rw [e1]
      exact RetQ.two rfl rfl rfl (sub_refl _) (fun m b h => ⟨b, (show Ab.Sub H _ from by exact subA) m b h⟩) (fun hk => ⟨_, rfl, newS_gb (q := k + 1) hpA (by omega) (by omega), by omega, (fun m hm => by (repeat refine (upd_other _ _ (by omega)).trans ?_); apply_assumption; omega), by exact subA⟩)
    · try simp only [decide_eq_true_eq, decide_eq_false_iff_not, beq_iff_eq, beq_eq_false_iff_ne, ne_eq, bne_iff_ne, Bool.not_eq_true', Bool.not_eq_false', Int.not_lt, Int.not_le, gt_iff_lt, ge_iff_le, bne_eq_false_iff_eq, Bool.not_eq_eq_eq_not, Bool.not_true, Bool.not_false] at c1
      refine ACode.seq ?_
      refine ACode.region' [0, 1] (by kernel_rfl) rfl ?_
      refine aOps_1 rfl rfl rfl (AOp.bin' rfl rfl rfl rfl ?_)
      refine aOps_1 rfl rfl rfl (AOp.move' (.inr rfl) rfl ?_)
      refine aOps_end ?_
      show ACode _ _ _ _ _ _
      refine ACode.cond rfl (fun c2 => ?_) (fun c2 => ?_)
      · try simp only [decide_eq_true_eq, decide_eq_false_iff_not, beq_iff_eq, beq_eq_false_iff_ne, ne_eq, bne_iff_ne, Bool.not_eq_true', Bool.not_eq_false', Int.not_lt, Int.not_le, gt_iff_lt, ge_iff_le, bne_eq_false_iff_eq, Bool.not_eq_eq_eq_not, Bool.not_true, Bool.not_false] at c2
        have hk2 : (plainC c).kind = 2 := c2
        refine ACode.seq ?_
        have hcut : Ab.Sub (cutH HLp (k + 2)) (upd (upd HLp k (some (cmblk (plainC c).kind (.slice As (plainC c).sch.length cs9) (plainC c).most (.slice Aw9 ws9.length cw9) op col (.slice VA9 vl9 vc9) (.slice VB9 om9 od9) (plainC c).fr (plainC c).to))) (k + 1) none) := fun m b hm => by
          unfold cutH at hm
          split at hm
          · rename_i hc
            exact (upd_other _ _ (by omega)).trans ((upd_other _ _ (by omega)).trans hm)
          · cases hm
        refine ACode.region' [0, 1, 2, 3, 4, 5] (by kernel_rfl) rfl ?_
        refine aOps_1 rfl rfl rfl (AOp.move' (.inl rfl) rfl ?_)
        refine aOps_1 rfl rfl rfl (AOp.fieldAddr' rfl (by decide) rfl ?_)
        refine aOps_1 rfl rfl rfl ?_
        refine AOp.load1 (b := ?b10) (v := ?v10) rfl rfl ?hn10 ?hv10 ?hR10
        (case hn10 => exact hpA)
        (case hv10 => rfl)
        refine aOps_1 rfl rfl rfl ?_
        refine AOp.call' rfl rfl rfl (putRows_b 3 _ _ (k + 1) [byteI c.kind] (plainC c).rows ws9 Aw9 cw9 hpA (hw91.sub hcut) (hw92.sub hcut) hld.small (by show 1 ≤ 1000; decide)) ?_
        rintro _ _ kq3 ⟨rfl, rfl, hkq3⟩
        refine aOps_1 rfl rfl rfl (AOp.move' (.inr rfl) rfl ?_)
        refine aOps_1 rfl rfl rfl (AOp.move' (.inr rfl) rfl ?_)
        refine aOps_end ?_
        show ACode _ _ _ _ _ _
        refine ACode.ret ?_
        try simp only [thenA, blockA, if_true]
        have e0 : putE (plainC c) = 0 := putE_ok c0n (by omega) (by omega)
        have e1 : putC c = ([byteI c.kind] ++ rowsB (plainC c).rows, 0) := by rw [putC_ok e0, bodyC, if_neg (show ¬ (plainC c).kind = 1 by omega), if_pos hk2]; (try simp)
        rw [e1]
        exact RetQ.two rfl rfl rfl (sub_refl _) (fun m b h => ⟨b, (show Ab.Sub H _ from by exact subA) m b h⟩) (fun hk => ⟨_, rfl, newS_gb (q := k + 1) hpA (by omega) (by omega), by omega, (fun m hm => by (repeat refine (upd_other _ _ (by omega)).trans ?_); apply_assumption; omega), by exact subA⟩)
      · try simp only [decide_eq_true_eq, decide_eq_false_iff_not, beq_iff_eq, beq_eq_false_iff_ne, ne_eq, bne_iff_ne, Bool.not_eq_true', Bool.not_eq_false', Int.not_lt, Int.not_le, gt_iff_lt, ge_iff_le, bne_eq_false_iff_eq, Bool.not_eq_eq_eq_not, Bool.not_true, Bool.not_false] at c2
        refine ACode.seq ?_
        refine ACode.region' [0, 1] (by kernel_rfl) rfl ?_
        refine aOps_1 rfl rfl rfl (AOp.bin' rfl rfl rfl rfl ?_)
        refine aOps_1 rfl rfl rfl (AOp.move' (.inr rfl) rfl ?_)
        refine aOps_end ?_
        show ACode _ _ _ _ _ _
        refine ACode.cond rfl (fun c3 => ?_) (fun c3 => ?_)
        · try simp only [decide_eq_true_eq, decide_eq_false_iff_not, beq_iff_eq, beq_eq_false_iff_ne, ne_eq, bne_iff_ne, Bool.not_eq_true', Bool.not_eq_false', Int.not_lt, Int.not_le, gt_iff_lt, ge_iff_le, bne_eq_false_iff_eq, Bool.not_eq_eq_eq_not, Bool.not_true, Bool.not_false] at c3
          have hk3 : (plainC c).kind = 3 := c3
          refine ACode.seq ?_
          have hpl9 := hld.len hfn
          refine ACode.region' [0, 1, 2, 3, 4, 5, 6] (by kernel_rfl) rfl ?_
          refine aOps_1 rfl rfl rfl (AOp.move' (.inl rfl) rfl ?_)
          refine aOps_1 rfl rfl rfl (AOp.fieldAddr' rfl (by decide) rfl ?_)
          refine aOps_1 rfl rfl rfl (AOp.loadN (b := cmblk (plainC c).kind (.slice As (plainC c).sch.length cs9) (plainC c).most (.slice Aw9 ws9.length cw9) op col (.slice VA9 vl9 vc9) (.slice VB9 om9 od9) (plainC c).fr (plainC c).to) (cs := [.int .i64 op, .int .i64 col, (.slice VA9 vl9 vc9), (.slice VB9 om9 od9)]) rfl rfl hpA (by show 4 + 4 ≤ 10; decide) rfl ?_)
          refine aOps_1 rfl rfl rfl ?_
          refine AOp.call' rfl rfl rfl (put_p _ (plainC c).pred _ _ _ (hp9.sub hcu) ⟨hld.tiny, hld.len hfn, hld.sz⟩ (Nat.lt_succ_self _)) ?_
          rintro _ HLu ku ⟨q, rfl, hq1, hq2, hq3, hfLu, hsLu⟩
          have thsLu := SubS.of hsLu
          have hbu : HLu (k + 1) = some (gb [byteI c.kind]) := hpA
          have hSu : Ab.Sub H HLu := by exact subA
          refine aOps_1 rfl rfl rfl (AOp.appendB (bs := [byteI c.kind]) (ps := putP (plainC c).pred) rfl rfl rfl hpA (srcOf_gb (e := 5) hpA) srcOk_sl (by simp only [List.length_append, List.length_cons, List.length_nil]; omega) (by simp only [List.length_append, List.length_cons, List.length_nil]; omega) ?_)
          refine aOps_1 rfl rfl rfl (AOp.move' (.inr rfl) rfl ?_)
          refine aOps_1 rfl rfl rfl (AOp.move' (.inr rfl) rfl ?_)
          refine aOps_end ?_
          show ACode _ _ _ _ _ _
          refine ACode.ret ?_
          try simp only [thenA, blockA, if_true]
          have e0 : putE (plainC c) = 0 := putE_ok c0n (by omega) (by omega)
          have e1 : putC c = ([byteI c.kind] ++ putP (plainC c).pred, 0) := by rw [putC_ok e0, bodyC, if_neg (show ¬ (plainC c).kind = 1 by omega), if_neg (show ¬ (plainC c).kind = 2 by omega), if_pos hk3]; (try simp)
          rw [e1]
          exact RetQ.two rfl rfl rfl (sub_refl _) (fun m b h => ⟨b, (show Ab.Sub H _ from by exact subA) m b h⟩) (fun hk => ⟨_, rfl, newS_gb (q := k + 1) hpA (by omega) (by omega), by omega, (fun m hm => by (repeat refine (upd_other _ _ (by omega)).trans ?_); apply_assumption; omega), by exact subA⟩)
        · try simp only [decide_eq_true_eq, decide_eq_false_iff_not, beq_iff_eq, beq_eq_false_iff_ne, ne_eq, bne_iff_ne, Bool.not_eq_true', Bool.not_eq_false', Int.not_lt, Int.not_le, gt_iff_lt, ge_iff_le, bne_eq_false_iff_eq, Bool.not_eq_eq_eq_not, Bool.not_true, Bool.not_false] at c3
          refine ACode.seq ?_
          refine ACode.region' [0, 1] (by kernel_rfl) rfl ?_
          refine aOps_1 rfl rfl rfl (AOp.bin' rfl rfl rfl rfl ?_)
          refine aOps_1 rfl rfl rfl (AOp.move' (.inr rfl) rfl ?_)
          refine aOps_end ?_
          show ACode _ _ _ _ _ _
          refine ACode.cond rfl (fun c4 => ?_) (fun c4 => ?_)
          · try simp only [decide_eq_true_eq, decide_eq_false_iff_not, beq_iff_eq, beq_eq_false_iff_ne, ne_eq, bne_iff_ne, Bool.not_eq_true', Bool.not_eq_false', Int.not_lt, Int.not_le, gt_iff_lt, ge_iff_le, bne_eq_false_iff_eq, Bool.not_eq_eq_eq_not, Bool.not_true, Bool.not_false] at c4
            have hk4 : (plainC c).kind = 4 := c4
            refine ACode.seq ?_
            refine ACode.region' [0, 1, 2] (by kernel_rfl) rfl ?_
            refine aOps_1 rfl rfl rfl (AOp.move' (.inl rfl) rfl ?_)
            refine aOps_1 rfl rfl rfl (AOp.move' (.inr rfl) rfl ?_)
            refine aOps_1 rfl rfl rfl (AOp.move' (.inr rfl) rfl ?_)
            refine aOps_end ?_
            show ACode _ _ _ _ _ _
            refine ACode.ret ?_
            try simp only [thenA, blockA, if_true]
            have e0 : putE (plainC c) = 0 := putE_ok c0n (by omega) (by omega)
            have e1 : putC c = ([byteI c.kind], 0) := by rw [putC_ok e0, bodyC, if_neg (show ¬ (plainC c).kind = 1 by omega), if_neg (show ¬ (plainC c).kind = 2 by omega), if_neg (show ¬ (plainC c).kind = 3 by omega), if_neg (show ¬ (plainC c).kind = 5 by omega)]; (try simp)
            rw [e1]
            exact RetQ.two rfl rfl rfl (sub_refl _) (fun m b h => ⟨b, (show Ab.Sub H _ from by exact subA) m b h⟩) (fun hk => ⟨_, rfl, newS_gb (q := k + 1) hpA (by omega) (by omega), by omega, (fun m hm => by (repeat refine (upd_other _ _ (by omega)).trans ?_); apply_assumption; omega), by exact subA⟩)
          · try simp only [decide_eq_true_eq, decide_eq_false_iff_not, beq_iff_eq, beq_eq_false_iff_ne, ne_eq, bne_iff_ne, Bool.not_eq_true', Bool.not_eq_false', Int.not_lt, Int.not_le, gt_iff_lt, ge_iff_le, bne_eq_false_iff_eq, Bool.not_eq_eq_eq_not, Bool.not_true, Bool.not_false] at c4
            refine ACode.seq ?_
            refine ACode.region' [0, 1] (by kernel_rfl) rfl ?_
            refine aOps_1 rfl rfl rfl (AOp.bin' rfl rfl rfl rfl ?_)
            refine aOps_1 rfl rfl rfl (AOp.move' (.inr rfl) rfl ?_)
            refine aOps_end ?_
            show ACode _ _ _ _ _ _
            refine ACode.cond rfl (fun c5 => ?_) (fun c5 => ?_)
            · try simp only [decide_eq_true_eq, decide_eq_false_iff_not, beq_iff_eq, beq_eq_false_iff_ne, ne_eq, bne_iff_ne, Bool.not_eq_true', Bool.not_eq_false', Int.not_lt, Int.not_le, gt_iff_lt, ge_iff_le, bne_eq_false_iff_eq, Bool.not_eq_eq_eq_not, Bool.not_true, Bool.not_false] at c5
              have hk5 : (plainC c).kind = 5 := c5
              refine ACode.seq ?_
              have hv9 := varB_len (uN (plainC c).fr) (uN_lt _)
              refine ACode.any mixed (by kernel_rfl) ?_
              refine AnyA.float (Hq := (upd (fun _ => none) k (some (cmblk (plainC c).kind (.slice As (plainC c).sch.length cs9) (plainC c).most (.slice Aw9 ws9.length cw9) op col (.slice VA9 vl9 vc9) (.slice VB9 om9 od9) (plainC c).fr (plainC c).to)))) [(0, 50), (1, 51), (2, 52), (3, 53), (5, 55), (6, 56), (7, 57), (10, 3)] [4, 8, 9] (by kernel_rfl) (Nat.le_of_ble_eq_true rfl) (by kernel_rfl) subA ?_
              refine DrawF.q 0 50 [(4, none)] rfl (by kernel_rfl) rfl (fun Hc kq hSb => AOp.move' (.inl rfl) rfl ⟨rfl, rfl, rfl⟩) ?_
              refine DrawF.q 1 51 [(1, none)] rfl (by kernel_rfl) rfl (fun Hc kq hSb => AOp.fieldAddr' rfl (by decide) rfl ⟨rfl, rfl, rfl⟩) ?_
              refine DrawF.q 2 52 [(51, some 1)] rfl (by kernel_rfl) rfl (fun Hc kq hSb => have tSb := SubS.of hSb; (by refine AOp.load1 (b := ?b11) (v := ?v11) rfl rfl ?hn11 ?hv11 ?hR11; (case hn11 => exact hpA); (case hv11 => rfl); exact ⟨rfl, rfl, rfl⟩)) ?_
              refine DrawF.q 3 53 [(52, some 2)] rfl (by kernel_rfl) rfl (fun Hc kq hSb => AOp.convInt rfl rfl ⟨rfl, rfl, rfl⟩) ?_
              rw [uN_cast (plainC c).fr]
              refine DrawF.q 5 55 [(1, none)] rfl (by kernel_rfl) rfl (fun Hc kq hSb => AOp.fieldAddr' rfl (by decide) rfl ⟨rfl, rfl, rfl⟩) ?_
              refine DrawF.q 6 56 [(55, some 5)] rfl (by kernel_rfl) rfl (fun Hc kq hSb => have tSb := SubS.of hSb; (by refine AOp.load1 (b := ?b12) (v := ?v12) rfl rfl ?hn12 ?hv12 ?hR12; (case hn12 => exact hpA); (case hv12 => rfl); exact ⟨rfl, rfl, rfl⟩)) ?_
              refine DrawF.q 7 57 [(56, some 6)] rfl (by kernel_rfl) rfl (fun Hc kq hSb => AOp.convInt rfl rfl ⟨rfl, rfl, rfl⟩) ?_
              rw [uN_cast (plainC c).to]
              refine DrawF.q 10 3 [] rfl (by kernel_rfl) rfl (fun Hc kq hSb => AOp.move' (.inr rfl) rfl ⟨rfl, rfl, rfl⟩) ?_
              refine DrawF.done ?_
              show aOpsF _ _ _ _ _ _ [4, 8, 9] ⟨_, _, _⟩
              refine aOpsF_1 [50, 53] rfl rfl (by kernel_rfl) rfl ?_
              refine AOp.call' rfl rfl rfl (putVar 3 _ _ (k + 1) [byteI c.kind] (uN (plainC c).fr) hpA (uN_lt _) (by show 1 ≤ 1099511627776; decide)) ?_
              rintro _ _ kq4 ⟨rfl, rfl, hkq4⟩
              refine ⟨by exact subA, ?_⟩
              refine aOpsF_1 [54, 57] rfl rfl (by kernel_rfl) rfl ?_
              refine AOp.call' rfl rfl rfl (putVar 3 _ _ (k + 1) ([byteI c.kind] ++ varB (uN (plainC c).fr)) (uN (plainC c).to) hpA (uN_lt _) (by simp only [List.length_append, List.length_cons, List.length_nil]; omega)) ?_
              rintro _ _ kq5 ⟨rfl, rfl, hkq5⟩
              refine ⟨by exact subA, ?_⟩
              refine aOpsF_1 [58] rfl rfl (by kernel_rfl) rfl (AOp.move' (.inr rfl) rfl ?_)
              refine ⟨by exact subA, ?_⟩
              refine aOpsF_end ?_
              show ACode _ _ _ _ _ _
              refine ACode.ret ?_
              try simp only [thenA, blockA, if_true]
              have e0 : putE (plainC c) = 0 := putE_ok c0n (by omega) (by omega)
              have e1 : putC c = ([byteI c.kind] ++ varB (uN (plainC c).fr) ++ varB (uN (plainC c).to), 0) := by rw [putC_ok e0, bodyC, if_neg (show ¬ (plainC c).kind = 1 by omega), if_neg (show ¬ (plainC c).kind = 2 by omega), if_neg (show ¬ (plainC c).kind = 3 by omega), if_pos hk5]; (try simp)
              rw [e1]
              exact RetQ.two rfl rfl rfl (sub_refl _) (fun m b h => ⟨b, (show Ab.Sub H _ from by exact subA) m b h⟩) (fun hk => ⟨_, rfl, newS_gb (q := k + 1) hpA (by omega) (by omega), by omega, (fun m hm => by (repeat refine (upd_other _ _ (by omega)).trans ?_); apply_assumption; omega), by exact subA⟩)
            · try simp only [decide_eq_true_eq, decide_eq_false_iff_not, beq_iff_eq, beq_eq_false_iff_ne, ne_eq, bne_iff_ne, Bool.not_eq_true', Bool.not_eq_false', Int.not_lt, Int.not_le, gt_iff_lt, ge_iff_le, bne_eq_false_iff_eq, Bool.not_eq_eq_eq_not, Bool.not_true, Bool.not_false] at c5
              refine ACode.skip ?_
              show ACode _ _ _ _ _ _
              refine ACode.seq ?_
              refine ACode.region' [0, 1] (by kernel_rfl) rfl ?_
              refine aOps_1 rfl rfl rfl (AOp.move' (.inr rfl) rfl ?_)
              refine aOps_1 rfl rfl rfl (AOp.move' (.inr rfl) rfl ?_)
              refine aOps_end ?_
              show ACode _ _ _ _ _ _
              refine ACode.ret ?_
              try simp only [thenA, blockA, if_true]
              have e1 : putC c = ([], 11) := putC_bad (putE_kind c0n (by omega)) (by decide)
              rw [e1]
              exact RetQ.two rfl rfl rfl (sub_refl _) (fun m b h => ⟨b, (show Ab.Sub H _ from by exact subA) m b h⟩) (fun hk => ⟨_, rfl, NewS.none_, by omega, (fun m hm => by (repeat refine (upd_other _ _ (by omega)).trans ?_); apply_assumption; omega), by exact subA⟩)
end

end Go.Proofs.YteoofihjmldllaaDoor
