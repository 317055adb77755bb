/- Contracts over the abstract states: plain commands. -/
import Derived.Test.YteoofihjmldllaaDoorRP
import Derived.Test.YteoofihjmldllaaDoorRM
set_option linter.unusedVariables false
set_option linter.unusedSimpArgs false
set_option maxRecDepth 100000
namespace Go.Proofs.YteoofihjmldllaaDoor
open Go Go.Ab

section
variable (H : Hp) (k : Nat)

theorem clone_w1 (l : List Val) (h0 : 0 < l.length) (A : Option Addr) (c : Nat) (hA : slcCells H 3 (.slice A l.length c) = some (vals3 l)) (hl : l.length ≤ 1000000) : ACalls Tryd.prog 3 59 [.slice A l.length c] H k (fun v H' k' => NewW H' k k' l v ∧ k ≤ k' ∧ (∀ m, k' ≤ m → H' m = none) ∧ Ab.Sub H H') := by
  refine ACalls.fresh fun hf => ?_
  refine ACalls.body Tryd.func59 rfl (Nat.le_of_ble_eq_true rfl) ?_
  refine ACode.seq ?_
  refine ACode.region' [0] (by kernel_rfl) rfl ?_
  refine aOps_1 rfl rfl rfl (AOp.move' (.inr rfl) rfl ?_)
  refine aOps_end ?_
  show ACode _ _ _ _ _ _
  refine ACode.seq ?_
  refine ACode.seq ?_
  refine ACode.region' [0, 1] (by kernel_rfl) rfl ?_
  refine aOps_1 rfl rfl rfl (AOp.move' (.inl rfl) rfl ?_)
  refine aOps_1 rfl rfl rfl (AOp.eqNilX rfl rfl rfl (fun b hb => ?_))
  rw [hb h0]
  refine aOps_end ?_
  show ACode _ _ _ _ _ _
  refine ACode.cond rfl (fun c0 => absurd c0 (by simp)) (fun c0 => ?_)
  refine ACode.skip ?_
  show ACode _ _ _ _ _ _
  refine ACode.seq ?_
  refine ACode.region' [0, 1, 2, 3] (by kernel_rfl) rfl ?_
  refine aOps_1 rfl rfl rfl (AOp.buildSl (cells := #[]) rfl (by decide) rfl rfl ?_)
  refine aOps_1 rfl rfl rfl (AOp.move' (.inl rfl) rfl ?_)
  refine aOps_1 rfl rfl rfl (AOp.appendN (news := vals3 l) rfl rfl rfl (srcOf_slc (slcCells_sub subA hA)) (by intro ad h; cases h; rfl) h0 srcOk_sl (vals3_one' l) (by omega) (by omega) ?_)
  refine aOps_1 rfl rfl rfl (AOp.move' (.inr rfl) rfl ?_)
  refine aOps_end ?_
  show ACode _ _ _ _ _ _
  refine ACode.ret ?_
  try simp only [thenA, blockA, if_true]
  exact RetQ.one rfl rfl (sub_refl _) (fun n b h => ⟨b, (show Ab.Sub H _ from by exact subA) n b h⟩) (fun hk => ⟨.inr ⟨k + 1, 0, _, rfl, by omega, by omega, upd_same _ _ _, .inr ⟨fun e => by rw [e] at h0; exact absurd h0 (Nat.lt_irrefl _), rfl, rfl⟩⟩, by omega, (fun m hm => (upd_other _ _ (by omega)).trans ((upd_other _ _ (by omega)).trans (hf m (by omega)))), by exact subA⟩)

theorem clone_w (l : List Val) (A : Option Addr) (c : Nat) (hA : slcCells H 3 (.slice A l.length c) = some (vals3 l)) (hl : l.length ≤ 1000000) : ACalls Tryd.prog 3 59 [.slice A l.length c] H k (fun v H' k' => NewW H' k k' l v ∧ k ≤ k' ∧ (∀ m, k' ≤ m → H' m = none) ∧ Ab.Sub H H') := by
  cases l with
  | nil => exact (clone_v H k [] A c hA hl).mono fun v H' k' h => ⟨h.1.w, h.2⟩
  | cons a l => exact clone_w1 H k (a :: l) (Nat.succ_pos _) A c hA hl

theorem plain_c (c : Cm) (ho : c.ok) (xs : Option Addr) (xn : Nat) (xw : Option Addr) (xwn : Nat) (xws : List Value) (xo xc : Int) (xA : Option Addr) (xl xcc : Nat) (xB : Option Addr) (xm xd : Nat) (x1 : SLC H 3 xs c.sch.length xn (cols3 c.sch)) (x2 : SLC H 1 xw xws.length xwn xws) (x3 : Rws H xws c.rows) (x4 : PdV H c.pred (pv xo xc xA xl xcc xB xm xd)) (hz : c.sch.length ≤ 1000 ∧ c.rows.length ≤ 1000 ∧ (∀ r ∈ c.rows, r.length ≤ 1000) ∧ c.pred.tiny) : ACalls Tryd.prog 3 20 [cmv c.kind (.slice xs c.sch.length xn) c.most (.slice xw xws.length xwn) xo xc (.slice xA xl xcc) (.slice xB xm xd) c.fr c.to] H k (fun u H' k' => (∃ s w op col v o, u = cmv (plainC c).kind s (plainC c).most w op col v o (plainC c).fr (plainC c).to ∧ PlV H' k (plainC c) s w op col v o) ∧ k ≤ k' ∧ (∀ m, k' ≤ m → H' m = none) ∧ Ab.Sub H H') := by
  refine ACalls.fresh fun hf => ?_
  refine ACalls.body Tryd.func20 rfl (Nat.le_of_ble_eq_true rfl) ?_
  have hHk := hf k (Nat.le_refl k)
  have hHk1 := hf (k + 1) (Nat.le_succ k)
  have hHk2 := hf (k + 2) (by omega)
  obtain ⟨hz1, hz2, hz3, hz4⟩ := hz
  have hx3 := x3.len
  refine ACode.seq ?_
  refine ACode.region' [0, 1] (by kernel_rfl) rfl ?_
  refine aOps_1 rfl rfl rfl (AOp.boxV rfl rfl ?_)
  refine aOps_1 rfl rfl rfl (AOp.alloc' rfl ?_)
  refine aOps_end ?_
  show ACode _ _ _ _ _ _
  refine ACode.seq ?_
  refine ACode.region' [0, 1, 2, 3, 4] (by kernel_rfl) rfl ?_
  refine aOps_1 rfl rfl rfl (AOp.fieldAddr' rfl (by decide) rfl ?_)
  refine aOps_1 rfl rfl rfl ?_
  refine AOp.load1 (b := ?b1) (v := ?v1) rfl rfl ?hn1 ?hv1 ?hR1
  (case hn1 => exact hpA)
  (case hv1 => rfl)
  refine aOps_1 rfl rfl rfl (AOp.buildS (cells := #[.int .i64 c.kind, NIL, .int .i64 0, NIL, .int .i64 0, .int .i64 0, NIL, NIL, .int .i64 0, .int .i64 0]) rfl rfl rfl ?_)
  refine aOps_1 rfl rfl rfl (AOp.alloc' rfl ?_)
  refine aOps_0 rfl rfl rfl ?_
  refine AOp.storeAll (b := ?b2) rfl rfl rfl ?hn2 ?hk2 rfl ?hw2 ?ho2 ?hl2 ?hR2
  (case hn2 => exact hpA)
  (case hk2 => rfl)
  (case hw2 => first | rfl | (simp; done))
  (case ho2 => first | rfl | decide | (simp; done))
  (case hl2 => first | rfl | (simp; done))
  rw [rd_upd2]
  refine aOps_end ?_
  show ACode _ _ _ _ _ _
  refine ACode.meet (γ := Unit) (fun g => []) [(2, _), (3, _)] (.cons rfl (.cons rfl .nil)) (fun g H' k' => ∃ s w op col v o, H' (k + 2) = some (cmblk (plainC c).kind s (plainC c).most w op col v o (plainC c).fr (plainC c).to) ∧ H' (k + 1) = some (cmblk 0 NIL 0 NIL 0 0 NIL NIL 0 0) ∧ Ab.Sub H H' ∧ k + 3 ≤ k' ∧ PlV H' (k + 3) (plainC c) s w op col v o) ?_ (fun g HLz kz hfLz hXz => ?_)
  · show ACode _ _ _ _ _ _
    refine ACode.seq ?_
    refine ACode.region' [0, 1] (by kernel_rfl) rfl ?_
    refine aOps_1 rfl rfl rfl (AOp.fieldAddr' rfl (by decide) rfl ?_)
    refine aOps_1 rfl rfl rfl ?_
    refine AOp.load1 (b := ?b3) (v := ?v3) rfl rfl ?hn3 ?hv3 ?hR3
    (case hn3 => exact hpA)
    (case hv3 => rfl)
    refine aOps_end ?_
    show ACode _ _ _ _ _ _
    refine ACode.block ?_
    refine ACode.seq ?_
    refine ACode.region' [0, 1] (by kernel_rfl) rfl ?_
    refine aOps_1 rfl rfl rfl (AOp.bin' rfl rfl rfl rfl ?_)
    refine aOps_1 rfl rfl rfl (AOp.move' (.inr rfl) rfl ?_)
    refine aOps_end ?_
    show ACode _ _ _ _ _ _
    refine ACode.cond rfl (fun c0 => ?_) (fun c0 => ?_)
    · try simp only [decide_eq_true_eq, decide_eq_false_iff_not, beq_iff_eq, beq_eq_false_iff_ne, ne_eq, bne_iff_ne, Bool.not_eq_true', Bool.not_eq_false', Int.not_lt, Int.not_le, gt_iff_lt, ge_iff_le, bne_eq_false_iff_eq, Bool.not_eq_eq_eq_not, Bool.not_true, Bool.not_false] at c0
      have hk0 := c0
      refine ACode.any mixed (by kernel_rfl) ?_
      refine AnyA.float (Hq := (upd (fun _ => none) k (some (cmblk c.kind (.slice xs c.sch.length xn) c.most (.slice xw xws.length xwn) xo xc (.slice xA xl xcc) (.slice xB xm xd) c.fr c.to)))) [(0, 13), (1, 14), (3, 16), (4, 17), (5, 18), (7, 19)] [2, 6, 8] (by kernel_rfl) (Nat.le_of_ble_eq_true rfl) (by kernel_rfl) (sub_one hpA) ?_
      refine DrawF.q 0 13 [(1, none)] rfl (by kernel_rfl) rfl (fun Hc kq hSb => AOp.fieldAddr' rfl (by decide) rfl ⟨rfl, rfl, rfl⟩) ?_
      refine DrawF.q 1 14 [(13, some 0)] rfl (by kernel_rfl) rfl (fun Hc kq hSb => have tSb := SubS.of hSb; (by refine AOp.load1 (b := ?b4) (v := ?v4) rfl rfl ?hn4 ?hv4 ?hR4; (case hn4 => exact hpA); (case hv4 => rfl); exact ⟨rfl, rfl, rfl⟩)) ?_
      refine DrawF.q 3 16 [(1, none)] rfl (by kernel_rfl) rfl (fun Hc kq hSb => AOp.fieldAddr' rfl (by decide) rfl ⟨rfl, rfl, rfl⟩) ?_
      refine DrawF.q 4 17 [(16, some 3)] rfl (by kernel_rfl) rfl (fun Hc kq hSb => have tSb := SubS.of hSb; (by refine AOp.load1 (b := ?b5) (v := ?v5) rfl rfl ?hn5 ?hv5 ?hR5; (case hn5 => exact hpA); (case hv5 => rfl); exact ⟨rfl, rfl, rfl⟩)) ?_
      refine DrawF.q 5 18 [(3, none)] rfl (by kernel_rfl) rfl (fun Hc kq hSb => AOp.fieldAddr' rfl (by decide) rfl ⟨rfl, rfl, rfl⟩) ?_
      refine DrawF.q 7 19 [(3, none)] rfl (by kernel_rfl) rfl (fun Hc kq hSb => AOp.fieldAddr' rfl (by decide) rfl ⟨rfl, rfl, rfl⟩) ?_
      refine DrawF.done ?_
      show aOpsF _ _ _ _ _ _ [2, 6, 8] ⟨_, _, _⟩
      refine aOpsF_1 [14] rfl rfl (by kernel_rfl) rfl ?_
      refine AOp.call' rfl rfl rfl (clone_s _ _ c.sch xs xn (slcCells_sub subA x1.cells) (by omega)) ?_
      rintro vs HLc kc ⟨hN, hkc, hfLc, hsLc⟩
      have thsLc := SubS.of hsLc
      obtain ⟨VA, VC, rfl, hVS, hVA⟩ := hN.slc
      have hbc : HLc (k + 2) = some (cmblk c.kind NIL 0 NIL 0 0 NIL NIL 0 0) := hpA
      have hzc : HLc (k + 1) = some (cmblk 0 NIL 0 NIL 0 0 NIL NIL 0 0) := hpA
      have hxc : HLc k = some (cmblk c.kind (.slice xs c.sch.length xn) c.most (.slice xw xws.length xwn) xo xc (.slice xA xl xcc) (.slice xB xm xd) c.fr c.to) := hpA
      have hSc : Ab.Sub H HLc := by exact subA
      refine ⟨by exact subA, ?_⟩
      refine aOpsF_0 [18, 15] rfl rfl (by kernel_rfl) rfl ?_
      refine AOp.store1 (b := ?b6) rfl rfl rfl ?hn6 ?hk6 rfl rfl ?hl6 ?hR6
      (case hn6 => exact hpA)
      (case hk6 => rfl)
      (case hl6 => first | (simp; done) | exact Nat.le_of_ble_eq_true rfl)
      refine ⟨by exact subA, ?_⟩
      refine aOpsF_0 [19, 17] rfl rfl (by kernel_rfl) rfl ?_
      refine AOp.store1 (b := ?b7) rfl rfl rfl ?hn7 ?hk7 rfl rfl ?hl7 ?hR7
      (case hn7 => exact hpA)
      (case hk7 => rfl)
      (case hl7 => first | (simp; done) | exact Nat.le_of_ble_eq_true rfl)
      refine ⟨by exact subA, ?_⟩
      refine aOpsF_end ?_
      have hpl : plainC c = ⟨c.kind, c.sch, c.most, [], pD0, 0, 0⟩ := by unfold plainC; rw [if_pos hk0, hk0]
      first | refine thenA_n ?_ | simp only [thenA, blockA, if_true]
      exact ⟨(), has_append .nil (.cons rfl (.cons rfl .nil)), (by (try dsimp only); exact ⟨_, NIL, 0, 0, NIL, NIL, by rw [hpl]; exact upd_same _ _ _, (upd_other _ _ (by omega)).trans ((upd_other _ _ (by omega)).trans hzc), sub_new (sub_new hSc hHk2) hHk2, by omega, by rw [hpl]; exact ⟨⟨VA, VC, rfl, SLC.cutK (SLC.re hVS (fun a ha => by have := hVA a ha; exact (upd_other _ _ (by omega)).trans (upd_other _ _ (by omega)))) (fun a ha => (hVA a ha).1)⟩, .inl ⟨rfl, rfl⟩, plNil⟩⟩)⟩
    · try simp only [decide_eq_true_eq, decide_eq_false_iff_not, beq_iff_eq, beq_eq_false_iff_ne, ne_eq, bne_iff_ne, Bool.not_eq_true', Bool.not_eq_false', Int.not_lt, Int.not_le, gt_iff_lt, ge_iff_le, bne_eq_false_iff_eq, Bool.not_eq_eq_eq_not, Bool.not_true, Bool.not_false] at c0
      refine ACode.seq ?_
      refine ACode.region' [0, 1] (by kernel_rfl) rfl ?_
      refine aOps_1 rfl rfl rfl (AOp.bin' rfl rfl rfl rfl ?_)
      refine aOps_1 rfl rfl rfl (AOp.move' (.inr rfl) rfl ?_)
      refine aOps_end ?_
      show ACode _ _ _ _ _ _
      refine ACode.cond rfl (fun c1 => ?_) (fun c1 => ?_)
      · try simp only [decide_eq_true_eq, decide_eq_false_iff_not, beq_iff_eq, beq_eq_false_iff_ne, ne_eq, bne_iff_ne, Bool.not_eq_true', Bool.not_eq_false', Int.not_lt, Int.not_le, gt_iff_lt, ge_iff_le, bne_eq_false_iff_eq, Bool.not_eq_eq_eq_not, Bool.not_true, Bool.not_false] at c1
        have hk1 := c1
        refine ACode.seq ?_
        refine ACode.region' [0, 1, 2, 3] (by kernel_rfl) rfl ?_
        refine aOps_1 rfl rfl rfl (AOp.fieldAddr' rfl (by decide) rfl ?_)
        refine aOps_1 rfl rfl rfl ?_
        refine AOp.load1 (b := ?b8) (v := ?v8) rfl rfl ?hn8 ?hv8 ?hR8
        (case hn8 => exact hpA)
        (case hv8 => rfl)
        refine aOps_1 rfl rfl rfl (AOp.len' rfl rfl ?_)
        refine aOps_1 rfl rfl rfl (AOp.move' (.inl rfl) rfl ?_)
        refine aOps_end ?_
        show ACode _ _ _ _ _ _
        refine ACode.block ?_
        refine ACode.adoptC 29 1 (by decide) (n := k + 2) (b := (cmblk c.kind NIL 0 NIL 0 0 NIL NIL 0 0)) (j := 3) hpA rfl rfl ?_
        refine ACode.countG (γ := Hp × List Value) (fun i g => [(25, .int .i64 (i : Int))]) [(1, _), (2, _), (3, _), (10, _), (23, _), (24, _)] (fun i g => g.1) (xws.length) (fun i g => g.1 (k + 3) = some (tblW g.2) ∧ g.1 (k + 2) = some (cmblk c.kind NIL 0 (.slice (some ⟨k + 3, 0, some 1⟩) i i) 0 0 NIL NIL 0 0) ∧ g.1 k = some (cmblk c.kind (.slice xs c.sch.length xn) c.most (.slice xw xws.length xwn) xo xc (.slice xA xl xcc) (.slice xB xm xd) c.fr c.to) ∧ g.1 (k + 1) = some (cmblk 0 NIL 0 NIL 0 0 NIL NIL 0 0) ∧ Ab.Sub H g.1 ∧ g.2.length = i ∧ ∀ j, j < i → FR g.1 (k + 3) (k + 3) (c.rows.getD j []) (g.2.getD j undef)) ((upd (upd (upd (upd (upd H k (some (cmblk c.kind (.slice xs c.sch.length xn) c.most (.slice xw xws.length xwn) xo xc (.slice xA xl xcc) (.slice xB xm xd) c.fr c.to))) (k + 1) (some (cmblk 0 NIL 0 NIL 0 0 NIL NIL 0 0))) (k + 2) (some (cmblk c.kind NIL 0 NIL 0 0 NIL NIL 0 0))) (k + 3) (some (tblW []))) (k + 2) (some (cmblk c.kind NIL 0 (.slice (some ⟨k + 3, 0, some 1⟩) 0 0) 0 0 NIL NIL 0 0)), [])) (.cons rfl .nil) (.cons rfl (.cons rfl (.cons rfl (.cons rfl (.cons rfl (.cons rfl .nil)))))) (by exact sub_refl _) ⟨(upd_other _ _ (by omega)).trans (upd_same _ _ _), upd_same _ _ _, by repeat (first | exact upd_same _ _ _ | refine (upd_other _ _ (by omega)).trans ?_), by repeat (first | exact upd_same _ _ _ | refine (upd_other _ _ (by omega)).trans ?_), sub_new (sub_new (sub_new (sub_new (sub_new (sub_refl H) hHk) hHk1) hHk2) (hf (k + 3) (by omega))) hHk2, rfl, fun j hj => absurd hj (Nat.not_lt_zero j)⟩ (fun i0 g0 kL0 HL0 hiL0 hkL0 hsL0 hfL0 hxL0 => ?_)
        show ACode _ _ _ _ _ ⟨_, _, _⟩
        have tsL0 := SubS.of hsL0
        obtain ⟨x1g, x2g, x3g, x4g, x5g, x6, x7⟩ := hxL0
        have hq0 := hsL0 _ _ x1g
        have hb0 := hsL0 _ _ x2g
        have hx0 := hsL0 _ _ x3g
        have hz0 := hsL0 _ _ x4g
        have hS0 : Ab.Sub H HL0 := sub_trans x5g hsL0
        refine ACode.seq ?_
        refine ACode.region' [0] (by kernel_rfl) rfl ?_
        refine aOps_1 rfl rfl rfl (AOp.bin' rfl rfl rfl rfl ?_)
        refine aOps_end ?_
        show ACode _ _ _ _ _ _
        refine ACode.seq ?_
        refine ACode.cond rfl (fun c2 => ?_) (fun c2 => ?_)
        · try simp only [decide_eq_true_eq, decide_eq_false_iff_not, beq_iff_eq, beq_eq_false_iff_ne, ne_eq, bne_iff_ne, Bool.not_eq_true', Bool.not_eq_false', Int.not_lt, Int.not_le, gt_iff_lt, ge_iff_le, bne_eq_false_iff_eq, Bool.not_eq_eq_eq_not, Bool.not_true, Bool.not_false] at c2
          refine ACode.skip ?_
          show ACode _ _ _ _ _ _
          refine ACode.seq ?_
          refine ACode.block ?_
          refine ACode.seq ?_
          obtain ⟨A1, d1, e1, hc1⟩ := x3.at_ i0 (by omega)
          have hm : (c.rows.getD i0 []) ∈ c.rows := getD_mem (by omega)
          obtain ⟨nE, oE, sE, hqE, hpE⟩ := e1 ▸ slcElV x2.cells (show i0 < xws.length by omega)
          refine ACode.region' [0, 1, 2] (by kernel_rfl) rfl ?_
          refine aOps_1 rfl rfl rfl (AOp.indexP (aslcAt_sub hS0 hqE) rfl rfl rfl ?_)
          refine aOps_1 rfl rfl rfl (AOp.loadP0 (hpE.sub hS0) rfl rfl rfl ?_)
          refine aOps_1 rfl rfl rfl (AOp.move' (.inr rfl) rfl ?_)
          refine aOps_end ?_
          show ACode _ _ _ _ _ _
          refine ACode.any mixed (by kernel_rfl) ?_
          refine AnyA.split 6 (by kernel_rfl) (by kernel_rfl) (by decide) (by decide) (Nat.le_of_ble_eq_true rfl) ?_
          refine AnyA.float (Hq := (upd (fun _ => none) (k + 2) (some (cmblk c.kind NIL 0 (.slice (some ⟨k + 3, 0, some 1⟩) i0 i0) 0 0 NIL NIL 0 0)))) [(0, 29), (1, 30), (2, 31)] [3, 4, 5] (by kernel_rfl) (Nat.le_of_ble_eq_true rfl) (by kernel_rfl) (sub_one hpA) ?_
          refine DrawF.q 0 29 [(3, none)] rfl (by kernel_rfl) rfl (fun Hc kq hSb => AOp.fieldAddr' rfl (by decide) rfl ⟨rfl, rfl, rfl⟩) ?_
          refine DrawF.q 1 30 [(29, some 0)] rfl (by kernel_rfl) rfl (fun Hc kq hSb => have tSb := SubS.of hSb; (by refine AOp.load1 (b := ?b9) (v := ?v9) rfl rfl ?hn9 ?hv9 ?hR9; (case hn9 => exact hpA); (case hv9 => rfl); exact ⟨rfl, rfl, rfl⟩)) ?_
          refine DrawF.q 2 31 [(5, none)] rfl (by kernel_rfl) rfl (fun Hc kq hSb => AOp.move' (.inl rfl) rfl ⟨rfl, rfl, rfl⟩) ?_
          refine DrawF.done ?_
          show aOpsF _ _ _ _ _ _ [3, 4, 5] ⟨_, _, _⟩
          refine aOpsF_1 [31] rfl rfl (by kernel_rfl) rfl ?_
          refine AOp.call' rfl rfl rfl (clone_w _ _ (c.rows.getD i0 []) A1 d1 (slcCells_sub (sub_trans hS0 subA) hc1.cells) (by have := hz3 _ hm; omega)) ?_
          rintro vs HLc kc ⟨hN, hkc, hfLc, hsLc⟩
          have thsLc := SubS.of hsLc
          have hN2 := hN
          obtain ⟨VA, VC, rfl, hVS, hVA⟩ := hN.slc
          have hqc : HLc (k + 3) = some (tblW g0.2) := hpA
          have hbc : HLc (k + 2) = some (cmblk c.kind NIL 0 (.slice (some ⟨k + 3, 0, some 1⟩) i0 i0) 0 0 NIL NIL 0 0) := hpA
          have hzc : HLc (k + 1) = some (cmblk 0 NIL 0 NIL 0 0 NIL NIL 0 0) := hpA
          have hxc : HLc k = some (cmblk c.kind (.slice xs c.sch.length xn) c.most (.slice xw xws.length xwn) xo xc (.slice xA xl xcc) (.slice xB xm xd) c.fr c.to) := hpA
          refine ⟨by exact subA, ?_⟩
          refine aOpsF_1 [32] rfl rfl (by kernel_rfl) rfl (AOp.buildG1 (vals := [_]) rfl (by decide) rfl rfl (by intro u hu; simp at hu; first | (rcases hu with rfl | rfl | rfl <;> rfl) | (rcases hu with rfl | rfl <;> rfl) | (subst hu; rfl) | (rcases hu with rfl | rfl | rfl | rfl <;> rfl)) ?_)
          refine ⟨by exact subA, ?_⟩
          refine aOpsF_1 [30, 33] rfl rfl (by kernel_rfl) rfl (AOp.append' (b := tblW g0.2) (m := 1) (news := [.slice VA ((c.rows.getD i0 [])).length VC]) rfl rfl rfl hpA (srcOf_grow (b := tblW [.slice VA ((c.rows.getD i0 [])).length VC]) hpA rfl rfl) rfl rfl rfl (by rw [x6]; simp) srcOk_sl (by intro u hu; rw [List.mem_singleton.1 hu]; rfl) (by omega) (by omega) ?_)
          refine ⟨by exact subA, ?_⟩
          refine aOpsF_end ?_
          refine AnyA.float (Hq := (fun _ => none)) [] [6, 7] (by kernel_rfl) (Nat.le_of_ble_eq_true rfl) (by kernel_rfl) (sub_none _) ?_
          refine DrawF.done ?_
          show aOpsF _ _ _ _ _ _ [6, 7] ⟨_, _, _⟩
          refine aOpsF_1 [3] rfl rfl (by kernel_rfl) rfl (AOp.fieldAddr' rfl (by decide) rfl ?_)
          refine ⟨sub_none _, ?_⟩
          refine aOpsF_0 [35, 34] rfl rfl (by kernel_rfl) rfl ?_
          refine AOp.store1 (b := ?b10) rfl rfl rfl ?hn10 ?hk10 rfl rfl ?hl10 ?hR10
          (case hn10 => exact hpA)
          (case hk10 => rfl)
          (case hl10 => first | (simp; done) | exact Nat.le_of_ble_eq_true rfl)
          refine ⟨sub_none _, ?_⟩
          refine aOpsF_end ?_
          show ACode _ _ _ _ _ _
          refine ACode.region' [0, 1] (by kernel_rfl) rfl ?_
          refine aOps_1 rfl rfl rfl (AOp.add rfl rfl rfl (i64_wrap (by omega) (by omega)) ?_)
          refine aOps_1 rfl rfl rfl (AOp.move' (.inl rfl) rfl ?_)
          refine aOps_end ?_
          have hmx : ∀ m b, k + 3 ≤ m → m ≠ (k + 3) → g0.1 m = some b → (upd (upd (upd HLc kc (some (tblW [.slice VA ((c.rows.getD i0 [])).length VC]))) (k + 3) (some (tblW (g0.2 ++ [.slice VA ((c.rows.getD i0 [])).length VC])))) (k + 2) (some (cmblk c.kind NIL 0 (.slice (some ⟨k + 3, 0, some 1⟩) (i0 + 1) (i0 + 1)) 0 0 NIL NIL 0 0))) m = some b := fun m b hm hmq hb => by
            have hb2 := hsLc _ _ (hsL0 _ _ hb)
            exact (upd_other _ _ (by omega)).trans ((upd_other _ _ hmq).trans ((upd_other _ _ (fun e => by rw [e, hfLc kc (Nat.le_refl _)] at hb2; cases hb2)).trans hb2))
          have hnew : FR (upd (upd (upd HLc kc (some (tblW [.slice VA ((c.rows.getD i0 [])).length VC]))) (k + 3) (some (tblW (g0.2 ++ [.slice VA ((c.rows.getD i0 [])).length VC])))) (k + 2) (some (cmblk c.kind NIL 0 (.slice (some ⟨k + 3, 0, some 1⟩) (i0 + 1) (i0 + 1)) 0 0 NIL NIL 0 0))) (k + 3) (k + 3) (c.rows.getD i0 []) (.slice VA ((c.rows.getD i0 [])).length VC) := by
            rcases hN2 with ⟨e1, e2⟩ | ⟨q, sp, bb, e1, e2, e3, e4, e5⟩
            · exact .inl ⟨e1, e2⟩
            · exact .inr ⟨q, sp, bb, e1, by omega, by omega, (upd_other _ _ (by omega)).trans ((upd_other _ _ (by omega)).trans ((upd_other _ _ (by omega)).trans e4)), e5⟩
          first | refine thenA_n ?_ | simp only [thenA, blockA, if_true]
          exact NextG.mk (by omega) (by omega) ((upd (upd (upd HLc kc (some (tblW [.slice VA ((c.rows.getD i0 [])).length VC]))) (k + 3) (some (tblW (g0.2 ++ [.slice VA ((c.rows.getD i0 [])).length VC])))) (k + 2) (some (cmblk c.kind NIL 0 (.slice (some ⟨k + 3, 0, some 1⟩) (i0 + 1) (i0 + 1)) 0 0 NIL NIL 0 0)), g0.2 ++ [.slice VA ((c.rows.getD i0 [])).length VC])) (.cons rfl .nil) (.cons rfl (.cons rfl (.cons rfl (.cons rfl (.cons rfl (.cons rfl .nil)))))) (by exact sub_refl _) ⟨(upd_other _ _ (by omega)).trans (upd_same _ _ _), upd_same _ _ _, (upd_other _ _ (by omega)).trans ((upd_other _ _ (by omega)).trans ((upd_other _ _ (by omega)).trans hxc)), (upd_other _ _ (by omega)).trans ((upd_other _ _ (by omega)).trans ((upd_other _ _ (by omega)).trans hzc)), sub_new (sub_new (sub_new (sub_trans hS0 hsLc) (hf _ (by omega))) (hf (k + 3) (by omega))) hHk2, by rw [List.length_append, x6]; rfl, fun j hj => (Nat.lt_or_ge j i0).elim (fun h => by (try dsimp only); rw [getD_app_l (by omega)]; exact FR_keep hmx (x7 j h)) (fun h => by have e9 : j = i0 := (by omega); rw [e9]; (try dsimp only); rw [getD_app_r x6]; exact hnew)⟩
        · try simp only [decide_eq_true_eq, decide_eq_false_iff_not, beq_iff_eq, beq_eq_false_iff_ne, ne_eq, bne_iff_ne, Bool.not_eq_true', Bool.not_eq_false', Int.not_lt, Int.not_le, gt_iff_lt, ge_iff_le, bne_eq_false_iff_eq, Bool.not_eq_eq_eq_not, Bool.not_true, Bool.not_false] at c2
          refine ACode.exit ?_
          have hpl : plainC c = ⟨c.kind, [], 0, c.rows, pD0, 0, 0⟩ := by unfold plainC; rw [if_neg (by omega), if_pos hk1, hk1]
          first | refine thenA_n ?_ | simp only [thenA, blockA, if_true]
          exact ⟨(), has_append .nil (.cons rfl (.cons rfl .nil)), (by (try dsimp only); exact ⟨NIL, _, 0, 0, NIL, NIL, by rw [hpl]; exact hb0, hz0, hS0, by omega, by rw [hpl]; exact ⟨plSch, .inr ⟨(k + 3), g0.2, by rw [x6], by omega, hq0, (by rw [x6]; show i0 = c.rows.length; omega), fun j hj => (x7 j (show j < i0 by have h : j < c.rows.length := hj; omega)).mono (fun m b _ hb => hsL0 m b hb) (Nat.le_refl _)⟩, plNil⟩⟩)⟩
      · try simp only [decide_eq_true_eq, decide_eq_false_iff_not, beq_iff_eq, beq_eq_false_iff_ne, ne_eq, bne_iff_ne, Bool.not_eq_true', Bool.not_eq_false', Int.not_lt, Int.not_le, gt_iff_lt, ge_iff_le, bne_eq_false_iff_eq, Bool.not_eq_eq_eq_not, Bool.not_true, Bool.not_false] at c1
        refine ACode.seq ?_
        refine ACode.region' [0, 1] (by kernel_rfl) rfl ?_
        refine aOps_1 rfl rfl rfl (AOp.bin' rfl rfl rfl rfl ?_)
        refine aOps_1 rfl rfl rfl (AOp.move' (.inr rfl) rfl ?_)
        refine aOps_end ?_
        show ACode _ _ _ _ _ _
        refine ACode.cond rfl (fun c3 => ?_) (fun c3 => ?_)
        · try simp only [decide_eq_true_eq, decide_eq_false_iff_not, beq_iff_eq, beq_eq_false_iff_ne, ne_eq, bne_iff_ne, Bool.not_eq_true', Bool.not_eq_false', Int.not_lt, Int.not_le, gt_iff_lt, ge_iff_le, bne_eq_false_iff_eq, Bool.not_eq_eq_eq_not, Bool.not_true, Bool.not_false] at c3
          have hk3 := c3
          refine ACode.region' [0, 1, 2, 3, 4] (by kernel_rfl) rfl ?_
          refine aOps_1 rfl rfl rfl (AOp.fieldAddr' rfl (by decide) rfl ?_)
          refine aOps_1 rfl rfl rfl (AOp.loadN (b := cmblk c.kind (.slice xs c.sch.length xn) c.most (.slice xw xws.length xwn) xo xc (.slice xA xl xcc) (.slice xB xm xd) c.fr c.to) (cs := [.int .i64 xo, .int .i64 xc, .slice xA xl xcc, .slice xB xm xd]) rfl rfl hpA (by show 4 + 4 ≤ 10; decide) rfl ?_)
          refine aOps_1 rfl rfl rfl ?_
          refine AOp.call' rfl rfl rfl (copy_p _ c.pred _ _ _ (x4.sub subA) hz4 (Nat.lt_succ_self _)) ?_
          rintro u HLp kp ⟨hVp, hkp, hfLp, hsLp⟩
          have thsLp := SubS.of hsLp
          obtain ⟨yo, yc, yA, yl, ycc, yB, ym, yd, rfl⟩ := hVp.form
          have hbp : HLp (k + 2) = some (cmblk c.kind NIL 0 NIL 0 0 NIL NIL 0 0) := hpA
          have hzp : HLp (k + 1) = some (cmblk 0 NIL 0 NIL 0 0 NIL NIL 0 0) := hpA
          have hSp : Ab.Sub H HLp := by exact subA
          refine aOps_1 rfl rfl rfl (AOp.fieldAddr' rfl (by decide) rfl ?_)
          refine aOps_0 rfl rfl rfl ?_
          refine AOp.storeN (b := ?b11) rfl rfl rfl ?hn11 ?hk11 rfl ?ho11 ?hl11 ?hR11
          (case hn11 => exact hpA)
          (case hk11 => rfl)
          (case ho11 => first | rfl | decide | (simp; done) | (simp [Value.oneCell']; done))
          (case hl11 => simp)
          refine aOps_end ?_
          have hpl : plainC c = ⟨c.kind, [], 0, [], c.pred, 0, 0⟩ := by unfold plainC; rw [if_neg (by omega), if_neg (by omega), if_pos hk3, hk3]
          first | refine thenA_n ?_ | simp only [thenA, blockA, if_true]
          exact ⟨(), has_append .nil (.cons rfl (.cons rfl .nil)), (by (try dsimp only); exact ⟨NIL, NIL, yo, yc, _, _, by rw [hpl]; exact upd_same _ _ _, (upd_other _ _ (by omega)).trans hzp, sub_new hSp hHk2, by omega, by rw [hpl]; exact ⟨plSch, .inl ⟨rfl, rfl⟩, yA, yl, ycc, yB, ym, yd, rfl, rfl, hVp.sub (cutH_le (fun m b hm hb => (upd_other _ _ (by omega)).trans hb) (by omega))⟩⟩)⟩
        · try simp only [decide_eq_true_eq, decide_eq_false_iff_not, beq_iff_eq, beq_eq_false_iff_ne, ne_eq, bne_iff_ne, Bool.not_eq_true', Bool.not_eq_false', Int.not_lt, Int.not_le, gt_iff_lt, ge_iff_le, bne_eq_false_iff_eq, Bool.not_eq_eq_eq_not, Bool.not_true, Bool.not_false] at c3
          refine ACode.seq ?_
          refine ACode.region' [0, 1] (by kernel_rfl) rfl ?_
          refine aOps_1 rfl rfl rfl (AOp.bin' rfl rfl rfl rfl ?_)
          refine aOps_1 rfl rfl rfl (AOp.move' (.inr rfl) rfl ?_)
          refine aOps_end ?_
          show ACode _ _ _ _ _ _
          refine ACode.cond rfl (fun c4 => ?_) (fun c4 => ?_)
          · try simp only [decide_eq_true_eq, decide_eq_false_iff_not, beq_iff_eq, beq_eq_false_iff_ne, ne_eq, bne_iff_ne, Bool.not_eq_true', Bool.not_eq_false', Int.not_lt, Int.not_le, gt_iff_lt, ge_iff_le, bne_eq_false_iff_eq, Bool.not_eq_eq_eq_not, Bool.not_true, Bool.not_false] at c4
            have hk4 := c4
            refine ACode.any mixed (by kernel_rfl) ?_
            refine AnyA.float (Hq := (upd (fun _ => none) k (some (cmblk c.kind (.slice xs c.sch.length xn) c.most (.slice xw xws.length xwn) xo xc (.slice xA xl xcc) (.slice xB xm xd) c.fr c.to)))) [(0, 45), (1, 46), (2, 47), (3, 48), (4, 49), (6, 50)] [5, 7] (by kernel_rfl) (Nat.le_of_ble_eq_true rfl) (by kernel_rfl) (sub_one hpA) ?_
            refine DrawF.q 0 45 [(1, none)] rfl (by kernel_rfl) rfl (fun Hc kq hSb => AOp.fieldAddr' rfl (by decide) rfl ⟨rfl, rfl, rfl⟩) ?_
            refine DrawF.q 1 46 [(45, some 0)] rfl (by kernel_rfl) rfl (fun Hc kq hSb => have tSb := SubS.of hSb; (by refine AOp.load1 (b := ?b12) (v := ?v12) rfl rfl ?hn12 ?hv12 ?hR12; (case hn12 => exact hpA); (case hv12 => rfl); exact ⟨rfl, rfl, rfl⟩)) ?_
            refine DrawF.q 2 47 [(1, none)] rfl (by kernel_rfl) rfl (fun Hc kq hSb => AOp.fieldAddr' rfl (by decide) rfl ⟨rfl, rfl, rfl⟩) ?_
            refine DrawF.q 3 48 [(47, some 2)] rfl (by kernel_rfl) rfl (fun Hc kq hSb => have tSb := SubS.of hSb; (by refine AOp.load1 (b := ?b13) (v := ?v13) rfl rfl ?hn13 ?hv13 ?hR13; (case hn13 => exact hpA); (case hv13 => rfl); exact ⟨rfl, rfl, rfl⟩)) ?_
            refine DrawF.q 4 49 [(3, none)] rfl (by kernel_rfl) rfl (fun Hc kq hSb => AOp.fieldAddr' rfl (by decide) rfl ⟨rfl, rfl, rfl⟩) ?_
            refine DrawF.q 6 50 [(3, none)] rfl (by kernel_rfl) rfl (fun Hc kq hSb => AOp.fieldAddr' rfl (by decide) rfl ⟨rfl, rfl, rfl⟩) ?_
            refine DrawF.done ?_
            show aOpsF _ _ _ _ _ _ [5, 7] ⟨_, _, _⟩
            refine aOpsF_0 [49, 46] rfl rfl (by kernel_rfl) rfl ?_
            refine AOp.store1 (b := ?b14) rfl rfl rfl ?hn14 ?hk14 rfl rfl ?hl14 ?hR14
            (case hn14 => exact hpA)
            (case hk14 => rfl)
            (case hl14 => first | (simp; done) | exact Nat.le_of_ble_eq_true rfl)
            refine ⟨by exact subA, ?_⟩
            refine aOpsF_0 [50, 48] rfl rfl (by kernel_rfl) rfl ?_
            refine AOp.store1 (b := ?b15) rfl rfl rfl ?hn15 ?hk15 rfl rfl ?hl15 ?hR15
            (case hn15 => exact hpA)
            (case hk15 => rfl)
            (case hl15 => first | (simp; done) | exact Nat.le_of_ble_eq_true rfl)
            refine ⟨by exact subA, ?_⟩
            refine aOpsF_end ?_
            have hpl : plainC c = ⟨c.kind, [], 0, [], pD0, c.fr, c.to⟩ := by unfold plainC; rw [if_neg (by omega), if_neg (by omega), if_neg (by omega), if_pos hk4, hk4]
            first | refine thenA_n ?_ | simp only [thenA, blockA, if_true]
            exact ⟨(), has_append .nil (.cons rfl (.cons rfl .nil)), (by (try dsimp only); exact ⟨NIL, NIL, 0, 0, NIL, NIL, by rw [hpl]; exact upd_same _ _ _, hpA, by exact subA, by omega, by rw [hpl]; exact ⟨plSch, .inl ⟨rfl, rfl⟩, plNil⟩⟩)⟩
          · try simp only [decide_eq_true_eq, decide_eq_false_iff_not, beq_iff_eq, beq_eq_false_iff_ne, ne_eq, bne_iff_ne, Bool.not_eq_true', Bool.not_eq_false', Int.not_lt, Int.not_le, gt_iff_lt, ge_iff_le, bne_eq_false_iff_eq, Bool.not_eq_eq_eq_not, Bool.not_true, Bool.not_false] at c4
            refine ACode.skip ?_
            have hpl : plainC c = cmD c.kind := by unfold plainC; rw [if_neg (by omega), if_neg (by omega), if_neg (by omega), if_neg (by omega)]
            first | refine thenA_n ?_ | simp only [thenA, blockA, if_true]
            exact ⟨(), has_append .nil (.cons rfl (.cons rfl .nil)), (by (try dsimp only); exact ⟨NIL, NIL, 0, 0, NIL, NIL, by rw [hpl]; exact upd_same _ _ _, hpA, by exact subA, by omega, by rw [hpl]; exact ⟨plSch, .inl ⟨rfl, rfl⟩, plNil⟩⟩)⟩
  · show ACode _ _ _ _ _ ⟨_, _, _⟩
    obtain ⟨s, w, op, col, v, o, hb9, hz9, hS9, hk9, hP9⟩ := hXz
    have hP9b := hP9
    obtain ⟨⟨As, cs9, rfl, hs9⟩, hw9, VA9, vl9, vc9, VB9, om9, od9, rfl, rfl, hp9⟩ := hP9b
    obtain ⟨Aw9, cw9, ws9, rfl, hw91, hw92⟩ := hw9.slc
    refine ACode.seq ?_
    refine ACode.region' [0, 1] (by kernel_rfl) rfl ?_
    refine aOps_1 rfl rfl rfl ?_
    refine AOp.loadAll (b := ?b16) (v := cmv (plainC c).kind (.slice As (plainC c).sch.length cs9) (plainC c).most (.slice Aw9 ws9.length cw9) op col (.slice VA9 vl9 vc9) (.slice VB9 om9 od9) (plainC c).fr (plainC c).to) rfl rfl ?hn16 ?hv16 ?hw16 ?hz16 ?hR16
    (case hn16 => exact hpA)
    (case hv16 => rfl)
    (case hw16 => rfl)
    (case hz16 => first | rfl | (simp; done))
    refine aOps_0 rfl rfl rfl ?_
    refine AOp.storeAll (b := ?b17) rfl rfl rfl ?hn17 ?hk17 rfl ?hw17 ?ho17 ?hl17 ?hR17
    (case hn17 => exact hpA)
    (case hk17 => rfl)
    (case hw17 => first | rfl | (simp; done))
    (case ho17 => first | rfl | decide | (simp; done))
    (case hl17 => first | rfl | (simp; done))
    try rw [rd_upd2]
    refine aOps_end ?_
    show ACode _ _ _ _ _ _
    refine ACode.ret ?_
    try simp only [thenA, blockA, if_true]
    exact RetQ.cell rfl rfl (aloadAll (b := cmblk (plainC c).kind (.slice As (plainC c).sch.length cs9) (plainC c).most (.slice Aw9 ws9.length cw9) op col (.slice VA9 vl9 vc9) (.slice VB9 om9 od9) (plainC c).fr (plainC c).to) (v := cmv (plainC c).kind (.slice As (plainC c).sch.length cs9) (plainC c).most (.slice Aw9 ws9.length cw9) op col (.slice VA9 vl9 vc9) (.slice VB9 om9 od9) (plainC c).fr (plainC c).to) (upd_same _ _ _) rfl rfl rfl) (sub_refl _) (fun m b h => ⟨b, sub_new hS9 hHk1 m b h⟩) (fun hk => ⟨⟨_, _, op, col, _, _, rfl, hP9.mono (fun m b hm hb => (upd_other _ _ (by omega)).trans hb) (by omega)⟩, by omega, (fun m hm => (upd_other _ _ (by omega)).trans (hfLz m (by omega))), sub_new hS9 hHk1⟩)
end

end Go.Proofs.YteoofihjmldllaaDoor
