/- Contracts over the abstract states: the first state; a block taken in. -/
import Derived.Test.YtipaiielkpifoaaDoorS1
set_option linter.unusedVariables false
set_option linter.unusedSimpArgs false
set_option maxRecDepth 100000
namespace Go.Proofs.YtipaiielkpifoaaDoor
open Go Go.Ab

section
variable (NG : Nat) (H : Hp) (k : Nat)
abbrev sblk (s : S8) : Blk := wblk 110 s.l
abbrev s8v (s : S8) : Value := aw s.l
abbrev tabBlk : Blk := { cells := kTab.map wv, elem := 118, kind := .ro }
def mixL (s x : S8) (i : Nat) : List W32 := (addS s x).l.take i ++ s.l.drop i
theorem mix_len (s x : S8) : ∀ i, i ≤ 8 → (mixL s x i).length = 8
  | 0, _ | 1, _ | 2, _ | 3, _ | 4, _ | 5, _ | 6, _ | 7, _ | 8, _ => rfl
theorem mix_set (s x : S8) : ∀ i, i < 8 → (mixL s x i).set i ((mixL s x i).getD i 0 + x.l.getD i 0) = mixL s x (i + 1)
  | 0, _ | 1, _ | 2, _ | 3, _ | 4, _ | 5, _ | 6, _ | 7, _ => rfl

theorem first_s : ACalls Tryd.prog NG 92 [] H k (Same H k (s8v first8)) := by
  refine ACalls.fresh fun hf => ?_
  refine ACalls.body Tryd.func92 rfl (Nat.le_of_ble_eq_true rfl) ?_
  refine ACode.seq ?_
  refine ACode.region' [0] (by kernel_rfl) rfl ?_
  refine aOps_1 rfl rfl rfl (AOp.alloc' rfl ?_)
  refine aOps_end ?_
  show ACode _ _ _ _ _ _
  refine ACode.seq ?_
  refine ACode.region' [0, 1] (by kernel_rfl) rfl ?_
  refine aOps_1 rfl rfl rfl (AOp.buildA1 (vals := [1779033703#32, 3144134277#32, 1013904242#32, 2773480762#32, 1359893119#32, 2600822924#32, 528734635#32, 1541459225#32].map wv) rfl rfl rfl (wv_ones _) ?_)
  refine aOps_0 rfl rfl rfl ?_
  refine AOp.storeAll (b := ?b1) rfl rfl rfl ?hn1 ?hk1 rfl ?hw1 ?ho1 ?hl1 ?hR1
  (case hn1 => repeat (first | assumption | exact upd_same _ _ _ | refine (upd_other _ _ (by omega)).trans ?_))
  (case hk1 => rfl)
  (case hw1 => first | rfl | exact (aw_size _).trans hwl | exact one_wv _ | exact one_bv _ | (simp; done))
  (case ho1 => first | rfl | exact (aw_size _).trans hwl | exact one_wv _ | exact one_bv _ | decide | (simp; done))
  (case hl1 => first | rfl | exact (aw_size _).trans hwl | exact one_wv _ | exact one_bv _ | (simp; done))
  refine aOps_end ?_
  show ACode _ _ _ _ _ _
  refine ACode.ret ?_
  exact RetQ.cell rfl rfl (aloadAll (b := sblk first8) (v := s8v first8) (upd_same _ _ _) rfl rfl rfl) (by (repeat (first | exact sub_refl _ | assumption | refine sub_upd' ?_ (by ((repeat refine (upd_other _ _ (by omega)).trans ?_); first | exact hf _ (by omega))) | refine sub_over (by assumption) | refine sub_over0 ?_ | refine sub_trans (sub_same (by assumption)) ?_ | refine sub_dropu ?_ | refine sub_drop ?_ | refine sub_put ?_ (by repeat (first | assumption | exact upd_same _ _ _ | refine (upd_other _ _ (by omega)).trans ?_))))) stays (fun hk => ⟨rfl, rfl, by omega⟩)

theorem take_s (ht : H 0 = some tabBlk) (n : Nat) (s : S8) (b : List UInt8) (A : Option Addr) (c : Nat) (hn : H n = some (sblk s)) (hs : SLC H 1 A 64 c (b.map bv)) (hl : b.length = 64) : ACalls Tryd.prog 1 93 [ptr n 0 none, .slice A 64 c] H k (fun r H' k' => r = .tuple #[] ∧ H' = upd H n (some (sblk (step8 s b))) ∧ k ≤ k') := by
  refine ACalls.fresh fun hf => ?_
  refine ACalls.body Tryd.func93 rfl (Nat.le_of_ble_eq_true rfl) ?_
  have hnk := old_lt hf hn
  have hwl := wTo_len b 64
  have hstep : step8 s b = addS s (rTo (wTo b 64) s 64) := rfl
  rw [hstep]
  have hcall := words_w 1 H k b A c hs hl
  generalize wTo b 64 = W at *
  clear hstep
  refine ACode.seq ?_
  refine ACode.region' [0, 1, 2, 3] (by kernel_rfl) rfl ?_
  refine aOps_1 rfl rfl rfl (AOp.move' (.inl rfl) rfl ?_)
  refine aOps_q rfl rfl rfl (AOp.call' rfl rfl rfl (hcall) (fun _ _ _ h => h)) (fun kq hkq => ?_)
  refine aOps_1 rfl rfl rfl (AOp.alloc' rfl ?_)
  refine aOps_0 rfl rfl rfl ?_
  refine AOp.storeAll (b := ?b2) rfl rfl rfl ?hn2 ?hk2 rfl ?hw2 ?ho2 ?hl2 ?hR2
  (case hn2 => repeat (first | assumption | exact upd_same _ _ _ | refine (upd_other _ _ (by omega)).trans ?_))
  (case hk2 => rfl)
  (case hw2 => first | rfl | exact (aw_size _).trans hwl | exact one_wv _ | exact one_bv _ | (simp; done))
  (case ho2 => first | rfl | exact (aw_size _).trans hwl | exact one_wv _ | exact one_bv _ | decide | (simp; done))
  (case hl2 => first | rfl | exact (aw_size _).trans hwl | exact one_wv _ | exact one_bv _ | (simp; done))
  refine aOps_end ?_
  show ACode _ _ _ _ _ _
  refine ACode.seq ?_
  refine ACode.region' [0, 1, 2, 3, 4] (by kernel_rfl) rfl ?_
  refine aOps_1 rfl rfl rfl (AOp.move' (.inl rfl) rfl ?_)
  refine aOps_1 rfl rfl rfl (AOp.nilCheck' rfl rfl ?_)
  refine aOps_1 rfl rfl rfl (AOp.loadAll (b := sblk s) (v := s8v s) rfl rfl (by repeat (first | assumption | exact upd_same _ _ _ | refine (upd_other _ _ (by omega)).trans ?_)) rfl rfl rfl ?_)
  refine aOps_1 rfl rfl rfl (AOp.alloc' rfl ?_)
  refine aOps_0 rfl rfl rfl ?_
  refine AOp.storeAll (b := ?b3) rfl rfl rfl ?hn3 ?hk3 rfl ?hw3 ?ho3 ?hl3 ?hR3
  (case hn3 => repeat (first | assumption | exact upd_same _ _ _ | refine (upd_other _ _ (by omega)).trans ?_))
  (case hk3 => rfl)
  (case hw3 => first | rfl | exact (aw_size _).trans hwl | exact one_wv _ | exact one_bv _ | (simp; done))
  (case ho3 => first | rfl | exact (aw_size _).trans hwl | exact one_wv _ | exact one_bv _ | decide | (simp; done))
  (case hl3 => first | rfl | exact (aw_size _).trans hwl | exact one_wv _ | exact one_bv _ | (simp; done))
  refine aOps_end ?_
  show ACode _ _ _ _ _ _
  refine ACode.seq ?_
  refine ACode.seq ?_
  refine ACode.region' [0, 1] (by kernel_rfl) rfl ?_
  refine aOps_1 rfl rfl rfl (AOp.loadAll (b := tabBlk) (v := aw kTab) rfl rfl (by repeat (first | assumption | exact upd_same _ _ _ | refine (upd_other _ _ (by omega)).trans ?_)) rfl rfl rfl ?_)
  refine aOps_1 rfl rfl rfl (AOp.move' (.inl rfl) rfl ?_)
  refine aOps_end ?_
  show ACode _ _ _ _ _ _
  refine ACode.block ?_
  refine ACode.count (fun i => [(19, .int .i64 (i : Int))]) [(0, _), (1, _), (4, _), (5, _), (13, _), (14, _), (15, _), (16, _), (17, _), (18, _)] (fun i => upd (upd H kq (some (wblk 118 W))) (kq + 1) (some (sblk (rTo W s i)))) (64) (fun _ => True) (.cons rfl .nil) (.cons rfl (.cons rfl (.cons rfl (.cons rfl (.cons rfl (.cons rfl (.cons rfl (.cons rfl (.cons rfl (.cons rfl .nil)))))))))) (by (repeat (first | exact sub_refl _ | assumption | refine sub_upd' ?_ (by ((repeat refine (upd_other _ _ (by omega)).trans ?_); first | exact hf _ (by omega))) | refine sub_over (by assumption) | refine sub_over0 ?_ | refine sub_trans (sub_same (by assumption)) ?_ | refine sub_dropu ?_ | refine sub_drop ?_ | refine sub_put ?_ (by repeat (first | assumption | exact upd_same _ _ _ | refine (upd_other _ _ (by omega)).trans ?_))))) trivial (fun i0 kL0 HL0 hiL0 hkL0 hsL0 hfL0 hxL0 => ?_)
  show ACode _ _ _ _ _ ⟨_, _, _⟩
  refine ACode.seq ?_
  refine ACode.region' [0] (by kernel_rfl) rfl ?_
  refine aOps_1 rfl rfl rfl (AOp.bin' rfl rfl rfl rfl ?_)
  refine aOps_end ?_
  show ACode _ _ _ _ _ _
  refine ACode.seq ?_
  refine ACode.cond rfl (fun c0 => ?_) (fun c0 => ?_)
  · try simp only [decide_eq_true_eq, decide_eq_false_iff_not, beq_iff_eq, beq_eq_false_iff_ne, ne_eq, bne_iff_ne, Bool.not_eq_true', Bool.not_eq_false', Int.not_lt, Int.not_le, gt_iff_lt, ge_iff_le, bne_eq_false_iff_eq, Bool.not_eq_eq_eq_not, Bool.not_true, Bool.not_false] at c0
    refine ACode.skip ?_
    show ACode _ _ _ _ _ _
    refine ACode.seq ?_
    refine ACode.block ?_
    refine ACode.seq ?_
    refine ACode.region' [0, 1, 2, 3] (by kernel_rfl) rfl ?_
    refine aOps_1 rfl rfl rfl (AOp.move' (.inl rfl) rfl ?_)
    refine aOps_1 rfl rfl rfl (AOp.indexM wv (kTab) 0 (by show i0 < 64; omega) rfl rfl rfl rfl ?_)
    refine aOps_1 rfl rfl rfl (AOp.move' (.inr rfl) rfl ?_)
    refine aOps_1 rfl rfl rfl (AOp.move' (.inr rfl) rfl ?_)
    refine aOps_end ?_
    show ACode _ _ _ _ _ _
    refine ACode.seq ?_
    have h64 : i0 < 64 := by omega
    refine ACode.draw' 6 [(0, 23), (1, 24), (2, 25), (3, 26), (4, 8), (5, 9)] mixed (by kernel_rfl) ?_
    refine Draw.step [(5, none)] rfl (by kernel_rfl) rfl (fun kq hkq => AOp.indexAddr_arr' rfl rfl rfl (by omega) (by omega) ⟨rfl, rfl, Nat.le_refl _⟩) ?_
    refine Draw.step [(23, some 0)] rfl (by kernel_rfl) rfl (fun kq hkq => (by refine AOp.load1 (b := ?b4) (v := ?v4) rfl rfl ?hn4 ?hv4 ?hR4; (case hn4 => repeat (first | assumption | exact upd_same _ _ _ | refine (upd_other _ _ (by omega)).trans ?_ | refine hsL0 _ _ ?_)); (case hv4 => rfl); exact ⟨rfl, rfl, Nat.le_refl _⟩)) ?_
    refine Draw.step [(5, none)] rfl (by kernel_rfl) rfl (fun kq hkq => AOp.indexAddr_arr' rfl rfl rfl (by omega) (by omega) ⟨rfl, rfl, Nat.le_refl _⟩) ?_
    refine Draw.step [(25, some 2)] rfl (by kernel_rfl) rfl (fun kq hkq => (by refine AOp.load1 (b := ?b5) (v := ?v5) rfl rfl ?hn5 ?hv5 ?hR5; (case hn5 => repeat (first | assumption | exact upd_same _ _ _ | refine (upd_other _ _ (by omega)).trans ?_ | refine hsL0 _ _ ?_)); (case hv5 => rfl); exact ⟨rfl, rfl, Nat.le_refl _⟩)) ?_
    refine Draw.step [(24, some 1)] rfl (by kernel_rfl) rfl (fun kq hkq => AOp.move' (.inr rfl) rfl ⟨rfl, rfl, Nat.le_refl _⟩) ?_
    refine Draw.step [(26, some 3)] rfl (by kernel_rfl) rfl (fun kq hkq => AOp.move' (.inr rfl) rfl ⟨rfl, rfl, Nat.le_refl _⟩) ?_
    refine Draw.done fun kq hkq => ?_
    show aOps _ _ _ _ [] ⟨_, _, _⟩
    refine aOps_end ?_
    show ACode _ _ _ _ _ _
    refine ACode.seq ?_
    refine ACode.draw' 29 [(0, 27), (1, 28), (2, 29), (3, 30), (4, 31), (5, 32), (6, 33), (7, 34), (8, 35), (9, 36), (10, 37), (11, 38), (12, 39), (13, 40), (14, 41), (15, 42), (16, 43), (17, 44), (18, 45), (19, 46), (20, 47), (21, 48), (22, 49), (23, 50), (24, 51), (25, 52), (26, 53), (27, 54), (28, 10)] mixed (by kernel_rfl) ?_
    refine Draw.step [(5, none)] rfl (by kernel_rfl) rfl (fun kq hkq => AOp.indexAddr_arr' rfl rfl rfl (by omega) (by omega) ⟨rfl, rfl, Nat.le_refl _⟩) ?_
    refine Draw.step [(27, some 0)] rfl (by kernel_rfl) rfl (fun kq hkq => (by refine AOp.load1 (b := ?b6) (v := ?v6) rfl rfl ?hn6 ?hv6 ?hR6; (case hn6 => repeat (first | assumption | exact upd_same _ _ _ | refine (upd_other _ _ (by omega)).trans ?_ | refine hsL0 _ _ ?_)); (case hv6 => rfl); exact ⟨rfl, rfl, Nat.le_refl _⟩)) ?_
    refine Draw.step [(9, none)] rfl (by kernel_rfl) rfl (fun kq hkq => AOp.move' (.inl rfl) rfl ⟨rfl, rfl, Nat.le_refl _⟩) ?_
    refine Draw.step [(29, some 2)] rfl (by kernel_rfl) rfl (fun kq hkq => AOp.call' rfl rfl rfl (turn_w 1 _ _ ((rTo W s i0).e) 6 (by decide) (by decide)) (fun _ _ _ h => h)) ?_
    refine Draw.step [(9, none)] rfl (by kernel_rfl) rfl (fun kq hkq => AOp.move' (.inl rfl) rfl ⟨rfl, rfl, Nat.le_refl _⟩) ?_
    refine Draw.step [(31, some 4)] rfl (by kernel_rfl) rfl (fun kq hkq => AOp.call' rfl rfl rfl (turn_w 1 _ _ ((rTo W s i0).e) 11 (by decide) (by decide)) (fun _ _ _ h => h)) ?_
    refine Draw.step [(30, some 3), (32, some 5)] rfl (by kernel_rfl) rfl (fun kq hkq => AOp.wxor rfl rfl rfl ⟨rfl, rfl, Nat.le_refl _⟩) ?_
    refine Draw.step [(9, none)] rfl (by kernel_rfl) rfl (fun kq hkq => AOp.move' (.inl rfl) rfl ⟨rfl, rfl, Nat.le_refl _⟩) ?_
    refine Draw.step [(34, some 7)] rfl (by kernel_rfl) rfl (fun kq hkq => AOp.call' rfl rfl rfl (turn_w 1 _ _ ((rTo W s i0).e) 25 (by decide) (by decide)) (fun _ _ _ h => h)) ?_
    refine Draw.step [(33, some 6), (35, some 8)] rfl (by kernel_rfl) rfl (fun kq hkq => AOp.wxor rfl rfl rfl ⟨rfl, rfl, Nat.le_refl _⟩) ?_
    refine Draw.step [(28, some 1), (36, some 9)] rfl (by kernel_rfl) rfl (fun kq hkq => AOp.wadd rfl rfl rfl ⟨rfl, rfl, Nat.le_refl _⟩) ?_
    refine Draw.step [(9, none)] rfl (by kernel_rfl) rfl (fun kq hkq => AOp.move' (.inl rfl) rfl ⟨rfl, rfl, Nat.le_refl _⟩) ?_
    refine Draw.step [(5, none)] rfl (by kernel_rfl) rfl (fun kq hkq => AOp.indexAddr_arr' rfl rfl rfl (by omega) (by omega) ⟨rfl, rfl, Nat.le_refl _⟩) ?_
    refine Draw.step [(39, some 12)] rfl (by kernel_rfl) rfl (fun kq hkq => (by refine AOp.load1 (b := ?b7) (v := ?v7) rfl rfl ?hn7 ?hv7 ?hR7; (case hn7 => repeat (first | assumption | exact upd_same _ _ _ | refine (upd_other _ _ (by omega)).trans ?_ | refine hsL0 _ _ ?_)); (case hv7 => rfl); exact ⟨rfl, rfl, Nat.le_refl _⟩)) ?_
    refine Draw.step [(38, some 11), (40, some 13)] rfl (by kernel_rfl) rfl (fun kq hkq => AOp.wand rfl rfl rfl ⟨rfl, rfl, Nat.le_refl _⟩) ?_
    refine Draw.step [(9, none)] rfl (by kernel_rfl) rfl (fun kq hkq => AOp.move' (.inl rfl) rfl ⟨rfl, rfl, Nat.le_refl _⟩) ?_
    refine Draw.step [(42, some 15)] rfl (by kernel_rfl) rfl (fun kq hkq => AOp.wnot rfl rfl ⟨rfl, rfl, Nat.le_refl _⟩) ?_
    refine Draw.step [(5, none)] rfl (by kernel_rfl) rfl (fun kq hkq => AOp.indexAddr_arr' rfl rfl rfl (by omega) (by omega) ⟨rfl, rfl, Nat.le_refl _⟩) ?_
    refine Draw.step [(44, some 17)] rfl (by kernel_rfl) rfl (fun kq hkq => (by refine AOp.load1 (b := ?b8) (v := ?v8) rfl rfl ?hn8 ?hv8 ?hR8; (case hn8 => repeat (first | assumption | exact upd_same _ _ _ | refine (upd_other _ _ (by omega)).trans ?_ | refine hsL0 _ _ ?_)); (case hv8 => rfl); exact ⟨rfl, rfl, Nat.le_refl _⟩)) ?_
    refine Draw.step [(43, some 16), (45, some 18)] rfl (by kernel_rfl) rfl (fun kq hkq => AOp.wand rfl rfl rfl ⟨rfl, rfl, Nat.le_refl _⟩) ?_
    refine Draw.step [(41, some 14), (46, some 19)] rfl (by kernel_rfl) rfl (fun kq hkq => AOp.wxor rfl rfl rfl ⟨rfl, rfl, Nat.le_refl _⟩) ?_
    refine Draw.step [(37, some 10), (47, some 20)] rfl (by kernel_rfl) rfl (fun kq hkq => AOp.wadd rfl rfl rfl ⟨rfl, rfl, Nat.le_refl _⟩) ?_
    refine Draw.step [(7, none)] rfl (by kernel_rfl) rfl (fun kq hkq => AOp.move' (.inl rfl) rfl ⟨rfl, rfl, Nat.le_refl _⟩) ?_
    refine Draw.step [(48, some 21), (49, some 22)] rfl (by kernel_rfl) rfl (fun kq hkq => AOp.wadd rfl rfl rfl ⟨rfl, rfl, Nat.le_refl _⟩) ?_
    refine Draw.step [(6, none)] rfl (by kernel_rfl) rfl (fun kq hkq => AOp.move' (.inl rfl) rfl ⟨rfl, rfl, Nat.le_refl _⟩) ?_
    refine Draw.step [(4, none), (51, some 24)] rfl (by kernel_rfl) rfl (fun kq hkq => AOp.indexA (by omega) rfl rfl rfl ⟨rfl, rfl, Nat.le_refl _⟩) ?_
    refine Draw.step [(52, some 25)] rfl (by kernel_rfl) rfl (fun kq hkq => (by refine AOp.loadM wv (W) 0 (b := ?b9) ?hn9 ?hv9 ?hw9 rfl rfl ?hR9; (case hn9 => repeat (first | assumption | exact upd_same _ _ _ | refine (upd_other _ _ (by omega)).trans ?_ | refine hsL0 _ _ ?_)); (case hv9 => rfl); (case hw9 => exact (by rw [hwl]; omega)); exact ⟨rfl, rfl, Nat.le_refl _⟩)) ?_
    refine Draw.step [(50, some 23), (53, some 26)] rfl (by kernel_rfl) rfl (fun kq hkq => AOp.wadd rfl rfl rfl ⟨rfl, rfl, Nat.le_refl _⟩) ?_
    refine Draw.step [(54, some 27)] rfl (by kernel_rfl) rfl (fun kq hkq => AOp.move' (.inr rfl) rfl ⟨rfl, rfl, Nat.le_refl _⟩) ?_
    refine Draw.done fun kq hkq => ?_
    show aOps _ _ _ _ [] ⟨_, _, _⟩
    refine aOps_end ?_
    show ACode _ _ _ _ _ _
    refine ACode.seq ?_
    refine ACode.draw' 25 [(0, 55), (1, 56), (2, 57), (3, 58), (4, 59), (5, 60), (6, 61), (7, 62), (8, 63), (9, 64), (10, 65), (11, 66), (12, 67), (13, 68), (14, 69), (15, 70), (16, 71), (17, 72), (18, 73), (19, 74), (20, 75), (21, 76), (22, 77), (23, 78), (24, 11)] mixed (by kernel_rfl) ?_
    refine Draw.step [(8, none)] rfl (by kernel_rfl) rfl (fun kq hkq => AOp.move' (.inl rfl) rfl ⟨rfl, rfl, Nat.le_refl _⟩) ?_
    refine Draw.step [(55, some 0)] rfl (by kernel_rfl) rfl (fun kq hkq => AOp.call' rfl rfl rfl (turn_w 1 _ _ ((rTo W s i0).a) 2 (by decide) (by decide)) (fun _ _ _ h => h)) ?_
    refine Draw.step [(8, none)] rfl (by kernel_rfl) rfl (fun kq hkq => AOp.move' (.inl rfl) rfl ⟨rfl, rfl, Nat.le_refl _⟩) ?_
    refine Draw.step [(57, some 2)] rfl (by kernel_rfl) rfl (fun kq hkq => AOp.call' rfl rfl rfl (turn_w 1 _ _ ((rTo W s i0).a) 13 (by decide) (by decide)) (fun _ _ _ h => h)) ?_
    refine Draw.step [(56, some 1), (58, some 3)] rfl (by kernel_rfl) rfl (fun kq hkq => AOp.wxor rfl rfl rfl ⟨rfl, rfl, Nat.le_refl _⟩) ?_
    refine Draw.step [(8, none)] rfl (by kernel_rfl) rfl (fun kq hkq => AOp.move' (.inl rfl) rfl ⟨rfl, rfl, Nat.le_refl _⟩) ?_
    refine Draw.step [(60, some 5)] rfl (by kernel_rfl) rfl (fun kq hkq => AOp.call' rfl rfl rfl (turn_w 1 _ _ ((rTo W s i0).a) 22 (by decide) (by decide)) (fun _ _ _ h => h)) ?_
    refine Draw.step [(59, some 4), (61, some 6)] rfl (by kernel_rfl) rfl (fun kq hkq => AOp.wxor rfl rfl rfl ⟨rfl, rfl, Nat.le_refl _⟩) ?_
    refine Draw.step [(8, none)] rfl (by kernel_rfl) rfl (fun kq hkq => AOp.move' (.inl rfl) rfl ⟨rfl, rfl, Nat.le_refl _⟩) ?_
    refine Draw.step [(5, none)] rfl (by kernel_rfl) rfl (fun kq hkq => AOp.indexAddr_arr' rfl rfl rfl (by omega) (by omega) ⟨rfl, rfl, Nat.le_refl _⟩) ?_
    refine Draw.step [(64, some 9)] rfl (by kernel_rfl) rfl (fun kq hkq => (by refine AOp.load1 (b := ?b10) (v := ?v10) rfl rfl ?hn10 ?hv10 ?hR10; (case hn10 => repeat (first | assumption | exact upd_same _ _ _ | refine (upd_other _ _ (by omega)).trans ?_ | refine hsL0 _ _ ?_)); (case hv10 => rfl); exact ⟨rfl, rfl, Nat.le_refl _⟩)) ?_
    refine Draw.step [(63, some 8), (65, some 10)] rfl (by kernel_rfl) rfl (fun kq hkq => AOp.wand rfl rfl rfl ⟨rfl, rfl, Nat.le_refl _⟩) ?_
    refine Draw.step [(8, none)] rfl (by kernel_rfl) rfl (fun kq hkq => AOp.move' (.inl rfl) rfl ⟨rfl, rfl, Nat.le_refl _⟩) ?_
    refine Draw.step [(5, none)] rfl (by kernel_rfl) rfl (fun kq hkq => AOp.indexAddr_arr' rfl rfl rfl (by omega) (by omega) ⟨rfl, rfl, Nat.le_refl _⟩) ?_
    refine Draw.step [(68, some 13)] rfl (by kernel_rfl) rfl (fun kq hkq => (by refine AOp.load1 (b := ?b11) (v := ?v11) rfl rfl ?hn11 ?hv11 ?hR11; (case hn11 => repeat (first | assumption | exact upd_same _ _ _ | refine (upd_other _ _ (by omega)).trans ?_ | refine hsL0 _ _ ?_)); (case hv11 => rfl); exact ⟨rfl, rfl, Nat.le_refl _⟩)) ?_
    refine Draw.step [(67, some 12), (69, some 14)] rfl (by kernel_rfl) rfl (fun kq hkq => AOp.wand rfl rfl rfl ⟨rfl, rfl, Nat.le_refl _⟩) ?_
    refine Draw.step [(66, some 11), (70, some 15)] rfl (by kernel_rfl) rfl (fun kq hkq => AOp.wxor rfl rfl rfl ⟨rfl, rfl, Nat.le_refl _⟩) ?_
    refine Draw.step [(5, none)] rfl (by kernel_rfl) rfl (fun kq hkq => AOp.indexAddr_arr' rfl rfl rfl (by omega) (by omega) ⟨rfl, rfl, Nat.le_refl _⟩) ?_
    refine Draw.step [(72, some 17)] rfl (by kernel_rfl) rfl (fun kq hkq => (by refine AOp.load1 (b := ?b12) (v := ?v12) rfl rfl ?hn12 ?hv12 ?hR12; (case hn12 => repeat (first | assumption | exact upd_same _ _ _ | refine (upd_other _ _ (by omega)).trans ?_ | refine hsL0 _ _ ?_)); (case hv12 => rfl); exact ⟨rfl, rfl, Nat.le_refl _⟩)) ?_
    refine Draw.step [(5, none)] rfl (by kernel_rfl) rfl (fun kq hkq => AOp.indexAddr_arr' rfl rfl rfl (by omega) (by omega) ⟨rfl, rfl, Nat.le_refl _⟩) ?_
    refine Draw.step [(74, some 19)] rfl (by kernel_rfl) rfl (fun kq hkq => (by refine AOp.load1 (b := ?b13) (v := ?v13) rfl rfl ?hn13 ?hv13 ?hR13; (case hn13 => repeat (first | assumption | exact upd_same _ _ _ | refine (upd_other _ _ (by omega)).trans ?_ | refine hsL0 _ _ ?_)); (case hv13 => rfl); exact ⟨rfl, rfl, Nat.le_refl _⟩)) ?_
    refine Draw.step [(73, some 18), (75, some 20)] rfl (by kernel_rfl) rfl (fun kq hkq => AOp.wand rfl rfl rfl ⟨rfl, rfl, Nat.le_refl _⟩) ?_
    refine Draw.step [(71, some 16), (76, some 21)] rfl (by kernel_rfl) rfl (fun kq hkq => AOp.wxor rfl rfl rfl ⟨rfl, rfl, Nat.le_refl _⟩) ?_
    refine Draw.step [(62, some 7), (77, some 22)] rfl (by kernel_rfl) rfl (fun kq hkq => AOp.wadd rfl rfl rfl ⟨rfl, rfl, Nat.le_refl _⟩) ?_
    refine Draw.step [(78, some 23)] rfl (by kernel_rfl) rfl (fun kq hkq => AOp.move' (.inr rfl) rfl ⟨rfl, rfl, Nat.le_refl _⟩) ?_
    refine Draw.done fun kq hkq => ?_
    show aOps _ _ _ _ [] ⟨_, _, _⟩
    refine aOps_end ?_
    show ACode _ _ _ _ _ _
    refine ACode.region' [0, 1, 2, 3, 4, 5, 6, 7, 8, 9, 10, 11, 12, 13, 14, 15, 16, 17, 18] (by kernel_rfl) rfl ?_
    refine aOps_1 rfl rfl rfl (AOp.move' (.inl rfl) rfl ?_)
    refine aOps_1 rfl rfl rfl (AOp.move' (.inl rfl) rfl ?_)
    refine aOps_1 rfl rfl rfl (AOp.wadd rfl rfl rfl ?_)
    refine aOps_1 rfl rfl rfl (AOp.move' (.inl rfl) rfl ?_)
    refine aOps_1 rfl rfl rfl (AOp.indexAddr_arr' rfl rfl rfl (by omega) (by omega) ?_)
    refine aOps_1 rfl rfl rfl ?_
    refine AOp.load1 (b := ?b14) (v := ?v14) rfl rfl ?hn14 ?hv14 ?hR14
    (case hn14 => repeat (first | assumption | exact upd_same _ _ _ | refine (upd_other _ _ (by omega)).trans ?_ | refine hsL0 _ _ ?_))
    (case hv14 => rfl)
    refine aOps_1 rfl rfl rfl (AOp.indexAddr_arr' rfl rfl rfl (by omega) (by omega) ?_)
    refine aOps_1 rfl rfl rfl ?_
    refine AOp.load1 (b := ?b15) (v := ?v15) rfl rfl ?hn15 ?hv15 ?hR15
    (case hn15 => repeat (first | assumption | exact upd_same _ _ _ | refine (upd_other _ _ (by omega)).trans ?_ | refine hsL0 _ _ ?_))
    (case hv15 => rfl)
    refine aOps_1 rfl rfl rfl (AOp.indexAddr_arr' rfl rfl rfl (by omega) (by omega) ?_)
    refine aOps_1 rfl rfl rfl ?_
    refine AOp.load1 (b := ?b16) (v := ?v16) rfl rfl ?hn16 ?hv16 ?hR16
    (case hn16 => repeat (first | assumption | exact upd_same _ _ _ | refine (upd_other _ _ (by omega)).trans ?_ | refine hsL0 _ _ ?_))
    (case hv16 => rfl)
    refine aOps_1 rfl rfl rfl (AOp.move' (.inl rfl) rfl ?_)
    refine aOps_1 rfl rfl rfl (AOp.wadd rfl rfl rfl ?_)
    refine aOps_1 rfl rfl rfl (AOp.move' (.inl rfl) rfl ?_)
    refine aOps_1 rfl rfl rfl (AOp.indexAddr_arr' rfl rfl rfl (by omega) (by omega) ?_)
    refine aOps_1 rfl rfl rfl ?_
    refine AOp.load1 (b := ?b17) (v := ?v17) rfl rfl ?hn17 ?hv17 ?hR17
    (case hn17 => repeat (first | assumption | exact upd_same _ _ _ | refine (upd_other _ _ (by omega)).trans ?_ | refine hsL0 _ _ ?_))
    (case hv17 => rfl)
    refine aOps_1 rfl rfl rfl (AOp.indexAddr_arr' rfl rfl rfl (by omega) (by omega) ?_)
    refine aOps_1 rfl rfl rfl ?_
    refine AOp.load1 (b := ?b18) (v := ?v18) rfl rfl ?hn18 ?hv18 ?hR18
    (case hn18 => repeat (first | assumption | exact upd_same _ _ _ | refine (upd_other _ _ (by omega)).trans ?_ | refine hsL0 _ _ ?_))
    (case hv18 => rfl)
    refine aOps_1 rfl rfl rfl (AOp.buildA1 (vals := [_, _, _, _, _, _, _, _].map wv) rfl rfl rfl (wv_ones _) ?_)
    refine aOps_0 rfl rfl rfl ?_
    refine AOp.storeAll (b := ?b19) rfl rfl rfl ?hn19 ?hk19 rfl ?hw19 ?ho19 ?hl19 ?hR19
    (case hn19 => repeat (first | assumption | exact upd_same _ _ _ | refine (upd_other _ _ (by omega)).trans ?_ | refine hsL0 _ _ ?_))
    (case hk19 => rfl)
    (case hw19 => first | rfl | exact (aw_size _).trans hwl | exact one_wv _ | exact one_bv _ | (simp; done))
    (case ho19 => first | rfl | exact (aw_size _).trans hwl | exact one_wv _ | exact one_bv _ | decide | (simp; done))
    (case hl19 => first | rfl | exact (aw_size _).trans hwl | exact one_wv _ | exact one_bv _ | (simp; done))
    refine aOps_end ?_
    show ACode _ _ _ _ _ _
    refine ACode.region' [0, 1] (by kernel_rfl) rfl ?_
    refine aOps_1 rfl rfl rfl (AOp.add rfl rfl rfl (i64_wrap (by omega) (by omega)) ?_)
    refine aOps_1 rfl rfl rfl (AOp.move' (.inl rfl) rfl ?_)
    refine aOps_end ?_
    first | refine thenA_n ?_ | simp only [thenA, blockA, if_true]
    exact NextR.mk (by omega) (by omega) (.cons rfl .nil) (.cons rfl (.cons rfl (.cons rfl (.cons rfl (.cons rfl (.cons rfl (.cons rfl (.cons rfl (.cons rfl (.cons rfl .nil)))))))))) (by exact sub_over_eq (y := some (sblk (rTo W s i0))) (by (repeat (first | exact sub_refl _ | assumption | refine sub_upd' ?_ (by ((repeat refine (upd_other _ _ (by omega)).trans ?_); first | exact hf _ (by omega) | exact hfL0 _ (by omega))) | refine sub_trans ?_ hsL0 | refine sub_over (by assumption) | refine sub_over0 ?_ | refine sub_trans (sub_same (by assumption)) ?_ | refine sub_dropu ?_ | refine sub_drop ?_ | refine sub_put ?_ (by repeat (first | assumption | exact upd_same _ _ _ | refine (upd_other _ _ (by omega)).trans ?_ | refine hsL0 _ _ ?_))))) rfl) trivial
  · try simp only [decide_eq_true_eq, decide_eq_false_iff_not, beq_iff_eq, beq_eq_false_iff_ne, ne_eq, bne_iff_ne, Bool.not_eq_true', Bool.not_eq_false', Int.not_lt, Int.not_le, gt_iff_lt, ge_iff_le, bne_eq_false_iff_eq, Bool.not_eq_eq_eq_not, Bool.not_true, Bool.not_false] at c0
    refine ACode.exit ?_
    show ACode _ _ _ _ _ _
    refine ACode.seq ?_
    have e64 : i0 = 64 := by omega
    subst e64
    generalize rTo W s 64 = X at *
    refine ACode.region' [0] (by kernel_rfl) rfl ?_
    refine aOps_1 rfl rfl rfl (AOp.move' (.inl rfl) rfl ?_)
    refine aOps_end ?_
    show ACode _ _ _ _ _ _
    refine ACode.block ?_
    refine ACode.count (fun i => [(98, .int .i64 (i : Int))]) [(0, _), (1, _), (4, _), (5, _), (13, _), (14, _), (15, _), (16, _), (17, _), (18, _), (19, _), (20, _)] (fun i => (upd (upd (upd H kq (some (wblk 118 W))) (kq + 1) (some (sblk X))) n (some (wblk 110 (mixL s X i))))) (8) (fun _ => True) (.cons rfl .nil) (.cons rfl (.cons rfl (.cons rfl (.cons rfl (.cons rfl (.cons rfl (.cons rfl (.cons rfl (.cons rfl (.cons rfl (.cons rfl (.cons rfl .nil)))))))))))) (by exact sub_trans (sub_same (x := some (wblk 110 (mixL s X 0))) (by repeat (first | assumption | exact upd_same _ _ _ | refine (upd_other _ _ (by omega)).trans ?_ | refine hsL0 _ _ ?_))) (by (repeat (first | exact sub_refl _ | assumption | refine sub_upd' ?_ (by ((repeat refine (upd_other _ _ (by omega)).trans ?_); first | exact hf _ (by omega) | exact hfL0 _ (by omega))) | refine sub_trans ?_ hsL0 | refine sub_over (by assumption) | refine sub_over0 ?_ | refine sub_trans (sub_same (by assumption)) ?_ | refine sub_dropu ?_ | refine sub_drop ?_ | refine sub_put ?_ (by repeat (first | assumption | exact upd_same _ _ _ | refine (upd_other _ _ (by omega)).trans ?_ | refine hsL0 _ _ ?_)))))) trivial (fun i1 kL1 HL1 hiL1 hkL1 hsL1 hfL1 hxL1 => ?_)
    show ACode _ _ _ _ _ ⟨_, _, _⟩
    refine ACode.seq ?_
    refine ACode.region' [0] (by kernel_rfl) rfl ?_
    refine aOps_1 rfl rfl rfl (AOp.bin' rfl rfl rfl rfl ?_)
    refine aOps_end ?_
    show ACode _ _ _ _ _ _
    refine ACode.seq ?_
    refine ACode.cond rfl (fun c1 => ?_) (fun c1 => ?_)
    · try simp only [decide_eq_true_eq, decide_eq_false_iff_not, beq_iff_eq, beq_eq_false_iff_ne, ne_eq, bne_iff_ne, Bool.not_eq_true', Bool.not_eq_false', Int.not_lt, Int.not_le, gt_iff_lt, ge_iff_le, bne_eq_false_iff_eq, Bool.not_eq_eq_eq_not, Bool.not_true, Bool.not_false] at c1
      refine ACode.skip ?_
      show ACode _ _ _ _ _ _
      refine ACode.seq ?_
      refine ACode.block ?_
      refine ACode.seq ?_
      refine ACode.region' [0, 1] (by kernel_rfl) rfl ?_
      refine aOps_1 rfl rfl rfl (AOp.move' (.inl rfl) rfl ?_)
      refine aOps_1 rfl rfl rfl (AOp.move' (.inr rfl) rfl ?_)
      refine aOps_end ?_
      show ACode _ _ _ _ _ _
      have hm8 := mix_len s X i1 (by omega)
      refine ACode.draw' 11 [(0, 101), (1, 102), (2, 103), (3, 104), (4, 105), (5, 106), (6, 107), (7, 108), (8, 109), (9, 110), (10, 111)] mixed (by kernel_rfl) ?_
      refine Draw.step [(0, none)] rfl (by kernel_rfl) rfl (fun kq hkq => AOp.move' (.inl rfl) rfl ⟨rfl, rfl, Nat.le_refl _⟩) ?_
      refine Draw.step [(12, none)] rfl (by kernel_rfl) rfl (fun kq hkq => AOp.move' (.inl rfl) rfl ⟨rfl, rfl, Nat.le_refl _⟩) ?_
      refine Draw.step [(101, some 0)] rfl (by kernel_rfl) rfl (fun kq hkq => AOp.nilCheck' rfl rfl ⟨rfl, rfl, Nat.le_refl _⟩) ?_
      refine Draw.step [(103, some 2), (102, some 1)] rfl (by kernel_rfl) rfl (fun kq hkq => AOp.indexA (by omega) rfl rfl rfl ⟨rfl, rfl, Nat.le_refl _⟩) ?_
      refine Draw.step [(104, some 3)] rfl (by kernel_rfl) rfl (fun kq hkq => (by refine AOp.loadM wv (mixL s X i1) 0 (b := ?b20) ?hn20 ?hv20 ?hw20 rfl rfl ?hR20; (case hn20 => repeat (first | assumption | exact upd_same _ _ _ | refine (upd_other _ _ (by omega)).trans ?_ | refine hsL1 _ _ ?_ | refine hsL0 _ _ ?_)); (case hv20 => rfl); (case hw20 => exact (by rw [hm8]; omega)); exact ⟨rfl, rfl, Nat.le_refl _⟩)) ?_
      refine Draw.step [(12, none)] rfl (by kernel_rfl) rfl (fun kq hkq => AOp.move' (.inl rfl) rfl ⟨rfl, rfl, Nat.le_refl _⟩) ?_
      refine Draw.step [(5, none), (106, some 5)] rfl (by kernel_rfl) rfl (fun kq hkq => AOp.indexA (by omega) rfl rfl rfl ⟨rfl, rfl, Nat.le_refl _⟩) ?_
      refine Draw.step [(107, some 6)] rfl (by kernel_rfl) rfl (fun kq hkq => (by refine AOp.loadM wv (X.l) 0 (b := ?b21) ?hn21 ?hv21 ?hw21 rfl rfl ?hR21; (case hn21 => repeat (first | assumption | exact upd_same _ _ _ | refine (upd_other _ _ (by omega)).trans ?_ | refine hsL1 _ _ ?_ | refine hsL0 _ _ ?_)); (case hv21 => rfl); (case hw21 => exact (by show i1 < 8; omega)); exact ⟨rfl, rfl, Nat.le_refl _⟩)) ?_
      refine Draw.step [(105, some 4), (108, some 7)] rfl (by kernel_rfl) rfl (fun kq hkq => AOp.wadd rfl rfl rfl ⟨rfl, rfl, Nat.le_refl _⟩) ?_
      refine Draw.step [(101, some 0)] rfl (by kernel_rfl) rfl (fun kq hkq => AOp.nilCheck' rfl rfl ⟨rfl, rfl, Nat.le_refl _⟩) ?_
      refine Draw.step [(110, some 9), (102, some 1)] rfl (by kernel_rfl) rfl (fun kq hkq => AOp.indexA (by omega) rfl rfl rfl ⟨rfl, rfl, Nat.le_refl _⟩) ?_
      refine Draw.done fun kq hkq => ?_
      show aOps _ _ _ _ [11] ⟨_, _, _⟩
      refine aOps_0 rfl rfl rfl ?_
      refine AOp.storeM wv (mixL s X i1) (_) (b := ?b22) ?hn22 ?hv22 ?hw22 rfl rfl rfl rfl rfl ?hR22
      (case hn22 => repeat (first | assumption | exact upd_same _ _ _ | refine (upd_other _ _ (by omega)).trans ?_ | refine hsL1 _ _ ?_ | refine hsL0 _ _ ?_))
      (case hv22 => rfl)
      (case hw22 => exact (by rw [hm8]; omega))
      refine aOps_end ?_
      show ACode _ _ _ _ _ _
      refine ACode.region' [0, 1] (by kernel_rfl) rfl ?_
      refine aOps_1 rfl rfl rfl (AOp.add rfl rfl rfl (i64_wrap (by omega) (by omega)) ?_)
      refine aOps_1 rfl rfl rfl (AOp.move' (.inl rfl) rfl ?_)
      refine aOps_end ?_
      first | refine thenA_n ?_ | simp only [thenA, blockA, if_true]
      exact NextR.mk (by omega) (by omega) (.cons rfl .nil) (.cons rfl (.cons rfl (.cons rfl (.cons rfl (.cons rfl (.cons rfl (.cons rfl (.cons rfl (.cons rfl (.cons rfl (.cons rfl (.cons rfl .nil)))))))))))) (by exact sub_over_eq (y := some (wblk 110 (mixL s X i1))) (by (repeat (first | exact sub_refl _ | assumption | refine sub_upd' ?_ (by ((repeat refine (upd_other _ _ (by omega)).trans ?_); first | exact hf _ (by omega) | exact hfL0 _ (by omega) | exact hfL1 _ (by omega))) | refine sub_trans ?_ hsL1 | refine sub_trans ?_ hsL0 | refine sub_over (by assumption) | refine sub_over0 ?_ | refine sub_trans (sub_same (by assumption)) ?_ | refine sub_dropu ?_ | refine sub_drop ?_ | refine sub_put ?_ (by repeat (first | assumption | exact upd_same _ _ _ | refine (upd_other _ _ (by omega)).trans ?_ | refine hsL1 _ _ ?_ | refine hsL0 _ _ ?_))))) (by rw [← mix_set s X i1 (by omega)])) trivial
    · try simp only [decide_eq_true_eq, decide_eq_false_iff_not, beq_iff_eq, beq_eq_false_iff_ne, ne_eq, bne_iff_ne, Bool.not_eq_true', Bool.not_eq_false', Int.not_lt, Int.not_le, gt_iff_lt, ge_iff_le, bne_eq_false_iff_eq, Bool.not_eq_eq_eq_not, Bool.not_true, Bool.not_false] at c1
      refine ACode.exit ?_
      simp only [thenA, blockA, if_true]
      have e8 : i1 = 8 := by omega
      subst e8
      exact RetQ.none_ rfl (sub_trans (sub_over0 (x := some (sblk (addS s X))) (sub_upd' (sub_upd' (sub_refl _) (hf kq (by omega))) (hf (kq + 1) (by omega)))) hsL1) stays_upd (fun hk => ⟨rfl, rfl, by omega⟩)
end

end Go.Proofs.YtipaiielkpifoaaDoor
