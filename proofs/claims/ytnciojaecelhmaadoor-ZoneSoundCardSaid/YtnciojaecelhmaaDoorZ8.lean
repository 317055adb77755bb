/- Contracts over the abstract states: the example of zones; the statement which truths may be. -/
import Derived.Test.YtnciojaecelhmaaDoorZ7
set_option linter.unusedVariables false
set_option linter.unusedSimpArgs false
set_option maxRecDepth 100000
namespace Go.Proofs.YtnciojaecelhmaaDoor
open Go Go.Ab

instance : ZeroInfo Tryd.prog 88 .nilFunc := ⟨by kernel_rfl, by kernel_rfl⟩
theorem pLt_v {H : Hp} {q : Nat} {n : Int} (h1 : -9223372036854775808 ≤ n) (h2 : n ≤ 9223372036854775807) (hq : H q = some { cells := vals3 [vN n], elem := 43, kind := .grow, esz := 3 }) : PdV H (pLt n) (pv 3 0 (some ⟨q, 0, some 1⟩) 1 1 none 0 0) :=
  PdV.introN (vals := [vN n]) (of := []) (bs := []) rfl rfl (slcCells_grow (n := q) (b := { cells := vals3 [vN n], elem := 43, kind := .grow, esz := 3 }) hq rfl rfl) (by decide) (by decide) (by decide) (by decide) (by intro v hv; rw [List.mem_singleton.1 hv]; exact ⟨rfl, litwf h1 h2, (show 0 ≤ 140737488351232 by decide)⟩) SLC.nil (by rw [PdVs])
theorem pLt_tiny (n : Int) : (pLt n).tiny := by
  rw [Pd.tiny]
  exact ⟨(show 1 ≤ 1000 by decide), (show 0 ≤ 1000 by decide), by rw [Pd.tinys]; trivial⟩
theorem zA_ok : zA.ok := by
  refine ⟨by decide +kernel, ⟨by decide +kernel, by decide +kernel, by decide +kernel⟩, ⟨by decide +kernel, by decide +kernel, by decide +kernel⟩⟩
abbrev gZ (z : Zn) : Blk := { cells := zs8 [z], elem := 45, kind := .grow, esz := 8 }
section
variable (H : Hp) (k : Nat)

theorem awk1 (n : Int) : ACalls Tryd.prog 3 50 [.int .i64 n] H k (Same H k (vv (vN n))) := by
  refine ACalls.fresh fun hf => ?_
  refine ACalls.body Tryd.func50 rfl (Nat.le_of_ble_eq_true rfl) ?_
  refine ACode.seq ?_
  refine ACode.region' [0] (by kernel_rfl) rfl ?_
  refine aOps_1 rfl rfl rfl (AOp.alloc' rfl ?_)
  refine aOps_end ?_
  show ACode _ _ _ _ _ _
  refine ACode.seq ?_
  refine ACode.region' [0, 1, 2] (by kernel_rfl) rfl ?_
  refine aOps_1 rfl rfl rfl (AOp.move' (.inl rfl) rfl ?_)
  refine aOps_1 rfl rfl rfl (AOp.buildS (cells := (vv (vN n)).cells) rfl rfl rfl ?_)
  refine aOps_0 rfl rfl rfl ?_
  refine AOp.storeAll (b := ?b1) rfl rfl rfl ?hn1 ?hk1 rfl ?hw1 ?ho1 ?hl1 ?hR1
  (case hn1 => repeat (first | assumption | exact upd_same _ _ _ | refine (upd_other _ _ (by omega)).trans ?_))
  (case hk1 => rfl)
  (case hw1 => first | rfl | (simp; done))
  (case ho1 => first | rfl | decide | (simp; done))
  (case hl1 => first | rfl | (simp; done))
  refine aOps_end ?_
  show ACode _ _ _ _ _ _
  refine ACode.ret ?_
  exact RetQ.cell rfl rfl (aloadAll (b := { cells := (vv (vN n)).cells.toList, elem := 43, kind := .fix }) (v := vv (vN n)) (upd_same _ _ _) rfl rfl rfl) (by (repeat (first | exact sub_refl _ | assumption | refine sub_upd' ?_ (by ((repeat refine (upd_other _ _ (by omega)).trans ?_); first | exact hf _ (by omega))) | refine sub_over (by assumption) | refine sub_over0 ?_ | refine sub_trans (sub_same (by assumption)) ?_ | refine sub_dropu ?_ | refine sub_drop ?_ | refine sub_put ?_ (by repeat (first | assumption | exact upd_same _ _ _ | refine (upd_other _ _ (by omega)).trans ?_))))) stays (fun hk => ⟨rfl, rfl, by omega⟩)

theorem awk2 (n : Int) (q : Nat) (hq : H q = some { cells := [.func (.func 50) #[] #[]], elem := 88, kind := .fix }) : ACalls Tryd.prog 3 51 [.int .i64 n, .pointer (some ⟨q, 0, none⟩)] H k (NewPd H k n) := by
  refine ACalls.fresh fun hf => ?_
  refine ACalls.body Tryd.func51 rfl (Nat.le_of_ble_eq_true rfl) ?_
  have hqk := old_lt hf hq
  refine ACode.seq ?_
  refine ACode.region' [0] (by kernel_rfl) rfl ?_
  refine aOps_1 rfl rfl rfl (AOp.alloc' rfl ?_)
  refine aOps_end ?_
  show ACode _ _ _ _ _ _
  refine ACode.seq ?_
  refine ACode.region' [0, 1, 2, 3, 4, 5] (by kernel_rfl) rfl ?_
  refine aOps_1 rfl rfl rfl ?_
  refine AOp.load1 (b := ?b2) (v := ?v2) rfl rfl ?hn2 ?hv2 ?hR2
  (case hn2 => repeat (first | assumption | exact upd_same _ _ _ | refine (upd_other _ _ (by omega)).trans ?_))
  (case hv2 => rfl)
  refine aOps_1 rfl rfl rfl (AOp.move' (.inl rfl) rfl ?_)
  refine aOps_q rfl rfl rfl (AOp.call' rfl rfl rfl (awk1 _ _ n) (fun _ _ _ h => h)) (fun kf hkf => ?_)
  refine aOps_1 rfl rfl rfl (AOp.buildH (vals3 [vN n]) rfl rfl (by show 0 < 3; decide) (by show 3 ≤ 16777216; decide) rfl rfl ?_)
  refine aOps_1 rfl rfl rfl (AOp.buildS (cells := (pv 3 0 (some ⟨kf, 0, some 1⟩) 1 1 none 0 0).cells) rfl rfl rfl ?_)
  refine aOps_0 rfl rfl rfl ?_
  refine AOp.storeAll (b := ?b3) rfl rfl rfl ?hn3 ?hk3 rfl ?hw3 ?ho3 ?hl3 ?hR3
  (case hn3 => repeat (first | assumption | exact upd_same _ _ _ | refine (upd_other _ _ (by omega)).trans ?_))
  (case hk3 => rfl)
  (case hw3 => first | rfl | (simp; done))
  (case ho3 => first | rfl | decide | (simp; done))
  (case hl3 => first | rfl | (simp; done))
  refine aOps_end ?_
  show ACode _ _ _ _ _ _
  refine ACode.ret ?_
  exact RetQ.cell rfl rfl (aloadAll (b := pbk 3 0 (some ⟨kf, 0, some 1⟩) 1 1 none 0 0) (v := pv 3 0 (some ⟨kf, 0, some 1⟩) 1 1 none 0 0) (upd_same _ _ _) rfl rfl rfl) (by (repeat (first | exact sub_refl _ | assumption | refine sub_upd' ?_ (by ((repeat refine (upd_other _ _ (by omega)).trans ?_); first | exact hf _ (by omega))) | refine sub_over (by assumption) | refine sub_over0 ?_ | refine sub_trans (sub_same (by assumption)) ?_ | refine sub_dropu ?_ | refine sub_drop ?_ | refine sub_put ?_ (by repeat (first | assumption | exact upd_same _ _ _ | refine (upd_other _ _ (by omega)).trans ?_))))) (fun n b hn => ⟨b, (upd_other _ _ (by have := old_lt hf hn; omega)).trans hn⟩) (fun hk => ⟨kf, by omega, by omega, rfl, rfl⟩)

theorem awake17 (ht : H 0 = some shBlk) (ht1 : H 1 = some allBlk) : ACalls Tryd.prog 3 15 [] H k (Same H k (.bool true)) := by
  refine ACalls.fresh fun hf => ?_
  refine ACalls.body Tryd.func15 rfl (Nat.le_of_ble_eq_true rfl) ?_
  have h0k := old_lt hf ht
  have h1k := old_lt hf ht1
  refine ACode.seq ?_
  refine ACode.region' [0] (by kernel_rfl) rfl ?_
  refine aOps_1 rfl rfl rfl (AOp.move' (.inr rfl) rfl ?_)
  refine aOps_end ?_
  show ACode _ _ _ _ _ _
  refine ACode.seq ?_
  refine ACode.region' [0, 1] (by kernel_rfl) rfl ?_
  refine aOps_1 rfl rfl rfl (AOp.alloc' rfl ?_)
  refine aOps_0 rfl rfl rfl ?_
  refine AOp.store1 (b := ?b4) rfl rfl rfl ?hn4 ?hk4 rfl rfl ?hl4 ?hR4
  (case hn4 => repeat (first | assumption | exact upd_same _ _ _ | refine (upd_other _ _ (by omega)).trans ?_))
  (case hk4 => rfl)
  (case hl4 => first | (simp; done) | exact Nat.le_of_ble_eq_true rfl)
  refine aOps_end ?_
  show ACode _ _ _ _ _ _
  refine ACode.seq ?_
  refine ACode.drawM0 10 [(0, 4), (1, 5), (2, 6), (3, 7), (4, 8), (5, 9), (6, 10), (7, 11), (8, 2)] [6, 8] [([], []), ([], []), ([], []), ([], []), ([], []), ([], []), ([6], []), ([], [6]), ([8], []), ([8], [])] mixed (by kernel_rfl) (by kernel_rfl) (by decide) ?_
  refine DrawM.q 0 [(1, none)] rfl rfl (by kernel_rfl) rfl rfl (fun Hc kq hkq hF hSb hfr => (by refine AOp.load1 (b := ?b5) (v := ?v5) rfl rfl ?hn5 ?hv5 ?hR5; (case hn5 => repeat (first | assumption | exact upd_same _ _ _ | refine (upd_other _ _ (by omega)).trans ?_ | refine hSb _ _ ?_)); (case hv5 => rfl); exact ⟨rfl, rfl, Nat.le_refl _⟩)) ?_
  refine DrawM.q 1 [(4, some 0)] rfl rfl (by kernel_rfl) rfl rfl (fun Hc kq hkq hF hSb hfr => AOp.call' rfl rfl rfl (awk1 _ _ 7) (fun _ _ _ h => h)) ?_
  refine DrawM.q 2 [(1, none)] rfl rfl (by kernel_rfl) rfl rfl (fun Hc kq hkq hF hSb hfr => (by refine AOp.load1 (b := ?b6) (v := ?v6) rfl rfl ?hn6 ?hv6 ?hR6; (case hn6 => repeat (first | assumption | exact upd_same _ _ _ | refine (upd_other _ _ (by omega)).trans ?_ | refine hSb _ _ ?_)); (case hv6 => rfl); exact ⟨rfl, rfl, Nat.le_refl _⟩)) ?_
  refine DrawM.q 3 [(6, some 2)] rfl rfl (by kernel_rfl) rfl rfl (fun Hc kq hkq hF hSb hfr => AOp.call' rfl rfl rfl (awk1 _ _ 5) (fun _ _ _ h => h)) ?_
  refine DrawM.q 4 [(1, none)] rfl rfl (by kernel_rfl) rfl rfl (fun Hc kq hkq hF hSb hfr => (by refine AOp.load1 (b := ?b7) (v := ?v7) rfl rfl ?hn7 ?hv7 ?hR7; (case hn7 => repeat (first | assumption | exact upd_same _ _ _ | refine (upd_other _ _ (by omega)).trans ?_ | refine hSb _ _ ?_)); (case hv7 => rfl); exact ⟨rfl, rfl, Nat.le_refl _⟩)) ?_
  refine DrawM.q 5 [(8, some 4)] rfl rfl (by kernel_rfl) rfl rfl (fun Hc kq hkq hF hSb hfr => AOp.call' rfl rfl rfl (awk1 _ _ 9) (fun _ _ _ h => h)) ?_
  refine DrawM.new 6 _ _ [(5, some 1), (7, some 3), (9, some 5)] rfl (by decide) rfl (by kernel_rfl) rfl rfl RenOk.grow (fun Hc kq hkq hF hSb hfr => AOp.buildH3 (vv (vN 7)).cells.toList (vv (vN 5)).cells.toList (vv (vN 9)).cells.toList rfl rfl rfl rfl rfl rfl (by show 0 < 3; decide) (by show 3 ≤ 1000000; decide) rfl rfl ⟨kq, Nat.le_refl _, Nat.lt_succ_self _, rfl, rfl⟩) ?_
  refine DrawM.q 7 [(10, some 6)] rfl rfl (by kernel_rfl) rfl rfl (fun Hc kq hkq hF hSb hfr => AOp.call' rfl rfl rfl (Of_b _ _ [vN 7, vN 5, vN 9] (some ⟨_ + 6, 0, some 1⟩) 3 (slcCells_grow (n := _ + 6) (b := { cells := vals3 [vN 7, vN 5, vN 9], elem := 43, kind := .grow, esz := 3 }) (by repeat (first | assumption | exact upd_same _ _ _ | refine (upd_other _ _ (by omega)).trans ?_ | exact hF 6 (by decide) | refine hSb _ _ ?_)) rfl rfl) (by decide)) (fun _ _ _ h => h)) ?_
  refine DrawM.new 8 _ _ [] rfl (by decide) rfl (by kernel_rfl) rfl rfl RenOk.ptr (fun Hc kq hkq hF hSb hfr => AOp.alloc' rfl ⟨kq, Nat.le_refl _, Nat.lt_succ_self _, rfl, rfl⟩) ?_
  refine DrawM.wr 9 8 _ [(2, some 8), (11, some 7)] rfl rfl (by kernel_rfl) rfl rfl (fun Hc kq hkq hF hSb hfr => (by refine AOp.storeAll (b := ?b8) rfl rfl rfl ?hn8 ?hk8 rfl ?hw8 ?ho8 ?hl8 ?hR8; (case hn8 => repeat (first | assumption | exact upd_same _ _ _ | refine (upd_other _ _ (by omega)).trans ?_ | exact hF 8 (by decide) | refine hSb _ _ ?_)); (case hk8 => rfl); (case hw8 => first | rfl | (simp; done)); (case ho8 => first | rfl | decide | (simp; done)); (case hl8 => first | rfl | (simp; done)); exact ⟨rfl, rfl, Nat.le_refl _⟩)) ?_
  refine DrawM.done fun kq hkq => ?_
  show aOps _ _ _ _ [] ⟨_, (upd (upd _ (_ + 8) _) (_ + 6) _), _⟩
  refine aOps_end ?_
  show ACode _ _ _ _ _ _
  refine ACode.seq ?_
  refine ACode.region' [0, 1] (by kernel_rfl) rfl ?_
  refine aOps_1 rfl rfl rfl (AOp.makeFunc' rfl rfl ?_)
  refine aOps_1 rfl rfl rfl (AOp.move' (.inr rfl) rfl ?_)
  refine aOps_end ?_
  show ACode _ _ _ _ _ _
  refine ACode.seq ?_
  refine ACode.drawM0 18 [(0, 13), (1, 14), (2, 15), (3, 16), (4, 17), (5, 18), (6, 19), (7, 20), (8, 21), (9, 22), (10, 23), (11, 24), (12, 25), (13, 26), (14, 27), (15, 28), (16, 29), (17, 0)] [1, 3, 7, 9] [([], []), ([1], []), ([], []), ([3], []), ([], [1, 3]), ([], []), ([], []), ([7], []), ([], []), ([9], []), ([], [7, 9]), ([], []), ([], []), ([], []), ([], []), ([], []), ([], []), ([], [])] mixed (by kernel_rfl) (by kernel_rfl) (by decide) ?_
  refine DrawM.q 0 [(3, none)] rfl rfl (by kernel_rfl) rfl rfl (fun Hc kq hkq hF hSb hfr => AOp.move' (.inl rfl) rfl ⟨rfl, rfl, Nat.le_refl _⟩) ?_
  refine DrawM.new 1 _ _ [(13, some 0)] rfl (by decide) rfl (by kernel_rfl) rfl rfl RenOk.pd (fun Hc kq hkq hF hSb hfr => AOp.call' rfl rfl rfl (awk2 _ _ 5 k (by repeat (first | assumption | exact upd_same _ _ _ | refine (upd_other _ _ (by omega)).trans ?_ | exact hF 1 (by decide) | refine hSb _ _ ?_))) (fun _ _ _ h => h)) ?_
  refine DrawM.q 2 [(2, none)] rfl rfl (by kernel_rfl) rfl rfl (fun Hc kq hkq hF hSb hfr => (by refine AOp.loadAll (b := ?b9) (v := zv zA) rfl rfl ?hn9 ?hv9 ?hw9 ?hz9 ?hR9; (case hn9 => repeat (first | assumption | exact upd_same _ _ _ | refine (upd_other _ _ (by omega)).trans ?_ | refine hSb _ _ ?_)); (case hv9 => rfl); (case hw9 => rfl); (case hz9 => first | rfl | (simp; done)); exact ⟨rfl, rfl, Nat.le_refl _⟩)) ?_
  refine DrawM.new 3 _ _ [(15, some 2)] rfl (by decide) rfl (by kernel_rfl) rfl rfl RenOk.grow (fun Hc kq hkq hF hSb hfr => AOp.buildH (zs8 [zA]) rfl rfl (by show 0 < 8; decide) (by show 8 ≤ 16777216; decide) rfl rfl ⟨kq, Nat.le_refl _, Nat.lt_succ_self _, rfl, rfl⟩) ?_
  refine DrawM.q 4 [(14, some 1), (16, some 3)] rfl rfl (by kernel_rfl) rfl rfl (fun Hc kq hkq hF hSb hfr => AOp.call' rfl rfl rfl (Refutes_b _ _ (by repeat (first | assumption | exact upd_same _ _ _ | refine (upd_other _ _ (by omega)).trans ?_ | exact hF 1 (by decide) | exact hF 3 (by decide) | refine hSb _ _ ?_)) (by repeat (first | assumption | exact upd_same _ _ _ | refine (upd_other _ _ (by omega)).trans ?_ | exact hF 1 (by decide) | exact hF 3 (by decide) | refine hSb _ _ ?_)) (pLt 5) _ (pLt_v (q := _ + 1) (by decide) (by decide) (by repeat (first | assumption | exact upd_same _ _ _ | refine (upd_other _ _ (by omega)).trans ?_ | exact hF 1 (by decide) | exact hF 3 (by decide) | refine hSb _ _ ?_))) (pLt_tiny 5) 3 [zA] (some ⟨_ + 3, 0, some 1⟩) 1 (slcCells_grow (n := _ + 3) (b := gZ zA) (by repeat (first | assumption | exact upd_same _ _ _ | refine (upd_other _ _ (by omega)).trans ?_ | exact hF 1 (by decide) | exact hF 3 (by decide) | refine hSb _ _ ?_)) rfl rfl) (by decide)) (fun _ _ _ h => h)) ?_
  rw [awkZ1]
  refine DrawM.q 5 [(17, some 4)] rfl rfl (by kernel_rfl) rfl rfl (fun Hc kq hkq hF hSb hfr => AOp.move' (.inl rfl) rfl ⟨rfl, rfl, Nat.le_refl _⟩) ?_
  refine DrawM.qg 6 [(3, none), (18, some 5)] rfl rfl (by kernel_rfl) rfl rfl (fun Hc kq hkq hF hSb hfr hc => AOp.move' (.inl rfl) rfl ⟨rfl, rfl, Nat.le_refl _⟩) ?_
  refine DrawM.newg 7 _ _ [(19, some 6), (18, some 5)] rfl (by decide) rfl (by kernel_rfl) rfl rfl rfl RenOk.pd (fun Hc kq hkq hF hSb hfr hc => AOp.call' rfl rfl rfl (awk2 _ _ 6 k (by repeat (first | assumption | exact upd_same _ _ _ | refine (upd_other _ _ (by omega)).trans ?_ | exact hF 7 (by decide) | refine hSb _ _ ?_))) (fun _ _ _ h => h)) ?_
  refine DrawM.qg 8 [(2, none), (18, some 5)] rfl rfl (by kernel_rfl) rfl rfl (fun Hc kq hkq hF hSb hfr hc => (by refine AOp.loadAll (b := ?b10) (v := zv zA) rfl rfl ?hn10 ?hv10 ?hw10 ?hz10 ?hR10; (case hn10 => repeat (first | assumption | exact upd_same _ _ _ | refine (upd_other _ _ (by omega)).trans ?_ | refine hSb _ _ ?_)); (case hv10 => rfl); (case hw10 => rfl); (case hz10 => first | rfl | (simp; done)); exact ⟨rfl, rfl, Nat.le_refl _⟩)) ?_
  refine DrawM.newg 9 _ _ [(21, some 8), (18, some 5)] rfl (by decide) rfl (by kernel_rfl) rfl rfl rfl RenOk.grow (fun Hc kq hkq hF hSb hfr hc => AOp.buildH (zs8 [zA]) rfl rfl (by show 0 < 8; decide) (by show 8 ≤ 16777216; decide) rfl rfl ⟨kq, Nat.le_refl _, Nat.lt_succ_self _, rfl, rfl⟩) ?_
  refine DrawM.qg 10 [(20, some 7), (22, some 9), (18, some 5)] rfl rfl (by kernel_rfl) rfl rfl (fun Hc kq hkq hF hSb hfr hc => AOp.call' rfl rfl rfl (Refutes_b _ _ (by repeat (first | assumption | exact upd_same _ _ _ | refine (upd_other _ _ (by omega)).trans ?_ | exact hF 7 (by decide) | exact hF 9 (by decide) | refine hSb _ _ ?_)) (by repeat (first | assumption | exact upd_same _ _ _ | refine (upd_other _ _ (by omega)).trans ?_ | exact hF 7 (by decide) | exact hF 9 (by decide) | refine hSb _ _ ?_)) (pLt 6) _ (pLt_v (q := _ + 7) (by decide) (by decide) (by repeat (first | assumption | exact upd_same _ _ _ | refine (upd_other _ _ (by omega)).trans ?_ | exact hF 7 (by decide) | exact hF 9 (by decide) | refine hSb _ _ ?_))) (pLt_tiny 6) 3 [zA] (some ⟨_ + 9, 0, some 1⟩) 1 (slcCells_grow (n := _ + 9) (b := gZ zA) (by repeat (first | assumption | exact upd_same _ _ _ | refine (upd_other _ _ (by omega)).trans ?_ | exact hF 7 (by decide) | exact hF 9 (by decide) | refine hSb _ _ ?_)) rfl rfl) (by decide)) (fun _ _ _ h => h)) ?_
  rw [awkZ2]
  refine DrawM.qg 11 [(23, some 10), (18, some 5)] rfl rfl (by kernel_rfl) rfl rfl (fun Hc kq hkq hF hSb hfr hc => AOp.un' rfl rfl rfl ⟨rfl, rfl, Nat.le_refl _⟩) ?_
  refine DrawM.q 12 [(18, some 5), (24, some 11)] rfl rfl (by kernel_rfl) rfl rfl (fun Hc kq hkq hF hSb hfr => AOp.pickB rfl rfl rfl ⟨rfl, rfl, Nat.le_refl _⟩) ?_
  refine DrawM.q 13 [(25, some 12)] rfl rfl (by kernel_rfl) rfl rfl (fun Hc kq hkq hF hSb hfr => AOp.move' (.inl rfl) rfl ⟨rfl, rfl, Nat.le_refl _⟩) ?_
  refine DrawM.qg 14 [(2, none), (26, some 13)] rfl rfl (by kernel_rfl) rfl rfl (fun Hc kq hkq hF hSb hfr hc => (by refine AOp.loadAll (b := ?b11) (v := zv zA) rfl rfl ?hn11 ?hv11 ?hw11 ?hz11 ?hR11; (case hn11 => repeat (first | assumption | exact upd_same _ _ _ | refine (upd_other _ _ (by omega)).trans ?_ | refine hSb _ _ ?_)); (case hv11 => rfl); (case hw11 => rfl); (case hz11 => first | rfl | (simp; done)); exact ⟨rfl, rfl, Nat.le_refl _⟩)) ?_
  refine DrawM.qg 15 [(27, some 14), (26, some 13)] rfl rfl (by kernel_rfl) rfl rfl (fun Hc kq hkq hF hSb hfr hc => AOp.call' rfl rfl rfl (Sound_b _ _ zA zA_ok 3 1) (fun _ _ _ h => h)) ?_
  rw [awkZ3]
  refine DrawM.q 16 [(26, some 13), (28, some 15)] rfl rfl (by kernel_rfl) rfl rfl (fun Hc kq hkq hF hSb hfr => AOp.pickB rfl rfl rfl ⟨rfl, rfl, Nat.le_refl _⟩) ?_
  refine DrawM.q 17 [(29, some 16)] rfl rfl (by kernel_rfl) rfl rfl (fun Hc kq hkq hF hSb hfr => AOp.move' (.inr rfl) rfl ⟨rfl, rfl, Nat.le_refl _⟩) ?_
  refine DrawM.done fun kq hkq => ?_
  show aOps _ _ _ _ [] ⟨_, (upd (upd (upd (upd _ (_ + 9) _) (_ + 7) _) (_ + 3) _) (_ + 1) _), _⟩
  refine aOps_end ?_
  show ACode _ _ _ _ _ _
  refine ACode.ret ?_
  exact RetQ.one rfl rfl (by (repeat (first | exact sub_refl _ | assumption | refine sub_upd' ?_ (by ((repeat refine (upd_other _ _ (by omega)).trans ?_); first | exact hf _ (by omega))) | refine sub_over (by assumption) | refine sub_over0 ?_ | refine sub_trans (sub_same (by assumption)) ?_ | refine sub_dropu ?_ | refine sub_drop ?_ | refine sub_put ?_ (by repeat (first | assumption | exact upd_same _ _ _ | refine (upd_other _ _ (by omega)).trans ?_))))) stays (fun hk => ⟨rfl, rfl, by omega⟩)

end

end Go.Proofs.YtnciojaecelhmaaDoor
