/- Contracts over the abstract states: the document's commands out of bytes. -/
import Derived.Test.YteoofihjmldllaaDoorR15
set_option linter.unusedVariables false
set_option linter.unusedSimpArgs false
set_option maxRecDepth 100000
namespace Go.Proofs.YteoofihjmldllaaDoor
open Go Go.Ab

section
variable (H : Hp) (k : Nat)

theorem rend_ (n c : Nat) (A : Option Addr) (r : Rd) (hR : RfN H n A c r) : ACalls Tryd.prog 3 54 [ptr n 0 none] H k (Same H k (.tuple #[.int .i64 r.end_.1, .int .i64 r.end_.2])) := by
  refine ACalls.fresh fun hf => ?_
  refine ACalls.body Tryd.func54 rfl (Nat.le_of_ble_eq_true rfl) ?_
  have hn := hR.hn
  have hnk := old_lt hf hn
  have hok := hR.ok
  have hal := hok.at_le
  have hle := hok.len
  refine ACode.seq ?_
  refine ACode.region' [0, 1] (by kernel_rfl) rfl ?_
  refine aOps_1 rfl rfl rfl (AOp.move' (.inr rfl) rfl ?_)
  refine aOps_1 rfl rfl rfl (AOp.move' (.inr rfl) rfl ?_)
  refine aOps_end ?_
  show ACode _ _ _ _ _ _
  refine ACode.seq ?_
  refine ACode.seq ?_
  refine ACode.draw' 17 [(0, 4), (1, 5), (2, 6), (3, 7), (4, 8), (5, 9), (6, 10), (7, 11), (8, 12), (9, 13), (10, 14), (11, 15), (12, 16), (13, 17), (14, 18), (15, 19), (16, 20)] mixed (by kernel_rfl) ?_
  refine Draw.step [(0, none)] rfl (by kernel_rfl) rfl (fun kq hkq => AOp.move' (.inl rfl) rfl ⟨rfl, rfl, Nat.le_refl _⟩) ?_
  refine Draw.step [(4, some 0)] rfl (by kernel_rfl) rfl (fun kq hkq => AOp.nilCheck' rfl rfl ⟨rfl, rfl, Nat.le_refl _⟩) ?_
  refine Draw.step [(5, some 1)] rfl (by kernel_rfl) rfl (fun kq hkq => AOp.fieldAddr' rfl (by decide) rfl ⟨rfl, rfl, Nat.le_refl _⟩) ?_
  refine Draw.step [(6, some 2)] rfl (by kernel_rfl) rfl (fun kq hkq => (by refine AOp.load1 (b := ?b1) (v := ?v1) rfl rfl ?hn1 ?hv1 ?hR1; (case hn1 => exact hpA); (case hv1 => rfl); exact ⟨rfl, rfl, Nat.le_refl _⟩)) ?_
  refine Draw.step [(7, some 3)] rfl (by kernel_rfl) rfl (fun kq hkq => AOp.bin' rfl rfl rfl rfl ⟨rfl, rfl, Nat.le_refl _⟩) ?_
  refine Draw.step [(8, some 4)] rfl (by kernel_rfl) rfl (fun kq hkq => AOp.move' (.inl rfl) rfl ⟨rfl, rfl, Nat.le_refl _⟩) ?_
  refine Draw.gd [(0, none), (9, some 5)] rfl (by kernel_rfl) (wantT rfl rfl rfl) (fun kq hkq hc => AOp.slots [(0, _)] (.cons rfl .nil) (AOp.move' (.inl rfl) rfl ⟨rfl, rfl, Nat.le_refl _⟩)) ?_
  refine Draw.gd [(10, some 6), (9, some 5)] rfl (by kernel_rfl) (wantT rfl rfl rfl) (fun kq hkq hc => AOp.slots [(10, _)] (.cons (gvT rfl hc) .nil) (AOp.nilCheck' rfl rfl ⟨rfl, rfl, Nat.le_refl _⟩)) ?_
  refine Draw.gd [(11, some 7), (9, some 5)] rfl (by kernel_rfl) (wantT rfl rfl rfl) (fun kq hkq hc => AOp.slots [(11, _)] (.cons (gvT rfl hc) .nil) (AOp.fieldAddr' rfl (by decide) rfl ⟨rfl, rfl, Nat.le_refl _⟩)) ?_
  refine Draw.gd [(12, some 8), (9, some 5)] rfl (by kernel_rfl) (wantT rfl rfl rfl) (fun kq hkq hc => AOp.slots [(12, _)] (.cons (gvT rfl hc) .nil) ((by refine AOp.load1 (b := ?b2) (v := ?v2) rfl rfl ?hn2 ?hv2 ?hR2; (case hn2 => exact hpA); (case hv2 => rfl); exact ⟨rfl, rfl, Nat.le_refl _⟩))) ?_
  refine Draw.gd [(0, none), (9, some 5)] rfl (by kernel_rfl) (wantT rfl rfl rfl) (fun kq hkq hc => AOp.slots [(0, _)] (.cons rfl .nil) (AOp.move' (.inl rfl) rfl ⟨rfl, rfl, Nat.le_refl _⟩)) ?_
  refine Draw.gd [(14, some 10), (9, some 5)] rfl (by kernel_rfl) (wantT rfl rfl rfl) (fun kq hkq hc => AOp.slots [(14, _)] (.cons (gvT rfl hc) .nil) (AOp.nilCheck' rfl rfl ⟨rfl, rfl, Nat.le_refl _⟩)) ?_
  refine Draw.gd [(15, some 11), (9, some 5)] rfl (by kernel_rfl) (wantT rfl rfl rfl) (fun kq hkq hc => AOp.slots [(15, _)] (.cons (gvT rfl hc) .nil) (AOp.fieldAddr' rfl (by decide) rfl ⟨rfl, rfl, Nat.le_refl _⟩)) ?_
  refine Draw.gd [(16, some 12), (9, some 5)] rfl (by kernel_rfl) (wantT rfl rfl rfl) (fun kq hkq hc => AOp.slots [(16, _)] (.cons (gvT rfl hc) .nil) ((by refine AOp.load1 (b := ?b3) (v := ?v3) rfl rfl ?hn3 ?hv3 ?hR3; (case hn3 => exact hpA); (case hv3 => rfl); exact ⟨rfl, rfl, Nat.le_refl _⟩))) ?_
  refine Draw.gd [(17, some 13), (9, some 5)] rfl (by kernel_rfl) (wantT rfl rfl rfl) (fun kq hkq hc => AOp.slots [(17, _)] (.cons (gvT rfl hc) .nil) (AOp.len' rfl rfl ⟨rfl, rfl, Nat.le_refl _⟩)) ?_
  refine Draw.gd [(13, some 9), (18, some 14), (9, some 5)] rfl (by kernel_rfl) (wantT rfl rfl rfl) (fun kq hkq hc => AOp.slots [(13, _), (18, _)] (.cons (gvT rfl hc) (.cons (gvT rfl hc) .nil)) (AOp.bin' rfl rfl rfl rfl ⟨rfl, rfl, Nat.le_refl _⟩)) ?_
  refine Draw.step [(9, some 5), (19, some 15)] rfl (by kernel_rfl) rfl (fun kq hkq => AOp.pickAnd rfl rfl rfl (fun hb => gvE rfl hb) ⟨rfl, rfl, Nat.le_refl _⟩) ?_
  refine Draw.done fun kq hkq => ?_
  show aOps _ _ _ _ [] ⟨_, _, _⟩
  refine aOps_end ?_
  show ACode _ _ _ _ _ _
  refine ACode.cond rfl (fun c0 => ?_) (fun c0 => ?_)
  · skip
    have c0b : r.e = 0 ∧ r.at_ < r.bs.length := by simp at c0; omega
    refine ACode.seq ?_
    refine ACode.draw' 6 [(0, 21), (1, 22), (2, 23), (3, 24), (4, 2), (5, 3)] mixed (by kernel_rfl) ?_
    refine Draw.step [(0, none)] rfl (by kernel_rfl) rfl (fun kq hkq => AOp.move' (.inl rfl) rfl ⟨rfl, rfl, Nat.le_refl _⟩) ?_
    refine Draw.step [(21, some 0)] rfl (by kernel_rfl) rfl (fun kq hkq => AOp.nilCheck' rfl rfl ⟨rfl, rfl, Nat.le_refl _⟩) ?_
    refine Draw.step [(22, some 1)] rfl (by kernel_rfl) rfl (fun kq hkq => AOp.fieldAddr' rfl (by decide) rfl ⟨rfl, rfl, Nat.le_refl _⟩) ?_
    refine Draw.step [(23, some 2)] rfl (by kernel_rfl) rfl (fun kq hkq => (by refine AOp.load1 (b := ?b4) (v := ?v4) rfl rfl ?hn4 ?hv4 ?hR4; (case hn4 => exact hpA); (case hv4 => rfl); exact ⟨rfl, rfl, Nat.le_refl _⟩)) ?_
    refine Draw.step [] rfl (by kernel_rfl) rfl (fun kq hkq => AOp.move' (.inr rfl) rfl ⟨rfl, rfl, Nat.le_refl _⟩) ?_
    refine Draw.step [(24, some 3)] rfl (by kernel_rfl) rfl (fun kq hkq => AOp.move' (.inr rfl) rfl ⟨rfl, rfl, Nat.le_refl _⟩) ?_
    refine Draw.done fun kq hkq => ?_
    show aOps _ _ _ _ [] ⟨_, _, _⟩
    refine aOps_end ?_
    show ACode _ _ _ _ _ _
    refine ACode.ret ?_
    exact RetQ.two rfl rfl rfl subA stays (fun hk => ⟨(by rw [Rd.end_, if_pos c0b]; rfl), rfl, by omega⟩)
  · skip
    have c0b : ¬ (r.e = 0 ∧ r.at_ < r.bs.length) := by simp at c0; omega
    refine ACode.skip ?_
    show ACode _ _ _ _ _ _
    refine ACode.seq ?_
    refine ACode.draw' 10 [(0, 25), (1, 26), (2, 27), (3, 28), (4, 29), (5, 30), (6, 31), (7, 32), (8, 2), (9, 3)] mixed (by kernel_rfl) ?_
    refine Draw.step [(0, none)] rfl (by kernel_rfl) rfl (fun kq hkq => AOp.move' (.inl rfl) rfl ⟨rfl, rfl, Nat.le_refl _⟩) ?_
    refine Draw.step [(25, some 0)] rfl (by kernel_rfl) rfl (fun kq hkq => AOp.nilCheck' rfl rfl ⟨rfl, rfl, Nat.le_refl _⟩) ?_
    refine Draw.step [(26, some 1)] rfl (by kernel_rfl) rfl (fun kq hkq => AOp.fieldAddr' rfl (by decide) rfl ⟨rfl, rfl, Nat.le_refl _⟩) ?_
    refine Draw.step [(27, some 2)] rfl (by kernel_rfl) rfl (fun kq hkq => (by refine AOp.load1 (b := ?b5) (v := ?v5) rfl rfl ?hn5 ?hv5 ?hR5; (case hn5 => exact hpA); (case hv5 => rfl); exact ⟨rfl, rfl, Nat.le_refl _⟩)) ?_
    refine Draw.step [(0, none)] rfl (by kernel_rfl) rfl (fun kq hkq => AOp.move' (.inl rfl) rfl ⟨rfl, rfl, Nat.le_refl _⟩) ?_
    refine Draw.step [(29, some 4)] rfl (by kernel_rfl) rfl (fun kq hkq => AOp.nilCheck' rfl rfl ⟨rfl, rfl, Nat.le_refl _⟩) ?_
    refine Draw.step [(30, some 5)] rfl (by kernel_rfl) rfl (fun kq hkq => AOp.fieldAddr' rfl (by decide) rfl ⟨rfl, rfl, Nat.le_refl _⟩) ?_
    refine Draw.step [(31, some 6)] rfl (by kernel_rfl) rfl (fun kq hkq => (by refine AOp.load1 (b := ?b6) (v := ?v6) rfl rfl ?hn6 ?hv6 ?hR6; (case hn6 => exact hpA); (case hv6 => rfl); exact ⟨rfl, rfl, Nat.le_refl _⟩)) ?_
    refine Draw.step [(28, some 3)] rfl (by kernel_rfl) rfl (fun kq hkq => AOp.move' (.inr rfl) rfl ⟨rfl, rfl, Nat.le_refl _⟩) ?_
    refine Draw.step [(32, some 7)] rfl (by kernel_rfl) rfl (fun kq hkq => AOp.move' (.inr rfl) rfl ⟨rfl, rfl, Nat.le_refl _⟩) ?_
    refine Draw.done fun kq hkq => ?_
    show aOps _ _ _ _ [] ⟨_, _, _⟩
    refine aOps_end ?_
    show ACode _ _ _ _ _ _
    refine ACode.ret ?_
    exact RetQ.two rfl rfl rfl subA stays (fun hk => ⟨(by rw [Rd.end_, if_neg c0b]; rfl), rfl, by omega⟩)

set_option maxHeartbeats 4000000 in
theorem rlogTake (bs : List UInt8) (A : Option Addr) (c : Nat) (hD : SLC H 1 A bs.length c (bs.map bv)) (hbl : bs.length ≤ 1000000000) (cols : List Col) (B : Option Addr) (d : Nat) (hC : SLC H 3 B cols.length d (cols3 cols)) (hcl : cols.length ≤ 1000000) : ACalls Tryd.prog 3 17 [.slice A bs.length c, .slice B cols.length d] H k (fun v H' k' => ∃ cv, v = .tuple #[cv, .int .i64 (takeC cols bs).2.1, .int .i64 (takeC cols bs).2.2] ∧ CmV (cutH H' k) (takeC cols bs).1 cv ∧ k ≤ k' ∧ (∀ m, k' ≤ m → H' m = none) ∧ Ab.Sub H H') := by
  refine ACalls.fresh fun hf => ?_
  refine ACalls.body Tryd.func17 rfl (Nat.le_of_ble_eq_true rfl) ?_
  obtain ⟨r, hr⟩ : ∃ r : Rd, r = ⟨bs, 0, 0, 0⟩ := ⟨_, rfl⟩
  have hbl2 : r.bs.length = bs.length := by rw [hr]
  have hok : r.ok := by rw [hr]; exact ⟨Nat.zero_le _, hbl, Int.le_refl 0, (by decide : (0 : Int) ≤ 100), Int.le_refl 0, (by decide : (0 : Int) ≤ 1000000000), fun _ => rfl⟩
  have hfx := Rd.fix1_ok hok
  have hfb := Rd.fix1_bs r
  have hHk := hf k (Nat.le_refl k)
  have hHm := hf (k + 1) (Nat.le_succ k)
  have hAm : Away A bs.length (k + 1) := Away.of hD hHm
  refine ACode.seq ?_
  refine ACode.region' [0, 1, 2] (by kernel_rfl) rfl ?_
  refine aOps_1 rfl rfl rfl (AOp.alloc' rfl ?_)
  refine aOps_1 rfl rfl rfl (AOp.move' (.inr rfl) rfl ?_)
  refine aOps_1 rfl rfl rfl (AOp.move' (.inr rfl) rfl ?_)
  refine aOps_end ?_
  show ACode _ _ _ _ _ _
  refine ACode.seq ?_
  refine ACode.region' [0, 1, 2, 3] (by kernel_rfl) rfl ?_
  refine aOps_1 rfl rfl rfl (AOp.move' (.inl rfl) rfl ?_)
  refine aOps_1 rfl rfl rfl (AOp.buildS (cells := #[_, _, _, _]) rfl rfl rfl ?_)
  refine aOps_1 rfl rfl rfl (AOp.boxV rfl rfl ?_)
  have hRi : RfN (upd (upd H k (some (cmblk 0 NIL 0 NIL 0 0 NIL NIL 0 0))) (k + 1) (some (rfBlk A c ⟨bs, 0, 0, 0⟩))) (k + 1) A c r := by rw [hr]; exact ⟨upd_same _ _ _, hD.sub (sub_new (sub_new (sub_refl H) hHk) hHm), hAm, by rw [hr] at hok; exact hok⟩
  refine aOps_1 rfl rfl rfl (AOp.move' (.inr rfl) rfl ?_)
  refine aOps_end ?_
  show ACode _ _ _ _ _ _
  refine ACode.seq ?_
  refine ACode.region' [0, 1, 2, 3, 4, 5] (by kernel_rfl) rfl ?_
  refine aOps_1 rfl rfl rfl (AOp.move' (.inl rfl) rfl ?_)
  refine aOps_1 rfl rfl rfl ?_
  refine AOp.call' rfl rfl rfl (rfix1 _ _ (k + 1) c A r hRi) ?_
  rintro _ HLx kx ⟨rfl, hPx⟩
  have hkx := hPx.1
  have hfLx := hPx.2.1
  have hsLx := hPx.2.2.1
  have hRx := hPx.2.2.2
  have hnx := hRx.hn
  have thsLx := SubS.of hsLx
  have hzx : HLx k = some (cmblk 0 NIL 0 NIL 0 0 NIL NIL 0 0) := hsLx _ _ ((upd_other _ _ (by omega)).trans ((upd_other _ _ (by omega)).trans (upd_same _ _ _)))
  have hSx : Ab.Sub H HLx := sub_past (sub_new (sub_new (sub_refl H) hHk) hHm) hHm hsLx
  have hHx : H kx = none := hf kx (by omega)
  have hAq : Away A r.bs.length kx := by have h := Away.of hRx.hs (hfLx kx (Nat.le_refl _)); rw [hfb] at h; exact h
  have hRy := fun y => hRx.away (x := y) (show k + 1 ≠ kx by omega) (by rw [hfb]; exact hAq)
  refine aOps_1 rfl rfl rfl (AOp.convInt rfl rfl ?_)
  rw [show IntKind.i64.wrap ((r.fix1.1 : Nat) : Int) = ((r.fix1.1 : Nat) : Int) from i64_wrap (by omega) (by omega)]
  refine aOps_1 rfl rfl rfl (AOp.buildS (cells := #[_, _, _, _, _, _, _, _, _, _]) rfl rfl rfl ?_)
  refine aOps_1 rfl rfl rfl (AOp.alloc' rfl ?_)
  refine aOps_0 rfl rfl rfl ?_
  refine AOp.storeAll (b := ?b7) rfl rfl rfl ?hn7 ?hk7 rfl ?hw7 ?ho7 ?hl7 ?hR7
  (case hn7 => exact hpA)
  (case hk7 => rfl)
  (case hw7 => first | rfl | (simp; done))
  (case ho7 => first | rfl | decide | (simp; done))
  (case hl7 => first | rfl | (simp; done))
  rw [rd_upd2]
  refine aOps_end ?_
  show ACode _ _ _ _ _ _
  refine ACode.seq ?_
  refine ACode.seq ?_
  refine ACode.region' [0, 1] (by kernel_rfl) rfl ?_
  refine aOps_1 rfl rfl rfl (AOp.fieldAddr' rfl (by decide) rfl ?_)
  refine aOps_1 rfl rfl rfl ?_
  refine AOp.load1 (b := ?b8) (v := ?v8) rfl rfl ?hn8 ?hv8 ?hR8
  (case hn8 => exact hpA)
  (case hv8 => rfl)
  refine aOps_end ?_
  show ACode _ _ _ _ _ _
  refine ACode.block ?_
  refine ACode.seq ?_
  refine ACode.region' [0, 1] (by kernel_rfl) rfl ?_
  refine aOps_1 rfl rfl rfl (AOp.bin' rfl rfl rfl rfl ?_)
  refine aOps_1 rfl rfl rfl (AOp.move' (.inr rfl) rfl ?_)
  refine aOps_end ?_
  show ACode _ _ _ _ _ _
  refine ACode.cond rfl (fun c0 => ?_) (fun c0 => ?_)
  · try simp only [decide_eq_true_eq, decide_eq_false_iff_not, beq_iff_eq, beq_eq_false_iff_ne, ne_eq, bne_iff_ne, Bool.not_eq_true', Bool.not_eq_false', Int.not_lt, Int.not_le, gt_iff_lt, ge_iff_le, bne_eq_false_iff_eq, Bool.not_eq_eq_eq_not, Bool.not_true, Bool.not_false] at c0
    rw [c0]
    refine ACode.seq ?_
    refine ACode.region' [0, 1, 2, 3] (by kernel_rfl) rfl ?_
    refine aOps_1 rfl rfl rfl (AOp.move' (.inl rfl) rfl ?_)
    refine aOps_1 rfl rfl rfl ?_
    refine AOp.call' rfl rfl rfl (rtakeS _ _ (k + 1) c A r.fix1.2 (hRy _)) ?_
    rintro _ HLs ks ⟨⟨As, cs, rfl, hs1, hsa⟩, hPs⟩
    have hks := hPs.1
    have hfLs := hPs.2.1
    have hsLs := hPs.2.2.1
    have hRs := hPs.2.2.2
    have hns := hRs.hn
    have thsLs := SubS.of hsLs
    have hbs : HLs kx = some (cmblk 1 NIL 0 NIL 0 0 NIL NIL 0 0) := hsLs _ _ ((upd_other _ _ (by omega)).trans (upd_same _ _ _))
    have hzs : HLs k = some (cmblk 0 NIL 0 NIL 0 0 NIL NIL 0 0) := hsLs _ _ ((upd_other _ _ (by omega)).trans ((upd_other _ _ (by omega)).trans hzx))
    have hSs : Ab.Sub H HLs := sub_past (sub_new hSx hHx) hHm hsLs
    refine aOps_1 rfl rfl rfl (AOp.fieldAddr' rfl (by decide) rfl ?_)
    refine aOps_0 rfl rfl rfl ?_
    refine AOp.store1 (b := ?b9) rfl rfl rfl ?hn9 ?hk9 rfl rfl ?hl9 ?hR9
    (case hn9 => exact hpA)
    (case hk9 => rfl)
    (case hl9 => first | (simp; done) | exact Nat.le_of_ble_eq_true rfl)
    refine aOps_end ?_
    show ACode _ _ _ _ _ _
    refine ACode.region' [0, 1, 2, 3] (by kernel_rfl) rfl ?_
    refine aOps_1 rfl rfl rfl (AOp.move' (.inl rfl) rfl ?_)
    refine aOps_1 rfl rfl rfl ?_
    refine AOp.call' rfl rfl rfl (rnumber _ _ (k + 1) c A (takeSch r.fix1.2).2 (hRs.away (by omega) (by rw [show _ = r.bs from (takeSch_ok hfx.1).2.2.trans hfb]; exact hAq))) ?_
    rintro _ HLm km ⟨rfl, hPm⟩
    have hkm := hPm.1
    have hfLm := hPm.2.1
    have hsLm := hPm.2.2.1
    have hRm := hPm.2.2.2
    have hnm := hRm.hn
    have thsLm := SubS.of hsLm
    have hbm : HLm kx = some (cmblk 1 (.slice As (takeSch r.fix1.2).1.length cs) 0 NIL 0 0 NIL NIL 0 0) := hsLm _ _ ((upd_other _ _ (by omega)).trans (upd_same _ _ _))
    have hzm : HLm k = some (cmblk 0 NIL 0 NIL 0 0 NIL NIL 0 0) := hsLm _ _ ((upd_other _ _ (by omega)).trans ((upd_other _ _ (by omega)).trans hzs))
    have hSm : Ab.Sub H HLm := sub_past (sub_new hSs hHx) hHm hsLm
    have hsm : SLC HLm 3 As (takeSch r.fix1.2).1.length cs (cols3 (takeSch r.fix1.2).1) := (SLC.away (Away.ne (fun a ha => by have := (hsa a ha).1; omega)) (SLC.away (Away.ne (fun a ha => by have := (hsa a ha).1; omega)) hs1)).sub hsLm
    refine aOps_1 rfl rfl rfl (AOp.fieldAddr' rfl (by decide) rfl ?_)
    refine aOps_0 rfl rfl rfl ?_
    refine AOp.store1 (b := ?b10) rfl rfl rfl ?hn10 ?hk10 rfl rfl ?hl10 ?hR10
    (case hn10 => exact hpA)
    (case hk10 => rfl)
    (case hl10 => first | (simp; done) | exact Nat.le_of_ble_eq_true rfl)
    refine aOps_end ?_
    show ACode _ _ _ _ _ _
    refine ACode.seq ?_
    refine ACode.seq ?_
    refine ACode.region' [0, 1, 2, 3, 4, 5, 6, 7] (by kernel_rfl) rfl ?_
    refine aOps_1 rfl rfl rfl (AOp.fieldAddr' rfl (by decide) rfl ?_)
    refine aOps_1 rfl rfl rfl ?_
    refine AOp.load1 (b := ?b11) (v := ?v11) rfl rfl ?hn11 ?hv11 ?hR11
    (case hn11 => exact hpA)
    (case hv11 => rfl)
    refine aOps_1 rfl rfl rfl (AOp.bin' rfl rfl rfl rfl ?_)
    refine aOps_1 rfl rfl rfl (AOp.move' (.inl rfl) rfl ?_)
    refine aOps_gd0 rfl rfl (wantF rfl rfl rfl) (fun hc => AOp.slots [(8, _)] (.cons rfl .nil) (AOp.fieldAddr' rfl (by decide) rfl ⟨rfl, rfl, rfl⟩)) ?_
    refine aOps_gd0 rfl rfl (wantF rfl rfl rfl) (fun hc => AOp.slots [(51, _)] (.cons (gvT rfl hc) .nil) ((by refine AOp.load1 (b := ?b12) (v := ?v12) rfl rfl ?hn12 ?hv12 ?hR12; (case hn12 => exact hpA); (case hv12 => rfl); exact ⟨rfl, rfl, rfl⟩))) ?_
    refine aOps_gd0 rfl rfl (wantF rfl rfl rfl) (fun hc => AOp.slots [(52, _)] (.cons (gvT rfl hc) .nil) (AOp.bin' rfl rfl rfl rfl ⟨rfl, rfl, rfl⟩)) ?_
    refine aOps_1 rfl rfl rfl (AOp.pickOr rfl rfl rfl (fun hb => gvE rfl (t_not hb)) ?_)
    refine aOps_end ?_
    show ACode _ _ _ _ _ _
    refine ACode.cond rfl (fun c4 => absurd c4 (by decide)) (fun c4 => ?_)
    refine ACode.skip ?_
    show ACode _ _ _ _ _ _
    refine ACode.seq ?_
    refine ACode.seq ?_
    have hcr : takeCr gR cols r = (⟨1, (takeSch r.fix1.2).1, gR (numR (takeSch r.fix1.2).2).1, [], pD0, 0, 0⟩, (numR (takeSch r.fix1.2).2).2) := by unfold takeCr cmK; rw [if_pos (show r.fix1.1 = 1 by omega)]
    have hbe : (numR (takeSch r.fix1.2).2).2.bs = r.bs := (numR_bs _).trans ((takeSch_ok hfx.1).2.2.trans hfb)
    have hSe : Ab.Sub H HLm := hSm
    have hRe := fun y => hRm.away (x := y) (show k + 1 ≠ kx by omega) (by rw [hbe]; exact hAq)
    refine ACode.region' [0, 1, 2, 3, 4, 5, 6] (by kernel_rfl) rfl ?_
    refine aOps_1 rfl rfl rfl (AOp.move' (.inl rfl) rfl ?_)
    refine aOps_q rfl rfl rfl (AOp.call' rfl rfl rfl (rend_ _ _ (k + 1) c A (numR (takeSch r.fix1.2).2).2 (hRe _)) (fun _ _ _ h => h)) (fun kq hkq => ?_)
    refine aOps_1 rfl rfl rfl (AOp.move' (.inl rfl) rfl ?_)
    refine aOps_1 rfl rfl rfl (AOp.extract' rfl rfl rfl ?_)
    refine aOps_1 rfl rfl rfl (AOp.extract' rfl rfl rfl ?_)
    refine aOps_1 rfl rfl rfl (AOp.move' (.inr rfl) rfl ?_)
    refine aOps_1 rfl rfl rfl (AOp.move' (.inr rfl) rfl ?_)
    refine aOps_end ?_
    show ACode _ _ _ _ _ _
    refine ACode.seq ?_
    refine ACode.region' [0, 1] (by kernel_rfl) rfl ?_
    refine aOps_1 rfl rfl rfl (AOp.move' (.inl rfl) rfl ?_)
    refine aOps_1 rfl rfl rfl (AOp.bin' rfl rfl rfl rfl ?_)
    refine aOps_end ?_
    show ACode _ _ _ _ _ _
    refine ACode.cond rfl (fun c5 => ?_) (fun c5 => ?_)
    · try simp only [decide_eq_true_eq, decide_eq_false_iff_not, beq_iff_eq, beq_eq_false_iff_ne, ne_eq, bne_iff_ne, Bool.not_eq_true', Bool.not_eq_false', Int.not_lt, Int.not_le, gt_iff_lt, ge_iff_le, bne_eq_false_iff_eq, Bool.not_eq_eq_eq_not, Bool.not_true, Bool.not_false] at c5
      refine ACode.seq ?_
      refine ACode.region' [0, 1, 2, 3, 4, 5] (by kernel_rfl) rfl ?_
      refine aOps_1 rfl rfl rfl (AOp.buildS (cells := #[_, _, _, _, _, _, _, _, _, _]) rfl rfl rfl ?_)
      refine aOps_1 rfl rfl rfl (AOp.move' (.inl rfl) rfl ?_)
      refine aOps_1 rfl rfl rfl (AOp.move' (.inl rfl) rfl ?_)
      refine aOps_0 rfl rfl rfl ?_
      refine AOp.storeAll (b := ?b13) rfl rfl rfl ?hn13 ?hk13 rfl ?hw13 ?ho13 ?hl13 ?hR13
      (case hn13 => exact hpA)
      (case hk13 => rfl)
      (case hw13 => first | rfl | (simp; done))
      (case ho13 => first | rfl | decide | (simp; done))
      (case hl13 => first | rfl | (simp; done))
      refine aOps_1 rfl rfl rfl (AOp.move' (.inr rfl) rfl ?_)
      refine aOps_1 rfl rfl rfl (AOp.move' (.inr rfl) rfl ?_)
      try rw [rd_upd2]
      refine aOps_end ?_
      show ACode _ _ _ _ _ _
      refine ACode.ret ?_
      try simp only [thenA, blockA, if_true]
      have e1 : takeC cols bs = (cmD 0, (numR (takeSch r.fix1.2).2).2.end_.1, (numR (takeSch r.fix1.2).2).2.end_.2) := by rw [← takeC_r, ← hr]; unfold ansC; rw [hcr]; exact if_pos c5
      rw [e1]
      exact RetQ.cell3 rfl rfl (aloadAll (b := cmblk 0 NIL 0 NIL 0 0 NIL NIL 0 0) (v := cmv 0 NIL 0 NIL 0 0 NIL NIL 0 0) (upd_same _ _ _) rfl rfl rfl) rfl rfl (sub_refl _) (fun m b h => ⟨b, (show Ab.Sub H _ from (by first | exact sub_new (sub_new hSe hHx) hHk | exact sub_new hSe hHk)) m b h⟩) (fun hk => ⟨_, rfl, CmV.zero 0, by omega, (fun m hm => by (repeat refine (upd_other _ _ (by omega)).trans ?_); exact hfLm m (by omega)), (by first | exact sub_new (sub_new hSe hHx) hHk | exact sub_new hSe hHk)⟩)
    · try simp only [decide_eq_true_eq, decide_eq_false_iff_not, beq_iff_eq, beq_eq_false_iff_ne, ne_eq, bne_iff_ne, Bool.not_eq_true', Bool.not_eq_false', Int.not_lt, Int.not_le, gt_iff_lt, ge_iff_le, bne_eq_false_iff_eq, Bool.not_eq_eq_eq_not, Bool.not_true, Bool.not_false] at c5
      refine ACode.skip ?_
      show ACode _ _ _ _ _ _
      refine ACode.seq ?_
      refine ACode.region' [0, 1, 2, 3] (by kernel_rfl) rfl ?_
      refine aOps_1 rfl rfl rfl ?_
      refine AOp.loadAll (b := ?b14) (v := cmv 1 (.slice As (takeSch r.fix1.2).1.length cs) (gR (numR (takeSch r.fix1.2).2).1) NIL 0 0 NIL NIL 0 0) rfl rfl ?hn14 ?hv14 ?hw14 ?hz14 ?hR14
      (case hn14 => exact hpA)
      (case hv14 => rfl)
      (case hw14 => rfl)
      (case hz14 => first | rfl | (simp; done))
      refine aOps_0 rfl rfl rfl ?_
      refine AOp.storeAll (b := ?b15) rfl rfl rfl ?hn15 ?hk15 rfl ?hw15 ?ho15 ?hl15 ?hR15
      (case hn15 => exact hpA)
      (case hk15 => rfl)
      (case hw15 => first | rfl | (simp; done))
      (case ho15 => first | rfl | decide | (simp; done))
      (case hl15 => first | rfl | (simp; done))
      refine aOps_1 rfl rfl rfl (AOp.move' (.inr rfl) rfl ?_)
      refine aOps_1 rfl rfl rfl (AOp.move' (.inr rfl) rfl ?_)
      try rw [rd_upd2]
      refine aOps_end ?_
      show ACode _ _ _ _ _ _
      refine ACode.ret ?_
      try simp only [thenA, blockA, if_true]
      have e1 : takeC cols bs = (⟨1, (takeSch r.fix1.2).1, gR (numR (takeSch r.fix1.2).2).1, [], pD0, 0, 0⟩, 0, 0) := by rw [← takeC_r, ← hr]; unfold ansC; rw [hcr]; exact if_neg (fun h => h c5)
      rw [e1]
      exact RetQ.cell3 rfl rfl (aloadAll (b := cmblk 1 (.slice As (takeSch r.fix1.2).1.length cs) (gR (numR (takeSch r.fix1.2).2).1) NIL 0 0 NIL NIL 0 0) (v := cmv 1 (.slice As (takeSch r.fix1.2).1.length cs) (gR (numR (takeSch r.fix1.2).2).1) NIL 0 0 NIL NIL 0 0) (upd_same _ _ _) rfl rfl rfl) rfl rfl (sub_refl _) (fun m b h => ⟨b, (show Ab.Sub H _ from (by first | exact sub_new (sub_new hSe hHx) hHk | exact sub_new hSe hHk)) m b h⟩) (fun hk => ⟨_, rfl, CmV.mk (SLC.cutK (SLC.away (Away.ne (fun a ha => by have := (hsa a ha).1; omega)) (SLC.away (Away.ne (fun a ha => by have := (hsa a ha).1; omega)) hsm)) (fun a ha => by have := (hsa a ha).1; omega)) SLC.nil Rws.nil PdV.zero, by omega, (fun m hm => by (repeat refine (upd_other _ _ (by omega)).trans ?_); exact hfLm m (by omega)), (by first | exact sub_new (sub_new hSe hHx) hHk | exact sub_new hSe hHk)⟩)
  · try simp only [decide_eq_true_eq, decide_eq_false_iff_not, beq_iff_eq, beq_eq_false_iff_ne, ne_eq, bne_iff_ne, Bool.not_eq_true', Bool.not_eq_false', Int.not_lt, Int.not_le, gt_iff_lt, ge_iff_le, bne_eq_false_iff_eq, Bool.not_eq_eq_eq_not, Bool.not_true, Bool.not_false] at c0
    refine ACode.seq ?_
    refine ACode.region' [0, 1] (by kernel_rfl) rfl ?_
    refine aOps_1 rfl rfl rfl (AOp.bin' rfl rfl rfl rfl ?_)
    refine aOps_1 rfl rfl rfl (AOp.move' (.inr rfl) rfl ?_)
    refine aOps_end ?_
    show ACode _ _ _ _ _ _
    refine ACode.cond rfl (fun c1 => ?_) (fun c1 => ?_)
    · try simp only [decide_eq_true_eq, decide_eq_false_iff_not, beq_iff_eq, beq_eq_false_iff_ne, ne_eq, bne_iff_ne, Bool.not_eq_true', Bool.not_eq_false', Int.not_lt, Int.not_le, gt_iff_lt, ge_iff_le, bne_eq_false_iff_eq, Bool.not_eq_eq_eq_not, Bool.not_true, Bool.not_false] at c1
      rw [c1]
      refine ACode.region' [0, 1, 2, 3, 4] (by kernel_rfl) rfl ?_
      refine aOps_1 rfl rfl rfl (AOp.move' (.inl rfl) rfl ?_)
      refine aOps_1 rfl rfl rfl (AOp.move' (.inl rfl) rfl ?_)
      refine aOps_1 rfl rfl rfl ?_
      refine AOp.call' rfl rfl rfl (rtakeW _ _ (k + 1) c A r.fix1.2 (hRy _) cols B d (hC.sub (sub_new hSx hHx)) (Away.of hC hHm) hcl) ?_
      rintro _ HLw kw ⟨⟨Aw, cw, ws, rfl, hw1, hw0⟩, hPw⟩
      have hkw := hPw.1
      have hfLw := hPw.2.1
      have hsLw := hPw.2.2.1
      have hRw := hPw.2.2.2
      have hnw := hRw.hn
      have thsLw := SubS.of hsLw
      have hbw : HLw kx = some (cmblk 2 NIL 0 NIL 0 0 NIL NIL 0 0) := hsLw _ _ ((upd_other _ _ (by omega)).trans (upd_same _ _ _))
      have hzw : HLw k = some (cmblk 0 NIL 0 NIL 0 0 NIL NIL 0 0) := hsLw _ _ ((upd_other _ _ (by omega)).trans ((upd_other _ _ (by omega)).trans hzx))
      have hSw : Ab.Sub H HLw := sub_past (sub_new hSx hHx) hHm hsLw
      refine aOps_1 rfl rfl rfl (AOp.fieldAddr' rfl (by decide) rfl ?_)
      refine aOps_0 rfl rfl rfl ?_
      refine AOp.store1 (b := ?b16) rfl rfl rfl ?hn16 ?hk16 rfl rfl ?hl16 ?hR16
      (case hn16 => exact hpA)
      (case hk16 => rfl)
      (case hl16 => first | (simp; done) | exact Nat.le_of_ble_eq_true rfl)
      refine aOps_end ?_
      show ACode _ _ _ _ _ _
      refine ACode.seq ?_
      refine ACode.seq ?_
      refine ACode.region' [0, 1, 2, 3, 4, 5, 6, 7] (by kernel_rfl) rfl ?_
      refine aOps_1 rfl rfl rfl (AOp.fieldAddr' rfl (by decide) rfl ?_)
      refine aOps_1 rfl rfl rfl ?_
      refine AOp.load1 (b := ?b17) (v := ?v17) rfl rfl ?hn17 ?hv17 ?hR17
      (case hn17 => exact hpA)
      (case hv17 => rfl)
      refine aOps_1 rfl rfl rfl (AOp.bin' rfl rfl rfl rfl ?_)
      refine aOps_1 rfl rfl rfl (AOp.move' (.inl rfl) rfl ?_)
      refine aOps_gd0 rfl rfl (wantF rfl rfl rfl) (fun hc => AOp.slots [(8, _)] (.cons rfl .nil) (AOp.fieldAddr' rfl (by decide) rfl ⟨rfl, rfl, rfl⟩)) ?_
      refine aOps_gd0 rfl rfl (wantF rfl rfl rfl) (fun hc => AOp.slots [(51, _)] (.cons (gvT rfl hc) .nil) ((by refine AOp.load1 (b := ?b18) (v := ?v18) rfl rfl ?hn18 ?hv18 ?hR18; (case hn18 => exact hpA); (case hv18 => rfl); exact ⟨rfl, rfl, rfl⟩))) ?_
      refine aOps_gd0 rfl rfl (wantF rfl rfl rfl) (fun hc => AOp.slots [(52, _)] (.cons (gvT rfl hc) .nil) (AOp.bin' rfl rfl rfl rfl ⟨rfl, rfl, rfl⟩)) ?_
      refine aOps_1 rfl rfl rfl (AOp.pickOr rfl rfl rfl (fun hb => gvE rfl (t_not hb)) ?_)
      refine aOps_end ?_
      show ACode _ _ _ _ _ _
      refine ACode.cond rfl (fun c4 => absurd c4 (by decide)) (fun c4 => ?_)
      refine ACode.skip ?_
      show ACode _ _ _ _ _ _
      refine ACode.seq ?_
      refine ACode.seq ?_
      have hcr : takeCr gR cols r = (⟨2, [], 0, (takeRows cols r.fix1.2).1, pD0, 0, 0⟩, (takeRows cols r.fix1.2).2) := by unfold takeCr cmK; rw [if_neg (show ¬ r.fix1.1 = 1 by omega), if_pos (show r.fix1.1 = 2 by omega)]
      have hbe : (takeRows cols r.fix1.2).2.bs = r.bs := (takeRows_ok cols hfx.1).2.2.trans hfb
      have hSe : Ab.Sub H HLw := hSw
      have hRe := fun y => hRw.away (x := y) (show k + 1 ≠ kx by omega) (by rw [hbe]; exact hAq)
      refine ACode.region' [0, 1, 2, 3, 4, 5, 6] (by kernel_rfl) rfl ?_
      refine aOps_1 rfl rfl rfl (AOp.move' (.inl rfl) rfl ?_)
      refine aOps_q rfl rfl rfl (AOp.call' rfl rfl rfl (rend_ _ _ (k + 1) c A (takeRows cols r.fix1.2).2 (hRe _)) (fun _ _ _ h => h)) (fun kq hkq => ?_)
      refine aOps_1 rfl rfl rfl (AOp.move' (.inl rfl) rfl ?_)
      refine aOps_1 rfl rfl rfl (AOp.extract' rfl rfl rfl ?_)
      refine aOps_1 rfl rfl rfl (AOp.extract' rfl rfl rfl ?_)
      refine aOps_1 rfl rfl rfl (AOp.move' (.inr rfl) rfl ?_)
      refine aOps_1 rfl rfl rfl (AOp.move' (.inr rfl) rfl ?_)
      refine aOps_end ?_
      show ACode _ _ _ _ _ _
      refine ACode.seq ?_
      refine ACode.region' [0, 1] (by kernel_rfl) rfl ?_
      refine aOps_1 rfl rfl rfl (AOp.move' (.inl rfl) rfl ?_)
      refine aOps_1 rfl rfl rfl (AOp.bin' rfl rfl rfl rfl ?_)
      refine aOps_end ?_
      show ACode _ _ _ _ _ _
      refine ACode.cond rfl (fun c5 => ?_) (fun c5 => ?_)
      · try simp only [decide_eq_true_eq, decide_eq_false_iff_not, beq_iff_eq, beq_eq_false_iff_ne, ne_eq, bne_iff_ne, Bool.not_eq_true', Bool.not_eq_false', Int.not_lt, Int.not_le, gt_iff_lt, ge_iff_le, bne_eq_false_iff_eq, Bool.not_eq_eq_eq_not, Bool.not_true, Bool.not_false] at c5
        refine ACode.seq ?_
        refine ACode.region' [0, 1, 2, 3, 4, 5] (by kernel_rfl) rfl ?_
        refine aOps_1 rfl rfl rfl (AOp.buildS (cells := #[_, _, _, _, _, _, _, _, _, _]) rfl rfl rfl ?_)
        refine aOps_1 rfl rfl rfl (AOp.move' (.inl rfl) rfl ?_)
        refine aOps_1 rfl rfl rfl (AOp.move' (.inl rfl) rfl ?_)
        refine aOps_0 rfl rfl rfl ?_
        refine AOp.storeAll (b := ?b19) rfl rfl rfl ?hn19 ?hk19 rfl ?hw19 ?ho19 ?hl19 ?hR19
        (case hn19 => exact hpA)
        (case hk19 => rfl)
        (case hw19 => first | rfl | (simp; done))
        (case ho19 => first | rfl | decide | (simp; done))
        (case hl19 => first | rfl | (simp; done))
        refine aOps_1 rfl rfl rfl (AOp.move' (.inr rfl) rfl ?_)
        refine aOps_1 rfl rfl rfl (AOp.move' (.inr rfl) rfl ?_)
        try rw [rd_upd2]
        refine aOps_end ?_
        show ACode _ _ _ _ _ _
        refine ACode.ret ?_
        try simp only [thenA, blockA, if_true]
        have e1 : takeC cols bs = (cmD 0, (takeRows cols r.fix1.2).2.end_.1, (takeRows cols r.fix1.2).2.end_.2) := by rw [← takeC_r, ← hr]; unfold ansC; rw [hcr]; exact if_pos c5
        rw [e1]
        exact RetQ.cell3 rfl rfl (aloadAll (b := cmblk 0 NIL 0 NIL 0 0 NIL NIL 0 0) (v := cmv 0 NIL 0 NIL 0 0 NIL NIL 0 0) (upd_same _ _ _) rfl rfl rfl) rfl rfl (sub_refl _) (fun m b h => ⟨b, (show Ab.Sub H _ from (by first | exact sub_new (sub_new hSe hHx) hHk | exact sub_new hSe hHk)) m b h⟩) (fun hk => ⟨_, rfl, CmV.zero 0, by omega, (fun m hm => by (repeat refine (upd_other _ _ (by omega)).trans ?_); exact hfLw m (by omega)), (by first | exact sub_new (sub_new hSe hHx) hHk | exact sub_new hSe hHk)⟩)
      · try simp only [decide_eq_true_eq, decide_eq_false_iff_not, beq_iff_eq, beq_eq_false_iff_ne, ne_eq, bne_iff_ne, Bool.not_eq_true', Bool.not_eq_false', Int.not_lt, Int.not_le, gt_iff_lt, ge_iff_le, bne_eq_false_iff_eq, Bool.not_eq_eq_eq_not, Bool.not_true, Bool.not_false] at c5
        refine ACode.skip ?_
        show ACode _ _ _ _ _ _
        refine ACode.seq ?_
        refine ACode.region' [0, 1, 2, 3] (by kernel_rfl) rfl ?_
        refine aOps_1 rfl rfl rfl ?_
        refine AOp.loadAll (b := ?b20) (v := cmv 2 NIL 0 (.slice Aw ws.length cw) 0 0 NIL NIL 0 0) rfl rfl ?hn20 ?hv20 ?hw20 ?hz20 ?hR20
        (case hn20 => exact hpA)
        (case hv20 => rfl)
        (case hw20 => rfl)
        (case hz20 => first | rfl | (simp; done))
        refine aOps_0 rfl rfl rfl ?_
        refine AOp.storeAll (b := ?b21) rfl rfl rfl ?hn21 ?hk21 rfl ?hw21 ?ho21 ?hl21 ?hR21
        (case hn21 => exact hpA)
        (case hk21 => rfl)
        (case hw21 => first | rfl | (simp; done))
        (case ho21 => first | rfl | decide | (simp; done))
        (case hl21 => first | rfl | (simp; done))
        refine aOps_1 rfl rfl rfl (AOp.move' (.inr rfl) rfl ?_)
        refine aOps_1 rfl rfl rfl (AOp.move' (.inr rfl) rfl ?_)
        try rw [rd_upd2]
        refine aOps_end ?_
        show ACode _ _ _ _ _ _
        refine ACode.ret ?_
        try simp only [thenA, blockA, if_true]
        have e1 : takeC cols bs = (⟨2, [], 0, (takeRows cols r.fix1.2).1, pD0, 0, 0⟩, 0, 0) := by rw [← takeC_r, ← hr]; unfold ansC; rw [hcr]; exact if_neg (fun h => h c5)
        rw [e1]
        exact RetQ.cell3 rfl rfl (aloadAll (b := cmblk 2 NIL 0 (.slice Aw ws.length cw) 0 0 NIL NIL 0 0) (v := cmv 2 NIL 0 (.slice Aw ws.length cw) 0 0 NIL NIL 0 0) (upd_same _ _ _) rfl rfl rfl) rfl rfl (sub_refl _) (fun m b h => ⟨b, (show Ab.Sub H _ from (by first | exact sub_new (sub_new hSe hHx) hHk | exact sub_new hSe hHk)) m b h⟩) (fun hk => ⟨_, rfl, CmV.mk (sch := []) SLC.nil (hw1.sub (sub_trans (cutH_upd (Nat.lt_succ_self kx)) (cutH_upd (show k < kx by omega)))) (hw0.sub (sub_trans (cutH_upd (Nat.lt_succ_self kx)) (cutH_upd (show k < kx by omega)))) PdV.zero, by omega, (fun m hm => by (repeat refine (upd_other _ _ (by omega)).trans ?_); exact hfLw m (by omega)), (by first | exact sub_new (sub_new hSe hHx) hHk | exact sub_new hSe hHk)⟩)
    · try simp only [decide_eq_true_eq, decide_eq_false_iff_not, beq_iff_eq, beq_eq_false_iff_ne, ne_eq, bne_iff_ne, Bool.not_eq_true', Bool.not_eq_false', Int.not_lt, Int.not_le, gt_iff_lt, ge_iff_le, bne_eq_false_iff_eq, Bool.not_eq_eq_eq_not, Bool.not_true, Bool.not_false] at c1
      refine ACode.seq ?_
      refine ACode.region' [0, 1] (by kernel_rfl) rfl ?_
      refine aOps_1 rfl rfl rfl (AOp.bin' rfl rfl rfl rfl ?_)
      refine aOps_1 rfl rfl rfl (AOp.move' (.inr rfl) rfl ?_)
      refine aOps_end ?_
      show ACode _ _ _ _ _ _
      refine ACode.cond rfl (fun c2 => ?_) (fun c2 => ?_)
      · try simp only [decide_eq_true_eq, decide_eq_false_iff_not, beq_iff_eq, beq_eq_false_iff_ne, ne_eq, bne_iff_ne, Bool.not_eq_true', Bool.not_eq_false', Int.not_lt, Int.not_le, gt_iff_lt, ge_iff_le, bne_eq_false_iff_eq, Bool.not_eq_eq_eq_not, Bool.not_true, Bool.not_false] at c2
        rw [c2]
        refine ACode.region' [0, 1, 2, 3] (by kernel_rfl) rfl ?_
        refine aOps_1 rfl rfl rfl (AOp.move' (.inl rfl) rfl ?_)
        refine aOps_1 rfl rfl rfl ?_
        refine AOp.call' rfl rfl rfl (rtakePr _ _ (k + 1) c A r.fix1.2 (hRy _)) ?_
        rintro vp HLp kp ⟨hVp, hPp⟩
        have hkp := hPp.1
        have hfLp := hPp.2.1
        have hsLp := hPp.2.2.1
        have hRp := hPp.2.2.2
        have hnp := hRp.hn
        have thsLp := SubS.of hsLp
        have hbp : HLp kx = some (cmblk 3 NIL 0 NIL 0 0 NIL NIL 0 0) := hsLp _ _ ((upd_other _ _ (by omega)).trans (upd_same _ _ _))
        have hzp : HLp k = some (cmblk 0 NIL 0 NIL 0 0 NIL NIL 0 0) := hsLp _ _ ((upd_other _ _ (by omega)).trans ((upd_other _ _ (by omega)).trans hzx))
        have hSp : Ab.Sub H HLp := sub_past (sub_new hSx hHx) hHm hsLp
        obtain ⟨xo, xc, xA, xl, xcc, xB, xm, xd, rfl⟩ := hVp.form
        refine aOps_1 rfl rfl rfl (AOp.fieldAddr' rfl (by decide) rfl ?_)
        refine aOps_0 rfl rfl rfl ?_
        refine AOp.storeN (b := ?b22) rfl rfl rfl ?hn22 ?hk22 rfl ?ho22 ?hl22 ?hR22
        (case hn22 => exact hpA)
        (case hk22 => rfl)
        (case ho22 => first | rfl | decide | (simp; done) | (simp [Value.oneCell']; done))
        (case hl22 => simp)
        refine aOps_end ?_
        show ACode _ _ _ _ _ _
        refine ACode.seq ?_
        refine ACode.seq ?_
        refine ACode.region' [0, 1, 2, 3, 4, 5, 6, 7] (by kernel_rfl) rfl ?_
        refine aOps_1 rfl rfl rfl (AOp.fieldAddr' rfl (by decide) rfl ?_)
        refine aOps_1 rfl rfl rfl ?_
        refine AOp.load1 (b := ?b23) (v := ?v23) rfl rfl ?hn23 ?hv23 ?hR23
        (case hn23 => exact hpA)
        (case hv23 => rfl)
        refine aOps_1 rfl rfl rfl (AOp.bin' rfl rfl rfl rfl ?_)
        refine aOps_1 rfl rfl rfl (AOp.move' (.inl rfl) rfl ?_)
        refine aOps_gd0 rfl rfl (wantF rfl rfl rfl) (fun hc => AOp.slots [(8, _)] (.cons rfl .nil) (AOp.fieldAddr' rfl (by decide) rfl ⟨rfl, rfl, rfl⟩)) ?_
        refine aOps_gd0 rfl rfl (wantF rfl rfl rfl) (fun hc => AOp.slots [(51, _)] (.cons (gvT rfl hc) .nil) ((by refine AOp.load1 (b := ?b24) (v := ?v24) rfl rfl ?hn24 ?hv24 ?hR24; (case hn24 => exact hpA); (case hv24 => rfl); exact ⟨rfl, rfl, rfl⟩))) ?_
        refine aOps_gd0 rfl rfl (wantF rfl rfl rfl) (fun hc => AOp.slots [(52, _)] (.cons (gvT rfl hc) .nil) (AOp.bin' rfl rfl rfl rfl ⟨rfl, rfl, rfl⟩)) ?_
        refine aOps_1 rfl rfl rfl (AOp.pickOr rfl rfl rfl (fun hb => gvE rfl (t_not hb)) ?_)
        refine aOps_end ?_
        show ACode _ _ _ _ _ _
        refine ACode.cond rfl (fun c4 => absurd c4 (by decide)) (fun c4 => ?_)
        refine ACode.skip ?_
        show ACode _ _ _ _ _ _
        refine ACode.seq ?_
        refine ACode.seq ?_
        have hcr : takeCr gR cols r = (⟨3, [], 0, [], (takePr r.fix1.2).1, 0, 0⟩, (takePr r.fix1.2).2) := by unfold takeCr cmK; rw [if_neg (show ¬ r.fix1.1 = 1 by omega), if_neg (show ¬ r.fix1.1 = 2 by omega), if_pos (show r.fix1.1 = 3 by omega)]
        have hbe : (takePr r.fix1.2).2.bs = r.bs := (takeP_bs 32 _).trans hfb
        have hSe : Ab.Sub H HLp := hSp
        have hRe := fun y => hRp.away (x := y) (show k + 1 ≠ kx by omega) (by rw [hbe]; exact hAq)
        refine ACode.region' [0, 1, 2, 3, 4, 5, 6] (by kernel_rfl) rfl ?_
        refine aOps_1 rfl rfl rfl (AOp.move' (.inl rfl) rfl ?_)
        refine aOps_q rfl rfl rfl (AOp.call' rfl rfl rfl (rend_ _ _ (k + 1) c A (takePr r.fix1.2).2 (hRe _)) (fun _ _ _ h => h)) (fun kq hkq => ?_)
        refine aOps_1 rfl rfl rfl (AOp.move' (.inl rfl) rfl ?_)
        refine aOps_1 rfl rfl rfl (AOp.extract' rfl rfl rfl ?_)
        refine aOps_1 rfl rfl rfl (AOp.extract' rfl rfl rfl ?_)
        refine aOps_1 rfl rfl rfl (AOp.move' (.inr rfl) rfl ?_)
        refine aOps_1 rfl rfl rfl (AOp.move' (.inr rfl) rfl ?_)
        refine aOps_end ?_
        show ACode _ _ _ _ _ _
        refine ACode.seq ?_
        refine ACode.region' [0, 1] (by kernel_rfl) rfl ?_
        refine aOps_1 rfl rfl rfl (AOp.move' (.inl rfl) rfl ?_)
        refine aOps_1 rfl rfl rfl (AOp.bin' rfl rfl rfl rfl ?_)
        refine aOps_end ?_
        show ACode _ _ _ _ _ _
        refine ACode.cond rfl (fun c5 => ?_) (fun c5 => ?_)
        · try simp only [decide_eq_true_eq, decide_eq_false_iff_not, beq_iff_eq, beq_eq_false_iff_ne, ne_eq, bne_iff_ne, Bool.not_eq_true', Bool.not_eq_false', Int.not_lt, Int.not_le, gt_iff_lt, ge_iff_le, bne_eq_false_iff_eq, Bool.not_eq_eq_eq_not, Bool.not_true, Bool.not_false] at c5
          refine ACode.seq ?_
          refine ACode.region' [0, 1, 2, 3, 4, 5] (by kernel_rfl) rfl ?_
          refine aOps_1 rfl rfl rfl (AOp.buildS (cells := #[_, _, _, _, _, _, _, _, _, _]) rfl rfl rfl ?_)
          refine aOps_1 rfl rfl rfl (AOp.move' (.inl rfl) rfl ?_)
          refine aOps_1 rfl rfl rfl (AOp.move' (.inl rfl) rfl ?_)
          refine aOps_0 rfl rfl rfl ?_
          refine AOp.storeAll (b := ?b25) rfl rfl rfl ?hn25 ?hk25 rfl ?hw25 ?ho25 ?hl25 ?hR25
          (case hn25 => exact hpA)
          (case hk25 => rfl)
          (case hw25 => first | rfl | (simp; done))
          (case ho25 => first | rfl | decide | (simp; done))
          (case hl25 => first | rfl | (simp; done))
          refine aOps_1 rfl rfl rfl (AOp.move' (.inr rfl) rfl ?_)
          refine aOps_1 rfl rfl rfl (AOp.move' (.inr rfl) rfl ?_)
          try rw [rd_upd2]
          refine aOps_end ?_
          show ACode _ _ _ _ _ _
          refine ACode.ret ?_
          try simp only [thenA, blockA, if_true]
          have e1 : takeC cols bs = (cmD 0, (takePr r.fix1.2).2.end_.1, (takePr r.fix1.2).2.end_.2) := by rw [← takeC_r, ← hr]; unfold ansC; rw [hcr]; exact if_pos c5
          rw [e1]
          exact RetQ.cell3 rfl rfl (aloadAll (b := cmblk 0 NIL 0 NIL 0 0 NIL NIL 0 0) (v := cmv 0 NIL 0 NIL 0 0 NIL NIL 0 0) (upd_same _ _ _) rfl rfl rfl) rfl rfl (sub_refl _) (fun m b h => ⟨b, (show Ab.Sub H _ from (by first | exact sub_new (sub_new hSe hHx) hHk | exact sub_new hSe hHk)) m b h⟩) (fun hk => ⟨_, rfl, CmV.zero 0, by omega, (fun m hm => by (repeat refine (upd_other _ _ (by omega)).trans ?_); exact hfLp m (by omega)), (by first | exact sub_new (sub_new hSe hHx) hHk | exact sub_new hSe hHk)⟩)
        · try simp only [decide_eq_true_eq, decide_eq_false_iff_not, beq_iff_eq, beq_eq_false_iff_ne, ne_eq, bne_iff_ne, Bool.not_eq_true', Bool.not_eq_false', Int.not_lt, Int.not_le, gt_iff_lt, ge_iff_le, bne_eq_false_iff_eq, Bool.not_eq_eq_eq_not, Bool.not_true, Bool.not_false] at c5
          refine ACode.skip ?_
          show ACode _ _ _ _ _ _
          refine ACode.seq ?_
          refine ACode.region' [0, 1, 2, 3] (by kernel_rfl) rfl ?_
          refine aOps_1 rfl rfl rfl ?_
          refine AOp.loadAll (b := ?b26) (v := cmv 3 NIL 0 NIL xo xc (.slice xA xl xcc) (.slice xB xm xd) 0 0) rfl rfl ?hn26 ?hv26 ?hw26 ?hz26 ?hR26
          (case hn26 => exact hpA)
          (case hv26 => rfl)
          (case hw26 => rfl)
          (case hz26 => first | rfl | (simp; done))
          refine aOps_0 rfl rfl rfl ?_
          refine AOp.storeAll (b := ?b27) rfl rfl rfl ?hn27 ?hk27 rfl ?hw27 ?ho27 ?hl27 ?hR27
          (case hn27 => exact hpA)
          (case hk27 => rfl)
          (case hw27 => first | rfl | (simp; done))
          (case ho27 => first | rfl | decide | (simp; done))
          (case hl27 => first | rfl | (simp; done))
          refine aOps_1 rfl rfl rfl (AOp.move' (.inr rfl) rfl ?_)
          refine aOps_1 rfl rfl rfl (AOp.move' (.inr rfl) rfl ?_)
          try rw [rd_upd2]
          refine aOps_end ?_
          show ACode _ _ _ _ _ _
          refine ACode.ret ?_
          try simp only [thenA, blockA, if_true]
          have e1 : takeC cols bs = (⟨3, [], 0, [], (takePr r.fix1.2).1, 0, 0⟩, 0, 0) := by rw [← takeC_r, ← hr]; unfold ansC; rw [hcr]; exact if_neg (fun h => h c5)
          rw [e1]
          exact RetQ.cell3 rfl rfl (aloadAll (b := cmblk 3 NIL 0 NIL xo xc (.slice xA xl xcc) (.slice xB xm xd) 0 0) (v := cmv 3 NIL 0 NIL xo xc (.slice xA xl xcc) (.slice xB xm xd) 0 0) (upd_same _ _ _) rfl rfl rfl) rfl rfl (sub_refl _) (fun m b h => ⟨b, (show Ab.Sub H _ from (by first | exact sub_new (sub_new hSe hHx) hHk | exact sub_new hSe hHk)) m b h⟩) (fun hk => ⟨_, rfl, CmV.mk (sch := []) (ws := []) SLC.nil SLC.nil Rws.nil (hVp.sub (sub_trans (cutH_upd (Nat.lt_succ_self kx)) (cutH_upd (show k < kx by omega)))), by omega, (fun m hm => by (repeat refine (upd_other _ _ (by omega)).trans ?_); exact hfLp m (by omega)), (by first | exact sub_new (sub_new hSe hHx) hHk | exact sub_new hSe hHk)⟩)
      · try simp only [decide_eq_true_eq, decide_eq_false_iff_not, beq_iff_eq, beq_eq_false_iff_ne, ne_eq, bne_iff_ne, Bool.not_eq_true', Bool.not_eq_false', Int.not_lt, Int.not_le, gt_iff_lt, ge_iff_le, bne_eq_false_iff_eq, Bool.not_eq_eq_eq_not, Bool.not_true, Bool.not_false] at c2
        refine ACode.seq ?_
        refine ACode.region' [0, 1] (by kernel_rfl) rfl ?_
        refine aOps_1 rfl rfl rfl (AOp.bin' rfl rfl rfl rfl ?_)
        refine aOps_1 rfl rfl rfl (AOp.move' (.inr rfl) rfl ?_)
        refine aOps_end ?_
        show ACode _ _ _ _ _ _
        refine ACode.cond rfl (fun c3 => ?_) (fun c3 => ?_)
        · try simp only [decide_eq_true_eq, decide_eq_false_iff_not, beq_iff_eq, beq_eq_false_iff_ne, ne_eq, bne_iff_ne, Bool.not_eq_true', Bool.not_eq_false', Int.not_lt, Int.not_le, gt_iff_lt, ge_iff_le, bne_eq_false_iff_eq, Bool.not_eq_eq_eq_not, Bool.not_true, Bool.not_false] at c3
          rw [c3]
          refine ACode.seq ?_
          refine ACode.region' [0, 1, 2, 3] (by kernel_rfl) rfl ?_
          refine aOps_1 rfl rfl rfl (AOp.move' (.inl rfl) rfl ?_)
          refine aOps_1 rfl rfl rfl ?_
          refine AOp.call' rfl rfl rfl (rnumber _ _ (k + 1) c A r.fix1.2 (hRy _)) ?_
          rintro _ HLu ku ⟨rfl, hPu⟩
          have hku := hPu.1
          have hfLu := hPu.2.1
          have hsLu := hPu.2.2.1
          have hRu := hPu.2.2.2
          have hnu := hRu.hn
          have thsLu := SubS.of hsLu
          have hbu : HLu kx = some (cmblk 5 NIL 0 NIL 0 0 NIL NIL 0 0) := hsLu _ _ ((upd_other _ _ (by omega)).trans (upd_same _ _ _))
          have hzu : HLu k = some (cmblk 0 NIL 0 NIL 0 0 NIL NIL 0 0) := hsLu _ _ ((upd_other _ _ (by omega)).trans ((upd_other _ _ (by omega)).trans hzx))
          have hSu : Ab.Sub H HLu := sub_past (sub_new hSx hHx) hHm hsLu
          refine aOps_1 rfl rfl rfl (AOp.fieldAddr' rfl (by decide) rfl ?_)
          refine aOps_0 rfl rfl rfl ?_
          refine AOp.store1 (b := ?b28) rfl rfl rfl ?hn28 ?hk28 rfl rfl ?hl28 ?hR28
          (case hn28 => exact hpA)
          (case hk28 => rfl)
          (case hl28 => first | (simp; done) | exact Nat.le_of_ble_eq_true rfl)
          refine aOps_end ?_
          show ACode _ _ _ _ _ _
          refine ACode.region' [0, 1, 2, 3] (by kernel_rfl) rfl ?_
          refine aOps_1 rfl rfl rfl (AOp.move' (.inl rfl) rfl ?_)
          refine aOps_1 rfl rfl rfl ?_
          refine AOp.call' rfl rfl rfl (rnumber _ _ (k + 1) c A (numR r.fix1.2).2 (hRu.away (by omega) (by rw [show _ = r.bs from (numR_bs _).trans hfb]; exact hAq))) ?_
          rintro _ HLv kv ⟨rfl, hPv⟩
          have hkv := hPv.1
          have hfLv := hPv.2.1
          have hsLv := hPv.2.2.1
          have hRv := hPv.2.2.2
          have hnv := hRv.hn
          have thsLv := SubS.of hsLv
          have hbv : HLv kx = some (cmblk 5 NIL 0 NIL 0 0 NIL NIL (gR (numR r.fix1.2).1) 0) := hsLv _ _ ((upd_other _ _ (by omega)).trans (upd_same _ _ _))
          have hzv : HLv k = some (cmblk 0 NIL 0 NIL 0 0 NIL NIL 0 0) := hsLv _ _ ((upd_other _ _ (by omega)).trans ((upd_other _ _ (by omega)).trans hzu))
          have hSv : Ab.Sub H HLv := sub_past (sub_new hSu hHx) hHm hsLv
          refine aOps_1 rfl rfl rfl (AOp.fieldAddr' rfl (by decide) rfl ?_)
          refine aOps_0 rfl rfl rfl ?_
          refine AOp.store1 (b := ?b29) rfl rfl rfl ?hn29 ?hk29 rfl rfl ?hl29 ?hR29
          (case hn29 => exact hpA)
          (case hk29 => rfl)
          (case hl29 => first | (simp; done) | exact Nat.le_of_ble_eq_true rfl)
          refine aOps_end ?_
          show ACode _ _ _ _ _ _
          refine ACode.seq ?_
          refine ACode.seq ?_
          refine ACode.region' [0, 1, 2, 3, 4, 5, 6, 7] (by kernel_rfl) rfl ?_
          refine aOps_1 rfl rfl rfl (AOp.fieldAddr' rfl (by decide) rfl ?_)
          refine aOps_1 rfl rfl rfl ?_
          refine AOp.load1 (b := ?b30) (v := ?v30) rfl rfl ?hn30 ?hv30 ?hR30
          (case hn30 => exact hpA)
          (case hv30 => rfl)
          refine aOps_1 rfl rfl rfl (AOp.bin' rfl rfl rfl rfl ?_)
          refine aOps_1 rfl rfl rfl (AOp.move' (.inl rfl) rfl ?_)
          refine aOps_gd0 rfl rfl (wantF rfl rfl rfl) (fun hc => AOp.slots [(8, _)] (.cons rfl .nil) (AOp.fieldAddr' rfl (by decide) rfl ⟨rfl, rfl, rfl⟩)) ?_
          refine aOps_gd0 rfl rfl (wantF rfl rfl rfl) (fun hc => AOp.slots [(51, _)] (.cons (gvT rfl hc) .nil) ((by refine AOp.load1 (b := ?b31) (v := ?v31) rfl rfl ?hn31 ?hv31 ?hR31; (case hn31 => exact hpA); (case hv31 => rfl); exact ⟨rfl, rfl, rfl⟩))) ?_
          refine aOps_gd0 rfl rfl (wantF rfl rfl rfl) (fun hc => AOp.slots [(52, _)] (.cons (gvT rfl hc) .nil) (AOp.bin' rfl rfl rfl rfl ⟨rfl, rfl, rfl⟩)) ?_
          refine aOps_1 rfl rfl rfl (AOp.pickOr rfl rfl rfl (fun hb => gvE rfl (t_not hb)) ?_)
          refine aOps_end ?_
          show ACode _ _ _ _ _ _
          refine ACode.cond rfl (fun c4 => absurd c4 (by decide)) (fun c4 => ?_)
          refine ACode.skip ?_
          show ACode _ _ _ _ _ _
          refine ACode.seq ?_
          refine ACode.seq ?_
          have hcr : takeCr gR cols r = (⟨5, [], 0, [], pD0, gR (numR r.fix1.2).1, gR (numR (numR r.fix1.2).2).1⟩, (numR (numR r.fix1.2).2).2) := by unfold takeCr cmK; rw [if_neg (show ¬ r.fix1.1 = 1 by omega), if_neg (show ¬ r.fix1.1 = 2 by omega), if_neg (show ¬ r.fix1.1 = 3 by omega), if_neg (show ¬ r.fix1.1 = 4 by omega), if_pos (show r.fix1.1 = 5 by omega)]
          have hbe : (numR (numR r.fix1.2).2).2.bs = r.bs := (numR_bs _).trans ((numR_bs _).trans hfb)
          have hSe : Ab.Sub H HLv := hSv
          have hRe := fun y => hRv.away (x := y) (show k + 1 ≠ kx by omega) (by rw [hbe]; exact hAq)
          refine ACode.region' [0, 1, 2, 3, 4, 5, 6] (by kernel_rfl) rfl ?_
          refine aOps_1 rfl rfl rfl (AOp.move' (.inl rfl) rfl ?_)
          refine aOps_q rfl rfl rfl (AOp.call' rfl rfl rfl (rend_ _ _ (k + 1) c A (numR (numR r.fix1.2).2).2 (hRe _)) (fun _ _ _ h => h)) (fun kq hkq => ?_)
          refine aOps_1 rfl rfl rfl (AOp.move' (.inl rfl) rfl ?_)
          refine aOps_1 rfl rfl rfl (AOp.extract' rfl rfl rfl ?_)
          refine aOps_1 rfl rfl rfl (AOp.extract' rfl rfl rfl ?_)
          refine aOps_1 rfl rfl rfl (AOp.move' (.inr rfl) rfl ?_)
          refine aOps_1 rfl rfl rfl (AOp.move' (.inr rfl) rfl ?_)
          refine aOps_end ?_
          show ACode _ _ _ _ _ _
          refine ACode.seq ?_
          refine ACode.region' [0, 1] (by kernel_rfl) rfl ?_
          refine aOps_1 rfl rfl rfl (AOp.move' (.inl rfl) rfl ?_)
          refine aOps_1 rfl rfl rfl (AOp.bin' rfl rfl rfl rfl ?_)
          refine aOps_end ?_
          show ACode _ _ _ _ _ _
          refine ACode.cond rfl (fun c5 => ?_) (fun c5 => ?_)
          · try simp only [decide_eq_true_eq, decide_eq_false_iff_not, beq_iff_eq, beq_eq_false_iff_ne, ne_eq, bne_iff_ne, Bool.not_eq_true', Bool.not_eq_false', Int.not_lt, Int.not_le, gt_iff_lt, ge_iff_le, bne_eq_false_iff_eq, Bool.not_eq_eq_eq_not, Bool.not_true, Bool.not_false] at c5
            refine ACode.seq ?_
            refine ACode.region' [0, 1, 2, 3, 4, 5] (by kernel_rfl) rfl ?_
            refine aOps_1 rfl rfl rfl (AOp.buildS (cells := #[_, _, _, _, _, _, _, _, _, _]) rfl rfl rfl ?_)
            refine aOps_1 rfl rfl rfl (AOp.move' (.inl rfl) rfl ?_)
            refine aOps_1 rfl rfl rfl (AOp.move' (.inl rfl) rfl ?_)
            refine aOps_0 rfl rfl rfl ?_
            refine AOp.storeAll (b := ?b32) rfl rfl rfl ?hn32 ?hk32 rfl ?hw32 ?ho32 ?hl32 ?hR32
            (case hn32 => exact hpA)
            (case hk32 => rfl)
            (case hw32 => first | rfl | (simp; done))
            (case ho32 => first | rfl | decide | (simp; done))
            (case hl32 => first | rfl | (simp; done))
            refine aOps_1 rfl rfl rfl (AOp.move' (.inr rfl) rfl ?_)
            refine aOps_1 rfl rfl rfl (AOp.move' (.inr rfl) rfl ?_)
            try rw [rd_upd2]
            refine aOps_end ?_
            show ACode _ _ _ _ _ _
            refine ACode.ret ?_
            try simp only [thenA, blockA, if_true]
            have e1 : takeC cols bs = (cmD 0, (numR (numR r.fix1.2).2).2.end_.1, (numR (numR r.fix1.2).2).2.end_.2) := by rw [← takeC_r, ← hr]; unfold ansC; rw [hcr]; exact if_pos c5
            rw [e1]
            exact RetQ.cell3 rfl rfl (aloadAll (b := cmblk 0 NIL 0 NIL 0 0 NIL NIL 0 0) (v := cmv 0 NIL 0 NIL 0 0 NIL NIL 0 0) (upd_same _ _ _) rfl rfl rfl) rfl rfl (sub_refl _) (fun m b h => ⟨b, (show Ab.Sub H _ from (by first | exact sub_new (sub_new hSe hHx) hHk | exact sub_new hSe hHk)) m b h⟩) (fun hk => ⟨_, rfl, CmV.zero 0, by omega, (fun m hm => by (repeat refine (upd_other _ _ (by omega)).trans ?_); exact hfLv m (by omega)), (by first | exact sub_new (sub_new hSe hHx) hHk | exact sub_new hSe hHk)⟩)
          · try simp only [decide_eq_true_eq, decide_eq_false_iff_not, beq_iff_eq, beq_eq_false_iff_ne, ne_eq, bne_iff_ne, Bool.not_eq_true', Bool.not_eq_false', Int.not_lt, Int.not_le, gt_iff_lt, ge_iff_le, bne_eq_false_iff_eq, Bool.not_eq_eq_eq_not, Bool.not_true, Bool.not_false] at c5
            refine ACode.skip ?_
            show ACode _ _ _ _ _ _
            refine ACode.seq ?_
            refine ACode.region' [0, 1, 2, 3] (by kernel_rfl) rfl ?_
            refine aOps_1 rfl rfl rfl ?_
            refine AOp.loadAll (b := ?b33) (v := cmv 5 NIL 0 NIL 0 0 NIL NIL (gR (numR r.fix1.2).1) (gR (numR (numR r.fix1.2).2).1)) rfl rfl ?hn33 ?hv33 ?hw33 ?hz33 ?hR33
            (case hn33 => exact hpA)
            (case hv33 => rfl)
            (case hw33 => rfl)
            (case hz33 => first | rfl | (simp; done))
            refine aOps_0 rfl rfl rfl ?_
            refine AOp.storeAll (b := ?b34) rfl rfl rfl ?hn34 ?hk34 rfl ?hw34 ?ho34 ?hl34 ?hR34
            (case hn34 => exact hpA)
            (case hk34 => rfl)
            (case hw34 => first | rfl | (simp; done))
            (case ho34 => first | rfl | decide | (simp; done))
            (case hl34 => first | rfl | (simp; done))
            refine aOps_1 rfl rfl rfl (AOp.move' (.inr rfl) rfl ?_)
            refine aOps_1 rfl rfl rfl (AOp.move' (.inr rfl) rfl ?_)
            try rw [rd_upd2]
            refine aOps_end ?_
            show ACode _ _ _ _ _ _
            refine ACode.ret ?_
            try simp only [thenA, blockA, if_true]
            have e1 : takeC cols bs = (⟨5, [], 0, [], pD0, gR (numR r.fix1.2).1, gR (numR (numR r.fix1.2).2).1⟩, 0, 0) := by rw [← takeC_r, ← hr]; unfold ansC; rw [hcr]; exact if_neg (fun h => h c5)
            rw [e1]
            exact RetQ.cell3 rfl rfl (aloadAll (b := cmblk 5 NIL 0 NIL 0 0 NIL NIL (gR (numR r.fix1.2).1) (gR (numR (numR r.fix1.2).2).1)) (v := cmv 5 NIL 0 NIL 0 0 NIL NIL (gR (numR r.fix1.2).1) (gR (numR (numR r.fix1.2).2).1)) (upd_same _ _ _) rfl rfl rfl) rfl rfl (sub_refl _) (fun m b h => ⟨b, (show Ab.Sub H _ from (by first | exact sub_new (sub_new hSe hHx) hHk | exact sub_new hSe hHk)) m b h⟩) (fun hk => ⟨_, rfl, CmV.mk (sch := []) (ws := []) SLC.nil SLC.nil Rws.nil PdV.zero, by omega, (fun m hm => by (repeat refine (upd_other _ _ (by omega)).trans ?_); exact hfLv m (by omega)), (by first | exact sub_new (sub_new hSe hHx) hHk | exact sub_new hSe hHk)⟩)
        · try simp only [decide_eq_true_eq, decide_eq_false_iff_not, beq_iff_eq, beq_eq_false_iff_ne, ne_eq, bne_iff_ne, Bool.not_eq_true', Bool.not_eq_false', Int.not_lt, Int.not_le, gt_iff_lt, ge_iff_le, bne_eq_false_iff_eq, Bool.not_eq_eq_eq_not, Bool.not_true, Bool.not_false] at c3
          refine ACode.skip ?_
          show ACode _ _ _ _ _ _
          refine ACode.seq ?_
          refine ACode.seq ?_
          refine ACode.region' [0, 1, 2, 3, 4, 5, 6, 7] (by kernel_rfl) rfl ?_
          refine aOps_1 rfl rfl rfl (AOp.fieldAddr' rfl (by decide) rfl ?_)
          refine aOps_1 rfl rfl rfl ?_
          refine AOp.load1 (b := ?b35) (v := ?v35) rfl rfl ?hn35 ?hv35 ?hR35
          (case hn35 => exact hpA)
          (case hv35 => rfl)
          refine aOps_1 rfl rfl rfl (AOp.bin' rfl rfl rfl rfl ?_)
          refine aOps_1 rfl rfl rfl (AOp.move' (.inl rfl) rfl ?_)
          refine aOps_gd0 rfl rfl (wantF rfl rfl rfl) (fun hc => AOp.slots [(8, _)] (.cons rfl .nil) (AOp.fieldAddr' rfl (by decide) rfl ⟨rfl, rfl, rfl⟩)) ?_
          refine aOps_gd0 rfl rfl (wantF rfl rfl rfl) (fun hc => AOp.slots [(51, _)] (.cons (gvT rfl hc) .nil) ((by refine AOp.load1 (b := ?b36) (v := ?v36) rfl rfl ?hn36 ?hv36 ?hR36; (case hn36 => exact hpA); (case hv36 => rfl); exact ⟨rfl, rfl, rfl⟩))) ?_
          refine aOps_gd0 rfl rfl (wantF rfl rfl rfl) (fun hc => AOp.slots [(52, _)] (.cons (gvT rfl hc) .nil) (AOp.bin' rfl rfl rfl rfl ⟨rfl, rfl, rfl⟩)) ?_
          refine aOps_1 rfl rfl rfl (AOp.pickOr rfl rfl rfl (fun hb => gvE rfl (t_not hb)) ?_)
          refine aOps_end ?_
          show ACode _ _ _ _ _ _
          refine ACode.cond rfl (fun c4 => ?_) (fun c4 => ?_)
          · try simp only [decide_eq_true_eq, decide_eq_false_iff_not, beq_iff_eq, beq_eq_false_iff_ne, ne_eq, bne_iff_ne, Bool.not_eq_true', Bool.not_eq_false', Int.not_lt, Int.not_le, gt_iff_lt, ge_iff_le, bne_eq_false_iff_eq, Bool.not_eq_eq_eq_not, Bool.not_true, Bool.not_false] at c4
            have hk4 : ¬ r.fix1.1 = 4 := by simp at c4; omega
            refine ACode.region' [0, 1] (by kernel_rfl) rfl ?_
            refine aOps_1 rfl rfl rfl (AOp.move' (.inl rfl) rfl ?_)
            refine aOps_1 rfl rfl rfl ?_
            refine AOp.call' rfl rfl rfl (rfail _ _ (k + 1) c A r.fix1.2 (hRy _) 11 (by decide) (by decide)) ?_
            rintro _ HLf kf ⟨rfl, hPf⟩
            have hkf := hPf.1
            have hfLf := hPf.2.1
            have hsLf := hPf.2.2.1
            have hRf := hPf.2.2.2
            have hnf := hRf.hn
            have thsLf := SubS.of hsLf
            have hbf : HLf kx = some (cmblk (r.fix1.1 : Int) NIL 0 NIL 0 0 NIL NIL 0 0) := hsLf _ _ ((upd_other _ _ (by omega)).trans (upd_same _ _ _))
            have hzf : HLf k = some (cmblk 0 NIL 0 NIL 0 0 NIL NIL 0 0) := hsLf _ _ ((upd_other _ _ (by omega)).trans ((upd_other _ _ (by omega)).trans hzx))
            have hSf : Ab.Sub H HLf := sub_past (sub_new hSx hHx) hHm hsLf
            refine aOps_end ?_
            show ACode _ _ _ _ _ _
            refine ACode.seq ?_
            refine ACode.seq ?_
            have hcr : takeCr gR cols r = (cmD (r.fix1.1 : Int), (r.fix1.2.fail 11)) := by unfold takeCr cmK; rw [if_neg (show ¬ r.fix1.1 = 1 by omega), if_neg (show ¬ r.fix1.1 = 2 by omega), if_neg (show ¬ r.fix1.1 = 3 by omega), if_neg (show ¬ r.fix1.1 = 4 by omega), if_neg (show ¬ r.fix1.1 = 5 by omega)]
            have hbe : (r.fix1.2.fail 11).bs = r.bs := (Rd.fail_bs _ _).trans hfb
            have hSe : Ab.Sub H HLf := hSf
            have hRe := fun _ : Unit => hRf
            refine ACode.region' [0, 1, 2, 3, 4, 5, 6] (by kernel_rfl) rfl ?_
            refine aOps_1 rfl rfl rfl (AOp.move' (.inl rfl) rfl ?_)
            refine aOps_q rfl rfl rfl (AOp.call' rfl rfl rfl (rend_ _ _ (k + 1) c A (r.fix1.2.fail 11) (hRe ())) (fun _ _ _ h => h)) (fun kq hkq => ?_)
            refine aOps_1 rfl rfl rfl (AOp.move' (.inl rfl) rfl ?_)
            refine aOps_1 rfl rfl rfl (AOp.extract' rfl rfl rfl ?_)
            refine aOps_1 rfl rfl rfl (AOp.extract' rfl rfl rfl ?_)
            refine aOps_1 rfl rfl rfl (AOp.move' (.inr rfl) rfl ?_)
            refine aOps_1 rfl rfl rfl (AOp.move' (.inr rfl) rfl ?_)
            refine aOps_end ?_
            show ACode _ _ _ _ _ _
            refine ACode.seq ?_
            refine ACode.region' [0, 1] (by kernel_rfl) rfl ?_
            refine aOps_1 rfl rfl rfl (AOp.move' (.inl rfl) rfl ?_)
            refine aOps_1 rfl rfl rfl (AOp.bin' rfl rfl rfl rfl ?_)
            refine aOps_end ?_
            show ACode _ _ _ _ _ _
            refine ACode.cond rfl (fun c5 => ?_) (fun c5 => ?_)
            · try simp only [decide_eq_true_eq, decide_eq_false_iff_not, beq_iff_eq, beq_eq_false_iff_ne, ne_eq, bne_iff_ne, Bool.not_eq_true', Bool.not_eq_false', Int.not_lt, Int.not_le, gt_iff_lt, ge_iff_le, bne_eq_false_iff_eq, Bool.not_eq_eq_eq_not, Bool.not_true, Bool.not_false] at c5
              refine ACode.seq ?_
              refine ACode.region' [0, 1, 2, 3, 4, 5] (by kernel_rfl) rfl ?_
              refine aOps_1 rfl rfl rfl (AOp.buildS (cells := #[_, _, _, _, _, _, _, _, _, _]) rfl rfl rfl ?_)
              refine aOps_1 rfl rfl rfl (AOp.move' (.inl rfl) rfl ?_)
              refine aOps_1 rfl rfl rfl (AOp.move' (.inl rfl) rfl ?_)
              refine aOps_0 rfl rfl rfl ?_
              refine AOp.storeAll (b := ?b37) rfl rfl rfl ?hn37 ?hk37 rfl ?hw37 ?ho37 ?hl37 ?hR37
              (case hn37 => exact hpA)
              (case hk37 => rfl)
              (case hw37 => first | rfl | (simp; done))
              (case ho37 => first | rfl | decide | (simp; done))
              (case hl37 => first | rfl | (simp; done))
              refine aOps_1 rfl rfl rfl (AOp.move' (.inr rfl) rfl ?_)
              refine aOps_1 rfl rfl rfl (AOp.move' (.inr rfl) rfl ?_)
              try rw [rd_upd2]
              refine aOps_end ?_
              show ACode _ _ _ _ _ _
              refine ACode.ret ?_
              try simp only [thenA, blockA, if_true]
              have e1 : takeC cols bs = (cmD 0, (r.fix1.2.fail 11).end_.1, (r.fix1.2.fail 11).end_.2) := by rw [← takeC_r, ← hr]; unfold ansC; rw [hcr]; exact if_pos c5
              rw [e1]
              exact RetQ.cell3 rfl rfl (aloadAll (b := cmblk 0 NIL 0 NIL 0 0 NIL NIL 0 0) (v := cmv 0 NIL 0 NIL 0 0 NIL NIL 0 0) (upd_same _ _ _) rfl rfl rfl) rfl rfl (sub_refl _) (fun m b h => ⟨b, (show Ab.Sub H _ from (by first | exact sub_new (sub_new hSe hHx) hHk | exact sub_new hSe hHk)) m b h⟩) (fun hk => ⟨_, rfl, CmV.zero 0, by omega, (fun m hm => by (repeat refine (upd_other _ _ (by omega)).trans ?_); exact hfLf m (by omega)), (by first | exact sub_new (sub_new hSe hHx) hHk | exact sub_new hSe hHk)⟩)
            · try simp only [decide_eq_true_eq, decide_eq_false_iff_not, beq_iff_eq, beq_eq_false_iff_ne, ne_eq, bne_iff_ne, Bool.not_eq_true', Bool.not_eq_false', Int.not_lt, Int.not_le, gt_iff_lt, ge_iff_le, bne_eq_false_iff_eq, Bool.not_eq_eq_eq_not, Bool.not_true, Bool.not_false] at c5
              refine ACode.skip ?_
              show ACode _ _ _ _ _ _
              refine ACode.seq ?_
              refine ACode.region' [0, 1, 2, 3] (by kernel_rfl) rfl ?_
              refine aOps_1 rfl rfl rfl ?_
              refine AOp.loadAll (b := ?b38) (v := cmv (r.fix1.1 : Int) NIL 0 NIL 0 0 NIL NIL 0 0) rfl rfl ?hn38 ?hv38 ?hw38 ?hz38 ?hR38
              (case hn38 => exact hpA)
              (case hv38 => rfl)
              (case hw38 => rfl)
              (case hz38 => first | rfl | (simp; done))
              refine aOps_0 rfl rfl rfl ?_
              refine AOp.storeAll (b := ?b39) rfl rfl rfl ?hn39 ?hk39 rfl ?hw39 ?ho39 ?hl39 ?hR39
              (case hn39 => exact hpA)
              (case hk39 => rfl)
              (case hw39 => first | rfl | (simp; done))
              (case ho39 => first | rfl | decide | (simp; done))
              (case hl39 => first | rfl | (simp; done))
              refine aOps_1 rfl rfl rfl (AOp.move' (.inr rfl) rfl ?_)
              refine aOps_1 rfl rfl rfl (AOp.move' (.inr rfl) rfl ?_)
              try rw [rd_upd2]
              refine aOps_end ?_
              show ACode _ _ _ _ _ _
              refine ACode.ret ?_
              try simp only [thenA, blockA, if_true]
              have e1 : takeC cols bs = (cmD (r.fix1.1 : Int), 0, 0) := by rw [← takeC_r, ← hr]; unfold ansC; rw [hcr]; exact if_neg (fun h => h c5)
              rw [e1]
              exact RetQ.cell3 rfl rfl (aloadAll (b := cmblk (r.fix1.1 : Int) NIL 0 NIL 0 0 NIL NIL 0 0) (v := cmv (r.fix1.1 : Int) NIL 0 NIL 0 0 NIL NIL 0 0) (upd_same _ _ _) rfl rfl rfl) rfl rfl (sub_refl _) (fun m b h => ⟨b, (show Ab.Sub H _ from (by first | exact sub_new (sub_new hSe hHx) hHk | exact sub_new hSe hHk)) m b h⟩) (fun hk => ⟨_, rfl, CmV.zero _, by omega, (fun m hm => by (repeat refine (upd_other _ _ (by omega)).trans ?_); exact hfLf m (by omega)), (by first | exact sub_new (sub_new hSe hHx) hHk | exact sub_new hSe hHk)⟩)
          · try simp only [decide_eq_true_eq, decide_eq_false_iff_not, beq_iff_eq, beq_eq_false_iff_ne, ne_eq, bne_iff_ne, Bool.not_eq_true', Bool.not_eq_false', Int.not_lt, Int.not_le, gt_iff_lt, ge_iff_le, bne_eq_false_iff_eq, Bool.not_eq_eq_eq_not, Bool.not_true, Bool.not_false] at c4
            have hk4 : r.fix1.1 = 4 := by simp at c4; omega
            rw [show ((r.fix1.1 : Nat) : Int) = 4 by omega]
            refine ACode.skip ?_
            show ACode _ _ _ _ _ _
            refine ACode.seq ?_
            refine ACode.seq ?_
            have hcr : takeCr gR cols r = (cmD 4, r.fix1.2) := by unfold takeCr cmK; rw [if_neg (show ¬ r.fix1.1 = 1 by omega), if_neg (show ¬ r.fix1.1 = 2 by omega), if_neg (show ¬ r.fix1.1 = 3 by omega), if_pos (show r.fix1.1 = 4 by omega)]
            have hbe : r.fix1.2.bs = r.bs := hfb
            have hSe : Ab.Sub H HLx := hSx
            have hRe := fun y => hRx.away (x := y) (show k + 1 ≠ kx by omega) (by rw [hbe]; exact hAq)
            refine ACode.region' [0, 1, 2, 3, 4, 5, 6] (by kernel_rfl) rfl ?_
            refine aOps_1 rfl rfl rfl (AOp.move' (.inl rfl) rfl ?_)
            refine aOps_q rfl rfl rfl (AOp.call' rfl rfl rfl (rend_ _ _ (k + 1) c A r.fix1.2 (hRe _)) (fun _ _ _ h => h)) (fun kq hkq => ?_)
            refine aOps_1 rfl rfl rfl (AOp.move' (.inl rfl) rfl ?_)
            refine aOps_1 rfl rfl rfl (AOp.extract' rfl rfl rfl ?_)
            refine aOps_1 rfl rfl rfl (AOp.extract' rfl rfl rfl ?_)
            refine aOps_1 rfl rfl rfl (AOp.move' (.inr rfl) rfl ?_)
            refine aOps_1 rfl rfl rfl (AOp.move' (.inr rfl) rfl ?_)
            refine aOps_end ?_
            show ACode _ _ _ _ _ _
            refine ACode.seq ?_
            refine ACode.region' [0, 1] (by kernel_rfl) rfl ?_
            refine aOps_1 rfl rfl rfl (AOp.move' (.inl rfl) rfl ?_)
            refine aOps_1 rfl rfl rfl (AOp.bin' rfl rfl rfl rfl ?_)
            refine aOps_end ?_
            show ACode _ _ _ _ _ _
            refine ACode.cond rfl (fun c5 => ?_) (fun c5 => ?_)
            · try simp only [decide_eq_true_eq, decide_eq_false_iff_not, beq_iff_eq, beq_eq_false_iff_ne, ne_eq, bne_iff_ne, Bool.not_eq_true', Bool.not_eq_false', Int.not_lt, Int.not_le, gt_iff_lt, ge_iff_le, bne_eq_false_iff_eq, Bool.not_eq_eq_eq_not, Bool.not_true, Bool.not_false] at c5
              refine ACode.seq ?_
              refine ACode.region' [0, 1, 2, 3, 4, 5] (by kernel_rfl) rfl ?_
              refine aOps_1 rfl rfl rfl (AOp.buildS (cells := #[_, _, _, _, _, _, _, _, _, _]) rfl rfl rfl ?_)
              refine aOps_1 rfl rfl rfl (AOp.move' (.inl rfl) rfl ?_)
              refine aOps_1 rfl rfl rfl (AOp.move' (.inl rfl) rfl ?_)
              refine aOps_0 rfl rfl rfl ?_
              refine AOp.storeAll (b := ?b40) rfl rfl rfl ?hn40 ?hk40 rfl ?hw40 ?ho40 ?hl40 ?hR40
              (case hn40 => exact hpA)
              (case hk40 => rfl)
              (case hw40 => first | rfl | (simp; done))
              (case ho40 => first | rfl | decide | (simp; done))
              (case hl40 => first | rfl | (simp; done))
              refine aOps_1 rfl rfl rfl (AOp.move' (.inr rfl) rfl ?_)
              refine aOps_1 rfl rfl rfl (AOp.move' (.inr rfl) rfl ?_)
              try rw [rd_upd2]
              refine aOps_end ?_
              show ACode _ _ _ _ _ _
              refine ACode.ret ?_
              try simp only [thenA, blockA, if_true]
              have e1 : takeC cols bs = (cmD 0, r.fix1.2.end_.1, r.fix1.2.end_.2) := by rw [← takeC_r, ← hr]; unfold ansC; rw [hcr]; exact if_pos c5
              rw [e1]
              exact RetQ.cell3 rfl rfl (aloadAll (b := cmblk 0 NIL 0 NIL 0 0 NIL NIL 0 0) (v := cmv 0 NIL 0 NIL 0 0 NIL NIL 0 0) (upd_same _ _ _) rfl rfl rfl) rfl rfl (sub_refl _) (fun m b h => ⟨b, (show Ab.Sub H _ from (by first | exact sub_new (sub_new hSe hHx) hHk | exact sub_new hSe hHk)) m b h⟩) (fun hk => ⟨_, rfl, CmV.zero 0, by omega, (fun m hm => by (repeat refine (upd_other _ _ (by omega)).trans ?_); exact hfLx m (by omega)), (by first | exact sub_new (sub_new hSe hHx) hHk | exact sub_new hSe hHk)⟩)
            · try simp only [decide_eq_true_eq, decide_eq_false_iff_not, beq_iff_eq, beq_eq_false_iff_ne, ne_eq, bne_iff_ne, Bool.not_eq_true', Bool.not_eq_false', Int.not_lt, Int.not_le, gt_iff_lt, ge_iff_le, bne_eq_false_iff_eq, Bool.not_eq_eq_eq_not, Bool.not_true, Bool.not_false] at c5
              refine ACode.skip ?_
              show ACode _ _ _ _ _ _
              refine ACode.seq ?_
              refine ACode.region' [0, 1, 2, 3] (by kernel_rfl) rfl ?_
              refine aOps_1 rfl rfl rfl ?_
              refine AOp.loadAll (b := ?b41) (v := cmv 4 NIL 0 NIL 0 0 NIL NIL 0 0) rfl rfl ?hn41 ?hv41 ?hw41 ?hz41 ?hR41
              (case hn41 => exact hpA)
              (case hv41 => rfl)
              (case hw41 => rfl)
              (case hz41 => first | rfl | (simp; done))
              refine aOps_0 rfl rfl rfl ?_
              refine AOp.storeAll (b := ?b42) rfl rfl rfl ?hn42 ?hk42 rfl ?hw42 ?ho42 ?hl42 ?hR42
              (case hn42 => exact hpA)
              (case hk42 => rfl)
              (case hw42 => first | rfl | (simp; done))
              (case ho42 => first | rfl | decide | (simp; done))
              (case hl42 => first | rfl | (simp; done))
              refine aOps_1 rfl rfl rfl (AOp.move' (.inr rfl) rfl ?_)
              refine aOps_1 rfl rfl rfl (AOp.move' (.inr rfl) rfl ?_)
              try rw [rd_upd2]
              refine aOps_end ?_
              show ACode _ _ _ _ _ _
              refine ACode.ret ?_
              try simp only [thenA, blockA, if_true]
              have e1 : takeC cols bs = (cmD 4, 0, 0) := by rw [← takeC_r, ← hr]; unfold ansC; rw [hcr]; exact if_neg (fun h => h c5)
              rw [e1]
              exact RetQ.cell3 rfl rfl (aloadAll (b := cmblk 4 NIL 0 NIL 0 0 NIL NIL 0 0) (v := cmv 4 NIL 0 NIL 0 0 NIL NIL 0 0) (upd_same _ _ _) rfl rfl rfl) rfl rfl (sub_refl _) (fun m b h => ⟨b, (show Ab.Sub H _ from (by first | exact sub_new (sub_new hSe hHx) hHk | exact sub_new hSe hHk)) m b h⟩) (fun hk => ⟨_, rfl, CmV.zero 4, by omega, (fun m hm => by (repeat refine (upd_other _ _ (by omega)).trans ?_); exact hfLx m (by omega)), (by first | exact sub_new (sub_new hSe hHx) hHk | exact sub_new hSe hHk)⟩)
end

end Go.Proofs.YteoofihjmldllaaDoor
