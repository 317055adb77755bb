/- Contracts over the abstract states: replies out of bytes, by the reference. -/
import Derived.Test.YteoofihjmldllaaGreatDoorR43
set_option linter.unusedVariables false
set_option linter.unusedSimpArgs false
set_option maxRecDepth 100000
namespace Go.Proofs.YteoofihjmldllaaGreatDoor
open Go Go.Ab

theorem hdA_one (h : Hd) (s : Value) (h3 : s.oneCell' = true) : (hdc h s).toArray.all (fun x => x.oneCell') = true := by rw [← Array.all_toList]; exact hdc_one h s h3
theorem sp_put00 (o : Bool) (h : Hd) (s : Value) : putL (spc ⟨hdD, o, [], []⟩ NIL NIL NIL) 0 (hdc h s) = spc ⟨h, o, [], []⟩ s NIL NIL := by
 unfold putL
 rw [List.take_zero, List.nil_append, Nat.zero_add, hdc_len, spc, List.drop_left' (hdc_len _ _)]
section
variable (H : Hp) (k : Nat)

theorem rend (n c : Nat) (A : Option Addr) (r : Rd) (hR : RfN H n A c r) : ACalls Tryz.prog 2 50 [ptr n 0 none] H k (Same H k (.tuple #[.int .i64 r.end_.1, .int .i64 r.end_.2])) := by
 refine ACalls.fresh fun hf => ?_
 refine ACalls.body Tryz.func50 rfl (Nat.le_of_ble_eq_true rfl) ?_
 have hn := hR.hn
 have hnk := old_lt hf hn
 have hok := hR.ok
 have hal := hok.at_le
 have hle := hok.len
 refine Sz ?_
 refine Rz [0, 1] Kz rfl ?_
 refine Nz ?_
 refine Nz ?_
 refine Ez ?_
 refine Sz ?_
 refine Sz ?_
 refine ACode.draw' 17 [(0, 4), (1, 5), (2, 6), (3, 7), (4, 8), (5, 9), (6, 10), (7, 11), (8, 12), (9, 13), (10, 14), (11, 15), (12, 16), (13, 17), (14, 18), (15, 19), (16, 20)] mixed Kz ?_
 refine Draw.step [(0, none)] rfl Kz rfl (fun kq hkq => AOp.move' (.inl rfl) rfl Vz) ?_
 refine Draw.step [(4, some 0)] rfl Kz rfl (fun kq hkq => AOp.nilCheck' rfl rfl Vz) ?_
 refine Draw.step [(5, some 1)] rfl Kz rfl (fun kq hkq => AOp.fieldAddr' rfl Dz rfl Vz) ?_
 refine Draw.step [(6, some 2)] rfl Kz rfl (fun kq hkq => (by refine AOp.load1 (b := ?b1) (v := ?v1) rfl rfl ?hn1 ?hv1 ?hR1; (case hn1 => exact hpB); (case hv1 => rfl); exact Vz)) ?_
 refine Draw.step [(7, some 3)] rfl Kz rfl (fun kq hkq => AOp.bin' rfl rfl rfl rfl Vz) ?_
 refine Draw.step [(8, some 4)] rfl Kz rfl (fun kq hkq => AOp.move' (.inl rfl) rfl Vz) ?_
 refine Draw.gd [(0, none), (9, some 5)] rfl Kz (wantT rfl rfl rfl) (fun kq hkq hc => AOp.slots [(0, _)] (.cons rfl .nil) (AOp.move' (.inl rfl) rfl Vz)) ?_
 refine Draw.gd [(10, some 6), (9, some 5)] rfl Kz (wantT rfl rfl rfl) (fun kq hkq hc => AOp.slots [(10, _)] (.cons (gvT rfl hc) .nil) (AOp.nilCheck' rfl rfl Vz)) ?_
 refine Draw.gd [(11, some 7), (9, some 5)] rfl Kz (wantT rfl rfl rfl) (fun kq hkq hc => AOp.slots [(11, _)] (.cons (gvT rfl hc) .nil) (AOp.fieldAddr' rfl Dz rfl Vz)) ?_
 refine Draw.gd [(12, some 8), (9, some 5)] rfl Kz (wantT rfl rfl rfl) (fun kq hkq hc => AOp.slots [(12, _)] (.cons (gvT rfl hc) .nil) ((by refine AOp.load1 (b := ?b2) (v := ?v2) rfl rfl ?hn2 ?hv2 ?hR2; (case hn2 => exact hpB); (case hv2 => rfl); exact Vz))) ?_
 refine Draw.gd [(0, none), (9, some 5)] rfl Kz (wantT rfl rfl rfl) (fun kq hkq hc => AOp.slots [(0, _)] (.cons rfl .nil) (AOp.move' (.inl rfl) rfl Vz)) ?_
 refine Draw.gd [(14, some 10), (9, some 5)] rfl Kz (wantT rfl rfl rfl) (fun kq hkq hc => AOp.slots [(14, _)] (.cons (gvT rfl hc) .nil) (AOp.nilCheck' rfl rfl Vz)) ?_
 refine Draw.gd [(15, some 11), (9, some 5)] rfl Kz (wantT rfl rfl rfl) (fun kq hkq hc => AOp.slots [(15, _)] (.cons (gvT rfl hc) .nil) (AOp.fieldAddr' rfl Dz rfl Vz)) ?_
 refine Draw.gd [(16, some 12), (9, some 5)] rfl Kz (wantT rfl rfl rfl) (fun kq hkq hc => AOp.slots [(16, _)] (.cons (gvT rfl hc) .nil) ((by refine AOp.load1 (b := ?b3) (v := ?v3) rfl rfl ?hn3 ?hv3 ?hR3; (case hn3 => exact hpB); (case hv3 => rfl); exact Vz))) ?_
 refine Draw.gd [(17, some 13), (9, some 5)] rfl Kz (wantT rfl rfl rfl) (fun kq hkq hc => AOp.slots [(17, _)] (.cons (gvT rfl hc) .nil) (AOp.len' rfl rfl Vz)) ?_
 refine Draw.gd [(13, some 9), (18, some 14), (9, some 5)] rfl Kz (wantT rfl rfl rfl) (fun kq hkq hc => AOp.slots [(13, _), (18, _)] (.cons (gvT rfl hc) (.cons (gvT rfl hc) .nil)) (AOp.bin' rfl rfl rfl rfl Vz)) ?_
 refine Draw.step [(9, some 5), (19, some 15)] rfl Kz rfl (fun kq hkq => AOp.pickAnd rfl rfl rfl (fun hb => gvE rfl hb) Vz) ?_
 refine Draw.done fun kq hkq => ?_
 show aOps _ _ _ _ [] ⟨_, _, _⟩
 refine Ez ?_
 refine ACode.cond rfl (fun c0 => ?_) (fun c0 => ?_)
 ·skip
  have c0b : r.e = 0 ∧ r.at_ < r.bs.length := by simp at c0; omega
  refine Sz ?_
  refine ACode.draw' 6 [(0, 21), (1, 22), (2, 23), (3, 24), (4, 2), (5, 3)] mixed Kz ?_
  refine Draw.step [(0, none)] rfl Kz rfl (fun kq hkq => AOp.move' (.inl rfl) rfl Vz) ?_
  refine Draw.step [(21, some 0)] rfl Kz rfl (fun kq hkq => AOp.nilCheck' rfl rfl Vz) ?_
  refine Draw.step [(22, some 1)] rfl Kz rfl (fun kq hkq => AOp.fieldAddr' rfl Dz rfl Vz) ?_
  refine Draw.step [(23, some 2)] rfl Kz rfl (fun kq hkq => (by refine AOp.load1 (b := ?b4) (v := ?v4) rfl rfl ?hn4 ?hv4 ?hR4; (case hn4 => exact hpB); (case hv4 => rfl); exact Vz)) ?_
  refine Draw.step [] rfl Kz rfl (fun kq hkq => AOp.move' (.inr rfl) rfl Vz) ?_
  refine Draw.step [(24, some 3)] rfl Kz rfl (fun kq hkq => AOp.move' (.inr rfl) rfl Vz) ?_
  refine Draw.done fun kq hkq => ?_
  show aOps _ _ _ _ [] ⟨_, _, _⟩
  refine Ez ?_
  refine ACode.ret ?_
  exact RetQ.two rfl rfl rfl subB stays (fun hk => ⟨(by rw [Rd.end_, if_pos c0b]; rfl), rfl, by omega⟩)
 ·skip
  have c0b : ¬ (r.e = 0 ∧ r.at_ < r.bs.length) := by simp at c0; omega
  refine ACode.skip ?_
  refine Sz ?_
  refine ACode.draw' 10 [(0, 25), (1, 26), (2, 27), (3, 28), (4, 29), (5, 30), (6, 31), (7, 32), (8, 2), (9, 3)] mixed Kz ?_
  refine Draw.step [(0, none)] rfl Kz rfl (fun kq hkq => AOp.move' (.inl rfl) rfl Vz) ?_
  refine Draw.step [(25, some 0)] rfl Kz rfl (fun kq hkq => AOp.nilCheck' rfl rfl Vz) ?_
  refine Draw.step [(26, some 1)] rfl Kz rfl (fun kq hkq => AOp.fieldAddr' rfl Dz rfl Vz) ?_
  refine Draw.step [(27, some 2)] rfl Kz rfl (fun kq hkq => (by refine AOp.load1 (b := ?b5) (v := ?v5) rfl rfl ?hn5 ?hv5 ?hR5; (case hn5 => exact hpB); (case hv5 => rfl); exact Vz)) ?_
  refine Draw.step [(0, none)] rfl Kz rfl (fun kq hkq => AOp.move' (.inl rfl) rfl Vz) ?_
  refine Draw.step [(29, some 4)] rfl Kz rfl (fun kq hkq => AOp.nilCheck' rfl rfl Vz) ?_
  refine Draw.step [(30, some 5)] rfl Kz rfl (fun kq hkq => AOp.fieldAddr' rfl Dz rfl Vz) ?_
  refine Draw.step [(31, some 6)] rfl Kz rfl (fun kq hkq => (by refine AOp.load1 (b := ?b6) (v := ?v6) rfl rfl ?hn6 ?hv6 ?hR6; (case hn6 => exact hpB); (case hv6 => rfl); exact Vz)) ?_
  refine Draw.step [(28, some 3)] rfl Kz rfl (fun kq hkq => AOp.move' (.inr rfl) rfl Vz) ?_
  refine Draw.step [(32, some 7)] rfl Kz rfl (fun kq hkq => AOp.move' (.inr rfl) rfl Vz) ?_
  refine Draw.done fun kq hkq => ?_
  show aOps _ _ _ _ [] ⟨_, _, _⟩
  refine Ez ?_
  refine ACode.ret ?_
  exact RetQ.two rfl rfl rfl subB stays (fun hk => ⟨(by rw [Rd.end_, if_neg c0b]; rfl), rfl, by omega⟩)

set_option maxHeartbeats 4000000 in
theorem takeF (bs : List UInt8) (A : Option Addr) (c : Nat) (hD : SLC H 1 A bs.length c (bs.map bv)) (hl : bs.length ≤ 1000000000) : ACalls Tryz.prog 2 13 [.slice A bs.length c] H k (fun v H' k' => ∃ u, v = .tuple #[u, .int .i64 (takeRp bs).2.1, .int .i64 (takeRp bs).2.2] ∧ RpV H' (takeRp bs).1 u ∧ k ≤ k' ∧ (∀ m, k' ≤ m → H' m = none) ∧ Ab.Sub H H') := by
 refine ACalls.fresh fun hf => ?_
 refine ACalls.body Tryz.func13 rfl (Nat.le_of_ble_eq_true rfl) ?_
 have hHk := hf k (Nat.le_refl k)
 have hHn : H (k + 1) = none := hf (k + 1) (Nat.le_succ k)
 obtain ⟨R, hRR⟩ : ∃ R, R = rd0 bs := ⟨_, rfl⟩
 have hbR : R.bs = bs := by rw [hRR]; rfl
 have hokR : R.ok := by rw [hRR]; exact ⟨Nat.zero_le _, hl, Int.le_refl 0, (by decide : (0 : Int) ≤ 100), Int.le_refl 0, (by decide : (0 : Int) ≤ 1000000000), fun _ => rfl⟩
 have hAw : ∀ (r : Rd) (m : Nat), r.bs = bs → H m = none → Away A r.bs.length m := fun r m hb hm => by rw [hb]; exact Away.of hD hm
 have hB2 := (rp2_all hokR).2.trans hbR
 have hB3 := (rp3_all hokR).2.2.1.trans hbR
 have hB4 := (rp4_all hokR).2.2.trans hbR
 have hB5 := (rp5_all hokR).2.2.trans hbR
 have hB6 : ∀ i, (rpI6 R i).2.bs = bs := fun i => (rpI6_bs R i).trans hB5
 have hB7 := (rp7_all hokR).2.2.trans hbR
 have hB8 : ∀ i, (rpI8 R i).2.bs = bs := fun i => (rpI8_bs R i).trans hB7
 refine Sz ?_
 refine Rz [0, 1, 2] Kz rfl ?_
 refine Oz rfl rfl rfl (AOp.alloc' rfl ?_)
 refine Nz ?_
 refine Nz ?_
 refine Ez (Sz (Rz [0, 1, 2, 3] Kz rfl ?_))
 refine Mz ?_
 refine Oz rfl rfl rfl (AOp.buildS (cells := #[_, _, _, _]) rfl rfl rfl ?_)
 refine Oz rfl rfl rfl (AOp.boxV rfl rfl ?_)
 refine Nz ?_
 refine Ez ?_
 refine Sz ?_
 have hz1 : (upd (upd H k (some (rpblk ⟨0, zeroD, zeroE, [], [], []⟩ NIL NIL NIL))) (k + 1) (some (rfBlk A c (rd0 bs)))) k = some (rpblk ⟨0, zeroD, zeroE, [], [], []⟩ NIL NIL NIL) := Uz (upd_same _ _ _)
 have hS1 : Ab.Sub H (upd (upd H k (some (rpblk ⟨0, zeroD, zeroE, [], [], []⟩ NIL NIL NIL))) (k + 1) (some (rfBlk A c (rd0 bs)))) := sub_new (sub_upd' (sub_refl H) hHk) hHn
 have hR1 : RfN (upd (upd H k (some (rpblk ⟨0, zeroD, zeroE, [], [], []⟩ NIL NIL NIL))) (k + 1) (some (rfBlk A c (rd0 bs)))) (k + 1) A c R := by rw [hRR]; exact ⟨upd_same _ _ _, hD.sub hS1, Away.of hD hHn, by rw [← hRR]; exact hokR⟩
 refine Rz [0, 1, 2, 3, 4] Kz rfl ?_
 refine Mz ?_
 refine Oz rfl rfl rfl ?_
 refine AOp.call' rfl rfl rfl (rcount _ _ (k + 1) c A R hR1 1099511627776 Dz) ?_
 rintro _ HLb kb ⟨rfl, hPb⟩
 have hkb := hPb.1
 have hfLb := hPb.2.1
 have hsLb := hPb.2.2.1
 have hRb := hPb.2.2.2
 have hnb := hRb.hn
 have thsLb := SubS.of hsLb
 have hzb : HLb k = some (rpblk ⟨0, zeroD, zeroE, [], [], []⟩ NIL NIL NIL) := hsLb _ _ (Uz hz1)
 have hSb : Ab.Sub H HLb := sub_thru hS1 hHn hsLb
 have hRb : RfN HLb (k + 1) A c (rp1 R).2 := hRb
 rw [show (R.count 1099511627776).1 = (rp1 R).1 from rfl]
 refine Oz rfl rfl rfl (AOp.buildS (cells := (rpc ⟨((rp1 R).1 : Nat), zeroD, zeroE, [], [], []⟩ NIL NIL NIL).toArray) rfl rfl rfl ?_)
 refine Oz rfl rfl rfl (AOp.alloc' rfl ?_)
 refine aOps_0 rfl rfl rfl ?_
 refine AOp.storeAll (b := ?b7) rfl rfl rfl ?hn7 ?hk7 rfl ?hw7 ?ho7 ?hl7 ?hR7
 (case hn7 => exact hpB)
 (case hk7 => rfl)
 (case hw7 => first | rfl | exact hv_size _ | exact one_bv _ | exact entv_size _ | exact entc_one _ | exact rpv_size _ _ _ _ | exact spv_size _ _ _ _ | exact spc_one _ _ _ _ rfl rfl rfl | exact rp_one _ _ _ _ rfl rfl rfl | (simp; done))
 (case ho7 => first | rfl | exact hv_size _ | exact one_bv _ | exact entv_size _ | exact entc_one _ | exact rpv_size _ _ _ _ | exact spv_size _ _ _ _ | exact spc_one _ _ _ _ rfl rfl rfl | exact rp_one _ _ _ _ rfl rfl rfl | decide | (simp; done))
 (case hl7 => first | rfl | exact hv_size _ | exact one_bv _ | exact entv_size _ | exact entc_one _ | exact rpv_size _ _ _ _ | exact spv_size _ _ _ _ | exact spc_one _ _ _ _ rfl rfl rfl | exact rp_one _ _ _ _ rfl rfl rfl | (simp; done))
 rw [rd_upd2]
 refine Ez ?_
 refine Sz ?_
 have hz2 : (upd HLb kb (some (rpblk ⟨((rp1 R).1 : Nat), zeroD, zeroE, [], [], []⟩ NIL NIL NIL))) k = some (rpblk ⟨0, zeroD, zeroE, [], [], []⟩ NIL NIL NIL) := Uz hzb
 have hb2 : (upd HLb kb (some (rpblk ⟨((rp1 R).1 : Nat), zeroD, zeroE, [], [], []⟩ NIL NIL NIL))) kb = some (rpblk ⟨((rp1 R).1 : Nat), zeroD, zeroE, [], [], []⟩ NIL NIL NIL) := upd_same _ _ _
 have hS2 : Ab.Sub H (upd HLb kb (some (rpblk ⟨((rp1 R).1 : Nat), zeroD, zeroE, [], [], []⟩ NIL NIL NIL))) := sub_new hSb (hf kb Wz)
 have hR2 : RfN (upd HLb kb (some (rpblk ⟨((rp1 R).1 : Nat), zeroD, zeroE, [], [], []⟩ NIL NIL NIL))) (k + 1) A c (rp1 R).2 := hRb.sub (sub_upd' (sub_refl _) (hfLb kb (Nat.le_refl _)))
 refine Rz [0, 1, 2, 3] Kz rfl ?_
 refine Mz ?_
 refine Oz rfl rfl rfl ?_
 refine AOp.call' rfl rfl rfl (rhash_29 _ _ (k + 1) c A (rp1 R).2 hR2) ?_
 rintro _ HLg kg ⟨rfl, hPg⟩
 have hkg := hPg.1
 have hfLg := hPg.2.1
 have hsLg := hPg.2.2.1
 have hRg := hPg.2.2.2
 have hng := hRg.hn
 have thsLg := SubS.of hsLg
 have hzg : HLg k = some (rpblk ⟨0, zeroD, zeroE, [], [], []⟩ NIL NIL NIL) := hsLg _ _ (Uz hz2)
 have hbg : HLg kb = some (rpblk ⟨((rp1 R).1 : Nat), zeroD, zeroE, [], [], []⟩ NIL NIL NIL) := hsLg _ _ (Uz hb2)
 have hSg : Ab.Sub H HLg := sub_thru hS2 hHn hsLg
 have hRg : RfN HLg (k + 1) A c (rp2 R).2 := hRg
 refine Fz ?_
 refine aOps_0 rfl rfl rfl (AOp.storeN (b := (rpblk ⟨((rp1 R).1 : Nat), zeroD, zeroE, [], [], []⟩ NIL NIL NIL)) (cs := ((rp2 R).1.l.map bv).toArray) rfl rfl rfl hbg rfl (hv_size _) (one_bvA _) (by show 1 + 32 ≤ (rpc _ _ _ _).length; rw [rpc_len]; decide) ?_)
 rw [rpc_root1]
 refine Ez ?_
 refine Sz ?_
 have hz3 : (upd HLg kb (some (rpblk ⟨((rp1 R).1 : Nat), (rp2 R).1, zeroE, [], [], []⟩ NIL NIL NIL))) k = some (rpblk ⟨0, zeroD, zeroE, [], [], []⟩ NIL NIL NIL) := Uz hzg
 have hb3 : (upd HLg kb (some (rpblk ⟨((rp1 R).1 : Nat), (rp2 R).1, zeroE, [], [], []⟩ NIL NIL NIL))) kb = some (rpblk ⟨((rp1 R).1 : Nat), (rp2 R).1, zeroE, [], [], []⟩ NIL NIL NIL) := upd_same _ _ _
 have hS3 : Ab.Sub H (upd HLg kb (some (rpblk ⟨((rp1 R).1 : Nat), (rp2 R).1, zeroE, [], [], []⟩ NIL NIL NIL))) := sub_new hSg (hf kb Wz)
 have hR3 : RfN (upd HLg kb (some (rpblk ⟨((rp1 R).1 : Nat), (rp2 R).1, zeroE, [], [], []⟩ NIL NIL NIL))) (k + 1) A c (rp2 R).2 := hRg.away Wz (hAw _ _ (hB2) (hf _ Wz))
 refine Rz [0, 1, 2, 3] Kz rfl ?_
 refine Mz ?_
 refine Oz rfl rfl rfl ?_
 refine AOp.call' rfl rfl rfl (rtakeS _ _ (k + 1) c A (rp2 R).2 hR3) ?_
 rintro _ HLe ke ⟨⟨As, cs9, rfl, hs9, hsa9⟩, hPe⟩
 have hke := hPe.1
 have hfLe := hPe.2.1
 have hsLe := hPe.2.2.1
 have hRe := hPe.2.2.2
 have hne := hRe.hn
 have thsLe := SubS.of hsLe
 have hze : HLe k = some (rpblk ⟨0, zeroD, zeroE, [], [], []⟩ NIL NIL NIL) := hsLe _ _ (Uz hz3)
 have hbe : HLe kb = some (rpblk ⟨((rp1 R).1 : Nat), (rp2 R).1, zeroE, [], [], []⟩ NIL NIL NIL) := hsLe _ _ (Uz hb3)
 have hSe : Ab.Sub H HLe := sub_thru hS3 hHn hsLe
 have hRe : RfN HLe (k + 1) A c (rp3 R).2 := hRe
 have hTe : Ab.Sub (cutR HLe kg ke) HLe := cutR_sub
 have hZn : (cutR HLe kg ke) (k + 1) = none := cutR_no (.inl Wz)
 have hZk : (cutR HLe kg ke) kb = none := cutR_no (.inl Wz)
 have hZ0 : (cutR HLe kg ke) k = none := cutR_no (.inl Wz)
 have hZq : ∀ m, ke ≤ m → (cutR HLe kg ke) m = none := fun m hm => cutR_no (.inr hm)
 have hsch : SLC (cutR HLe kg ke) 3 As (rp3 R).1.length cs9 (cols3 (rp3 R).1) := SLC.newR hs9 hsa9
 have hCn : Away As (rp3 R).1.length (k + 1) := Away.ne (fun a ha => by have := (hsa9 a ha).1; omega)
 have hcl : (rp3 R).1.length ≤ 1000000 := Nat.le_trans (rp3_all hokR).2.2.2 Dz
 refine Fz ?_
 refine aOps_0 rfl rfl rfl (AOp.store1 (b := (rpblk ⟨((rp1 R).1 : Nat), (rp2 R).1, zeroE, [], [], []⟩ NIL NIL NIL)) rfl rfl rfl hbe rfl rfl rfl (by show 99 < (rpc _ _ _ _).length; rw [rpc_len]; decide) ?_)
 rw [(rpc_set _ _ _ _ _).2.1]
 refine Ez ?_
 refine Sz ?_
 have hz4 : (upd HLe kb (some (rpblk ⟨((rp1 R).1 : Nat), (rp2 R).1, zeroE, [], [], []⟩ NIL (.slice As (rp3 R).1.length cs9) NIL))) k = some (rpblk ⟨0, zeroD, zeroE, [], [], []⟩ NIL NIL NIL) := Uz hze
 have hb4 : (upd HLe kb (some (rpblk ⟨((rp1 R).1 : Nat), (rp2 R).1, zeroE, [], [], []⟩ NIL (.slice As (rp3 R).1.length cs9) NIL))) kb = some (rpblk ⟨((rp1 R).1 : Nat), (rp2 R).1, zeroE, [], [], []⟩ NIL (.slice As (rp3 R).1.length cs9) NIL) := upd_same _ _ _
 have hS4 : Ab.Sub H (upd HLe kb (some (rpblk ⟨((rp1 R).1 : Nat), (rp2 R).1, zeroE, [], [], []⟩ NIL (.slice As (rp3 R).1.length cs9) NIL))) := sub_new hSe (hf kb Wz)
 have hT4 : Ab.Sub (cutR HLe kg ke) (upd HLe kb (some (rpblk ⟨((rp1 R).1 : Nat), (rp2 R).1, zeroE, [], [], []⟩ NIL (.slice As (rp3 R).1.length cs9) NIL))) := sub_new hTe (hZk)
 have hR4 : RfN (upd HLe kb (some (rpblk ⟨((rp1 R).1 : Nat), (rp2 R).1, zeroE, [], [], []⟩ NIL (.slice As (rp3 R).1.length cs9) NIL))) (k + 1) A c (rp3 R).2 := hRe.away Wz (hAw _ _ (hB3) (hf _ Wz))
 refine Rz [0, 1, 2, 3] Kz rfl ?_
 refine Mz ?_
 refine Oz rfl rfl rfl ?_
 refine AOp.call' rfl rfl rfl (rtakeE _ _ (k + 1) c A (rp3 R).2 hR4) ?_
 rintro _ HLf kf ⟨rfl, hPf⟩
 have hkf := hPf.1
 have hfLf := hPf.2.1
 have hsLf := hPf.2.2.1
 have hRf := hPf.2.2.2
 have hnf := hRf.hn
 have thsLf := SubS.of hsLf
 have hzf : HLf k = some (rpblk ⟨0, zeroD, zeroE, [], [], []⟩ NIL NIL NIL) := hsLf _ _ (Uz hz4)
 have hbf : HLf kb = some (rpblk ⟨((rp1 R).1 : Nat), (rp2 R).1, zeroE, [], [], []⟩ NIL (.slice As (rp3 R).1.length cs9) NIL) := hsLf _ _ (Uz hb4)
 have hSf : Ab.Sub H HLf := sub_thru hS4 hHn hsLf
 have hTf : Ab.Sub (cutR HLe kg ke) HLf := sub_thru hT4 hZn hsLf
 have hRf : RfN HLf (k + 1) A c (rp4 R).2 := hRf
 refine Fz ?_
 refine aOps_0 rfl rfl rfl (AOp.storeN (b := (rpblk ⟨((rp1 R).1 : Nat), (rp2 R).1, zeroE, [], [], []⟩ NIL (.slice As (rp3 R).1.length cs9) NIL)) (cs := (entc (rp4 R).1).toArray) rfl rfl rfl hbf rfl (entv_size _) (entA_one _) (by show 33 + 65 ≤ (rpc _ _ _ _).length; rw [rpc_len]; decide) ?_)
 rw [rpc_ent33]
 refine Ez ?_
 refine Sz ?_
 have hz5 : (upd HLf kb (some (Qz R NIL (.slice As (rp3 R).1.length cs9) NIL))) k = some (rpblk ⟨0, zeroD, zeroE, [], [], []⟩ NIL NIL NIL) := Uz hzf
 have hb5 : (upd HLf kb (some (Qz R NIL (.slice As (rp3 R).1.length cs9) NIL))) kb = some (Qz R NIL (.slice As (rp3 R).1.length cs9) NIL) := upd_same _ _ _
 have hS5 : Ab.Sub H (upd HLf kb (some (Qz R NIL (.slice As (rp3 R).1.length cs9) NIL))) := sub_new hSf (hf kb Wz)
 have hT5 : Ab.Sub (cutR HLe kg ke) (upd HLf kb (some (Qz R NIL (.slice As (rp3 R).1.length cs9) NIL))) := sub_new hTf (hZk)
 have hR5 : RfN (upd HLf kb (some (Qz R NIL (.slice As (rp3 R).1.length cs9) NIL))) (k + 1) A c (rp4 R).2 := hRf.away Wz (hAw _ _ (hB4) (hf _ Wz))
 refine Rz [0, 1, 2] Kz rfl ?_
 refine Mz ?_
 refine Oz rfl rfl rfl ?_
 refine AOp.call' rfl rfl rfl (rcount _ _ (k + 1) c A (rp4 R).2 hR5 64 Dz) ?_
 rintro _ HLh kh ⟨rfl, hPh⟩
 have hkh := hPh.1
 have hfLh := hPh.2.1
 have hsLh := hPh.2.2.1
 have hRh := hPh.2.2.2
 have hnh := hRh.hn
 have thsLh := SubS.of hsLh
 have hzh : HLh k = some (rpblk ⟨0, zeroD, zeroE, [], [], []⟩ NIL NIL NIL) := hsLh _ _ (Uz hz5)
 have hbh : HLh kb = some (Qz R NIL (.slice As (rp3 R).1.length cs9) NIL) := hsLh _ _ (Uz hb5)
 have hSh : Ab.Sub H HLh := sub_thru hS5 hHn hsLh
 have hTh : Ab.Sub (cutR HLe kg ke) HLh := sub_thru hT5 hZn hsLh
 have hRh : RfN HLh (k + 1) A c (rp5 R).2 := hRh
 rw [show ((rp4 R).2.count 64).1 = (rp5 R).1 from rfl]
 have hn6 := (rp5_all hokR).2.1
 refine Nz ?_
 refine Ez ?_
 refine ACode.meet (γ := Unit) (fun g => []) [(2, _), (3, _), (4, _), (5, _), (6, _), (7, _)] Xz (fun g H' k' => ∃ kh, ke ≤ kh ∧ kh < k' ∧ H' k = some (rpblk ⟨0, zeroD, zeroE, [], [], []⟩ NIL NIL NIL) ∧ H' kb = some (Qz R (.slice (some ⟨kh, 0, some 1⟩) (rp6 R).1.length (rp6 R).1.length) (.slice As (rp3 R).1.length cs9) NIL) ∧ H' kh = some (dwb (rp6 R).1) ∧ Ab.Sub H H' ∧ Ab.Sub (cutR HLe kg ke) H' ∧ RfN H' (k + 1) A c (rp6 R).2) ?_ (fun g HLp kp hfLp hXp => ?_)
 ·show ACode _ _ _ _ _ _
  refine Sz ?_
  refine Rz [0] Kz rfl ?_
  refine Nz ?_
  refine Ez ?_
  refine ACode.block ?_
  refine ACode.adoptC 23 32 Dz (n := kb) (b := (Qz R NIL (.slice As (rp3 R).1.length cs9) NIL)) (j := 98) hbh rfl (rpc_at _ _ _ _).1 ?_
  refine ACode.countG (γ := Hp) (fun i g => [(8, .int .i64 (i : Int))]) [(2, _), (3, _), (4, _), (5, _), (6, _), (7, _)] (fun i g => g) ((rp5 R).1) (fun i g => g k = some (rpblk ⟨0, zeroD, zeroE, [], [], []⟩ NIL NIL NIL) ∧ g kb = some (Qz R (.slice (some ⟨kh, 0, some 1⟩) (rpI6 R (i)).1.length (rpI6 R (i)).1.length) (.slice As (rp3 R).1.length cs9) NIL) ∧ g kh = some (dwb (rpI6 R (i)).1) ∧ Ab.Sub H g ∧ Ab.Sub (cutR HLe kg ke) g ∧ RfN g (k + 1) A c (rpI6 R (i)).2) ((upd (upd HLh kh (some (dwb []))) kb (some (Qz R (.slice (some ⟨kh, 0, some 1⟩) ([] : List Dg).length ([] : List Dg).length) (.slice As (rp3 R).1.length cs9) NIL)))) (.cons rfl .nil) Xz (by rw [(rpc_set _ _ _ _ _).1]; exact sub_refl _) ⟨Uz (Uz hzh), upd_same _ _ _, Uz (upd_same _ _ _), sub_new (sub_new hSh (hf kh Wz)) (hf kb Wz), sub_new (sub_new hTh (hZq kh Wz)) hZk, (hRh.sub (sub_upd' (sub_refl _) (hfLh kh (Nat.le_refl _)))).away Wz (hAw _ _ hB5 (hf _ Wz))⟩ (fun i0 g0 kL0 HL0 hiL0 hkL0 hsL0 hfL0 hxL0 => ?_)
  show ACode _ _ _ _ _ ⟨_, _, _⟩
  have tsL0 := SubS.of hsL0
  obtain ⟨hzn0, hbn0, hWn0, hSn0, hTn0, hRn0⟩ := hxL0
  have hzn := hsL0 _ _ hzn0
  have hbn := hsL0 _ _ hbn0
  have hWn := hsL0 _ _ hWn0
  have hSn := sub_trans hSn0 hsL0
  have hTn := sub_trans hTn0 hsL0
  have hRn := hRn0.sub hsL0
  have hli := rpI6_len R i0
  have hln6 : (rpI6 R (i0)).1.length + 1 = (rpI6 R (i0 + 1)).1.length := by rw [rpI6_len, rpI6_len]
  refine Sz ?_
  refine Sz ?_
  refine Rz [0, 1, 2] Kz rfl ?_
  refine Mz ?_
  refine Mz ?_
  refine Oz rfl rfl rfl (AOp.bin' rfl rfl rfl rfl ?_)
  refine Ez ?_
  refine ACode.cond rfl (fun c0 => ?_) (fun c0 => ?_)
  ·try simp only [Cz] at c0
   have hin : i0 < (rp5 R).1 := by omega
   refine ACode.skip ?_
   refine Sz ?_
   refine ACode.block ?_
   refine ACode.any mixed Kz ?_
   refine AnyA.split 6 Kz Kz Dz Dz (Nat.le_of_ble_eq_true rfl) ?_
   refine AnyA.float (Hq := (upd (fun _ => none) kb (some (Qz R (.slice (some ⟨kh, 0, some 1⟩) (rpI6 R (i0)).1.length (rpI6 R (i0)).1.length) (.slice As (rp3 R).1.length cs9) NIL)))) [(0, 38), (1, 39), (2, 40)] [3, 4, 5] Kz (Nat.le_of_ble_eq_true rfl) Kz subB ?_
   refine DrawF.q 0 38 [(6, none)] rfl Kz rfl (fun Hc kq hSb => AOp.fieldAddr' rfl Dz rfl Tz) ?_
   refine DrawF.q 1 39 [(38, some 0)] rfl Kz rfl (fun Hc kq hSb => have tSb := SubS.of hSb; AOp.load1 (b := (Qz R (.slice (some ⟨kh, 0, some 1⟩) (rpI6 R (i0)).1.length (rpI6 R (i0)).1.length) (.slice As (rp3 R).1.length cs9) NIL)) (v := (.slice (some ⟨kh, 0, some 1⟩) (rpI6 R (i0)).1.length (rpI6 R (i0)).1.length)) rfl rfl hpB (rpc_at _ _ _ _).1 Tz) ?_
   refine DrawF.q 2 40 [(5, none)] rfl Kz rfl (fun Hc kq hSb => AOp.move' (.inl rfl) rfl Tz) ?_
   refine DrawF.done ?_
   show aOpsF _ _ _ _ _ _ [3, 4, 5] ⟨_, _, _⟩
   refine aOpsF_1 [40] rfl rfl Kz rfl ?_
   refine AOp.call' rfl rfl rfl (rhash_29 _ _ (k + 1) c A (rpI6 R (i0)).2 hRn) ?_
   rintro _ HLm km ⟨rfl, hPm⟩
   have hkm := hPm.1
   have hfLm := hPm.2.1
   have hsLm := hPm.2.2.1
   have hRm := hPm.2.2.2
   have hnm := hRm.hn
   have thsLm := SubS.of hsLm
   have hzm : HLm k = some (rpblk ⟨0, zeroD, zeroE, [], [], []⟩ NIL NIL NIL) := hsLm _ _ (Uz hzn)
   have hbm : HLm kb = some (Qz R (.slice (some ⟨kh, 0, some 1⟩) (rpI6 R (i0)).1.length (rpI6 R (i0)).1.length) (.slice As (rp3 R).1.length cs9) NIL) := hsLm _ _ (Uz hbn)
   have hWm : HLm kh = some (dwb (rpI6 R (i0)).1) := hsLm _ _ (Uz hWn)
   have hSm : Ab.Sub H HLm := sub_thru hSn hHn hsLm
   have hTm : Ab.Sub (cutR HLe kg ke) HLm := sub_thru hTn hZn hsLm
   have hRm : RfN HLm (k + 1) A c (rpI6 R (i0)).2.hash.2 := hRm
   refine ⟨by exact subB, ?_⟩
   refine aOpsF_1 [41] rfl rfl Kz rfl (AOp.buildH ((rpI6 R (i0)).2.hash.1.l.map bv) rfl (hcs_one _) (by show 0 < 32; decide) (by show 32 ≤ 16777216; decide) rfl rfl ?_)
   refine ⟨by exact subB, ?_⟩
   refine aOpsF_1 [39, 42] rfl rfl Kz rfl (AOp.append' (b := dwb (rpI6 R (i0)).1) (m := 1) (news := (rpI6 R (i0)).2.hash.1.l.map bv) rfl rfl rfl hpB (srcOf_grow (b := { cells := (rpI6 R (i0)).2.hash.1.l.map bv, elem := 23, kind := .grow, esz := 32 }) hpB rfl (hcs_one _).symm) rfl rfl rfl (hcs_len _).symm srcOk_sl (bv_one _) Wz Wz ?_)
   refine ⟨by exact subB, ?_⟩
   refine aOpsF_end ?_
   refine AnyA.float (Hq := (fun _ => none)) [] [6, 7] Kz (Nat.le_of_ble_eq_true rfl) Kz (sub_none _) ?_
   refine DrawF.done ?_
   show aOpsF _ _ _ _ _ _ [6, 7] ⟨_, _, _⟩
   refine aOpsF_1 [6] rfl rfl Kz rfl (AOp.fieldAddr' rfl Dz rfl ?_)
   refine ⟨sub_none _, ?_⟩
   refine aOpsF_0 [44, 43] rfl rfl Kz rfl (AOp.store1 (b := (Qz R (.slice (some ⟨kh, 0, some 1⟩) (rpI6 R (i0)).1.length (rpI6 R (i0)).1.length) (.slice As (rp3 R).1.length cs9) NIL)) rfl rfl rfl hpB rfl rfl rfl (by show 98 < (rpc _ _ _ _).length; rw [rpc_len]; decide) ?_)
   refine ⟨sub_none _, ?_⟩
   rw [(rpc_set _ _ _ _ _).1, ← hcs_snoc, hln6]
   refine aOpsF_end ?_
   refine Rz [0, 1, 2] Kz rfl ?_
   refine Mz ?_
   refine Oz rfl rfl rfl (AOp.add rfl rfl rfl (i64_wrap Wz Wz) ?_)
   refine Nz ?_
   refine Ez ?_
   first | refine thenA_n ?_ | simp only [thenA, blockA, if_true]
   exact NextG.mk Wz Wz ((upd (upd (upd HLm km (some (dob (rpI6 R (i0)).2.hash.1))) kh (some (dwb ((rpI6 R (i0)).1 ++ [(rpI6 R (i0)).2.hash.1])))) kb (some (Qz R (.slice (some ⟨kh, 0, some 1⟩) (rpI6 R (i0 + 1)).1.length (rpI6 R (i0 + 1)).1.length) (.slice As (rp3 R).1.length cs9) NIL)))) (.cons rfl .nil) Xz (by exact sub_refl _) ⟨Uz (Uz (Uz hzm)), upd_same _ _ _, Uz (upd_same _ _ _), sub_new (sub_new (sub_new hSm (hf km Wz)) (hf kh Wz)) (hf kb Wz), sub_new (sub_new (sub_new hTm (hZq km Wz)) (hZq kh Wz)) hZk, ((hRm.sub (sub_upd' (sub_refl _) (hfLm km (Nat.le_refl _)))).away Wz (hAw _ _ (hB6 (i0 + 1)) (hf _ Wz))).away Wz (hAw _ _ (hB6 (i0 + 1)) (hf _ Wz))⟩
  ·try simp only [Cz] at c0
   have hin : i0 = (rp5 R).1 := by omega
   have h6 : rp6 R = (rpI6 R (i0)) := by rw [hin]; rfl
   refine ACode.exit ?_
   first | refine thenA_n ?_ | simp only [thenA, blockA, if_true]
   exact ⟨(), has_append .nil Xz, (by (try dsimp only); exact by rw [h6]; exact ⟨kh, by omega, by omega, hzn, hbn, hWn, hSn, hTn, hRn⟩)⟩
 ·show ACode _ _ _ _ _ ⟨_, _, _⟩
  obtain ⟨kh, hkhe, hkhp, hzp, hbp, hWp, hSp, hTp, hRp⟩ := hXp
  refine Sz ?_
  refine Rz [0, 1, 2] Kz rfl ?_
  refine Mz ?_
  refine Oz rfl rfl rfl ?_
  refine AOp.call' rfl rfl rfl (rcount _ _ (k + 1) c A (rp6 R).2 hRp 1048576 Dz) ?_
  rintro _ HLj kj ⟨rfl, hPj⟩
  have hkj := hPj.1
  have hfLj := hPj.2.1
  have hsLj := hPj.2.2.1
  have hRj := hPj.2.2.2
  have hnj := hRj.hn
  have thsLj := SubS.of hsLj
  have hzj : HLj k = some (rpblk ⟨0, zeroD, zeroE, [], [], []⟩ NIL NIL NIL) := hsLj _ _ (Uz hzp)
  have hbj : HLj kb = some (Qz R (.slice (some ⟨kh, 0, some 1⟩) (rp6 R).1.length (rp6 R).1.length) (.slice As (rp3 R).1.length cs9) NIL) := hsLj _ _ (Uz hbp)
  have hWj : HLj kh = some (dwb (rp6 R).1) := hsLj _ _ (Uz hWp)
  have hSj : Ab.Sub H HLj := sub_thru hSp hHn hsLj
  have hTj : Ab.Sub (cutR HLe kg ke) HLj := sub_thru hTp hZn hsLj
  have hRj : RfN HLj (k + 1) A c (rp7 R).2 := hRj
  rw [show ((rp6 R).2.count 1048576).1 = (rp7 R).1 from rfl]
  have hn7 := (rp7_all hokR).2.1
  refine Nz ?_
  refine Ez ?_
  refine Sz ?_
  refine Sz ?_
  refine Rz [0] Kz rfl ?_
  refine Nz ?_
  refine Ez ?_
  refine ACode.block ?_
  refine ACode.adoptC 51 38 Dz (n := kb) (b := (Qz R (.slice (some ⟨kh, 0, some 1⟩) (rp6 R).1.length (rp6 R).1.length) (.slice As (rp3 R).1.length cs9) NIL)) (j := 100) hbj rfl (rpc_at _ _ _ _).2.2 ?_
  refine ACode.countG (γ := Hp × List Value) (fun i g => [(9, .int .i64 (i : Int))]) [(2, _), (3, _), (4, _), (5, _), (6, _), (7, _)] (fun i g => g.1) ((rp7 R).1) (fun i g => g.1 k = some (rpblk ⟨0, zeroD, zeroE, [], [], []⟩ NIL NIL NIL) ∧ g.1 kb = some (Qz R (.slice (some ⟨kh, 0, some 1⟩) (rp6 R).1.length (rp6 R).1.length) (.slice As (rp3 R).1.length cs9) (.slice (some ⟨kj, 0, some 1⟩) (rpI8 R (i)).1.length (rpI8 R (i)).1.length)) ∧ g.1 kh = some (dwb (rp6 R).1) ∧ g.1 kj = some (swb g.2) ∧ Ab.Sub H g.1 ∧ Ab.Sub (cutR HLe kg ke) g.1 ∧ RfN g.1 (k + 1) A c (rpI8 R (i)).2 ∧ rp8 R = runR (spStep (rp3 R).1) ((rp7 R).1 - i) (rpI8 R (i)) ∧ Sps (cutH g.1 (kj + 1)) g.2 (rpI8 R (i)).1) ((upd (upd HLj kj (some (swb []))) kb (some (Qz R (.slice (some ⟨kh, 0, some 1⟩) (rp6 R).1.length (rp6 R).1.length) (.slice As (rp3 R).1.length cs9) (.slice (some ⟨kj, 0, some 1⟩) ([] : List Sp).length ([] : List Sp).length))), [])) (.cons rfl .nil) Xz (by rw [(rpc_set _ _ _ _ _).2.2]; exact sub_refl _) ⟨Uz (Uz hzj), upd_same _ _ _, Uz (Uz hWj), Uz (upd_same _ _ _), sub_new (sub_new hSj (hf kj Wz)) (hf kb Wz), sub_new (sub_new hTj (hZq kj Wz)) hZk, (hRj.sub (sub_upd' (sub_refl _) (hfLj kj (Nat.le_refl _)))).away Wz (hAw _ _ hB7 (hf _ Wz)), rfl, Sps.nil⟩ (fun i1 g1 kL1 HL1 hiL1 hkL1 hsL1 hfL1 hxL1 => ?_)
  show ACode _ _ _ _ _ ⟨_, _, _⟩
  have tsL1 := SubS.of hsL1
  obtain ⟨hzi0, hbi0, hWi0, hVi0, hSi0, hTi0, hRi0, hrun, hPi0⟩ := hxL1
  have hzi := hsL1 _ _ hzi0
  have hbi := hsL1 _ _ hbi0
  have hWi := hsL1 _ _ hWi0
  have hVi := hsL1 _ _ hVi0
  have hSi := sub_trans hSi0 hsL1
  have hTi := sub_trans hTi0 hsL1
  have hRi := hRi0.sub hsL1
  have hPi := hPi0.sub (cutH_mono hsL1)
  have hli := rpI8_len R i1
  have hpl : g1.2.length = (rpI8 R (i1)).1.length * 38 := hPi.len
  have hln8 : (rpI8 R (i1)).1.length + 1 = (rpI8 R (i1 + 1)).1.length := by rw [rpI8_len, rpI8_len]
  have hSA : (Az R i1).2.bs = bs := (shA_bs (rp3 R).1 (Pz R i1)).trans (hB8 i1)
  have hSB : (Bz R i1).2.bs = bs := (shB_bs (rp3 R).1 (Pz R i1)).trans (hB8 i1)
  have hSC : (Gz R i1).2.bs = bs := (shC_bs (rp3 R).1 (Pz R i1)).trans (hB8 i1)
  have hSI : ∀ i, (shI (rp3 R).1 (Pz R i1) (i)).2.bs = bs := fun i => (shI_bs (rp3 R).1 (Pz R i1) i).trans hSC
  refine Sz ?_
  refine Sz ?_
  refine Rz [0, 1, 2, 3, 4, 5, 6, 7, 8, 9] Kz rfl ?_
  refine Mz ?_
  refine Mz ?_
  refine Oz rfl rfl rfl (AOp.bin' rfl rfl rfl rfl ?_)
  refine Mz ?_
  refine aOps_gd0 rfl rfl (wantT rfl rfl rfl) (fun hc => AOp.slots [(5, _)] (.cons rfl .nil) (AOp.move' (.inl rfl) rfl Tz)) ?_
  refine aOps_gd0 rfl rfl (wantT rfl rfl rfl) (fun hc => AOp.slots [(51, _)] (.cons (gvT rfl hc) .nil) (AOp.nilCheck' rfl rfl Tz)) ?_
  refine aOps_gd0 rfl rfl (wantT rfl rfl rfl) (fun hc => AOp.slots [(52, _)] (.cons (gvT rfl hc) .nil) (AOp.fieldAddr' rfl Dz rfl Tz)) ?_
  refine aOps_gd0 rfl rfl (wantT rfl rfl rfl) (fun hc => AOp.slots [(53, _)] (.cons (gvT rfl hc) .nil) (AOp.load1 (b := rfBlk A c (Pz R i1)) (v := .int .i64 (Pz R i1).e) rfl rfl hRi.hn rfl Tz)) ?_
  refine aOps_gd0 rfl rfl (wantT rfl rfl rfl) (fun hc => AOp.slots [(54, _)] (.cons (gvT rfl hc) .nil) (AOp.bin' rfl rfl rfl rfl Tz)) ?_
  refine Oz rfl rfl rfl (AOp.pickAnd rfl rfl rfl (fun hb => gvE rfl hb) ?_)
  refine Ez ?_
  refine ACode.cond rfl (fun c1 => ?_) (fun c1 => ?_)
  ·try simp only [Cz] at c1
   have c1b : i1 < (rp7 R).1 ∧ (Pz R i1).e = 0 := by simp at c1; omega
   refine ACode.skip ?_
   refine Sz ?_
   refine ACode.block ?_
   refine Sz ?_
   refine Rz [0, 1, 2] Kz rfl ?_
   refine Mz ?_
   refine Oz rfl rfl rfl ?_
   refine AOp.call' rfl rfl rfl (rfix1 _ _ (k + 1) c A (Pz R i1) hRi) ?_
   rintro _ HLq kq ⟨rfl, hPq⟩
   have hkq := hPq.1
   have hfLq := hPq.2.1
   have hsLq := hPq.2.2.1
   have hRq := hPq.2.2.2
   have hnq := hRq.hn
   have thsLq := SubS.of hsLq
   have hzq : HLq k = some (rpblk ⟨0, zeroD, zeroE, [], [], []⟩ NIL NIL NIL) := hsLq _ _ (Uz hzi)
   have hbq : HLq kb = some (Qz R (.slice (some ⟨kh, 0, some 1⟩) (rp6 R).1.length (rp6 R).1.length) (.slice As (rp3 R).1.length cs9) (.slice (some ⟨kj, 0, some 1⟩) (rpI8 R (i1)).1.length (rpI8 R (i1)).1.length)) := hsLq _ _ (Uz hbi)
   have hWq : HLq kh = some (dwb (rp6 R).1) := hsLq _ _ (Uz hWi)
   have hVq : HLq kj = some (swb g1.2) := hsLq _ _ (Uz hVi)
   have hSq : Ab.Sub H HLq := sub_thru hSi hHn hsLq
   have hTq : Ab.Sub (cutR HLe kg ke) HLq := sub_thru hTi hZn hsLq
   have hRq : RfN HLq (k + 1) A c (Pz R i1).fix1.2 := hRq
   have hPq := hPi.sub (cutH_by hsLq Wz)
   refine Nz ?_
   refine Ez ?_
   refine ACode.meet (γ := Unit) (fun g => []) [(2, _), (3, _), (4, _), (5, _), (6, _), (7, _), (9, _), (10, _), (47, _), (48, _), (49, _), (50, _), (51, _), (52, _), (53, _), (54, _), (55, _), (56, _), (59, _), (60, _)] Xz (fun g H' k' => H' k = some (rpblk ⟨0, zeroD, zeroE, [], [], []⟩ NIL NIL NIL) ∧ H' kb = some (Qz R (.slice (some ⟨kh, 0, some 1⟩) (rp6 R).1.length (rp6 R).1.length) (.slice As (rp3 R).1.length cs9) (.slice (some ⟨kj, 0, some 1⟩) (rpI8 R (i1)).1.length (rpI8 R (i1)).1.length)) ∧ H' kh = some (dwb (rp6 R).1) ∧ H' kj = some (swb g1.2) ∧ Ab.Sub H H' ∧ Ab.Sub (cutR HLe kg ke) H' ∧ RfN H' (k + 1) A c (Pz R i1).opn ∧ Sps (cutH H' (kj + 1)) g1.2 (rpI8 R (i1)).1 ∧ kj < k') ?_ (fun g HLv kv hfLv hXv => ?_)
   ·show ACode _ _ _ _ _ _
    refine Sz ?_
    refine Rz [0, 1] Kz rfl ?_
    refine Mz ?_
    refine Oz rfl rfl rfl (AOp.bin' rfl rfl rfl rfl ?_)
    refine Ez ?_
    refine ACode.cond rfl (fun c2 => ?_) (fun c2 => ?_)
    ·try simp only [Cz] at c2
     have hbig : (Pz R i1).fix1.1 > 1 := by omega
     refine Rz [0, 1] Kz rfl ?_
     refine Mz ?_
     refine Oz rfl rfl rfl ?_
     refine AOp.call' rfl rfl rfl (rfail _ _ (k + 1) c A (Pz R i1).fix1.2 hRq 4 Dz Dz) ?_
     rintro _ HLu ku ⟨rfl, hPu⟩
     have hku := hPu.1
     have hfLu := hPu.2.1
     have hsLu := hPu.2.2.1
     have hRu := hPu.2.2.2
     have hnu := hRu.hn
     have thsLu := SubS.of hsLu
     have hzu : HLu k = some (rpblk ⟨0, zeroD, zeroE, [], [], []⟩ NIL NIL NIL) := hsLu _ _ (Uz hzq)
     have hbu : HLu kb = some (Qz R (.slice (some ⟨kh, 0, some 1⟩) (rp6 R).1.length (rp6 R).1.length) (.slice As (rp3 R).1.length cs9) (.slice (some ⟨kj, 0, some 1⟩) (rpI8 R (i1)).1.length (rpI8 R (i1)).1.length)) := hsLu _ _ (Uz hbq)
     have hWu : HLu kh = some (dwb (rp6 R).1) := hsLu _ _ (Uz hWq)
     have hVu : HLu kj = some (swb g1.2) := hsLu _ _ (Uz hVq)
     have hSu : Ab.Sub H HLu := sub_thru hSq hHn hsLu
     have hTu : Ab.Sub (cutR HLe kg ke) HLu := sub_thru hTq hZn hsLu
     have hRu : RfN HLu (k + 1) A c ((Pz R i1).fix1.2.fail 4) := hRu
     have hPu := hPq.sub (cutH_by hsLu Wz)
     refine Ez ?_
     rw [Rd.opn_t hbig]
     first | refine thenA_n ?_ | simp only [thenA, blockA, if_true]
     exact ⟨(), has_append .nil Xz, (by (try dsimp only); exact ⟨hzu, hbu, hWu, hVu, hSu, hTu, hRu, hPu, by omega⟩)⟩
    ·try simp only [Cz] at c2
     have hbig : ¬ (Pz R i1).fix1.1 > 1 := by omega
     refine ACode.skip ?_
     rw [Rd.opn_f hbig]
     first | refine thenA_n ?_ | simp only [thenA, blockA, if_true]
     exact ⟨(), has_append .nil Xz, (by (try dsimp only); exact ⟨hzq, hbq, hWq, hVq, hSq, hTq, hRq, hPq, by omega⟩)⟩
   ·show ACode _ _ _ _ _ ⟨_, _, _⟩
    obtain ⟨hzv, hbv, hWv, hVv, hSv, hTv, hRv, hPv, hkjv⟩ := hXv
    refine Sz ?_
    refine Rz [0, 1, 2, 3, 4] Kz rfl ?_
    refine Mz ?_
    refine Oz rfl rfl rfl (AOp.bin' (z := .bool (decide ((Pz R i1).fix1.1 = 1))) rfl rfl rfl (congrArg (fun b => some (Value.bool b)) (eqI (y := 1))) ?_)
    refine Oz rfl rfl rfl (AOp.buildS (cells := (spc ⟨hdD, (decide ((Pz R i1).fix1.1 = 1)), [], []⟩ NIL NIL NIL).toArray) rfl rfl rfl ?_)
    refine Oz rfl rfl rfl (AOp.alloc' rfl ?_)
    refine aOps_0 rfl rfl rfl ?_
    refine AOp.storeAll (b := ?b8) rfl rfl rfl ?hn8 ?hk8 rfl ?hw8 ?ho8 ?hl8 ?hR8
    (case hn8 => exact hpB)
    (case hk8 => rfl)
    (case hw8 => first | rfl | exact hv_size _ | exact one_bv _ | exact entv_size _ | exact entc_one _ | exact rpv_size _ _ _ _ | exact spv_size _ _ _ _ | exact spc_one _ _ _ _ rfl rfl rfl | exact rp_one _ _ _ _ rfl rfl rfl | (simp; done))
    (case ho8 => first | rfl | exact hv_size _ | exact one_bv _ | exact entv_size _ | exact entc_one _ | exact rpv_size _ _ _ _ | exact spv_size _ _ _ _ | exact spc_one _ _ _ _ rfl rfl rfl | exact rp_one _ _ _ _ rfl rfl rfl | decide | (simp; done))
    (case hl8 => first | rfl | exact hv_size _ | exact one_bv _ | exact entv_size _ | exact entc_one _ | exact rpv_size _ _ _ _ | exact spv_size _ _ _ _ | exact spc_one _ _ _ _ rfl rfl rfl | exact rp_one _ _ _ _ rfl rfl rfl | (simp; done))
    rw [rd_upd2]
    refine Ez ?_
    refine Sz ?_
    have hzl_ : (upd HLv kv (some (spblk ⟨hdD, (decide ((Pz R i1).fix1.1 = 1)), [], []⟩ NIL NIL NIL))) k = some (rpblk ⟨0, zeroD, zeroE, [], [], []⟩ NIL NIL NIL) := Uz hzv
    have hbl_ : (upd HLv kv (some (spblk ⟨hdD, (decide ((Pz R i1).fix1.1 = 1)), [], []⟩ NIL NIL NIL))) kb = some (Qz R (.slice (some ⟨kh, 0, some 1⟩) (rp6 R).1.length (rp6 R).1.length) (.slice As (rp3 R).1.length cs9) (.slice (some ⟨kj, 0, some 1⟩) (rpI8 R (i1)).1.length (rpI8 R (i1)).1.length)) := Uz hbv
    have hWl_ : (upd HLv kv (some (spblk ⟨hdD, (decide ((Pz R i1).fix1.1 = 1)), [], []⟩ NIL NIL NIL))) kh = some (dwb (rp6 R).1) := Uz hWv
    have hVl_ : (upd HLv kv (some (spblk ⟨hdD, (decide ((Pz R i1).fix1.1 = 1)), [], []⟩ NIL NIL NIL))) kj = some (swb g1.2) := Uz hVv
    have hsl_ : (upd HLv kv (some (spblk ⟨hdD, (decide ((Pz R i1).fix1.1 = 1)), [], []⟩ NIL NIL NIL))) kv = some (spblk ⟨hdD, (decide ((Pz R i1).fix1.1 = 1)), [], []⟩ NIL NIL NIL) := upd_same _ _ _
    have hSl_ : Ab.Sub H (upd HLv kv (some (spblk ⟨hdD, (decide ((Pz R i1).fix1.1 = 1)), [], []⟩ NIL NIL NIL))) := sub_new hSv (hf kv Wz)
    have hTl_ : Ab.Sub (cutR HLe kg ke) (upd HLv kv (some (spblk ⟨hdD, (decide ((Pz R i1).fix1.1 = 1)), [], []⟩ NIL NIL NIL))) := sub_new hTv (hZq kv Wz)
    have hRl_ : RfN (upd HLv kv (some (spblk ⟨hdD, (decide ((Pz R i1).fix1.1 = 1)), [], []⟩ NIL NIL NIL))) (k + 1) A c (Pz R i1).opn := hRv.sub (sub_upd' (sub_refl _) (hfLv kv (Nat.le_refl _)))
    have hPl_ := (hPv.sub (cutK_in (q := kv) (hfLv kv (Nat.le_refl _)))).sub (sub_eq (cutK_set (b := some (spblk ⟨hdD, (decide ((Pz R i1).fix1.1 = 1)), [], []⟩ NIL NIL NIL))).symm)
    refine Rz [0, 1, 2, 3, 4, 5] Kz rfl ?_
    refine Mz ?_
    refine Fz ?_
    refine Oz rfl rfl rfl (AOp.load1 (b := (Qz R (.slice (some ⟨kh, 0, some 1⟩) (rp6 R).1.length (rp6 R).1.length) (.slice As (rp3 R).1.length cs9) (.slice (some ⟨kj, 0, some 1⟩) (rpI8 R (i1)).1.length (rpI8 R (i1)).1.length))) (v := (.slice As (rp3 R).1.length cs9)) rfl rfl hbl_ (rpc_at _ _ _ _).2.1 ?_)
    refine Oz rfl rfl rfl ?_
    refine AOp.call' rfl rfl rfl (rtakeH _ _ (k + 1) c A (Pz R i1).opn hRl_ (rp3 R).1 As cs9 (hsch.sub hTl_) hCn hcl) ?_
    rintro _ HLw kw ⟨⟨A1, d1, rfl, hh1, hh1a⟩, hPw⟩
    have hkw := hPw.1
    have hfLw := hPw.2.1
    have hsLw := hPw.2.2.1
    have hRw := hPw.2.2.2
    have hnw := hRw.hn
    have thsLw := SubS.of hsLw
    have hzw : HLw k = some (rpblk ⟨0, zeroD, zeroE, [], [], []⟩ NIL NIL NIL) := hsLw _ _ (Uz hzl_)
    have hbw : HLw kb = some (Qz R (.slice (some ⟨kh, 0, some 1⟩) (rp6 R).1.length (rp6 R).1.length) (.slice As (rp3 R).1.length cs9) (.slice (some ⟨kj, 0, some 1⟩) (rpI8 R (i1)).1.length (rpI8 R (i1)).1.length)) := hsLw _ _ (Uz hbl_)
    have hWw : HLw kh = some (dwb (rp6 R).1) := hsLw _ _ (Uz hWl_)
    have hVw : HLw kj = some (swb g1.2) := hsLw _ _ (Uz hVl_)
    have hsw : HLw kv = some (spblk ⟨hdD, (decide ((Pz R i1).fix1.1 = 1)), [], []⟩ NIL NIL NIL) := hsLw _ _ (Uz hsl_)
    have hSw : Ab.Sub H HLw := sub_thru hSl_ hHn hsLw
    have hTw : Ab.Sub (cutR HLe kg ke) HLw := sub_thru hTl_ hZn hsLw
    have hRw : RfN HLw (k + 1) A c (Az R i1).2 := hRw
    have hPw := hPl_.sub (cutK_by hsLw Wz)
    have hHw : SLC (cutK HLw kv (kj + 1)) 40 A1 (Az R i1).1.cols.length d1 (chs (Az R i1).1.cols) := SLC.sub (SLC.newH (w := kv + 1) hh1 hh1a Wz) (cutH_K Wz)
    refine Fz ?_
    refine aOps_0 rfl rfl rfl (AOp.storeN (b := (spblk ⟨hdD, (decide ((Pz R i1).fix1.1 = 1)), [], []⟩ NIL NIL NIL)) (cs := (hdc (Az R i1).1 (.slice A1 (Az R i1).1.cols.length d1)).toArray) rfl rfl rfl hsw rfl (hdv_size _ _) (hdA_one _ _ rfl) (by show 0 + 35 ≤ (spc _ _ _ _).length; rw [spc_len]; decide) ?_)
    rw [sp_put00]
    refine Ez ?_
    refine ACode.meet (γ := Unit) (fun g => []) [(2, _), (3, _), (4, _), (5, _), (6, _), (7, _), (9, _), (10, _), (11, _), (47, _), (48, _), (49, _), (50, _), (51, _), (52, _), (53, _), (54, _), (55, _), (56, _), (59, _), (60, _), (65, _), (66, _), (67, _), (68, _), (69, _), (70, _), (71, _), (72, _)] Xz (fun g H' k' => ∃ s1 s2 s3, H' kv = some (spblk ((Pz R i1).ship (rp3 R).1).1 s1 s2 s3) ∧ SpC (cutH H' (kj + 1)) ((Pz R i1).ship (rp3 R).1).1 (spc ((Pz R i1).ship (rp3 R).1).1 s1 s2 s3) ∧ s1.oneCell' = true ∧ s2.oneCell' = true ∧ s3.oneCell' = true ∧ kv < k' ∧ H' k = some (rpblk ⟨0, zeroD, zeroE, [], [], []⟩ NIL NIL NIL) ∧ H' kb = some (Qz R (.slice (some ⟨kh, 0, some 1⟩) (rp6 R).1.length (rp6 R).1.length) (.slice As (rp3 R).1.length cs9) (.slice (some ⟨kj, 0, some 1⟩) (rpI8 R (i1)).1.length (rpI8 R (i1)).1.length)) ∧ H' kh = some (dwb (rp6 R).1) ∧ H' kj = some (swb g1.2) ∧ Ab.Sub H H' ∧ Ab.Sub (cutR HLe kg ke) H' ∧ RfN H' (k + 1) A c ((Pz R i1).ship (rp3 R).1).2 ∧ Sps (cutH H' (kj + 1)) g1.2 (rpI8 R (i1)).1) ?_ (fun g HLo ko hfLo hXo => ?_)
    ·show ACode _ _ _ _ _ _
     refine Sz ?_
     have hzs : (upd HLw kv (some (Yz R i1 A1 d1 NIL NIL))) k = some (rpblk ⟨0, zeroD, zeroE, [], [], []⟩ NIL NIL NIL) := Uz hzw
     have hbs : (upd HLw kv (some (Yz R i1 A1 d1 NIL NIL))) kb = some (Qz R (.slice (some ⟨kh, 0, some 1⟩) (rp6 R).1.length (rp6 R).1.length) (.slice As (rp3 R).1.length cs9) (.slice (some ⟨kj, 0, some 1⟩) (rpI8 R (i1)).1.length (rpI8 R (i1)).1.length)) := Uz hbw
     have hWs : (upd HLw kv (some (Yz R i1 A1 d1 NIL NIL))) kh = some (dwb (rp6 R).1) := Uz hWw
     have hVs : (upd HLw kv (some (Yz R i1 A1 d1 NIL NIL))) kj = some (swb g1.2) := Uz hVw
     have hss : (upd HLw kv (some (Yz R i1 A1 d1 NIL NIL))) kv = some (Yz R i1 A1 d1 NIL NIL) := upd_same _ _ _
     have hSs : Ab.Sub H (upd HLw kv (some (Yz R i1 A1 d1 NIL NIL))) := sub_new hSw (hf kv Wz)
     have hTs : Ab.Sub (cutR HLe kg ke) (upd HLw kv (some (Yz R i1 A1 d1 NIL NIL))) := sub_new hTw (hZq kv Wz)
     have hRs : RfN (upd HLw kv (some (Yz R i1 A1 d1 NIL NIL))) (k + 1) A c (Az R i1).2 := hRw.away Wz (hAw _ _ (hSA) (hf _ Wz))
     have hPs := hPw.sub (sub_eq (cutK_set (b := some (Yz R i1 A1 d1 NIL NIL))).symm)
     have hHs := hHw.sub (sub_eq (cutK_set (b := some (Yz R i1 A1 d1 NIL NIL))).symm)
     refine Rz [0, 1] Kz rfl ?_
     refine Fz ?_
     refine Oz rfl rfl rfl (AOp.load1 (b := (Yz R i1 A1 d1 NIL NIL)) (v := .bool (decide ((Pz R i1).fix1.1 = 1))) rfl rfl hss (spc_at _ _ _ _).1 ?_)
     refine Ez ?_
     refine ACode.cond rfl (fun c3 => ?_) (fun c3 => ?_)
     ·try simp only [Cz] at c3
      have hone : (Pz R i1).fix1.1 = 1 := by simpa using c3
      refine Sz ?_
      refine Rz [0, 1, 2, 3] Kz rfl ?_
      refine Mz ?_
      refine Oz rfl rfl rfl ?_
      refine AOp.call' rfl rfl rfl (rblob _ _ (k + 1) c A (Az R i1).2 hRs 65536 Dz) ?_
      rintro _ HLx kx ⟨⟨A2, d2, rfl, hd2, hd2a⟩, hPx⟩
      have hkx := hPx.1
      have hfLx := hPx.2.1
      have hsLx := hPx.2.2.1
      have hRx := hPx.2.2.2
      have hnx := hRx.hn
      have thsLx := SubS.of hsLx
      have hzx : HLx k = some (rpblk ⟨0, zeroD, zeroE, [], [], []⟩ NIL NIL NIL) := hsLx _ _ (Uz hzs)
      have hbx : HLx kb = some (Qz R (.slice (some ⟨kh, 0, some 1⟩) (rp6 R).1.length (rp6 R).1.length) (.slice As (rp3 R).1.length cs9) (.slice (some ⟨kj, 0, some 1⟩) (rpI8 R (i1)).1.length (rpI8 R (i1)).1.length)) := hsLx _ _ (Uz hbs)
      have hWx : HLx kh = some (dwb (rp6 R).1) := hsLx _ _ (Uz hWs)
      have hVx : HLx kj = some (swb g1.2) := hsLx _ _ (Uz hVs)
      have hsx : HLx kv = some (Yz R i1 A1 d1 NIL NIL) := hsLx _ _ (Uz hss)
      have hSx : Ab.Sub H HLx := sub_thru hSs hHn hsLx
      have hTx : Ab.Sub (cutR HLe kg ke) HLx := sub_thru hTs hZn hsLx
      have hRx : RfN HLx (k + 1) A c (Bz R i1).2 := hRx
      have hPx := hPs.sub (cutK_by hsLx Wz)
      have hHx := hHs.sub (cutK_by hsLx Wz)
      have hEx : SLC (cutK HLx kv (kj + 1)) 1 A2 (Bz R i1).1.length d2 ((Bz R i1).1.map bv) := SLC.sub (SLC.newH (w := kv + 1) hd2 hd2a Wz) (cutH_K Wz)
      refine Fz ?_
      refine aOps_0 rfl rfl rfl (AOp.store1 (b := (Yz R i1 A1 d1 NIL NIL)) rfl rfl rfl hsx rfl rfl rfl (by show 36 < (spc _ _ _ _).length; rw [spc_len]; decide) ?_)
      rw [(spc_set _ _ _ _ _).1]
      refine Ez ?_
      refine Sz ?_
      have hzt : (upd HLx kv (some (Yz R i1 A1 d1 (.slice A2 (Bz R i1).1.length d2) NIL))) k = some (rpblk ⟨0, zeroD, zeroE, [], [], []⟩ NIL NIL NIL) := Uz hzx
      have hbt : (upd HLx kv (some (Yz R i1 A1 d1 (.slice A2 (Bz R i1).1.length d2) NIL))) kb = some (Qz R (.slice (some ⟨kh, 0, some 1⟩) (rp6 R).1.length (rp6 R).1.length) (.slice As (rp3 R).1.length cs9) (.slice (some ⟨kj, 0, some 1⟩) (rpI8 R (i1)).1.length (rpI8 R (i1)).1.length)) := Uz hbx
      have hWt : (upd HLx kv (some (Yz R i1 A1 d1 (.slice A2 (Bz R i1).1.length d2) NIL))) kh = some (dwb (rp6 R).1) := Uz hWx
      have hVt : (upd HLx kv (some (Yz R i1 A1 d1 (.slice A2 (Bz R i1).1.length d2) NIL))) kj = some (swb g1.2) := Uz hVx
      have hst : (upd HLx kv (some (Yz R i1 A1 d1 (.slice A2 (Bz R i1).1.length d2) NIL))) kv = some (Yz R i1 A1 d1 (.slice A2 (Bz R i1).1.length d2) NIL) := upd_same _ _ _
      have hSt : Ab.Sub H (upd HLx kv (some (Yz R i1 A1 d1 (.slice A2 (Bz R i1).1.length d2) NIL))) := sub_new hSx (hf kv Wz)
      have hTt : Ab.Sub (cutR HLe kg ke) (upd HLx kv (some (Yz R i1 A1 d1 (.slice A2 (Bz R i1).1.length d2) NIL))) := sub_new hTx (hZq kv Wz)
      have hRt : RfN (upd HLx kv (some (Yz R i1 A1 d1 (.slice A2 (Bz R i1).1.length d2) NIL))) (k + 1) A c (Bz R i1).2 := hRx.away Wz (hAw _ _ (hSB) (hf _ Wz))
      have hPt := hPx.sub (sub_eq (cutK_set (b := some (Yz R i1 A1 d1 (.slice A2 (Bz R i1).1.length d2) NIL))).symm)
      have hHt := hHx.sub (sub_eq (cutK_set (b := some (Yz R i1 A1 d1 (.slice A2 (Bz R i1).1.length d2) NIL))).symm)
      have hEt := hEx.sub (sub_eq (cutK_set (b := some (Yz R i1 A1 d1 (.slice A2 (Bz R i1).1.length d2) NIL))).symm)
      refine Rz [0, 1, 2] Kz rfl ?_
      refine Mz ?_
      refine Oz rfl rfl rfl ?_
      refine AOp.call' rfl rfl rfl (rcount _ _ (k + 1) c A (Bz R i1).2 hRt 64 Dz) ?_
      rintro _ HLy ky ⟨rfl, hPy⟩
      have hky := hPy.1
      have hfLy := hPy.2.1
      have hsLy := hPy.2.2.1
      have hRy := hPy.2.2.2
      have hny := hRy.hn
      have thsLy := SubS.of hsLy
      have hzy : HLy k = some (rpblk ⟨0, zeroD, zeroE, [], [], []⟩ NIL NIL NIL) := hsLy _ _ (Uz hzt)
      have hby : HLy kb = some (Qz R (.slice (some ⟨kh, 0, some 1⟩) (rp6 R).1.length (rp6 R).1.length) (.slice As (rp3 R).1.length cs9) (.slice (some ⟨kj, 0, some 1⟩) (rpI8 R (i1)).1.length (rpI8 R (i1)).1.length)) := hsLy _ _ (Uz hbt)
      have hWy : HLy kh = some (dwb (rp6 R).1) := hsLy _ _ (Uz hWt)
      have hVy : HLy kj = some (swb g1.2) := hsLy _ _ (Uz hVt)
      have hsy : HLy kv = some (Yz R i1 A1 d1 (.slice A2 (Bz R i1).1.length d2) NIL) := hsLy _ _ (Uz hst)
      have hSy : Ab.Sub H HLy := sub_thru hSt hHn hsLy
      have hTy : Ab.Sub (cutR HLe kg ke) HLy := sub_thru hTt hZn hsLy
      have hRy : RfN HLy (k + 1) A c (Gz R i1).2 := hRy
      have hPy := hPt.sub (cutK_by hsLy Wz)
      have hHy := hHt.sub (cutK_by hsLy Wz)
      have hEy := hEt.sub (cutK_by hsLy Wz)
      rw [show ((Bz R i1).2.count 64).1 = (Gz R i1).1 from rfl]
      have hnc : (Gz R i1).1 ≤ 64 := Rd.count_le _ _
      have hDy : Ab.Sub (cutK HLy kv (kj + 1)) HLy := sub_trans cutK_sub cutH_sub
      have hZDn : (cutK HLy kv (kj + 1)) (k + 1) = none := cutK_lt Wz
      have hZDq : ∀ m, ky ≤ m → (cutK HLy kv (kj + 1)) m = none := fun m hm => cutK_no (hfLy m hm)
      refine Nz ?_
      refine Ez (Sz (Rz [0] Kz rfl ?_))
      refine Nz ?_
      refine Ez ?_
      refine ACode.block ?_
      refine ACode.adoptC 33 1 Dz (n := kv) (b := (Yz R i1 A1 d1 (.slice A2 (Bz R i1).1.length d2) NIL)) (j := 37) hsy rfl (spc_at _ _ _ _).2.2 ?_
      refine ACode.countG (γ := Hp × List Value) (fun i g => [(13, .int .i64 (i : Int))]) [(2, _), (3, _), (4, _), (5, _), (6, _), (7, _), (9, _), (10, _), (11, _), (12, _), (47, _), (48, _), (49, _), (50, _), (51, _), (52, _), (53, _), (54, _), (55, _), (56, _), (59, _), (60, _), (65, _), (66, _), (67, _), (68, _), (69, _), (70, _), (71, _), (72, _), (73, _), (74, _), (75, _), (76, _), (77, _), (78, _), (79, _)] (fun i g => g.1) ((Gz R i1).1) (fun i g => g.1 k = some (rpblk ⟨0, zeroD, zeroE, [], [], []⟩ NIL NIL NIL) ∧ g.1 kb = some (Qz R (.slice (some ⟨kh, 0, some 1⟩) (rp6 R).1.length (rp6 R).1.length) (.slice As (rp3 R).1.length cs9) (.slice (some ⟨kj, 0, some 1⟩) (rpI8 R (i1)).1.length (rpI8 R (i1)).1.length)) ∧ g.1 kh = some (dwb (rp6 R).1) ∧ g.1 kj = some (swb g1.2) ∧ g.1 kv = some (Yz R i1 A1 d1 (.slice A2 (Bz R i1).1.length d2) (.slice (some ⟨ky, 0, some 1⟩) g.2.length g.2.length)) ∧ g.1 ky = some (kwb g.2) ∧ Ab.Sub H g.1 ∧ Ab.Sub (cutR HLe kg ke) g.1 ∧ RfN g.1 (k + 1) A c (shI (rp3 R).1 (Pz R i1) (i)).2 ∧ Ab.Sub (cutK HLy kv (kj + 1)) g.1 ∧ Bws (cutH g.1 (ky + 1)) g.2 (shI (rp3 R).1 (Pz R i1) (i)).1) ((upd (upd HLy ky (some (kwb []))) kv (some (Yz R i1 A1 d1 (.slice A2 (Bz R i1).1.length d2) (.slice (some ⟨ky, 0, some 1⟩) ([] : List Value).length ([] : List Value).length))), [])) (.cons rfl .nil) Xz (by rw [(spc_set _ _ _ _ _).2]; exact sub_refl _) ⟨Uz (Uz hzy), Uz (Uz hby), Uz (Uz hWy), Uz (Uz hVy), upd_same _ _ _, Uz (upd_same _ _ _), sub_new (sub_new hSy (hf ky Wz)) (hf kv Wz), sub_new (sub_new hTy (hZq ky Wz)) (hZq kv Wz), (hRy.sub (sub_upd' (sub_refl _) (hfLy ky (Nat.le_refl _)))).away Wz (hAw _ _ hSC (hf _ Wz)), sub_new (sub_new hDy (hZDq ky (Nat.le_refl _))) cutK_at, Bws.nil⟩ (fun i2 g2 kL2 HL2 hiL2 hkL2 hsL2 hfL2 hxL2 => ?_)
      show ACode _ _ _ _ _ ⟨_, _, _⟩
      have tsL2 := SubS.of hsL2
      obtain ⟨hzl0, hbl0, hWl0, hVl0, hsl0, hYl0, hSl0, hTl0, hRl0, hDl0, hKl0⟩ := hxL2
      have hzl := hsL2 _ _ hzl0
      have hbl := hsL2 _ _ hbl0
      have hWl := hsL2 _ _ hWl0
      have hVl := hsL2 _ _ hVl0
      have hsl := hsL2 _ _ hsl0
      have hYl := hsL2 _ _ hYl0
      have hSl := sub_trans hSl0 hsL2
      have hTl := sub_trans hTl0 hsL2
      have hRl := hRl0.sub hsL2
      have hDl := sub_trans hDl0 hsL2
      have hKl := hKl0.sub (cutH_mono hsL2)
      have hkl9 : g2.2.length = i2 := hKl.len.trans (shI_len _ _ _)
      have hlk : ∀ z : Value, g2.2.length + 1 = (g2.2 ++ [z]).length := fun z => by rw [List.length_append]; rfl
      refine Sz ?_
      refine Sz ?_
      refine Rz [0, 1, 2] Kz rfl ?_
      refine Mz ?_
      refine Mz ?_
      refine Oz rfl rfl rfl (AOp.bin' rfl rfl rfl rfl ?_)
      refine Ez ?_
      refine ACode.cond rfl (fun c4 => ?_) (fun c4 => ?_)
      ·try simp only [Cz] at c4
       have hic : i2 < (Gz R i1).1 := by omega
       refine ACode.skip ?_
       refine Sz ?_
       refine ACode.block ?_
       refine ACode.any mixed Kz ?_
       refine AnyA.split 6 Kz Kz Dz Dz (Nat.le_of_ble_eq_true rfl) ?_
       refine AnyA.float (Hq := (upd (fun _ => none) kv (some (Yz R i1 A1 d1 (.slice A2 (Bz R i1).1.length d2) (.slice (some ⟨ky, 0, some 1⟩) g2.2.length g2.2.length))))) [(0, 85), (1, 86), (2, 87)] [3, 4, 5] Kz (Nat.le_of_ble_eq_true rfl) Kz subB ?_
       refine DrawF.q 0 85 [(11, none)] rfl Kz rfl (fun Hc kq hSb => AOp.fieldAddr' rfl Dz rfl Tz) ?_
       refine DrawF.q 1 86 [(85, some 0)] rfl Kz rfl (fun Hc kq hSb => have tSb := SubS.of hSb; AOp.load1 (b := (Yz R i1 A1 d1 (.slice A2 (Bz R i1).1.length d2) (.slice (some ⟨ky, 0, some 1⟩) g2.2.length g2.2.length))) (v := (.slice (some ⟨ky, 0, some 1⟩) g2.2.length g2.2.length)) rfl rfl hpB (spc_at _ _ _ _).2.2 Tz) ?_
       refine DrawF.q 2 87 [(5, none)] rfl Kz rfl (fun Hc kq hSb => AOp.move' (.inl rfl) rfl Tz) ?_
       refine DrawF.done ?_
       show aOpsF _ _ _ _ _ _ [3, 4, 5] ⟨_, _, _⟩
       refine aOpsF_1 [87] rfl rfl Kz rfl ?_
       refine AOp.call' rfl rfl rfl (rblob _ _ (k + 1) c A (shI (rp3 R).1 (Pz R i1) (i2)).2 hRl 16777216 Dz) ?_
       rintro _ HLz kz ⟨⟨A3, d3, rfl, hd3, hd3a⟩, hPz⟩
       have hkz := hPz.1
       have hfLz := hPz.2.1
       have hsLz := hPz.2.2.1
       have hRz := hPz.2.2.2
       have hnz := hRz.hn
       have thsLz := SubS.of hsLz
       have hzz : HLz k = some (rpblk ⟨0, zeroD, zeroE, [], [], []⟩ NIL NIL NIL) := hsLz _ _ (Uz hzl)
       have hbz : HLz kb = some (Qz R (.slice (some ⟨kh, 0, some 1⟩) (rp6 R).1.length (rp6 R).1.length) (.slice As (rp3 R).1.length cs9) (.slice (some ⟨kj, 0, some 1⟩) (rpI8 R (i1)).1.length (rpI8 R (i1)).1.length)) := hsLz _ _ (Uz hbl)
       have hWz : HLz kh = some (dwb (rp6 R).1) := hsLz _ _ (Uz hWl)
       have hVz : HLz kj = some (swb g1.2) := hsLz _ _ (Uz hVl)
       have hsz : HLz kv = some (Yz R i1 A1 d1 (.slice A2 (Bz R i1).1.length d2) (.slice (some ⟨ky, 0, some 1⟩) g2.2.length g2.2.length)) := hsLz _ _ (Uz hsl)
       have hYz : HLz ky = some (kwb g2.2) := hsLz _ _ (Uz hYl)
       have hSz : Ab.Sub H HLz := sub_thru hSl hHn hsLz
       have hTz : Ab.Sub (cutR HLe kg ke) HLz := sub_thru hTl hZn hsLz
       have hRz : RfN HLz (k + 1) A c (shI (rp3 R).1 (Pz R i1) (i2 + 1)).2 := hRz
       have hDz : Ab.Sub (cutK HLy kv (kj + 1)) HLz := sub_thru hDl hZDn hsLz
       have hKz := hKl.sub (cutH_by hsLz Wz)
       have hBz : SLC (cutH HLz (ky + 1)) 1 A3 (Lz R i1 i2).1.length d3 ((Lz R i1 i2).1.map bv) := SLC.newH hd3 hd3a Wz
       refine ⟨by exact subB, ?_⟩
       refine aOpsF_1 [88] rfl rfl Kz rfl (AOp.buildG1 (vals := [_]) rfl Dz rfl rfl (by intro u hu; simp at hu; first | (rcases hu with rfl | rfl | rfl <;> rfl) | (rcases hu with rfl | rfl <;> rfl) | (subst hu; rfl) | (rcases hu with rfl | rfl | rfl | rfl <;> rfl)) ?_)
       refine ⟨by exact subB, ?_⟩
       refine aOpsF_1 [86, 89] rfl rfl Kz rfl (AOp.append' (b := kwb g2.2) (m := 1) (news := [(Value.slice A3 (Lz R i1 i2).1.length d3)]) rfl rfl rfl hpB (srcOf_grow (b := kwb [(Value.slice A3 (Lz R i1 i2).1.length d3)]) hpB rfl rfl) rfl rfl rfl (Nat.mul_one _) srcOk_sl (by intro u hu; rw [List.mem_singleton.1 hu]; rfl) Wz Wz ?_)
       refine ⟨by exact subB, ?_⟩
       refine aOpsF_end ?_
       refine AnyA.float (Hq := (fun _ => none)) [] [6, 7] Kz (Nat.le_of_ble_eq_true rfl) Kz (sub_none _) ?_
       refine DrawF.done ?_
       show aOpsF _ _ _ _ _ _ [6, 7] ⟨_, _, _⟩
       refine aOpsF_1 [11] rfl rfl Kz rfl (AOp.fieldAddr' rfl Dz rfl ?_)
       refine ⟨sub_none _, ?_⟩
       refine aOpsF_0 [91, 90] rfl rfl Kz rfl (AOp.store1 (b := (Yz R i1 A1 d1 (.slice A2 (Bz R i1).1.length d2) (.slice (some ⟨ky, 0, some 1⟩) g2.2.length g2.2.length))) rfl rfl rfl hpB rfl rfl rfl (by show 37 < (spc _ _ _ _).length; rw [spc_len]; decide) ?_)
       refine ⟨sub_none _, ?_⟩
       rw [(spc_set _ _ _ _ _).2, hlk (Value.slice A3 (Lz R i1 i2).1.length d3)]
       refine aOpsF_end ?_
       refine Rz [0, 1, 2] Kz rfl ?_
       refine Mz ?_
       refine Oz rfl rfl rfl (AOp.add rfl rfl rfl (i64_wrap Wz Wz) ?_)
       refine Nz ?_
       refine Ez ?_
       first | refine thenA_n ?_ | simp only [thenA, blockA, if_true]
       exact NextG.mk Wz Wz (((upd (upd (upd HLz kz (some (kwb [(Value.slice A3 (Lz R i1 i2).1.length d3)]))) ky (some (kwb (g2.2 ++ [(Value.slice A3 (Lz R i1 i2).1.length d3)])))) kv (some (Yz R i1 A1 d1 (.slice A2 (Bz R i1).1.length d2) (.slice (some ⟨ky, 0, some 1⟩) (g2.2 ++ [(Value.slice A3 (Lz R i1 i2).1.length d3)]).length (g2.2 ++ [(Value.slice A3 (Lz R i1 i2).1.length d3)]).length)))), g2.2 ++ [(Value.slice A3 (Lz R i1 i2).1.length d3)])) (.cons rfl .nil) Xz (by exact sub_refl _) ⟨Uz (Uz (Uz hzz)), Uz (Uz (Uz hbz)), Uz (Uz (Uz hWz)), Uz (Uz (Uz hVz)), upd_same _ _ _, Uz (upd_same _ _ _), sub_new (sub_new (sub_new hSz (hf kz Wz)) (hf ky Wz)) (hf kv Wz), sub_new (sub_new (sub_new hTz (hZq kz Wz)) (hZq ky Wz)) (hZq kv Wz), ((hRz.sub (sub_upd' (sub_refl _) (hfLz kz (Nat.le_refl _)))).away Wz (hAw _ _ (hSI (i2 + 1)) (hf _ Wz))).away Wz (hAw _ _ (hSI (i2 + 1)) (hf _ Wz)), sub_new (sub_new (sub_new hDz (hZDq kz Wz)) (hZDq ky Wz)) cutK_at, by simp only; rw [cutH_upd Wz, cutH_upd Wz]; exact (Bws.snoc hKz hBz).sub (cutH_mono (sub_upd' (sub_refl HLz) (hfLz kz (Nat.le_refl _))))⟩
      ·try simp only [Cz] at c4
       have hic : i2 = (Gz R i1).1 := by omega
       have hsh : (Pz R i1).ship (rp3 R).1 = (⟨(Az R i1).1, (decide ((Pz R i1).fix1.1 = 1)), (Bz R i1).1, (shI (rp3 R).1 (Pz R i1) (i2)).1⟩, (shI (rp3 R).1 (Pz R i1) (i2)).2) := by rw [ship_t' hone, ← hic]
       refine ACode.exit ?_
       first | refine thenA_n ?_ | simp only [thenA, blockA, if_true]
       exact ⟨(), has_append .nil Xz, (by (try dsimp only); exact by rw [hsh]; exact ⟨(Value.slice A1 (Az R i1).1.cols.length d1), (Value.slice A2 (Bz R i1).1.length d2), (Value.slice (some ⟨ky, 0, some 1⟩) g2.2.length g2.2.length), hsl, ⟨A1, d1, A2, d2, _, _, g2.2, rfl, hHy.sub (cut_lift hDl), hEy.sub (cut_lift hDl), SLC.kwb ((cutH_at Wz).trans hYl), hKl.sub (cutH_less Wz)⟩, rfl, rfl, rfl, by omega, hzl, hbl, hWl, hVl, hSl, hTl, hRl, hPy.sub (cut_lift hDl)⟩)⟩
     ·try simp only [Cz] at c3
      have hone : ¬ (Pz R i1).fix1.1 = 1 := by simpa using c3
      refine ACode.skip ?_
      first | refine thenA_n ?_ | simp only [thenA, blockA, if_true]
      exact ⟨(), has_append .nil Xz, (by (try dsimp only); exact by rw [ship_f' hone]; exact ⟨(Value.slice A1 (Az R i1).1.cols.length d1), NIL, NIL, hss, ⟨A1, d1, none, 0, none, 0, [], rfl, hHs.sub cutK_sub, SLC.nil, SLC.nil, Bws.nil⟩, rfl, rfl, rfl, by omega, hzs, hbs, hWs, hVs, hSs, hTs, hRs, hPs.sub cutK_sub⟩)⟩
    ·show ACode _ _ _ _ _ ⟨_, _, _⟩
     obtain ⟨s1, s2, s3, hso, hXo_, ho1, ho2, ho3, hkwo, hzo, hbo, hWo, hVo, hSo, hTo, hRo, hPo⟩ := hXo
     refine Rz [0, 1, 2, 3, 4, 5, 6] Kz rfl ?_
     refine Fz ?_
     refine Oz rfl rfl rfl (AOp.load1 (b := (Qz R (.slice (some ⟨kh, 0, some 1⟩) (rp6 R).1.length (rp6 R).1.length) (.slice As (rp3 R).1.length cs9) (.slice (some ⟨kj, 0, some 1⟩) (rpI8 R (i1)).1.length (rpI8 R (i1)).1.length))) (v := (.slice (some ⟨kj, 0, some 1⟩) (rpI8 R (i1)).1.length (rpI8 R (i1)).1.length)) rfl rfl hbo (rpc_at _ _ _ _).2.2 ?_)
     refine Oz rfl rfl rfl (AOp.loadAll (b := spblk ((Pz R i1).ship (rp3 R).1).1 s1 s2 s3) (v := .agg (spc ((Pz R i1).ship (rp3 R).1).1 s1 s2 s3).toArray) rfl rfl hso rfl rfl (spv_size _ _ _ _) ?_)
     refine Oz rfl rfl rfl (AOp.buildH (spc ((Pz R i1).ship (rp3 R).1).1 s1 s2 s3) rfl (spc_len _ _ _ _) (by show 0 < 38; decide) (by show 38 ≤ 16777216; decide) rfl rfl ?_)
     refine Oz rfl rfl rfl (AOp.append' (b := swb g1.2) (m := 1) (news := (spc ((Pz R i1).ship (rp3 R).1).1 s1 s2 s3)) rfl rfl rfl (Uz hVo) (srcOf_grow (b := swb (spc ((Pz R i1).ship (rp3 R).1).1 s1 s2 s3)) (upd_same _ _ _) rfl (spc_len _ _ _ _).symm) rfl rfl rfl hpl.symm srcOk_sl (fun u hu => List.all_eq_true.1 (spc_one _ _ _ _ ho1 ho2 ho3) u hu) Wz Wz ?_)
     refine Fz ?_
     refine aOps_0 rfl rfl rfl (AOp.store1 (b := (Qz R (.slice (some ⟨kh, 0, some 1⟩) (rp6 R).1.length (rp6 R).1.length) (.slice As (rp3 R).1.length cs9) (.slice (some ⟨kj, 0, some 1⟩) (rpI8 R (i1)).1.length (rpI8 R (i1)).1.length))) rfl rfl rfl (Uz (Uz hbo)) rfl rfl rfl (by show 100 < (rpc _ _ _ _).length; rw [rpc_len]; decide) ?_)
     rw [(rpc_set _ _ _ _ _).2.2, hln8]
     refine Ez ?_
     refine Rz [0, 1, 2] Kz rfl ?_
     refine Mz ?_
     refine Oz rfl rfl rfl (AOp.add rfl rfl rfl (i64_wrap Wz Wz) ?_)
     refine Nz ?_
     refine Ez ?_
     first | refine thenA_n ?_ | simp only [thenA, blockA, if_true]
     exact NextG.mk Wz Wz (((upd (upd (upd HLo ko (some (swb (spc ((Pz R i1).ship (rp3 R).1).1 s1 s2 s3)))) kj (some (swb (g1.2 ++ (spc ((Pz R i1).ship (rp3 R).1).1 s1 s2 s3))))) kb (some (Qz R (.slice (some ⟨kh, 0, some 1⟩) (rp6 R).1.length (rp6 R).1.length) (.slice As (rp3 R).1.length cs9) (.slice (some ⟨kj, 0, some 1⟩) (rpI8 R (i1 + 1)).1.length (rpI8 R (i1 + 1)).1.length)))), g1.2 ++ (spc ((Pz R i1).ship (rp3 R).1).1 s1 s2 s3))) (.cons rfl .nil) Xz (by exact sub_refl _) ⟨Uz (Uz (Uz hzo)), upd_same _ _ _, Uz (Uz (Uz hWo)), Uz (upd_same _ _ _), sub_new (sub_new (sub_new hSo (hf ko Wz)) (hf kj Wz)) (hf kb Wz), sub_new (sub_new (sub_new hTo (hZq ko Wz)) (hZq kj Wz)) hZk, ((hRo.sub (sub_upd' (sub_refl _) (hfLo ko (Nat.le_refl _)))).away Wz (hAw _ _ (hB8 (i1 + 1)) (hf _ Wz))).away Wz (hAw _ _ (hB8 (i1 + 1)) (hf _ Wz)), rpI8_next hrun c1b.1 c1b.2, by simp only; rw [cutH_upd Wz, cutH_upd Wz]; exact (Sps.snoc hPo hXo_).sub (cutH_mono (sub_upd' (sub_refl HLo) (hfLo ko (Nat.le_refl _))))⟩
  ·try simp only [Cz] at c1
   have c1b : ¬ (i1 < (rp7 R).1 ∧ (Pz R i1).e = 0) := by simp at c1; omega
   have h8 : rp8 R = (rpI8 R (i1)) := rpI8_end rfl hrun (by show _ ∨ (Pz R i1).e ≠ 0; omega)
   refine ACode.exit ?_
   refine Sz ?_
   refine Sz ?_
   refine Rz [0, 1, 2, 3, 4, 5, 6] Kz rfl ?_
   refine Mz ?_
   refine aOps_q rfl rfl rfl (AOp.call' rfl rfl rfl (rend _ _ (k + 1) c A (Pz R i1) hRi) Iz) (fun kq hkq => ?_)
   refine Mz ?_
   refine Oz rfl rfl rfl (AOp.extract' rfl rfl rfl ?_)
   refine Oz rfl rfl rfl (AOp.extract' rfl rfl rfl ?_)
   refine Nz ?_
   refine Nz ?_
   refine Ez (Sz (Rz [0, 1] Kz rfl ?_))
   refine Mz ?_
   refine Oz rfl rfl rfl (AOp.bin' rfl rfl rfl rfl ?_)
   refine Ez ?_
   refine ACode.cond rfl (fun c5 => ?_) (fun c5 => ?_)
   ·try simp only [Cz] at c5
    refine Sz ?_
    refine Rz [0, 1, 2, 3, 4, 5] Kz rfl ?_
    refine Oz rfl rfl rfl (AOp.buildS rfl rfl rfl ?_)
    refine Mz ?_
    refine Mz ?_
    refine aOps_0 rfl rfl rfl ?_
    refine AOp.storeAll (b := ?b9) rfl rfl rfl ?hn9 ?hk9 rfl ?hw9 ?ho9 ?hl9 ?hR9
    (case hn9 => exact hpB)
    (case hk9 => rfl)
    (case hw9 => first | rfl | exact hv_size _ | exact one_bv _ | exact entv_size _ | exact entc_one _ | exact rpv_size _ _ _ _ | exact spv_size _ _ _ _ | exact spc_one _ _ _ _ rfl rfl rfl | exact rp_one _ _ _ _ rfl rfl rfl | (simp; done))
    (case ho9 => first | rfl | exact hv_size _ | exact one_bv _ | exact entv_size _ | exact entc_one _ | exact rpv_size _ _ _ _ | exact spv_size _ _ _ _ | exact spc_one _ _ _ _ rfl rfl rfl | exact rp_one _ _ _ _ rfl rfl rfl | decide | (simp; done))
    (case hl9 => first | rfl | exact hv_size _ | exact one_bv _ | exact entv_size _ | exact entc_one _ | exact rpv_size _ _ _ _ | exact spv_size _ _ _ _ | exact spc_one _ _ _ _ rfl rfl rfl | exact rp_one _ _ _ _ rfl rfl rfl | (simp; done))
    refine Nz ?_
    refine Nz ?_
    refine Ez ?_
    refine ACode.ret ?_
    try simp only [thenA, blockA, if_true]
    have et : takeRp bs = (rpD, (Pz R i1).end_) := by unfold takeRp; rw [← hRR, h8]; exact if_pos c5
    rw [et]
    have hSZ : Ab.Sub H (upd HL1 k (some (rpblk rpD NIL NIL NIL))) := sub_new hSi hHk
    exact RetQ.cell2 rfl rfl (aloadAll (b := rpblk rpD NIL NIL NIL) (v := rpv rpD NIL NIL NIL) (upd_same _ _ _) rfl rfl (rpv_size _ _ _ _)) rfl rfl (sub_refl _) (fun m b h => ⟨b, hSZ m b h⟩) (fun hk => ⟨_, rfl, ⟨none, 0, none, 0, none, 0, [], rfl, SLC.nil, SLC.nil, SLC.nil, Sps.nil⟩, by omega, (fun m hm => Uz (hfL1 m Wz)), hSZ⟩)
   ·try simp only [Cz] at c5
    refine ACode.skip ?_
    refine Sz ?_
    refine Rz [0, 1, 2, 3] Kz rfl ?_
    refine Oz rfl rfl rfl ?_
    refine AOp.loadAll (b := ?b10) (v := rpv (rpOf R) (.slice (some ⟨kh, 0, some 1⟩) (rp6 R).1.length (rp6 R).1.length) (.slice As (rp3 R).1.length cs9) (.slice (some ⟨kj, 0, some 1⟩) (rpI8 R (i1)).1.length (rpI8 R (i1)).1.length)) rfl rfl ?hn10 ?hv10 ?hw10 ?hz10 ?hR10
    (case hn10 => exact hpB)
    (case hv10 => rfl)
    (case hw10 => rfl)
    (case hz10 => first | rfl | exact hv_size _ | exact one_bv _ | exact entv_size _ | exact entc_one _ | exact rpv_size _ _ _ _ | exact spv_size _ _ _ _ | exact spc_one _ _ _ _ rfl rfl rfl | exact rp_one _ _ _ _ rfl rfl rfl | (simp; done))
    refine aOps_0 rfl rfl rfl ?_
    refine AOp.storeAll (b := ?b11) rfl rfl rfl ?hn11 ?hk11 rfl ?hw11 ?ho11 ?hl11 ?hR11
    (case hn11 => exact hpB)
    (case hk11 => rfl)
    (case hw11 => first | rfl | exact hv_size _ | exact one_bv _ | exact entv_size _ | exact entc_one _ | exact rpv_size _ _ _ _ | exact spv_size _ _ _ _ | exact spc_one _ _ _ _ rfl rfl rfl | exact rp_one _ _ _ _ rfl rfl rfl | (simp; done))
    (case ho11 => first | rfl | exact hv_size _ | exact one_bv _ | exact entv_size _ | exact entc_one _ | exact rpv_size _ _ _ _ | exact spv_size _ _ _ _ | exact spc_one _ _ _ _ rfl rfl rfl | exact rp_one _ _ _ _ rfl rfl rfl | decide | (simp; done))
    (case hl11 => first | rfl | exact hv_size _ | exact one_bv _ | exact entv_size _ | exact entc_one _ | exact rpv_size _ _ _ _ | exact spv_size _ _ _ _ | exact spc_one _ _ _ _ rfl rfl rfl | exact rp_one _ _ _ _ rfl rfl rfl | (simp; done))
    refine Nz ?_
    refine Nz ?_
    refine Ez ?_
    refine ACode.ret ?_
    try simp only [thenA, blockA, if_true]
    have et : takeRp bs = (rpOf R, 0, 0) := by unfold takeRp; rw [← hRR, h8]; exact if_neg (fun x => x c5)
    rw [et]
    have hSZ : Ab.Sub H (upd HL1 k (some (rpblk (rpOf R) (.slice (some ⟨kh, 0, some 1⟩) (rp6 R).1.length (rp6 R).1.length) (.slice As (rp3 R).1.length cs9) (.slice (some ⟨kj, 0, some 1⟩) (rpI8 R (i1)).1.length (rpI8 R (i1)).1.length)))) := sub_new hSi hHk
    have ebk : (rpOf R).blocks = (rpI8 R (i1)).1 := congrArg Prod.fst h8
    exact RetQ.cell2 rfl rfl (aloadAll (b := rpblk (rpOf R) (.slice (some ⟨kh, 0, some 1⟩) (rp6 R).1.length (rp6 R).1.length) (.slice As (rp3 R).1.length cs9) (.slice (some ⟨kj, 0, some 1⟩) (rpI8 R (i1)).1.length (rpI8 R (i1)).1.length)) (v := rpv (rpOf R) (.slice (some ⟨kh, 0, some 1⟩) (rp6 R).1.length (rp6 R).1.length) (.slice As (rp3 R).1.length cs9) (.slice (some ⟨kj, 0, some 1⟩) (rpI8 R (i1)).1.length (rpI8 R (i1)).1.length)) (upd_same _ _ _) rfl rfl (rpv_size _ _ _ _)) rfl rfl (sub_refl _) (fun m b h => ⟨b, hSZ m b h⟩) (fun hk => ⟨_, rfl, by unfold RpV; rw [ebk]; exact ⟨_, _, _, _, _, _, g1.2, rfl, SLC.dwb (Uz hWi), hsch.sub (sub_new hTi hZ0), SLC.swb (Uz hVi) hpl, (hPi.sub (sub_eq (cutH_upd Wz).symm)).sub cutH_sub⟩, by omega, (fun m hm => Uz (hfL1 m Wz)), hSZ⟩)
end

end Go.Proofs.YteoofihjmldllaaGreatDoor
