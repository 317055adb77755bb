/- Contracts over the abstract states: sizes of replies; ReplyPuts. -/
import Derived.Test.YteoofihjmldllaaGreatDoorR48
import Derived.Test.YteoofihjmldllaaGreatDoorR49
import Derived.Test.YteoofihjmldllaaGreatDoorR51
import Derived.Test.YteoofihjmldllaaGreatDoorR40
set_option linter.unusedVariables false
set_option linter.unusedSimpArgs false
set_option maxRecDepth 100000
namespace Go.Proofs.YteoofihjmldllaaGreatDoor
open Go Go.Ab

theorem putRp_no {r : Rp} (h : formedR soundR r = false) : putRp r = ([], 4) := if_neg (by rw [h]; decide)
theorem putRp_yes {r : Rp} (h : formedR soundR r = true) : putRp r = (rpB r, 0) := if_pos h
theorem rpB_len {r : Rp} (ho : r.ok) (hs : r.sm) (hf : r.fit) : (rpB r).length ≤ 1000000000 := by
 have p1 := (parts r ho hs hf).n
 have p2 := (parts r ho hs hf).d r.path.length
 have p3 := (parts r ho hs hf).b r.blocks.length
 rw [List.take_length] at p2 p3
 unfold rpB
 simp only [List.length_append]
 omega
section
variable (H : Hp) (k : Nat)

theorem sizeN (r : Rp) (hok : r.ok) (hsm : r.sm) (v : Value) (hv : RpV H r v) : ACalls Tryz.prog 2 9 [v] H k (Same H k (.int .i64 ((putRp r).1.length : Nat))) := by
 obtain ⟨xA, xa, xB, xb, xC, xc, xs, rfl, x1, x2, x3, x4⟩ := hv
 refine ACalls.fresh fun hf => ?_
 refine ACalls.body Tryz.func9 rfl (Nat.le_of_ble_eq_true rfl) ?_
 refine Sz ?_
 refine Rz [0, 1] Kz rfl ?_
 refine Oz rfl rfl rfl (AOp.boxV rfl rfl ?_)
 refine Nz ?_
 refine Ez (Sz (Rz [0, 1, 2, 3, 4, 5, 6] Kz rfl ?_))
 refine Oz rfl rfl rfl ?_
 refine AOp.loadAll (b := ?b1) (v := rpv r (.slice xA r.path.length xa) (.slice xB r.sch.length xb) (.slice xC r.blocks.length xc)) rfl rfl ?hn1 ?hv1 ?hw1 ?hz1 ?hR1
 (case hn1 => exact hpB)
 (case hv1 => rfl)
 (case hw1 => rfl)
 (case hz1 => first | rfl | exact hv_size _ | exact one_bv _ | exact rpv_size _ _ _ _ | exact spv_size _ _ _ _ | exact spc_one _ _ _ _ rfl rfl rfl | (simp; done))
 refine Oz rfl rfl rfl ?_
 refine AOp.call' rfl rfl rfl (putN _ _ r hok hsm _ (RpV.sub ⟨xA, xa, xB, xb, xC, xc, xs, rfl, x1, x2, x3, x4⟩ subB)) ?_
 rintro _ HLp kp ⟨wp, rfl, ⟨Ap, cp_, rfl, hwp, hwap⟩, hkp, hfLp, hsLp⟩
 have thsLp := SubS.of hsLp
 refine Mz ?_
 refine Oz rfl rfl rfl (AOp.extract' rfl rfl rfl ?_)
 refine Oz rfl rfl rfl (AOp.extract' rfl rfl rfl ?_)
 refine Nz ?_
 refine Nz ?_
 refine Ez (Sz (Rz [0, 1, 2] Kz rfl ?_))
 refine Mz ?_
 refine Oz rfl rfl rfl (AOp.len' rfl rfl ?_)
 refine Nz ?_
 refine Ez ?_
 refine ACode.ret ?_
 exact RetQ.one rfl rfl subB stays (fun hk => ⟨rfl, rfl, by omega⟩)

set_option maxHeartbeats 1000000 in
theorem replyPuts (h2 : H 0 = some hBlk) (r : Rp) (hok : r.ok) (hlim : ∀ x ∈ r.blocks, x.lim) (v : Value) (hv : RpE H r v) : ACalls Tryz.prog 2 3 [v] H k (fun v _ _ => v = .bool true) := by
 have hvV := hv.rpv_
 obtain ⟨xA, xa, xB, xb, xC, xc, xs, rfl, x1, x2, x3, x4⟩ := hv
 refine ACalls.fresh fun hf => ?_
 refine ACalls.body Tryz.func3 rfl (Nat.le_of_ble_eq_true rfl) ?_
 have h2k := old_lt hf h2
 refine Sz ?_
 refine Rz [0, 1] Kz rfl ?_
 refine Oz rfl rfl rfl (AOp.boxV rfl rfl ?_)
 refine Nz ?_
 refine Ez ?_
 refine Sz ?_
 refine Sz ?_
 refine Rz [0, 1] Kz rfl ?_
 refine Oz rfl rfl rfl ?_
 refine AOp.loadAll (b := ?b2) (v := rpv r (.slice xA r.path.length xa) (.slice xB r.sch.length xb) (.slice xC r.blocks.length xc)) rfl rfl ?hn2 ?hv2 ?hw2 ?hz2 ?hR2
 (case hn2 => exact hpB)
 (case hv2 => rfl)
 (case hw2 => rfl)
 (case hz2 => first | rfl | exact hv_size _ | exact one_bv _ | exact rpv_size _ _ _ _ | exact spv_size _ _ _ _ | exact spc_one _ _ _ _ rfl rfl rfl | (simp; done))
 refine aOps_q rfl rfl rfl (AOp.call' rfl rfl rfl (great29 _ _ r hok hlim _ (hvV.sub subB)) Iz) (fun kq hkq => ?_)
 refine Ez ?_
 refine ACode.cond rfl (fun c0 => ?_) (fun c0 => ?_)
 ·skip
  refine Sz ?_
  refine Rz [0, 1] Kz rfl ?_
  refine aOps_q rfl rfl rfl (AOp.call' rfl rfl rfl (awake29 _ _ hpB) Iz) (fun kq hkq => ?_)
  refine Nz ?_
  refine Ez ?_
  refine ACode.ret ?_
  try simp only [thenA, blockA, if_true]
  exact RetQ.one rfl rfl subB stays (fun hk => rfl)
 ·skip
  have hsm := great_sm (r := r) c0
  refine ACode.skip ?_
  refine Sz ?_
  refine Rz [0, 1, 2, 3, 4, 5, 6] Kz rfl ?_
  refine Oz rfl rfl rfl ?_
  refine AOp.loadAll (b := ?b3) (v := rpv r (.slice xA r.path.length xa) (.slice xB r.sch.length xb) (.slice xC r.blocks.length xc)) rfl rfl ?hn3 ?hv3 ?hw3 ?hz3 ?hR3
  (case hn3 => exact hpB)
  (case hv3 => rfl)
  (case hw3 => rfl)
  (case hz3 => first | rfl | exact hv_size _ | exact one_bv _ | exact rpv_size _ _ _ _ | exact spv_size _ _ _ _ | exact spc_one _ _ _ _ rfl rfl rfl | (simp; done))
  refine Oz rfl rfl rfl ?_
  refine AOp.call' rfl rfl rfl (putN _ _ r hok hsm _ (hvV.sub subB)) ?_
  rintro _ HLp kp ⟨wp, rfl, ⟨Ap, cp_, rfl, hwp, hwap⟩, hkp, hfLp, hsLp⟩
  have thsLp := SubS.of hsLp
  refine Mz ?_
  refine Oz rfl rfl rfl (AOp.extract' rfl rfl rfl ?_)
  refine Oz rfl rfl rfl (AOp.extract' rfl rfl rfl ?_)
  refine Nz ?_
  refine Nz ?_
  refine Ez ?_
  refine Sz ?_
  refine Sz ?_
  refine Rz [0, 1, 2] Kz rfl ?_
  refine Oz rfl rfl rfl ?_
  refine AOp.loadAll (b := ?b4) (v := rpv r (.slice xA r.path.length xa) (.slice xB r.sch.length xb) (.slice xC r.blocks.length xc)) rfl rfl ?hn4 ?hv4 ?hw4 ?hz4 ?hR4
  (case hn4 => exact hpB)
  (case hv4 => rfl)
  (case hw4 => rfl)
  (case hz4 => first | rfl | exact hv_size _ | exact one_bv _ | exact rpv_size _ _ _ _ | exact spv_size _ _ _ _ | exact spc_one _ _ _ _ rfl rfl rfl | (simp; done))
  refine aOps_q rfl rfl rfl (AOp.call' rfl rfl rfl (formedR_b _ _ r hok (ok_cols hsm).1 (ok_cols hsm).2 _ (hvV.sub subB)) Iz) (fun kq hkq => ?_)
  refine Oz rfl rfl rfl (AOp.un' rfl rfl rfl ?_)
  refine Ez ?_
  refine ACode.cond rfl (fun c1 => ?_) (fun c1 => ?_)
  ·skip
   have hno : formedR soundR r = false := by simpa using c1
   have e1 := putRp_no hno
   refine Sz ?_
   refine Rz [0, 1, 2, 3, 4, 5, 6, 7, 8, 9, 10, 11, 12, 13, 14, 15] Kz rfl ?_
   refine Mz ?_
   refine Oz rfl rfl rfl (AOp.bin' rfl rfl rfl rfl ?_)
   refine Mz ?_
   refine aOps_gd0 rfl rfl (wantT rfl rfl rfl) (fun hc => AOp.slots [(3, _)] (.cons rfl .nil) (AOp.move' (.inl rfl) rfl Tz)) ?_
   refine aOps_gd0 rfl rfl (wantT rfl rfl rfl) (fun hc => AOp.slots [(20, _)] (.cons (gvT rfl hc) .nil) (AOp.len' rfl rfl Tz)) ?_
   refine aOps_gd0 rfl rfl (wantT rfl rfl rfl) (fun hc => AOp.slots [(21, _)] (.cons (gvT rfl hc) .nil) (AOp.bin' rfl rfl rfl rfl Tz)) ?_
   refine Oz rfl rfl rfl (AOp.pickAnd rfl rfl rfl (fun hb => gvE rfl hb) ?_)
   refine Mz ?_
   refine aOps_gd0 rfl rfl (wantT rfl rfl rfl) (fun hc => AOp.slots [(1, _)] (.cons rfl .nil) ((by refine AOp.loadAll (b := ?b5) (v := rpv r (.slice xA r.path.length xa) (.slice xB r.sch.length xb) (.slice xC r.blocks.length xc)) rfl rfl ?hn5 ?hv5 ?hw5 ?hz5 ?hR5; (case hn5 => exact hpB); (case hv5 => rfl); (case hw5 => rfl); (case hz5 => first | rfl | exact hv_size _ | exact one_bv _ | exact rpv_size _ _ _ _ | exact spv_size _ _ _ _ | exact spc_one _ _ _ _ rfl rfl rfl | (simp; done)); exact Tz))) ?_
   refine aOps_gd rfl rfl (wantT rfl rfl rfl) (fun hc => AOp.slots [(25, _)] (.cons (gvT rfl hc) .nil) (AOp.call' rfl rfl rfl (sizeN _ _ r hok hsm _ (hvV.sub subB)) Iz)) (fun kq hkq => ?_)
   refine aOps_gd0 rfl rfl (wantT rfl rfl rfl) (fun hc => AOp.slots [(26, _)] (.cons (gvT rfl hc) .nil) (AOp.bin' rfl rfl rfl rfl Tz)) ?_
   refine Oz rfl rfl rfl (AOp.pickAnd rfl rfl rfl (fun hb => gvE rfl hb) ?_)
   refine Mz ?_
   refine aOps_gd rfl rfl (wantT rfl rfl rfl) (fun hc => AOp.slots [] .nil (AOp.call' rfl rfl rfl (awake29 _ _ hpB) Iz)) (fun kq hkq => ?_)
   refine Oz rfl rfl rfl (AOp.pickAnd rfl rfl rfl (fun hb => gvE rfl hb) ?_)
   refine Nz ?_
   refine Ez ?_
   refine ACode.ret ?_
   try simp only [thenA, blockA, if_true]
   exact RetQ.one rfl rfl subB stays (fun hk => by simp [e1])
  ·skip
   have hyes : formedR soundR r = true := by simpa using c1
   have e1 := putRp_yes hyes
   have hft := (formed_fit hyes).1
   have hbl := rpB_len hok hsm hft
   have hwr := hwp
   rw [e1] at hwr
   have hvE : RpE H r (rpv r (.slice xA r.path.length xa) (.slice xB r.sch.length xb) (.slice xC r.blocks.length xc)) := ⟨xA, xa, xB, xb, xC, xc, xs, rfl, x1, x2, x3, x4⟩
   have hlr : (putRp r).1.length = (rpB r).length := by rw [e1]
   refine ACode.skip ?_
   refine Sz ?_
   refine Rz [0, 1, 2] Kz rfl ?_
   refine Oz rfl rfl rfl ?_
   refine AOp.loadAll (b := ?b6) (v := rpv r (.slice xA r.path.length xa) (.slice xB r.sch.length xb) (.slice xC r.blocks.length xc)) rfl rfl ?hn6 ?hv6 ?hw6 ?hz6 ?hR6
   (case hn6 => exact hpB)
   (case hv6 => rfl)
   (case hw6 => rfl)
   (case hz6 => first | rfl | exact hv_size _ | exact one_bv _ | exact rpv_size _ _ _ _ | exact spv_size _ _ _ _ | exact spc_one _ _ _ _ rfl rfl rfl | (simp; done))
   refine Oz rfl rfl rfl ?_
   refine AOp.call' rfl rfl rfl (putF _ _ r hok hsm hft _ (hvE.sub subB)) ?_
   rintro _ _ kq ⟨q, hq1, hq2, rfl, rfl⟩
   refine Nz ?_
   refine Ez (Sz (Rz [0, 1, 2, 3, 4, 5, 6, 7, 8, 9, 10, 11, 12, 13, 14, 15, 16, 17] Kz rfl ?_))
   refine Mz ?_
   refine Oz rfl rfl rfl (AOp.bin' rfl rfl rfl rfl ?_)
   refine Mz ?_
   refine aOps_gd0 rfl rfl (wantT rfl rfl rfl) (fun hc => AOp.slots [(3, _)] (.cons rfl .nil) (AOp.move' (.inl rfl) rfl Tz)) ?_
   refine aOps_gd0 rfl rfl (wantT rfl rfl rfl) (fun hc => AOp.slots [(5, _)] (.cons rfl .nil) (AOp.move' (.inl rfl) rfl Tz)) ?_
   refine aOps_gd rfl rfl (wantT rfl rfl rfl) (fun hc => AOp.slots [(37, _), (38, _)] (.cons (gvT rfl hc) (.cons (gvT rfl hc) .nil)) (AOp.call' rfl rfl rfl (same_b 2 _ _ (putRp r).1 (rpB r) _ _ _ _ (hwp.sub subB) (SLC.gb (e := 5) hpB) (by rw [hlr]; omega)) Iz)) (fun kq hkq => ?_)
   refine Oz rfl rfl rfl (AOp.pickAnd rfl rfl rfl (fun hb => gvE rfl hb) ?_)
   refine Mz ?_
   refine aOps_gd0 rfl rfl (wantT rfl rfl rfl) (fun hc => AOp.slots [(1, _)] (.cons rfl .nil) ((by refine AOp.loadAll (b := ?b7) (v := rpv r (.slice xA r.path.length xa) (.slice xB r.sch.length xb) (.slice xC r.blocks.length xc)) rfl rfl ?hn7 ?hv7 ?hw7 ?hz7 ?hR7; (case hn7 => exact hpB); (case hv7 => rfl); (case hw7 => rfl); (case hz7 => first | rfl | exact hv_size _ | exact one_bv _ | exact rpv_size _ _ _ _ | exact spv_size _ _ _ _ | exact spc_one _ _ _ _ rfl rfl rfl | (simp; done)); exact Tz))) ?_
   refine aOps_gd rfl rfl (wantT rfl rfl rfl) (fun hc => AOp.slots [(42, _)] (.cons (gvT rfl hc) .nil) (AOp.call' rfl rfl rfl (sizeN _ _ r hok hsm _ (hvV.sub subB)) Iz)) (fun kq hkq => ?_)
   refine aOps_gd0 rfl rfl (wantT rfl rfl rfl) (fun hc => AOp.slots [(5, _)] (.cons rfl .nil) (AOp.move' (.inl rfl) rfl Tz)) ?_
   refine aOps_gd0 rfl rfl (wantT rfl rfl rfl) (fun hc => AOp.slots [(44, _)] (.cons (gvT rfl hc) .nil) (AOp.len' rfl rfl Tz)) ?_
   refine aOps_gd0 rfl rfl (wantT rfl rfl rfl) (fun hc => AOp.slots [(43, _), (45, _)] (.cons (gvT rfl hc) (.cons (gvT rfl hc) .nil)) (AOp.bin' rfl rfl rfl rfl Tz)) ?_
   refine Oz rfl rfl rfl (AOp.pickAnd rfl rfl rfl (fun hb => gvE rfl hb) ?_)
   refine Mz ?_
   refine aOps_gd rfl rfl (wantT rfl rfl rfl) (fun hc => AOp.slots [] .nil (AOp.call' rfl rfl rfl (awake29 _ _ hpB) Iz)) (fun kq hkq => ?_)
   refine Oz rfl rfl rfl (AOp.pickAnd rfl rfl rfl (fun hb => gvE rfl hb) ?_)
   refine Nz ?_
   refine Ez ?_
   refine ACode.ret ?_
   try simp only [thenA, blockA, if_true]
   exact RetQ.one rfl rfl subB stays (fun hk => by simp [e1])
end

end Go.Proofs.YteoofihjmldllaaGreatDoor
