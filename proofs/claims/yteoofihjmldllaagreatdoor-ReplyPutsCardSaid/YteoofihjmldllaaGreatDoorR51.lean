/- Contracts over the abstract states: forms of replies, by the reference. -/
import Derived.Test.YteoofihjmldllaaGreatDoorRPf
set_option linter.unusedVariables false
set_option linter.unusedSimpArgs false
set_option maxRecDepth 100000
namespace Go.Proofs.YteoofihjmldllaaGreatDoor
open Go Go.Ab

section
variable (H : Hp) (k : Nat)

set_option maxHeartbeats 2000000 in
theorem putF (r : Rp) (hok : r.ok) (hsm : r.sm) (hft : r.fit) (v : Value) (hv : RpE H r v) : ACalls Tryz.prog 2 10 [v] H k (NewB H k 5 (rpB r)) := by
 obtain ⟨xA, xa, xB, xb, xC, xc, xs, rfl, x1, x2, x3, x4⟩ := hv
 have hbl := hok.bl
 have hsl := hsm.sl
 have hpl := hsm.pl
 have hbl6 := hsm.bl
 have hP := parts r hok hsm hft
 obtain ⟨a, ha, ha6⟩ : ∃ a : Nat, r.size = a ∧ a < 18446744073709551616 := ⟨r.size.toNat, by have := hft.s0; omega, by have := hft.s1; have := hft.s0; omega⟩
 have ha2 : r.size.toNat = a := by rw [ha]; rfl
 refine ACalls.fresh fun hf => ?_
 refine ACalls.body Tryz.func10 rfl (Nat.le_of_ble_eq_true rfl) ?_
 refine Sz ?_
 refine Rz [0, 1] Kz rfl ?_
 refine Oz rfl rfl rfl (AOp.boxV rfl rfl ?_)
 refine Nz ?_
 refine Ez ?_
 refine Sz ?_
 refine ACode.any mixed Kz ?_
 refine AnyA.float (Hq := (upd (fun _ => none) k (some (rpblk r (.slice xA r.path.length xa) (.slice xB r.sch.length xb) (.slice xC r.blocks.length xc))))) [(0, 9), (1, 10), (2, 11), (4, 13), (5, 14)] [3, 6, 7, 8] Kz (Nat.le_of_ble_eq_true rfl) Kz subB ?_
 refine DrawF.q 0 9 [(1, none)] rfl Kz rfl (fun Hc kq hSb => AOp.fieldAddr' rfl Dz rfl Tz) ?_
 refine DrawF.q 1 10 [(9, some 0)] rfl Kz rfl (fun Hc kq hSb => have tSb := SubS.of hSb; AOp.load1 (b := (rpblk r (.slice xA r.path.length xa) (.slice xB r.sch.length xb) (.slice xC r.blocks.length xc))) (v := .int .i64 r.size) rfl rfl hpB rfl Tz) ?_
 rw [ha]
 refine DrawF.q 2 11 [(10, some 1)] rfl Kz rfl (fun Hc kq hSb => AOp.convU64 (a := a) rfl rfl ha6 Tz) ?_
 refine DrawF.q 4 13 [(1, none)] rfl Kz rfl (fun Hc kq hSb => AOp.fieldAddr' rfl Dz rfl Tz) ?_
 refine DrawF.q 5 14 [(13, some 4)] rfl Kz rfl (fun Hc kq hSb => have tSb := SubS.of hSb; AOp.loadN (b := (rpblk r (.slice xA r.path.length xa) (.slice xB r.sch.length xb) (.slice xC r.blocks.length xc))) (cs := r.root.l.map bv) rfl rfl hpB (by show 1 + 32 ≤ (rpc _ _ _ _).length; rw [rpc_len]; decide) (rpc_root _ _ _ _) Tz) ?_
 refine DrawF.done ?_
 show aOpsF _ _ _ _ _ _ [3, 6, 7, 8] ⟨_, _, _⟩
 refine aOpsF_1 [11] rfl rfl Kz rfl ?_
 refine AOp.call' rfl rfl rfl (refVar 2 a ha6 _ _) ?_
 rintro _ _ kq ⟨q, hq1, hq2, rfl, rfl⟩
 refine ⟨by exact subB, ?_⟩
 refine aOpsF_1 [14] rfl rfl Kz rfl ?_
 refine AOp.call' rfl rfl rfl (bytesOf9 _ _ r.root) ?_
 rintro _ _ kp ⟨p, hp1, hp2, rfl, rfl⟩
 refine ⟨by exact subB, ?_⟩
 refine aOpsF_1 [12, 15] rfl rfl Kz rfl (AOp.appendB (bs := varB a) (ps := r.root.l) rfl rfl rfl hpB (srcOf_gb (e := 5) hpB) srcOk_sl (by have p1 := hP.n; simp only [ha2, List.length_append, List.length_cons, List.length_nil] at p1 ⊢; omega) (by have p1 := hP.n; simp only [ha2, List.length_append, List.length_cons, List.length_nil] at p1 ⊢; omega) ?_)
 refine ⟨by exact subB, ?_⟩
 refine aOpsF_1 [16] rfl rfl Kz rfl (AOp.move' (.inr rfl) rfl ?_)
 refine ⟨by exact subB, ?_⟩
 refine aOpsF_end ?_
 refine Sz ?_
 refine Rz [0, 1, 2, 3, 4, 5] Kz rfl ?_
 refine Mz ?_
 refine Fz ?_
 refine Oz rfl rfl rfl (AOp.load1 (b := (rpblk r (.slice xA r.path.length xa) (.slice xB r.sch.length xb) (.slice xC r.blocks.length xc))) (v := .slice xB r.sch.length xb) rfl rfl hpB (rpc_at _ _ _ _).2.1 ?_)
 refine Oz rfl rfl rfl ?_
 refine AOp.call' rfl rfl rfl (refPutSchema_b 2 _ _ r.sch xB xb (x2.sub subB) Wz) ?_
 rintro _ _ ks ⟨s, hs1, hs2, rfl, rfl⟩
 refine Oz rfl rfl rfl (AOp.appendB (bs := (varB a ++ r.root.l)) (ps := schB r.sch) rfl rfl rfl hpB (srcOf_gb (e := 5) hpB) srcOk_sl (by have p1 := hP.n; simp only [ha2, List.length_append, List.length_cons, List.length_nil] at p1 ⊢; omega) (by have p1 := hP.n; simp only [ha2, List.length_append, List.length_cons, List.length_nil] at p1 ⊢; omega) ?_)
 refine Nz ?_
 refine Ez (Sz (Rz [0, 1, 2, 3, 4, 5] Kz rfl ?_))
 refine Mz ?_
 refine Fz ?_
 refine Oz rfl rfl rfl (AOp.loadN (b := (rpblk r (.slice xA r.path.length xa) (.slice xB r.sch.length xb) (.slice xC r.blocks.length xc))) (cs := entc r.ent) rfl rfl hpB (by show 33 + 65 ≤ (rpc _ _ _ _).length; rw [rpc_len]; decide) (rpc_ent _ _ _ _) ?_)
 refine Oz rfl rfl rfl ?_
 refine AOp.call' rfl rfl rfl (refput_e _ _ r.ent hft.e) ?_
 rintro _ _ kt ⟨t, ht1, ht2, rfl, rfl⟩
 refine Oz rfl rfl rfl (AOp.appendB (bs := ((varB a ++ r.root.l) ++ schB r.sch)) (ps := formB r.ent) rfl rfl rfl hpB (srcOf_gb (e := 5) hpB) srcOk_sl (by have p1 := hP.n; simp only [ha2, List.length_append, List.length_cons, List.length_nil] at p1 ⊢; omega) (by have p1 := hP.n; simp only [ha2, List.length_append, List.length_cons, List.length_nil] at p1 ⊢; omega) ?_)
 refine Nz ?_
 refine Ez (Sz (Rz [0, 1, 2, 3, 4, 5, 6, 7] Kz rfl ?_))
 refine Mz ?_
 refine Fz ?_
 refine Oz rfl rfl rfl (AOp.load1 (b := (rpblk r (.slice xA r.path.length xa) (.slice xB r.sch.length xb) (.slice xC r.blocks.length xc))) (v := .slice xA r.path.length xa) rfl rfl hpB (rpc_at _ _ _ _).1 ?_)
 refine Oz rfl rfl rfl (AOp.len' rfl rfl ?_)
 refine Oz rfl rfl rfl (AOp.convU64 (a := r.path.length) rfl rfl Wz ?_)
 refine Oz rfl rfl rfl ?_
 refine AOp.call' rfl rfl rfl (refVar 2 r.path.length Wz _ _) ?_
 rintro _ _ ku ⟨u, hu1, hu2, rfl, rfl⟩
 refine Oz rfl rfl rfl (AOp.appendB (bs := (((varB a ++ r.root.l) ++ schB r.sch) ++ formB r.ent)) (ps := varB r.path.length) rfl rfl rfl hpB (srcOf_gb (e := 5) hpB) srcOk_sl (by have p1 := hP.n; simp only [ha2, List.length_append, List.length_cons, List.length_nil] at p1 ⊢; omega) (by have p1 := hP.n; simp only [ha2, List.length_append, List.length_cons, List.length_nil] at p1 ⊢; omega) ?_)
 refine Nz ?_
 refine Ez ?_
 refine Sz ?_
 refine Sz ?_
 refine Rz [0] Kz rfl ?_
 refine Nz ?_
 refine Ez ?_
 refine ACode.block ?_
 refine ACode.count (fun i => [(4, .int .i64 (i : Int)), (3, sl q (((((varB a ++ r.root.l) ++ schB r.sch) ++ formB r.ent) ++ varB r.path.length) ++ dsB (r.path.take i)).length)]) [(1, _), (2, _)] (fun i => upd (upd H k (some (rpblk r (.slice xA r.path.length xa) (.slice xB r.sch.length xb) (.slice xC r.blocks.length xc)))) q (some (gb (((((varB a ++ r.root.l) ++ schB r.sch) ++ formB r.ent) ++ varB r.path.length) ++ dsB (r.path.take i))))) (r.path.length) (fun _ => True) (.cons rfl (.cons (show _ = some (sl q _) by rw [show dsB (r.path.take 0) = [] from rfl, List.append_nil]; rfl) .nil)) (.cons rfl (.cons rfl .nil)) (by rw [show dsB (r.path.take 0) = [] from rfl, List.append_nil]; exact subB) trivial (fun i0 kL0 HL0 hiL0 hkL0 hsL0 hfL0 hxL0 => ?_)
 show ACode _ _ _ _ _ ⟨_, _, _⟩
 have tsL0 := SubS.of hsL0
 refine Sz ?_
 refine Sz ?_
 refine Rz [0, 1, 2, 3, 4] Kz rfl ?_
 refine Mz ?_
 refine Fz ?_
 refine Oz rfl rfl rfl (AOp.load1 (b := (rpblk r (.slice xA r.path.length xa) (.slice xB r.sch.length xb) (.slice xC r.blocks.length xc))) (v := .slice xA r.path.length xa) rfl rfl hpB (rpc_at _ _ _ _).1 ?_)
 refine Oz rfl rfl rfl (AOp.len' rfl rfl ?_)
 refine Oz rfl rfl rfl (AOp.bin' rfl rfl rfl rfl ?_)
 refine Ez ?_
 refine ACode.cond rfl (fun c0 => ?_) (fun c0 => ?_)
 ·try simp only [Cz] at c0
  refine ACode.skip ?_
  refine Sz ?_
  refine ACode.block ?_
  obtain ⟨n8_4, o8_4, s8_4, hq8_4, hp8_4⟩ := SLC.elH (i := i0) (SLC.sub x1 subB) zeroD Wz
  refine Rz [0, 1, 2, 3, 4, 5, 6, 7, 8] Kz rfl ?_
  refine Mz ?_
  refine Fz ?_
  refine Oz rfl rfl rfl (AOp.load1 (b := (rpblk r (.slice xA r.path.length xa) (.slice xB r.sch.length xb) (.slice xC r.blocks.length xc))) (v := .slice xA r.path.length xa) rfl rfl hpB (rpc_at _ _ _ _).1 ?_)
  refine Mz ?_
  refine Oz rfl rfl rfl (AOp.indexP (aslcAt_sub subB hq8_4) rfl rfl rfl ?_)
  refine Oz rfl rfl rfl (AOp.loadPA (v := hv (r.path.getD i0 zeroD)) (hp8_4.sub subB) rfl rfl rfl rfl (hcs_one _) Dz ?_)
  refine Oz rfl rfl rfl ?_
  refine AOp.call' rfl rfl rfl (bytesOf9 _ _ (r.path.getD i0 zeroD)) ?_
  rintro _ _ kw ⟨w, hw1, hw2, rfl, rfl⟩
  refine Oz rfl rfl rfl (AOp.appendB (bs := (((((varB a ++ r.root.l) ++ schB r.sch) ++ formB r.ent) ++ varB r.path.length) ++ dsB (r.path.take i0))) (ps := (r.path.getD i0 zeroD).l) rfl rfl rfl hpB (srcOf_gb (e := 5) hpB) srcOk_sl (by have p1 := hP.n; have p2 := hP.d i0; have p7 := (r.path.getD i0 zeroD).h; simp only [ha2, List.length_append, List.length_cons, List.length_nil] at p1 p2 ⊢; omega) (by have p1 := hP.n; have p2 := hP.d i0; have p7 := (r.path.getD i0 zeroD).h; simp only [ha2, List.length_append, List.length_cons, List.length_nil] at p1 p2 ⊢; omega) ?_)
  refine Nz ?_
  refine Ez ?_
  refine Rz [0, 1, 2] Kz rfl ?_
  refine Mz ?_
  refine Oz rfl rfl rfl (AOp.add rfl rfl rfl (i64_wrap Wz Wz) ?_)
  refine Nz ?_
  refine Ez ?_
  have e4 : (((((varB a ++ r.root.l) ++ schB r.sch) ++ formB r.ent) ++ varB r.path.length) ++ dsB (r.path.take i0)) ++ (r.path.getD i0 zeroD).l = (((((varB a ++ r.root.l) ++ schB r.sch) ++ formB r.ent) ++ varB r.path.length) ++ dsB (r.path.take (i0 + 1))) := by rw [dsB_next (show i0 < r.path.length by omega)]; simp [List.append_assoc]
  first | refine thenA_n ?_ | simp only [thenA, blockA, if_true]
  exact NextR.mk Wz Wz (.cons rfl (.cons (show _ = some (sl q _) by rw [← e4]; first | rfl | (simp only [List.length_append, (r.path.getD i0 zeroD).h]; rfl)) .nil)) (.cons rfl (.cons rfl .nil)) (by rw [← e4]; exact subB) trivial
 ·try simp only [Cz] at c0
  have hin : i0 = r.path.length := by omega
  subst hin
  refine ACode.exit ?_
  refine Sz ?_
  refine Rz [0, 1, 2, 3, 4, 5, 6, 7] Kz rfl ?_
  refine Mz ?_
  refine Fz ?_
  refine Oz rfl rfl rfl (AOp.load1 (b := (rpblk r (.slice xA r.path.length xa) (.slice xB r.sch.length xb) (.slice xC r.blocks.length xc))) (v := .slice xC r.blocks.length xc) rfl rfl hpB (rpc_at _ _ _ _).2.2 ?_)
  refine Oz rfl rfl rfl (AOp.len' rfl rfl ?_)
  refine Oz rfl rfl rfl (AOp.convU64 (a := r.blocks.length) rfl rfl Wz ?_)
  refine Oz rfl rfl rfl ?_
  refine AOp.call' rfl rfl rfl (refVar 2 r.blocks.length Wz _ _) ?_
  rintro _ _ kx ⟨x, hx1, hx2, rfl, rfl⟩
  refine Oz rfl rfl rfl (AOp.appendB (bs := (((((varB a ++ r.root.l) ++ schB r.sch) ++ formB r.ent) ++ varB r.path.length) ++ dsB (r.path.take r.path.length))) (ps := varB r.blocks.length) rfl rfl rfl hpB (srcOf_gb (e := 5) hpB) srcOk_sl (by have p1 := hP.n; have p2 := hP.d r.path.length; simp only [ha2, List.length_append, List.length_cons, List.length_nil] at p1 p2 ⊢; omega) (by have p1 := hP.n; have p2 := hP.d r.path.length; simp only [ha2, List.length_append, List.length_cons, List.length_nil] at p1 p2 ⊢; omega) ?_)
  refine Nz ?_
  refine Ez ?_
  refine Sz ?_
  refine Sz ?_
  refine Rz [0] Kz rfl ?_
  refine Nz ?_
  refine Ez ?_
  refine ACode.block ?_
  refine ACode.count (fun i => [(5, .int .i64 (i : Int)), (3, sl q (((((((varB a ++ r.root.l) ++ schB r.sch) ++ formB r.ent) ++ varB r.path.length) ++ dsB (r.path.take r.path.length)) ++ varB r.blocks.length) ++ bsB (r.blocks.take i)).length)]) [(1, _), (2, _), (4, _), (34, _), (35, _), (36, _), (37, _), (38, _), (49, _), (50, _), (51, _), (52, _), (53, _), (54, _), (55, _)] (fun i => upd (upd H k (some (rpblk r (.slice xA r.path.length xa) (.slice xB r.sch.length xb) (.slice xC r.blocks.length xc)))) q (some (gb (((((((varB a ++ r.root.l) ++ schB r.sch) ++ formB r.ent) ++ varB r.path.length) ++ dsB (r.path.take r.path.length)) ++ varB r.blocks.length) ++ bsB (r.blocks.take i))))) (r.blocks.length) (fun _ => True) (.cons rfl (.cons (show _ = some (sl q _) by rw [show bsB (r.blocks.take 0) = [] from rfl, List.append_nil]; rfl) .nil)) Xz (by rw [show bsB (r.blocks.take 0) = [] from rfl, List.append_nil]; exact subB) trivial (fun i1 kL1 HL1 hiL1 hkL1 hsL1 hfL1 hxL1 => ?_)
  show ACode _ _ _ _ _ ⟨_, _, _⟩
  have tsL1 := SubS.of hsL1
  refine Sz ?_
  refine Sz ?_
  refine Rz [0, 1, 2, 3, 4] Kz rfl ?_
  refine Mz ?_
  refine Fz ?_
  refine Oz rfl rfl rfl (AOp.load1 (b := (rpblk r (.slice xA r.path.length xa) (.slice xB r.sch.length xb) (.slice xC r.blocks.length xc))) (v := .slice xC r.blocks.length xc) rfl rfl hpB (rpc_at _ _ _ _).2.2 ?_)
  refine Oz rfl rfl rfl (AOp.len' rfl rfl ?_)
  refine Oz rfl rfl rfl (AOp.bin' rfl rfl rfl rfl ?_)
  refine Ez ?_
  refine ACode.cond rfl (fun c1 => ?_) (fun c1 => ?_)
  ·try simp only [Cz] at c1
   refine ACode.skip ?_
   refine Sz ?_
   refine ACode.block ?_
   refine Sz ?_
   obtain ⟨ne, oe, pe, eA1, ec1, eA2, ec2, eA3, ec3, evs, ex, qe, le, eh1, eh2, eh3, eh4⟩ := SpsE.el (i := i1) x3 x4 Wz
   have hm : (r.blocks.getD i1 spD) ∈ r.blocks := getD_mem Wz
   have hxo := hok.b _ hm
   have hel : evs.length = (r.blocks.getD i1 spD).chunks.length := eh4.len
   have hX := partX (r.blocks.getD i1 spD) hxo (hsm.b _ hm) (hft.b _ hm)
   have hkl9 := (hsm.b _ hm).kl
   refine Rz [0, 1, 2, 3, 4, 5, 6] Kz rfl ?_
   refine Fz ?_
   refine Oz rfl rfl rfl (AOp.load1 (b := (rpblk r (.slice xA r.path.length xa) (.slice xB r.sch.length xb) (.slice xC r.blocks.length xc))) (v := .slice xC r.blocks.length xc) rfl rfl hpB (rpc_at _ _ _ _).2.2 ?_)
   refine Mz ?_
   refine Oz rfl rfl rfl (AOp.indexP (aslcAt_sub subB qe) rfl rfl rfl ?_)
   refine Oz rfl rfl rfl (AOp.loadPA (v := .agg (spc (r.blocks.getD i1 spD) (.slice eA1 (r.blocks.getD i1 spD).h.cols.length ec1) (.slice eA2 (r.blocks.getD i1 spD).dead.length ec2) (.slice eA3 evs.length ec3)).toArray) (PAt.sub le subB) rfl rfl rfl rfl (spc_len _ _ _ _) Dz ?_)
   refine Oz rfl rfl rfl (AOp.alloc' rfl ?_)
   refine aOps_0 rfl rfl rfl ?_
   refine AOp.storeAll (b := ?b1) rfl rfl rfl ?hn1 ?hk1 rfl ?hw1 ?ho1 ?hl1 ?hR1
   (case hn1 => exact hpB)
   (case hk1 => rfl)
   (case hw1 => first | rfl | exact hv_size _ | exact one_bv _ | exact rpv_size _ _ _ _ | exact spv_size _ _ _ _ | exact spc_one _ _ _ _ rfl rfl rfl | (simp; done))
   (case ho1 => first | rfl | exact hv_size _ | exact one_bv _ | exact rpv_size _ _ _ _ | exact spv_size _ _ _ _ | exact spc_one _ _ _ _ rfl rfl rfl | decide | (simp; done))
   (case hl1 => first | rfl | exact hv_size _ | exact one_bv _ | exact rpv_size _ _ _ _ | exact spv_size _ _ _ _ | exact spc_one _ _ _ _ rfl rfl rfl | (simp; done))
   rw [rd_upd2]
   refine Ez (Sz (Rz [0] Kz rfl ?_))
   refine Nz ?_
   refine Ez ?_
   refine Sz ?_
   refine Sz ?_
   refine Rz [0, 1] Kz rfl ?_
   refine Fz ?_
   refine Oz rfl rfl rfl (AOp.load1 (b := (spblk (r.blocks.getD i1 spD) (.slice eA1 (r.blocks.getD i1 spD).h.cols.length ec1) (.slice eA2 (r.blocks.getD i1 spD).dead.length ec2) (.slice eA3 evs.length ec3))) (v := .bool (r.blocks.getD i1 spD).opn) rfl rfl hpB (spc_at _ _ _ _).1 ?_)
   refine Ez ?_
   refine ACode.cond rfl (fun c2 => ?_) (fun c2 => ?_)
   ·skip
    have hop : (r.blocks.getD i1 spD).opn = true := by simpa using c2
    refine Rz [0] Kz rfl ?_
    refine Nz ?_
    refine Ez (Sz (Rz [0, 1, 2, 3, 4] Kz rfl ?_))
    refine Mz ?_
    refine Mz ?_
    refine Oz rfl rfl rfl (AOp.buildB [1] rfl Dz rfl rfl ?_)
    refine Oz rfl rfl rfl (AOp.appendB (bs := (((((((varB a ++ r.root.l) ++ schB r.sch) ++ formB r.ent) ++ varB r.path.length) ++ dsB (r.path.take r.path.length)) ++ varB r.blocks.length) ++ bsB (r.blocks.take i1))) (ps := [1]) rfl rfl rfl hpB (srcOf_gb (e := 5) hpB) srcOk_sl (by have p1 := hP.n; have p2 := hP.d r.path.length; have p3 := hP.b i1; simp only [ha2, List.length_append, List.length_cons, List.length_nil] at p1 p2 p3 ⊢; omega) (by have p1 := hP.n; have p2 := hP.d r.path.length; have p3 := hP.b i1; simp only [ha2, List.length_append, List.length_cons, List.length_nil] at p1 p2 p3 ⊢; omega) ?_)
    refine Nz ?_
    refine Ez (Sz (Rz [0, 1, 2, 3, 4, 5] Kz rfl ?_))
    refine Mz ?_
    refine Fz ?_
    refine Oz rfl rfl rfl (AOp.loadN (b := (spblk (r.blocks.getD i1 spD) (.slice eA1 (r.blocks.getD i1 spD).h.cols.length ec1) (.slice eA2 (r.blocks.getD i1 spD).dead.length ec2) (.slice eA3 evs.length ec3))) (cs := hdc (r.blocks.getD i1 spD).h (.slice eA1 (r.blocks.getD i1 spD).h.cols.length ec1)) rfl rfl hpB (by show 0 + 35 ≤ (spc _ _ _ _).length; rw [spc_len]; decide) (spc_head _ _ _ _) ?_)
    refine Oz rfl rfl rfl ?_
    refine AOp.call' rfl rfl rfl (rputH _ _ (r.blocks.getD i1 spD).h eA1 ec1 (eh1.sub subB) hxo.z (hft.b _ hm) (hsm.b _ hm).h ex) ?_
    rintro _ _ ky ⟨y, hy1, hy2, rfl, rfl⟩
    refine Oz rfl rfl rfl (AOp.appendB (bs := ((((((((varB a ++ r.root.l) ++ schB r.sch) ++ formB r.ent) ++ varB r.path.length) ++ dsB (r.path.take r.path.length)) ++ varB r.blocks.length) ++ bsB (r.blocks.take i1)) ++ [1])) (ps := hdB (r.blocks.getD i1 spD).h) rfl rfl rfl hpB (srcOf_gb (e := 5) hpB) srcOk_sl (by have p1 := hP.n; have p2 := hP.d r.path.length; have p3 := hP.b i1; have p4 := hX.n; simp only [ha2, List.length_append, List.length_cons, List.length_nil] at p1 p2 p3 p4 ⊢; omega) (by have p1 := hP.n; have p2 := hP.d r.path.length; have p3 := hP.b i1; have p4 := hX.n; simp only [ha2, List.length_append, List.length_cons, List.length_nil] at p1 p2 p3 p4 ⊢; omega) ?_)
    refine Nz ?_
    refine Ez (Sz (Rz [0, 1] Kz rfl ?_))
    refine Fz ?_
    refine Oz rfl rfl rfl (AOp.load1 (b := (spblk (r.blocks.getD i1 spD) (.slice eA1 (r.blocks.getD i1 spD).h.cols.length ec1) (.slice eA2 (r.blocks.getD i1 spD).dead.length ec2) (.slice eA3 evs.length ec3))) (v := .bool (r.blocks.getD i1 spD).opn) rfl rfl hpB (spc_at _ _ _ _).1 ?_)
    refine Ez ?_
    refine ACode.cond rfl (fun c3 => ?_) (fun c3 => absurd c3 (by rw [hop]; decide))
    refine Sz ?_
    refine Rz [0, 1, 2, 3, 4, 5] Kz rfl ?_
    refine Mz ?_
    refine Fz ?_
    refine Oz rfl rfl rfl (AOp.load1 (b := (spblk (r.blocks.getD i1 spD) (.slice eA1 (r.blocks.getD i1 spD).h.cols.length ec1) (.slice eA2 (r.blocks.getD i1 spD).dead.length ec2) (.slice eA3 evs.length ec3))) (v := .slice eA2 (r.blocks.getD i1 spD).dead.length ec2) rfl rfl hpB (spc_at _ _ _ _).2.1 ?_)
    refine Oz rfl rfl rfl ?_
    refine AOp.call' rfl rfl rfl (refBlob 2 _ _ (r.blocks.getD i1 spD).dead eA2 ec2 (eh2.sub subB).cells (by have p4 := hX.n; omega)) ?_
    rintro _ _ kz ⟨z, hz1, hz2, rfl, rfl⟩
    refine Oz rfl rfl rfl (AOp.appendB (bs := (((((((((varB a ++ r.root.l) ++ schB r.sch) ++ formB r.ent) ++ varB r.path.length) ++ dsB (r.path.take r.path.length)) ++ varB r.blocks.length) ++ bsB (r.blocks.take i1)) ++ [1]) ++ hdB (r.blocks.getD i1 spD).h)) (ps := varB (r.blocks.getD i1 spD).dead.length ++ (r.blocks.getD i1 spD).dead) rfl rfl rfl hpB (srcOf_gb (e := 5) hpB) srcOk_sl (by have p1 := hP.n; have p2 := hP.d r.path.length; have p3 := hP.b i1; have p4 := hX.n; simp only [ha2, List.length_append, List.length_cons, List.length_nil] at p1 p2 p3 p4 ⊢; omega) (by have p1 := hP.n; have p2 := hP.d r.path.length; have p3 := hP.b i1; have p4 := hX.n; simp only [ha2, List.length_append, List.length_cons, List.length_nil] at p1 p2 p3 p4 ⊢; omega) ?_)
    refine Nz ?_
    refine Ez (Sz (Rz [0, 1, 2, 3, 4, 5, 6, 7] Kz rfl ?_))
    refine Mz ?_
    refine Fz ?_
    refine Oz rfl rfl rfl (AOp.load1 (b := (spblk (r.blocks.getD i1 spD) (.slice eA1 (r.blocks.getD i1 spD).h.cols.length ec1) (.slice eA2 (r.blocks.getD i1 spD).dead.length ec2) (.slice eA3 evs.length ec3))) (v := .slice eA3 evs.length ec3) rfl rfl hpB (spc_at _ _ _ _).2.2 ?_)
    refine Oz rfl rfl rfl (AOp.len' rfl rfl ?_)
    refine Oz rfl rfl rfl (AOp.convU64 (a := (r.blocks.getD i1 spD).chunks.length) rfl (congrArg (fun n : Nat => some (Value.int .i64 (n : Int))) hel) Wz ?_)
    refine Oz rfl rfl rfl ?_
    refine AOp.call' rfl rfl rfl (refVar 2 (r.blocks.getD i1 spD).chunks.length Wz _ _) ?_
    rintro _ _ kf ⟨f, hf1, hf2, rfl, rfl⟩
    refine Oz rfl rfl rfl (AOp.appendB (bs := ((((((((((varB a ++ r.root.l) ++ schB r.sch) ++ formB r.ent) ++ varB r.path.length) ++ dsB (r.path.take r.path.length)) ++ varB r.blocks.length) ++ bsB (r.blocks.take i1)) ++ [1]) ++ hdB (r.blocks.getD i1 spD).h) ++ (varB (r.blocks.getD i1 spD).dead.length ++ (r.blocks.getD i1 spD).dead))) (ps := varB (r.blocks.getD i1 spD).chunks.length) rfl rfl rfl hpB (srcOf_gb (e := 5) hpB) srcOk_sl (by have p1 := hP.n; have p2 := hP.d r.path.length; have p3 := hP.b i1; have p4 := hX.n; simp only [ha2, List.length_append, List.length_cons, List.length_nil] at p1 p2 p3 p4 ⊢; omega) (by have p1 := hP.n; have p2 := hP.d r.path.length; have p3 := hP.b i1; have p4 := hX.n; simp only [ha2, List.length_append, List.length_cons, List.length_nil] at p1 p2 p3 p4 ⊢; omega) ?_)
    refine Nz ?_
    refine Ez (Sz (Rz [0] Kz rfl ?_))
    refine Nz ?_
    refine Ez ?_
    refine ACode.block ?_
    refine ACode.count (fun i => [(8, .int .i64 (i : Int)), (3, sl q ((((((((((((varB a ++ r.root.l) ++ schB r.sch) ++ formB r.ent) ++ varB r.path.length) ++ dsB (r.path.take r.path.length)) ++ varB r.blocks.length) ++ bsB (r.blocks.take i1)) ++ [1]) ++ hdB (r.blocks.getD i1 spD).h) ++ (varB (r.blocks.getD i1 spD).dead.length ++ (r.blocks.getD i1 spD).dead)) ++ varB (r.blocks.getD i1 spD).chunks.length) ++ ksB ((r.blocks.getD i1 spD).chunks.take i)).length)]) [(1, _), (2, _), (4, _), (5, _), (6, _), (7, _), (34, _), (35, _), (36, _), (37, _), (38, _), (49, _), (50, _), (51, _), (52, _), (53, _), (54, _), (55, _), (56, _), (57, _), (58, _), (59, _), (60, _), (63, _), (64, _), (65, _), (66, _), (67, _), (68, _), (69, _), (70, _), (71, _), (72, _), (73, _), (74, _), (75, _), (76, _), (77, _), (78, _), (79, _), (80, _), (81, _), (82, _), (83, _), (84, _), (85, _), (86, _), (87, _), (88, _), (89, _), (90, _), (91, _), (92, _)] (fun i => upd (upd (upd H k (some (rpblk r (.slice xA r.path.length xa) (.slice xB r.sch.length xb) (.slice xC r.blocks.length xc)))) kL1 (some (spblk (r.blocks.getD i1 spD) (.slice eA1 (r.blocks.getD i1 spD).h.cols.length ec1) (.slice eA2 (r.blocks.getD i1 spD).dead.length ec2) (.slice eA3 evs.length ec3)))) q (some (gb ((((((((((((varB a ++ r.root.l) ++ schB r.sch) ++ formB r.ent) ++ varB r.path.length) ++ dsB (r.path.take r.path.length)) ++ varB r.blocks.length) ++ bsB (r.blocks.take i1)) ++ [1]) ++ hdB (r.blocks.getD i1 spD).h) ++ (varB (r.blocks.getD i1 spD).dead.length ++ (r.blocks.getD i1 spD).dead)) ++ varB (r.blocks.getD i1 spD).chunks.length) ++ ksB ((r.blocks.getD i1 spD).chunks.take i))))) (evs.length) (fun _ => True) (.cons rfl (.cons (show _ = some (sl q _) by rw [show ksB ((r.blocks.getD i1 spD).chunks.take 0) = [] from rfl, List.append_nil]; rfl) .nil)) Xz (by rw [show ksB ((r.blocks.getD i1 spD).chunks.take 0) = [] from rfl, List.append_nil]; exact subB) trivial (fun i2 kL2 HL2 hiL2 hkL2 hsL2 hfL2 hxL2 => ?_)
    show ACode _ _ _ _ _ ⟨_, _, _⟩
    have tsL2 := SubS.of hsL2
    refine Sz ?_
    refine Sz ?_
    refine Rz [0, 1, 2, 3, 4] Kz rfl ?_
    refine Mz ?_
    refine Fz ?_
    refine Oz rfl rfl rfl (AOp.load1 (b := (spblk (r.blocks.getD i1 spD) (.slice eA1 (r.blocks.getD i1 spD).h.cols.length ec1) (.slice eA2 (r.blocks.getD i1 spD).dead.length ec2) (.slice eA3 evs.length ec3))) (v := .slice eA3 evs.length ec3) rfl rfl hpB (spc_at _ _ _ _).2.2 ?_)
    refine Oz rfl rfl rfl (AOp.len' rfl rfl ?_)
    refine Oz rfl rfl rfl (AOp.bin' rfl rfl rfl rfl ?_)
    refine Ez ?_
    refine ACode.cond rfl (fun c4 => ?_) (fun c4 => ?_)
    ·try simp only [Cz] at c4
     refine ACode.skip ?_
     refine Sz ?_
     refine ACode.block ?_
     obtain ⟨A9, d9, e9, hc9⟩ := eh4.at_ i2 Wz
     obtain ⟨nG, oG, sG, hqG, hpG⟩ := e9 ▸ slcElV eh3.cells (show i2 < evs.length by omega)
     have hck : Nt (((r.blocks.getD i1 spD).chunks.getD i2 []).length ≤ 20000) := ⟨(hsm.b _ hm).k _ (getD_mem Wz)⟩
     refine Rz [0, 1, 2, 3, 4, 5, 6, 7, 8] Kz rfl ?_
     refine Mz ?_
     refine Fz ?_
     refine Oz rfl rfl rfl (AOp.load1 (b := (spblk (r.blocks.getD i1 spD) (.slice eA1 (r.blocks.getD i1 spD).h.cols.length ec1) (.slice eA2 (r.blocks.getD i1 spD).dead.length ec2) (.slice eA3 evs.length ec3))) (v := .slice eA3 evs.length ec3) rfl rfl hpB (spc_at _ _ _ _).2.2 ?_)
     refine Mz ?_
     refine Oz rfl rfl rfl (AOp.indexP (aslcAt_sub subB hqG) rfl rfl rfl ?_)
     refine Oz rfl rfl rfl (AOp.loadP0 (hpG.sub subB) rfl rfl rfl ?_)
     refine Oz rfl rfl rfl ?_
     refine AOp.call' rfl rfl rfl (refBlob 2 _ _ ((r.blocks.getD i1 spD).chunks.getD i2 []) A9 d9 (hc9.sub subB).cells (by have := hck.h; omega)) ?_
     rintro _ _ kg ⟨g, hg1, hg2, rfl, rfl⟩
     refine Oz rfl rfl rfl (AOp.appendB (bs := ((((((((((((varB a ++ r.root.l) ++ schB r.sch) ++ formB r.ent) ++ varB r.path.length) ++ dsB (r.path.take r.path.length)) ++ varB r.blocks.length) ++ bsB (r.blocks.take i1)) ++ [1]) ++ hdB (r.blocks.getD i1 spD).h) ++ (varB (r.blocks.getD i1 spD).dead.length ++ (r.blocks.getD i1 spD).dead)) ++ varB (r.blocks.getD i1 spD).chunks.length) ++ ksB ((r.blocks.getD i1 spD).chunks.take i2))) (ps := varB ((r.blocks.getD i1 spD).chunks.getD i2 []).length ++ ((r.blocks.getD i1 spD).chunks.getD i2 [])) rfl rfl rfl hpB (srcOf_gb (e := 5) hpB) srcOk_sl (by have p1 := hP.n; have p2 := hP.d r.path.length; have p3 := hP.b i1; have p4 := hX.n; have p5 := hX.k i2; have p6 := hck.h; have p8 := varB_len ((r.blocks.getD i1 spD).chunks.getD i2 []).length Wz; simp only [ha2, List.length_append, List.length_cons, List.length_nil] at p1 p2 p3 p4 p5 ⊢; omega) (by have p1 := hP.n; have p2 := hP.d r.path.length; have p3 := hP.b i1; have p4 := hX.n; have p5 := hX.k i2; have p6 := hck.h; have p8 := varB_len ((r.blocks.getD i1 spD).chunks.getD i2 []).length Wz; simp only [ha2, List.length_append, List.length_cons, List.length_nil] at p1 p2 p3 p4 p5 ⊢; omega) ?_)
     refine Nz ?_
     refine Ez ?_
     refine Rz [0, 1, 2] Kz rfl ?_
     refine Mz ?_
     refine Oz rfl rfl rfl (AOp.add rfl rfl rfl (i64_wrap Wz Wz) ?_)
     refine Nz ?_
     refine Ez ?_
     have e6 : ((((((((((((varB a ++ r.root.l) ++ schB r.sch) ++ formB r.ent) ++ varB r.path.length) ++ dsB (r.path.take r.path.length)) ++ varB r.blocks.length) ++ bsB (r.blocks.take i1)) ++ [1]) ++ hdB (r.blocks.getD i1 spD).h) ++ (varB (r.blocks.getD i1 spD).dead.length ++ (r.blocks.getD i1 spD).dead)) ++ varB (r.blocks.getD i1 spD).chunks.length) ++ ksB ((r.blocks.getD i1 spD).chunks.take i2)) ++ (varB ((r.blocks.getD i1 spD).chunks.getD i2 []).length ++ ((r.blocks.getD i1 spD).chunks.getD i2 [])) = ((((((((((((varB a ++ r.root.l) ++ schB r.sch) ++ formB r.ent) ++ varB r.path.length) ++ dsB (r.path.take r.path.length)) ++ varB r.blocks.length) ++ bsB (r.blocks.take i1)) ++ [1]) ++ hdB (r.blocks.getD i1 spD).h) ++ (varB (r.blocks.getD i1 spD).dead.length ++ (r.blocks.getD i1 spD).dead)) ++ varB (r.blocks.getD i1 spD).chunks.length) ++ ksB ((r.blocks.getD i1 spD).chunks.take (i2 + 1))) := by rw [ksB_next (show i2 < (r.blocks.getD i1 spD).chunks.length by omega)]; simp [List.append_assoc, blB]
     first | refine thenA_n ?_ | simp only [thenA, blockA, if_true]
     exact NextR.mk Wz Wz (.cons rfl (.cons (show _ = some (sl q _) by rw [← e6]; first | rfl | (simp only [List.length_append]; rfl)) .nil)) Xz (by rw [← e6]; exact subB) trivial
    ·try simp only [Cz] at c4
     have hik : i2 = (r.blocks.getD i1 spD).chunks.length := by omega
     refine ACode.exit ?_
     refine Rz [0, 1, 2] Kz rfl ?_
     refine Mz ?_
     refine Oz rfl rfl rfl (AOp.add rfl rfl rfl (i64_wrap Wz Wz) ?_)
     refine Nz ?_
     refine Ez ?_
     have e5 : ((((((((((((varB a ++ r.root.l) ++ schB r.sch) ++ formB r.ent) ++ varB r.path.length) ++ dsB (r.path.take r.path.length)) ++ varB r.blocks.length) ++ bsB (r.blocks.take i1)) ++ [1]) ++ hdB (r.blocks.getD i1 spD).h) ++ (varB (r.blocks.getD i1 spD).dead.length ++ (r.blocks.getD i1 spD).dead)) ++ varB (r.blocks.getD i1 spD).chunks.length) ++ ksB ((r.blocks.getD i1 spD).chunks.take i2)) = (((((((varB a ++ r.root.l) ++ schB r.sch) ++ formB r.ent) ++ varB r.path.length) ++ dsB (r.path.take r.path.length)) ++ varB r.blocks.length) ++ bsB (r.blocks.take (i1 + 1))) := by rw [bsB_next (show i1 < r.blocks.length by omega), spB, hop, hik, List.take_length]; simp [List.append_assoc, blB]
     first | refine thenA_n ?_ | simp only [thenA, blockA, if_true]
     exact NextR.mk Wz Wz (.cons rfl (.cons (show _ = some (sl q _) by rw [← e5]; first | rfl | (simp only [List.length_append]; rfl)) .nil)) Xz (by rw [← e5]; exact subB) trivial
   ·skip
    have hop : (r.blocks.getD i1 spD).opn = false := by simpa using c2
    refine ACode.skip ?_
    refine Sz ?_
    refine Rz [0, 1, 2, 3, 4] Kz rfl ?_
    refine Mz ?_
    refine Mz ?_
    refine Oz rfl rfl rfl (AOp.buildB [0] rfl Dz rfl rfl ?_)
    refine Oz rfl rfl rfl (AOp.appendB (bs := (((((((varB a ++ r.root.l) ++ schB r.sch) ++ formB r.ent) ++ varB r.path.length) ++ dsB (r.path.take r.path.length)) ++ varB r.blocks.length) ++ bsB (r.blocks.take i1))) (ps := [0]) rfl rfl rfl hpB (srcOf_gb (e := 5) hpB) srcOk_sl (by have p1 := hP.n; have p2 := hP.d r.path.length; have p3 := hP.b i1; simp only [ha2, List.length_append, List.length_cons, List.length_nil] at p1 p2 p3 ⊢; omega) (by have p1 := hP.n; have p2 := hP.d r.path.length; have p3 := hP.b i1; simp only [ha2, List.length_append, List.length_cons, List.length_nil] at p1 p2 p3 ⊢; omega) ?_)
    refine Nz ?_
    refine Ez (Sz (Rz [0, 1, 2, 3, 4, 5] Kz rfl ?_))
    refine Mz ?_
    refine Fz ?_
    refine Oz rfl rfl rfl (AOp.loadN (b := (spblk (r.blocks.getD i1 spD) (.slice eA1 (r.blocks.getD i1 spD).h.cols.length ec1) (.slice eA2 (r.blocks.getD i1 spD).dead.length ec2) (.slice eA3 evs.length ec3))) (cs := hdc (r.blocks.getD i1 spD).h (.slice eA1 (r.blocks.getD i1 spD).h.cols.length ec1)) rfl rfl hpB (by show 0 + 35 ≤ (spc _ _ _ _).length; rw [spc_len]; decide) (spc_head _ _ _ _) ?_)
    refine Oz rfl rfl rfl ?_
    refine AOp.call' rfl rfl rfl (rputH _ _ (r.blocks.getD i1 spD).h eA1 ec1 (eh1.sub subB) hxo.z (hft.b _ hm) (hsm.b _ hm).h ex) ?_
    rintro _ _ ky ⟨y, hy1, hy2, rfl, rfl⟩
    refine Oz rfl rfl rfl (AOp.appendB (bs := ((((((((varB a ++ r.root.l) ++ schB r.sch) ++ formB r.ent) ++ varB r.path.length) ++ dsB (r.path.take r.path.length)) ++ varB r.blocks.length) ++ bsB (r.blocks.take i1)) ++ [0])) (ps := hdB (r.blocks.getD i1 spD).h) rfl rfl rfl hpB (srcOf_gb (e := 5) hpB) srcOk_sl (by have p1 := hP.n; have p2 := hP.d r.path.length; have p3 := hP.b i1; have p4 := hX.n; simp only [ha2, List.length_append, List.length_cons, List.length_nil] at p1 p2 p3 p4 ⊢; omega) (by have p1 := hP.n; have p2 := hP.d r.path.length; have p3 := hP.b i1; have p4 := hX.n; simp only [ha2, List.length_append, List.length_cons, List.length_nil] at p1 p2 p3 p4 ⊢; omega) ?_)
    refine Nz ?_
    refine Ez (Sz (Rz [0, 1] Kz rfl ?_))
    refine Fz ?_
    refine Oz rfl rfl rfl (AOp.load1 (b := (spblk (r.blocks.getD i1 spD) (.slice eA1 (r.blocks.getD i1 spD).h.cols.length ec1) (.slice eA2 (r.blocks.getD i1 spD).dead.length ec2) (.slice eA3 evs.length ec3))) (v := .bool (r.blocks.getD i1 spD).opn) rfl rfl hpB (spc_at _ _ _ _).1 ?_)
    refine Ez ?_
    refine ACode.cond rfl (fun c3 => absurd c3 (by rw [hop]; decide)) (fun c3 => ?_)
    refine ACode.skip ?_
    refine Rz [0, 1, 2] Kz rfl ?_
    refine Mz ?_
    refine Oz rfl rfl rfl (AOp.add rfl rfl rfl (i64_wrap Wz Wz) ?_)
    refine Nz ?_
    refine Ez ?_
    have e5 : (((((((((varB a ++ r.root.l) ++ schB r.sch) ++ formB r.ent) ++ varB r.path.length) ++ dsB (r.path.take r.path.length)) ++ varB r.blocks.length) ++ bsB (r.blocks.take i1)) ++ [0]) ++ hdB (r.blocks.getD i1 spD).h) = (((((((varB a ++ r.root.l) ++ schB r.sch) ++ formB r.ent) ++ varB r.path.length) ++ dsB (r.path.take r.path.length)) ++ varB r.blocks.length) ++ bsB (r.blocks.take (i1 + 1))) := by rw [bsB_next (show i1 < r.blocks.length by omega), spB, hop]; simp [List.append_assoc]
    first | refine thenA_n ?_ | simp only [thenA, blockA, if_true]
    exact NextR.mk Wz Wz (.cons rfl (.cons (show _ = some (sl q _) by rw [← e5]; first | rfl | (simp only [List.length_append]; rfl)) .nil)) Xz (by rw [← e5]; exact subB) trivial
  ·try simp only [Cz] at c1
   refine ACode.exit ?_
   refine Sz ?_
   refine Rz [0, 1] Kz rfl ?_
   refine Mz ?_
   refine Nz ?_
   refine Ez ?_
   refine ACode.ret ?_
   try simp only [thenA, blockA, if_true]
   have e8 : (((((((varB a ++ r.root.l) ++ schB r.sch) ++ formB r.ent) ++ varB r.path.length) ++ dsB (r.path.take r.path.length)) ++ varB r.blocks.length) ++ bsB (r.blocks.take i1)) = rpB r := by rw [rpB, ha2, show i1 = r.blocks.length by omega, List.take_length, List.take_length]; simp [List.append_assoc]
   rw [e8] at hsL1 tsL1 ⊢
   exact RetQ.one (H'' := upd H q (some (gb (rpB r)))) rfl rfl subB stays_upd (fun hk => ⟨q, by omega, by omega, rfl, rfl⟩)
end

end Go.Proofs.YteoofihjmldllaaGreatDoor
