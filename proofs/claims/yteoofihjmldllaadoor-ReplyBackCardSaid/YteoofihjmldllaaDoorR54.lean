/- Contracts over the abstract states: ReplyBack. -/
import Derived.Test.YteoofihjmldllaaDoorR48
import Derived.Test.YteoofihjmldllaaDoorR53
set_option linter.unusedVariables false
set_option linter.unusedSimpArgs false
set_option maxRecDepth 100000
namespace Go.Proofs.YteoofihjmldllaaDoor
open Go Go.Ab

section
variable (H : Hp) (k : Nat)

set_option maxHeartbeats 2000000 in
theorem replyBack (h2 : H 1 = some hBlk) (r : Rp) (hok : r.ok) (hlim : ∀ x ∈ r.blocks, x.lim) (v : Value) (hv : RpE H r v) (x : Int) (hx1 : -9223372036854775808 ≤ x) (hx2 : x ≤ 9223372036854775807) : ACalls Tryd.prog 3 7 [v, .int .i64 x] H k (fun v _ _ => v = .bool true) := by
 have hvV := hv.rpv_
 obtain ⟨xA, xa, xB, xb, xC, xc, xs, rfl, x1, x2, x3, x4⟩ := hv
 refine ACalls.fresh fun hf => ?_
 refine ACalls.body Tryd.func7 rfl (Nat.le_of_ble_eq_true rfl) ?_
 have h2k := old_lt hf h2
 refine Sz ?_
 refine Rz [0, 1] Kz rfl ?_
 refine Oz rfl rfl rfl (AOp.boxV rfl rfl ?_)
 refine Nz ?_
 refine Ez ?_
 refine Sz ?_
 refine Sz ?_
 refine Rz [0, 1] Kz rfl ?_
 refine Oz rfl rfl rfl ?_
 refine AOp.loadAll (b := ?b1) (v := rpv r (.slice xA r.path.length xa) (.slice xB r.sch.length xb) (.slice xC r.blocks.length xc)) rfl rfl ?hn1 ?hv1 ?hw1 ?hz1 ?hR1
 (case hn1 => exact hpB)
 (case hv1 => rfl)
 (case hw1 => rfl)
 (case hz1 => first | rfl | exact hv_size _ | exact one_bv _ | exact rpv_size _ _ _ _ | exact spv_size _ _ _ _ | exact spc_one _ _ _ _ rfl rfl rfl | exact rp_one _ _ _ _ rfl rfl rfl | (simp; done))
 refine aOps_q rfl rfl rfl (AOp.call' rfl rfl rfl (great29 _ _ r hok hlim _ (hvV.sub subB)) Iz) (fun kq hkq => ?_)
 refine Ez ?_
 refine ACode.cond rfl (fun c0 => ?_) (fun c0 => ?_)
 ·skip
  refine Sz ?_
  refine Rz [0, 1] Kz rfl ?_
  refine aOps_q rfl rfl rfl (AOp.call' rfl rfl rfl (awake29 _ _ hpB) Iz) (fun kq hkq => ?_)
  refine Nz ?_
  refine Ez ?_
  refine ACode.ret ?_
  try simp only [thenA, blockA, if_true]
  exact RetQ.one rfl rfl subB stays (fun hk => rfl)
 ·skip
  have hsm := great_sm (r := r) c0
  have hb60 := hsm.bl
  refine ACode.skip ?_
  refine Sz ?_
  refine Rz [0, 1, 2, 3, 4, 5, 6] Kz rfl ?_
  refine Oz rfl rfl rfl ?_
  refine AOp.loadAll (b := ?b2) (v := rpv r (.slice xA r.path.length xa) (.slice xB r.sch.length xb) (.slice xC r.blocks.length xc)) rfl rfl ?hn2 ?hv2 ?hw2 ?hz2 ?hR2
  (case hn2 => exact hpB)
  (case hv2 => rfl)
  (case hw2 => rfl)
  (case hz2 => first | rfl | exact hv_size _ | exact one_bv _ | exact rpv_size _ _ _ _ | exact spv_size _ _ _ _ | exact spc_one _ _ _ _ rfl rfl rfl | exact rp_one _ _ _ _ rfl rfl rfl | (simp; done))
  refine Oz rfl rfl rfl ?_
  refine AOp.call' rfl rfl rfl (putN _ _ r hok hsm _ (hvV.sub subB)) ?_
  rintro _ HLp kp ⟨wp, rfl, ⟨Ap, cp_, rfl, hwp, hwap⟩, hkp, hfLp, hsLp⟩
  have thsLp := SubS.of hsLp
  refine Mz ?_
  refine Oz rfl rfl rfl (AOp.extract' rfl rfl rfl ?_)
  refine Oz rfl rfl rfl (AOp.extract' rfl rfl rfl ?_)
  refine Nz ?_
  refine Nz ?_
  refine Ez ?_
  refine Sz ?_
  refine Sz ?_
  refine Rz [0, 1] Kz rfl ?_
  refine Mz ?_
  refine Oz rfl rfl rfl (AOp.bin' rfl rfl rfl rfl ?_)
  refine Ez ?_
  refine ACode.cond rfl (fun c1 => ?_) (fun c1 => ?_)
  ·skip
   refine Sz ?_
   refine Rz [0, 1] Kz rfl ?_
   refine aOps_q rfl rfl rfl (AOp.call' rfl rfl rfl (awake29 _ _ (hsLp _ _ (Uz h2))) Iz) (fun kq hkq => ?_)
   refine Nz ?_
   refine Ez ?_
   refine ACode.ret ?_
   try simp only [thenA, blockA, if_true]
   exact RetQ.one rfl rfl subB stays (fun hk => rfl)
  ·skip
   have hyes : formedR soundR r = true := by
    cases h : formedR soundR r with
    | true => rfl
    | false => rw [putRp_no' h] at c1; simp at c1
   have e1 := putRp_yes' hyes
   have hft := (formed_fit hyes).1
   have hbl := rpB_len' hok hsm hft
   rw [e1] at hwp ⊢
   dsimp only at hwp ⊢
   clear hwap c1 e1
   have hpos := rpB_pos r
   have htk : Nt (takeRp (rpB r) = (r, 0, 0)) := ⟨take_put hyes hok⟩
   have h2p : HLp 1 = some hBlk := hsLp _ _ (Uz h2)
   have hmore : Nt ((takeRp ([] ++ (rpB r) ++ [0])).2.1 = 3) := ⟨by rw [List.nil_append]; exact take_more hyes hok⟩
   refine ACode.skip ?_
   refine Sz ?_
   refine Rz [0, 1, 2, 3, 4, 5, 6, 7, 8, 9] Kz rfl ?_
   refine Mz ?_
   refine Oz rfl rfl rfl ?_
   refine AOp.call' rfl rfl rfl (takeN _ _ h2p (rpB r) Ap cp_ (hwp.sub subB) Wz) ?_
   rw [htk.h]
   dsimp only
   rintro _ HLt kt ⟨ut, rfl, hut, hkt, hfLt, hsLt⟩
   have thsLt := SubS.of hsLt
   have hut2 := hut
   obtain ⟨tA, ta, tB, tb, tC, tc, ts, rfl, _⟩ := hut2
   refine Mz ?_
   refine Oz rfl rfl rfl (AOp.extract' rfl rfl rfl ?_)
   refine Oz rfl rfl rfl (AOp.extract' rfl rfl rfl ?_)
   refine Oz rfl rfl rfl (AOp.extract' rfl rfl rfl ?_)
   refine Oz rfl rfl rfl (AOp.alloc' rfl ?_)
   refine aOps_0 rfl rfl rfl ?_
   refine AOp.storeAll (b := ?b3) rfl rfl rfl ?hn3 ?hk3 rfl ?hw3 ?ho3 ?hl3 ?hR3
   (case hn3 => exact hpB)
   (case hk3 => rfl)
   (case hw3 => first | rfl | exact hv_size _ | exact one_bv _ | exact rpv_size _ _ _ _ | exact spv_size _ _ _ _ | exact spc_one _ _ _ _ rfl rfl rfl | exact rp_one _ _ _ _ rfl rfl rfl | (simp; done))
   (case ho3 => first | rfl | exact hv_size _ | exact one_bv _ | exact rpv_size _ _ _ _ | exact spv_size _ _ _ _ | exact spc_one _ _ _ _ rfl rfl rfl | exact rp_one _ _ _ _ rfl rfl rfl | decide | (simp; done))
   (case hl3 => first | rfl | exact hv_size _ | exact one_bv _ | exact rpv_size _ _ _ _ | exact spv_size _ _ _ _ | exact spc_one _ _ _ _ rfl rfl rfl | exact rp_one _ _ _ _ rfl rfl rfl | (simp; done))
   refine Nz ?_
   refine Nz ?_
   rw [rd_upd2]
   refine Ez ?_
   refine Sz ?_
   show ACode _ _ _ _ _ ⟨_, (upd HLt kt (some (rpblk r (.slice tA r.path.length ta) (.slice tB r.sch.length tb) (.slice tC r.blocks.length tc)))), _⟩
   have hbLZ : (upd HLt kt (some (rpblk r (.slice tA r.path.length ta) (.slice tB r.sch.length tb) (.slice tC r.blocks.length tc)))) kt = some (rpblk r (.slice tA r.path.length ta) (.slice tB r.sch.length tb) (.slice tC r.blocks.length tc)) := upd_same _ _ _
   have hsLZ : Ab.Sub HLt (upd HLt kt (some (rpblk r (.slice tA r.path.length ta) (.slice tB r.sch.length tb) (.slice tC r.blocks.length tc)))) := sub_upd' (sub_refl _) (hfLt kt (Nat.le_refl _))
   have hfLZ : ∀ m, kt + 1 ≤ m → (upd HLt kt (some (rpblk r (.slice tA r.path.length ta) (.slice tB r.sch.length tb) (.slice tC r.blocks.length tc)))) m = none := fun m hm => Uz (hfLt m Wz)
   generalize (upd HLt kt (some (rpblk r (.slice tA r.path.length ta) (.slice tB r.sch.length tb) (.slice tC r.blocks.length tc)))) = HLZ at hbLZ hsLZ hfLZ ⊢
   have thsLZ := SubS.of hsLZ
   have h2Z : HLZ 1 = some hBlk := hsLZ _ _ (hsLt _ _ h2p)
   refine Rz [0, 1, 2, 3, 4, 5, 6, 7, 8, 9, 10, 11, 12, 13] Kz rfl ?_
   refine Oz rfl rfl rfl (AOp.buildB [] rfl Dz rfl rfl ?_)
   refine Mz ?_
   refine Oz rfl rfl rfl (AOp.appendB (bs := []) (ps := (rpB r)) rfl rfl rfl hpB (srcOf_slc (hwp.sub subB).cells) srcOk_sl (by simp only [List.length_nil]; omega) (by simp only [List.length_nil]; omega) ?_)
   refine Oz rfl rfl rfl (AOp.buildB [0] rfl Dz rfl rfl ?_)
   refine Oz rfl rfl rfl (AOp.appendB (bs := [] ++ (rpB r)) (ps := [0]) rfl rfl rfl hpB (srcOf_gb (e := 5) hpB) srcOk_sl (by simp only [List.nil_append, List.length_singleton]; omega) (by simp only [List.nil_append, List.length_singleton]; omega) ?_)
   refine Oz rfl rfl rfl ?_
   refine AOp.call' rfl rfl rfl (takeN _ _ (Uz (Uz (Uz (Uz (h2Z))))) ([] ++ (rpB r) ++ [0]) _ _ (SLC.gb (e := 5) hpB) (by rw [List.length_append, List.nil_append, List.length_singleton]; omega)) ?_
   generalize takeRp ([] ++ (rpB r) ++ [0]) = Tm at hmore ⊢
   rintro _ HLm km ⟨um, rfl, hum, hkm, hfLm, hsLm⟩
   have thsLm := SubS.of hsLm
   have hum2 := hum
   obtain ⟨mA, ma, mB, mb, mC, mc, ms, rfl, _⟩ := hum2
   refine Mz ?_
   refine Oz rfl rfl rfl (AOp.extract' rfl rfl rfl ?_)
   refine Oz rfl rfl rfl (AOp.extract' rfl rfl rfl ?_)
   refine Oz rfl rfl rfl (AOp.extract' rfl rfl rfl ?_)
   refine Oz rfl rfl rfl (AOp.alloc' rfl ?_)
   refine aOps_0 rfl rfl rfl ?_
   refine AOp.storeAll (b := ?b4) rfl rfl rfl ?hn4 ?hk4 rfl ?hw4 ?ho4 ?hl4 ?hR4
   (case hn4 => exact hpB)
   (case hk4 => rfl)
   (case hw4 => first | rfl | exact hv_size _ | exact one_bv _ | exact rpv_size _ _ _ _ | exact spv_size _ _ _ _ | exact spc_one _ _ _ _ rfl rfl rfl | exact rp_one _ _ _ _ rfl rfl rfl | (simp; done))
   (case ho4 => first | rfl | exact hv_size _ | exact one_bv _ | exact rpv_size _ _ _ _ | exact spv_size _ _ _ _ | exact spc_one _ _ _ _ rfl rfl rfl | exact rp_one _ _ _ _ rfl rfl rfl | decide | (simp; done))
   (case hl4 => first | rfl | exact hv_size _ | exact one_bv _ | exact rpv_size _ _ _ _ | exact spv_size _ _ _ _ | exact spc_one _ _ _ _ rfl rfl rfl | exact rp_one _ _ _ _ rfl rfl rfl | (simp; done))
   refine Nz ?_
   refine Nz ?_
   rw [rd_upd2]
   refine Ez ?_
   refine Sz ?_
   show ACode _ _ _ _ _ ⟨_, (upd HLm km (some (rpblk Tm.1 (.slice mA Tm.1.path.length ma) (.slice mB Tm.1.sch.length mb) (.slice mC Tm.1.blocks.length mc)))), _⟩
   have hsLM : Ab.Sub HLZ (upd HLm km (some (rpblk Tm.1 (.slice mA Tm.1.path.length ma) (.slice mB Tm.1.sch.length mb) (.slice mC Tm.1.blocks.length mc)))) := sub_upd' (show Ab.Sub HLZ HLm from by exact subB) (hfLZ km Wz)
   have hfLM : ∀ m, km + 1 ≤ m → (upd HLm km (some (rpblk Tm.1 (.slice mA Tm.1.path.length ma) (.slice mB Tm.1.sch.length mb) (.slice mC Tm.1.blocks.length mc)))) m = none := fun m hm => Uz (hfLm m Wz)
   generalize (upd HLm km (some (rpblk Tm.1 (.slice mA Tm.1.path.length ma) (.slice mB Tm.1.sch.length mb) (.slice mC Tm.1.blocks.length mc)))) = HLM at hsLM hfLM ⊢
   have thsLM := SubS.of hsLM
   have h2M : HLM 1 = some hBlk := hsLM _ _ h2Z
   clear thsLm hsLm
   obtain ⟨ys, tl, hyt, htl, hyx⟩ := part_of (bs := (rpB r)) (x := x) Wz
   have hyl : ys.length ≤ (rpB r).length := by rw [hyt, List.length_append]; omega
   have hgn : Nt ((takeRp ys).2.1 ≠ 0) := ⟨take_cut hyes hok htl hyt⟩
   have hyt : Nt _ := ⟨hyt⟩
   obtain ⟨A8_5, c8_5, hq8_5, hs8_5⟩ := SLC.cutP (hwp.sub subB) hyt.h
   refine Rz [0, 1, 2, 3, 4, 5, 6, 7, 8, 9, 10, 11, 12, 13, 14] Kz rfl ?_
   refine Mz ?_
   refine Mz ?_
   refine Mz ?_
   refine Oz rfl rfl rfl (AOp.len' rfl rfl ?_)
   refine aOps_q rfl rfl rfl (AOp.call' rfl rfl rfl (pick_b _ _ x ((rpB r).length : Int) Wz Wz hx1 hx2) Iz) (fun kq hkq => ?_)
   rw [hyx]
   refine Oz rfl rfl rfl (AOp.cutQ (aslice_sub subB hq8_5) rfl rfl (bnd_no rfl) (bnd_at rfl rfl) mx_no ?_)
   refine Oz rfl rfl rfl ?_
   refine AOp.call' rfl rfl rfl (takeN _ _ h2M ys A8_5 c8_5 (hs8_5.sub subB) Wz) ?_
   generalize takeRp ys = Tn at hgn ⊢
   rintro _ HLn kn ⟨un, rfl, hun, hkn, hfLn, hsLn⟩
   have thsLn := SubS.of hsLn
   have hun2 := hun
   obtain ⟨nA, na, nB, nb, nC, nc, ns, rfl, _⟩ := hun2
   refine Mz ?_
   refine Oz rfl rfl rfl (AOp.extract' rfl rfl rfl ?_)
   refine Oz rfl rfl rfl (AOp.extract' rfl rfl rfl ?_)
   refine Oz rfl rfl rfl (AOp.extract' rfl rfl rfl ?_)
   refine Oz rfl rfl rfl (AOp.alloc' rfl ?_)
   refine aOps_0 rfl rfl rfl ?_
   refine AOp.storeAll (b := ?b5) rfl rfl rfl ?hn5 ?hk5 rfl ?hw5 ?ho5 ?hl5 ?hR5
   (case hn5 => exact hpB)
   (case hk5 => rfl)
   (case hw5 => first | rfl | exact hv_size _ | exact one_bv _ | exact rpv_size _ _ _ _ | exact spv_size _ _ _ _ | exact spc_one _ _ _ _ rfl rfl rfl | exact rp_one _ _ _ _ rfl rfl rfl | (simp; done))
   (case ho5 => first | rfl | exact hv_size _ | exact one_bv _ | exact rpv_size _ _ _ _ | exact spv_size _ _ _ _ | exact spc_one _ _ _ _ rfl rfl rfl | exact rp_one _ _ _ _ rfl rfl rfl | decide | (simp; done))
   (case hl5 => first | rfl | exact hv_size _ | exact one_bv _ | exact rpv_size _ _ _ _ | exact spv_size _ _ _ _ | exact spc_one _ _ _ _ rfl rfl rfl | exact rp_one _ _ _ _ rfl rfl rfl | (simp; done))
   refine Nz ?_
   refine Nz ?_
   rw [rd_upd2]
   refine Ez ?_
   refine Sz ?_
   refine Sz ?_
   show ACode _ _ _ _ _ ⟨_, (upd HLn kn (some (rpblk Tn.1 (.slice nA Tn.1.path.length na) (.slice nB Tn.1.sch.length nb) (.slice nC Tn.1.blocks.length nc)))), _⟩
   have hsLN : Ab.Sub HLM (upd HLn kn (some (rpblk Tn.1 (.slice nA Tn.1.path.length na) (.slice nB Tn.1.sch.length nb) (.slice nC Tn.1.blocks.length nc)))) := sub_upd' (show Ab.Sub HLM HLn from by exact subB) (hfLM kn Wz)
   have hfLN : ∀ m, kn + 1 ≤ m → (upd HLn kn (some (rpblk Tn.1 (.slice nA Tn.1.path.length na) (.slice nB Tn.1.sch.length nb) (.slice nC Tn.1.blocks.length nc)))) m = none := fun m hm => Uz (hfLn m Wz)
   generalize (upd HLn kn (some (rpblk Tn.1 (.slice nA Tn.1.path.length na) (.slice nB Tn.1.sch.length nb) (.slice nC Tn.1.blocks.length nc)))) = HLN at hsLN hfLN ⊢
   have thsLN := SubS.of hsLN
   have h2N : HLN 1 = some hBlk := hsLN _ _ h2M
   clear thsLn hsLn
   refine Rz [0, 1, 2, 3, 4, 5, 6, 7, 8, 9, 10, 11, 12, 13, 14, 15] Kz rfl ?_
   refine Mz ?_
   refine Oz rfl rfl rfl (AOp.bin' rfl rfl rfl rfl ?_)
   refine Mz ?_
   refine aOps_gd0 rfl rfl (wantF rfl rfl rfl) (fun hc => AOp.slots [(7, _)] (.cons rfl .nil) ((by refine AOp.loadAll (b := ?b6) (v := rpv r (.slice tA r.path.length ta) (.slice tB r.sch.length tb) (.slice tC r.blocks.length tc)) rfl rfl ?hn6 ?hv6 ?hw6 ?hz6 ?hR6; (case hn6 => exact hpB); (case hv6 => rfl); (case hw6 => rfl); (case hz6 => first | rfl | exact hv_size _ | exact one_bv _ | exact rpv_size _ _ _ _ | exact spv_size _ _ _ _ | exact spc_one _ _ _ _ rfl rfl rfl | exact rp_one _ _ _ _ rfl rfl rfl | (simp; done)); exact Tz))) ?_
   refine aOps_gd0 rfl rfl (wantF rfl rfl rfl) (fun hc => AOp.slots [(2, _)] (.cons rfl .nil) ((by refine AOp.loadAll (b := ?b7) (v := rpv r (.slice xA r.path.length xa) (.slice xB r.sch.length xb) (.slice xC r.blocks.length xc)) rfl rfl ?hn7 ?hv7 ?hw7 ?hz7 ?hR7; (case hn7 => exact hpB); (case hv7 => rfl); (case hw7 => rfl); (case hz7 => first | rfl | exact hv_size _ | exact one_bv _ | exact rpv_size _ _ _ _ | exact spv_size _ _ _ _ | exact spc_one _ _ _ _ rfl rfl rfl | exact rp_one _ _ _ _ rfl rfl rfl | (simp; done)); exact Tz))) ?_
   refine aOps_gd rfl rfl (wantF rfl rfl rfl) (fun hc => AOp.slots [(59, _), (60, _)] (.cons (gvT rfl hc) (.cons (gvT rfl hc) .nil)) (AOp.call' rfl rfl rfl (sameRp _ _ r hok _ _ (hut.sub subB) (hvV.sub subB)) Iz)) (fun kq hkq => ?_)
   refine aOps_gd0 rfl rfl (wantF rfl rfl rfl) (fun hc => AOp.slots [(61, _)] (.cons (gvT rfl hc) .nil) (AOp.un' rfl rfl rfl Tz)) ?_
   refine Oz rfl rfl rfl (AOp.pickOr rfl rfl rfl (fun hb => gvE rfl (t_not hb)) ?_)
   refine Mz ?_
   refine aOps_gd0 rfl rfl (wantF rfl rfl rfl) (fun hc => AOp.slots [(11, _)] (.cons rfl .nil) (AOp.move' (.inl rfl) rfl Tz)) ?_
   refine aOps_gd0 rfl rfl (wantF rfl rfl rfl) (fun hc => AOp.slots [(65, _)] (.cons (gvT rfl hc) .nil) (AOp.bin' rfl rfl rfl rfl Tz)) ?_
   refine Oz rfl rfl rfl (AOp.pickOr rfl rfl rfl (fun hb => gvE rfl (t_not hb)) ?_)
   refine Mz ?_
   refine aOps_gd0 rfl rfl (wantF rfl rfl rfl) (fun hc => AOp.slots [(14, _)] (.cons rfl .nil) (AOp.move' (.inl rfl) rfl Tz)) ?_
   refine aOps_gd0 rfl rfl (wantF rfl rfl rfl) (fun hc => AOp.slots [(69, _)] (.cons (gvT rfl hc) .nil) (AOp.bin' rfl rfl rfl rfl Tz)) ?_
   refine Oz rfl rfl rfl (AOp.pickOr rfl rfl rfl (fun hb => gvE rfl (t_not hb)) ?_)
   refine Ez ?_
   refine ACode.cond rfl (fun c2 => absurd c2 (by simp [hmore.h, hgn.h])) (fun c2 => ?_)
   refine ACode.skip ?_
   refine Sz ?_
   have hM : Nt (r.sch.length ≤ 70 ∧ r.path.length ≤ 80 ∧ byR r.blocks ≤ 97200000) := ⟨hsm.sl, hsm.pl, by have := by_all r.blocks.length hsm.b hsm.bl; rwa [List.take_length] at this⟩
   have hm0 : Nt (most0 r ≤ 97300000) := ⟨by have := hM.h; unfold most0; omega⟩
   refine ACode.any mixed Kz ?_
   refine AnyA.float (Hq := (upd H k (some (rpblk r (.slice xA r.path.length xa) (.slice xB r.sch.length xb) (.slice xC r.blocks.length xc))))) [(0, 72), (1, 73), (2, 74), (3, 75), (4, 76), (5, 77), (6, 78), (7, 79), (8, 80), (9, 81), (10, 82)] [11, 12, 13] Kz (Nat.le_of_ble_eq_true rfl) Kz subB ?_
   refine DrawF.q 0 72 [(2, none)] rfl Kz rfl (fun Hc kq hSb => AOp.fieldAddr' rfl Dz rfl Tz) ?_
   refine DrawF.q 1 73 [(72, some 0)] rfl Kz rfl (fun Hc kq hSb => have tSb := SubS.of hSb; AOp.load1 (b := (rpblk r (.slice xA r.path.length xa) (.slice xB r.sch.length xb) (.slice xC r.blocks.length xc))) (v := .slice xB r.sch.length xb) rfl rfl hpB (rpc_at _ _ _ _).2.1 Tz) ?_
   refine DrawF.q 2 74 [(73, some 1)] rfl Kz rfl (fun Hc kq hSb => AOp.len' rfl rfl Tz) ?_
   refine DrawF.q 3 75 [(74, some 2)] rfl Kz rfl (fun Hc kq hSb => AOp.bin' (z := .int .i64 (((3 * r.sch.length) : Nat) : Int)) rfl rfl rfl (congrArg (fun z => some (Value.int .i64 z)) (mul64 (a := 3) (b := r.sch.length) (c := (3 * r.sch.length)) (by first | rfl | omega) (by have := hM.h; have := hm0.h; omega))) Tz) ?_
   refine DrawF.q 4 76 [(75, some 3)] rfl Kz rfl (fun Hc kq hSb => AOp.bin' (z := .int .i64 (((200 + 3 * r.sch.length) : Nat) : Int)) rfl rfl rfl (congrArg (fun z => some (Value.int .i64 z)) (add64 (a := 200) (b := (3 * r.sch.length)) (c := (200 + 3 * r.sch.length)) (by first | rfl | omega) (by have := hM.h; have := hm0.h; omega))) Tz) ?_
   refine DrawF.q 5 77 [(2, none)] rfl Kz rfl (fun Hc kq hSb => AOp.fieldAddr' rfl Dz rfl Tz) ?_
   refine DrawF.q 6 78 [(77, some 5)] rfl Kz rfl (fun Hc kq hSb => have tSb := SubS.of hSb; AOp.load1 (b := (rpblk r (.slice xA r.path.length xa) (.slice xB r.sch.length xb) (.slice xC r.blocks.length xc))) (v := .slice xA r.path.length xa) rfl rfl hpB (rpc_at _ _ _ _).1 Tz) ?_
   refine DrawF.q 7 79 [(78, some 6)] rfl Kz rfl (fun Hc kq hSb => AOp.len' rfl rfl Tz) ?_
   refine DrawF.q 8 80 [(79, some 7)] rfl Kz rfl (fun Hc kq hSb => AOp.bin' (z := .int .i64 (((32 * r.path.length) : Nat) : Int)) rfl rfl rfl (congrArg (fun z => some (Value.int .i64 z)) (mul64 (a := 32) (b := r.path.length) (c := (32 * r.path.length)) (by first | rfl | omega) (by have := hM.h; have := hm0.h; omega))) Tz) ?_
   refine DrawF.q 9 81 [(76, some 4), (80, some 8)] rfl Kz rfl (fun Hc kq hSb => AOp.bin' (z := .int .i64 (((200 + 3 * r.sch.length + 32 * r.path.length) : Nat) : Int)) rfl rfl rfl (congrArg (fun z => some (Value.int .i64 z)) (add64 (a := (200 + 3 * r.sch.length)) (b := (32 * r.path.length)) (c := (200 + 3 * r.sch.length + 32 * r.path.length)) (by first | rfl | omega) (by have := hM.h; have := hm0.h; omega))) Tz) ?_
   refine DrawF.q 10 82 [(2, none)] rfl Kz rfl (fun Hc kq hSb => have tSb := SubS.of hSb; (by refine AOp.loadAll (b := ?b8) (v := rpv r (.slice xA r.path.length xa) (.slice xB r.sch.length xb) (.slice xC r.blocks.length xc)) rfl rfl ?hn8 ?hv8 ?hw8 ?hz8 ?hR8; (case hn8 => exact hpB); (case hv8 => rfl); (case hw8 => rfl); (case hz8 => first | rfl | exact hv_size _ | exact one_bv _ | exact rpv_size _ _ _ _ | exact spv_size _ _ _ _ | exact spc_one _ _ _ _ rfl rfl rfl | exact rp_one _ _ _ _ rfl rfl rfl | (simp; done)); exact Tz)) ?_
   refine DrawF.done ?_
   show aOpsF _ _ _ _ _ _ [11, 12, 13] ⟨_, _, _⟩
   refine aOpsF_1 [82] rfl rfl Kz rfl ?_
   refine AOp.call' rfl rfl rfl (bytes28 _ _ r hok hsm _ (hvV.sub subB)) ?_
   rintro _ _ kb ⟨rfl, rfl, hkb⟩
   refine ⟨by exact subB, ?_⟩
   refine aOpsF_1 [81, 83] rfl rfl Kz rfl (AOp.bin' (z := .int .i64 (((most0 r) : Nat) : Int)) rfl rfl rfl (congrArg (fun z => some (Value.int .i64 z)) (add64 (a := (200 + 3 * r.sch.length + 32 * r.path.length)) (b := (byR r.blocks)) (c := (most0 r)) (by first | rfl | omega) (by have := hM.h; have := hm0.h; omega))) ?_)
   refine ⟨by exact subB, ?_⟩
   refine aOpsF_1 [84] rfl rfl Kz rfl (AOp.move' (.inr rfl) rfl ?_)
   refine ⟨by exact subB, ?_⟩
   refine aOpsF_end ?_
   refine Sz ?_
   refine Sz ?_
   refine Rz [0] Kz rfl ?_
   refine Nz ?_
   refine Ez ?_
   refine ACode.block ?_
   refine ACode.count0 (fun i => [(17, .int .i64 (i : Int)), (16, .int .i64 ((most0 r + moR (r.blocks.take i) : Nat) : Int))]) [(2, _), (4, _), (5, _)] (r.blocks.length) (fun _ => True) (.cons rfl (.cons (show _ = some (Value.int .i64 _) by rw [show moR (r.blocks.take 0) = 0 from rfl, Nat.add_zero]; rfl) .nil)) Xz trivial (fun i0 kL0 HL0 hiL0 hkL0 hsL0 hfL0 hxL0 => ?_)
   show ACode _ _ _ _ _ ⟨_, _, _⟩
   have tsL0 := SubS.of hsL0
   refine Sz ?_
   refine Sz ?_
   refine Rz [0, 1, 2, 3, 4] Kz rfl ?_
   refine Mz ?_
   refine Fz ?_
   refine Oz rfl rfl rfl (AOp.load1 (b := (rpblk r (.slice xA r.path.length xa) (.slice xB r.sch.length xb) (.slice xC r.blocks.length xc))) (v := .slice xC r.blocks.length xc) rfl rfl hpB (rpc_at _ _ _ _).2.2 ?_)
   refine Oz rfl rfl rfl (AOp.len' rfl rfl ?_)
   refine Oz rfl rfl rfl (AOp.bin' rfl rfl rfl rfl ?_)
   refine Ez ?_
   refine ACode.cond rfl (fun c3 => ?_) (fun c3 => ?_)
   ·try simp only [Cz] at c3
    refine ACode.skip ?_
    refine Sz ?_
    refine ACode.block ?_
    obtain ⟨ne, oe, pe, eA1, ec1, eA2, ec2, eA3, ec3, evs, ex, qe, le, eh1, eh2, eh3, eh4⟩ := SpsE.el (i := i0) x3 x4 Wz
    have hm : (r.blocks.getD i0 spD) ∈ r.blocks := getD_mem Wz
    have hxo := hok.b _ hm
    have hxs := hsm.b _ hm
    have hel : evs.length = (r.blocks.getD i0 spD).chunks.length := eh4.len
    have hkl9 := hxs.kl
    have e4 : (most0 r + moR (r.blocks.take i0)) + (hdB (r.blocks.getD i0 spD).h).length + 6 + 6 * evs.length = most0 r + moR (r.blocks.take (i0 + 1)) := by rw [mo_next _ _ (show i0 < r.blocks.length by omega), moS, hel]; omega
    have hM : Nt (most0 r + moR (r.blocks.take i0) ≤ 97300000 + 180060000 ∧ (hdB (r.blocks.getD i0 spD).h).length ≤ 3000000 ∧ evs.length ≤ 80 ∧ most0 r + moR (r.blocks.take (i0 + 1)) ≤ 97300000 + 180060000) := ⟨by have := hm0.h; have := mo_all i0 hok.b hsm.b hft.b hsm.bl; omega, hdB_len _ hxo.z (hft.b _ hm) hxs.h, by omega, by have := hm0.h; have := mo_all (i0 + 1) hok.b hsm.b hft.b hsm.bl; omega⟩
    refine ACode.any mixed Kz ?_
    refine AnyA.float (Hq := (upd H k (some (rpblk r (.slice xA r.path.length xa) (.slice xB r.sch.length xb) (.slice xC r.blocks.length xc))))) [(0, 92), (1, 93), (2, 94), (3, 95), (4, 96), (5, 97), (6, 98), (11, 103), (12, 104), (13, 105), (14, 106), (15, 107), (16, 108), (17, 109), (18, 110)] [7, 8, 9, 10, 19, 20] Kz (Nat.le_of_ble_eq_true rfl) Kz subB ?_
    refine DrawF.q 0 92 [(16, none)] rfl Kz rfl (fun Hc kq hSb => AOp.move' (.inl rfl) rfl Tz) ?_
    refine DrawF.q 1 93 [(2, none)] rfl Kz rfl (fun Hc kq hSb => AOp.fieldAddr' rfl Dz rfl Tz) ?_
    refine DrawF.q 2 94 [(93, some 1)] rfl Kz rfl (fun Hc kq hSb => have tSb := SubS.of hSb; AOp.load1 (b := (rpblk r (.slice xA r.path.length xa) (.slice xB r.sch.length xb) (.slice xC r.blocks.length xc))) (v := .slice xC r.blocks.length xc) rfl rfl hpB (rpc_at _ _ _ _).2.2 Tz) ?_
    refine DrawF.q 3 95 [(17, none)] rfl Kz rfl (fun Hc kq hSb => AOp.move' (.inl rfl) rfl Tz) ?_
    refine DrawF.q 4 96 [(94, some 2), (95, some 3)] rfl Kz rfl (fun Hc kq hSb => have tSb := SubS.of hSb; AOp.indexP (aslcAt_sub subB qe) rfl rfl rfl Tz) ?_
    refine DrawF.q 5 97 [(96, some 4)] rfl Kz rfl (fun Hc kq hSb => have tSb := SubS.of hSb; AOp.fieldP (PAt.sub le subB) rfl Dz (by rw [spc_len]; decide) rfl Tz) ?_
    refine DrawF.q 6 98 [(97, some 5)] rfl Kz rfl (fun Hc kq hSb => have tSb := SubS.of hSb; AOp.loadPre (hdc (r.blocks.getD i0 spD).h (.slice eA1 (r.blocks.getD i0 spD).h.cols.length ec1)) (hdv (r.blocks.getD i0 spD).h (.slice eA1 (r.blocks.getD i0 spD).h.cols.length ec1)) (PAt.sub le subB) rfl (spc_head _ _ _ _) (by rw [spc_len]; decide) Dz rfl rfl Tz) ?_
    refine DrawF.q 11 103 [(2, none)] rfl Kz rfl (fun Hc kq hSb => AOp.fieldAddr' rfl Dz rfl Tz) ?_
    refine DrawF.q 12 104 [(103, some 11)] rfl Kz rfl (fun Hc kq hSb => have tSb := SubS.of hSb; AOp.load1 (b := (rpblk r (.slice xA r.path.length xa) (.slice xB r.sch.length xb) (.slice xC r.blocks.length xc))) (v := .slice xC r.blocks.length xc) rfl rfl hpB (rpc_at _ _ _ _).2.2 Tz) ?_
    refine DrawF.q 13 105 [(17, none)] rfl Kz rfl (fun Hc kq hSb => AOp.move' (.inl rfl) rfl Tz) ?_
    refine DrawF.q 14 106 [(104, some 12), (105, some 13)] rfl Kz rfl (fun Hc kq hSb => have tSb := SubS.of hSb; AOp.indexP (aslcAt_sub subB qe) rfl rfl rfl Tz) ?_
    refine DrawF.q 15 107 [(106, some 14)] rfl Kz rfl (fun Hc kq hSb => have tSb := SubS.of hSb; AOp.fieldP (PAt.sub le subB) rfl Dz (by rw [spc_len]; decide) rfl Tz) ?_
    refine DrawF.q 16 108 [(107, some 15)] rfl Kz rfl (fun Hc kq hSb => have tSb := SubS.of hSb; AOp.loadP1 (d := 37) (v := .slice eA3 evs.length ec3) (PAt.sub le subB) rfl rfl (spc_at _ _ _ _).2.2 Tz) ?_
    refine DrawF.q 17 109 [(108, some 16)] rfl Kz rfl (fun Hc kq hSb => AOp.len' rfl rfl Tz) ?_
    refine DrawF.q 18 110 [(109, some 17)] rfl Kz rfl (fun Hc kq hSb => AOp.bin' (z := .int .i64 (((6 * evs.length) : Nat) : Int)) rfl rfl rfl (congrArg (fun z => some (Value.int .i64 z)) (mul64 (a := 6) (b := evs.length) (c := (6 * evs.length)) (by first | rfl | omega) (by have := hM.h; have := hm0.h; omega))) Tz) ?_
    refine DrawF.done ?_
    show aOpsF _ _ _ _ _ _ [7, 8, 9, 10, 19, 20] ⟨_, _, _⟩
    refine aOpsF_1 [98] rfl rfl Kz rfl ?_
    refine AOp.call' rfl rfl rfl (rputH _ _ (r.blocks.getD i0 spD).h eA1 ec1 (eh1.sub subB) hxo.z (hft.b _ hm) hxs.h ex) ?_
    rintro _ _ ky ⟨y, hy1, hy2, rfl, rfl⟩
    refine ⟨by exact subB, ?_⟩
    refine aOpsF_1 [99] rfl rfl Kz rfl (AOp.len' rfl rfl ?_)
    refine ⟨by exact subB, ?_⟩
    refine aOpsF_1 [92, 100] rfl rfl Kz rfl (AOp.bin' (z := .int .i64 ((((most0 r + moR (r.blocks.take i0)) + (hdB (r.blocks.getD i0 spD).h).length) : Nat) : Int)) rfl rfl rfl (congrArg (fun z => some (Value.int .i64 z)) (add64 (a := (most0 r + moR (r.blocks.take i0))) (b := (hdB (r.blocks.getD i0 spD).h).length) (c := ((most0 r + moR (r.blocks.take i0)) + (hdB (r.blocks.getD i0 spD).h).length)) (by first | rfl | omega) (by have := hM.h; have := hm0.h; omega))) ?_)
    refine ⟨by exact subB, ?_⟩
    refine aOpsF_1 [101] rfl rfl Kz rfl (AOp.bin' (z := .int .i64 ((((most0 r + moR (r.blocks.take i0)) + (hdB (r.blocks.getD i0 spD).h).length + 6) : Nat) : Int)) rfl rfl rfl (congrArg (fun z => some (Value.int .i64 z)) (add64 (a := ((most0 r + moR (r.blocks.take i0)) + (hdB (r.blocks.getD i0 spD).h).length)) (b := 6) (c := ((most0 r + moR (r.blocks.take i0)) + (hdB (r.blocks.getD i0 spD).h).length + 6)) (by first | rfl | omega) (by have := hM.h; have := hm0.h; omega))) ?_)
    refine ⟨by exact subB, ?_⟩
    refine aOpsF_1 [102, 110] rfl rfl Kz rfl (AOp.bin' (z := .int .i64 (((most0 r + moR (r.blocks.take (i0 + 1))) : Nat) : Int)) rfl rfl rfl (congrArg (fun z => some (Value.int .i64 z)) (add64 (a := ((most0 r + moR (r.blocks.take i0)) + (hdB (r.blocks.getD i0 spD).h).length + 6)) (b := (6 * evs.length)) (c := (most0 r + moR (r.blocks.take (i0 + 1)))) (by exact e4) (by have := hM.h; have := hm0.h; omega))) ?_)
    refine ⟨by exact subB, ?_⟩
    refine aOpsF_1 [111] rfl rfl Kz rfl (AOp.move' (.inr rfl) rfl ?_)
    refine ⟨by exact subB, ?_⟩
    refine aOpsF_end ?_
    refine Rz [0, 1, 2] Kz rfl ?_
    refine Mz ?_
    refine Oz rfl rfl rfl (AOp.add rfl rfl rfl (i64_wrap Wz Wz) ?_)
    refine Nz ?_
    refine Ez ?_
    first | refine thenA_n ?_ | simp only [thenA, blockA, if_true]
    exact NextR.mk Wz Wz (.cons rfl (.cons rfl .nil)) Xz subB trivial
   ·try simp only [Cz] at c3
    refine ACode.exit ?_
    refine Sz ?_
    have h2L : HL0 1 = some hBlk := hsL0 _ _ h2N
    refine Rz [0, 1, 2, 3, 4, 5, 6, 7] Kz rfl ?_
    refine Mz ?_
    refine Oz rfl rfl rfl (AOp.len' rfl rfl ?_)
    refine Mz ?_
    refine Oz rfl rfl rfl (AOp.bin' rfl rfl rfl rfl ?_)
    refine Mz ?_
    refine aOps_gd rfl rfl (wantT rfl rfl rfl) (fun hc => AOp.slots [] .nil (AOp.call' rfl rfl rfl (awake29 _ _ h2L) Iz)) (fun kq hkq => ?_)
    refine Oz rfl rfl rfl (AOp.pickAnd rfl rfl rfl (fun hb => gvE rfl hb) ?_)
    refine Nz ?_
    refine Ez ?_
    refine ACode.ret ?_
    try simp only [thenA, blockA, if_true]
    have hle := rpB_le hyes hok hsm
    have e8 : r.blocks.take i0 = r.blocks := List.take_of_length_le Wz
    rw [← e8] at hle
    exact RetQ.one rfl rfl subB stays (fun hk => by simp; omega)
end

end Go.Proofs.YteoofihjmldllaaDoor
