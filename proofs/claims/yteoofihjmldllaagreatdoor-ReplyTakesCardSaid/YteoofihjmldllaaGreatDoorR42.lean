/- Contracts over the abstract states: headers out of the reference's readers. -/
import Derived.Test.YteoofihjmldllaaGreatDoorR41
set_option linter.unusedVariables false
set_option linter.unusedSimpArgs false
set_option maxRecDepth 100000
namespace Go.Proofs.YteoofihjmldllaaGreatDoor
open Go Go.Ab

theorem hdEnd_e0 {r : Rd} {cols : List Col} (h : (hdEnd r cols).e = 0) : (hdRun r cols.length).2.e = 0 := Decidable.byContradiction fun hc => by
 rw [hdEnd_bad hc] at h
 exact hc h
theorem hdRun_end {r : Rd} {n i : Nat} (h : hdRun r n = runR chStep (n - i) (hdIt r i)) (hi : i = n ∨ (hdIt r i).2.e ≠ 0) : hdRun r n = hdIt r i := by
 rcases hi with hi | hi
 ·rw [h, hi, Nat.sub_self]; rfl
 ·rw [h, runR_err hi]
/-- A zone ahead of the check of its mark. -/
def Rd.zoneA (r : Rd) : Zn × Rd := if r.num.2.fix1.1 = 1 then (⟨r.num.1, true, (takeV r.num.2.fix1.2).1, (takeV (takeV r.num.2.fix1.2).2).1⟩, (takeV (takeV r.num.2.fix1.2).2).2) else (⟨r.num.1, false, vD, vD⟩, r.num.2.fix1.2)
theorem Rd.zoneA_t {r : Rd} (h : r.num.2.fix1.1 = 1) : r.zoneA = (⟨r.num.1, true, (takeV r.num.2.fix1.2).1, (takeV (takeV r.num.2.fix1.2).2).1⟩, (takeV (takeV r.num.2.fix1.2).2).2) := if_pos h
theorem Rd.zoneA_f {r : Rd} (h : ¬ r.num.2.fix1.1 = 1) : r.zoneA = (⟨r.num.1, false, vD, vD⟩, r.num.2.fix1.2) := if_neg h
theorem Rd.zone_big {r : Rd} (h : r.num.2.fix1.1 > 1) : r.zone = (r.zoneA.1, r.zoneA.2.fail 4) := by rw [Rd.zone2 Wz Wz, Rd.zoneA_f Wz]
theorem Rd.zone_small {r : Rd} (h : ¬ r.num.2.fix1.1 > 1) : r.zone = r.zoneA := by
 by_cases h1 : r.num.2.fix1.1 = 1
 ·rw [Rd.zone1 h1, Rd.zoneA_t h1]
 ·rw [Rd.zone0 Wz, Rd.zoneA_f h1]
section
variable (H : Hp) (k : Nat)

set_option maxHeartbeats 1000000 in
theorem rtakeH (n c : Nat) (A : Option Addr) (r : Rd) (hR : RfN H n A c r) (cols : List Col) (B : Option Addr) (d : Nat) (hC : SLC H 3 B cols.length d (cols3 cols)) (hCn : Away B cols.length n) (hcl : cols.length ≤ 1000000) : ACalls Tryz.prog 2 48 [ptr n 0 none, .slice B cols.length d] H k (fun v H' k' => NewHd H' k k' (r.head cols).1 v ∧ RfP H k n A c (r.head cols).2 H' k') := by
 refine ACalls.fresh fun hf => ?_
 refine ACalls.body Tryz.func48 rfl (Nat.le_of_ble_eq_true rfl) ?_
 have hn := hR.hn
 have hnk := old_lt hf hn
 have hok := hR.ok
 have hal := hok.at_le
 have hle := hok.len
 have hAk : Away A r.bs.length k := Away.of hR.hs (hf k (Nat.le_refl k))
 have hHk := hf k (Nat.le_refl k)
 have hk0 : (upd H n none) k = none := none_n hHk
 have hCk : SLC (upd H n none) 3 B cols.length d (cols3 cols) := SLC.away hCn hC
 refine Sz ?_
 refine Rz [0] Kz rfl ?_
 refine Oz rfl rfl rfl (AOp.alloc' rfl ?_)
 refine Ez (Sz (Rz [0, 1, 2, 3, 4] Kz rfl ?_))
 refine Mz ?_
 refine Oz rfl rfl rfl ?_
 refine AOp.call' rfl rfl rfl (rnum _ _ n c A r (hR.sub subB)) ?_
 rintro _ HLa ka ⟨rfl, hPa⟩
 have hka := hPa.1
 have hfLa := hPa.2.1
 have hsLa := hPa.2.2.1
 have hRa := hPa.2.2.2
 have hna := hRa.hn
 have thsLa := SubS.of hsLa
 have hka_ : HLa k = some (hdblk hdD NIL) := hsLa _ _ (Uz (upd_same _ _ _))
 have hSa : Ab.Sub (upd H n none) HLa := sub_cutn (sub_new (sub_drop (sub_refl H)) hk0) hsLa
 have hAq : Away A r.bs.length ka := by have h := Away.of hRa.hs (hfLa ka (Nat.le_refl _)); rw [Rd.num_bs] at h; exact h
 have hbb : r.num.2.num.2.bs = r.bs := (Rd.num_bs _).trans r.num_bs
 refine Oz rfl rfl rfl (AOp.buildS (cells := (hdc ⟨r.num.1, 0, zeroD, []⟩ NIL).toArray) rfl rfl rfl ?_)
 refine Oz rfl rfl rfl (AOp.alloc' rfl ?_)
 refine aOps_0 rfl rfl rfl ?_
 refine AOp.storeAll (b := ?b1) rfl rfl rfl ?hn1 ?hk1 rfl ?hw1 ?ho1 ?hl1 ?hR1
 (case hn1 => exact hpB)
 (case hk1 => rfl)
 (case hw1 => first | rfl | exact hv_size _ | exact one_bv _ | exact hdv_size _ _ | exact chc_size _ | exact chc_one _ | exact hdc_one _ _ rfl | (simp; done))
 (case ho1 => first | rfl | exact hv_size _ | exact one_bv _ | exact hdv_size _ _ | exact chc_size _ | exact chc_one _ | exact hdc_one _ _ rfl | decide | (simp; done))
 (case hl1 => first | rfl | exact hv_size _ | exact one_bv _ | exact hdv_size _ _ | exact chc_size _ | exact chc_one _ | exact hdc_one _ _ rfl | (simp; done))
 rw [rd_upd2]
 refine Ez (Sz (Rz [0, 1, 2, 3] Kz rfl ?_))
 refine Mz ?_
 refine Oz rfl rfl rfl ?_
 refine AOp.call' rfl rfl rfl (rnum _ _ n c A r.num.2 (hRa.sub subB)) ?_
 rintro _ HLb kb ⟨rfl, hPb⟩
 have hkb := hPb.1
 have hfLb := hPb.2.1
 have hsLb := hPb.2.2.1
 have hRb := hPb.2.2.2
 have hnb := hRb.hn
 have thsLb := SubS.of hsLb
 have hkb_ : HLb k = some (hdblk hdD NIL) := hsLb _ _ (Uz (Uz hka_))
 have hqb : HLb ka = some (hdblk ⟨r.num.1, 0, zeroD, []⟩ NIL) := hsLb _ _ (Uz (upd_same _ _ _))
 have hSb := sub_cutn (sub_new hSa (none_n (hf ka Wz))) hsLb
 have hRb1 : RfN (upd HLb ka (some (hdblk ⟨r.num.1, r.num.2.num.1, zeroD, []⟩ NIL))) n A c r.num.2.num.2 := hRb.away Wz (by rw [hbb]; exact hAq)
 refine Fz ?_
 refine aOps_0 rfl rfl rfl (AOp.store1 (b := hdblk ⟨r.num.1, 0, zeroD, []⟩ NIL) rfl rfl rfl hqb rfl rfl rfl (by show 1 < (hdc _ _).length; rw [hdc_len]; decide) ?_)
 refine Ez (Sz (Rz [0, 1, 2, 3] Kz rfl ?_))
 refine Mz ?_
 refine Oz rfl rfl rfl ?_
 refine AOp.call' rfl rfl rfl (rhash_18 _ _ n c A r.num.2.num.2 hRb1) ?_
 rintro _ HLd kd ⟨rfl, hPd⟩
 have hkd := hPd.1
 have hfLd := hPd.2.1
 have hsLd := hPd.2.2.1
 have hRd := hPd.2.2.2
 have hnd := hRd.hn
 have thsLd := SubS.of hsLd
 have hkd_ : HLd k = some (hdblk hdD NIL) := hsLd _ _ (Uz (Uz hkb_))
 have hqd : HLd ka = some (hdblk ⟨r.num.1, r.num.2.num.1, zeroD, []⟩ NIL) := hsLd _ _ (Uz (upd_same _ _ _))
 have hSd := sub_cutn (sub_new hSb (none_n (hf ka Wz))) hsLd
 refine Fz ?_
 refine aOps_0 rfl rfl rfl (AOp.storeN (b := hdblk ⟨r.num.1, r.num.2.num.1, zeroD, []⟩ NIL) (cs := (r.num.2.num.2.hash.1.l.map bv).toArray) rfl rfl rfl hqd rfl (hv_size _) (one_bvA _) (by show 2 + 32 ≤ (hdc _ _).length; rw [hdc_len]; decide) ?_)
 rw [hdc_put2]
 refine Ez ?_
 refine Sz ?_
 refine Sz ?_
 refine Rz [0] Kz rfl ?_
 refine Nz ?_
 refine Ez ?_
 refine ACode.block ?_
 have hAd : Away A r.bs.length kd := by have h := Away.of hRd.hs (hfLd kd (Nat.le_refl _)); rw [Rd.hash_bs, hbb] at h; exact h
 have hb3 : r.num.2.num.2.hash.2.bs = r.bs := (Rd.hash_bs _).trans hbb
 refine ACode.adoptC 57 40 Dz (n := ka) (b := hdblk ⟨r.num.1, r.num.2.num.1, r.num.2.num.2.hash.1, []⟩ NIL) (j := 34) (upd_same _ _ _) rfl (hdc_s _ _) ?_
 refine ACode.countG (γ := Hp) (fun i g => [(6, .int .i64 (i : Int))]) [(0, _), (1, _), (4, _), (5, _)] (fun i g => g) (cols.length) (fun i g => g kd = some (hwb (hdIt r (i)).1) ∧ g ka = some (hdblk ⟨r.num.1, r.num.2.num.1, r.num.2.num.2.hash.1, []⟩ (.slice (some ⟨kd, 0, some 1⟩) (hdIt r (i)).1.length (hdIt r (i)).1.length)) ∧ g k = some (hdblk hdD NIL) ∧ Ab.Sub (upd H n none) g ∧ RfN g n A c (hdIt r (i)).2 ∧ hdRun r cols.length = runR chStep (cols.length - i) (hdIt r (i))) ((upd (upd (upd HLd ka (some (hdblk ⟨r.num.1, r.num.2.num.1, r.num.2.num.2.hash.1, []⟩ NIL))) kd (some (hwb []))) ka (some (hdblk ⟨r.num.1, r.num.2.num.1, r.num.2.num.2.hash.1, []⟩ (.slice (some ⟨kd, 0, some 1⟩) ([] : List Ch).length ([] : List Ch).length))))) (.cons rfl .nil) Xz (by rw [hdc_set]; exact sub_refl _) ⟨Uz (upd_same _ _ _), upd_same _ _ _, Uz (Uz (Uz hkd_)), sub_new (sub_new (sub_new hSd (none_n (hf ka Wz))) (none_n (hf kd Wz))) (none_n (hf ka Wz)), ((hRd.away Wz (by rw [hb3]; exact hAq)).sub (sub_upd' (sub_refl _) (Uz (hfLd kd (Nat.le_refl _))))).away Wz (by rw [hb3]; exact hAq), rfl⟩ (fun i0 g0 kL0 HL0 hiL0 hkL0 hsL0 hfL0 hxL0 => ?_)
 show ACode _ _ _ _ _ ⟨_, _, _⟩
 have tsL0 := SubS.of hsL0
 obtain ⟨hx1, hx2, hx3, hx4, hx5, hx6⟩ := hxL0
 have hW0_ := hsL0 _ _ hx1
 have hq0_ := hsL0 _ _ hx2
 have hk0_ := hsL0 _ _ hx3
 have hS0 := sub_trans hx4 hsL0
 have hR0 := hx5.sub hsL0
 have hn0 := hR0.hn
 have hbi := hdIt_bs r i0
 have hli := hdIt_len r i0
 have hln1 : (hdIt r (i0)).1.length + 1 = (hdIt r (i0 + 1)).1.length := by rw [hdIt_len, hdIt_len]
 refine Sz ?_
 refine Sz ?_
 refine Rz [0, 1, 2, 3, 4, 5, 6, 7, 8, 9, 10] Kz rfl ?_
 refine Mz ?_
 refine Mz ?_
 refine Oz rfl rfl rfl (AOp.len' rfl rfl ?_)
 refine Oz rfl rfl rfl (AOp.bin' rfl rfl rfl rfl ?_)
 refine Mz ?_
 refine aOps_gd0 rfl rfl (wantT rfl rfl rfl) (fun hc => AOp.slots [(0, _)] (.cons rfl .nil) (AOp.move' (.inl rfl) rfl Tz)) ?_
 refine aOps_gd0 rfl rfl (wantT rfl rfl rfl) (fun hc => AOp.slots [(23, _)] (.cons (gvT rfl hc) .nil) (AOp.nilCheck' rfl rfl Tz)) ?_
 refine aOps_gd0 rfl rfl (wantT rfl rfl rfl) (fun hc => AOp.slots [(24, _)] (.cons (gvT rfl hc) .nil) (AOp.fieldAddr' rfl Dz rfl Tz)) ?_
 refine aOps_gd0 rfl rfl (wantT rfl rfl rfl) (fun hc => AOp.slots [(25, _)] (.cons (gvT rfl hc) .nil) (AOp.load1 (b := rfBlk A c (hdIt r (i0)).2) (v := .int .i64 (hdIt r (i0)).2.e) rfl rfl hpB rfl Tz)) ?_
 refine aOps_gd0 rfl rfl (wantT rfl rfl rfl) (fun hc => AOp.slots [(26, _)] (.cons (gvT rfl hc) .nil) (AOp.bin' rfl rfl rfl rfl Tz)) ?_
 refine Oz rfl rfl rfl (AOp.pickAnd rfl rfl rfl (fun hb => gvE rfl hb) ?_)
 refine Ez ?_
 refine ACode.cond rfl (fun c0 => ?_) (fun c0 => ?_)
 ·try simp only [Cz] at c0
  have c0b : i0 < cols.length ∧ (hdIt r (i0)).2.e = 0 := by simp at c0; omega
  refine ACode.skip ?_
  refine Sz ?_
  refine ACode.block ?_
  refine Sz ?_
  refine Rz [0, 1, 2, 3, 4] Kz rfl ?_
  refine Mz ?_
  refine Oz rfl rfl rfl ?_
  refine AOp.call' rfl rfl rfl (rnum _ _ n c A (hdIt r (i0)).2 (hR0.sub subB)) ?_
  rintro _ HLu ku ⟨rfl, hPu⟩
  have hku := hPu.1
  have hfLu := hPu.2.1
  have hsLu := hPu.2.2.1
  have hRu := hPu.2.2.2
  have hnu := hRu.hn
  have thsLu := SubS.of hsLu
  have hku : HLu k = some (hdblk hdD NIL) := hsLu _ _ (Uz hk0_)
  have hqu : HLu ka = some (hdblk ⟨r.num.1, r.num.2.num.1, r.num.2.num.2.hash.1, []⟩ (.slice (some ⟨kd, 0, some 1⟩) (hdIt r (i0)).1.length (hdIt r (i0)).1.length)) := hsLu _ _ (Uz hq0_)
  have hWu : HLu kd = some (hwb (hdIt r (i0)).1) := hsLu _ _ (Uz hW0_)
  have hSu := sub_cutn hS0 hsLu
  have hAz : Away A r.bs.length ku := by have h := Away.of hRu.hs (hfLu ku (Nat.le_refl _)); rw [Rd.num_bs, hdIt_bs] at h; exact h
  have hbu : (hdIt r (i0)).2.num.2.bs = r.bs := (Rd.num_bs _).trans hbi
  refine Oz rfl rfl rfl (AOp.buildS (cells := (znc ⟨(hdIt r (i0)).2.num.1, false, vD, vD⟩).toArray) rfl rfl rfl ?_)
  refine Oz rfl rfl rfl (AOp.alloc' rfl ?_)
  refine aOps_0 rfl rfl rfl ?_
  refine AOp.storeAll (b := ?b2) rfl rfl rfl ?hn2 ?hk2 rfl ?hw2 ?ho2 ?hl2 ?hR2
  (case hn2 => exact hpB)
  (case hk2 => rfl)
  (case hw2 => first | rfl | exact hv_size _ | exact one_bv _ | exact hdv_size _ _ | exact chc_size _ | exact chc_one _ | exact hdc_one _ _ rfl | (simp; done))
  (case ho2 => first | rfl | exact hv_size _ | exact one_bv _ | exact hdv_size _ _ | exact chc_size _ | exact chc_one _ | exact hdc_one _ _ rfl | decide | (simp; done))
  (case hl2 => first | rfl | exact hv_size _ | exact one_bv _ | exact hdv_size _ _ | exact chc_size _ | exact chc_one _ | exact hdc_one _ _ rfl | (simp; done))
  rw [rd_upd2]
  refine Ez (Sz (Rz [0, 1, 2] Kz rfl ?_))
  refine Mz ?_
  refine Oz rfl rfl rfl ?_
  refine AOp.call' rfl rfl rfl (rfix1 _ _ n c A (hdIt r (i0)).2.num.2 (hRu.sub subB)) ?_
  rintro _ HLv kv ⟨rfl, hPv⟩
  have hkv := hPv.1
  have hfLv := hPv.2.1
  have hsLv := hPv.2.2.1
  have hRv := hPv.2.2.2
  have hnv := hRv.hn
  have thsLv := SubS.of hsLv
  have hkv : HLv k = some (hdblk hdD NIL) := hsLv _ _ (Uz (Uz hku))
  have hqv : HLv ka = some (hdblk ⟨r.num.1, r.num.2.num.1, r.num.2.num.2.hash.1, []⟩ (.slice (some ⟨kd, 0, some 1⟩) (hdIt r (i0)).1.length (hdIt r (i0)).1.length)) := hsLv _ _ (Uz (Uz hqu))
  have hWv : HLv kd = some (hwb (hdIt r (i0)).1) := hsLv _ _ (Uz (Uz hWu))
  have hzv : HLv ku = some (zblk ⟨(hdIt r (i0)).2.num.1, false, vD, vD⟩) := hsLv _ _ (Uz (upd_same _ _ _))
  have hSv := sub_cutn (sub_new hSu (none_n (hf ku Wz))) hsLv
  have hbv : (hdIt r (i0)).2.num.2.fix1.2.bs = r.bs := (Rd.fix1_bs _).trans hbu
  have hRv2 : RfN (upd HLv ku (some (zblk ⟨(hdIt r (i0)).2.num.1, true, vD, vD⟩))) n A c (hdIt r (i0)).2.num.2.fix1.2 := hRv.away Wz (by rw [hbv]; exact hAz)
  refine Nz ?_
  refine Ez ?_
  refine ACode.meet (γ := Unit) (fun g => []) [(0, _), (1, _), (4, _), (5, _), (6, _), (7, _), (8, _), (18, _), (19, _), (20, _), (21, _), (22, _), (23, _), (24, _), (25, _), (26, _), (27, _), (28, _), (31, _), (32, _), (33, _), (34, _), (35, _)] Xz (fun g H' k' => H' ku = some (zblk ((hdIt r (i0)).2.zoneA).1) ∧ H' k = some (hdblk hdD NIL) ∧ H' ka = some (hdblk ⟨r.num.1, r.num.2.num.1, r.num.2.num.2.hash.1, []⟩ (.slice (some ⟨kd, 0, some 1⟩) (hdIt r (i0)).1.length (hdIt r (i0)).1.length)) ∧ H' kd = some (hwb (hdIt r (i0)).1) ∧ Ab.Sub (upd H n none) H' ∧ RfN H' n A c ((hdIt r (i0)).2.zoneA).2) ?_ (fun g HLz kz hfLz hXz => ?_)
  ·show ACode _ _ _ _ _ _
   refine Sz ?_
   refine Rz [0, 1] Kz rfl ?_
   refine Mz ?_
   refine Oz rfl rfl rfl (AOp.bin' rfl rfl rfl rfl ?_)
   refine Ez ?_
   refine ACode.cond rfl (fun c1 => ?_) (fun c1 => ?_)
   ·try simp only [Cz] at c1
    have hone : (hdIt r (i0)).2.num.2.fix1.1 = 1 := by omega
    refine Sz ?_
    refine Rz [0, 1] Kz rfl ?_
    refine Fz ?_
    refine aOps_0 rfl rfl rfl ?_
    refine AOp.store1 (b := ?b3) rfl rfl rfl ?hn3 ?hk3 rfl rfl ?hl3 ?hR3
    (case hn3 => exact hpB)
    (case hk3 => rfl)
    (case hl3 => first | (simp; done) | exact Nat.le_of_ble_eq_true rfl)
    refine Ez (Sz (Rz [0, 1, 2, 3] Kz rfl ?_))
    refine Mz ?_
    refine Oz rfl rfl rfl ?_
    refine AOp.call' rfl rfl rfl (rtakeV _ _ n c A (hdIt r (i0)).2.num.2.fix1.2 hRv2) ?_
    rintro _ HLp kp ⟨rfl, hPp⟩
    have hkp := hPp.1
    have hfLp := hPp.2.1
    have hsLp := hPp.2.2.1
    have hRp := hPp.2.2.2
    have hnp := hRp.hn
    have thsLp := SubS.of hsLp
    have hkp : HLp k = some (hdblk hdD NIL) := hsLp _ _ (Uz (Uz hkv))
    have hqp : HLp ka = some (hdblk ⟨r.num.1, r.num.2.num.1, r.num.2.num.2.hash.1, []⟩ (.slice (some ⟨kd, 0, some 1⟩) (hdIt r (i0)).1.length (hdIt r (i0)).1.length)) := hsLp _ _ (Uz (Uz hqv))
    have hWp : HLp kd = some (hwb (hdIt r (i0)).1) := hsLp _ _ (Uz (Uz hWv))
    have hzp : HLp ku = some (zblk ⟨(hdIt r (i0)).2.num.1, true, vD, vD⟩) := hsLp _ _ (Uz (upd_same _ _ _))
    have hSp := sub_cutn (sub_new hSv (none_n (hf ku Wz))) hsLp
    have hbp : (takeV (hdIt r (i0)).2.num.2.fix1.2).2.bs = r.bs := (takeV_bs _).trans hbv
    have hRp2 : RfN (upd HLp ku (some (zblk ⟨(hdIt r (i0)).2.num.1, true, (takeV (hdIt r (i0)).2.num.2.fix1.2).1, vD⟩))) n A c (takeV (hdIt r (i0)).2.num.2.fix1.2).2 := hRp.away Wz (by rw [hbp]; exact hAz)
    refine Fz ?_
    refine aOps_0 rfl rfl rfl (AOp.storeN (z := 3) (cs := (vv (takeV (hdIt r (i0)).2.num.2.fix1.2).1).cells) (b := zblk ⟨(hdIt r (i0)).2.num.1, true, vD, vD⟩) rfl rfl rfl hzp rfl rfl (vv_one _) (by show 2 + 3 ≤ 8; decide) ?_)
    refine Ez ?_
    refine Rz [0, 1, 2, 3] Kz rfl ?_
    refine Mz ?_
    refine Oz rfl rfl rfl ?_
    refine AOp.call' rfl rfl rfl (rtakeV _ _ n c A (takeV (hdIt r (i0)).2.num.2.fix1.2).2 hRp2) ?_
    rintro _ HLs ks ⟨rfl, hPs⟩
    have hks := hPs.1
    have hfLs := hPs.2.1
    have hsLs := hPs.2.2.1
    have hRs := hPs.2.2.2
    have hns := hRs.hn
    have thsLs := SubS.of hsLs
    have hks : HLs k = some (hdblk hdD NIL) := hsLs _ _ (Uz (Uz hkp))
    have hqs : HLs ka = some (hdblk ⟨r.num.1, r.num.2.num.1, r.num.2.num.2.hash.1, []⟩ (.slice (some ⟨kd, 0, some 1⟩) (hdIt r (i0)).1.length (hdIt r (i0)).1.length)) := hsLs _ _ (Uz (Uz hqp))
    have hWs : HLs kd = some (hwb (hdIt r (i0)).1) := hsLs _ _ (Uz (Uz hWp))
    have hzs : HLs ku = some (zblk ⟨(hdIt r (i0)).2.num.1, true, (takeV (hdIt r (i0)).2.num.2.fix1.2).1, vD⟩) := hsLs _ _ (Uz (upd_same _ _ _))
    have hSs := sub_cutn (sub_new hSp (none_n (hf ku Wz))) hsLs
    have hbs9 : (takeV (takeV (hdIt r (i0)).2.num.2.fix1.2).2).2.bs = r.bs := (takeV_bs _).trans hbp
    refine Fz ?_
    refine aOps_0 rfl rfl rfl (AOp.storeN (z := 3) (cs := (vv (takeV (takeV (hdIt r (i0)).2.num.2.fix1.2).2).1).cells) (b := zblk ⟨(hdIt r (i0)).2.num.1, true, (takeV (hdIt r (i0)).2.num.2.fix1.2).1, vD⟩) rfl rfl rfl hzs rfl rfl (vv_one _) (by show 5 + 3 ≤ 8; decide) ?_)
    refine Ez ?_
    rw [Rd.zoneA_t hone]
    first | refine thenA_n ?_ | simp only [thenA, blockA, if_true]
    exact ⟨(), has_append .nil Xz, (by (try dsimp only); exact ⟨upd_same _ _ _, Uz hks, Uz hqs, Uz hWs, sub_new hSs (none_n (hf ku Wz)), hRs.away Wz (by rw [hbs9]; exact hAz)⟩)⟩
   ·try simp only [Cz] at c1
    have hone : ¬ (hdIt r (i0)).2.num.2.fix1.1 = 1 := by omega
    refine ACode.skip ?_
    rw [Rd.zoneA_f hone]
    first | refine thenA_n ?_ | simp only [thenA, blockA, if_true]
    exact ⟨(), has_append .nil Xz, (by (try dsimp only); exact ⟨hzv, hkv, hqv, hWv, hSv, hRv⟩)⟩
  ·show ACode _ _ _ _ _ ⟨_, _, _⟩
   obtain ⟨hzz, hkz, hqz, hWz, hSz, hRz⟩ := hXz
   have hkuz := old_lt hfLz hzz
   refine ACode.meet (γ := Unit) (fun g => []) [(0, _), (1, _), (4, _), (5, _), (6, _), (7, _), (8, _), (18, _), (19, _), (20, _), (21, _), (22, _), (23, _), (24, _), (25, _), (26, _), (27, _), (28, _), (31, _), (32, _), (33, _), (34, _), (35, _)] Xz (fun g H' k' => H' ku = some (zblk (hdIt r (i0)).2.zone.1) ∧ H' k = some (hdblk hdD NIL) ∧ H' ka = some (hdblk ⟨r.num.1, r.num.2.num.1, r.num.2.num.2.hash.1, []⟩ (.slice (some ⟨kd, 0, some 1⟩) (hdIt r (i0)).1.length (hdIt r (i0)).1.length)) ∧ H' kd = some (hwb (hdIt r (i0)).1) ∧ Ab.Sub (upd H n none) H' ∧ RfN H' n A c (hdIt r (i0)).2.zone.2) ?_ (fun g HLy ky hfLy hXy => ?_)
   ·show ACode _ _ _ _ _ _
    refine Sz ?_
    refine Rz [0, 1] Kz rfl ?_
    refine Mz ?_
    refine Oz rfl rfl rfl (AOp.bin' rfl rfl rfl rfl ?_)
    refine Ez ?_
    refine ACode.cond rfl (fun c2 => ?_) (fun c2 => ?_)
    ·try simp only [Cz] at c2
     have hbig : (hdIt r (i0)).2.num.2.fix1.1 > 1 := by omega
     refine Rz [0, 1] Kz rfl ?_
     refine Mz ?_
     refine Oz rfl rfl rfl ?_
     refine AOp.call' rfl rfl rfl (rfail _ _ n c A ((hdIt r (i0)).2.zoneA).2 (hRz.sub subB) 4 Dz Dz) ?_
     rintro _ HLx kx ⟨rfl, hPx⟩
     have hkx := hPx.1
     have hfLx := hPx.2.1
     have hsLx := hPx.2.2.1
     have hRx := hPx.2.2.2
     have hnx := hRx.hn
     have thsLx := SubS.of hsLx
     have hkx : HLx k = some (hdblk hdD NIL) := hsLx _ _ (Uz hkz)
     have hqx : HLx ka = some (hdblk ⟨r.num.1, r.num.2.num.1, r.num.2.num.2.hash.1, []⟩ (.slice (some ⟨kd, 0, some 1⟩) (hdIt r (i0)).1.length (hdIt r (i0)).1.length)) := hsLx _ _ (Uz hqz)
     have hWx : HLx kd = some (hwb (hdIt r (i0)).1) := hsLx _ _ (Uz hWz)
     have hzx : HLx ku = some (zblk ((hdIt r (i0)).2.zoneA).1) := hsLx _ _ (Uz hzz)
     have hSx := sub_cutn hSz hsLx
     refine Ez ?_
     rw [Rd.zone_big hbig]
     first | refine thenA_n ?_ | simp only [thenA, blockA, if_true]
     exact ⟨(), has_append .nil Xz, (by (try dsimp only); exact ⟨hzx, hkx, hqx, hWx, hSx, hRx⟩)⟩
    ·try simp only [Cz] at c2
     have hbig : ¬ (hdIt r (i0)).2.num.2.fix1.1 > 1 := by omega
     refine ACode.skip ?_
     rw [Rd.zone_small hbig]
     first | refine thenA_n ?_ | simp only [thenA, blockA, if_true]
     exact ⟨(), has_append .nil Xz, (by (try dsimp only); exact ⟨hzz, hkz, hqz, hWz, hSz, hRz⟩)⟩
   ·show ACode _ _ _ _ _ ⟨_, _, _⟩
    obtain ⟨hzy, hky, hqy, hWy, hSy, hRy⟩ := hXy
    have hkuy := old_lt hfLy hzy
    refine ACode.any mixed Kz ?_
    refine AnyA.split 8 Kz Kz Dz Dz (Nat.le_of_ble_eq_true rfl) ?_
    refine AnyA.float (Hq := (upd (upd (fun _ => none) ka (some (hdblk ⟨r.num.1, r.num.2.num.1, r.num.2.num.2.hash.1, []⟩ (.slice (some ⟨kd, 0, some 1⟩) (hdIt r (i0)).1.length (hdIt r (i0)).1.length)))) ku (some (zblk (hdIt r (i0)).2.zone.1)))) [(0, 49), (1, 50), (2, 51), (3, 52)] [4, 5, 6, 7] Kz (Nat.le_of_ble_eq_true rfl) Kz subB ?_
    refine DrawF.q 0 49 [(5, none)] rfl Kz rfl (fun Hc kq hSb => AOp.fieldAddr' rfl Dz rfl Tz) ?_
    refine DrawF.q 1 50 [(49, some 0)] rfl Kz rfl (fun Hc kq hSb => have tSb := SubS.of hSb; AOp.load1 (b := (hdblk ⟨r.num.1, r.num.2.num.1, r.num.2.num.2.hash.1, []⟩ (.slice (some ⟨kd, 0, some 1⟩) (hdIt r (i0)).1.length (hdIt r (i0)).1.length))) (v := (.slice (some ⟨kd, 0, some 1⟩) (hdIt r (i0)).1.length (hdIt r (i0)).1.length)) rfl rfl hpB (hdc_s _ _) Tz) ?_
    refine DrawF.q 2 51 [(7, none)] rfl Kz rfl (fun Hc kq hSb => have tSb := SubS.of hSb; (by refine AOp.loadAll (b := ?b4) (v := zv (hdIt r (i0)).2.zone.1) rfl rfl ?hn4 ?hv4 ?hw4 ?hz4 ?hR4; (case hn4 => exact hpB); (case hv4 => rfl); (case hw4 => rfl); (case hz4 => first | rfl | exact hv_size _ | exact one_bv _ | exact hdv_size _ _ | exact chc_size _ | exact chc_one _ | exact hdc_one _ _ rfl | (simp; done)); exact Tz)) ?_
    refine DrawF.q 3 52 [(0, none)] rfl Kz rfl (fun Hc kq hSb => AOp.move' (.inl rfl) rfl Tz) ?_
    refine DrawF.done ?_
    show aOpsF _ _ _ _ _ _ [4, 5, 6, 7] ⟨_, _, _⟩
    refine aOpsF_1 [52] rfl rfl Kz rfl ?_
    refine AOp.call' rfl rfl rfl (rhash_18 _ _ n c A (hdIt r (i0)).2.zone.2 (hRy.sub subB)) ?_
    rintro _ HLh kh ⟨rfl, hPh⟩
    have hkh := hPh.1
    have hfLh := hPh.2.1
    have hsLh := hPh.2.2.1
    have hRh := hPh.2.2.2
    have hnh := hRh.hn
    have thsLh := SubS.of hsLh
    have hkh : HLh k = some (hdblk hdD NIL) := hsLh _ _ (Uz hky)
    have hqh : HLh ka = some (hdblk ⟨r.num.1, r.num.2.num.1, r.num.2.num.2.hash.1, []⟩ (.slice (some ⟨kd, 0, some 1⟩) (hdIt r (i0)).1.length (hdIt r (i0)).1.length)) := hsLh _ _ (Uz hqy)
    have hWh : HLh kd = some (hwb (hdIt r (i0)).1) := hsLh _ _ (Uz hWy)
    have hSh := sub_cutn hSy hsLh
    have hbz : (hdIt r (i0)).2.zone.2.hash.2.bs = r.bs := hdIt_bs r (i0 + 1)
    refine ⟨by exact subB, ?_⟩
    refine aOpsF_1 [51, 53] rfl rfl Kz rfl (AOp.buildS (cells := (chc (hdCh r i0)).toArray) rfl rfl (by refine (fill_cons (znc (hdIt r (i0)).2.zone.1) rfl rfl rfl (Nat.le_of_ble_eq_true rfl)).trans ?_; refine (fill_cons ((hdIt r (i0)).2.zone.2.hash.1.l.map bv) rfl rfl (hcs_one _) (Nat.le_of_ble_eq_true rfl)).trans ?_; exact congrArg (fun l : List Value => some l.toArray) (ch_fill _ rfl _ _)) ?_)
    refine ⟨by exact subB, ?_⟩
    refine aOpsF_1 [54] rfl rfl Kz rfl (AOp.buildH (chc (hdCh r i0)) rfl (chc_len _) (by show 0 < 40; decide) (by show 40 ≤ 16777216; decide) rfl rfl ?_)
    refine ⟨by exact subB, ?_⟩
    refine aOpsF_1 [50, 55] rfl rfl Kz rfl (AOp.append' (b := hwb (hdIt r (i0)).1) (m := 1) (news := chc (hdCh r i0)) rfl rfl rfl hpB (srcOf_grow (b := cwb (hdCh r i0)) hpB rfl (chc_len _).symm) rfl rfl rfl (chs_len _).symm srcOk_sl (chc_one' _) Wz Wz ?_)
    refine ⟨by exact subB, ?_⟩
    refine aOpsF_end ?_
    refine AnyA.float (Hq := (fun _ => none)) [] [8, 9] Kz (Nat.le_of_ble_eq_true rfl) Kz (sub_none _) ?_
    refine DrawF.done ?_
    show aOpsF _ _ _ _ _ _ [8, 9] ⟨_, _, _⟩
    refine aOpsF_1 [5] rfl rfl Kz rfl (AOp.fieldAddr' rfl Dz rfl ?_)
    refine ⟨sub_none _, ?_⟩
    refine aOpsF_0 [57, 56] rfl rfl Kz rfl (AOp.store1 (b := (hdblk ⟨r.num.1, r.num.2.num.1, r.num.2.num.2.hash.1, []⟩ (.slice (some ⟨kd, 0, some 1⟩) (hdIt r (i0)).1.length (hdIt r (i0)).1.length))) rfl rfl rfl hpB rfl rfl rfl (by show 34 < (hdc _ _).length; rw [hdc_len]; decide) ?_)
    refine ⟨sub_none _, ?_⟩
    rw [hdc_set, ← chs_snoc, hln1]
    refine aOpsF_end ?_
    refine Rz [0, 1, 2] Kz rfl ?_
    refine Mz ?_
    refine Oz rfl rfl rfl (AOp.add rfl rfl rfl (i64_wrap Wz Wz) ?_)
    refine Nz ?_
    refine Ez ?_
    have hRg : RfN (upd (upd (upd HLh kh (some (cwb (hdCh r i0)))) kd (some (hwb ((hdIt r (i0)).1 ++ [(hdCh r i0)])))) ka (some (hdblk ⟨r.num.1, r.num.2.num.1, r.num.2.num.2.hash.1, []⟩ (.slice (some ⟨kd, 0, some 1⟩) (hdIt r (i0 + 1)).1.length (hdIt r (i0 + 1)).1.length)))) n A c (hdIt r (i0 + 1)).2 := (((hRh.sub (sub_upd' (sub_refl _) (hfLh kh (Nat.le_refl _)))).away Wz (by rw [hbz]; exact hAd)).away Wz (by rw [hbz]; exact hAq))
    first | refine thenA_n ?_ | simp only [thenA, blockA, if_true]
    exact NextG.mk Wz Wz ((upd (upd (upd HLh kh (some (cwb (hdCh r i0)))) kd (some (hwb ((hdIt r (i0)).1 ++ [(hdCh r i0)])))) ka (some (hdblk ⟨r.num.1, r.num.2.num.1, r.num.2.num.2.hash.1, []⟩ (.slice (some ⟨kd, 0, some 1⟩) (hdIt r (i0 + 1)).1.length (hdIt r (i0 + 1)).1.length))))) (.cons rfl .nil) Xz (by exact sub_refl _) ⟨Uz (upd_same _ _ _), upd_same _ _ _, Uz (Uz (Uz hkh)), (sub_new (sub_new (sub_new hSh (none_n (hf kh Wz))) (none_n (hf kd Wz))) (none_n (hf ka Wz))), hRg, runR_step hx6 c0b.1 c0b.2⟩
 ·try simp only [Cz] at c0
  have c0b : ¬ (i0 < cols.length ∧ (hdIt r (i0)).2.e = 0) := by simp at c0; omega
  have hrun : hdRun r cols.length = (hdIt r (i0)) := hdRun_end hx6 Wz
  have hof : (hdIt r (i0)).2.e = 0 → hdOf r cols.length = hdAt r i0 := fun h => by unfold hdOf hdAt; rw [hrun]
  refine ACode.exit ?_
  refine ACode.meet (γ := Unit) (fun g => []) [(0, _), (1, _), (4, _), (5, _), (6, _), (18, _), (19, _), (20, _), (21, _), (22, _), (23, _), (24, _), (25, _), (26, _), (27, _), (28, _)] Xz (fun g H' k' => H' k = some (hdblk hdD NIL) ∧ H' ka = some (hdblk ⟨r.num.1, r.num.2.num.1, r.num.2.num.2.hash.1, []⟩ (.slice (some ⟨kd, 0, some 1⟩) (hdIt r (i0)).1.length (hdIt r (i0)).1.length)) ∧ H' kd = some (hwb (hdIt r (i0)).1) ∧ Ab.Sub (upd H n none) H' ∧ RfN H' n A c (hdEnd r cols)) ?_ (fun g HLm km hfLm hXm => ?_)
  ·show ACode _ _ _ _ _ _
   refine Sz ?_
   refine Rz [0, 1, 2, 3, 4, 5, 6, 7, 8, 9, 10] Kz rfl ?_
   refine Mz ?_
   refine Oz rfl rfl rfl (AOp.nilCheck' rfl rfl ?_)
   refine Fz ?_
   refine Oz rfl rfl rfl (AOp.load1 (b := rfBlk A c (hdIt r (i0)).2) (v := .int .i64 (hdIt r (i0)).2.e) rfl rfl hpB rfl ?_)
   refine Oz rfl rfl rfl (AOp.bin' rfl rfl rfl rfl ?_)
   refine Mz ?_
   refine aOps_gd0 rfl rfl (wantT rfl rfl rfl) (fun hc => AOp.slots [(5, _)] (.cons rfl .nil) ((by refine AOp.loadAll (b := ?b5) (v := hdv (hdAt r i0) (.slice (some ⟨kd, 0, some 1⟩) (hdIt r (i0)).1.length (hdIt r (i0)).1.length)) rfl rfl ?hn5 ?hv5 ?hw5 ?hz5 ?hR5; (case hn5 => exact hpB); (case hv5 => rfl); (case hw5 => rfl); (case hz5 => first | rfl | exact hv_size _ | exact one_bv _ | exact hdv_size _ _ | exact chc_size _ | exact chc_one _ | exact hdc_one _ _ rfl | (simp; done)); exact Tz))) ?_
   refine aOps_gd0 rfl rfl (wantT rfl rfl rfl) (fun hc => AOp.slots [(1, _)] (.cons rfl .nil) (AOp.move' (.inl rfl) rfl Tz)) ?_
   refine aOps_gd rfl rfl (wantT rfl rfl rfl) (fun hc => AOp.slots [(64, _), (65, _)] (.cons (gvT rfl hc) (.cons (gvT rfl hc) .nil)) (AOp.call' rfl rfl rfl (rHsound _ _ (hdAt r i0) (some ⟨kd, 0, some 1⟩) _ (SLC.sub (SLC.hwb hW0_) subB) (hdIt_ok hok _).2 (by show (hdIt r (i0)).1.length ≤ _; rw [hdIt_len]; omega) cols B d ((hCk.sub hS0).sub subB) hcl) Iz)) (fun kq hkq => ?_)
   refine aOps_gd0 rfl rfl (wantT rfl rfl rfl) (fun hc => AOp.slots [(66, _)] (.cons (gvT rfl hc) .nil) (AOp.un' rfl rfl rfl Tz)) ?_
   refine Oz rfl rfl rfl (AOp.pickAnd rfl rfl rfl (fun hb => gvE rfl hb) ?_)
   refine Ez ?_
   refine ACode.cond rfl (fun c3 => ?_) (fun c3 => ?_)
   ·skip
    have hend : hdEnd r cols = (hdIt r (i0)).2.fail 4 := by rw [← hrun]; refine hdEnd_t ?_ ?_ <;> (simp at c3; first | (rw [hrun]; exact c3.1) | (rw [hof c3.1]; exact c3.2))
    refine Rz [0, 1] Kz rfl ?_
    refine Mz ?_
    refine Oz rfl rfl rfl ?_
    refine AOp.call' rfl rfl rfl (rfail _ _ n c A (hdIt r (i0)).2 (hR0.sub subB) 4 Dz Dz) ?_
    rintro _ HLf kf ⟨rfl, hPf⟩
    have hkf := hPf.1
    have hfLf := hPf.2.1
    have hsLf := hPf.2.2.1
    have hRf := hPf.2.2.2
    have hnf := hRf.hn
    have thsLf := SubS.of hsLf
    refine Ez ?_
    first | refine thenA_n ?_ | simp only [thenA, blockA, if_true]
    exact ⟨(), has_append .nil Xz, (by (try dsimp only); exact ⟨hsLf _ _ (Uz hk0_), hsLf _ _ (Uz hq0_), hsLf _ _ (Uz hW0_), sub_cutn hS0 hsLf, by rw [hend]; exact hRf⟩)⟩
   ·skip
    have hend : hdEnd r cols = (hdIt r (i0)).2 := by rw [← hrun]; refine hdEnd_f ?_; rw [hrun]; rintro ⟨h8, h9⟩; rw [hof h8] at h9; rw [h9] at c3; simp [h8] at c3
    refine ACode.skip ?_
    first | refine thenA_n ?_ | simp only [thenA, blockA, if_true]
    exact ⟨(), has_append .nil Xz, (by (try dsimp only); exact ⟨hk0_, hq0_, hW0_, hS0, by rw [hend]; exact hR0⟩)⟩
  ·show ACode _ _ _ _ _ ⟨_, _, _⟩
   obtain ⟨hkm_, hqm, hWm, hSm, hRm⟩ := hXm
   have hkkm := old_lt hfLm hkm_
   have hdkm := old_lt hfLm hWm
   refine Sz ?_
   refine Sz ?_
   refine Rz [0, 1, 2, 3, 4] Kz rfl ?_
   refine Mz ?_
   refine Oz rfl rfl rfl (AOp.nilCheck' rfl rfl ?_)
   refine Fz ?_
   refine Oz rfl rfl rfl (AOp.load1 (b := rfBlk A c (hdEnd r cols)) (v := .int .i64 (hdEnd r cols).e) rfl rfl hRm.hn rfl ?_)
   refine Oz rfl rfl rfl (AOp.bin' rfl rfl rfl rfl ?_)
   refine Ez ?_
   refine ACode.cond rfl (fun c4 => ?_) (fun c4 => ?_)
   ·try simp only [Cz] at c4
    refine Sz ?_
    refine Rz [0, 1] Kz rfl ?_
    refine Oz rfl rfl rfl (AOp.buildS (cells := #[_, _, _, _, _, _, _, _, _, _, _, _, _, _, _, _, _, _, _, _, _, _, _, _, _, _, _, _, _, _, _, _, _, _, _]) rfl rfl rfl ?_)
    refine aOps_0 rfl rfl rfl ?_
    refine AOp.storeAll (b := ?b6) rfl rfl rfl ?hn6 ?hk6 rfl ?hw6 ?ho6 ?hl6 ?hR6
    (case hn6 => exact hpB)
    (case hk6 => rfl)
    (case hw6 => first | rfl | exact hv_size _ | exact one_bv _ | exact hdv_size _ _ | exact chc_size _ | exact chc_one _ | exact hdc_one _ _ rfl | (simp; done))
    (case ho6 => first | rfl | exact hv_size _ | exact one_bv _ | exact hdv_size _ _ | exact chc_size _ | exact chc_one _ | exact hdc_one _ _ rfl | decide | (simp; done))
    (case hl6 => first | rfl | exact hv_size _ | exact one_bv _ | exact hdv_size _ _ | exact chc_size _ | exact chc_one _ | exact hdc_one _ _ rfl | (simp; done))
    refine Ez ?_
    refine ACode.ret ?_
    try simp only [thenA, blockA, if_true]
    rw [head_bad c4]
    have hPz : ∀ kz, km ≤ kz → k ≤ kz → RfP H k n A c (hdEnd r cols) (upd HLm k (some (hdblk hdD NIL))) kz := fun kz h1 h3 => ⟨h3, (fun m hm => by (repeat refine Uz ?_); exact hfLm m Wz), (sub_new hSm hk0), (hRm.away Wz (by rw [hdEnd_bs]; exact hAk))⟩
    exact RetQ.cell rfl rfl (aloadAll (b := hdblk hdD NIL) (v := hdv hdD NIL) (upd_same _ _ _) rfl rfl (hdv_size _ _)) (sub_refl _) (hPz (max km k) (Nat.le_max_left _ _) (Nat.le_max_right _ _)).stays (fun hk => ⟨⟨none, 0, rfl, SLC.nil, fun a h => by cases h⟩, hPz _ Wz Wz⟩)
   ·try simp only [Cz] at c4
    have hez : (hdIt r (i0)).2.e = 0 := by have := hdEnd_e0 c4; rw [hrun] at this; exact this
    refine ACode.skip ?_
    refine Sz ?_
    refine Rz [0, 1] Kz rfl ?_
    refine Oz rfl rfl rfl ?_
    refine AOp.loadAll (b := ?b7) (v := hdv (hdAt r i0) (.slice (some ⟨kd, 0, some 1⟩) (hdIt r (i0)).1.length (hdIt r (i0)).1.length)) rfl rfl ?hn7 ?hv7 ?hw7 ?hz7 ?hR7
    (case hn7 => exact hpB)
    (case hv7 => rfl)
    (case hw7 => rfl)
    (case hz7 => first | rfl | exact hv_size _ | exact one_bv _ | exact hdv_size _ _ | exact chc_size _ | exact chc_one _ | exact hdc_one _ _ rfl | (simp; done))
    refine aOps_0 rfl rfl rfl ?_
    refine AOp.storeAll (b := ?b8) rfl rfl rfl ?hn8 ?hk8 rfl ?hw8 ?ho8 ?hl8 ?hR8
    (case hn8 => exact hpB)
    (case hk8 => rfl)
    (case hw8 => first | rfl | exact hv_size _ | exact one_bv _ | exact hdv_size _ _ | exact chc_size _ | exact chc_one _ | exact hdc_one _ _ rfl | (simp; done))
    (case ho8 => first | rfl | exact hv_size _ | exact one_bv _ | exact hdv_size _ _ | exact chc_size _ | exact chc_one _ | exact hdc_one _ _ rfl | decide | (simp; done))
    (case hl8 => first | rfl | exact hv_size _ | exact one_bv _ | exact hdv_size _ _ | exact chc_size _ | exact chc_one _ | exact hdc_one _ _ rfl | (simp; done))
    refine Ez ?_
    refine ACode.ret ?_
    try simp only [thenA, blockA, if_true]
    rw [head_good c4, hof hez]
    have hPz : ∀ kz, km ≤ kz → k ≤ kz → RfP H k n A c (hdEnd r cols) (upd HLm k (some (hdblk (hdAt r i0) (.slice (some ⟨kd, 0, some 1⟩) (hdIt r (i0)).1.length (hdIt r (i0)).1.length)))) kz := fun kz h1 h3 => ⟨h3, (fun m hm => by (repeat refine Uz ?_); exact hfLm m Wz), (sub_new hSm hk0), (hRm.away Wz (by rw [hdEnd_bs]; exact hAk))⟩
    exact RetQ.cell rfl rfl (aloadAll (b := hdblk (hdAt r i0) (.slice (some ⟨kd, 0, some 1⟩) (hdIt r (i0)).1.length (hdIt r (i0)).1.length)) (v := hdv (hdAt r i0) (.slice (some ⟨kd, 0, some 1⟩) (hdIt r (i0)).1.length (hdIt r (i0)).1.length)) (upd_same _ _ _) rfl rfl (hdv_size _ _)) (sub_refl _) (hPz (max km k) (Nat.le_max_left _ _) (Nat.le_max_right _ _)).stays (fun hk => ⟨⟨_, _, rfl, SLC.hwb (Uz hWm), fun a ha => by cases ha; exact ⟨by show k ≤ kd; omega, by show kd < _; omega⟩⟩, hPz _ Wz Wz⟩)
end

end Go.Proofs.YteoofihjmldllaaGreatDoor
