/- Contracts over the abstract states: forms of headers, by the reference. -/
import Derived.Test.YteoofihjmldllaaDoorR45
set_option linter.unusedVariables false
set_option linter.unusedSimpArgs false
set_option maxRecDepth 100000
namespace Go.Proofs.YteoofihjmldllaaDoor
open Go Go.Ab

/-- Slices of the laws' arguments begin at their blocks. -/
def Exa (A : Option Addr) : Prop := ∀ a, A = some a → a.spot = none
theorem elE {H : Hp} {z i n off l c : Nat} {sp : Option Nat} {A : Option Addr} (hA : Exa A) (h : aslcAt H z i (.slice A l c) = some (ptr n off sp)) : sp = none := by
 cases A with
 | none => cases h
 | some a =>
  obtain ⟨b, o, s⟩ := a
  have : s = none := hA _ rfl
  subst this
  simp only [aslcAt] at h
  split at h
  ·injection h with h; injection h with h; injection h with h; injection h with h1 h2 h3; exact h3.symm
  ·cases h
theorem srcE {H : Hp} {n off : Nat} {cs : List Value} (hp : PAt H n off none cs) (d : Dg) (j : Nat) (hj : j + 32 ≤ cs.length) (hc : (cs.drop j).take 32 = d.l.map bv) : srcOf H 1 (.slice (some ⟨n, off + j, none⟩) 32 32) = some (d.l.length, d.l.map bv) := by
 have h := hp.ld j 32 hj Dz
 rw [hc] at h
 rw [d.h]
 refine srcOf_slc ?_
 simp only [aload, hcells] at h
 simp only [slcCells]
 rw [if_neg Dz]
 split at h
 ·rename_i b hb
  split at h
  ·rename_i hl
   rw [Nat.mul_one, if_pos hl]
   exact h
  ·cases h
 ·cases h
theorem chc_d (c : Ch) : ((chc c).drop 8).take 32 = c.d.l.map bv := by rw [chc, List.drop_left' (show (znc c.z).length = 8 from rfl), List.take_of_length_le (by rw [hcs_one]; exact Nat.le_refl _)]
section
variable (H : Hp) (k : Nat)

set_option maxHeartbeats 1000000 in
theorem rputH (h : Hd) (A : Option Addr) (c : Nat) (hS : SLC H 40 A h.cols.length c (chs h.cols)) (hok : ∀ x ∈ h.cols, x.z.ok) (hft : h.fit) (hsm : h.sm) (hA : Exa A) : ACalls Tryd.prog 3 34 [hdv h (.slice A h.cols.length c)] H k (NewB H k 5 (hdB h)) := by
 refine ACalls.fresh fun hf => ?_
 refine ACalls.body Tryd.func34 rfl (Nat.le_of_ble_eq_true rfl) ?_
 obtain ⟨a, ha, ha6⟩ : ∃ a : Nat, h.rows = a ∧ a < 18446744073709551616 := ⟨h.rows.toNat, by have := hft.r0; omega, by have := hft.r1; omega⟩
 obtain ⟨b, hb, hb6⟩ : ∃ b : Nat, h.live = b ∧ b < 18446744073709551616 := ⟨h.live.toNat, by have := hft.l0; omega, by have := hft.l1; omega⟩
 have hvl : Nt ((varB a).length ≤ 10 ∧ (varB b).length ≤ 10 ∧ h.dead.l.length = 32) := ⟨varB_len a ha6, varB_len b hb6, h.dead.h⟩
 have hcl := hsm.cl
 have e9 : ∀ i, i = h.cols.length → ((varB a ++ varB b ++ h.dead.l) ++ csB (h.cols.take i)) = hdB h := fun i hi => by rw [hdB, ha, hb, hi, List.take_length, Int.toNat_natCast, Int.toNat_natCast, List.append_assoc, List.append_assoc]
 have hbi : ∀ i, ((varB a ++ varB b ++ h.dead.l) ++ csB (h.cols.take i)).length ≤ 60 + 70 * 40200 := fun i => by
  have h1 := csB_len (h.cols.take i) (fun x hx => hok x (List.mem_of_mem_take hx)) (fun x hx => hft.z x (List.mem_of_mem_take hx)) (fun x hx => hsm.s x (List.mem_of_mem_take hx))
  have h2 : (h.cols.take i).length ≤ h.cols.length := by rw [List.length_take]; omega
  have h4 := hvl.h
  simp only [List.length_append]
  have h3 : (h.cols.take i).length * 40200 ≤ 70 * 40200 := Nat.mul_le_mul_right _ Wz
  omega
 refine Sz ?_
 refine Rz [0, 1] Kz rfl ?_
 refine Oz rfl rfl rfl (AOp.boxV rfl rfl ?_)
 refine Nz ?_
 refine Ez ?_
 refine Sz ?_
 refine ACode.any mixed Kz ?_
 refine AnyA.float (Hq := (upd (fun _ => none) k (some (hdblk h (.slice A h.cols.length c))))) [(0, 6), (1, 7), (2, 8), (4, 10), (5, 11), (6, 12)] [3, 7, 8, 9] Kz (Nat.le_of_ble_eq_true rfl) Kz subB ?_
 refine DrawF.q 0 6 [(1, none)] rfl Kz rfl (fun Hc kq hSb => AOp.fieldAddr' rfl Dz rfl Tz) ?_
 refine DrawF.q 1 7 [(6, some 0)] rfl Kz rfl (fun Hc kq hSb => have tSb := SubS.of hSb; (by refine AOp.load1 (b := ?b1) (v := ?v1) rfl rfl ?hn1 ?hv1 ?hR1; (case hn1 => exact hpB); (case hv1 => rfl); exact Tz)) ?_
 rw [ha]
 refine DrawF.q 2 8 [(7, some 1)] rfl Kz rfl (fun Hc kq hSb => AOp.convU64 (a := a) rfl rfl ha6 Tz) ?_
 refine DrawF.q 4 10 [(1, none)] rfl Kz rfl (fun Hc kq hSb => AOp.fieldAddr' rfl Dz rfl Tz) ?_
 refine DrawF.q 5 11 [(10, some 4)] rfl Kz rfl (fun Hc kq hSb => have tSb := SubS.of hSb; (by refine AOp.load1 (b := ?b2) (v := ?v2) rfl rfl ?hn2 ?hv2 ?hR2; (case hn2 => exact hpB); (case hv2 => rfl); exact Tz)) ?_
 rw [hb]
 refine DrawF.q 6 12 [(11, some 5)] rfl Kz rfl (fun Hc kq hSb => AOp.convU64 (a := b) rfl rfl hb6 Tz) ?_
 refine DrawF.done ?_
 show aOpsF _ _ _ _ _ _ [3, 7, 8, 9] ⟨_, _, _⟩
 refine aOpsF_1 [8] rfl rfl Kz rfl ?_
 refine AOp.call' rfl rfl rfl (refVar 3 a ha6 _ _) ?_
 rintro _ _ kq ⟨q, hq1, hq2, rfl, rfl⟩
 refine ⟨by exact subB, ?_⟩
 refine aOpsF_1 [12] rfl rfl Kz rfl ?_
 refine AOp.call' rfl rfl rfl (refVar 3 b hb6 _ _) ?_
 rintro _ _ kp ⟨p, hp1, hp2, rfl, rfl⟩
 refine ⟨by exact subB, ?_⟩
 refine aOpsF_1 [9, 13] rfl rfl Kz rfl (AOp.appendB (bs := varB a) (ps := varB b) rfl rfl rfl hpB (srcOf_gb (e := 5) hpB) srcOk_sl (by have := hvl.h; omega) (by have := hvl.h; omega) ?_)
 refine ⟨by exact subB, ?_⟩
 refine aOpsF_1 [14] rfl rfl Kz rfl (AOp.move' (.inr rfl) rfl ?_)
 refine ⟨by exact subB, ?_⟩
 refine aOpsF_end ?_
 refine Sz ?_
 refine Rz [0, 1, 2, 3, 4] Kz rfl ?_
 refine Mz ?_
 refine Fz ?_
 refine Oz rfl rfl rfl (AOp.sliceP rfl rfl ?_)
 refine Oz rfl rfl rfl (AOp.appendB (bs := varB a ++ varB b) (ps := h.dead.l) rfl rfl rfl hpB (srcD (b := hdblk h (.slice A h.cols.length c)) h.dead [.int .i64 h.rows, .int .i64 h.live] [(.slice A h.cols.length c)] hpB rfl rfl h.dead.h) srcOk_sl (by have := hvl.h; simp only [List.length_append]; omega) (by have := hvl.h; simp only [List.length_append]; omega) ?_)
 refine Nz ?_
 refine Ez ?_
 refine Sz ?_
 refine Sz ?_
 refine Rz [0] Kz rfl ?_
 refine Nz ?_
 refine Ez ?_
 refine ACode.block ?_
 refine ACode.count (fun i => [(4, .int .i64 (i : Int)), (3, sl q ((varB a ++ varB b ++ h.dead.l) ++ csB (h.cols.take i)).length)]) [(1, _), (2, _)] (fun i => upd (upd H k (some (hdblk h (.slice A h.cols.length c)))) q (some (gb ((varB a ++ varB b ++ h.dead.l) ++ csB (h.cols.take i))))) (h.cols.length) (fun _ => True) (.cons rfl (.cons (show _ = some (sl q _) by rw [show csB (h.cols.take 0) = [] from rfl, List.append_nil]; rfl) .nil)) (.cons rfl (.cons rfl .nil)) (by rw [show csB (h.cols.take 0) = [] from rfl, List.append_nil]; exact subB) trivial (fun i0 kL0 HL0 hiL0 hkL0 hsL0 hfL0 hxL0 => ?_)
 show ACode _ _ _ _ _ ⟨_, _, _⟩
 have tsL0 := SubS.of hsL0
 refine Sz ?_
 refine Sz ?_
 refine Rz [0, 1, 2, 3, 4] Kz rfl ?_
 refine Mz ?_
 refine Fz ?_
 refine Oz rfl rfl rfl (AOp.load1 (b := hdblk h (.slice A h.cols.length c)) (v := (.slice A h.cols.length c)) rfl rfl hpB (hdc_s _ _) ?_)
 refine Oz rfl rfl rfl (AOp.len' rfl rfl ?_)
 refine Oz rfl rfl rfl (AOp.bin' rfl rfl rfl rfl ?_)
 refine Ez ?_
 refine ACode.cond rfl (fun c0 => ?_) (fun c0 => ?_)
 ·try simp only [Cz] at c0
  refine ACode.skip ?_
  refine Sz ?_
  refine ACode.block ?_
  refine Sz ?_
  have hmem : (h.cols.getD i0 chD) ∈ h.cols := getD_mem Wz
  have hzk := hok _ hmem
  obtain ⟨m, hm, hm6⟩ : ∃ m : Nat, (h.cols.getD i0 chD).z.nulls = m ∧ m < 18446744073709551616 := ⟨(h.cols.getD i0 chD).z.nulls.toNat, by have := (hft.z _ hmem).1; omega, by have := (hft.z _ hmem).2; omega⟩
  have hzs : Nt _ := ⟨hsm.s _ hmem⟩
  have hN : Nt (((varB a ++ varB b ++ h.dead.l) ++ csB (h.cols.take i0)).length ≤ 60 + 70 * 40200 ∧ (varB m).length ≤ 10 ∧ (putB (h.cols.getD i0 chD).z.min).length ≤ 20012 ∧ (putB (h.cols.getD i0 chD).z.max).length ≤ 20012 ∧ (h.cols.getD i0 chD).d.l.length = 32) := ⟨hbi i0, varB_len m hm6, putB_len (h.cols.getD i0 chD).z.min hzk.2.1 hzs.h.1, putB_len (h.cols.getD i0 chD).z.max hzk.2.2 hzs.h.2, (h.cols.getD i0 chD).d.h⟩
  obtain ⟨n6_3, o6_3, s6_3, hq6_3, hp6_3⟩ := SLC.elC (i := i0) (SLC.sub hS subB) Wz
  refine Rz [0, 1, 2, 3, 4, 5, 6, 7] Kz rfl ?_
  refine Fz ?_
  refine Oz rfl rfl rfl (AOp.load1 (b := hdblk h (.slice A h.cols.length c)) (v := (.slice A h.cols.length c)) rfl rfl hpB (hdc_s _ _) ?_)
  refine Mz ?_
  refine Oz rfl rfl rfl (AOp.indexP (aslcAt_sub subB hq6_3) rfl rfl rfl ?_)
  refine Oz rfl rfl rfl (AOp.fieldP (hp6_3.sub subB) rfl Dz (by rw [chc_len]; decide) rfl ?_)
  refine Oz rfl rfl rfl (AOp.loadPre (znc (h.cols.getD i0 chD).z) (zv (h.cols.getD i0 chD).z) (hp6_3.sub subB) rfl rfl (by rw [chc_len]; decide) Dz rfl rfl ?_)
  refine Oz rfl rfl rfl (AOp.alloc' rfl ?_)
  refine aOps_0 rfl rfl rfl ?_
  refine AOp.storeAll (b := ?b3) rfl rfl rfl ?hn3 ?hk3 rfl ?hw3 ?ho3 ?hl3 ?hR3
  (case hn3 => exact hpB)
  (case hk3 => rfl)
  (case hw3 => first | rfl | exact hv_size _ | exact one_bv _ | exact hdv_size _ _ | exact chc_size _ | exact chc_one _ | exact hdc_one _ _ rfl | (simp; done))
  (case ho3 => first | rfl | exact hv_size _ | exact one_bv _ | exact hdv_size _ _ | exact chc_size _ | exact chc_one _ | exact hdc_one _ _ rfl | decide | (simp; done))
  (case hl3 => first | rfl | exact hv_size _ | exact one_bv _ | exact hdv_size _ _ | exact chc_size _ | exact chc_one _ | exact hdc_one _ _ rfl | (simp; done))
  rw [rd_upd2]
  refine Ez (Sz (Rz [0, 1, 2, 3, 4, 5, 6] Kz rfl ?_))
  refine Mz ?_
  refine Fz ?_
  refine Oz rfl rfl rfl ?_
  refine AOp.load1 (b := ?b4) (v := ?v4) rfl rfl ?hn4 ?hv4 ?hR4
  (case hn4 => exact hpB)
  (case hv4 => rfl)
  rw [hm]
  refine Oz rfl rfl rfl (AOp.convU64 (a := m) rfl rfl hm6 ?_)
  refine Oz rfl rfl rfl ?_
  refine AOp.call' rfl rfl rfl (refVar 3 m hm6 _ _) ?_
  rintro _ _ kr ⟨r, hr1, hr2, rfl, rfl⟩
  refine Oz rfl rfl rfl (AOp.appendB (bs := ((varB a ++ varB b ++ h.dead.l) ++ csB (h.cols.take i0))) (ps := varB m) rfl rfl rfl hpB (srcOf_gb (e := 5) hpB) srcOk_sl (by have hl5 := hN.h; simp only [List.length_append, List.length_cons, List.length_nil] at hl5 ⊢; omega) (by have hl5 := hN.h; simp only [List.length_append, List.length_cons, List.length_nil] at hl5 ⊢; omega) ?_)
  refine Nz ?_
  refine Ez ?_
  refine Sz ?_
  refine Sz ?_
  refine Rz [0, 1] Kz rfl ?_
  refine Fz ?_
  refine Oz rfl rfl rfl ?_
  refine AOp.load1 (b := ?b5) (v := ?v5) rfl rfl ?hn5 ?hv5 ?hR5
  (case hn5 => exact hpB)
  (case hv5 => rfl)
  refine Ez ?_
  refine ACode.cond rfl (fun c1 => ?_) (fun c1 => ?_)
  ·try simp only [Cz] at c1
   have hsome : (h.cols.getD i0 chD).z.some = true := by simpa using c1
   refine Sz ?_
   refine Rz [0, 1, 2, 3] Kz rfl ?_
   refine Mz ?_
   refine Oz rfl rfl rfl (AOp.buildB [1] rfl Dz rfl rfl ?_)
   refine Oz rfl rfl rfl (AOp.appendB (bs := (((varB a ++ varB b ++ h.dead.l) ++ csB (h.cols.take i0)) ++ varB m)) (ps := [1]) rfl rfl rfl hpB (srcOf_gb (e := 5) hpB) srcOk_sl (by have hl5 := hN.h; simp only [List.length_append, List.length_cons, List.length_nil] at hl5 ⊢; omega) (by have hl5 := hN.h; simp only [List.length_append, List.length_cons, List.length_nil] at hl5 ⊢; omega) ?_)
   refine Nz ?_
   refine Ez (Sz (Rz [0, 1, 2, 3, 4, 5] Kz rfl ?_))
   refine Mz ?_
   refine Fz ?_
   refine Oz rfl rfl rfl (AOp.loadN (b := zblk (h.cols.getD i0 chD).z) (cs := (vv (h.cols.getD i0 chD).z.min).cells.toList) rfl rfl hpB (by show 2 + 3 ≤ 8; decide) rfl ?_)
   refine Oz rfl rfl rfl ?_
   refine AOp.call' rfl rfl rfl (refPut 3 _ _ (h.cols.getD i0 chD).z.min hzk.2.1 (Nat.le_trans hzs.h.1 Dz)) ?_
   rintro _ _ ks ⟨s, hs1, hs2, rfl, rfl⟩
   refine Oz rfl rfl rfl (AOp.appendB (bs := ((((varB a ++ varB b ++ h.dead.l) ++ csB (h.cols.take i0)) ++ varB m) ++ [1])) (ps := putB (h.cols.getD i0 chD).z.min) rfl rfl rfl hpB (srcOf_gb (e := 5) hpB) srcOk_sl (by have hl5 := hN.h; simp only [List.length_append, List.length_cons, List.length_nil] at hl5 ⊢; omega) (by have hl5 := hN.h; simp only [List.length_append, List.length_cons, List.length_nil] at hl5 ⊢; omega) ?_)
   refine Nz ?_
   refine Ez ?_
   refine Rz [0, 1, 2, 3, 4, 5] Kz rfl ?_
   refine Mz ?_
   refine Fz ?_
   refine Oz rfl rfl rfl (AOp.loadN (b := zblk (h.cols.getD i0 chD).z) (cs := (vv (h.cols.getD i0 chD).z.max).cells.toList) rfl rfl hpB (by show 5 + 3 ≤ 8; decide) rfl ?_)
   refine Oz rfl rfl rfl ?_
   refine AOp.call' rfl rfl rfl (refPut 3 _ _ (h.cols.getD i0 chD).z.max hzk.2.2 (Nat.le_trans hzs.h.2 Dz)) ?_
   rintro _ _ kt ⟨t, ht1, ht2, rfl, rfl⟩
   refine Oz rfl rfl rfl (AOp.appendB (bs := ((((varB a ++ varB b ++ h.dead.l) ++ csB (h.cols.take i0)) ++ varB m) ++ [1] ++ putB (h.cols.getD i0 chD).z.min)) (ps := putB (h.cols.getD i0 chD).z.max) rfl rfl rfl hpB (srcOf_gb (e := 5) hpB) srcOk_sl (by have hl5 := hN.h; simp only [List.length_append, List.length_cons, List.length_nil] at hl5 ⊢; omega) (by have hl5 := hN.h; simp only [List.length_append, List.length_cons, List.length_nil] at hl5 ⊢; omega) ?_)
   refine Nz ?_
   refine Ez ?_
   obtain ⟨n13_4, o13_4, s13_4, hq13_4, hp13_4⟩ := SLC.elC (i := i0) (SLC.sub hS subB) Wz
   refine Rz [0, 1, 2, 3, 4, 5, 6, 7, 8] Kz rfl ?_
   refine Mz ?_
   refine Fz ?_
   refine Oz rfl rfl rfl (AOp.load1 (b := hdblk h (.slice A h.cols.length c)) (v := (.slice A h.cols.length c)) rfl rfl hpB (hdc_s _ _) ?_)
   refine Mz ?_
   refine Oz rfl rfl rfl (AOp.indexP (aslcAt_sub subB hq13_4) rfl rfl rfl ?_)
   have hsp := elE hA hq13_4
   subst hsp
   refine Oz rfl rfl rfl (AOp.fieldP (hp13_4.sub subB) rfl Dz (by rw [chc_len]; decide) rfl ?_)
   refine Oz rfl rfl rfl (AOp.sliceP rfl rfl ?_)
   refine Oz rfl rfl rfl (AOp.appendB (bs := (((varB a ++ varB b ++ h.dead.l) ++ csB (h.cols.take i0)) ++ varB m ++ [1] ++ putB (h.cols.getD i0 chD).z.min ++ putB (h.cols.getD i0 chD).z.max)) (ps := (h.cols.getD i0 chD).d.l) rfl rfl rfl hpB (srcE (hp13_4.sub subB) (h.cols.getD i0 chD).d 8 (by rw [chc_len]; decide) (chc_d _)) srcOk_sl (by have hl5 := hN.h; simp only [List.length_append, List.length_cons, List.length_nil] at hl5 ⊢; omega) (by have hl5 := hN.h; simp only [List.length_append, List.length_cons, List.length_nil] at hl5 ⊢; omega) ?_)
   refine Nz ?_
   refine Ez ?_
   refine Rz [0, 1, 2] Kz rfl ?_
   refine Mz ?_
   refine Oz rfl rfl rfl (AOp.add rfl rfl rfl (i64_wrap Wz Wz) ?_)
   refine Nz ?_
   refine Ez ?_
   have e4 : (((varB a ++ varB b ++ h.dead.l) ++ csB (h.cols.take i0)) ++ varB m ++ [1] ++ putB (h.cols.getD i0 chD).z.min ++ putB (h.cols.getD i0 chD).z.max) ++ (h.cols.getD i0 chD).d.l = ((varB a ++ varB b ++ h.dead.l) ++ csB (h.cols.take (i0 + 1))) := by rw [csB_next (show i0 < h.cols.length by omega), chB, zB, hm, Int.toNat_natCast, if_pos hsome]; simp [List.append_assoc]
   first | refine thenA_n ?_ | simp only [thenA, blockA, if_true]
   exact NextR.mk Wz Wz (.cons rfl (.cons (show _ = some (sl q _) by rw [← e4]; first | rfl | (simp only [List.length_append, h5]; rfl)) .nil)) (.cons rfl (.cons rfl .nil)) (by rw [← e4]; exact subB) trivial
  ·try simp only [Cz] at c1
   have hsome : ¬ (h.cols.getD i0 chD).z.some = true := by simpa using c1
   refine Rz [0, 1, 2, 3] Kz rfl ?_
   refine Mz ?_
   refine Oz rfl rfl rfl (AOp.buildB [0] rfl Dz rfl rfl ?_)
   refine Oz rfl rfl rfl (AOp.appendB (bs := (((varB a ++ varB b ++ h.dead.l) ++ csB (h.cols.take i0)) ++ varB m)) (ps := [0]) rfl rfl rfl hpB (srcOf_gb (e := 5) hpB) srcOk_sl (by have hl5 := hN.h; simp only [List.length_append, List.length_cons, List.length_nil] at hl5 ⊢; omega) (by have hl5 := hN.h; simp only [List.length_append, List.length_cons, List.length_nil] at hl5 ⊢; omega) ?_)
   refine Nz ?_
   refine Ez ?_
   obtain ⟨n13_4, o13_4, s13_4, hq13_4, hp13_4⟩ := SLC.elC (i := i0) (SLC.sub hS subB) Wz
   refine Rz [0, 1, 2, 3, 4, 5, 6, 7, 8] Kz rfl ?_
   refine Mz ?_
   refine Fz ?_
   refine Oz rfl rfl rfl (AOp.load1 (b := hdblk h (.slice A h.cols.length c)) (v := (.slice A h.cols.length c)) rfl rfl hpB (hdc_s _ _) ?_)
   refine Mz ?_
   refine Oz rfl rfl rfl (AOp.indexP (aslcAt_sub subB hq13_4) rfl rfl rfl ?_)
   have hsp := elE hA hq13_4
   subst hsp
   refine Oz rfl rfl rfl (AOp.fieldP (hp13_4.sub subB) rfl Dz (by rw [chc_len]; decide) rfl ?_)
   refine Oz rfl rfl rfl (AOp.sliceP rfl rfl ?_)
   refine Oz rfl rfl rfl (AOp.appendB (bs := (((varB a ++ varB b ++ h.dead.l) ++ csB (h.cols.take i0)) ++ varB m ++ [0])) (ps := (h.cols.getD i0 chD).d.l) rfl rfl rfl hpB (srcE (hp13_4.sub subB) (h.cols.getD i0 chD).d 8 (by rw [chc_len]; decide) (chc_d _)) srcOk_sl (by have hl5 := hN.h; simp only [List.length_append, List.length_cons, List.length_nil] at hl5 ⊢; omega) (by have hl5 := hN.h; simp only [List.length_append, List.length_cons, List.length_nil] at hl5 ⊢; omega) ?_)
   refine Nz ?_
   refine Ez ?_
   refine Rz [0, 1, 2] Kz rfl ?_
   refine Mz ?_
   refine Oz rfl rfl rfl (AOp.add rfl rfl rfl (i64_wrap Wz Wz) ?_)
   refine Nz ?_
   refine Ez ?_
   have e4 : (((varB a ++ varB b ++ h.dead.l) ++ csB (h.cols.take i0)) ++ varB m ++ [0]) ++ (h.cols.getD i0 chD).d.l = ((varB a ++ varB b ++ h.dead.l) ++ csB (h.cols.take (i0 + 1))) := by rw [csB_next (show i0 < h.cols.length by omega), chB, zB, hm, Int.toNat_natCast, if_neg hsome]; simp [List.append_assoc]
   first | refine thenA_n ?_ | simp only [thenA, blockA, if_true]
   exact NextR.mk Wz Wz (.cons rfl (.cons (show _ = some (sl q _) by rw [← e4]; first | rfl | (simp only [List.length_append, h5]; rfl)) .nil)) (.cons rfl (.cons rfl .nil)) (by rw [← e4]; exact subB) trivial
 ·try simp only [Cz] at c0
  refine ACode.exit ?_
  refine Sz ?_
  refine Rz [0, 1] Kz rfl ?_
  refine Mz ?_
  refine Nz ?_
  refine Ez ?_
  refine ACode.ret ?_
  have e8 := e9 i0 Wz
  rw [e8] at hsL0 tsL0 ⊢
  exact RetQ.one (H'' := upd H q (some (gb (hdB h)))) rfl rfl subB stays_upd (fun hk => ⟨q, by omega, by omega, rfl, rfl⟩)
end

end Go.Proofs.YteoofihjmldllaaDoor
