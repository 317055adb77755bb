/- Contracts over the abstract states: whether a header is sound. -/
import Derived.Test.YteoofihjmldllaaDoorRJ
import Derived.Test.YteoofihjmldllaaDoorV10
set_option linter.unusedVariables false
set_option linter.unusedSimpArgs false
set_option maxRecDepth 100000
namespace Go.Proofs.YteoofihjmldllaaDoor
open Go Go.Ab

theorem hdc_s (h : Hd) (s : Value) : (hdc h s)[34]? = some s := by
 show (h.dead.l.map bv ++ [s])[32]? = some s
 rw [List.getElem?_append_right (by rw [hcs_one]; exact Nat.le_refl _), hcs_one]
 rfl
theorem SLC.elC {H : Hp} {c0 i : Nat} {A0 : Option Addr} {l : List Ch} (hS : SLC H 40 A0 l.length c0 (chs l)) (hi : i < l.length) :
  ∃ n off sp, aslcAt H 40 i (.slice A0 l.length c0) = some (ptr n off sp) ∧ PAt H n off sp (chc (l.getD i chD)) := by
 rw [getD_el hi]
 exact slcEl hS.cells chc_len Dz hi
theorem front_len {h : Hd} {n : Nat} (hf : ¬ frontH h n = true) : h.cols.length = n := by
 unfold frontH at hf
 simp only [Bool.or_eq_true, not_or, bne_iff_ne, ne_eq, Classical.not_not] at hf
 omega
theorem chc_size (c : Ch) : (Value.agg (chc c).toArray).cells.size = 40 := by show (chc c).toArray.size = 40; rw [List.size_toArray, chc_len]
theorem chc_one (c : Ch) : (chc c).all (·.oneCell') = true := by
 rw [List.all_append]
 simp [bv, Value.oneCell']
abbrev chblk (c : Ch) : Blk := { cells := chc c, elem := 135, kind := .fix }
section
variable (H : Hp) (k : Nat)

theorem nHsound (h : Hd) (A : Option Addr) (c : Nat) (hS : SLC H 40 A h.cols.length c (chs h.cols)) (hok : ∀ x ∈ h.cols, x.z.ok) (hl : h.cols.length ≤ 1000000) (cols : List Col) (B : Option Addr) (d : Nat) (hC : SLC H 3 B cols.length d (cols3 cols)) (hcl : cols.length ≤ 1000000) : ACalls Tryd.prog 3 117 [hdv h (.slice A h.cols.length c), .slice B cols.length d] H k (Same H k (.bool (soundH soundP h cols))) := by
 refine ACalls.fresh fun hf => ?_
 refine ACalls.body Tryd.func117 rfl (Nat.le_of_ble_eq_true rfl) ?_
 refine Sz ?_
 refine Rz [0, 1] Kz rfl ?_
 refine Oz rfl rfl rfl (AOp.boxV rfl rfl ?_)
 refine Nz ?_
 refine Ez ?_
 refine Sz ?_
 refine Sz ?_
 refine Rz [0, 1, 2, 3, 4, 5, 6, 7, 8, 9, 10, 11, 12, 13, 14, 15, 16, 17, 18, 19, 20, 21, 22, 23, 24, 25, 26, 27] Kz rfl ?_
 refine Fz ?_
 refine Oz rfl rfl rfl ?_
 refine AOp.load1 (b := ?b1) (v := ?v1) rfl rfl ?hn1 ?hv1 ?hR1
 (case hn1 => exact hpB)
 (case hv1 => rfl)
 refine Oz rfl rfl rfl (AOp.bin' rfl rfl rfl rfl ?_)
 refine Mz ?_
 refine aOps_gd0 rfl rfl (wantF rfl rfl rfl) (fun hc => AOp.slots [(2, _)] (.cons rfl .nil) (AOp.fieldAddr' rfl Dz rfl Tz)) ?_
 refine aOps_gd0 rfl rfl (wantF rfl rfl rfl) (fun hc => AOp.slots [(11, _)] (.cons (gvT rfl hc) .nil) ((by refine AOp.load1 (b := ?b2) (v := ?v2) rfl rfl ?hn2 ?hv2 ?hR2; (case hn2 => exact hpB); (case hv2 => rfl); exact Tz))) ?_
 refine aOps_gd0 rfl rfl (wantF rfl rfl rfl) (fun hc => AOp.slots [(12, _)] (.cons (gvT rfl hc) .nil) (AOp.bin' rfl rfl rfl rfl Tz)) ?_
 refine Oz rfl rfl rfl (AOp.pickOr rfl rfl rfl (fun hb => gvE rfl (t_not hb)) ?_)
 refine Mz ?_
 refine aOps_gd0 rfl rfl (wantF rfl rfl rfl) (fun hc => AOp.slots [(2, _)] (.cons rfl .nil) (AOp.fieldAddr' rfl Dz rfl Tz)) ?_
 refine aOps_gd0 rfl rfl (wantF rfl rfl rfl) (fun hc => AOp.slots [(16, _)] (.cons (gvT rfl hc) .nil) ((by refine AOp.load1 (b := ?b3) (v := ?v3) rfl rfl ?hn3 ?hv3 ?hR3; (case hn3 => exact hpB); (case hv3 => rfl); exact Tz))) ?_
 refine aOps_gd0 rfl rfl (wantF rfl rfl rfl) (fun hc => AOp.slots [(17, _)] (.cons (gvT rfl hc) .nil) (AOp.bin' rfl rfl rfl rfl Tz)) ?_
 refine Oz rfl rfl rfl (AOp.pickOr rfl rfl rfl (fun hb => gvE rfl (t_not hb)) ?_)
 refine Mz ?_
 refine aOps_gd0 rfl rfl (wantF rfl rfl rfl) (fun hc => AOp.slots [(2, _)] (.cons rfl .nil) (AOp.fieldAddr' rfl Dz rfl Tz)) ?_
 refine aOps_gd0 rfl rfl (wantF rfl rfl rfl) (fun hc => AOp.slots [(21, _)] (.cons (gvT rfl hc) .nil) ((by refine AOp.load1 (b := ?b4) (v := ?v4) rfl rfl ?hn4 ?hv4 ?hR4; (case hn4 => exact hpB); (case hv4 => rfl); exact Tz))) ?_
 refine aOps_gd0 rfl rfl (wantF rfl rfl rfl) (fun hc => AOp.slots [(2, _)] (.cons rfl .nil) (AOp.fieldAddr' rfl Dz rfl Tz)) ?_
 refine aOps_gd0 rfl rfl (wantF rfl rfl rfl) (fun hc => AOp.slots [(23, _)] (.cons (gvT rfl hc) .nil) ((by refine AOp.load1 (b := ?b5) (v := ?v5) rfl rfl ?hn5 ?hv5 ?hR5; (case hn5 => exact hpB); (case hv5 => rfl); exact Tz))) ?_
 refine aOps_gd0 rfl rfl (wantF rfl rfl rfl) (fun hc => AOp.slots [(22, _), (24, _)] (.cons (gvT rfl hc) (.cons (gvT rfl hc) .nil)) (AOp.bin' rfl rfl rfl rfl Tz)) ?_
 refine Oz rfl rfl rfl (AOp.pickOr rfl rfl rfl (fun hb => gvE rfl (t_not hb)) ?_)
 refine Mz ?_
 refine aOps_gd0 rfl rfl (wantF rfl rfl rfl) (fun hc => AOp.slots [(2, _)] (.cons rfl .nil) (AOp.fieldAddr' rfl Dz rfl Tz)) ?_
 refine aOps_gd0 rfl rfl (wantF rfl rfl rfl) (fun hc => AOp.slots [(28, _)] (.cons (gvT rfl hc) .nil) (AOp.load1 (b := hdblk h (.slice A h.cols.length c)) (v := (.slice A h.cols.length c)) rfl rfl hpB (hdc_s h _) Tz)) ?_
 refine aOps_gd0 rfl rfl (wantF rfl rfl rfl) (fun hc => AOp.slots [(29, _)] (.cons (gvT rfl hc) .nil) (AOp.len' rfl rfl Tz)) ?_
 refine aOps_gd0 rfl rfl (wantF rfl rfl rfl) (fun hc => AOp.slots [(1, _)] (.cons rfl .nil) (AOp.move' (.inl rfl) rfl Tz)) ?_
 refine aOps_gd0 rfl rfl (wantF rfl rfl rfl) (fun hc => AOp.slots [(31, _)] (.cons (gvT rfl hc) .nil) (AOp.len' rfl rfl Tz)) ?_
 refine aOps_gd0 rfl rfl (wantF rfl rfl rfl) (fun hc => AOp.slots [(30, _), (32, _)] (.cons (gvT rfl hc) (.cons (gvT rfl hc) .nil)) (AOp.bin' rfl rfl rfl rfl Tz)) ?_
 refine Oz rfl rfl rfl (AOp.pickOr rfl rfl rfl (fun hb => gvE rfl (t_not hb)) ?_)
 refine Ez ?_
 refine ACode.cond rfl (fun c0 => ?_) (fun c0 => ?_)
 ·skip
  have hff : frontH h cols.length = true := c0
  refine Sz ?_
  refine Rz [0] Kz rfl ?_
  refine Nz ?_
  refine Ez ?_
  refine ACode.ret ?_
  exact RetQ.one rfl rfl subB stays (fun hk => ⟨(by rw [soundH, if_pos hff]), rfl, by omega⟩)
 ·skip
  have hff : ¬ frontH h cols.length = true := by rw [show frontH h cols.length = false from c0]; decide
  have hlen := front_len hff
  refine ACode.skip ?_
  refine Sz ?_
  refine Sz ?_
  refine Rz [0, 1, 2, 3] Kz rfl ?_
  refine Fz ?_
  refine Oz rfl rfl rfl (AOp.load1 (b := hdblk h (.slice A h.cols.length c)) (v := (.slice A h.cols.length c)) rfl rfl hpB (hdc_s h _) ?_)
  refine Oz rfl rfl rfl (AOp.len' rfl rfl ?_)
  refine Mz ?_
  refine Ez ?_
  refine ACode.block ?_
  refine ACode.count0 (fun i => [(38, .int .i64 (i : Int))]) [(1, _), (2, _), (36, _), (37, _)] (h.cols.length) (fun i => ∀ j, j < i → colH soundP h cols j = false) (.cons rfl .nil) Xz (fun j hj => absurd hj (Nat.not_lt_zero j)) (fun i0 kL0 HL0 hiL0 hkL0 hsL0 hfL0 hxL0 => ?_)
  show ACode _ _ _ _ _ ⟨_, _, _⟩
  have tsL0 := SubS.of hsL0
  refine Sz ?_
  refine Rz [0] Kz rfl ?_
  refine Oz rfl rfl rfl (AOp.bin' rfl rfl rfl rfl ?_)
  refine Ez ?_
  refine Sz ?_
  refine ACode.cond rfl (fun c1 => ?_) (fun c1 => ?_)
  ·try simp only [Cz] at c1
   refine ACode.skip ?_
   refine Sz ?_
   refine ACode.block ?_
   refine Sz ?_
   have hmem : (h.cols.getD i0 chD) ∈ h.cols := getD_mem Wz
   obtain ⟨n5_1, o5_1, s5_1, hq5_1, hp5_1⟩ := SLC.elC (i := i0) (SLC.sub hS subB) Wz
   refine Rz [0, 1, 2, 3, 4, 5] Kz rfl ?_
   refine Mz ?_
   refine Oz rfl rfl rfl (AOp.indexP (aslcAt_sub subB hq5_1) rfl rfl rfl ?_)
   refine Oz rfl rfl rfl (AOp.loadPA (v := .agg (chc (h.cols.getD i0 chD)).toArray) (hp5_1.sub subB) rfl rfl rfl rfl (chc_len _) Dz ?_)
   refine Oz rfl rfl rfl (AOp.alloc' rfl ?_)
   refine Nz ?_
   refine aOps_0 rfl rfl rfl ?_
   refine AOp.storeAll (b := ?b6) rfl rfl rfl ?hn6 ?hk6 rfl ?hw6 ?ho6 ?hl6 ?hR6
   (case hn6 => exact hpB)
   (case hk6 => rfl)
   (case hw6 => first | rfl | exact hv_size _ | exact one_bv _ | exact chc_size _ | exact chc_one _ | (simp; done))
   (case ho6 => first | rfl | exact hv_size _ | exact one_bv _ | exact chc_size _ | exact chc_one _ | decide | (simp; done))
   (case hl6 => first | rfl | exact hv_size _ | exact one_bv _ | exact chc_size _ | exact chc_one _ | (simp; done))
   rw [rd_upd2]
   refine Ez ?_
   refine Sz ?_
   obtain ⟨n6_6, o6_6, s6_6, hq6_6, hp6_6⟩ := slcElG (fun a : Col => (cc a).cells.toList) (i := i0) ⟨0, false, 0⟩ (hC.sub subB).cells (fun _ => rfl) Dz Wz
   obtain ⟨n6_19, o6_19, s6_19, hq6_19, hp6_19⟩ := slcElG (fun a : Col => (cc a).cells.toList) (i := i0) ⟨0, false, 0⟩ (hC.sub subB).cells (fun _ => rfl) Dz Wz
   refine ACode.draw' 25 [(0, 43), (1, 44), (2, 45), (3, 46), (4, 47), (5, 48), (6, 49), (7, 50), (8, 51), (9, 52), (10, 53), (11, 54), (12, 55), (13, 56), (14, 57), (15, 58), (16, 59), (17, 60), (18, 61), (19, 62), (20, 63), (21, 64), (22, 65), (23, 66), (24, 67)] mixed Kz ?_
   refine Draw.step [(6, none)] rfl Kz rfl (fun kq hkq => AOp.fieldAddr' rfl Dz rfl Vz) ?_
   refine Draw.step [(43, some 0)] rfl Kz rfl (fun kq hkq => AOp.loadN (b := chblk (h.cols.getD i0 chD)) (cs := znc (h.cols.getD i0 chD).z) rfl rfl hpB (by show 0 + 8 ≤ (chc _).length; rw [chc_len]; decide) rfl Vz) ?_
   refine Draw.step [(2, none)] rfl Kz rfl (fun kq hkq => AOp.fieldAddr' rfl Dz rfl Vz) ?_
   refine Draw.step [(45, some 2)] rfl Kz rfl (fun kq hkq => (by refine AOp.load1 (b := ?b7) (v := ?v7) rfl rfl ?hn7 ?hv7 ?hR7; (case hn7 => exact hpB); (case hv7 => rfl); exact Vz)) ?_
   refine Draw.step [(1, none)] rfl Kz rfl (fun kq hkq => AOp.move' (.inl rfl) rfl Vz) ?_
   refine Draw.step [(5, none)] rfl Kz rfl (fun kq hkq => AOp.move' (.inl rfl) rfl Vz) ?_
   refine Draw.step [(47, some 4), (48, some 5)] rfl Kz rfl (fun kq hkq => AOp.indexP (aslcAt_sub subB hq6_6) rfl rfl rfl Vz) ?_
   refine Draw.step [(49, some 6)] rfl Kz rfl (fun kq hkq => AOp.fieldP (hp6_6.sub subB) rfl Dz (Nat.le_of_ble_eq_true rfl) rfl Vz) ?_
   refine Draw.step [(50, some 7)] rfl Kz rfl (fun kq hkq => AOp.loadP1 (hp6_6.sub subB) rfl rfl rfl Vz) ?_
   refine Draw.step [(44, some 1), (46, some 3), (51, some 8)] rfl Kz rfl (fun kq hkq => AOp.call' rfl rfl rfl (Sound_b _ _ (h.cols.getD i0 chD).z (hok _ hmem) h.rows (cols.getD i0 ⟨0, false, 0⟩).kind) Iz) ?_
   refine Draw.step [(52, some 9)] rfl Kz rfl (fun kq hkq => AOp.un' rfl rfl rfl Vz) ?_
   refine Draw.step [(53, some 10)] rfl Kz rfl (fun kq hkq => AOp.move' (.inl rfl) rfl Vz) ?_
   refine Draw.gd [(6, none), (54, some 11)] rfl Kz (wantF rfl rfl rfl) (fun kq hkq hc => AOp.slots [(6, _)] (.cons rfl .nil) (AOp.fieldAddr' rfl Dz rfl Vz)) ?_
   refine Draw.gd [(55, some 12), (54, some 11)] rfl Kz (wantF rfl rfl rfl) (fun kq hkq hc => AOp.slots [(55, _)] (.cons (gvT rfl hc) .nil) (AOp.fieldAddr' rfl Dz rfl Vz)) ?_
   refine Draw.gd [(56, some 13), (54, some 11)] rfl Kz (wantF rfl rfl rfl) (fun kq hkq hc => AOp.slots [(56, _)] (.cons (gvT rfl hc) .nil) ((by refine AOp.load1 (b := ?b8) (v := ?v8) rfl rfl ?hn8 ?hv8 ?hR8; (case hn8 => exact hpB); (case hv8 => rfl); exact Vz))) ?_
   refine Draw.gd [(57, some 14), (54, some 11)] rfl Kz (wantF rfl rfl rfl) (fun kq hkq hc => AOp.slots [(57, _)] (.cons (gvT rfl hc) .nil) (AOp.bin' rfl rfl rfl rfl Vz)) ?_
   refine Draw.gd [(58, some 15), (54, some 11)] rfl Kz (wantF rfl rfl rfl) (fun kq hkq hc => AOp.slots [(58, _)] (.cons (gvT rfl hc) .nil) (AOp.move' (.inl rfl) rfl Vz)) ?_
   refine Draw.gd [(1, none), (59, some 16)] rfl Kz (wantGT rfl rfl rfl) (fun kq hkq hc => AOp.slots [(1, _)] (.cons rfl .nil) (AOp.move' (.inl rfl) rfl Vz)) ?_
   refine Draw.gd [(5, none), (59, some 16)] rfl Kz (wantGT rfl rfl rfl) (fun kq hkq hc => AOp.slots [(5, _)] (.cons rfl .nil) (AOp.move' (.inl rfl) rfl Vz)) ?_
   refine Draw.gd [(60, some 17), (61, some 18), (59, some 16)] rfl Kz (wantGT rfl rfl rfl) (fun kq hkq hc => AOp.slots [(60, _), (61, _)] (.cons (gvT rfl hc) (.cons (gvT rfl hc) .nil)) (AOp.indexP (aslcAt_sub subB hq6_19) rfl rfl rfl Vz)) ?_
   refine Draw.gd [(62, some 19), (59, some 16)] rfl Kz (wantGT rfl rfl rfl) (fun kq hkq hc => AOp.slots [(62, _)] (.cons (gvT rfl hc) .nil) (AOp.fieldP (hp6_19.sub subB) rfl Dz (Nat.le_of_ble_eq_true rfl) rfl Vz)) ?_
   refine Draw.gd [(63, some 20), (59, some 16)] rfl Kz (wantGT rfl rfl rfl) (fun kq hkq hc => AOp.slots [(63, _)] (.cons (gvT rfl hc) .nil) (AOp.loadP1 (hp6_19.sub subB) rfl rfl rfl Vz)) ?_
   refine Draw.gd [(64, some 21), (59, some 16)] rfl Kz (wantGT rfl rfl rfl) (fun kq hkq hc => AOp.slots [(64, _)] (.cons (gvT rfl hc) .nil) (AOp.un' rfl rfl rfl Vz)) ?_
   refine Draw.gd [(59, some 16), (65, some 22), (54, some 11)] rfl Kz (wantF rfl rfl rfl) (fun kq hkq hc => AOp.pickAnd rfl rfl (gvE rfl hc) (fun hb => gvE rfl (and_mk hc hb)) Vz) ?_
   refine Draw.step [(54, some 11), (66, some 23)] rfl Kz rfl (fun kq hkq => AOp.pickOr rfl rfl rfl (fun hb => gvE rfl (t_not hb)) Vz) ?_
   refine Draw.done fun kq hkq => ?_
   show aOps _ _ _ _ [] ⟨_, _, _⟩
   refine Ez ?_
   refine ACode.cond rfl (fun c2 => ?_) (fun c2 => ?_)
   ·skip
    have hcc : colH soundP h cols i0 = true := c2
    refine Sz ?_
    refine Rz [0] Kz rfl ?_
    refine Nz ?_
    refine Ez ?_
    refine ACode.ret ?_
    exact RetQ.one rfl rfl subB stays (fun hk => ⟨(by rw [soundH_f hff Wz hcc]), rfl, by omega⟩)
   ·skip
    have hcc : colH soundP h cols i0 = false := c2
    refine ACode.skip ?_
    refine Rz [0, 1] Kz rfl ?_
    refine Oz rfl rfl rfl (AOp.add rfl rfl rfl (i64_wrap Wz Wz) ?_)
    refine Mz ?_
    refine Ez ?_
    first | refine thenA_n ?_ | simp only [thenA, blockA, if_true]
    exact NextR.mk Wz Wz (.cons rfl .nil) Xz subB (fun j hj => (Nat.lt_or_ge j i0).elim (fun h9 => hxL0 j h9) (fun h9 => by rw [show j = i0 by omega]; exact hcc))
  ·try simp only [Cz] at c1
   refine ACode.exit ?_
   refine Sz ?_
   refine Rz [0] Kz rfl ?_
   refine Nz ?_
   refine Ez ?_
   refine ACode.ret ?_
   exact RetQ.one rfl rfl subB stays (fun hk => ⟨(by rw [soundH_t hff (fun j hj => hxL0 j Wz)]), rfl, by omega⟩)
end

end Go.Proofs.YteoofihjmldllaaDoor
