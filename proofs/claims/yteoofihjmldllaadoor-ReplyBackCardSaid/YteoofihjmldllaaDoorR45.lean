/- Contracts over the abstract states: forms of headers. -/
import Derived.Test.YteoofihjmldllaaDoorRW
import Derived.Test.YteoofihjmldllaaDoorR41
set_option linter.unusedVariables false
set_option linter.unusedSimpArgs false
set_option maxRecDepth 100000
namespace Go.Proofs.YteoofihjmldllaaDoor
open Go Go.Ab

/-- A fact that is set aside. -/
structure Nt (p : Prop) : Prop where
 h : p
theorem csB_next {l : List Ch} {i : Nat} (h : i < l.length) : csB (l.take (i + 1)) = csB (l.take i) ++ chB (l.getD i chD) := flat_next chB chD h
theorem bsB_next {l : List Sp} {i : Nat} (h : i < l.length) : bsB (l.take (i + 1)) = bsB (l.take i) ++ spB (l.getD i spD) := flat_next spB spD h
theorem dsB_next {l : List Dg} {i : Nat} (h : i < l.length) : dsB (l.take (i + 1)) = dsB (l.take i) ++ (l.getD i zeroD).l := flat_next (fun d : Dg => d.l) zeroD h
theorem ksB_next {l : List (List UInt8)} {i : Nat} (h : i < l.length) : ksB (l.take (i + 1)) = ksB (l.take i) ++ blB (l.getD i []) := flat_next blB [] h
theorem srcD {H : Hp} {n off l : Nat} {b : Blk} (d : Dg) (a r : List Value) (hn : H n = some b) (hb : b.cells = a ++ (d.l.map bv ++ r)) (ha : a.length = off) (hl : d.l.length = l) : srcOf H 1 (.slice (some ⟨n, off, none⟩) l l) = some (d.l.length, d.l.map bv) := by
 subst hl
 refine srcOf_slc (SLC.part hn (Nat.le_refl _) (by rw [hb, List.length_append, List.length_append, List.length_map, ha]; omega) ?_).cells
 rw [hb, Nat.mul_one]
 exact mid_take _ _ _ _ _ ha (by rw [List.length_map])
section
variable (H : Hp) (k : Nat)

theorem putVar0 (v : Nat) (hv : v < 18446744073709551616) : ACalls Tryd.prog 3 64 [.slice none 0 0, u64 v] H k (NewB H k 5 (varB v)) := by
 refine ACalls.fresh fun hf => ?_
 refine ACalls.body Tryd.func64 rfl (Nat.le_of_ble_eq_true rfl) ?_
 have hvl := varB_len v hv
 have hbl : ([] : List UInt8).length ≤ 1099511627776 := by decide
 refine Sz ?_
 refine Rz [0] Kz rfl ?_
 refine Nz ?_
 refine Ez ?_
 refine Sz ?_
 refine ACode.block ?_
 refine ACode.adopt (t := 0) 5 1 Dz rfl ?_
 refine ACode.count (fun i => [(0, sl k (([] : List UInt8) ++ (varB v).take i).length), (1, u64 (v / 128 ^ i))]) [(4, _)] (fun i => upd H k (some (gb (([] : List UInt8) ++ (varB v).take i)))) ((varB v).length - 1) (fun _ => True) (.cons (show _ = some (sl k (([] : List UInt8) ++ (varB v).take 0).length) by rw [List.take_zero, List.append_nil]; rfl) (.cons (show _ = some (u64 (v / 128 ^ 0)) by rw [Nat.pow_zero, Nat.div_one]; rfl) .nil)) (.cons rfl .nil) (by exact sub_refl _) trivial (fun i0 kL0 HL0 hiL0 hkL0 hsL0 hfL0 hxL0 => ?_)
 show ACode _ _ _ _ _ ⟨_, _, _⟩
 have tsL0 := SubS.of hsL0
 refine Sz ?_
 refine Sz ?_
 refine Rz [0, 1] Kz rfl ?_
 refine Mz ?_
 refine Oz rfl rfl rfl (AOp.bin' rfl rfl rfl rfl ?_)
 refine Ez ?_
 refine ACode.cond rfl (fun c0 => ?_) (fun c0 => ?_)
 ·try simp only [Cz] at c0
  refine ACode.skip ?_
  refine Sz ?_
  refine ACode.block ?_
  refine Rz [0, 1, 2, 3, 4, 5, 6] Kz rfl ?_
  refine Mz ?_
  refine Mz ?_
  refine Oz rfl rfl rfl (AOp.toU8 rfl rfl ?_)
  refine Oz rfl rfl rfl (AOp.bin' (z := bv (UInt8.ofNat (v / 128 ^ i0 % 128 + 128))) rfl rfl rfl (congrArg (fun z => some (Value.int .u8 z)) (by rw [byteI_nat]; exact or128' _)) ?_)
  refine Oz rfl rfl rfl (AOp.buildB [_] rfl Dz rfl rfl ?_)
  refine Oz rfl rfl rfl ?_
  refine AOp.appendB (ps := ?ns1) rfl rfl rfl ?hn1 ?hsrc1 ?ht1 ?hw1 ?hz1 ?hR1
  (case hn1 => exact hpB)
  (case hsrc1 => refine srcOf_gb (e := 5) ?e11; (case e11 => exact hpB))
  (case ht1 => exact srcOk_sl)
  (case hw1 => (first | omega | (simp only [List.length_cons, List.length_nil]; omega) | (simp only [List.length_append, List.length_cons, List.length_nil]; omega) | (simp; omega)))
  (case hz1 => (first | omega | (simp only [List.length_cons, List.length_nil]; omega) | (simp only [List.length_append, List.length_cons, List.length_nil]; omega) | (simp; omega)))
  refine Nz ?_
  refine Ez ?_
  refine Rz [0, 1, 2] Kz rfl ?_
  refine Mz ?_
  refine Oz rfl rfl rfl (AOp.bin' rfl rfl rfl rfl ?_)
  refine Nz ?_
  refine Ez ?_
  obtain ⟨hb1, hb2⟩ := varB_at i0 v hiL0 (by exact_mod_cast c0)
  have hb3 : (([] : List UInt8) ++ (varB v).take (i0 + 1)).length = (([] : List UInt8) ++ (varB v).take i0).length + 1 := by rw [hb2, ← List.append_assoc, List.length_append]; rfl
  have hb4 : ((v / 128 ^ (i0 + 1) : Nat) : Int) = ((v / 128 ^ i0 : Nat) : Int).fdiv 128 := by rw [Int.fdiv_eq_ediv_of_nonneg _ Dz, Nat.pow_succ, ← Nat.div_div_eq_div_mul]; rfl
  first | refine thenA_n ?_ | simp only [thenA, blockA, if_true]
  exact NextR.mk Wz Wz (.cons (show _ = some (sl k _) by rw [hb2, ← List.append_assoc]; rfl) (.cons (show _ = some (Value.int .u64 _) by rw [hb4]; rfl) .nil)) (.cons rfl .nil) (by exact sub_over_eq (y := some (gb (([] : List UInt8) ++ (varB v).take i0))) subB (by rw [hb2, List.append_assoc])) trivial
 ·try simp only [Cz] at c0
  refine ACode.exit ?_
  refine Sz ?_
  refine Rz [0, 1, 2, 3, 4, 5] Kz rfl ?_
  refine Mz ?_
  refine Mz ?_
  refine Oz rfl rfl rfl (AOp.toU8 rfl rfl ?_)
  refine Oz rfl rfl rfl (AOp.buildB [_] rfl Dz rfl rfl ?_)
  refine Oz rfl rfl rfl ?_
  refine AOp.appendB (ps := ?ns2) rfl rfl rfl ?hn2 ?hsrc2 ?ht2 ?hw2 ?hz2 ?hR2
  (case hn2 => exact hpB)
  (case hsrc2 => refine srcOf_gb (e := 5) ?e12; (case e12 => exact hpB))
  (case ht2 => exact srcOk_sl)
  (case hw2 => (first | omega | (simp only [List.length_cons, List.length_nil]; omega) | (simp only [List.length_append, List.length_cons, List.length_nil]; omega) | (simp; omega)))
  (case hz2 => (first | omega | (simp only [List.length_cons, List.length_nil]; omega) | (simp only [List.length_append, List.length_cons, List.length_nil]; omega) | (simp; omega)))
  refine Nz ?_
  refine Ez ?_
  refine ACode.ret ?_
  have hb := varB_last i0 v hiL0 (by exact_mod_cast c0)
  have hb3 : (([] : List UInt8) ++ varB v).length = (([] : List UInt8) ++ (varB v).take i0).length + 1 := by have := congrArg List.length hb; simp only [List.length_append, List.length_singleton] at this ⊢; omega
  exact RetQ.one (H'' := upd H k (some (gb (varB v)))) rfl rfl (sub_over_eq (y := some (gb (([] : List UInt8) ++ (varB v).take i0))) subB (by rw [byteI_nat, List.append_assoc, ← hb]; rfl)) stays_upd (fun hk => ⟨k, Nat.le_refl _, by omega, by rw [byteI_nat, List.append_assoc, ← hb]; rfl, rfl⟩)

set_option maxHeartbeats 1000000 in
theorem nputH (h : Hd) (A : Option Addr) (c : Nat) (hS : SLC H 40 A h.cols.length c (chs h.cols)) (hok : ∀ x ∈ h.cols, x.z.ok) (hft : h.fit) (hsm : h.sm) : ACalls Tryd.prog 3 74 [hdv h (.slice A h.cols.length c)] H k (NewB H k 5 (hdB h)) := by
 refine ACalls.fresh fun hf => ?_
 refine ACalls.body Tryd.func74 rfl (Nat.le_of_ble_eq_true rfl) ?_
 obtain ⟨a, ha, ha6⟩ : ∃ a : Nat, h.rows = a ∧ a < 18446744073709551616 := ⟨h.rows.toNat, by have := hft.r0; omega, by have := hft.r1; omega⟩
 obtain ⟨b, hb, hb6⟩ : ∃ b : Nat, h.live = b ∧ b < 18446744073709551616 := ⟨h.live.toNat, by have := hft.l0; omega, by have := hft.l1; omega⟩
 have hvl : Nt ((varB a).length ≤ 10 ∧ (varB b).length ≤ 10 ∧ h.dead.l.length = 32) := ⟨varB_len a ha6, varB_len b hb6, h.dead.h⟩
 have hcl := hsm.cl
 have e9 : ∀ i, i = h.cols.length → ((varB a ++ varB b ++ h.dead.l) ++ csB (h.cols.take i)) = hdB h := fun i hi => by rw [hdB, ha, hb, hi, List.take_length, Int.toNat_natCast, Int.toNat_natCast, List.append_assoc, List.append_assoc]
 have hbi : ∀ i, ((varB a ++ varB b ++ h.dead.l) ++ csB (h.cols.take i)).length ≤ 60 + 70 * 40200 := fun i => by
  have h1 := csB_len (h.cols.take i) (fun x hx => hok x (List.mem_of_mem_take hx)) (fun x hx => hft.z x (List.mem_of_mem_take hx)) (fun x hx => hsm.s x (List.mem_of_mem_take hx))
  have h2 : (h.cols.take i).length ≤ h.cols.length := by rw [List.length_take]; omega
  have h4 := hvl.h
  simp only [List.length_append]
  have h3 : (h.cols.take i).length * 40200 ≤ 70 * 40200 := Nat.mul_le_mul_right _ Wz
  omega
 refine Sz ?_
 refine Rz [0, 1] Kz rfl ?_
 refine Oz rfl rfl rfl (AOp.boxV rfl rfl ?_)
 refine Nz ?_
 refine Ez ?_
 refine Sz ?_
 refine ACode.any mixed Kz ?_
 refine AnyA.float (Hq := (upd (fun _ => none) k (some (hdblk h (.slice A h.cols.length c))))) [(0, 6), (1, 7), (2, 8), (4, 10), (5, 11), (6, 12)] [3, 7, 8] Kz (Nat.le_of_ble_eq_true rfl) Kz subB ?_
 refine DrawF.q 0 6 [(1, none)] rfl Kz rfl (fun Hc kq hSb => AOp.fieldAddr' rfl Dz rfl Tz) ?_
 refine DrawF.q 1 7 [(6, some 0)] rfl Kz rfl (fun Hc kq hSb => have tSb := SubS.of hSb; (by refine AOp.load1 (b := ?b3) (v := ?v3) rfl rfl ?hn3 ?hv3 ?hR3; (case hn3 => exact hpB); (case hv3 => rfl); exact Tz)) ?_
 rw [ha]
 refine DrawF.q 2 8 [(7, some 1)] rfl Kz rfl (fun Hc kq hSb => AOp.convU64 (a := a) rfl rfl ha6 Tz) ?_
 refine DrawF.q 4 10 [(1, none)] rfl Kz rfl (fun Hc kq hSb => AOp.fieldAddr' rfl Dz rfl Tz) ?_
 refine DrawF.q 5 11 [(10, some 4)] rfl Kz rfl (fun Hc kq hSb => have tSb := SubS.of hSb; (by refine AOp.load1 (b := ?b4) (v := ?v4) rfl rfl ?hn4 ?hv4 ?hR4; (case hn4 => exact hpB); (case hv4 => rfl); exact Tz)) ?_
 rw [hb]
 refine DrawF.q 6 12 [(11, some 5)] rfl Kz rfl (fun Hc kq hSb => AOp.convU64 (a := b) rfl rfl hb6 Tz) ?_
 refine DrawF.done ?_
 show aOpsF _ _ _ _ _ _ [3, 7, 8] ⟨_, _, _⟩
 refine aOpsF_1 [8] rfl rfl Kz rfl ?_
 refine AOp.call' rfl rfl rfl (putVar0 _ _ a ha6) ?_
 rintro _ _ kq ⟨q, hq1, hq2, rfl, rfl⟩
 refine ⟨by exact subB, ?_⟩
 refine aOpsF_1 [9, 12] rfl rfl Kz rfl ?_
 refine AOp.call' rfl rfl rfl (putVar 3 _ _ q (varB a) b hpB hb6 (by have := hvl.h; omega)) ?_
 rintro _ _ kr ⟨rfl, rfl, hkr⟩
 refine ⟨by exact subB, ?_⟩
 refine aOpsF_1 [13] rfl rfl Kz rfl (AOp.move' (.inr rfl) rfl ?_)
 refine ⟨by exact subB, ?_⟩
 refine aOpsF_end ?_
 refine Sz ?_
 refine Rz [0, 1, 2, 3, 4] Kz rfl ?_
 refine Mz ?_
 refine Fz ?_
 refine Oz rfl rfl rfl (AOp.sliceP rfl rfl ?_)
 refine Oz rfl rfl rfl (AOp.appendB (bs := varB a ++ varB b) (ps := h.dead.l) rfl rfl rfl hpB (srcD (b := hdblk h (.slice A h.cols.length c)) h.dead [.int .i64 h.rows, .int .i64 h.live] [(.slice A h.cols.length c)] hpB rfl rfl h.dead.h) srcOk_sl (by have := hvl.h; simp only [List.length_append]; omega) (by have := hvl.h; simp only [List.length_append]; omega) ?_)
 refine Nz ?_
 refine Ez ?_
 refine Sz ?_
 refine Sz ?_
 refine Rz [0, 1, 2, 3] Kz rfl ?_
 refine Fz ?_
 refine Oz rfl rfl rfl (AOp.load1 (b := hdblk h (.slice A h.cols.length c)) (v := (.slice A h.cols.length c)) rfl rfl hpB (hdc_s _ _) ?_)
 refine Oz rfl rfl rfl (AOp.len' rfl rfl ?_)
 refine Mz ?_
 refine Ez ?_
 refine ACode.block ?_
 refine ACode.count (fun i => [(21, .int .i64 (i : Int)), (3, sl q ((varB a ++ varB b ++ h.dead.l) ++ csB (h.cols.take i)).length)]) [(2, _), (19, _), (20, _)] (fun i => upd (upd H k (some (hdblk h (.slice A h.cols.length c)))) q (some (gb ((varB a ++ varB b ++ h.dead.l) ++ csB (h.cols.take i))))) (h.cols.length) (fun _ => True) (.cons rfl (.cons (show _ = some (sl q _) by rw [show csB (h.cols.take 0) = [] from rfl, List.append_nil]; rfl) .nil)) Xz (by rw [show csB (h.cols.take 0) = [] from rfl, List.append_nil]; exact subB) trivial (fun i0 kL0 HL0 hiL0 hkL0 hsL0 hfL0 hxL0 => ?_)
 show ACode _ _ _ _ _ ⟨_, _, _⟩
 have tsL0 := SubS.of hsL0
 refine Sz ?_
 refine Rz [0] Kz rfl ?_
 refine Oz rfl rfl rfl (AOp.bin' rfl rfl rfl rfl ?_)
 refine Ez ?_
 refine Sz ?_
 refine ACode.cond rfl (fun c0 => ?_) (fun c0 => ?_)
 ·try simp only [Cz] at c0
  refine ACode.skip ?_
  refine Sz ?_
  refine ACode.block ?_
  refine Sz ?_
  have hmem : (h.cols.getD i0 chD) ∈ h.cols := getD_mem Wz
  have hzk := hok _ hmem
  obtain ⟨m, hm, hm6⟩ : ∃ m : Nat, (h.cols.getD i0 chD).z.nulls = m ∧ m < 18446744073709551616 := ⟨(h.cols.getD i0 chD).z.nulls.toNat, by have := (hft.z _ hmem).1; omega, by have := (hft.z _ hmem).2; omega⟩
  have hzs : Nt _ := ⟨hsm.s _ hmem⟩
  have hN : Nt (((varB a ++ varB b ++ h.dead.l) ++ csB (h.cols.take i0)).length ≤ 60 + 70 * 40200 ∧ (varB m).length ≤ 10 ∧ (putB (h.cols.getD i0 chD).z.min).length ≤ 20012 ∧ (putB (h.cols.getD i0 chD).z.max).length ≤ 20012 ∧ (h.cols.getD i0 chD).d.l.length = 32) := ⟨hbi i0, varB_len m hm6, putB_len (h.cols.getD i0 chD).z.min hzk.2.1 hzs.h.1, putB_len (h.cols.getD i0 chD).z.max hzk.2.2 hzs.h.2, (h.cols.getD i0 chD).d.h⟩
  obtain ⟨n5_0, o5_0, s5_0, hq5_0, hp5_0⟩ := SLC.elC (i := i0) (SLC.sub hS subB) Wz
  refine Rz [0, 1, 2, 3] Kz rfl ?_
  refine Oz rfl rfl rfl (AOp.indexP (aslcAt_sub subB hq5_0) rfl rfl rfl ?_)
  refine Oz rfl rfl rfl (AOp.loadPA (v := .agg (chc (h.cols.getD i0 chD)).toArray) (hp5_0.sub subB) rfl rfl rfl rfl (chc_len _) Dz ?_)
  refine Oz rfl rfl rfl (AOp.alloc' rfl ?_)
  refine aOps_0 rfl rfl rfl ?_
  refine AOp.storeAll (b := ?b5) rfl rfl rfl ?hn5 ?hk5 rfl ?hw5 ?ho5 ?hl5 ?hR5
  (case hn5 => exact hpB)
  (case hk5 => rfl)
  (case hw5 => first | rfl | exact hv_size _ | exact one_bv _ | exact hdv_size _ _ | exact chc_size _ | exact chc_one _ | exact hdc_one _ _ rfl | (simp; done))
  (case ho5 => first | rfl | exact hv_size _ | exact one_bv _ | exact hdv_size _ _ | exact chc_size _ | exact chc_one _ | exact hdc_one _ _ rfl | decide | (simp; done))
  (case hl5 => first | rfl | exact hv_size _ | exact one_bv _ | exact hdv_size _ _ | exact chc_size _ | exact chc_one _ | exact hdc_one _ _ rfl | (simp; done))
  rw [rd_upd2]
  refine Ez (Sz (Rz [0, 1, 2, 3, 4, 5, 6] Kz rfl ?_))
  refine Mz ?_
  refine Fz ?_
  refine Fz ?_
  refine Oz rfl rfl rfl ?_
  refine AOp.load1 (b := ?b6) (v := ?v6) rfl rfl ?hn6 ?hv6 ?hR6
  (case hn6 => exact hpB)
  (case hv6 => rfl)
  rw [hm]
  refine Oz rfl rfl rfl (AOp.convU64 (a := m) rfl rfl hm6 ?_)
  refine Oz rfl rfl rfl ?_
  refine AOp.call' rfl rfl rfl (putVar 3 _ _ q ((varB a ++ varB b ++ h.dead.l) ++ csB (h.cols.take i0)) m hpB hm6 (by have := hN.h; omega)) ?_
  rintro _ _ ks ⟨rfl, rfl, hks⟩
  refine Nz ?_
  refine Ez ?_
  refine Sz ?_
  refine Sz ?_
  refine Rz [0, 1, 2] Kz rfl ?_
  refine Fz ?_
  refine Fz ?_
  refine Oz rfl rfl rfl ?_
  refine AOp.load1 (b := ?b7) (v := ?v7) rfl rfl ?hn7 ?hv7 ?hR7
  (case hn7 => exact hpB)
  (case hv7 => rfl)
  refine Ez ?_
  refine ACode.cond rfl (fun c1 => ?_) (fun c1 => ?_)
  ·try simp only [Cz] at c1
   have hsome : (h.cols.getD i0 chD).z.some = true := by simpa using c1
   refine ACode.any mixed Kz ?_
   refine AnyA.float (Hq := (upd (fun _ => none) kL0 (some (chblk (h.cols.getD i0 chD))))) [(0, 34), (3, 37), (4, 38), (5, 39), (7, 41), (8, 42), (9, 43)] [1, 2, 6, 10, 11] Kz (Nat.le_of_ble_eq_true rfl) Kz subB ?_
   refine DrawF.q 0 34 [(3, none)] rfl Kz rfl (fun Hc kq hSb => AOp.move' (.inl rfl) rfl Tz) ?_
   refine DrawF.q 3 37 [(5, none)] rfl Kz rfl (fun Hc kq hSb => AOp.fieldAddr' rfl Dz rfl Tz) ?_
   refine DrawF.q 4 38 [(37, some 3)] rfl Kz rfl (fun Hc kq hSb => AOp.fieldAddr' rfl Dz rfl Tz) ?_
   refine DrawF.q 5 39 [(38, some 4)] rfl Kz rfl (fun Hc kq hSb => have tSb := SubS.of hSb; AOp.loadN (b := chblk (h.cols.getD i0 chD)) (cs := (vv (h.cols.getD i0 chD).z.min).cells.toList) rfl rfl hpB (by show 2 + 3 ≤ (chc _).length; rw [chc_len]; decide) rfl Tz) ?_
   refine DrawF.q 7 41 [(5, none)] rfl Kz rfl (fun Hc kq hSb => AOp.fieldAddr' rfl Dz rfl Tz) ?_
   refine DrawF.q 8 42 [(41, some 7)] rfl Kz rfl (fun Hc kq hSb => AOp.fieldAddr' rfl Dz rfl Tz) ?_
   refine DrawF.q 9 43 [(42, some 8)] rfl Kz rfl (fun Hc kq hSb => have tSb := SubS.of hSb; AOp.loadN (b := chblk (h.cols.getD i0 chD)) (cs := (vv (h.cols.getD i0 chD).z.max).cells.toList) rfl rfl hpB (by show 5 + 3 ≤ (chc _).length; rw [chc_len]; decide) rfl Tz) ?_
   refine DrawF.done ?_
   show aOpsF _ _ _ _ _ _ [1, 2, 6, 10, 11] ⟨_, _, _⟩
   refine aOpsF_1 [] rfl rfl Kz rfl (AOp.buildB [1] rfl Dz rfl rfl ?_)
   refine ⟨by exact subB, ?_⟩
   refine aOpsF_1 [34, 35] rfl rfl Kz rfl (AOp.appendB (bs := (((varB a ++ varB b ++ h.dead.l) ++ csB (h.cols.take i0)) ++ varB m)) (ps := [1]) rfl rfl rfl hpB (srcOf_gb (e := 5) hpB) srcOk_sl (by have hl5 := hN.h; simp only [List.length_append, List.length_cons, List.length_nil] at hl5 ⊢; omega) (by have hl5 := hN.h; simp only [List.length_append, List.length_cons, List.length_nil] at hl5 ⊢; omega) ?_)
   refine ⟨by exact subB, ?_⟩
   refine aOpsF_1 [36, 39] rfl rfl Kz rfl ?_
   refine AOp.call' rfl rfl rfl (put_val 3 _ _ q (((varB a ++ varB b ++ h.dead.l) ++ csB (h.cols.take i0)) ++ varB m ++ [1]) (h.cols.getD i0 chD).z.min hzk.2.1 (Nat.le_trans hzs.h.1 Dz) hpB (by have hl5 := hN.h; simp only [List.length_append, List.length_cons, List.length_nil] at hl5 ⊢; omega)) ?_
   rintro _ _ kt ⟨rfl, rfl, hkt⟩
   refine ⟨by exact subB, ?_⟩
   refine aOpsF_1 [40, 43] rfl rfl Kz rfl ?_
   refine AOp.call' rfl rfl rfl (put_val 3 _ _ q (((varB a ++ varB b ++ h.dead.l) ++ csB (h.cols.take i0)) ++ varB m ++ [1] ++ putB (h.cols.getD i0 chD).z.min) (h.cols.getD i0 chD).z.max hzk.2.2 (Nat.le_trans hzs.h.2 Dz) hpB (by have hl5 := hN.h; simp only [List.length_append, List.length_cons, List.length_nil] at hl5 ⊢; omega)) ?_
   rintro _ _ ku ⟨rfl, rfl, hku⟩
   refine ⟨by exact subB, ?_⟩
   refine aOpsF_1 [44] rfl rfl Kz rfl (AOp.move' (.inr rfl) rfl ?_)
   refine ⟨by exact subB, ?_⟩
   refine aOpsF_end ?_
   refine Rz [0, 1, 2, 3, 4] Kz rfl ?_
   refine Mz ?_
   refine Fz ?_
   refine Oz rfl rfl rfl (AOp.sliceP rfl rfl ?_)
   refine Oz rfl rfl rfl (AOp.appendB (bs := (((varB a ++ varB b ++ h.dead.l) ++ csB (h.cols.take i0)) ++ varB m ++ [1] ++ putB (h.cols.getD i0 chD).z.min ++ putB (h.cols.getD i0 chD).z.max)) (ps := (h.cols.getD i0 chD).d.l) rfl rfl rfl hpB (srcD (b := chblk (h.cols.getD i0 chD)) (h.cols.getD i0 chD).d (znc (h.cols.getD i0 chD).z) [] hpB (by rw [List.append_nil]) rfl (h.cols.getD i0 chD).d.h) srcOk_sl (by have hl5 := hN.h; simp only [List.length_append, List.length_cons, List.length_nil] at hl5 ⊢; omega) (by have hl5 := hN.h; simp only [List.length_append, List.length_cons, List.length_nil] at hl5 ⊢; omega) ?_)
   refine Nz ?_
   refine Ez ?_
   refine Rz [0, 1] Kz rfl ?_
   refine Oz rfl rfl rfl (AOp.add rfl rfl rfl (i64_wrap Wz Wz) ?_)
   refine Mz ?_
   refine Ez ?_
   have e4 : (((varB a ++ varB b ++ h.dead.l) ++ csB (h.cols.take i0)) ++ varB m ++ [1] ++ putB (h.cols.getD i0 chD).z.min ++ putB (h.cols.getD i0 chD).z.max) ++ (h.cols.getD i0 chD).d.l = ((varB a ++ varB b ++ h.dead.l) ++ csB (h.cols.take (i0 + 1))) := by rw [csB_next (show i0 < h.cols.length by omega), chB, zB, hm, Int.toNat_natCast, if_pos hsome]; simp [List.append_assoc]
   first | refine thenA_n ?_ | simp only [thenA, blockA, if_true]
   exact NextR.mk Wz Wz (.cons rfl (.cons (show _ = some (sl q _) by rw [← e4]; first | rfl | (simp only [List.length_append, h5]; rfl)) .nil)) Xz (by rw [← e4]; exact subB) trivial
  ·try simp only [Cz] at c1
   have hsome : ¬ (h.cols.getD i0 chD).z.some = true := by simpa using c1
   refine Rz [0, 1, 2, 3] Kz rfl ?_
   refine Mz ?_
   refine Oz rfl rfl rfl (AOp.buildB [0] rfl Dz rfl rfl ?_)
   refine Oz rfl rfl rfl (AOp.appendB (bs := (((varB a ++ varB b ++ h.dead.l) ++ csB (h.cols.take i0)) ++ varB m)) (ps := [0]) rfl rfl rfl hpB (srcOf_gb (e := 5) hpB) srcOk_sl (by have hl5 := hN.h; simp only [List.length_append, List.length_cons, List.length_nil] at hl5 ⊢; omega) (by have hl5 := hN.h; simp only [List.length_append, List.length_cons, List.length_nil] at hl5 ⊢; omega) ?_)
   refine Nz ?_
   refine Ez ?_
   refine Rz [0, 1, 2, 3, 4] Kz rfl ?_
   refine Mz ?_
   refine Fz ?_
   refine Oz rfl rfl rfl (AOp.sliceP rfl rfl ?_)
   refine Oz rfl rfl rfl (AOp.appendB (bs := (((varB a ++ varB b ++ h.dead.l) ++ csB (h.cols.take i0)) ++ varB m ++ [0])) (ps := (h.cols.getD i0 chD).d.l) rfl rfl rfl hpB (srcD (b := chblk (h.cols.getD i0 chD)) (h.cols.getD i0 chD).d (znc (h.cols.getD i0 chD).z) [] hpB (by rw [List.append_nil]) rfl (h.cols.getD i0 chD).d.h) srcOk_sl (by have hl5 := hN.h; simp only [List.length_append, List.length_cons, List.length_nil] at hl5 ⊢; omega) (by have hl5 := hN.h; simp only [List.length_append, List.length_cons, List.length_nil] at hl5 ⊢; omega) ?_)
   refine Nz ?_
   refine Ez ?_
   refine Rz [0, 1] Kz rfl ?_
   refine Oz rfl rfl rfl (AOp.add rfl rfl rfl (i64_wrap Wz Wz) ?_)
   refine Mz ?_
   refine Ez ?_
   have e4 : (((varB a ++ varB b ++ h.dead.l) ++ csB (h.cols.take i0)) ++ varB m ++ [0]) ++ (h.cols.getD i0 chD).d.l = ((varB a ++ varB b ++ h.dead.l) ++ csB (h.cols.take (i0 + 1))) := by rw [csB_next (show i0 < h.cols.length by omega), chB, zB, hm, Int.toNat_natCast, if_neg hsome]; simp [List.append_assoc]
   first | refine thenA_n ?_ | simp only [thenA, blockA, if_true]
   exact NextR.mk Wz Wz (.cons rfl (.cons (show _ = some (sl q _) by rw [← e4]; first | rfl | (simp only [List.length_append, h5]; rfl)) .nil)) Xz (by rw [← e4]; exact subB) trivial
 ·try simp only [Cz] at c0
  refine ACode.exit ?_
  refine Sz ?_
  refine Rz [0, 1] Kz rfl ?_
  refine Mz ?_
  refine Nz ?_
  refine Ez ?_
  refine ACode.ret ?_
  have e8 := e9 i0 Wz
  rw [e8] at hsL0 tsL0 ⊢
  exact RetQ.one (H'' := upd H q (some (gb (hdB h)))) rfl rfl subB stays_upd (fun hk => ⟨q, by omega, by omega, rfl, rfl⟩)
end

end Go.Proofs.YteoofihjmldllaaDoor
