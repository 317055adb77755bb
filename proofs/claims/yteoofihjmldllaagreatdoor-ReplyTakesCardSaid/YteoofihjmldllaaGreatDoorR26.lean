/- Contracts over the abstract states: digests out of readers. -/
import Derived.Test.YteoofihjmldllaaGreatDoorRH
import Derived.Test.YteoofihjmldllaaGreatDoorR5
set_option linter.unusedVariables false
set_option linter.unusedSimpArgs false
set_option maxRecDepth 100000
namespace Go.Proofs.YteoofihjmldllaaGreatDoor
open Go Go.Ab

theorem one_bv (l : List UInt8) : (l.map bv).toArray.toList.all (·.oneCell') = true := by simp [bv, Value.oneCell']
theorem set_pad {x : List UInt8} {i : Nat} (h : i < x.length) (hl : x.length ≤ 32) : (x.take i ++ List.replicate (32 - i) 0).set i (x.getD i 0) = x.take (i + 1) ++ List.replicate (32 - (i + 1)) 0 := by
 have e : (x.take i).length = i := by rw [List.length_take]; omega
 rw [List.set_append_right _ _ Wz, e, Nat.sub_self, show 32 - i = (32 - (i + 1)) + 1 by omega, List.replicate_succ, List.set_cons_zero, List.take_succ_eq_append_getElem h, List.append_assoc, getD_el h]
 rfl
theorem pad_end {x : List UInt8} (h : x = [] ∨ x.length = 32) : x.take x.length ++ List.replicate (32 - x.length) 0 = pad32 x := by
 rcases h with rfl | h
 ·rfl
 ·rw [List.take_length, h, pad32_full h]
  exact List.append_nil _
theorem sub_both {X Y : Hp} {q : Nat} {b : Option Blk} (h : Ab.Sub X Y) : Ab.Sub (upd X q b) (upd Y q b) := fun m z hm => by
 by_cases e : m = q
 ·rw [e, upd_same] at hm ⊢; exact hm
 ·rw [upd_other _ _ e] at hm ⊢; exact h m z hm
theorem sub_both2 {X Y g Z : Hp} {n q : Nat} (h : Ab.Sub (upd X n none) Y) (ho : ∀ m, m ≠ q → g m = Y m) (hs : Ab.Sub g Z) : Ab.Sub (upd (upd X n none) q none) Z := fun m z hm => by
 by_cases e : m = q
 ·rw [e, upd_same] at hm; cases hm
 ·rw [upd_other _ _ e] at hm; exact hs m z ((ho m e).trans (h m z hm))
section
variable (H : Hp) (k : Nat)

theorem nhash_r (n c : Nat) (A : Option Addr) (ev : Value) (r : Rd) (hR : RdN H n A c ev r) : ACalls Tryz.prog 2 35 [ptr n 0 none] H k (fun v H' k' => v = hv r.hash.1 ∧ RdP H k n A c r.hash.2 H' k') := by
 refine ACalls.fresh fun hf => ?_
 refine ACalls.body Tryz.func35 rfl (Nat.le_of_ble_eq_true rfl) ?_
 have hn := hR.hn
 have hnk := old_lt hf hn
 have hok := hR.ok
 have hal := hok.at_le
 have hle := hok.len
 have hAk : Away A r.bs.length k := Away.of hR.hs (hf k (Nat.le_refl k))
 refine Sz ?_
 refine Rz [0] Kz rfl ?_
 refine Oz rfl rfl rfl (AOp.alloc' rfl ?_)
 refine Ez ?_
 refine Sz ?_
 refine ACode.any mixed Kz ?_
 refine AnyA.float (Hq := (fun _ => none)) [(0, 3), (1, 4)] [2, 3] Kz (Nat.le_of_ble_eq_true rfl) Kz (sub_none _) ?_
 refine DrawF.q 0 3 [(2, none)] rfl Kz rfl (fun Hc kq hSb => AOp.sliceP rfl rfl Tz) ?_
 refine DrawF.q 1 4 [(0, none)] rfl Kz rfl (fun Hc kq hSb => AOp.move' (.inl rfl) rfl Tz) ?_
 refine DrawF.done ?_
 show aOpsF _ _ _ _ _ _ [2, 3] ⟨_, _, _⟩
 refine aOpsF_1 [4] rfl rfl Kz rfl ?_
 refine AOp.call' rfl rfl rfl (ntake _ _ n c A ev r (hR.sub subA) 32 Dz) ?_
 rintro _ HL3 k3 ⟨⟨Aq, cq, rfl, hq3, hqa⟩, hP3⟩
 have hk3 := hP3.1
 have hsL3 := hP3.2.2.1
 have hfL3 := hP3.2.1
 have thsL3 := SubS.of hsL3
 have hkL3 : HL3 k = some ({ cells := List.replicate 32 (.int .u8 0), elem := 23, kind := .fix } : Blk) := hsL3 _ _ (Uz (upd_same _ _ _))
 refine ⟨sub_none _, ?_⟩
 refine aOpsF_1 [3, 5] rfl rfl Kz rfl (AOp.copyD (b := ({ cells := List.replicate 32 (.int .u8 0), elem := 23, kind := .fix } : Blk)) (news := (r.take 32).1.map bv) (cs' := r.hash.1.l.map bv) rfl rfl hkL3 rfl (by show 0 + 32 ≤ 32; decide) rfl hq3.cells (bv_one _) ((copy32 0 (a := []) (r := []) rfl rfl (r.take_all 32)).trans (List.append_nil _)) ?_)
 refine ⟨sub_none _, ?_⟩
 refine aOpsF_end ?_
 refine Sz ?_
 refine Rz [0, 1] Kz rfl ?_
 refine Oz rfl rfl rfl ?_
 refine AOp.loadAll (b := ?b1) (v := hv r.hash.1) rfl rfl ?hn1 ?hv1 ?hw1 ?hz1 ?hR1
 (case hn1 => exact hpA)
 (case hv1 => rfl)
 (case hw1 => rfl)
 (case hz1 => first | rfl | exact hv_size _ | exact one_bv _ | (simp; done))
 refine aOps_0 rfl rfl rfl ?_
 refine AOp.storeAll (b := ?b2) rfl rfl rfl ?hn2 ?hk2 rfl ?hw2 ?ho2 ?hl2 ?hR2
 (case hn2 => exact hpA)
 (case hk2 => rfl)
 (case hw2 => first | rfl | exact hv_size _ | exact one_bv _ | (simp; done))
 (case ho2 => first | rfl | exact hv_size _ | exact one_bv _ | decide | (simp; done))
 (case hl2 => first | rfl | exact hv_size _ | exact one_bv _ | (simp; done))
 refine Ez ?_
 refine ACode.ret ?_
 try simp only [thenA, blockA, if_true]
 have hPo : ∀ HF : Hp, (∀ m, m ∉ [k] → HF m = HL3 m) → RdP H k n A c r.hash.2 HF k3 := fun HF h => RdP.own (HF := HF) (r := r) [k] hP3 (sub_upd' (sub_refl H) (hf k (Nat.le_refl k))) Wz (Rd.take_bs r 32) (fun q hq => by rw [List.mem_singleton.1 hq]; exact ⟨hf k (Nat.le_refl k), by omega, hAk, by omega, _, hkL3, by show (23 : Nat) ≠ 115; decide⟩) h
 have hmk : ∀ m, m ∉ [k] → m ≠ k := fun m hm e => hm (by rw [e]; exact List.mem_singleton_self _)
 refine RetQ.cell rfl rfl (aloadAll (b := dblk r.hash.1.l) (v := hv r.hash.1) (upd_same _ _ _) rfl rfl (hv_size _)) (sub_refl _) (RdP.stays (hPo _ (fun m hm => by (repeat refine (upd_other _ _ (hmk m hm)).trans ?_); rfl))) (fun hk => ⟨rfl, (hPo _ (fun m hm => by (repeat refine (upd_other _ _ (hmk m hm)).trans ?_); rfl)).at_ (Nat.le_refl _) Wz⟩)

theorem nhash_g (n c : Nat) (A : Option Addr) (ev : Value) (r : Rd) (hR : RdN H n A c ev r) : ACalls Tryz.prog 2 68 [ptr n 0 none] H k (fun v H' k' => v = hv r.hash.1 ∧ RdP H k n A c r.hash.2 H' k') := by
 refine ACalls.fresh fun hf => ?_
 refine ACalls.body Tryz.func68 rfl (Nat.le_of_ble_eq_true rfl) ?_
 have hn := hR.hn
 have hnk := old_lt hf hn
 have hok := hR.ok
 have hal := hok.at_le
 have hle := hok.len
 have hAk : Away A r.bs.length k := Away.of hR.hs (hf k (Nat.le_refl k))
 refine Sz ?_
 refine Rz [0] Kz rfl ?_
 refine Oz rfl rfl rfl (AOp.alloc' rfl ?_)
 refine Ez ?_
 refine Sz ?_
 refine ACode.any mixed Kz ?_
 refine AnyA.float (Hq := (fun _ => none)) [(0, 3), (1, 4)] [2, 3] Kz (Nat.le_of_ble_eq_true rfl) Kz (sub_none _) ?_
 refine DrawF.q 0 3 [(2, none)] rfl Kz rfl (fun Hc kq hSb => AOp.sliceP rfl rfl Tz) ?_
 refine DrawF.q 1 4 [(0, none)] rfl Kz rfl (fun Hc kq hSb => AOp.move' (.inl rfl) rfl Tz) ?_
 refine DrawF.done ?_
 show aOpsF _ _ _ _ _ _ [2, 3] ⟨_, _, _⟩
 refine aOpsF_1 [4] rfl rfl Kz rfl ?_
 refine AOp.call' rfl rfl rfl (ntake _ _ n c A ev r (hR.sub subA) 32 Dz) ?_
 rintro _ HL3 k3 ⟨⟨Aq, cq, rfl, hq3, hqa⟩, hP3⟩
 have hk3 := hP3.1
 have hsL3 := hP3.2.2.1
 have hfL3 := hP3.2.1
 have thsL3 := SubS.of hsL3
 have hkL3 : HL3 k = some ({ cells := List.replicate 32 (.int .u8 0), elem := 23, kind := .fix } : Blk) := hsL3 _ _ (Uz (upd_same _ _ _))
 refine ⟨sub_none _, ?_⟩
 refine aOpsF_1 [3, 5] rfl rfl Kz rfl (AOp.copyD (b := ({ cells := List.replicate 32 (.int .u8 0), elem := 23, kind := .fix } : Blk)) (news := (r.take 32).1.map bv) (cs' := r.hash.1.l.map bv) rfl rfl hkL3 rfl (by show 0 + 32 ≤ 32; decide) rfl hq3.cells (bv_one _) ((copy32 0 (a := []) (r := []) rfl rfl (r.take_all 32)).trans (List.append_nil _)) ?_)
 refine ⟨sub_none _, ?_⟩
 refine aOpsF_end ?_
 refine Sz ?_
 refine Rz [0, 1] Kz rfl ?_
 refine Oz rfl rfl rfl ?_
 refine AOp.loadAll (b := ?b3) (v := hv r.hash.1) rfl rfl ?hn3 ?hv3 ?hw3 ?hz3 ?hR3
 (case hn3 => exact hpA)
 (case hv3 => rfl)
 (case hw3 => rfl)
 (case hz3 => first | rfl | exact hv_size _ | exact one_bv _ | (simp; done))
 refine aOps_0 rfl rfl rfl ?_
 refine AOp.storeAll (b := ?b4) rfl rfl rfl ?hn4 ?hk4 rfl ?hw4 ?ho4 ?hl4 ?hR4
 (case hn4 => exact hpA)
 (case hk4 => rfl)
 (case hw4 => first | rfl | exact hv_size _ | exact one_bv _ | (simp; done))
 (case ho4 => first | rfl | exact hv_size _ | exact one_bv _ | decide | (simp; done))
 (case hl4 => first | rfl | exact hv_size _ | exact one_bv _ | (simp; done))
 refine Ez ?_
 refine ACode.ret ?_
 try simp only [thenA, blockA, if_true]
 have hPo : ∀ HF : Hp, (∀ m, m ∉ [k] → HF m = HL3 m) → RdP H k n A c r.hash.2 HF k3 := fun HF h => RdP.own (HF := HF) (r := r) [k] hP3 (sub_upd' (sub_refl H) (hf k (Nat.le_refl k))) Wz (Rd.take_bs r 32) (fun q hq => by rw [List.mem_singleton.1 hq]; exact ⟨hf k (Nat.le_refl k), by omega, hAk, by omega, _, hkL3, by show (23 : Nat) ≠ 115; decide⟩) h
 have hmk : ∀ m, m ∉ [k] → m ≠ k := fun m hm e => hm (by rw [e]; exact List.mem_singleton_self _)
 refine RetQ.cell rfl rfl (aloadAll (b := dblk r.hash.1.l) (v := hv r.hash.1) (upd_same _ _ _) rfl rfl (hv_size _)) (sub_refl _) (RdP.stays (hPo _ (fun m hm => by (repeat refine (upd_other _ _ (hmk m hm)).trans ?_); rfl))) (fun hk => ⟨rfl, (hPo _ (fun m hm => by (repeat refine (upd_other _ _ (hmk m hm)).trans ?_); rfl)).at_ (Nat.le_refl _) Wz⟩)

theorem rhash_29 (n c : Nat) (A : Option Addr) (r : Rd) (hR : RfN H n A c r) : ACalls Tryz.prog 2 43 [ptr n 0 none] H k (fun v H' k' => v = hv r.hash.1 ∧ RfP H k n A c r.hash.2 H' k') := by
 refine ACalls.fresh fun hf => ?_
 refine ACalls.body Tryz.func43 rfl (Nat.le_of_ble_eq_true rfl) ?_
 have hn := hR.hn
 have hnk := old_lt hf hn
 have hok := hR.ok
 have hal := hok.at_le
 have hle := hok.len
 have hAk : Away A r.bs.length k := Away.of hR.hs (hf k (Nat.le_refl k))
 have hAk1 : Away A r.bs.length (k + 1) := Away.of hR.hs (hf (k + 1) (Nat.le_succ k))
 have hta := r.take_all 32
 have htl : (r.take 32).1.length ≤ 32 := (Rd.take_ok hok 32).2.1
 refine Sz ?_
 refine Rz [0] Kz rfl ?_
 refine Oz rfl rfl rfl (AOp.alloc' rfl ?_)
 refine Ez (Sz (Rz [0] Kz rfl ?_))
 refine Oz rfl rfl rfl (AOp.alloc' rfl ?_)
 refine Ez (Sz (Rz [0, 1, 2] Kz rfl ?_))
 refine Mz ?_
 refine Oz rfl rfl rfl ?_
 refine AOp.call' rfl rfl rfl (rtake _ _ n c A r (hR.sub subA) 32 Dz) ?_
 rintro _ HL3 k3 ⟨⟨Aq, cq, rfl, hq3, hqa⟩, hP3⟩
 have hk3 := hP3.1
 have hsL3 := hP3.2.2.1
 have hfL3 := hP3.2.1
 have thsL3 := SubS.of hsL3
 have hk1L3 : HL3 (k + 1) = some ({ cells := ((r.take 32).1.take 0 ++ List.replicate (32 - 0) 0).map bv, elem := 23, kind := .fix } : Blk) := hsL3 _ _ (Uz (upd_same _ _ _))
 have hkL3 : HL3 k = some ({ cells := List.replicate 32 (.int .u8 0), elem := 23, kind := .fix } : Blk) := hsL3 _ _ (Uz (Uz (upd_same _ _ _)))
 refine Nz ?_
 refine Ez ?_
 refine Sz ?_
 refine Sz ?_
 refine Rz [0] Kz rfl ?_
 refine Nz ?_
 refine Ez ?_
 refine ACode.block ?_
 refine ACode.countG (γ := Hp) (fun i g => [(5, .int .i64 (i : Int))]) [(2, _), (3, _), (4, _)] (fun i g => g) ((r.take 32).1.length) (fun i g => g (k + 1) = some ({ cells := ((r.take 32).1.take i ++ List.replicate (32 - i) 0).map bv, elem := 23, kind := .fix } : Blk) ∧ ∀ m, m ≠ k + 1 → g m = HL3 m) (HL3) (.cons rfl .nil) Xz (by exact sub_refl _) ⟨hk1L3, fun m _ => rfl⟩ (fun i0 g0 kL0 HL0 hiL0 hkL0 hsL0 hfL0 hxL0 => ?_)
 show ACode _ _ _ _ _ ⟨_, _, _⟩
 have tsL0 := SubS.of hsL0
 obtain ⟨hb0, ho0⟩ := hxL0
 have hgx := hsL0 _ _ hb0
 have hgk : HL0 k = some ({ cells := List.replicate 32 (.int .u8 0), elem := 23, kind := .fix } : Blk) := hsL0 _ _ ((ho0 k Wz).trans hkL3)
 have hS0 := sub_both2 hsL3 ho0 hsL0
 refine Sz ?_
 refine Sz ?_
 refine Rz [0, 1, 2, 3] Kz rfl ?_
 refine Mz ?_
 refine Mz ?_
 refine Oz rfl rfl rfl (AOp.len' rfl rfl ?_)
 refine Oz rfl rfl rfl (AOp.bin' rfl rfl rfl rfl ?_)
 refine Ez ?_
 refine ACode.cond rfl (fun c0 => ?_) (fun c0 => ?_)
 ·try simp only [Cz] at c0
  refine ACode.skip ?_
  refine Sz ?_
  refine ACode.block ?_
  have hq0 := (SLC.reb hq3 (fun a ha => ho0 _ (by have := hqa a ha; omega))).sub hsL0
  obtain ⟨nE, oE, sE, hqE, hpE⟩ := slcElD bv (i := i0) 0 hq0.cells Wz
  refine Rz [0, 1, 2, 3, 4, 5, 6] Kz rfl ?_
  refine Mz ?_
  refine Mz ?_
  refine Mz ?_
  refine Oz rfl rfl rfl (AOp.indexP (aslcAt_sub subA hqE) rfl rfl rfl ?_)
  refine Oz rfl rfl rfl (AOp.loadP0 (hpE.sub subA) rfl rfl rfl ?_)
  refine Oz rfl rfl rfl (AOp.indexA Wz rfl rfl rfl ?_)
  refine aOps_0 rfl rfl rfl ?_
  refine AOp.storeM bv ((r.take 32).1.take i0 ++ List.replicate (32 - i0) 0) ((r.take 32).1.getD i0 0) (b := ?b5) ?hn5 ?hv5 ?hw5 rfl rfl rfl rfl rfl ?hR5
  (case hn5 => exact hpA)
  (case hv5 => rfl)
  (case hw5 => exact by rw [List.length_append, List.length_take, List.length_replicate]; omega)
  refine Ez ?_
  refine Rz [0, 1, 2] Kz rfl ?_
  refine Mz ?_
  refine Oz rfl rfl rfl (AOp.add rfl rfl rfl (i64_wrap Wz Wz) ?_)
  refine Nz ?_
  refine Ez ?_
  first | refine thenA_n ?_ | simp only [thenA, blockA, if_true]
  exact NextG.mk Wz Wz ((upd g0 (k + 1) (some ({ cells := ((r.take 32).1.take (i0 + 1) ++ List.replicate (32 - (i0 + 1)) 0).map bv, elem := 23, kind := .fix } : Blk)))) (.cons rfl .nil) Xz (by rw [set_pad Wz htl]; exact sub_both hsL0) ⟨upd_same _ _ _, fun m hm => (upd_other _ _ hm).trans (ho0 m hm)⟩
 ·try simp only [Cz] at c0
  refine ACode.exit ?_
  refine Sz ?_
  have hfin : HL0 (k + 1) = some (dblk r.hash.1.l) := by
   have e : i0 = (r.take 32).1.length := by omega
   rw [hgx, e, pad_end hta]
   rfl
  refine Rz [0, 1] Kz rfl ?_
  refine Oz rfl rfl rfl (AOp.loadAll (b := dblk r.hash.1.l) (v := hv r.hash.1) rfl rfl hfin rfl rfl (hv_size _) ?_)
  refine aOps_0 rfl rfl rfl ?_
  refine AOp.storeAll (b := ?b6) rfl rfl rfl ?hn6 ?hk6 rfl ?hw6 ?ho6 ?hl6 ?hR6
  (case hn6 => exact hpA)
  (case hk6 => rfl)
  (case hw6 => first | rfl | exact hv_size _ | exact one_bv _ | (simp; done))
  (case ho6 => first | rfl | exact hv_size _ | exact one_bv _ | decide | (simp; done))
  (case hl6 => first | rfl | exact hv_size _ | exact one_bv _ | (simp; done))
  refine Ez ?_
  refine ACode.ret ?_
  try simp only [thenA, blockA, if_true]
  have hq : ∀ q ∈ [k, k + 1], H q = none ∧ q ≠ n ∧ Away A r.bs.length q ∧ q < k3 := fun q hq => (show q = k ∨ q = k + 1 by simpa using hq).elim (fun e => by rw [e]; exact ⟨hf _ (Nat.le_refl _), by omega, hAk, by omega⟩) (fun e => by rw [e]; exact ⟨hf _ Wz, by omega, hAk1, by omega⟩)
  have hP4 : RfP H k n A c r.hash.2 g0 k3 := RfP.own (r := r) [k, k + 1] hP3 subA Wz (Rd.take_bs r 32) hq (fun m hm => ho0 m (fun e => hm (by rw [e]; simp)))
  have hP5 := hP4.grow hsL0 hfL0 hkL0
  have hP6 : RfP H k n A c r.hash.2 (upd HL0 k (some (dblk r.hash.1.l))) kL0 := RfP.own (r := r) [k] hP5 (sub_refl _) (Nat.le_refl _) (Rd.take_bs r 32) (fun q hq => by rw [List.mem_singleton.1 hq]; exact ⟨hf k (Nat.le_refl k), by omega, hAk, by omega⟩) (fun m hm => upd_other _ _ (fun e => hm (by rw [e]; simp)))
  exact RetQ.cell rfl rfl (aloadAll (b := dblk r.hash.1.l) (v := hv r.hash.1) (upd_same _ _ _) rfl rfl (hv_size _)) (sub_refl _) (RfP.stays hP6) (fun hk => ⟨rfl, hP6.at_ (Nat.le_refl _) Wz⟩)

theorem rhash_21 (n c : Nat) (A : Option Addr) (r : Rd) (hR : RfN H n A c r) : ACalls Tryz.prog 2 75 [ptr n 0 none] H k (fun v H' k' => v = hv r.hash.1 ∧ RfP H k n A c r.hash.2 H' k') := by
 refine ACalls.fresh fun hf => ?_
 refine ACalls.body Tryz.func75 rfl (Nat.le_of_ble_eq_true rfl) ?_
 have hn := hR.hn
 have hnk := old_lt hf hn
 have hok := hR.ok
 have hal := hok.at_le
 have hle := hok.len
 have hAk : Away A r.bs.length k := Away.of hR.hs (hf k (Nat.le_refl k))
 have hAk1 : Away A r.bs.length (k + 1) := Away.of hR.hs (hf (k + 1) (Nat.le_succ k))
 have hta := r.take_all 32
 have htl : (r.take 32).1.length ≤ 32 := (Rd.take_ok hok 32).2.1
 refine Sz ?_
 refine Rz [0] Kz rfl ?_
 refine Oz rfl rfl rfl (AOp.alloc' rfl ?_)
 refine Ez (Sz (Rz [0] Kz rfl ?_))
 refine Oz rfl rfl rfl (AOp.alloc' rfl ?_)
 refine Ez (Sz (Rz [0, 1, 2] Kz rfl ?_))
 refine Mz ?_
 refine Oz rfl rfl rfl ?_
 refine AOp.call' rfl rfl rfl (rtake _ _ n c A r (hR.sub subA) 32 Dz) ?_
 rintro _ HL3 k3 ⟨⟨Aq, cq, rfl, hq3, hqa⟩, hP3⟩
 have hk3 := hP3.1
 have hsL3 := hP3.2.2.1
 have hfL3 := hP3.2.1
 have thsL3 := SubS.of hsL3
 have hk1L3 : HL3 (k + 1) = some ({ cells := ((r.take 32).1.take 0 ++ List.replicate (32 - 0) 0).map bv, elem := 23, kind := .fix } : Blk) := hsL3 _ _ (Uz (upd_same _ _ _))
 have hkL3 : HL3 k = some ({ cells := List.replicate 32 (.int .u8 0), elem := 23, kind := .fix } : Blk) := hsL3 _ _ (Uz (Uz (upd_same _ _ _)))
 refine Nz ?_
 refine Ez ?_
 refine Sz ?_
 refine Sz ?_
 refine Rz [0] Kz rfl ?_
 refine Nz ?_
 refine Ez ?_
 refine ACode.block ?_
 refine ACode.countG (γ := Hp) (fun i g => [(5, .int .i64 (i : Int))]) [(2, _), (3, _), (4, _)] (fun i g => g) ((r.take 32).1.length) (fun i g => g (k + 1) = some ({ cells := ((r.take 32).1.take i ++ List.replicate (32 - i) 0).map bv, elem := 23, kind := .fix } : Blk) ∧ ∀ m, m ≠ k + 1 → g m = HL3 m) (HL3) (.cons rfl .nil) Xz (by exact sub_refl _) ⟨hk1L3, fun m _ => rfl⟩ (fun i0 g0 kL0 HL0 hiL0 hkL0 hsL0 hfL0 hxL0 => ?_)
 show ACode _ _ _ _ _ ⟨_, _, _⟩
 have tsL0 := SubS.of hsL0
 obtain ⟨hb0, ho0⟩ := hxL0
 have hgx := hsL0 _ _ hb0
 have hgk : HL0 k = some ({ cells := List.replicate 32 (.int .u8 0), elem := 23, kind := .fix } : Blk) := hsL0 _ _ ((ho0 k Wz).trans hkL3)
 have hS0 := sub_both2 hsL3 ho0 hsL0
 refine Sz ?_
 refine Sz ?_
 refine Rz [0, 1, 2, 3] Kz rfl ?_
 refine Mz ?_
 refine Mz ?_
 refine Oz rfl rfl rfl (AOp.len' rfl rfl ?_)
 refine Oz rfl rfl rfl (AOp.bin' rfl rfl rfl rfl ?_)
 refine Ez ?_
 refine ACode.cond rfl (fun c0 => ?_) (fun c0 => ?_)
 ·try simp only [Cz] at c0
  refine ACode.skip ?_
  refine Sz ?_
  refine ACode.block ?_
  have hq0 := (SLC.reb hq3 (fun a ha => ho0 _ (by have := hqa a ha; omega))).sub hsL0
  obtain ⟨nE, oE, sE, hqE, hpE⟩ := slcElD bv (i := i0) 0 hq0.cells Wz
  refine Rz [0, 1, 2, 3, 4, 5, 6] Kz rfl ?_
  refine Mz ?_
  refine Mz ?_
  refine Mz ?_
  refine Oz rfl rfl rfl (AOp.indexP (aslcAt_sub subA hqE) rfl rfl rfl ?_)
  refine Oz rfl rfl rfl (AOp.loadP0 (hpE.sub subA) rfl rfl rfl ?_)
  refine Oz rfl rfl rfl (AOp.indexA Wz rfl rfl rfl ?_)
  refine aOps_0 rfl rfl rfl ?_
  refine AOp.storeM bv ((r.take 32).1.take i0 ++ List.replicate (32 - i0) 0) ((r.take 32).1.getD i0 0) (b := ?b7) ?hn7 ?hv7 ?hw7 rfl rfl rfl rfl rfl ?hR7
  (case hn7 => exact hpA)
  (case hv7 => rfl)
  (case hw7 => exact by rw [List.length_append, List.length_take, List.length_replicate]; omega)
  refine Ez ?_
  refine Rz [0, 1, 2] Kz rfl ?_
  refine Mz ?_
  refine Oz rfl rfl rfl (AOp.add rfl rfl rfl (i64_wrap Wz Wz) ?_)
  refine Nz ?_
  refine Ez ?_
  first | refine thenA_n ?_ | simp only [thenA, blockA, if_true]
  exact NextG.mk Wz Wz ((upd g0 (k + 1) (some ({ cells := ((r.take 32).1.take (i0 + 1) ++ List.replicate (32 - (i0 + 1)) 0).map bv, elem := 23, kind := .fix } : Blk)))) (.cons rfl .nil) Xz (by rw [set_pad Wz htl]; exact sub_both hsL0) ⟨upd_same _ _ _, fun m hm => (upd_other _ _ hm).trans (ho0 m hm)⟩
 ·try simp only [Cz] at c0
  refine ACode.exit ?_
  refine Sz ?_
  have hfin : HL0 (k + 1) = some (dblk r.hash.1.l) := by
   have e : i0 = (r.take 32).1.length := by omega
   rw [hgx, e, pad_end hta]
   rfl
  refine Rz [0, 1] Kz rfl ?_
  refine Oz rfl rfl rfl (AOp.loadAll (b := dblk r.hash.1.l) (v := hv r.hash.1) rfl rfl hfin rfl rfl (hv_size _) ?_)
  refine aOps_0 rfl rfl rfl ?_
  refine AOp.storeAll (b := ?b8) rfl rfl rfl ?hn8 ?hk8 rfl ?hw8 ?ho8 ?hl8 ?hR8
  (case hn8 => exact hpA)
  (case hk8 => rfl)
  (case hw8 => first | rfl | exact hv_size _ | exact one_bv _ | (simp; done))
  (case ho8 => first | rfl | exact hv_size _ | exact one_bv _ | decide | (simp; done))
  (case hl8 => first | rfl | exact hv_size _ | exact one_bv _ | (simp; done))
  refine Ez ?_
  refine ACode.ret ?_
  try simp only [thenA, blockA, if_true]
  have hq : ∀ q ∈ [k, k + 1], H q = none ∧ q ≠ n ∧ Away A r.bs.length q ∧ q < k3 := fun q hq => (show q = k ∨ q = k + 1 by simpa using hq).elim (fun e => by rw [e]; exact ⟨hf _ (Nat.le_refl _), by omega, hAk, by omega⟩) (fun e => by rw [e]; exact ⟨hf _ Wz, by omega, hAk1, by omega⟩)
  have hP4 : RfP H k n A c r.hash.2 g0 k3 := RfP.own (r := r) [k, k + 1] hP3 subA Wz (Rd.take_bs r 32) hq (fun m hm => ho0 m (fun e => hm (by rw [e]; simp)))
  have hP5 := hP4.grow hsL0 hfL0 hkL0
  have hP6 : RfP H k n A c r.hash.2 (upd HL0 k (some (dblk r.hash.1.l))) kL0 := RfP.own (r := r) [k] hP5 (sub_refl _) (Nat.le_refl _) (Rd.take_bs r 32) (fun q hq => by rw [List.mem_singleton.1 hq]; exact ⟨hf k (Nat.le_refl k), by omega, hAk, by omega⟩) (fun m hm => upd_other _ _ (fun e => hm (by rw [e]; simp)))
  exact RetQ.cell rfl rfl (aloadAll (b := dblk r.hash.1.l) (v := hv r.hash.1) (upd_same _ _ _) rfl rfl (hv_size _)) (sub_refl _) (RfP.stays hP6) (fun hk => ⟨rfl, hP6.at_ (Nat.le_refl _) Wz⟩)

theorem rhash_18 (n c : Nat) (A : Option Addr) (r : Rd) (hR : RfN H n A c r) : ACalls Tryz.prog 2 77 [ptr n 0 none] H k (fun v H' k' => v = hv r.hash.1 ∧ RfP H k n A c r.hash.2 H' k') := by
 refine ACalls.fresh fun hf => ?_
 refine ACalls.body Tryz.func77 rfl (Nat.le_of_ble_eq_true rfl) ?_
 have hn := hR.hn
 have hnk := old_lt hf hn
 have hok := hR.ok
 have hal := hok.at_le
 have hle := hok.len
 have hAk : Away A r.bs.length k := Away.of hR.hs (hf k (Nat.le_refl k))
 have hAk1 : Away A r.bs.length (k + 1) := Away.of hR.hs (hf (k + 1) (Nat.le_succ k))
 have hta := r.take_all 32
 have htl : (r.take 32).1.length ≤ 32 := (Rd.take_ok hok 32).2.1
 refine Sz ?_
 refine Rz [0] Kz rfl ?_
 refine Oz rfl rfl rfl (AOp.alloc' rfl ?_)
 refine Ez (Sz (Rz [0] Kz rfl ?_))
 refine Oz rfl rfl rfl (AOp.alloc' rfl ?_)
 refine Ez (Sz (Rz [0, 1, 2] Kz rfl ?_))
 refine Mz ?_
 refine Oz rfl rfl rfl ?_
 refine AOp.call' rfl rfl rfl (rtake _ _ n c A r (hR.sub subA) 32 Dz) ?_
 rintro _ HL3 k3 ⟨⟨Aq, cq, rfl, hq3, hqa⟩, hP3⟩
 have hk3 := hP3.1
 have hsL3 := hP3.2.2.1
 have hfL3 := hP3.2.1
 have thsL3 := SubS.of hsL3
 have hk1L3 : HL3 (k + 1) = some ({ cells := ((r.take 32).1.take 0 ++ List.replicate (32 - 0) 0).map bv, elem := 23, kind := .fix } : Blk) := hsL3 _ _ (Uz (upd_same _ _ _))
 have hkL3 : HL3 k = some ({ cells := List.replicate 32 (.int .u8 0), elem := 23, kind := .fix } : Blk) := hsL3 _ _ (Uz (Uz (upd_same _ _ _)))
 refine Nz ?_
 refine Ez ?_
 refine Sz ?_
 refine Sz ?_
 refine Rz [0] Kz rfl ?_
 refine Nz ?_
 refine Ez ?_
 refine ACode.block ?_
 refine ACode.countG (γ := Hp) (fun i g => [(5, .int .i64 (i : Int))]) [(2, _), (3, _), (4, _)] (fun i g => g) ((r.take 32).1.length) (fun i g => g (k + 1) = some ({ cells := ((r.take 32).1.take i ++ List.replicate (32 - i) 0).map bv, elem := 23, kind := .fix } : Blk) ∧ ∀ m, m ≠ k + 1 → g m = HL3 m) (HL3) (.cons rfl .nil) Xz (by exact sub_refl _) ⟨hk1L3, fun m _ => rfl⟩ (fun i0 g0 kL0 HL0 hiL0 hkL0 hsL0 hfL0 hxL0 => ?_)
 show ACode _ _ _ _ _ ⟨_, _, _⟩
 have tsL0 := SubS.of hsL0
 obtain ⟨hb0, ho0⟩ := hxL0
 have hgx := hsL0 _ _ hb0
 have hgk : HL0 k = some ({ cells := List.replicate 32 (.int .u8 0), elem := 23, kind := .fix } : Blk) := hsL0 _ _ ((ho0 k Wz).trans hkL3)
 have hS0 := sub_both2 hsL3 ho0 hsL0
 refine Sz ?_
 refine Sz ?_
 refine Rz [0, 1, 2, 3] Kz rfl ?_
 refine Mz ?_
 refine Mz ?_
 refine Oz rfl rfl rfl (AOp.len' rfl rfl ?_)
 refine Oz rfl rfl rfl (AOp.bin' rfl rfl rfl rfl ?_)
 refine Ez ?_
 refine ACode.cond rfl (fun c0 => ?_) (fun c0 => ?_)
 ·try simp only [Cz] at c0
  refine ACode.skip ?_
  refine Sz ?_
  refine ACode.block ?_
  have hq0 := (SLC.reb hq3 (fun a ha => ho0 _ (by have := hqa a ha; omega))).sub hsL0
  obtain ⟨nE, oE, sE, hqE, hpE⟩ := slcElD bv (i := i0) 0 hq0.cells Wz
  refine Rz [0, 1, 2, 3, 4, 5, 6] Kz rfl ?_
  refine Mz ?_
  refine Mz ?_
  refine Mz ?_
  refine Oz rfl rfl rfl (AOp.indexP (aslcAt_sub subA hqE) rfl rfl rfl ?_)
  refine Oz rfl rfl rfl (AOp.loadP0 (hpE.sub subA) rfl rfl rfl ?_)
  refine Oz rfl rfl rfl (AOp.indexA Wz rfl rfl rfl ?_)
  refine aOps_0 rfl rfl rfl ?_
  refine AOp.storeM bv ((r.take 32).1.take i0 ++ List.replicate (32 - i0) 0) ((r.take 32).1.getD i0 0) (b := ?b9) ?hn9 ?hv9 ?hw9 rfl rfl rfl rfl rfl ?hR9
  (case hn9 => exact hpA)
  (case hv9 => rfl)
  (case hw9 => exact by rw [List.length_append, List.length_take, List.length_replicate]; omega)
  refine Ez ?_
  refine Rz [0, 1, 2] Kz rfl ?_
  refine Mz ?_
  refine Oz rfl rfl rfl (AOp.add rfl rfl rfl (i64_wrap Wz Wz) ?_)
  refine Nz ?_
  refine Ez ?_
  first | refine thenA_n ?_ | simp only [thenA, blockA, if_true]
  exact NextG.mk Wz Wz ((upd g0 (k + 1) (some ({ cells := ((r.take 32).1.take (i0 + 1) ++ List.replicate (32 - (i0 + 1)) 0).map bv, elem := 23, kind := .fix } : Blk)))) (.cons rfl .nil) Xz (by rw [set_pad Wz htl]; exact sub_both hsL0) ⟨upd_same _ _ _, fun m hm => (upd_other _ _ hm).trans (ho0 m hm)⟩
 ·try simp only [Cz] at c0
  refine ACode.exit ?_
  refine Sz ?_
  have hfin : HL0 (k + 1) = some (dblk r.hash.1.l) := by
   have e : i0 = (r.take 32).1.length := by omega
   rw [hgx, e, pad_end hta]
   rfl
  refine Rz [0, 1] Kz rfl ?_
  refine Oz rfl rfl rfl (AOp.loadAll (b := dblk r.hash.1.l) (v := hv r.hash.1) rfl rfl hfin rfl rfl (hv_size _) ?_)
  refine aOps_0 rfl rfl rfl ?_
  refine AOp.storeAll (b := ?b10) rfl rfl rfl ?hn10 ?hk10 rfl ?hw10 ?ho10 ?hl10 ?hR10
  (case hn10 => exact hpA)
  (case hk10 => rfl)
  (case hw10 => first | rfl | exact hv_size _ | exact one_bv _ | (simp; done))
  (case ho10 => first | rfl | exact hv_size _ | exact one_bv _ | decide | (simp; done))
  (case hl10 => first | rfl | exact hv_size _ | exact one_bv _ | (simp; done))
  refine Ez ?_
  refine ACode.ret ?_
  try simp only [thenA, blockA, if_true]
  have hq : ∀ q ∈ [k, k + 1], H q = none ∧ q ≠ n ∧ Away A r.bs.length q ∧ q < k3 := fun q hq => (show q = k ∨ q = k + 1 by simpa using hq).elim (fun e => by rw [e]; exact ⟨hf _ (Nat.le_refl _), by omega, hAk, by omega⟩) (fun e => by rw [e]; exact ⟨hf _ Wz, by omega, hAk1, by omega⟩)
  have hP4 : RfP H k n A c r.hash.2 g0 k3 := RfP.own (r := r) [k, k + 1] hP3 subA Wz (Rd.take_bs r 32) hq (fun m hm => ho0 m (fun e => hm (by rw [e]; simp)))
  have hP5 := hP4.grow hsL0 hfL0 hkL0
  have hP6 : RfP H k n A c r.hash.2 (upd HL0 k (some (dblk r.hash.1.l))) kL0 := RfP.own (r := r) [k] hP5 (sub_refl _) (Nat.le_refl _) (Rd.take_bs r 32) (fun q hq => by rw [List.mem_singleton.1 hq]; exact ⟨hf k (Nat.le_refl k), by omega, hAk, by omega⟩) (fun m hm => upd_other _ _ (fun e => hm (by rw [e]; simp)))
  exact RetQ.cell rfl rfl (aloadAll (b := dblk r.hash.1.l) (v := hv r.hash.1) (upd_same _ _ _) rfl rfl (hv_size _)) (sub_refl _) (RfP.stays hP6) (fun hk => ⟨rfl, hP6.at_ (Nat.le_refl _) Wz⟩)
end

end Go.Proofs.YteoofihjmldllaaGreatDoor
