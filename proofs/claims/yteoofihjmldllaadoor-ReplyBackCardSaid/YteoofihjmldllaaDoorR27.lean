/- Contracts over the abstract states: numbers up to a bound, entries out of readers. -/
import Derived.Test.YteoofihjmldllaaDoorRM
set_option linter.unusedVariables false
set_option linter.unusedSimpArgs false
set_option maxRecDepth 100000
namespace Go.Proofs.YteoofihjmldllaaDoor
open Go Go.Ab

def Rd.countR (r : Rd) (m : Nat) : Rd := if r.var.1 > m then r.var.2.fail 12 else r.var.2
def Rd.count (r : Rd) (m : Nat) : Nat × Rd := (if (r.countR m).e ≠ 0 then 0 else r.var.1, r.countR m)
theorem Rd.countR_t {r : Rd} {m : Nat} (h : r.var.1 > m) : r.countR m = r.var.2.fail 12 := if_pos h
theorem Rd.countR_f {r : Rd} {m : Nat} (h : ¬ r.var.1 > m) : r.countR m = r.var.2 := if_neg h
theorem Rd.countR_bs (r : Rd) (m : Nat) : (r.countR m).bs = r.bs := by
 unfold Rd.countR
 split
 ·rw [Rd.fail_bs, Rd.var_bs]
 ·rw [Rd.var_bs]
def zeroE : Ent := ⟨zeroD, 0, zeroD⟩
theorem Rd.hash_bs (r : Rd) : r.hash.2.bs = r.bs := Rd.take_bs r 32
theorem Rd.hash_ok {r : Rd} (h : r.ok) : r.hash.2.ok := (Rd.take_ok h 32).1
def Rd.entV (r : Rd) : Nat × Rd := r.hash.2.var
def Rd.entD (r : Rd) : Dg × Rd := r.entV.2.hash
def Rd.entR (r : Rd) : Rd := if r.entV.1 > 1048576 then r.entD.2.fail 5 else r.entD.2
def Rd.ent (r : Rd) : Ent × Rd := (if r.entR.e ≠ 0 then zeroE else ⟨r.hash.1, (r.entV.1 : Int), r.entD.1⟩, r.entR)
theorem Rd.entR_t {r : Rd} (h : r.entV.1 > 1048576) : r.entR = r.entD.2.fail 5 := if_pos h
theorem Rd.entR_f {r : Rd} (h : ¬ r.entV.1 > 1048576) : r.entR = r.entD.2 := if_neg h
theorem Rd.ent_le {r : Rd} (h : r.entR.e = 0) : r.entV.1 ≤ 1048576 := by
 rcases Nat.lt_or_ge 1048576 r.entV.1 with hc | hc
 ·rw [Rd.entR_t hc] at h
  exact absurd h (Rd.fail_ne _ Dz)
 ·exact hc
theorem Rd.entV_bs (r : Rd) : r.entV.2.bs = r.bs := (Rd.var_bs _).trans r.hash_bs
theorem Rd.entD_bs (r : Rd) : r.entD.2.bs = r.bs := (Rd.hash_bs _).trans r.entV_bs
theorem Rd.entR_bs (r : Rd) : r.entR.bs = r.bs := by
 unfold Rd.entR
 split
 ·rw [Rd.fail_bs, Rd.entD_bs]
 ·exact r.entD_bs
abbrev ebk (e : Ent) : Blk := { cells := entc e, elem := 67, kind := .fix }
theorem ent_set (a b : Dg) (x : Int) : (entc ⟨a, 0, b⟩).set 32 (.int .i64 x) = entc ⟨a, x, b⟩ := by
 unfold entc
 rw [List.set_append_right _ _ (by rw [hcs_one]; exact Nat.le_refl _), hcs_one]
 rfl
section
variable (H : Hp) (k : Nat)

theorem ggood (h2 : H 1 = some hBlk) (n c : Nat) (A : Option Addr) (ev : Value) (r : Rd) (hR : RdN H n A c ev r) : ACalls Tryd.prog 3 116 [ptr n 0 none] H k (Same H k (.bool (decide (r.e = 0)))) := by
 refine ACalls.fresh fun hf => ?_
 refine ACalls.body Tryd.func116 rfl (Nat.le_of_ble_eq_true rfl) ?_
 have h2k_ := old_lt hf h2
 refine Sz ?_
 refine Rz [0] Kz rfl ?_
 refine Nz ?_
 refine Ez (Sz (Rz [0, 1, 2, 3, 4, 5, 6] Kz rfl ?_))
 refine Mz ?_
 refine aOps_q rfl rfl rfl (AOp.call' rfl rfl rfl (nerr _ _ hpA n c A ev r (hR.sub subA)) Iz) (fun kq hkq => ?_)
 refine Mz ?_
 refine Oz rfl rfl rfl (AOp.extract' rfl rfl rfl ?_)
 refine Oz rfl rfl rfl (AOp.extract' rfl rfl rfl ?_)
 refine Nz ?_
 refine Nz ?_
 refine Ez (Sz (Rz [0, 1, 2] Kz rfl ?_))
 refine Mz ?_
 refine Oz rfl rfl rfl (AOp.bin' rfl rfl rfl rfl ?_)
 refine Nz ?_
 refine Ez ?_
 refine ACode.ret ?_
 exact RetQ.one rfl rfl subA stays (fun hk => ⟨rfl, rfl, by omega⟩)

theorem ntakeE (h2 : H 1 = some hBlk) (n c : Nat) (A : Option Addr) (ev : Value) (r : Rd) (hR : RdN H n A c ev r) : ACalls Tryd.prog 3 80 [ptr n 0 none] H k (fun v H' k' => v = entv r.ent.1 ∧ RdP H k n A c r.ent.2 H' k') := by
 refine ACalls.fresh fun hf => ?_
 refine ACalls.body Tryd.func80 rfl (Nat.le_of_ble_eq_true rfl) ?_
 have hn := hR.hn
 have hnk := old_lt hf hn
 have hok := hR.ok
 have hal := hok.at_le
 have hle := hok.len
 have hAk : Away A r.bs.length k := Away.of hR.hs (hf k (Nat.le_refl k))
 have hHk := hf k (Nat.le_refl k)
 have hvE : r.hash.2.var.1 = r.entV.1 := rfl
 have h2k_ := old_lt hf h2
 refine Sz ?_
 refine Rz [0] Kz rfl ?_
 refine Oz rfl rfl rfl (AOp.alloc' rfl ?_)
 refine Ez ?_
 refine Sz ?_
 refine ACode.any mixed Kz ?_
 refine AnyA.float (Hq := (fun _ => none)) [(0, 6), (1, 7), (2, 8)] [3, 4] Kz (Nat.le_of_ble_eq_true rfl) Kz (sub_none _) ?_
 refine DrawF.q 0 6 [(2, none)] rfl Kz rfl (fun Hc kq hSb => AOp.fieldAddr' rfl Dz rfl Tz) ?_
 refine DrawF.q 1 7 [(6, some 0)] rfl Kz rfl (fun Hc kq hSb => AOp.sliceP rfl rfl Tz) ?_
 refine DrawF.q 2 8 [(0, none)] rfl Kz rfl (fun Hc kq hSb => AOp.move' (.inl rfl) rfl Tz) ?_
 refine DrawF.done ?_
 show aOpsF _ _ _ _ _ _ [3, 4] ⟨_, _, _⟩
 refine aOpsF_1 [8] rfl rfl Kz rfl ?_
 refine AOp.call' rfl rfl rfl (ntake _ _ n c A ev r (hR.sub subA) 32 Dz) ?_
 rintro _ HL3 k3 ⟨⟨Aq, cq, rfl, hq3, hqa⟩, hP3⟩
 have hk3 := hP3.1
 have hsL3 := hP3.2.2.1
 have hfL3 := hP3.2.1
 have thsL3 := SubS.of hsL3
 have hkL3 : HL3 k = some (ebk zeroE) := hsL3 _ _ (Uz (upd_same _ _ _))
 refine ⟨sub_none _, ?_⟩
 refine aOpsF_1 [7, 9] rfl rfl Kz rfl (AOp.copyD (b := ebk zeroE) (news := (r.take 32).1.map bv) (cs' := entc ⟨r.hash.1, 0, zeroD⟩) rfl rfl hkL3 rfl (by show 0 + 32 ≤ 65; decide) rfl hq3.cells (bv_one _) (copy32 0 (a := []) (r := .int .i64 0 :: zeroD.l.map bv) rfl rfl (r.take_all 32)) ?_)
 refine ⟨sub_none _, ?_⟩
 refine aOpsF_end ?_
 refine Sz ?_
 have hPa : RdP H k n A c r.hash.2 (upd HL3 k (some (ebk ⟨r.hash.1, 0, zeroD⟩))) k3 := RdP.own (r := r) [k] hP3 (sub_upd' (sub_refl H) hHk) Wz r.hash_bs (fun q hq => by rw [List.mem_singleton.1 hq]; exact ⟨hHk, by omega, hAk, by omega, _, hkL3, by show (67 : Nat) ≠ 101; decide⟩) (fun m hm => upd_other _ _ (fun e => hm (by rw [e]; simp)))
 have hsLa := hPa.2.2.1
 have hfLa := hPa.2.1
 obtain ⟨eva, hRa⟩ := hPa.2.2.2
 refine Rz [0, 1, 2] Kz rfl ?_
 refine Mz ?_
 refine Oz rfl rfl rfl ?_
 refine AOp.call' rfl rfl rfl (nvar _ _ n c A eva r.hash.2 hRa) ?_
 rintro _ HL4 k4 ⟨rfl, hP4⟩
 have hk4 := hP4.1
 have hfL4 := hP4.2.1
 have hsL4 := hP4.2.2.1
 have hP4b := hP4
 obtain ⟨ev4, hR4⟩ := hP4b.2.2.2
 have hn4 := hR4.hn
 have thsL4 := SubS.of hsL4
 have hkL4 : HL4 k = some (ebk ⟨r.hash.1, 0, zeroD⟩) := hsL4 _ _ (Uz (upd_same _ _ _))
 have hPb := hPa.trans (hP4.at_ (Nat.le_refl _) (Nat.le_refl _))
 refine Nz ?_
 refine Ez ?_
 refine Sz ?_
 refine ACode.any mixed Kz ?_
 refine AnyA.float (Hq := (fun _ => none)) [(0, 13), (1, 14), (2, 15)] [3, 4] Kz (Nat.le_of_ble_eq_true rfl) Kz (sub_none _) ?_
 refine DrawF.q 0 13 [(2, none)] rfl Kz rfl (fun Hc kq hSb => AOp.fieldAddr' rfl Dz rfl Tz) ?_
 refine DrawF.q 1 14 [(13, some 0)] rfl Kz rfl (fun Hc kq hSb => AOp.sliceP rfl rfl Tz) ?_
 refine DrawF.q 2 15 [(0, none)] rfl Kz rfl (fun Hc kq hSb => AOp.move' (.inl rfl) rfl Tz) ?_
 refine DrawF.done ?_
 show aOpsF _ _ _ _ _ _ [3, 4] ⟨_, _, _⟩
 refine aOpsF_1 [15] rfl rfl Kz rfl ?_
 refine AOp.call' rfl rfl rfl (ntake _ _ n c A ev4 r.entV.2 (hR4.sub subA) 32 Dz) ?_
 rintro _ HL5 k5 ⟨⟨Aq, cq, rfl, hq5, hqa5⟩, hP5⟩
 have hk5 := hP5.1
 have hsL5 := hP5.2.2.1
 have hfL5 := hP5.2.1
 have thsL5 := SubS.of hsL5
 have hkL5 : HL5 k = some (ebk ⟨r.hash.1, 0, zeroD⟩) := hsL5 _ _ (Uz hkL4)
 have hPc : RdP H k n A c r.entD.2 HL5 k5 := hPb.trans (hP5.at_ Wz (Nat.le_refl _))
 refine ⟨sub_none _, ?_⟩
 refine aOpsF_1 [14, 16] rfl rfl Kz rfl (AOp.copyD (b := ebk ⟨r.hash.1, 0, zeroD⟩) (news := (r.entV.2.take 32).1.map bv) (cs' := entc ⟨r.hash.1, 0, r.entD.1⟩) rfl rfl hkL5 rfl (by show 33 + 32 ≤ (entc _).length; rw [entc_len]; decide) rfl hq5.cells (bv_one _) ((copy32 33 (a := r.hash.1.l.map bv ++ [.int .i64 0]) (r := []) (by rw [List.append_nil, List.append_assoc]; rfl) (by rw [List.length_append, hcs_one]; rfl) (r.entV.2.take_all 32)).trans (by rw [List.append_nil, List.append_assoc]; rfl)) ?_)
 refine ⟨sub_none _, ?_⟩
 refine aOpsF_end ?_
 refine ACode.meet (γ := Unit) (fun g => []) [(0, _), (2, _), (3, _)] Xz (fun g H' k' => H' k = some (ebk ⟨r.hash.1, 0, r.entD.1⟩) ∧ RdP H k n A c r.entR H' k') ?_ (fun g HLm km hfLm hXm => ?_)
 ·show ACode _ _ _ _ _ _
  refine Sz ?_
  have hPd : RdP H k n A c r.entD.2 (upd HL5 k (some (ebk ⟨r.hash.1, 0, r.entD.1⟩))) k5 := RdP.own (r := r) [k] hPc (sub_refl _) (Nat.le_refl _) r.entD_bs (fun q hq => by rw [List.mem_singleton.1 hq]; exact ⟨hf k (Nat.le_refl k), by omega, hAk, by omega, _, hkL5, by show (67 : Nat) ≠ 101; decide⟩) (fun m hm => upd_other _ _ (fun e => hm (by rw [e]; simp)))
  have hfLd := hPd.2.1
  obtain ⟨ev6, hR6⟩ := hPd.2.2.2
  refine Rz [0, 1] Kz rfl ?_
  refine Mz ?_
  refine Oz rfl rfl rfl (AOp.bin' rfl rfl rfl rfl ?_)
  refine Ez ?_
  refine ACode.cond rfl (fun c0 => ?_) (fun c0 => ?_)
  ·try simp only [Cz] at c0
   refine Rz [0, 1] Kz rfl ?_
   refine Mz ?_
   refine Oz rfl rfl rfl ?_
   refine AOp.call' rfl rfl rfl (nfail _ _ n c A ev6 r.entD.2 hR6 5 Dz Dz) ?_
   rintro _ HLf kf ⟨rfl, hPf⟩
   have hkf := hPf.1
   have hfLf := hPf.2.1
   have hsLf := hPf.2.2.1
   have hPfb := hPf
   obtain ⟨evf, hRf⟩ := hPfb.2.2.2
   have hnf := hRf.hn
   have thsLf := SubS.of hsLf
   refine Ez ?_
   first | refine thenA_n ?_ | simp only [thenA, blockA, if_true]
   exact ⟨(), has_append .nil Xz, (by (try dsimp only); exact ⟨hsLf _ _ (Uz (upd_same _ _ _)), by rw [Rd.entR_t Wz]; exact hPd.trans (hPf.at_ (Nat.le_refl _) Wz)⟩)⟩
  ·try simp only [Cz] at c0
   refine ACode.skip ?_
   first | refine thenA_n ?_ | simp only [thenA, blockA, if_true]
   exact ⟨(), has_append .nil Xz, (by (try dsimp only); exact ⟨upd_same _ _ _, by rw [Rd.entR_f Wz]; exact hPd.at_ (Nat.le_refl _) Wz⟩)⟩
 ·show ACode _ _ _ _ _ ⟨_, _, _⟩
  obtain ⟨hkb, hPm⟩ := hXm
  have hsLm := hPm.2.2.1
  have hkm := hPm.1
  have thsLm := SubS.of hsLm
  obtain ⟨evm, hRm⟩ := hPm.2.2.2
  have h2m : HLm 1 = some hBlk := hsLm _ _ ((upd_other _ _ (hR.ne2 h2)).trans h2)
  have hkkm := old_lt hfLm hkb
  refine Sz ?_
  refine Sz ?_
  refine Rz [0, 1, 2, 3, 4, 5, 6] Kz rfl ?_
  refine Mz ?_
  refine aOps_q rfl rfl rfl (AOp.call' rfl rfl rfl (nerr _ _ h2m n c A evm r.entR (hRm.sub subA)) Iz) (fun kq hkq => ?_)
  refine Mz ?_
  refine Oz rfl rfl rfl (AOp.extract' rfl rfl rfl ?_)
  refine Oz rfl rfl rfl (AOp.extract' rfl rfl rfl ?_)
  refine Nz ?_
  refine Nz ?_
  refine Ez (Sz (Rz [0, 1] Kz rfl ?_))
  refine Mz ?_
  refine Oz rfl rfl rfl (AOp.bin' rfl rfl rfl rfl ?_)
  refine Ez ?_
  refine ACode.cond rfl (fun c1 => ?_) (fun c1 => ?_)
  ·try simp only [Cz] at c1
   refine Sz ?_
   refine Rz [0, 1] Kz rfl ?_
   refine Oz rfl rfl rfl (AOp.buildS (cells := (entc zeroE).toArray) rfl rfl rfl ?_)
   refine aOps_0 rfl rfl rfl ?_
   refine AOp.storeAll (b := ?b1) rfl rfl rfl ?hn1 ?hk1 rfl ?hw1 ?ho1 ?hl1 ?hR1
   (case hn1 => exact hpA)
   (case hk1 => rfl)
   (case hw1 => first | rfl | exact hv_size _ | exact one_bv _ | exact entv_size _ | exact entc_one _ | (simp; done))
   (case ho1 => first | rfl | exact hv_size _ | exact one_bv _ | exact entv_size _ | exact entc_one _ | decide | (simp; done))
   (case hl1 => first | rfl | exact hv_size _ | exact one_bv _ | exact entv_size _ | exact entc_one _ | (simp; done))
   refine Ez ?_
   refine ACode.ret ?_
   try simp only [thenA, blockA, if_true]
   have hPo : ∀ HF : Hp, (∀ m, m ∉ [k] → HF m = HLm m) → RdP H k n A c r.entR HF km := fun HF h => RdP.own (HF := HF) (r := r) [k] hPm (sub_refl _) (Nat.le_refl _) r.entR_bs (fun q hq => by rw [List.mem_singleton.1 hq]; exact ⟨hf k (Nat.le_refl k), by omega, hAk, by omega, _, hkb, by show (67 : Nat) ≠ 101; decide⟩) h
   have hmk : ∀ m, m ∉ [k] → m ≠ k := fun m hm e => hm (by rw [e]; exact List.mem_singleton_self _)
   rw [show r.ent = (zeroE, r.entR) from congrArg (·, r.entR) (if_pos c1)]
   exact RetQ.cell rfl rfl (aloadAll (b := ebk zeroE) (v := entv zeroE) (upd_same _ _ _) rfl rfl (entv_size _)) (sub_refl _) (RdP.stays (hPo _ (fun m hm => by (repeat refine (upd_other _ _ (hmk m hm)).trans ?_); rfl))) (fun hk => ⟨rfl, (hPo _ (fun m hm => by (repeat refine (upd_other _ _ (hmk m hm)).trans ?_); rfl)).at_ (Nat.le_refl _) Wz⟩)
  ·try simp only [Cz] at c1
   refine ACode.skip ?_
   refine Sz ?_
   refine Rz [0, 1, 2, 3] Kz rfl ?_
   refine Mz ?_
   refine Oz rfl rfl rfl (AOp.convInt rfl rfl ?_)
   rw [show IntKind.i64.wrap ((r.hash.2.var.1 : Nat) : Int) = (r.entV.1 : Int) from i64_wrap Wz (by have := Rd.ent_le c1; omega)]
   refine Fz ?_
   refine aOps_0 rfl rfl rfl (AOp.store1 (b := ebk ⟨r.hash.1, 0, r.entD.1⟩) rfl rfl rfl hkb rfl rfl rfl (by show 32 < (entc _).length; rw [entc_len]; decide) ?_)
   rw [ent_set]
   refine Ez (Sz (Rz [0, 1] Kz rfl ?_))
   refine Oz rfl rfl rfl ?_
   refine AOp.loadAll (b := ?b2) (v := entv ⟨r.hash.1, (r.entV.1 : Int), r.entD.1⟩) rfl rfl ?hn2 ?hv2 ?hw2 ?hz2 ?hR2
   (case hn2 => exact hpA)
   (case hv2 => rfl)
   (case hw2 => rfl)
   (case hz2 => first | rfl | exact hv_size _ | exact one_bv _ | exact entv_size _ | exact entc_one _ | (simp; done))
   refine aOps_0 rfl rfl rfl ?_
   refine AOp.storeAll (b := ?b3) rfl rfl rfl ?hn3 ?hk3 rfl ?hw3 ?ho3 ?hl3 ?hR3
   (case hn3 => exact hpA)
   (case hk3 => rfl)
   (case hw3 => first | rfl | exact hv_size _ | exact one_bv _ | exact entv_size _ | exact entc_one _ | (simp; done))
   (case ho3 => first | rfl | exact hv_size _ | exact one_bv _ | exact entv_size _ | exact entc_one _ | decide | (simp; done))
   (case hl3 => first | rfl | exact hv_size _ | exact one_bv _ | exact entv_size _ | exact entc_one _ | (simp; done))
   refine Ez ?_
   refine ACode.ret ?_
   try simp only [thenA, blockA, if_true]
   have hPo : ∀ HF : Hp, (∀ m, m ∉ [k] → HF m = HLm m) → RdP H k n A c r.entR HF km := fun HF h => RdP.own (HF := HF) (r := r) [k] hPm (sub_refl _) (Nat.le_refl _) r.entR_bs (fun q hq => by rw [List.mem_singleton.1 hq]; exact ⟨hf k (Nat.le_refl k), by omega, hAk, by omega, _, hkb, by show (67 : Nat) ≠ 101; decide⟩) h
   have hmk : ∀ m, m ∉ [k] → m ≠ k := fun m hm e => hm (by rw [e]; exact List.mem_singleton_self _)
   rw [show r.ent = (⟨r.hash.1, (r.entV.1 : Int), r.entD.1⟩, r.entR) from congrArg (·, r.entR) (if_neg (fun h => h c1))]
   exact RetQ.cell rfl rfl (aloadAll (b := ebk ⟨r.hash.1, (r.entV.1 : Int), r.entD.1⟩) (v := entv ⟨r.hash.1, (r.entV.1 : Int), r.entD.1⟩) (upd_same _ _ _) rfl rfl (entv_size _)) (sub_refl _) (RdP.stays (hPo _ (fun m hm => by (repeat refine (upd_other _ _ (hmk m hm)).trans ?_); rfl))) (fun hk => ⟨rfl, (hPo _ (fun m hm => by (repeat refine (upd_other _ _ (hmk m hm)).trans ?_); rfl)).at_ (Nat.le_refl _) Wz⟩)
end

end Go.Proofs.YteoofihjmldllaaDoor
