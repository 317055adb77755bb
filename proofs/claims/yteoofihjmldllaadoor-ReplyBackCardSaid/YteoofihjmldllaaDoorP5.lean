/- Contracts over the abstract states: entries out of the reference's readers. -/
import Derived.Test.YteoofihjmldllaaDoorR27
import Derived.Test.YteoofihjmldllaaDoorV8
set_option linter.unusedVariables false
set_option linter.unusedSimpArgs false
set_option maxRecDepth 100000
namespace Go.Proofs.YteoofihjmldllaaDoor
open Go Go.Ab

section
variable (H : Hp) (k : Nat)


end

end Go.Proofs.YteoofihjmldllaaDoor

/- Zones out of readers: plain Lean. No condition. -/
set_option linter.unusedVariables false
set_option linter.unusedSimpArgs false
set_option maxRecDepth 100000
namespace Go.Proofs.YteoofihjmldllaaDoor
open Go Go.Ab
structure Zn where
 nulls : Int
 some : Bool
 min : Val
 max : Val
abbrev znc (z : Zn) : List Value := [.int .i64 z.nulls, .bool z.some, .int .i64 z.min.kind, .int .i64 z.min.n, .string z.min.s, .int .i64 z.max.kind, .int .i64 z.max.n, .string z.max.s]
abbrev zv (z : Zn) : Value := .agg #[.int .i64 z.nulls, .bool z.some, .int .i64 z.min.kind, .int .i64 z.min.n, .string z.min.s, .int .i64 z.max.kind, .int .i64 z.max.n, .string z.max.s]
abbrev zblk (z : Zn) : Blk := { cells := znc z, elem := 133, kind := .fix }
def zD : Zn := ⟨0, false, vD, vD⟩
theorem vv_one (v : Val) : ((vv v).cells.all fun x => x.oneCell') = true := by
 simp [vv, Value.cells, Value.oneCell']
def Rd.num (r : Rd) : Int × Rd := (Min.min (r.var.1 : Int) 65537, r.var.2)
def Rd.zone (r : Rd) : Zn × Rd :=
 if r.num.2.fix1.1 = 0 then (⟨r.num.1, false, vD, vD⟩, r.num.2.fix1.2)
 else if r.num.2.fix1.1 = 1 then (⟨r.num.1, true, (takeV r.num.2.fix1.2).1, (takeV (takeV r.num.2.fix1.2).2).1⟩, (takeV (takeV r.num.2.fix1.2).2).2)
 else (⟨r.num.1, false, vD, vD⟩, r.num.2.fix1.2.fail 4)
theorem Rd.num_bs (r : Rd) : r.num.2.bs = r.bs := Rd.var_bs r
theorem Rd.zone0 {r : Rd} (h : r.num.2.fix1.1 = 0) : r.zone = (⟨r.num.1, false, vD, vD⟩, r.num.2.fix1.2) := if_pos h
theorem Rd.zone1 {r : Rd} (h : r.num.2.fix1.1 = 1) : r.zone = (⟨r.num.1, true, (takeV r.num.2.fix1.2).1, (takeV (takeV r.num.2.fix1.2).2).1⟩, (takeV (takeV r.num.2.fix1.2).2).2) := by rw [Rd.zone, if_neg Wz, if_pos h]
theorem Rd.zone2 {r : Rd} (h : ¬ r.num.2.fix1.1 = 0) (h2 : ¬ r.num.2.fix1.1 = 1) : r.zone = (⟨r.num.1, false, vD, vD⟩, r.num.2.fix1.2.fail 4) := by rw [Rd.zone, if_neg h, if_neg h2]
theorem Rd.zone_bs (r : Rd) : r.zone.2.bs = r.bs := by
 unfold Rd.zone
 split
 ·exact (Rd.fix1_bs _).trans r.num_bs
 ·split
  ·exact (takeV_bs _).trans ((takeV_bs _).trans ((Rd.fix1_bs _).trans r.num_bs))
  ·exact (Rd.fail_bs _ _).trans ((Rd.fix1_bs _).trans r.num_bs)
end Go.Proofs.YteoofihjmldllaaDoor

/- Contracts over the abstract states: short numbers and zones out of readers. -/
set_option linter.unusedVariables false
set_option linter.unusedSimpArgs false
set_option maxRecDepth 100000
namespace Go.Proofs.YteoofihjmldllaaDoor
open Go Go.Ab

section
variable (H : Hp) (k : Nat)

theorem ntakeZ (h2 : H 1 = some hBlk) (n c : Nat) (A : Option Addr) (ev : Value) (r : Rd) (hR : RdN H n A c ev r) : ACalls Tryd.prog 3 115 [ptr n 0 none] H k (fun v H' k' => v = zv r.zone.1 ∧ RdP H k n A c r.zone.2 H' k') := by
 refine ACalls.fresh fun hf => ?_
 refine ACalls.body Tryd.func115 rfl (Nat.le_of_ble_eq_true rfl) ?_
 have hn := hR.hn
 have hnk := old_lt hf hn
 have hok := hR.ok
 have hal := hok.at_le
 have hle := hok.len
 have hAk : Away A r.bs.length k := Away.of hR.hs (hf k (Nat.le_refl k))
 have hHk := hf k (Nat.le_refl k)
 have hvN : r.var.2 = r.num.2 := rfl
 have h2k_ := old_lt hf h2
 refine Sz ?_
 refine Rz [0] Kz rfl ?_
 refine Oz rfl rfl rfl (AOp.alloc' rfl ?_)
 refine Ez (Sz (Rz [0, 1, 2, 3, 4, 5] Kz rfl ?_))
 refine Mz ?_
 refine Oz rfl rfl rfl ?_
 refine AOp.call' rfl rfl rfl (nvar _ _ n c A ev r (hR.sub subA)) ?_
 rintro _ HLv kv ⟨rfl, hPv⟩
 have hkv := hPv.1
 have hfLv := hPv.2.1
 have hsLv := hPv.2.2.1
 have hPvb := hPv
 obtain ⟨evv, hRv⟩ := hPvb.2.2.2
 have hnv := hRv.hn
 have thsLv := SubS.of hsLv
 have hkHLv : HLv k = some (zblk zD) := hsLv _ _ (Uz (upd_same _ _ _))
 have h2v : HLv 1 = some hBlk := hsLv _ _ ((upd_other _ _ (hR.ne2 h2)).trans ((upd_other _ _ (by have := old_lt hf h2; omega)).trans h2))
 refine Oz rfl rfl rfl (AOp.min2 rfl rfl rfl ?_)
 refine Oz rfl rfl rfl (AOp.convInt rfl rfl ?_)
 rw [show IntKind.i64.wrap (Min.min ((r.var.1 : Nat) : Int) 65537) = r.num.1 from i64_wrap Wz Wz]
 refine Fz ?_
 refine aOps_0 rfl rfl rfl ?_
 refine AOp.store1 (b := ?b1) rfl rfl rfl ?hn1 ?hk1 rfl rfl ?hl1 ?hR1
 (case hn1 => exact hpA)
 (case hk1 => rfl)
 (case hl1 => first | (simp; done) | exact Nat.le_of_ble_eq_true rfl)
 refine Ez ?_
 refine Sz ?_
 refine Sz ?_
 have hPa : RdP H k n A c r.num.2 (upd HLv k (some (zblk ⟨r.num.1, false, vD, vD⟩))) kv := RdP.own (r := r) [k] hPv (sub_upd' (sub_refl H) hHk) Wz r.num_bs (fun q hq => by rw [List.mem_singleton.1 hq]; exact ⟨hHk, by omega, hAk, by omega, _, hkHLv, by show (133 : Nat) ≠ 101; decide⟩) (fun m hm => upd_other _ _ (fun e => hm (by rw [e]; simp)))
 have hsLa := hPa.2.2.1
 have hfLa := hPa.2.1
 obtain ⟨eva, hRa⟩ := hPa.2.2.2
 refine Rz [0, 1] Kz rfl ?_
 refine Mz ?_
 refine Oz rfl rfl rfl ?_
 refine AOp.call' rfl rfl rfl (nfix1 _ _ n c A eva r.num.2 hRa) ?_
 rintro _ HLf kf ⟨rfl, hPf⟩
 have hkf := hPf.1
 have hfLf := hPf.2.1
 have hsLf := hPf.2.2.1
 have hPfb := hPf
 obtain ⟨evf, hRf⟩ := hPfb.2.2.2
 have hnf := hRf.hn
 have thsLf := SubS.of hsLf
 have hkHLf : HLf k = some (zblk ⟨r.num.1, false, vD, vD⟩) := hsLf _ _ (Uz (upd_same _ _ _))
 have h2f : HLf 1 = some hBlk := hsLf _ _ ((upd_other _ _ (hR.ne2 h2)).trans ((upd_other _ _ (by have := old_lt hf h2; omega)).trans h2v))
 have hPb := hPa.trans (hPf.at_ (Nat.le_refl _) (Nat.le_refl _))
 refine Ez ?_
 refine ACode.block ?_
 refine Sz ?_
 refine Rz [0, 1] Kz rfl ?_
 refine Oz rfl rfl rfl (AOp.bin' rfl rfl rfl rfl ?_)
 refine Nz ?_
 refine Ez ?_
 refine ACode.cond rfl (fun c0 => ?_) (fun c0 => ?_)
 ·try simp only [Cz] at c0
  refine ACode.skip ?_
  refine Sz ?_
  refine Rz [0, 1] Kz rfl ?_
  refine Oz rfl rfl rfl ?_
  refine AOp.loadAll (b := ?b2) (v := zv ⟨r.num.1, false, vD, vD⟩) rfl rfl ?hn2 ?hv2 ?hw2 ?hz2 ?hR2
  (case hn2 => exact hpA)
  (case hv2 => rfl)
  (case hw2 => rfl)
  (case hz2 => first | rfl | exact hv_size _ | exact one_bv _ | exact entv_size _ | exact entc_one _ | (simp; done))
  refine aOps_0 rfl rfl rfl ?_
  refine AOp.storeAll (b := ?b3) rfl rfl rfl ?hn3 ?hk3 rfl ?hw3 ?ho3 ?hl3 ?hR3
  (case hn3 => exact hpA)
  (case hk3 => rfl)
  (case hw3 => first | rfl | exact hv_size _ | exact one_bv _ | exact entv_size _ | exact entc_one _ | (simp; done))
  (case ho3 => first | rfl | exact hv_size _ | exact one_bv _ | exact entv_size _ | exact entc_one _ | decide | (simp; done))
  (case hl3 => first | rfl | exact hv_size _ | exact one_bv _ | exact entv_size _ | exact entc_one _ | (simp; done))
  refine Ez ?_
  refine ACode.ret ?_
  try simp only [thenA, blockA, if_true]
  have hPo : ∀ HF : Hp, (∀ m, m ∉ [k] → HF m = HLf m) → RdP H k n A c r.num.2.fix1.2 HF kf := fun HF h => RdP.own (HF := HF) (r := r) [k] hPb (sub_refl _) (Nat.le_refl _) ((Rd.fix1_bs _).trans r.num_bs) (fun q hq => by rw [List.mem_singleton.1 hq]; exact ⟨hHk, by omega, hAk, by omega, _, hkHLf, by show (133 : Nat) ≠ 101; decide⟩) h
  have hmk : ∀ m, m ∉ [k] → m ≠ k := fun m hm e => hm (by rw [e]; exact List.mem_singleton_self _)
  rw [Rd.zone0 Wz]
  exact RetQ.cell rfl rfl (aloadAll (b := zblk ⟨r.num.1, false, vD, vD⟩) (v := zv ⟨r.num.1, false, vD, vD⟩) (upd_same _ _ _) rfl rfl rfl) (sub_refl _) (RdP.stays (hPo _ (fun m hm => by (repeat refine (upd_other _ _ (hmk m hm)).trans ?_); rfl))) (fun hk => ⟨rfl, (hPo _ (fun m hm => by (repeat refine (upd_other _ _ (hmk m hm)).trans ?_); rfl)).at_ (Nat.le_refl _) Wz⟩)
 ·try simp only [Cz] at c0
  refine Sz ?_
  refine Rz [0, 1] Kz rfl ?_
  refine Oz rfl rfl rfl (AOp.bin' rfl rfl rfl rfl ?_)
  refine Nz ?_
  refine Ez ?_
  refine ACode.cond rfl (fun c1 => ?_) (fun c1 => ?_)
  ·try simp only [Cz] at c1
   refine Sz ?_
   refine Rz [0, 1] Kz rfl ?_
   refine Fz ?_
   refine aOps_0 rfl rfl rfl ?_
   refine AOp.store1 (b := ?b4) rfl rfl rfl ?hn4 ?hk4 rfl rfl ?hl4 ?hR4
   (case hn4 => exact hpA)
   (case hk4 => rfl)
   (case hl4 => first | (simp; done) | exact Nat.le_of_ble_eq_true rfl)
   refine Ez ?_
   have hPc : RdP H k n A c r.num.2.fix1.2 (upd HLf k (some (zblk ⟨r.num.1, true, vD, vD⟩))) kf := RdP.own (r := r) [k] hPb (sub_refl _) (Nat.le_refl _) ((Rd.fix1_bs _).trans r.num_bs) (fun q hq => by rw [List.mem_singleton.1 hq]; exact ⟨hHk, by omega, hAk, by omega, _, hkHLf, by show (133 : Nat) ≠ 101; decide⟩) (fun m hm => upd_other _ _ (fun e => hm (by rw [e]; simp)))
   obtain ⟨evc, hRc⟩ := hPc.2.2.2
   refine Rz [0, 1, 2, 3, 4, 5, 6, 7] Kz rfl ?_
   refine Mz ?_
   refine Oz rfl rfl rfl ?_
   refine AOp.call' rfl rfl rfl (ntakeV _ _ hpA n c A evc r.num.2.fix1.2 hRc) ?_
   rintro _ HLp kp ⟨rfl, hPp⟩
   have hkp := hPp.1
   have hfLp := hPp.2.1
   have hsLp := hPp.2.2.1
   have hPpb := hPp
   obtain ⟨evp, hRp⟩ := hPpb.2.2.2
   have hnp := hRp.hn
   have thsLp := SubS.of hsLp
   have hkHLp : HLp k = some (zblk ⟨r.num.1, true, vD, vD⟩) := hsLp _ _ (Uz (upd_same _ _ _))
   have h2p : HLp 1 = some hBlk := hsLp _ _ ((upd_other _ _ (hR.ne2 h2)).trans ((upd_other _ _ (by have := old_lt hf h2; omega)).trans h2f))
   refine Mz ?_
   refine Oz rfl rfl rfl ?_
   refine AOp.call' rfl rfl rfl (ntakeV _ _ h2p n c A evp (takeV r.num.2.fix1.2).2 hRp) ?_
   rintro _ HLs ks ⟨rfl, hPs⟩
   have hks := hPs.1
   have hfLs := hPs.2.1
   have hsLs := hPs.2.2.1
   have hPsb := hPs
   obtain ⟨evs, hRs⟩ := hPsb.2.2.2
   have hns := hRs.hn
   have thsLs := SubS.of hsLs
   have hkHLs : HLs k = some (zblk ⟨r.num.1, true, vD, vD⟩) := hsLs _ _ (Uz hkHLp)
   refine Fz ?_
   refine aOps_0 rfl rfl rfl (AOp.storeN (z := 3) (cs := (vv (takeV r.num.2.fix1.2).1).cells) (b := zblk ⟨r.num.1, true, vD, vD⟩) rfl rfl rfl hpA rfl rfl (vv_one _) (by show 2 + 3 ≤ 8; decide) ?_)
   refine Fz ?_
   refine aOps_0 rfl rfl rfl (AOp.storeN (z := 3) (cs := (vv (takeV (takeV r.num.2.fix1.2).2).1).cells) (b := zblk ⟨r.num.1, true, (takeV r.num.2.fix1.2).1, vD⟩) rfl rfl rfl hpA rfl rfl (vv_one _) (by show 5 + 3 ≤ 8; decide) ?_)
   refine Ez (Sz (Rz [0, 1] Kz rfl ?_))
   refine Oz rfl rfl rfl ?_
   refine AOp.loadAll (b := ?b5) (v := zv ⟨r.num.1, true, (takeV r.num.2.fix1.2).1, (takeV (takeV r.num.2.fix1.2).2).1⟩) rfl rfl ?hn5 ?hv5 ?hw5 ?hz5 ?hR5
   (case hn5 => exact hpA)
   (case hv5 => rfl)
   (case hw5 => rfl)
   (case hz5 => first | rfl | exact hv_size _ | exact one_bv _ | exact entv_size _ | exact entc_one _ | (simp; done))
   refine aOps_0 rfl rfl rfl ?_
   refine AOp.storeAll (b := ?b6) rfl rfl rfl ?hn6 ?hk6 rfl ?hw6 ?ho6 ?hl6 ?hR6
   (case hn6 => exact hpA)
   (case hk6 => rfl)
   (case hw6 => first | rfl | exact hv_size _ | exact one_bv _ | exact entv_size _ | exact entc_one _ | (simp; done))
   (case ho6 => first | rfl | exact hv_size _ | exact one_bv _ | exact entv_size _ | exact entc_one _ | decide | (simp; done))
   (case hl6 => first | rfl | exact hv_size _ | exact one_bv _ | exact entv_size _ | exact entc_one _ | (simp; done))
   refine Ez ?_
   refine ACode.ret ?_
   try simp only [thenA, blockA, if_true]
   have hPd := (hPc.trans (hPp.at_ (Nat.le_refl _) (Nat.le_refl _))).trans (hPs.at_ (Nat.le_refl _) (Nat.le_refl _))
   have hPo : ∀ HF : Hp, (∀ m, m ∉ [k] → HF m = HLs m) → RdP H k n A c (takeV (takeV r.num.2.fix1.2).2).2 HF ks := fun HF h => RdP.own (HF := HF) (r := r) [k] hPd (sub_refl _) (Nat.le_refl _) ((takeV_bs _).trans ((takeV_bs _).trans ((Rd.fix1_bs _).trans r.num_bs))) (fun q hq => by rw [List.mem_singleton.1 hq]; exact ⟨hHk, by omega, hAk, by omega, _, hkHLs, by show (133 : Nat) ≠ 101; decide⟩) h
   have hmk : ∀ m, m ∉ [k] → m ≠ k := fun m hm e => hm (by rw [e]; exact List.mem_singleton_self _)
   rw [Rd.zone1 Wz]
   exact RetQ.cell rfl rfl (aloadAll (b := zblk ⟨r.num.1, true, (takeV r.num.2.fix1.2).1, (takeV (takeV r.num.2.fix1.2).2).1⟩) (v := zv ⟨r.num.1, true, (takeV r.num.2.fix1.2).1, (takeV (takeV r.num.2.fix1.2).2).1⟩) (upd_same _ _ _) rfl rfl rfl) (sub_refl _) (RdP.stays (hPo _ (fun m hm => by (repeat refine (upd_other _ _ (hmk m hm)).trans ?_); rfl))) (fun hk => ⟨rfl, (hPo _ (fun m hm => by (repeat refine (upd_other _ _ (hmk m hm)).trans ?_); rfl)).at_ (Nat.le_refl _) Wz⟩)
  ·try simp only [Cz] at c1
   refine Rz [0, 1] Kz rfl ?_
   refine Mz ?_
   refine Oz rfl rfl rfl ?_
   refine AOp.call' rfl rfl rfl (nfail _ _ n c A evf r.num.2.fix1.2 (hRf.sub subA) 4 Dz Dz) ?_
   rintro _ HLx kx ⟨rfl, hPx⟩
   have hkx := hPx.1
   have hfLx := hPx.2.1
   have hsLx := hPx.2.2.1
   have hPxb := hPx
   obtain ⟨evx, hRx⟩ := hPxb.2.2.2
   have hnx := hRx.hn
   have thsLx := SubS.of hsLx
   have hkHLx : HLx k = some (zblk ⟨r.num.1, false, vD, vD⟩) := hsLx _ _ (Uz hkHLf)
   refine Ez (Sz (Rz [0, 1] Kz rfl ?_))
   refine Oz rfl rfl rfl ?_
   refine AOp.loadAll (b := ?b7) (v := zv ⟨r.num.1, false, vD, vD⟩) rfl rfl ?hn7 ?hv7 ?hw7 ?hz7 ?hR7
   (case hn7 => exact hpA)
   (case hv7 => rfl)
   (case hw7 => rfl)
   (case hz7 => first | rfl | exact hv_size _ | exact one_bv _ | exact entv_size _ | exact entc_one _ | (simp; done))
   refine aOps_0 rfl rfl rfl ?_
   refine AOp.storeAll (b := ?b8) rfl rfl rfl ?hn8 ?hk8 rfl ?hw8 ?ho8 ?hl8 ?hR8
   (case hn8 => exact hpA)
   (case hk8 => rfl)
   (case hw8 => first | rfl | exact hv_size _ | exact one_bv _ | exact entv_size _ | exact entc_one _ | (simp; done))
   (case ho8 => first | rfl | exact hv_size _ | exact one_bv _ | exact entv_size _ | exact entc_one _ | decide | (simp; done))
   (case hl8 => first | rfl | exact hv_size _ | exact one_bv _ | exact entv_size _ | exact entc_one _ | (simp; done))
   refine Ez ?_
   refine ACode.ret ?_
   try simp only [thenA, blockA, if_true]
   have hPd := hPb.trans (hPx.at_ (Nat.le_refl _) (Nat.le_refl _))
   have hPo : ∀ HF : Hp, (∀ m, m ∉ [k] → HF m = HLx m) → RdP H k n A c (r.num.2.fix1.2.fail 4) HF kx := fun HF h => RdP.own (HF := HF) (r := r) [k] hPd (sub_refl _) (Nat.le_refl _) ((Rd.fail_bs _ _).trans ((Rd.fix1_bs _).trans r.num_bs)) (fun q hq => by rw [List.mem_singleton.1 hq]; exact ⟨hHk, by omega, hAk, by omega, _, hkHLx, by show (133 : Nat) ≠ 101; decide⟩) h
   have hmk : ∀ m, m ∉ [k] → m ≠ k := fun m hm e => hm (by rw [e]; exact List.mem_singleton_self _)
   rw [Rd.zone2 Wz Wz]
   exact RetQ.cell rfl rfl (aloadAll (b := zblk ⟨r.num.1, false, vD, vD⟩) (v := zv ⟨r.num.1, false, vD, vD⟩) (upd_same _ _ _) rfl rfl rfl) (sub_refl _) (RdP.stays (hPo _ (fun m hm => by (repeat refine (upd_other _ _ (hmk m hm)).trans ?_); rfl))) (fun hk => ⟨rfl, (hPo _ (fun m hm => by (repeat refine (upd_other _ _ (hmk m hm)).trans ?_); rfl)).at_ (Nat.le_refl _) Wz⟩)
end

end Go.Proofs.YteoofihjmldllaaDoor

/- Contracts over the abstract states: the truth of a row; what is wrong with a predicate. -/
set_option linter.unusedVariables false
set_option linter.unusedSimpArgs false
set_option maxRecDepth 100000
namespace Go.Proofs.YteoofihjmldllaaDoor
open Go Go.Ab

section
variable (H : Hp) (k : Nat)

end

end Go.Proofs.YteoofihjmldllaaDoor

/- Contracts over the abstract states: what is wrong with a predicate. -/
set_option linter.unusedVariables false
set_option linter.unusedSimpArgs false
set_option maxRecDepth 100000
namespace Go.Proofs.YteoofihjmldllaaDoor
open Go Go.Ab

def errV (kind : Int) (v : Val) : Int := rowI (fun c v => !stands c v) [⟨kind, false, 0⟩] [v]
section
variable (H : Hp) (k : Nat)

end

end Go.Proofs.YteoofihjmldllaaDoor
