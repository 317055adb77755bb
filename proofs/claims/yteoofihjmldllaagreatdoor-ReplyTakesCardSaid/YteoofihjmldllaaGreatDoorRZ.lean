/- Contracts over the abstract states: entries out of the reference's readers. -/
import Derived.Test.YteoofihjmldllaaGreatDoorR27
set_option linter.unusedVariables false
set_option linter.unusedSimpArgs false
set_option maxRecDepth 100000
namespace Go.Proofs.YteoofihjmldllaaGreatDoor
open Go Go.Ab

theorem ent_put0 (d : Dg) : putL (entc zeroE) 0 (d.l.map bv) = entc ⟨d, 0, zeroD⟩ := by
 unfold putL
 rw [hcs_one]
 rfl
theorem ent_put33 (a b d : Dg) (g : Int) : putL (entc ⟨a, g, b⟩) 33 (d.l.map bv) = entc ⟨a, g, d⟩ := by
 have e : ∀ x : Dg, entc ⟨a, g, x⟩ = (a.l.map bv ++ [.int .i64 g]) ++ x.l.map bv := fun x => by rw [List.append_assoc]; rfl
 have h : (a.l.map bv ++ [Value.int .i64 g]).length = 33 := by rw [List.length_append, hcs_one]; rfl
 unfold putL
 rw [hcs_one, e b, e d, ← h, List.take_left, List.drop_of_length_le (by rw [List.length_append, hcs_one, h]; exact Nat.le_refl _), List.append_nil]
section
variable (H : Hp) (k : Nat)

theorem rtakeE (n c : Nat) (A : Option Addr) (r : Rd) (hR : RfN H n A c r) : ACalls Tryz.prog 2 45 [ptr n 0 none] H k (fun v H' k' => v = entv r.ent.1 ∧ RfP H k n A c r.ent.2 H' k') := by
 refine ACalls.fresh fun hf => ?_
 refine ACalls.body Tryz.func45 rfl (Nat.le_of_ble_eq_true rfl) ?_
 have hn := hR.hn
 have hnk := old_lt hf hn
 have hok := hR.ok
 have hal := hok.at_le
 have hle := hok.len
 have hAk : Away A r.bs.length k := Away.of hR.hs (hf k (Nat.le_refl k))
 have hHk := hf k (Nat.le_refl k)
 have hvE : r.hash.2.var.1 = r.entV.1 := rfl
 refine Sz ?_
 refine Rz [0] Kz rfl ?_
 refine Oz rfl rfl rfl (AOp.alloc' rfl ?_)
 refine Ez (Sz (Rz [0, 1, 2, 3, 4] Kz rfl ?_))
 refine Mz ?_
 refine Oz rfl rfl rfl ?_
 refine AOp.call' rfl rfl rfl (rhash_21 _ _ n c A r (hR.sub subA)) ?_
 rintro _ HLa ka ⟨rfl, hPa⟩
 have hka := hPa.1
 have hfLa := hPa.2.1
 have hsLa := hPa.2.2.1
 have hRa := hPa.2.2.2
 have hna := hRa.hn
 have thsLa := SubS.of hsLa
 have hkLa : HLa k = some (ebk zeroE) := hsLa _ _ (Uz (upd_same _ _ _))
 obtain ⟨q, rfl⟩ : ∃ q, q = ka := ⟨ka, rfl⟩
 have hAq : Away A r.bs.length q := by have h := Away.of hRa.hs (hfLa q (Nat.le_refl q)); rw [Rd.hash_bs] at h; exact h
 have hHq := hf q Wz
 have hqn : q ≠ n := by omega
 refine Oz rfl rfl rfl (AOp.buildS (cells := (entc ⟨r.hash.1, 0, zeroD⟩).toArray) rfl rfl (by refine (fill_cons (r.hash.1.l.map bv) rfl rfl (hcs_one _) Dz).trans ?_; exact congrArg (fun l : List Value => some l.toArray) (ent_put0 _)) ?_)
 refine Oz rfl rfl rfl (AOp.alloc' rfl ?_)
 refine aOps_0 rfl rfl rfl ?_
 refine AOp.storeAll (b := ?b1) rfl rfl rfl ?hn1 ?hk1 rfl ?hw1 ?ho1 ?hl1 ?hR1
 (case hn1 => exact hpA)
 (case hk1 => rfl)
 (case hw1 => first | rfl | exact hv_size _ | exact one_bv _ | exact entv_size _ | exact entc_one _ | (simp; done))
 (case ho1 => first | rfl | exact hv_size _ | exact one_bv _ | exact entv_size _ | exact entc_one _ | decide | (simp; done))
 (case hl1 => first | rfl | exact hv_size _ | exact one_bv _ | exact entv_size _ | exact entc_one _ | (simp; done))
 rw [rd_upd2]
 refine Ez (Sz (Rz [0, 1, 2] Kz rfl ?_))
 refine Mz ?_
 refine Oz rfl rfl rfl ?_
 refine AOp.call' rfl rfl rfl (rvar _ _ n c A r.hash.2 (hRa.sub subA)) ?_
 rintro _ HLv kv ⟨rfl, hPv⟩
 have hkv := hPv.1
 have hfLv := hPv.2.1
 have hsLv := hPv.2.2.1
 have hRv := hPv.2.2.2
 have hnv := hRv.hn
 have thsLv := SubS.of hsLv
 have hqv : HLv q = some (ebk ⟨r.hash.1, 0, zeroD⟩) := hsLv _ _ ((upd_other _ _ hqn).trans (upd_same _ _ _))
 have hkLv : HLv k = some (ebk zeroE) := hsLv _ _ (Uz (Uz hkLa))
 refine Nz ?_
 refine Ez (Sz (Rz [0, 1, 2, 3] Kz rfl ?_))
 refine Mz ?_
 refine Oz rfl rfl rfl ?_
 refine AOp.call' rfl rfl rfl (rhash_21 _ _ n c A r.entV.2 hRv) ?_
 rintro _ HLd kd ⟨rfl, hPd⟩
 have hkd := hPd.1
 have hfLd := hPd.2.1
 have hsLd := hPd.2.2.1
 have hRd := hPd.2.2.2
 have hnd := hRd.hn
 have thsLd := SubS.of hsLd
 have hqd : HLd q = some (ebk ⟨r.hash.1, 0, zeroD⟩) := hsLd _ _ ((upd_other _ _ hqn).trans hqv)
 have hkLd : HLd k = some (ebk zeroE) := hsLd _ _ (Uz hkLv)
 refine Fz ?_
 refine aOps_0 rfl rfl rfl (AOp.storeN (b := ebk ⟨r.hash.1, 0, zeroD⟩) (cs := (r.entD.1.l.map bv).toArray) rfl rfl rfl hqd rfl (hv_size _) (one_bvA _) (by show 33 + 32 ≤ (entc _).length; rw [entc_len]; decide) ?_)
 rw [ent_put33]
 refine Ez ?_
 refine ACode.meet (γ := Unit) (fun g => []) [(0, _), (2, _), (3, _), (4, _)] Xz (fun g H' k' => H' q = some (ebk ⟨r.hash.1, 0, r.entD.1⟩) ∧ H' k = some (ebk zeroE) ∧ RfP H k n A c r.entR H' k') ?_ (fun g HLm km hfLm hXm => ?_)
 ·show ACode _ _ _ _ _ _
  refine Sz ?_
  have hPa2 : RfP H k n A c r.hash.2 (upd HLa q (some (ebk ⟨r.hash.1, 0, zeroD⟩))) (q + 1) := (RfP.own (HF := HLa) (r := r) [k] hPa (sub_upd' (sub_refl H) hHk) Wz r.hash_bs (fun x hx => by rw [List.mem_singleton.1 hx]; exact ⟨hHk, by omega, hAk, by omega⟩) (fun m hm => rfl)).grow (sub_upd' (sub_refl _) (hfLa q (Nat.le_refl q))) (fun m hm => Uz (hfLa m Wz)) (Nat.le_succ _)
  have hPd2 : RfP H k n A c r.entD.2 HLd kd := (hPa2.trans hPv).trans hPd
  have hPe : RfP H k n A c r.entD.2 (upd HLd q (some (ebk ⟨r.hash.1, 0, r.entD.1⟩))) kd := RfP.own (r := r) [q] hPd2 (sub_refl _) (Nat.le_refl _) r.entD_bs (fun x hx => by rw [List.mem_singleton.1 hx]; exact ⟨hHq, hqn, hAq, by omega⟩) (fun m hm => upd_other _ _ (fun e => hm (by rw [e]; simp)))
  have hRe := hPe.2.2.2
  refine Rz [0, 1] Kz rfl ?_
  refine Mz ?_
  refine Oz rfl rfl rfl (AOp.bin' rfl rfl rfl rfl ?_)
  refine Ez ?_
  refine ACode.cond rfl (fun c0 => ?_) (fun c0 => ?_)
  ·try simp only [Cz] at c0
   refine Rz [0, 1] Kz rfl ?_
   refine Mz ?_
   refine Oz rfl rfl rfl ?_
   refine AOp.call' rfl rfl rfl (rfail _ _ n c A r.entD.2 hRe 5 Dz Dz) ?_
   rintro _ HLf kf ⟨rfl, hPf⟩
   have hkf := hPf.1
   have hfLf := hPf.2.1
   have hsLf := hPf.2.2.1
   have hRf := hPf.2.2.2
   have hnf := hRf.hn
   have thsLf := SubS.of hsLf
   refine Ez ?_
   first | refine thenA_n ?_ | simp only [thenA, blockA, if_true]
   exact ⟨(), has_append .nil Xz, (by (try dsimp only); exact ⟨hsLf _ _ ((upd_other _ _ hqn).trans (upd_same _ _ _)), hsLf _ _ (Uz (Uz hkLd)), by rw [Rd.entR_t Wz]; exact hPe.trans (hPf.at_ (Nat.le_refl _) Wz)⟩)⟩
  ·try simp only [Cz] at c0
   refine ACode.skip ?_
   first | refine thenA_n ?_ | simp only [thenA, blockA, if_true]
   exact ⟨(), has_append .nil Xz, (by (try dsimp only); exact ⟨upd_same _ _ _, Uz hkLd, by rw [Rd.entR_f Wz]; exact hPe.at_ (Nat.le_refl _) Wz⟩)⟩
 ·show ACode _ _ _ _ _ ⟨_, _, _⟩
  obtain ⟨hqm, hkb, hPm⟩ := hXm
  have hsLm := hPm.2.2.1
  have hkm := hPm.1
  have thsLm := SubS.of hsLm
  have hRm := hPm.2.2.2
  have hkkm := old_lt hfLm hkb
  have hqkm := old_lt hfLm hqm
  refine Sz ?_
  refine Sz ?_
  refine Rz [0, 1, 2, 3, 4] Kz rfl ?_
  refine Mz ?_
  refine Oz rfl rfl rfl (AOp.nilCheck' rfl rfl ?_)
  refine Fz ?_
  refine Oz rfl rfl rfl (AOp.load1 (b := rfBlk A c r.entR) (v := .int .i64 r.entR.e) rfl rfl hRm.hn rfl ?_)
  refine Oz rfl rfl rfl (AOp.bin' rfl rfl rfl rfl ?_)
  refine Ez ?_
  refine ACode.cond rfl (fun c1 => ?_) (fun c1 => ?_)
  ·try simp only [Cz] at c1
   refine Sz ?_
   refine Rz [0, 1] Kz rfl ?_
   refine Oz rfl rfl rfl (AOp.buildS (cells := (entc zeroE).toArray) rfl rfl rfl ?_)
   refine aOps_0 rfl rfl rfl ?_
   refine AOp.storeAll (b := ?b2) rfl rfl rfl ?hn2 ?hk2 rfl ?hw2 ?ho2 ?hl2 ?hR2
   (case hn2 => exact hpA)
   (case hk2 => rfl)
   (case hw2 => first | rfl | exact hv_size _ | exact one_bv _ | exact entv_size _ | exact entc_one _ | (simp; done))
   (case ho2 => first | rfl | exact hv_size _ | exact one_bv _ | exact entv_size _ | exact entc_one _ | decide | (simp; done))
   (case hl2 => first | rfl | exact hv_size _ | exact one_bv _ | exact entv_size _ | exact entc_one _ | (simp; done))
   refine Ez ?_
   refine ACode.ret ?_
   try simp only [thenA, blockA, if_true]
   have hPo : ∀ HF : Hp, (∀ m, m ∉ [k, q] → HF m = HLm m) → RfP H k n A c r.entR HF km := fun HF h => RfP.own (HF := HF) (r := r) [k, q] hPm (sub_refl _) (Nat.le_refl _) r.entR_bs (fun x hx => (show x = k ∨ x = q by simpa using hx).elim (fun e => by rw [e]; exact ⟨hHk, by omega, hAk, hkkm⟩) (fun e => by rw [e]; exact ⟨hHq, hqn, hAq, hqkm⟩)) h
   have hmk : ∀ m, m ∉ [k, q] → m ≠ k ∧ m ≠ q := fun m hm => ⟨fun e => hm (by rw [e]; simp), fun e => hm (by rw [e]; simp)⟩
   rw [show r.ent = (zeroE, r.entR) from congrArg (·, r.entR) (if_pos c1)]
   exact RetQ.cell rfl rfl (aloadAll (b := ebk zeroE) (v := entv zeroE) (upd_same _ _ _) rfl rfl (entv_size _)) (sub_refl _) (RfP.stays (hPo _ (fun m hm => by (repeat first | refine (upd_other _ _ (hmk m hm).1).trans ?_ | refine (upd_other _ _ (hmk m hm).2).trans ?_); rfl))) (fun hk => ⟨rfl, (hPo _ (fun m hm => by (repeat first | refine (upd_other _ _ (hmk m hm).1).trans ?_ | refine (upd_other _ _ (hmk m hm).2).trans ?_); rfl)).at_ (Nat.le_refl _) Wz⟩)
  ·try simp only [Cz] at c1
   refine ACode.skip ?_
   refine Sz ?_
   refine Rz [0, 1, 2, 3] Kz rfl ?_
   refine Mz ?_
   refine Oz rfl rfl rfl (AOp.convInt rfl rfl ?_)
   rw [show IntKind.i64.wrap ((r.hash.2.var.1 : Nat) : Int) = (r.entV.1 : Int) from i64_wrap Wz (by have := Rd.ent_le c1; omega)]
   refine Fz ?_
   refine aOps_0 rfl rfl rfl (AOp.store1 (b := ebk ⟨r.hash.1, 0, r.entD.1⟩) rfl rfl rfl hqm rfl rfl rfl (by show 32 < (entc _).length; rw [entc_len]; decide) ?_)
   rw [ent_set]
   refine Ez (Sz (Rz [0, 1] Kz rfl ?_))
   refine Oz rfl rfl rfl ?_
   refine AOp.loadAll (b := ?b3) (v := entv ⟨r.hash.1, (r.entV.1 : Int), r.entD.1⟩) rfl rfl ?hn3 ?hv3 ?hw3 ?hz3 ?hR3
   (case hn3 => exact hpA)
   (case hv3 => rfl)
   (case hw3 => rfl)
   (case hz3 => first | rfl | exact hv_size _ | exact one_bv _ | exact entv_size _ | exact entc_one _ | (simp; done))
   refine aOps_0 rfl rfl rfl ?_
   refine AOp.storeAll (b := ?b4) rfl rfl rfl ?hn4 ?hk4 rfl ?hw4 ?ho4 ?hl4 ?hR4
   (case hn4 => exact hpA)
   (case hk4 => rfl)
   (case hw4 => first | rfl | exact hv_size _ | exact one_bv _ | exact entv_size _ | exact entc_one _ | (simp; done))
   (case ho4 => first | rfl | exact hv_size _ | exact one_bv _ | exact entv_size _ | exact entc_one _ | decide | (simp; done))
   (case hl4 => first | rfl | exact hv_size _ | exact one_bv _ | exact entv_size _ | exact entc_one _ | (simp; done))
   refine Ez ?_
   refine ACode.ret ?_
   try simp only [thenA, blockA, if_true]
   have hPo : ∀ HF : Hp, (∀ m, m ∉ [k, q] → HF m = HLm m) → RfP H k n A c r.entR HF km := fun HF h => RfP.own (HF := HF) (r := r) [k, q] hPm (sub_refl _) (Nat.le_refl _) r.entR_bs (fun x hx => (show x = k ∨ x = q by simpa using hx).elim (fun e => by rw [e]; exact ⟨hHk, by omega, hAk, hkkm⟩) (fun e => by rw [e]; exact ⟨hHq, hqn, hAq, hqkm⟩)) h
   have hmk : ∀ m, m ∉ [k, q] → m ≠ k ∧ m ≠ q := fun m hm => ⟨fun e => hm (by rw [e]; simp), fun e => hm (by rw [e]; simp)⟩
   rw [show r.ent = (⟨r.hash.1, (r.entV.1 : Int), r.entD.1⟩, r.entR) from congrArg (·, r.entR) (if_neg (fun h => h c1))]
   exact RetQ.cell rfl rfl (aloadAll (b := ebk ⟨r.hash.1, (r.entV.1 : Int), r.entD.1⟩) (v := entv ⟨r.hash.1, (r.entV.1 : Int), r.entD.1⟩) (upd_same _ _ _) rfl rfl (entv_size _)) (sub_refl _) (RfP.stays (hPo _ (fun m hm => by (repeat first | refine (upd_other _ _ (hmk m hm).1).trans ?_ | refine (upd_other _ _ (hmk m hm).2).trans ?_); rfl))) (fun hk => ⟨rfl, (hPo _ (fun m hm => by (repeat first | refine (upd_other _ _ (hmk m hm).1).trans ?_ | refine (upd_other _ _ (hmk m hm).2).trans ?_); rfl)).at_ (Nat.le_refl _) Wz⟩)
end

end Go.Proofs.YteoofihjmldllaaGreatDoor

/- Zones out of readers: plain Lean. No condition. -/
set_option linter.unusedVariables false
set_option linter.unusedSimpArgs false
set_option maxRecDepth 100000
namespace Go.Proofs.YteoofihjmldllaaGreatDoor
open Go Go.Ab
structure Zn where
 nulls : Int
 some : Bool
 min : Val
 max : Val
abbrev znc (z : Zn) : List Value := [.int .i64 z.nulls, .bool z.some, .int .i64 z.min.kind, .int .i64 z.min.n, .string z.min.s, .int .i64 z.max.kind, .int .i64 z.max.n, .string z.max.s]
abbrev zv (z : Zn) : Value := .agg #[.int .i64 z.nulls, .bool z.some, .int .i64 z.min.kind, .int .i64 z.min.n, .string z.min.s, .int .i64 z.max.kind, .int .i64 z.max.n, .string z.max.s]
abbrev zblk (z : Zn) : Blk := { cells := znc z, elem := 55, kind := .fix }
def zD : Zn := ⟨0, false, vD, vD⟩
theorem vv_one (v : Val) : ((vv v).cells.all fun x => x.oneCell') = true := by
 simp [vv, Value.cells, Value.oneCell']
def Rd.num (r : Rd) : Int × Rd := (Min.min (r.var.1 : Int) 65537, r.var.2)
def Rd.zone (r : Rd) : Zn × Rd :=
 if r.num.2.fix1.1 = 0 then (⟨r.num.1, false, vD, vD⟩, r.num.2.fix1.2)
 else if r.num.2.fix1.1 = 1 then (⟨r.num.1, true, (takeV r.num.2.fix1.2).1, (takeV (takeV r.num.2.fix1.2).2).1⟩, (takeV (takeV r.num.2.fix1.2).2).2)
 else (⟨r.num.1, false, vD, vD⟩, r.num.2.fix1.2.fail 4)
theorem Rd.num_bs (r : Rd) : r.num.2.bs = r.bs := Rd.var_bs r
theorem Rd.zone0 {r : Rd} (h : r.num.2.fix1.1 = 0) : r.zone = (⟨r.num.1, false, vD, vD⟩, r.num.2.fix1.2) := if_pos h
theorem Rd.zone1 {r : Rd} (h : r.num.2.fix1.1 = 1) : r.zone = (⟨r.num.1, true, (takeV r.num.2.fix1.2).1, (takeV (takeV r.num.2.fix1.2).2).1⟩, (takeV (takeV r.num.2.fix1.2).2).2) := by rw [Rd.zone, if_neg Wz, if_pos h]
theorem Rd.zone2 {r : Rd} (h : ¬ r.num.2.fix1.1 = 0) (h2 : ¬ r.num.2.fix1.1 = 1) : r.zone = (⟨r.num.1, false, vD, vD⟩, r.num.2.fix1.2.fail 4) := by rw [Rd.zone, if_neg h, if_neg h2]
theorem Rd.zone_bs (r : Rd) : r.zone.2.bs = r.bs := by
 unfold Rd.zone
 split
 ·exact (Rd.fix1_bs _).trans r.num_bs
 ·split
  ·exact (takeV_bs _).trans ((takeV_bs _).trans ((Rd.fix1_bs _).trans r.num_bs))
  ·exact (Rd.fail_bs _ _).trans ((Rd.fix1_bs _).trans r.num_bs)
end Go.Proofs.YteoofihjmldllaaGreatDoor
