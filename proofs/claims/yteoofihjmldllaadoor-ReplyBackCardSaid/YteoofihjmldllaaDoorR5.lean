/- Contracts over the abstract states: zigzag back, ends of readers, values out of readers. -/
import Derived.Test.YteoofihjmldllaaDoorRG
set_option linter.unusedVariables false
set_option linter.unusedSimpArgs false
set_option maxRecDepth 100000
namespace Go.Proofs.YteoofihjmldllaaDoor
open Go Go.Ab

theorem Rd.fail_ne (r : Rd) {e : Int} (he : e ≠ 0) : (r.fail e).e ≠ 0 := by
 unfold Rd.fail
 split
 ·exact he
 ·rename_i h
  exact fun h2 => h ⟨h2, he⟩
theorem rd_upd2 (A : Hp) (k : Nat) (x y : Option Blk) : upd (upd A k y) k x = upd A k x := by
 funext m
 by_cases h : m = k
 ·subst h; rw [upd_same, upd_same]
 ·rw [upd_other _ _ h, upd_other _ _ h, upd_other _ _ h]
section
variable (H : Hp) (k : Nat)

theorem nzag (n : Nat) (hn : n < 18446744073709551616) : ACalls Tryd.prog 3 127 [u64 n] H k (Same H k (.int .i64 (zagN n))) := by
 refine ACalls.fresh fun hf => ?_
 refine ACalls.body Tryd.func127 rfl (Nat.le_of_ble_eq_true rfl) ?_
 refine Sz ?_
 refine Rz [0] Kz rfl ?_
 refine Nz ?_
 refine Ez (Sz (Rz [0, 1, 2, 3, 4, 5, 6, 7, 8] Kz rfl ?_))
 refine Mz ?_
 refine Oz rfl rfl rfl (AOp.bin' (z := u64 (n / 2)) rfl rfl rfl (congrArg (fun z => some (Value.int .u64 z)) (by show Int.fdiv (n : Int) 2 = _; rw [Int.fdiv_eq_ediv_of_nonneg _ Dz]; rfl)) ?_)
 refine Oz rfl rfl rfl (AOp.convInt rfl rfl ?_)
 refine Mz ?_
 refine Oz rfl rfl rfl (AOp.bin' (z := u64 (n % 2)) rfl rfl rfl (congrArg (fun z => some (Value.int .u64 z)) (ib1 hn)) ?_)
 refine Oz rfl rfl rfl (AOp.convInt rfl rfl ?_)
 refine Oz rfl rfl rfl (AOp.un' rfl rfl rfl ?_)
 refine Oz rfl rfl rfl (AOp.bin' rfl rfl rfl rfl ?_)
 refine Nz ?_
 refine Ez ?_
 refine ACode.ret ?_
 exact RetQ.one rfl rfl subA stays (fun hk => ⟨(congrArg (Value.int .i64) (zag_bits hn)), rfl, by omega⟩)

theorem ngood (h2 : H 1 = some hBlk) (n c : Nat) (A : Option Addr) (ev : Value) (r : Rd) (hR : RdN H n A c ev r) : ACalls Tryd.prog 3 101 [ptr n 0 none] H k (Same H k (.bool (decide (r.e = 0)))) := by
 refine ACalls.fresh fun hf => ?_
 refine ACalls.body Tryd.func101 rfl (Nat.le_of_ble_eq_true rfl) ?_
 refine Sz ?_
 refine Rz [0] Kz rfl ?_
 refine Nz ?_
 refine Ez (Sz (Rz [0, 1, 2, 3, 4, 5, 6] Kz rfl ?_))
 refine Mz ?_
 refine aOps_q rfl rfl rfl (AOp.call' rfl rfl rfl (nerr _ _ hpA n c A ev r (hR.sub subA)) Iz) (fun kq hkq => ?_)
 refine Mz ?_
 refine Oz rfl rfl rfl (AOp.extract' rfl rfl rfl ?_)
 refine Oz rfl rfl rfl (AOp.extract' rfl rfl rfl ?_)
 refine Nz ?_
 refine Nz ?_
 refine Ez (Sz (Rz [0, 1, 2] Kz rfl ?_))
 refine Mz ?_
 refine Oz rfl rfl rfl (AOp.bin' rfl rfl rfl rfl ?_)
 refine Nz ?_
 refine Ez ?_
 refine ACode.ret ?_
 exact RetQ.one rfl rfl subA stays (fun hk => ⟨rfl, rfl, by omega⟩)

theorem nend (h2 : H 1 = some hBlk) (n c : Nat) (A : Option Addr) (ev : Value) (r : Rd) (hR : RdN H n A c ev r) : ACalls Tryd.prog 3 48 [ptr n 0 none] H k (Same H k (.tuple #[.int .i64 r.end_.1, .int .i64 r.end_.2])) := by
 refine ACalls.fresh fun hf => ?_
 refine ACalls.body Tryd.func48 rfl (Nat.le_of_ble_eq_true rfl) ?_
 have hn := hR.hn
 have hnk := old_lt hf hn
 have hok := hR.ok
 have hal := hok.at_le
 have hle := hok.len
 have hlf : r.left = (r.bs.length : Int) - (r.at_ : Int) := rfl
 refine Sz ?_
 refine Rz [0, 1] Kz rfl ?_
 refine Nz ?_
 refine Nz ?_
 refine Ez ?_
 refine Sz ?_
 refine Sz ?_
 refine Rz [0, 1, 2, 3, 4, 5, 6] Kz rfl ?_
 refine Mz ?_
 refine aOps_q rfl rfl rfl (AOp.call' rfl rfl rfl (nerr _ _ hpA n c A ev r (hR.sub subA)) Iz) (fun kq hkq => ?_)
 refine Mz ?_
 refine Oz rfl rfl rfl (AOp.extract' rfl rfl rfl ?_)
 refine Oz rfl rfl rfl (AOp.extract' rfl rfl rfl ?_)
 refine Nz ?_
 refine Nz ?_
 refine Ez (Sz (Rz [0, 1, 2, 3, 4, 5, 6] Kz rfl ?_))
 refine Mz ?_
 refine Oz rfl rfl rfl (AOp.bin' rfl rfl rfl rfl ?_)
 refine Mz ?_
 refine aOps_gd0 rfl rfl (wantT rfl rfl rfl) (fun hc => AOp.slots [(0, _)] (.cons rfl .nil) (AOp.move' (.inl rfl) rfl Tz)) ?_
 refine aOps_gd rfl rfl (wantT rfl rfl rfl) (fun hc => AOp.slots [(12, _)] (.cons (gvT rfl hc) .nil) (AOp.call' rfl rfl rfl (nleft _ _ n c A ev r (hR.sub subA)) Iz)) (fun kq hkq => ?_)
 refine aOps_gd0 rfl rfl (wantT rfl rfl rfl) (fun hc => AOp.slots [(13, _)] (.cons (gvT rfl hc) .nil) (AOp.bin' rfl rfl rfl rfl Tz)) ?_
 refine Oz rfl rfl rfl (AOp.pickAnd rfl rfl rfl (fun hb => gvE rfl hb) ?_)
 refine Ez ?_
 refine ACode.cond rfl (fun c0 => ?_) (fun c0 => ?_)
 ·try simp only [Cz] at c0
  have c0b : r.e = 0 ∧ r.at_ < r.bs.length := by simp at c0; omega
  refine Sz ?_
  refine ACode.draw' 6 [(0, 16), (1, 17), (2, 18), (3, 19), (4, 2), (5, 3)] mixed Kz ?_
  refine Draw.step [(0, none)] rfl Kz rfl (fun kq hkq => AOp.move' (.inl rfl) rfl Vz) ?_
  refine Draw.step [(16, some 0)] rfl Kz rfl (fun kq hkq => AOp.nilCheck' rfl rfl Vz) ?_
  refine Draw.step [(17, some 1)] rfl Kz rfl (fun kq hkq => AOp.fieldAddr' rfl Dz rfl Vz) ?_
  refine Draw.step [(18, some 2)] rfl Kz rfl (fun kq hkq => (by refine AOp.load1 (b := ?b1) (v := ?v1) rfl rfl ?hn1 ?hv1 ?hR1; (case hn1 => exact hpA); (case hv1 => rfl); exact Vz)) ?_
  refine Draw.step [] rfl Kz rfl (fun kq hkq => AOp.move' (.inr rfl) rfl Vz) ?_
  refine Draw.step [(19, some 3)] rfl Kz rfl (fun kq hkq => AOp.move' (.inr rfl) rfl Vz) ?_
  refine Draw.done fun kq hkq => ?_
  show aOps _ _ _ _ [] ⟨_, _, _⟩
  refine Ez ?_
  refine ACode.ret ?_
  try simp only [thenA, blockA, if_true]
  rw [show r.end_ = (3, (r.at_ : Int)) from if_pos c0b]
  exact RetQ.two rfl rfl rfl subA stays (fun hk => ⟨rfl, rfl, by omega⟩)
 ·try simp only [Cz] at c0
  have c0b : ¬ (r.e = 0 ∧ r.at_ < r.bs.length) := by simp at c0; omega
  refine ACode.skip ?_
  refine Sz ?_
  refine Rz [0, 1, 2, 3] Kz rfl ?_
  refine Mz ?_
  refine Mz ?_
  refine Nz ?_
  refine Nz ?_
  refine Ez ?_
  refine ACode.ret ?_
  try simp only [thenA, blockA, if_true]
  rw [show r.end_ = (r.e, r.on) from if_neg c0b]
  exact RetQ.two rfl rfl rfl subA stays (fun hk => ⟨rfl, rfl, by omega⟩)

theorem ntakeV (h2 : H 1 = some hBlk) (n c : Nat) (A : Option Addr) (ev : Value) (r : Rd) (hR : RdN H n A c ev r) : ACalls Tryd.prog 3 92 [ptr n 0 none] H k (fun v H' k' => v = vv (takeV r).1 ∧ RdP H k n A c (takeV r).2 H' k') := by
 refine ACalls.fresh fun hf => ?_
 refine ACalls.body Tryd.func92 rfl (Nat.le_of_ble_eq_true rfl) ?_
 have hn := hR.hn
 have hnk := old_lt hf hn
 have hok := hR.ok
 have hal := hok.at_le
 have hle := hok.len
 have hAk : Away A r.bs.length k := Away.of hR.hs (hf k (Nat.le_refl _))
 have hfx := Rd.fix1_ok hok
 have hvx := Rd.var_ok hfx.1
 have h2n := hR.ne2 h2
 have h2k := old_lt hf h2
 refine Sz ?_
 refine Rz [0] Kz rfl ?_
 refine Oz rfl rfl rfl (AOp.alloc' rfl ?_)
 refine Ez (Sz (Rz [0, 1, 2, 3] Kz rfl ?_))
 refine Mz ?_
 refine Oz rfl rfl rfl ?_
 refine AOp.call' rfl rfl rfl (nfix1 _ _ n c A ev r (hR.sub subA)) ?_
 rintro _ HL1 k1 ⟨rfl, hP1⟩
 have hk1 := hP1.1
 have hfL1 := hP1.2.1
 have hsL1 := hP1.2.2.1
 have hP1b := hP1
 obtain ⟨ev1, hR1⟩ := hP1b.2.2.2
 have hn1 := hR1.hn
 have thsL1 := SubS.of hsL1
 have hkL1 : HL1 k = some { cells := (vv vD).cells.toList, elem := 59, kind := .fix } := hsL1 _ _ (Uz hpA)
 have h21 : HL1 1 = some hBlk := hsL1 _ _ ((upd_other _ _ h2n).trans (Uz h2))
 refine Oz rfl rfl rfl (AOp.convInt rfl rfl ?_)
 rw [show IntKind.i64.wrap ((r.fix1.1 : Nat) : Int) = ((r.fix1.1 : Nat) : Int) from i64_wrap Wz Wz]
 refine Nz ?_
 refine Ez ?_
 refine Sz ?_
 refine Sz ?_
 refine Rz [0] Kz rfl ?_
 refine Mz ?_
 refine Ez ?_
 refine ACode.block ?_
 refine Sz ?_
 refine Rz [0, 1] Kz rfl ?_
 refine Oz rfl rfl rfl (AOp.bin' rfl rfl rfl rfl ?_)
 refine Nz ?_
 refine Ez ?_
 refine ACode.cond rfl (fun c0 => ?_) (fun c0 => ?_)
 ·try simp only [Cz] at c0
  refine ACode.skip ?_
  refine Sz ?_
  refine Sz ?_
  refine Rz [0, 1, 2] Kz rfl ?_
  refine Mz ?_
  refine aOps_q rfl rfl rfl (AOp.call' rfl rfl rfl (ngood _ _ hpA n c A ev1 r.fix1.2 (hR1.sub subA)) Iz) (fun kq hkq => ?_)
  refine Oz rfl rfl rfl (AOp.un' rfl rfl rfl ?_)
  refine Ez ?_
  refine ACode.cond rfl (fun c3 => ?_) (fun c3 => ?_)
  ·try simp only [Cz] at c3
   refine Sz ?_
   refine Rz [0, 1] Kz rfl ?_
   refine Oz rfl rfl rfl (AOp.buildS (cells := #[_, _, _]) rfl rfl rfl ?_)
   refine aOps_0 rfl rfl rfl ?_
   refine AOp.storeAll (b := ?b2) rfl rfl rfl ?hn2 ?hk2 rfl ?hw2 ?ho2 ?hl2 ?hR2
   (case hn2 => exact hpA)
   (case hk2 => rfl)
   (case hw2 => first | rfl | (simp; done))
   (case ho2 => first | rfl | decide | (simp; done))
   (case hl2 => first | rfl | (simp; done))
   refine Ez ?_
   refine ACode.ret ?_
   try simp only [thenA, blockA, if_true]
   have hK : takeK r = (vD, r.fix1.2) := if_pos Wz
   have e1 : takeV r = (vD, r.fix1.2) := by rw [takeV, hK]; exact congrArg (·, _) (if_pos c3)
   have hP9 : RdP (upd H k (some { cells := (vv vD).cells.toList, elem := 59, kind := .fix })) (k + 1) n A c (takeV r).2 HL1 k1 := by rw [e1]; exact hP1
   have hPo : ∀ HF : Hp, (∀ m, m ∉ [k] → HF m = HL1 m) → RdP H k n A c (takeV r).2 HF k1 := fun HF h => RdP.own (HF := HF) (r := r) [k] hP9 (sub_upd' (sub_refl H) (hf k (Nat.le_refl k))) Wz (takeV_bs r) (fun q hq => by rw [List.mem_singleton.1 hq]; exact ⟨hf k (Nat.le_refl k), by omega, hAk, by omega, _, hkL1, by show (59 : Nat) ≠ 101; decide⟩) h
   have hmk : ∀ m, m ∉ [k] → m ≠ k := fun m hm e => hm (by rw [e]; exact List.mem_singleton_self _)
   refine RetQ.cell rfl rfl (aloadAll (b := ({ cells := (vv vD).cells.toList, elem := 59, kind := .fix } : Blk)) (v := vv vD) (upd_same _ _ _) rfl rfl rfl) (sub_refl _) (RdP.stays (hPo _ (fun m hm => by (repeat refine (upd_other _ _ (hmk m hm)).trans ?_); rfl))) (fun hk => ⟨by rw [e1], (hPo _ (fun m hm => by (repeat refine (upd_other _ _ (hmk m hm)).trans ?_); rfl)).at_ (Nat.le_refl _) Wz⟩)
  ·try simp only [Cz] at c3
   refine ACode.skip ?_
   refine Sz ?_
   refine Rz [0, 1] Kz rfl ?_
   refine Oz rfl rfl rfl ?_
   refine AOp.loadAll (b := ?b3) (v := ?v3) rfl rfl ?hn3 ?hv3 ?hw3 ?hz3 ?hR3
   (case hn3 => exact hpA)
   (case hv3 => rfl)
   (case hw3 => rfl)
   (case hz3 => first | rfl | (simp; done))
   refine aOps_0 rfl rfl rfl ?_
   refine AOp.storeAll (b := ?b4) rfl rfl rfl ?hn4 ?hk4 rfl ?hw4 ?ho4 ?hl4 ?hR4
   (case hn4 => exact hpA)
   (case hk4 => rfl)
   (case hw4 => first | rfl | (simp; done))
   (case ho4 => first | rfl | decide | (simp; done))
   (case hl4 => first | rfl | (simp; done))
   refine Ez ?_
   refine ACode.ret ?_
   try simp only [thenA, blockA, if_true]
   have hK : takeK r = (vD, r.fix1.2) := if_pos Wz
   have e1 : takeV r = (vD, r.fix1.2) := by rw [takeV, hK]; exact congrArg (·, _) (if_neg (fun h => h c3))
   have hP9 : RdP (upd H k (some { cells := (vv vD).cells.toList, elem := 59, kind := .fix })) (k + 1) n A c (takeV r).2 HL1 k1 := by rw [e1]; exact hP1
   have hPo : ∀ HF : Hp, (∀ m, m ∉ [k] → HF m = HL1 m) → RdP H k n A c (takeV r).2 HF k1 := fun HF h => RdP.own (HF := HF) (r := r) [k] hP9 (sub_upd' (sub_refl H) (hf k (Nat.le_refl k))) Wz (takeV_bs r) (fun q hq => by rw [List.mem_singleton.1 hq]; exact ⟨hf k (Nat.le_refl k), by omega, hAk, by omega, _, hkL1, by show (59 : Nat) ≠ 101; decide⟩) h
   have hmk : ∀ m, m ∉ [k] → m ≠ k := fun m hm e => hm (by rw [e]; exact List.mem_singleton_self _)
   refine RetQ.cell rfl rfl (aloadAll (b := ({ cells := (vv vD).cells.toList, elem := 59, kind := .fix } : Blk)) (v := vv vD) (upd_same _ _ _) rfl rfl rfl) (sub_refl _) (RdP.stays (hPo _ (fun m hm => by (repeat refine (upd_other _ _ (hmk m hm)).trans ?_); rfl))) (fun hk => ⟨by rw [e1], (hPo _ (fun m hm => by (repeat refine (upd_other _ _ (hmk m hm)).trans ?_); rfl)).at_ (Nat.le_refl _) Wz⟩)
 ·try simp only [Cz] at c0
  refine Sz ?_
  refine Rz [0, 1] Kz rfl ?_
  refine Oz rfl rfl rfl (AOp.bin' rfl rfl rfl rfl ?_)
  refine Nz ?_
  refine Ez ?_
  refine ACode.cond rfl (fun c1 => ?_) (fun c1 => ?_)
  ·try simp only [Cz] at c1
   refine Rz [0, 1, 2, 3, 4, 5] Kz rfl ?_
   refine Mz ?_
   refine Mz ?_
   refine Oz rfl rfl rfl ?_
   refine AOp.call' rfl rfl rfl (nvar _ _ n c A ev1 r.fix1.2 (hR1.sub subA)) ?_
   rintro _ HL2 k2 ⟨rfl, hP2⟩
   have hk2 := hP2.1
   have hfL2 := hP2.2.1
   have hsL2 := hP2.2.2.1
   have hP2b := hP2
   obtain ⟨ev2, hR2⟩ := hP2b.2.2.2
   have hn2 := hR2.hn
   have thsL2 := SubS.of hsL2
   have hkL2 : HL2 k = some { cells := (vv vD).cells.toList, elem := 59, kind := .fix } := hsL2 _ _ (Uz hpA)
   have h22 : HL2 1 = some hBlk := hsL2 _ _ ((upd_other _ _ h2n).trans h21)
   refine aOps_q rfl rfl rfl (AOp.call' rfl rfl rfl (nzag _ _ _ hvx.2) Iz) (fun kq hkq => ?_)
   refine Oz rfl rfl rfl (AOp.buildS (cells := #[_, _, _]) rfl rfl rfl ?_)
   refine aOps_0 rfl rfl rfl ?_
   refine AOp.storeAll (b := ?b5) rfl rfl rfl ?hn5 ?hk5 rfl ?hw5 ?ho5 ?hl5 ?hR5
   (case hn5 => exact hpA)
   (case hk5 => rfl)
   (case hw5 => first | rfl | (simp; done))
   (case ho5 => first | rfl | decide | (simp; done))
   (case hl5 => first | rfl | (simp; done))
   refine Ez ?_
   refine Sz ?_
   refine Sz ?_
   refine Rz [0, 1, 2] Kz rfl ?_
   refine Mz ?_
   refine aOps_q rfl rfl rfl (AOp.call' rfl rfl rfl (ngood _ _ hpA n c A ev2 _ (hR2.away Wz (by rw [Rd.var_bs, Rd.fix1_bs]; exact hAk) hkL2 Dz)) Iz) (fun kq hkq => ?_)
   refine Oz rfl rfl rfl (AOp.un' rfl rfl rfl ?_)
   refine Ez ?_
   refine ACode.cond rfl (fun c3 => ?_) (fun c3 => ?_)
   ·try simp only [Cz] at c3
    refine Sz ?_
    refine Rz [0, 1] Kz rfl ?_
    refine Oz rfl rfl rfl (AOp.buildS (cells := #[_, _, _]) rfl rfl rfl ?_)
    refine aOps_0 rfl rfl rfl ?_
    refine AOp.storeAll (b := ?b6) rfl rfl rfl ?hn6 ?hk6 rfl ?hw6 ?ho6 ?hl6 ?hR6
    (case hn6 => exact hpA)
    (case hk6 => rfl)
    (case hw6 => first | rfl | (simp; done))
    (case ho6 => first | rfl | decide | (simp; done))
    (case hl6 => first | rfl | (simp; done))
    refine Ez ?_
    refine ACode.ret ?_
    try simp only [thenA, blockA, if_true]
    have hK : takeK r = (⟨1, zagN r.fix1.2.var.1, ⟨#[]⟩⟩, r.fix1.2.var.2) := (if_neg Wz).trans (if_pos Wz)
    have e1 : takeV r = (vD, r.fix1.2.var.2) := by rw [takeV, hK]; exact congrArg (·, _) (if_pos c3)
    have hP9 : RdP (upd H k (some { cells := (vv vD).cells.toList, elem := 59, kind := .fix })) (k + 1) n A c (takeV r).2 HL2 k2 := by rw [e1]; exact hP1.trans (hP2.at_ Wz (Nat.le_refl _))
    have hPo : ∀ HF : Hp, (∀ m, m ∉ [k] → HF m = HL2 m) → RdP H k n A c (takeV r).2 HF k2 := fun HF h => RdP.own (HF := HF) (r := r) [k] hP9 (sub_upd' (sub_refl H) (hf k (Nat.le_refl k))) Wz (takeV_bs r) (fun q hq => by rw [List.mem_singleton.1 hq]; exact ⟨hf k (Nat.le_refl k), by omega, hAk, by omega, _, hkL2, by show (59 : Nat) ≠ 101; decide⟩) h
    have hmk : ∀ m, m ∉ [k] → m ≠ k := fun m hm e => hm (by rw [e]; exact List.mem_singleton_self _)
    refine RetQ.cell rfl rfl (aloadAll (b := ({ cells := (vv vD).cells.toList, elem := 59, kind := .fix } : Blk)) (v := vv vD) (upd_same _ _ _) rfl rfl rfl) (sub_refl _) (RdP.stays (hPo _ (fun m hm => by (repeat refine (upd_other _ _ (hmk m hm)).trans ?_); rfl))) (fun hk => ⟨by rw [e1], (hPo _ (fun m hm => by (repeat refine (upd_other _ _ (hmk m hm)).trans ?_); rfl)).at_ (Nat.le_refl _) Wz⟩)
   ·try simp only [Cz] at c3
    refine ACode.skip ?_
    refine Sz ?_
    refine Rz [0, 1] Kz rfl ?_
    refine Oz rfl rfl rfl ?_
    refine AOp.loadAll (b := ?b7) (v := ?v7) rfl rfl ?hn7 ?hv7 ?hw7 ?hz7 ?hR7
    (case hn7 => exact hpA)
    (case hv7 => rfl)
    (case hw7 => rfl)
    (case hz7 => first | rfl | (simp; done))
    refine aOps_0 rfl rfl rfl ?_
    refine AOp.storeAll (b := ?b8) rfl rfl rfl ?hn8 ?hk8 rfl ?hw8 ?ho8 ?hl8 ?hR8
    (case hn8 => exact hpA)
    (case hk8 => rfl)
    (case hw8 => first | rfl | (simp; done))
    (case ho8 => first | rfl | decide | (simp; done))
    (case hl8 => first | rfl | (simp; done))
    refine Ez ?_
    refine ACode.ret ?_
    try simp only [thenA, blockA, if_true]
    have hK : takeK r = (⟨1, zagN r.fix1.2.var.1, ⟨#[]⟩⟩, r.fix1.2.var.2) := (if_neg Wz).trans (if_pos Wz)
    have e1 : takeV r = (⟨1, zagN r.fix1.2.var.1, ⟨#[]⟩⟩, r.fix1.2.var.2) := by rw [takeV, hK]; exact congrArg (·, _) (if_neg (fun h => h c3))
    have hP9 : RdP (upd H k (some { cells := (vv vD).cells.toList, elem := 59, kind := .fix })) (k + 1) n A c (takeV r).2 HL2 k2 := by rw [e1]; exact hP1.trans (hP2.at_ Wz (Nat.le_refl _))
    have hPo : ∀ HF : Hp, (∀ m, m ∉ [k] → HF m = HL2 m) → RdP H k n A c (takeV r).2 HF k2 := fun HF h => RdP.own (HF := HF) (r := r) [k] hP9 (sub_upd' (sub_refl H) (hf k (Nat.le_refl k))) Wz (takeV_bs r) (fun q hq => by rw [List.mem_singleton.1 hq]; exact ⟨hf k (Nat.le_refl k), by omega, hAk, by omega, _, hkL2, by show (59 : Nat) ≠ 101; decide⟩) h
    have hmk : ∀ m, m ∉ [k] → m ≠ k := fun m hm e => hm (by rw [e]; exact List.mem_singleton_self _)
    refine RetQ.cell rfl rfl (aloadAll (b := ({ cells := (vv ⟨((r.fix1.1 : Nat) : Int), zagN r.fix1.2.var.1, ⟨#[]⟩⟩).cells.toList, elem := 59, kind := .fix } : Blk)) (v := vv ⟨((r.fix1.1 : Nat) : Int), zagN r.fix1.2.var.1, ⟨#[]⟩⟩) (upd_same _ _ _) rfl rfl rfl) (sub_refl _) (RdP.stays (hPo _ (fun m hm => by (repeat refine (upd_other _ _ (hmk m hm)).trans ?_); rfl))) (fun hk => ⟨by rw [e1]; rw [show ((r.fix1.1 : Nat) : Int) = 1 by omega], (hPo _ (fun m hm => by (repeat refine (upd_other _ _ (hmk m hm)).trans ?_); rfl)).at_ (Nat.le_refl _) Wz⟩)
  ·try simp only [Cz] at c1
   refine Sz ?_
   refine Rz [0, 1] Kz rfl ?_
   refine Oz rfl rfl rfl (AOp.bin' rfl rfl rfl rfl ?_)
   refine Nz ?_
   refine Ez ?_
   refine ACode.cond rfl (fun c2 => ?_) (fun c2 => ?_)
   ·try simp only [Cz] at c2
    refine Rz [0, 1, 2, 3, 4, 5] Kz rfl ?_
    refine Mz ?_
    refine Mz ?_
    refine Oz rfl rfl rfl ?_
    refine AOp.call' rfl rfl rfl (nblob _ _ n c A ev1 r.fix1.2 (hR1.sub subA) 65536 Dz) ?_
    rintro _ HL2 k2 ⟨⟨Aq, cq, rfl, hN2, hNa⟩, hP2⟩
    have hk2 := hP2.1
    have hfL2 := hP2.2.1
    have hsL2 := hP2.2.2.1
    have hP2b := hP2
    obtain ⟨ev2, hR2⟩ := hP2b.2.2.2
    have hn2 := hR2.hn
    have thsL2 := SubS.of hsL2
    have hkL2 : HL2 k = some { cells := (vv vD).cells.toList, elem := 59, kind := .fix } := hsL2 _ _ (Uz hpA)
    have h22 : HL2 1 = some hBlk := hsL2 _ _ ((upd_other _ _ h2n).trans h21)
    refine Oz rfl rfl rfl (AOp.toStr (hN2.cells) rfl rfl ?_)
    refine Oz rfl rfl rfl (AOp.buildS (cells := #[_, _, _]) rfl rfl rfl ?_)
    refine aOps_0 rfl rfl rfl ?_
    refine AOp.storeAll (b := ?b9) rfl rfl rfl ?hn9 ?hk9 rfl ?hw9 ?ho9 ?hl9 ?hR9
    (case hn9 => exact hpA)
    (case hk9 => rfl)
    (case hw9 => first | rfl | (simp; done))
    (case ho9 => first | rfl | decide | (simp; done))
    (case hl9 => first | rfl | (simp; done))
    refine Ez ?_
    refine Sz ?_
    refine Sz ?_
    refine Rz [0, 1, 2] Kz rfl ?_
    refine Mz ?_
    refine aOps_q rfl rfl rfl (AOp.call' rfl rfl rfl (ngood _ _ hpA n c A ev2 _ (hR2.away Wz (by rw [Rd.blob_bs, Rd.fix1_bs]; exact hAk) hkL2 Dz)) Iz) (fun kq hkq => ?_)
    refine Oz rfl rfl rfl (AOp.un' rfl rfl rfl ?_)
    refine Ez ?_
    refine ACode.cond rfl (fun c3 => ?_) (fun c3 => ?_)
    ·try simp only [Cz] at c3
     refine Sz ?_
     refine Rz [0, 1] Kz rfl ?_
     refine Oz rfl rfl rfl (AOp.buildS (cells := #[_, _, _]) rfl rfl rfl ?_)
     refine aOps_0 rfl rfl rfl ?_
     refine AOp.storeAll (b := ?b10) rfl rfl rfl ?hn10 ?hk10 rfl ?hw10 ?ho10 ?hl10 ?hR10
     (case hn10 => exact hpA)
     (case hk10 => rfl)
     (case hw10 => first | rfl | (simp; done))
     (case ho10 => first | rfl | decide | (simp; done))
     (case hl10 => first | rfl | (simp; done))
     refine Ez ?_
     refine ACode.ret ?_
     try simp only [thenA, blockA, if_true]
     have hK : takeK r = (⟨2, 0, ⟨(r.fix1.2.blob 65536).1.toArray⟩⟩, (r.fix1.2.blob 65536).2) := (if_neg Wz).trans ((if_neg Wz).trans (if_pos Wz))
     have e1 : takeV r = (vD, (r.fix1.2.blob 65536).2) := by rw [takeV, hK]; exact congrArg (·, _) (if_pos c3)
     have hP9 : RdP (upd H k (some { cells := (vv vD).cells.toList, elem := 59, kind := .fix })) (k + 1) n A c (takeV r).2 HL2 k2 := by rw [e1]; exact hP1.trans (hP2.at_ Wz (Nat.le_refl _))
     have hPo : ∀ HF : Hp, (∀ m, m ∉ [k] → HF m = HL2 m) → RdP H k n A c (takeV r).2 HF k2 := fun HF h => RdP.own (HF := HF) (r := r) [k] hP9 (sub_upd' (sub_refl H) (hf k (Nat.le_refl k))) Wz (takeV_bs r) (fun q hq => by rw [List.mem_singleton.1 hq]; exact ⟨hf k (Nat.le_refl k), by omega, hAk, by omega, _, hkL2, by show (59 : Nat) ≠ 101; decide⟩) h
     have hmk : ∀ m, m ∉ [k] → m ≠ k := fun m hm e => hm (by rw [e]; exact List.mem_singleton_self _)
     refine RetQ.cell rfl rfl (aloadAll (b := ({ cells := (vv vD).cells.toList, elem := 59, kind := .fix } : Blk)) (v := vv vD) (upd_same _ _ _) rfl rfl rfl) (sub_refl _) (RdP.stays (hPo _ (fun m hm => by (repeat refine (upd_other _ _ (hmk m hm)).trans ?_); rfl))) (fun hk => ⟨by rw [e1], (hPo _ (fun m hm => by (repeat refine (upd_other _ _ (hmk m hm)).trans ?_); rfl)).at_ (Nat.le_refl _) Wz⟩)
    ·try simp only [Cz] at c3
     refine ACode.skip ?_
     refine Sz ?_
     refine Rz [0, 1] Kz rfl ?_
     refine Oz rfl rfl rfl ?_
     refine AOp.loadAll (b := ?b11) (v := ?v11) rfl rfl ?hn11 ?hv11 ?hw11 ?hz11 ?hR11
     (case hn11 => exact hpA)
     (case hv11 => rfl)
     (case hw11 => rfl)
     (case hz11 => first | rfl | (simp; done))
     refine aOps_0 rfl rfl rfl ?_
     refine AOp.storeAll (b := ?b12) rfl rfl rfl ?hn12 ?hk12 rfl ?hw12 ?ho12 ?hl12 ?hR12
     (case hn12 => exact hpA)
     (case hk12 => rfl)
     (case hw12 => first | rfl | (simp; done))
     (case ho12 => first | rfl | decide | (simp; done))
     (case hl12 => first | rfl | (simp; done))
     refine Ez ?_
     refine ACode.ret ?_
     try simp only [thenA, blockA, if_true]
     have hK : takeK r = (⟨2, 0, ⟨(r.fix1.2.blob 65536).1.toArray⟩⟩, (r.fix1.2.blob 65536).2) := (if_neg Wz).trans ((if_neg Wz).trans (if_pos Wz))
     have e1 : takeV r = (⟨2, 0, ⟨(r.fix1.2.blob 65536).1.toArray⟩⟩, (r.fix1.2.blob 65536).2) := by rw [takeV, hK]; exact congrArg (·, _) (if_neg (fun h => h c3))
     have hP9 : RdP (upd H k (some { cells := (vv vD).cells.toList, elem := 59, kind := .fix })) (k + 1) n A c (takeV r).2 HL2 k2 := by rw [e1]; exact hP1.trans (hP2.at_ Wz (Nat.le_refl _))
     have hPo : ∀ HF : Hp, (∀ m, m ∉ [k] → HF m = HL2 m) → RdP H k n A c (takeV r).2 HF k2 := fun HF h => RdP.own (HF := HF) (r := r) [k] hP9 (sub_upd' (sub_refl H) (hf k (Nat.le_refl k))) Wz (takeV_bs r) (fun q hq => by rw [List.mem_singleton.1 hq]; exact ⟨hf k (Nat.le_refl k), by omega, hAk, by omega, _, hkL2, by show (59 : Nat) ≠ 101; decide⟩) h
     have hmk : ∀ m, m ∉ [k] → m ≠ k := fun m hm e => hm (by rw [e]; exact List.mem_singleton_self _)
     refine RetQ.cell rfl rfl (aloadAll (b := ({ cells := (vv ⟨((r.fix1.1 : Nat) : Int), 0, ⟨(r.fix1.2.blob 65536).1.toArray⟩⟩).cells.toList, elem := 59, kind := .fix } : Blk)) (v := vv ⟨((r.fix1.1 : Nat) : Int), 0, ⟨(r.fix1.2.blob 65536).1.toArray⟩⟩) (upd_same _ _ _) rfl rfl rfl) (sub_refl _) (RdP.stays (hPo _ (fun m hm => by (repeat refine (upd_other _ _ (hmk m hm)).trans ?_); rfl))) (fun hk => ⟨by rw [e1]; rw [show ((r.fix1.1 : Nat) : Int) = 2 by omega], (hPo _ (fun m hm => by (repeat refine (upd_other _ _ (hmk m hm)).trans ?_); rfl)).at_ (Nat.le_refl _) Wz⟩)
   ·try simp only [Cz] at c2
    refine Rz [0, 1] Kz rfl ?_
    refine Mz ?_
    refine Oz rfl rfl rfl ?_
    refine AOp.call' rfl rfl rfl (nfail _ _ n c A ev1 r.fix1.2 (hR1.sub subA) 4 Dz Dz) ?_
    rintro _ HL2 k2 ⟨rfl, hP2⟩
    have hk2 := hP2.1
    have hfL2 := hP2.2.1
    have hsL2 := hP2.2.2.1
    have hP2b := hP2
    obtain ⟨ev2, hR2⟩ := hP2b.2.2.2
    have hn2 := hR2.hn
    have thsL2 := SubS.of hsL2
    have hkL2 : HL2 k = some { cells := (vv vD).cells.toList, elem := 59, kind := .fix } := hsL2 _ _ (Uz hpA)
    have h22 : HL2 1 = some hBlk := hsL2 _ _ ((upd_other _ _ h2n).trans h21)
    refine Ez ?_
    refine Sz ?_
    refine Sz ?_
    refine Rz [0, 1, 2] Kz rfl ?_
    refine Mz ?_
    refine aOps_q rfl rfl rfl (AOp.call' rfl rfl rfl (ngood _ _ hpA n c A ev2 _ hR2) Iz) (fun kq hkq => ?_)
    refine Oz rfl rfl rfl (AOp.un' rfl rfl rfl ?_)
    refine Ez ?_
    refine ACode.cond rfl (fun c3 => ?_) (fun c3 => ?_)
    ·try simp only [Cz] at c3
     refine Sz ?_
     refine Rz [0, 1] Kz rfl ?_
     refine Oz rfl rfl rfl (AOp.buildS (cells := #[_, _, _]) rfl rfl rfl ?_)
     refine aOps_0 rfl rfl rfl ?_
     refine AOp.storeAll (b := ?b13) rfl rfl rfl ?hn13 ?hk13 rfl ?hw13 ?ho13 ?hl13 ?hR13
     (case hn13 => exact hpA)
     (case hk13 => rfl)
     (case hw13 => first | rfl | (simp; done))
     (case ho13 => first | rfl | decide | (simp; done))
     (case hl13 => first | rfl | (simp; done))
     refine Ez ?_
     refine ACode.ret ?_
     try simp only [thenA, blockA, if_true]
     have hK : takeK r = (vD, r.fix1.2.fail 4) := (if_neg Wz).trans ((if_neg Wz).trans (if_neg Wz))
     have e1 : takeV r = (vD, r.fix1.2.fail 4) := by rw [takeV, hK]; exact congrArg (·, _) (if_pos c3)
     have hP9 : RdP (upd H k (some { cells := (vv vD).cells.toList, elem := 59, kind := .fix })) (k + 1) n A c (takeV r).2 HL2 k2 := by rw [e1]; exact hP1.trans (hP2.at_ Wz (Nat.le_refl _))
     have hPo : ∀ HF : Hp, (∀ m, m ∉ [k] → HF m = HL2 m) → RdP H k n A c (takeV r).2 HF k2 := fun HF h => RdP.own (HF := HF) (r := r) [k] hP9 (sub_upd' (sub_refl H) (hf k (Nat.le_refl k))) Wz (takeV_bs r) (fun q hq => by rw [List.mem_singleton.1 hq]; exact ⟨hf k (Nat.le_refl k), by omega, hAk, by omega, _, hkL2, by show (59 : Nat) ≠ 101; decide⟩) h
     have hmk : ∀ m, m ∉ [k] → m ≠ k := fun m hm e => hm (by rw [e]; exact List.mem_singleton_self _)
     refine RetQ.cell rfl rfl (aloadAll (b := ({ cells := (vv vD).cells.toList, elem := 59, kind := .fix } : Blk)) (v := vv vD) (upd_same _ _ _) rfl rfl rfl) (sub_refl _) (RdP.stays (hPo _ (fun m hm => by (repeat refine (upd_other _ _ (hmk m hm)).trans ?_); rfl))) (fun hk => ⟨by rw [e1], (hPo _ (fun m hm => by (repeat refine (upd_other _ _ (hmk m hm)).trans ?_); rfl)).at_ (Nat.le_refl _) Wz⟩)
    ·try simp only [Cz] at c3
     refine ACode.skip ?_
     refine Sz ?_
     refine Rz [0, 1] Kz rfl ?_
     refine Oz rfl rfl rfl ?_
     refine AOp.loadAll (b := ?b14) (v := ?v14) rfl rfl ?hn14 ?hv14 ?hw14 ?hz14 ?hR14
     (case hn14 => exact hpA)
     (case hv14 => rfl)
     (case hw14 => rfl)
     (case hz14 => first | rfl | (simp; done))
     refine aOps_0 rfl rfl rfl ?_
     refine AOp.storeAll (b := ?b15) rfl rfl rfl ?hn15 ?hk15 rfl ?hw15 ?ho15 ?hl15 ?hR15
     (case hn15 => exact hpA)
     (case hk15 => rfl)
     (case hw15 => first | rfl | (simp; done))
     (case ho15 => first | rfl | decide | (simp; done))
     (case hl15 => first | rfl | (simp; done))
     refine Ez ?_
     refine ACode.ret ?_
     try simp only [thenA, blockA, if_true]
     have hK : takeK r = (vD, r.fix1.2.fail 4) := (if_neg Wz).trans ((if_neg Wz).trans (if_neg Wz))
     have e1 : takeV r = (vD, r.fix1.2.fail 4) := by rw [takeV, hK]; exact congrArg (·, _) (if_neg (fun h => h c3))
     have hP9 : RdP (upd H k (some { cells := (vv vD).cells.toList, elem := 59, kind := .fix })) (k + 1) n A c (takeV r).2 HL2 k2 := by rw [e1]; exact hP1.trans (hP2.at_ Wz (Nat.le_refl _))
     have hPo : ∀ HF : Hp, (∀ m, m ∉ [k] → HF m = HL2 m) → RdP H k n A c (takeV r).2 HF k2 := fun HF h => RdP.own (HF := HF) (r := r) [k] hP9 (sub_upd' (sub_refl H) (hf k (Nat.le_refl k))) Wz (takeV_bs r) (fun q hq => by rw [List.mem_singleton.1 hq]; exact ⟨hf k (Nat.le_refl k), by omega, hAk, by omega, _, hkL2, by show (59 : Nat) ≠ 101; decide⟩) h
     have hmk : ∀ m, m ∉ [k] → m ≠ k := fun m hm e => hm (by rw [e]; exact List.mem_singleton_self _)
     refine RetQ.cell rfl rfl (aloadAll (b := ({ cells := (vv vD).cells.toList, elem := 59, kind := .fix } : Blk)) (v := vv vD) (upd_same _ _ _) rfl rfl rfl) (sub_refl _) (RdP.stays (hPo _ (fun m hm => by (repeat refine (upd_other _ _ (hmk m hm)).trans ?_); rfl))) (fun hk => ⟨by rw [e1], (hPo _ (fun m hm => by (repeat refine (upd_other _ _ (hmk m hm)).trans ?_); rfl)).at_ (Nat.le_refl _) Wz⟩)

end

end Go.Proofs.YteoofihjmldllaaDoor
