/- Contracts over the abstract states: the reader's short numbers, bytes, blobs; new readers; their ends. -/
import Derived.Test.YteoofihjmldllaaDoorR1
set_option linter.unusedVariables false
set_option linter.unusedSimpArgs false
set_option maxRecDepth 100000
namespace Go.Proofs.YteoofihjmldllaaDoor
open Go Go.Ab

theorem or0 (x : Nat) (h : x < 256) : ibit .or .u64 0 (x : Int) = (x : Int) := by
 have := ibOr 0 x Dz (Nat.lt_of_lt_of_le h Dz)
 rw [Nat.zero_or] at this
 exact this
section
variable (H : Hp) (k : Nat)

theorem bclone (A : Option Addr) (c : Nat) (bs : List UInt8) (hs : SLC H 1 A bs.length c (bs.map bv)) (hl : bs.length ≤ 1000000000) : ACalls Tryd.prog 3 37 [.slice A bs.length c] H k (fun v H' k' => k ≤ k' ∧ (∀ m, k' ≤ m → H' m = none) ∧ Ab.Sub H H' ∧ NewS H' k k' bs v) := by
 refine ACalls.fresh fun hf => ?_
 refine ACalls.body Tryd.func37 rfl (Nat.le_of_ble_eq_true rfl) ?_
 refine Sz ?_
 refine Rz [0] Kz rfl ?_
 refine Nz ?_
 refine Ez ?_
 refine Sz ?_
 refine Sz ?_
 refine Rz [0, 1] Kz rfl ?_
 refine Mz ?_
 refine Oz rfl rfl rfl (AOp.eqNilX rfl rfl rfl (fun b hb => ?_))
 refine Ez ?_
 refine ACode.cond rfl (fun c0 => ?_) (fun c0 => ?_)
 ·try simp only [Cz] at c0
  have h0 : bs = [] := by
   apply List.eq_nil_of_length_eq_zero
   rcases Nat.eq_zero_or_pos bs.length with h | h
   ·exact h
   ·rw [hb h] at c0; cases c0
  subst h0
  refine Sz ?_
  refine Rz [0] Kz rfl ?_
  refine Nz ?_
  refine Ez ?_
  refine ACode.ret ?_
  try simp only [thenA, blockA, if_true]
  exact RetQ.one rfl rfl (sub_refl _) (fun n b h => ⟨b, h⟩) (fun hk => ⟨hk, (fun m hm => hf m Wz), sub_refl _, NewS.none_⟩)
 ·try simp only [Cz] at c0
  refine ACode.skip ?_
  refine Sz ?_
  refine Rz [0, 1, 2, 3] Kz rfl ?_
  refine Oz rfl rfl rfl (AOp.buildF1 (vals := [].map bv) rfl Dz rfl rfl (bv_ones _) ?_)
  refine Mz ?_
  refine Oz rfl rfl rfl (AOp.append0' (m := bs.length) (news := bs.map bv) rfl rfl rfl (srcOf_slc (slcCells_sub subA hs.cells)) (by intro ad h; cases h; rfl) srcOk_sl (bv_one _) Wz Wz ?_)
  refine Nz ?_
  refine Ez ?_
  refine ACode.ret ?_
  have hs1 : Ab.Sub H (upd (upd H k (some { cells := [], elem := 5, kind := .fix })) (k + 1) (some (gbk 5 bs))) := by exact subA
  exact RetQ.one rfl rfl (sub_refl _) (fun n b h => ⟨b, hs1 n b h⟩) (fun hk => ⟨by omega, (fun m hm => Uz (Uz (hf m Wz))), hs1, _, _, rfl, SLC.gb (upd_same _ _ _), fun a ha => by cases ha; exact ⟨by show k ≤ k + 1; omega, by show k + 1 < _; omega⟩⟩)

theorem newN (A : Option Addr) (c : Nat) (bs : List UInt8) (hs : SLC H 1 A bs.length c (bs.map bv)) (hl : bs.length ≤ 1000000000) : ACalls Tryd.prog 3 9 [.slice A bs.length c] H k (fun v H' k' => k ≤ k' ∧ (∀ m, k' ≤ m → H' m = none) ∧ Ab.Sub H H' ∧ ∃ n B d, v = ptr n 0 none ∧ k ≤ n ∧ n < k' ∧ RdN H' n B d .nilIface ⟨bs, 0, 0, 0⟩ ∧ ∀ a, B = some a → k ≤ a.block ∧ a.block < k') := by
 refine ACalls.fresh fun hf => ?_
 refine ACalls.body Tryd.func9 rfl (Nat.le_of_ble_eq_true rfl) ?_
 refine Sz ?_
 refine Rz [0] Kz rfl ?_
 refine Nz ?_
 refine Ez (Sz (Rz [0, 1, 2, 3, 4] Kz rfl ?_))
 refine Mz ?_
 refine Oz rfl rfl rfl ?_
 refine AOp.call' rfl rfl rfl (bclone _ _ A c bs (hs.sub subA) hl) ?_
 rintro _ HL1 k1 ⟨hk1, hfL1, hsL1, B, d, rfl, hB, hBa⟩
 have thsL1 := SubS.of hsL1
 refine Oz rfl rfl rfl (AOp.buildS (cells := #[_, _, _]) rfl rfl rfl ?_)
 refine Oz rfl rfl rfl (AOp.boxV rfl rfl ?_)
 refine Nz ?_
 refine Ez ?_
 refine ACode.ret ?_
 have hs1 : Ab.Sub HL1 (upd HL1 k1 (some (rnBlk B d .nilIface ⟨bs, 0, 0, 0⟩))) := sub_upd' (sub_refl _) (hfL1 _ (Nat.le_refl _))
 exact RetQ.one rfl rfl (sub_refl _) (fun n b h => ⟨b, hs1 n b (hsL1 n b h)⟩) (fun hk => ⟨by omega, (fun m hm => Uz (hfL1 m Wz)), sub_trans hsL1 hs1, k1, B, d, rfl, by omega, by omega, ⟨upd_same _ _ _, hB.sub hs1, Away.ne (fun a ha => Nat.ne_of_lt (hBa a ha).2), .inl ⟨rfl, rfl⟩, ⟨Nat.zero_le _, hl, Int.le_refl 0, (by decide : (0 : Int) ≤ 100), Int.le_refl 0, (by decide : (0 : Int) ≤ 1000000000), fun _ => rfl⟩⟩, fun a ha => ⟨(hBa a ha).1, by have := (hBa a ha).2; omega⟩⟩)

theorem ntake (n c : Nat) (A : Option Addr) (ev : Value) (r : Rd) (hR : RdN H n A c ev r) (m : Nat) (hm : m < 9223372036854775808) : ACalls Tryd.prog 3 100 [ptr n 0 none, .int .i64 (m : Int)] H k (fun v H' k' => NewS H' k k' (r.take m).1 v ∧ RdP H k n A c (r.take m).2 H' k') := by
 refine ACalls.fresh fun hf => ?_
 refine ACalls.body Tryd.func100 rfl (Nat.le_of_ble_eq_true rfl) ?_
 have hn := hR.hn
 have hnk := old_lt hf hn
 have hok := hR.ok
 have hal := hok.at_le
 have hle := hok.len
 have hlf : r.left = (r.bs.length : Int) - (r.at_ : Int) := rfl
 refine Sz ?_
 refine Rz [0] Kz rfl ?_
 refine Nz ?_
 refine Ez ?_
 refine Sz ?_
 refine ACode.block ?_
 refine Sz ?_
 refine Rz [0, 1, 2, 3] Kz rfl ?_
 refine Mz ?_
 refine aOps_q rfl rfl rfl (AOp.call' rfl rfl rfl (nok _ _ n c A ev r (hR.sub subA)) Iz) (fun kq hkq => ?_)
 refine Oz rfl rfl rfl (AOp.un' rfl rfl rfl ?_)
 refine Nz ?_
 refine Ez ?_
 refine ACode.cond rfl (fun c0 => ?_) (fun c0 => ?_)
 ·try simp only [Cz] at c0
  refine Sz ?_
  refine Rz [0] Kz rfl ?_
  refine Nz ?_
  refine Ez ?_
  refine ACode.ret ?_
  try simp only [thenA, blockA, if_true]
  have e1 : r.take m = ([], r) := if_pos c0
  rw [e1]
  exact RetQ.one rfl rfl (sub_refl _) (RdP.refl hf hR (Nat.le_refl k)).stays (fun hk => ⟨NewS.none_, RdP.refl hf hR Wz⟩)
 ·try simp only [Cz] at c0
  refine Sz ?_
  refine Rz [0, 1, 2] Kz rfl ?_
  refine Mz ?_
  refine Oz rfl rfl rfl (AOp.bin' rfl rfl rfl rfl ?_)
  refine Nz ?_
  refine Ez ?_
  refine ACode.cond rfl (fun c1 => absurd c1 (by simp at c1; omega)) (fun c1 => ?_)
  refine Sz ?_
  refine Rz [0, 1, 2, 3, 4] Kz rfl ?_
  refine Mz ?_
  refine Mz ?_
  refine aOps_q rfl rfl rfl (AOp.call' rfl rfl rfl (nleft _ _ n c A ev r (hR.sub subA)) Iz) (fun kq hkq => ?_)
  refine Oz rfl rfl rfl (AOp.bin' rfl rfl rfl rfl ?_)
  refine Nz ?_
  refine Ez ?_
  refine ACode.cond rfl (fun c2 => ?_) (fun c2 => ?_)
  ·try simp only [Cz] at c2
   refine Sz ?_
   refine Rz [0, 1] Kz rfl ?_
   refine Mz ?_
   refine Oz rfl rfl rfl ?_
   refine AOp.call' rfl rfl rfl (nfail _ _ n c A ev r (hR.sub subA) 2 Dz Dz) ?_
   rintro _ HL2 k2 ⟨rfl, hP2⟩
   have hk2 := hP2.1
   have hfL2 := hP2.2.1
   have hsL2 := hP2.2.2.1
   have hP2b := hP2
   obtain ⟨ev2, hR2⟩ := hP2b.2.2.2
   have hn2 := hR2.hn
   have thsL2 := SubS.of hsL2
   refine Ez (Sz (Rz [0] Kz rfl ?_))
   refine Nz ?_
   refine Ez ?_
   refine ACode.ret ?_
   try simp only [thenA, blockA, if_true]
   have e1 : r.take m = ([], r.fail 2) := by rw [Rd.take, if_neg (fun h => h c0), if_pos Wz]
   rw [e1]
   exact RetQ.one rfl rfl (sub_refl _) hP2.stays (fun hk => ⟨NewS.none_, hP2.at_ Wz Wz⟩)
  ·try simp only [Cz] at c2
   refine ACode.skip ?_
   refine Sz ?_
   refine Rz [0, 1, 2, 3, 4, 5, 6, 7, 8] Kz rfl ?_
   refine Mz ?_
   refine Oz rfl rfl rfl (AOp.nilCheck' rfl rfl ?_)
   refine Fz ?_
   refine Oz rfl rfl rfl ?_
   refine AOp.load1 (b := ?b1) (v := ?v1) rfl rfl ?hn1 ?hv1 ?hR1
   (case hn1 => exact hpA)
   (case hv1 => rfl)
   refine Mz ?_
   refine Oz rfl rfl rfl (AOp.add rfl rfl rfl (i64_wrap Wz Wz) ?_)
   refine Oz rfl rfl rfl (AOp.nilCheck' rfl rfl ?_)
   refine Fz ?_
   refine aOps_0 rfl rfl rfl ?_
   refine AOp.store1 (b := ?b2) rfl rfl rfl ?hn2 ?hk2 rfl rfl ?hl2 ?hR2
   (case hn2 => exact hpA)
   (case hk2 => rfl)
   (case hl2 => first | (simp; done) | exact Nat.le_of_ble_eq_true rfl)
   refine Ez ?_
   refine Sz ?_
   obtain ⟨A10_14, c10_14, hq10_14, hs10_14⟩ := SLC.cutB ((hR.hs.away hR.hA).sub subA) r.at_ (r.at_ + m) Wz Wz
   refine ACode.draw' 15 [(0, 29), (1, 30), (2, 31), (3, 32), (4, 33), (5, 34), (6, 35), (7, 36), (8, 37), (9, 38), (10, 39), (11, 40), (12, 41), (13, 42), (14, 43)] mixed Kz ?_
   refine Draw.step [(0, none)] rfl Kz rfl (fun kq hkq => AOp.move' (.inl rfl) rfl Vz) ?_
   refine Draw.step [(29, some 0)] rfl Kz rfl (fun kq hkq => AOp.nilCheck' rfl rfl Vz) ?_
   refine Draw.step [(30, some 1)] rfl Kz rfl (fun kq hkq => AOp.fieldAddr' rfl Dz rfl Vz) ?_
   refine Draw.step [(31, some 2)] rfl Kz rfl (fun kq hkq => (by refine AOp.load1 (b := ?b3) (v := ?v3) rfl rfl ?hn3 ?hv3 ?hR3; (case hn3 => exact hpA); (case hv3 => rfl); exact Vz)) ?_
   refine Draw.step [(0, none)] rfl Kz rfl (fun kq hkq => AOp.move' (.inl rfl) rfl Vz) ?_
   refine Draw.step [(33, some 4)] rfl Kz rfl (fun kq hkq => AOp.nilCheck' rfl rfl Vz) ?_
   refine Draw.step [(34, some 5)] rfl Kz rfl (fun kq hkq => AOp.fieldAddr' rfl Dz rfl Vz) ?_
   refine Draw.step [(35, some 6)] rfl Kz rfl (fun kq hkq => (by refine AOp.load1 (b := ?b4) (v := ?v4) rfl rfl ?hn4 ?hv4 ?hR4; (case hn4 => exact hpA); (case hv4 => rfl); exact Vz)) ?_
   refine Draw.step [(1, none)] rfl Kz rfl (fun kq hkq => AOp.move' (.inl rfl) rfl Vz) ?_
   refine Draw.step [(36, some 7), (37, some 8)] rfl Kz rfl (fun kq hkq => AOp.sub rfl rfl rfl (i64_wrap Wz Wz) Vz) ?_
   rw [show (r.at_ : Int) + (m : Int) - (m : Int) = (r.at_ : Int) by omega]
   refine Draw.step [(0, none)] rfl Kz rfl (fun kq hkq => AOp.move' (.inl rfl) rfl Vz) ?_
   refine Draw.step [(39, some 10)] rfl Kz rfl (fun kq hkq => AOp.nilCheck' rfl rfl Vz) ?_
   refine Draw.step [(40, some 11)] rfl Kz rfl (fun kq hkq => AOp.fieldAddr' rfl Dz rfl Vz) ?_
   refine Draw.step [(41, some 12)] rfl Kz rfl (fun kq hkq => (by refine AOp.load1 (b := ?b5) (v := ?v5) rfl rfl ?hn5 ?hv5 ?hR5; (case hn5 => exact hpA); (case hv5 => rfl); exact Vz)) ?_
   refine Draw.step [(32, some 3), (38, some 9), (42, some 13)] rfl Kz rfl (fun kq hkq => AOp.cutQ (aslice_sub subA hq10_14) rfl rfl (bnd_at rfl rfl) (bnd_at rfl rfl) mx_no Vz) ?_
   refine Draw.done fun kq hkq => ?_
   show aOps _ _ _ _ [15, 16] ⟨_, _, _⟩
   refine Oz rfl rfl rfl ?_
   refine AOp.call' rfl rfl rfl (bclone _ _ _ _ ((r.bs.drop r.at_).take (r.at_ + m - r.at_)) (hs10_14.sub subA) (by rw [List.length_take]; omega)) ?_
   rintro _ HL3 k3 ⟨hk3, hfL3, hsL3, hN3⟩
   refine Nz ?_
   refine Ez ?_
   refine ACode.ret ?_
   have e1 : r.take m = (r.rest.take m, { r with at_ := r.at_ + m }) := by rw [Rd.take, if_neg (fun h => h c0), if_neg Wz]
   have hto := Rd.take_ok hok m
   rw [e1] at hto ⊢
   have e2 : (r.bs.drop r.at_).take (r.at_ + m - r.at_) = r.rest.take m := by rw [Nat.add_sub_cancel_left]; rfl
   rw [e2] at hN3
   have hP3 := ((RdP.refl hf hR (Nat.le_refl k)).move (r2 := { r with at_ := r.at_ + m }) hR rfl rfl rfl hto.1 (x := (r.at_ : Int) + (m : Int)) rfl).grow hsL3 hfL3 Wz
   exact RetQ.one rfl rfl (sub_refl _) hP3.stays (fun hk => ⟨hN3.later Wz, hP3.at_ Wz Wz⟩)

theorem nfix1 (n c : Nat) (A : Option Addr) (ev : Value) (r : Rd) (hR : RdN H n A c ev r) : ACalls Tryd.prog 3 43 [ptr n 0 none, .int .i64 1] H k (fun v H' k' => v = u64 r.fix1.1 ∧ RdP H k n A c r.fix1.2 H' k') := by
 refine ACalls.fresh fun hf => ?_
 refine ACalls.body Tryd.func43 rfl (Nat.le_of_ble_eq_true rfl) ?_
 have hn := hR.hn
 have hnk := old_lt hf hn
 have hok := hR.ok
 have hal := hok.at_le
 have hle := hok.len
 refine Sz ?_
 refine Rz [0] Kz rfl ?_
 refine Nz ?_
 refine Ez ?_
 refine Sz ?_
 refine Sz ?_
 refine Rz [0, 1, 2, 3, 4, 5] Kz rfl ?_
 refine Mz ?_
 refine Oz rfl rfl rfl (AOp.bin' rfl rfl rfl rfl ?_)
 refine Mz ?_
 refine aOps_gd0 rfl rfl (wantF rfl rfl rfl) (fun hc => AOp.slots [(1, _)] (.cons rfl .nil) (AOp.move' (.inl rfl) rfl Tz)) ?_
 refine aOps_gd0 rfl rfl (wantF rfl rfl rfl) (fun hc => AOp.slots [(10, _)] (.cons (gvT rfl hc) .nil) (AOp.bin' rfl rfl rfl rfl Tz)) ?_
 refine Oz rfl rfl rfl (AOp.pickOr rfl rfl rfl (fun hb => gvE rfl (t_not hb)) ?_)
 refine Ez ?_
 refine ACode.cond rfl (fun c0 => absurd c0 (by simp at c0)) (fun c0 => ?_)
 refine ACode.skip ?_
 refine Sz ?_
 refine Rz [0, 1, 2, 3] Kz rfl ?_
 refine Mz ?_
 refine Mz ?_
 refine Oz rfl rfl rfl ?_
 refine AOp.call' rfl rfl rfl (ntake _ _ n c A ev r (hR.sub subA) 1 Dz) ?_
 rintro _ HL3 k3 ⟨⟨Aq, cq, rfl, hq3, hqa⟩, hP3⟩
 have hsL3 := hP3.2.2.1
 have hfL3 := hP3.2.1
 have hk3 := hP3.1
 have hl1 := (Rd.take_ok hok 1).2.1
 have thsL3 := SubS.of hsL3
 refine Nz ?_
 refine Ez (Sz (Rz [0] Kz rfl ?_))
 refine Nz ?_
 refine Ez ?_
 refine Sz ?_
 refine Sz ?_
 refine Rz [0, 1] Kz rfl ?_
 refine Mz ?_
 refine Oz rfl rfl rfl (AOp.len' rfl rfl ?_)
 refine Ez ?_
 refine ACode.block ?_
 refine Sz ?_
 refine ACode.block ?_
 refine Sz ?_
 refine ACode.block ?_
 refine Sz ?_
 refine ACode.block ?_
 refine Sz ?_
 refine ACode.block ?_
 refine Sz ?_
 refine ACode.block ?_
 refine Sz ?_
 refine ACode.block ?_
 refine Sz ?_
 refine ACode.block ?_
 refine Sz ?_
 refine ACode.block ?_
 refine Sz ?_
 refine Sz ?_
 refine Sz ?_
 refine Rz [0, 1] Kz rfl ?_
 refine Oz rfl rfl rfl (AOp.bin' rfl rfl rfl rfl ?_)
 refine Nz ?_
 refine Ez ?_
 refine ACode.cond rfl (fun c2 => absurd c2 (by simp at c2; omega)) (fun c2 => ?_)
 refine ACode.skip ?_
 refine Sz ?_
 refine Sz ?_
 refine Rz [0, 1] Kz rfl ?_
 refine Oz rfl rfl rfl (AOp.bin' rfl rfl rfl rfl ?_)
 refine Nz ?_
 refine Ez ?_
 refine ACode.cond rfl (fun c3 => absurd c3 (by simp at c3; omega)) (fun c3 => ?_)
 refine ACode.skip ?_
 refine Sz ?_
 refine Sz ?_
 refine Rz [0, 1] Kz rfl ?_
 refine Oz rfl rfl rfl (AOp.bin' rfl rfl rfl rfl ?_)
 refine Nz ?_
 refine Ez ?_
 refine ACode.cond rfl (fun c4 => absurd c4 (by simp at c4; omega)) (fun c4 => ?_)
 refine ACode.skip ?_
 refine Sz ?_
 refine Sz ?_
 refine Rz [0, 1] Kz rfl ?_
 refine Oz rfl rfl rfl (AOp.bin' rfl rfl rfl rfl ?_)
 refine Nz ?_
 refine Ez ?_
 refine ACode.cond rfl (fun c5 => absurd c5 (by simp at c5; omega)) (fun c5 => ?_)
 refine ACode.skip ?_
 refine Sz ?_
 refine Sz ?_
 refine Rz [0, 1] Kz rfl ?_
 refine Oz rfl rfl rfl (AOp.bin' rfl rfl rfl rfl ?_)
 refine Nz ?_
 refine Ez ?_
 refine ACode.cond rfl (fun c6 => absurd c6 (by simp at c6; omega)) (fun c6 => ?_)
 refine ACode.skip ?_
 refine Sz ?_
 refine Sz ?_
 refine Rz [0, 1] Kz rfl ?_
 refine Oz rfl rfl rfl (AOp.bin' rfl rfl rfl rfl ?_)
 refine Nz ?_
 refine Ez ?_
 refine ACode.cond rfl (fun c7 => absurd c7 (by simp at c7; omega)) (fun c7 => ?_)
 refine ACode.skip ?_
 refine Sz ?_
 refine Sz ?_
 refine Rz [0, 1] Kz rfl ?_
 refine Oz rfl rfl rfl (AOp.bin' rfl rfl rfl rfl ?_)
 refine Nz ?_
 refine Ez ?_
 refine ACode.cond rfl (fun c8 => absurd c8 (by simp at c8; omega)) (fun c8 => ?_)
 refine ACode.skip ?_
 refine Sz ?_
 refine Rz [0, 1] Kz rfl ?_
 refine Oz rfl rfl rfl (AOp.bin' rfl rfl rfl rfl ?_)
 refine Nz ?_
 refine Ez ?_
 refine ACode.cond rfl (fun c9 => ?_) (fun c9 => ?_)
 ·try simp only [Cz] at c9
  have h1 : (r.take 1).1.length = 1 := by omega
  refine ACode.exit ?_
  refine Sz ?_
  obtain ⟨n23_2, o23_2, s23_2, hq23_2, hp23_2⟩ := slcElD bv (i := 0) 0 hq3.cells Wz
  refine Rz [0, 1, 2, 3, 4, 5, 6] Kz rfl ?_
  refine Mz ?_
  refine Mz ?_
  refine Oz rfl rfl rfl (AOp.indexP (aslcAt_sub subA hq23_2) rfl rfl rfl ?_)
  refine Oz rfl rfl rfl (AOp.loadP0 (hp23_2.sub subA) rfl rfl rfl ?_)
  refine Oz rfl rfl rfl (AOp.convU64 rfl rfl (by have := UInt8.toNat_lt ((r.take 1).1.getD 0 0); omega) ?_)
  refine Oz rfl rfl rfl (AOp.bin' rfl rfl rfl (congrArg (fun z => some (Value.int .u64 z)) (or0 _ (UInt8.toNat_lt _))) ?_)
  refine Nz ?_
  refine Ez ?_
  refine ACode.exit ?_
  refine Sz ?_
  refine Rz [0, 1] Kz rfl ?_
  refine Mz ?_
  refine Nz ?_
  refine Ez ?_
  refine ACode.ret ?_
  have e1 : r.fix1.1 = ((r.take 1).1.getD 0 0).toNat := by unfold Rd.fix1; cases (r.take 1).1 <;> rfl
  rw [e1]
  try simp only [thenA, blockA, if_true]
  exact RetQ.one rfl rfl (sub_refl _) (hP3).stays (fun hk => ⟨rfl, (hP3).at_ Wz Wz⟩)
 ·try simp only [Cz] at c9
  have h1 : (r.take 1).1 = [] := List.eq_nil_of_length_eq_zero Wz
  refine ACode.skip ?_
  refine ACode.exit ?_
  refine Sz ?_
  refine Rz [0, 1] Kz rfl ?_
  refine Mz ?_
  refine Nz ?_
  refine Ez ?_
  refine ACode.ret ?_
  have e1 : r.fix1.1 = 0 := by unfold Rd.fix1; rw [h1]; rfl
  rw [e1]
  try simp only [thenA, blockA, if_true]
  exact RetQ.one rfl rfl (sub_refl _) (hP3).stays (fun hk => ⟨rfl, (hP3).at_ Wz Wz⟩)

theorem nvar (n c : Nat) (A : Option Addr) (ev : Value) (r : Rd) (hR : RdN H n A c ev r) : ACalls Tryd.prog 3 78 [ptr n 0 none] H k (fun v H' k' => v = u64 r.var.1 ∧ RdP H k n A c r.var.2 H' k') := by
 refine ACalls.fresh fun hf => ?_
 refine ACalls.body Tryd.func78 rfl (Nat.le_of_ble_eq_true rfl) ?_
 have hn := hR.hn
 have hnk := old_lt hf hn
 have hok := hR.ok
 have hal := hok.at_le
 have hle := hok.len
 obtain ⟨hlk1, hlk2, hlk3, hlk4⟩ := look_facts r.rest
 have hrl := r.rest_len
 refine Sz ?_
 refine Rz [0] Kz rfl ?_
 refine Nz ?_
 refine Ez ?_
 refine Sz ?_
 refine Sz ?_
 refine Rz [0, 1, 2] Kz rfl ?_
 refine Mz ?_
 refine aOps_q rfl rfl rfl (AOp.call' rfl rfl rfl (nok _ _ n c A ev r (hR.sub subA)) Iz) (fun kq hkq => ?_)
 refine Oz rfl rfl rfl (AOp.un' rfl rfl rfl ?_)
 refine Ez ?_
 refine ACode.cond rfl (fun c0 => ?_) (fun c0 => ?_)
 ·try simp only [Cz] at c0
  refine Sz ?_
  refine Rz [0] Kz rfl ?_
  refine Nz ?_
  refine Ez ?_
  refine ACode.ret ?_
  try simp only [thenA, blockA, if_true]
  have e1 : r.var = (0, r) := if_pos c0
  rw [e1]
  exact RetQ.one rfl rfl (sub_refl _) (RdP.refl hf hR (Nat.le_refl k)).stays (fun hk => ⟨rfl, RdP.refl hf hR Wz⟩)
 ·try simp only [Cz] at c0
  refine ACode.skip ?_
  refine Sz ?_
  obtain ⟨A3_8, c3_8, hq3_8, hs3_8⟩ := SLC.cutE (hR.hs.sub subA) r.at_ hal
  refine ACode.draw' 17 [(0, 10), (1, 11), (2, 12), (3, 13), (4, 14), (5, 15), (6, 16), (7, 17), (8, 18), (9, 19), (10, 9), (11, 20), (12, 21), (13, 22), (14, 3), (15, 4), (16, 5)] mixed Kz ?_
  refine Draw.step [(0, none)] rfl Kz rfl (fun kq hkq => AOp.move' (.inl rfl) rfl Vz) ?_
  refine Draw.step [(10, some 0)] rfl Kz rfl (fun kq hkq => AOp.nilCheck' rfl rfl Vz) ?_
  refine Draw.step [(11, some 1)] rfl Kz rfl (fun kq hkq => AOp.fieldAddr' rfl Dz rfl Vz) ?_
  refine Draw.step [(12, some 2)] rfl Kz rfl (fun kq hkq => (by refine AOp.load1 (b := ?b6) (v := ?v6) rfl rfl ?hn6 ?hv6 ?hR6; (case hn6 => exact hpA); (case hv6 => rfl); exact Vz)) ?_
  refine Draw.step [(0, none)] rfl Kz rfl (fun kq hkq => AOp.move' (.inl rfl) rfl Vz) ?_
  refine Draw.step [(14, some 4)] rfl Kz rfl (fun kq hkq => AOp.nilCheck' rfl rfl Vz) ?_
  refine Draw.step [(15, some 5)] rfl Kz rfl (fun kq hkq => AOp.fieldAddr' rfl Dz rfl Vz) ?_
  refine Draw.step [(16, some 6)] rfl Kz rfl (fun kq hkq => (by refine AOp.load1 (b := ?b7) (v := ?v7) rfl rfl ?hn7 ?hv7 ?hR7; (case hn7 => exact hpA); (case hv7 => rfl); exact Vz)) ?_
  refine Draw.step [(13, some 3), (17, some 7)] rfl Kz rfl (fun kq hkq => AOp.cutQ (aslice_sub subA hq3_8) rfl rfl (bnd_at rfl rfl) (bnd_no rfl) mx_no Vz) ?_
  refine Draw.step [(18, some 8)] rfl Kz rfl (fun kq hkq => AOp.call' rfl rfl rfl (nshort _ _ _ _ r.rest (hs3_8.sub subA) Wz) Iz) ?_
  refine Draw.step [(19, some 9)] rfl Kz rfl (fun kq hkq => AOp.move' (.inl rfl) rfl Vz) ?_
  refine Draw.step [(9, some 10)] rfl Kz rfl (fun kq hkq => AOp.extract' rfl rfl rfl Vz) ?_
  refine Draw.step [(9, some 10)] rfl Kz rfl (fun kq hkq => AOp.extract' rfl rfl rfl Vz) ?_
  refine Draw.step [(9, some 10)] rfl Kz rfl (fun kq hkq => AOp.extract' rfl rfl rfl Vz) ?_
  refine Draw.step [(20, some 11)] rfl Kz rfl (fun kq hkq => AOp.move' (.inr rfl) rfl Vz) ?_
  refine Draw.step [(21, some 12)] rfl Kz rfl (fun kq hkq => AOp.move' (.inr rfl) rfl Vz) ?_
  refine Draw.step [(22, some 13)] rfl Kz rfl (fun kq hkq => AOp.move' (.inr rfl) rfl Vz) ?_
  refine Draw.done fun kq hkq => ?_
  show aOps _ _ _ _ [] ⟨_, _, _⟩
  refine Ez (Sz (Rz [0, 1, 2] Kz rfl ?_))
  refine Mz ?_
  refine Mz ?_
  refine Oz rfl rfl rfl ?_
  refine AOp.call' rfl rfl rfl (nfail _ _ n c A ev r (hR.sub subA) (look r.rest).2.2 Wz Wz) ?_
  rintro _ HL2 k2 ⟨rfl, hP2⟩
  have hk2 := hP2.1
  have hfL2 := hP2.2.1
  have hsL2 := hP2.2.2.1
  have hP2b := hP2
  obtain ⟨ev2, hR2⟩ := hP2b.2.2.2
  have hn2 := hR2.hn
  have thsL2 := SubS.of hsL2
  simp only [rnBlk, Rd.fail_bs, Rd.fail_at] at hn2
  refine Ez (Sz (Rz [0, 1, 2, 3, 4, 5, 6, 7, 8] Kz rfl ?_))
  refine Mz ?_
  refine Oz rfl rfl rfl (AOp.nilCheck' rfl rfl ?_)
  refine Fz ?_
  refine Oz rfl rfl rfl ?_
  refine AOp.load1 (b := ?b8) (v := ?v8) rfl rfl ?hn8 ?hv8 ?hR8
  (case hn8 => exact hpA)
  (case hv8 => rfl)
  refine Mz ?_
  refine Oz rfl rfl rfl (AOp.add rfl rfl rfl (i64_wrap Wz Wz) ?_)
  refine Oz rfl rfl rfl (AOp.nilCheck' rfl rfl ?_)
  refine Fz ?_
  refine aOps_0 rfl rfl rfl ?_
  refine AOp.store1 (b := ?b9) rfl rfl rfl ?hn9 ?hk9 rfl rfl ?hl9 ?hR9
  (case hn9 => exact hpA)
  (case hk9 => rfl)
  (case hl9 => first | (simp; done) | exact Nat.le_of_ble_eq_true rfl)
  refine Ez (Sz (Rz [0, 1] Kz rfl ?_))
  refine Mz ?_
  refine Nz ?_
  refine Ez ?_
  refine ACode.ret ?_
  have e1 : r.var = ((look r.rest).1, { r.fail (look r.rest).2.2 with at_ := r.at_ + (look r.rest).2.1 }) := if_neg (fun h => h c0)
  have hvo := (Rd.var_ok hok).1
  rw [e1] at hvo ⊢
  have hP3 := hP2.move (r2 := { r.fail (look r.rest).2.2 with at_ := r.at_ + (look r.rest).2.1 }) hR2 rfl rfl rfl hvo (x := (r.at_ : Int) + ((look r.rest).2.1 : Int)) rfl
  rw [Rd.fail_bs] at hP3
  try simp only [thenA, blockA, if_true]
  exact RetQ.one rfl rfl (sub_refl _) (hP3).stays (fun hk => ⟨rfl, (hP3).at_ Wz Wz⟩)

theorem nblob (n c : Nat) (A : Option Addr) (ev : Value) (r : Rd) (hR : RdN H n A c ev r) (m : Nat) (hm : m < 9223372036854775808) : ACalls Tryd.prog 3 82 [ptr n 0 none, .int .i64 (m : Int)] H k (fun v H' k' => NewS H' k k' (r.blob m).1 v ∧ RdP H k n A c (r.blob m).2 H' k') := by
 refine ACalls.fresh fun hf => ?_
 refine ACalls.body Tryd.func82 rfl (Nat.le_of_ble_eq_true rfl) ?_
 have hn := hR.hn
 have hnk := old_lt hf hn
 have hok := hR.ok
 have hal := hok.at_le
 have hle := hok.len
 obtain ⟨hlk1, hlk2, hlk3, hlk4⟩ := look_facts r.rest
 have hrl := r.rest_len
 have hlf : r.left = (r.bs.length : Int) - (r.at_ : Int) := rfl
 have hbl : blobE r m = if (look r.rest).2.2 ≠ 0 then (look r.rest).2.2 else if (look r.rest).1 > m then 12 else if ((look r.rest).1 : Int) > r.left - ((look r.rest).2.1 : Int) then 2 else 0 := rfl
 refine Sz ?_
 refine Rz [0] Kz rfl ?_
 refine Nz ?_
 refine Ez ?_
 refine Sz ?_
 refine Sz ?_
 refine Rz [0, 1, 2] Kz rfl ?_
 refine Mz ?_
 refine aOps_q rfl rfl rfl (AOp.call' rfl rfl rfl (nok _ _ n c A ev r (hR.sub subA)) Iz) (fun kq hkq => ?_)
 refine Oz rfl rfl rfl (AOp.un' rfl rfl rfl ?_)
 refine Ez ?_
 refine ACode.cond rfl (fun c0 => ?_) (fun c0 => ?_)
 ·try simp only [Cz] at c0
  refine Sz ?_
  refine Rz [0] Kz rfl ?_
  refine Nz ?_
  refine Ez ?_
  refine ACode.ret ?_
  try simp only [thenA, blockA, if_true]
  have e1 : r.blob m = ([], r) := if_pos c0
  rw [e1]
  exact RetQ.one rfl rfl (sub_refl _) (RdP.refl hf hR (Nat.le_refl k)).stays (fun hk => ⟨NewS.none_, RdP.refl hf hR Wz⟩)
 ·try simp only [Cz] at c0
  refine ACode.skip ?_
  refine Sz ?_
  obtain ⟨A3_8, c3_8, hq3_8, hs3_8⟩ := SLC.cutE (hR.hs.sub subA) r.at_ hal
  refine ACode.draw' 17 [(0, 12), (1, 13), (2, 14), (3, 15), (4, 16), (5, 17), (6, 18), (7, 19), (8, 20), (9, 21), (10, 11), (11, 22), (12, 23), (13, 24), (14, 5), (15, 6), (16, 7)] mixed Kz ?_
  refine Draw.step [(0, none)] rfl Kz rfl (fun kq hkq => AOp.move' (.inl rfl) rfl Vz) ?_
  refine Draw.step [(12, some 0)] rfl Kz rfl (fun kq hkq => AOp.nilCheck' rfl rfl Vz) ?_
  refine Draw.step [(13, some 1)] rfl Kz rfl (fun kq hkq => AOp.fieldAddr' rfl Dz rfl Vz) ?_
  refine Draw.step [(14, some 2)] rfl Kz rfl (fun kq hkq => (by refine AOp.load1 (b := ?b10) (v := ?v10) rfl rfl ?hn10 ?hv10 ?hR10; (case hn10 => exact hpA); (case hv10 => rfl); exact Vz)) ?_
  refine Draw.step [(0, none)] rfl Kz rfl (fun kq hkq => AOp.move' (.inl rfl) rfl Vz) ?_
  refine Draw.step [(16, some 4)] rfl Kz rfl (fun kq hkq => AOp.nilCheck' rfl rfl Vz) ?_
  refine Draw.step [(17, some 5)] rfl Kz rfl (fun kq hkq => AOp.fieldAddr' rfl Dz rfl Vz) ?_
  refine Draw.step [(18, some 6)] rfl Kz rfl (fun kq hkq => (by refine AOp.load1 (b := ?b11) (v := ?v11) rfl rfl ?hn11 ?hv11 ?hR11; (case hn11 => exact hpA); (case hv11 => rfl); exact Vz)) ?_
  refine Draw.step [(15, some 3), (19, some 7)] rfl Kz rfl (fun kq hkq => AOp.cutQ (aslice_sub subA hq3_8) rfl rfl (bnd_at rfl rfl) (bnd_no rfl) mx_no Vz) ?_
  refine Draw.step [(20, some 8)] rfl Kz rfl (fun kq hkq => AOp.call' rfl rfl rfl (nshort _ _ _ _ r.rest (hs3_8.sub subA) Wz) Iz) ?_
  refine Draw.step [(21, some 9)] rfl Kz rfl (fun kq hkq => AOp.move' (.inl rfl) rfl Vz) ?_
  refine Draw.step [(11, some 10)] rfl Kz rfl (fun kq hkq => AOp.extract' rfl rfl rfl Vz) ?_
  refine Draw.step [(11, some 10)] rfl Kz rfl (fun kq hkq => AOp.extract' rfl rfl rfl Vz) ?_
  refine Draw.step [(11, some 10)] rfl Kz rfl (fun kq hkq => AOp.extract' rfl rfl rfl Vz) ?_
  refine Draw.step [(22, some 11)] rfl Kz rfl (fun kq hkq => AOp.move' (.inr rfl) rfl Vz) ?_
  refine Draw.step [(23, some 12)] rfl Kz rfl (fun kq hkq => AOp.move' (.inr rfl) rfl Vz) ?_
  refine Draw.step [(24, some 13)] rfl Kz rfl (fun kq hkq => AOp.move' (.inr rfl) rfl Vz) ?_
  refine Draw.done fun kq hkq => ?_
  show aOps _ _ _ _ [] ⟨_, _, _⟩
  refine Ez ?_
  refine Sz ?_
  refine ACode.block ?_
  refine Sz ?_
  refine Rz [0, 1, 2] Kz rfl ?_
  refine Mz ?_
  refine Oz rfl rfl rfl (AOp.bin' rfl rfl rfl rfl ?_)
  refine Nz ?_
  refine Ez ?_
  refine ACode.cond rfl (fun c1 => ?_) (fun c1 => ?_)
  ·try simp only [Cz] at c1
   refine ACode.skip ?_
   refine Sz ?_
   refine Sz ?_
   refine Rz [0, 1] Kz rfl ?_
   refine Mz ?_
   refine Oz rfl rfl rfl (AOp.bin' rfl rfl rfl rfl ?_)
   refine Ez ?_
   refine ACode.cond rfl (fun c4 => ?_) (fun c4 => absurd c4 (by simp at c4; omega))
   refine Sz ?_
   refine Rz [0, 1, 2] Kz rfl ?_
   refine Mz ?_
   refine Mz ?_
   refine Oz rfl rfl rfl ?_
   refine AOp.call' rfl rfl rfl (nfail _ _ n c A ev r (hR.sub subA) _ Wz Wz) ?_
   rintro _ HL2 k2 ⟨rfl, hP2⟩
   have hk2 := hP2.1
   have hfL2 := hP2.2.1
   have hsL2 := hP2.2.2.1
   have hP2b := hP2
   obtain ⟨ev2, hR2⟩ := hP2b.2.2.2
   have hn2 := hR2.hn
   have thsL2 := SubS.of hsL2
   refine Ez (Sz (Rz [0] Kz rfl ?_))
   refine Nz ?_
   refine Ez ?_
   refine ACode.ret ?_
   try simp only [thenA, blockA, if_true]
   have hb1 : blobE r m = (look r.rest).2.2 := if_pos c1
   have e1 : r.blob m = ([], r.fail ((look r.rest).2.2)) := by rw [Rd.blob, if_neg (fun h => h c0), hb1, if_pos c1]
   rw [e1]
   exact RetQ.one rfl rfl (sub_refl _) hP2.stays (fun hk => ⟨NewS.none_, hP2.at_ Wz Wz⟩)
  ·try simp only [Cz] at c1
   refine Sz ?_
   refine Rz [0, 1, 2, 3, 4, 5, 6, 7, 8] Kz rfl ?_
   refine Mz ?_
   refine Oz rfl rfl rfl (AOp.bin' rfl rfl rfl rfl ?_)
   refine Mz ?_
   refine aOps_gd0 rfl rfl (wantF rfl rfl rfl) (fun hc => AOp.slots [(5, _)] (.cons rfl .nil) (AOp.move' (.inl rfl) rfl Tz)) ?_
   refine aOps_gd0 rfl rfl (wantF rfl rfl rfl) (fun hc => AOp.slots [(1, _)] (.cons rfl .nil) (AOp.move' (.inl rfl) rfl Tz)) ?_
   refine aOps_gd0 rfl rfl (wantF rfl rfl rfl) (fun hc => AOp.slots [(33, _)] (.cons (gvT rfl hc) .nil) (AOp.convU64 rfl rfl Wz Tz)) ?_
   refine aOps_gd0 rfl rfl (wantF rfl rfl rfl) (fun hc => AOp.slots [(32, _), (34, _)] (.cons (gvT rfl hc) (.cons (gvT rfl hc) .nil)) (AOp.bin' rfl rfl rfl rfl Tz)) ?_
   refine Oz rfl rfl rfl (AOp.pickOr rfl rfl rfl (fun hb => gvE rfl (t_not hb)) ?_)
   refine Nz ?_
   refine Ez ?_
   refine ACode.cond rfl (fun c2 => ?_) (fun c2 => ?_)
   ·try simp only [Cz] at c2
    have c2b : (look r.rest).1 > m := by simp at c2; omega
    refine Rz [0] Kz rfl ?_
    refine Nz ?_
    refine Ez ?_
    refine Sz ?_
    refine Sz ?_
    refine Rz [0, 1] Kz rfl ?_
    refine Mz ?_
    refine Oz rfl rfl rfl (AOp.bin' rfl rfl rfl rfl ?_)
    refine Ez ?_
    refine ACode.cond rfl (fun c4 => ?_) (fun c4 => absurd c4 (by simp at c4))
    refine Sz ?_
    refine Rz [0, 1, 2] Kz rfl ?_
    refine Mz ?_
    refine Mz ?_
    refine Oz rfl rfl rfl ?_
    refine AOp.call' rfl rfl rfl (nfail _ _ n c A ev r (hR.sub subA) _ Wz Wz) ?_
    rintro _ HL2 k2 ⟨rfl, hP2⟩
    have hk2 := hP2.1
    have hfL2 := hP2.2.1
    have hsL2 := hP2.2.2.1
    have hP2b := hP2
    obtain ⟨ev2, hR2⟩ := hP2b.2.2.2
    have hn2 := hR2.hn
    have thsL2 := SubS.of hsL2
    refine Ez (Sz (Rz [0] Kz rfl ?_))
    refine Nz ?_
    refine Ez ?_
    refine ACode.ret ?_
    try simp only [thenA, blockA, if_true]
    have hb1 : blobE r m = 12 := by rw [hbl, if_neg Wz, if_pos c2b]
    have e1 : r.blob m = ([], r.fail (12)) := by rw [Rd.blob, if_neg (fun h => h c0), hb1, if_pos Dz]
    rw [e1]
    exact RetQ.one rfl rfl (sub_refl _) hP2.stays (fun hk => ⟨NewS.none_, hP2.at_ Wz Wz⟩)
   ·try simp only [Cz] at c2
    have c2b : ¬ (look r.rest).1 > m := by simp at c2; omega
    have hw : IntKind.u64.wrap (r.left - ((look r.rest).2.1 : Int)) = r.left - ((look r.rest).2.1 : Int) := by rw [IntKind.wrap_u64]; omega
    refine Sz ?_
    refine Rz [0, 1, 2, 3, 4, 5, 6, 7] Kz rfl ?_
    refine Mz ?_
    refine Mz ?_
    refine aOps_q rfl rfl rfl (AOp.call' rfl rfl rfl (nleft _ _ n c A ev r (hR.sub subA)) Iz) (fun kq hkq => ?_)
    refine Mz ?_
    refine Oz rfl rfl rfl (AOp.sub rfl rfl rfl (i64_wrap Wz Wz) ?_)
    refine Oz rfl rfl rfl (AOp.convInt rfl rfl ?_)
    refine Oz rfl rfl rfl (AOp.bin' rfl rfl rfl rfl ?_)
    refine Nz ?_
    refine Ez ?_
    refine ACode.cond rfl (fun c3 => ?_) (fun c3 => ?_)
    ·try simp only [Cz] at c3
     rw [hw] at c3
     refine Rz [0] Kz rfl ?_
     refine Nz ?_
     refine Ez ?_
     refine Sz ?_
     refine Sz ?_
     refine Rz [0, 1] Kz rfl ?_
     refine Mz ?_
     refine Oz rfl rfl rfl (AOp.bin' rfl rfl rfl rfl ?_)
     refine Ez ?_
     refine ACode.cond rfl (fun c4 => ?_) (fun c4 => absurd c4 (by simp at c4))
     refine Sz ?_
     refine Rz [0, 1, 2] Kz rfl ?_
     refine Mz ?_
     refine Mz ?_
     refine Oz rfl rfl rfl ?_
     refine AOp.call' rfl rfl rfl (nfail _ _ n c A ev r (hR.sub subA) _ Wz Wz) ?_
     rintro _ HL2 k2 ⟨rfl, hP2⟩
     have hk2 := hP2.1
     have hfL2 := hP2.2.1
     have hsL2 := hP2.2.2.1
     have hP2b := hP2
     obtain ⟨ev2, hR2⟩ := hP2b.2.2.2
     have hn2 := hR2.hn
     have thsL2 := SubS.of hsL2
     refine Ez (Sz (Rz [0] Kz rfl ?_))
     refine Nz ?_
     refine Ez ?_
     refine ACode.ret ?_
     try simp only [thenA, blockA, if_true]
     have hb1 : blobE r m = 2 := by rw [hbl, if_neg Wz, if_neg c2b, if_pos Wz]
     have e1 : r.blob m = ([], r.fail (2)) := by rw [Rd.blob, if_neg (fun h => h c0), hb1, if_pos Dz]
     rw [e1]
     exact RetQ.one rfl rfl (sub_refl _) hP2.stays (fun hk => ⟨NewS.none_, hP2.at_ Wz Wz⟩)
    ·try simp only [Cz] at c3
     rw [hw] at c3
     refine ACode.skip ?_
     refine Sz ?_
     refine Sz ?_
     refine Rz [0, 1] Kz rfl ?_
     refine Mz ?_
     refine Oz rfl rfl rfl (AOp.bin' rfl rfl rfl rfl ?_)
     refine Ez ?_
     refine ACode.cond rfl (fun c4 => absurd c4 (by simp at c4; omega)) (fun c4 => ?_)
     refine ACode.skip ?_
     refine Sz ?_
     refine Rz [0, 1, 2, 3, 4, 5, 6, 7, 8] Kz rfl ?_
     refine Mz ?_
     refine Oz rfl rfl rfl (AOp.nilCheck' rfl rfl ?_)
     refine Fz ?_
     refine Oz rfl rfl rfl ?_
     refine AOp.load1 (b := ?b12) (v := ?v12) rfl rfl ?hn12 ?hv12 ?hR12
     (case hn12 => exact hpA)
     (case hv12 => rfl)
     refine Mz ?_
     refine Oz rfl rfl rfl (AOp.add rfl rfl rfl (i64_wrap Wz Wz) ?_)
     refine Oz rfl rfl rfl (AOp.nilCheck' rfl rfl ?_)
     refine Fz ?_
     refine aOps_0 rfl rfl rfl ?_
     refine AOp.store1 (b := ?b13) rfl rfl rfl ?hn13 ?hk13 rfl rfl ?hl13 ?hR13
     (case hn13 => exact hpA)
     (case hk13 => rfl)
     (case hl13 => first | (simp; done) | exact Nat.le_of_ble_eq_true rfl)
     refine Ez ?_
     refine Sz ?_
     have hok4 : ({ r with at_ := r.at_ + (look r.rest).2.1 } : Rd).ok := ⟨by show r.at_ + (look r.rest).2.1 ≤ r.bs.length; omega, hok.len, hok.e0, hok.e1, hok.on0, hok.on1, hok.none_⟩
     have hR4 := hR.turn (r' := { r with at_ := r.at_ + (look r.rest).2.1 }) rfl rfl rfl hok4
     have hmv := (RdP.refl hf hR (Nat.le_refl k)).move (r2 := { r with at_ := r.at_ + (look r.rest).2.1 }) hR rfl rfl rfl hok4 (x := (r.at_ : Int) + ((look r.rest).2.1 : Int)) rfl
     refine Rz [0, 1, 2, 3, 4] Kz rfl ?_
     refine Mz ?_
     refine Mz ?_
     refine Oz rfl rfl rfl (AOp.convInt rfl rfl ?_)
     rw [show IntKind.i64.wrap ((look r.rest).1 : Int) = ((look r.rest).1 : Int) from i64_wrap Wz Wz]
     refine Oz rfl rfl rfl ?_
     refine AOp.call' rfl rfl rfl (ntake _ _ n c A ev ({ r with at_ := r.at_ + (look r.rest).2.1 } : Rd) hR4 (look r.rest).1 Wz) ?_
     rintro _ HL3 k3 ⟨hN3, hP3⟩
     refine Nz ?_
     refine Ez ?_
     refine ACode.ret ?_
     try simp only [thenA, blockA, if_true]
     have e1 : r.blob m = ({ r with at_ := r.at_ + (look r.rest).2.1 } : Rd).take (look r.rest).1 := by rw [Rd.blob, if_neg (fun h => h c0), if_neg (by rw [hbl, if_neg Wz, if_neg c2b, if_neg Wz]; decide)]
     rw [e1]
     have hP4 := hmv.trans (hP3.at_ Wz (Nat.le_refl _))
     exact RetQ.one rfl rfl (sub_refl _) hP4.stays (fun hk => ⟨hN3.later Wz, hP4.at_ Wz Wz⟩)
end

end Go.Proofs.YteoofihjmldllaaDoor
