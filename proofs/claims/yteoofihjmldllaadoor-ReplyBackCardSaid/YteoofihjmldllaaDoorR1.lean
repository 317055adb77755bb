/- Contracts over the abstract states: the reader's errors, places, short numbers. -/
import Derived.Test.YteoofihjmldllaaDoorRE
set_option linter.unusedVariables false
set_option linter.unusedSimpArgs false
set_option maxRecDepth 100000
namespace Go.Proofs.YteoofihjmldllaaDoor
open Go Go.Ab

theorem lk_zero (i m : Nat) : (((m : Nat) : Int) == 0 && decide ((i : Int) + 1 > 1)) = decide (i > 0 ∧ m = 0) := by
 rw [Bool.eq_iff_iff]
 simp
 omega
theorem lk_top (i m : Nat) (hi : 7 * i < 64) (hm : m < 128) : (decide (((7 * i : Nat) : Int) + 7 > 64) && (((m : Nat) : Int).fdiv (2 ^ (min ((((64 - 7 * i : Nat) : Int))).toNat 64)) != 0)) = decide (i = 9 ∧ m > 1) := by
 by_cases h : i = 9
 ·subst h
  rw [show decide (((7 * 9 : Nat) : Int) + 7 > 64) = true from rfl, Bool.true_and, show (2 : Int) ^ (min ((((64 - 7 * 9 : Nat) : Int))).toNat 64) = 2 from rfl, Int.fdiv_eq_ediv_of_nonneg _ Dz, Bool.eq_iff_iff]
  simp
  omega
 ·rw [decide_eq_false (show ¬ (((7 * i : Nat) : Int) + 7 > 64) by omega), Bool.false_and, decide_eq_false (fun x => h x.1)]
section
variable (H : Hp) (k : Nat)

theorem nok1 (n c : Nat) (A : Option Addr) (r : Rd) (hR : RdN H n A c .nilIface r) : ACalls Tryd.prog 3 99 [ptr n 0 none] H k (Same H k (.bool true)) := by
 refine ACalls.fresh fun hf => ?_
 refine ACalls.body Tryd.func99 rfl (Nat.le_of_ble_eq_true rfl) ?_
 have hn := hR.hn
 have hnk := old_lt hf hn
 have hok := hR.ok
 have hal := hok.at_le
 have hle := hok.len
 refine Sz ?_
 refine Rz [0] Kz rfl ?_
 refine Nz ?_
 refine Ez (Sz (Rz [0, 1, 2, 3, 4, 5, 6, 7, 8, 9] Kz rfl ?_))
 refine Mz ?_
 refine Oz rfl rfl rfl (AOp.rdNeP rfl rfl rfl ?_)
 refine Mz ?_
 refine aOps_w rfl rfl rfl (AOp.move' (.inl rfl) rfl ?_)
 refine aOps_w rfl rfl rfl (AOp.nilCheck' rfl rfl ?_)
 refine aOps_w rfl rfl rfl (AOp.fieldAddr' rfl Dz rfl ?_)
 refine aOps_w rfl rfl rfl ?_
 refine AOp.load1 (b := ?b1) (v := ?v1) rfl rfl ?hn1 ?hv1 ?hR1
 (case hn1 => exact hpA)
 (case hv1 => rfl)
 refine aOps_w rfl rfl rfl (AOp.rdEqI0 rfl rfl ?_)
 refine Oz rfl rfl rfl (AOp.pickB rfl rfl rfl ?_)
 refine Nz ?_
 refine Ez ?_
 refine ACode.ret ?_
 exact RetQ.one rfl rfl subA stays (fun hk => ⟨rfl, rfl, by omega⟩)

theorem nok0 (n c f : Nat) (A : Option Addr) (r : Rd) (hR : RdN H n A c (.iface 96 (ptr f 0 none)) r) : ACalls Tryd.prog 3 99 [ptr n 0 none] H k (Same H k (.bool false)) := by
 refine ACalls.fresh fun hf => ?_
 refine ACalls.body Tryd.func99 rfl (Nat.le_of_ble_eq_true rfl) ?_
 have hn := hR.hn
 have hnk := old_lt hf hn
 have hok := hR.ok
 have hal := hok.at_le
 have hle := hok.len
 refine Sz ?_
 refine Rz [0] Kz rfl ?_
 refine Nz ?_
 refine Ez (Sz (Rz [0, 1, 2, 3, 4, 5, 6, 7, 8, 9] Kz rfl ?_))
 refine Mz ?_
 refine Oz rfl rfl rfl (AOp.rdNeP rfl rfl rfl ?_)
 refine Mz ?_
 refine aOps_w rfl rfl rfl (AOp.move' (.inl rfl) rfl ?_)
 refine aOps_w rfl rfl rfl (AOp.nilCheck' rfl rfl ?_)
 refine aOps_w rfl rfl rfl (AOp.fieldAddr' rfl Dz rfl ?_)
 refine aOps_w rfl rfl rfl ?_
 refine AOp.load1 (b := ?b2) (v := ?v2) rfl rfl ?hn2 ?hv2 ?hR2
 (case hn2 => exact hpA)
 (case hv2 => rfl)
 refine aOps_w rfl rfl rfl (AOp.rdEqI rfl rfl rfl ?_)
 refine Oz rfl rfl rfl (AOp.pickB rfl rfl rfl ?_)
 refine Nz ?_
 refine Ez ?_
 refine ACode.ret ?_
 exact RetQ.one rfl rfl subA stays (fun hk => ⟨rfl, rfl, by omega⟩)

theorem nok (n c : Nat) (A : Option Addr) (ev : Value) (r : Rd) (hR : RdN H n A c ev r) : ACalls Tryd.prog 3 99 [ptr n 0 none] H k (Same H k (.bool (decide (r.e = 0)))) := by
 rcases hR.he with ⟨h, rfl⟩ | ⟨h, f, rfl, _⟩
 ·rw [decide_eq_true h]; exact nok1 H k n c A r hR
 ·rw [decide_eq_false h]; exact nok0 H k n c f A r hR

theorem nleft (n c : Nat) (A : Option Addr) (ev : Value) (r : Rd) (hR : RdN H n A c ev r) : ACalls Tryd.prog 3 104 [ptr n 0 none] H k (Same H k (.int .i64 r.left)) := by
 refine ACalls.fresh fun hf => ?_
 refine ACalls.body Tryd.func104 rfl (Nat.le_of_ble_eq_true rfl) ?_
 have hn := hR.hn
 have hnk := old_lt hf hn
 have hok := hR.ok
 have hal := hok.at_le
 have hle := hok.len
 refine Sz ?_
 refine Rz [0] Kz rfl ?_
 refine Nz ?_
 refine Ez ?_
 refine Sz ?_
 refine Sz ?_
 refine Rz [0, 1] Kz rfl ?_
 refine Mz ?_
 refine Oz rfl rfl rfl (AOp.rdEqP rfl rfl rfl ?_)
 refine Ez ?_
 refine ACode.cond rfl (fun c0 => absurd c0 (by simp)) (fun c0 => ?_)
 refine ACode.skip ?_
 refine Sz ?_
 refine ACode.draw' 11 [(0, 5), (1, 6), (2, 7), (3, 8), (4, 9), (5, 10), (6, 11), (7, 12), (8, 13), (9, 14), (10, 2)] mixed Kz ?_
 refine Draw.step [(0, none)] rfl Kz rfl (fun kq hkq => AOp.move' (.inl rfl) rfl Vz) ?_
 refine Draw.step [(5, some 0)] rfl Kz rfl (fun kq hkq => AOp.nilCheck' rfl rfl Vz) ?_
 refine Draw.step [(6, some 1)] rfl Kz rfl (fun kq hkq => AOp.fieldAddr' rfl Dz rfl Vz) ?_
 refine Draw.step [(7, some 2)] rfl Kz rfl (fun kq hkq => (by refine AOp.load1 (b := ?b3) (v := ?v3) rfl rfl ?hn3 ?hv3 ?hR3; (case hn3 => exact hpA); (case hv3 => rfl); exact Vz)) ?_
 refine Draw.step [(8, some 3)] rfl Kz rfl (fun kq hkq => AOp.len' rfl rfl Vz) ?_
 refine Draw.step [(0, none)] rfl Kz rfl (fun kq hkq => AOp.move' (.inl rfl) rfl Vz) ?_
 refine Draw.step [(10, some 5)] rfl Kz rfl (fun kq hkq => AOp.nilCheck' rfl rfl Vz) ?_
 refine Draw.step [(11, some 6)] rfl Kz rfl (fun kq hkq => AOp.fieldAddr' rfl Dz rfl Vz) ?_
 refine Draw.step [(12, some 7)] rfl Kz rfl (fun kq hkq => (by refine AOp.load1 (b := ?b4) (v := ?v4) rfl rfl ?hn4 ?hv4 ?hR4; (case hn4 => exact hpA); (case hv4 => rfl); exact Vz)) ?_
 refine Draw.step [(9, some 4), (13, some 8)] rfl Kz rfl (fun kq hkq => AOp.sub rfl rfl rfl (i64_wrap Wz Wz) Vz) ?_
 refine Draw.step [(14, some 9)] rfl Kz rfl (fun kq hkq => AOp.move' (.inr rfl) rfl Vz) ?_
 refine Draw.done fun kq hkq => ?_
 show aOps _ _ _ _ [] ⟨_, _, _⟩
 refine Ez ?_
 refine ACode.ret ?_
 exact RetQ.one rfl rfl subA stays (fun hk => ⟨rfl, rfl, by omega⟩)

theorem nerr0 (h2 : H 1 = some hBlk) (n c : Nat) (A : Option Addr) (r : Rd) (hR : RdN H n A c .nilIface r) (he : r.e = 0) : ACalls Tryd.prog 3 12 [ptr n 0 none] H k (Same H k (.tuple #[.int .i64 r.e, .int .i64 r.on])) := by
 refine ACalls.fresh fun hf => ?_
 refine ACalls.body Tryd.func12 rfl (Nat.le_of_ble_eq_true rfl) ?_
 have hn := hR.hn
 have hnk := old_lt hf hn
 have hok := hR.ok
 have hal := hok.at_le
 have hle := hok.len
 refine Sz ?_
 refine Rz [0, 1] Kz rfl ?_
 refine Oz rfl rfl rfl (AOp.alloc' rfl ?_)
 refine Nz ?_
 refine Ez ?_
 refine Sz ?_
 refine Sz ?_
 refine Rz [0, 1] Kz rfl ?_
 refine Mz ?_
 refine Oz rfl rfl rfl (AOp.rdEqP rfl rfl rfl ?_)
 refine Ez ?_
 refine ACode.cond rfl (fun c0 => absurd c0 (by simp)) (fun c0 => ?_)
 refine ACode.skip ?_
 refine Sz ?_
 refine Rz [0] Kz rfl ?_
 refine Oz rfl rfl rfl (AOp.alloc' rfl ?_)
 refine Ez ?_
 refine Sz ?_
 refine Sz ?_
 refine Rz [0, 1, 2, 3, 4, 5, 6, 7, 8, 9, 10, 11] Kz rfl ?_
 refine Mz ?_
 refine Oz rfl rfl rfl (AOp.nilCheck' rfl rfl ?_)
 refine Fz ?_
 refine Oz rfl rfl rfl ?_
 refine AOp.load1 (b := ?b6) (v := ?v6) rfl rfl ?hn6 ?hv6 ?hR6
 (case hn6 => exact hpA)
 (case hv6 => rfl)
 refine Oz rfl rfl rfl (AOp.makeIface' rfl (by intro ms h; cases h) rfl ?_)
 refine aOps_q rfl rfl rfl (AOp.call' rfl rfl rfl (as_nil_b _ _ _) Iz) (fun kq hkq => ?_)
 refine Mz ?_
 refine aOps_wno rfl rfl rfl ?_
 refine aOps_wno rfl rfl rfl ?_
 refine aOps_wno rfl rfl rfl ?_
 refine aOps_wno rfl rfl rfl ?_
 refine Oz rfl rfl rfl (AOp.pickB rfl rfl rfl ?_)
 refine Ez ?_
 refine ACode.cond rfl (fun c1 => absurd c1 (by simp)) (fun c1 => ?_)
 refine ACode.skip ?_
 refine Sz ?_
 refine Rz [0, 1] Kz rfl ?_
 refine aOps_0 rfl rfl rfl ?_
 refine AOp.store1 (b := ?b7) rfl rfl rfl ?hn7 ?hk7 rfl rfl ?hl7 ?hR7
 (case hn7 => exact hpA)
 (case hk7 => rfl)
 (case hl7 => first | (simp; done) | exact Nat.le_of_ble_eq_true rfl)
 refine Nz ?_
 refine Ez ?_
 refine ACode.ret ?_
 rw [he, hok.none_ he]
 exact RetQ.cellTmpR rfl rfl (aload1 (v := .int .i64 0) (upd_same _ _ _) rfl) rfl subA stays (fun hk => ⟨rfl, rfl, by omega⟩)

theorem nerr1 (h2 : H 1 = some hBlk) (n c f : Nat) (A : Option Addr) (r : Rd) (hR : RdN H n A c (.iface 96 (ptr f 0 none)) r) (hfl : H f = some (fBlk r.on r.e)) : ACalls Tryd.prog 3 12 [ptr n 0 none] H k (Same H k (.tuple #[.int .i64 r.e, .int .i64 r.on])) := by
 refine ACalls.fresh fun hf => ?_
 refine ACalls.body Tryd.func12 rfl (Nat.le_of_ble_eq_true rfl) ?_
 have hn := hR.hn
 have hnk := old_lt hf hn
 have hok := hR.ok
 have hal := hok.at_le
 have hle := hok.len
 have hfk := old_lt hf hfl
 have h2k := old_lt hf h2
 refine Sz ?_
 refine Rz [0, 1] Kz rfl ?_
 refine Oz rfl rfl rfl (AOp.alloc' rfl ?_)
 refine Nz ?_
 refine Ez ?_
 refine Sz ?_
 refine Sz ?_
 refine Rz [0, 1] Kz rfl ?_
 refine Mz ?_
 refine Oz rfl rfl rfl (AOp.rdEqP rfl rfl rfl ?_)
 refine Ez ?_
 refine ACode.cond rfl (fun c0 => absurd c0 (by simp)) (fun c0 => ?_)
 refine ACode.skip ?_
 refine Sz ?_
 refine Rz [0] Kz rfl ?_
 refine Oz rfl rfl rfl (AOp.alloc' rfl ?_)
 refine Ez ?_
 refine Sz ?_
 refine Sz ?_
 refine Rz [0, 1, 2, 3, 4, 5, 6, 7, 8, 9, 10, 11] Kz rfl ?_
 refine Mz ?_
 refine Oz rfl rfl rfl (AOp.nilCheck' rfl rfl ?_)
 refine Fz ?_
 refine Oz rfl rfl rfl ?_
 refine AOp.load1 (b := ?b8) (v := ?v8) rfl rfl ?hn8 ?hv8 ?hR8
 (case hn8 => exact hpA)
 (case hv8 => rfl)
 refine Oz rfl rfl rfl (AOp.makeIface' rfl (by intro ms h; cases h) rfl ?_)
 refine Oz rfl rfl rfl ?_
 refine AOp.call' rfl rfl rfl (as_hit_b _ _ f (k + 1) _ hpA hpA) ?_
 rintro _ _ k1 ⟨rfl, hk1, rfl⟩
 refine Mz ?_
 refine aOps_w rfl rfl rfl ?_
 refine AOp.load1 (b := ?b9) (v := ?v9) rfl rfl ?hn9 ?hv9 ?hR9
 (case hn9 => exact hpA)
 (case hv9 => rfl)
 refine aOps_w rfl rfl rfl (AOp.makeIface' rfl (by intro ms h; cases h) rfl ?_)
 refine aOps_w rfl rfl rfl (AOp.makeIface' rfl (by intro ms h; cases h) rfl ?_)
 refine aOps_w rfl rfl rfl ?_
 refine AOp.call' rfl rfl rfl (as_errno_b _ _ f k r.on r.e _ hpA hpA hpA) ?_
 rintro _ _ k2 ⟨rfl, hk2, rfl⟩
 refine Oz rfl rfl rfl (AOp.pickB rfl rfl rfl ?_)
 refine Ez ?_
 refine ACode.cond rfl (fun c1 => ?_) (fun c1 => absurd c1 (by simp))
 refine Sz ?_
 refine ACode.draw' 5 [(0, 19), (1, 20), (2, 21), (3, 22), (4, 23)] mixed Kz ?_
 refine Draw.step [(2, none)] rfl Kz rfl (fun kq hkq => (by refine AOp.load1 (b := ?b10) (v := ?v10) rfl rfl ?hn10 ?hv10 ?hR10; (case hn10 => exact hpA); (case hv10 => rfl); exact Vz)) ?_
 refine Draw.step [(4, none)] rfl Kz rfl (fun kq hkq => (by refine AOp.load1 (b := ?b11) (v := ?v11) rfl rfl ?hn11 ?hv11 ?hR11; (case hn11 => exact hpA); (case hv11 => rfl); exact Vz)) ?_
 refine Draw.step [(20, some 1)] rfl Kz rfl (fun kq hkq => AOp.nilCheck' rfl rfl Vz) ?_
 refine Draw.step [(21, some 2)] rfl Kz rfl (fun kq hkq => AOp.fieldAddr' rfl Dz rfl Vz) ?_
 refine Draw.step [(22, some 3)] rfl Kz rfl (fun kq hkq => (by refine AOp.load1 (b := ?b12) (v := ?v12) rfl rfl ?hn12 ?hv12 ?hR12; (case hn12 => exact hpA); (case hv12 => rfl); exact Vz)) ?_
 refine Draw.done fun kq hkq => ?_
 show aOps _ _ _ _ [5, 6] ⟨_, _, _⟩
 refine aOps_0 rfl rfl rfl ?_
 refine AOp.store1 (b := ?b13) rfl rfl rfl ?hn13 ?hk13 rfl rfl ?hl13 ?hR13
 (case hn13 => exact hpA)
 (case hk13 => rfl)
 (case hl13 => first | (simp; done) | exact Nat.le_of_ble_eq_true rfl)
 refine Nz ?_
 refine Ez ?_
 refine ACode.ret ?_
 exact RetQ.cellTmpR rfl rfl (aload1 (v := .int .i64 r.e) (upd_same _ _ _) rfl) rfl subA stays (fun hk => ⟨rfl, rfl, by omega⟩)

theorem nerr (h2 : H 1 = some hBlk) (n c : Nat) (A : Option Addr) (ev : Value) (r : Rd) (hR : RdN H n A c ev r) : ACalls Tryd.prog 3 12 [ptr n 0 none] H k (Same H k (.tuple #[.int .i64 r.e, .int .i64 r.on])) := by
 rcases hR.he with ⟨h, rfl⟩ | ⟨h, f, rfl, hf⟩
 ·exact nerr0 H k h2 n c A r hR h
 ·exact nerr1 H k h2 n c f A r hR hf

theorem nfail (n c : Nat) (A : Option Addr) (ev : Value) (r : Rd) (hR : RdN H n A c ev r) (e : Int) (he0 : 0 ≤ e) (he1 : e ≤ 100) : ACalls Tryd.prog 3 47 [ptr n 0 none, .int .i64 e] H k (fun v H' k' => v = .tuple #[] ∧ RdP H k n A c (r.fail e) H' k') := by
 refine ACalls.fresh fun hf => ?_
 refine ACalls.body Tryd.func47 rfl (Nat.le_of_ble_eq_true rfl) ?_
 have hn := hR.hn
 have hnk := old_lt hf hn
 have hok := hR.ok
 have hal := hok.at_le
 have hle := hok.len
 refine Sz ?_
 refine Rz [0, 1, 2, 3, 4, 5] Kz rfl ?_
 refine Mz ?_
 refine aOps_q rfl rfl rfl (AOp.call' rfl rfl rfl (nok _ _ n c A ev r (hR.sub subA)) Iz) (fun kq hkq => ?_)
 refine Mz ?_
 refine aOps_gd0 rfl rfl (wantT rfl rfl rfl) (fun hc => AOp.slots [(1, _)] (.cons rfl .nil) (AOp.move' (.inl rfl) rfl Tz)) ?_
 refine aOps_gd0 rfl rfl (wantT rfl rfl rfl) (fun hc => AOp.slots [(7, _)] (.cons (gvT rfl hc) .nil) (AOp.bin' rfl rfl rfl rfl Tz)) ?_
 refine Oz rfl rfl rfl (AOp.pickAnd rfl rfl rfl (fun hb => gvE rfl hb) ?_)
 refine Ez ?_
 refine ACode.cond rfl (fun c0 => ?_) (fun c0 => ?_)
 ·try simp only [Cz] at c0
  have c0 : r.e = 0 ∧ e ≠ 0 := by simpa using c0
  refine Rz [0, 1, 2, 3, 4, 5, 6, 7, 8, 9, 10, 11, 12] Kz rfl ?_
  refine Mz ?_
  refine Mz ?_
  refine Oz rfl rfl rfl (AOp.nilCheck' rfl rfl ?_)
  refine Fz ?_
  refine Oz rfl rfl rfl ?_
  refine AOp.load1 (b := ?b14) (v := ?v14) rfl rfl ?hn14 ?hv14 ?hR14
  (case hn14 => exact hpA)
  (case hv14 => rfl)
  refine Mz ?_
  refine Oz rfl rfl rfl (AOp.makeIface' rfl (by intro ms h; cases h) rfl ?_)
  refine Oz rfl rfl rfl (AOp.buildS (cells := #[_, _]) rfl rfl rfl ?_)
  refine Oz rfl rfl rfl (AOp.boxV rfl rfl ?_)
  refine Oz rfl rfl rfl (AOp.makeIface' rfl (by intro ms h; cases h) rfl ?_)
  refine Oz rfl rfl rfl (AOp.nilCheck' rfl rfl ?_)
  refine Fz ?_
  refine aOps_0 rfl rfl rfl ?_
  refine AOp.store1 (b := ?b15) rfl rfl rfl ?hn15 ?hk15 rfl rfl ?hl15 ?hR15
  (case hn15 => exact hpA)
  (case hk15 => rfl)
  (case hl15 => first | (simp; done) | exact Nat.le_of_ble_eq_true rfl)
  refine Ez ?_
  try simp only [thenA, blockA, if_true]
  have e1 : r.fail e = { r with e := e, on := (r.at_ : Int) } := if_pos c0
  have hok2 := hok
  have hfo := Rd.fail_ok hok he0 he1
  rw [e1] at hfo ⊢
  exact RetQ.none_ rfl (sub_refl _) (stays_n (sub_putn subA) (upd_same _ _ _)) (fun hk => ⟨rfl, hk, (fun m hm => Uz (Uz (hf m Wz))), sub_putn subA, _, upd_same _ _ _, ((hR.hs.sub subA).away hR.hA), hR.hA, .inr ⟨c0.2, _, rfl, Uz (upd_same _ _ _)⟩, hfo⟩)
 ·try simp only [Cz] at c0
  have c0 : ¬ (r.e = 0 ∧ e ≠ 0) := by simpa using c0
  refine ACode.skip ?_
  try simp only [thenA, blockA, if_true]
  have e1 : r.fail e = r := if_neg c0
  rw [e1]
  exact RetQ.none_ rfl (sub_refl _) stays (fun hk => ⟨rfl, RdP.refl hf hR hk⟩)

theorem nshort (A : Option Addr) (c : Nat) (bs : List UInt8) (hs : SLC H 1 A bs.length c (bs.map bv)) (hl : bs.length ≤ 1000000000) : ACalls Tryd.prog 3 113 [.slice A bs.length c] H k (Same H k (.tuple #[u64 (look bs).1, .int .i64 ((look bs).2.1 : Int), .int .i64 (look bs).2.2])) := by
 refine ACalls.fresh fun hf => ?_
 refine ACalls.body Tryd.func113 rfl (Nat.le_of_ble_eq_true rfl) ?_
 refine Sz ?_
 refine Rz [0, 1, 2] Kz rfl ?_
 refine Nz ?_
 refine Nz ?_
 refine Nz ?_
 refine Ez (Sz (Rz [0] Kz rfl ?_))
 refine Nz ?_
 refine Ez ?_
 refine ACode.block ?_
 refine ACode.count0 (fun i => [(2, u64 (acc bs i)), (3, .int .i64 (i : Int)), (5, .int .i64 ((7 * i : Nat) : Int))]) [(0, _)] (bs.length) (fun i => Lk bs i) (.cons (show _ = some (u64 (acc bs 0)) from rfl) (.cons (show _ = some (Value.int .i64 ((0 : Nat) : Int)) from rfl) (.cons (show _ = some (Value.int .i64 ((7 * 0 : Nat) : Int)) from rfl) .nil))) (.cons rfl .nil) (Lk.zero bs) (fun i0 kL0 HL0 hiL0 hkL0 hsL0 hfL0 hxL0 => ?_)
 show ACode _ _ _ _ _ ⟨_, _, _⟩
 have tsL0 := SubS.of hsL0
 have hi9 := hxL0.le
 refine Sz ?_
 refine ACode.block ?_
 refine Sz ?_
 refine Sz ?_
 refine Rz [0, 1, 2, 3] Kz rfl ?_
 refine Mz ?_
 refine Mz ?_
 refine Oz rfl rfl rfl (AOp.len' rfl rfl ?_)
 refine Oz rfl rfl rfl (AOp.bin' rfl rfl rfl rfl ?_)
 refine Ez ?_
 refine ACode.cond rfl (fun c0 => ?_) (fun c0 => ?_)
 ·try simp only [Cz] at c0
  have hlen : i0 = bs.length := by omega
  subst hlen
  refine Sz ?_
  refine Rz [0, 1, 2] Kz rfl ?_
  refine Nz ?_
  refine Nz ?_
  refine Nz ?_
  refine Ez ?_
  refine ACode.ret ?_
  rw [hxL0.nil]
  exact RetQ.three rfl rfl rfl rfl subA stays (fun hk => ⟨rfl, rfl, by omega⟩)
 ·try simp only [Cz] at c0
  have hil : i0 < bs.length := by omega
  refine ACode.skip ?_
  refine Sz ?_
  obtain ⟨n5_2, o5_2, s5_2, hq5_2, hp5_2⟩ := slcElD bv (i := i0) 0 hs.cells hil
  refine Rz [0, 1, 2, 3, 4] Kz rfl ?_
  refine Mz ?_
  refine Mz ?_
  refine Oz rfl rfl rfl (AOp.indexP (aslcAt_sub subA hq5_2) rfl rfl rfl ?_)
  refine Oz rfl rfl rfl (AOp.loadP0 (hp5_2.sub subA) rfl rfl rfl ?_)
  refine Nz ?_
  refine Ez (Sz (Rz [0, 1, 2] Kz rfl ?_))
  refine Mz ?_
  refine Oz rfl rfl rfl (AOp.add rfl rfl rfl (i64_wrap Wz Wz) ?_)
  refine Nz ?_
  refine Ez ?_
  refine Sz ?_
  refine Sz ?_
  refine Rz [0, 1, 2, 3] Kz rfl ?_
  refine Mz ?_
  refine Oz rfl rfl rfl (AOp.bin' (z := .int .u8 (((bs.getD i0 0).toNat % 128 : Nat) : Int)) rfl rfl rfl (congrArg (fun z => some (Value.int .u8 z)) (ib127 _)) ?_)
  refine Oz rfl rfl rfl (AOp.convU64 rfl rfl Wz ?_)
  refine Nz ?_
  refine Ez ?_
  refine ACode.block ?_
  refine Sz ?_
  refine Sz ?_
  refine Rz [0, 1, 2] Kz rfl ?_
  refine Mz ?_
  refine Oz rfl rfl rfl (AOp.bin' rfl rfl rfl rfl ?_)
  refine Nz ?_
  refine Ez ?_
  refine ACode.cond rfl (fun c1 => ?_) (fun c1 => ?_)
  ·try simp only [Cz] at c1
   refine ACode.skip ?_
   refine ACode.cond rfl (fun c2 => ?_) (fun c2 => absurd c2 (by simp at c2; omega))
   refine Sz ?_
   refine Rz [0, 1, 2] Kz rfl ?_
   refine Nz ?_
   refine Nz ?_
   refine Nz ?_
   refine Ez ?_
   refine ACode.ret ?_
   rw [hxL0.bad hil (.inl (.inl Wz))]
   exact RetQ.three rfl rfl rfl rfl subA stays (fun hk => ⟨rfl, rfl, by omega⟩)
  ·try simp only [Cz] at c1
   refine Rz [0, 1, 2, 3, 4, 5, 6, 7, 8, 9, 10, 11] Kz rfl ?_
   refine Mz ?_
   refine Oz rfl rfl rfl (AOp.add rfl rfl rfl (i64_wrap Wz Wz) ?_)
   refine Oz rfl rfl rfl (AOp.bin' rfl rfl rfl rfl ?_)
   refine Mz ?_
   refine aOps_gd0 rfl rfl (wantT rfl rfl rfl) (fun hc => AOp.slots [(7, _)] (.cons rfl .nil) (AOp.move' (.inl rfl) rfl Tz)) ?_
   refine aOps_gd0 rfl rfl (wantT rfl rfl rfl) (fun hc => AOp.slots [(5, _)] (.cons rfl .nil) (AOp.move' (.inl rfl) rfl Tz)) ?_
   refine aOps_gd0 rfl rfl (wantT rfl rfl rfl) (fun hc => AOp.slots [(37, _)] (.cons (gvT rfl hc) .nil) (AOp.bin' (z := .int .i64 ((64 - 7 * i0 : Nat) : Int)) rfl rfl rfl (show some (Value.int .i64 (IntKind.i64.wrap (64 - ((7 * i0 : Nat) : Int)))) = _ by rw [i64_wrap Wz Wz]; congr 2; omega) Tz)) ?_
   refine aOps_gd0 rfl rfl (wantT rfl rfl rfl) (fun hc => AOp.slots [(38, _)] (.cons (gvT rfl hc) .nil) (AOp.convU64 rfl rfl Wz Tz)) ?_
   refine aOps_gd0 rfl rfl (wantT rfl rfl rfl) (fun hc => AOp.slots [(36, _), (39, _)] (.cons (gvT rfl hc) (.cons (gvT rfl hc) .nil)) (AOp.shrN rfl rfl rfl Tz)) ?_
   refine aOps_gd0 rfl rfl (wantT rfl rfl rfl) (fun hc => AOp.slots [(40, _)] (.cons (gvT rfl hc) .nil) (AOp.bin' rfl rfl rfl rfl Tz)) ?_
   refine Oz rfl rfl rfl (AOp.pickAnd rfl rfl rfl (fun hb => gvE rfl hb) ?_)
   refine Nz ?_
   refine Ez ?_
   refine ACode.cond rfl (fun c2 => ?_) (fun c2 => ?_)
   ·skip
    have c9b := of_decide_eq_true ((lk_top i0 _ Wz (Nat.mod_lt (bs.getD i0 0).toNat Dz)).symm.trans c2)
    refine Sz ?_
    refine Rz [0, 1, 2] Kz rfl ?_
    refine Nz ?_
    refine Nz ?_
    refine Nz ?_
    refine Ez ?_
    refine ACode.ret ?_
    rw [hxL0.bad hil (.inl (.inr c9b))]
    exact RetQ.three rfl rfl rfl rfl subA stays (fun hk => ⟨rfl, rfl, by omega⟩)
   ·skip
    have c9b := of_decide_eq_false ((lk_top i0 _ Wz (Nat.mod_lt (bs.getD i0 0).toNat Dz)).symm.trans c2)
    have c9a : ¬ (i0 > 9 ∨ (i0 = 9 ∧ (bs.getD i0 0).toNat % 128 > 1)) := fun h => h.elim Wz c9b
    refine Sz ?_
    refine Rz [0, 1, 2, 3, 4, 5, 6] Kz rfl ?_
    refine Mz ?_
    refine Oz rfl rfl rfl (AOp.bin' rfl rfl rfl rfl ?_)
    refine Mz ?_
    refine aOps_gd0 rfl rfl (wantT rfl rfl rfl) (fun hc => AOp.slots [(3, _)] (.cons rfl .nil) (AOp.move' (.inl rfl) rfl Tz)) ?_
    refine aOps_gd0 rfl rfl (wantT rfl rfl rfl) (fun hc => AOp.slots [(47, _)] (.cons (gvT rfl hc) .nil) (AOp.bin' rfl rfl rfl rfl Tz)) ?_
    refine Oz rfl rfl rfl (AOp.pickAnd rfl rfl rfl (fun hb => gvE rfl hb) ?_)
    refine Nz ?_
    refine Ez ?_
    refine ACode.cond rfl (fun c3 => ?_) (fun c3 => ?_)
    ·skip
     have c3b := of_decide_eq_true ((lk_zero i0 _).symm.trans c3)
     refine Sz ?_
     refine Rz [0, 1, 2] Kz rfl ?_
     refine Nz ?_
     refine Nz ?_
     refine Nz ?_
     refine Ez ?_
     refine ACode.ret ?_
     rw [hxL0.bad hil (.inr c3b)]
     exact RetQ.three rfl rfl rfl rfl subA stays (fun hk => ⟨rfl, rfl, by omega⟩)
    ·skip
     have c3b := of_decide_eq_false ((lk_zero i0 _).symm.trans c3)
     have c9 : ¬ ((i0 > 9 ∨ (i0 = 9 ∧ (bs.getD i0 0).toNat % 128 > 1)) ∨ (i0 > 0 ∧ (bs.getD i0 0).toNat = 0)) := fun h => h.elim c9a c3b
     refine Rz [0, 1, 2, 3, 4, 5, 6] Kz rfl ?_
     refine Mz ?_
     refine Mz ?_
     refine Mz ?_
     refine Oz rfl rfl rfl (AOp.convU64 rfl rfl Wz ?_)
     refine Oz rfl rfl rfl (AOp.shlN rfl rfl rfl ?_)
     refine Oz rfl rfl rfl (AOp.bin' rfl rfl rfl rfl ?_)
     refine Nz ?_
     refine Ez (Sz (Rz [0, 1, 2] Kz rfl ?_))
     refine Mz ?_
     refine Oz rfl rfl rfl (AOp.bin' rfl rfl rfl rfl ?_)
     refine Oz rfl rfl rfl (AOp.bin' rfl rfl rfl rfl ?_)
     refine Ez ?_
     refine ACode.cond rfl (fun c4 => ?_) (fun c4 => ?_)
     ·skip
      have c8 := of_decide_eq_true ((ib128 _).symm.trans c4)
      refine Sz ?_
      refine Rz [0, 1, 2, 3, 4] Kz rfl ?_
      refine Mz ?_
      refine Mz ?_
      refine Nz ?_
      refine Nz ?_
      refine Nz ?_
      refine Ez ?_
      refine ACode.ret ?_
      rw [hxL0.end_ hil c9 c8]
      exact RetQ.three rfl rfl rfl rfl subA stays (fun hk => ⟨(by rw [show u64 (acc bs (i0 + 1)) = .int .u64 _ from congrArg (Value.int .u64) (hxL0.or c9a).symm]; rfl), rfl, by omega⟩)
     ·skip
      have c8 := of_decide_eq_false ((ib128 _).symm.trans c4)
      refine ACode.skip ?_
      refine Rz [0, 1, 2] Kz rfl ?_
      refine Mz ?_
      refine Oz rfl rfl rfl (AOp.add rfl rfl rfl (i64_wrap Wz Wz) ?_)
      refine Nz ?_
      refine Ez ?_
      first | refine thenA_n ?_ | simp only [thenA, blockA, if_true]
      exact NextR.mk Wz Wz (.cons (show _ = some (Value.int .u64 (acc bs (i0 + 1) : Int)) by rw [← hxL0.or c9a]; rfl) (.cons (show _ = some (Value.int .i64 (((i0 + 1 : Nat)) : Int)) from rfl) (.cons (show _ = some (Value.int .i64 ((7 * (i0 + 1) : Nat) : Int)) from rfl) .nil))) (.cons rfl .nil) subA (hxL0.next Wz c9 c8)
end

end Go.Proofs.YteoofihjmldllaaDoor
