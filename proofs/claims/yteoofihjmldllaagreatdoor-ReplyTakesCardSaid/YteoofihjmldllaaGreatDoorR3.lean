/- Contracts over the abstract states: the reference's reader: errors, short numbers, bytes, blobs. -/
import Derived.Test.YteoofihjmldllaaGreatDoorR2
set_option linter.unusedVariables false
set_option linter.unusedSimpArgs false
set_option maxRecDepth 100000
namespace Go.Proofs.YteoofihjmldllaaGreatDoor
open Go Go.Ab

theorem lk_bad (i m z : Nat) : ((decide ((i : Int) > 9) || (((i : Int) == 9) && decide (((m : Nat) : Int) > 1))) || (decide ((i : Int) > 0) && (((z : Nat) : Int) == 0))) = decide ((i > 9 ∨ (i = 9 ∧ m > 1)) ∨ (i > 0 ∧ z = 0)) := by
 rw [Bool.eq_iff_iff]
 simp
 omega
theorem wrapN (x : Nat) (h : x < 18446744073709551616) : IntKind.u64.wrap (x : Int) = (x : Int) := by
 have e2 : (x : Int) < 18446744073709551616 := Int.ofNat_lt.2 h
 rw [IntKind.wrap_u64, Int.emod_eq_of_lt (Int.natCast_nonneg _) e2]
theorem p128 (j : Nat) (h : j ≤ 9) : 128 ^ j < 18446744073709551616 := Nat.lt_of_le_of_lt (Nat.pow_le_pow_right Dz h) (by decide : 128 ^ 9 < 18446744073709551616)
theorem RfP.turn2 {H : Hp} {k n c : Nat} {A : Option Addr} {r : Rd} (hf : ∀ m, k ≤ m → H m = none) (hR : RfN H n A c r) {r2 : Rd} {x : Option Blk} (hb : r2.bs = r.bs) (hok : r2.ok) :
  RfP H k n A c r2 (upd (upd H n x) n (some { cells := [.slice A r.bs.length c, .int .i64 (r2.at_ : Int), .int .i64 r2.e, .int .i64 r2.on], elem := 86, kind := .fix })) k := by
 have e : upd (upd H n x) n (some { cells := [.slice A r.bs.length c, .int .i64 (r2.at_ : Int), .int .i64 r2.e, .int .i64 r2.on], elem := 86, kind := .fix }) = upd H n (some { cells := [.slice A r.bs.length c, .int .i64 (r2.at_ : Int), .int .i64 r2.e, .int .i64 r2.on], elem := 86, kind := .fix }) := by
  funext m
  by_cases h : m = n
  ·subst h; rw [upd_same, upd_same]
  ·rw [upd_other _ _ h, upd_other _ _ h, upd_other _ _ h]
 rw [e]
 exact (RfP.refl hf hR (Nat.le_refl k)).turn hb hok rfl rfl rfl
section
variable (H : Hp) (k : Nat)

theorem rfail (n c : Nat) (A : Option Addr) (r : Rd) (hR : RfN H n A c r) (e : Int) (he0 : 0 ≤ e) (he1 : e ≤ 100) : ACalls Tryz.prog 2 47 [ptr n 0 none, .int .i64 e] H k (fun v H' k' => v = .tuple #[] ∧ RfP H k n A c (r.fail e) H' k') := by
 refine ACalls.fresh fun hf => ?_
 refine ACalls.body Tryz.func47 rfl (Nat.le_of_ble_eq_true rfl) ?_
 have hn := hR.hn
 have hnk := old_lt hf hn
 have hok := hR.ok
 have hal := hok.at_le
 have hle := hok.len
 refine Sz ?_
 refine Rz [0, 1, 2, 3, 4, 5, 6, 7, 8] Kz rfl ?_
 refine Mz ?_
 refine Oz rfl rfl rfl (AOp.nilCheck' rfl rfl ?_)
 refine Fz ?_
 refine Oz rfl rfl rfl ?_
 refine AOp.load1 (b := ?b1) (v := ?v1) rfl rfl ?hn1 ?hv1 ?hR1
 (case hn1 => exact hpA)
 (case hv1 => rfl)
 refine Oz rfl rfl rfl (AOp.bin' rfl rfl rfl rfl ?_)
 refine Mz ?_
 refine aOps_gd0 rfl rfl (wantT rfl rfl rfl) (fun hc => AOp.slots [(1, _)] (.cons rfl .nil) (AOp.move' (.inl rfl) rfl Tz)) ?_
 refine aOps_gd0 rfl rfl (wantT rfl rfl rfl) (fun hc => AOp.slots [(10, _)] (.cons (gvT rfl hc) .nil) (AOp.bin' rfl rfl rfl rfl Tz)) ?_
 refine Oz rfl rfl rfl (AOp.pickAnd rfl rfl rfl (fun hb => gvE rfl hb) ?_)
 refine Ez ?_
 refine ACode.cond rfl (fun c0 => ?_) (fun c0 => ?_)
 ·try simp only [Cz] at c0
  have c0 : r.e = 0 ∧ e ≠ 0 := by simpa using c0
  refine Sz ?_
  refine Rz [0, 1, 2, 3, 4] Kz rfl ?_
  refine Mz ?_
  refine Mz ?_
  refine Oz rfl rfl rfl (AOp.nilCheck' rfl rfl ?_)
  refine Fz ?_
  refine aOps_0 rfl rfl rfl ?_
  refine AOp.store1 (b := ?b2) rfl rfl rfl ?hn2 ?hk2 rfl rfl ?hl2 ?hR2
  (case hn2 => exact hpA)
  (case hk2 => rfl)
  (case hl2 => first | (simp; done) | exact Nat.le_of_ble_eq_true rfl)
  refine Ez ?_
  refine Rz [0, 1, 2, 3, 4, 5, 6, 7] Kz rfl ?_
  refine Mz ?_
  refine Mz ?_
  refine Oz rfl rfl rfl (AOp.nilCheck' rfl rfl ?_)
  refine Fz ?_
  refine Oz rfl rfl rfl ?_
  refine AOp.load1 (b := ?b3) (v := ?v3) rfl rfl ?hn3 ?hv3 ?hR3
  (case hn3 => exact hpA)
  (case hv3 => rfl)
  refine Oz rfl rfl rfl (AOp.nilCheck' rfl rfl ?_)
  refine Fz ?_
  refine aOps_0 rfl rfl rfl ?_
  refine AOp.store1 (b := ?b4) rfl rfl rfl ?hn4 ?hk4 rfl rfl ?hl4 ?hR4
  (case hn4 => exact hpA)
  (case hk4 => rfl)
  (case hl4 => first | (simp; done) | exact Nat.le_of_ble_eq_true rfl)
  refine Ez ?_
  try simp only [thenA, blockA, if_true]
  have e1 : r.fail e = { r with e := e, on := (r.at_ : Int) } := if_pos c0
  have hfo := Rd.fail_ok hok he0 he1
  rw [e1] at hfo ⊢
  try simp only [thenA, blockA, if_true]
  exact RetQ.none_ rfl (sub_refl _) (RfP.turn2 hf hR (r2 := { r with e := e, on := (r.at_ : Int) }) rfl hfo).stays (fun hk => ⟨rfl, RfP.turn2 hf hR (r2 := { r with e := e, on := (r.at_ : Int) }) rfl hfo⟩)
 ·try simp only [Cz] at c0
  have c0 : ¬ (r.e = 0 ∧ e ≠ 0) := by simpa using c0
  refine ACode.skip ?_
  try simp only [thenA, blockA, if_true]
  have e1 : r.fail e = r := if_neg c0
  rw [e1]
  try simp only [thenA, blockA, if_true]
  exact RetQ.none_ rfl (sub_refl _) stays (fun hk => ⟨rfl, RfP.refl hf hR hk⟩)

theorem rlook (A : Option Addr) (c : Nat) (bs : List UInt8) (hs : SLC H 1 A bs.length c (bs.map bv)) (hl : bs.length ≤ 1000000000) : ACalls Tryz.prog 2 79 [.slice A bs.length c] H k (Same H k (.tuple #[u64 (look bs).1, .int .i64 ((look bs).2.1 : Int), .int .i64 (look bs).2.2])) := by
 refine ACalls.fresh fun hf => ?_
 refine ACalls.body Tryz.func79 rfl (Nat.le_of_ble_eq_true rfl) ?_
 refine Sz ?_
 refine Rz [0, 1, 2] Kz rfl ?_
 refine Nz ?_
 refine Nz ?_
 refine Nz ?_
 refine Ez (Sz (Rz [0] Kz rfl ?_))
 refine Nz ?_
 refine Ez ?_
 refine Sz ?_
 refine Sz ?_
 refine Rz [0] Kz rfl ?_
 refine Nz ?_
 refine Ez ?_
 refine ACode.block ?_
 refine ACode.count0 (fun i => [(5, u64 (acc bs i)), (6, .int .i64 (i : Int))]) [(0, _)] (bs.length) (fun i => Lk bs i) (.cons (show _ = some (u64 (acc bs 0)) from rfl) (.cons (show _ = some (Value.int .i64 ((0 : Nat) : Int)) from rfl) .nil)) (.cons rfl .nil) (Lk.zero bs) (fun i0 kL0 HL0 hiL0 hkL0 hsL0 hfL0 hxL0 => ?_)
 show ACode _ _ _ _ _ ⟨_, _, _⟩
 have tsL0 := SubS.of hsL0
 have hi9 := hxL0.le
 refine Sz ?_
 refine Sz ?_
 refine Rz [0, 1, 2, 3] Kz rfl ?_
 refine Mz ?_
 refine Mz ?_
 refine Oz rfl rfl rfl (AOp.len' rfl rfl ?_)
 refine Oz rfl rfl rfl (AOp.bin' rfl rfl rfl rfl ?_)
 refine Ez ?_
 refine ACode.cond rfl (fun c0 => ?_) (fun c0 => ?_)
 ·try simp only [Cz] at c0
  have hil : i0 < bs.length := by omega
  refine ACode.skip ?_
  refine Sz ?_
  refine ACode.block ?_
  refine Sz ?_
  obtain ⟨n5_2, o5_2, s5_2, hq5_2, hp5_2⟩ := slcElD bv (i := i0) 0 hs.cells hil
  refine Rz [0, 1, 2, 3, 4, 5, 6] Kz rfl ?_
  refine Mz ?_
  refine Mz ?_
  refine Oz rfl rfl rfl (AOp.indexP (aslcAt_sub subA hq5_2) rfl rfl rfl ?_)
  refine Oz rfl rfl rfl (AOp.loadP0 (hp5_2.sub subA) rfl rfl rfl ?_)
  refine Oz rfl rfl rfl (AOp.bin' (z := .int .u8 (((bs.getD i0 0).toNat % 128 : Nat) : Int)) rfl rfl rfl rfl ?_)
  refine Oz rfl rfl rfl (AOp.convU64 rfl rfl Wz ?_)
  refine Nz ?_
  refine Ez ?_
  refine Sz ?_
  refine Sz ?_
  obtain ⟨n6_16, o6_16, s6_16, hq6_16, hp6_16⟩ := slcElD bv (i := i0) 0 hs.cells hil
  refine Rz [0, 1, 2, 3, 4, 5, 6, 7, 8, 9, 10, 11, 12, 13, 14, 15, 16, 17, 18, 19, 20] Kz rfl ?_
  refine Mz ?_
  refine Oz rfl rfl rfl (AOp.bin' rfl rfl rfl rfl ?_)
  refine Mz ?_
  refine aOps_gd0 rfl rfl (wantF rfl rfl rfl) (fun hc => AOp.slots [(6, _)] (.cons rfl .nil) (AOp.move' (.inl rfl) rfl Tz)) ?_
  refine aOps_gd0 rfl rfl (wantF rfl rfl rfl) (fun hc => AOp.slots [(25, _)] (.cons (gvT rfl hc) .nil) (AOp.bin' rfl rfl rfl rfl Tz)) ?_
  refine aOps_gd0 rfl rfl (wantF rfl rfl rfl) (fun hc => AOp.slots [(26, _)] (.cons (gvT rfl hc) .nil) (AOp.move' (.inl rfl) rfl Tz)) ?_
  refine aOps_gd0 rfl rfl (wantGT rfl rfl rfl) (fun hc => AOp.slots [(7, _)] (.cons rfl .nil) (AOp.move' (.inl rfl) rfl Tz)) ?_
  refine aOps_gd0 rfl rfl (wantGT rfl rfl rfl) (fun hc => AOp.slots [(28, _)] (.cons (gvT rfl hc) .nil) (AOp.bin' rfl rfl rfl rfl Tz)) ?_
  refine aOps_gd0 rfl rfl (wantF rfl rfl rfl) (fun hc => AOp.pickAnd rfl rfl (gvE rfl hc) (fun hb => gvE rfl (and_mk hc hb)) Tz) ?_
  refine Oz rfl rfl rfl (AOp.pickOr rfl rfl rfl (fun hb => gvE rfl (t_not hb)) ?_)
  refine Mz ?_
  refine aOps_gd0 rfl rfl (wantF rfl rfl rfl) (fun hc => AOp.slots [(6, _)] (.cons rfl .nil) (AOp.move' (.inl rfl) rfl Tz)) ?_
  refine aOps_gd0 rfl rfl (wantF rfl rfl rfl) (fun hc => AOp.slots [(33, _)] (.cons (gvT rfl hc) .nil) (AOp.bin' rfl rfl rfl rfl Tz)) ?_
  refine aOps_gd0 rfl rfl (wantF rfl rfl rfl) (fun hc => AOp.slots [(34, _)] (.cons (gvT rfl hc) .nil) (AOp.move' (.inl rfl) rfl Tz)) ?_
  refine aOps_gd0 rfl rfl (wantGT rfl rfl rfl) (fun hc => AOp.slots [(0, _)] (.cons rfl .nil) (AOp.move' (.inl rfl) rfl Tz)) ?_
  refine aOps_gd0 rfl rfl (wantGT rfl rfl rfl) (fun hc => AOp.slots [(6, _)] (.cons rfl .nil) (AOp.move' (.inl rfl) rfl Tz)) ?_
  refine aOps_gd0 rfl rfl (wantGT rfl rfl rfl) (fun hc => AOp.slots [(36, _), (37, _)] (.cons (gvT rfl hc) (.cons (gvT rfl hc) .nil)) (AOp.indexP (aslcAt_sub subA hq6_16) rfl rfl rfl Tz)) ?_
  refine aOps_gd0 rfl rfl (wantGT rfl rfl rfl) (fun hc => AOp.slots [(38, _)] (.cons (gvT rfl hc) .nil) (AOp.loadP0 (hp6_16.sub subA) rfl rfl rfl Tz)) ?_
  refine aOps_gd0 rfl rfl (wantGT rfl rfl rfl) (fun hc => AOp.slots [(39, _)] (.cons (gvT rfl hc) .nil) (AOp.bin' rfl rfl rfl rfl Tz)) ?_
  refine aOps_gd0 rfl rfl (wantF rfl rfl rfl) (fun hc => AOp.pickAnd rfl rfl (gvE rfl hc) (fun hb => gvE rfl (and_mk hc hb)) Tz) ?_
  refine Oz rfl rfl rfl (AOp.pickOr rfl rfl rfl (fun hb => gvE rfl (t_not hb)) ?_)
  refine Ez ?_
  refine ACode.cond rfl (fun c1 => ?_) (fun c1 => ?_)
  ·skip
   have c9 := of_decide_eq_true ((lk_bad i0 _ _).symm.trans c1)
   refine Sz ?_
   refine Rz [0, 1, 2] Kz rfl ?_
   refine Nz ?_
   refine Nz ?_
   refine Nz ?_
   refine Ez ?_
   refine ACode.ret ?_
   rw [hxL0.bad hil c9]
   exact RetQ.three rfl rfl rfl rfl subA stays (fun hk => ⟨rfl, rfl, by omega⟩)
  ·skip
   have c9 := of_decide_eq_false ((lk_bad i0 _ _).symm.trans c1)
   have c9a : ¬ (i0 > 9 ∨ (i0 = 9 ∧ (bs.getD i0 0).toNat % 128 > 1)) := fun h => c9 (.inl h)
   have h64 := hxL0.step64 c9a
   have hi8 : i0 ≤ 9 := by omega
   refine ACode.skip ?_
   refine Sz ?_
   refine Rz [0] Kz rfl ?_
   refine Nz ?_
   refine Ez ?_
   refine Sz ?_
   refine Sz ?_
   refine Rz [0] Kz rfl ?_
   refine Nz ?_
   refine Ez ?_
   refine ACode.block ?_
   refine ACode.count0 (fun i => [(8, u64 (128 ^ i)), (9, .int .i64 (i : Int))]) [(0, _), (5, _), (6, _), (7, _), (10, _), (11, _), (12, _), (13, _), (16, _), (17, _), (18, _), (19, _), (20, _), (21, _), (22, _), (23, _), (24, _), (25, _), (26, _), (27, _), (28, _), (29, _), (30, _), (31, _), (32, _), (33, _), (34, _), (35, _), (36, _), (37, _), (38, _), (39, _), (40, _), (41, _), (42, _)] (i0) (fun _ => True) (.cons (show _ = some (u64 (128 ^ 0)) from rfl) (.cons (show _ = some (Value.int .i64 ((0 : Nat) : Int)) from rfl) .nil)) Xz trivial (fun i1 kL1 HL1 hiL1 hkL1 hsL1 hfL1 hxL1 => ?_)
   show ACode _ _ _ _ _ ⟨_, _, _⟩
   have tsL1 := SubS.of hsL1
   refine Sz ?_
   refine Sz ?_
   refine Rz [0, 1, 2] Kz rfl ?_
   refine Mz ?_
   refine Mz ?_
   refine Oz rfl rfl rfl (AOp.bin' rfl rfl rfl rfl ?_)
   refine Ez ?_
   refine ACode.cond rfl (fun c2 => ?_) (fun c2 => ?_)
   ·try simp only [Cz] at c2
    refine ACode.skip ?_
    refine Sz ?_
    refine ACode.block ?_
    refine Rz [0, 1, 2] Kz rfl ?_
    refine Mz ?_
    refine Oz rfl rfl rfl (AOp.bin' (z := u64 (128 ^ (i1 + 1))) rfl rfl rfl (show some (Value.int .u64 (IntKind.u64.wrap (((128 ^ i1 : Nat) : Int) * 128))) = _ by rw [show ((128 ^ i1 : Nat) : Int) * 128 = ((128 ^ (i1 + 1) : Nat) : Int) by rw [Nat.pow_succ, Int.natCast_mul]; rfl, wrapN _ (p128 _ Wz)]) ?_)
    refine Nz ?_
    refine Ez ?_
    refine Rz [0, 1, 2] Kz rfl ?_
    refine Mz ?_
    refine Oz rfl rfl rfl (AOp.add rfl rfl rfl (i64_wrap Wz Wz) ?_)
    refine Nz ?_
    refine Ez ?_
    first | refine thenA_n ?_ | simp only [thenA, blockA, if_true]
    exact NextR.mk Wz Wz (.cons rfl (.cons (show _ = some (Value.int .i64 (((i1 + 1 : Nat)) : Int)) from rfl) .nil)) Xz subA trivial
   ·try simp only [Cz] at c2
    have hij : i0 = i1 := by omega
    subst hij
    refine ACode.exit ?_
    refine Sz ?_
    refine Rz [0, 1, 2, 3, 4, 5] Kz rfl ?_
    refine Mz ?_
    refine Mz ?_
    refine Mz ?_
    refine Oz rfl rfl rfl (AOp.bin' (z := u64 ((bs.getD i0 0).toNat % 128 * 128 ^ i0)) rfl rfl rfl (show some (Value.int .u64 (IntKind.u64.wrap ((((bs.getD i0 0).toNat % 128 : Nat) : Int) * ((128 ^ i0 : Nat) : Int)))) = _ by rw [← Int.natCast_mul, wrapN _ h64.2.2]) ?_)
    refine Oz rfl rfl rfl (AOp.bin' (z := u64 (acc bs (i0 + 1))) rfl rfl rfl (show some (Value.int .u64 (IntKind.u64.wrap ((acc bs i0 : Int) + (((bs.getD i0 0).toNat % 128 * 128 ^ i0 : Nat) : Int)))) = _ by rw [← Int.natCast_add]; exact congrArg (fun z => some (Value.int .u64 z)) (wrapN (acc bs (i0 + 1)) h64.2.1)) ?_)
    refine Nz ?_
    refine Ez ?_
    refine Sz ?_
    obtain ⟨n14_2, o14_2, s14_2, hq14_2, hp14_2⟩ := slcElD bv (i := i0) 0 hs.cells hil
    refine Rz [0, 1, 2, 3, 4] Kz rfl ?_
    refine Mz ?_
    refine Mz ?_
    refine Oz rfl rfl rfl (AOp.indexP (aslcAt_sub subA hq14_2) rfl rfl rfl ?_)
    refine Oz rfl rfl rfl (AOp.loadP0 (hp14_2.sub subA) rfl rfl rfl ?_)
    refine Oz rfl rfl rfl (AOp.bin' rfl rfl rfl rfl ?_)
    refine Ez ?_
    refine ACode.cond rfl (fun c3 => ?_) (fun c3 => ?_)
    ·try simp only [Cz] at c3
     have c8 : (bs.getD i0 0).toNat < 128 := by omega
     refine Sz ?_
     refine Rz [0, 1, 2, 3, 4, 5] Kz rfl ?_
     refine Mz ?_
     refine Mz ?_
     refine Oz rfl rfl rfl (AOp.add rfl rfl rfl (i64_wrap Wz Wz) ?_)
     refine Nz ?_
     refine Nz ?_
     refine Nz ?_
     refine Ez ?_
     refine ACode.ret ?_
     rw [hxL0.end_ hil c9 c8]
     exact RetQ.three rfl rfl rfl rfl subA stays (fun hk => ⟨rfl, rfl, by omega⟩)
    ·try simp only [Cz] at c3
     have c8 : ¬ (bs.getD i0 0).toNat < 128 := by omega
     refine ACode.skip ?_
     refine Rz [0, 1, 2] Kz rfl ?_
     refine Mz ?_
     refine Oz rfl rfl rfl (AOp.add rfl rfl rfl (i64_wrap Wz Wz) ?_)
     refine Nz ?_
     refine Ez ?_
     first | refine thenA_n ?_ | simp only [thenA, blockA, if_true]
     exact NextR.mk Wz Wz (.cons rfl (.cons (show _ = some (Value.int .i64 (((i0 + 1 : Nat)) : Int)) from rfl) .nil)) (.cons rfl .nil) subA (hxL0.next Wz c9 c8)
 ·try simp only [Cz] at c0
  have hlen : i0 = bs.length := by omega
  subst hlen
  refine ACode.exit ?_
  refine Sz ?_
  refine Rz [0, 1, 2] Kz rfl ?_
  refine Nz ?_
  refine Nz ?_
  refine Nz ?_
  refine Ez ?_
  refine ACode.ret ?_
  rw [hxL0.nil]
  exact RetQ.three rfl rfl rfl rfl subA stays (fun hk => ⟨rfl, rfl, by omega⟩)
end

end Go.Proofs.YteoofihjmldllaaGreatDoor
