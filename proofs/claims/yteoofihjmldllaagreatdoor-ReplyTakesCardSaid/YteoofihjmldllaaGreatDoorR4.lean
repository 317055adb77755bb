/- Contracts over the abstract states: the reference's reader: bytes, blobs, short numbers. -/
import Derived.Test.YteoofihjmldllaaGreatDoorR3
set_option linter.unusedVariables false
set_option linter.unusedSimpArgs false
set_option maxRecDepth 100000
namespace Go.Proofs.YteoofihjmldllaaGreatDoor
open Go Go.Ab

theorem sub_two {X : Hp} {q : Nat} {x g : Option Blk} : Ab.Sub (upd X q g) (upd (upd X q x) q g) := fun m b hm => by
 by_cases h : m = q
 ·subst h; rw [upd_same] at hm ⊢; exact hm
 ·rw [upd_other _ _ h] at hm ⊢; exact (upd_other _ _ h).trans hm
section
variable (H : Hp) (k : Nat)

theorem rtake (n c : Nat) (A : Option Addr) (r : Rd) (hR : RfN H n A c r) (m : Nat) (hm : m < 9223372036854775808) : ACalls Tryz.prog 2 74 [ptr n 0 none, .int .i64 (m : Int)] H k (fun v H' k' => NewS H' k k' (r.take m).1 v ∧ RfP H k n A c (r.take m).2 H' k') := by
 refine ACalls.fresh fun hf => ?_
 refine ACalls.body Tryz.func74 rfl (Nat.le_of_ble_eq_true rfl) ?_
 have hn := hR.hn
 have hnk := old_lt hf hn
 have hok := hR.ok
 have hal := hok.at_le
 have hle := hok.len
 have hlf : r.left = (r.bs.length : Int) - (r.at_ : Int) := rfl
 refine Sz ?_
 refine Rz [0] Kz rfl ?_
 refine Nz ?_
 refine Ez ?_
 refine Sz ?_
 refine Sz ?_
 refine Rz [0, 1, 2, 3, 4] Kz rfl ?_
 refine Mz ?_
 refine Oz rfl rfl rfl (AOp.nilCheck' rfl rfl ?_)
 refine Fz ?_
 refine Oz rfl rfl rfl ?_
 refine AOp.load1 (b := ?b1) (v := ?v1) rfl rfl ?hn1 ?hv1 ?hR1
 (case hn1 => exact hpA)
 (case hv1 => rfl)
 refine Oz rfl rfl rfl (AOp.bin' rfl rfl rfl rfl ?_)
 refine Ez ?_
 refine ACode.cond rfl (fun c0 => ?_) (fun c0 => ?_)
 ·try simp only [Cz] at c0
  refine Sz ?_
  refine Rz [0] Kz rfl ?_
  refine Nz ?_
  refine Ez ?_
  refine ACode.ret ?_
  try simp only [thenA, blockA, if_true]
  rw [show r.take m = ([], r) from if_pos c0]
  exact RetQ.one rfl rfl (sub_refl _) (RfP.refl hf hR (Nat.le_refl k)).stays (fun hk => ⟨NewS.none_, RfP.refl hf hR Wz⟩)
 ·try simp only [Cz] at c0
  have c0 : r.e = 0 := by simpa using c0
  refine ACode.skip ?_
  refine Sz ?_
  refine Sz ?_
  refine Rz [0, 1] Kz rfl ?_
  refine Mz ?_
  refine Oz rfl rfl rfl (AOp.bin' rfl rfl rfl rfl ?_)
  refine Ez ?_
  refine ACode.cond rfl (fun c1 => absurd c1 (by simp at c1; omega)) (fun c1 => ?_)
  refine ACode.skip ?_
  refine Sz ?_
  refine Sz ?_
  refine ACode.draw' 12 [(0, 14), (1, 15), (2, 16), (3, 17), (4, 18), (5, 19), (6, 20), (7, 21), (8, 22), (9, 23), (10, 24), (11, 25)] mixed Kz ?_
  refine Draw.step [(1, none)] rfl Kz rfl (fun kq hkq => AOp.move' (.inl rfl) rfl Vz) ?_
  refine Draw.step [(0, none)] rfl Kz rfl (fun kq hkq => AOp.move' (.inl rfl) rfl Vz) ?_
  refine Draw.step [(15, some 1)] rfl Kz rfl (fun kq hkq => AOp.nilCheck' rfl rfl Vz) ?_
  refine Draw.step [(16, some 2)] rfl Kz rfl (fun kq hkq => AOp.fieldAddr' rfl Dz rfl Vz) ?_
  refine Draw.step [(17, some 3)] rfl Kz rfl (fun kq hkq => (by refine AOp.load1 (b := ?b2) (v := ?v2) rfl rfl ?hn2 ?hv2 ?hR2; (case hn2 => exact hpA); (case hv2 => rfl); exact Vz)) ?_
  refine Draw.step [(18, some 4)] rfl Kz rfl (fun kq hkq => AOp.len' rfl rfl Vz) ?_
  refine Draw.step [(0, none)] rfl Kz rfl (fun kq hkq => AOp.move' (.inl rfl) rfl Vz) ?_
  refine Draw.step [(20, some 6)] rfl Kz rfl (fun kq hkq => AOp.nilCheck' rfl rfl Vz) ?_
  refine Draw.step [(21, some 7)] rfl Kz rfl (fun kq hkq => AOp.fieldAddr' rfl Dz rfl Vz) ?_
  refine Draw.step [(22, some 8)] rfl Kz rfl (fun kq hkq => (by refine AOp.load1 (b := ?b3) (v := ?v3) rfl rfl ?hn3 ?hv3 ?hR3; (case hn3 => exact hpA); (case hv3 => rfl); exact Vz)) ?_
  refine Draw.step [(19, some 5), (23, some 9)] rfl Kz rfl (fun kq hkq => AOp.sub rfl rfl rfl (i64_wrap Wz Wz) Vz) ?_
  refine Draw.step [(14, some 0), (24, some 10)] rfl Kz rfl (fun kq hkq => AOp.bin' rfl rfl rfl rfl Vz) ?_
  refine Draw.done fun kq hkq => ?_
  show aOps _ _ _ _ [] ⟨_, _, _⟩
  refine Ez ?_
  refine ACode.cond rfl (fun c2 => ?_) (fun c2 => ?_)
  ·try simp only [Cz] at c2
   refine Sz ?_
   refine Rz [0, 1] Kz rfl ?_
   refine Mz ?_
   refine Oz rfl rfl rfl ?_
   refine AOp.call' rfl rfl rfl (rfail _ _ n c A r (hR.sub subA) 2 Dz Dz) ?_
   rintro _ HL2 k2 ⟨rfl, hP2⟩
   have hk2 := hP2.1
   have hfL2 := hP2.2.1
   have hsL2 := hP2.2.2.1
   have hR2 := hP2.2.2.2
   have hn2 := hR2.hn
   have thsL2 := SubS.of hsL2
   refine Ez (Sz (Rz [0] Kz rfl ?_))
   refine Nz ?_
   refine Ez ?_
   refine ACode.ret ?_
   try simp only [thenA, blockA, if_true]
   rw [show r.take m = ([], r.fail 2) by rw [Rd.take, if_neg (fun h => h c0), if_pos Wz]]
   exact RetQ.one rfl rfl (sub_refl _) hP2.stays (fun hk => ⟨NewS.none_, hP2.at_ Wz Wz⟩)
  ·try simp only [Cz] at c2
   refine ACode.skip ?_
   refine Sz ?_
   refine Rz [0, 1, 2, 3, 4, 5, 6, 7, 8, 9] Kz rfl ?_
   refine Mz ?_
   refine Mz ?_
   refine Oz rfl rfl rfl (AOp.nilCheck' rfl rfl ?_)
   refine Fz ?_
   refine Oz rfl rfl rfl ?_
   refine AOp.load1 (b := ?b4) (v := ?v4) rfl rfl ?hn4 ?hv4 ?hR4
   (case hn4 => exact hpA)
   (case hv4 => rfl)
   refine Mz ?_
   refine Oz rfl rfl rfl (AOp.add rfl rfl rfl (i64_wrap Wz Wz) ?_)
   refine Oz rfl rfl rfl (AOp.nilCheck' rfl rfl ?_)
   refine Fz ?_
   refine aOps_0 rfl rfl rfl ?_
   refine AOp.store1 (b := ?b5) rfl rfl rfl ?hn5 ?hk5 rfl rfl ?hl5 ?hR5
   (case hn5 => exact hpA)
   (case hk5 => rfl)
   (case hl5 => first | (simp; done) | exact Nat.le_of_ble_eq_true rfl)
   refine Ez ?_
   refine Sz ?_
   obtain ⟨A10_15, c10_15, hq10_15, hs10_15⟩ := SLC.cutB ((hR.hs.away hR.hA).sub subA) r.at_ (r.at_ + m) Wz Wz
   refine ACode.drawM0 16 [(0, 37), (1, 38), (2, 39), (3, 40), (4, 41), (5, 42), (6, 43), (7, 44), (8, 45), (9, 46), (10, 47), (11, 48), (12, 49), (13, 50), (14, 51), (15, 52)] [0] [([0], []), ([], []), ([], []), ([], []), ([], []), ([], []), ([], []), ([], []), ([], []), ([], []), ([], []), ([], []), ([], []), ([], []), ([], []), ([], [])] mixed Kz Kz Dz ?_
   refine DrawM.new 0 _ _ [] rfl Dz rfl Kz rfl rfl RenOk.grow (fun Hc kq hkq hF hSb hfr => AOp.buildB [] rfl Dz rfl rfl ⟨kq, Nat.le_refl _, Nat.lt_succ_self _, rfl, rfl⟩) ?_
   refine DrawM.q 1 [(0, none)] rfl rfl Kz rfl rfl (fun Hc kq hkq hF hSb hfr => AOp.move' (.inl rfl) rfl Vz) ?_
   refine DrawM.q 2 [(38, some 1)] rfl rfl Kz rfl rfl (fun Hc kq hkq hF hSb hfr => AOp.nilCheck' rfl rfl Vz) ?_
   refine DrawM.q 3 [(39, some 2)] rfl rfl Kz rfl rfl (fun Hc kq hkq hF hSb hfr => AOp.fieldAddr' rfl Dz rfl Vz) ?_
   refine DrawM.q 4 [(40, some 3)] rfl rfl Kz rfl rfl (fun Hc kq hkq hF hSb hfr => have tSb := SubS.of hSb; (by refine AOp.load1 (b := ?b6) (v := ?v6) rfl rfl ?hn6 ?hv6 ?hR6; (case hn6 => exact hpA); (case hv6 => rfl); exact Vz)) ?_
   refine DrawM.q 5 [(0, none)] rfl rfl Kz rfl rfl (fun Hc kq hkq hF hSb hfr => AOp.move' (.inl rfl) rfl Vz) ?_
   refine DrawM.q 6 [(42, some 5)] rfl rfl Kz rfl rfl (fun Hc kq hkq hF hSb hfr => AOp.nilCheck' rfl rfl Vz) ?_
   refine DrawM.q 7 [(43, some 6)] rfl rfl Kz rfl rfl (fun Hc kq hkq hF hSb hfr => AOp.fieldAddr' rfl Dz rfl Vz) ?_
   refine DrawM.q 8 [(44, some 7)] rfl rfl Kz rfl rfl (fun Hc kq hkq hF hSb hfr => have tSb := SubS.of hSb; (by refine AOp.load1 (b := ?b7) (v := ?v7) rfl rfl ?hn7 ?hv7 ?hR7; (case hn7 => exact hpA); (case hv7 => rfl); exact Vz)) ?_
   refine DrawM.q 9 [(1, none)] rfl rfl Kz rfl rfl (fun Hc kq hkq hF hSb hfr => AOp.move' (.inl rfl) rfl Vz) ?_
   refine DrawM.q 10 [(45, some 8), (46, some 9)] rfl rfl Kz rfl rfl (fun Hc kq hkq hF hSb hfr => AOp.sub rfl rfl rfl (i64_wrap Wz Wz) Vz) ?_
   rw [show (r.at_ : Int) + (m : Int) - (m : Int) = (r.at_ : Int) by omega]
   refine DrawM.q 11 [(0, none)] rfl rfl Kz rfl rfl (fun Hc kq hkq hF hSb hfr => AOp.move' (.inl rfl) rfl Vz) ?_
   refine DrawM.q 12 [(48, some 11)] rfl rfl Kz rfl rfl (fun Hc kq hkq hF hSb hfr => AOp.nilCheck' rfl rfl Vz) ?_
   refine DrawM.q 13 [(49, some 12)] rfl rfl Kz rfl rfl (fun Hc kq hkq hF hSb hfr => AOp.fieldAddr' rfl Dz rfl Vz) ?_
   refine DrawM.q 14 [(50, some 13)] rfl rfl Kz rfl rfl (fun Hc kq hkq hF hSb hfr => have tSb := SubS.of hSb; (by refine AOp.load1 (b := ?b8) (v := ?v8) rfl rfl ?hn8 ?hv8 ?hR8; (case hn8 => exact hpA); (case hv8 => rfl); exact Vz)) ?_
   refine DrawM.q 15 [(41, some 4), (47, some 10), (51, some 14)] rfl rfl Kz rfl rfl (fun Hc kq hkq hF hSb hfr => have tSb := SubS.of hSb; AOp.cutQ (aslice_sub subA hq10_15) rfl rfl (bnd_at rfl rfl) (bnd_at rfl rfl) mx_no Vz) ?_
   refine DrawM.done fun kq hkq => ?_
   show aOps _ _ _ _ [16, 17] ⟨_, (upd _ (_ + 0) _), _⟩
   have e2 : (r.bs.drop r.at_).take (r.at_ + m - r.at_) = r.rest.take m := by rw [Nat.add_sub_cancel_left]; rfl
   rw [e2] at hs10_15 ⊢
   have hl2 : (r.rest.take m).length ≤ 1000000000 := by rw [List.length_take, r.rest_len]; omega
   refine Oz rfl rfl rfl ?_
   refine AOp.appendB (ps := ?ns9) rfl rfl rfl ?hn9 ?hsrc9 ?ht9 ?hw9 ?hz9 ?hR9
   (case hn9 => exact hpA)
   (case hsrc9 => refine srcOf_slc (SLC.sub hs10_15 ?_).cells; exact subA)
   (case ht9 => exact srcOk_sl)
   (case hw9 => (first | omega | (simp only [List.length_cons, List.length_nil]; omega) | (simp only [List.length_append, List.length_cons, List.length_nil]; omega) | (simp; omega)))
   (case hz9 => (first | omega | (simp only [List.length_cons, List.length_nil]; omega) | (simp only [List.length_append, List.length_cons, List.length_nil]; omega) | (simp; omega)))
   refine Nz ?_
   refine Ez ?_
   refine ACode.ret ?_
   try simp only [thenA, blockA, if_true]
   have e1 : r.take m = (r.rest.take m, { r with at_ := r.at_ + m }) := by rw [Rd.take, if_neg (fun h => h c0), if_neg Wz]
   have hto := Rd.take_ok hok m
   rw [e1] at hto ⊢
   rename_i kq1 hkq1
   have hP0 := (RfP.refl hf hR (Nat.le_refl k)).turn (r2 := { r with at_ := r.at_ + m }) rfl hto.1 (x := (r.at_ : Int) + (m : Int)) rfl rfl rfl
   have hs1 := sub_upd' (b := gbk 5 (r.rest.take m)) (sub_refl (upd H n (some { cells := [.slice A r.bs.length c, .int .i64 ((r.at_ : Int) + (m : Int)), .int .i64 r.e, .int .i64 r.on], elem := 86, kind := .fix }))) (Uz (hf kq1 Wz))
   have hP3 := hP0.grow hs1 (k2 := kq) (fun m hm => Uz (Uz (hf m Wz))) Wz
   exact RetQ.one rfl rfl sub_two hP3.stays (fun hk => ⟨⟨_, _, rfl, SLC.gb (upd_same _ _ _), fun a ha => by cases ha; exact ⟨by show k ≤ kq1; omega, by show kq1 < kq; omega⟩⟩, hP3⟩)

theorem rfix1 (n c : Nat) (A : Option Addr) (r : Rd) (hR : RfN H n A c r) : ACalls Tryz.prog 2 46 [ptr n 0 none, .int .i64 1] H k (fun v H' k' => v = u64 r.fix1.1 ∧ RfP H k n A c r.fix1.2 H' k') := by
 refine ACalls.fresh fun hf => ?_
 refine ACalls.body Tryz.func46 rfl (Nat.le_of_ble_eq_true rfl) ?_
 have hn := hR.hn
 have hnk := old_lt hf hn
 have hok := hR.ok
 have hal := hok.at_le
 have hle := hok.len
 refine Sz ?_
 refine Rz [0] Kz rfl ?_
 refine Nz ?_
 refine Ez ?_
 refine Sz ?_
 refine Sz ?_
 refine Rz [0, 1, 2, 3, 4, 5] Kz rfl ?_
 refine Mz ?_
 refine Oz rfl rfl rfl (AOp.bin' rfl rfl rfl rfl ?_)
 refine Mz ?_
 refine aOps_gd0 rfl rfl (wantF rfl rfl rfl) (fun hc => AOp.slots [(1, _)] (.cons rfl .nil) (AOp.move' (.inl rfl) rfl Tz)) ?_
 refine aOps_gd0 rfl rfl (wantF rfl rfl rfl) (fun hc => AOp.slots [(11, _)] (.cons (gvT rfl hc) .nil) (AOp.bin' rfl rfl rfl rfl Tz)) ?_
 refine Oz rfl rfl rfl (AOp.pickOr rfl rfl rfl (fun hb => gvE rfl (t_not hb)) ?_)
 refine Ez ?_
 refine ACode.cond rfl (fun c0 => absurd c0 (by simp at c0)) (fun c0 => ?_)
 refine ACode.skip ?_
 refine Sz ?_
 refine Rz [0, 1, 2, 3] Kz rfl ?_
 refine Mz ?_
 refine Mz ?_
 refine Oz rfl rfl rfl ?_
 refine AOp.call' rfl rfl rfl (rtake _ _ n c A r (hR.sub subA) 1 Dz) ?_
 rintro _ HL3 k3 ⟨⟨Aq, cq, rfl, hq3, hqa⟩, hP3⟩
 have hsL3 := hP3.2.2.1
 have hfL3 := hP3.2.1
 have hk3 := hP3.1
 have hl1 := (Rd.take_ok hok 1).2.1
 have hl2 : (r.take 1).1.length = 0 ∨ (r.take 1).1.length = 1 := by omega
 have thsL3 := SubS.of hsL3
 refine Nz ?_
 refine Ez (Sz (Rz [0] Kz rfl ?_))
 refine Nz ?_
 refine Ez ?_
 refine Sz ?_
 refine Sz ?_
 refine Rz [0, 1, 2, 3] Kz rfl ?_
 refine Mz ?_
 refine Oz rfl rfl rfl (AOp.len' rfl rfl ?_)
 refine Oz rfl rfl rfl (AOp.sub rfl rfl rfl (i64_wrap Wz Wz) ?_)
 refine Nz ?_
 refine Ez ?_
 refine ACode.block ?_
 refine ACode.count0 (fun i => [(6, u64 (if i = 0 then 0 else ((r.take 1).1.getD 0 0).toNat)), (7, .int .i64 (((r.take 1).1.length : Int) - 1 - (i : Int)))]) [(4, _), (5, _)] ((r.take 1).1.length) (fun _ => True) (.cons rfl (.cons (show _ = some (Value.int .i64 (((r.take 1).1.length : Int) - 1 - ((0 : Nat) : Int))) by rw [Int.natCast_zero, Int.sub_zero]; rfl) .nil)) (.cons rfl (.cons rfl .nil)) trivial (fun i0 kL0 HL0 hiL0 hkL0 hsL0 hfL0 hxL0 => ?_)
 show ACode _ _ _ _ _ ⟨_, _, _⟩
 have tsL0 := SubS.of hsL0
 refine Sz ?_
 refine Sz ?_
 refine Rz [0, 1] Kz rfl ?_
 refine Mz ?_
 refine Oz rfl rfl rfl (AOp.bin' rfl rfl rfl rfl ?_)
 refine Ez ?_
 refine ACode.cond rfl (fun c1 => ?_) (fun c1 => ?_)
 ·try simp only [Cz] at c1
  obtain rfl : i0 = 0 := by omega
  have h1 : (r.take 1).1.length = 1 := by omega
  rw [show ((r.take 1).1.length : Int) - 1 - ((0 : Nat) : Int) = ((0 : Nat) : Int) by omega]
  refine ACode.skip ?_
  refine Sz ?_
  refine ACode.block ?_
  obtain ⟨n9_4, o9_4, s9_4, hq9_4, hp9_4⟩ := slcElD bv (i := 0) 0 hq3.cells Wz
  refine Rz [0, 1, 2, 3, 4, 5, 6, 7, 8] Kz rfl ?_
  refine Mz ?_
  refine Oz rfl rfl rfl (AOp.bin' (z := u64 0) rfl rfl rfl rfl ?_)
  refine Mz ?_
  refine Mz ?_
  refine Oz rfl rfl rfl (AOp.indexP (aslcAt_sub subA hq9_4) rfl rfl rfl ?_)
  refine Oz rfl rfl rfl (AOp.loadP0 (hp9_4.sub subA) rfl rfl rfl ?_)
  refine Oz rfl rfl rfl (AOp.convU64 rfl rfl (by have := UInt8.toNat_lt ((r.take 1).1.getD 0 0); omega) ?_)
  refine Oz rfl rfl rfl (AOp.bin' (z := u64 ((r.take 1).1.getD 0 0).toNat) rfl rfl rfl (show some (Value.int .u64 (IntKind.u64.wrap (0 + (((r.take 1).1.getD 0 0).toNat : Int)))) = _ by rw [Int.zero_add, wrapN _ (Nat.lt_of_lt_of_le (UInt8.toNat_lt _) Dz)]) ?_)
  refine Nz ?_
  refine Ez ?_
  refine Rz [0, 1, 2] Kz rfl ?_
  refine Mz ?_
  refine Oz rfl rfl rfl (AOp.sub rfl rfl rfl (i64_wrap Wz Wz) ?_)
  refine Nz ?_
  refine Ez ?_
  first | refine thenA_n ?_ | simp only [thenA, blockA, if_true]
  exact NextR.mk Wz Wz (.cons rfl (.cons (show _ = some (Value.int .i64 (((r.take 1).1.length : Int) - 1 - ((0 + 1 : Nat) : Int))) by rw [show ((r.take 1).1.length : Int) - 1 - ((0 + 1 : Nat) : Int) = ((0 : Nat) : Int) - 1 by omega]; rfl) .nil)) (.cons rfl (.cons rfl .nil)) subA trivial
 ·try simp only [Cz] at c1
  refine ACode.exit ?_
  refine Sz ?_
  refine Rz [0, 1] Kz rfl ?_
  refine Mz ?_
  refine Nz ?_
  refine Ez ?_
  refine ACode.ret ?_
  try simp only [thenA, blockA, if_true]
  have e1 : (if i0 = 0 then 0 else ((r.take 1).1.getD 0 0).toNat) = r.fix1.1 := by
   have hi : i0 = (r.take 1).1.length := by omega
   rw [hi]
   unfold Rd.fix1
   cases (r.take 1).1 <;> rfl
  rw [e1]
  exact RetQ.one rfl rfl (sub_refl _) (hP3.grow hsL0 hfL0 Wz).stays (fun hk => ⟨rfl, (hP3.grow hsL0 hfL0 Wz).at_ Wz Wz⟩)

theorem rvar (n c : Nat) (A : Option Addr) (r : Rd) (hR : RfN H n A c r) : ACalls Tryz.prog 2 73 [ptr n 0 none] H k (fun v H' k' => v = u64 r.var.1 ∧ RfP H k n A c r.var.2 H' k') := by
 refine ACalls.fresh fun hf => ?_
 refine ACalls.body Tryz.func73 rfl (Nat.le_of_ble_eq_true rfl) ?_
 have hn := hR.hn
 have hnk := old_lt hf hn
 have hok := hR.ok
 have hal := hok.at_le
 have hle := hok.len
 obtain ⟨hlk1, hlk2, hlk3, hlk4⟩ := look_facts r.rest
 have hrl := r.rest_len
 refine Sz ?_
 refine Rz [0] Kz rfl ?_
 refine Nz ?_
 refine Ez ?_
 refine Sz ?_
 refine Sz ?_
 refine Rz [0, 1, 2, 3, 4] Kz rfl ?_
 refine Mz ?_
 refine Oz rfl rfl rfl (AOp.nilCheck' rfl rfl ?_)
 refine Fz ?_
 refine Oz rfl rfl rfl ?_
 refine AOp.load1 (b := ?b10) (v := ?v10) rfl rfl ?hn10 ?hv10 ?hR10
 (case hn10 => exact hpA)
 (case hv10 => rfl)
 refine Oz rfl rfl rfl (AOp.bin' rfl rfl rfl rfl ?_)
 refine Ez ?_
 refine ACode.cond rfl (fun c0 => ?_) (fun c0 => ?_)
 ·try simp only [Cz] at c0
  refine Sz ?_
  refine Rz [0] Kz rfl ?_
  refine Nz ?_
  refine Ez ?_
  refine ACode.ret ?_
  try simp only [thenA, blockA, if_true]
  rw [show r.var = (0, r) from if_pos c0]
  exact RetQ.one rfl rfl (sub_refl _) (RfP.refl hf hR (Nat.le_refl k)).stays (fun hk => ⟨rfl, RfP.refl hf hR Wz⟩)
 ·try simp only [Cz] at c0
  have c0 : r.e = 0 := by simpa using c0
  refine ACode.skip ?_
  refine Sz ?_
  obtain ⟨A3_8, c3_8, hq3_8, hs3_8⟩ := SLC.cutE (hR.hs.sub subA) r.at_ hal
  refine ACode.draw' 17 [(0, 12), (1, 13), (2, 14), (3, 15), (4, 16), (5, 17), (6, 18), (7, 19), (8, 20), (9, 21), (10, 11), (11, 22), (12, 23), (13, 24), (14, 3), (15, 4), (16, 5)] mixed Kz ?_
  refine Draw.step [(0, none)] rfl Kz rfl (fun kq hkq => AOp.move' (.inl rfl) rfl Vz) ?_
  refine Draw.step [(12, some 0)] rfl Kz rfl (fun kq hkq => AOp.nilCheck' rfl rfl Vz) ?_
  refine Draw.step [(13, some 1)] rfl Kz rfl (fun kq hkq => AOp.fieldAddr' rfl Dz rfl Vz) ?_
  refine Draw.step [(14, some 2)] rfl Kz rfl (fun kq hkq => (by refine AOp.load1 (b := ?b11) (v := ?v11) rfl rfl ?hn11 ?hv11 ?hR11; (case hn11 => exact hpA); (case hv11 => rfl); exact Vz)) ?_
  refine Draw.step [(0, none)] rfl Kz rfl (fun kq hkq => AOp.move' (.inl rfl) rfl Vz) ?_
  refine Draw.step [(16, some 4)] rfl Kz rfl (fun kq hkq => AOp.nilCheck' rfl rfl Vz) ?_
  refine Draw.step [(17, some 5)] rfl Kz rfl (fun kq hkq => AOp.fieldAddr' rfl Dz rfl Vz) ?_
  refine Draw.step [(18, some 6)] rfl Kz rfl (fun kq hkq => (by refine AOp.load1 (b := ?b12) (v := ?v12) rfl rfl ?hn12 ?hv12 ?hR12; (case hn12 => exact hpA); (case hv12 => rfl); exact Vz)) ?_
  refine Draw.step [(15, some 3), (19, some 7)] rfl Kz rfl (fun kq hkq => AOp.cutQ (aslice_sub subA hq3_8) rfl rfl (bnd_at rfl rfl) (bnd_no rfl) mx_no Vz) ?_
  refine Draw.step [(20, some 8)] rfl Kz rfl (fun kq hkq => AOp.call' rfl rfl rfl (rlook _ _ _ _ r.rest (hs3_8.sub subA) Wz) Iz) ?_
  refine Draw.step [(21, some 9)] rfl Kz rfl (fun kq hkq => AOp.move' (.inl rfl) rfl Vz) ?_
  refine Draw.step [(11, some 10)] rfl Kz rfl (fun kq hkq => AOp.extract' rfl rfl rfl Vz) ?_
  refine Draw.step [(11, some 10)] rfl Kz rfl (fun kq hkq => AOp.extract' rfl rfl rfl Vz) ?_
  refine Draw.step [(11, some 10)] rfl Kz rfl (fun kq hkq => AOp.extract' rfl rfl rfl Vz) ?_
  refine Draw.step [(22, some 11)] rfl Kz rfl (fun kq hkq => AOp.move' (.inr rfl) rfl Vz) ?_
  refine Draw.step [(23, some 12)] rfl Kz rfl (fun kq hkq => AOp.move' (.inr rfl) rfl Vz) ?_
  refine Draw.step [(24, some 13)] rfl Kz rfl (fun kq hkq => AOp.move' (.inr rfl) rfl Vz) ?_
  refine Draw.done fun kq hkq => ?_
  show aOps _ _ _ _ [] ⟨_, _, _⟩
  refine Ez (Sz (Rz [0, 1, 2] Kz rfl ?_))
  refine Mz ?_
  refine Mz ?_
  refine Oz rfl rfl rfl ?_
  refine AOp.call' rfl rfl rfl (rfail _ _ n c A r (hR.sub subA) (look r.rest).2.2 Wz Wz) ?_
  rintro _ HL2 k2 ⟨rfl, hP2⟩
  have hk2 := hP2.1
  have hfL2 := hP2.2.1
  have hsL2 := hP2.2.2.1
  have hR2 := hP2.2.2.2
  have hn2 := hR2.hn
  have thsL2 := SubS.of hsL2
  simp only [rfBlk, Rd.fail_bs, Rd.fail_at] at hn2
  refine Ez (Sz (Rz [0, 1, 2, 3, 4, 5, 6, 7, 8, 9] Kz rfl ?_))
  refine Mz ?_
  refine Mz ?_
  refine Oz rfl rfl rfl (AOp.nilCheck' rfl rfl ?_)
  refine Fz ?_
  refine Oz rfl rfl rfl ?_
  refine AOp.load1 (b := ?b13) (v := ?v13) rfl rfl ?hn13 ?hv13 ?hR13
  (case hn13 => exact hpA)
  (case hv13 => rfl)
  refine Mz ?_
  refine Oz rfl rfl rfl (AOp.add rfl rfl rfl (i64_wrap Wz Wz) ?_)
  refine Oz rfl rfl rfl (AOp.nilCheck' rfl rfl ?_)
  refine Fz ?_
  refine aOps_0 rfl rfl rfl ?_
  refine AOp.store1 (b := ?b14) rfl rfl rfl ?hn14 ?hk14 rfl rfl ?hl14 ?hR14
  (case hn14 => exact hpA)
  (case hk14 => rfl)
  (case hl14 => first | (simp; done) | exact Nat.le_of_ble_eq_true rfl)
  refine Ez (Sz (Rz [0, 1] Kz rfl ?_))
  refine Mz ?_
  refine Nz ?_
  refine Ez ?_
  refine ACode.ret ?_
  have e1 : r.var = ((look r.rest).1, { r.fail (look r.rest).2.2 with at_ := r.at_ + (look r.rest).2.1 }) := if_neg (fun h => h c0)
  have hvo := (Rd.var_ok hok).1
  rw [e1] at hvo ⊢
  have hP3 := hP2.turn (r2 := { r.fail (look r.rest).2.2 with at_ := r.at_ + (look r.rest).2.1 }) rfl hvo (x := (r.at_ : Int) + ((look r.rest).2.1 : Int)) rfl rfl rfl
  rw [Rd.fail_bs] at hP3
  try simp only [thenA, blockA, if_true]
  exact RetQ.one rfl rfl (sub_refl _) (hP3).stays (fun hk => ⟨rfl, (hP3).at_ Wz Wz⟩)

theorem rblob (n c : Nat) (A : Option Addr) (r : Rd) (hR : RfN H n A c r) (m : Nat) (hm : m < 9223372036854775808) : ACalls Tryz.prog 2 49 [ptr n 0 none, .int .i64 (m : Int)] H k (fun v H' k' => NewS H' k k' (r.blob m).1 v ∧ RfP H k n A c (r.blob m).2 H' k') := by
 refine ACalls.fresh fun hf => ?_
 refine ACalls.body Tryz.func49 rfl (Nat.le_of_ble_eq_true rfl) ?_
 have hn := hR.hn
 have hnk := old_lt hf hn
 have hok := hR.ok
 have hal := hok.at_le
 have hle := hok.len
 obtain ⟨hlk1, hlk2, hlk3, hlk4⟩ := look_facts r.rest
 have hrl := r.rest_len
 have hlf : r.left = (r.bs.length : Int) - (r.at_ : Int) := rfl
 have hbl : blobE r m = if (look r.rest).2.2 ≠ 0 then (look r.rest).2.2 else if (look r.rest).1 > m then 12 else if ((look r.rest).1 : Int) > r.left - ((look r.rest).2.1 : Int) then 2 else 0 := rfl
 have hw : IntKind.u64.wrap ((r.bs.length : Int) - (r.at_ : Int) - ((look r.rest).2.1 : Int)) = r.left - ((look r.rest).2.1 : Int) := by rw [IntKind.wrap_u64]; omega
 refine Sz ?_
 refine Rz [0] Kz rfl ?_
 refine Nz ?_
 refine Ez ?_
 refine Sz ?_
 refine Sz ?_
 refine Rz [0, 1, 2, 3, 4] Kz rfl ?_
 refine Mz ?_
 refine Oz rfl rfl rfl (AOp.nilCheck' rfl rfl ?_)
 refine Fz ?_
 refine Oz rfl rfl rfl ?_
 refine AOp.load1 (b := ?b15) (v := ?v15) rfl rfl ?hn15 ?hv15 ?hR15
 (case hn15 => exact hpA)
 (case hv15 => rfl)
 refine Oz rfl rfl rfl (AOp.bin' rfl rfl rfl rfl ?_)
 refine Ez ?_
 refine ACode.cond rfl (fun c0 => ?_) (fun c0 => ?_)
 ·try simp only [Cz] at c0
  refine Sz ?_
  refine Rz [0] Kz rfl ?_
  refine Nz ?_
  refine Ez ?_
  refine ACode.ret ?_
  try simp only [thenA, blockA, if_true]
  rw [show r.blob m = ([], r) from if_pos c0]
  exact RetQ.one rfl rfl (sub_refl _) (RfP.refl hf hR (Nat.le_refl k)).stays (fun hk => ⟨NewS.none_, RfP.refl hf hR Wz⟩)
 ·try simp only [Cz] at c0
  have c0 : r.e = 0 := by simpa using c0
  refine ACode.skip ?_
  refine Sz ?_
  obtain ⟨A3_8, c3_8, hq3_8, hs3_8⟩ := SLC.cutE (hR.hs.sub subA) r.at_ hal
  refine ACode.draw' 17 [(0, 14), (1, 15), (2, 16), (3, 17), (4, 18), (5, 19), (6, 20), (7, 21), (8, 22), (9, 23), (10, 13), (11, 24), (12, 25), (13, 26), (14, 5), (15, 6), (16, 7)] mixed Kz ?_
  refine Draw.step [(0, none)] rfl Kz rfl (fun kq hkq => AOp.move' (.inl rfl) rfl Vz) ?_
  refine Draw.step [(14, some 0)] rfl Kz rfl (fun kq hkq => AOp.nilCheck' rfl rfl Vz) ?_
  refine Draw.step [(15, some 1)] rfl Kz rfl (fun kq hkq => AOp.fieldAddr' rfl Dz rfl Vz) ?_
  refine Draw.step [(16, some 2)] rfl Kz rfl (fun kq hkq => (by refine AOp.load1 (b := ?b16) (v := ?v16) rfl rfl ?hn16 ?hv16 ?hR16; (case hn16 => exact hpA); (case hv16 => rfl); exact Vz)) ?_
  refine Draw.step [(0, none)] rfl Kz rfl (fun kq hkq => AOp.move' (.inl rfl) rfl Vz) ?_
  refine Draw.step [(18, some 4)] rfl Kz rfl (fun kq hkq => AOp.nilCheck' rfl rfl Vz) ?_
  refine Draw.step [(19, some 5)] rfl Kz rfl (fun kq hkq => AOp.fieldAddr' rfl Dz rfl Vz) ?_
  refine Draw.step [(20, some 6)] rfl Kz rfl (fun kq hkq => (by refine AOp.load1 (b := ?b17) (v := ?v17) rfl rfl ?hn17 ?hv17 ?hR17; (case hn17 => exact hpA); (case hv17 => rfl); exact Vz)) ?_
  refine Draw.step [(17, some 3), (21, some 7)] rfl Kz rfl (fun kq hkq => AOp.cutQ (aslice_sub subA hq3_8) rfl rfl (bnd_at rfl rfl) (bnd_no rfl) mx_no Vz) ?_
  refine Draw.step [(22, some 8)] rfl Kz rfl (fun kq hkq => AOp.call' rfl rfl rfl (rlook _ _ _ _ r.rest (hs3_8.sub subA) Wz) Iz) ?_
  refine Draw.step [(23, some 9)] rfl Kz rfl (fun kq hkq => AOp.move' (.inl rfl) rfl Vz) ?_
  refine Draw.step [(13, some 10)] rfl Kz rfl (fun kq hkq => AOp.extract' rfl rfl rfl Vz) ?_
  refine Draw.step [(13, some 10)] rfl Kz rfl (fun kq hkq => AOp.extract' rfl rfl rfl Vz) ?_
  refine Draw.step [(13, some 10)] rfl Kz rfl (fun kq hkq => AOp.extract' rfl rfl rfl Vz) ?_
  refine Draw.step [(24, some 11)] rfl Kz rfl (fun kq hkq => AOp.move' (.inr rfl) rfl Vz) ?_
  refine Draw.step [(25, some 12)] rfl Kz rfl (fun kq hkq => AOp.move' (.inr rfl) rfl Vz) ?_
  refine Draw.step [(26, some 13)] rfl Kz rfl (fun kq hkq => AOp.move' (.inr rfl) rfl Vz) ?_
  refine Draw.done fun kq hkq => ?_
  show aOps _ _ _ _ [] ⟨_, _, _⟩
  refine Ez ?_
  refine Sz ?_
  refine Sz ?_
  refine Rz [0, 1, 2, 3, 4, 5, 6, 7, 8, 9, 10, 11] Kz rfl ?_
  refine Mz ?_
  refine Oz rfl rfl rfl (AOp.bin' rfl rfl rfl rfl ?_)
  refine Mz ?_
  refine aOps_gd0 rfl rfl (wantT rfl rfl rfl) (fun hc => AOp.slots [(1, _)] (.cons rfl .nil) (AOp.move' (.inl rfl) rfl Tz)) ?_
  refine aOps_gd0 rfl rfl (wantT rfl rfl rfl) (fun hc => AOp.slots [(30, _)] (.cons (gvT rfl hc) .nil) (AOp.bin' rfl rfl rfl rfl Tz)) ?_
  refine aOps_gd0 rfl rfl (wantT rfl rfl rfl) (fun hc => AOp.slots [(31, _)] (.cons (gvT rfl hc) .nil) (AOp.move' (.inl rfl) rfl Tz)) ?_
  refine aOps_gd0 rfl rfl (wantGF rfl rfl rfl) (fun hc => AOp.slots [(5, _)] (.cons rfl .nil) (AOp.move' (.inl rfl) rfl Tz)) ?_
  refine aOps_gd0 rfl rfl (wantGF rfl rfl rfl) (fun hc => AOp.slots [(1, _)] (.cons rfl .nil) (AOp.move' (.inl rfl) rfl Tz)) ?_
  refine aOps_gd0 rfl rfl (wantGF rfl rfl rfl) (fun hc => AOp.slots [(34, _)] (.cons (gvT rfl hc) .nil) (AOp.convU64 rfl rfl Wz Tz)) ?_
  refine aOps_gd0 rfl rfl (wantGF rfl rfl rfl) (fun hc => AOp.slots [(33, _), (35, _)] (.cons (gvT rfl hc) (.cons (gvT rfl hc) .nil)) (AOp.bin' rfl rfl rfl rfl Tz)) ?_
  refine aOps_gd0 rfl rfl (wantT rfl rfl rfl) (fun hc => AOp.pickOr rfl rfl (gvE rfl hc) (fun hb => gvE rfl (and_mk hc (t_not hb))) Tz) ?_
  refine Oz rfl rfl rfl (AOp.pickAnd rfl rfl rfl (fun hb => gvE rfl hb) ?_)
  refine Ez ?_
  refine ACode.cond rfl (fun c1 => ?_) (fun c1 => ?_)
  ·try simp only [Cz] at c1
   have c1b : (look r.rest).2.2 = 0 ∧ (look r.rest).1 > m := by simp at c1; omega
   refine Rz [0] Kz rfl ?_
   refine Nz ?_
   refine Ez ?_
   refine Sz ?_
   refine Sz ?_
   refine ACode.draw' 19 [(0, 39), (1, 40), (2, 41), (3, 42), (4, 43), (5, 44), (6, 45), (7, 46), (8, 47), (9, 48), (10, 49), (11, 50), (12, 51), (13, 52), (14, 53), (15, 54), (16, 55), (17, 56), (18, 57)] mixed Kz ?_
   refine Draw.step [(7, none)] rfl Kz rfl (fun kq hkq => AOp.move' (.inl rfl) rfl Vz) ?_
   refine Draw.step [(39, some 0)] rfl Kz rfl (fun kq hkq => AOp.bin' rfl rfl rfl rfl Vz) ?_
   refine Draw.step [(40, some 1)] rfl Kz rfl (fun kq hkq => AOp.move' (.inl rfl) rfl Vz) ?_
   refine Draw.gd [(5, none), (41, some 2)] rfl Kz (wantT rfl rfl rfl) (fun kq hkq hc => AOp.slots [(5, _)] (.cons rfl .nil) (AOp.move' (.inl rfl) rfl Vz)) ?_
   refine Draw.gd [(0, none), (41, some 2)] rfl Kz (wantT rfl rfl rfl) (fun kq hkq hc => AOp.slots [(0, _)] (.cons rfl .nil) (AOp.move' (.inl rfl) rfl Vz)) ?_
   refine Draw.gd [(43, some 4), (41, some 2)] rfl Kz (wantT rfl rfl rfl) (fun kq hkq hc => AOp.slots [(43, _)] (.cons (gvT rfl hc) .nil) (AOp.nilCheck' rfl rfl Vz)) ?_
   refine Draw.gd [(44, some 5), (41, some 2)] rfl Kz (wantT rfl rfl rfl) (fun kq hkq hc => AOp.slots [(44, _)] (.cons (gvT rfl hc) .nil) (AOp.fieldAddr' rfl Dz rfl Vz)) ?_
   refine Draw.gd [(45, some 6), (41, some 2)] rfl Kz (wantT rfl rfl rfl) (fun kq hkq hc => AOp.slots [(45, _)] (.cons (gvT rfl hc) .nil) ((by refine AOp.load1 (b := ?b18) (v := ?v18) rfl rfl ?hn18 ?hv18 ?hR18; (case hn18 => exact hpA); (case hv18 => rfl); exact Vz))) ?_
   refine Draw.gd [(46, some 7), (41, some 2)] rfl Kz (wantT rfl rfl rfl) (fun kq hkq hc => AOp.slots [(46, _)] (.cons (gvT rfl hc) .nil) (AOp.len' rfl rfl Vz)) ?_
   refine Draw.gd [(0, none), (41, some 2)] rfl Kz (wantT rfl rfl rfl) (fun kq hkq hc => AOp.slots [(0, _)] (.cons rfl .nil) (AOp.move' (.inl rfl) rfl Vz)) ?_
   refine Draw.gd [(48, some 9), (41, some 2)] rfl Kz (wantT rfl rfl rfl) (fun kq hkq hc => AOp.slots [(48, _)] (.cons (gvT rfl hc) .nil) (AOp.nilCheck' rfl rfl Vz)) ?_
   refine Draw.gd [(49, some 10), (41, some 2)] rfl Kz (wantT rfl rfl rfl) (fun kq hkq hc => AOp.slots [(49, _)] (.cons (gvT rfl hc) .nil) (AOp.fieldAddr' rfl Dz rfl Vz)) ?_
   refine Draw.gd [(50, some 11), (41, some 2)] rfl Kz (wantT rfl rfl rfl) (fun kq hkq hc => AOp.slots [(50, _)] (.cons (gvT rfl hc) .nil) ((by refine AOp.load1 (b := ?b19) (v := ?v19) rfl rfl ?hn19 ?hv19 ?hR19; (case hn19 => exact hpA); (case hv19 => rfl); exact Vz))) ?_
   refine Draw.gd [(47, some 8), (51, some 12), (41, some 2)] rfl Kz (wantT rfl rfl rfl) (fun kq hkq hc => AOp.slots [(47, _), (51, _)] (.cons (gvT rfl hc) (.cons (gvT rfl hc) .nil)) (AOp.sub rfl rfl rfl (i64_wrap Wz Wz) Vz)) ?_
   refine Draw.gd [(6, none), (41, some 2)] rfl Kz (wantT rfl rfl rfl) (fun kq hkq hc => AOp.slots [(6, _)] (.cons rfl .nil) (AOp.move' (.inl rfl) rfl Vz)) ?_
   refine Draw.gd [(52, some 13), (53, some 14), (41, some 2)] rfl Kz (wantT rfl rfl rfl) (fun kq hkq hc => AOp.slots [(52, _), (53, _)] (.cons (gvT rfl hc) (.cons (gvT rfl hc) .nil)) (AOp.sub rfl rfl rfl (i64_wrap Wz Wz) Vz)) ?_
   refine Draw.gd [(54, some 15), (41, some 2)] rfl Kz (wantT rfl rfl rfl) (fun kq hkq hc => AOp.slots [(54, _)] (.cons (gvT rfl hc) .nil) (AOp.convInt rfl rfl Vz)) ?_
   refine Draw.gd [(42, some 3), (55, some 16), (41, some 2)] rfl Kz (wantT rfl rfl rfl) (fun kq hkq hc => AOp.slots [(42, _), (55, _)] (.cons (gvT rfl hc) (.cons (gvT rfl hc) .nil)) (AOp.bin' rfl rfl rfl rfl Vz)) ?_
   refine Draw.step [(41, some 2), (56, some 17)] rfl Kz rfl (fun kq hkq => AOp.pickAnd rfl rfl rfl (fun hb => gvE rfl hb) Vz) ?_
   refine Draw.done fun kq hkq => ?_
   show aOps _ _ _ _ [] ⟨_, _, _⟩
   refine Ez ?_
   refine ACode.cond rfl (fun c2 => absurd c2 (by simp at c2)) (fun c2 => ?_)
   refine ACode.skip ?_
   refine Sz ?_
   refine Sz ?_
   refine Rz [0, 1] Kz rfl ?_
   refine Mz ?_
   refine Oz rfl rfl rfl (AOp.bin' rfl rfl rfl rfl ?_)
   refine Ez ?_
   refine ACode.cond rfl (fun c3 => ?_) (fun c3 => absurd c3 (by simp at c3))
   refine Sz ?_
   refine Rz [0, 1, 2] Kz rfl ?_
   refine Mz ?_
   refine Mz ?_
   refine Oz rfl rfl rfl ?_
   refine AOp.call' rfl rfl rfl (rfail _ _ n c A r (hR.sub subA) _ Wz Wz) ?_
   rintro _ HL2 k2 ⟨rfl, hP2⟩
   have hk2 := hP2.1
   have hfL2 := hP2.2.1
   have hsL2 := hP2.2.2.1
   have hR2 := hP2.2.2.2
   have hn2 := hR2.hn
   have thsL2 := SubS.of hsL2
   refine Ez (Sz (Rz [0] Kz rfl ?_))
   refine Nz ?_
   refine Ez ?_
   refine ACode.ret ?_
   try simp only [thenA, blockA, if_true]
   have hb1 : blobE r m = 12 := by rw [hbl, if_neg Wz, if_pos c1b.2]
   have e1 : r.blob m = ([], r.fail (12)) := by rw [Rd.blob, if_neg (fun h => h c0), hb1, if_pos Dz]
   rw [e1]
   exact RetQ.one rfl rfl (sub_refl _) hP2.stays (fun hk => ⟨NewS.none_, hP2.at_ Wz Wz⟩)
  ·try simp only [Cz] at c1
   have c1b : ¬ ((look r.rest).2.2 = 0 ∧ (look r.rest).1 > m) := by simp at c1; omega
   refine ACode.skip ?_
   refine Sz ?_
   refine Sz ?_
   refine ACode.draw' 19 [(0, 39), (1, 40), (2, 41), (3, 42), (4, 43), (5, 44), (6, 45), (7, 46), (8, 47), (9, 48), (10, 49), (11, 50), (12, 51), (13, 52), (14, 53), (15, 54), (16, 55), (17, 56), (18, 57)] mixed Kz ?_
   refine Draw.step [(7, none)] rfl Kz rfl (fun kq hkq => AOp.move' (.inl rfl) rfl Vz) ?_
   refine Draw.step [(39, some 0)] rfl Kz rfl (fun kq hkq => AOp.bin' rfl rfl rfl rfl Vz) ?_
   refine Draw.step [(40, some 1)] rfl Kz rfl (fun kq hkq => AOp.move' (.inl rfl) rfl Vz) ?_
   refine Draw.gd [(5, none), (41, some 2)] rfl Kz (wantT rfl rfl rfl) (fun kq hkq hc => AOp.slots [(5, _)] (.cons rfl .nil) (AOp.move' (.inl rfl) rfl Vz)) ?_
   refine Draw.gd [(0, none), (41, some 2)] rfl Kz (wantT rfl rfl rfl) (fun kq hkq hc => AOp.slots [(0, _)] (.cons rfl .nil) (AOp.move' (.inl rfl) rfl Vz)) ?_
   refine Draw.gd [(43, some 4), (41, some 2)] rfl Kz (wantT rfl rfl rfl) (fun kq hkq hc => AOp.slots [(43, _)] (.cons (gvT rfl hc) .nil) (AOp.nilCheck' rfl rfl Vz)) ?_
   refine Draw.gd [(44, some 5), (41, some 2)] rfl Kz (wantT rfl rfl rfl) (fun kq hkq hc => AOp.slots [(44, _)] (.cons (gvT rfl hc) .nil) (AOp.fieldAddr' rfl Dz rfl Vz)) ?_
   refine Draw.gd [(45, some 6), (41, some 2)] rfl Kz (wantT rfl rfl rfl) (fun kq hkq hc => AOp.slots [(45, _)] (.cons (gvT rfl hc) .nil) ((by refine AOp.load1 (b := ?b20) (v := ?v20) rfl rfl ?hn20 ?hv20 ?hR20; (case hn20 => exact hpA); (case hv20 => rfl); exact Vz))) ?_
   refine Draw.gd [(46, some 7), (41, some 2)] rfl Kz (wantT rfl rfl rfl) (fun kq hkq hc => AOp.slots [(46, _)] (.cons (gvT rfl hc) .nil) (AOp.len' rfl rfl Vz)) ?_
   refine Draw.gd [(0, none), (41, some 2)] rfl Kz (wantT rfl rfl rfl) (fun kq hkq hc => AOp.slots [(0, _)] (.cons rfl .nil) (AOp.move' (.inl rfl) rfl Vz)) ?_
   refine Draw.gd [(48, some 9), (41, some 2)] rfl Kz (wantT rfl rfl rfl) (fun kq hkq hc => AOp.slots [(48, _)] (.cons (gvT rfl hc) .nil) (AOp.nilCheck' rfl rfl Vz)) ?_
   refine Draw.gd [(49, some 10), (41, some 2)] rfl Kz (wantT rfl rfl rfl) (fun kq hkq hc => AOp.slots [(49, _)] (.cons (gvT rfl hc) .nil) (AOp.fieldAddr' rfl Dz rfl Vz)) ?_
   refine Draw.gd [(50, some 11), (41, some 2)] rfl Kz (wantT rfl rfl rfl) (fun kq hkq hc => AOp.slots [(50, _)] (.cons (gvT rfl hc) .nil) ((by refine AOp.load1 (b := ?b21) (v := ?v21) rfl rfl ?hn21 ?hv21 ?hR21; (case hn21 => exact hpA); (case hv21 => rfl); exact Vz))) ?_
   refine Draw.gd [(47, some 8), (51, some 12), (41, some 2)] rfl Kz (wantT rfl rfl rfl) (fun kq hkq hc => AOp.slots [(47, _), (51, _)] (.cons (gvT rfl hc) (.cons (gvT rfl hc) .nil)) (AOp.sub rfl rfl rfl (i64_wrap Wz Wz) Vz)) ?_
   refine Draw.gd [(6, none), (41, some 2)] rfl Kz (wantT rfl rfl rfl) (fun kq hkq hc => AOp.slots [(6, _)] (.cons rfl .nil) (AOp.move' (.inl rfl) rfl Vz)) ?_
   refine Draw.gd [(52, some 13), (53, some 14), (41, some 2)] rfl Kz (wantT rfl rfl rfl) (fun kq hkq hc => AOp.slots [(52, _), (53, _)] (.cons (gvT rfl hc) (.cons (gvT rfl hc) .nil)) (AOp.sub rfl rfl rfl (i64_wrap Wz Wz) Vz)) ?_
   refine Draw.gd [(54, some 15), (41, some 2)] rfl Kz (wantT rfl rfl rfl) (fun kq hkq hc => AOp.slots [(54, _)] (.cons (gvT rfl hc) .nil) (AOp.convInt rfl rfl Vz)) ?_
   refine Draw.gd [(42, some 3), (55, some 16), (41, some 2)] rfl Kz (wantT rfl rfl rfl) (fun kq hkq hc => AOp.slots [(42, _), (55, _)] (.cons (gvT rfl hc) (.cons (gvT rfl hc) .nil)) (AOp.bin' rfl rfl rfl rfl Vz)) ?_
   refine Draw.step [(41, some 2), (56, some 17)] rfl Kz rfl (fun kq hkq => AOp.pickAnd rfl rfl rfl (fun hb => gvE rfl hb) Vz) ?_
   refine Draw.done fun kq hkq => ?_
   show aOps _ _ _ _ [] ⟨_, _, _⟩
   refine Ez ?_
   refine ACode.cond rfl (fun c2 => ?_) (fun c2 => ?_)
   ·try simp only [Cz] at c2
    rw [hw] at c2
    have c2b : (look r.rest).2.2 = 0 ∧ ((look r.rest).1 : Int) > r.left - ((look r.rest).2.1 : Int) := by simp at c2; omega
    refine Rz [0] Kz rfl ?_
    refine Nz ?_
    refine Ez ?_
    refine Sz ?_
    refine Sz ?_
    refine Rz [0, 1] Kz rfl ?_
    refine Mz ?_
    refine Oz rfl rfl rfl (AOp.bin' rfl rfl rfl rfl ?_)
    refine Ez ?_
    refine ACode.cond rfl (fun c3 => ?_) (fun c3 => absurd c3 (by simp at c3))
    refine Sz ?_
    refine Rz [0, 1, 2] Kz rfl ?_
    refine Mz ?_
    refine Mz ?_
    refine Oz rfl rfl rfl ?_
    refine AOp.call' rfl rfl rfl (rfail _ _ n c A r (hR.sub subA) _ Wz Wz) ?_
    rintro _ HL2 k2 ⟨rfl, hP2⟩
    have hk2 := hP2.1
    have hfL2 := hP2.2.1
    have hsL2 := hP2.2.2.1
    have hR2 := hP2.2.2.2
    have hn2 := hR2.hn
    have thsL2 := SubS.of hsL2
    refine Ez (Sz (Rz [0] Kz rfl ?_))
    refine Nz ?_
    refine Ez ?_
    refine ACode.ret ?_
    try simp only [thenA, blockA, if_true]
    have hb1 : blobE r m = 2 := by rw [hbl, if_neg Wz, if_neg Wz, if_pos c2b.2]
    have e1 : r.blob m = ([], r.fail (2)) := by rw [Rd.blob, if_neg (fun h => h c0), hb1, if_pos Dz]
    rw [e1]
    exact RetQ.one rfl rfl (sub_refl _) hP2.stays (fun hk => ⟨NewS.none_, hP2.at_ Wz Wz⟩)
   ·try simp only [Cz] at c2
    rw [hw] at c2
    have c2b : ¬ ((look r.rest).2.2 = 0 ∧ ((look r.rest).1 : Int) > r.left - ((look r.rest).2.1 : Int)) := by simp at c2; omega
    refine ACode.skip ?_
    refine Sz ?_
    refine Sz ?_
    refine Rz [0, 1] Kz rfl ?_
    refine Mz ?_
    refine Oz rfl rfl rfl (AOp.bin' rfl rfl rfl rfl ?_)
    refine Ez ?_
    refine ACode.cond rfl (fun c3 => ?_) (fun c3 => ?_)
    ·try simp only [Cz] at c3
     refine Sz ?_
     refine Rz [0, 1, 2] Kz rfl ?_
     refine Mz ?_
     refine Mz ?_
     refine Oz rfl rfl rfl ?_
     refine AOp.call' rfl rfl rfl (rfail _ _ n c A r (hR.sub subA) _ Wz Wz) ?_
     rintro _ HL2 k2 ⟨rfl, hP2⟩
     have hk2 := hP2.1
     have hfL2 := hP2.2.1
     have hsL2 := hP2.2.2.1
     have hR2 := hP2.2.2.2
     have hn2 := hR2.hn
     have thsL2 := SubS.of hsL2
     refine Ez (Sz (Rz [0] Kz rfl ?_))
     refine Nz ?_
     refine Ez ?_
     refine ACode.ret ?_
     try simp only [thenA, blockA, if_true]
     have hb1 : blobE r m = (look r.rest).2.2 := if_pos c3
     have e1 : r.blob m = ([], r.fail ((look r.rest).2.2)) := by rw [Rd.blob, if_neg (fun h => h c0), hb1, if_pos c3]
     rw [e1]
     exact RetQ.one rfl rfl (sub_refl _) hP2.stays (fun hk => ⟨NewS.none_, hP2.at_ Wz Wz⟩)
    ·try simp only [Cz] at c3
     have c3 : (look r.rest).2.2 = 0 := by simpa using c3
     refine ACode.skip ?_
     refine Sz ?_
     refine Rz [0, 1, 2, 3, 4, 5, 6, 7, 8, 9] Kz rfl ?_
     refine Mz ?_
     refine Mz ?_
     refine Oz rfl rfl rfl (AOp.nilCheck' rfl rfl ?_)
     refine Fz ?_
     refine Oz rfl rfl rfl ?_
     refine AOp.load1 (b := ?b22) (v := ?v22) rfl rfl ?hn22 ?hv22 ?hR22
     (case hn22 => exact hpA)
     (case hv22 => rfl)
     refine Mz ?_
     refine Oz rfl rfl rfl (AOp.add rfl rfl rfl (i64_wrap Wz Wz) ?_)
     refine Oz rfl rfl rfl (AOp.nilCheck' rfl rfl ?_)
     refine Fz ?_
     refine aOps_0 rfl rfl rfl ?_
     refine AOp.store1 (b := ?b23) rfl rfl rfl ?hn23 ?hk23 rfl rfl ?hl23 ?hR23
     (case hn23 => exact hpA)
     (case hk23 => rfl)
     (case hl23 => first | (simp; done) | exact Nat.le_of_ble_eq_true rfl)
     refine Ez ?_
     refine Sz ?_
     have hok4 : ({ r with at_ := r.at_ + (look r.rest).2.1 } : Rd).ok := ⟨by show r.at_ + (look r.rest).2.1 ≤ r.bs.length; omega, hok.len, hok.e0, hok.e1, hok.on0, hok.on1, hok.none_⟩
     have hmv := (RfP.refl hf hR (Nat.le_refl k)).turn (r2 := { r with at_ := r.at_ + (look r.rest).2.1 }) rfl hok4 (x := (r.at_ : Int) + ((look r.rest).2.1 : Int)) rfl rfl rfl
     have hR4 := hmv.2.2.2
     refine Rz [0, 1, 2, 3, 4] Kz rfl ?_
     refine Mz ?_
     refine Mz ?_
     refine Oz rfl rfl rfl (AOp.convInt rfl rfl ?_)
     rw [show IntKind.i64.wrap ((look r.rest).1 : Int) = ((look r.rest).1 : Int) from i64_wrap Wz Wz]
     refine Oz rfl rfl rfl ?_
     refine AOp.call' rfl rfl rfl (rtake _ _ n c A ({ r with at_ := r.at_ + (look r.rest).2.1 } : Rd) hR4 (look r.rest).1 Wz) ?_
     rintro _ HL3 k3 ⟨hN3, hP3⟩
     refine Nz ?_
     refine Ez ?_
     refine ACode.ret ?_
     try simp only [thenA, blockA, if_true]
     have e1 : r.blob m = ({ r with at_ := r.at_ + (look r.rest).2.1 } : Rd).take (look r.rest).1 := by rw [Rd.blob, if_neg (fun h => h c0), if_neg (by rw [hbl, if_neg Wz, if_neg Wz, if_neg Wz]; decide)]
     rw [e1]
     have hP4 := hmv.trans (hP3.at_ Wz (Nat.le_refl _))
     exact RetQ.one rfl rfl (sub_refl _) hP4.stays (fun hk => ⟨hN3.later Wz, hP4.at_ Wz Wz⟩)
end

end Go.Proofs.YteoofihjmldllaaGreatDoor
