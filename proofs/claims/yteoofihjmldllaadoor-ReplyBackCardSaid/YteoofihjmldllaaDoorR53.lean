/- Contracts over the abstract states: bytes of replies; parts of texts. -/
import Derived.Test.YteoofihjmldllaaDoorR48
import Derived.Test.YteoofihjmldllaaDoorR49
import Derived.Test.YteoofihjmldllaaDoorRPg
import Derived.Test.YteoofihjmldllaaDoorRPx
import Derived.Test.YteoofihjmldllaaDoorRW
set_option linter.unusedVariables false
set_option linter.unusedSimpArgs false
set_option maxRecDepth 100000
namespace Go.Proofs.YteoofihjmldllaaDoor
open Go Go.Ab

theorem mul64 {a b c : Nat} (h : a * b = c) (hc : c ≤ 9223372036854775807) : IntKind.i64.wrap ((a : Int) * (b : Int)) = (c : Int) := by
 rw [← h] at hc ⊢
 rw [← Int.natCast_mul, i64_wrap Wz Wz]
theorem putRp_no' {r : Rp} (h : formedR soundR r = false) : putRp r = ([], 4) := if_neg (by rw [h]; decide)
theorem putRp_yes' {r : Rp} (h : formedR soundR r = true) : putRp r = (rpB r, 0) := if_pos h
theorem rpB_len' {r : Rp} (ho : r.ok) (hs : r.sm) (hf : r.fit) : (rpB r).length ≤ 400000000 := by
 have p1 := (parts r ho hs hf).n
 have p2 := (parts r ho hs hf).d r.path.length
 have p3 := (parts r ho hs hf).b r.blocks.length
 rw [List.take_length] at p2 p3
 unfold rpB
 simp only [List.length_append]
 omega
theorem SLC.cutP {H : Hp} {c0 : Nat} {A0 : Option Addr} {bs ys t : List UInt8} (hS : SLC H 1 A0 bs.length c0 (bs.map bv)) (h : bs = ys ++ t) :
  ∃ A c, aslice H 1 0 ys.length none (.slice A0 bs.length c0) = some (.slice A ys.length c) ∧ SLC H 1 A ys.length c (ys.map bv) := by
 obtain ⟨A, c, h3, h4⟩ := SLC.cutB hS 0 ys.length (Nat.zero_le _) (by rw [h, List.length_append]; omega)
 have e : (bs.drop 0).take (ys.length - 0) = ys := by rw [h, List.drop_zero, Nat.sub_zero, List.take_left']; rfl
 rw [e] at h3 h4
 exact ⟨A, c, h3, h4⟩
theorem part_of {bs : List UInt8} {x : Int} (h : 0 < bs.length) : ∃ ys t : List UInt8, bs = ys ++ t ∧ t ≠ [] ∧ x % (bs.length : Int) = (ys.length : Int) := by
 have h1 := Int.emod_nonneg x (show (bs.length : Int) ≠ 0 by omega)
 have h2 := Int.emod_lt_of_pos x (show (0 : Int) < bs.length by omega)
 refine ⟨bs.take (x % (bs.length : Int)).toNat, bs.drop (x % (bs.length : Int)).toNat, (List.take_append_drop _ _).symm, fun e => ?_, ?_⟩
 ·have := congrArg List.length e
  rw [List.length_drop, List.length_nil] at this
  omega
 ·rw [List.length_take]
  omega
section
variable (H : Hp) (k : Nat)

set_option maxHeartbeats 1000000 in
theorem bytes28 (r : Rp) (hok : r.ok) (hsm : r.sm) (v : Value) (hv : RpV H r v) : ACalls Tryd.prog 3 33 [v] H k (Same H k (.int .i64 ((byR r.blocks : Nat) : Int))) := by
 obtain ⟨xA, xa, xB, xb, xC, xc, xs, rfl, x1, x2, x3, x4⟩ := hv
 have hb60 := hsm.bl
 refine ACalls.fresh fun hf => ?_
 refine ACalls.body Tryd.func33 rfl (Nat.le_of_ble_eq_true rfl) ?_
 refine Sz ?_
 refine Rz [0, 1] Kz rfl ?_
 refine Oz rfl rfl rfl (AOp.boxV rfl rfl ?_)
 refine Nz ?_
 refine Ez (Sz (Rz [0] Kz rfl ?_))
 refine Nz ?_
 refine Ez ?_
 refine Sz ?_
 refine Sz ?_
 refine Rz [0] Kz rfl ?_
 refine Nz ?_
 refine Ez ?_
 refine ACode.block ?_
 refine ACode.count0 (fun i => [(4, .int .i64 (i : Int)), (3, .int .i64 ((byR (r.blocks.take i) : Nat) : Int))]) [(1, _), (2, _)] (r.blocks.length) (fun _ => True) (.cons rfl (.cons rfl .nil)) (.cons rfl (.cons rfl .nil)) trivial (fun i0 kL0 HL0 hiL0 hkL0 hsL0 hfL0 hxL0 => ?_)
 show ACode _ _ _ _ _ ⟨_, _, _⟩
 have tsL0 := SubS.of hsL0
 refine Sz ?_
 refine Sz ?_
 refine Rz [0, 1, 2, 3, 4] Kz rfl ?_
 refine Mz ?_
 refine Fz ?_
 refine Oz rfl rfl rfl (AOp.load1 (b := (rpblk r (.slice xA r.path.length xa) (.slice xB r.sch.length xb) (.slice xC r.blocks.length xc))) (v := .slice xC r.blocks.length xc) rfl rfl hpB (rpc_at _ _ _ _).2.2 ?_)
 refine Oz rfl rfl rfl (AOp.len' rfl rfl ?_)
 refine Oz rfl rfl rfl (AOp.bin' rfl rfl rfl rfl ?_)
 refine Ez ?_
 refine ACode.cond rfl (fun c0 => ?_) (fun c0 => ?_)
 ·try simp only [Cz] at c0
  refine ACode.skip ?_
  refine Sz ?_
  refine ACode.block ?_
  refine Sz ?_
  obtain ⟨ne, oe, pe, eA1, ec1, eA2, ec2, eA3, ec3, evs, qe, le, eh1, eh2, eh3, eh4⟩ := Sps.el (i := i0) x3 x4 Wz
  have hm : (r.blocks.getD i0 spD) ∈ r.blocks := getD_mem Wz
  have hxo := hok.b _ hm
  have hxs := hsm.b _ hm
  have hel : evs.length = (r.blocks.getD i0 spD).chunks.length := eh4.len
  have hkl9 := hxs.kl
  have hM : Nt (byR (r.blocks.take i0) ≤ 97200000 ∧ (r.blocks.getD i0 spD).dead.length ≤ 20000) := ⟨by_all i0 hsm.b hb60, hxs.dl⟩
  refine Rz [0, 1, 2, 3, 4, 5, 6, 7, 8, 9] Kz rfl ?_
  refine Mz ?_
  refine Fz ?_
  refine Oz rfl rfl rfl (AOp.load1 (b := (rpblk r (.slice xA r.path.length xa) (.slice xB r.sch.length xb) (.slice xC r.blocks.length xc))) (v := .slice xC r.blocks.length xc) rfl rfl hpB (rpc_at _ _ _ _).2.2 ?_)
  refine Mz ?_
  refine Oz rfl rfl rfl (AOp.indexP (aslcAt_sub subB qe) rfl rfl rfl ?_)
  refine Oz rfl rfl rfl (AOp.fieldP (PAt.sub le subB) rfl Dz (by rw [spc_len]; decide) rfl ?_)
  refine Oz rfl rfl rfl (AOp.loadP1 (d := 36) (v := .slice eA2 (r.blocks.getD i0 spD).dead.length ec2) (PAt.sub le subB) rfl rfl (spc_at _ _ _ _).2.1 ?_)
  refine Oz rfl rfl rfl (AOp.len' rfl rfl ?_)
  refine Oz rfl rfl rfl (AOp.bin' (z := .int .i64 (((byR (r.blocks.take i0) + (r.blocks.getD i0 spD).dead.length) : Nat) : Int)) rfl rfl rfl (congrArg (fun z => some (Value.int .i64 z)) (add64 (a := byR (r.blocks.take i0)) (b := (r.blocks.getD i0 spD).dead.length) (c := (byR (r.blocks.take i0) + (r.blocks.getD i0 spD).dead.length)) (by first | rfl | omega) (by have := hM.h; omega))) ?_)
  refine Nz ?_
  refine Ez (Sz (Rz [0] Kz rfl ?_))
  refine Nz ?_
  refine Ez ?_
  refine ACode.block ?_
  refine ACode.count0 (fun i => [(5, .int .i64 (i : Int)), (3, .int .i64 ((((byR (r.blocks.take i0) + (r.blocks.getD i0 spD).dead.length) + ckS ((r.blocks.getD i0 spD).chunks.take i)) : Nat) : Int))]) [(1, _), (2, _), (4, _), (6, _), (7, _), (8, _), (9, _), (10, _), (13, _), (14, _), (15, _), (16, _), (17, _), (18, _), (19, _), (20, _), (21, _)] (evs.length) (fun _ => True) (.cons rfl (.cons (show _ = some (Value.int .i64 _) by rw [show ckS ((r.blocks.getD i0 spD).chunks.take 0) = 0 from rfl, Nat.add_zero]; rfl) .nil)) Xz trivial (fun i1 kL1 HL1 hiL1 hkL1 hsL1 hfL1 hxL1 => ?_)
  show ACode _ _ _ _ _ ⟨_, _, _⟩
  have tsL1 := SubS.of hsL1
  refine Sz ?_
  refine Sz ?_
  refine Rz [0, 1, 2, 3, 4, 5, 6, 7, 8] Kz rfl ?_
  refine Mz ?_
  refine Fz ?_
  refine Oz rfl rfl rfl (AOp.load1 (b := (rpblk r (.slice xA r.path.length xa) (.slice xB r.sch.length xb) (.slice xC r.blocks.length xc))) (v := .slice xC r.blocks.length xc) rfl rfl hpB (rpc_at _ _ _ _).2.2 ?_)
  refine Mz ?_
  refine Oz rfl rfl rfl (AOp.indexP (aslcAt_sub subB qe) rfl rfl rfl ?_)
  refine Oz rfl rfl rfl (AOp.fieldP (PAt.sub le subB) rfl Dz (by rw [spc_len]; decide) rfl ?_)
  refine Oz rfl rfl rfl (AOp.loadP1 (d := 37) (v := .slice eA3 evs.length ec3) (PAt.sub le subB) rfl rfl (spc_at _ _ _ _).2.2 ?_)
  refine Oz rfl rfl rfl (AOp.len' rfl rfl ?_)
  refine Oz rfl rfl rfl (AOp.bin' rfl rfl rfl rfl ?_)
  refine Ez ?_
  refine ACode.cond rfl (fun c1 => ?_) (fun c1 => ?_)
  ·try simp only [Cz] at c1
   refine ACode.skip ?_
   refine Sz ?_
   refine ACode.block ?_
   obtain ⟨A9, d9, e9, hc9⟩ := eh4.at_ i1 Wz
   obtain ⟨nG, oG, sG, hqG, hpG⟩ := e9 ▸ slcElV eh3.cells (show i1 < evs.length by omega)
   have hM2 := hM
   have hM : Nt _ := ⟨And.intro hM2.h (And.intro (ck_next (r.blocks.getD i0 spD).chunks i1 Wz) (And.intro (ck_sm i1 hxs) (hxs.k _ (getD_mem (d := []) (show i1 < (r.blocks.getD i0 spD).chunks.length by omega)))))⟩
   refine Rz [0, 1, 2, 3, 4, 5, 6, 7, 8, 9, 10, 11, 12] Kz rfl ?_
   refine Mz ?_
   refine Fz ?_
   refine Oz rfl rfl rfl (AOp.load1 (b := (rpblk r (.slice xA r.path.length xa) (.slice xB r.sch.length xb) (.slice xC r.blocks.length xc))) (v := .slice xC r.blocks.length xc) rfl rfl hpB (rpc_at _ _ _ _).2.2 ?_)
   refine Mz ?_
   refine Oz rfl rfl rfl (AOp.indexP (aslcAt_sub subB qe) rfl rfl rfl ?_)
   refine Oz rfl rfl rfl (AOp.fieldP (PAt.sub le subB) rfl Dz (by rw [spc_len]; decide) rfl ?_)
   refine Oz rfl rfl rfl (AOp.loadP1 (d := 37) (v := .slice eA3 evs.length ec3) (PAt.sub le subB) rfl rfl (spc_at _ _ _ _).2.2 ?_)
   refine Mz ?_
   refine Oz rfl rfl rfl (AOp.indexP (aslcAt_sub subB hqG) rfl rfl rfl ?_)
   refine Oz rfl rfl rfl (AOp.loadP0 (hpG.sub subB) rfl rfl rfl ?_)
   refine Oz rfl rfl rfl (AOp.len' rfl rfl ?_)
   refine Oz rfl rfl rfl (AOp.bin' (z := .int .i64 ((((byR (r.blocks.take i0) + (r.blocks.getD i0 spD).dead.length) + ckS ((r.blocks.getD i0 spD).chunks.take (i1 + 1))) : Nat) : Int)) rfl rfl rfl (congrArg (fun z => some (Value.int .i64 z)) (add64 (a := ((byR (r.blocks.take i0) + (r.blocks.getD i0 spD).dead.length) + ckS ((r.blocks.getD i0 spD).chunks.take i1))) (b := ((r.blocks.getD i0 spD).chunks.getD i1 []).length) (c := ((byR (r.blocks.take i0) + (r.blocks.getD i0 spD).dead.length) + ckS ((r.blocks.getD i0 spD).chunks.take (i1 + 1)))) (by first | rfl | (have := hM.h; omega)) (by have := hM.h; omega))) ?_)
   refine Nz ?_
   refine Ez ?_
   refine Rz [0, 1, 2] Kz rfl ?_
   refine Mz ?_
   refine Oz rfl rfl rfl (AOp.add rfl rfl rfl (i64_wrap Wz Wz) ?_)
   refine Nz ?_
   refine Ez ?_
   first | refine thenA_n ?_ | simp only [thenA, blockA, if_true]
   exact NextR.mk Wz Wz (.cons rfl (.cons rfl .nil)) Xz subB trivial
  ·try simp only [Cz] at c1
   refine ACode.exit ?_
   refine Rz [0, 1, 2] Kz rfl ?_
   refine Mz ?_
   refine Oz rfl rfl rfl (AOp.add rfl rfl rfl (i64_wrap Wz Wz) ?_)
   refine Nz ?_
   refine Ez ?_
   have e4 : ((byR (r.blocks.take i0) + (r.blocks.getD i0 spD).dead.length) + ckS ((r.blocks.getD i0 spD).chunks.take i1)) = byR (r.blocks.take (i0 + 1)) := by rw [by_next _ _ (show i0 < r.blocks.length by omega), show i1 = (r.blocks.getD i0 spD).chunks.length by omega, List.take_length]; omega
   first | refine thenA_n ?_ | simp only [thenA, blockA, if_true]
   exact NextR.mk Wz Wz (.cons rfl (.cons (show _ = some (Value.int .i64 _) by rw [← e4]; rfl) .nil)) (.cons rfl (.cons rfl .nil)) subB trivial
 ·try simp only [Cz] at c0
  refine ACode.exit ?_
  refine Sz ?_
  refine Rz [0, 1] Kz rfl ?_
  refine Mz ?_
  refine Nz ?_
  refine Ez ?_
  refine ACode.ret ?_
  exact RetQ.one rfl rfl subB stays (fun hk => ⟨(by rw [show r.blocks.take i0 = r.blocks from List.take_of_length_le Wz]), rfl, by omega⟩)
end

end Go.Proofs.YteoofihjmldllaaDoor
