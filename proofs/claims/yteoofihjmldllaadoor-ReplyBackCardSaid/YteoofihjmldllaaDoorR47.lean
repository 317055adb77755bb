/- Contracts over the abstract states: forms of replies. -/
import Derived.Test.YteoofihjmldllaaDoorR45
import Derived.Test.YteoofihjmldllaaDoorR39
import Derived.Test.YteoofihjmldllaaDoorR36
import Derived.Test.YteoofihjmldllaaDoorV10
import Derived.Test.YteoofihjmldllaaDoorRE
set_option linter.unusedVariables false
set_option linter.unusedSimpArgs false
set_option maxRecDepth 100000
namespace Go.Proofs.YteoofihjmldllaaDoor
open Go Go.Ab

def putRp (r : Rp) : List UInt8 × Int := if formedR soundR r = true then (rpB r, 0) else ([], 4)
structure Parts (r : Rp) : Prop where
 n : (varB r.size.toNat).length ≤ 10 ∧ r.root.l.length = 32 ∧ (schB r.sch).length ≤ 300 ∧ (formB r.ent).length ≤ 74 ∧ (varB r.path.length).length ≤ 10 ∧ (varB r.blocks.length).length ≤ 10
 d : ∀ i, (dsB (r.path.take i)).length ≤ 2560
 b : ∀ i, (bsB (r.blocks.take i)).length ≤ 300000000
theorem parts (r : Rp) (ho : r.ok) (hs : r.sm) (hf : r.fit) : Parts r := by
 have h1 := hs.pl
 have h2 := hs.bl
 have h3 := hs.sl
 refine ⟨⟨varB_len _ (by have := hf.s1; omega), r.root.h, by rw [schB, List.length_cons, colB_len]; omega, formB_len _ hf.e, varB_len _ Wz, varB_len _ Wz⟩, fun i => ?_, fun i => ?_⟩
 ·have := dsB_len (r.path.take i)
  have h4 : (r.path.take i).length ≤ 80 := by rw [List.length_take]; omega
  omega
 ·have := bsB_len (r.blocks.take i) (fun x hx => ho.b x (List.mem_of_mem_take hx)) (fun x hx => hf.b x (List.mem_of_mem_take hx)) (fun x hx => hs.b x (List.mem_of_mem_take hx))
  have h4 : (r.blocks.take i).length ≤ 60 := by rw [List.length_take]; omega
  omega
structure PartX (x : Sp) : Prop where
 n : (hdB x.h).length ≤ 3000000 ∧ x.dead.length ≤ 20000 ∧ (varB x.dead.length).length ≤ 10 ∧ (varB x.chunks.length).length ≤ 10
 k : ∀ i, (ksB (x.chunks.take i)).length ≤ 1600800
theorem partX (x : Sp) (ho : x.ok) (hs : x.sm) (hf : x.h.fit) : PartX x := by
 have h1 := hs.kl
 have h2 := hs.dl
 refine ⟨⟨hdB_len x.h ho.z hf hs.h, hs.dl, varB_len _ Wz, varB_len _ Wz⟩, fun i => ?_⟩
 have := ksB_len (x.chunks.take i) (fun y hy => hs.k y (List.mem_of_mem_take hy))
 have h4 : (x.chunks.take i).length ≤ 80 := by rw [List.length_take]; omega
 omega
theorem ok_cols {r : Rp} (hs : r.sm) : r.sch.length ≤ 1000000 ∧ ∀ x ∈ r.blocks, x.h.cols.length ≤ 1000000 := ⟨Nat.le_trans hs.sl Dz, fun x hx => Nat.le_trans (hs.b x hx).h.cl Dz⟩
theorem newS_gb {H' : Hp} {k k' q : Nat} {l : List UInt8} (h : H' q = some (gb l)) (h1 : k ≤ q) (h2 : q < k') : NewS H' k k' l (sl q l.length) := ⟨_, _, rfl, SLC.gb h, fun a ha => by cases ha; exact ⟨h1, h2⟩⟩
section
variable (H : Hp) (k : Nat)

set_option maxHeartbeats 2000000 in
theorem putN (r : Rp) (hok : r.ok) (hsm : r.sm) (v : Value) (hv : RpV H r v) : ACalls Tryd.prog 3 30 [v] H k (fun u H' k' => ∃ w, u = .tuple #[w, .int .i64 (putRp r).2] ∧ NewS H' k k' (putRp r).1 w ∧ k ≤ k' ∧ (∀ m, k' ≤ m → H' m = none) ∧ Ab.Sub H H') := by
 obtain ⟨xA, xa, xB, xb, xC, xc, xs, rfl, x1, x2, x3, x4⟩ := hv
 have hbl := hok.bl
 have hcc := ok_cols hsm
 have hsl := hsm.sl
 have hpl := hsm.pl
 have hbl6 := hsm.bl
 refine ACalls.fresh fun hf => ?_
 refine ACalls.body Tryd.func30 rfl (Nat.le_of_ble_eq_true rfl) ?_
 refine Sz ?_
 refine Rz [0, 1, 2] Kz rfl ?_
 refine Oz rfl rfl rfl (AOp.boxV rfl rfl ?_)
 refine Nz ?_
 refine Nz ?_
 refine Ez ?_
 refine Sz ?_
 refine Sz ?_
 refine Rz [0, 1, 2] Kz rfl ?_
 refine Oz rfl rfl rfl ?_
 refine AOp.loadAll (b := ?b1) (v := rpv r (.slice xA r.path.length xa) (.slice xB r.sch.length xb) (.slice xC r.blocks.length xc)) rfl rfl ?hn1 ?hv1 ?hw1 ?hz1 ?hR1
 (case hn1 => exact hpB)
 (case hv1 => rfl)
 (case hw1 => rfl)
 (case hz1 => first | rfl | exact hv_size _ | exact one_bv _ | exact rpv_size _ _ _ _ | exact spv_size _ _ _ _ | exact spc_one _ _ _ _ rfl rfl rfl | (simp; done))
 refine aOps_q rfl rfl rfl (AOp.call' rfl rfl rfl (formedN _ _ r hok hcc.1 hcc.2 _ (RpV.sub ⟨xA, xa, xB, xb, xC, xc, xs, rfl, x1, x2, x3, x4⟩ subB)) Iz) (fun kq hkq => ?_)
 refine Oz rfl rfl rfl (AOp.un' rfl rfl rfl ?_)
 refine Ez ?_
 refine ACode.cond rfl (fun c0 => ?_) (fun c0 => ?_)
 ·skip
  have hno : formedR soundR r = false := by rw [← formed_same]; simpa using c0
  refine Sz ?_
  refine Rz [0, 1] Kz rfl ?_
  refine Nz ?_
  refine Nz ?_
  refine Ez ?_
  refine ACode.ret ?_
  try simp only [thenA, blockA, if_true]
  have e1 : putRp r = ([], 4) := by unfold putRp; rw [hno]; rfl
  rw [e1]
  exact RetQ.two rfl rfl rfl (sub_refl _) (fun m b h => ⟨b, (show Ab.Sub H _ from by exact subB) m b h⟩) (fun hk => ⟨_, rfl, NewS.none_, by omega, (fun m hm => by (repeat refine Uz ?_); apply_assumption; omega), by exact subB⟩)
 ·skip
  have hyes : formedR soundR r = true := by rw [← formed_same]; simpa using c0
  have hft := (formed_fit hyes).1
  have hP := parts r hok hsm hft
  obtain ⟨a, ha, ha6⟩ : ∃ a : Nat, r.size = a ∧ a < 18446744073709551616 := ⟨r.size.toNat, by have := hft.s0; omega, by have := hft.s1; have := hft.s0; omega⟩
  have ha2 : r.size.toNat = a := by rw [ha]; rfl
  refine ACode.skip ?_
  refine Sz ?_
  refine ACode.any mixed Kz ?_
  refine AnyA.float (Hq := (upd (fun _ => none) k (some (rpblk r (.slice xA r.path.length xa) (.slice xB r.sch.length xb) (.slice xC r.blocks.length xc))))) [(0, 14), (1, 15), (2, 16), (4, 18), (5, 19)] [3, 6, 7] Kz (Nat.le_of_ble_eq_true rfl) Kz subB ?_
  refine DrawF.q 0 14 [(1, none)] rfl Kz rfl (fun Hc kq hSb => AOp.fieldAddr' rfl Dz rfl Tz) ?_
  refine DrawF.q 1 15 [(14, some 0)] rfl Kz rfl (fun Hc kq hSb => have tSb := SubS.of hSb; AOp.load1 (b := (rpblk r (.slice xA r.path.length xa) (.slice xB r.sch.length xb) (.slice xC r.blocks.length xc))) (v := .int .i64 r.size) rfl rfl hpB rfl Tz) ?_
  rw [ha]
  refine DrawF.q 2 16 [(15, some 1)] rfl Kz rfl (fun Hc kq hSb => AOp.convU64 (a := a) rfl rfl ha6 Tz) ?_
  refine DrawF.q 4 18 [(1, none)] rfl Kz rfl (fun Hc kq hSb => AOp.fieldAddr' rfl Dz rfl Tz) ?_
  refine DrawF.q 5 19 [(18, some 4)] rfl Kz rfl (fun Hc kq hSb => AOp.sliceP rfl rfl Tz) ?_
  refine DrawF.done ?_
  show aOpsF _ _ _ _ _ _ [3, 6, 7] ⟨_, _, _⟩
  refine aOpsF_1 [16] rfl rfl Kz rfl ?_
  refine AOp.call' rfl rfl rfl (putVar0 _ _ a ha6) ?_
  rintro _ _ kq ⟨q, hq1, hq2, rfl, rfl⟩
  refine ⟨by exact subB, ?_⟩
  refine aOpsF_1 [17, 19] rfl rfl Kz rfl (AOp.appendB (bs := varB a) (ps := r.root.l) rfl rfl rfl hpB (srcD (b := (rpblk r (.slice xA r.path.length xa) (.slice xB r.sch.length xb) (.slice xC r.blocks.length xc))) r.root [.int .i64 r.size] (entc r.ent ++ [(.slice xA r.path.length xa), (.slice xB r.sch.length xb), (.slice xC r.blocks.length xc)]) hpB rfl rfl r.root.h) srcOk_sl (by have p1 := hP.n; simp only [ha2, List.length_append, List.length_cons, List.length_nil] at p1 ⊢; omega) (by have p1 := hP.n; simp only [ha2, List.length_append, List.length_cons, List.length_nil] at p1 ⊢; omega) ?_)
  refine ⟨by exact subB, ?_⟩
  refine aOpsF_1 [20] rfl rfl Kz rfl (AOp.move' (.inr rfl) rfl ?_)
  refine ⟨by exact subB, ?_⟩
  refine aOpsF_end ?_
  refine Sz ?_
  refine ACode.any mixed Kz ?_
  refine AnyA.float (Hq := (upd (fun _ => none) k (some (rpblk r (.slice xA r.path.length xa) (.slice xB r.sch.length xb) (.slice xC r.blocks.length xc))))) [(0, 21), (1, 22), (2, 23), (5, 26), (6, 27)] [3, 4, 7, 8, 9] Kz (Nat.le_of_ble_eq_true rfl) Kz subB ?_
  refine DrawF.q 0 21 [(4, none)] rfl Kz rfl (fun Hc kq hSb => AOp.move' (.inl rfl) rfl Tz) ?_
  refine DrawF.q 1 22 [(1, none)] rfl Kz rfl (fun Hc kq hSb => AOp.fieldAddr' rfl Dz rfl Tz) ?_
  refine DrawF.q 2 23 [(22, some 1)] rfl Kz rfl (fun Hc kq hSb => have tSb := SubS.of hSb; AOp.load1 (b := (rpblk r (.slice xA r.path.length xa) (.slice xB r.sch.length xb) (.slice xC r.blocks.length xc))) (v := .slice xB r.sch.length xb) rfl rfl hpB (rpc_at _ _ _ _).2.1 Tz) ?_
  refine DrawF.q 5 26 [(1, none)] rfl Kz rfl (fun Hc kq hSb => AOp.fieldAddr' rfl Dz rfl Tz) ?_
  refine DrawF.q 6 27 [(26, some 5)] rfl Kz rfl (fun Hc kq hSb => have tSb := SubS.of hSb; AOp.loadN (b := (rpblk r (.slice xA r.path.length xa) (.slice xB r.sch.length xb) (.slice xC r.blocks.length xc))) (cs := entc r.ent) rfl rfl hpB (by show 33 + 65 ≤ (rpc _ _ _ _).length; rw [rpc_len]; decide) (rpc_ent _ _ _ _) Tz) ?_
  refine DrawF.done ?_
  show aOpsF _ _ _ _ _ _ [3, 4, 7, 8, 9] ⟨_, _, _⟩
  refine aOpsF_1 [23] rfl rfl Kz rfl ?_
  refine AOp.call' rfl rfl rfl (putSchema_b 3 _ _ r.sch xB xb (x2.sub subB) Wz) ?_
  rintro _ _ kp ⟨p, hp1, hp2, rfl, rfl⟩
  refine ⟨by exact subB, ?_⟩
  refine aOpsF_1 [21, 24] rfl rfl Kz rfl (AOp.appendB (bs := (varB a ++ r.root.l)) (ps := schB r.sch) rfl rfl rfl hpB (srcOf_gb (e := 5) hpB) srcOk_sl (by have p1 := hP.n; simp only [ha2, List.length_append, List.length_cons, List.length_nil] at p1 ⊢; omega) (by have p1 := hP.n; simp only [ha2, List.length_append, List.length_cons, List.length_nil] at p1 ⊢; omega) ?_)
  refine ⟨by exact subB, ?_⟩
  refine aOpsF_1 [27] rfl rfl Kz rfl ?_
  refine AOp.call' rfl rfl rfl (put_e _ _ r.ent hft.e) ?_
  rintro _ _ ks ⟨s, hs1, hs2, rfl, rfl⟩
  refine ⟨by exact subB, ?_⟩
  refine aOpsF_1 [25, 28] rfl rfl Kz rfl (AOp.appendB (bs := ((varB a ++ r.root.l) ++ schB r.sch)) (ps := formB r.ent) rfl rfl rfl hpB (srcOf_gb (e := 5) hpB) srcOk_sl (by have p1 := hP.n; simp only [ha2, List.length_append, List.length_cons, List.length_nil] at p1 ⊢; omega) (by have p1 := hP.n; simp only [ha2, List.length_append, List.length_cons, List.length_nil] at p1 ⊢; omega) ?_)
  refine ⟨by exact subB, ?_⟩
  refine aOpsF_1 [29] rfl rfl Kz rfl (AOp.move' (.inr rfl) rfl ?_)
  refine ⟨by exact subB, ?_⟩
  refine aOpsF_end ?_
  refine Sz ?_
  refine Rz [0, 1, 2, 3, 4, 5, 6] Kz rfl ?_
  refine Mz ?_
  refine Fz ?_
  refine Oz rfl rfl rfl (AOp.load1 (b := (rpblk r (.slice xA r.path.length xa) (.slice xB r.sch.length xb) (.slice xC r.blocks.length xc))) (v := .slice xA r.path.length xa) rfl rfl hpB (rpc_at _ _ _ _).1 ?_)
  refine Oz rfl rfl rfl (AOp.len' rfl rfl ?_)
  refine Oz rfl rfl rfl (AOp.convU64 (a := r.path.length) rfl rfl Wz ?_)
  refine Oz rfl rfl rfl ?_
  refine AOp.call' rfl rfl rfl (putVar 3 _ _ q (((varB a ++ r.root.l) ++ schB r.sch) ++ formB r.ent) r.path.length hpB Wz (by have p1 := hP.n; simp only [ha2, List.length_append, List.length_cons, List.length_nil] at p1 ⊢; omega)) ?_
  rintro _ _ kt ⟨rfl, rfl, hkt⟩
  refine Nz ?_
  refine Ez ?_
  refine Sz ?_
  refine Sz ?_
  refine Rz [0, 1, 2, 3] Kz rfl ?_
  refine Fz ?_
  refine Oz rfl rfl rfl (AOp.load1 (b := (rpblk r (.slice xA r.path.length xa) (.slice xB r.sch.length xb) (.slice xC r.blocks.length xc))) (v := .slice xA r.path.length xa) rfl rfl hpB (rpc_at _ _ _ _).1 ?_)
  refine Oz rfl rfl rfl (AOp.len' rfl rfl ?_)
  refine Mz ?_
  refine Ez ?_
  refine ACode.block ?_
  refine ACode.count (fun i => [(39, .int .i64 (i : Int)), (4, sl q (((((varB a ++ r.root.l) ++ schB r.sch) ++ formB r.ent) ++ varB r.path.length) ++ dsB (r.path.take i)).length)]) [(1, _), (2, _), (3, _), (37, _), (38, _)] (fun i => upd (upd H k (some (rpblk r (.slice xA r.path.length xa) (.slice xB r.sch.length xb) (.slice xC r.blocks.length xc)))) q (some (gb (((((varB a ++ r.root.l) ++ schB r.sch) ++ formB r.ent) ++ varB r.path.length) ++ dsB (r.path.take i))))) (r.path.length) (fun _ => True) (.cons rfl (.cons (show _ = some (sl q _) by rw [show dsB (r.path.take 0) = [] from rfl, List.append_nil]; rfl) .nil)) Xz (by rw [show dsB (r.path.take 0) = [] from rfl, List.append_nil]; exact subB) trivial (fun i0 kL0 HL0 hiL0 hkL0 hsL0 hfL0 hxL0 => ?_)
  show ACode _ _ _ _ _ ⟨_, _, _⟩
  have tsL0 := SubS.of hsL0
  refine Sz ?_
  refine Rz [0] Kz rfl ?_
  refine Oz rfl rfl rfl (AOp.bin' rfl rfl rfl rfl ?_)
  refine Ez ?_
  refine Sz ?_
  refine ACode.cond rfl (fun c1 => ?_) (fun c1 => ?_)
  ·try simp only [Cz] at c1
   refine ACode.skip ?_
   refine Sz ?_
   refine ACode.block ?_
   refine Sz ?_
   obtain ⟨n8_0, o8_0, s8_0, hq8_0, hp8_0⟩ := SLC.elH (i := i0) (SLC.sub x1 subB) zeroD Wz
   refine Rz [0, 1, 2, 3] Kz rfl ?_
   refine Oz rfl rfl rfl (AOp.indexP (aslcAt_sub subB hq8_0) rfl rfl rfl ?_)
   refine Oz rfl rfl rfl (AOp.loadPA (v := hv (r.path.getD i0 zeroD)) (hp8_0.sub subB) rfl rfl rfl rfl (hcs_one _) Dz ?_)
   refine Oz rfl rfl rfl (AOp.alloc' rfl ?_)
   refine aOps_0 rfl rfl rfl ?_
   refine AOp.storeAll (b := ?b2) rfl rfl rfl ?hn2 ?hk2 rfl ?hw2 ?ho2 ?hl2 ?hR2
   (case hn2 => exact hpB)
   (case hk2 => rfl)
   (case hw2 => first | rfl | exact hv_size _ | exact one_bv _ | exact rpv_size _ _ _ _ | exact spv_size _ _ _ _ | exact spc_one _ _ _ _ rfl rfl rfl | (simp; done))
   (case ho2 => first | rfl | exact hv_size _ | exact one_bv _ | exact rpv_size _ _ _ _ | exact spv_size _ _ _ _ | exact spc_one _ _ _ _ rfl rfl rfl | decide | (simp; done))
   (case hl2 => first | rfl | exact hv_size _ | exact one_bv _ | exact rpv_size _ _ _ _ | exact spv_size _ _ _ _ | exact spc_one _ _ _ _ rfl rfl rfl | (simp; done))
   rw [rd_upd2]
   refine Ez ?_
   refine Rz [0, 1, 2, 3] Kz rfl ?_
   refine Mz ?_
   refine Oz rfl rfl rfl (AOp.sliceP rfl rfl ?_)
   refine Oz rfl rfl rfl (AOp.appendB (bs := (((((varB a ++ r.root.l) ++ schB r.sch) ++ formB r.ent) ++ varB r.path.length) ++ dsB (r.path.take i0))) (ps := (r.path.getD i0 zeroD).l) rfl rfl rfl hpB (srcD (b := dblk (r.path.getD i0 zeroD).l) (r.path.getD i0 zeroD) [] [] hpB (by rw [List.append_nil]; rfl) rfl (r.path.getD i0 zeroD).h) srcOk_sl (by have p1 := hP.n; have p2 := hP.d i0; have p7 := (r.path.getD i0 zeroD).h; simp only [ha2, List.length_append, List.length_cons, List.length_nil] at p1 p2 ⊢; omega) (by have p1 := hP.n; have p2 := hP.d i0; have p7 := (r.path.getD i0 zeroD).h; simp only [ha2, List.length_append, List.length_cons, List.length_nil] at p1 p2 ⊢; omega) ?_)
   refine Nz ?_
   refine Ez ?_
   refine Rz [0, 1] Kz rfl ?_
   refine Oz rfl rfl rfl (AOp.add rfl rfl rfl (i64_wrap Wz Wz) ?_)
   refine Mz ?_
   refine Ez ?_
   have e4 : (((((varB a ++ r.root.l) ++ schB r.sch) ++ formB r.ent) ++ varB r.path.length) ++ dsB (r.path.take i0)) ++ (r.path.getD i0 zeroD).l = (((((varB a ++ r.root.l) ++ schB r.sch) ++ formB r.ent) ++ varB r.path.length) ++ dsB (r.path.take (i0 + 1))) := by rw [dsB_next (show i0 < r.path.length by omega)]; simp [List.append_assoc]
   first | refine thenA_n ?_ | simp only [thenA, blockA, if_true]
   exact NextR.mk Wz Wz (.cons rfl (.cons (show _ = some (sl q _) by rw [← e4]; first | rfl | (simp only [List.length_append, (r.path.getD i0 zeroD).h]; rfl)) .nil)) Xz (by rw [← e4]; exact subB) trivial
  ·try simp only [Cz] at c1
   have hin : i0 = r.path.length := by omega
   subst hin
   refine ACode.exit ?_
   refine Sz ?_
   refine Rz [0, 1, 2, 3, 4, 5, 6] Kz rfl ?_
   refine Mz ?_
   refine Fz ?_
   refine Oz rfl rfl rfl (AOp.load1 (b := (rpblk r (.slice xA r.path.length xa) (.slice xB r.sch.length xb) (.slice xC r.blocks.length xc))) (v := .slice xC r.blocks.length xc) rfl rfl hpB (rpc_at _ _ _ _).2.2 ?_)
   refine Oz rfl rfl rfl (AOp.len' rfl rfl ?_)
   refine Oz rfl rfl rfl (AOp.convU64 (a := r.blocks.length) rfl rfl Wz ?_)
   refine Oz rfl rfl rfl ?_
   refine AOp.call' rfl rfl rfl (putVar 3 _ _ q (((((varB a ++ r.root.l) ++ schB r.sch) ++ formB r.ent) ++ varB r.path.length) ++ dsB (r.path.take r.path.length)) r.blocks.length hpB Wz (by have p1 := hP.n; have p2 := hP.d r.path.length; simp only [ha2, List.length_append, List.length_cons, List.length_nil] at p1 p2 ⊢; omega)) ?_
   rintro _ _ ku ⟨rfl, rfl, hku⟩
   refine Nz ?_
   refine Ez ?_
   refine Sz ?_
   refine Sz ?_
   refine Rz [0, 1, 2, 3] Kz rfl ?_
   refine Fz ?_
   refine Oz rfl rfl rfl (AOp.load1 (b := (rpblk r (.slice xA r.path.length xa) (.slice xB r.sch.length xb) (.slice xC r.blocks.length xc))) (v := .slice xC r.blocks.length xc) rfl rfl hpB (rpc_at _ _ _ _).2.2 ?_)
   refine Oz rfl rfl rfl (AOp.len' rfl rfl ?_)
   refine Mz ?_
   refine Ez ?_
   refine ACode.block ?_
   refine ACode.count (fun i => [(56, .int .i64 (i : Int)), (4, sl q (((((((varB a ++ r.root.l) ++ schB r.sch) ++ formB r.ent) ++ varB r.path.length) ++ dsB (r.path.take r.path.length)) ++ varB r.blocks.length) ++ bsB (r.blocks.take i)).length)]) [(1, _), (2, _), (3, _), (37, _), (38, _), (39, _), (40, _), (47, _), (48, _), (49, _), (50, _), (51, _), (52, _), (53, _), (54, _), (55, _)] (fun i => upd (upd H k (some (rpblk r (.slice xA r.path.length xa) (.slice xB r.sch.length xb) (.slice xC r.blocks.length xc)))) q (some (gb (((((((varB a ++ r.root.l) ++ schB r.sch) ++ formB r.ent) ++ varB r.path.length) ++ dsB (r.path.take r.path.length)) ++ varB r.blocks.length) ++ bsB (r.blocks.take i))))) (r.blocks.length) (fun _ => True) (.cons rfl (.cons (show _ = some (sl q _) by rw [show bsB (r.blocks.take 0) = [] from rfl, List.append_nil]; rfl) .nil)) Xz (by rw [show bsB (r.blocks.take 0) = [] from rfl, List.append_nil]; exact subB) trivial (fun i1 kL1 HL1 hiL1 hkL1 hsL1 hfL1 hxL1 => ?_)
   show ACode _ _ _ _ _ ⟨_, _, _⟩
   have tsL1 := SubS.of hsL1
   refine Sz ?_
   refine Rz [0] Kz rfl ?_
   refine Oz rfl rfl rfl (AOp.bin' rfl rfl rfl rfl ?_)
   refine Ez ?_
   refine Sz ?_
   refine ACode.cond rfl (fun c2 => ?_) (fun c2 => ?_)
   ·try simp only [Cz] at c2
    refine ACode.skip ?_
    refine Sz ?_
    refine ACode.block ?_
    refine Sz ?_
    obtain ⟨ne, oe, pe, eA1, ec1, eA2, ec2, eA3, ec3, evs, qe, le, eh1, eh2, eh3, eh4⟩ := Sps.el (i := i1) x3 x4 Wz
    have hm : (r.blocks.getD i1 spD) ∈ r.blocks := getD_mem Wz
    have hxo := hok.b _ hm
    have hel : evs.length = (r.blocks.getD i1 spD).chunks.length := eh4.len
    have hX := partX (r.blocks.getD i1 spD) hxo (hsm.b _ hm) (hft.b _ hm)
    have hkl9 := (hsm.b _ hm).kl
    refine Rz [0, 1, 2, 3] Kz rfl ?_
    refine Oz rfl rfl rfl (AOp.indexP (aslcAt_sub subB qe) rfl rfl rfl ?_)
    refine Oz rfl rfl rfl (AOp.loadPA (v := .agg (spc (r.blocks.getD i1 spD) (.slice eA1 (r.blocks.getD i1 spD).h.cols.length ec1) (.slice eA2 (r.blocks.getD i1 spD).dead.length ec2) (.slice eA3 evs.length ec3)).toArray) (PAt.sub le subB) rfl rfl rfl rfl (spc_len _ _ _ _) Dz ?_)
    refine Oz rfl rfl rfl (AOp.alloc' rfl ?_)
    refine aOps_0 rfl rfl rfl ?_
    refine AOp.storeAll (b := ?b3) rfl rfl rfl ?hn3 ?hk3 rfl ?hw3 ?ho3 ?hl3 ?hR3
    (case hn3 => exact hpB)
    (case hk3 => rfl)
    (case hw3 => first | rfl | exact hv_size _ | exact one_bv _ | exact rpv_size _ _ _ _ | exact spv_size _ _ _ _ | exact spc_one _ _ _ _ rfl rfl rfl | (simp; done))
    (case ho3 => first | rfl | exact hv_size _ | exact one_bv _ | exact rpv_size _ _ _ _ | exact spv_size _ _ _ _ | exact spc_one _ _ _ _ rfl rfl rfl | decide | (simp; done))
    (case hl3 => first | rfl | exact hv_size _ | exact one_bv _ | exact rpv_size _ _ _ _ | exact spv_size _ _ _ _ | exact spc_one _ _ _ _ rfl rfl rfl | (simp; done))
    rw [rd_upd2]
    refine Ez ?_
    refine Sz ?_
    refine Sz ?_
    refine Rz [0, 1, 2] Kz rfl ?_
    refine Fz ?_
    refine Oz rfl rfl rfl (AOp.load1 (b := (spblk (r.blocks.getD i1 spD) (.slice eA1 (r.blocks.getD i1 spD).h.cols.length ec1) (.slice eA2 (r.blocks.getD i1 spD).dead.length ec2) (.slice eA3 evs.length ec3))) (v := .bool (r.blocks.getD i1 spD).opn) rfl rfl hpB (spc_at _ _ _ _).1 ?_)
    refine Oz rfl rfl rfl (AOp.un' rfl rfl rfl ?_)
    refine Ez ?_
    refine ACode.cond rfl (fun c3 => ?_) (fun c3 => ?_)
    ·skip
     have hop : (r.blocks.getD i1 spD).opn = false := by simpa using c3
     refine Sz ?_
     refine ACode.any mixed Kz ?_
     refine AnyA.float (Hq := (upd (fun _ => none) kL1 (some (spblk (r.blocks.getD i1 spD) (.slice eA1 (r.blocks.getD i1 spD).h.cols.length ec1) (.slice eA2 (r.blocks.getD i1 spD).dead.length ec2) (.slice eA3 evs.length ec3))))) [(0, 63), (3, 66), (4, 67)] [1, 2, 5, 6, 7] Kz (Nat.le_of_ble_eq_true rfl) Kz subB ?_
     refine DrawF.q 0 63 [(4, none)] rfl Kz rfl (fun Hc kq hSb => AOp.move' (.inl rfl) rfl Tz) ?_
     refine DrawF.q 3 66 [(8, none)] rfl Kz rfl (fun Hc kq hSb => AOp.fieldAddr' rfl Dz rfl Tz) ?_
     refine DrawF.q 4 67 [(66, some 3)] rfl Kz rfl (fun Hc kq hSb => have tSb := SubS.of hSb; AOp.loadN (b := (spblk (r.blocks.getD i1 spD) (.slice eA1 (r.blocks.getD i1 spD).h.cols.length ec1) (.slice eA2 (r.blocks.getD i1 spD).dead.length ec2) (.slice eA3 evs.length ec3))) (cs := hdc (r.blocks.getD i1 spD).h (.slice eA1 (r.blocks.getD i1 spD).h.cols.length ec1)) rfl rfl hpB (by show 0 + 35 ≤ (spc _ _ _ _).length; rw [spc_len]; decide) (spc_head _ _ _ _) Tz) ?_
     refine DrawF.done ?_
     show aOpsF _ _ _ _ _ _ [1, 2, 5, 6, 7] ⟨_, _, _⟩
     refine aOpsF_1 [] rfl rfl Kz rfl (AOp.buildB [0] rfl Dz rfl rfl ?_)
     refine ⟨by exact subB, ?_⟩
     refine aOpsF_1 [63, 64] rfl rfl Kz rfl (AOp.appendB (bs := (((((((varB a ++ r.root.l) ++ schB r.sch) ++ formB r.ent) ++ varB r.path.length) ++ dsB (r.path.take r.path.length)) ++ varB r.blocks.length) ++ bsB (r.blocks.take i1))) (ps := [0]) rfl rfl rfl hpB (srcOf_gb (e := 5) hpB) srcOk_sl (by have p1 := hP.n; have p2 := hP.d r.path.length; have p3 := hP.b i1; simp only [ha2, List.length_append, List.length_cons, List.length_nil] at p1 p2 p3 ⊢; omega) (by have p1 := hP.n; have p2 := hP.d r.path.length; have p3 := hP.b i1; simp only [ha2, List.length_append, List.length_cons, List.length_nil] at p1 p2 p3 ⊢; omega) ?_)
     refine ⟨by exact subB, ?_⟩
     refine aOpsF_1 [67] rfl rfl Kz rfl ?_
     refine AOp.call' rfl rfl rfl (nputH _ _ (r.blocks.getD i1 spD).h eA1 ec1 (eh1.sub subB) hxo.z (hft.b _ hm) (hsm.b _ hm).h) ?_
     rintro _ _ kw ⟨w, hw1, hw2, rfl, rfl⟩
     refine ⟨by exact subB, ?_⟩
     refine aOpsF_1 [65, 68] rfl rfl Kz rfl (AOp.appendB (bs := ((((((((varB a ++ r.root.l) ++ schB r.sch) ++ formB r.ent) ++ varB r.path.length) ++ dsB (r.path.take r.path.length)) ++ varB r.blocks.length) ++ bsB (r.blocks.take i1)) ++ [0])) (ps := hdB (r.blocks.getD i1 spD).h) rfl rfl rfl hpB (srcOf_gb (e := 5) hpB) srcOk_sl (by have p1 := hP.n; have p2 := hP.d r.path.length; have p3 := hP.b i1; have p4 := hX.n; simp only [ha2, List.length_append, List.length_cons, List.length_nil] at p1 p2 p3 p4 ⊢; omega) (by have p1 := hP.n; have p2 := hP.d r.path.length; have p3 := hP.b i1; have p4 := hX.n; simp only [ha2, List.length_append, List.length_cons, List.length_nil] at p1 p2 p3 p4 ⊢; omega) ?_)
     refine ⟨by exact subB, ?_⟩
     refine aOpsF_1 [69] rfl rfl Kz rfl (AOp.move' (.inr rfl) rfl ?_)
     refine ⟨by exact subB, ?_⟩
     refine aOpsF_end ?_
     refine ACode.exit ?_
     refine Rz [0, 1] Kz rfl ?_
     refine Oz rfl rfl rfl (AOp.add rfl rfl rfl (i64_wrap Wz Wz) ?_)
     refine Mz ?_
     refine Ez ?_
     have e5 : (((((((((varB a ++ r.root.l) ++ schB r.sch) ++ formB r.ent) ++ varB r.path.length) ++ dsB (r.path.take r.path.length)) ++ varB r.blocks.length) ++ bsB (r.blocks.take i1)) ++ [0]) ++ hdB (r.blocks.getD i1 spD).h) = (((((((varB a ++ r.root.l) ++ schB r.sch) ++ formB r.ent) ++ varB r.path.length) ++ dsB (r.path.take r.path.length)) ++ varB r.blocks.length) ++ bsB (r.blocks.take (i1 + 1))) := by rw [bsB_next (show i1 < r.blocks.length by omega), spB, hop]; simp [List.append_assoc]
     first | refine thenA_n ?_ | simp only [thenA, blockA, if_true]
     exact NextR.mk Wz Wz (.cons rfl (.cons (show _ = some (sl q _) by rw [← e5]; first | rfl | (simp only [List.length_append]; rfl)) .nil)) Xz (by rw [← e5]; exact subB) trivial
    ·skip
     have hop : (r.blocks.getD i1 spD).opn = true := by simpa using c3
     refine ACode.skip ?_
     refine Sz ?_
     refine ACode.any mixed Kz ?_
     refine AnyA.float (Hq := (upd (fun _ => none) kL1 (some (spblk (r.blocks.getD i1 spD) (.slice eA1 (r.blocks.getD i1 spD).h.cols.length ec1) (.slice eA2 (r.blocks.getD i1 spD).dead.length ec2) (.slice eA3 evs.length ec3))))) [(0, 70), (3, 73), (4, 74)] [1, 2, 5, 6, 7] Kz (Nat.le_of_ble_eq_true rfl) Kz subB ?_
     refine DrawF.q 0 70 [(4, none)] rfl Kz rfl (fun Hc kq hSb => AOp.move' (.inl rfl) rfl Tz) ?_
     refine DrawF.q 3 73 [(8, none)] rfl Kz rfl (fun Hc kq hSb => AOp.fieldAddr' rfl Dz rfl Tz) ?_
     refine DrawF.q 4 74 [(73, some 3)] rfl Kz rfl (fun Hc kq hSb => have tSb := SubS.of hSb; AOp.loadN (b := (spblk (r.blocks.getD i1 spD) (.slice eA1 (r.blocks.getD i1 spD).h.cols.length ec1) (.slice eA2 (r.blocks.getD i1 spD).dead.length ec2) (.slice eA3 evs.length ec3))) (cs := hdc (r.blocks.getD i1 spD).h (.slice eA1 (r.blocks.getD i1 spD).h.cols.length ec1)) rfl rfl hpB (by show 0 + 35 ≤ (spc _ _ _ _).length; rw [spc_len]; decide) (spc_head _ _ _ _) Tz) ?_
     refine DrawF.done ?_
     show aOpsF _ _ _ _ _ _ [1, 2, 5, 6, 7] ⟨_, _, _⟩
     refine aOpsF_1 [] rfl rfl Kz rfl (AOp.buildB [1] rfl Dz rfl rfl ?_)
     refine ⟨by exact subB, ?_⟩
     refine aOpsF_1 [70, 71] rfl rfl Kz rfl (AOp.appendB (bs := (((((((varB a ++ r.root.l) ++ schB r.sch) ++ formB r.ent) ++ varB r.path.length) ++ dsB (r.path.take r.path.length)) ++ varB r.blocks.length) ++ bsB (r.blocks.take i1))) (ps := [1]) rfl rfl rfl hpB (srcOf_gb (e := 5) hpB) srcOk_sl (by have p1 := hP.n; have p2 := hP.d r.path.length; have p3 := hP.b i1; simp only [ha2, List.length_append, List.length_cons, List.length_nil] at p1 p2 p3 ⊢; omega) (by have p1 := hP.n; have p2 := hP.d r.path.length; have p3 := hP.b i1; simp only [ha2, List.length_append, List.length_cons, List.length_nil] at p1 p2 p3 ⊢; omega) ?_)
     refine ⟨by exact subB, ?_⟩
     refine aOpsF_1 [74] rfl rfl Kz rfl ?_
     refine AOp.call' rfl rfl rfl (nputH _ _ (r.blocks.getD i1 spD).h eA1 ec1 (eh1.sub subB) hxo.z (hft.b _ hm) (hsm.b _ hm).h) ?_
     rintro _ _ kw ⟨w, hw1, hw2, rfl, rfl⟩
     refine ⟨by exact subB, ?_⟩
     refine aOpsF_1 [72, 75] rfl rfl Kz rfl (AOp.appendB (bs := ((((((((varB a ++ r.root.l) ++ schB r.sch) ++ formB r.ent) ++ varB r.path.length) ++ dsB (r.path.take r.path.length)) ++ varB r.blocks.length) ++ bsB (r.blocks.take i1)) ++ [1])) (ps := hdB (r.blocks.getD i1 spD).h) rfl rfl rfl hpB (srcOf_gb (e := 5) hpB) srcOk_sl (by have p1 := hP.n; have p2 := hP.d r.path.length; have p3 := hP.b i1; have p4 := hX.n; simp only [ha2, List.length_append, List.length_cons, List.length_nil] at p1 p2 p3 p4 ⊢; omega) (by have p1 := hP.n; have p2 := hP.d r.path.length; have p3 := hP.b i1; have p4 := hX.n; simp only [ha2, List.length_append, List.length_cons, List.length_nil] at p1 p2 p3 p4 ⊢; omega) ?_)
     refine ⟨by exact subB, ?_⟩
     refine aOpsF_1 [76] rfl rfl Kz rfl (AOp.move' (.inr rfl) rfl ?_)
     refine ⟨by exact subB, ?_⟩
     refine aOpsF_end ?_
     refine Sz ?_
     refine ACode.any mixed Kz ?_
     refine AnyA.float (Hq := (upd (fun _ => none) kL1 (some (spblk (r.blocks.getD i1 spD) (.slice eA1 (r.blocks.getD i1 spD).h.cols.length ec1) (.slice eA2 (r.blocks.getD i1 spD).dead.length ec2) (.slice eA3 evs.length ec3))))) [(0, 77), (1, 78), (2, 79), (4, 81), (5, 82), (6, 83), (7, 84)] [3, 8, 9] Kz (Nat.le_of_ble_eq_true rfl) Kz subB ?_
     refine DrawF.q 0 77 [(4, none)] rfl Kz rfl (fun Hc kq hSb => AOp.move' (.inl rfl) rfl Tz) ?_
     refine DrawF.q 1 78 [(8, none)] rfl Kz rfl (fun Hc kq hSb => AOp.fieldAddr' rfl Dz rfl Tz) ?_
     refine DrawF.q 2 79 [(78, some 1)] rfl Kz rfl (fun Hc kq hSb => have tSb := SubS.of hSb; AOp.load1 (b := (spblk (r.blocks.getD i1 spD) (.slice eA1 (r.blocks.getD i1 spD).h.cols.length ec1) (.slice eA2 (r.blocks.getD i1 spD).dead.length ec2) (.slice eA3 evs.length ec3))) (v := .slice eA2 (r.blocks.getD i1 spD).dead.length ec2) rfl rfl hpB (spc_at _ _ _ _).2.1 Tz) ?_
     refine DrawF.q 4 81 [(8, none)] rfl Kz rfl (fun Hc kq hSb => AOp.fieldAddr' rfl Dz rfl Tz) ?_
     refine DrawF.q 5 82 [(81, some 4)] rfl Kz rfl (fun Hc kq hSb => have tSb := SubS.of hSb; AOp.load1 (b := (spblk (r.blocks.getD i1 spD) (.slice eA1 (r.blocks.getD i1 spD).h.cols.length ec1) (.slice eA2 (r.blocks.getD i1 spD).dead.length ec2) (.slice eA3 evs.length ec3))) (v := .slice eA3 evs.length ec3) rfl rfl hpB (spc_at _ _ _ _).2.2 Tz) ?_
     refine DrawF.q 6 83 [(82, some 5)] rfl Kz rfl (fun Hc kq hSb => AOp.len' rfl rfl Tz) ?_
     refine DrawF.q 7 84 [(83, some 6)] rfl Kz rfl (fun Hc kq hSb => AOp.convU64 (a := (r.blocks.getD i1 spD).chunks.length) rfl (congrArg (fun n : Nat => some (Value.int .i64 (n : Int))) hel) Wz Tz) ?_
     refine DrawF.done ?_
     show aOpsF _ _ _ _ _ _ [3, 8, 9] ⟨_, _, _⟩
     refine aOpsF_1 [77, 79] rfl rfl Kz rfl ?_
     refine AOp.call' rfl rfl rfl (putBlob 3 _ _ q (((((((((varB a ++ r.root.l) ++ schB r.sch) ++ formB r.ent) ++ varB r.path.length) ++ dsB (r.path.take r.path.length)) ++ varB r.blocks.length) ++ bsB (r.blocks.take i1)) ++ [1]) ++ hdB (r.blocks.getD i1 spD).h) (r.blocks.getD i1 spD).dead eA2 ec2 hpB (eh2.sub subB).cells (by have p1 := hP.n; have p2 := hP.d r.path.length; have p3 := hP.b i1; have p4 := hX.n; simp only [ha2, List.length_append, List.length_cons, List.length_nil] at p1 p2 p3 p4 ⊢; omega) (by have p4 := hX.n; omega)) ?_
     rintro _ _ kx ⟨rfl, rfl, hkx⟩
     refine ⟨by exact subB, ?_⟩
     refine aOpsF_1 [80, 84] rfl rfl Kz rfl ?_
     refine AOp.call' rfl rfl rfl (putVar 3 _ _ q ((((((((((varB a ++ r.root.l) ++ schB r.sch) ++ formB r.ent) ++ varB r.path.length) ++ dsB (r.path.take r.path.length)) ++ varB r.blocks.length) ++ bsB (r.blocks.take i1)) ++ [1]) ++ hdB (r.blocks.getD i1 spD).h) ++ (varB (r.blocks.getD i1 spD).dead.length ++ (r.blocks.getD i1 spD).dead)) (r.blocks.getD i1 spD).chunks.length hpB Wz (by have p1 := hP.n; have p2 := hP.d r.path.length; have p3 := hP.b i1; have p4 := hX.n; simp only [ha2, List.length_append, List.length_cons, List.length_nil] at p1 p2 p3 p4 ⊢; omega)) ?_
     rintro _ _ ky ⟨rfl, rfl, hky⟩
     refine ⟨by exact subB, ?_⟩
     refine aOpsF_1 [85] rfl rfl Kz rfl (AOp.move' (.inr rfl) rfl ?_)
     refine ⟨by exact subB, ?_⟩
     refine aOpsF_end ?_
     refine Sz ?_
     refine Rz [0, 1, 2, 3] Kz rfl ?_
     refine Fz ?_
     refine Oz rfl rfl rfl (AOp.load1 (b := (spblk (r.blocks.getD i1 spD) (.slice eA1 (r.blocks.getD i1 spD).h.cols.length ec1) (.slice eA2 (r.blocks.getD i1 spD).dead.length ec2) (.slice eA3 evs.length ec3))) (v := .slice eA3 evs.length ec3) rfl rfl hpB (spc_at _ _ _ _).2.2 ?_)
     refine Oz rfl rfl rfl (AOp.len' rfl rfl ?_)
     refine Mz ?_
     refine Ez ?_
     refine ACode.block ?_
     refine ACode.count (fun i => [(89, .int .i64 (i : Int)), (4, sl q ((((((((((((varB a ++ r.root.l) ++ schB r.sch) ++ formB r.ent) ++ varB r.path.length) ++ dsB (r.path.take r.path.length)) ++ varB r.blocks.length) ++ bsB (r.blocks.take i1)) ++ [1]) ++ hdB (r.blocks.getD i1 spD).h) ++ (varB (r.blocks.getD i1 spD).dead.length ++ (r.blocks.getD i1 spD).dead)) ++ varB (r.blocks.getD i1 spD).chunks.length) ++ ksB ((r.blocks.getD i1 spD).chunks.take i)).length)]) [(1, _), (2, _), (3, _), (8, _), (37, _), (38, _), (39, _), (40, _), (47, _), (48, _), (49, _), (50, _), (51, _), (52, _), (53, _), (54, _), (55, _), (56, _), (57, _), (58, _), (59, _), (60, _), (61, _), (62, _), (70, _), (71, _), (72, _), (73, _), (74, _), (75, _), (76, _), (77, _), (78, _), (79, _), (80, _), (81, _), (82, _), (83, _), (84, _), (85, _), (86, _), (87, _), (88, _)] (fun i => upd (upd (upd H k (some (rpblk r (.slice xA r.path.length xa) (.slice xB r.sch.length xb) (.slice xC r.blocks.length xc)))) kL1 (some (spblk (r.blocks.getD i1 spD) (.slice eA1 (r.blocks.getD i1 spD).h.cols.length ec1) (.slice eA2 (r.blocks.getD i1 spD).dead.length ec2) (.slice eA3 evs.length ec3)))) q (some (gb ((((((((((((varB a ++ r.root.l) ++ schB r.sch) ++ formB r.ent) ++ varB r.path.length) ++ dsB (r.path.take r.path.length)) ++ varB r.blocks.length) ++ bsB (r.blocks.take i1)) ++ [1]) ++ hdB (r.blocks.getD i1 spD).h) ++ (varB (r.blocks.getD i1 spD).dead.length ++ (r.blocks.getD i1 spD).dead)) ++ varB (r.blocks.getD i1 spD).chunks.length) ++ ksB ((r.blocks.getD i1 spD).chunks.take i))))) (evs.length) (fun _ => True) (.cons rfl (.cons (show _ = some (sl q _) by rw [show ksB ((r.blocks.getD i1 spD).chunks.take 0) = [] from rfl, List.append_nil]; rfl) .nil)) Xz (by rw [show ksB ((r.blocks.getD i1 spD).chunks.take 0) = [] from rfl, List.append_nil]; exact subB) trivial (fun i2 kL2 HL2 hiL2 hkL2 hsL2 hfL2 hxL2 => ?_)
     show ACode _ _ _ _ _ ⟨_, _, _⟩
     have tsL2 := SubS.of hsL2
     refine Sz ?_
     refine Rz [0] Kz rfl ?_
     refine Oz rfl rfl rfl (AOp.bin' rfl rfl rfl rfl ?_)
     refine Ez ?_
     refine Sz ?_
     refine ACode.cond rfl (fun c4 => ?_) (fun c4 => ?_)
     ·try simp only [Cz] at c4
      refine ACode.skip ?_
      refine Sz ?_
      refine ACode.block ?_
      refine Sz ?_
      obtain ⟨A9, d9, e9, hc9⟩ := eh4.at_ i2 Wz
      obtain ⟨nG, oG, sG, hqG, hpG⟩ := e9 ▸ slcElV eh3.cells (show i2 < evs.length by omega)
      have hck : Nt (((r.blocks.getD i1 spD).chunks.getD i2 []).length ≤ 20000) := ⟨(hsm.b _ hm).k _ (getD_mem Wz)⟩
      refine Rz [0, 1, 2] Kz rfl ?_
      refine Oz rfl rfl rfl (AOp.indexP (aslcAt_sub subB hqG) rfl rfl rfl ?_)
      refine Oz rfl rfl rfl (AOp.loadP0 (hpG.sub subB) rfl rfl rfl ?_)
      refine Nz ?_
      refine Ez ?_
      refine Rz [0, 1, 2, 3] Kz rfl ?_
      refine Mz ?_
      refine Mz ?_
      refine Oz rfl rfl rfl ?_
      refine AOp.call' rfl rfl rfl (putBlob 3 _ _ q ((((((((((((varB a ++ r.root.l) ++ schB r.sch) ++ formB r.ent) ++ varB r.path.length) ++ dsB (r.path.take r.path.length)) ++ varB r.blocks.length) ++ bsB (r.blocks.take i1)) ++ [1]) ++ hdB (r.blocks.getD i1 spD).h) ++ (varB (r.blocks.getD i1 spD).dead.length ++ (r.blocks.getD i1 spD).dead)) ++ varB (r.blocks.getD i1 spD).chunks.length) ++ ksB ((r.blocks.getD i1 spD).chunks.take i2)) ((r.blocks.getD i1 spD).chunks.getD i2 []) A9 d9 hpB (hc9.sub subB).cells (by have p1 := hP.n; have p2 := hP.d r.path.length; have p3 := hP.b i1; have p4 := hX.n; have p5 := hX.k i2; simp only [ha2, List.length_append, List.length_cons, List.length_nil] at p1 p2 p3 p4 p5 ⊢; omega) (by have := hck.h; omega)) ?_
      rintro _ _ kz ⟨rfl, rfl, hkz⟩
      refine Nz ?_
      refine Ez ?_
      refine Rz [0, 1] Kz rfl ?_
      refine Oz rfl rfl rfl (AOp.add rfl rfl rfl (i64_wrap Wz Wz) ?_)
      refine Mz ?_
      refine Ez ?_
      have e6 : ((((((((((((varB a ++ r.root.l) ++ schB r.sch) ++ formB r.ent) ++ varB r.path.length) ++ dsB (r.path.take r.path.length)) ++ varB r.blocks.length) ++ bsB (r.blocks.take i1)) ++ [1]) ++ hdB (r.blocks.getD i1 spD).h) ++ (varB (r.blocks.getD i1 spD).dead.length ++ (r.blocks.getD i1 spD).dead)) ++ varB (r.blocks.getD i1 spD).chunks.length) ++ ksB ((r.blocks.getD i1 spD).chunks.take i2)) ++ (varB ((r.blocks.getD i1 spD).chunks.getD i2 []).length ++ ((r.blocks.getD i1 spD).chunks.getD i2 [])) = ((((((((((((varB a ++ r.root.l) ++ schB r.sch) ++ formB r.ent) ++ varB r.path.length) ++ dsB (r.path.take r.path.length)) ++ varB r.blocks.length) ++ bsB (r.blocks.take i1)) ++ [1]) ++ hdB (r.blocks.getD i1 spD).h) ++ (varB (r.blocks.getD i1 spD).dead.length ++ (r.blocks.getD i1 spD).dead)) ++ varB (r.blocks.getD i1 spD).chunks.length) ++ ksB ((r.blocks.getD i1 spD).chunks.take (i2 + 1))) := by rw [ksB_next (show i2 < (r.blocks.getD i1 spD).chunks.length by omega)]; simp [List.append_assoc, blB]
      first | refine thenA_n ?_ | simp only [thenA, blockA, if_true]
      exact NextR.mk Wz Wz (.cons rfl (.cons (show _ = some (sl q _) by rw [← e6]; first | rfl | (simp only [List.length_append]; rfl)) .nil)) Xz (by rw [← e6]; exact subB) trivial
     ·try simp only [Cz] at c4
      have hik : i2 = (r.blocks.getD i1 spD).chunks.length := by omega
      refine ACode.exit ?_
      refine Rz [0, 1] Kz rfl ?_
      refine Oz rfl rfl rfl (AOp.add rfl rfl rfl (i64_wrap Wz Wz) ?_)
      refine Mz ?_
      refine Ez ?_
      have e5 : ((((((((((((varB a ++ r.root.l) ++ schB r.sch) ++ formB r.ent) ++ varB r.path.length) ++ dsB (r.path.take r.path.length)) ++ varB r.blocks.length) ++ bsB (r.blocks.take i1)) ++ [1]) ++ hdB (r.blocks.getD i1 spD).h) ++ (varB (r.blocks.getD i1 spD).dead.length ++ (r.blocks.getD i1 spD).dead)) ++ varB (r.blocks.getD i1 spD).chunks.length) ++ ksB ((r.blocks.getD i1 spD).chunks.take i2)) = (((((((varB a ++ r.root.l) ++ schB r.sch) ++ formB r.ent) ++ varB r.path.length) ++ dsB (r.path.take r.path.length)) ++ varB r.blocks.length) ++ bsB (r.blocks.take (i1 + 1))) := by rw [bsB_next (show i1 < r.blocks.length by omega), spB, hop, hik, List.take_length]; simp [List.append_assoc, blB]
      first | refine thenA_n ?_ | simp only [thenA, blockA, if_true]
      exact NextR.mk Wz Wz (.cons rfl (.cons (show _ = some (sl q _) by rw [← e5]; first | rfl | (simp only [List.length_append]; rfl)) .nil)) Xz (by rw [← e5]; exact subB) trivial
   ·try simp only [Cz] at c2
    refine ACode.exit ?_
    refine Sz ?_
    refine Rz [0, 1, 2] Kz rfl ?_
    refine Mz ?_
    refine Nz ?_
    refine Nz ?_
    refine Ez ?_
    refine ACode.ret ?_
    try simp only [thenA, blockA, if_true]
    have e8 : (((((((varB a ++ r.root.l) ++ schB r.sch) ++ formB r.ent) ++ varB r.path.length) ++ dsB (r.path.take r.path.length)) ++ varB r.blocks.length) ++ bsB (r.blocks.take i1)) = rpB r := by rw [rpB, ha2, show i1 = r.blocks.length by omega, List.take_length, List.take_length]; simp [List.append_assoc]
    rw [e8] at hsL1 tsL1 ⊢
    have e1 : putRp r = (rpB r, 0) := by unfold putRp; rw [if_pos hyes]
    rw [e1]
    have hqz : HL1 q = some (gb (rpB r)) := hsL1 _ _ (upd_same _ _ _)
    have hSz : Ab.Sub H HL1 := by exact subB
    exact RetQ.two rfl rfl rfl (sub_refl _) (fun m b h => ⟨b, hSz m b h⟩) (fun hk => ⟨_, rfl, newS_gb hqz Wz Wz, by omega, hfL1, hSz⟩)
end

end Go.Proofs.YteoofihjmldllaaDoor
