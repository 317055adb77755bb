/- Contracts over the abstract states: whether a reply is formed, by the reference. -/
import Derived.Test.YteoofihjmldllaaGreatDoorR39
set_option linter.unusedVariables false
set_option linter.unusedSimpArgs false
set_option maxRecDepth 100000
namespace Go.Proofs.YteoofihjmldllaaGreatDoor
open Go Go.Ab

def badB (cols : List Col) (x : Sp) : Bool := (((!soundH soundR x.h cols || decide ((x.dead.length : Int) > 65536)) || decide ((x.chunks.length : Int) > 64)) || (!x.opn && (decide ((x.dead.length : Int) > 0) || decide ((x.chunks.length : Int) > 0))))
theorem blockR (cols : List Col) (x : Sp) : blockB soundR cols x = (!badB cols x && !x.chunks.any longB) := by
 unfold blockB badB
 cases hs : soundH soundR x.h cols with
 | false => rfl
 | true =>
  rw [if_neg Dz]
  cases ho : x.opn with
  | true =>
   rw [if_neg Dz]
   cases x.chunks.any longB <;> by_cases h1 : (x.dead.length : Int) ≤ 65536 <;> by_cases h2 : (x.chunks.length : Int) ≤ 64 <;> simp [h1, h2] <;> omega
  | false =>
   rw [if_pos rfl]
   by_cases h1 : x.dead.length = 0
   ·by_cases h2 : x.chunks.length = 0
    ·have e := List.eq_nil_of_length_eq_zero h2
     rw [e, h1]
     rfl
    ·have a : decide ((x.chunks.length : Int) > 0) = true := decide_eq_true Wz
     have b : ((x.chunks.length : Int) == 0) = false := by rw [beq_eq_false_iff_ne]; omega
     rw [a, b]
     simp
   ·have a : decide ((x.dead.length : Int) > 0) = true := decide_eq_true Wz
    have b : ((x.dead.length : Int) == 0) = false := by rw [beq_eq_false_iff_ne]; omega
    rw [a, b]
    simp
section
variable (H : Hp) (k : Nat)

set_option maxHeartbeats 1000000 in
theorem formedR_b (r : Rp) (hok : r.ok) (hs : r.sch.length ≤ 1000000) (hcl : ∀ x ∈ r.blocks, x.h.cols.length ≤ 1000000) (v : Value) (hv : RpV H r v) : ACalls Tryz.prog 2 8 [v] H k (Same H k (.bool (formedR soundR r))) := by
 obtain ⟨xA, xa, xB, xb, xC, xc, xs, rfl, x1, x2, x3, x4⟩ := hv
 have hbl := hok.bl
 refine ACalls.fresh fun hf => ?_
 refine ACalls.body Tryz.func8 rfl (Nat.le_of_ble_eq_true rfl) ?_
 refine Sz ?_
 refine Rz [0, 1] Kz rfl ?_
 refine Oz rfl rfl rfl (AOp.boxV rfl rfl ?_)
 refine Nz ?_
 refine Ez ?_
 refine Sz ?_
 refine Sz ?_
 refine Rz [0, 1, 2, 3, 4, 5, 6, 7, 8, 9, 10, 11, 12, 13, 14, 15, 16, 17, 18, 19, 20, 21, 22, 23, 24, 25, 26, 27, 28, 29, 30, 31, 32, 33, 34, 35, 36, 37] Kz rfl ?_
 refine Fz ?_
 refine Oz rfl rfl rfl ?_
 refine AOp.load1 (b := ?b1) (v := ?v1) rfl rfl ?hn1 ?hv1 ?hR1
 (case hn1 => exact hpB)
 (case hv1 => rfl)
 refine Oz rfl rfl rfl (AOp.bin' rfl rfl rfl rfl ?_)
 refine Mz ?_
 refine aOps_gd0 rfl rfl (wantF rfl rfl rfl) (fun hc => AOp.slots [(1, _)] (.cons rfl .nil) (AOp.fieldAddr' rfl Dz rfl Tz)) ?_
 refine aOps_gd0 rfl rfl (wantF rfl rfl rfl) (fun hc => AOp.slots [(10, _)] (.cons (gvT rfl hc) .nil) ((by refine AOp.load1 (b := ?b2) (v := ?v2) rfl rfl ?hn2 ?hv2 ?hR2; (case hn2 => exact hpB); (case hv2 => rfl); exact Tz))) ?_
 refine aOps_gd0 rfl rfl (wantF rfl rfl rfl) (fun hc => AOp.slots [(11, _)] (.cons (gvT rfl hc) .nil) (AOp.bin' rfl rfl rfl rfl Tz)) ?_
 refine Oz rfl rfl rfl (AOp.pickOr rfl rfl rfl (fun hb => gvE rfl (t_not hb)) ?_)
 refine Mz ?_
 refine aOps_gd0 rfl rfl (wantF rfl rfl rfl) (fun hc => AOp.slots [(1, _)] (.cons rfl .nil) (AOp.fieldAddr' rfl Dz rfl Tz)) ?_
 refine aOps_gd0 rfl rfl (wantF rfl rfl rfl) (fun hc => AOp.slots [(15, _)] (.cons (gvT rfl hc) .nil) (AOp.load1 (b := (rpblk r (.slice xA r.path.length xa) (.slice xB r.sch.length xb) (.slice xC r.blocks.length xc))) (v := .slice xB r.sch.length xb) rfl rfl hpB (rpc_at _ _ _ _).2.1 Tz)) ?_
 refine aOps_gd rfl rfl (wantF rfl rfl rfl) (fun hc => AOp.slots [(16, _)] (.cons (gvT rfl hc) .nil) (AOp.call' rfl rfl rfl (refschema_cols 2 _ _ r.sch xB xb (x2.sub subB).cells hok.sl) Iz)) (fun kq hkq => ?_)
 refine aOps_gd0 rfl rfl (wantF rfl rfl rfl) (fun hc => AOp.slots [(17, _)] (.cons (gvT rfl hc) .nil) (AOp.bin' rfl rfl rfl rfl Tz)) ?_
 refine Oz rfl rfl rfl (AOp.pickOr rfl rfl rfl (fun hb => gvE rfl (t_not hb)) ?_)
 refine Mz ?_
 refine aOps_gd0 rfl rfl (wantF rfl rfl rfl) (fun hc => AOp.slots [(1, _)] (.cons rfl .nil) (AOp.fieldAddr' rfl Dz rfl Tz)) ?_
 refine aOps_gd0 rfl rfl (wantF rfl rfl rfl) (fun hc => AOp.slots [(21, _)] (.cons (gvT rfl hc) .nil) (AOp.fieldAddr' rfl Dz rfl Tz)) ?_
 refine aOps_gd0 rfl rfl (wantF rfl rfl rfl) (fun hc => AOp.slots [(22, _)] (.cons (gvT rfl hc) .nil) (AOp.load1 (b := (rpblk r (.slice xA r.path.length xa) (.slice xB r.sch.length xb) (.slice xC r.blocks.length xc))) (v := .int .i64 r.ent.g) rfl rfl hpB (rpc_g _ _ _ _) Tz)) ?_
 refine aOps_gd0 rfl rfl (wantF rfl rfl rfl) (fun hc => AOp.slots [(23, _)] (.cons (gvT rfl hc) .nil) (AOp.bin' rfl rfl rfl rfl Tz)) ?_
 refine Oz rfl rfl rfl (AOp.pickOr rfl rfl rfl (fun hb => gvE rfl (t_not hb)) ?_)
 refine Mz ?_
 refine aOps_gd0 rfl rfl (wantF rfl rfl rfl) (fun hc => AOp.slots [(1, _)] (.cons rfl .nil) (AOp.fieldAddr' rfl Dz rfl Tz)) ?_
 refine aOps_gd0 rfl rfl (wantF rfl rfl rfl) (fun hc => AOp.slots [(27, _)] (.cons (gvT rfl hc) .nil) (AOp.fieldAddr' rfl Dz rfl Tz)) ?_
 refine aOps_gd0 rfl rfl (wantF rfl rfl rfl) (fun hc => AOp.slots [(28, _)] (.cons (gvT rfl hc) .nil) (AOp.load1 (b := (rpblk r (.slice xA r.path.length xa) (.slice xB r.sch.length xb) (.slice xC r.blocks.length xc))) (v := .int .i64 r.ent.g) rfl rfl hpB (rpc_g _ _ _ _) Tz)) ?_
 refine aOps_gd0 rfl rfl (wantF rfl rfl rfl) (fun hc => AOp.slots [(29, _)] (.cons (gvT rfl hc) .nil) (AOp.bin' rfl rfl rfl rfl Tz)) ?_
 refine Oz rfl rfl rfl (AOp.pickOr rfl rfl rfl (fun hb => gvE rfl (t_not hb)) ?_)
 refine Mz ?_
 refine aOps_gd0 rfl rfl (wantF rfl rfl rfl) (fun hc => AOp.slots [(1, _)] (.cons rfl .nil) (AOp.fieldAddr' rfl Dz rfl Tz)) ?_
 refine aOps_gd0 rfl rfl (wantF rfl rfl rfl) (fun hc => AOp.slots [(33, _)] (.cons (gvT rfl hc) .nil) (AOp.load1 (b := (rpblk r (.slice xA r.path.length xa) (.slice xB r.sch.length xb) (.slice xC r.blocks.length xc))) (v := .slice xA r.path.length xa) rfl rfl hpB (rpc_at _ _ _ _).1 Tz)) ?_
 refine aOps_gd0 rfl rfl (wantF rfl rfl rfl) (fun hc => AOp.slots [(34, _)] (.cons (gvT rfl hc) .nil) (AOp.len' rfl rfl Tz)) ?_
 refine aOps_gd0 rfl rfl (wantF rfl rfl rfl) (fun hc => AOp.slots [(35, _)] (.cons (gvT rfl hc) .nil) (AOp.bin' rfl rfl rfl rfl Tz)) ?_
 refine Oz rfl rfl rfl (AOp.pickOr rfl rfl rfl (fun hb => gvE rfl (t_not hb)) ?_)
 refine Mz ?_
 refine aOps_gd0 rfl rfl (wantF rfl rfl rfl) (fun hc => AOp.slots [(1, _)] (.cons rfl .nil) (AOp.fieldAddr' rfl Dz rfl Tz)) ?_
 refine aOps_gd0 rfl rfl (wantF rfl rfl rfl) (fun hc => AOp.slots [(39, _)] (.cons (gvT rfl hc) .nil) (AOp.load1 (b := (rpblk r (.slice xA r.path.length xa) (.slice xB r.sch.length xb) (.slice xC r.blocks.length xc))) (v := .slice xC r.blocks.length xc) rfl rfl hpB (rpc_at _ _ _ _).2.2 Tz)) ?_
 refine aOps_gd0 rfl rfl (wantF rfl rfl rfl) (fun hc => AOp.slots [(40, _)] (.cons (gvT rfl hc) .nil) (AOp.len' rfl rfl Tz)) ?_
 refine aOps_gd0 rfl rfl (wantF rfl rfl rfl) (fun hc => AOp.slots [(41, _)] (.cons (gvT rfl hc) .nil) (AOp.bin' rfl rfl rfl rfl Tz)) ?_
 refine Oz rfl rfl rfl (AOp.pickOr rfl rfl rfl (fun hb => gvE rfl (t_not hb)) ?_)
 refine Ez ?_
 refine ACode.cond rfl (fun c0 => ?_) (fun c0 => ?_)
 ·skip
  have hff : frontR r = true := by rw [frontR, schema_same]; exact c0
  refine Sz ?_
  refine Rz [0] Kz rfl ?_
  refine Nz ?_
  refine Ez ?_
  refine ACode.ret ?_
  exact RetQ.one rfl rfl subB stays (fun hk => ⟨(by rw [formedR, if_pos hff]), rfl, by omega⟩)
 ·skip
  have hff : ¬ frontR r = true := by rw [show frontR r = false by rw [frontR, schema_same]; exact c0]; decide
  refine ACode.skip ?_
  refine Sz ?_
  refine Sz ?_
  refine Rz [0] Kz rfl ?_
  refine Nz ?_
  refine Ez ?_
  refine ACode.block ?_
  refine ACode.count0 (fun i => [(3, .int .i64 (i : Int))]) [(1, _)] (r.blocks.length) (fun i => ∀ j, j < i → blockB soundR r.sch (r.blocks.getD j spD) = true) (.cons rfl .nil) (.cons rfl .nil) (fun j hj => absurd hj (Nat.not_lt_zero j)) (fun i0 kL0 HL0 hiL0 hkL0 hsL0 hfL0 hxL0 => ?_)
  show ACode _ _ _ _ _ ⟨_, _, _⟩
  have tsL0 := SubS.of hsL0
  refine Sz ?_
  refine Sz ?_
  refine Rz [0, 1, 2, 3, 4] Kz rfl ?_
  refine Mz ?_
  refine Fz ?_
  refine Oz rfl rfl rfl (AOp.load1 (b := (rpblk r (.slice xA r.path.length xa) (.slice xB r.sch.length xb) (.slice xC r.blocks.length xc))) (v := .slice xC r.blocks.length xc) rfl rfl hpB (rpc_at _ _ _ _).2.2 ?_)
  refine Oz rfl rfl rfl (AOp.len' rfl rfl ?_)
  refine Oz rfl rfl rfl (AOp.bin' rfl rfl rfl rfl ?_)
  refine Ez ?_
  refine ACode.cond rfl (fun c1 => ?_) (fun c1 => ?_)
  ·try simp only [Cz] at c1
   refine ACode.skip ?_
   refine Sz ?_
   refine ACode.block ?_
   refine Sz ?_
   obtain ⟨ne, oe, pe, eA1, ec1, eA2, ec2, eA3, ec3, evs, qe, le, eh1, eh2, eh3, eh4⟩ := Sps.el (i := i0) (SLC.sub x3 subB) (Sps.sub x4 subB) Wz
   have hm : (r.blocks.getD i0 spD) ∈ r.blocks := getD_mem Wz
   have hxo := hok.b _ hm
   have eh1 : SLC H 40 eA1 (r.blocks.getD i0 spD).h.cols.length ec1 (chs (r.blocks.getD i0 spD).h.cols) := eh1
   have eh3 : SLC H 1 eA3 evs.length ec3 evs := eh3
   have eh4 : Bws H evs (r.blocks.getD i0 spD).chunks := eh4
   have hel := eh4.len
   have hekl := hxo.kl
   refine Rz [0, 1, 2, 3, 4, 5, 6] Kz rfl ?_
   refine Fz ?_
   refine Oz rfl rfl rfl (AOp.load1 (b := (rpblk r (.slice xA r.path.length xa) (.slice xB r.sch.length xb) (.slice xC r.blocks.length xc))) (v := .slice xC r.blocks.length xc) rfl rfl hpB (rpc_at _ _ _ _).2.2 ?_)
   refine Mz ?_
   refine Oz rfl rfl rfl (AOp.indexP (aslcAt_sub subB qe) rfl rfl rfl ?_)
   refine Oz rfl rfl rfl (AOp.loadPA (v := .agg (spc (r.blocks.getD i0 spD) (.slice eA1 (r.blocks.getD i0 spD).h.cols.length ec1) (.slice eA2 (r.blocks.getD i0 spD).dead.length ec2) (.slice eA3 evs.length ec3)).toArray) (PAt.sub le subB) rfl rfl rfl rfl (spc_len _ _ _ _) Dz ?_)
   refine Oz rfl rfl rfl (AOp.alloc' rfl ?_)
   refine aOps_0 rfl rfl rfl ?_
   refine AOp.storeAll (b := ?b3) rfl rfl rfl ?hn3 ?hk3 rfl ?hw3 ?ho3 ?hl3 ?hR3
   (case hn3 => exact hpB)
   (case hk3 => rfl)
   (case hw3 => first | rfl | exact spv_size _ _ _ _ | exact spc_one _ _ _ _ rfl rfl rfl | (simp; done))
   (case ho3 => first | rfl | exact spv_size _ _ _ _ | exact spc_one _ _ _ _ rfl rfl rfl | decide | (simp; done))
   (case hl3 => first | rfl | exact spv_size _ _ _ _ | exact spc_one _ _ _ _ rfl rfl rfl | (simp; done))
   rw [rd_upd2]
   refine Ez ?_
   refine Sz ?_
   refine Sz ?_
   refine Rz [0, 1, 2, 3, 4, 5, 6, 7, 8, 9, 10, 11, 12, 13, 14, 15, 16, 17, 18, 19, 20, 21, 22, 23, 24, 25, 26, 27, 28, 29, 30, 31, 32, 33, 34] Kz rfl ?_
   refine Fz ?_
   refine Oz rfl rfl rfl (AOp.loadN (b := (spblk (r.blocks.getD i0 spD) (.slice eA1 (r.blocks.getD i0 spD).h.cols.length ec1) (.slice eA2 (r.blocks.getD i0 spD).dead.length ec2) (.slice eA3 evs.length ec3))) (cs := hdc (r.blocks.getD i0 spD).h (.slice eA1 (r.blocks.getD i0 spD).h.cols.length ec1)) rfl rfl hpB (by show 0 + 35 ≤ (spc _ _ _ _).length; rw [spc_len]; decide) (spc_head _ _ _ _) ?_)
   refine Fz ?_
   refine Oz rfl rfl rfl (AOp.load1 (b := (rpblk r (.slice xA r.path.length xa) (.slice xB r.sch.length xb) (.slice xC r.blocks.length xc))) (v := .slice xB r.sch.length xb) rfl rfl hpB (rpc_at _ _ _ _).2.1 ?_)
   refine aOps_q rfl rfl rfl (AOp.call' rfl rfl rfl (rHsound _ _ (r.blocks.getD i0 spD).h eA1 ec1 (SLC.sub eh1 subB) hxo.z (hcl _ hm) r.sch xB xb (x2.sub subB) hs) Iz) (fun kq hkq => ?_)
   refine Oz rfl rfl rfl (AOp.un' rfl rfl rfl ?_)
   refine Mz ?_
   refine aOps_gd0 rfl rfl (wantF rfl rfl rfl) (fun hc => AOp.slots [(4, _)] (.cons rfl .nil) (AOp.fieldAddr' rfl Dz rfl Tz)) ?_
   refine aOps_gd0 rfl rfl (wantF rfl rfl rfl) (fun hc => AOp.slots [(63, _)] (.cons (gvT rfl hc) .nil) (AOp.load1 (b := (spblk (r.blocks.getD i0 spD) (.slice eA1 (r.blocks.getD i0 spD).h.cols.length ec1) (.slice eA2 (r.blocks.getD i0 spD).dead.length ec2) (.slice eA3 evs.length ec3))) (v := .slice eA2 (r.blocks.getD i0 spD).dead.length ec2) rfl rfl hpB (spc_at _ _ _ _).2.1 Tz)) ?_
   refine aOps_gd0 rfl rfl (wantF rfl rfl rfl) (fun hc => AOp.slots [(64, _)] (.cons (gvT rfl hc) .nil) (AOp.len' rfl rfl Tz)) ?_
   refine aOps_gd0 rfl rfl (wantF rfl rfl rfl) (fun hc => AOp.slots [(65, _)] (.cons (gvT rfl hc) .nil) (AOp.bin' rfl rfl rfl rfl Tz)) ?_
   refine Oz rfl rfl rfl (AOp.pickOr rfl rfl rfl (fun hb => gvE rfl (t_not hb)) ?_)
   refine Mz ?_
   refine aOps_gd0 rfl rfl (wantF rfl rfl rfl) (fun hc => AOp.slots [(4, _)] (.cons rfl .nil) (AOp.fieldAddr' rfl Dz rfl Tz)) ?_
   refine aOps_gd0 rfl rfl (wantF rfl rfl rfl) (fun hc => AOp.slots [(69, _)] (.cons (gvT rfl hc) .nil) (AOp.load1 (b := (spblk (r.blocks.getD i0 spD) (.slice eA1 (r.blocks.getD i0 spD).h.cols.length ec1) (.slice eA2 (r.blocks.getD i0 spD).dead.length ec2) (.slice eA3 evs.length ec3))) (v := .slice eA3 evs.length ec3) rfl rfl hpB (spc_at _ _ _ _).2.2 Tz)) ?_
   refine aOps_gd0 rfl rfl (wantF rfl rfl rfl) (fun hc => AOp.slots [(70, _)] (.cons (gvT rfl hc) .nil) (AOp.len' rfl rfl Tz)) ?_
   refine aOps_gd0 rfl rfl (wantF rfl rfl rfl) (fun hc => AOp.slots [(71, _)] (.cons (gvT rfl hc) .nil) (AOp.bin' rfl rfl rfl rfl Tz)) ?_
   refine Oz rfl rfl rfl (AOp.pickOr rfl rfl rfl (fun hb => gvE rfl (t_not hb)) ?_)
   refine Mz ?_
   refine aOps_gd0 rfl rfl (wantF rfl rfl rfl) (fun hc => AOp.slots [(4, _)] (.cons rfl .nil) (AOp.fieldAddr' rfl Dz rfl Tz)) ?_
   refine aOps_gd0 rfl rfl (wantF rfl rfl rfl) (fun hc => AOp.slots [(75, _)] (.cons (gvT rfl hc) .nil) (AOp.load1 (b := (spblk (r.blocks.getD i0 spD) (.slice eA1 (r.blocks.getD i0 spD).h.cols.length ec1) (.slice eA2 (r.blocks.getD i0 spD).dead.length ec2) (.slice eA3 evs.length ec3))) (v := .bool (r.blocks.getD i0 spD).opn) rfl rfl hpB (spc_at _ _ _ _).1 Tz)) ?_
   refine aOps_gd0 rfl rfl (wantF rfl rfl rfl) (fun hc => AOp.slots [(76, _)] (.cons (gvT rfl hc) .nil) (AOp.un' rfl rfl rfl Tz)) ?_
   refine aOps_gd0 rfl rfl (wantF rfl rfl rfl) (fun hc => AOp.slots [(77, _)] (.cons (gvT rfl hc) .nil) (AOp.move' (.inl rfl) rfl Tz)) ?_
   refine aOps_gd0 rfl rfl (wantGT rfl rfl rfl) (fun hc => AOp.slots [(4, _)] (.cons rfl .nil) (AOp.fieldAddr' rfl Dz rfl Tz)) ?_
   refine aOps_gd0 rfl rfl (wantGT rfl rfl rfl) (fun hc => AOp.slots [(79, _)] (.cons (gvT rfl hc) .nil) (AOp.load1 (b := (spblk (r.blocks.getD i0 spD) (.slice eA1 (r.blocks.getD i0 spD).h.cols.length ec1) (.slice eA2 (r.blocks.getD i0 spD).dead.length ec2) (.slice eA3 evs.length ec3))) (v := .slice eA2 (r.blocks.getD i0 spD).dead.length ec2) rfl rfl hpB (spc_at _ _ _ _).2.1 Tz)) ?_
   refine aOps_gd0 rfl rfl (wantGT rfl rfl rfl) (fun hc => AOp.slots [(80, _)] (.cons (gvT rfl hc) .nil) (AOp.len' rfl rfl Tz)) ?_
   refine aOps_gd0 rfl rfl (wantGT rfl rfl rfl) (fun hc => AOp.slots [(81, _)] (.cons (gvT rfl hc) .nil) (AOp.bin' rfl rfl rfl rfl Tz)) ?_
   refine aOps_gd0 rfl rfl (wantGT rfl rfl rfl) (fun hc => AOp.slots [(82, _)] (.cons (gvT rfl hc) .nil) (AOp.move' (.inl rfl) rfl Tz)) ?_
   refine aOps_gd0 rfl rfl (wantGF rfl rfl rfl) (fun hc => AOp.slots [(4, _)] (.cons rfl .nil) (AOp.fieldAddr' rfl Dz rfl Tz)) ?_
   refine aOps_gd0 rfl rfl (wantGF rfl rfl rfl) (fun hc => AOp.slots [(84, _)] (.cons (gvT rfl hc) .nil) (AOp.load1 (b := (spblk (r.blocks.getD i0 spD) (.slice eA1 (r.blocks.getD i0 spD).h.cols.length ec1) (.slice eA2 (r.blocks.getD i0 spD).dead.length ec2) (.slice eA3 evs.length ec3))) (v := .slice eA3 evs.length ec3) rfl rfl hpB (spc_at _ _ _ _).2.2 Tz)) ?_
   refine aOps_gd0 rfl rfl (wantGF rfl rfl rfl) (fun hc => AOp.slots [(85, _)] (.cons (gvT rfl hc) .nil) (AOp.len' rfl rfl Tz)) ?_
   refine aOps_gd0 rfl rfl (wantGF rfl rfl rfl) (fun hc => AOp.slots [(86, _)] (.cons (gvT rfl hc) .nil) (AOp.bin' rfl rfl rfl rfl Tz)) ?_
   refine aOps_gd0 rfl rfl (wantGT rfl rfl rfl) (fun hc => AOp.pickOr rfl rfl (gvE rfl hc) (fun hb => gvE rfl (and_mk hc (t_not hb))) Tz) ?_
   refine aOps_gd0 rfl rfl (wantF rfl rfl rfl) (fun hc => AOp.pickAnd rfl rfl (gvE rfl hc) (fun hb => gvE rfl (and_mk hc hb)) Tz) ?_
   refine Oz rfl rfl rfl (AOp.pickOr rfl rfl rfl (fun hb => gvE rfl (t_not hb)) ?_)
   refine Ez ?_
   refine ACode.cond rfl (fun c2 => ?_) (fun c2 => ?_)
   ·skip
    rw [hel] at c2
    have hbad : badB r.sch (r.blocks.getD i0 spD) = true := c2
    have hcc : blockB soundR r.sch (r.blocks.getD i0 spD) = false := by rw [blockR, hbad]; rfl
    refine Sz ?_
    refine Rz [0] Kz rfl ?_
    refine Nz ?_
    refine Ez ?_
    refine ACode.ret ?_
    exact RetQ.one rfl rfl subB stays (fun hk => ⟨(by rw [formedR, if_neg hff, all_not spD Wz hcc]), rfl, by omega⟩)
   ·skip
    rw [hel] at c2
    have hbad : badB r.sch (r.blocks.getD i0 spD) = false := c2
    refine ACode.skip ?_
    refine Sz ?_
    refine Rz [0] Kz rfl ?_
    refine Nz ?_
    refine Ez ?_
    refine ACode.block ?_
    refine ACode.count0 (fun i => [(5, .int .i64 (i : Int))]) [(1, _), (3, _), (4, _), (44, _), (45, _), (46, _), (47, _), (48, _), (51, _), (52, _), (53, _), (54, _), (55, _), (56, _), (57, _), (58, _), (59, _), (60, _), (61, _), (62, _), (63, _), (64, _), (65, _), (66, _), (67, _), (68, _), (69, _), (70, _), (71, _), (72, _), (73, _), (74, _), (75, _), (76, _), (77, _), (78, _), (79, _), (80, _), (81, _), (82, _), (83, _), (84, _), (85, _), (86, _), (87, _), (88, _), (89, _), (90, _)] (evs.length) (fun i => ((r.blocks.getD i0 spD).chunks.take i).any longB = false) (.cons rfl .nil) Xz rfl (fun i1 kL1 HL1 hiL1 hkL1 hsL1 hfL1 hxL1 => ?_)
    show ACode _ _ _ _ _ ⟨_, _, _⟩
    have tsL1 := SubS.of hsL1
    refine Sz ?_
    refine Sz ?_
    refine Rz [0, 1, 2, 3, 4] Kz rfl ?_
    refine Mz ?_
    refine Fz ?_
    refine Oz rfl rfl rfl (AOp.load1 (b := (spblk (r.blocks.getD i0 spD) (.slice eA1 (r.blocks.getD i0 spD).h.cols.length ec1) (.slice eA2 (r.blocks.getD i0 spD).dead.length ec2) (.slice eA3 evs.length ec3))) (v := .slice eA3 evs.length ec3) rfl rfl hpB (spc_at _ _ _ _).2.2 ?_)
    refine Oz rfl rfl rfl (AOp.len' rfl rfl ?_)
    refine Oz rfl rfl rfl (AOp.bin' rfl rfl rfl rfl ?_)
    refine Ez ?_
    refine ACode.cond rfl (fun c3 => ?_) (fun c3 => ?_)
    ·try simp only [Cz] at c3
     refine ACode.skip ?_
     refine Sz ?_
     refine ACode.block ?_
     refine Sz ?_
     obtain ⟨A9, d9, e9, hc9⟩ := eh4.at_ i1 Wz
     obtain ⟨nG, oG, sG, hqG, hpG⟩ := e9 ▸ slcElV eh3.cells (show i1 < evs.length by omega)
     refine Rz [0, 1, 2, 3, 4, 5, 6] Kz rfl ?_
     refine Fz ?_
     refine Oz rfl rfl rfl (AOp.load1 (b := (spblk (r.blocks.getD i0 spD) (.slice eA1 (r.blocks.getD i0 spD).h.cols.length ec1) (.slice eA2 (r.blocks.getD i0 spD).dead.length ec2) (.slice eA3 evs.length ec3))) (v := .slice eA3 evs.length ec3) rfl rfl hpB (spc_at _ _ _ _).2.2 ?_)
     refine Mz ?_
     refine Oz rfl rfl rfl (AOp.indexP (aslcAt_sub subB hqG) rfl rfl rfl ?_)
     refine Oz rfl rfl rfl (AOp.loadP0 (hpG.sub subB) rfl rfl rfl ?_)
     refine Oz rfl rfl rfl (AOp.len' rfl rfl ?_)
     refine Oz rfl rfl rfl (AOp.bin' rfl rfl rfl rfl ?_)
     refine Ez ?_
     refine ACode.cond rfl (fun c4 => ?_) (fun c4 => ?_)
     ·skip
      have hlg : longB ((r.blocks.getD i0 spD).chunks.getD i1 []) = true := c4
      have hcc : blockB soundR r.sch (r.blocks.getD i0 spD) = false := by rw [blockR, show (r.blocks.getD i0 spD).chunks.any longB = true from List.any_eq_true.2 ⟨_, getD_mem Wz, hlg⟩]; simp
      refine Sz ?_
      refine Rz [0] Kz rfl ?_
      refine Nz ?_
      refine Ez ?_
      refine ACode.ret ?_
      exact RetQ.one rfl rfl subB stays (fun hk => ⟨(by rw [formedR, if_neg hff, all_not spD Wz hcc]), rfl, by omega⟩)
     ·skip
      have hlg : longB ((r.blocks.getD i0 spD).chunks.getD i1 []) = false := c4
      refine ACode.skip ?_
      refine Rz [0, 1, 2] Kz rfl ?_
      refine Mz ?_
      refine Oz rfl rfl rfl (AOp.add rfl rfl rfl (i64_wrap Wz Wz) ?_)
      refine Nz ?_
      refine Ez ?_
      first | refine thenA_n ?_ | simp only [thenA, blockA, if_true]
      exact NextR.mk Wz Wz (.cons rfl .nil) Xz subB (any_next [] hxL1 Wz hlg)
    ·try simp only [Cz] at c3
     refine ACode.exit ?_
     refine Rz [0, 1, 2] Kz rfl ?_
     refine Mz ?_
     refine Oz rfl rfl rfl (AOp.add rfl rfl rfl (i64_wrap Wz Wz) ?_)
     refine Nz ?_
     refine Ez ?_
     have hcc : blockB soundR r.sch (r.blocks.getD i0 spD) = true := by rw [blockR, hbad, show (r.blocks.getD i0 spD).chunks.any longB = false by rw [← hxL1, List.take_of_length_le Wz]]; rfl
     first | refine thenA_n ?_ | simp only [thenA, blockA, if_true]
     exact NextR.mk Wz Wz (.cons rfl .nil) (.cons rfl .nil) subB (fun j hj => (Nat.lt_or_ge j i0).elim (fun h9 => hxL0 j h9) (fun h9 => by rw [show j = i0 by omega]; exact hcc))
  ·try simp only [Cz] at c1
   refine ACode.exit ?_
   refine Sz ?_
   refine Rz [0] Kz rfl ?_
   refine Nz ?_
   refine Ez ?_
   refine ACode.ret ?_
   exact RetQ.one rfl rfl subB stays (fun hk => ⟨(by rw [formedR, if_neg hff, all_idx spD (fun j hj => hxL0 j Wz)]), rfl, by omega⟩)
end

end Go.Proofs.YteoofihjmldllaaGreatDoor
