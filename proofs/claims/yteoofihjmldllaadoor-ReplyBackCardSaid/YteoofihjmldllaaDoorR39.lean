/- Contracts over the abstract states: whether a reply is formed. -/
import Derived.Test.YteoofihjmldllaaDoorR38
set_option linter.unusedVariables false
set_option linter.unusedSimpArgs false
set_option maxRecDepth 100000
namespace Go.Proofs.YteoofihjmldllaaDoor
open Go Go.Ab

theorem rpc_g (r : Rp) (s1 s2 s3 : Value) : (rpc r s1 s2 s3)[65]? = some (.int .i64 r.ent.g) := by
 show (r.root.l.map bv ++ (entc r.ent ++ [s1, s2, s3]))[64]? = _
 rw [List.getElem?_append_right (by rw [hcs_one]; decide), hcs_one, entc, List.append_assoc, List.getElem?_append_right (by rw [hcs_one]; decide), hcs_one]
 rfl
def frontR (r : Rp) : Bool := ((((((decide (r.size < 0) || decide (r.size > 1099511627776)) || (schemaI r.sch != 0)) || decide (r.ent.g < 0)) || decide (r.ent.g > 1048576)) || decide ((r.path.length : Int) > 64)) || decide ((r.blocks.length : Int) > 1048576))
def formedR (P : Zn → Int → Int → Bool) (r : Rp) : Bool := if frontR r = true then false else r.blocks.all (blockB P r.sch)
theorem all_idx {α : Type} {f : α → Bool} {l : List α} (d : α) (h : ∀ j, j < l.length → f (l.getD j d) = true) : l.all f = true := by
 rw [List.all_eq_true]
 intro x hx
 obtain ⟨j, hj, rfl⟩ := List.mem_iff_getElem.1 hx
 rw [← getD_el (d := d) hj]
 exact h j hj
theorem all_not {α : Type} {f : α → Bool} {l : List α} (d : α) {j : Nat} (hj : j < l.length) (h : f (l.getD j d) = false) : l.all f = false := by
 cases e : l.all f with
 | false => rfl
 | true =>
  have := List.all_eq_true.1 e (l.getD j d) (by rw [getD_el hj]; exact List.getElem_mem hj)
  rw [h] at this
  cases this
section
variable (H : Hp) (k : Nat)

theorem formedN (r : Rp) (hok : r.ok) (hs : r.sch.length ≤ 1000000) (hcl : ∀ x ∈ r.blocks, x.h.cols.length ≤ 1000000) (v : Value) (hv : RpV H r v) : ACalls Tryd.prog 3 72 [v] H k (Same H k (.bool (formedR soundP r))) := by
 obtain ⟨xA, xa, xB, xb, xC, xc, xs, rfl, x1, x2, x3, x4⟩ := hv
 have hbl := hok.bl
 refine ACalls.fresh fun hf => ?_
 refine ACalls.body Tryd.func72 rfl (Nat.le_of_ble_eq_true rfl) ?_
 refine Sz ?_
 refine Rz [0, 1] Kz rfl ?_
 refine Oz rfl rfl rfl (AOp.boxV rfl rfl ?_)
 refine Nz ?_
 refine Ez ?_
 refine Sz ?_
 refine Sz ?_
 refine Rz [0, 1, 2, 3, 4, 5, 6, 7, 8, 9, 10, 11, 12, 13, 14, 15, 16, 17, 18, 19, 20, 21, 22, 23, 24, 25, 26, 27, 28, 29, 30, 31, 32, 33, 34, 35, 36, 37] Kz rfl ?_
 refine Fz ?_
 refine Oz rfl rfl rfl ?_
 refine AOp.load1 (b := ?b1) (v := ?v1) rfl rfl ?hn1 ?hv1 ?hR1
 (case hn1 => exact hpB)
 (case hv1 => rfl)
 refine Oz rfl rfl rfl (AOp.bin' rfl rfl rfl rfl ?_)
 refine Mz ?_
 refine aOps_gd0 rfl rfl (wantF rfl rfl rfl) (fun hc => AOp.slots [(1, _)] (.cons rfl .nil) (AOp.fieldAddr' rfl Dz rfl Tz)) ?_
 refine aOps_gd0 rfl rfl (wantF rfl rfl rfl) (fun hc => AOp.slots [(9, _)] (.cons (gvT rfl hc) .nil) ((by refine AOp.load1 (b := ?b2) (v := ?v2) rfl rfl ?hn2 ?hv2 ?hR2; (case hn2 => exact hpB); (case hv2 => rfl); exact Tz))) ?_
 refine aOps_gd0 rfl rfl (wantF rfl rfl rfl) (fun hc => AOp.slots [(10, _)] (.cons (gvT rfl hc) .nil) (AOp.bin' rfl rfl rfl rfl Tz)) ?_
 refine Oz rfl rfl rfl (AOp.pickOr rfl rfl rfl (fun hb => gvE rfl (t_not hb)) ?_)
 refine Mz ?_
 refine aOps_gd0 rfl rfl (wantF rfl rfl rfl) (fun hc => AOp.slots [(1, _)] (.cons rfl .nil) (AOp.fieldAddr' rfl Dz rfl Tz)) ?_
 refine aOps_gd0 rfl rfl (wantF rfl rfl rfl) (fun hc => AOp.slots [(14, _)] (.cons (gvT rfl hc) .nil) (AOp.load1 (b := (rpblk r (.slice xA r.path.length xa) (.slice xB r.sch.length xb) (.slice xC r.blocks.length xc))) (v := .slice xB r.sch.length xb) rfl rfl hpB (rpc_at _ _ _ _).2.1 Tz)) ?_
 refine aOps_gd rfl rfl (wantF rfl rfl rfl) (fun hc => AOp.slots [(15, _)] (.cons (gvT rfl hc) .nil) (AOp.call' rfl rfl rfl (schema_cols 3 _ _ r.sch xB xb (x2.sub subB).cells hok.sl) Iz)) (fun kq hkq => ?_)
 refine aOps_gd0 rfl rfl (wantF rfl rfl rfl) (fun hc => AOp.slots [(16, _)] (.cons (gvT rfl hc) .nil) (AOp.bin' rfl rfl rfl rfl Tz)) ?_
 refine Oz rfl rfl rfl (AOp.pickOr rfl rfl rfl (fun hb => gvE rfl (t_not hb)) ?_)
 refine Mz ?_
 refine aOps_gd0 rfl rfl (wantF rfl rfl rfl) (fun hc => AOp.slots [(1, _)] (.cons rfl .nil) (AOp.fieldAddr' rfl Dz rfl Tz)) ?_
 refine aOps_gd0 rfl rfl (wantF rfl rfl rfl) (fun hc => AOp.slots [(20, _)] (.cons (gvT rfl hc) .nil) (AOp.fieldAddr' rfl Dz rfl Tz)) ?_
 refine aOps_gd0 rfl rfl (wantF rfl rfl rfl) (fun hc => AOp.slots [(21, _)] (.cons (gvT rfl hc) .nil) (AOp.load1 (b := (rpblk r (.slice xA r.path.length xa) (.slice xB r.sch.length xb) (.slice xC r.blocks.length xc))) (v := .int .i64 r.ent.g) rfl rfl hpB (rpc_g _ _ _ _) Tz)) ?_
 refine aOps_gd0 rfl rfl (wantF rfl rfl rfl) (fun hc => AOp.slots [(22, _)] (.cons (gvT rfl hc) .nil) (AOp.bin' rfl rfl rfl rfl Tz)) ?_
 refine Oz rfl rfl rfl (AOp.pickOr rfl rfl rfl (fun hb => gvE rfl (t_not hb)) ?_)
 refine Mz ?_
 refine aOps_gd0 rfl rfl (wantF rfl rfl rfl) (fun hc => AOp.slots [(1, _)] (.cons rfl .nil) (AOp.fieldAddr' rfl Dz rfl Tz)) ?_
 refine aOps_gd0 rfl rfl (wantF rfl rfl rfl) (fun hc => AOp.slots [(26, _)] (.cons (gvT rfl hc) .nil) (AOp.fieldAddr' rfl Dz rfl Tz)) ?_
 refine aOps_gd0 rfl rfl (wantF rfl rfl rfl) (fun hc => AOp.slots [(27, _)] (.cons (gvT rfl hc) .nil) (AOp.load1 (b := (rpblk r (.slice xA r.path.length xa) (.slice xB r.sch.length xb) (.slice xC r.blocks.length xc))) (v := .int .i64 r.ent.g) rfl rfl hpB (rpc_g _ _ _ _) Tz)) ?_
 refine aOps_gd0 rfl rfl (wantF rfl rfl rfl) (fun hc => AOp.slots [(28, _)] (.cons (gvT rfl hc) .nil) (AOp.bin' rfl rfl rfl rfl Tz)) ?_
 refine Oz rfl rfl rfl (AOp.pickOr rfl rfl rfl (fun hb => gvE rfl (t_not hb)) ?_)
 refine Mz ?_
 refine aOps_gd0 rfl rfl (wantF rfl rfl rfl) (fun hc => AOp.slots [(1, _)] (.cons rfl .nil) (AOp.fieldAddr' rfl Dz rfl Tz)) ?_
 refine aOps_gd0 rfl rfl (wantF rfl rfl rfl) (fun hc => AOp.slots [(32, _)] (.cons (gvT rfl hc) .nil) (AOp.load1 (b := (rpblk r (.slice xA r.path.length xa) (.slice xB r.sch.length xb) (.slice xC r.blocks.length xc))) (v := .slice xA r.path.length xa) rfl rfl hpB (rpc_at _ _ _ _).1 Tz)) ?_
 refine aOps_gd0 rfl rfl (wantF rfl rfl rfl) (fun hc => AOp.slots [(33, _)] (.cons (gvT rfl hc) .nil) (AOp.len' rfl rfl Tz)) ?_
 refine aOps_gd0 rfl rfl (wantF rfl rfl rfl) (fun hc => AOp.slots [(34, _)] (.cons (gvT rfl hc) .nil) (AOp.bin' rfl rfl rfl rfl Tz)) ?_
 refine Oz rfl rfl rfl (AOp.pickOr rfl rfl rfl (fun hb => gvE rfl (t_not hb)) ?_)
 refine Mz ?_
 refine aOps_gd0 rfl rfl (wantF rfl rfl rfl) (fun hc => AOp.slots [(1, _)] (.cons rfl .nil) (AOp.fieldAddr' rfl Dz rfl Tz)) ?_
 refine aOps_gd0 rfl rfl (wantF rfl rfl rfl) (fun hc => AOp.slots [(38, _)] (.cons (gvT rfl hc) .nil) (AOp.load1 (b := (rpblk r (.slice xA r.path.length xa) (.slice xB r.sch.length xb) (.slice xC r.blocks.length xc))) (v := .slice xC r.blocks.length xc) rfl rfl hpB (rpc_at _ _ _ _).2.2 Tz)) ?_
 refine aOps_gd0 rfl rfl (wantF rfl rfl rfl) (fun hc => AOp.slots [(39, _)] (.cons (gvT rfl hc) .nil) (AOp.len' rfl rfl Tz)) ?_
 refine aOps_gd0 rfl rfl (wantF rfl rfl rfl) (fun hc => AOp.slots [(40, _)] (.cons (gvT rfl hc) .nil) (AOp.bin' rfl rfl rfl rfl Tz)) ?_
 refine Oz rfl rfl rfl (AOp.pickOr rfl rfl rfl (fun hb => gvE rfl (t_not hb)) ?_)
 refine Ez ?_
 refine ACode.cond rfl (fun c0 => ?_) (fun c0 => ?_)
 ·skip
  have hff : frontR r = true := c0
  refine Sz ?_
  refine Rz [0] Kz rfl ?_
  refine Nz ?_
  refine Ez ?_
  refine ACode.ret ?_
  exact RetQ.one rfl rfl subB stays (fun hk => ⟨(by rw [formedR, if_pos hff]), rfl, by omega⟩)
 ·skip
  have hff : ¬ frontR r = true := by rw [show frontR r = false from c0]; decide
  refine ACode.skip ?_
  refine Sz ?_
  refine Sz ?_
  refine Rz [0, 1, 2, 3] Kz rfl ?_
  refine Fz ?_
  refine Oz rfl rfl rfl (AOp.load1 (b := (rpblk r (.slice xA r.path.length xa) (.slice xB r.sch.length xb) (.slice xC r.blocks.length xc))) (v := .slice xC r.blocks.length xc) rfl rfl hpB (rpc_at _ _ _ _).2.2 ?_)
  refine Oz rfl rfl rfl (AOp.len' rfl rfl ?_)
  refine Mz ?_
  refine Ez ?_
  refine ACode.block ?_
  refine ACode.count0 (fun i => [(46, .int .i64 (i : Int))]) [(1, _), (44, _), (45, _)] (r.blocks.length) (fun i => ∀ j, j < i → blockB soundP r.sch (r.blocks.getD j spD) = true) (.cons rfl .nil) Xz (fun j hj => absurd hj (Nat.not_lt_zero j)) (fun i0 kL0 HL0 hiL0 hkL0 hsL0 hfL0 hxL0 => ?_)
  show ACode _ _ _ _ _ ⟨_, _, _⟩
  have tsL0 := SubS.of hsL0
  refine Sz ?_
  refine Rz [0] Kz rfl ?_
  refine Oz rfl rfl rfl (AOp.bin' rfl rfl rfl rfl ?_)
  refine Ez ?_
  refine Sz ?_
  refine ACode.cond rfl (fun c1 => ?_) (fun c1 => ?_)
  ·try simp only [Cz] at c1
   refine ACode.skip ?_
   refine Sz ?_
   refine ACode.block ?_
   refine Sz ?_
   obtain ⟨ne, oe, pe, eA1, ec1, eA2, ec2, eA3, ec3, evs, qe, le, eh1, eh2, eh3, eh4⟩ := Sps.el (i := i0) (SLC.sub x3 subB) (Sps.sub x4 subB) Wz
   have hm : (r.blocks.getD i0 spD) ∈ r.blocks := getD_mem Wz
   have hxo := hok.b _ hm
   have hsp : SpC H (r.blocks.getD i0 spD) (spc (r.blocks.getD i0 spD) (.slice eA1 (r.blocks.getD i0 spD).h.cols.length ec1) (.slice eA2 (r.blocks.getD i0 spD).dead.length ec2) (.slice eA3 evs.length ec3)) := ⟨_, _, _, _, _, _, _, rfl, eh1, eh2, eh3, eh4⟩
   refine Rz [0, 1, 2, 3] Kz rfl ?_
   refine Oz rfl rfl rfl (AOp.indexP (aslcAt_sub subB qe) rfl rfl rfl ?_)
   refine Oz rfl rfl rfl (AOp.loadPA (v := .agg (spc (r.blocks.getD i0 spD) (.slice eA1 (r.blocks.getD i0 spD).h.cols.length ec1) (.slice eA2 (r.blocks.getD i0 spD).dead.length ec2) (.slice eA3 evs.length ec3)).toArray) (PAt.sub le subB) rfl rfl rfl rfl (spc_len _ _ _ _) Dz ?_)
   refine Oz rfl rfl rfl (AOp.alloc' rfl ?_)
   refine aOps_0 rfl rfl rfl ?_
   refine AOp.storeAll (b := ?b3) rfl rfl rfl ?hn3 ?hk3 rfl ?hw3 ?ho3 ?hl3 ?hR3
   (case hn3 => exact hpB)
   (case hk3 => rfl)
   (case hw3 => first | rfl | exact spv_size _ _ _ _ | exact spc_one _ _ _ _ rfl rfl rfl | (simp; done))
   (case ho3 => first | rfl | exact spv_size _ _ _ _ | exact spc_one _ _ _ _ rfl rfl rfl | decide | (simp; done))
   (case hl3 => first | rfl | exact spv_size _ _ _ _ | exact spc_one _ _ _ _ rfl rfl rfl | (simp; done))
   rw [rd_upd2]
   refine Ez (Sz (Rz [0, 1, 2, 3, 4] Kz rfl ?_))
   refine Fz ?_
   refine Oz rfl rfl rfl (AOp.load1 (b := (rpblk r (.slice xA r.path.length xa) (.slice xB r.sch.length xb) (.slice xC r.blocks.length xc))) (v := .slice xB r.sch.length xb) rfl rfl hpB (rpc_at _ _ _ _).2.1 ?_)
   refine Oz rfl rfl rfl ?_
   refine AOp.loadAll (b := ?b4) (v := .agg (spc (r.blocks.getD i0 spD) (.slice eA1 (r.blocks.getD i0 spD).h.cols.length ec1) (.slice eA2 (r.blocks.getD i0 spD).dead.length ec2) (.slice eA3 evs.length ec3)).toArray) rfl rfl ?hn4 ?hv4 ?hw4 ?hz4 ?hR4
   (case hn4 => exact hpB)
   (case hv4 => rfl)
   (case hw4 => rfl)
   (case hz4 => first | rfl | exact spv_size _ _ _ _ | exact spc_one _ _ _ _ rfl rfl rfl | (simp; done))
   refine aOps_q rfl rfl rfl (AOp.call' rfl rfl rfl (blockN _ _ (r.blocks.getD i0 spD) hxo (hcl _ hm) _ (SpC.sub hsp subB) r.sch xB xb (x2.sub subB) hs) Iz) (fun kq hkq => ?_)
   refine Oz rfl rfl rfl (AOp.un' rfl rfl rfl ?_)
   refine Ez ?_
   refine ACode.cond rfl (fun c2 => ?_) (fun c2 => ?_)
   ·skip
    have hcc : blockB soundP r.sch (r.blocks.getD i0 spD) = false := by simpa using c2
    refine Sz ?_
    refine Rz [0] Kz rfl ?_
    refine Nz ?_
    refine Ez ?_
    refine ACode.ret ?_
    exact RetQ.one rfl rfl subB stays (fun hk => ⟨(by rw [formedR, if_neg hff, all_not spD Wz hcc]), rfl, by omega⟩)
   ·skip
    have hcc : blockB soundP r.sch (r.blocks.getD i0 spD) = true := by simpa using c2
    refine ACode.skip ?_
    refine Rz [0, 1] Kz rfl ?_
    refine Oz rfl rfl rfl (AOp.add rfl rfl rfl (i64_wrap Wz Wz) ?_)
    refine Mz ?_
    refine Ez ?_
    first | refine thenA_n ?_ | simp only [thenA, blockA, if_true]
    exact NextR.mk Wz Wz (.cons rfl .nil) Xz subB (fun j hj => (Nat.lt_or_ge j i0).elim (fun h9 => hxL0 j h9) (fun h9 => by rw [show j = i0 by omega]; exact hcc))
  ·try simp only [Cz] at c1
   refine ACode.exit ?_
   refine Sz ?_
   refine Rz [0] Kz rfl ?_
   refine Nz ?_
   refine Ez ?_
   refine ACode.ret ?_
   exact RetQ.one rfl rfl subB stays (fun hk => ⟨(by rw [formedR, if_neg hff, all_idx spD (fun j hj => hxL0 j Wz)]), rfl, by omega⟩)
end

end Go.Proofs.YteoofihjmldllaaDoor
