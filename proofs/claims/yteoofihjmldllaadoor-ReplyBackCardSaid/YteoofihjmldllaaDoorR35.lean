/- Contracts over the abstract states: replies are the same. -/
import Derived.Test.YteoofihjmldllaaDoorR36
import Derived.Test.YteoofihjmldllaaDoorR8
set_option linter.unusedVariables false
set_option linter.unusedSimpArgs false
set_option maxRecDepth 100000
namespace Go.Proofs.YteoofihjmldllaaDoor
open Go Go.Ab

theorem subC {X Y : Hp} (h : Ab.Sub X Y := by repeat (first | (with_reducible exact sub_refl _) | (with_reducible assumption) | refine SubS.tr ?_ (by with_reducible assumption) | refine sub_upd' ?_ (by ((repeat refine Uz ?_); first | (apply_assumption <;> omega) | fail)) | exact sub_refl _ | assumption | refine SubS.tr ?_ (by assumption))) : Ab.Sub X Y := h
section
variable (H : Hp) (k : Nat)

set_option maxHeartbeats 1000000 in
theorem sameRp (r : Rp) (hok : r.ok) (v u : Value) (hv : RpV H r v) (hu : RpV H r u) : ACalls Tryd.prog 3 32 [v, u] H k (Same H k (.bool true)) := by
 obtain ⟨xA, xa, xB, xb, xC, xc, xs, rfl, x1, x2, x3, x4⟩ := hv
 obtain ⟨yA, ya, yB, yb, yC, yc, ys, rfl, y1, y2, y3, y4⟩ := hu
 have hbl := hok.bl
 refine ACalls.fresh fun hf => ?_
 refine ACalls.body Tryd.func32 rfl (Nat.le_of_ble_eq_true rfl) ?_
 refine Sz ?_
 refine Rz [0, 1, 2] Kz rfl ?_
 refine Oz rfl rfl rfl (AOp.boxV rfl rfl ?_)
 refine Oz rfl rfl rfl (AOp.boxV rfl rfl ?_)
 refine Nz ?_
 refine Ez ?_
 refine Sz ?_
 refine Sz ?_
 refine Rz [0, 1, 2, 3, 4, 5, 6, 7, 8, 9, 10, 11, 12, 13, 14, 15, 16, 17, 18, 19, 20, 21, 22, 23, 24, 25, 26, 27, 28, 29, 30, 31, 32, 33, 34, 35, 36, 37, 38, 39, 40, 41, 42, 43] Kz rfl ?_
 refine Fz ?_
 refine Oz rfl rfl rfl ?_
 refine AOp.load1 (b := ?b1) (v := ?v1) rfl rfl ?hn1 ?hv1 ?hR1
 (case hn1 => exact hpB)
 (case hv1 => rfl)
 refine Fz ?_
 refine Oz rfl rfl rfl ?_
 refine AOp.load1 (b := ?b2) (v := ?v2) rfl rfl ?hn2 ?hv2 ?hR2
 (case hn2 => exact hpB)
 (case hv2 => rfl)
 refine Oz rfl rfl rfl (AOp.bin' rfl rfl rfl rfl ?_)
 refine Mz ?_
 refine aOps_gd0 rfl rfl (wantF rfl rfl rfl) (fun hc => AOp.slots [(2, _)] (.cons rfl .nil) (AOp.fieldAddr' rfl Dz rfl Tz)) ?_
 refine aOps_gd0 rfl rfl (wantF rfl rfl rfl) (fun hc => AOp.slots [(14, _)] (.cons (gvT rfl hc) .nil) (AOp.loadN (b := (rpblk r (.slice xA r.path.length xa) (.slice xB r.sch.length xb) (.slice xC r.blocks.length xc))) (cs := r.root.l.map bv) rfl rfl hpB (by show 1 + 32 ≤ (rpc _ _ _ _).length; rw [rpc_len]; decide) (rpc_root _ _ _ _) Tz)) ?_
 refine aOps_gd0 rfl rfl (wantF rfl rfl rfl) (fun hc => AOp.slots [(3, _)] (.cons rfl .nil) (AOp.fieldAddr' rfl Dz rfl Tz)) ?_
 refine aOps_gd0 rfl rfl (wantF rfl rfl rfl) (fun hc => AOp.slots [(16, _)] (.cons (gvT rfl hc) .nil) (AOp.loadN (b := (rpblk r (.slice yA r.path.length ya) (.slice yB r.sch.length yb) (.slice yC r.blocks.length yc))) (cs := r.root.l.map bv) rfl rfl hpB (by show 1 + 32 ≤ (rpc _ _ _ _).length; rw [rpc_len]; decide) (rpc_root _ _ _ _) Tz)) ?_
 refine aOps_gd0 rfl rfl (wantF rfl rfl rfl) (fun hc => AOp.slots [(15, _), (17, _)] (.cons (gvT rfl hc) (.cons (gvT rfl hc) .nil)) (AOp.neAgg true rfl rfl rfl (hv_sc _) (hv_sc _) ⟨fun _ => rfl, fun _ => rfl⟩ Tz)) ?_
 refine Oz rfl rfl rfl (AOp.pickOr rfl rfl rfl (fun hb => gvE rfl (t_not hb)) ?_)
 refine Mz ?_
 refine aOps_gd0 rfl rfl (wantF rfl rfl rfl) (fun hc => AOp.slots [(2, _)] (.cons rfl .nil) (AOp.fieldAddr' rfl Dz rfl Tz)) ?_
 refine aOps_gd0 rfl rfl (wantF rfl rfl rfl) (fun hc => AOp.slots [(21, _)] (.cons (gvT rfl hc) .nil) (AOp.loadN (b := (rpblk r (.slice xA r.path.length xa) (.slice xB r.sch.length xb) (.slice xC r.blocks.length xc))) (cs := entc r.ent) rfl rfl hpB (by show 33 + 65 ≤ (rpc _ _ _ _).length; rw [rpc_len]; decide) (rpc_ent _ _ _ _) Tz)) ?_
 refine aOps_gd0 rfl rfl (wantF rfl rfl rfl) (fun hc => AOp.slots [(3, _)] (.cons rfl .nil) (AOp.fieldAddr' rfl Dz rfl Tz)) ?_
 refine aOps_gd0 rfl rfl (wantF rfl rfl rfl) (fun hc => AOp.slots [(23, _)] (.cons (gvT rfl hc) .nil) (AOp.loadN (b := (rpblk r (.slice yA r.path.length ya) (.slice yB r.sch.length yb) (.slice yC r.blocks.length yc))) (cs := entc r.ent) rfl rfl hpB (by show 33 + 65 ≤ (rpc _ _ _ _).length; rw [rpc_len]; decide) (rpc_ent _ _ _ _) Tz)) ?_
 refine aOps_gd0 rfl rfl (wantF rfl rfl rfl) (fun hc => AOp.slots [(22, _), (24, _)] (.cons (gvT rfl hc) (.cons (gvT rfl hc) .nil)) (AOp.neAgg true rfl rfl rfl (ent_sc hok.e) (ent_sc hok.e) ⟨fun _ => rfl, fun _ => rfl⟩ Tz)) ?_
 refine Oz rfl rfl rfl (AOp.pickOr rfl rfl rfl (fun hb => gvE rfl (t_not hb)) ?_)
 refine Mz ?_
 refine aOps_gd0 rfl rfl (wantF rfl rfl rfl) (fun hc => AOp.slots [(2, _)] (.cons rfl .nil) (AOp.fieldAddr' rfl Dz rfl Tz)) ?_
 refine aOps_gd0 rfl rfl (wantF rfl rfl rfl) (fun hc => AOp.slots [(28, _)] (.cons (gvT rfl hc) .nil) (AOp.load1 (b := (rpblk r (.slice xA r.path.length xa) (.slice xB r.sch.length xb) (.slice xC r.blocks.length xc))) (v := .slice xA r.path.length xa) rfl rfl hpB (rpc_at _ _ _ _).1 Tz)) ?_
 refine aOps_gd0 rfl rfl (wantF rfl rfl rfl) (fun hc => AOp.slots [(3, _)] (.cons rfl .nil) (AOp.fieldAddr' rfl Dz rfl Tz)) ?_
 refine aOps_gd0 rfl rfl (wantF rfl rfl rfl) (fun hc => AOp.slots [(30, _)] (.cons (gvT rfl hc) .nil) (AOp.load1 (b := (rpblk r (.slice yA r.path.length ya) (.slice yB r.sch.length yb) (.slice yC r.blocks.length yc))) (v := .slice yA r.path.length ya) rfl rfl hpB (rpc_at _ _ _ _).1 Tz)) ?_
 refine aOps_gd rfl rfl (wantF rfl rfl rfl) (fun hc => AOp.slots [(29, _), (31, _)] (.cons (gvT rfl hc) (.cons (gvT rfl hc) .nil)) (AOp.call' rfl rfl rfl (sameHs _ _ r.path xA yA xa ya (x1.sub subC) (y1.sub subC) hok.pl) Iz)) (fun kq hkq => ?_)
 refine aOps_gd0 rfl rfl (wantF rfl rfl rfl) (fun hc => AOp.slots [(32, _)] (.cons (gvT rfl hc) .nil) (AOp.un' rfl rfl rfl Tz)) ?_
 refine Oz rfl rfl rfl (AOp.pickOr rfl rfl rfl (fun hb => gvE rfl (t_not hb)) ?_)
 refine Mz ?_
 refine aOps_gd0 rfl rfl (wantF rfl rfl rfl) (fun hc => AOp.slots [(2, _)] (.cons rfl .nil) (AOp.fieldAddr' rfl Dz rfl Tz)) ?_
 refine aOps_gd0 rfl rfl (wantF rfl rfl rfl) (fun hc => AOp.slots [(36, _)] (.cons (gvT rfl hc) .nil) (AOp.load1 (b := (rpblk r (.slice xA r.path.length xa) (.slice xB r.sch.length xb) (.slice xC r.blocks.length xc))) (v := .slice xB r.sch.length xb) rfl rfl hpB (rpc_at _ _ _ _).2.1 Tz)) ?_
 refine aOps_gd0 rfl rfl (wantF rfl rfl rfl) (fun hc => AOp.slots [(3, _)] (.cons rfl .nil) (AOp.fieldAddr' rfl Dz rfl Tz)) ?_
 refine aOps_gd0 rfl rfl (wantF rfl rfl rfl) (fun hc => AOp.slots [(38, _)] (.cons (gvT rfl hc) .nil) (AOp.load1 (b := (rpblk r (.slice yA r.path.length ya) (.slice yB r.sch.length yb) (.slice yC r.blocks.length yc))) (v := .slice yB r.sch.length yb) rfl rfl hpB (rpc_at _ _ _ _).2.1 Tz)) ?_
 refine aOps_gd rfl rfl (wantF rfl rfl rfl) (fun hc => AOp.slots [(37, _), (39, _)] (.cons (gvT rfl hc) (.cons (gvT rfl hc) .nil)) (AOp.call' rfl rfl rfl (same_s _ _ r.sch xB yB xb yb (x2.sub subC) (y2.sub subC) hok.sl hok.so) Iz)) (fun kq hkq => ?_)
 refine aOps_gd0 rfl rfl (wantF rfl rfl rfl) (fun hc => AOp.slots [(40, _)] (.cons (gvT rfl hc) .nil) (AOp.un' rfl rfl rfl Tz)) ?_
 refine Oz rfl rfl rfl (AOp.pickOr rfl rfl rfl (fun hb => gvE rfl (t_not hb)) ?_)
 refine Mz ?_
 refine aOps_gd0 rfl rfl (wantF rfl rfl rfl) (fun hc => AOp.slots [(2, _)] (.cons rfl .nil) (AOp.fieldAddr' rfl Dz rfl Tz)) ?_
 refine aOps_gd0 rfl rfl (wantF rfl rfl rfl) (fun hc => AOp.slots [(44, _)] (.cons (gvT rfl hc) .nil) (AOp.load1 (b := (rpblk r (.slice xA r.path.length xa) (.slice xB r.sch.length xb) (.slice xC r.blocks.length xc))) (v := .slice xC r.blocks.length xc) rfl rfl hpB (rpc_at _ _ _ _).2.2 Tz)) ?_
 refine aOps_gd0 rfl rfl (wantF rfl rfl rfl) (fun hc => AOp.slots [(45, _)] (.cons (gvT rfl hc) .nil) (AOp.len' rfl rfl Tz)) ?_
 refine aOps_gd0 rfl rfl (wantF rfl rfl rfl) (fun hc => AOp.slots [(3, _)] (.cons rfl .nil) (AOp.fieldAddr' rfl Dz rfl Tz)) ?_
 refine aOps_gd0 rfl rfl (wantF rfl rfl rfl) (fun hc => AOp.slots [(47, _)] (.cons (gvT rfl hc) .nil) (AOp.load1 (b := (rpblk r (.slice yA r.path.length ya) (.slice yB r.sch.length yb) (.slice yC r.blocks.length yc))) (v := .slice yC r.blocks.length yc) rfl rfl hpB (rpc_at _ _ _ _).2.2 Tz)) ?_
 refine aOps_gd0 rfl rfl (wantF rfl rfl rfl) (fun hc => AOp.slots [(48, _)] (.cons (gvT rfl hc) .nil) (AOp.len' rfl rfl Tz)) ?_
 refine aOps_gd0 rfl rfl (wantF rfl rfl rfl) (fun hc => AOp.slots [(46, _), (49, _)] (.cons (gvT rfl hc) (.cons (gvT rfl hc) .nil)) (AOp.bin' rfl rfl rfl rfl Tz)) ?_
 refine Oz rfl rfl rfl (AOp.pickOr rfl rfl rfl (fun hb => gvE rfl (t_not hb)) ?_)
 refine Ez ?_
 refine ACode.cond rfl (fun c0 => absurd c0 (by simp)) (fun c0 => ?_)
 refine ACode.skip ?_
 refine Sz ?_
 refine Sz ?_
 refine Rz [0] Kz rfl ?_
 refine Nz ?_
 refine Ez ?_
 refine ACode.block ?_
 refine ACode.count0 (fun i => [(5, .int .i64 (i : Int))]) [(2, _), (3, _)] (r.blocks.length) (fun _ => True) (.cons rfl .nil) (.cons rfl (.cons rfl .nil)) trivial (fun i0 kL0 HL0 hiL0 hkL0 hsL0 hfL0 hxL0 => ?_)
 show ACode _ _ _ _ _ ⟨_, _, _⟩
 have tsL0 := SubS.of hsL0
 refine Sz ?_
 refine Sz ?_
 refine Rz [0, 1, 2, 3, 4] Kz rfl ?_
 refine Mz ?_
 refine Fz ?_
 refine Oz rfl rfl rfl (AOp.load1 (b := (rpblk r (.slice xA r.path.length xa) (.slice xB r.sch.length xb) (.slice xC r.blocks.length xc))) (v := .slice xC r.blocks.length xc) rfl rfl hpB (rpc_at _ _ _ _).2.2 ?_)
 refine Oz rfl rfl rfl (AOp.len' rfl rfl ?_)
 refine Oz rfl rfl rfl (AOp.bin' rfl rfl rfl rfl ?_)
 refine Ez ?_
 refine ACode.cond rfl (fun c1 => ?_) (fun c1 => ?_)
 ·try simp only [Cz] at c1
  refine ACode.skip ?_
  refine Sz ?_
  refine ACode.block ?_
  refine Sz ?_
  obtain ⟨ne, oe, pe, eA1, ec1, eA2, ec2, eA3, ec3, evs, qe, le, eh1, eh2, eh3, eh4⟩ := Sps.el (i := i0) (SLC.sub x3 subC) (Sps.sub x4 subC) Wz
  obtain ⟨nf, of, pf, fA1, fc1, fA2, fc2, fA3, fc3, fvs, qf, lf, fh1, fh2, fh3, fh4⟩ := Sps.el (i := i0) (SLC.sub y3 subC) (Sps.sub y4 subC) Wz
  have hm : (r.blocks.getD i0 spD) ∈ r.blocks := getD_mem Wz
  have hxo := hok.b _ hm
  refine ACode.drawM0 14 [(0, 59), (1, 60), (2, 61), (3, 62), (4, 63), (5, 64), (6, 65), (7, 66), (8, 67), (9, 68), (10, 6), (11, 7)] [10, 11] [([], []), ([], []), ([], []), ([], []), ([], []), ([], []), ([], []), ([], []), ([], []), ([], []), ([10], []), ([11], []), ([10], []), ([11], [])] mixed Kz Kz Dz ?_
  refine DrawM.q 0 [(2, none)] rfl rfl Kz rfl rfl (fun Hc kq hkq hF hSb hfr => AOp.fieldAddr' rfl Dz rfl Vz) ?_
  refine DrawM.q 1 [(59, some 0)] rfl rfl Kz rfl rfl (fun Hc kq hkq hF hSb hfr => have tSb := SubS.of hSb; AOp.load1 (b := (rpblk r (.slice xA r.path.length xa) (.slice xB r.sch.length xb) (.slice xC r.blocks.length xc))) (v := .slice xC r.blocks.length xc) rfl rfl hpB (rpc_at _ _ _ _).2.2 Vz) ?_
  refine DrawM.q 2 [(5, none)] rfl rfl Kz rfl rfl (fun Hc kq hkq hF hSb hfr => AOp.move' (.inl rfl) rfl Vz) ?_
  refine DrawM.q 3 [(60, some 1), (61, some 2)] rfl rfl Kz rfl rfl (fun Hc kq hkq hF hSb hfr => have tSb := SubS.of hSb; AOp.indexP (aslcAt_sub subC qe) rfl rfl rfl Vz) ?_
  refine DrawM.q 4 [(62, some 3)] rfl rfl Kz rfl rfl (fun Hc kq hkq hF hSb hfr => have tSb := SubS.of hSb; AOp.loadPA (v := .agg (spc (r.blocks.getD i0 spD) (.slice eA1 (r.blocks.getD i0 spD).h.cols.length ec1) (.slice eA2 (r.blocks.getD i0 spD).dead.length ec2) (.slice eA3 evs.length ec3)).toArray) (PAt.sub le subC) rfl rfl rfl rfl (spc_len _ _ _ _) Dz Vz) ?_
  refine DrawM.q 5 [(3, none)] rfl rfl Kz rfl rfl (fun Hc kq hkq hF hSb hfr => AOp.fieldAddr' rfl Dz rfl Vz) ?_
  refine DrawM.q 6 [(64, some 5)] rfl rfl Kz rfl rfl (fun Hc kq hkq hF hSb hfr => have tSb := SubS.of hSb; AOp.load1 (b := (rpblk r (.slice yA r.path.length ya) (.slice yB r.sch.length yb) (.slice yC r.blocks.length yc))) (v := .slice yC r.blocks.length yc) rfl rfl hpB (rpc_at _ _ _ _).2.2 Vz) ?_
  refine DrawM.q 7 [(5, none)] rfl rfl Kz rfl rfl (fun Hc kq hkq hF hSb hfr => AOp.move' (.inl rfl) rfl Vz) ?_
  refine DrawM.q 8 [(65, some 6), (66, some 7)] rfl rfl Kz rfl rfl (fun Hc kq hkq hF hSb hfr => have tSb := SubS.of hSb; AOp.indexP (aslcAt_sub subC qf) rfl rfl rfl Vz) ?_
  refine DrawM.q 9 [(67, some 8)] rfl rfl Kz rfl rfl (fun Hc kq hkq hF hSb hfr => have tSb := SubS.of hSb; AOp.loadPA (v := .agg (spc (r.blocks.getD i0 spD) (.slice fA1 (r.blocks.getD i0 spD).h.cols.length fc1) (.slice fA2 (r.blocks.getD i0 spD).dead.length fc2) (.slice fA3 fvs.length fc3)).toArray) (PAt.sub lf subC) rfl rfl rfl rfl (spc_len _ _ _ _) Dz Vz) ?_
  refine DrawM.new 10 _ _ [] rfl Dz rfl Kz rfl rfl RenOk.ptr (fun Hc kq hkq hF hSb hfr => AOp.alloc' rfl ⟨kq, Nat.le_refl _, Nat.lt_succ_self _, rfl, rfl⟩) ?_
  refine DrawM.new 11 _ _ [] rfl Dz rfl Kz rfl rfl RenOk.ptr (fun Hc kq hkq hF hSb hfr => AOp.alloc' rfl ⟨kq, Nat.le_refl _, Nat.lt_succ_self _, rfl, rfl⟩) ?_
  refine DrawM.wr 12 10 _ [(6, some 10), (63, some 4)] rfl rfl Kz rfl rfl (fun Hc kq hkq hF hSb hfr => (by refine AOp.storeAll (b := ?b3) rfl rfl rfl ?hn3 ?hk3 rfl ?hw3 ?ho3 ?hl3 ?hR3; (case hn3 => repeat (first | assumption | exact upd_same _ _ _ | refine Uz ?_ | exact hF 10 Dz | refine hSb _ _ ?_ | refine hsL0 _ _ ?_)); (case hk3 => rfl); (case hw3 => first | rfl | exact spv_size _ _ _ _ | exact spc_one _ _ _ _ rfl rfl rfl | (simp; done)); (case ho3 => first | rfl | exact spv_size _ _ _ _ | exact spc_one _ _ _ _ rfl rfl rfl | decide | (simp; done)); (case hl3 => first | rfl | exact spv_size _ _ _ _ | exact spc_one _ _ _ _ rfl rfl rfl | (simp; done)); exact Vz)) ?_
  refine DrawM.wr 13 11 _ [(7, some 11), (68, some 9)] rfl rfl Kz rfl rfl (fun Hc kq hkq hF hSb hfr => (by refine AOp.storeAll (b := ?b4) rfl rfl rfl ?hn4 ?hk4 rfl ?hw4 ?ho4 ?hl4 ?hR4; (case hn4 => repeat (first | assumption | exact upd_same _ _ _ | refine Uz ?_ | exact hF 11 Dz | refine hSb _ _ ?_ | refine hsL0 _ _ ?_)); (case hk4 => rfl); (case hw4 => first | rfl | exact spv_size _ _ _ _ | exact spc_one _ _ _ _ rfl rfl rfl | (simp; done)); (case ho4 => first | rfl | exact spv_size _ _ _ _ | exact spc_one _ _ _ _ rfl rfl rfl | decide | (simp; done)); (case hl4 => first | rfl | exact spv_size _ _ _ _ | exact spc_one _ _ _ _ rfl rfl rfl | (simp; done)); exact Vz)) ?_
  refine DrawM.done fun kq hkq => ?_
  show aOps _ _ _ _ [] ⟨_, (upd (upd _ (_ + 11) _) (_ + 10) _), _⟩
  refine Ez (Sz (Rz [0, 1, 2, 3, 4, 5, 6, 7, 8, 9, 10, 11, 12, 13, 14, 15, 16, 17, 18, 19, 20, 21, 22, 23, 24, 25, 26, 27, 28] Kz rfl ?_))
  refine Fz ?_
  refine Oz rfl rfl rfl (AOp.loadN (b := (spblk (r.blocks.getD i0 spD) (.slice eA1 (r.blocks.getD i0 spD).h.cols.length ec1) (.slice eA2 (r.blocks.getD i0 spD).dead.length ec2) (.slice eA3 evs.length ec3))) (cs := hdc (r.blocks.getD i0 spD).h (.slice eA1 (r.blocks.getD i0 spD).h.cols.length ec1)) rfl rfl hpB (by show 0 + 35 ≤ (spc _ _ _ _).length; rw [spc_len]; decide) (spc_head _ _ _ _) ?_)
  refine Fz ?_
  refine Oz rfl rfl rfl (AOp.loadN (b := (spblk (r.blocks.getD i0 spD) (.slice fA1 (r.blocks.getD i0 spD).h.cols.length fc1) (.slice fA2 (r.blocks.getD i0 spD).dead.length fc2) (.slice fA3 fvs.length fc3))) (cs := hdc (r.blocks.getD i0 spD).h (.slice fA1 (r.blocks.getD i0 spD).h.cols.length fc1)) rfl rfl hpB (by show 0 + 35 ≤ (spc _ _ _ _).length; rw [spc_len]; decide) (spc_head _ _ _ _) ?_)
  refine aOps_q rfl rfl rfl (AOp.call' rfl rfl rfl (sameHd _ _ (r.blocks.getD i0 spD).h eA1 fA1 ec1 fc1 (eh1.sub subC) (fh1.sub subC) hxo.z hxo.cl) Iz) (fun kq hkq => ?_)
  refine Oz rfl rfl rfl (AOp.un' rfl rfl rfl ?_)
  refine Mz ?_
  refine aOps_gd0 rfl rfl (wantF rfl rfl rfl) (fun hc => AOp.slots [(6, _)] (.cons rfl .nil) (AOp.fieldAddr' rfl Dz rfl Tz)) ?_
  refine aOps_gd0 rfl rfl (wantF rfl rfl rfl) (fun hc => AOp.slots [(76, _)] (.cons (gvT rfl hc) .nil) (AOp.load1 (b := (spblk (r.blocks.getD i0 spD) (.slice eA1 (r.blocks.getD i0 spD).h.cols.length ec1) (.slice eA2 (r.blocks.getD i0 spD).dead.length ec2) (.slice eA3 evs.length ec3))) (v := .bool (r.blocks.getD i0 spD).opn) rfl rfl hpB (spc_at _ _ _ _).1 Tz)) ?_
  refine aOps_gd0 rfl rfl (wantF rfl rfl rfl) (fun hc => AOp.slots [(7, _)] (.cons rfl .nil) (AOp.fieldAddr' rfl Dz rfl Tz)) ?_
  refine aOps_gd0 rfl rfl (wantF rfl rfl rfl) (fun hc => AOp.slots [(78, _)] (.cons (gvT rfl hc) .nil) (AOp.load1 (b := (spblk (r.blocks.getD i0 spD) (.slice fA1 (r.blocks.getD i0 spD).h.cols.length fc1) (.slice fA2 (r.blocks.getD i0 spD).dead.length fc2) (.slice fA3 fvs.length fc3))) (v := .bool (r.blocks.getD i0 spD).opn) rfl rfl hpB (spc_at _ _ _ _).1 Tz)) ?_
  refine aOps_gd0 rfl rfl (wantF rfl rfl rfl) (fun hc => AOp.slots [(77, _), (79, _)] (.cons (gvT rfl hc) (.cons (gvT rfl hc) .nil)) (AOp.neBool rfl rfl rfl Tz)) ?_
  refine Oz rfl rfl rfl (AOp.pickOr rfl rfl rfl (fun hb => gvE rfl (t_not hb)) ?_)
  refine Mz ?_
  refine aOps_gd0 rfl rfl (wantF rfl rfl rfl) (fun hc => AOp.slots [(6, _)] (.cons rfl .nil) (AOp.fieldAddr' rfl Dz rfl Tz)) ?_
  refine aOps_gd0 rfl rfl (wantF rfl rfl rfl) (fun hc => AOp.slots [(83, _)] (.cons (gvT rfl hc) .nil) (AOp.load1 (b := (spblk (r.blocks.getD i0 spD) (.slice eA1 (r.blocks.getD i0 spD).h.cols.length ec1) (.slice eA2 (r.blocks.getD i0 spD).dead.length ec2) (.slice eA3 evs.length ec3))) (v := .slice eA2 (r.blocks.getD i0 spD).dead.length ec2) rfl rfl hpB (spc_at _ _ _ _).2.1 Tz)) ?_
  refine aOps_gd0 rfl rfl (wantF rfl rfl rfl) (fun hc => AOp.slots [(7, _)] (.cons rfl .nil) (AOp.fieldAddr' rfl Dz rfl Tz)) ?_
  refine aOps_gd0 rfl rfl (wantF rfl rfl rfl) (fun hc => AOp.slots [(85, _)] (.cons (gvT rfl hc) .nil) (AOp.load1 (b := (spblk (r.blocks.getD i0 spD) (.slice fA1 (r.blocks.getD i0 spD).h.cols.length fc1) (.slice fA2 (r.blocks.getD i0 spD).dead.length fc2) (.slice fA3 fvs.length fc3))) (v := .slice fA2 (r.blocks.getD i0 spD).dead.length fc2) rfl rfl hpB (spc_at _ _ _ _).2.1 Tz)) ?_
  refine aOps_gd rfl rfl (wantF rfl rfl rfl) (fun hc => AOp.slots [(84, _), (86, _)] (.cons (gvT rfl hc) (.cons (gvT rfl hc) .nil)) (AOp.call' rfl rfl rfl (same_b 3 _ _ (r.blocks.getD i0 spD).dead (r.blocks.getD i0 spD).dead _ _ _ _ (eh2.sub subC) (fh2.sub subC) hxo.dl) Iz)) (fun kq hkq => ?_)
  refine aOps_gd0 rfl rfl (wantF rfl rfl rfl) (fun hc => AOp.slots [(87, _)] (.cons (gvT rfl hc) .nil) (AOp.un' rfl rfl rfl Tz)) ?_
  refine Oz rfl rfl rfl (AOp.pickOr rfl rfl rfl (fun hb => gvE rfl (t_not hb)) ?_)
  refine Mz ?_
  refine aOps_gd0 rfl rfl (wantF rfl rfl rfl) (fun hc => AOp.slots [(6, _)] (.cons rfl .nil) (AOp.fieldAddr' rfl Dz rfl Tz)) ?_
  refine aOps_gd0 rfl rfl (wantF rfl rfl rfl) (fun hc => AOp.slots [(91, _)] (.cons (gvT rfl hc) .nil) (AOp.load1 (b := (spblk (r.blocks.getD i0 spD) (.slice eA1 (r.blocks.getD i0 spD).h.cols.length ec1) (.slice eA2 (r.blocks.getD i0 spD).dead.length ec2) (.slice eA3 evs.length ec3))) (v := .slice eA3 evs.length ec3) rfl rfl hpB (spc_at _ _ _ _).2.2 Tz)) ?_
  refine aOps_gd0 rfl rfl (wantF rfl rfl rfl) (fun hc => AOp.slots [(7, _)] (.cons rfl .nil) (AOp.fieldAddr' rfl Dz rfl Tz)) ?_
  refine aOps_gd0 rfl rfl (wantF rfl rfl rfl) (fun hc => AOp.slots [(93, _)] (.cons (gvT rfl hc) .nil) (AOp.load1 (b := (spblk (r.blocks.getD i0 spD) (.slice fA1 (r.blocks.getD i0 spD).h.cols.length fc1) (.slice fA2 (r.blocks.getD i0 spD).dead.length fc2) (.slice fA3 fvs.length fc3))) (v := .slice fA3 fvs.length fc3) rfl rfl hpB (spc_at _ _ _ _).2.2 Tz)) ?_
  refine aOps_gd rfl rfl (wantF rfl rfl rfl) (fun hc => AOp.slots [(92, _), (94, _)] (.cons (gvT rfl hc) (.cons (gvT rfl hc) .nil)) (AOp.call' rfl rfl rfl (sameAll _ _ (r.blocks.getD i0 spD).chunks evs fvs eA3 fA3 ec3 fc3 (eh3.sub subC) (fh3.sub subC) (eh4.sub subC) (fh4.sub subC) (by rw [eh4.len]; exact hxo.kl) hxo.kb) Iz)) (fun kq hkq => ?_)
  refine aOps_gd0 rfl rfl (wantF rfl rfl rfl) (fun hc => AOp.slots [(95, _)] (.cons (gvT rfl hc) .nil) (AOp.un' rfl rfl rfl Tz)) ?_
  refine Oz rfl rfl rfl (AOp.pickOr rfl rfl rfl (fun hb => gvE rfl (t_not hb)) ?_)
  refine Ez ?_
  refine ACode.cond rfl (fun c2 => absurd c2 (by simp)) (fun c2 => ?_)
  refine ACode.skip ?_
  refine Rz [0, 1, 2] Kz rfl ?_
  refine Mz ?_
  refine Oz rfl rfl rfl (AOp.add rfl rfl rfl (i64_wrap Wz Wz) ?_)
  refine Nz ?_
  refine Ez ?_
  first | refine thenA_n ?_ | simp only [thenA, blockA, if_true]
  exact NextR.mk Wz Wz (.cons rfl .nil) (.cons rfl (.cons rfl .nil)) subC trivial
 ·try simp only [Cz] at c1
  refine ACode.exit ?_
  refine Sz ?_
  refine Rz [0] Kz rfl ?_
  refine Nz ?_
  refine Ez ?_
  refine ACode.ret ?_
  exact RetQ.one rfl rfl subC stays (fun hk => ⟨rfl, rfl, by omega⟩)
end

end Go.Proofs.YteoofihjmldllaaDoor
