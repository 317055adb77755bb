/- Contracts over the abstract states: what is wrong with a schema and a row; ValueChecks. -/
import Derived.Test.YteoofihjmldllaaGreatDoorV1
import Derived.Test.YteoofihjmldllaaGreatDoorV4
set_option linter.unusedVariables false
set_option linter.unusedSimpArgs false
set_option maxRecDepth 100000
namespace Go.Proofs.YteoofihjmldllaaGreatDoor
open Go Go.Ab

section
variable (NG : Nat) (H : Hp) (k : Nat)
abbrev cols3 (l : List Col) : List Value := l.flatMap fun c => (cc c).cells.toList
abbrev vals3 (l : List Val) : List Value := l.flatMap fun a => (vv a).cells.toList

theorem way_col (a : Col) : ACalls Tryz.prog NG 80 [cc a] H k (Same H k (.bool (wayB a))) := by
 refine ACalls.fresh fun hf => ?_
 refine ACalls.body Tryz.func80 rfl (Nat.le_of_ble_eq_true rfl) ?_
 refine Sz ?_
 refine Rz [0, 1] Kz rfl ?_
 refine Oz rfl rfl rfl (AOp.boxV rfl rfl ?_)
 refine Nz ?_
 refine Ez ?_
 refine Sz ?_
 refine Sz ?_
 refine Rz [0, 1, 2] Kz rfl ?_
 refine Fz ?_
 refine Oz rfl rfl rfl ?_
 refine AOp.load1 (b := ?b1) (v := ?v1) rfl rfl ?hn1 ?hv1 ?hR1
 (case hn1 => exact hpA)
 (case hv1 => rfl)
 refine Oz rfl rfl rfl (AOp.bin' rfl rfl rfl rfl ?_)
 refine Ez ?_
 refine ACode.cond rfl (fun c0 => ?_) (fun c0 => ?_)
 ·try simp only [Cz] at c0
  refine Sz ?_
  refine Rz [0, 1, 2, 3, 4, 5, 6, 7, 8] Kz rfl ?_
  refine Fz ?_
  refine Oz rfl rfl rfl ?_
  refine AOp.load1 (b := ?b2) (v := ?v2) rfl rfl ?hn2 ?hv2 ?hR2
  (case hn2 => exact hpA)
  (case hv2 => rfl)
  refine Oz rfl rfl rfl (AOp.bin' rfl rfl rfl rfl ?_)
  refine Mz ?_
  refine aOps_gd0 rfl rfl (wantF rfl rfl rfl) (fun hc => AOp.slots [(1, _)] (.cons rfl .nil) (AOp.fieldAddr' rfl Dz rfl Tz)) ?_
  refine aOps_gd0 rfl rfl (wantF rfl rfl rfl) (fun hc => AOp.slots [(10, _)] (.cons (gvT rfl hc) .nil) ((by refine AOp.load1 (b := ?b3) (v := ?v3) rfl rfl ?hn3 ?hv3 ?hR3; (case hn3 => exact hpA); (case hv3 => rfl); exact Tz))) ?_
  refine aOps_gd0 rfl rfl (wantF rfl rfl rfl) (fun hc => AOp.slots [(11, _)] (.cons (gvT rfl hc) .nil) (AOp.bin' rfl rfl rfl rfl Tz)) ?_
  refine Oz rfl rfl rfl (AOp.pickOr rfl rfl rfl (fun hb => gvE rfl (t_not hb)) ?_)
  refine Nz ?_
  refine Ez ?_
  refine ACode.ret ?_
  exact RetQ.one rfl rfl subA stays (fun hk => ⟨(by rw [wayB, if_pos c0]), rfl, by omega⟩)
 ·try simp only [Cz] at c0
  refine ACode.skip ?_
  refine Sz ?_
  refine Rz [0, 1, 2, 3, 4, 5, 6, 7, 8] Kz rfl ?_
  refine Fz ?_
  refine Oz rfl rfl rfl ?_
  refine AOp.load1 (b := ?b4) (v := ?v4) rfl rfl ?hn4 ?hv4 ?hR4
  (case hn4 => exact hpA)
  (case hv4 => rfl)
  refine Oz rfl rfl rfl (AOp.bin' rfl rfl rfl rfl ?_)
  refine Mz ?_
  refine aOps_gd0 rfl rfl (wantT rfl rfl rfl) (fun hc => AOp.slots [(1, _)] (.cons rfl .nil) (AOp.fieldAddr' rfl Dz rfl Tz)) ?_
  refine aOps_gd0 rfl rfl (wantT rfl rfl rfl) (fun hc => AOp.slots [(18, _)] (.cons (gvT rfl hc) .nil) ((by refine AOp.load1 (b := ?b5) (v := ?v5) rfl rfl ?hn5 ?hv5 ?hR5; (case hn5 => exact hpA); (case hv5 => rfl); exact Tz))) ?_
  refine aOps_gd0 rfl rfl (wantT rfl rfl rfl) (fun hc => AOp.slots [(19, _)] (.cons (gvT rfl hc) .nil) (AOp.bin' rfl rfl rfl rfl Tz)) ?_
  refine Oz rfl rfl rfl (AOp.pickAnd rfl rfl rfl (fun hb => gvE rfl hb) ?_)
  refine Nz ?_
  refine Ez ?_
  refine ACode.ret ?_
  exact RetQ.one rfl rfl subA stays (fun hk => ⟨(by rw [wayB, if_neg c0]), rfl, by omega⟩)

theorem of_col (w kd : Int) : ACalls Tryz.prog NG 59 [.int .i64 w, .int .i64 kd] H k (Same H k (.bool (ofB w kd))) := by
 refine ACalls.fresh fun hf => ?_
 refine ACalls.body Tryz.func59 rfl (Nat.le_of_ble_eq_true rfl) ?_
 refine Sz ?_
 refine Rz [0] Kz rfl ?_
 refine Nz ?_
 refine Ez (Sz (Rz [0, 1, 2, 3, 4, 5, 6, 7, 8, 9, 10, 11, 12, 13, 14, 15, 16, 17, 18] Kz rfl ?_))
 refine Mz ?_
 refine Oz rfl rfl rfl (AOp.bin' rfl rfl rfl rfl ?_)
 refine Mz ?_
 refine aOps_gd0 rfl rfl (wantT rfl rfl rfl) (fun hc => AOp.slots [(0, _)] (.cons rfl .nil) (AOp.move' (.inl rfl) rfl Tz)) ?_
 refine aOps_gd0 rfl rfl (wantT rfl rfl rfl) (fun hc => AOp.slots [(8, _)] (.cons (gvT rfl hc) .nil) (AOp.bin' rfl rfl rfl rfl Tz)) ?_
 refine Oz rfl rfl rfl (AOp.pickAnd rfl rfl rfl (fun hb => gvE rfl hb) ?_)
 refine Mz ?_
 refine aOps_gd0 rfl rfl (wantT rfl rfl rfl) (fun hc => AOp.slots [(0, _)] (.cons rfl .nil) (AOp.move' (.inl rfl) rfl Tz)) ?_
 refine aOps_gd0 rfl rfl (wantT rfl rfl rfl) (fun hc => AOp.slots [(12, _)] (.cons (gvT rfl hc) .nil) (AOp.bin' rfl rfl rfl rfl Tz)) ?_
 refine Oz rfl rfl rfl (AOp.pickAnd rfl rfl rfl (fun hb => gvE rfl hb) ?_)
 refine Mz ?_
 refine aOps_gd0 rfl rfl (wantF rfl rfl rfl) (fun hc => AOp.slots [(1, _)] (.cons rfl .nil) (AOp.move' (.inl rfl) rfl Tz)) ?_
 refine aOps_gd0 rfl rfl (wantF rfl rfl rfl) (fun hc => AOp.slots [(16, _)] (.cons (gvT rfl hc) .nil) (AOp.bin' rfl rfl rfl rfl Tz)) ?_
 refine aOps_gd0 rfl rfl (wantF rfl rfl rfl) (fun hc => AOp.slots [(17, _)] (.cons (gvT rfl hc) .nil) (AOp.move' (.inl rfl) rfl Tz)) ?_
 refine aOps_gd0 rfl rfl (wantGT rfl rfl rfl) (fun hc => AOp.slots [(0, _)] (.cons rfl .nil) (AOp.move' (.inl rfl) rfl Tz)) ?_
 refine aOps_gd0 rfl rfl (wantGT rfl rfl rfl) (fun hc => AOp.slots [(19, _)] (.cons (gvT rfl hc) .nil) (AOp.bin' rfl rfl rfl rfl Tz)) ?_
 refine aOps_gd0 rfl rfl (wantF rfl rfl rfl) (fun hc => AOp.pickAnd rfl rfl (gvE rfl hc) (fun hb => gvE rfl (and_mk hc hb)) Tz) ?_
 refine Oz rfl rfl rfl (AOp.pickOr rfl rfl rfl (fun hb => gvE rfl (t_not hb)) ?_)
 refine Nz ?_
 refine Ez ?_
 refine ACode.ret ?_
 exact RetQ.one rfl rfl subA stays (fun hk => ⟨rfl, rfl, by omega⟩)

theorem refcmp_val (a b : Val) : ACalls Tryz.prog NG 95 [vv a, vv b] H k (Same H k (.int .i64 (cmpV a b))) := by
 refine ACalls.fresh fun hf => ?_
 refine ACalls.body Tryz.func95 rfl (Nat.le_of_ble_eq_true rfl) ?_
 refine Sz ?_
 refine Rz [0, 1, 2] Kz rfl ?_
 refine Oz rfl rfl rfl (AOp.boxV rfl rfl ?_)
 refine Oz rfl rfl rfl (AOp.boxV rfl rfl ?_)
 refine Nz ?_
 refine Ez ?_
 refine Sz ?_
 refine Sz ?_
 refine Rz [0, 1, 2, 3, 4] Kz rfl ?_
 refine Fz ?_
 refine Oz rfl rfl rfl ?_
 refine AOp.load1 (b := ?b6) (v := ?v6) rfl rfl ?hn6 ?hv6 ?hR6
 (case hn6 => exact hpA)
 (case hv6 => rfl)
 refine Fz ?_
 refine Oz rfl rfl rfl ?_
 refine AOp.load1 (b := ?b7) (v := ?v7) rfl rfl ?hn7 ?hv7 ?hR7
 (case hn7 => exact hpA)
 (case hv7 => rfl)
 refine Oz rfl rfl rfl (AOp.bin' rfl rfl rfl rfl ?_)
 refine Ez ?_
 refine ACode.cond rfl (fun c0 => ?_) (fun c0 => ?_)
 ·try simp only [Cz] at c0
  refine Sz ?_
  refine Rz [0] Kz rfl ?_
  refine Nz ?_
  refine Ez ?_
  refine ACode.ret ?_
  exact RetQ.one rfl rfl subA stays (fun hk => ⟨(by rw [ref_cmp, if_pos c0]), rfl, by omega⟩)
 ·try simp only [Cz] at c0
  refine ACode.skip ?_
  refine Sz ?_
  refine Sz ?_
  refine Rz [0, 1, 2, 3, 4] Kz rfl ?_
  refine Fz ?_
  refine Oz rfl rfl rfl ?_
  refine AOp.load1 (b := ?b8) (v := ?v8) rfl rfl ?hn8 ?hv8 ?hR8
  (case hn8 => exact hpA)
  (case hv8 => rfl)
  refine Fz ?_
  refine Oz rfl rfl rfl ?_
  refine AOp.load1 (b := ?b9) (v := ?v9) rfl rfl ?hn9 ?hv9 ?hR9
  (case hn9 => exact hpA)
  (case hv9 => rfl)
  refine Oz rfl rfl rfl (AOp.bin' rfl rfl rfl rfl ?_)
  refine Ez ?_
  refine ACode.cond rfl (fun c1 => ?_) (fun c1 => ?_)
  ·try simp only [Cz] at c1
   refine Sz ?_
   refine Rz [0] Kz rfl ?_
   refine Nz ?_
   refine Ez ?_
   refine ACode.ret ?_
   exact RetQ.one rfl rfl subA stays (fun hk => ⟨(by rw [ref_cmp, if_neg Wz, if_pos c1]), rfl, by omega⟩)
  ·try simp only [Cz] at c1
   refine ACode.skip ?_
   refine Sz ?_
   refine Sz ?_
   refine Rz [0, 1, 2, 3, 4, 5, 6, 7, 8, 9, 10, 11, 12, 13, 14, 15, 16, 17, 18, 19, 20, 21] Kz rfl ?_
   refine Fz ?_
   refine Oz rfl rfl rfl ?_
   refine AOp.load1 (b := ?b10) (v := ?v10) rfl rfl ?hn10 ?hv10 ?hR10
   (case hn10 => exact hpA)
   (case hv10 => rfl)
   refine Oz rfl rfl rfl (AOp.bin' rfl rfl rfl rfl ?_)
   refine Mz ?_
   refine aOps_gd0 rfl rfl (wantT rfl rfl rfl) (fun hc => AOp.slots [(2, _)] (.cons rfl .nil) (AOp.fieldAddr' rfl Dz rfl Tz)) ?_
   refine aOps_gd0 rfl rfl (wantT rfl rfl rfl) (fun hc => AOp.slots [(19, _)] (.cons (gvT rfl hc) .nil) ((by refine AOp.load1 (b := ?b11) (v := ?v11) rfl rfl ?hn11 ?hv11 ?hR11; (case hn11 => exact hpA); (case hv11 => rfl); exact Tz))) ?_
   refine aOps_gd0 rfl rfl (wantT rfl rfl rfl) (fun hc => AOp.slots [(3, _)] (.cons rfl .nil) (AOp.fieldAddr' rfl Dz rfl Tz)) ?_
   refine aOps_gd0 rfl rfl (wantT rfl rfl rfl) (fun hc => AOp.slots [(21, _)] (.cons (gvT rfl hc) .nil) ((by refine AOp.load1 (b := ?b12) (v := ?v12) rfl rfl ?hn12 ?hv12 ?hR12; (case hn12 => exact hpA); (case hv12 => rfl); exact Tz))) ?_
   refine aOps_gd0 rfl rfl (wantT rfl rfl rfl) (fun hc => AOp.slots [(20, _), (22, _)] (.cons (gvT rfl hc) (.cons (gvT rfl hc) .nil)) (AOp.bin' rfl rfl rfl rfl Tz)) ?_
   refine Oz rfl rfl rfl (AOp.pickAnd rfl rfl rfl (fun hb => gvE rfl hb) ?_)
   refine Mz ?_
   refine aOps_gd0 rfl rfl (wantF rfl rfl rfl) (fun hc => AOp.slots [(2, _)] (.cons rfl .nil) (AOp.fieldAddr' rfl Dz rfl Tz)) ?_
   refine aOps_gd0 rfl rfl (wantF rfl rfl rfl) (fun hc => AOp.slots [(26, _)] (.cons (gvT rfl hc) .nil) ((by refine AOp.load1 (b := ?b13) (v := ?v13) rfl rfl ?hn13 ?hv13 ?hR13; (case hn13 => exact hpA); (case hv13 => rfl); exact Tz))) ?_
   refine aOps_gd0 rfl rfl (wantF rfl rfl rfl) (fun hc => AOp.slots [(27, _)] (.cons (gvT rfl hc) .nil) (AOp.bin' rfl rfl rfl rfl Tz)) ?_
   refine aOps_gd0 rfl rfl (wantF rfl rfl rfl) (fun hc => AOp.slots [(28, _)] (.cons (gvT rfl hc) .nil) (AOp.move' (.inl rfl) rfl Tz)) ?_
   refine aOps_gd0 rfl rfl (wantGT rfl rfl rfl) (fun hc => AOp.slots [(2, _)] (.cons rfl .nil) (AOp.fieldAddr' rfl Dz rfl Tz)) ?_
   refine aOps_gd0 rfl rfl (wantGT rfl rfl rfl) (fun hc => AOp.slots [(30, _)] (.cons (gvT rfl hc) .nil) ((by refine AOp.load1 (b := ?b14) (v := ?v14) rfl rfl ?hn14 ?hv14 ?hR14; (case hn14 => exact hpA); (case hv14 => rfl); exact Tz))) ?_
   refine aOps_gd0 rfl rfl (wantGT rfl rfl rfl) (fun hc => AOp.slots [(3, _)] (.cons rfl .nil) (AOp.fieldAddr' rfl Dz rfl Tz)) ?_
   refine aOps_gd0 rfl rfl (wantGT rfl rfl rfl) (fun hc => AOp.slots [(32, _)] (.cons (gvT rfl hc) .nil) ((by refine AOp.load1 (b := ?b15) (v := ?v15) rfl rfl ?hn15 ?hv15 ?hR15; (case hn15 => exact hpA); (case hv15 => rfl); exact Tz))) ?_
   refine aOps_gd0 rfl rfl (wantGT rfl rfl rfl) (fun hc => AOp.slots [(31, _), (33, _)] (.cons (gvT rfl hc) (.cons (gvT rfl hc) .nil)) (AOp.bin' rfl rfl rfl rfl Tz)) ?_
   refine aOps_gd0 rfl rfl (wantF rfl rfl rfl) (fun hc => AOp.pickAnd rfl rfl (gvE rfl hc) (fun hb => gvE rfl (and_mk hc hb)) Tz) ?_
   refine Oz rfl rfl rfl (AOp.pickOr rfl rfl rfl (fun hb => gvE rfl (t_not hb)) ?_)
   refine Ez ?_
   refine ACode.cond rfl (fun c2 => ?_) (fun c2 => ?_)
   ·try simp only [Cz] at c2
    refine Sz ?_
    refine Rz [0] Kz rfl ?_
    refine Nz ?_
    refine Ez ?_
    refine ACode.ret ?_
    exact RetQ.one rfl rfl subA stays (fun hk => ⟨(by rw [ref_cmp, if_neg Wz, if_neg Wz, if_pos c2]), rfl, by omega⟩)
   ·try simp only [Cz] at c2
    refine ACode.skip ?_
    refine Sz ?_
    refine Sz ?_
    refine Rz [0, 1, 2, 3, 4, 5, 6, 7, 8, 9, 10, 11, 12, 13, 14, 15, 16, 17, 18, 19, 20, 21] Kz rfl ?_
    refine Fz ?_
    refine Oz rfl rfl rfl ?_
    refine AOp.load1 (b := ?b16) (v := ?v16) rfl rfl ?hn16 ?hv16 ?hR16
    (case hn16 => exact hpA)
    (case hv16 => rfl)
    refine Oz rfl rfl rfl (AOp.bin' rfl rfl rfl rfl ?_)
    refine Mz ?_
    refine aOps_gd0 rfl rfl (wantT rfl rfl rfl) (fun hc => AOp.slots [(2, _)] (.cons rfl .nil) (AOp.fieldAddr' rfl Dz rfl Tz)) ?_
    refine aOps_gd0 rfl rfl (wantT rfl rfl rfl) (fun hc => AOp.slots [(41, _)] (.cons (gvT rfl hc) .nil) ((by refine AOp.load1 (b := ?b17) (v := ?v17) rfl rfl ?hn17 ?hv17 ?hR17; (case hn17 => exact hpA); (case hv17 => rfl); exact Tz))) ?_
    refine aOps_gd0 rfl rfl (wantT rfl rfl rfl) (fun hc => AOp.slots [(3, _)] (.cons rfl .nil) (AOp.fieldAddr' rfl Dz rfl Tz)) ?_
    refine aOps_gd0 rfl rfl (wantT rfl rfl rfl) (fun hc => AOp.slots [(43, _)] (.cons (gvT rfl hc) .nil) ((by refine AOp.load1 (b := ?b18) (v := ?v18) rfl rfl ?hn18 ?hv18 ?hR18; (case hn18 => exact hpA); (case hv18 => rfl); exact Tz))) ?_
    refine aOps_gd0 rfl rfl (wantT rfl rfl rfl) (fun hc => AOp.slots [(42, _), (44, _)] (.cons (gvT rfl hc) (.cons (gvT rfl hc) .nil)) (AOp.bin' rfl rfl rfl rfl Tz)) ?_
    refine Oz rfl rfl rfl (AOp.pickAnd rfl rfl rfl (fun hb => gvE rfl hb) ?_)
    refine Mz ?_
    refine aOps_gd0 rfl rfl (wantF rfl rfl rfl) (fun hc => AOp.slots [(2, _)] (.cons rfl .nil) (AOp.fieldAddr' rfl Dz rfl Tz)) ?_
    refine aOps_gd0 rfl rfl (wantF rfl rfl rfl) (fun hc => AOp.slots [(48, _)] (.cons (gvT rfl hc) .nil) ((by refine AOp.load1 (b := ?b19) (v := ?v19) rfl rfl ?hn19 ?hv19 ?hR19; (case hn19 => exact hpA); (case hv19 => rfl); exact Tz))) ?_
    refine aOps_gd0 rfl rfl (wantF rfl rfl rfl) (fun hc => AOp.slots [(49, _)] (.cons (gvT rfl hc) .nil) (AOp.bin' rfl rfl rfl rfl Tz)) ?_
    refine aOps_gd0 rfl rfl (wantF rfl rfl rfl) (fun hc => AOp.slots [(50, _)] (.cons (gvT rfl hc) .nil) (AOp.move' (.inl rfl) rfl Tz)) ?_
    refine aOps_gd0 rfl rfl (wantGT rfl rfl rfl) (fun hc => AOp.slots [(2, _)] (.cons rfl .nil) (AOp.fieldAddr' rfl Dz rfl Tz)) ?_
    refine aOps_gd0 rfl rfl (wantGT rfl rfl rfl) (fun hc => AOp.slots [(52, _)] (.cons (gvT rfl hc) .nil) ((by refine AOp.load1 (b := ?b20) (v := ?v20) rfl rfl ?hn20 ?hv20 ?hR20; (case hn20 => exact hpA); (case hv20 => rfl); exact Tz))) ?_
    refine aOps_gd0 rfl rfl (wantGT rfl rfl rfl) (fun hc => AOp.slots [(3, _)] (.cons rfl .nil) (AOp.fieldAddr' rfl Dz rfl Tz)) ?_
    refine aOps_gd0 rfl rfl (wantGT rfl rfl rfl) (fun hc => AOp.slots [(54, _)] (.cons (gvT rfl hc) .nil) ((by refine AOp.load1 (b := ?b21) (v := ?v21) rfl rfl ?hn21 ?hv21 ?hR21; (case hn21 => exact hpA); (case hv21 => rfl); exact Tz))) ?_
    refine aOps_gd0 rfl rfl (wantGT rfl rfl rfl) (fun hc => AOp.slots [(53, _), (55, _)] (.cons (gvT rfl hc) (.cons (gvT rfl hc) .nil)) (AOp.bin' rfl rfl rfl rfl Tz)) ?_
    refine aOps_gd0 rfl rfl (wantF rfl rfl rfl) (fun hc => AOp.pickAnd rfl rfl (gvE rfl hc) (fun hb => gvE rfl (and_mk hc hb)) Tz) ?_
    refine Oz rfl rfl rfl (AOp.pickOr rfl rfl rfl (fun hb => gvE rfl (t_not hb)) ?_)
    refine Ez ?_
    refine ACode.cond rfl (fun c3 => ?_) (fun c3 => ?_)
    ·try simp only [Cz] at c3
     refine Sz ?_
     refine Rz [0] Kz rfl ?_
     refine Nz ?_
     refine Ez ?_
     refine ACode.ret ?_
     exact RetQ.one rfl rfl subA stays (fun hk => ⟨(by rw [ref_cmp, if_neg Wz, if_neg Wz, if_neg (by rw [c2]; decide), if_pos c3]), rfl, by omega⟩)
    ·try simp only [Cz] at c3
     refine ACode.skip ?_
     refine Sz ?_
     refine Rz [0] Kz rfl ?_
     refine Nz ?_
     refine Ez ?_
     refine ACode.ret ?_
     exact RetQ.one rfl rfl subA stays (fun hk => ⟨(by rw [ref_cmp, if_neg Wz, if_neg Wz, if_neg (by rw [c2]; decide), if_neg (by rw [c3]; decide)]), rfl, by omega⟩)

theorem schema_cols (cols : List Col) (A : Option Addr) (c : Nat) (hs : slcCells H 3 (.slice A cols.length c) = some (cols3 cols)) (hl : cols.length ≤ 9223372036854775807) : ACalls Tryz.prog NG 55 [.slice A cols.length c] H k (Same H k (.int .i64 (schemaI cols))) := by
 refine ACalls.fresh fun hf => ?_
 refine ACalls.body Tryz.func55 rfl (Nat.le_of_ble_eq_true rfl) ?_
 refine Sz ?_
 refine Rz [0] Kz rfl ?_
 refine Nz ?_
 refine Ez ?_
 refine Sz ?_
 refine Sz ?_
 refine Rz [0, 1, 2, 3, 4, 5, 6, 7] Kz rfl ?_
 refine Mz ?_
 refine Oz rfl rfl rfl (AOp.len' rfl rfl ?_)
 refine Oz rfl rfl rfl (AOp.bin' rfl rfl rfl rfl ?_)
 refine Mz ?_
 refine aOps_gd0 rfl rfl (wantF rfl rfl rfl) (fun hc => AOp.slots [(0, _)] (.cons rfl .nil) (AOp.move' (.inl rfl) rfl Tz)) ?_
 refine aOps_gd0 rfl rfl (wantF rfl rfl rfl) (fun hc => AOp.slots [(11, _)] (.cons (gvT rfl hc) .nil) (AOp.len' rfl rfl Tz)) ?_
 refine aOps_gd0 rfl rfl (wantF rfl rfl rfl) (fun hc => AOp.slots [(12, _)] (.cons (gvT rfl hc) .nil) (AOp.bin' rfl rfl rfl rfl Tz)) ?_
 refine Oz rfl rfl rfl (AOp.pickOr rfl rfl rfl (fun hb => gvE rfl (t_not hb)) ?_)
 refine Ez ?_
 refine ACode.cond rfl (fun c0 => ?_) (fun c0 => ?_)
 ·try simp only [Cz] at c0
  refine Sz ?_
  refine Rz [0] Kz rfl ?_
  refine Nz ?_
  refine Ez ?_
  refine ACode.ret ?_
  exact RetQ.one rfl rfl subA stays (fun hk => ⟨(by rw [schemaI, if_pos (by simp only [Bool.or_eq_true, decide_eq_true_eq, beq_iff_eq] at c0; omega)]), rfl, by omega⟩)
 ·try simp only [Cz] at c0
  refine ACode.skip ?_
  refine Sz ?_
  refine Sz ?_
  refine Rz [0, 1, 2] Kz rfl ?_
  refine Mz ?_
  refine Oz rfl rfl rfl (AOp.len' rfl rfl ?_)
  refine Mz ?_
  refine Ez ?_
  refine ACode.block ?_
  refine ACode.count0 (fun i => [(17, .int .i64 (i : Int))]) [(0, _), (15, _), (16, _)] (cols.length) (fun i => (cols.take i).any badKind = false) (.cons rfl .nil) Xz rfl (fun i0 kL0 HL0 hiL0 hkL0 hsL0 hfL0 hxL0 => ?_)
  show ACode _ _ _ _ _ ⟨_, _, _⟩
  have tsL0 := SubS.of hsL0
  refine Sz ?_
  refine Rz [0] Kz rfl ?_
  refine Oz rfl rfl rfl (AOp.bin' rfl rfl rfl rfl ?_)
  refine Ez ?_
  refine Sz ?_
  refine ACode.cond rfl (fun c1 => ?_) (fun c1 => ?_)
  ·try simp only [Cz] at c1
   refine ACode.skip ?_
   refine Sz ?_
   refine ACode.block ?_
   refine Sz ?_
   obtain ⟨n5_0, o5_0, s5_0, hq5_0, hp5_0⟩ := slcEl hs (fun _ => rfl) Dz (show i0 < cols.length by omega)
   refine Rz [0, 1, 2, 3] Kz rfl ?_
   refine Oz rfl rfl rfl (AOp.indexP (aslcAt_sub subA hq5_0) rfl rfl rfl ?_)
   refine Oz rfl rfl rfl (AOp.loadPA (v := _) (hp5_0.sub subA) rfl rfl rfl rfl (by first | rfl | (simp; done)) Dz ?_)
   refine Oz rfl rfl rfl (AOp.alloc' rfl ?_)
   refine aOps_0 rfl rfl rfl ?_
   refine AOp.storeAll (b := ?b22) rfl rfl rfl ?hn22 ?hk22 rfl ?hw22 ?ho22 ?hl22 ?hR22
   (case hn22 => exact hpA)
   (case hk22 => rfl)
   (case hw22 => first | rfl | (simp; done))
   (case ho22 => first | rfl | decide | (simp; done))
   (case hl22 => first | rfl | (simp; done))
   refine Ez (Sz (Rz [0, 1, 2, 3, 4, 5, 6, 7] Kz rfl ?_))
   refine Fz ?_
   refine Oz rfl rfl rfl ?_
   refine AOp.load1 (b := ?b23) (v := ?v23) rfl rfl ?hn23 ?hv23 ?hR23
   (case hn23 => exact hpA)
   (case hv23 => rfl)
   refine Oz rfl rfl rfl (AOp.bin' rfl rfl rfl rfl ?_)
   refine Mz ?_
   refine aOps_gd0 rfl rfl (wantT rfl rfl rfl) (fun hc => AOp.slots [(4, _)] (.cons rfl .nil) (AOp.fieldAddr' rfl Dz rfl Tz)) ?_
   refine aOps_gd0 rfl rfl (wantT rfl rfl rfl) (fun hc => AOp.slots [(25, _)] (.cons (gvT rfl hc) .nil) ((by refine AOp.load1 (b := ?b24) (v := ?v24) rfl rfl ?hn24 ?hv24 ?hR24; (case hn24 => exact hpA); (case hv24 => rfl); exact Tz))) ?_
   refine aOps_gd0 rfl rfl (wantT rfl rfl rfl) (fun hc => AOp.slots [(26, _)] (.cons (gvT rfl hc) .nil) (AOp.bin' rfl rfl rfl rfl Tz)) ?_
   refine Oz rfl rfl rfl (AOp.pickAnd rfl rfl rfl (fun hb => gvE rfl hb) ?_)
   refine Ez ?_
   refine ACode.cond rfl (fun c2 => ?_) (fun c2 => ?_)
   ·try simp only [Cz] at c2
    refine Sz ?_
    refine Rz [0] Kz rfl ?_
    refine Nz ?_
    refine Ez ?_
    refine ACode.ret ?_
    exact RetQ.one rfl rfl subA stays (fun hk => ⟨(by rw [schemaI, if_neg (by simp only [Bool.or_eq_false_iff, decide_eq_false_iff_not, beq_eq_false_iff_ne] at c0; omega), if_pos (any_hit (i := i0) (show i0 < cols.length by omega) c2)]), rfl, by omega⟩)
   ·try simp only [Cz] at c2
    refine ACode.skip ?_
    refine Rz [0, 1] Kz rfl ?_
    refine Oz rfl rfl rfl (AOp.add rfl rfl rfl (i64_wrap Wz Wz) ?_)
    refine Mz ?_
    refine Ez ?_
    first | refine thenA_n ?_ | simp only [thenA, blockA, if_true]
    exact NextR.mk Wz Wz (.cons rfl .nil) Xz subA (any_step (i := i0) (l := cols) (show i0 < cols.length by omega) hxL0 c2)
  ·try simp only [Cz] at c1
   refine ACode.exit ?_
   refine Sz ?_
   refine Sz ?_
   refine Rz [0, 1, 2] Kz rfl ?_
   refine Mz ?_
   refine Oz rfl rfl rfl (AOp.len' rfl rfl ?_)
   refine Mz ?_
   refine Ez ?_
   refine ACode.block ?_
   refine ACode.count0 (fun i => [(32, .int .i64 (i : Int))]) [(0, _), (15, _), (16, _), (17, _), (18, _), (30, _), (31, _)] (cols.length) (fun i => (cols.take i).any (fun c => !wayB c) = false) (.cons rfl .nil) Xz rfl (fun i1 kL1 HL1 hiL1 hkL1 hsL1 hfL1 hxL1 => ?_)
   show ACode _ _ _ _ _ ⟨_, _, _⟩
   have tsL1 := SubS.of hsL1
   refine Sz ?_
   refine Rz [0] Kz rfl ?_
   refine Oz rfl rfl rfl (AOp.bin' rfl rfl rfl rfl ?_)
   refine Ez ?_
   refine Sz ?_
   refine ACode.cond rfl (fun c3 => ?_) (fun c3 => ?_)
   ·try simp only [Cz] at c3
    refine ACode.skip ?_
    refine Sz ?_
    refine ACode.block ?_
    refine Sz ?_
    obtain ⟨n11_0, o11_0, s11_0, hq11_0, hp11_0⟩ := slcEl hs (fun _ => rfl) Dz (show i1 < cols.length by omega)
    refine Rz [0, 1, 2, 3] Kz rfl ?_
    refine Oz rfl rfl rfl (AOp.indexP (aslcAt_sub subA hq11_0) rfl rfl rfl ?_)
    refine Oz rfl rfl rfl (AOp.loadPA (v := _) (hp11_0.sub subA) rfl rfl rfl rfl (by first | rfl | (simp; done)) Dz ?_)
    refine Oz rfl rfl rfl (AOp.alloc' rfl ?_)
    refine aOps_0 rfl rfl rfl ?_
    refine AOp.storeAll (b := ?b25) rfl rfl rfl ?hn25 ?hk25 rfl ?hw25 ?ho25 ?hl25 ?hR25
    (case hn25 => exact hpA)
    (case hk25 => rfl)
    (case hw25 => first | rfl | (simp; done))
    (case ho25 => first | rfl | decide | (simp; done))
    (case hl25 => first | rfl | (simp; done))
    refine Ez (Sz (Rz [0, 1, 2] Kz rfl ?_))
    refine Oz rfl rfl rfl ?_
    refine AOp.loadAll (b := ?b26) (v := ?v26) rfl rfl ?hn26 ?hv26 ?hw26 ?hz26 ?hR26
    (case hn26 => exact hpA)
    (case hv26 => rfl)
    (case hw26 => rfl)
    (case hz26 => first | rfl | (simp; done))
    refine aOps_q rfl rfl rfl (AOp.call' rfl rfl rfl (way_col NG _ _ cols[i1]) Iz) (fun kq hkq => ?_)
    refine Oz rfl rfl rfl (AOp.un' rfl rfl rfl ?_)
    refine Ez ?_
    refine ACode.cond rfl (fun c4 => ?_) (fun c4 => ?_)
    ·try simp only [Cz] at c4
     refine Sz ?_
     refine Rz [0] Kz rfl ?_
     refine Nz ?_
     refine Ez ?_
     refine ACode.ret ?_
     exact RetQ.one rfl rfl subA stays (fun hk => ⟨(by rw [schemaI, if_neg (by simp only [Bool.or_eq_false_iff, decide_eq_false_iff_not, beq_eq_false_iff_ne] at c0; omega), if_neg (by rw [any_end Wz hxL0]; decide), if_pos (any_hit (i := i1) (show i1 < cols.length by omega) (by simp [c4]))]), rfl, by omega⟩)
    ·try simp only [Cz] at c4
     refine ACode.skip ?_
     refine Rz [0, 1] Kz rfl ?_
     refine Oz rfl rfl rfl (AOp.add rfl rfl rfl (i64_wrap Wz Wz) ?_)
     refine Mz ?_
     refine Ez ?_
     first | refine thenA_n ?_ | simp only [thenA, blockA, if_true]
     exact NextR.mk Wz Wz (.cons rfl .nil) Xz subA (any_step (i := i1) (l := cols) (show i1 < cols.length by omega) hxL1 (by simp [c4]))
   ·try simp only [Cz] at c3
    refine ACode.exit ?_
    refine Sz ?_
    refine Rz [0] Kz rfl ?_
    refine Nz ?_
    refine Ez ?_
    refine ACode.ret ?_
    exact RetQ.one rfl rfl subA stays (fun hk => ⟨(by rw [schemaI, if_neg (by simp only [Bool.or_eq_false_iff, decide_eq_false_iff_not, beq_eq_false_iff_ne] at c0; omega), if_neg (by rw [any_end Wz hxL0]; decide), if_neg (by rw [any_end Wz hxL1]; decide)]), rfl, by omega⟩)

theorem refschema_cols (cols : List Col) (A : Option Addr) (c : Nat) (hs : slcCells H 3 (.slice A cols.length c) = some (cols3 cols)) (hl : cols.length ≤ 9223372036854775807) : ACalls Tryz.prog NG 21 [.slice A cols.length c] H k (Same H k (.int .i64 (schemaR cols))) := by
 refine ACalls.fresh fun hf => ?_
 refine ACalls.body Tryz.func21 rfl (Nat.le_of_ble_eq_true rfl) ?_
 refine Sz ?_
 refine Rz [0] Kz rfl ?_
 refine Nz ?_
 refine Ez ?_
 refine Sz ?_
 refine Sz ?_
 refine Rz [0, 1, 2, 3, 4, 5, 6, 7] Kz rfl ?_
 refine Mz ?_
 refine Oz rfl rfl rfl (AOp.len' rfl rfl ?_)
 refine Oz rfl rfl rfl (AOp.bin' rfl rfl rfl rfl ?_)
 refine Mz ?_
 refine aOps_gd0 rfl rfl (wantF rfl rfl rfl) (fun hc => AOp.slots [(0, _)] (.cons rfl .nil) (AOp.move' (.inl rfl) rfl Tz)) ?_
 refine aOps_gd0 rfl rfl (wantF rfl rfl rfl) (fun hc => AOp.slots [(9, _)] (.cons (gvT rfl hc) .nil) (AOp.len' rfl rfl Tz)) ?_
 refine aOps_gd0 rfl rfl (wantF rfl rfl rfl) (fun hc => AOp.slots [(10, _)] (.cons (gvT rfl hc) .nil) (AOp.bin' rfl rfl rfl rfl Tz)) ?_
 refine Oz rfl rfl rfl (AOp.pickOr rfl rfl rfl (fun hb => gvE rfl (t_not hb)) ?_)
 refine Ez ?_
 refine ACode.cond rfl (fun c0 => ?_) (fun c0 => ?_)
 ·try simp only [Cz] at c0
  refine Sz ?_
  refine Rz [0] Kz rfl ?_
  refine Nz ?_
  refine Ez ?_
  refine ACode.ret ?_
  exact RetQ.one rfl rfl subA stays (fun hk => ⟨(by rw [schemaR, if_pos (by simp only [Bool.or_eq_true, decide_eq_true_eq, beq_iff_eq] at c0; omega)]), rfl, by omega⟩)
 ·try simp only [Cz] at c0
  refine ACode.skip ?_
  refine Sz ?_
  refine Sz ?_
  refine Rz [0] Kz rfl ?_
  refine Nz ?_
  refine Ez ?_
  refine ACode.block ?_
  refine ACode.count0 (fun i => [(3, .int .i64 (i : Int))]) [(0, _)] (cols.length) (fun i => (cols.take i).any badKind = false) (.cons rfl .nil) (.cons rfl .nil) rfl (fun i0 kL0 HL0 hiL0 hkL0 hsL0 hfL0 hxL0 => ?_)
  show ACode _ _ _ _ _ ⟨_, _, _⟩
  have tsL0 := SubS.of hsL0
  refine Sz ?_
  refine Sz ?_
  refine Rz [0, 1, 2, 3] Kz rfl ?_
  refine Mz ?_
  refine Mz ?_
  refine Oz rfl rfl rfl (AOp.len' rfl rfl ?_)
  refine Oz rfl rfl rfl (AOp.bin' rfl rfl rfl rfl ?_)
  refine Ez ?_
  refine ACode.cond rfl (fun c1 => ?_) (fun c1 => ?_)
  ·try simp only [Cz] at c1
   refine ACode.skip ?_
   refine Sz ?_
   refine ACode.block ?_
   refine Sz ?_
   obtain ⟨n6_2, o6_2, s6_2, hq6_2, hp6_2⟩ := slcEl hs (fun _ => rfl) Dz (show i0 < cols.length by omega)
   obtain ⟨n6_9, o6_9, s6_9, hq6_9, hp6_9⟩ := slcEl hs (fun _ => rfl) Dz (show i0 < cols.length by omega)
   refine Rz [0, 1, 2, 3, 4, 5, 6, 7, 8, 9, 10, 11, 12, 13] Kz rfl ?_
   refine Mz ?_
   refine Mz ?_
   refine Oz rfl rfl rfl (AOp.indexP (aslcAt_sub subA hq6_2) rfl rfl rfl ?_)
   refine Oz rfl rfl rfl (AOp.fieldP (hp6_2.sub subA) rfl Dz (Nat.le_of_ble_eq_true rfl) rfl ?_)
   refine Oz rfl rfl rfl (AOp.loadP1 (hp6_2.sub subA) rfl rfl rfl ?_)
   refine Oz rfl rfl rfl (AOp.bin' rfl rfl rfl rfl ?_)
   refine Mz ?_
   refine aOps_gd0 rfl rfl (wantT rfl rfl rfl) (fun hc => AOp.slots [(0, _)] (.cons rfl .nil) (AOp.move' (.inl rfl) rfl Tz)) ?_
   refine aOps_gd0 rfl rfl (wantT rfl rfl rfl) (fun hc => AOp.slots [(3, _)] (.cons rfl .nil) (AOp.move' (.inl rfl) rfl Tz)) ?_
   refine aOps_gd0 rfl rfl (wantT rfl rfl rfl) (fun hc => AOp.slots [(26, _), (27, _)] (.cons (gvT rfl hc) (.cons (gvT rfl hc) .nil)) (AOp.indexP (aslcAt_sub subA hq6_9) rfl rfl rfl Tz)) ?_
   refine aOps_gd0 rfl rfl (wantT rfl rfl rfl) (fun hc => AOp.slots [(28, _)] (.cons (gvT rfl hc) .nil) (AOp.fieldP (hp6_9.sub subA) rfl Dz (Nat.le_of_ble_eq_true rfl) rfl Tz)) ?_
   refine aOps_gd0 rfl rfl (wantT rfl rfl rfl) (fun hc => AOp.slots [(29, _)] (.cons (gvT rfl hc) .nil) (AOp.loadP1 (hp6_9.sub subA) rfl rfl rfl Tz)) ?_
   refine aOps_gd0 rfl rfl (wantT rfl rfl rfl) (fun hc => AOp.slots [(30, _)] (.cons (gvT rfl hc) .nil) (AOp.bin' rfl rfl rfl rfl Tz)) ?_
   refine Oz rfl rfl rfl (AOp.pickAnd rfl rfl rfl (fun hb => gvE rfl hb) ?_)
   refine Ez ?_
   refine ACode.cond rfl (fun c2 => ?_) (fun c2 => ?_)
   ·try simp only [Cz] at c2
    refine Sz ?_
    refine Rz [0] Kz rfl ?_
    refine Nz ?_
    refine Ez ?_
    refine ACode.ret ?_
    exact RetQ.one rfl rfl subA stays (fun hk => ⟨(by rw [schemaR, if_neg (by simp only [Bool.or_eq_false_iff, decide_eq_false_iff_not, beq_eq_false_iff_ne] at c0; omega), if_pos (any_hit (i := i0) (show i0 < cols.length by omega) c2)]), rfl, by omega⟩)
   ·try simp only [Cz] at c2
    refine ACode.skip ?_
    refine Rz [0, 1, 2] Kz rfl ?_
    refine Mz ?_
    refine Oz rfl rfl rfl (AOp.add rfl rfl rfl (i64_wrap Wz Wz) ?_)
    refine Nz ?_
    refine Ez ?_
    first | refine thenA_n ?_ | simp only [thenA, blockA, if_true]
    exact NextR.mk Wz Wz (.cons rfl .nil) (.cons rfl .nil) subA (any_step (i := i0) (l := cols) (show i0 < cols.length by omega) hxL0 c2)
  ·try simp only [Cz] at c1
   refine ACode.exit ?_
   refine Sz ?_
   refine Sz ?_
   refine Rz [0] Kz rfl ?_
   refine Nz ?_
   refine Ez ?_
   refine ACode.block ?_
   refine ACode.count0 (fun i => [(4, .int .i64 (i : Int))]) [(0, _), (3, _), (13, _), (14, _), (15, _), (16, _)] (cols.length) (fun i => (cols.take i).any badWay = false) (.cons rfl .nil) Xz rfl (fun i1 kL1 HL1 hiL1 hkL1 hsL1 hfL1 hxL1 => ?_)
   show ACode _ _ _ _ _ ⟨_, _, _⟩
   have tsL1 := SubS.of hsL1
   refine Sz ?_
   refine Sz ?_
   refine Rz [0, 1, 2, 3] Kz rfl ?_
   refine Mz ?_
   refine Mz ?_
   refine Oz rfl rfl rfl (AOp.len' rfl rfl ?_)
   refine Oz rfl rfl rfl (AOp.bin' rfl rfl rfl rfl ?_)
   refine Ez ?_
   refine ACode.cond rfl (fun c3 => ?_) (fun c3 => ?_)
   ·try simp only [Cz] at c3
    refine ACode.skip ?_
    refine Sz ?_
    refine ACode.block ?_
    refine Sz ?_
    have hv1 : i1 < cols.length := by omega
    obtain ⟨n11_2, o11_2, s11_2, hq11_2, hp11_2⟩ := slcEl hs (fun _ => rfl) Dz (show i1 < cols.length by omega)
    obtain ⟨n11_9, o11_9, s11_9, hq11_9, hp11_9⟩ := slcEl hs (fun _ => rfl) Dz (show i1 < cols.length by omega)
    obtain ⟨n11_14, o11_14, s11_14, hq11_14, hp11_14⟩ := slcEl hs (fun _ => rfl) Dz (show i1 < cols.length by omega)
    refine ACode.draw' 20 [(0, 39), (1, 40), (2, 41), (3, 42), (4, 43), (5, 44), (6, 45), (7, 46), (8, 47), (9, 48), (10, 49), (11, 50), (12, 51), (13, 52), (14, 53), (15, 54), (16, 55), (17, 56), (18, 57), (19, 58)] mixed Kz ?_
    refine Draw.step [(0, none)] rfl Kz rfl (fun kq hkq => AOp.move' (.inl rfl) rfl Vz) ?_
    refine Draw.step [(4, none)] rfl Kz rfl (fun kq hkq => AOp.move' (.inl rfl) rfl Vz) ?_
    refine Draw.step [(39, some 0), (40, some 1)] rfl Kz rfl (fun kq hkq => AOp.indexP (aslcAt_sub subA hq11_2) rfl rfl rfl Vz) ?_
    refine Draw.step [(41, some 2)] rfl Kz rfl (fun kq hkq => AOp.fieldP (hp11_2.sub subA) rfl Dz (Nat.le_of_ble_eq_true rfl) rfl Vz) ?_
    refine Draw.step [(42, some 3)] rfl Kz rfl (fun kq hkq => AOp.loadP1 (hp11_2.sub subA) rfl rfl rfl Vz) ?_
    refine Draw.step [(43, some 4)] rfl Kz rfl (fun kq hkq => AOp.bin' rfl rfl rfl rfl Vz) ?_
    refine Draw.step [(44, some 5)] rfl Kz rfl (fun kq hkq => AOp.move' (.inl rfl) rfl Vz) ?_
    refine Draw.gd [(0, none), (45, some 6)] rfl Kz (wantT rfl rfl rfl) (fun kq hkq hc => AOp.slots [(0, _)] (.cons rfl .nil) (AOp.move' (.inl rfl) rfl Vz)) ?_
    refine Draw.gd [(4, none), (45, some 6)] rfl Kz (wantT rfl rfl rfl) (fun kq hkq hc => AOp.slots [(4, _)] (.cons rfl .nil) (AOp.move' (.inl rfl) rfl Vz)) ?_
    refine Draw.gd [(46, some 7), (47, some 8), (45, some 6)] rfl Kz (wantT rfl rfl rfl) (fun kq hkq hc => AOp.slots [(46, _), (47, _)] (.cons (gvT rfl hc) (.cons (gvT rfl hc) .nil)) (AOp.indexP (aslcAt_sub subA hq11_9) rfl rfl rfl Vz)) ?_
    refine Draw.gd [(48, some 9), (45, some 6)] rfl Kz (wantT rfl rfl rfl) (fun kq hkq hc => AOp.slots [(48, _)] (.cons (gvT rfl hc) .nil) (AOp.fieldP (hp11_9.sub subA) rfl Dz (Nat.le_of_ble_eq_true rfl) rfl Vz)) ?_
    refine Draw.gd [(49, some 10), (45, some 6)] rfl Kz (wantT rfl rfl rfl) (fun kq hkq hc => AOp.slots [(49, _)] (.cons (gvT rfl hc) .nil) (AOp.loadP1 (hp11_9.sub subA) rfl rfl rfl Vz)) ?_
    refine Draw.gd [(0, none), (45, some 6)] rfl Kz (wantT rfl rfl rfl) (fun kq hkq hc => AOp.slots [(0, _)] (.cons rfl .nil) (AOp.move' (.inl rfl) rfl Vz)) ?_
    refine Draw.gd [(4, none), (45, some 6)] rfl Kz (wantT rfl rfl rfl) (fun kq hkq hc => AOp.slots [(4, _)] (.cons rfl .nil) (AOp.move' (.inl rfl) rfl Vz)) ?_
    refine Draw.gd [(51, some 12), (52, some 13), (45, some 6)] rfl Kz (wantT rfl rfl rfl) (fun kq hkq hc => AOp.slots [(51, _), (52, _)] (.cons (gvT rfl hc) (.cons (gvT rfl hc) .nil)) (AOp.indexP (aslcAt_sub subA hq11_14) rfl rfl rfl Vz)) ?_
    refine Draw.gd [(53, some 14), (45, some 6)] rfl Kz (wantT rfl rfl rfl) (fun kq hkq hc => AOp.slots [(53, _)] (.cons (gvT rfl hc) .nil) (AOp.fieldP (hp11_14.sub subA) rfl Dz (Nat.le_of_ble_eq_true rfl) rfl Vz)) ?_
    refine Draw.gd [(54, some 15), (45, some 6)] rfl Kz (wantT rfl rfl rfl) (fun kq hkq hc => AOp.slots [(54, _)] (.cons (gvT rfl hc) .nil) (AOp.loadP1 (hp11_14.sub subA) rfl rfl rfl Vz)) ?_
    refine Draw.gd [(50, some 11), (55, some 16), (45, some 6)] rfl Kz (wantT rfl rfl rfl) (fun kq hkq hc => AOp.slots [(50, _), (55, _)] (.cons (gvT rfl hc) (.cons (gvT rfl hc) .nil)) (AOp.call' rfl rfl rfl (of_col NG _ _ (List.get cols ⟨i1, hv1⟩).way (List.get cols ⟨i1, hv1⟩).kind) Iz)) ?_
    refine Draw.gd [(56, some 17), (45, some 6)] rfl Kz (wantT rfl rfl rfl) (fun kq hkq hc => AOp.slots [(56, _)] (.cons (gvT rfl hc) .nil) (AOp.un' rfl rfl rfl Vz)) ?_
    refine Draw.step [(45, some 6), (57, some 18)] rfl Kz rfl (fun kq hkq => AOp.pickAnd rfl rfl rfl (fun hb => gvE rfl hb) Vz) ?_
    refine Draw.done fun kq hkq => ?_
    show aOps _ _ _ _ [] ⟨_, _, _⟩
    refine Ez ?_
    refine ACode.cond rfl (fun c4 => ?_) (fun c4 => ?_)
    ·try simp only [Cz] at c4
     refine Sz ?_
     refine Rz [0] Kz rfl ?_
     refine Nz ?_
     refine Ez ?_
     refine ACode.ret ?_
     exact RetQ.one rfl rfl subA stays (fun hk => ⟨(by rw [schemaR, if_neg (by simp only [Bool.or_eq_false_iff, decide_eq_false_iff_not, beq_eq_false_iff_ne] at c0; omega), if_neg (by rw [any_end Wz hxL0]; decide), if_pos (any_hit (i := i1) (show i1 < cols.length by omega) c4)]), rfl, by omega⟩)
    ·try simp only [Cz] at c4
     refine ACode.skip ?_
     refine Rz [0, 1, 2] Kz rfl ?_
     refine Mz ?_
     refine Oz rfl rfl rfl (AOp.add rfl rfl rfl (i64_wrap Wz Wz) ?_)
     refine Nz ?_
     refine Ez ?_
     first | refine thenA_n ?_ | simp only [thenA, blockA, if_true]
     exact NextR.mk Wz Wz (.cons rfl .nil) Xz subA (any_step (i := i1) (l := cols) (show i1 < cols.length by omega) hxL1 c4)
   ·try simp only [Cz] at c3
    refine ACode.exit ?_
    refine Sz ?_
    refine Rz [0] Kz rfl ?_
    refine Nz ?_
    refine Ez ?_
    refine ACode.ret ?_
    exact RetQ.one rfl rfl subA stays (fun hk => ⟨(by rw [schemaR, if_neg (by simp only [Bool.or_eq_false_iff, decide_eq_false_iff_not, beq_eq_false_iff_ne] at c0; omega), if_neg (by rw [any_end Wz hxL0]; decide), if_neg (by rw [any_end Wz hxL1]; decide)]), rfl, by omega⟩)

theorem stands_val (a : Col) (v : Val) (hv : v.ok) : ACalls Tryz.prog NG 103 [cc a, vv v] H k (Same H k (.bool (stands a v))) := by
 refine ACalls.fresh fun hf => ?_
 refine ACalls.body Tryz.func103 rfl (Nat.le_of_ble_eq_true rfl) ?_
 refine Sz ?_
 refine Rz [0, 1, 2] Kz rfl ?_
 refine Oz rfl rfl rfl (AOp.boxV rfl rfl ?_)
 refine Oz rfl rfl rfl (AOp.boxV rfl rfl ?_)
 refine Nz ?_
 refine Ez ?_
 refine Sz ?_
 refine Sz ?_
 refine Rz [0] Kz rfl ?_
 refine Oz rfl rfl rfl ?_
 refine AOp.loadAll (b := ?b27) (v := ?v27) rfl rfl ?hn27 ?hv27 ?hw27 ?hz27 ?hR27
 (case hn27 => exact hpA)
 (case hv27 => rfl)
 (case hw27 => rfl)
 (case hz27 => first | rfl | (simp; done))
 refine Ez ?_
 refine ACode.block ?_
 refine Sz ?_
 refine Rz [0, 1, 2] Kz rfl ?_
 refine Oz rfl rfl rfl (AOp.buildS (cells := #[_, _, _]) rfl rfl rfl ?_)
 refine Oz rfl rfl rfl (AOp.eqAgg (valEq v ⟨0, 0, ⟨#[]⟩⟩) rfl rfl rfl (Val.sc hv) rfl (valEq_iff v ⟨0, 0, ⟨#[]⟩⟩) ?_)
 refine Nz ?_
 refine Ez ?_
 refine ACode.cond rfl (fun c0 => ?_) (fun c0 => ?_)
 ·try simp only [Cz] at c0
  refine Sz ?_
  refine Rz [0, 1, 2] Kz rfl ?_
  refine Fz ?_
  refine Oz rfl rfl rfl ?_
  refine AOp.load1 (b := ?b28) (v := ?v28) rfl rfl ?hn28 ?hv28 ?hR28
  (case hn28 => exact hpA)
  (case hv28 => rfl)
  refine Nz ?_
  refine Ez ?_
  refine ACode.ret ?_
  exact RetQ.one rfl rfl subA stays (fun hk => ⟨(by rw [stands, if_pos c0]), rfl, by omega⟩)
 ·try simp only [Cz] at c0
  refine Sz ?_
  refine Rz [0, 1, 2, 3, 4] Kz rfl ?_
  refine Fz ?_
  refine Oz rfl rfl rfl ?_
  refine AOp.load1 (b := ?b29) (v := ?v29) rfl rfl ?hn29 ?hv29 ?hR29
  (case hn29 => exact hpA)
  (case hv29 => rfl)
  refine Oz rfl rfl rfl (AOp.buildS (cells := #[_, _, _]) rfl rfl rfl ?_)
  refine Oz rfl rfl rfl (AOp.eqAgg (valEq v ⟨1, v.n, ⟨#[]⟩⟩) rfl rfl rfl (Val.sc hv) (Val.sc (a := ⟨1, v.n, ⟨#[]⟩⟩) ⟨rfl, hv.2.1, Nat.zero_le _⟩) (valEq_iff v ⟨1, v.n, ⟨#[]⟩⟩) ?_)
  refine Nz ?_
  refine Ez ?_
  refine ACode.cond rfl (fun c1 => ?_) (fun c1 => ?_)
  ·try simp only [Cz] at c1
   refine Sz ?_
   refine Rz [0, 1, 2, 3] Kz rfl ?_
   refine Fz ?_
   refine Oz rfl rfl rfl ?_
   refine AOp.load1 (b := ?b30) (v := ?v30) rfl rfl ?hn30 ?hv30 ?hR30
   (case hn30 => exact hpA)
   (case hv30 => rfl)
   refine Oz rfl rfl rfl (AOp.bin' rfl rfl rfl rfl ?_)
   refine Nz ?_
   refine Ez ?_
   refine ACode.ret ?_
   exact RetQ.one rfl rfl subA stays (fun hk => ⟨(by rw [stands, if_neg (by simp [c0]), if_pos c1]), rfl, by omega⟩)
  ·try simp only [Cz] at c1
   refine Sz ?_
   refine Rz [0, 1, 2, 3, 4] Kz rfl ?_
   refine Fz ?_
   refine Oz rfl rfl rfl ?_
   refine AOp.load1 (b := ?b31) (v := ?v31) rfl rfl ?hn31 ?hv31 ?hR31
   (case hn31 => exact hpA)
   (case hv31 => rfl)
   refine Oz rfl rfl rfl (AOp.buildS (cells := #[_, _, _]) rfl rfl rfl ?_)
   refine Oz rfl rfl rfl (AOp.eqAgg (valEq v ⟨2, 0, v.s⟩) rfl rfl rfl (Val.sc hv) (Val.sc (a := ⟨2, 0, v.s⟩) ⟨rfl, rfl, hv.2.2⟩) (valEq_iff v ⟨2, 0, v.s⟩) ?_)
   refine Nz ?_
   refine Ez ?_
   refine ACode.cond rfl (fun c2 => ?_) (fun c2 => ?_)
   ·try simp only [Cz] at c2
    refine Sz ?_
    refine Rz [0, 1, 2, 3] Kz rfl ?_
    refine Fz ?_
    refine Oz rfl rfl rfl ?_
    refine AOp.load1 (b := ?b32) (v := ?v32) rfl rfl ?hn32 ?hv32 ?hR32
    (case hn32 => exact hpA)
    (case hv32 => rfl)
    refine Oz rfl rfl rfl (AOp.bin' rfl rfl rfl rfl ?_)
    refine Nz ?_
    refine Ez ?_
    refine ACode.ret ?_
    exact RetQ.one rfl rfl subA stays (fun hk => ⟨(by rw [stands, if_neg (by simp [c0]), if_neg (by simp [c1]), if_pos c2]), rfl, by omega⟩)
   ·try simp only [Cz] at c2
    refine ACode.skip ?_
    refine Sz ?_
    refine Rz [0] Kz rfl ?_
    refine Nz ?_
    refine Ez ?_
    refine ACode.ret ?_
    exact RetQ.one rfl rfl subA stays (fun hk => ⟨(by rw [stands, if_neg (by simp [c0]), if_neg (by simp [c1]), if_neg (by simp [c2])]), rfl, by omega⟩)

theorem row_vals (cols : List Col) (vals : List Val) (A : Option Addr) (c : Nat) (hs : slcCells H 3 (.slice A cols.length c) = some (cols3 cols)) (B : Option Addr) (d : Nat) (hs2 : slcCells H 3 (.slice B vals.length d) = some (vals3 vals)) (hl : vals.length ≤ 9223372036854775807) (ho : ∀ v ∈ vals, v.ok) : ACalls Tryz.prog NG 101 [.slice A cols.length c, .slice B vals.length d] H k (Same H k (.int .i64 (rowI (fun c v => !stands c v) cols vals))) := by
 refine ACalls.fresh fun hf => ?_
 refine ACalls.body Tryz.func101 rfl (Nat.le_of_ble_eq_true rfl) ?_
 refine Sz ?_
 refine Rz [0] Kz rfl ?_
 refine Nz ?_
 refine Ez ?_
 refine Sz ?_
 refine Sz ?_
 refine Rz [0, 1, 2, 3, 4] Kz rfl ?_
 refine Mz ?_
 refine Oz rfl rfl rfl (AOp.len' rfl rfl ?_)
 refine Mz ?_
 refine Oz rfl rfl rfl (AOp.len' rfl rfl ?_)
 refine Oz rfl rfl rfl (AOp.bin' rfl rfl rfl rfl ?_)
 refine Ez ?_
 refine ACode.cond rfl (fun c0 => ?_) (fun c0 => ?_)
 ·try simp only [Cz] at c0
  refine Sz ?_
  refine Rz [0] Kz rfl ?_
  refine Nz ?_
  refine Ez ?_
  refine ACode.ret ?_
  exact RetQ.one rfl rfl subA stays (fun hk => ⟨(by rw [rowI, if_neg Wz]), rfl, by omega⟩)
 ·try simp only [Cz] at c0
  refine ACode.skip ?_
  refine Sz ?_
  refine Sz ?_
  refine Rz [0, 1, 2] Kz rfl ?_
  refine Mz ?_
  refine Oz rfl rfl rfl (AOp.len' rfl rfl ?_)
  refine Mz ?_
  refine Ez ?_
  refine ACode.block ?_
  refine ACode.count0 (fun i => [(14, .int .i64 (i : Int))]) [(0, _), (12, _), (13, _)] (vals.length) (fun i => rowAt (fun c v => !stands c v) cols vals = rowAt (fun c v => !stands c v) (cols.drop i) (vals.drop i)) (.cons rfl .nil) Xz rfl (fun i0 kL0 HL0 hiL0 hkL0 hsL0 hfL0 hxL0 => ?_)
  show ACode _ _ _ _ _ ⟨_, _, _⟩
  have tsL0 := SubS.of hsL0
  refine Sz ?_
  refine Rz [0] Kz rfl ?_
  refine Oz rfl rfl rfl (AOp.bin' rfl rfl rfl rfl ?_)
  refine Ez ?_
  refine Sz ?_
  refine ACode.cond rfl (fun c1 => ?_) (fun c1 => ?_)
  ·try simp only [Cz] at c1
   refine ACode.skip ?_
   refine Sz ?_
   refine ACode.block ?_
   refine Sz ?_
   obtain ⟨n5_1, o5_1, s5_1, hq5_1, hp5_1⟩ := slcEl hs2 (fun _ => rfl) Dz (show i0 < vals.length by omega)
   refine Rz [0, 1, 2, 3, 4, 5] Kz rfl ?_
   refine Mz ?_
   refine Oz rfl rfl rfl (AOp.indexP (aslcAt_sub subA hq5_1) rfl rfl rfl ?_)
   refine Oz rfl rfl rfl (AOp.loadPA (v := _) (hp5_1.sub subA) rfl rfl rfl rfl (by first | rfl | (simp; done)) Dz ?_)
   refine Oz rfl rfl rfl (AOp.alloc' rfl ?_)
   refine Nz ?_
   refine aOps_0 rfl rfl rfl ?_
   refine AOp.storeAll (b := ?b33) rfl rfl rfl ?hn33 ?hk33 rfl ?hw33 ?ho33 ?hl33 ?hR33
   (case hn33 => exact hpA)
   (case hk33 => rfl)
   (case hw33 => first | rfl | (simp; done))
   (case ho33 => first | rfl | decide | (simp; done))
   (case hl33 => first | rfl | (simp; done))
   refine Ez ?_
   refine ACode.block ?_
   refine Sz ?_
   have hv0 : i0 < vals.length := by omega
   have hv1 : i0 < cols.length := by omega
   obtain ⟨n6_2, o6_2, s6_2, hq6_2, hp6_2⟩ := slcEl hs (fun _ => rfl) Dz (show i0 < cols.length by omega)
   refine ACode.draw' 7 [(0, 20), (1, 21), (2, 22), (3, 23), (4, 24), (5, 25), (6, 26)] mixed Kz ?_
   refine Draw.step [(0, none)] rfl Kz rfl (fun kq hkq => AOp.move' (.inl rfl) rfl Vz) ?_
   refine Draw.step [(5, none)] rfl Kz rfl (fun kq hkq => AOp.move' (.inl rfl) rfl Vz) ?_
   refine Draw.step [(20, some 0), (21, some 1)] rfl Kz rfl (fun kq hkq => AOp.indexP (aslcAt_sub subA hq6_2) rfl rfl rfl Vz) ?_
   refine Draw.step [(22, some 2)] rfl Kz rfl (fun kq hkq => AOp.loadPA (v := _) (hp6_2.sub subA) rfl rfl rfl rfl (by first | rfl | (simp; done)) Dz Vz) ?_
   refine Draw.step [(6, none)] rfl Kz rfl (fun kq hkq => (by refine AOp.loadAll (b := ?b34) (v := ?v34) rfl rfl ?hn34 ?hv34 ?hw34 ?hz34 ?hR34; (case hn34 => exact hpA); (case hv34 => rfl); (case hw34 => rfl); (case hz34 => first | rfl | (simp; done)); exact Vz)) ?_
   refine Draw.step [(23, some 3), (24, some 4)] rfl Kz rfl (fun kq hkq => AOp.call' rfl rfl rfl (stands_val NG _ _ (List.get cols ⟨i0, hv1⟩) (List.get vals ⟨i0, hv0⟩) (ho _ (List.getElem_mem _))) Iz) ?_
   refine Draw.step [(25, some 5)] rfl Kz rfl (fun kq hkq => AOp.un' rfl rfl rfl Vz) ?_
   refine Draw.done fun kq hkq => ?_
   show aOps _ _ _ _ [7] ⟨_, _, _⟩
   refine Nz ?_
   refine Ez ?_
   refine ACode.cond rfl (fun c2 => ?_) (fun c2 => ?_)
   ·try simp only [Cz] at c2
    refine Sz ?_
    refine Rz [0] Kz rfl ?_
    refine Nz ?_
    refine Ez ?_
    refine ACode.ret ?_
    exact RetQ.one rfl rfl subA stays (fun hk => ⟨(by rw [rowI, if_pos Wz, hxL0, rowAt_step Wz Wz, if_pos (by show (!stands cols[i0] vals[i0]) = true; rw [show stands cols[i0] vals[i0] = false from c2]; rfl)]), rfl, by omega⟩)
   ·try simp only [Cz] at c2
    refine Sz ?_
    refine Rz [0, 1, 2, 3, 4] Kz rfl ?_
    refine Fz ?_
    refine Oz rfl rfl rfl ?_
    refine AOp.load1 (b := ?b35) (v := ?v35) rfl rfl ?hn35 ?hv35 ?hR35
    (case hn35 => exact hpA)
    (case hv35 => rfl)
    refine Oz rfl rfl rfl (AOp.lenStr' rfl rfl ?_)
    refine Oz rfl rfl rfl (AOp.bin' rfl rfl rfl rfl ?_)
    refine Nz ?_
    refine Ez ?_
    refine ACode.cond rfl (fun c3 => ?_) (fun c3 => ?_)
    ·try simp only [Cz] at c3
     refine Sz ?_
     refine Rz [0] Kz rfl ?_
     refine Nz ?_
     refine Ez ?_
     refine ACode.ret ?_
     exact RetQ.one rfl rfl subA stays (fun hk => ⟨(by rw [rowI, if_pos Wz, hxL0, rowAt_step Wz Wz, if_neg (by show ¬ (!stands cols[i0] vals[i0]) = true; rw [show stands cols[i0] vals[i0] = true from c2]; decide), if_pos Wz]), rfl, by omega⟩)
    ·try simp only [Cz] at c3
     refine ACode.skip ?_
     refine Rz [0, 1] Kz rfl ?_
     refine Oz rfl rfl rfl (AOp.add rfl rfl rfl (i64_wrap Wz Wz) ?_)
     refine Mz ?_
     refine Ez ?_
     first | refine thenA_n ?_ | simp only [thenA, blockA, if_true]
     exact NextR.mk Wz Wz (.cons rfl .nil) Xz subA (by rw [hxL0, rowAt_step Wz Wz, if_neg (by show ¬ (!stands cols[i0] vals[i0]) = true; rw [show stands cols[i0] vals[i0] = true from c2]; decide), if_neg Wz])
  ·try simp only [Cz] at c1
   refine ACode.exit ?_
   refine Sz ?_
   refine Rz [0] Kz rfl ?_
   refine Nz ?_
   refine Ez ?_
   refine ACode.ret ?_
   exact RetQ.one rfl rfl subA stays (fun hk => ⟨(by rw [rowI, if_pos Wz, hxL0, List.drop_eq_nil_of_le Wz, List.drop_eq_nil_of_le Wz]; rfl), rfl, by omega⟩)
end

end Go.Proofs.YteoofihjmldllaaGreatDoor
