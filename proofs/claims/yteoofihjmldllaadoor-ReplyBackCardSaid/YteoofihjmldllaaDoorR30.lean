/- Contracts over the abstract states: whether a zone is sound. -/
import Derived.Test.YteoofihjmldllaaDoorP5
import Derived.Test.YteoofihjmldllaaDoorAbG
set_option linter.unusedVariables false
set_option linter.unusedSimpArgs false
set_option maxRecDepth 100000
namespace Go.Proofs.YteoofihjmldllaaDoor
open Go Go.Ab

def rightP (kind : Int) (v : Val) : Bool := v.kind == kind && errV kind v == 0
def znEq (z : Zn) : Bool := !z.some && (valEq z.min vD && valEq z.max vD)
def Zn.ok (z : Zn) : Prop := (Lit.int .i64 z.nulls).wf = true ∧ z.min.ok ∧ z.max.ok
abbrev dsZ : List TypeDesc := [.int .i64, .bool, .int .i64, .int .i64, .string, .int .i64, .int .i64, .string]
theorem zn_sc {z : Zn} (h : z.ok) : (scals dsZ (zv z).cells.toList).isSome = true := by
 obtain ⟨h0, ⟨h1, h2, h3⟩, ⟨h4, h5, h6⟩⟩ := h
 have h3 : z.min.s.size ≤ maxLen := Nat.le_trans h3 Dz
 have h6 : z.max.s.size ≤ maxLen := Nat.le_trans h6 Dz
 show (scals dsZ (znc z)).isSome = true
 simp [scals, scal, h0, h1, h2, h3, h4, h5, h6]
theorem zn_iff (z : Zn) : znEq z = true ↔ (zv z).cells = (zv ⟨z.nulls, false, vD, vD⟩).cells := by
 have h1 := valEq_iff z.min vD
 have h2 := valEq_iff z.max vD
 show znEq z = true ↔ (#[Value.int .i64 z.nulls, .bool z.some, .int .i64 z.min.kind, .int .i64 z.min.n, .string z.min.s, .int .i64 z.max.kind, .int .i64 z.max.n, .string z.max.s] : Array Value) = #[.int .i64 z.nulls, .bool false, .int .i64 vD.kind, .int .i64 vD.n, .string vD.s, .int .i64 vD.kind, .int .i64 vD.n, .string vD.s]
 unfold znEq
 rw [Bool.and_eq_true, Bool.and_eq_true, h1, h2]
 simp [and_assoc]
def soundP (z : Zn) (rows kind : Int) : Bool :=
 if ((decide (z.nulls < 0) || decide (z.nulls > rows)) || !(z.some == decide (z.nulls < rows))) = true then false else if z.some = true then
  ((((kind == 1 || kind == 2) && rightP kind z.min) && rightP kind z.max) && decide (cmpV z.min z.max ≤ 0)) else znEq z
abbrev kblk1 (kind : Int) : Blk := { cells := [.int .i64 kind], elem := 3, kind := .fix }
abbrev sblk1 (q : Nat) : Blk := { cells := [.slice (some ⟨q, 0, some 1⟩) 1 1], elem := 41, kind := .fix }
abbrev cblk1 (kind : Int) : Blk := { cells := cols3 [⟨kind, false, 0⟩], elem := 121, kind := .grow, esz := 3 }

def soundR (z : Zn) (rows kind : Int) : Bool :=
 if ((decide (z.nulls < 0) || decide (z.nulls > rows)) || !(z.some == decide (z.nulls < rows))) = true then false else if z.some = true then
  (((((((kind == 1 || kind == 2) && z.min.kind == kind) && z.max.kind == kind) && right z.min kind) && right z.max kind) && decide ((z.min.s.size : Int) ≤ 65536)) && decide ((z.max.s.size : Int) ≤ 65536)) && decide (cmpV z.min z.max ≤ 0) else (valEq z.min vD && valEq z.max vD)
section
variable (H : Hp) (k : Nat)

theorem sound1T_b (v : Val) (hv : v.ok) (kind : Int) (hkd : (v.kind == kind) = true) (q1 q2 q3 : Nat) (hq1 : H q1 = some (kblk1 kind)) (hq2 : H q2 = some (sblk1 q3)) (hq3 : H q3 = some (cblk1 kind)) : ACalls Tryd.prog 3 146 [vv v, .pointer (some ⟨q1, 0, none⟩), .pointer (some ⟨q2, 0, none⟩)] H k (Same H k (.bool (rightP kind v))) := by
 refine ACalls.fresh fun hf => ?_
 refine ACalls.body Tryd.func146 rfl (Nat.le_of_ble_eq_true rfl) ?_
 have h1k := old_lt hf hq1
 have h2k := old_lt hf hq2
 have h3k := old_lt hf hq3
 refine Sz ?_
 refine Rz [0, 1] Kz rfl ?_
 refine Oz rfl rfl rfl (AOp.boxV rfl rfl ?_)
 refine Nz ?_
 refine Ez (Sz (Rz [0, 1, 2, 3, 4, 5, 6, 7, 8, 9, 10, 11] Kz rfl ?_))
 refine Fz ?_
 refine Oz rfl rfl rfl ?_
 refine AOp.load1 (b := ?b1) (v := ?v1) rfl rfl ?hn1 ?hv1 ?hR1
 (case hn1 => exact hpA)
 (case hv1 => rfl)
 refine Oz rfl rfl rfl ?_
 refine AOp.load1 (b := ?b2) (v := ?v2) rfl rfl ?hn2 ?hv2 ?hR2
 (case hn2 => exact hpA)
 (case hv2 => rfl)
 refine Oz rfl rfl rfl (AOp.bin' rfl rfl rfl rfl ?_)
 rw [hkd]
 refine Mz ?_
 refine aOps_w rfl rfl rfl ?_
 refine AOp.load1 (b := ?b3) (v := ?v3) rfl rfl ?hn3 ?hv3 ?hR3
 (case hn3 => exact hpA)
 (case hv3 => rfl)
 refine aOps_w rfl rfl rfl ?_
 refine AOp.loadAll (b := ?b4) (v := vv v) rfl rfl ?hn4 ?hv4 ?hw4 ?hz4 ?hR4
 (case hn4 => exact hpA)
 (case hv4 => rfl)
 (case hw4 => rfl)
 (case hz4 => first | rfl | (simp; done))
 refine aOps_w rfl rfl rfl (AOp.buildH (vals3 [v]) rfl rfl (by show 0 < 3; decide) (by show 3 ≤ 16777216; decide) rfl rfl ?_)
 refine aOps_wq rfl rfl rfl (AOp.call' rfl rfl rfl (row_vals 3 _ _ [⟨kind, false, 0⟩] [v] (some ⟨q3, 0, some 1⟩) 1 (slcCells_grow (n := q3) (b := cblk1 kind) hpA rfl rfl) (some ⟨_, 0, some 1⟩) 1 (slcCells_grow (n := _) (b := { cells := vals3 [v], elem := 59, kind := .grow, esz := 3 }) hpA rfl rfl) (by show 1 ≤ 9223372036854775807; decide) (by intro u hu; rw [List.mem_singleton.1 hu]; exact hv)) Iz) (fun kq hkq => ?_)
 refine aOps_w rfl rfl rfl (AOp.bin' rfl rfl rfl rfl ?_)
 refine Oz rfl rfl rfl (AOp.pickB rfl rfl rfl ?_)
 refine Nz ?_
 refine Ez ?_
 refine ACode.ret ?_
 exact RetQ.one rfl rfl subA stays (fun hk => ⟨(by rw [rightP, hkd]; rfl), rfl, by omega⟩)

theorem sound1F_b (v : Val) (hv : v.ok) (kind : Int) (hkd : (v.kind == kind) = false) (q1 q2 q3 : Nat) (hq1 : H q1 = some (kblk1 kind)) (hq2 : H q2 = some (sblk1 q3)) (hq3 : H q3 = some (cblk1 kind)) : ACalls Tryd.prog 3 146 [vv v, .pointer (some ⟨q1, 0, none⟩), .pointer (some ⟨q2, 0, none⟩)] H k (Same H k (.bool (rightP kind v))) := by
 refine ACalls.fresh fun hf => ?_
 refine ACalls.body Tryd.func146 rfl (Nat.le_of_ble_eq_true rfl) ?_
 have h1k := old_lt hf hq1
 have h2k := old_lt hf hq2
 have h3k := old_lt hf hq3
 refine Sz ?_
 refine Rz [0, 1] Kz rfl ?_
 refine Oz rfl rfl rfl (AOp.boxV rfl rfl ?_)
 refine Nz ?_
 refine Ez (Sz (Rz [0, 1, 2, 3, 4, 5, 6, 7, 8, 9, 10, 11] Kz rfl ?_))
 refine Fz ?_
 refine Oz rfl rfl rfl ?_
 refine AOp.load1 (b := ?b5) (v := ?v5) rfl rfl ?hn5 ?hv5 ?hR5
 (case hn5 => exact hpA)
 (case hv5 => rfl)
 refine Oz rfl rfl rfl ?_
 refine AOp.load1 (b := ?b6) (v := ?v6) rfl rfl ?hn6 ?hv6 ?hR6
 (case hn6 => exact hpA)
 (case hv6 => rfl)
 refine Oz rfl rfl rfl (AOp.bin' rfl rfl rfl rfl ?_)
 rw [hkd]
 refine Mz ?_
 refine aOps_wno rfl rfl rfl ?_
 refine aOps_wno rfl rfl rfl ?_
 refine aOps_wno rfl rfl rfl ?_
 refine aOps_wno rfl rfl rfl ?_
 refine aOps_wno rfl rfl rfl ?_
 refine Oz rfl rfl rfl (AOp.pickB rfl rfl rfl ?_)
 refine Nz ?_
 refine Ez ?_
 refine ACode.ret ?_
 exact RetQ.one rfl rfl subA stays (fun hk => ⟨(by rw [rightP, hkd]; rfl), rfl, by omega⟩)

theorem sound1_b (v : Val) (hv : v.ok) (kind : Int) (q1 q2 q3 : Nat) (hq1 : H q1 = some (kblk1 kind)) (hq2 : H q2 = some (sblk1 q3)) (hq3 : H q3 = some (cblk1 kind)) : ACalls Tryd.prog 3 146 [vv v, .pointer (some ⟨q1, 0, none⟩), .pointer (some ⟨q2, 0, none⟩)] H k (Same H k (.bool (rightP kind v))) := by
 cases hk : (v.kind == kind) with
 | true => exact sound1T_b H k v hv kind hk q1 q2 q3 hq1 hq2 hq3
 | false => exact sound1F_b H k v hv kind hk q1 q2 q3 hq1 hq2 hq3

theorem Sound_b (z : Zn) (hz : z.ok) (rows kind : Int) : ACalls Tryd.prog 3 140 [zv z, .int .i64 rows, .int .i64 kind] H k (Same H k (.bool (soundP z rows kind))) := by
 refine ACalls.fresh fun hf => ?_
 refine ACalls.body Tryd.func140 rfl (Nat.le_of_ble_eq_true rfl) ?_
 refine Sz ?_
 refine Rz [0, 1, 2] Kz rfl ?_
 refine Oz rfl rfl rfl (AOp.boxV rfl rfl ?_)
 refine Oz rfl rfl rfl (AOp.boxV rfl rfl ?_)
 refine Nz ?_
 refine Ez ?_
 refine Sz ?_
 refine ACode.block ?_
 refine Sz ?_
 refine Rz [0, 1, 2, 3, 4, 5, 6, 7, 8, 9, 10, 11, 12, 13, 14, 15, 16, 17, 18] Kz rfl ?_
 refine Fz ?_
 refine Oz rfl rfl rfl ?_
 refine AOp.load1 (b := ?b7) (v := ?v7) rfl rfl ?hn7 ?hv7 ?hR7
 (case hn7 => exact hpA)
 (case hv7 => rfl)
 refine Oz rfl rfl rfl (AOp.bin' rfl rfl rfl rfl ?_)
 refine Mz ?_
 refine aOps_gd0 rfl rfl (wantF rfl rfl rfl) (fun hc => AOp.slots [(3, _)] (.cons rfl .nil) (AOp.fieldAddr' rfl Dz rfl Tz)) ?_
 refine aOps_gd0 rfl rfl (wantF rfl rfl rfl) (fun hc => AOp.slots [(14, _)] (.cons (gvT rfl hc) .nil) ((by refine AOp.load1 (b := ?b8) (v := ?v8) rfl rfl ?hn8 ?hv8 ?hR8; (case hn8 => exact hpA); (case hv8 => rfl); exact Tz))) ?_
 refine aOps_gd0 rfl rfl (wantF rfl rfl rfl) (fun hc => AOp.slots [(1, _)] (.cons rfl .nil) (AOp.move' (.inl rfl) rfl Tz)) ?_
 refine aOps_gd0 rfl rfl (wantF rfl rfl rfl) (fun hc => AOp.slots [(15, _), (16, _)] (.cons (gvT rfl hc) (.cons (gvT rfl hc) .nil)) (AOp.bin' rfl rfl rfl rfl Tz)) ?_
 refine Oz rfl rfl rfl (AOp.pickOr rfl rfl rfl (fun hb => gvE rfl (t_not hb)) ?_)
 refine Mz ?_
 refine aOps_gd0 rfl rfl (wantF rfl rfl rfl) (fun hc => AOp.slots [(3, _)] (.cons rfl .nil) (AOp.fieldAddr' rfl Dz rfl Tz)) ?_
 refine aOps_gd0 rfl rfl (wantF rfl rfl rfl) (fun hc => AOp.slots [(20, _)] (.cons (gvT rfl hc) .nil) ((by refine AOp.load1 (b := ?b9) (v := ?v9) rfl rfl ?hn9 ?hv9 ?hR9; (case hn9 => exact hpA); (case hv9 => rfl); exact Tz))) ?_
 refine aOps_gd0 rfl rfl (wantF rfl rfl rfl) (fun hc => AOp.slots [(3, _)] (.cons rfl .nil) (AOp.fieldAddr' rfl Dz rfl Tz)) ?_
 refine aOps_gd0 rfl rfl (wantF rfl rfl rfl) (fun hc => AOp.slots [(22, _)] (.cons (gvT rfl hc) .nil) ((by refine AOp.load1 (b := ?b10) (v := ?v10) rfl rfl ?hn10 ?hv10 ?hR10; (case hn10 => exact hpA); (case hv10 => rfl); exact Tz))) ?_
 refine aOps_gd0 rfl rfl (wantF rfl rfl rfl) (fun hc => AOp.slots [(1, _)] (.cons rfl .nil) (AOp.move' (.inl rfl) rfl Tz)) ?_
 refine aOps_gd0 rfl rfl (wantF rfl rfl rfl) (fun hc => AOp.slots [(23, _), (24, _)] (.cons (gvT rfl hc) (.cons (gvT rfl hc) .nil)) (AOp.bin' rfl rfl rfl rfl Tz)) ?_
 refine aOps_gd0 rfl rfl (wantF rfl rfl rfl) (fun hc => AOp.slots [(21, _), (25, _)] (.cons (gvT rfl hc) (.cons (gvT rfl hc) .nil)) (AOp.neBool rfl rfl rfl Tz)) ?_
 refine Oz rfl rfl rfl (AOp.pickOr rfl rfl rfl (fun hb => gvE rfl (t_not hb)) ?_)
 refine Nz ?_
 refine Ez ?_
 refine ACode.cond rfl (fun c0 => ?_) (fun c0 => ?_)
 ·skip
  refine Sz ?_
  refine Rz [0] Kz rfl ?_
  refine Nz ?_
  refine Ez ?_
  refine ACode.ret ?_
  exact RetQ.one rfl rfl subA stays (fun hk => ⟨(by rw [soundP, if_pos c0]), rfl, by omega⟩)
 ·skip
  have hn0 : ¬ ((decide (z.nulls < 0) || decide (z.nulls > rows)) || !(z.some == decide (z.nulls < rows))) = true := by rw [c0]; decide
  refine Sz ?_
  refine Rz [0, 1, 2, 3] Kz rfl ?_
  refine Fz ?_
  refine Oz rfl rfl rfl ?_
  refine AOp.load1 (b := ?b11) (v := ?v11) rfl rfl ?hn11 ?hv11 ?hR11
  (case hn11 => exact hpA)
  (case hv11 => rfl)
  refine Oz rfl rfl rfl (AOp.un' rfl rfl rfl ?_)
  refine Nz ?_
  refine Ez ?_
  refine ACode.cond rfl (fun c1 => ?_) (fun c1 => ?_)
  ·try simp only [Cz] at c1
   refine Sz ?_
   refine Rz [0, 1, 2, 3, 4, 5] Kz rfl ?_
   refine Oz rfl rfl rfl ?_
   refine AOp.loadAll (b := ?b12) (v := zv z) rfl rfl ?hn12 ?hv12 ?hw12 ?hz12 ?hR12
   (case hn12 => exact hpA)
   (case hv12 => rfl)
   (case hw12 => rfl)
   (case hz12 => first | rfl | (simp; done))
   refine Fz ?_
   refine Oz rfl rfl rfl ?_
   refine AOp.load1 (b := ?b13) (v := ?v13) rfl rfl ?hn13 ?hv13 ?hR13
   (case hn13 => exact hpA)
   (case hv13 => rfl)
   refine Oz rfl rfl rfl (AOp.buildS (cells := (zv ⟨z.nulls, false, vD, vD⟩).cells) rfl rfl rfl ?_)
   refine Oz rfl rfl rfl (AOp.eqAgg (znEq z) rfl rfl rfl (zn_sc hz) (zn_sc (z := ⟨z.nulls, false, vD, vD⟩) ⟨hz.1, vD_ok, vD_ok⟩) (zn_iff z) ?_)
   refine Nz ?_
   refine Ez ?_
   refine ACode.ret ?_
   exact RetQ.one rfl rfl subA stays (fun hk => ⟨(by rw [soundP, if_neg hn0, if_neg (by simp [c1])]), rfl, by omega⟩)
  ·try simp only [Cz] at c1
   refine ACode.skip ?_
   refine Sz ?_
   refine Rz [0, 1, 2, 3, 4] Kz rfl ?_
   refine Oz rfl rfl rfl ?_
   refine AOp.load1 (b := ?b14) (v := ?v14) rfl rfl ?hn14 ?hv14 ?hR14
   (case hn14 => exact hpA)
   (case hv14 => rfl)
   refine Oz rfl rfl rfl (AOp.buildS (cells := #[.int .i64 kind, .bool false, .int .i64 0]) rfl rfl rfl ?_)
   refine Oz rfl rfl rfl (AOp.buildH (cols3 [⟨kind, false, 0⟩]) rfl rfl (by show 0 < 3; decide) (by show 3 ≤ 16777216; decide) rfl rfl ?_)
   refine Oz rfl rfl rfl (AOp.alloc' rfl ?_)
   refine aOps_0 rfl rfl rfl ?_
   refine AOp.store1 (b := ?b15) rfl rfl rfl ?hn15 ?hk15 rfl rfl ?hl15 ?hR15
   (case hn15 => exact hpA)
   (case hk15 => rfl)
   (case hl15 => first | (simp; done) | exact Nat.le_of_ble_eq_true rfl)
   refine Ez (Sz (Rz [0, 1] Kz rfl ?_))
   refine Oz rfl rfl rfl (AOp.makeFunc' rfl rfl ?_)
   refine Nz ?_
   refine Ez (Sz (Rz [0, 1, 2, 3, 4, 5, 6, 7, 8, 9, 10, 11, 12, 13, 14, 15, 16, 17, 18, 19, 20, 21, 22, 23, 24, 25, 26] Kz rfl ?_))
   refine Oz rfl rfl rfl ?_
   refine AOp.load1 (b := ?b16) (v := ?v16) rfl rfl ?hn16 ?hv16 ?hR16
   (case hn16 => exact hpA)
   (case hv16 => rfl)
   refine Oz rfl rfl rfl (AOp.bin' rfl rfl rfl rfl ?_)
   refine Mz ?_
   refine aOps_gd0 rfl rfl (wantF rfl rfl rfl) (fun hc => AOp.slots [(5, _)] (.cons rfl .nil) ((by refine AOp.load1 (b := ?b17) (v := ?v17) rfl rfl ?hn17 ?hv17 ?hR17; (case hn17 => exact hpA); (case hv17 => rfl); exact Tz))) ?_
   refine aOps_gd0 rfl rfl (wantF rfl rfl rfl) (fun hc => AOp.slots [(44, _)] (.cons (gvT rfl hc) .nil) (AOp.bin' rfl rfl rfl rfl Tz)) ?_
   refine Oz rfl rfl rfl (AOp.pickOr rfl rfl rfl (fun hb => gvE rfl (t_not hb)) ?_)
   refine Mz ?_
   refine aOps_gd0 rfl rfl (wantT rfl rfl rfl) (fun hc => AOp.slots [(8, _)] (.cons rfl .nil) (AOp.move' (.inl rfl) rfl Tz)) ?_
   refine aOps_gd0 rfl rfl (wantT rfl rfl rfl) (fun hc => AOp.slots [(3, _)] (.cons rfl .nil) (AOp.fieldAddr' rfl Dz rfl Tz)) ?_
   refine aOps_gd0 rfl rfl (wantT rfl rfl rfl) (fun hc => AOp.slots [(49, _)] (.cons (gvT rfl hc) .nil) (AOp.loadN (b := zblk z) (cs := [.int .i64 z.min.kind, .int .i64 z.min.n, .string z.min.s]) rfl rfl hpA (by show 2 + 3 ≤ 8; decide) rfl Tz)) ?_
   refine aOps_gd rfl rfl (wantT rfl rfl rfl) (fun hc => AOp.slots [(48, _), (50, _)] (.cons (gvT rfl hc) (.cons (gvT rfl hc) .nil)) (AOp.call' rfl rfl rfl (sound1_b _ _ z.min hz.2.1 kind (k + 1) (k + 2 + 1) (k + 2) hpA hpA hpA) Iz)) (fun kq hkq => ?_)
   refine Oz rfl rfl rfl (AOp.pickAnd rfl rfl rfl (fun hb => gvE rfl hb) ?_)
   refine Mz ?_
   refine aOps_gd0 rfl rfl (wantT rfl rfl rfl) (fun hc => AOp.slots [(8, _)] (.cons rfl .nil) (AOp.move' (.inl rfl) rfl Tz)) ?_
   refine aOps_gd0 rfl rfl (wantT rfl rfl rfl) (fun hc => AOp.slots [(3, _)] (.cons rfl .nil) (AOp.fieldAddr' rfl Dz rfl Tz)) ?_
   refine aOps_gd0 rfl rfl (wantT rfl rfl rfl) (fun hc => AOp.slots [(55, _)] (.cons (gvT rfl hc) .nil) (AOp.loadN (b := zblk z) (cs := [.int .i64 z.max.kind, .int .i64 z.max.n, .string z.max.s]) rfl rfl hpA (by show 5 + 3 ≤ 8; decide) rfl Tz)) ?_
   refine aOps_gd rfl rfl (wantT rfl rfl rfl) (fun hc => AOp.slots [(54, _), (56, _)] (.cons (gvT rfl hc) (.cons (gvT rfl hc) .nil)) (AOp.call' rfl rfl rfl (sound1_b _ _ z.max hz.2.2 kind (k + 1) (k + 2 + 1) (k + 2) hpA hpA hpA) Iz)) (fun kq hkq => ?_)
   refine Oz rfl rfl rfl (AOp.pickAnd rfl rfl rfl (fun hb => gvE rfl hb) ?_)
   refine Mz ?_
   refine aOps_gd0 rfl rfl (wantT rfl rfl rfl) (fun hc => AOp.slots [(3, _)] (.cons rfl .nil) (AOp.fieldAddr' rfl Dz rfl Tz)) ?_
   refine aOps_gd0 rfl rfl (wantT rfl rfl rfl) (fun hc => AOp.slots [(60, _)] (.cons (gvT rfl hc) .nil) (AOp.loadN (b := zblk z) (cs := [.int .i64 z.min.kind, .int .i64 z.min.n, .string z.min.s]) rfl rfl hpA (by show 2 + 3 ≤ 8; decide) rfl Tz)) ?_
   refine aOps_gd0 rfl rfl (wantT rfl rfl rfl) (fun hc => AOp.slots [(3, _)] (.cons rfl .nil) (AOp.fieldAddr' rfl Dz rfl Tz)) ?_
   refine aOps_gd0 rfl rfl (wantT rfl rfl rfl) (fun hc => AOp.slots [(62, _)] (.cons (gvT rfl hc) .nil) (AOp.loadN (b := zblk z) (cs := [.int .i64 z.max.kind, .int .i64 z.max.n, .string z.max.s]) rfl rfl hpA (by show 5 + 3 ≤ 8; decide) rfl Tz)) ?_
   refine aOps_gd rfl rfl (wantT rfl rfl rfl) (fun hc => AOp.slots [(61, _), (63, _)] (.cons (gvT rfl hc) (.cons (gvT rfl hc) .nil)) (AOp.call' rfl rfl rfl (cmp_val 3 _ _ z.min z.max) Iz)) (fun kq hkq => ?_)
   refine aOps_gd0 rfl rfl (wantT rfl rfl rfl) (fun hc => AOp.slots [(64, _)] (.cons (gvT rfl hc) .nil) (AOp.bin' rfl rfl rfl rfl Tz)) ?_
   refine Oz rfl rfl rfl (AOp.pickAnd rfl rfl rfl (fun hb => gvE rfl hb) ?_)
   refine Nz ?_
   refine Ez ?_
   refine ACode.ret ?_
   exact RetQ.one rfl rfl subA stays (fun hk => ⟨(by rw [soundP, if_neg hn0, if_pos c1]), rfl, by omega⟩)
end

end Go.Proofs.YteoofihjmldllaaDoor
