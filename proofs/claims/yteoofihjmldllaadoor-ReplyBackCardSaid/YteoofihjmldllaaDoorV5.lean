/- Contracts over the abstract states: what is wrong with a schema and a row; ValueChecks. -/
import Derived.Test.YteoofihjmldllaaDoorV1
import Derived.Test.YteoofihjmldllaaDoorV4
set_option linter.unusedVariables false
set_option linter.unusedSimpArgs false
set_option maxRecDepth 100000
namespace Go.Proofs.YteoofihjmldllaaDoor
open Go Go.Ab

section
variable (NG : Nat) (H : Hp) (k : Nat)
abbrev cols3 (l : List Col) : List Value := l.flatMap fun c => (cc c).cells.toList
abbrev vals3 (l : List Val) : List Value := l.flatMap fun a => (vv a).cells.toList

theorem way_col (a : Col) : ACalls Tryd.prog NG 134 [cc a] H k (Same H k (.bool (wayB a))) := by
 refine ACalls.fresh fun hf => ?_
 refine ACalls.body Tryd.func134 rfl (Nat.le_of_ble_eq_true rfl) ?_
 refine Sz ?_
 refine Rz [0, 1] Kz rfl ?_
 refine Oz rfl rfl rfl (AOp.boxV rfl rfl ?_)
 refine Nz ?_
 refine Ez ?_
 refine Sz ?_
 refine Sz ?_
 refine Rz [0, 1, 2] Kz rfl ?_
 refine Fz ?_
 refine Oz rfl rfl rfl ?_
 refine AOp.load1 (b := ?b1) (v := ?v1) rfl rfl ?hn1 ?hv1 ?hR1
 (case hn1 => exact hpA)
 (case hv1 => rfl)
 refine Oz rfl rfl rfl (AOp.bin' rfl rfl rfl rfl ?_)
 refine Ez ?_
 refine ACode.cond rfl (fun c0 => ?_) (fun c0 => ?_)
 ·try simp only [Cz] at c0
  refine Sz ?_
  refine Rz [0, 1, 2, 3, 4, 5, 6, 7, 8] Kz rfl ?_
  refine Fz ?_
  refine Oz rfl rfl rfl ?_
  refine AOp.load1 (b := ?b2) (v := ?v2) rfl rfl ?hn2 ?hv2 ?hR2
  (case hn2 => exact hpA)
  (case hv2 => rfl)
  refine Oz rfl rfl rfl (AOp.bin' rfl rfl rfl rfl ?_)
  refine Mz ?_
  refine aOps_gd0 rfl rfl (wantF rfl rfl rfl) (fun hc => AOp.slots [(1, _)] (.cons rfl .nil) (AOp.fieldAddr' rfl Dz rfl Tz)) ?_
  refine aOps_gd0 rfl rfl (wantF rfl rfl rfl) (fun hc => AOp.slots [(10, _)] (.cons (gvT rfl hc) .nil) ((by refine AOp.load1 (b := ?b3) (v := ?v3) rfl rfl ?hn3 ?hv3 ?hR3; (case hn3 => exact hpA); (case hv3 => rfl); exact Tz))) ?_
  refine aOps_gd0 rfl rfl (wantF rfl rfl rfl) (fun hc => AOp.slots [(11, _)] (.cons (gvT rfl hc) .nil) (AOp.bin' rfl rfl rfl rfl Tz)) ?_
  refine Oz rfl rfl rfl (AOp.pickOr rfl rfl rfl (fun hb => gvE rfl (t_not hb)) ?_)
  refine Nz ?_
  refine Ez ?_
  refine ACode.ret ?_
  exact RetQ.one rfl rfl subA stays (fun hk => ⟨(by rw [wayB, if_pos c0]), rfl, by omega⟩)
 ·try simp only [Cz] at c0
  refine ACode.skip ?_
  refine Sz ?_
  refine Rz [0, 1, 2, 3, 4, 5, 6, 7, 8] Kz rfl ?_
  refine Fz ?_
  refine Oz rfl rfl rfl ?_
  refine AOp.load1 (b := ?b4) (v := ?v4) rfl rfl ?hn4 ?hv4 ?hR4
  (case hn4 => exact hpA)
  (case hv4 => rfl)
  refine Oz rfl rfl rfl (AOp.bin' rfl rfl rfl rfl ?_)
  refine Mz ?_
  refine aOps_gd0 rfl rfl (wantT rfl rfl rfl) (fun hc => AOp.slots [(1, _)] (.cons rfl .nil) (AOp.fieldAddr' rfl Dz rfl Tz)) ?_
  refine aOps_gd0 rfl rfl (wantT rfl rfl rfl) (fun hc => AOp.slots [(18, _)] (.cons (gvT rfl hc) .nil) ((by refine AOp.load1 (b := ?b5) (v := ?v5) rfl rfl ?hn5 ?hv5 ?hR5; (case hn5 => exact hpA); (case hv5 => rfl); exact Tz))) ?_
  refine aOps_gd0 rfl rfl (wantT rfl rfl rfl) (fun hc => AOp.slots [(19, _)] (.cons (gvT rfl hc) .nil) (AOp.bin' rfl rfl rfl rfl Tz)) ?_
  refine Oz rfl rfl rfl (AOp.pickAnd rfl rfl rfl (fun hb => gvE rfl hb) ?_)
  refine Nz ?_
  refine Ez ?_
  refine ACode.ret ?_
  exact RetQ.one rfl rfl subA stays (fun hk => ⟨(by rw [wayB, if_neg c0]), rfl, by omega⟩)

theorem schema_cols (cols : List Col) (A : Option Addr) (c : Nat) (hs : slcCells H 3 (.slice A cols.length c) = some (cols3 cols)) (hl : cols.length ≤ 9223372036854775807) : ACalls Tryd.prog NG 102 [.slice A cols.length c] H k (Same H k (.int .i64 (schemaI cols))) := by
 refine ACalls.fresh fun hf => ?_
 refine ACalls.body Tryd.func102 rfl (Nat.le_of_ble_eq_true rfl) ?_
 refine Sz ?_
 refine Rz [0] Kz rfl ?_
 refine Nz ?_
 refine Ez ?_
 refine Sz ?_
 refine Sz ?_
 refine Rz [0, 1, 2, 3, 4, 5, 6, 7] Kz rfl ?_
 refine Mz ?_
 refine Oz rfl rfl rfl (AOp.len' rfl rfl ?_)
 refine Oz rfl rfl rfl (AOp.bin' rfl rfl rfl rfl ?_)
 refine Mz ?_
 refine aOps_gd0 rfl rfl (wantF rfl rfl rfl) (fun hc => AOp.slots [(0, _)] (.cons rfl .nil) (AOp.move' (.inl rfl) rfl Tz)) ?_
 refine aOps_gd0 rfl rfl (wantF rfl rfl rfl) (fun hc => AOp.slots [(11, _)] (.cons (gvT rfl hc) .nil) (AOp.len' rfl rfl Tz)) ?_
 refine aOps_gd0 rfl rfl (wantF rfl rfl rfl) (fun hc => AOp.slots [(12, _)] (.cons (gvT rfl hc) .nil) (AOp.bin' rfl rfl rfl rfl Tz)) ?_
 refine Oz rfl rfl rfl (AOp.pickOr rfl rfl rfl (fun hb => gvE rfl (t_not hb)) ?_)
 refine Ez ?_
 refine ACode.cond rfl (fun c0 => ?_) (fun c0 => ?_)
 ·try simp only [Cz] at c0
  refine Sz ?_
  refine Rz [0] Kz rfl ?_
  refine Nz ?_
  refine Ez ?_
  refine ACode.ret ?_
  exact RetQ.one rfl rfl subA stays (fun hk => ⟨(by rw [schemaI, if_pos (by simp only [Bool.or_eq_true, decide_eq_true_eq, beq_iff_eq] at c0; omega)]), rfl, by omega⟩)
 ·try simp only [Cz] at c0
  refine ACode.skip ?_
  refine Sz ?_
  refine Sz ?_
  refine Rz [0, 1, 2] Kz rfl ?_
  refine Mz ?_
  refine Oz rfl rfl rfl (AOp.len' rfl rfl ?_)
  refine Mz ?_
  refine Ez ?_
  refine ACode.block ?_
  refine ACode.count0 (fun i => [(17, .int .i64 (i : Int))]) [(0, _), (15, _), (16, _)] (cols.length) (fun i => (cols.take i).any badKind = false) (.cons rfl .nil) Xz rfl (fun i0 kL0 HL0 hiL0 hkL0 hsL0 hfL0 hxL0 => ?_)
  show ACode _ _ _ _ _ ⟨_, _, _⟩
  have tsL0 := SubS.of hsL0
  refine Sz ?_
  refine Rz [0] Kz rfl ?_
  refine Oz rfl rfl rfl (AOp.bin' rfl rfl rfl rfl ?_)
  refine Ez ?_
  refine Sz ?_
  refine ACode.cond rfl (fun c1 => ?_) (fun c1 => ?_)
  ·try simp only [Cz] at c1
   refine ACode.skip ?_
   refine Sz ?_
   refine ACode.block ?_
   refine Sz ?_
   obtain ⟨n5_0, o5_0, s5_0, hq5_0, hp5_0⟩ := slcEl hs (fun _ => rfl) Dz (show i0 < cols.length by omega)
   refine Rz [0, 1, 2, 3] Kz rfl ?_
   refine Oz rfl rfl rfl (AOp.indexP (aslcAt_sub subA hq5_0) rfl rfl rfl ?_)
   refine Oz rfl rfl rfl (AOp.loadPA (v := _) (hp5_0.sub subA) rfl rfl rfl rfl (by first | rfl | (simp; done)) Dz ?_)
   refine Oz rfl rfl rfl (AOp.alloc' rfl ?_)
   refine aOps_0 rfl rfl rfl ?_
   refine AOp.storeAll (b := ?b6) rfl rfl rfl ?hn6 ?hk6 rfl ?hw6 ?ho6 ?hl6 ?hR6
   (case hn6 => exact hpA)
   (case hk6 => rfl)
   (case hw6 => first | rfl | (simp; done))
   (case ho6 => first | rfl | decide | (simp; done))
   (case hl6 => first | rfl | (simp; done))
   refine Ez (Sz (Rz [0, 1, 2, 3, 4, 5, 6, 7] Kz rfl ?_))
   refine Fz ?_
   refine Oz rfl rfl rfl ?_
   refine AOp.load1 (b := ?b7) (v := ?v7) rfl rfl ?hn7 ?hv7 ?hR7
   (case hn7 => exact hpA)
   (case hv7 => rfl)
   refine Oz rfl rfl rfl (AOp.bin' rfl rfl rfl rfl ?_)
   refine Mz ?_
   refine aOps_gd0 rfl rfl (wantT rfl rfl rfl) (fun hc => AOp.slots [(4, _)] (.cons rfl .nil) (AOp.fieldAddr' rfl Dz rfl Tz)) ?_
   refine aOps_gd0 rfl rfl (wantT rfl rfl rfl) (fun hc => AOp.slots [(25, _)] (.cons (gvT rfl hc) .nil) ((by refine AOp.load1 (b := ?b8) (v := ?v8) rfl rfl ?hn8 ?hv8 ?hR8; (case hn8 => exact hpA); (case hv8 => rfl); exact Tz))) ?_
   refine aOps_gd0 rfl rfl (wantT rfl rfl rfl) (fun hc => AOp.slots [(26, _)] (.cons (gvT rfl hc) .nil) (AOp.bin' rfl rfl rfl rfl Tz)) ?_
   refine Oz rfl rfl rfl (AOp.pickAnd rfl rfl rfl (fun hb => gvE rfl hb) ?_)
   refine Ez ?_
   refine ACode.cond rfl (fun c2 => ?_) (fun c2 => ?_)
   ·try simp only [Cz] at c2
    refine Sz ?_
    refine Rz [0] Kz rfl ?_
    refine Nz ?_
    refine Ez ?_
    refine ACode.ret ?_
    exact RetQ.one rfl rfl subA stays (fun hk => ⟨(by rw [schemaI, if_neg (by simp only [Bool.or_eq_false_iff, decide_eq_false_iff_not, beq_eq_false_iff_ne] at c0; omega), if_pos (any_hit (i := i0) (show i0 < cols.length by omega) c2)]), rfl, by omega⟩)
   ·try simp only [Cz] at c2
    refine ACode.skip ?_
    refine Rz [0, 1] Kz rfl ?_
    refine Oz rfl rfl rfl (AOp.add rfl rfl rfl (i64_wrap Wz Wz) ?_)
    refine Mz ?_
    refine Ez ?_
    first | refine thenA_n ?_ | simp only [thenA, blockA, if_true]
    exact NextR.mk Wz Wz (.cons rfl .nil) Xz subA (any_step (i := i0) (l := cols) (show i0 < cols.length by omega) hxL0 c2)
  ·try simp only [Cz] at c1
   refine ACode.exit ?_
   refine Sz ?_
   refine Sz ?_
   refine Rz [0, 1, 2] Kz rfl ?_
   refine Mz ?_
   refine Oz rfl rfl rfl (AOp.len' rfl rfl ?_)
   refine Mz ?_
   refine Ez ?_
   refine ACode.block ?_
   refine ACode.count0 (fun i => [(32, .int .i64 (i : Int))]) [(0, _), (15, _), (16, _), (17, _), (18, _), (30, _), (31, _)] (cols.length) (fun i => (cols.take i).any (fun c => !wayB c) = false) (.cons rfl .nil) Xz rfl (fun i1 kL1 HL1 hiL1 hkL1 hsL1 hfL1 hxL1 => ?_)
   show ACode _ _ _ _ _ ⟨_, _, _⟩
   have tsL1 := SubS.of hsL1
   refine Sz ?_
   refine Rz [0] Kz rfl ?_
   refine Oz rfl rfl rfl (AOp.bin' rfl rfl rfl rfl ?_)
   refine Ez ?_
   refine Sz ?_
   refine ACode.cond rfl (fun c3 => ?_) (fun c3 => ?_)
   ·try simp only [Cz] at c3
    refine ACode.skip ?_
    refine Sz ?_
    refine ACode.block ?_
    refine Sz ?_
    obtain ⟨n11_0, o11_0, s11_0, hq11_0, hp11_0⟩ := slcEl hs (fun _ => rfl) Dz (show i1 < cols.length by omega)
    refine Rz [0, 1, 2, 3] Kz rfl ?_
    refine Oz rfl rfl rfl (AOp.indexP (aslcAt_sub subA hq11_0) rfl rfl rfl ?_)
    refine Oz rfl rfl rfl (AOp.loadPA (v := _) (hp11_0.sub subA) rfl rfl rfl rfl (by first | rfl | (simp; done)) Dz ?_)
    refine Oz rfl rfl rfl (AOp.alloc' rfl ?_)
    refine aOps_0 rfl rfl rfl ?_
    refine AOp.storeAll (b := ?b9) rfl rfl rfl ?hn9 ?hk9 rfl ?hw9 ?ho9 ?hl9 ?hR9
    (case hn9 => exact hpA)
    (case hk9 => rfl)
    (case hw9 => first | rfl | (simp; done))
    (case ho9 => first | rfl | decide | (simp; done))
    (case hl9 => first | rfl | (simp; done))
    refine Ez (Sz (Rz [0, 1, 2] Kz rfl ?_))
    refine Oz rfl rfl rfl ?_
    refine AOp.loadAll (b := ?b10) (v := ?v10) rfl rfl ?hn10 ?hv10 ?hw10 ?hz10 ?hR10
    (case hn10 => exact hpA)
    (case hv10 => rfl)
    (case hw10 => rfl)
    (case hz10 => first | rfl | (simp; done))
    refine aOps_q rfl rfl rfl (AOp.call' rfl rfl rfl (way_col NG _ _ cols[i1]) Iz) (fun kq hkq => ?_)
    refine Oz rfl rfl rfl (AOp.un' rfl rfl rfl ?_)
    refine Ez ?_
    refine ACode.cond rfl (fun c4 => ?_) (fun c4 => ?_)
    ·try simp only [Cz] at c4
     refine Sz ?_
     refine Rz [0] Kz rfl ?_
     refine Nz ?_
     refine Ez ?_
     refine ACode.ret ?_
     exact RetQ.one rfl rfl subA stays (fun hk => ⟨(by rw [schemaI, if_neg (by simp only [Bool.or_eq_false_iff, decide_eq_false_iff_not, beq_eq_false_iff_ne] at c0; omega), if_neg (by rw [any_end Wz hxL0]; decide), if_pos (any_hit (i := i1) (show i1 < cols.length by omega) (by simp [c4]))]), rfl, by omega⟩)
    ·try simp only [Cz] at c4
     refine ACode.skip ?_
     refine Rz [0, 1] Kz rfl ?_
     refine Oz rfl rfl rfl (AOp.add rfl rfl rfl (i64_wrap Wz Wz) ?_)
     refine Mz ?_
     refine Ez ?_
     first | refine thenA_n ?_ | simp only [thenA, blockA, if_true]
     exact NextR.mk Wz Wz (.cons rfl .nil) Xz subA (any_step (i := i1) (l := cols) (show i1 < cols.length by omega) hxL1 (by simp [c4]))
   ·try simp only [Cz] at c3
    refine ACode.exit ?_
    refine Sz ?_
    refine Rz [0] Kz rfl ?_
    refine Nz ?_
    refine Ez ?_
    refine ACode.ret ?_
    exact RetQ.one rfl rfl subA stays (fun hk => ⟨(by rw [schemaI, if_neg (by simp only [Bool.or_eq_false_iff, decide_eq_false_iff_not, beq_eq_false_iff_ne] at c0; omega), if_neg (by rw [any_end Wz hxL0]; decide), if_neg (by rw [any_end Wz hxL1]; decide)]), rfl, by omega⟩)

theorem stands_val (a : Col) (v : Val) (hv : v.ok) : ACalls Tryd.prog NG 135 [cc a, vv v] H k (Same H k (.bool (stands a v))) := by
 refine ACalls.fresh fun hf => ?_
 refine ACalls.body Tryd.func135 rfl (Nat.le_of_ble_eq_true rfl) ?_
 refine Sz ?_
 refine Rz [0, 1, 2] Kz rfl ?_
 refine Oz rfl rfl rfl (AOp.boxV rfl rfl ?_)
 refine Oz rfl rfl rfl (AOp.boxV rfl rfl ?_)
 refine Nz ?_
 refine Ez ?_
 refine Sz ?_
 refine Sz ?_
 refine Rz [0] Kz rfl ?_
 refine Oz rfl rfl rfl ?_
 refine AOp.loadAll (b := ?b11) (v := ?v11) rfl rfl ?hn11 ?hv11 ?hw11 ?hz11 ?hR11
 (case hn11 => exact hpA)
 (case hv11 => rfl)
 (case hw11 => rfl)
 (case hz11 => first | rfl | (simp; done))
 refine Ez ?_
 refine ACode.block ?_
 refine Sz ?_
 refine Rz [0, 1, 2] Kz rfl ?_
 refine Oz rfl rfl rfl (AOp.buildS (cells := #[_, _, _]) rfl rfl rfl ?_)
 refine Oz rfl rfl rfl (AOp.eqAgg (valEq v ⟨0, 0, ⟨#[]⟩⟩) rfl rfl rfl (Val.sc hv) rfl (valEq_iff v ⟨0, 0, ⟨#[]⟩⟩) ?_)
 refine Nz ?_
 refine Ez ?_
 refine ACode.cond rfl (fun c0 => ?_) (fun c0 => ?_)
 ·try simp only [Cz] at c0
  refine Sz ?_
  refine Rz [0, 1, 2] Kz rfl ?_
  refine Fz ?_
  refine Oz rfl rfl rfl ?_
  refine AOp.load1 (b := ?b12) (v := ?v12) rfl rfl ?hn12 ?hv12 ?hR12
  (case hn12 => exact hpA)
  (case hv12 => rfl)
  refine Nz ?_
  refine Ez ?_
  refine ACode.ret ?_
  exact RetQ.one rfl rfl subA stays (fun hk => ⟨(by rw [stands, if_pos c0]), rfl, by omega⟩)
 ·try simp only [Cz] at c0
  refine Sz ?_
  refine Rz [0, 1, 2, 3, 4] Kz rfl ?_
  refine Fz ?_
  refine Oz rfl rfl rfl ?_
  refine AOp.load1 (b := ?b13) (v := ?v13) rfl rfl ?hn13 ?hv13 ?hR13
  (case hn13 => exact hpA)
  (case hv13 => rfl)
  refine Oz rfl rfl rfl (AOp.buildS (cells := #[_, _, _]) rfl rfl rfl ?_)
  refine Oz rfl rfl rfl (AOp.eqAgg (valEq v ⟨1, v.n, ⟨#[]⟩⟩) rfl rfl rfl (Val.sc hv) (Val.sc (a := ⟨1, v.n, ⟨#[]⟩⟩) ⟨rfl, hv.2.1, Nat.zero_le _⟩) (valEq_iff v ⟨1, v.n, ⟨#[]⟩⟩) ?_)
  refine Nz ?_
  refine Ez ?_
  refine ACode.cond rfl (fun c1 => ?_) (fun c1 => ?_)
  ·try simp only [Cz] at c1
   refine Sz ?_
   refine Rz [0, 1, 2, 3] Kz rfl ?_
   refine Fz ?_
   refine Oz rfl rfl rfl ?_
   refine AOp.load1 (b := ?b14) (v := ?v14) rfl rfl ?hn14 ?hv14 ?hR14
   (case hn14 => exact hpA)
   (case hv14 => rfl)
   refine Oz rfl rfl rfl (AOp.bin' rfl rfl rfl rfl ?_)
   refine Nz ?_
   refine Ez ?_
   refine ACode.ret ?_
   exact RetQ.one rfl rfl subA stays (fun hk => ⟨(by rw [stands, if_neg (by simp [c0]), if_pos c1]), rfl, by omega⟩)
  ·try simp only [Cz] at c1
   refine Sz ?_
   refine Rz [0, 1, 2, 3, 4] Kz rfl ?_
   refine Fz ?_
   refine Oz rfl rfl rfl ?_
   refine AOp.load1 (b := ?b15) (v := ?v15) rfl rfl ?hn15 ?hv15 ?hR15
   (case hn15 => exact hpA)
   (case hv15 => rfl)
   refine Oz rfl rfl rfl (AOp.buildS (cells := #[_, _, _]) rfl rfl rfl ?_)
   refine Oz rfl rfl rfl (AOp.eqAgg (valEq v ⟨2, 0, v.s⟩) rfl rfl rfl (Val.sc hv) (Val.sc (a := ⟨2, 0, v.s⟩) ⟨rfl, rfl, hv.2.2⟩) (valEq_iff v ⟨2, 0, v.s⟩) ?_)
   refine Nz ?_
   refine Ez ?_
   refine ACode.cond rfl (fun c2 => ?_) (fun c2 => ?_)
   ·try simp only [Cz] at c2
    refine Sz ?_
    refine Rz [0, 1, 2, 3] Kz rfl ?_
    refine Fz ?_
    refine Oz rfl rfl rfl ?_
    refine AOp.load1 (b := ?b16) (v := ?v16) rfl rfl ?hn16 ?hv16 ?hR16
    (case hn16 => exact hpA)
    (case hv16 => rfl)
    refine Oz rfl rfl rfl (AOp.bin' rfl rfl rfl rfl ?_)
    refine Nz ?_
    refine Ez ?_
    refine ACode.ret ?_
    exact RetQ.one rfl rfl subA stays (fun hk => ⟨(by rw [stands, if_neg (by simp [c0]), if_neg (by simp [c1]), if_pos c2]), rfl, by omega⟩)
   ·try simp only [Cz] at c2
    refine ACode.skip ?_
    refine Sz ?_
    refine Rz [0] Kz rfl ?_
    refine Nz ?_
    refine Ez ?_
    refine ACode.ret ?_
    exact RetQ.one rfl rfl subA stays (fun hk => ⟨(by rw [stands, if_neg (by simp [c0]), if_neg (by simp [c1]), if_neg (by simp [c2])]), rfl, by omega⟩)

theorem row_vals (cols : List Col) (vals : List Val) (A : Option Addr) (c : Nat) (hs : slcCells H 3 (.slice A cols.length c) = some (cols3 cols)) (B : Option Addr) (d : Nat) (hs2 : slcCells H 3 (.slice B vals.length d) = some (vals3 vals)) (hl : vals.length ≤ 9223372036854775807) (ho : ∀ v ∈ vals, v.ok) : ACalls Tryd.prog NG 103 [.slice A cols.length c, .slice B vals.length d] H k (Same H k (.int .i64 (rowI (fun c v => !stands c v) cols vals))) := by
 refine ACalls.fresh fun hf => ?_
 refine ACalls.body Tryd.func103 rfl (Nat.le_of_ble_eq_true rfl) ?_
 refine Sz ?_
 refine Rz [0] Kz rfl ?_
 refine Nz ?_
 refine Ez ?_
 refine Sz ?_
 refine Sz ?_
 refine Rz [0, 1, 2, 3, 4] Kz rfl ?_
 refine Mz ?_
 refine Oz rfl rfl rfl (AOp.len' rfl rfl ?_)
 refine Mz ?_
 refine Oz rfl rfl rfl (AOp.len' rfl rfl ?_)
 refine Oz rfl rfl rfl (AOp.bin' rfl rfl rfl rfl ?_)
 refine Ez ?_
 refine ACode.cond rfl (fun c0 => ?_) (fun c0 => ?_)
 ·try simp only [Cz] at c0
  refine Sz ?_
  refine Rz [0] Kz rfl ?_
  refine Nz ?_
  refine Ez ?_
  refine ACode.ret ?_
  exact RetQ.one rfl rfl subA stays (fun hk => ⟨(by rw [rowI, if_neg Wz]), rfl, by omega⟩)
 ·try simp only [Cz] at c0
  refine ACode.skip ?_
  refine Sz ?_
  refine Sz ?_
  refine Rz [0, 1, 2] Kz rfl ?_
  refine Mz ?_
  refine Oz rfl rfl rfl (AOp.len' rfl rfl ?_)
  refine Mz ?_
  refine Ez ?_
  refine ACode.block ?_
  refine ACode.count0 (fun i => [(14, .int .i64 (i : Int))]) [(0, _), (12, _), (13, _)] (vals.length) (fun i => rowAt (fun c v => !stands c v) cols vals = rowAt (fun c v => !stands c v) (cols.drop i) (vals.drop i)) (.cons rfl .nil) Xz rfl (fun i0 kL0 HL0 hiL0 hkL0 hsL0 hfL0 hxL0 => ?_)
  show ACode _ _ _ _ _ ⟨_, _, _⟩
  have tsL0 := SubS.of hsL0
  refine Sz ?_
  refine Rz [0] Kz rfl ?_
  refine Oz rfl rfl rfl (AOp.bin' rfl rfl rfl rfl ?_)
  refine Ez ?_
  refine Sz ?_
  refine ACode.cond rfl (fun c1 => ?_) (fun c1 => ?_)
  ·try simp only [Cz] at c1
   refine ACode.skip ?_
   refine Sz ?_
   refine ACode.block ?_
   refine Sz ?_
   obtain ⟨n5_1, o5_1, s5_1, hq5_1, hp5_1⟩ := slcEl hs2 (fun _ => rfl) Dz (show i0 < vals.length by omega)
   refine Rz [0, 1, 2, 3, 4, 5] Kz rfl ?_
   refine Mz ?_
   refine Oz rfl rfl rfl (AOp.indexP (aslcAt_sub subA hq5_1) rfl rfl rfl ?_)
   refine Oz rfl rfl rfl (AOp.loadPA (v := _) (hp5_1.sub subA) rfl rfl rfl rfl (by first | rfl | (simp; done)) Dz ?_)
   refine Oz rfl rfl rfl (AOp.alloc' rfl ?_)
   refine Nz ?_
   refine aOps_0 rfl rfl rfl ?_
   refine AOp.storeAll (b := ?b17) rfl rfl rfl ?hn17 ?hk17 rfl ?hw17 ?ho17 ?hl17 ?hR17
   (case hn17 => exact hpA)
   (case hk17 => rfl)
   (case hw17 => first | rfl | (simp; done))
   (case ho17 => first | rfl | decide | (simp; done))
   (case hl17 => first | rfl | (simp; done))
   refine Ez ?_
   refine ACode.block ?_
   refine Sz ?_
   have hv0 : i0 < vals.length := by omega
   have hv1 : i0 < cols.length := by omega
   obtain ⟨n6_2, o6_2, s6_2, hq6_2, hp6_2⟩ := slcEl hs (fun _ => rfl) Dz (show i0 < cols.length by omega)
   refine ACode.draw' 7 [(0, 20), (1, 21), (2, 22), (3, 23), (4, 24), (5, 25), (6, 26)] mixed Kz ?_
   refine Draw.step [(0, none)] rfl Kz rfl (fun kq hkq => AOp.move' (.inl rfl) rfl Vz) ?_
   refine Draw.step [(5, none)] rfl Kz rfl (fun kq hkq => AOp.move' (.inl rfl) rfl Vz) ?_
   refine Draw.step [(20, some 0), (21, some 1)] rfl Kz rfl (fun kq hkq => AOp.indexP (aslcAt_sub subA hq6_2) rfl rfl rfl Vz) ?_
   refine Draw.step [(22, some 2)] rfl Kz rfl (fun kq hkq => AOp.loadPA (v := _) (hp6_2.sub subA) rfl rfl rfl rfl (by first | rfl | (simp; done)) Dz Vz) ?_
   refine Draw.step [(6, none)] rfl Kz rfl (fun kq hkq => (by refine AOp.loadAll (b := ?b18) (v := ?v18) rfl rfl ?hn18 ?hv18 ?hw18 ?hz18 ?hR18; (case hn18 => exact hpA); (case hv18 => rfl); (case hw18 => rfl); (case hz18 => first | rfl | (simp; done)); exact Vz)) ?_
   refine Draw.step [(23, some 3), (24, some 4)] rfl Kz rfl (fun kq hkq => AOp.call' rfl rfl rfl (stands_val NG _ _ (List.get cols ⟨i0, hv1⟩) (List.get vals ⟨i0, hv0⟩) (ho _ (List.getElem_mem _))) Iz) ?_
   refine Draw.step [(25, some 5)] rfl Kz rfl (fun kq hkq => AOp.un' rfl rfl rfl Vz) ?_
   refine Draw.done fun kq hkq => ?_
   show aOps _ _ _ _ [7] ⟨_, _, _⟩
   refine Nz ?_
   refine Ez ?_
   refine ACode.cond rfl (fun c2 => ?_) (fun c2 => ?_)
   ·try simp only [Cz] at c2
    refine Sz ?_
    refine Rz [0] Kz rfl ?_
    refine Nz ?_
    refine Ez ?_
    refine ACode.ret ?_
    exact RetQ.one rfl rfl subA stays (fun hk => ⟨(by rw [rowI, if_pos Wz, hxL0, rowAt_step Wz Wz, if_pos (by show (!stands cols[i0] vals[i0]) = true; rw [show stands cols[i0] vals[i0] = false from c2]; rfl)]), rfl, by omega⟩)
   ·try simp only [Cz] at c2
    refine Sz ?_
    refine Rz [0, 1, 2, 3, 4] Kz rfl ?_
    refine Fz ?_
    refine Oz rfl rfl rfl ?_
    refine AOp.load1 (b := ?b19) (v := ?v19) rfl rfl ?hn19 ?hv19 ?hR19
    (case hn19 => exact hpA)
    (case hv19 => rfl)
    refine Oz rfl rfl rfl (AOp.lenStr' rfl rfl ?_)
    refine Oz rfl rfl rfl (AOp.bin' rfl rfl rfl rfl ?_)
    refine Nz ?_
    refine Ez ?_
    refine ACode.cond rfl (fun c3 => ?_) (fun c3 => ?_)
    ·try simp only [Cz] at c3
     refine Sz ?_
     refine Rz [0] Kz rfl ?_
     refine Nz ?_
     refine Ez ?_
     refine ACode.ret ?_
     exact RetQ.one rfl rfl subA stays (fun hk => ⟨(by rw [rowI, if_pos Wz, hxL0, rowAt_step Wz Wz, if_neg (by show ¬ (!stands cols[i0] vals[i0]) = true; rw [show stands cols[i0] vals[i0] = true from c2]; decide), if_pos Wz]), rfl, by omega⟩)
    ·try simp only [Cz] at c3
     refine ACode.skip ?_
     refine Rz [0, 1] Kz rfl ?_
     refine Oz rfl rfl rfl (AOp.add rfl rfl rfl (i64_wrap Wz Wz) ?_)
     refine Mz ?_
     refine Ez ?_
     first | refine thenA_n ?_ | simp only [thenA, blockA, if_true]
     exact NextR.mk Wz Wz (.cons rfl .nil) Xz subA (by rw [hxL0, rowAt_step Wz Wz, if_neg (by show ¬ (!stands cols[i0] vals[i0]) = true; rw [show stands cols[i0] vals[i0] = true from c2]; decide), if_neg Wz])
  ·try simp only [Cz] at c1
   refine ACode.exit ?_
   refine Sz ?_
   refine Rz [0] Kz rfl ?_
   refine Nz ?_
   refine Ez ?_
   refine ACode.ret ?_
   exact RetQ.one rfl rfl subA stays (fun hk => ⟨(by rw [rowI, if_pos Wz, hxL0, List.drop_eq_nil_of_le Wz, List.drop_eq_nil_of_le Wz]; rfl), rfl, by omega⟩)

end

end Go.Proofs.YteoofihjmldllaaDoor
