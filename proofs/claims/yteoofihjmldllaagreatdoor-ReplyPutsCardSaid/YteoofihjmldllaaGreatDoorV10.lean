/- Contracts over the abstract states: the same bytes; great rows; schemas as bytes; bytes put behind. -/
import Derived.Test.YteoofihjmldllaaGreatDoorV9
set_option linter.unusedVariables false
set_option linter.unusedSimpArgs false
set_option maxRecDepth 100000
namespace Go.Proofs.YteoofihjmldllaaGreatDoor
open Go Go.Ab

section
variable (NG : Nat) (H : Hp) (k : Nat)
theorem getD_el {α : Type} {l : List α} {d : α} {i : Nat} (h : i < l.length) : l.getD i d = l[i] := by
 rw [List.getD_eq_getElem?_getD, List.getElem?_eq_getElem h]; rfl
theorem take_el {α : Type} (l : List α) (d : α) {i : Nat} (h : i < l.length) : l.take (i + 1) = l.take i ++ [l.getD i d] := by
 rw [List.take_succ_eq_append_getElem h, getD_el h]
theorem slcElG {α : Type} {z i : Nat} {H : Hp} {v : Value} (f : α → List Value) {l : List α} (d : α) (h : slcCells H z v = some (l.flatMap f)) (hz : ∀ a, (f a).length = z) (h0 : 0 < z) (hi : i < l.length) :
  ∃ n off sp, aslcAt H z i v = some (ptr n off sp) ∧ PAt H n off sp (f (l.getD i d)) := by
 rw [getD_el hi]
 exact slcEl h hz h0 hi
def colB (c : Col) : List UInt8 := [byteI c.kind, if c.null then 1 else 0, byteI (IntKind.i64.wrap (c.way + 1))]
def schB (l : List Col) : List UInt8 := byteI (l.length : Int) :: l.flatMap colB
theorem schB_take (l : List Col) (d : Col) {i : Nat} (h : i < l.length) : (l.take (i + 1)).flatMap colB = (l.take i).flatMap colB ++ colB (l.getD i d) := by
 rw [take_el l d h, List.flatMap_append]
 simp
theorem colB_len (l : List Col) : (l.flatMap colB).length = l.length * 3 := by
 induction l with
 | nil => rfl
 | cons a l ih =>
  rw [List.flatMap_cons, List.length_append, ih, List.length_cons]
  show 3 + _ = _
  omega

theorem same_b (xs ys : List UInt8) (A B : Option Addr) (c d : Nat) (hx : SLC H 1 A xs.length c (xs.map bv)) (hy : SLC H 1 B ys.length d (ys.map bv)) (hl : xs.length ≤ 9223372036854775807) : ACalls Tryz.prog NG 11 [.slice A xs.length c, .slice B ys.length d] H k (Same H k (.bool (decide (xs = ys)))) := by
 refine ACalls.fresh fun hf => ?_
 refine ACalls.body Tryz.func11 rfl (Nat.le_of_ble_eq_true rfl) ?_
 refine Sz ?_
 refine Rz [0] Kz rfl ?_
 refine Nz ?_
 refine Ez ?_
 refine Sz ?_
 refine Sz ?_
 refine Rz [0, 1, 2, 3, 4] Kz rfl ?_
 refine Mz ?_
 refine Oz rfl rfl rfl (AOp.len' rfl rfl ?_)
 refine Mz ?_
 refine Oz rfl rfl rfl (AOp.len' rfl rfl ?_)
 refine Oz rfl rfl rfl (AOp.bin' rfl rfl rfl rfl ?_)
 refine Ez ?_
 refine ACode.cond rfl (fun c0 => ?_) (fun c0 => ?_)
 ·try simp only [Cz] at c0
  refine Sz ?_
  refine Rz [0] Kz rfl ?_
  refine Nz ?_
  refine Ez ?_
  refine ACode.ret ?_
  exact RetQ.one rfl rfl subA stays (fun hk => ⟨(by rw [decide_eq_false]; intro e; subst e; omega), rfl, by omega⟩)
 ·try simp only [Cz] at c0
  refine ACode.skip ?_
  refine Sz ?_
  refine Sz ?_
  refine Rz [0] Kz rfl ?_
  refine Nz ?_
  refine Ez ?_
  refine ACode.block ?_
  refine ACode.count0 (fun i => [(5, .int .i64 (i : Int))]) [(0, _), (1, _)] (xs.length) (fun i => xs.take i = ys.take i) (.cons rfl .nil) (.cons rfl (.cons rfl .nil)) rfl (fun i0 kL0 HL0 hiL0 hkL0 hsL0 hfL0 hxL0 => ?_)
  show ACode _ _ _ _ _ ⟨_, _, _⟩
  have tsL0 := SubS.of hsL0
  refine Sz ?_
  refine Sz ?_
  refine Rz [0, 1, 2, 3] Kz rfl ?_
  refine Mz ?_
  refine Mz ?_
  refine Oz rfl rfl rfl (AOp.len' rfl rfl ?_)
  refine Oz rfl rfl rfl (AOp.bin' rfl rfl rfl rfl ?_)
  refine Ez ?_
  refine ACode.cond rfl (fun c1 => ?_) (fun c1 => ?_)
  ·try simp only [Cz] at c1
   refine ACode.skip ?_
   refine Sz ?_
   refine ACode.block ?_
   refine Sz ?_
   have hlen : xs.length = ys.length := by omega
   obtain ⟨n6_2, o6_2, s6_2, hq6_2, hp6_2⟩ := slcElD bv (i := i0) 0 hx.cells Wz
   obtain ⟨n6_6, o6_6, s6_6, hq6_6, hp6_6⟩ := slcElD bv (i := i0) 0 hy.cells Wz
   refine ACode.draw' 9 [(0, 17), (1, 18), (2, 19), (3, 20), (4, 21), (5, 22), (6, 23), (7, 24), (8, 25)] mixed Kz ?_
   refine Draw.step [(0, none)] rfl Kz rfl (fun kq hkq => AOp.move' (.inl rfl) rfl Vz) ?_
   refine Draw.step [(5, none)] rfl Kz rfl (fun kq hkq => AOp.move' (.inl rfl) rfl Vz) ?_
   refine Draw.step [(17, some 0), (18, some 1)] rfl Kz rfl (fun kq hkq => AOp.indexP (aslcAt_sub subA hq6_2) rfl rfl rfl Vz) ?_
   refine Draw.step [(19, some 2)] rfl Kz rfl (fun kq hkq => AOp.loadP0 (hp6_2.sub subA) rfl rfl rfl Vz) ?_
   refine Draw.step [(1, none)] rfl Kz rfl (fun kq hkq => AOp.move' (.inl rfl) rfl Vz) ?_
   refine Draw.step [(5, none)] rfl Kz rfl (fun kq hkq => AOp.move' (.inl rfl) rfl Vz) ?_
   refine Draw.step [(21, some 4), (22, some 5)] rfl Kz rfl (fun kq hkq => AOp.indexP (aslcAt_sub subA hq6_6) rfl rfl rfl Vz) ?_
   refine Draw.step [(23, some 6)] rfl Kz rfl (fun kq hkq => AOp.loadP0 (hp6_6.sub subA) rfl rfl rfl Vz) ?_
   refine Draw.step [(20, some 3), (24, some 7)] rfl Kz rfl (fun kq hkq => AOp.bin' rfl rfl rfl rfl Vz) ?_
   refine Draw.done fun kq hkq => ?_
   show aOps _ _ _ _ [] ⟨_, _, _⟩
   refine Ez ?_
   refine ACode.cond rfl (fun c2 => ?_) (fun c2 => ?_)
   ·try simp only [Cz] at c2
    refine Sz ?_
    refine Rz [0] Kz rfl ?_
    refine Nz ?_
    refine Ez ?_
    refine ACode.ret ?_
    exact RetQ.one rfl rfl subA stays (fun hk => ⟨(by rw [decide_eq_false]; intro e; subst e; exact c2 rfl), rfl, by omega⟩)
   ·try simp only [Cz] at c2
    refine ACode.skip ?_
    refine Rz [0, 1, 2] Kz rfl ?_
    refine Mz ?_
    refine Oz rfl rfl rfl (AOp.add rfl rfl rfl (i64_wrap Wz Wz) ?_)
    refine Nz ?_
    refine Ez ?_
    first | refine thenA_n ?_ | simp only [thenA, blockA, if_true]
    exact NextR.mk Wz Wz (.cons rfl .nil) (.cons rfl (.cons rfl .nil)) subA (by rw [take_el xs 0 Wz, take_el ys 0 Wz, hxL0, bv_inj' c2])
  ·try simp only [Cz] at c1
   refine ACode.exit ?_
   refine Sz ?_
   refine Rz [0] Kz rfl ?_
   refine Nz ?_
   refine Ez ?_
   refine ACode.ret ?_
   exact RetQ.one rfl rfl subA stays (fun hk => ⟨(by rw [decide_eq_true]; have e1 := List.take_of_length_le (l := xs) (i := i0) Wz; have e2 := List.take_of_length_le (l := ys) (i := i0) Wz; rw [← e1, ← e2]; exact hxL0), rfl, by omega⟩)

theorem putSchema_b (cols : List Col) (A : Option Addr) (c : Nat) (hs : SLC H 3 A cols.length c (cols3 cols)) (hl : cols.length ≤ 1099511627776) : ACalls Tryz.prog NG 17 [.slice A cols.length c] H k (NewB H k 5 (schB cols)) := by
 refine ACalls.fresh fun hf => ?_
 refine ACalls.body Tryz.func17 rfl (Nat.le_of_ble_eq_true rfl) ?_
 refine Sz ?_
 refine Rz [0] Kz rfl ?_
 refine Nz ?_
 refine Ez (Sz (Rz [0, 1, 2, 3, 4] Kz rfl ?_))
 refine Mz ?_
 refine Oz rfl rfl rfl (AOp.len' rfl rfl ?_)
 refine Oz rfl rfl rfl (AOp.toU8 rfl rfl ?_)
 refine Oz rfl rfl rfl (AOp.buildB [_] rfl Dz rfl rfl ?_)
 refine Nz ?_
 refine Ez ?_
 refine Sz ?_
 refine Sz ?_
 refine Rz [0, 1, 2] Kz rfl ?_
 refine Mz ?_
 refine Oz rfl rfl rfl (AOp.len' rfl rfl ?_)
 refine Mz ?_
 refine Ez ?_
 refine ACode.block ?_
 refine ACode.count (fun i => [(13, .int .i64 (i : Int)), (3, sl k (byteI (cols.length : Int) :: (cols.take i).flatMap colB).length)]) [(2, _), (11, _), (12, _)] (fun i => upd H k (some (gb (byteI (cols.length : Int) :: (cols.take i).flatMap colB)))) (cols.length) (fun _ => True) (.cons rfl (.cons rfl .nil)) Xz subA trivial (fun i0 kL0 HL0 hiL0 hkL0 hsL0 hfL0 hxL0 => ?_)
 show ACode _ _ _ _ _ ⟨_, _, _⟩
 have tsL0 := SubS.of hsL0
 refine Sz ?_
 refine Rz [0] Kz rfl ?_
 refine Oz rfl rfl rfl (AOp.bin' rfl rfl rfl rfl ?_)
 refine Ez ?_
 refine Sz ?_
 refine ACode.cond rfl (fun c0 => ?_) (fun c0 => ?_)
 ·try simp only [Cz] at c0
  refine ACode.skip ?_
  refine Sz ?_
  refine ACode.block ?_
  refine Sz ?_
  obtain ⟨n4_0, o4_0, s4_0, hq4_0, hp4_0⟩ := slcElG (fun c => (cc c).cells.toList) (⟨0, false, 0⟩ : Col) hs.cells (fun _ => rfl) Dz (show i0 < cols.length by omega)
  refine Rz [0, 1, 2, 3] Kz rfl ?_
  refine Oz rfl rfl rfl (AOp.indexP (aslcAt_sub subA hq4_0) rfl rfl rfl ?_)
  refine Oz rfl rfl rfl (AOp.loadPA (v := cc (cols.getD i0 (⟨0, false, 0⟩ : Col))) (hp4_0.sub subA) rfl rfl rfl rfl (by first | rfl | (simp; done)) Dz ?_)
  refine Oz rfl rfl rfl (AOp.alloc' rfl ?_)
  refine aOps_0 rfl rfl rfl ?_
  refine AOp.storeAll (b := ?b1) rfl rfl rfl ?hn1 ?hk1 rfl ?hw1 ?ho1 ?hl1 ?hR1
  (case hn1 => exact hpA)
  (case hk1 => rfl)
  (case hw1 => first | rfl | (simp; done))
  (case ho1 => first | rfl | decide | (simp; done))
  (case hl1 => first | rfl | (simp; done))
  refine Ez (Sz (Rz [0] Kz rfl ?_))
  refine Oz rfl rfl rfl (AOp.move' (v := bv 0) (.inr rfl) rfl ?_)
  refine Ez ?_
  refine Sz ?_
  refine Sz ?_
  refine Rz [0, 1] Kz rfl ?_
  refine Fz ?_
  refine Oz rfl rfl rfl ?_
  refine AOp.load1 (b := ?b2) (v := ?v2) rfl rfl ?hn2 ?hv2 ?hR2
  (case hn2 => exact hpA)
  (case hv2 => rfl)
  refine Ez ?_
  refine ACode.cond rfl (fun c1 => ?_) (fun c1 => ?_)
  ·try simp only [Cz] at c1
   have cnull := c1
   refine Rz [0] Kz rfl ?_
   refine Oz rfl rfl rfl (AOp.move' (v := bv 1) (.inr rfl) rfl ?_)
   refine Ez ?_
   have hcl := colB_len (cols.take i0)
   have htl : (cols.take i0).length ≤ cols.length := by rw [List.length_take]; omega
   have hbl : (byteI (cols.length : Int) :: (cols.take i0).flatMap colB).length = ((cols.take i0).flatMap colB).length + 1 := rfl
   refine Rz [0, 1, 2, 3, 4, 5, 6, 7, 8, 9, 10, 11] Kz rfl ?_
   refine Mz ?_
   refine Fz ?_
   refine Oz rfl rfl rfl ?_
   refine AOp.load1 (b := ?b3) (v := ?v3) rfl rfl ?hn3 ?hv3 ?hR3
   (case hn3 => exact hpA)
   (case hv3 => rfl)
   refine Oz rfl rfl rfl (AOp.toU8 rfl rfl ?_)
   refine Mz ?_
   refine Fz ?_
   refine Oz rfl rfl rfl ?_
   refine AOp.load1 (b := ?b4) (v := ?v4) rfl rfl ?hn4 ?hv4 ?hR4
   (case hn4 => exact hpA)
   (case hv4 => rfl)
   refine Oz rfl rfl rfl (AOp.bin' rfl rfl rfl rfl ?_)
   refine Oz rfl rfl rfl (AOp.toU8 rfl rfl ?_)
   refine Oz rfl rfl rfl (AOp.buildB [_, _, _] rfl Dz rfl rfl ?_)
   refine Oz rfl rfl rfl ?_
   refine AOp.appendB (ps := ?ns5) rfl rfl rfl ?hn5 ?hsrc5 ?ht5 ?hw5 ?hz5 ?hR5
   (case hn5 => exact hpA)
   (case hsrc5 => refine srcOf_gb (e := 5) ?e15; (case e15 => exact hpA))
   (case ht5 => exact srcOk_sl)
   (case hw5 => (first | omega | (simp only [List.length_cons, List.length_nil]; omega) | (simp only [List.length_append, List.length_cons, List.length_nil]; omega) | (simp; omega)))
   (case hz5 => (first | omega | (simp only [List.length_cons, List.length_nil]; omega) | (simp only [List.length_append, List.length_cons, List.length_nil]; omega) | (simp; omega)))
   refine Nz ?_
   refine Ez ?_
   refine Rz [0, 1] Kz rfl ?_
   refine Oz rfl rfl rfl (AOp.add rfl rfl rfl (i64_wrap Wz Wz) ?_)
   refine Mz ?_
   refine Ez ?_
   have e4 : (byteI (cols.length : Int) :: (cols.take (i0 + 1)).flatMap colB) = (byteI (cols.length : Int) :: (cols.take i0).flatMap colB) ++ [byteI (cols.getD i0 (⟨0, false, 0⟩ : Col)).kind, 1, byteI (IntKind.i64.wrap ((cols.getD i0 (⟨0, false, 0⟩ : Col)).way + 1))] := by rw [schB_take cols (⟨0, false, 0⟩ : Col) Wz, colB, if_pos cnull]; simp
   first | refine thenA_n ?_ | simp only [thenA, blockA, if_true]
   exact NextR.mk Wz Wz (.cons rfl (.cons (show _ = some (sl k _) by rw [e4]; rfl) .nil)) Xz (by exact sub_over_eq (y := some (gb (byteI (cols.length : Int) :: (cols.take i0).flatMap colB))) subA (by rw [e4] <;> rfl)) trivial
  ·try simp only [Cz] at c1
   have cnull := c1
   refine ACode.skip ?_
   have hcl := colB_len (cols.take i0)
   have htl : (cols.take i0).length ≤ cols.length := by rw [List.length_take]; omega
   have hbl : (byteI (cols.length : Int) :: (cols.take i0).flatMap colB).length = ((cols.take i0).flatMap colB).length + 1 := rfl
   refine Rz [0, 1, 2, 3, 4, 5, 6, 7, 8, 9, 10, 11] Kz rfl ?_
   refine Mz ?_
   refine Fz ?_
   refine Oz rfl rfl rfl ?_
   refine AOp.load1 (b := ?b6) (v := ?v6) rfl rfl ?hn6 ?hv6 ?hR6
   (case hn6 => exact hpA)
   (case hv6 => rfl)
   refine Oz rfl rfl rfl (AOp.toU8 rfl rfl ?_)
   refine Mz ?_
   refine Fz ?_
   refine Oz rfl rfl rfl ?_
   refine AOp.load1 (b := ?b7) (v := ?v7) rfl rfl ?hn7 ?hv7 ?hR7
   (case hn7 => exact hpA)
   (case hv7 => rfl)
   refine Oz rfl rfl rfl (AOp.bin' rfl rfl rfl rfl ?_)
   refine Oz rfl rfl rfl (AOp.toU8 rfl rfl ?_)
   refine Oz rfl rfl rfl (AOp.buildB [_, _, _] rfl Dz rfl rfl ?_)
   refine Oz rfl rfl rfl ?_
   refine AOp.appendB (ps := ?ns8) rfl rfl rfl ?hn8 ?hsrc8 ?ht8 ?hw8 ?hz8 ?hR8
   (case hn8 => exact hpA)
   (case hsrc8 => refine srcOf_gb (e := 5) ?e18; (case e18 => exact hpA))
   (case ht8 => exact srcOk_sl)
   (case hw8 => (first | omega | (simp only [List.length_cons, List.length_nil]; omega) | (simp only [List.length_append, List.length_cons, List.length_nil]; omega) | (simp; omega)))
   (case hz8 => (first | omega | (simp only [List.length_cons, List.length_nil]; omega) | (simp only [List.length_append, List.length_cons, List.length_nil]; omega) | (simp; omega)))
   refine Nz ?_
   refine Ez ?_
   refine Rz [0, 1] Kz rfl ?_
   refine Oz rfl rfl rfl (AOp.add rfl rfl rfl (i64_wrap Wz Wz) ?_)
   refine Mz ?_
   refine Ez ?_
   have e4 : (byteI (cols.length : Int) :: (cols.take (i0 + 1)).flatMap colB) = (byteI (cols.length : Int) :: (cols.take i0).flatMap colB) ++ [byteI (cols.getD i0 (⟨0, false, 0⟩ : Col)).kind, 0, byteI (IntKind.i64.wrap ((cols.getD i0 (⟨0, false, 0⟩ : Col)).way + 1))] := by rw [schB_take cols (⟨0, false, 0⟩ : Col) Wz, colB, if_neg (by rw [cnull]; decide)]; simp
   first | refine thenA_n ?_ | simp only [thenA, blockA, if_true]
   exact NextR.mk Wz Wz (.cons rfl (.cons (show _ = some (sl k _) by rw [e4]; rfl) .nil)) Xz (by exact sub_over_eq (y := some (gb (byteI (cols.length : Int) :: (cols.take i0).flatMap colB))) subA (by rw [e4] <;> rfl)) trivial
 ·try simp only [Cz] at c0
  refine ACode.exit ?_
  refine Sz ?_
  refine Rz [0, 1] Kz rfl ?_
  refine Mz ?_
  refine Nz ?_
  refine Ez ?_
  refine ACode.ret ?_
  have e0 : cols.take i0 = cols := List.take_of_length_le Wz
  rw [e0] at hsL0
  exact RetQ.one (H'' := upd H k (some (gb (schB cols)))) rfl rfl subA stays_upd (fun hk => ⟨k, by omega, by omega, by rw [e0]; rfl, rfl⟩)

theorem refPutSchema_b (cols : List Col) (A : Option Addr) (c : Nat) (hs : SLC H 3 A cols.length c (cols3 cols)) (hl : cols.length ≤ 1099511627776) : ACalls Tryz.prog NG 25 [.slice A cols.length c] H k (NewB H k 5 (schB cols)) := by
 refine ACalls.fresh fun hf => ?_
 refine ACalls.body Tryz.func25 rfl (Nat.le_of_ble_eq_true rfl) ?_
 refine Sz ?_
 refine Rz [0] Kz rfl ?_
 refine Nz ?_
 refine Ez (Sz (Rz [0, 1, 2, 3, 4] Kz rfl ?_))
 refine Mz ?_
 refine Oz rfl rfl rfl (AOp.len' rfl rfl ?_)
 refine Oz rfl rfl rfl (AOp.toU8 rfl rfl ?_)
 refine Oz rfl rfl rfl (AOp.buildB [_] rfl Dz rfl rfl ?_)
 refine Nz ?_
 refine Ez ?_
 refine Sz ?_
 refine Sz ?_
 refine Rz [0] Kz rfl ?_
 refine Nz ?_
 refine Ez ?_
 refine ACode.block ?_
 refine ACode.count (fun i => [(4, .int .i64 (i : Int)), (3, sl k (byteI (cols.length : Int) :: (cols.take i).flatMap colB).length)]) [(0, _), (2, _)] (fun i => upd H k (some (gb (byteI (cols.length : Int) :: (cols.take i).flatMap colB)))) (cols.length) (fun _ => True) (.cons rfl (.cons rfl .nil)) (.cons rfl (.cons rfl .nil)) subA trivial (fun i0 kL0 HL0 hiL0 hkL0 hsL0 hfL0 hxL0 => ?_)
 show ACode _ _ _ _ _ ⟨_, _, _⟩
 have tsL0 := SubS.of hsL0
 refine Sz ?_
 refine Sz ?_
 refine Rz [0, 1, 2, 3] Kz rfl ?_
 refine Mz ?_
 refine Mz ?_
 refine Oz rfl rfl rfl (AOp.len' rfl rfl ?_)
 refine Oz rfl rfl rfl (AOp.bin' rfl rfl rfl rfl ?_)
 refine Ez ?_
 refine ACode.cond rfl (fun c0 => ?_) (fun c0 => ?_)
 ·try simp only [Cz] at c0
  refine ACode.skip ?_
  refine Sz ?_
  refine ACode.block ?_
  refine Sz ?_
  refine Rz [0] Kz rfl ?_
  refine Nz ?_
  refine Ez ?_
  refine Sz ?_
  refine Sz ?_
  obtain ⟨n6_2, o6_2, s6_2, hq6_2, hp6_2⟩ := slcElG (fun c => (cc c).cells.toList) (⟨0, false, 0⟩ : Col) hs.cells (fun _ => rfl) Dz (show i0 < cols.length by omega)
  refine Rz [0, 1, 2, 3, 4] Kz rfl ?_
  refine Mz ?_
  refine Mz ?_
  refine Oz rfl rfl rfl (AOp.indexP (aslcAt_sub subA hq6_2) rfl rfl rfl ?_)
  refine Oz rfl rfl rfl (AOp.fieldP (hp6_2.sub subA) rfl Dz (Nat.le_of_ble_eq_true rfl) rfl ?_)
  refine Oz rfl rfl rfl (AOp.loadP1 (hp6_2.sub subA) rfl rfl rfl ?_)
  refine Ez ?_
  refine ACode.cond rfl (fun c1 => ?_) (fun c1 => ?_)
  ·try simp only [Cz] at c1
   have cnull := c1
   refine Rz [0] Kz rfl ?_
   refine Nz ?_
   refine Ez ?_
   have hcl := colB_len (cols.take i0)
   have htl : (cols.take i0).length ≤ cols.length := by rw [List.length_take]; omega
   have hbl : (byteI (cols.length : Int) :: (cols.take i0).flatMap colB).length = ((cols.take i0).flatMap colB).length + 1 := rfl
   obtain ⟨n8_3, o8_3, s8_3, hq8_3, hp8_3⟩ := slcElG (fun c => (cc c).cells.toList) (⟨0, false, 0⟩ : Col) hs.cells (fun _ => rfl) Dz (show i0 < cols.length by omega)
   obtain ⟨n8_11, o8_11, s8_11, hq8_11, hp8_11⟩ := slcElG (fun c => (cc c).cells.toList) (⟨0, false, 0⟩ : Col) hs.cells (fun _ => rfl) Dz (show i0 < cols.length by omega)
   refine ACode.drawM0 17 [(0, 21), (1, 22), (2, 23), (3, 24), (4, 25), (5, 26), (6, 27), (7, 28), (8, 29), (9, 30), (10, 31), (11, 32), (12, 33), (13, 34), (14, 35), (15, 36), (16, 37)] [16] [([], []), ([], []), ([], []), ([], []), ([], []), ([], []), ([], []), ([], []), ([], []), ([], []), ([], []), ([], []), ([], []), ([], []), ([], []), ([], []), ([16], [])] mixed Kz Kz Dz ?_
   refine DrawM.q 0 [(3, none)] rfl rfl Kz rfl rfl (fun Hc kq hkq hF hSb hfr => AOp.move' (.inl rfl) rfl Vz) ?_
   refine DrawM.q 1 [(0, none)] rfl rfl Kz rfl rfl (fun Hc kq hkq hF hSb hfr => AOp.move' (.inl rfl) rfl Vz) ?_
   refine DrawM.q 2 [(4, none)] rfl rfl Kz rfl rfl (fun Hc kq hkq hF hSb hfr => AOp.move' (.inl rfl) rfl Vz) ?_
   refine DrawM.q 3 [(22, some 1), (23, some 2)] rfl rfl Kz rfl rfl (fun Hc kq hkq hF hSb hfr => have tSb := SubS.of hSb; AOp.indexP (aslcAt_sub subA hq8_3) rfl rfl rfl Vz) ?_
   refine DrawM.q 4 [(24, some 3)] rfl rfl Kz rfl rfl (fun Hc kq hkq hF hSb hfr => have tSb := SubS.of hSb; AOp.fieldP (hp8_3.sub subA) rfl Dz (Nat.le_of_ble_eq_true rfl) rfl Vz) ?_
   refine DrawM.q 5 [(25, some 4)] rfl rfl Kz rfl rfl (fun Hc kq hkq hF hSb hfr => have tSb := SubS.of hSb; AOp.loadP1 (hp8_3.sub subA) rfl rfl rfl Vz) ?_
   refine DrawM.q 6 [(26, some 5)] rfl rfl Kz rfl rfl (fun Hc kq hkq hF hSb hfr => AOp.toU8 rfl rfl Vz) ?_
   refine DrawM.q 7 [(5, none)] rfl rfl Kz rfl rfl (fun Hc kq hkq hF hSb hfr => AOp.move' (.inl rfl) rfl Vz) ?_
   refine DrawM.q 8 [(28, some 7)] rfl rfl Kz rfl rfl (fun Hc kq hkq hF hSb hfr => AOp.toU8 rfl rfl Vz) ?_
   refine DrawM.q 9 [(0, none)] rfl rfl Kz rfl rfl (fun Hc kq hkq hF hSb hfr => AOp.move' (.inl rfl) rfl Vz) ?_
   refine DrawM.q 10 [(4, none)] rfl rfl Kz rfl rfl (fun Hc kq hkq hF hSb hfr => AOp.move' (.inl rfl) rfl Vz) ?_
   refine DrawM.q 11 [(30, some 9), (31, some 10)] rfl rfl Kz rfl rfl (fun Hc kq hkq hF hSb hfr => have tSb := SubS.of hSb; AOp.indexP (aslcAt_sub subA hq8_11) rfl rfl rfl Vz) ?_
   refine DrawM.q 12 [(32, some 11)] rfl rfl Kz rfl rfl (fun Hc kq hkq hF hSb hfr => have tSb := SubS.of hSb; AOp.fieldP (hp8_11.sub subA) rfl Dz (Nat.le_of_ble_eq_true rfl) rfl Vz) ?_
   refine DrawM.q 13 [(33, some 12)] rfl rfl Kz rfl rfl (fun Hc kq hkq hF hSb hfr => have tSb := SubS.of hSb; AOp.loadP1 (hp8_11.sub subA) rfl rfl rfl Vz) ?_
   refine DrawM.q 14 [(34, some 13)] rfl rfl Kz rfl rfl (fun Hc kq hkq hF hSb hfr => AOp.bin' rfl rfl rfl rfl Vz) ?_
   refine DrawM.q 15 [(35, some 14)] rfl rfl Kz rfl rfl (fun Hc kq hkq hF hSb hfr => AOp.toU8 rfl rfl Vz) ?_
   refine DrawM.new 16 _ _ [(27, some 6), (29, some 8), (36, some 15)] rfl Dz rfl Kz rfl rfl RenOk.grow (fun Hc kq hkq hF hSb hfr => AOp.buildB [_, _, _] rfl Dz rfl rfl ⟨kq, Nat.le_refl _, Nat.lt_succ_self _, rfl, rfl⟩) ?_
   refine DrawM.done fun kq hkq => ?_
   show aOps _ _ _ _ [17, 18] ⟨_, (upd _ (_ + 16) _), _⟩
   refine Oz rfl rfl rfl ?_
   refine AOp.appendB (ps := ?ns9) rfl rfl rfl ?hn9 ?hsrc9 ?ht9 ?hw9 ?hz9 ?hR9
   (case hn9 => exact hpA)
   (case hsrc9 => refine srcOf_gb (e := 5) ?e19; (case e19 => exact hpA))
   (case ht9 => exact srcOk_sl)
   (case hw9 => (first | omega | (simp only [List.length_cons, List.length_nil]; omega) | (simp only [List.length_append, List.length_cons, List.length_nil]; omega) | (simp; omega)))
   (case hz9 => (first | omega | (simp only [List.length_cons, List.length_nil]; omega) | (simp only [List.length_append, List.length_cons, List.length_nil]; omega) | (simp; omega)))
   refine Nz ?_
   refine Ez ?_
   refine Rz [0, 1, 2] Kz rfl ?_
   refine Mz ?_
   refine Oz rfl rfl rfl (AOp.add rfl rfl rfl (i64_wrap Wz Wz) ?_)
   refine Nz ?_
   refine Ez ?_
   have e4 : (byteI (cols.length : Int) :: (cols.take (i0 + 1)).flatMap colB) = (byteI (cols.length : Int) :: (cols.take i0).flatMap colB) ++ [byteI (cols.getD i0 (⟨0, false, 0⟩ : Col)).kind, 1, byteI (IntKind.i64.wrap ((cols.getD i0 (⟨0, false, 0⟩ : Col)).way + 1))] := by rw [schB_take cols (⟨0, false, 0⟩ : Col) Wz, colB, if_pos cnull]; simp
   first | refine thenA_n ?_ | simp only [thenA, blockA, if_true]
   exact NextR.mk Wz Wz (.cons rfl (.cons (show _ = some (sl k _) by rw [e4]; rfl) .nil)) (.cons rfl (.cons rfl .nil)) (by exact sub_over_eq (y := some (gb (byteI (cols.length : Int) :: (cols.take i0).flatMap colB))) subA (by rw [e4] <;> rfl)) trivial
  ·try simp only [Cz] at c1
   have cnull := c1
   refine ACode.skip ?_
   have hcl := colB_len (cols.take i0)
   have htl : (cols.take i0).length ≤ cols.length := by rw [List.length_take]; omega
   have hbl : (byteI (cols.length : Int) :: (cols.take i0).flatMap colB).length = ((cols.take i0).flatMap colB).length + 1 := rfl
   obtain ⟨n8_3, o8_3, s8_3, hq8_3, hp8_3⟩ := slcElG (fun c => (cc c).cells.toList) (⟨0, false, 0⟩ : Col) hs.cells (fun _ => rfl) Dz (show i0 < cols.length by omega)
   obtain ⟨n8_11, o8_11, s8_11, hq8_11, hp8_11⟩ := slcElG (fun c => (cc c).cells.toList) (⟨0, false, 0⟩ : Col) hs.cells (fun _ => rfl) Dz (show i0 < cols.length by omega)
   refine ACode.drawM0 17 [(0, 21), (1, 22), (2, 23), (3, 24), (4, 25), (5, 26), (6, 27), (7, 28), (8, 29), (9, 30), (10, 31), (11, 32), (12, 33), (13, 34), (14, 35), (15, 36), (16, 37)] [16] [([], []), ([], []), ([], []), ([], []), ([], []), ([], []), ([], []), ([], []), ([], []), ([], []), ([], []), ([], []), ([], []), ([], []), ([], []), ([], []), ([16], [])] mixed Kz Kz Dz ?_
   refine DrawM.q 0 [(3, none)] rfl rfl Kz rfl rfl (fun Hc kq hkq hF hSb hfr => AOp.move' (.inl rfl) rfl Vz) ?_
   refine DrawM.q 1 [(0, none)] rfl rfl Kz rfl rfl (fun Hc kq hkq hF hSb hfr => AOp.move' (.inl rfl) rfl Vz) ?_
   refine DrawM.q 2 [(4, none)] rfl rfl Kz rfl rfl (fun Hc kq hkq hF hSb hfr => AOp.move' (.inl rfl) rfl Vz) ?_
   refine DrawM.q 3 [(22, some 1), (23, some 2)] rfl rfl Kz rfl rfl (fun Hc kq hkq hF hSb hfr => have tSb := SubS.of hSb; AOp.indexP (aslcAt_sub subA hq8_3) rfl rfl rfl Vz) ?_
   refine DrawM.q 4 [(24, some 3)] rfl rfl Kz rfl rfl (fun Hc kq hkq hF hSb hfr => have tSb := SubS.of hSb; AOp.fieldP (hp8_3.sub subA) rfl Dz (Nat.le_of_ble_eq_true rfl) rfl Vz) ?_
   refine DrawM.q 5 [(25, some 4)] rfl rfl Kz rfl rfl (fun Hc kq hkq hF hSb hfr => have tSb := SubS.of hSb; AOp.loadP1 (hp8_3.sub subA) rfl rfl rfl Vz) ?_
   refine DrawM.q 6 [(26, some 5)] rfl rfl Kz rfl rfl (fun Hc kq hkq hF hSb hfr => AOp.toU8 rfl rfl Vz) ?_
   refine DrawM.q 7 [(5, none)] rfl rfl Kz rfl rfl (fun Hc kq hkq hF hSb hfr => AOp.move' (.inl rfl) rfl Vz) ?_
   refine DrawM.q 8 [(28, some 7)] rfl rfl Kz rfl rfl (fun Hc kq hkq hF hSb hfr => AOp.toU8 rfl rfl Vz) ?_
   refine DrawM.q 9 [(0, none)] rfl rfl Kz rfl rfl (fun Hc kq hkq hF hSb hfr => AOp.move' (.inl rfl) rfl Vz) ?_
   refine DrawM.q 10 [(4, none)] rfl rfl Kz rfl rfl (fun Hc kq hkq hF hSb hfr => AOp.move' (.inl rfl) rfl Vz) ?_
   refine DrawM.q 11 [(30, some 9), (31, some 10)] rfl rfl Kz rfl rfl (fun Hc kq hkq hF hSb hfr => have tSb := SubS.of hSb; AOp.indexP (aslcAt_sub subA hq8_11) rfl rfl rfl Vz) ?_
   refine DrawM.q 12 [(32, some 11)] rfl rfl Kz rfl rfl (fun Hc kq hkq hF hSb hfr => have tSb := SubS.of hSb; AOp.fieldP (hp8_11.sub subA) rfl Dz (Nat.le_of_ble_eq_true rfl) rfl Vz) ?_
   refine DrawM.q 13 [(33, some 12)] rfl rfl Kz rfl rfl (fun Hc kq hkq hF hSb hfr => have tSb := SubS.of hSb; AOp.loadP1 (hp8_11.sub subA) rfl rfl rfl Vz) ?_
   refine DrawM.q 14 [(34, some 13)] rfl rfl Kz rfl rfl (fun Hc kq hkq hF hSb hfr => AOp.bin' rfl rfl rfl rfl Vz) ?_
   refine DrawM.q 15 [(35, some 14)] rfl rfl Kz rfl rfl (fun Hc kq hkq hF hSb hfr => AOp.toU8 rfl rfl Vz) ?_
   refine DrawM.new 16 _ _ [(27, some 6), (29, some 8), (36, some 15)] rfl Dz rfl Kz rfl rfl RenOk.grow (fun Hc kq hkq hF hSb hfr => AOp.buildB [_, _, _] rfl Dz rfl rfl ⟨kq, Nat.le_refl _, Nat.lt_succ_self _, rfl, rfl⟩) ?_
   refine DrawM.done fun kq hkq => ?_
   show aOps _ _ _ _ [17, 18] ⟨_, (upd _ (_ + 16) _), _⟩
   refine Oz rfl rfl rfl ?_
   refine AOp.appendB (ps := ?ns10) rfl rfl rfl ?hn10 ?hsrc10 ?ht10 ?hw10 ?hz10 ?hR10
   (case hn10 => exact hpA)
   (case hsrc10 => refine srcOf_gb (e := 5) ?e110; (case e110 => exact hpA))
   (case ht10 => exact srcOk_sl)
   (case hw10 => (first | omega | (simp only [List.length_cons, List.length_nil]; omega) | (simp only [List.length_append, List.length_cons, List.length_nil]; omega) | (simp; omega)))
   (case hz10 => (first | omega | (simp only [List.length_cons, List.length_nil]; omega) | (simp only [List.length_append, List.length_cons, List.length_nil]; omega) | (simp; omega)))
   refine Nz ?_
   refine Ez ?_
   refine Rz [0, 1, 2] Kz rfl ?_
   refine Mz ?_
   refine Oz rfl rfl rfl (AOp.add rfl rfl rfl (i64_wrap Wz Wz) ?_)
   refine Nz ?_
   refine Ez ?_
   have e4 : (byteI (cols.length : Int) :: (cols.take (i0 + 1)).flatMap colB) = (byteI (cols.length : Int) :: (cols.take i0).flatMap colB) ++ [byteI (cols.getD i0 (⟨0, false, 0⟩ : Col)).kind, 0, byteI (IntKind.i64.wrap ((cols.getD i0 (⟨0, false, 0⟩ : Col)).way + 1))] := by rw [schB_take cols (⟨0, false, 0⟩ : Col) Wz, colB, if_neg (by rw [cnull]; decide)]; simp
   first | refine thenA_n ?_ | simp only [thenA, blockA, if_true]
   exact NextR.mk Wz Wz (.cons rfl (.cons (show _ = some (sl k _) by rw [e4]; rfl) .nil)) (.cons rfl (.cons rfl .nil)) (by exact sub_over_eq (y := some (gb (byteI (cols.length : Int) :: (cols.take i0).flatMap colB))) subA (by rw [e4] <;> rfl)) trivial
 ·try simp only [Cz] at c0
  refine ACode.exit ?_
  refine Sz ?_
  refine Rz [0, 1] Kz rfl ?_
  refine Mz ?_
  refine Nz ?_
  refine Ez ?_
  refine ACode.ret ?_
  have e0 : cols.take i0 = cols := List.take_of_length_le Wz
  rw [e0] at hsL0
  exact RetQ.one (H'' := upd H k (some (gb (schB cols)))) rfl rfl subA stays_upd (fun hk => ⟨k, by omega, by omega, by rw [e0]; rfl, rfl⟩)
end

end Go.Proofs.YteoofihjmldllaaGreatDoor
