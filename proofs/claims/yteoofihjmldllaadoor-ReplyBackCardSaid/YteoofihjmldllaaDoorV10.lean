/- Contracts over the abstract states: the same bytes; great rows; schemas as bytes; bytes put behind. -/
import Derived.Test.YteoofihjmldllaaDoorV9
set_option linter.unusedVariables false
set_option linter.unusedSimpArgs false
set_option maxRecDepth 100000
namespace Go.Proofs.YteoofihjmldllaaDoor
open Go Go.Ab

section
variable (NG : Nat) (H : Hp) (k : Nat)
theorem getD_el {α : Type} {l : List α} {d : α} {i : Nat} (h : i < l.length) : l.getD i d = l[i] := by
 rw [List.getD_eq_getElem?_getD, List.getElem?_eq_getElem h]; rfl
theorem take_el {α : Type} (l : List α) (d : α) {i : Nat} (h : i < l.length) : l.take (i + 1) = l.take i ++ [l.getD i d] := by
 rw [List.take_succ_eq_append_getElem h, getD_el h]
theorem slcElG {α : Type} {z i : Nat} {H : Hp} {v : Value} (f : α → List Value) {l : List α} (d : α) (h : slcCells H z v = some (l.flatMap f)) (hz : ∀ a, (f a).length = z) (h0 : 0 < z) (hi : i < l.length) :
  ∃ n off sp, aslcAt H z i v = some (ptr n off sp) ∧ PAt H n off sp (f (l.getD i d)) := by
 rw [getD_el hi]
 exact slcEl h hz h0 hi
def colB (c : Col) : List UInt8 := [byteI c.kind, if c.null then 1 else 0, byteI (IntKind.i64.wrap (c.way + 1))]
def schB (l : List Col) : List UInt8 := byteI (l.length : Int) :: l.flatMap colB
theorem schB_take (l : List Col) (d : Col) {i : Nat} (h : i < l.length) : (l.take (i + 1)).flatMap colB = (l.take i).flatMap colB ++ colB (l.getD i d) := by
 rw [take_el l d h, List.flatMap_append]
 simp
theorem colB_len (l : List Col) : (l.flatMap colB).length = l.length * 3 := by
 induction l with
 | nil => rfl
 | cons a l ih =>
  rw [List.flatMap_cons, List.length_append, ih, List.length_cons]
  show 3 + _ = _
  omega

theorem same_b (xs ys : List UInt8) (A B : Option Addr) (c d : Nat) (hx : SLC H 1 A xs.length c (xs.map bv)) (hy : SLC H 1 B ys.length d (ys.map bv)) (hl : xs.length ≤ 9223372036854775807) : ACalls Tryd.prog NG 27 [.slice A xs.length c, .slice B ys.length d] H k (Same H k (.bool (decide (xs = ys)))) := by
 refine ACalls.fresh fun hf => ?_
 refine ACalls.body Tryd.func27 rfl (Nat.le_of_ble_eq_true rfl) ?_
 refine Sz ?_
 refine Rz [0] Kz rfl ?_
 refine Nz ?_
 refine Ez ?_
 refine Sz ?_
 refine Sz ?_
 refine Rz [0, 1, 2, 3, 4] Kz rfl ?_
 refine Mz ?_
 refine Oz rfl rfl rfl (AOp.len' rfl rfl ?_)
 refine Mz ?_
 refine Oz rfl rfl rfl (AOp.len' rfl rfl ?_)
 refine Oz rfl rfl rfl (AOp.bin' rfl rfl rfl rfl ?_)
 refine Ez ?_
 refine ACode.cond rfl (fun c0 => ?_) (fun c0 => ?_)
 ·try simp only [Cz] at c0
  refine Sz ?_
  refine Rz [0] Kz rfl ?_
  refine Nz ?_
  refine Ez ?_
  refine ACode.ret ?_
  exact RetQ.one rfl rfl subA stays (fun hk => ⟨(by rw [decide_eq_false]; intro e; subst e; omega), rfl, by omega⟩)
 ·try simp only [Cz] at c0
  refine ACode.skip ?_
  refine Sz ?_
  refine Sz ?_
  refine Rz [0] Kz rfl ?_
  refine Nz ?_
  refine Ez ?_
  refine ACode.block ?_
  refine ACode.count0 (fun i => [(5, .int .i64 (i : Int))]) [(0, _), (1, _)] (xs.length) (fun i => xs.take i = ys.take i) (.cons rfl .nil) (.cons rfl (.cons rfl .nil)) rfl (fun i0 kL0 HL0 hiL0 hkL0 hsL0 hfL0 hxL0 => ?_)
  show ACode _ _ _ _ _ ⟨_, _, _⟩
  have tsL0 := SubS.of hsL0
  refine Sz ?_
  refine Sz ?_
  refine Rz [0, 1, 2, 3] Kz rfl ?_
  refine Mz ?_
  refine Mz ?_
  refine Oz rfl rfl rfl (AOp.len' rfl rfl ?_)
  refine Oz rfl rfl rfl (AOp.bin' rfl rfl rfl rfl ?_)
  refine Ez ?_
  refine ACode.cond rfl (fun c1 => ?_) (fun c1 => ?_)
  ·try simp only [Cz] at c1
   refine ACode.skip ?_
   refine Sz ?_
   refine ACode.block ?_
   refine Sz ?_
   have hlen : xs.length = ys.length := by omega
   obtain ⟨n6_2, o6_2, s6_2, hq6_2, hp6_2⟩ := slcElD bv (i := i0) 0 hx.cells Wz
   obtain ⟨n6_6, o6_6, s6_6, hq6_6, hp6_6⟩ := slcElD bv (i := i0) 0 hy.cells Wz
   refine ACode.draw' 9 [(0, 17), (1, 18), (2, 19), (3, 20), (4, 21), (5, 22), (6, 23), (7, 24), (8, 25)] mixed Kz ?_
   refine Draw.step [(0, none)] rfl Kz rfl (fun kq hkq => AOp.move' (.inl rfl) rfl Vz) ?_
   refine Draw.step [(5, none)] rfl Kz rfl (fun kq hkq => AOp.move' (.inl rfl) rfl Vz) ?_
   refine Draw.step [(17, some 0), (18, some 1)] rfl Kz rfl (fun kq hkq => AOp.indexP (aslcAt_sub subA hq6_2) rfl rfl rfl Vz) ?_
   refine Draw.step [(19, some 2)] rfl Kz rfl (fun kq hkq => AOp.loadP0 (hp6_2.sub subA) rfl rfl rfl Vz) ?_
   refine Draw.step [(1, none)] rfl Kz rfl (fun kq hkq => AOp.move' (.inl rfl) rfl Vz) ?_
   refine Draw.step [(5, none)] rfl Kz rfl (fun kq hkq => AOp.move' (.inl rfl) rfl Vz) ?_
   refine Draw.step [(21, some 4), (22, some 5)] rfl Kz rfl (fun kq hkq => AOp.indexP (aslcAt_sub subA hq6_6) rfl rfl rfl Vz) ?_
   refine Draw.step [(23, some 6)] rfl Kz rfl (fun kq hkq => AOp.loadP0 (hp6_6.sub subA) rfl rfl rfl Vz) ?_
   refine Draw.step [(20, some 3), (24, some 7)] rfl Kz rfl (fun kq hkq => AOp.bin' rfl rfl rfl rfl Vz) ?_
   refine Draw.done fun kq hkq => ?_
   show aOps _ _ _ _ [] ⟨_, _, _⟩
   refine Ez ?_
   refine ACode.cond rfl (fun c2 => ?_) (fun c2 => ?_)
   ·try simp only [Cz] at c2
    refine Sz ?_
    refine Rz [0] Kz rfl ?_
    refine Nz ?_
    refine Ez ?_
    refine ACode.ret ?_
    exact RetQ.one rfl rfl subA stays (fun hk => ⟨(by rw [decide_eq_false]; intro e; subst e; exact c2 rfl), rfl, by omega⟩)
   ·try simp only [Cz] at c2
    refine ACode.skip ?_
    refine Rz [0, 1, 2] Kz rfl ?_
    refine Mz ?_
    refine Oz rfl rfl rfl (AOp.add rfl rfl rfl (i64_wrap Wz Wz) ?_)
    refine Nz ?_
    refine Ez ?_
    first | refine thenA_n ?_ | simp only [thenA, blockA, if_true]
    exact NextR.mk Wz Wz (.cons rfl .nil) (.cons rfl (.cons rfl .nil)) subA (by rw [take_el xs 0 Wz, take_el ys 0 Wz, hxL0, bv_inj' c2])
  ·try simp only [Cz] at c1
   refine ACode.exit ?_
   refine Sz ?_
   refine Rz [0] Kz rfl ?_
   refine Nz ?_
   refine Ez ?_
   refine ACode.ret ?_
   exact RetQ.one rfl rfl subA stays (fun hk => ⟨(by rw [decide_eq_true]; have e1 := List.take_of_length_le (l := xs) (i := i0) Wz; have e2 := List.take_of_length_le (l := ys) (i := i0) Wz; rw [← e1, ← e2]; exact hxL0), rfl, by omega⟩)

theorem putSchema_b (cols : List Col) (A : Option Addr) (c : Nat) (hs : SLC H 3 A cols.length c (cols3 cols)) (hl : cols.length ≤ 1099511627776) : ACalls Tryd.prog NG 65 [.slice A cols.length c] H k (NewB H k 5 (schB cols)) := by
 refine ACalls.fresh fun hf => ?_
 refine ACalls.body Tryd.func65 rfl (Nat.le_of_ble_eq_true rfl) ?_
 refine Sz ?_
 refine Rz [0] Kz rfl ?_
 refine Nz ?_
 refine Ez (Sz (Rz [0, 1, 2, 3, 4] Kz rfl ?_))
 refine Mz ?_
 refine Oz rfl rfl rfl (AOp.len' rfl rfl ?_)
 refine Oz rfl rfl rfl (AOp.toU8 rfl rfl ?_)
 refine Oz rfl rfl rfl (AOp.buildB [_] rfl Dz rfl rfl ?_)
 refine Nz ?_
 refine Ez ?_
 refine Sz ?_
 refine Sz ?_
 refine Rz [0, 1, 2] Kz rfl ?_
 refine Mz ?_
 refine Oz rfl rfl rfl (AOp.len' rfl rfl ?_)
 refine Mz ?_
 refine Ez ?_
 refine ACode.block ?_
 refine ACode.count (fun i => [(13, .int .i64 (i : Int)), (3, sl k (byteI (cols.length : Int) :: (cols.take i).flatMap colB).length)]) [(2, _), (11, _), (12, _)] (fun i => upd H k (some (gb (byteI (cols.length : Int) :: (cols.take i).flatMap colB)))) (cols.length) (fun _ => True) (.cons rfl (.cons rfl .nil)) Xz subA trivial (fun i0 kL0 HL0 hiL0 hkL0 hsL0 hfL0 hxL0 => ?_)
 show ACode _ _ _ _ _ ⟨_, _, _⟩
 have tsL0 := SubS.of hsL0
 refine Sz ?_
 refine Rz [0] Kz rfl ?_
 refine Oz rfl rfl rfl (AOp.bin' rfl rfl rfl rfl ?_)
 refine Ez ?_
 refine Sz ?_
 refine ACode.cond rfl (fun c0 => ?_) (fun c0 => ?_)
 ·try simp only [Cz] at c0
  refine ACode.skip ?_
  refine Sz ?_
  refine ACode.block ?_
  refine Sz ?_
  obtain ⟨n4_0, o4_0, s4_0, hq4_0, hp4_0⟩ := slcElG (fun c => (cc c).cells.toList) (⟨0, false, 0⟩ : Col) hs.cells (fun _ => rfl) Dz (show i0 < cols.length by omega)
  refine Rz [0, 1, 2, 3] Kz rfl ?_
  refine Oz rfl rfl rfl (AOp.indexP (aslcAt_sub subA hq4_0) rfl rfl rfl ?_)
  refine Oz rfl rfl rfl (AOp.loadPA (v := cc (cols.getD i0 (⟨0, false, 0⟩ : Col))) (hp4_0.sub subA) rfl rfl rfl rfl (by first | rfl | (simp; done)) Dz ?_)
  refine Oz rfl rfl rfl (AOp.alloc' rfl ?_)
  refine aOps_0 rfl rfl rfl ?_
  refine AOp.storeAll (b := ?b1) rfl rfl rfl ?hn1 ?hk1 rfl ?hw1 ?ho1 ?hl1 ?hR1
  (case hn1 => exact hpA)
  (case hk1 => rfl)
  (case hw1 => first | rfl | (simp; done))
  (case ho1 => first | rfl | decide | (simp; done))
  (case hl1 => first | rfl | (simp; done))
  refine Ez (Sz (Rz [0] Kz rfl ?_))
  refine Oz rfl rfl rfl (AOp.move' (v := bv 0) (.inr rfl) rfl ?_)
  refine Ez ?_
  refine Sz ?_
  refine Sz ?_
  refine Rz [0, 1] Kz rfl ?_
  refine Fz ?_
  refine Oz rfl rfl rfl ?_
  refine AOp.load1 (b := ?b2) (v := ?v2) rfl rfl ?hn2 ?hv2 ?hR2
  (case hn2 => exact hpA)
  (case hv2 => rfl)
  refine Ez ?_
  refine ACode.cond rfl (fun c1 => ?_) (fun c1 => ?_)
  ·try simp only [Cz] at c1
   have cnull := c1
   refine Rz [0] Kz rfl ?_
   refine Oz rfl rfl rfl (AOp.move' (v := bv 1) (.inr rfl) rfl ?_)
   refine Ez ?_
   have hcl := colB_len (cols.take i0)
   have htl : (cols.take i0).length ≤ cols.length := by rw [List.length_take]; omega
   have hbl : (byteI (cols.length : Int) :: (cols.take i0).flatMap colB).length = ((cols.take i0).flatMap colB).length + 1 := rfl
   refine Rz [0, 1, 2, 3, 4, 5, 6, 7, 8, 9, 10, 11] Kz rfl ?_
   refine Mz ?_
   refine Fz ?_
   refine Oz rfl rfl rfl ?_
   refine AOp.load1 (b := ?b3) (v := ?v3) rfl rfl ?hn3 ?hv3 ?hR3
   (case hn3 => exact hpA)
   (case hv3 => rfl)
   refine Oz rfl rfl rfl (AOp.toU8 rfl rfl ?_)
   refine Mz ?_
   refine Fz ?_
   refine Oz rfl rfl rfl ?_
   refine AOp.load1 (b := ?b4) (v := ?v4) rfl rfl ?hn4 ?hv4 ?hR4
   (case hn4 => exact hpA)
   (case hv4 => rfl)
   refine Oz rfl rfl rfl (AOp.bin' rfl rfl rfl rfl ?_)
   refine Oz rfl rfl rfl (AOp.toU8 rfl rfl ?_)
   refine Oz rfl rfl rfl (AOp.buildB [_, _, _] rfl Dz rfl rfl ?_)
   refine Oz rfl rfl rfl ?_
   refine AOp.appendB (ps := ?ns5) rfl rfl rfl ?hn5 ?hsrc5 ?ht5 ?hw5 ?hz5 ?hR5
   (case hn5 => exact hpA)
   (case hsrc5 => refine srcOf_gb (e := 5) ?e15; (case e15 => exact hpA))
   (case ht5 => exact srcOk_sl)
   (case hw5 => (first | omega | (simp only [List.length_cons, List.length_nil]; omega) | (simp only [List.length_append, List.length_cons, List.length_nil]; omega) | (simp; omega)))
   (case hz5 => (first | omega | (simp only [List.length_cons, List.length_nil]; omega) | (simp only [List.length_append, List.length_cons, List.length_nil]; omega) | (simp; omega)))
   refine Nz ?_
   refine Ez ?_
   refine Rz [0, 1] Kz rfl ?_
   refine Oz rfl rfl rfl (AOp.add rfl rfl rfl (i64_wrap Wz Wz) ?_)
   refine Mz ?_
   refine Ez ?_
   have e4 : (byteI (cols.length : Int) :: (cols.take (i0 + 1)).flatMap colB) = (byteI (cols.length : Int) :: (cols.take i0).flatMap colB) ++ [byteI (cols.getD i0 (⟨0, false, 0⟩ : Col)).kind, 1, byteI (IntKind.i64.wrap ((cols.getD i0 (⟨0, false, 0⟩ : Col)).way + 1))] := by rw [schB_take cols (⟨0, false, 0⟩ : Col) Wz, colB, if_pos cnull]; simp
   first | refine thenA_n ?_ | simp only [thenA, blockA, if_true]
   exact NextR.mk Wz Wz (.cons rfl (.cons (show _ = some (sl k _) by rw [e4]; rfl) .nil)) Xz (by exact sub_over_eq (y := some (gb (byteI (cols.length : Int) :: (cols.take i0).flatMap colB))) subA (by rw [e4] <;> rfl)) trivial
  ·try simp only [Cz] at c1
   have cnull := c1
   refine ACode.skip ?_
   have hcl := colB_len (cols.take i0)
   have htl : (cols.take i0).length ≤ cols.length := by rw [List.length_take]; omega
   have hbl : (byteI (cols.length : Int) :: (cols.take i0).flatMap colB).length = ((cols.take i0).flatMap colB).length + 1 := rfl
   refine Rz [0, 1, 2, 3, 4, 5, 6, 7, 8, 9, 10, 11] Kz rfl ?_
   refine Mz ?_
   refine Fz ?_
   refine Oz rfl rfl rfl ?_
   refine AOp.load1 (b := ?b6) (v := ?v6) rfl rfl ?hn6 ?hv6 ?hR6
   (case hn6 => exact hpA)
   (case hv6 => rfl)
   refine Oz rfl rfl rfl (AOp.toU8 rfl rfl ?_)
   refine Mz ?_
   refine Fz ?_
   refine Oz rfl rfl rfl ?_
   refine AOp.load1 (b := ?b7) (v := ?v7) rfl rfl ?hn7 ?hv7 ?hR7
   (case hn7 => exact hpA)
   (case hv7 => rfl)
   refine Oz rfl rfl rfl (AOp.bin' rfl rfl rfl rfl ?_)
   refine Oz rfl rfl rfl (AOp.toU8 rfl rfl ?_)
   refine Oz rfl rfl rfl (AOp.buildB [_, _, _] rfl Dz rfl rfl ?_)
   refine Oz rfl rfl rfl ?_
   refine AOp.appendB (ps := ?ns8) rfl rfl rfl ?hn8 ?hsrc8 ?ht8 ?hw8 ?hz8 ?hR8
   (case hn8 => exact hpA)
   (case hsrc8 => refine srcOf_gb (e := 5) ?e18; (case e18 => exact hpA))
   (case ht8 => exact srcOk_sl)
   (case hw8 => (first | omega | (simp only [List.length_cons, List.length_nil]; omega) | (simp only [List.length_append, List.length_cons, List.length_nil]; omega) | (simp; omega)))
   (case hz8 => (first | omega | (simp only [List.length_cons, List.length_nil]; omega) | (simp only [List.length_append, List.length_cons, List.length_nil]; omega) | (simp; omega)))
   refine Nz ?_
   refine Ez ?_
   refine Rz [0, 1] Kz rfl ?_
   refine Oz rfl rfl rfl (AOp.add rfl rfl rfl (i64_wrap Wz Wz) ?_)
   refine Mz ?_
   refine Ez ?_
   have e4 : (byteI (cols.length : Int) :: (cols.take (i0 + 1)).flatMap colB) = (byteI (cols.length : Int) :: (cols.take i0).flatMap colB) ++ [byteI (cols.getD i0 (⟨0, false, 0⟩ : Col)).kind, 0, byteI (IntKind.i64.wrap ((cols.getD i0 (⟨0, false, 0⟩ : Col)).way + 1))] := by rw [schB_take cols (⟨0, false, 0⟩ : Col) Wz, colB, if_neg (by rw [cnull]; decide)]; simp
   first | refine thenA_n ?_ | simp only [thenA, blockA, if_true]
   exact NextR.mk Wz Wz (.cons rfl (.cons (show _ = some (sl k _) by rw [e4]; rfl) .nil)) Xz (by exact sub_over_eq (y := some (gb (byteI (cols.length : Int) :: (cols.take i0).flatMap colB))) subA (by rw [e4] <;> rfl)) trivial
 ·try simp only [Cz] at c0
  refine ACode.exit ?_
  refine Sz ?_
  refine Rz [0, 1] Kz rfl ?_
  refine Mz ?_
  refine Nz ?_
  refine Ez ?_
  refine ACode.ret ?_
  have e0 : cols.take i0 = cols := List.take_of_length_le Wz
  rw [e0] at hsL0
  exact RetQ.one (H'' := upd H k (some (gb (schB cols)))) rfl rfl subA stays_upd (fun hk => ⟨k, by omega, by omega, by rw [e0]; rfl, rfl⟩)
end

end Go.Proofs.YteoofihjmldllaaDoor
