/- Contracts over the abstract states: the same bytes; great rows; schemas as bytes; bytes put behind. -/
import Derived.Test.YteoofihjmldllaaDoorV9
set_option linter.unusedVariables false
set_option linter.unusedSimpArgs false
set_option maxRecDepth 100000
namespace Go.Proofs.YteoofihjmldllaaDoor
open Go Go.Ab

section
variable (NG : Nat) (H : Hp) (k : Nat)
abbrev V0_ : Val := ⟨0, 0, ⟨#[]⟩⟩
theorem getD_el {α : Type} {l : List α} {d : α} {i : Nat} (h : i < l.length) : l.getD i d = l[i] := by
  rw [List.getD_eq_getElem?_getD, List.getElem?_eq_getElem h]; rfl
theorem take_el {α : Type} (l : List α) (d : α) {i : Nat} (h : i < l.length) : l.take (i + 1) = l.take i ++ [l.getD i d] := by
  rw [List.take_succ_eq_append_getElem h, getD_el h]
theorem slcElG {α : Type} {z i : Nat} {H : Hp} {v : Value} (f : α → List Value) {l : List α} (d : α) (h : slcCells H z v = some (l.flatMap f)) (hz : ∀ a, (f a).length = z) (h0 : 0 < z) (hi : i < l.length) :
    ∃ n off sp, aslcAt H z i v = some (ptr n off sp) ∧ PAt H n off sp (f (l.getD i d)) := by
  rw [getD_el hi]
  exact slcEl h hz h0 hi
/-- The values are slices that show these rows. -/
structure Rws (H : Hp) (vs : List Value) (rows : List (List Val)) : Prop where
  len : vs.length = rows.length
  at_ : ∀ i, i < rows.length → ∃ A c, vs.getD i undef = .slice A (rows.getD i []).length c ∧ SLC H 3 A (rows.getD i []).length c (vals3 (rows.getD i []))
theorem Rws.sub {H H' : Hp} {vs : List Value} {rows : List (List Val)} (h : Rws H vs rows) (hs : Ab.Sub H H') : Rws H' vs rows :=
  ⟨h.len, fun i hi => by
    obtain ⟨A, c, h1, h2⟩ := h.at_ i hi
    exact ⟨A, c, h1, h2.sub hs⟩⟩
theorem same_b (xs ys : List UInt8) (A B : Option Addr) (c d : Nat) (hx : SLC H 1 A xs.length c (xs.map bv)) (hy : SLC H 1 B ys.length d (ys.map bv)) (hl : xs.length ≤ 9223372036854775807) : ACalls Tryd.prog NG 27 [.slice A xs.length c, .slice B ys.length d] H k (Same H k (.bool (decide (xs = ys)))) := by
  refine ACalls.fresh fun hf => ?_
  refine ACalls.body Tryd.func27 rfl (Nat.le_of_ble_eq_true rfl) ?_
  refine ACode.seq ?_
  refine ACode.region' [0] (by kernel_rfl) rfl ?_
  refine aOps_1 rfl rfl rfl (AOp.move' (.inr rfl) rfl ?_)
  refine aOps_end ?_
  show ACode _ _ _ _ _ _
  refine ACode.seq ?_
  refine ACode.seq ?_
  refine ACode.region' [0, 1, 2, 3, 4] (by kernel_rfl) rfl ?_
  refine aOps_1 rfl rfl rfl (AOp.move' (.inl rfl) rfl ?_)
  refine aOps_1 rfl rfl rfl (AOp.len' rfl rfl ?_)
  refine aOps_1 rfl rfl rfl (AOp.move' (.inl rfl) rfl ?_)
  refine aOps_1 rfl rfl rfl (AOp.len' rfl rfl ?_)
  refine aOps_1 rfl rfl rfl (AOp.bin' rfl rfl rfl rfl ?_)
  refine aOps_end ?_
  show ACode _ _ _ _ _ _
  refine ACode.cond rfl (fun c0 => ?_) (fun c0 => ?_)
  · try simp only [decide_eq_true_eq, decide_eq_false_iff_not, beq_iff_eq, beq_eq_false_iff_ne, ne_eq, bne_iff_ne, Bool.not_eq_true', Bool.not_eq_false', Int.not_lt, Int.not_le, gt_iff_lt, ge_iff_le, bne_eq_false_iff_eq, Bool.not_eq_eq_eq_not, Bool.not_true, Bool.not_false] at c0
    refine ACode.seq ?_
    refine ACode.region' [0] (by kernel_rfl) rfl ?_
    refine aOps_1 rfl rfl rfl (AOp.move' (.inr rfl) rfl ?_)
    refine aOps_end ?_
    show ACode _ _ _ _ _ _
    refine ACode.ret ?_
    exact RetQ.one rfl rfl subA stays (fun hk => ⟨(by rw [decide_eq_false]; intro e; subst e; omega), rfl, by omega⟩)
  · try simp only [decide_eq_true_eq, decide_eq_false_iff_not, beq_iff_eq, beq_eq_false_iff_ne, ne_eq, bne_iff_ne, Bool.not_eq_true', Bool.not_eq_false', Int.not_lt, Int.not_le, gt_iff_lt, ge_iff_le, bne_eq_false_iff_eq, Bool.not_eq_eq_eq_not, Bool.not_true, Bool.not_false] at c0
    refine ACode.skip ?_
    show ACode _ _ _ _ _ _
    refine ACode.seq ?_
    refine ACode.seq ?_
    refine ACode.region' [0] (by kernel_rfl) rfl ?_
    refine aOps_1 rfl rfl rfl (AOp.move' (.inr rfl) rfl ?_)
    refine aOps_end ?_
    show ACode _ _ _ _ _ _
    refine ACode.block ?_
    refine ACode.count0 (fun i => [(5, .int .i64 (i : Int))]) [(0, _), (1, _)] (xs.length) (fun i => xs.take i = ys.take i) (.cons rfl .nil) (.cons rfl (.cons rfl .nil)) rfl (fun i0 kL0 HL0 hiL0 hkL0 hsL0 hfL0 hxL0 => ?_)
    show ACode _ _ _ _ _ ⟨_, _, _⟩
    have tsL0 := SubS.of hsL0
    refine ACode.seq ?_
    refine ACode.seq ?_
    refine ACode.region' [0, 1, 2, 3] (by kernel_rfl) rfl ?_
    refine aOps_1 rfl rfl rfl (AOp.move' (.inl rfl) rfl ?_)
    refine aOps_1 rfl rfl rfl (AOp.move' (.inl rfl) rfl ?_)
    refine aOps_1 rfl rfl rfl (AOp.len' rfl rfl ?_)
    refine aOps_1 rfl rfl rfl (AOp.bin' rfl rfl rfl rfl ?_)
    refine aOps_end ?_
    show ACode _ _ _ _ _ _
    refine ACode.cond rfl (fun c1 => ?_) (fun c1 => ?_)
    · try simp only [decide_eq_true_eq, decide_eq_false_iff_not, beq_iff_eq, beq_eq_false_iff_ne, ne_eq, bne_iff_ne, Bool.not_eq_true', Bool.not_eq_false', Int.not_lt, Int.not_le, gt_iff_lt, ge_iff_le, bne_eq_false_iff_eq, Bool.not_eq_eq_eq_not, Bool.not_true, Bool.not_false] at c1
      refine ACode.skip ?_
      show ACode _ _ _ _ _ _
      refine ACode.seq ?_
      refine ACode.block ?_
      refine ACode.seq ?_
      have hlen : xs.length = ys.length := by omega
      obtain ⟨n6_2, o6_2, s6_2, hq6_2, hp6_2⟩ := slcElD bv (i := i0) 0 hx.cells (by omega)
      obtain ⟨n6_6, o6_6, s6_6, hq6_6, hp6_6⟩ := slcElD bv (i := i0) 0 hy.cells (by omega)
      refine ACode.draw' 9 [(0, 17), (1, 18), (2, 19), (3, 20), (4, 21), (5, 22), (6, 23), (7, 24), (8, 25)] mixed (by kernel_rfl) ?_
      refine Draw.step [(0, none)] rfl (by kernel_rfl) rfl (fun kq hkq => AOp.move' (.inl rfl) rfl ⟨rfl, rfl, Nat.le_refl _⟩) ?_
      refine Draw.step [(5, none)] rfl (by kernel_rfl) rfl (fun kq hkq => AOp.move' (.inl rfl) rfl ⟨rfl, rfl, Nat.le_refl _⟩) ?_
      refine Draw.step [(17, some 0), (18, some 1)] rfl (by kernel_rfl) rfl (fun kq hkq => AOp.indexP (aslcAt_sub subA hq6_2) rfl rfl rfl ⟨rfl, rfl, Nat.le_refl _⟩) ?_
      refine Draw.step [(19, some 2)] rfl (by kernel_rfl) rfl (fun kq hkq => AOp.loadP0 (hp6_2.sub subA) rfl rfl rfl ⟨rfl, rfl, Nat.le_refl _⟩) ?_
      refine Draw.step [(1, none)] rfl (by kernel_rfl) rfl (fun kq hkq => AOp.move' (.inl rfl) rfl ⟨rfl, rfl, Nat.le_refl _⟩) ?_
      refine Draw.step [(5, none)] rfl (by kernel_rfl) rfl (fun kq hkq => AOp.move' (.inl rfl) rfl ⟨rfl, rfl, Nat.le_refl _⟩) ?_
      refine Draw.step [(21, some 4), (22, some 5)] rfl (by kernel_rfl) rfl (fun kq hkq => AOp.indexP (aslcAt_sub subA hq6_6) rfl rfl rfl ⟨rfl, rfl, Nat.le_refl _⟩) ?_
      refine Draw.step [(23, some 6)] rfl (by kernel_rfl) rfl (fun kq hkq => AOp.loadP0 (hp6_6.sub subA) rfl rfl rfl ⟨rfl, rfl, Nat.le_refl _⟩) ?_
      refine Draw.step [(20, some 3), (24, some 7)] rfl (by kernel_rfl) rfl (fun kq hkq => AOp.bin' rfl rfl rfl rfl ⟨rfl, rfl, Nat.le_refl _⟩) ?_
      refine Draw.done fun kq hkq => ?_
      show aOps _ _ _ _ [] ⟨_, _, _⟩
      refine aOps_end ?_
      show ACode _ _ _ _ _ _
      refine ACode.cond rfl (fun c2 => ?_) (fun c2 => ?_)
      · try simp only [decide_eq_true_eq, decide_eq_false_iff_not, beq_iff_eq, beq_eq_false_iff_ne, ne_eq, bne_iff_ne, Bool.not_eq_true', Bool.not_eq_false', Int.not_lt, Int.not_le, gt_iff_lt, ge_iff_le, bne_eq_false_iff_eq, Bool.not_eq_eq_eq_not, Bool.not_true, Bool.not_false] at c2
        refine ACode.seq ?_
        refine ACode.region' [0] (by kernel_rfl) rfl ?_
        refine aOps_1 rfl rfl rfl (AOp.move' (.inr rfl) rfl ?_)
        refine aOps_end ?_
        show ACode _ _ _ _ _ _
        refine ACode.ret ?_
        exact RetQ.one rfl rfl subA stays (fun hk => ⟨(by rw [decide_eq_false]; intro e; subst e; exact c2 rfl), rfl, by omega⟩)
      · try simp only [decide_eq_true_eq, decide_eq_false_iff_not, beq_iff_eq, beq_eq_false_iff_ne, ne_eq, bne_iff_ne, Bool.not_eq_true', Bool.not_eq_false', Int.not_lt, Int.not_le, gt_iff_lt, ge_iff_le, bne_eq_false_iff_eq, Bool.not_eq_eq_eq_not, Bool.not_true, Bool.not_false] at c2
        refine ACode.skip ?_
        show ACode _ _ _ _ _ _
        refine ACode.region' [0, 1, 2] (by kernel_rfl) rfl ?_
        refine aOps_1 rfl rfl rfl (AOp.move' (.inl rfl) rfl ?_)
        refine aOps_1 rfl rfl rfl (AOp.add rfl rfl rfl (i64_wrap (by omega) (by omega)) ?_)
        refine aOps_1 rfl rfl rfl (AOp.move' (.inr rfl) rfl ?_)
        refine aOps_end ?_
        first | refine thenA_n ?_ | simp only [thenA, blockA, if_true]
        exact NextR.mk (by omega) (by omega) (.cons rfl .nil) (.cons rfl (.cons rfl .nil)) subA (by rw [take_el xs 0 (by omega), take_el ys 0 (by omega), hxL0, bv_inj' c2])
    · try simp only [decide_eq_true_eq, decide_eq_false_iff_not, beq_iff_eq, beq_eq_false_iff_ne, ne_eq, bne_iff_ne, Bool.not_eq_true', Bool.not_eq_false', Int.not_lt, Int.not_le, gt_iff_lt, ge_iff_le, bne_eq_false_iff_eq, Bool.not_eq_eq_eq_not, Bool.not_true, Bool.not_false] at c1
      refine ACode.exit ?_
      show ACode _ _ _ _ _ _
      refine ACode.seq ?_
      refine ACode.region' [0] (by kernel_rfl) rfl ?_
      refine aOps_1 rfl rfl rfl (AOp.move' (.inr rfl) rfl ?_)
      refine aOps_end ?_
      show ACode _ _ _ _ _ _
      refine ACode.ret ?_
      exact RetQ.one rfl rfl subA stays (fun hk => ⟨(by rw [decide_eq_true]; have e1 := List.take_of_length_le (l := xs) (i := i0) (by omega); have e2 := List.take_of_length_le (l := ys) (i := i0) (by omega); rw [← e1, ← e2]; exact hxL0), rfl, by omega⟩)

end

end Go.Proofs.YteoofihjmldllaaDoor
