/- Contracts over the abstract states: the same predicates; PredTakes. -/
import Derived.Test.YteoofihjmldllaaDoorR11
import Derived.Test.YteoofihjmldllaaDoorR13
import Derived.Test.YteoofihjmldllaaDoorP6
set_option linter.unusedVariables false
set_option linter.unusedSimpArgs false
set_option maxRecDepth 100000
namespace Go.Proofs.YteoofihjmldllaaDoor
open Go Go.Ab

section
variable (H : Hp) (k : Nat)

theorem same_vc (vals : List Val) (A B : Option Addr) (c d : Nat) (hA : slcCells H 3 (.slice A vals.length c) = some (vals3 vals)) (hB : slcCells H 3 (.slice B vals.length d) = some (vals3 vals)) (hl : vals.length ≤ 9223372036854775807) (ho : ∀ v ∈ vals, v.ok) : ACalls Tryd.prog 3 42 [.slice A vals.length c, .slice B vals.length d] H k (Same H k (.bool true)) := by
  refine ACalls.fresh fun hf => ?_
  refine ACalls.body Tryd.func42 rfl (Nat.le_of_ble_eq_true rfl) ?_
  refine ACode.seq ?_
  refine ACode.region' [0] (by kernel_rfl) rfl ?_
  refine aOps_1 rfl rfl rfl (AOp.move' (.inr rfl) rfl ?_)
  refine aOps_end ?_
  show ACode _ _ _ _ _ _
  refine ACode.seq ?_
  refine ACode.seq ?_
  refine ACode.region' [0, 1, 2, 3, 4] (by kernel_rfl) rfl ?_
  refine aOps_1 rfl rfl rfl (AOp.move' (.inl rfl) rfl ?_)
  refine aOps_1 rfl rfl rfl (AOp.len' rfl rfl ?_)
  refine aOps_1 rfl rfl rfl (AOp.move' (.inl rfl) rfl ?_)
  refine aOps_1 rfl rfl rfl (AOp.len' rfl rfl ?_)
  refine aOps_1 rfl rfl rfl (AOp.bin' rfl rfl rfl rfl ?_)
  refine aOps_end ?_
  show ACode _ _ _ _ _ _
  refine ACode.cond rfl (fun c0 => absurd c0 (by simp)) (fun c0 => ?_)
  refine ACode.skip ?_
  show ACode _ _ _ _ _ _
  refine ACode.seq ?_
  refine ACode.seq ?_
  refine ACode.region' [0] (by kernel_rfl) rfl ?_
  refine aOps_1 rfl rfl rfl (AOp.move' (.inr rfl) rfl ?_)
  refine aOps_end ?_
  show ACode _ _ _ _ _ _
  refine ACode.block ?_
  refine ACode.count0 (fun i => [(5, .int .i64 (i : Int))]) [(0, _), (1, _)] (vals.length) (fun _ => True) (.cons rfl .nil) (.cons rfl (.cons rfl .nil)) trivial (fun i0 kL0 HL0 hiL0 hkL0 hsL0 hfL0 hxL0 => ?_)
  show ACode _ _ _ _ _ ⟨_, _, _⟩
  have tsL0 := SubS.of hsL0
  refine ACode.seq ?_
  refine ACode.seq ?_
  refine ACode.region' [0, 1, 2, 3] (by kernel_rfl) rfl ?_
  refine aOps_1 rfl rfl rfl (AOp.move' (.inl rfl) rfl ?_)
  refine aOps_1 rfl rfl rfl (AOp.move' (.inl rfl) rfl ?_)
  refine aOps_1 rfl rfl rfl (AOp.len' rfl rfl ?_)
  refine aOps_1 rfl rfl rfl (AOp.bin' rfl rfl rfl rfl ?_)
  refine aOps_end ?_
  show ACode _ _ _ _ _ _
  refine ACode.cond rfl (fun c1 => ?_) (fun c1 => ?_)
  · try simp only [decide_eq_true_eq, decide_eq_false_iff_not, beq_iff_eq, beq_eq_false_iff_ne, ne_eq, bne_iff_ne, Bool.not_eq_true', Bool.not_eq_false', Int.not_lt, Int.not_le, gt_iff_lt, ge_iff_le, bne_eq_false_iff_eq, Bool.not_eq_eq_eq_not, Bool.not_true, Bool.not_false] at c1
    have hi : i0 < vals.length := by omega
    have hok : (vals.getD i0 V0_).ok := ho _ (getD_mem hi)
    refine ACode.skip ?_
    show ACode _ _ _ _ _ _
    refine ACode.seq ?_
    refine ACode.block ?_
    refine ACode.seq ?_
    obtain ⟨n6_2, o6_2, s6_2, hq6_2, hp6_2⟩ := slcElG (fun a => (vv a).cells.toList) V0_ hA (fun _ => rfl) (by decide) hi
    obtain ⟨n6_6, o6_6, s6_6, hq6_6, hp6_6⟩ := slcElG (fun a => (vv a).cells.toList) V0_ hB (fun _ => rfl) (by decide) hi
    refine ACode.draw' 9 [(0, 17), (1, 18), (2, 19), (3, 20), (4, 21), (5, 22), (6, 23), (7, 24), (8, 25)] mixed (by kernel_rfl) ?_
    refine Draw.step [(0, none)] rfl (by kernel_rfl) rfl (fun kq hkq => AOp.move' (.inl rfl) rfl ⟨rfl, rfl, Nat.le_refl _⟩) ?_
    refine Draw.step [(5, none)] rfl (by kernel_rfl) rfl (fun kq hkq => AOp.move' (.inl rfl) rfl ⟨rfl, rfl, Nat.le_refl _⟩) ?_
    refine Draw.step [(17, some 0), (18, some 1)] rfl (by kernel_rfl) rfl (fun kq hkq => AOp.indexP (aslcAt_sub subA hq6_2) rfl rfl rfl ⟨rfl, rfl, Nat.le_refl _⟩) ?_
    refine Draw.step [(19, some 2)] rfl (by kernel_rfl) rfl (fun kq hkq => AOp.loadPA (v := vv (vals.getD i0 V0_)) (hp6_2.sub subA) rfl rfl rfl rfl (by first | rfl | (simp; done)) (by decide) ⟨rfl, rfl, Nat.le_refl _⟩) ?_
    refine Draw.step [(1, none)] rfl (by kernel_rfl) rfl (fun kq hkq => AOp.move' (.inl rfl) rfl ⟨rfl, rfl, Nat.le_refl _⟩) ?_
    refine Draw.step [(5, none)] rfl (by kernel_rfl) rfl (fun kq hkq => AOp.move' (.inl rfl) rfl ⟨rfl, rfl, Nat.le_refl _⟩) ?_
    refine Draw.step [(21, some 4), (22, some 5)] rfl (by kernel_rfl) rfl (fun kq hkq => AOp.indexP (aslcAt_sub subA hq6_6) rfl rfl rfl ⟨rfl, rfl, Nat.le_refl _⟩) ?_
    refine Draw.step [(23, some 6)] rfl (by kernel_rfl) rfl (fun kq hkq => AOp.loadPA (v := vv (vals.getD i0 V0_)) (hp6_6.sub subA) rfl rfl rfl rfl (by first | rfl | (simp; done)) (by decide) ⟨rfl, rfl, Nat.le_refl _⟩) ?_
    refine Draw.step [(20, some 3), (24, some 7)] rfl (by kernel_rfl) rfl (fun kq hkq => AOp.neAgg true rfl rfl rfl (Val.sc hok) (Val.sc hok) ⟨fun _ => rfl, fun _ => rfl⟩ ⟨rfl, rfl, Nat.le_refl _⟩) ?_
    refine Draw.done fun kq hkq => ?_
    show aOps _ _ _ _ [] ⟨_, _, _⟩
    refine aOps_end ?_
    show ACode _ _ _ _ _ _
    refine ACode.cond rfl (fun c2 => absurd c2 (by simp)) (fun c2 => ?_)
    refine ACode.skip ?_
    show ACode _ _ _ _ _ _
    refine ACode.region' [0, 1, 2] (by kernel_rfl) rfl ?_
    refine aOps_1 rfl rfl rfl (AOp.move' (.inl rfl) rfl ?_)
    refine aOps_1 rfl rfl rfl (AOp.add rfl rfl rfl (i64_wrap (by omega) (by omega)) ?_)
    refine aOps_1 rfl rfl rfl (AOp.move' (.inr rfl) rfl ?_)
    refine aOps_end ?_
    first | refine thenA_n ?_ | simp only [thenA, blockA, if_true]
    exact NextR.mk (by omega) (by omega) (.cons rfl .nil) (.cons rfl (.cons rfl .nil)) subA trivial
  · try simp only [decide_eq_true_eq, decide_eq_false_iff_not, beq_iff_eq, beq_eq_false_iff_ne, ne_eq, bne_iff_ne, Bool.not_eq_true', Bool.not_eq_false', Int.not_lt, Int.not_le, gt_iff_lt, ge_iff_le, bne_eq_false_iff_eq, Bool.not_eq_eq_eq_not, Bool.not_true, Bool.not_false] at c1
    refine ACode.exit ?_
    show ACode _ _ _ _ _ _
    refine ACode.seq ?_
    refine ACode.region' [0] (by kernel_rfl) rfl ?_
    refine aOps_1 rfl rfl rfl (AOp.move' (.inr rfl) rfl ?_)
    refine aOps_end ?_
    show ACode _ _ _ _ _ _
    refine ACode.ret ?_
    exact RetQ.one rfl rfl subA stays (fun hk => ⟨rfl, rfl, by omega⟩)

theorem same_p : ∀ (N : Nat) (p : Pd) (v u : Value) (H : Hp) (k : Nat), PdV H p v → PdV H p u → SizeOf.sizeOf p < N → ACalls Tryd.prog 3 13 [v, u] H k (Same H k (.bool true)) := by
  intro N
  induction N
  case zero => intro p v u H k hv hu hN; exact absurd hN (Nat.not_lt_zero _)
  rename_i N ih
  intro p v u H k hv hu hN
  cases p
  rename_i op col vals of
  rw [PdV] at hv hu
  obtain ⟨A, c, B, d, bs, rfl, hA, hvl, hol, hop, hcl, hok, hB, hPs⟩ := hv
  obtain ⟨A2, c2, B2, d2, bs2, rfl, hA2, _, _, _, _, _, hB2, hPs2⟩ := hu
  refine ACalls.fresh fun hf => ?_
  refine ACalls.body Tryd.func13 rfl (Nat.le_of_ble_eq_true rfl) ?_
  refine ACode.seq ?_
  refine ACode.region' [0, 1, 2] (by kernel_rfl) rfl ?_
  refine aOps_1 rfl rfl rfl (AOp.boxV rfl rfl ?_)
  refine aOps_1 rfl rfl rfl (AOp.boxV rfl rfl ?_)
  refine aOps_1 rfl rfl rfl (AOp.move' (.inr rfl) rfl ?_)
  refine aOps_end ?_
  show ACode _ _ _ _ _ _
  refine ACode.seq ?_
  refine ACode.seq ?_
  refine ACode.region' [0, 1, 2, 3, 4, 5, 6, 7, 8, 9, 10, 11, 12, 13, 14, 15, 16, 17, 18, 19, 20, 21, 22, 23, 24, 25, 26, 27, 28] (by kernel_rfl) rfl ?_
  refine aOps_1 rfl rfl rfl (AOp.fieldAddr' rfl (by decide) rfl ?_)
  refine aOps_1 rfl rfl rfl ?_
  refine AOp.load1 (b := ?b1) (v := ?v1) rfl rfl ?hn1 ?hv1 ?hR1
  (case hn1 => exact hpA)
  (case hv1 => rfl)
  refine aOps_1 rfl rfl rfl (AOp.fieldAddr' rfl (by decide) rfl ?_)
  refine aOps_1 rfl rfl rfl ?_
  refine AOp.load1 (b := ?b2) (v := ?v2) rfl rfl ?hn2 ?hv2 ?hR2
  (case hn2 => exact hpA)
  (case hv2 => rfl)
  refine aOps_1 rfl rfl rfl (AOp.bin' rfl rfl rfl rfl ?_)
  refine aOps_1 rfl rfl rfl (AOp.move' (.inl rfl) rfl ?_)
  refine aOps_gd0 rfl rfl (wantF rfl rfl rfl) (fun hc => AOp.slots [(2, _)] (.cons rfl .nil) (AOp.fieldAddr' rfl (by decide) rfl ⟨rfl, rfl, rfl⟩)) ?_
  refine aOps_gd0 rfl rfl (wantF rfl rfl rfl) (fun hc => AOp.slots [(12, _)] (.cons (gvT rfl hc) .nil) ((by refine AOp.load1 (b := ?b3) (v := ?v3) rfl rfl ?hn3 ?hv3 ?hR3; (case hn3 => exact hpA); (case hv3 => rfl); exact ⟨rfl, rfl, rfl⟩))) ?_
  refine aOps_gd0 rfl rfl (wantF rfl rfl rfl) (fun hc => AOp.slots [(3, _)] (.cons rfl .nil) (AOp.fieldAddr' rfl (by decide) rfl ⟨rfl, rfl, rfl⟩)) ?_
  refine aOps_gd0 rfl rfl (wantF rfl rfl rfl) (fun hc => AOp.slots [(14, _)] (.cons (gvT rfl hc) .nil) ((by refine AOp.load1 (b := ?b4) (v := ?v4) rfl rfl ?hn4 ?hv4 ?hR4; (case hn4 => exact hpA); (case hv4 => rfl); exact ⟨rfl, rfl, rfl⟩))) ?_
  refine aOps_gd0 rfl rfl (wantF rfl rfl rfl) (fun hc => AOp.slots [(13, _), (15, _)] (.cons (gvT rfl hc) (.cons (gvT rfl hc) .nil)) (AOp.bin' rfl rfl rfl rfl ⟨rfl, rfl, rfl⟩)) ?_
  refine aOps_1 rfl rfl rfl (AOp.pickOr rfl rfl rfl (fun hb => gvE rfl (t_not hb)) ?_)
  refine aOps_1 rfl rfl rfl (AOp.move' (.inl rfl) rfl ?_)
  refine aOps_gd0 rfl rfl (wantF rfl rfl rfl) (fun hc => AOp.slots [(2, _)] (.cons rfl .nil) (AOp.fieldAddr' rfl (by decide) rfl ⟨rfl, rfl, rfl⟩)) ?_
  refine aOps_gd0 rfl rfl (wantF rfl rfl rfl) (fun hc => AOp.slots [(19, _)] (.cons (gvT rfl hc) .nil) ((by refine AOp.load1 (b := ?b5) (v := ?v5) rfl rfl ?hn5 ?hv5 ?hR5; (case hn5 => exact hpA); (case hv5 => rfl); exact ⟨rfl, rfl, rfl⟩))) ?_
  refine aOps_gd0 rfl rfl (wantF rfl rfl rfl) (fun hc => AOp.slots [(3, _)] (.cons rfl .nil) (AOp.fieldAddr' rfl (by decide) rfl ⟨rfl, rfl, rfl⟩)) ?_
  refine aOps_gd0 rfl rfl (wantF rfl rfl rfl) (fun hc => AOp.slots [(21, _)] (.cons (gvT rfl hc) .nil) ((by refine AOp.load1 (b := ?b6) (v := ?v6) rfl rfl ?hn6 ?hv6 ?hR6; (case hn6 => exact hpA); (case hv6 => rfl); exact ⟨rfl, rfl, rfl⟩))) ?_
  refine aOps_gd rfl rfl (wantF rfl rfl rfl) (fun hc => AOp.slots [(20, _), (22, _)] (.cons (gvT rfl hc) (.cons (gvT rfl hc) .nil)) (AOp.call' rfl rfl rfl (same_vc _ _ vals A A2 c c2 (slcCells_sub subA hA) (slcCells_sub subA hA2) hvl hok) (fun _ _ _ h => h))) (fun kq hkq => ?_)
  refine aOps_gd0 rfl rfl (wantF rfl rfl rfl) (fun hc => AOp.slots [(23, _)] (.cons (gvT rfl hc) .nil) (AOp.un' rfl rfl rfl ⟨rfl, rfl, rfl⟩)) ?_
  refine aOps_1 rfl rfl rfl (AOp.pickOr rfl rfl rfl (fun hb => gvE rfl (t_not hb)) ?_)
  refine aOps_1 rfl rfl rfl (AOp.move' (.inl rfl) rfl ?_)
  refine aOps_gd0 rfl rfl (wantF rfl rfl rfl) (fun hc => AOp.slots [(2, _)] (.cons rfl .nil) (AOp.fieldAddr' rfl (by decide) rfl ⟨rfl, rfl, rfl⟩)) ?_
  refine aOps_gd0 rfl rfl (wantF rfl rfl rfl) (fun hc => AOp.slots [(27, _)] (.cons (gvT rfl hc) .nil) ((by refine AOp.load1 (b := ?b7) (v := ?v7) rfl rfl ?hn7 ?hv7 ?hR7; (case hn7 => exact hpA); (case hv7 => rfl); exact ⟨rfl, rfl, rfl⟩))) ?_
  refine aOps_gd0 rfl rfl (wantF rfl rfl rfl) (fun hc => AOp.slots [(28, _)] (.cons (gvT rfl hc) .nil) (AOp.len' rfl rfl ⟨rfl, rfl, rfl⟩)) ?_
  refine aOps_gd0 rfl rfl (wantF rfl rfl rfl) (fun hc => AOp.slots [(3, _)] (.cons rfl .nil) (AOp.fieldAddr' rfl (by decide) rfl ⟨rfl, rfl, rfl⟩)) ?_
  refine aOps_gd0 rfl rfl (wantF rfl rfl rfl) (fun hc => AOp.slots [(30, _)] (.cons (gvT rfl hc) .nil) ((by refine AOp.load1 (b := ?b8) (v := ?v8) rfl rfl ?hn8 ?hv8 ?hR8; (case hn8 => exact hpA); (case hv8 => rfl); exact ⟨rfl, rfl, rfl⟩))) ?_
  refine aOps_gd0 rfl rfl (wantF rfl rfl rfl) (fun hc => AOp.slots [(31, _)] (.cons (gvT rfl hc) .nil) (AOp.len' rfl rfl ⟨rfl, rfl, rfl⟩)) ?_
  refine aOps_gd0 rfl rfl (wantF rfl rfl rfl) (fun hc => AOp.slots [(29, _), (32, _)] (.cons (gvT rfl hc) (.cons (gvT rfl hc) .nil)) (AOp.bin' rfl rfl rfl rfl ⟨rfl, rfl, rfl⟩)) ?_
  refine aOps_1 rfl rfl rfl (AOp.pickOr rfl rfl rfl (fun hb => gvE rfl (t_not hb)) ?_)
  refine aOps_end ?_
  show ACode _ _ _ _ _ _
  refine ACode.cond rfl (fun c0 => absurd c0 (by simp)) (fun c0 => ?_)
  refine ACode.skip ?_
  show ACode _ _ _ _ _ _
  refine ACode.seq ?_
  refine ACode.seq ?_
  refine ACode.region' [0] (by kernel_rfl) rfl ?_
  refine aOps_1 rfl rfl rfl (AOp.move' (.inr rfl) rfl ?_)
  refine aOps_end ?_
  show ACode _ _ _ _ _ _
  refine ACode.block ?_
  refine ACode.count0 (fun i => [(5, .int .i64 (i : Int))]) [(2, _), (3, _)] (of.length) (fun _ => True) (.cons rfl .nil) (.cons rfl (.cons rfl .nil)) trivial (fun i0 kL0 HL0 hiL0 hkL0 hsL0 hfL0 hxL0 => ?_)
  show ACode _ _ _ _ _ ⟨_, _, _⟩
  have tsL0 := SubS.of hsL0
  refine ACode.seq ?_
  refine ACode.seq ?_
  refine ACode.region' [0, 1, 2, 3, 4] (by kernel_rfl) rfl ?_
  refine aOps_1 rfl rfl rfl (AOp.move' (.inl rfl) rfl ?_)
  refine aOps_1 rfl rfl rfl (AOp.fieldAddr' rfl (by decide) rfl ?_)
  refine aOps_1 rfl rfl rfl ?_
  refine AOp.load1 (b := ?b9) (v := ?v9) rfl rfl ?hn9 ?hv9 ?hR9
  (case hn9 => exact hpA)
  (case hv9 => rfl)
  refine aOps_1 rfl rfl rfl (AOp.len' rfl rfl ?_)
  refine aOps_1 rfl rfl rfl (AOp.bin' rfl rfl rfl rfl ?_)
  refine aOps_end ?_
  show ACode _ _ _ _ _ _
  refine ACode.cond rfl (fun c1 => ?_) (fun c1 => ?_)
  · try simp only [decide_eq_true_eq, decide_eq_false_iff_not, beq_iff_eq, beq_eq_false_iff_ne, ne_eq, bne_iff_ne, Bool.not_eq_true', Bool.not_eq_false', Int.not_lt, Int.not_le, gt_iff_lt, ge_iff_le, bne_eq_false_iff_eq, Bool.not_eq_eq_eq_not, Bool.not_true, Bool.not_false] at c1
    refine ACode.skip ?_
    show ACode _ _ _ _ _ _
    refine ACode.seq ?_
    refine ACode.block ?_
    refine ACode.seq ?_
    obtain ⟨nx, ox, sx, vx, hqx, hpx, hvx⟩ := PdVs.el pD hB hPs (show i0 < of.length by omega)
    obtain ⟨ny, oy, sy, vy, hqy, hpy, hvy⟩ := PdVs.el pD hB2 hPs2 (show i0 < of.length by omega)
    obtain ⟨gx1, gx2⟩ := hvx.agg
    obtain ⟨gy1, gy2⟩ := hvy.agg
    refine ACode.draw' 12 [(0, 42), (1, 43), (2, 44), (3, 45), (4, 46), (5, 47), (6, 48), (7, 49), (8, 50), (9, 51), (10, 52), (11, 53)] mixed (by kernel_rfl) ?_
    refine Draw.step [(2, none)] rfl (by kernel_rfl) rfl (fun kq hkq => AOp.fieldAddr' rfl (by decide) rfl ⟨rfl, rfl, Nat.le_refl _⟩) ?_
    refine Draw.step [(42, some 0)] rfl (by kernel_rfl) rfl (fun kq hkq => (by refine AOp.load1 (b := ?b10) (v := ?v10) rfl rfl ?hn10 ?hv10 ?hR10; (case hn10 => exact hpA); (case hv10 => rfl); exact ⟨rfl, rfl, Nat.le_refl _⟩)) ?_
    refine Draw.step [(5, none)] rfl (by kernel_rfl) rfl (fun kq hkq => AOp.move' (.inl rfl) rfl ⟨rfl, rfl, Nat.le_refl _⟩) ?_
    refine Draw.step [(43, some 1), (44, some 2)] rfl (by kernel_rfl) rfl (fun kq hkq => AOp.indexP (aslcAt_sub subA hqx) rfl rfl rfl ⟨rfl, rfl, Nat.le_refl _⟩) ?_
    refine Draw.step [(45, some 3)] rfl (by kernel_rfl) rfl (fun kq hkq => AOp.loadPA (v := vx) (hpx.sub subA) rfl rfl rfl gx1 gx2 (by decide) ⟨rfl, rfl, Nat.le_refl _⟩) ?_
    refine Draw.step [(3, none)] rfl (by kernel_rfl) rfl (fun kq hkq => AOp.fieldAddr' rfl (by decide) rfl ⟨rfl, rfl, Nat.le_refl _⟩) ?_
    refine Draw.step [(47, some 5)] rfl (by kernel_rfl) rfl (fun kq hkq => (by refine AOp.load1 (b := ?b11) (v := ?v11) rfl rfl ?hn11 ?hv11 ?hR11; (case hn11 => exact hpA); (case hv11 => rfl); exact ⟨rfl, rfl, Nat.le_refl _⟩)) ?_
    refine Draw.step [(5, none)] rfl (by kernel_rfl) rfl (fun kq hkq => AOp.move' (.inl rfl) rfl ⟨rfl, rfl, Nat.le_refl _⟩) ?_
    refine Draw.step [(48, some 6), (49, some 7)] rfl (by kernel_rfl) rfl (fun kq hkq => AOp.indexP (aslcAt_sub subA hqy) rfl rfl rfl ⟨rfl, rfl, Nat.le_refl _⟩) ?_
    refine Draw.step [(50, some 8)] rfl (by kernel_rfl) rfl (fun kq hkq => AOp.loadPA (v := vy) (hpy.sub subA) rfl rfl rfl gy1 gy2 (by decide) ⟨rfl, rfl, Nat.le_refl _⟩) ?_
    refine Draw.step [(46, some 4), (51, some 9)] rfl (by kernel_rfl) rfl (fun kq hkq => AOp.call' rfl rfl rfl (ih (of.getD i0 pD) vx vy _ _ (hvx.sub subA) (hvy.sub subA) (by have := Pd.lt (op := op) (col := col) (vals := vals) (pd_getD (ps := of) (i := i0) (by omega)); omega)) (fun _ _ _ h => h)) ?_
    refine Draw.step [(52, some 10)] rfl (by kernel_rfl) rfl (fun kq hkq => AOp.un' rfl rfl rfl ⟨rfl, rfl, Nat.le_refl _⟩) ?_
    refine Draw.done fun kq hkq => ?_
    show aOps _ _ _ _ [] ⟨_, _, _⟩
    refine aOps_end ?_
    show ACode _ _ _ _ _ _
    refine ACode.cond rfl (fun c2 => absurd c2 (by simp)) (fun c2 => ?_)
    refine ACode.skip ?_
    show ACode _ _ _ _ _ _
    refine ACode.region' [0, 1, 2] (by kernel_rfl) rfl ?_
    refine aOps_1 rfl rfl rfl (AOp.move' (.inl rfl) rfl ?_)
    refine aOps_1 rfl rfl rfl (AOp.add rfl rfl rfl (i64_wrap (by omega) (by omega)) ?_)
    refine aOps_1 rfl rfl rfl (AOp.move' (.inr rfl) rfl ?_)
    refine aOps_end ?_
    first | refine thenA_n ?_ | simp only [thenA, blockA, if_true]
    exact NextR.mk (by omega) (by omega) (.cons rfl .nil) (.cons rfl (.cons rfl .nil)) subA trivial
  · try simp only [decide_eq_true_eq, decide_eq_false_iff_not, beq_iff_eq, beq_eq_false_iff_ne, ne_eq, bne_iff_ne, Bool.not_eq_true', Bool.not_eq_false', Int.not_lt, Int.not_le, gt_iff_lt, ge_iff_le, bne_eq_false_iff_eq, Bool.not_eq_eq_eq_not, Bool.not_true, Bool.not_false] at c1
    refine ACode.exit ?_
    show ACode _ _ _ _ _ _
    refine ACode.seq ?_
    refine ACode.region' [0] (by kernel_rfl) rfl ?_
    refine aOps_1 rfl rfl rfl (AOp.move' (.inr rfl) rfl ?_)
    refine aOps_end ?_
    show ACode _ _ _ _ _ _
    refine ACode.ret ?_
    exact RetQ.one rfl rfl subA stays (fun hk => ⟨rfl, rfl, by omega⟩)

set_option maxHeartbeats 4000000 in
end

end Go.Proofs.YteoofihjmldllaaDoor
