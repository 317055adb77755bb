/- Contracts over the abstract states: the same predicates; PredTakes. -/
import Derived.Test.YteoofihjmldllaaDoorR11
import Derived.Test.YteoofihjmldllaaDoorR13
import Derived.Test.YteoofihjmldllaaDoorP6
set_option linter.unusedVariables false
set_option linter.unusedSimpArgs false
set_option maxRecDepth 100000
namespace Go.Proofs.YteoofihjmldllaaDoor
open Go Go.Ab

theorem upd_sw {X : Hp} {a b : Nat} {x y x' y' : Option Blk} (h : a ≠ b) : upd (upd (upd (upd X a x) b y) a x') b y' = upd (upd X a x') b y' := by
  funext m
  by_cases h1 : m = b
  · subst h1; rw [upd_same, upd_same]
  · rw [upd_other _ _ h1, upd_other _ _ h1]
    by_cases h2 : m = a
    · subst h2; rw [upd_same, upd_same]
    · rw [upd_other _ _ h2, upd_other _ _ h1, upd_other _ _ h2, upd_other _ _ h2]
theorem takePr_bs (r : Rd) : (takePr r).2.bs = r.bs := takeP_bs 32 r
section
variable (H : Hp) (k : Nat)

theorem same_vc (vals : List Val) (A B : Option Addr) (c d : Nat) (hA : slcCells H 3 (.slice A vals.length c) = some (vals3 vals)) (hB : slcCells H 3 (.slice B vals.length d) = some (vals3 vals)) (hl : vals.length ≤ 9223372036854775807) (ho : ∀ v ∈ vals, v.ok) : ACalls Tryd.prog 3 42 [.slice A vals.length c, .slice B vals.length d] H k (Same H k (.bool true)) := by
  refine ACalls.fresh fun hf => ?_
  refine ACalls.body Tryd.func42 rfl (Nat.le_of_ble_eq_true rfl) ?_
  refine ACode.seq ?_
  refine ACode.region' [0] (by kernel_rfl) rfl ?_
  refine aOps_1 rfl rfl rfl (AOp.move' (.inr rfl) rfl ?_)
  refine aOps_end ?_
  show ACode _ _ _ _ _ _
  refine ACode.seq ?_
  refine ACode.seq ?_
  refine ACode.region' [0, 1, 2, 3, 4] (by kernel_rfl) rfl ?_
  refine aOps_1 rfl rfl rfl (AOp.move' (.inl rfl) rfl ?_)
  refine aOps_1 rfl rfl rfl (AOp.len' rfl rfl ?_)
  refine aOps_1 rfl rfl rfl (AOp.move' (.inl rfl) rfl ?_)
  refine aOps_1 rfl rfl rfl (AOp.len' rfl rfl ?_)
  refine aOps_1 rfl rfl rfl (AOp.bin' rfl rfl rfl rfl ?_)
  refine aOps_end ?_
  show ACode _ _ _ _ _ _
  refine ACode.cond rfl (fun c0 => absurd c0 (by simp)) (fun c0 => ?_)
  refine ACode.skip ?_
  show ACode _ _ _ _ _ _
  refine ACode.seq ?_
  refine ACode.seq ?_
  refine ACode.region' [0] (by kernel_rfl) rfl ?_
  refine aOps_1 rfl rfl rfl (AOp.move' (.inr rfl) rfl ?_)
  refine aOps_end ?_
  show ACode _ _ _ _ _ _
  refine ACode.block ?_
  refine ACode.count0 (fun i => [(5, .int .i64 (i : Int))]) [(0, _), (1, _)] (vals.length) (fun _ => True) (.cons rfl .nil) (.cons rfl (.cons rfl .nil)) trivial (fun i0 kL0 HL0 hiL0 hkL0 hsL0 hfL0 hxL0 => ?_)
  show ACode _ _ _ _ _ ⟨_, _, _⟩
  have tsL0 := SubS.of hsL0
  refine ACode.seq ?_
  refine ACode.seq ?_
  refine ACode.region' [0, 1, 2, 3] (by kernel_rfl) rfl ?_
  refine aOps_1 rfl rfl rfl (AOp.move' (.inl rfl) rfl ?_)
  refine aOps_1 rfl rfl rfl (AOp.move' (.inl rfl) rfl ?_)
  refine aOps_1 rfl rfl rfl (AOp.len' rfl rfl ?_)
  refine aOps_1 rfl rfl rfl (AOp.bin' rfl rfl rfl rfl ?_)
  refine aOps_end ?_
  show ACode _ _ _ _ _ _
  refine ACode.cond rfl (fun c1 => ?_) (fun c1 => ?_)
  · try simp only [decide_eq_true_eq, decide_eq_false_iff_not, beq_iff_eq, beq_eq_false_iff_ne, ne_eq, bne_iff_ne, Bool.not_eq_true', Bool.not_eq_false', Int.not_lt, Int.not_le, gt_iff_lt, ge_iff_le, bne_eq_false_iff_eq, Bool.not_eq_eq_eq_not, Bool.not_true, Bool.not_false] at c1
    have hi : i0 < vals.length := by omega
    have hok : (vals.getD i0 V0_).ok := ho _ (getD_mem hi)
    refine ACode.skip ?_
    show ACode _ _ _ _ _ _
    refine ACode.seq ?_
    refine ACode.block ?_
    refine ACode.seq ?_
    obtain ⟨n6_2, o6_2, s6_2, hq6_2, hp6_2⟩ := slcElG (fun a => (vv a).cells.toList) V0_ hA (fun _ => rfl) (by decide) hi
    obtain ⟨n6_6, o6_6, s6_6, hq6_6, hp6_6⟩ := slcElG (fun a => (vv a).cells.toList) V0_ hB (fun _ => rfl) (by decide) hi
    refine ACode.draw' 9 [(0, 17), (1, 18), (2, 19), (3, 20), (4, 21), (5, 22), (6, 23), (7, 24), (8, 25)] mixed (by kernel_rfl) ?_
    refine Draw.step [(0, none)] rfl (by kernel_rfl) rfl (fun kq hkq => AOp.move' (.inl rfl) rfl ⟨rfl, rfl, Nat.le_refl _⟩) ?_
    refine Draw.step [(5, none)] rfl (by kernel_rfl) rfl (fun kq hkq => AOp.move' (.inl rfl) rfl ⟨rfl, rfl, Nat.le_refl _⟩) ?_
    refine Draw.step [(17, some 0), (18, some 1)] rfl (by kernel_rfl) rfl (fun kq hkq => AOp.indexP (aslcAt_sub subA hq6_2) rfl rfl rfl ⟨rfl, rfl, Nat.le_refl _⟩) ?_
    refine Draw.step [(19, some 2)] rfl (by kernel_rfl) rfl (fun kq hkq => AOp.loadPA (v := vv (vals.getD i0 V0_)) (hp6_2.sub subA) rfl rfl rfl rfl (by first | rfl | (simp; done)) (by decide) ⟨rfl, rfl, Nat.le_refl _⟩) ?_
    refine Draw.step [(1, none)] rfl (by kernel_rfl) rfl (fun kq hkq => AOp.move' (.inl rfl) rfl ⟨rfl, rfl, Nat.le_refl _⟩) ?_
    refine Draw.step [(5, none)] rfl (by kernel_rfl) rfl (fun kq hkq => AOp.move' (.inl rfl) rfl ⟨rfl, rfl, Nat.le_refl _⟩) ?_
    refine Draw.step [(21, some 4), (22, some 5)] rfl (by kernel_rfl) rfl (fun kq hkq => AOp.indexP (aslcAt_sub subA hq6_6) rfl rfl rfl ⟨rfl, rfl, Nat.le_refl _⟩) ?_
    refine Draw.step [(23, some 6)] rfl (by kernel_rfl) rfl (fun kq hkq => AOp.loadPA (v := vv (vals.getD i0 V0_)) (hp6_6.sub subA) rfl rfl rfl rfl (by first | rfl | (simp; done)) (by decide) ⟨rfl, rfl, Nat.le_refl _⟩) ?_
    refine Draw.step [(20, some 3), (24, some 7)] rfl (by kernel_rfl) rfl (fun kq hkq => AOp.neAgg true rfl rfl rfl (Val.sc hok) (Val.sc hok) ⟨fun _ => rfl, fun _ => rfl⟩ ⟨rfl, rfl, Nat.le_refl _⟩) ?_
    refine Draw.done fun kq hkq => ?_
    show aOps _ _ _ _ [] ⟨_, _, _⟩
    refine aOps_end ?_
    show ACode _ _ _ _ _ _
    refine ACode.cond rfl (fun c2 => absurd c2 (by simp)) (fun c2 => ?_)
    refine ACode.skip ?_
    show ACode _ _ _ _ _ _
    refine ACode.region' [0, 1, 2] (by kernel_rfl) rfl ?_
    refine aOps_1 rfl rfl rfl (AOp.move' (.inl rfl) rfl ?_)
    refine aOps_1 rfl rfl rfl (AOp.add rfl rfl rfl (i64_wrap (by omega) (by omega)) ?_)
    refine aOps_1 rfl rfl rfl (AOp.move' (.inr rfl) rfl ?_)
    refine aOps_end ?_
    first | refine thenA_n ?_ | simp only [thenA, blockA, if_true]
    exact NextR.mk (by omega) (by omega) (.cons rfl .nil) (.cons rfl (.cons rfl .nil)) subA trivial
  · try simp only [decide_eq_true_eq, decide_eq_false_iff_not, beq_iff_eq, beq_eq_false_iff_ne, ne_eq, bne_iff_ne, Bool.not_eq_true', Bool.not_eq_false', Int.not_lt, Int.not_le, gt_iff_lt, ge_iff_le, bne_eq_false_iff_eq, Bool.not_eq_eq_eq_not, Bool.not_true, Bool.not_false] at c1
    refine ACode.exit ?_
    show ACode _ _ _ _ _ _
    refine ACode.seq ?_
    refine ACode.region' [0] (by kernel_rfl) rfl ?_
    refine aOps_1 rfl rfl rfl (AOp.move' (.inr rfl) rfl ?_)
    refine aOps_end ?_
    show ACode _ _ _ _ _ _
    refine ACode.ret ?_
    exact RetQ.one rfl rfl subA stays (fun hk => ⟨rfl, rfl, by omega⟩)

theorem same_p : ∀ (N : Nat) (p : Pd) (v u : Value) (H : Hp) (k : Nat), PdV H p v → PdV H p u → SizeOf.sizeOf p < N → ACalls Tryd.prog 3 13 [v, u] H k (Same H k (.bool true)) := by
  intro N
  induction N
  case zero => intro p v u H k hv hu hN; exact absurd hN (Nat.not_lt_zero _)
  rename_i N ih
  intro p v u H k hv hu hN
  cases p
  rename_i op col vals of
  rw [PdV] at hv hu
  obtain ⟨A, c, B, d, bs, rfl, hA, hvl, hol, hop, hcl, hok, hB, hPs⟩ := hv
  obtain ⟨A2, c2, B2, d2, bs2, rfl, hA2, _, _, _, _, _, hB2, hPs2⟩ := hu
  refine ACalls.fresh fun hf => ?_
  refine ACalls.body Tryd.func13 rfl (Nat.le_of_ble_eq_true rfl) ?_
  refine ACode.seq ?_
  refine ACode.region' [0, 1, 2] (by kernel_rfl) rfl ?_
  refine aOps_1 rfl rfl rfl (AOp.boxV rfl rfl ?_)
  refine aOps_1 rfl rfl rfl (AOp.boxV rfl rfl ?_)
  refine aOps_1 rfl rfl rfl (AOp.move' (.inr rfl) rfl ?_)
  refine aOps_end ?_
  show ACode _ _ _ _ _ _
  refine ACode.seq ?_
  refine ACode.seq ?_
  refine ACode.region' [0, 1, 2, 3, 4, 5, 6, 7, 8, 9, 10, 11, 12, 13, 14, 15, 16, 17, 18, 19, 20, 21, 22, 23, 24, 25, 26, 27, 28] (by kernel_rfl) rfl ?_
  refine aOps_1 rfl rfl rfl (AOp.fieldAddr' rfl (by decide) rfl ?_)
  refine aOps_1 rfl rfl rfl ?_
  refine AOp.load1 (b := ?b1) (v := ?v1) rfl rfl ?hn1 ?hv1 ?hR1
  (case hn1 => exact hpA)
  (case hv1 => rfl)
  refine aOps_1 rfl rfl rfl (AOp.fieldAddr' rfl (by decide) rfl ?_)
  refine aOps_1 rfl rfl rfl ?_
  refine AOp.load1 (b := ?b2) (v := ?v2) rfl rfl ?hn2 ?hv2 ?hR2
  (case hn2 => exact hpA)
  (case hv2 => rfl)
  refine aOps_1 rfl rfl rfl (AOp.bin' rfl rfl rfl rfl ?_)
  refine aOps_1 rfl rfl rfl (AOp.move' (.inl rfl) rfl ?_)
  refine aOps_gd0 rfl rfl (wantF rfl rfl rfl) (fun hc => AOp.slots [(2, _)] (.cons rfl .nil) (AOp.fieldAddr' rfl (by decide) rfl ⟨rfl, rfl, rfl⟩)) ?_
  refine aOps_gd0 rfl rfl (wantF rfl rfl rfl) (fun hc => AOp.slots [(12, _)] (.cons (gvT rfl hc) .nil) ((by refine AOp.load1 (b := ?b3) (v := ?v3) rfl rfl ?hn3 ?hv3 ?hR3; (case hn3 => exact hpA); (case hv3 => rfl); exact ⟨rfl, rfl, rfl⟩))) ?_
  refine aOps_gd0 rfl rfl (wantF rfl rfl rfl) (fun hc => AOp.slots [(3, _)] (.cons rfl .nil) (AOp.fieldAddr' rfl (by decide) rfl ⟨rfl, rfl, rfl⟩)) ?_
  refine aOps_gd0 rfl rfl (wantF rfl rfl rfl) (fun hc => AOp.slots [(14, _)] (.cons (gvT rfl hc) .nil) ((by refine AOp.load1 (b := ?b4) (v := ?v4) rfl rfl ?hn4 ?hv4 ?hR4; (case hn4 => exact hpA); (case hv4 => rfl); exact ⟨rfl, rfl, rfl⟩))) ?_
  refine aOps_gd0 rfl rfl (wantF rfl rfl rfl) (fun hc => AOp.slots [(13, _), (15, _)] (.cons (gvT rfl hc) (.cons (gvT rfl hc) .nil)) (AOp.bin' rfl rfl rfl rfl ⟨rfl, rfl, rfl⟩)) ?_
  refine aOps_1 rfl rfl rfl (AOp.pickOr rfl rfl rfl (fun hb => gvE rfl (t_not hb)) ?_)
  refine aOps_1 rfl rfl rfl (AOp.move' (.inl rfl) rfl ?_)
  refine aOps_gd0 rfl rfl (wantF rfl rfl rfl) (fun hc => AOp.slots [(2, _)] (.cons rfl .nil) (AOp.fieldAddr' rfl (by decide) rfl ⟨rfl, rfl, rfl⟩)) ?_
  refine aOps_gd0 rfl rfl (wantF rfl rfl rfl) (fun hc => AOp.slots [(19, _)] (.cons (gvT rfl hc) .nil) ((by refine AOp.load1 (b := ?b5) (v := ?v5) rfl rfl ?hn5 ?hv5 ?hR5; (case hn5 => exact hpA); (case hv5 => rfl); exact ⟨rfl, rfl, rfl⟩))) ?_
  refine aOps_gd0 rfl rfl (wantF rfl rfl rfl) (fun hc => AOp.slots [(3, _)] (.cons rfl .nil) (AOp.fieldAddr' rfl (by decide) rfl ⟨rfl, rfl, rfl⟩)) ?_
  refine aOps_gd0 rfl rfl (wantF rfl rfl rfl) (fun hc => AOp.slots [(21, _)] (.cons (gvT rfl hc) .nil) ((by refine AOp.load1 (b := ?b6) (v := ?v6) rfl rfl ?hn6 ?hv6 ?hR6; (case hn6 => exact hpA); (case hv6 => rfl); exact ⟨rfl, rfl, rfl⟩))) ?_
  refine aOps_gd rfl rfl (wantF rfl rfl rfl) (fun hc => AOp.slots [(20, _), (22, _)] (.cons (gvT rfl hc) (.cons (gvT rfl hc) .nil)) (AOp.call' rfl rfl rfl (same_vc _ _ vals A A2 c c2 (slcCells_sub subA hA) (slcCells_sub subA hA2) hvl hok) (fun _ _ _ h => h))) (fun kq hkq => ?_)
  refine aOps_gd0 rfl rfl (wantF rfl rfl rfl) (fun hc => AOp.slots [(23, _)] (.cons (gvT rfl hc) .nil) (AOp.un' rfl rfl rfl ⟨rfl, rfl, rfl⟩)) ?_
  refine aOps_1 rfl rfl rfl (AOp.pickOr rfl rfl rfl (fun hb => gvE rfl (t_not hb)) ?_)
  refine aOps_1 rfl rfl rfl (AOp.move' (.inl rfl) rfl ?_)
  refine aOps_gd0 rfl rfl (wantF rfl rfl rfl) (fun hc => AOp.slots [(2, _)] (.cons rfl .nil) (AOp.fieldAddr' rfl (by decide) rfl ⟨rfl, rfl, rfl⟩)) ?_
  refine aOps_gd0 rfl rfl (wantF rfl rfl rfl) (fun hc => AOp.slots [(27, _)] (.cons (gvT rfl hc) .nil) ((by refine AOp.load1 (b := ?b7) (v := ?v7) rfl rfl ?hn7 ?hv7 ?hR7; (case hn7 => exact hpA); (case hv7 => rfl); exact ⟨rfl, rfl, rfl⟩))) ?_
  refine aOps_gd0 rfl rfl (wantF rfl rfl rfl) (fun hc => AOp.slots [(28, _)] (.cons (gvT rfl hc) .nil) (AOp.len' rfl rfl ⟨rfl, rfl, rfl⟩)) ?_
  refine aOps_gd0 rfl rfl (wantF rfl rfl rfl) (fun hc => AOp.slots [(3, _)] (.cons rfl .nil) (AOp.fieldAddr' rfl (by decide) rfl ⟨rfl, rfl, rfl⟩)) ?_
  refine aOps_gd0 rfl rfl (wantF rfl rfl rfl) (fun hc => AOp.slots [(30, _)] (.cons (gvT rfl hc) .nil) ((by refine AOp.load1 (b := ?b8) (v := ?v8) rfl rfl ?hn8 ?hv8 ?hR8; (case hn8 => exact hpA); (case hv8 => rfl); exact ⟨rfl, rfl, rfl⟩))) ?_
  refine aOps_gd0 rfl rfl (wantF rfl rfl rfl) (fun hc => AOp.slots [(31, _)] (.cons (gvT rfl hc) .nil) (AOp.len' rfl rfl ⟨rfl, rfl, rfl⟩)) ?_
  refine aOps_gd0 rfl rfl (wantF rfl rfl rfl) (fun hc => AOp.slots [(29, _), (32, _)] (.cons (gvT rfl hc) (.cons (gvT rfl hc) .nil)) (AOp.bin' rfl rfl rfl rfl ⟨rfl, rfl, rfl⟩)) ?_
  refine aOps_1 rfl rfl rfl (AOp.pickOr rfl rfl rfl (fun hb => gvE rfl (t_not hb)) ?_)
  refine aOps_end ?_
  show ACode _ _ _ _ _ _
  refine ACode.cond rfl (fun c0 => absurd c0 (by simp)) (fun c0 => ?_)
  refine ACode.skip ?_
  show ACode _ _ _ _ _ _
  refine ACode.seq ?_
  refine ACode.seq ?_
  refine ACode.region' [0] (by kernel_rfl) rfl ?_
  refine aOps_1 rfl rfl rfl (AOp.move' (.inr rfl) rfl ?_)
  refine aOps_end ?_
  show ACode _ _ _ _ _ _
  refine ACode.block ?_
  refine ACode.count0 (fun i => [(5, .int .i64 (i : Int))]) [(2, _), (3, _)] (of.length) (fun _ => True) (.cons rfl .nil) (.cons rfl (.cons rfl .nil)) trivial (fun i0 kL0 HL0 hiL0 hkL0 hsL0 hfL0 hxL0 => ?_)
  show ACode _ _ _ _ _ ⟨_, _, _⟩
  have tsL0 := SubS.of hsL0
  refine ACode.seq ?_
  refine ACode.seq ?_
  refine ACode.region' [0, 1, 2, 3, 4] (by kernel_rfl) rfl ?_
  refine aOps_1 rfl rfl rfl (AOp.move' (.inl rfl) rfl ?_)
  refine aOps_1 rfl rfl rfl (AOp.fieldAddr' rfl (by decide) rfl ?_)
  refine aOps_1 rfl rfl rfl ?_
  refine AOp.load1 (b := ?b9) (v := ?v9) rfl rfl ?hn9 ?hv9 ?hR9
  (case hn9 => exact hpA)
  (case hv9 => rfl)
  refine aOps_1 rfl rfl rfl (AOp.len' rfl rfl ?_)
  refine aOps_1 rfl rfl rfl (AOp.bin' rfl rfl rfl rfl ?_)
  refine aOps_end ?_
  show ACode _ _ _ _ _ _
  refine ACode.cond rfl (fun c1 => ?_) (fun c1 => ?_)
  · try simp only [decide_eq_true_eq, decide_eq_false_iff_not, beq_iff_eq, beq_eq_false_iff_ne, ne_eq, bne_iff_ne, Bool.not_eq_true', Bool.not_eq_false', Int.not_lt, Int.not_le, gt_iff_lt, ge_iff_le, bne_eq_false_iff_eq, Bool.not_eq_eq_eq_not, Bool.not_true, Bool.not_false] at c1
    refine ACode.skip ?_
    show ACode _ _ _ _ _ _
    refine ACode.seq ?_
    refine ACode.block ?_
    refine ACode.seq ?_
    obtain ⟨nx, ox, sx, vx, hqx, hpx, hvx⟩ := PdVs.el pD hB hPs (show i0 < of.length by omega)
    obtain ⟨ny, oy, sy, vy, hqy, hpy, hvy⟩ := PdVs.el pD hB2 hPs2 (show i0 < of.length by omega)
    obtain ⟨gx1, gx2⟩ := hvx.agg
    obtain ⟨gy1, gy2⟩ := hvy.agg
    refine ACode.draw' 12 [(0, 42), (1, 43), (2, 44), (3, 45), (4, 46), (5, 47), (6, 48), (7, 49), (8, 50), (9, 51), (10, 52), (11, 53)] mixed (by kernel_rfl) ?_
    refine Draw.step [(2, none)] rfl (by kernel_rfl) rfl (fun kq hkq => AOp.fieldAddr' rfl (by decide) rfl ⟨rfl, rfl, Nat.le_refl _⟩) ?_
    refine Draw.step [(42, some 0)] rfl (by kernel_rfl) rfl (fun kq hkq => (by refine AOp.load1 (b := ?b10) (v := ?v10) rfl rfl ?hn10 ?hv10 ?hR10; (case hn10 => exact hpA); (case hv10 => rfl); exact ⟨rfl, rfl, Nat.le_refl _⟩)) ?_
    refine Draw.step [(5, none)] rfl (by kernel_rfl) rfl (fun kq hkq => AOp.move' (.inl rfl) rfl ⟨rfl, rfl, Nat.le_refl _⟩) ?_
    refine Draw.step [(43, some 1), (44, some 2)] rfl (by kernel_rfl) rfl (fun kq hkq => AOp.indexP (aslcAt_sub subA hqx) rfl rfl rfl ⟨rfl, rfl, Nat.le_refl _⟩) ?_
    refine Draw.step [(45, some 3)] rfl (by kernel_rfl) rfl (fun kq hkq => AOp.loadPA (v := vx) (hpx.sub subA) rfl rfl rfl gx1 gx2 (by decide) ⟨rfl, rfl, Nat.le_refl _⟩) ?_
    refine Draw.step [(3, none)] rfl (by kernel_rfl) rfl (fun kq hkq => AOp.fieldAddr' rfl (by decide) rfl ⟨rfl, rfl, Nat.le_refl _⟩) ?_
    refine Draw.step [(47, some 5)] rfl (by kernel_rfl) rfl (fun kq hkq => (by refine AOp.load1 (b := ?b11) (v := ?v11) rfl rfl ?hn11 ?hv11 ?hR11; (case hn11 => exact hpA); (case hv11 => rfl); exact ⟨rfl, rfl, Nat.le_refl _⟩)) ?_
    refine Draw.step [(5, none)] rfl (by kernel_rfl) rfl (fun kq hkq => AOp.move' (.inl rfl) rfl ⟨rfl, rfl, Nat.le_refl _⟩) ?_
    refine Draw.step [(48, some 6), (49, some 7)] rfl (by kernel_rfl) rfl (fun kq hkq => AOp.indexP (aslcAt_sub subA hqy) rfl rfl rfl ⟨rfl, rfl, Nat.le_refl _⟩) ?_
    refine Draw.step [(50, some 8)] rfl (by kernel_rfl) rfl (fun kq hkq => AOp.loadPA (v := vy) (hpy.sub subA) rfl rfl rfl gy1 gy2 (by decide) ⟨rfl, rfl, Nat.le_refl _⟩) ?_
    refine Draw.step [(46, some 4), (51, some 9)] rfl (by kernel_rfl) rfl (fun kq hkq => AOp.call' rfl rfl rfl (ih (of.getD i0 pD) vx vy _ _ (hvx.sub subA) (hvy.sub subA) (by have := Pd.lt (op := op) (col := col) (vals := vals) (pd_getD (ps := of) (i := i0) (by omega)); omega)) (fun _ _ _ h => h)) ?_
    refine Draw.step [(52, some 10)] rfl (by kernel_rfl) rfl (fun kq hkq => AOp.un' rfl rfl rfl ⟨rfl, rfl, Nat.le_refl _⟩) ?_
    refine Draw.done fun kq hkq => ?_
    show aOps _ _ _ _ [] ⟨_, _, _⟩
    refine aOps_end ?_
    show ACode _ _ _ _ _ _
    refine ACode.cond rfl (fun c2 => absurd c2 (by simp)) (fun c2 => ?_)
    refine ACode.skip ?_
    show ACode _ _ _ _ _ _
    refine ACode.region' [0, 1, 2] (by kernel_rfl) rfl ?_
    refine aOps_1 rfl rfl rfl (AOp.move' (.inl rfl) rfl ?_)
    refine aOps_1 rfl rfl rfl (AOp.add rfl rfl rfl (i64_wrap (by omega) (by omega)) ?_)
    refine aOps_1 rfl rfl rfl (AOp.move' (.inr rfl) rfl ?_)
    refine aOps_end ?_
    first | refine thenA_n ?_ | simp only [thenA, blockA, if_true]
    exact NextR.mk (by omega) (by omega) (.cons rfl .nil) (.cons rfl (.cons rfl .nil)) subA trivial
  · try simp only [decide_eq_true_eq, decide_eq_false_iff_not, beq_iff_eq, beq_eq_false_iff_ne, ne_eq, bne_iff_ne, Bool.not_eq_true', Bool.not_eq_false', Int.not_lt, Int.not_le, gt_iff_lt, ge_iff_le, bne_eq_false_iff_eq, Bool.not_eq_eq_eq_not, Bool.not_true, Bool.not_false] at c1
    refine ACode.exit ?_
    show ACode _ _ _ _ _ _
    refine ACode.seq ?_
    refine ACode.region' [0] (by kernel_rfl) rfl ?_
    refine aOps_1 rfl rfl rfl (AOp.move' (.inr rfl) rfl ?_)
    refine aOps_end ?_
    show ACode _ _ _ _ _ _
    refine ACode.ret ?_
    exact RetQ.one rfl rfl subA stays (fun hk => ⟨rfl, rfl, by omega⟩)

set_option maxHeartbeats 4000000 in
theorem predTakes (ht : H 0 = some shBlk) (h2 : H 1 = some hBlk) (bs : List UInt8) (A : Option Addr) (c : Nat) (hD : SLC H 1 A bs.length c (bs.map bv)) (hbl : bs.length ≤ 9223372036854775807) : ACalls Tryd.prog 3 3 [.slice A bs.length c] H k (fun v _ _ => v = .bool true) := by
  refine ACalls.fresh fun hf => ?_
  refine ACalls.body Tryd.func3 rfl (Nat.le_of_ble_eq_true rfl) ?_
  have hY : Ab.Sub H H := sub_refl H
  have hC : True := trivial
  refine ACode.seq ?_
  refine ACode.region' [0] (by kernel_rfl) rfl ?_
  refine aOps_1 rfl rfl rfl (AOp.move' (.inr rfl) rfl ?_)
  refine aOps_end ?_
  show ACode _ _ _ _ _ _
  refine ACode.seq ?_
  refine ACode.seq ?_
  refine ACode.region' [0, 1, 2] (by kernel_rfl) rfl ?_
  refine aOps_1 rfl rfl rfl (AOp.move' (.inl rfl) rfl ?_)
  refine aOps_1 rfl rfl rfl (AOp.len' rfl rfl ?_)
  refine aOps_1 rfl rfl rfl (AOp.bin' rfl rfl rfl rfl ?_)
  refine aOps_end ?_
  show ACode _ _ _ _ _ _
  refine ACode.cond rfl (fun c0 => ?_) (fun c0 => ?_)
  · try simp only [decide_eq_true_eq, decide_eq_false_iff_not, beq_iff_eq, beq_eq_false_iff_ne, ne_eq, bne_iff_ne, Bool.not_eq_true', Bool.not_eq_false', Int.not_lt, Int.not_le, gt_iff_lt, ge_iff_le, bne_eq_false_iff_eq, Bool.not_eq_eq_eq_not, Bool.not_true, Bool.not_false] at c0
    refine ACode.seq ?_
    refine ACode.region' [0, 1] (by kernel_rfl) rfl ?_
    refine aOps_q rfl rfl rfl (AOp.call' rfl rfl rfl ((awake16 _ _ hpA).lift (by decide)) (fun _ _ _ h => h)) (fun kq hkq => ?_)
    refine aOps_1 rfl rfl rfl (AOp.move' (.inr rfl) rfl ?_)
    refine aOps_end ?_
    show ACode _ _ _ _ _ _
    refine ACode.ret ?_
    try simp only [thenA, blockA, if_true]
    exact RetQ.one rfl rfl subA stays (fun hk => rfl)
  · try simp only [decide_eq_true_eq, decide_eq_false_iff_not, beq_iff_eq, beq_eq_false_iff_ne, ne_eq, bne_iff_ne, Bool.not_eq_true', Bool.not_eq_false', Int.not_lt, Int.not_le, gt_iff_lt, ge_iff_le, bne_eq_false_iff_eq, Bool.not_eq_eq_eq_not, Bool.not_true, Bool.not_false] at c0
    have c0b : bs.length ≤ 1000 := by omega
    refine ACode.skip ?_
    show ACode _ _ _ _ _ _
    refine ACode.seq ?_
    refine ACode.region' [0, 1, 2, 3, 4, 5, 6] (by kernel_rfl) rfl ?_
    refine aOps_1 rfl rfl rfl (AOp.move' (.inl rfl) rfl ?_)
    refine aOps_1 rfl rfl rfl ?_
    refine AOp.call' rfl rfl rfl (newN _ _ A c bs (hD.sub subA) (by omega)) ?_
    have hok0 : (⟨bs, 0, 0, 0⟩ : Rd).ok := ⟨Nat.zero_le _, by show bs.length ≤ 1000000000; omega, Int.le_refl 0, (by decide : (0 : Int) ≤ 100), Int.le_refl 0, (by decide : (0 : Int) ≤ 1000000000), fun _ => rfl⟩
    rintro _ HLa ka ⟨hka, hfLa, hsLa, na, Ba, da, rfl, hnaa, hnba, hRa, hBaa⟩
    have thsLa := SubS.of hsLa
    refine aOps_1 rfl rfl rfl (AOp.move' (.inl rfl) rfl ?_)
    refine aOps_1 rfl rfl rfl (AOp.buildS (cells := #[_, _, _, _]) rfl rfl rfl ?_)
    refine aOps_1 rfl rfl rfl (AOp.boxV rfl rfl ?_)
    have hXa : Ab.Sub H (upd HLa ka (some (rfBlk A c (⟨bs, 0, 0, 0⟩ : Rd)))) := sub_trans hsLa (sub_upd' (sub_refl _) (hfLa _ (Nat.le_refl _)))
    have hRna := hRa.sub (sub_upd' (b := some (rfBlk A c (⟨bs, 0, 0, 0⟩ : Rd))) (sub_refl HLa) (hfLa _ (Nat.le_refl _)))
    have hRfa : RfN (upd HLa ka (some (rfBlk A c (⟨bs, 0, 0, 0⟩ : Rd)))) ka A c (⟨bs, 0, 0, 0⟩ : Rd) := ⟨upd_same _ _ _, hD.sub hXa, Away.of hD (hf _ (by omega)), hok0⟩
    have hAna : Away A bs.length na := Away.of hD (hf _ (by omega))
    have hBma : Away Ba bs.length ka := Away.ne (fun a ha => by have := (hBaa a ha).2; omega)
    have h2a := hXa _ _ h2
    obtain ⟨r, hr⟩ : ∃ r : Rd, r = (⟨bs, 0, 0, 0⟩ : Rd) := ⟨_, rfl⟩
    have hRna : RdN (upd HLa ka (some (rfBlk A c (⟨bs, 0, 0, 0⟩ : Rd)))) na Ba da .nilIface r := by rw [hr]; exact hRna
    have hRfa : RfN (upd HLa ka (some (rfBlk A c (⟨bs, 0, 0, 0⟩ : Rd)))) ka A c r := by rw [hr]; exact hRfa
    have hAna : Away A r.bs.length na := by rw [hr]; exact hAna
    have hBma : Away Ba r.bs.length ka := by rw [hr]; exact hBma
    refine aOps_1 rfl rfl rfl (AOp.move' (.inr rfl) rfl ?_)
    refine aOps_1 rfl rfl rfl (AOp.move' (.inr rfl) rfl ?_)
    refine aOps_end ?_
    show ACode _ _ _ _ _ _
    refine ACode.seq ?_
    refine ACode.region' [0, 1, 2, 3, 4, 5, 6, 7] (by kernel_rfl) rfl ?_
    refine aOps_1 rfl rfl rfl (AOp.move' (.inl rfl) rfl ?_)
    refine aOps_1 rfl rfl rfl ?_
    refine AOp.call' rfl rfl rfl (ntakePr _ _ h2a na da Ba _ r hRna) ?_
    rintro van HLan kan ⟨hVn, hPan⟩
    have hfLan := hPan.2.1
    have hkan := hPan.1
    have hsLan := hPan.2.2.1
    have thsLan := SubS.of hsLan
    have hPban := hPan
    obtain ⟨evan, hRan⟩ := hPban.2.2.2
    have hRfan : RfN HLan ka A c r := hRfa.by hPan (by omega) hAna
    refine aOps_1 rfl rfl rfl (AOp.move' (.inl rfl) rfl ?_)
    refine aOps_1 rfl rfl rfl ?_
    refine AOp.call' rfl rfl rfl (rtakePr _ _ ka c A r hRfan) ?_
    rintro var HLar kar ⟨hVr, hPar⟩
    have hfLar := hPar.2.1
    have hkar := hPar.1
    have hsLar := hPar.2.2.1
    have thsLar := SubS.of hsLar
    have hRra := hPar.2.2.2
    have hRma := hRan.by hPar (by omega) (by rw [takePr_bs]; exact hBma) hRfan.hn (by show (28 : Nat) ≠ 101; decide)
    have hZa : Ab.Sub H HLar := fun m b hm => hsLar _ _ ((upd_other _ _ (by have := old_lt hf hm; omega)).trans (hsLan _ _ ((upd_other _ _ (by have := old_lt hf hm; omega)).trans (hXa _ _ hm))))
    have hYa_ := sub_trans hY hZa
    have hDa_ := hD.sub hZa
    have h2a_ := hZa _ _ h2
    have hfa_ := hfLar
    have hVn2 : PdV HLar (takePr r).1 van := hVn.sub (sub_trans (cutH_by hsLar (by omega)) cutH_sub)
    have hVr2 : PdV HLar (takePr r).1 var := hVr.sub cutH_sub
    obtain ⟨xo, xc, xA, xl, xcc, xB, xm, xd, rfl⟩ := hVn2.form
    obtain ⟨yo, yc, yA, yl, ycc, yB, ym, yd, rfl⟩ := hVr2.form
    have hmf := hRra.hn
    refine aOps_1 rfl rfl rfl (AOp.alloc' rfl ?_)
    refine aOps_1 rfl rfl rfl (AOp.alloc' rfl ?_)
    refine aOps_0 rfl rfl rfl ?_
    refine AOp.storeAll (b := ?b12) rfl rfl rfl ?hn12 ?hk12 rfl ?hw12 ?ho12 ?hl12 ?hR12
    (case hn12 => exact hpA)
    (case hk12 => rfl)
    (case hw12 => first | rfl | (simp; done))
    (case ho12 => first | rfl | decide | (simp; done))
    (case hl12 => first | rfl | (simp; done))
    refine aOps_0 rfl rfl rfl ?_
    refine AOp.storeAll (b := ?b13) rfl rfl rfl ?hn13 ?hk13 rfl ?hw13 ?ho13 ?hl13 ?hR13
    (case hn13 => exact hpA)
    (case hk13 => rfl)
    (case hw13 => first | rfl | (simp; done))
    (case ho13 => first | rfl | decide | (simp; done))
    (case hl13 => first | rfl | (simp; done))
    rw [upd_sw (by omega)]
    refine aOps_end ?_
    show ACode _ _ _ _ _ _
    refine ACode.seq ?_
    refine ACode.region' [0, 1, 2, 3, 4, 5, 6] (by kernel_rfl) rfl ?_
    refine aOps_1 rfl rfl rfl (AOp.move' (.inl rfl) rfl ?_)
    refine aOps_q rfl rfl rfl (AOp.call' rfl rfl rfl (nerr _ _ ((upd_other _ _ (by omega)).trans ((upd_other _ _ (by omega)).trans h2a_)) na da Ba _ _ (hRma.sub subA)) (fun _ _ _ h => h)) (fun kq hkq => ?_)
    refine aOps_1 rfl rfl rfl (AOp.move' (.inl rfl) rfl ?_)
    refine aOps_1 rfl rfl rfl (AOp.extract' rfl rfl rfl ?_)
    refine aOps_1 rfl rfl rfl (AOp.extract' rfl rfl rfl ?_)
    refine aOps_1 rfl rfl rfl (AOp.move' (.inr rfl) rfl ?_)
    refine aOps_1 rfl rfl rfl (AOp.move' (.inr rfl) rfl ?_)
    refine aOps_end ?_
    show ACode _ _ _ _ _ _
    refine ACode.seq ?_
    have hE : Ab.Sub H (upd (upd HLar kar (some (pblk xo xc (.slice xA xl xcc) (.slice xB xm xd)))) (kar + 1) (some (pblk yo yc (.slice yA yl ycc) (.slice yB ym yd)))) := sub_trans hYa_ subA
    refine ACode.draw' 32 [(0, 27), (1, 28), (2, 29), (3, 30), (4, 31), (5, 32), (6, 33), (7, 34), (8, 35), (9, 36), (10, 37), (11, 38), (12, 39), (13, 40), (14, 41), (15, 42), (16, 43), (17, 44), (18, 45), (19, 46), (20, 47), (21, 48), (22, 49), (23, 50), (24, 51), (25, 52), (26, 53), (27, 54), (28, 55), (29, 56), (30, 57), (31, 2)] mixed (by kernel_rfl) ?_
    refine Draw.step [(5, none)] rfl (by kernel_rfl) rfl (fun kq hkq => (by refine AOp.loadAll (b := ?b14) (v := pv xo xc xA xl xcc xB xm xd) rfl rfl ?hn14 ?hv14 ?hw14 ?hz14 ?hR14; (case hn14 => exact hpA); (case hv14 => rfl); (case hw14 => rfl); (case hz14 => first | rfl | (simp; done)); exact ⟨rfl, rfl, Nat.le_refl _⟩)) ?_
    refine Draw.step [(6, none)] rfl (by kernel_rfl) rfl (fun kq hkq => (by refine AOp.loadAll (b := ?b15) (v := pv yo yc yA yl ycc yB ym yd) rfl rfl ?hn15 ?hv15 ?hw15 ?hz15 ?hR15; (case hn15 => exact hpA); (case hv15 => rfl); (case hw15 => rfl); (case hz15 => first | rfl | (simp; done)); exact ⟨rfl, rfl, Nat.le_refl _⟩)) ?_
    refine Draw.step [(27, some 0), (28, some 1)] rfl (by kernel_rfl) rfl (fun kq hkq => AOp.call' rfl rfl rfl (same_p _ (takePr r).1 _ _ _ _ (hVn2.sub subA) (hVr2.sub subA) (Nat.lt_succ_self _)) (fun _ _ _ h => h)) ?_
    refine Draw.step [(29, some 2)] rfl (by kernel_rfl) rfl (fun kq hkq => AOp.move' (.inl rfl) rfl ⟨rfl, rfl, Nat.le_refl _⟩) ?_
    refine Draw.gd [(7, none), (30, some 3)] rfl (by kernel_rfl) (wantT rfl rfl rfl) (fun kq hkq hc => AOp.slots [(7, _)] (.cons rfl .nil) (AOp.move' (.inl rfl) rfl ⟨rfl, rfl, Nat.le_refl _⟩)) ?_
    refine Draw.gd [(4, none), (30, some 3)] rfl (by kernel_rfl) (wantT rfl rfl rfl) (fun kq hkq hc => AOp.slots [(4, _)] (.cons rfl .nil) (AOp.move' (.inl rfl) rfl ⟨rfl, rfl, Nat.le_refl _⟩)) ?_
    refine Draw.gd [(32, some 5), (30, some 3)] rfl (by kernel_rfl) (wantT rfl rfl rfl) (fun kq hkq hc => AOp.slots [(32, _)] (.cons (gvT rfl hc) .nil) (AOp.nilCheck' rfl rfl ⟨rfl, rfl, Nat.le_refl _⟩)) ?_
    refine Draw.gd [(33, some 6), (30, some 3)] rfl (by kernel_rfl) (wantT rfl rfl rfl) (fun kq hkq hc => AOp.slots [(33, _)] (.cons (gvT rfl hc) .nil) (AOp.fieldAddr' rfl (by decide) rfl ⟨rfl, rfl, Nat.le_refl _⟩)) ?_
    refine Draw.gd [(34, some 7), (30, some 3)] rfl (by kernel_rfl) (wantT rfl rfl rfl) (fun kq hkq hc => AOp.slots [(34, _)] (.cons (gvT rfl hc) .nil) ((by refine AOp.load1 (b := ?b16) (v := ?v16) rfl rfl ?hn16 ?hv16 ?hR16; (case hn16 => exact hpA); (case hv16 => rfl); exact ⟨rfl, rfl, Nat.le_refl _⟩))) ?_
    refine Draw.gd [(31, some 4), (35, some 8), (30, some 3)] rfl (by kernel_rfl) (wantT rfl rfl rfl) (fun kq hkq hc => AOp.slots [(31, _), (35, _)] (.cons (gvT rfl hc) (.cons (gvT rfl hc) .nil)) (AOp.bin' rfl rfl rfl rfl ⟨rfl, rfl, Nat.le_refl _⟩)) ?_
    refine Draw.step [(30, some 3), (36, some 9)] rfl (by kernel_rfl) rfl (fun kq hkq => AOp.pickAnd rfl rfl rfl (fun hb => gvE rfl hb) ⟨rfl, rfl, Nat.le_refl _⟩) ?_
    refine Draw.step [(37, some 10)] rfl (by kernel_rfl) rfl (fun kq hkq => AOp.move' (.inl rfl) rfl ⟨rfl, rfl, Nat.le_refl _⟩) ?_
    refine Draw.gd [(8, none), (38, some 11)] rfl (by kernel_rfl) (wantT rfl rfl rfl) (fun kq hkq hc => AOp.slots [(8, _)] (.cons rfl .nil) (AOp.move' (.inl rfl) rfl ⟨rfl, rfl, Nat.le_refl _⟩)) ?_
    refine Draw.gd [(4, none), (38, some 11)] rfl (by kernel_rfl) (wantT rfl rfl rfl) (fun kq hkq hc => AOp.slots [(4, _)] (.cons rfl .nil) (AOp.move' (.inl rfl) rfl ⟨rfl, rfl, Nat.le_refl _⟩)) ?_
    refine Draw.gd [(40, some 13), (38, some 11)] rfl (by kernel_rfl) (wantT rfl rfl rfl) (fun kq hkq hc => AOp.slots [(40, _)] (.cons (gvT rfl hc) .nil) (AOp.nilCheck' rfl rfl ⟨rfl, rfl, Nat.le_refl _⟩)) ?_
    refine Draw.gd [(41, some 14), (38, some 11)] rfl (by kernel_rfl) (wantT rfl rfl rfl) (fun kq hkq hc => AOp.slots [(41, _)] (.cons (gvT rfl hc) .nil) (AOp.fieldAddr' rfl (by decide) rfl ⟨rfl, rfl, Nat.le_refl _⟩)) ?_
    refine Draw.gd [(42, some 15), (38, some 11)] rfl (by kernel_rfl) (wantT rfl rfl rfl) (fun kq hkq hc => AOp.slots [(42, _)] (.cons (gvT rfl hc) .nil) ((by refine AOp.load1 (b := ?b17) (v := ?v17) rfl rfl ?hn17 ?hv17 ?hR17; (case hn17 => exact hpA); (case hv17 => rfl); exact ⟨rfl, rfl, Nat.le_refl _⟩))) ?_
    refine Draw.gd [(39, some 12), (43, some 16), (38, some 11)] rfl (by kernel_rfl) (wantT rfl rfl rfl) (fun kq hkq hc => AOp.slots [(39, _), (43, _)] (.cons (gvT rfl hc) (.cons (gvT rfl hc) .nil)) (AOp.bin' rfl rfl rfl rfl ⟨rfl, rfl, Nat.le_refl _⟩)) ?_
    refine Draw.step [(38, some 11), (44, some 17)] rfl (by kernel_rfl) rfl (fun kq hkq => AOp.pickAnd rfl rfl rfl (fun hb => gvE rfl hb) ⟨rfl, rfl, Nat.le_refl _⟩) ?_
    refine Draw.step [(45, some 18)] rfl (by kernel_rfl) rfl (fun kq hkq => AOp.move' (.inl rfl) rfl ⟨rfl, rfl, Nat.le_refl _⟩) ?_
    refine Draw.gd [(3, none), (46, some 19)] rfl (by kernel_rfl) (wantT rfl rfl rfl) (fun kq hkq hc => AOp.slots [(3, _)] (.cons rfl .nil) (AOp.move' (.inl rfl) rfl ⟨rfl, rfl, Nat.le_refl _⟩)) ?_
    refine Draw.gd [(47, some 20), (46, some 19)] rfl (by kernel_rfl) (wantT rfl rfl rfl) (fun kq hkq hc => AOp.slots [(47, _)] (.cons (gvT rfl hc) .nil) (AOp.call' rfl rfl rfl (nat_ _ _ na da Ba _ _ (hRma.sub subA)) (fun _ _ _ h => h))) ?_
    refine Draw.gd [(4, none), (46, some 19)] rfl (by kernel_rfl) (wantT rfl rfl rfl) (fun kq hkq hc => AOp.slots [(4, _)] (.cons rfl .nil) (AOp.move' (.inl rfl) rfl ⟨rfl, rfl, Nat.le_refl _⟩)) ?_
    refine Draw.gd [(49, some 22), (46, some 19)] rfl (by kernel_rfl) (wantT rfl rfl rfl) (fun kq hkq hc => AOp.slots [(49, _)] (.cons (gvT rfl hc) .nil) (AOp.nilCheck' rfl rfl ⟨rfl, rfl, Nat.le_refl _⟩)) ?_
    refine Draw.gd [(50, some 23), (46, some 19)] rfl (by kernel_rfl) (wantT rfl rfl rfl) (fun kq hkq hc => AOp.slots [(50, _)] (.cons (gvT rfl hc) .nil) (AOp.fieldAddr' rfl (by decide) rfl ⟨rfl, rfl, Nat.le_refl _⟩)) ?_
    refine Draw.gd [(51, some 24), (46, some 19)] rfl (by kernel_rfl) (wantT rfl rfl rfl) (fun kq hkq hc => AOp.slots [(51, _)] (.cons (gvT rfl hc) .nil) ((by refine AOp.load1 (b := ?b18) (v := ?v18) rfl rfl ?hn18 ?hv18 ?hR18; (case hn18 => exact hpA); (case hv18 => rfl); exact ⟨rfl, rfl, Nat.le_refl _⟩))) ?_
    refine Draw.gd [(48, some 21), (52, some 25), (46, some 19)] rfl (by kernel_rfl) (wantT rfl rfl rfl) (fun kq hkq hc => AOp.slots [(48, _), (52, _)] (.cons (gvT rfl hc) (.cons (gvT rfl hc) .nil)) (AOp.bin' rfl rfl rfl rfl ⟨rfl, rfl, Nat.le_refl _⟩)) ?_
    refine Draw.step [(46, some 19), (53, some 26)] rfl (by kernel_rfl) rfl (fun kq hkq => AOp.pickAnd rfl rfl rfl (fun hb => gvE rfl hb) ⟨rfl, rfl, Nat.le_refl _⟩) ?_
    refine Draw.step [(54, some 27)] rfl (by kernel_rfl) rfl (fun kq hkq => AOp.move' (.inl rfl) rfl ⟨rfl, rfl, Nat.le_refl _⟩) ?_
    refine Draw.gd [(55, some 28)] rfl (by kernel_rfl) (wantT rfl rfl rfl) (fun kq hkq hc => AOp.slots [] .nil (AOp.call' rfl rfl rfl ((awake16 _ _ (hE _ _ ht)).lift (by decide)) (fun _ _ _ h => h))) ?_
    refine Draw.step [(55, some 28), (56, some 29)] rfl (by kernel_rfl) rfl (fun kq hkq => AOp.pickAnd rfl rfl rfl (fun hb => gvE rfl hb) ⟨rfl, rfl, Nat.le_refl _⟩) ?_
    refine Draw.step [(57, some 30)] rfl (by kernel_rfl) rfl (fun kq hkq => AOp.move' (.inr rfl) rfl ⟨rfl, rfl, Nat.le_refl _⟩) ?_
    refine Draw.done fun kq hkq => ?_
    show aOps _ _ _ _ [] ⟨_, _, _⟩
    refine aOps_end ?_
    show ACode _ _ _ _ _ _
    refine ACode.ret ?_
    try simp only [thenA, blockA, if_true]
    exact RetQ.one rfl rfl (sub_refl _) (fun n b h => ⟨b, hE n b h⟩) (fun hk => by simp)
end

end Go.Proofs.YteoofihjmldllaaDoor
