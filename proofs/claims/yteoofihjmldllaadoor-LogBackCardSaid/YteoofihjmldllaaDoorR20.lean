/- Contracts over the abstract states: how great predicates and commands are. -/
import Derived.Test.YteoofihjmldllaaDoorR18
import Derived.Test.YteoofihjmldllaaDoorZ2
set_option linter.unusedVariables false
set_option linter.unusedSimpArgs false
set_option maxRecDepth 100000
namespace Go.Proofs.YteoofihjmldllaaDoor
open Go Go.Ab

def greatB (c : Cm) : Bool := (decide ((c.sch.length : Int) > 70) || greatW 40 70 60 c.rows) || decide (sizeP 200 c.pred 40 > 200)
def greatC (c : Cm) : Bool := greatB c || decide ((c.rows.length : Int) > 150)
/-- What is so of a command that is not great. -/
structure Cm.lean_ (c : Cm) : Prop where
  sch : c.sch.length ≤ 70
  small : Small c.rows
  tiny : c.pred.tiny
  len : c.pred.fine → (putP c.pred).length ≤ 100000
  sz : szP c.pred ≤ 1000
theorem great_lean {c : Cm} (ho : c.ok) (hs : c.pred.okS) (h : greatC c = false) : c.lean_ := by
  unfold greatC greatB at h
  simp only [Bool.or_eq_false_iff, decide_eq_false_iff_not] at h
  obtain ⟨⟨⟨h1, h2⟩, h3⟩, h4⟩ := h
  have h3 : sizeP 200 c.pred 40 ≤ 200 := by omega
  refine ⟨by omega, ?_, small_tiny (by decide) (by decide) c.pred 40 hs h3, fun hf => ?_, by have g1 := szP_le (most := 200) (by decide) (by decide) c.pred 40 hs h3; omega⟩
  · unfold greatW at h2
    rw [Bool.or_eq_false_iff, decide_eq_false_iff_not] at h2
    have e1 : c.rows.take 40 = c.rows := List.take_of_length_le (by omega)
    rw [e1, List.any_eq_false] at h2
    have e2 : ∀ r ∈ c.rows, r.length ≤ 70 ∧ ∀ v ∈ r, v.s.size ≤ 60 := by
      intro r hr
      have := h2.1 r hr
      rw [Bool.not_eq_true, greatV, Bool.or_eq_false_iff, decide_eq_false_iff_not] at this
      have e3 : r.take 70 = r := List.take_of_length_le (by omega)
      rw [e3, List.any_eq_false] at this
      refine ⟨by omega, fun v hv => ?_⟩
      have := this.1 v hv
      rw [decide_eq_true_eq] at this
      omega
    exact ⟨by omega, fun r hr => (e2 r hr).1, fun r hr v hv => ⟨ho.ro r hr v hv, Nat.le_trans ((e2 r hr).2 v hv) (by decide)⟩⟩
  · have g1 := szP_le (most := 200) (by decide) (by decide) c.pred 40 hs h3
    have g2 := putP_le c.pred hf (by omega)
    omega
section
variable (H : Hp) (k : Nat)

theorem size_g : ∀ (N : Nat) (p : Pd) (v : Value) (deep : Nat) (H : Hp) (k : Nat), PdV H p v → deep ≤ 40 → SizeOf.sizeOf p < N → ACalls Tryd.prog 3 107 [v, .int .i64 200, .int .i64 (deep : Int)] H k (Same H k (.int .i64 (sizeP 200 p deep))) := by
  intro N
  induction N
  case zero => intro p v deep H k hp hd hN; exact absurd hN (Nat.not_lt_zero _)
  rename_i N ih
  intro p v deep H k hp hd hN
  cases p
  rename_i op col vals of
  have hpS := hp.okS
  rw [PdV] at hp
  obtain ⟨A, c, B, d, bs, rfl, hA, hvl, hol, hop, hcl, hok, hB, hPs⟩ := hp
  rw [Pd.okS] at hpS
  refine ACalls.fresh fun hf => ?_
  refine ACalls.body Tryd.func107 rfl (Nat.le_of_ble_eq_true rfl) ?_
  have hV1 := sizePs_bd (most := 200) (by decide) of (deep - 1) hpS.2
  have hV2 : (sizePs 200 of (deep - 1)).length = of.length := by rw [sizePs_map, List.length_map]
  refine ACode.seq ?_
  refine ACode.region' [0, 1] (by kernel_rfl) rfl ?_
  refine aOps_1 rfl rfl rfl (AOp.boxV rfl rfl ?_)
  refine aOps_1 rfl rfl rfl (AOp.move' (.inr rfl) rfl ?_)
  refine aOps_end ?_
  show ACode _ _ _ _ _ _
  refine ACode.seq ?_
  refine ACode.region' [0] (by kernel_rfl) rfl ?_
  refine aOps_1 rfl rfl rfl (AOp.move' (.inr rfl) rfl ?_)
  refine aOps_end ?_
  show ACode _ _ _ _ _ _
  refine ACode.seq ?_
  refine ACode.seq ?_
  refine ACode.region' [0, 1] (by kernel_rfl) rfl ?_
  refine aOps_1 rfl rfl rfl (AOp.move' (.inl rfl) rfl ?_)
  refine aOps_1 rfl rfl rfl (AOp.bin' rfl rfl rfl rfl ?_)
  refine aOps_end ?_
  show ACode _ _ _ _ _ _
  refine ACode.cond rfl (fun c0 => ?_) (fun c0 => ?_)
  · try simp only [decide_eq_true_eq, decide_eq_false_iff_not, beq_iff_eq, beq_eq_false_iff_ne, ne_eq, bne_iff_ne, Bool.not_eq_true', Bool.not_eq_false', Int.not_lt, Int.not_le, gt_iff_lt, ge_iff_le, bne_eq_false_iff_eq, Bool.not_eq_eq_eq_not, Bool.not_true, Bool.not_false] at c0
    have hd0 : deep = 0 := by omega
    refine ACode.seq ?_
    refine ACode.region' [0, 1, 2] (by kernel_rfl) rfl ?_
    refine aOps_1 rfl rfl rfl (AOp.move' (.inl rfl) rfl ?_)
    refine aOps_1 rfl rfl rfl (AOp.add rfl rfl rfl (i64_wrap (by omega) (by omega)) ?_)
    refine aOps_1 rfl rfl rfl (AOp.move' (.inr rfl) rfl ?_)
    refine aOps_end ?_
    show ACode _ _ _ _ _ _
    refine ACode.ret ?_
    exact RetQ.one rfl rfl subA stays (fun hk => ⟨(by rw [sizeP, if_pos hd0]), rfl, by omega⟩)
  · try simp only [decide_eq_true_eq, decide_eq_false_iff_not, beq_iff_eq, beq_eq_false_iff_ne, ne_eq, bne_iff_ne, Bool.not_eq_true', Bool.not_eq_false', Int.not_lt, Int.not_le, gt_iff_lt, ge_iff_le, bne_eq_false_iff_eq, Bool.not_eq_eq_eq_not, Bool.not_true, Bool.not_false] at c0
    have hd0 : ¬ deep = 0 := by omega
    refine ACode.skip ?_
    show ACode _ _ _ _ _ _
    refine ACode.seq ?_
    refine ACode.seq ?_
    refine ACode.region' [0] (by kernel_rfl) rfl ?_
    refine aOps_1 rfl rfl rfl (AOp.move' (.inr rfl) rfl ?_)
    refine aOps_end ?_
    show ACode _ _ _ _ _ _
    refine ACode.block ?_
    refine ACode.count0 (fun i => [(8, .int .i64 (i : Int)), (7, .int .i64 (szV (vals.take i)))]) [(1, _), (2, _), (3, _), (6, _)] (vals.length) (fun i => sizeVs 200 1 vals = sizeVs 200 (szV (vals.take i)) (vals.drop i) ∧ 1 ≤ szV (vals.take i) ∧ szV (vals.take i) ≤ 200 + 140737488351233) (.cons rfl (.cons rfl .nil)) (.cons rfl (.cons rfl (.cons rfl (.cons rfl .nil)))) ⟨rfl, (show (1 : Int) ≤ 1 by decide), (show (1 : Int) ≤ 200 + 140737488351233 by decide)⟩ (fun i0 kL0 HL0 hiL0 hkL0 hsL0 hfL0 hxL0 => ?_)
    show ACode _ _ _ _ _ ⟨_, _, _⟩
    have tsL0 := SubS.of hsL0
    refine ACode.seq ?_
    refine ACode.seq ?_
    refine ACode.region' [0, 1, 2, 3, 4, 5, 6, 7, 8, 9] (by kernel_rfl) rfl ?_
    refine aOps_1 rfl rfl rfl (AOp.move' (.inl rfl) rfl ?_)
    refine aOps_1 rfl rfl rfl (AOp.fieldAddr' rfl (by decide) rfl ?_)
    refine aOps_1 rfl rfl rfl ?_
    refine AOp.load1 (b := ?b1) (v := ?v1) rfl rfl ?hn1 ?hv1 ?hR1
    (case hn1 => exact hpA)
    (case hv1 => rfl)
    refine aOps_1 rfl rfl rfl (AOp.len' rfl rfl ?_)
    refine aOps_1 rfl rfl rfl (AOp.bin' rfl rfl rfl rfl ?_)
    refine aOps_1 rfl rfl rfl (AOp.move' (.inl rfl) rfl ?_)
    refine aOps_gd0 rfl rfl (wantT rfl rfl rfl) (fun hc => AOp.slots [(7, _)] (.cons rfl .nil) (AOp.move' (.inl rfl) rfl ⟨rfl, rfl, rfl⟩)) ?_
    refine aOps_gd0 rfl rfl (wantT rfl rfl rfl) (fun hc => AOp.slots [(1, _)] (.cons rfl .nil) (AOp.move' (.inl rfl) rfl ⟨rfl, rfl, rfl⟩)) ?_
    refine aOps_gd0 rfl rfl (wantT rfl rfl rfl) (fun hc => AOp.slots [(20, _), (21, _)] (.cons (gvT rfl hc) (.cons (gvT rfl hc) .nil)) (AOp.bin' rfl rfl rfl rfl ⟨rfl, rfl, rfl⟩)) ?_
    refine aOps_1 rfl rfl rfl (AOp.pickAnd rfl rfl rfl (fun hb => gvE rfl hb) ?_)
    refine aOps_end ?_
    show ACode _ _ _ _ _ _
    refine ACode.cond rfl (fun c1 => ?_) (fun c1 => ?_)
    · try simp only [decide_eq_true_eq, decide_eq_false_iff_not, beq_iff_eq, beq_eq_false_iff_ne, ne_eq, bne_iff_ne, Bool.not_eq_true', Bool.not_eq_false', Int.not_lt, Int.not_le, gt_iff_lt, ge_iff_le, bne_eq_false_iff_eq, Bool.not_eq_eq_eq_not, Bool.not_true, Bool.not_false] at c1
      simp only [Bool.and_eq_true, decide_eq_true_eq] at c1
      have hsz := hpS.1 (vals.getD i0 vD) (by rw [← getD_i (by omega)]; exact List.getElem_mem _)
      refine ACode.skip ?_
      show ACode _ _ _ _ _ _
      refine ACode.seq ?_
      refine ACode.block ?_
      obtain ⟨n7_5, o7_5, s7_5, hq7_5, hp7_5⟩ := slcV hA (show i0 < vals.length by omega)
      refine ACode.region' [0, 1, 2, 3, 4, 5, 6, 7, 8, 9, 10] (by kernel_rfl) rfl ?_
      refine aOps_1 rfl rfl rfl (AOp.move' (.inl rfl) rfl ?_)
      refine aOps_1 rfl rfl rfl (AOp.add rfl rfl rfl (i64_wrap (by omega) (by omega)) ?_)
      refine aOps_1 rfl rfl rfl (AOp.fieldAddr' rfl (by decide) rfl ?_)
      refine aOps_1 rfl rfl rfl ?_
      refine AOp.load1 (b := ?b2) (v := ?v2) rfl rfl ?hn2 ?hv2 ?hR2
      (case hn2 => exact hpA)
      (case hv2 => rfl)
      refine aOps_1 rfl rfl rfl (AOp.move' (.inl rfl) rfl ?_)
      refine aOps_1 rfl rfl rfl (AOp.indexP (aslcAt_sub subA hq7_5) rfl rfl rfl ?_)
      refine aOps_1 rfl rfl rfl (AOp.fieldP (hp7_5.sub subA) rfl (by decide) (Nat.le_of_ble_eq_true rfl) rfl ?_)
      refine aOps_1 rfl rfl rfl (AOp.loadP1 (hp7_5.sub subA) rfl rfl rfl ?_)
      refine aOps_1 rfl rfl rfl (AOp.lenStr' rfl rfl ?_)
      refine aOps_1 rfl rfl rfl (AOp.add rfl rfl rfl (i64_wrap (by omega) (by omega)) ?_)
      refine aOps_1 rfl rfl rfl (AOp.move' (.inr rfl) rfl ?_)
      refine aOps_end ?_
      show ACode _ _ _ _ _ _
      refine ACode.region' [0, 1, 2] (by kernel_rfl) rfl ?_
      refine aOps_1 rfl rfl rfl (AOp.move' (.inl rfl) rfl ?_)
      refine aOps_1 rfl rfl rfl (AOp.add rfl rfl rfl (i64_wrap (by omega) (by omega)) ?_)
      refine aOps_1 rfl rfl rfl (AOp.move' (.inr rfl) rfl ?_)
      refine aOps_end ?_
      have hvt := szV_take (l := vals) (i := i0) (by omega)
      first | refine thenA_n ?_ | simp only [thenA, blockA, if_true]
      exact NextR.mk (by omega) (by omega) (.cons rfl (.cons (show _ = some (Value.int .i64 _) by rw [hvt]; rfl) .nil)) (.cons rfl (.cons rfl (.cons rfl (.cons rfl .nil)))) subA ⟨hxL0.1.trans (sizeVs_go (by omega) c1.2), by omega, by omega⟩
    · try simp only [decide_eq_true_eq, decide_eq_false_iff_not, beq_iff_eq, beq_eq_false_iff_ne, ne_eq, bne_iff_ne, Bool.not_eq_true', Bool.not_eq_false', Int.not_lt, Int.not_le, gt_iff_lt, ge_iff_le, bne_eq_false_iff_eq, Bool.not_eq_eq_eq_not, Bool.not_true, Bool.not_false] at c1
      simp only [Bool.and_eq_false_iff, decide_eq_false_iff_not] at c1
      have hVe : sizeVs 200 1 vals = szV (vals.take i0) := hxL0.1.trans (sizeVs_end (by rcases c1 with h | h; exact .inl (List.drop_eq_nil_of_le (by omega)); exact .inr h))
      refine ACode.exit ?_
      show ACode _ _ _ _ _ _
      refine ACode.seq ?_
      refine ACode.seq ?_
      refine ACode.region' [0] (by kernel_rfl) rfl ?_
      refine aOps_1 rfl rfl rfl (AOp.move' (.inr rfl) rfl ?_)
      refine aOps_end ?_
      show ACode _ _ _ _ _ _
      refine ACode.block ?_
      refine ACode.count0 (fun i => [(9, .int .i64 (i : Int)), (7, .int .i64 (szO ((sizePs 200 of (deep - 1)).take i) (szV (vals.take i0))))]) [(1, _), (2, _), (3, _), (6, _), (8, _), (14, _), (15, _), (16, _), (17, _), (18, _), (19, _), (20, _), (21, _), (22, _), (23, _)] (of.length) (fun i => sizeOs 200 (szV (vals.take i0)) (sizePs 200 of (deep - 1)) = sizeOs 200 (szO ((sizePs 200 of (deep - 1)).take i) (szV (vals.take i0))) ((sizePs 200 of (deep - 1)).drop i) ∧ 1 ≤ szO ((sizePs 200 of (deep - 1)).take i) (szV (vals.take i0)) ∧ szO ((sizePs 200 of (deep - 1)).take i) (szV (vals.take i0)) ≤ 300000000000000) (.cons rfl (.cons rfl .nil)) (.cons rfl (.cons rfl (.cons rfl (.cons rfl (.cons rfl (.cons rfl (.cons rfl (.cons rfl (.cons rfl (.cons rfl (.cons rfl (.cons rfl (.cons rfl (.cons rfl (.cons rfl .nil))))))))))))))) ⟨rfl, hxL0.2.1, Int.le_trans hxL0.2.2 (by decide)⟩ (fun i1 kL1 HL1 hiL1 hkL1 hsL1 hfL1 hxL1 => ?_)
      show ACode _ _ _ _ _ ⟨_, _, _⟩
      have tsL1 := SubS.of hsL1
      refine ACode.seq ?_
      refine ACode.seq ?_
      refine ACode.region' [0, 1, 2, 3, 4, 5, 6, 7, 8, 9] (by kernel_rfl) rfl ?_
      refine aOps_1 rfl rfl rfl (AOp.move' (.inl rfl) rfl ?_)
      refine aOps_1 rfl rfl rfl (AOp.fieldAddr' rfl (by decide) rfl ?_)
      refine aOps_1 rfl rfl rfl ?_
      refine AOp.load1 (b := ?b3) (v := ?v3) rfl rfl ?hn3 ?hv3 ?hR3
      (case hn3 => exact hpA)
      (case hv3 => rfl)
      refine aOps_1 rfl rfl rfl (AOp.len' rfl rfl ?_)
      refine aOps_1 rfl rfl rfl (AOp.bin' rfl rfl rfl rfl ?_)
      refine aOps_1 rfl rfl rfl (AOp.move' (.inl rfl) rfl ?_)
      refine aOps_gd0 rfl rfl (wantT rfl rfl rfl) (fun hc => AOp.slots [(7, _)] (.cons rfl .nil) (AOp.move' (.inl rfl) rfl ⟨rfl, rfl, rfl⟩)) ?_
      refine aOps_gd0 rfl rfl (wantT rfl rfl rfl) (fun hc => AOp.slots [(1, _)] (.cons rfl .nil) (AOp.move' (.inl rfl) rfl ⟨rfl, rfl, rfl⟩)) ?_
      refine aOps_gd0 rfl rfl (wantT rfl rfl rfl) (fun hc => AOp.slots [(42, _), (43, _)] (.cons (gvT rfl hc) (.cons (gvT rfl hc) .nil)) (AOp.bin' rfl rfl rfl rfl ⟨rfl, rfl, rfl⟩)) ?_
      refine aOps_1 rfl rfl rfl (AOp.pickAnd rfl rfl rfl (fun hb => gvE rfl hb) ?_)
      refine aOps_end ?_
      show ACode _ _ _ _ _ _
      refine ACode.cond rfl (fun c2 => ?_) (fun c2 => ?_)
      · try simp only [decide_eq_true_eq, decide_eq_false_iff_not, beq_iff_eq, beq_eq_false_iff_ne, ne_eq, bne_iff_ne, Bool.not_eq_true', Bool.not_eq_false', Int.not_lt, Int.not_le, gt_iff_lt, ge_iff_le, bne_eq_false_iff_eq, Bool.not_eq_eq_eq_not, Bool.not_true, Bool.not_false] at c2
        simp only [Bool.and_eq_true, decide_eq_true_eq] at c2
        have hx2 : (sizePs 200 of (deep - 1)).getD i1 0 = sizeP 200 (of.getD i1 pD) (deep - 1) := by rw [sizePs_map, List.getD_eq_getElem?_getD, List.getElem?_map, List.getElem?_eq_getElem (show i1 < of.length by omega), List.getD_eq_getElem?_getD, List.getElem?_eq_getElem (show i1 < of.length by omega)]; rfl
        have hxb := hV1 ((sizePs 200 of (deep - 1)).getD i1 0) (by rw [List.getD_eq_getElem?_getD, List.getElem?_eq_getElem (by omega)]; exact List.getElem_mem _)
        rw [hx2] at hxb
        refine ACode.skip ?_
        show ACode _ _ _ _ _ _
        refine ACode.seq ?_
        refine ACode.block ?_
        obtain ⟨n11_4, o11_4, s11_4, v1, hq11_4, hp11_4, hv1⟩ := PdVs.el pD hB hPs (show i1 < of.length by omega)
        obtain ⟨g1, g2⟩ := hv1.agg
        refine ACode.region' [0, 1, 2, 3, 4, 5, 6, 7, 8, 9, 10, 11] (by kernel_rfl) rfl ?_
        refine aOps_1 rfl rfl rfl (AOp.move' (.inl rfl) rfl ?_)
        refine aOps_1 rfl rfl rfl (AOp.fieldAddr' rfl (by decide) rfl ?_)
        refine aOps_1 rfl rfl rfl ?_
        refine AOp.load1 (b := ?b4) (v := ?v4) rfl rfl ?hn4 ?hv4 ?hR4
        (case hn4 => exact hpA)
        (case hv4 => rfl)
        refine aOps_1 rfl rfl rfl (AOp.move' (.inl rfl) rfl ?_)
        refine aOps_1 rfl rfl rfl (AOp.indexP (aslcAt_sub subA hq11_4) rfl rfl rfl ?_)
        refine aOps_1 rfl rfl rfl (AOp.loadPA (v := v1) (hp11_4.sub subA) rfl rfl rfl g1 g2 (by decide) ?_)
        refine aOps_1 rfl rfl rfl (AOp.move' (.inl rfl) rfl ?_)
        refine aOps_1 rfl rfl rfl (AOp.move' (.inl rfl) rfl ?_)
        refine aOps_1 rfl rfl rfl (AOp.sub rfl rfl rfl (i64_wrap (by omega) (by omega)) ?_)
        rw [show ((deep : Int) - 1) = ((deep - 1 : Nat) : Int) by omega]
        refine aOps_q rfl rfl rfl (AOp.call' rfl rfl rfl (ih (of.getD i1 pD) v1 (deep - 1) _ _ (hv1.sub subA) (by omega) (by have := Pd.lt (op := op) (col := col) (vals := vals) (pd_getD (ps := of) (i := i1) (by omega)); omega)) (fun _ _ _ h => h)) (fun kq hkq => ?_)
        refine aOps_1 rfl rfl rfl (AOp.add rfl rfl rfl (i64_wrap (by omega) (by omega)) ?_)
        refine aOps_1 rfl rfl rfl (AOp.move' (.inr rfl) rfl ?_)
        refine aOps_end ?_
        show ACode _ _ _ _ _ _
        refine ACode.region' [0, 1, 2] (by kernel_rfl) rfl ?_
        refine aOps_1 rfl rfl rfl (AOp.move' (.inl rfl) rfl ?_)
        refine aOps_1 rfl rfl rfl (AOp.add rfl rfl rfl (i64_wrap (by omega) (by omega)) ?_)
        refine aOps_1 rfl rfl rfl (AOp.move' (.inr rfl) rfl ?_)
        refine aOps_end ?_
        have hot := szO_take (l := sizePs 200 of (deep - 1)) (i := i1) (n := szV (vals.take i0)) (by omega)
        rw [hx2] at hot
        first | refine thenA_n ?_ | simp only [thenA, blockA, if_true]
        exact NextR.mk (by omega) (by omega) (.cons rfl (.cons (show _ = some (Value.int .i64 _) by rw [hot]; rfl) .nil)) (.cons rfl (.cons rfl (.cons rfl (.cons rfl (.cons rfl (.cons rfl (.cons rfl (.cons rfl (.cons rfl (.cons rfl (.cons rfl (.cons rfl (.cons rfl (.cons rfl (.cons rfl .nil))))))))))))))) subA ⟨hxL1.1.trans (sizeOs_go (by omega) c2.2), by omega, by omega⟩
      · try simp only [decide_eq_true_eq, decide_eq_false_iff_not, beq_iff_eq, beq_eq_false_iff_ne, ne_eq, bne_iff_ne, Bool.not_eq_true', Bool.not_eq_false', Int.not_lt, Int.not_le, gt_iff_lt, ge_iff_le, bne_eq_false_iff_eq, Bool.not_eq_eq_eq_not, Bool.not_true, Bool.not_false] at c2
        simp only [Bool.and_eq_false_iff, decide_eq_false_iff_not] at c2
        have hOe : sizeOs 200 (szV (vals.take i0)) (sizePs 200 of (deep - 1)) = szO ((sizePs 200 of (deep - 1)).take i1) (szV (vals.take i0)) := hxL1.1.trans (sizeOs_end (by rcases c2 with h | h; exact .inl (List.drop_eq_nil_of_le (by omega)); exact .inr h))
        refine ACode.exit ?_
        show ACode _ _ _ _ _ _
        refine ACode.seq ?_
        refine ACode.region' [0, 1] (by kernel_rfl) rfl ?_
        refine aOps_1 rfl rfl rfl (AOp.move' (.inl rfl) rfl ?_)
        refine aOps_1 rfl rfl rfl (AOp.move' (.inr rfl) rfl ?_)
        refine aOps_end ?_
        show ACode _ _ _ _ _ _
        refine ACode.ret ?_
        exact RetQ.one rfl rfl subA stays (fun hk => ⟨(by rw [sizeP, if_neg hd0, hVe, hOe]), rfl, by omega⟩)

theorem great24 (c : Cm) (ho : c.ok) (xs : Option Addr) (xn : Nat) (xw : Option Addr) (xwn : Nat) (xws : List Value) (xo xc : Int) (xA : Option Addr) (xl xcc : Nat) (xB : Option Addr) (xm xd : Nat) (x1 : SLC H 3 xs c.sch.length xn (cols3 c.sch)) (x2 : SLC H 1 xw xws.length xwn xws) (x3 : Rws H xws c.rows) (x4 : PdV H c.pred (pv xo xc xA xl xcc xB xm xd)) (q : Nat) (hq : H q = some { cells := [.int .i64 c.kind, .slice xs c.sch.length xn, .int .i64 c.most, .slice xw xws.length xwn, .int .i64 xo, .int .i64 xc, .slice xA xl xcc, .slice xB xm xd, .int .i64 c.fr, .int .i64 c.to], elem := 44, kind := .grow, esz := 10 }) : ACalls Tryd.prog 3 57 [.slice (some ⟨q, 0, some 1⟩) 1 1, .int .i64 1] H k (Same H k (.bool (greatC c))) := by
  refine ACalls.fresh fun hf => ?_
  refine ACalls.body Tryd.func57 rfl (Nat.le_of_ble_eq_true rfl) ?_
  have hx3 := x3.len
  have hrl := ho.rl
  have hsl := ho.sl
  have hqk := old_lt hf hq
  refine ACode.seq ?_
  refine ACode.region' [0] (by kernel_rfl) rfl ?_
  refine aOps_1 rfl rfl rfl (AOp.move' (.inr rfl) rfl ?_)
  refine aOps_end ?_
  show ACode _ _ _ _ _ _
  refine ACode.seq ?_
  refine ACode.region' [0] (by kernel_rfl) rfl ?_
  refine aOps_1 rfl rfl rfl (AOp.move' (.inr rfl) rfl ?_)
  refine aOps_end ?_
  show ACode _ _ _ _ _ _
  refine ACode.seq ?_
  refine ACode.seq ?_
  refine ACode.region' [0] (by kernel_rfl) rfl ?_
  refine aOps_1 rfl rfl rfl (AOp.move' (.inr rfl) rfl ?_)
  refine aOps_end ?_
  show ACode _ _ _ _ _ _
  refine ACode.block ?_
  refine ACode.count0 (fun i => [(6, .int .i64 (i : Int)), (5, .int .i64 (if i = 0 then 0 else (c.rows.length : Int)))]) [(0, _), (1, _)] (1) (fun i => i = 0 ∨ greatB c = false) (.cons rfl (.cons rfl .nil)) (.cons rfl (.cons rfl .nil)) (.inl rfl) (fun i0 kL0 HL0 hiL0 hkL0 hsL0 hfL0 hxL0 => ?_)
  show ACode _ _ _ _ _ ⟨_, _, _⟩
  have tsL0 := SubS.of hsL0
  refine ACode.seq ?_
  refine ACode.seq ?_
  refine ACode.region' [0, 1, 2, 3, 4, 5, 6, 7, 8] (by kernel_rfl) rfl ?_
  refine aOps_1 rfl rfl rfl (AOp.move' (.inl rfl) rfl ?_)
  refine aOps_1 rfl rfl rfl (AOp.move' (.inl rfl) rfl ?_)
  refine aOps_1 rfl rfl rfl (AOp.len' rfl rfl ?_)
  refine aOps_1 rfl rfl rfl (AOp.bin' rfl rfl rfl rfl ?_)
  refine aOps_1 rfl rfl rfl (AOp.move' (.inl rfl) rfl ?_)
  refine aOps_gd0 rfl rfl (wantT rfl rfl rfl) (fun hc => AOp.slots [(6, _)] (.cons rfl .nil) (AOp.move' (.inl rfl) rfl ⟨rfl, rfl, rfl⟩)) ?_
  refine aOps_gd0 rfl rfl (wantT rfl rfl rfl) (fun hc => AOp.slots [(1, _)] (.cons rfl .nil) (AOp.move' (.inl rfl) rfl ⟨rfl, rfl, rfl⟩)) ?_
  refine aOps_gd0 rfl rfl (wantT rfl rfl rfl) (fun hc => AOp.slots [(13, _), (14, _)] (.cons (gvT rfl hc) (.cons (gvT rfl hc) .nil)) (AOp.bin' rfl rfl rfl rfl ⟨rfl, rfl, rfl⟩)) ?_
  refine aOps_1 rfl rfl rfl (AOp.pickAnd rfl rfl rfl (fun hb => gvE rfl hb) ?_)
  refine aOps_end ?_
  show ACode _ _ _ _ _ _
  refine ACode.cond rfl (fun c0 => ?_) (fun c0 => ?_)
  · try simp only [decide_eq_true_eq, decide_eq_false_iff_not, beq_iff_eq, beq_eq_false_iff_ne, ne_eq, bne_iff_ne, Bool.not_eq_true', Bool.not_eq_false', Int.not_lt, Int.not_le, gt_iff_lt, ge_iff_le, bne_eq_false_iff_eq, Bool.not_eq_eq_eq_not, Bool.not_true, Bool.not_false] at c0
    simp only [Bool.and_eq_true, decide_eq_true_eq] at c0
    refine ACode.skip ?_
    show ACode _ _ _ _ _ _
    refine ACode.seq ?_
    refine ACode.block ?_
    refine ACode.seq ?_
    obtain rfl : i0 = 0 := by omega
    obtain ⟨nE, oE, sE, hqE, hpE⟩ := slcPt (i := 0) (slcCells_grow (n := q) (sz := 10) (l := 1) hq rfl rfl) (by show 10 ≤ 10; exact Nat.le_refl _) (by show 0 < 10; decide)
    refine ACode.region' [0, 1, 2, 3, 4, 5] (by kernel_rfl) rfl ?_
    refine aOps_1 rfl rfl rfl (AOp.move' (.inl rfl) rfl ?_)
    refine aOps_1 rfl rfl rfl (AOp.move' (.inl rfl) rfl ?_)
    refine aOps_1 rfl rfl rfl (AOp.indexP (aslcAt_sub subA hqE) rfl rfl rfl ?_)
    refine aOps_1 rfl rfl rfl (AOp.loadPA (v := cmv c.kind (.slice xs c.sch.length xn) c.most (.slice xw xws.length xwn) xo xc (.slice xA xl xcc) (.slice xB xm xd) c.fr c.to) (hpE.sub subA) rfl rfl rfl rfl rfl (by show 0 < 10; decide) ?_)
    refine aOps_1 rfl rfl rfl (AOp.alloc' rfl ?_)
    refine aOps_0 rfl rfl rfl ?_
    refine AOp.storeAll (b := ?b5) rfl rfl rfl ?hn5 ?hk5 rfl ?hw5 ?ho5 ?hl5 ?hR5
    (case hn5 => exact hpA)
    (case hk5 => rfl)
    (case hw5 => first | rfl | (simp; done))
    (case ho5 => first | rfl | decide | (simp; done))
    (case hl5 => first | rfl | (simp; done))
    refine aOps_end ?_
    show ACode _ _ _ _ _ _
    refine ACode.seq ?_
    refine ACode.seq ?_
    refine ACode.region' [0, 1, 2, 3, 4, 5, 6, 7, 8, 9, 10, 11, 12, 13, 14] (by kernel_rfl) rfl ?_
    refine aOps_1 rfl rfl rfl (AOp.fieldAddr' rfl (by decide) rfl ?_)
    refine aOps_1 rfl rfl rfl ?_
    refine AOp.load1 (b := ?b6) (v := ?v6) rfl rfl ?hn6 ?hv6 ?hR6
    (case hn6 => exact hpA)
    (case hv6 => rfl)
    refine aOps_1 rfl rfl rfl (AOp.len' rfl rfl ?_)
    refine aOps_1 rfl rfl rfl (AOp.bin' rfl rfl rfl rfl ?_)
    refine aOps_1 rfl rfl rfl (AOp.move' (.inl rfl) rfl ?_)
    refine aOps_gd0 rfl rfl (wantF rfl rfl rfl) (fun hc => AOp.slots [(7, _)] (.cons rfl .nil) (AOp.fieldAddr' rfl (by decide) rfl ⟨rfl, rfl, rfl⟩)) ?_
    refine aOps_gd0 rfl rfl (wantF rfl rfl rfl) (fun hc => AOp.slots [(28, _)] (.cons (gvT rfl hc) .nil) ((by refine AOp.load1 (b := ?b7) (v := ?v7) rfl rfl ?hn7 ?hv7 ?hR7; (case hn7 => exact hpA); (case hv7 => rfl); exact ⟨rfl, rfl, rfl⟩))) ?_
    refine aOps_gd rfl rfl (wantF rfl rfl rfl) (fun hc => AOp.slots [(29, _)] (.cons (gvT rfl hc) .nil) (AOp.call' rfl rfl rfl (great_w 3 _ _ c.rows xws xw xwn (x2.sub subA) (x3.sub subA) (by omega) ho.rr 40 70 60) (fun _ _ _ h => h))) (fun kq hkq => ?_)
    refine aOps_1 rfl rfl rfl (AOp.pickOr rfl rfl rfl (fun hb => gvE rfl (t_not hb)) ?_)
    refine aOps_1 rfl rfl rfl (AOp.move' (.inl rfl) rfl ?_)
    refine aOps_gd0 rfl rfl (wantF rfl rfl rfl) (fun hc => AOp.slots [(7, _)] (.cons rfl .nil) (AOp.fieldAddr' rfl (by decide) rfl ⟨rfl, rfl, rfl⟩)) ?_
    refine aOps_gd0 rfl rfl (wantF rfl rfl rfl) (fun hc => AOp.slots [(33, _)] (.cons (gvT rfl hc) .nil) (AOp.loadN (b := cmblk c.kind (.slice xs c.sch.length xn) c.most (.slice xw xws.length xwn) xo xc (.slice xA xl xcc) (.slice xB xm xd) c.fr c.to) (cs := [.int .i64 xo, .int .i64 xc, .slice xA xl xcc, .slice xB xm xd]) rfl rfl hpA (by show 4 + 4 ≤ 10; decide) rfl ⟨rfl, rfl, rfl⟩)) ?_
    refine aOps_gd rfl rfl (wantF rfl rfl rfl) (fun hc => AOp.slots [(34, _)] (.cons (gvT rfl hc) .nil) (AOp.call' rfl rfl rfl ((size_g _ c.pred _ 40 _ _ (x4.sub subA) (by decide) (Nat.lt_succ_self _)).lift (by decide)) (fun _ _ _ h => h))) (fun kq hkq => ?_)
    refine aOps_gd0 rfl rfl (wantF rfl rfl rfl) (fun hc => AOp.slots [(35, _)] (.cons (gvT rfl hc) .nil) (AOp.bin' rfl rfl rfl rfl ⟨rfl, rfl, rfl⟩)) ?_
    refine aOps_1 rfl rfl rfl (AOp.pickOr rfl rfl rfl (fun hb => gvE rfl (t_not hb)) ?_)
    refine aOps_end ?_
    show ACode _ _ _ _ _ _
    refine ACode.cond rfl (fun c1 => ?_) (fun c1 => ?_)
    · skip
      have hgt : greatB c = true := c1
      refine ACode.seq ?_
      refine ACode.region' [0] (by kernel_rfl) rfl ?_
      refine aOps_1 rfl rfl rfl (AOp.move' (.inr rfl) rfl ?_)
      refine aOps_end ?_
      show ACode _ _ _ _ _ _
      refine ACode.ret ?_
      exact RetQ.one rfl rfl subA stays (fun hk => ⟨(by unfold greatC; rw [hgt]; rfl), rfl, by omega⟩)
    · skip
      refine ACode.skip ?_
      show ACode _ _ _ _ _ _
      refine ACode.region' [0, 1, 2, 3, 4, 5] (by kernel_rfl) rfl ?_
      refine aOps_1 rfl rfl rfl (AOp.move' (.inl rfl) rfl ?_)
      refine aOps_1 rfl rfl rfl (AOp.fieldAddr' rfl (by decide) rfl ?_)
      refine aOps_1 rfl rfl rfl ?_
      refine AOp.load1 (b := ?b8) (v := ?v8) rfl rfl ?hn8 ?hv8 ?hR8
      (case hn8 => exact hpA)
      (case hv8 => rfl)
      refine aOps_1 rfl rfl rfl (AOp.len' rfl rfl ?_)
      refine aOps_1 rfl rfl rfl (AOp.add rfl rfl rfl (i64_wrap (by omega) (by omega)) ?_)
      refine aOps_1 rfl rfl rfl (AOp.move' (.inr rfl) rfl ?_)
      refine aOps_end ?_
      show ACode _ _ _ _ _ _
      refine ACode.region' [0, 1, 2] (by kernel_rfl) rfl ?_
      refine aOps_1 rfl rfl rfl (AOp.move' (.inl rfl) rfl ?_)
      refine aOps_1 rfl rfl rfl (AOp.add rfl rfl rfl (i64_wrap (by omega) (by omega)) ?_)
      refine aOps_1 rfl rfl rfl (AOp.move' (.inr rfl) rfl ?_)
      refine aOps_end ?_
      have hz0 : (0 : Int) + (xws.length : Int) = (c.rows.length : Int) := by omega
      first | refine thenA_n ?_ | simp only [thenA, blockA, if_true]
      exact NextR.mk (by omega) (by omega) (.cons rfl (.cons (show _ = some (Value.int .i64 _) by first | rfl | (rw [← hz0]; rfl) | (simp [hx3]; done)) .nil)) (.cons rfl (.cons rfl .nil)) subA (.inr c1)
  · try simp only [decide_eq_true_eq, decide_eq_false_iff_not, beq_iff_eq, beq_eq_false_iff_ne, ne_eq, bne_iff_ne, Bool.not_eq_true', Bool.not_eq_false', Int.not_lt, Int.not_le, gt_iff_lt, ge_iff_le, bne_eq_false_iff_eq, Bool.not_eq_eq_eq_not, Bool.not_true, Bool.not_false] at c0
    simp only [Bool.and_eq_false_iff, decide_eq_false_iff_not] at c0
    obtain rfl : i0 = 1 := by omega
    have hgb : greatB c = false := hxL0.elim (fun h => absurd h (by decide)) id
    refine ACode.exit ?_
    show ACode _ _ _ _ _ _
    refine ACode.seq ?_
    refine ACode.region' [0, 1, 2, 3, 4, 5, 6, 7, 8] (by kernel_rfl) rfl ?_
    refine aOps_1 rfl rfl rfl (AOp.move' (.inl rfl) rfl ?_)
    refine aOps_1 rfl rfl rfl (AOp.len' rfl rfl ?_)
    refine aOps_1 rfl rfl rfl (AOp.move' (.inl rfl) rfl ?_)
    refine aOps_1 rfl rfl rfl (AOp.bin' rfl rfl rfl rfl ?_)
    refine aOps_1 rfl rfl rfl (AOp.move' (.inl rfl) rfl ?_)
    refine aOps_gd0 rfl rfl (wantF rfl rfl rfl) (fun hc => AOp.slots [(5, _)] (.cons rfl .nil) (AOp.move' (.inl rfl) rfl ⟨rfl, rfl, rfl⟩)) ?_
    refine aOps_gd0 rfl rfl (wantF rfl rfl rfl) (fun hc => AOp.slots [(48, _)] (.cons (gvT rfl hc) .nil) (AOp.bin' rfl rfl rfl rfl ⟨rfl, rfl, rfl⟩)) ?_
    refine aOps_1 rfl rfl rfl (AOp.pickOr rfl rfl rfl (fun hb => gvE rfl (t_not hb)) ?_)
    refine aOps_1 rfl rfl rfl (AOp.move' (.inr rfl) rfl ?_)
    refine aOps_end ?_
    show ACode _ _ _ _ _ _
    refine ACode.ret ?_
    exact RetQ.one rfl rfl subA stays (fun hk => ⟨(by unfold greatC; rw [hgb]; rfl), rfl, by omega⟩)

theorem great25 (c : Cm) (ho : c.ok) (v : Value) (hv : CmV H c v) : ACalls Tryd.prog 3 19 [v] H k (Same H k (.bool (greatC c))) := by
  obtain ⟨xs, xn, xw, xwn, xws, xo, xc, xA, xl, xcc, xB, xm, xd, rfl, x1, x2, x3, x4⟩ := hv
  refine ACalls.fresh fun hf => ?_
  refine ACalls.body Tryd.func19 rfl (Nat.le_of_ble_eq_true rfl) ?_
  refine ACode.seq ?_
  refine ACode.region' [0, 1] (by kernel_rfl) rfl ?_
  refine aOps_1 rfl rfl rfl (AOp.boxV rfl rfl ?_)
  refine aOps_1 rfl rfl rfl (AOp.move' (.inr rfl) rfl ?_)
  refine aOps_end ?_
  show ACode _ _ _ _ _ _
  refine ACode.seq ?_
  refine ACode.region' [0, 1, 2, 3] (by kernel_rfl) rfl ?_
  refine aOps_1 rfl rfl rfl ?_
  refine AOp.loadAll (b := ?b9) (v := cmv c.kind (.slice xs c.sch.length xn) c.most (.slice xw xws.length xwn) xo xc (.slice xA xl xcc) (.slice xB xm xd) c.fr c.to) rfl rfl ?hn9 ?hv9 ?hw9 ?hz9 ?hR9
  (case hn9 => exact hpA)
  (case hv9 => rfl)
  (case hw9 => rfl)
  (case hz9 => first | rfl | (simp; done))
  refine aOps_1 rfl rfl rfl (AOp.buildH (cs := [.int .i64 c.kind, .slice xs c.sch.length xn, .int .i64 c.most, .slice xw xws.length xwn, .int .i64 xo, .int .i64 xc, .slice xA xl xcc, .slice xB xm xd, .int .i64 c.fr, .int .i64 c.to]) rfl rfl (by show 0 < 10; decide) (by show 10 ≤ 16777216; decide) rfl rfl ?_)
  refine aOps_q rfl rfl rfl (AOp.call' rfl rfl rfl (great24 _ _ c ho xs xn xw xwn xws xo xc xA xl xcc xB xm xd (x1.sub subA) (x2.sub subA) (x3.sub subA) (x4.sub subA) (k + 1) hpA) (fun _ _ _ h => h)) (fun kq hkq => ?_)
  refine aOps_1 rfl rfl rfl (AOp.move' (.inr rfl) rfl ?_)
  refine aOps_end ?_
  show ACode _ _ _ _ _ _
  refine ACode.ret ?_
  exact RetQ.one rfl rfl subA stays (fun hk => ⟨rfl, rfl, by omega⟩)
end

end Go.Proofs.YteoofihjmldllaaDoor
