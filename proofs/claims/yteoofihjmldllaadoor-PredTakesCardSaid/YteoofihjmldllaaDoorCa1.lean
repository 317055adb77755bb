/- PredTakes: the tied card: for every input the law answers true, and what it is given reads as it did. Condition: the listed variables hold what the program's text lays. -/
import Derived.Test.YteoofihjmldllaaDoorRTp
import Derived.Test.YteoofihjmldllaaDoorCards
import Derived.Test.YteoofihjmldllaaDoorTie
import Derived.WalkKit
import Derived.ProofKit
import Derived.OpenShut
import Derived.Deep.DeepHandedRow
import Derived.Lib.LaidTab
import Derived.Lay
import Derived.LaidHandle
set_option linter.unusedVariables false
set_option maxRecDepth 100000
namespace Go.Proofs.YteoofihjmldllaaDoor
open Go Go.Ab Go.ChangeShapes Go.WideShapes Go.RowKit
theorem predTakes_et : Tryd.prog.globalNamed "errors.errorType" = some 1 := by kernel_rfl
theorem predTakes_rt : (Tryd.prog.cutTypes.find? (·.1 == "internal/reflectlite.rtype")).map (·.2) = some 191 := by kernel_rfl
theorem predTakes_size : Tryd.prog.types.size = 244 := by kernel_rfl
theorem predTakes_oneRow : ((List.range 244).filter fun t => Tryd.prog.rowNamed t [101, 114, 114, 111, 114]) = [90] := by kernel_rfl
theorem predTakes_handle {W : World} (h : laidMetH Tryd.prog Rows.predTakesRow.laid W) : W.cell? ⟨1, 0, none⟩ = some hV := by
  have h' : laidMet Tryd.prog [("estreat/pred.shapes", Rows.laid_estreat_pred_shapes)] W ∧ handlesMet Tryd.prog [("errors.errorType", Rows.laid_errors_errorType)] W := h
  obtain ⟨name, u, ty, e1, e2, e3, e4, e5⟩ := h'.2 _ (List.mem_singleton.2 rfl)
  have en : name = [101, 114, 114, 111, 114] := (Option.some.inj e1).symm
  subst en
  obtain rfl := Option.some.inj (predTakes_rt.symm.trans e2)
  have hm : ty ∈ (List.range 244).filter fun t => Tryd.prog.rowNamed t [101, 114, 114, 111, 114] := List.mem_filter.2 ⟨List.mem_range.2 (by rw [← predTakes_size]; exact e3), e4⟩
  rw [predTakes_oneRow] at hm
  obtain rfl := List.mem_singleton.1 hm
  have hh : typeHandle Tryd.prog 90 = .pointer (some ⟨2, 90, none⟩) := by kernel_rfl
  rw [hh] at e5
  simpa using World.var?_cell predTakes_et e5 0
theorem predTakes_hV : VRel (startG 3) hV hV := by
  refine .iface (.agg rfl fun i a b ha hb => ?_)
  match i, ha, hb with
  | 0, ha, hb =>
    injection ha with ha
    injection hb with hb
    subst ha
    subst hb
    have h := @VRel.ptr (startG 3) 2 90 ⟨2, 0, none⟩ (by simp [startG])
    rw [Ab.add_plain, Nat.zero_add] at h
    exact h
  | i + 1, ha, hb => simp at ha
theorem predTakes_start0 {W : World} (h : laidMetH Tryd.prog Rows.predTakesRow.laid W) : SRel 3 W.heap.size W (startG 3) (upd (fun _ => none) 1 (some hBlk)) 3 W := by
  have hc := predTakes_handle h
  have hsz : 1 < W.heap.size := cell_lt hc
  refine SRel.start 3 W _ fun n b hn => ?_
  by_cases e : n = 1
  · subst e
    rw [upd_same] at hn
    injection hn with hn
    subst hn
    refine ⟨by decide, rfl, by omega, fun j v hj hv => ?_⟩
    match j, hv with
    | 0, hv =>
      injection hv with hv
      subst hv
      exact ⟨hV, hc, predTakes_hV⟩
    | j + 1, hv => simp at hv
  · rw [upd_other _ _ e] at hn
    cases hn
theorem predTakes_start {W : World} (h : laidMetH Tryd.prog Rows.predTakesRow.laid W) : SRel 3 W.heap.size W (startG 3) (tabH 0 152 shT (upd (fun _ => none) 1 (some hBlk))) 3 W := by
  have hT : plains Tryd.prog [3, 4, 151, 152] = true := by kernel_rfl
  have h' : laidMet Tryd.prog [("estreat/pred.shapes", Rows.laid_estreat_pred_shapes)] W ∧ handlesMet Tryd.prog [("errors.errorType", Rows.laid_errors_errorType)] W := h
  obtain ⟨ps, hv, _⟩ := h'.1
  have hc := laid_cells (P := Tryd.prog) hT hv (name := "estreat/pred.shapes") (d := Rows.laid_estreat_pred_shapes) (List.mem_singleton.2 rfl) (g := 0) (t := 152) (l := shT) (by kernel_rfl) (by kernel_rfl) (by decide) (by kernel_rfl)
  exact SRel.start_tab 152 (predTakes_start0 h) (by decide) hc (by decide) (by decide)
theorem predTakes_layOn {P : Program} {w0 : World} {laid : List (String × DataW Unit)} (args : Array Value) (hf : w0.layFits P laid [] = true) (hi : w0.layIfaces P laid (w0.layVars P laid) = true) : laidMet P laid ((w0.layVars P laid).forCall (fun _ _ => 0) ⟨#[], args, []⟩).memory := by
  have e1 : (laid.filter fun x => (laid.map (·.1)).contains x.1) = laid := List.filter_eq_self.2 fun x hx => List.contains_iff_mem.2 (List.mem_map.2 ⟨x, hx, rfl⟩)
  have e2 : (laid.filter fun x => !(laid.map (·.1)).contains x.1) = [] := List.filter_eq_nil_iff.2 fun x hx => by rw [List.contains_iff_mem.2 (List.mem_map.2 ⟨x, hx, rfl⟩)]; simp
  have h : laidMet P laid (w0.layVars P laid) := laidMet_layVars (w0 := w0) (laid.map (·.1)) [] (by rw [e1]) (by rw [e1]; exact hf) (by rw [e1]; exact hi) (by rw [e2]; exact LaidIn.none)
  exact h.of_heap (by simp [World.memory, World.forCall, Input.heap])
noncomputable def predTakesBase (os : Os) : World :=
  let w0 := World.holding Tryd.prog os ⟨#[], #[], []⟩
  { w0 with heap := w0.heap.modify 1 fun
      | .cells _ t frozen => .cells #[hV] t frozen
      | o => o }
noncomputable def predTakesWorld (os : Os) : World := (predTakesBase os).layVars Tryd.prog [("estreat/pred.shapes", Rows.laid_estreat_pred_shapes)]
theorem predTakesWorld_os (os : Os) : (predTakesWorld os).os = os := World.layVars_os _ _ _
theorem predTakesWorld_met (os : Os) (args : Array Value) : laidMetH Tryd.prog Rows.predTakesRow.laid ((predTakesWorld os).forCall (fun _ _ => 0) ⟨#[], args, []⟩).memory :=
  laidMetH_of_parts (show laidMet Tryd.prog [("estreat/pred.shapes", Rows.laid_estreat_pred_shapes)] _ from predTakes_layOn _ (by kernel_rfl) (by kernel_rfl)) (by kernel_rfl)

theorem predTakes_own : ownKnob Tryd.prog.godebug = none := by kernel_rfl
theorem predTakes_contract (H : Type) (enc : TypeId × Value → H) (W : World) (base : Nat) (args : Array Value) (ds gs : List (DataW H)) (before : List MemPlace)
    (hval : ∀ (j : Nat) t v, Tryd.f3.params[j]? = some t → args[j]? = some v → Value.okWide Tryd.prog W .any base t v)
    (hW : DataW.Whole enc Tryd.prog Tryd.f3.params.toList Rows.predTakesSpec.vars false W args.toList ds gs before) (us : List TypeId) (hZ : (DataW.weightsEach Tryd.prog (Tryd.f3.params.toList ++ us) (ds ++ gs)).all (· ≤ reachBytes) = true) (hL : laidMetH Tryd.prog Rows.predTakesRow.laid W) :
    Calls Tryd.prog 3 args W fun e W' => ∃ v, e = .returned v ∧ Rows.predTakesSpec.post enc Tryd.prog Tryd.f3 false true false false W args v W' := by
  have hW' := hW
  obtain ⟨p, q, hA, hV, hpq, _, _⟩ := hW
  have hS := predTakes_start hL
  have hlen := trodAll_len hA
  have hpl : plains Tryd.prog [22, 5] = true := by kernel_rfl
  have hts : Tryd.f3.params.toList.all ([22, 5].contains ·) = true := by kernel_rfl
  have hrd : Tryd.f3.params.toList.all (fun t => Tryd.prog.readableRec t && decide (t < Tryd.prog.types.size)) = true := by kernel_rfl
  have hcall := law_calls (P := Tryd.prog) (f := 3) (fn := Tryd.f3) hpl (List.all_eq_true.1 hts) hval hA (weightsEach_append hlen hZ) hS (fun H k us hsub _ hus => predTakes_any H k us (hsub _ _ (upd_same _ _ _)) (hsub _ _ ((upd_other _ _ (by decide)).trans (upd_same _ _ _))) hus)
  refine hcall.mono ?_
  rintro e W' ⟨rfl, hb⟩
  have hfn : (Rows.predTakesSpec.fn H ds).results = [.lit (.bool true)] ∧ (Rows.predTakesSpec.fn H ds).args = ds ∧ (Rows.predTakesSpec.fn H ds).vars = [] := by
    have hl : ds.length = 1 := hlen
    match ds, hl with
    | [d0], _ => exact ⟨rfl, rfl, rfl⟩
  exact ⟨_, rfl, law_post (P := Tryd.prog) (by kernel_rfl) rfl hfn (fun t ht => by
    have := List.all_eq_true.1 hrd t ht
    simpa using this) rfl (show Tryd.prog.underlying 4 = some .bool by kernel_rfl) hW' hb⟩
theorem predTakes_reads (os : Os) {H : Type} (enc : TypeId × Value → H) : ∃ x, DataW.whole enc Tryd.prog ((predTakesWorld os).forCall (fun _ _ => 0) ⟨#[], #[.slice none 0 0], []⟩).memory Tryd.f3.params.toList Rows.predTakesSpec.vars false #[.slice none 0 0].toList 8 = some x :=
  Option.isSome_iff_exists.1 (by kernel_rfl)
theorem predTakes_lifted (os : Os) (started : os.Started) (H : Type) (enc : TypeId × Value → H) (F : Stop.Interp) :
    ReturnsInHanded {} Tryd.checked os 3 .any ((OpenSpec.ofChange Rows.predTakesSpec).preRow enc Tryd.prog Tryd.f3 Rows.predTakesRow.domain false Rows.predTakesRow.laid) (((OpenSpec.ofChange Rows.predTakesSpec).at F).post enc Tryd.prog Tryd.f3 false true false false) := by
  obtain ⟨x, hx⟩ := predTakes_reads os enc
  refine returnsInHanded_of_row (C := Tryd.checked) (s := OpenSpec.ofChange Rows.predTakesSpec) predTakes_own started (by kernel_rfl) Tryd.func3
    (witness_row_at (enc := enc) (C := Tryd.checked) false (predTakesWorld os) #[.slice none 0 0] (predTakesWorld_os os) (by kernel_rfl) (by kernel_rfl) (by kernel_rfl)
      (OpenSpec.preRow_of_cond 8 hx rfl (fun k hk => by cases hk) (by kernel_rfl) (predTakesWorld_met os _))) ?_
  intro W base args ds gs before hval hW _ _ hZ hL _ _
  exact predTakes_contract H enc W base args ds gs before hval hW _ hZ hL
theorem predTakes_said : Rows.PredTakesSaid :=
  OpenClaim.holds_of_cond 3 Tryd.f3 rfl rfl rfl rfl rfl rfl rfl ⟨rfl, rfl, rfl, rfl, rfl⟩ rfl rfl rfl rfl rfl (by kernel_rfl) Tryd.func3 (by kernel_rfl)
    (of_decide_eq_true (by kernel_rfl)) (by unfold Func.isWrapper; first | (rw [if_pos (by decide +kernel)]; kernel_rfl) | (rw [if_neg (by decide +kernel)]; exact ⟨rfl, rfl⟩))
    (fun os started H enc _ F => by rw [OpenClaim.pre_eq_preRow]; exact predTakes_lifted os started H enc F)
theorem predTakes_plain (f : FuncId) (fn : Func) (hf : Tryd.pinned.checked.prog.funcNamed "estreat/estreatlaw16.PredTakes" = some f) (hfn : Tryd.pinned.checked.prog.funcs[f]? = some fn) :
    true = Tryd.pinned.checked.prog.looks [] ∧ ∀ (j : Nat) t, fn.params[j]? = some t → Tryd.pinned.checked.prog.wantsStandIn t = false := by
  obtain rfl : f = 3 := Option.some.inj ((show Tryd.prog.funcNamed "estreat/estreatlaw16.PredTakes" = some 3 by kernel_rfl).symm.trans hf) |>.symm
  obtain rfl : fn = Tryd.f3 := (Option.some.inj (Tryd.func3.symm.trans hfn)).symm
  have w22 : Tryd.prog.wantsStandIn 22 = false := by kernel_rfl
  refine ⟨by kernel_rfl, fun j t ht => ?_⟩
  rw [Tryd.params3] at ht
  match j, ht with
  | 0, ht => obtain rfl := Option.some.inj ht; exact w22
  | n + 1, ht => simp at ht
theorem predTakes_card : Rows.PredTakesCardSaid :=
  Claim7.holds_tied_plain_at .later [] _ _ _ _ predTakes_said (fun _ h => by cases h) (by kernel_rfl) (fun _ h => by cases h) predTakes_row_tie rfl ⟨rfl, rfl⟩ (by kernel_rfl) rfl predTakes_plain (by kernel_rfl)
#print axioms predTakes_card
end Go.Proofs.YteoofihjmldllaaDoor
