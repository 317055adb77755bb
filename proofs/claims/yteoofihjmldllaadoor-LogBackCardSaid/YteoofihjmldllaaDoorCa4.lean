/- LogBack: the tied card: for every input the law answers true, and what it is given reads as it did. Condition: the listed variables hold what the program's text lays. -/
import Derived.Test.YteoofihjmldllaaDoorRTb
import Derived.Test.YteoofihjmldllaaDoorCards
import Derived.Test.YteoofihjmldllaaDoorTie
import Derived.WalkKit
import Derived.ProofKit
import Derived.OpenShut
import Derived.Deep.DeepHandedRow
import Derived.Lib.LaidTab
import Derived.Lay
import Derived.LaidHandle
set_option linter.unusedVariables false
set_option maxRecDepth 100000
namespace Go.Proofs.YteoofihjmldllaaDoor
open Go Go.Ab Go.ChangeShapes Go.WideShapes Go.RowKit
theorem logBack_et : Tryd.prog.globalNamed "errors.errorType" = some 1 := by kernel_rfl
theorem logBack_rt : (Tryd.prog.cutTypes.find? (·.1 == "internal/reflectlite.rtype")).map (·.2) = some 191 := by kernel_rfl
theorem logBack_size : Tryd.prog.types.size = 244 := by kernel_rfl
theorem logBack_oneRow : ((List.range 244).filter fun t => Tryd.prog.rowNamed t [101, 114, 114, 111, 114]) = [90] := by kernel_rfl
theorem logBack_handle {W : World} (h : laidMetH Tryd.prog Rows.logBackRow.laid W) : W.cell? ⟨1, 0, none⟩ = some hV := by
  have h' : laidMet Tryd.prog [] W ∧ handlesMet Tryd.prog Rows.logBackRow.laid W := h
  obtain ⟨name, u, ty, e1, e2, e3, e4, e5⟩ := h'.2 _ (List.mem_singleton.2 rfl)
  have en : name = [101, 114, 114, 111, 114] := (Option.some.inj e1).symm
  subst en
  obtain rfl := Option.some.inj (logBack_rt.symm.trans e2)
  have hm : ty ∈ (List.range 244).filter fun t => Tryd.prog.rowNamed t [101, 114, 114, 111, 114] := List.mem_filter.2 ⟨List.mem_range.2 (by rw [← logBack_size]; exact e3), e4⟩
  rw [logBack_oneRow] at hm
  obtain rfl := List.mem_singleton.1 hm
  have hh : typeHandle Tryd.prog 90 = .pointer (some ⟨2, 90, none⟩) := by kernel_rfl
  rw [hh] at e5
  simpa using World.var?_cell logBack_et e5 0
theorem logBack_hV : VRel (startG 3) hV hV := by
  refine .iface (.agg rfl fun i a b ha hb => ?_)
  match i, ha, hb with
  | 0, ha, hb =>
    injection ha with ha
    injection hb with hb
    subst ha
    subst hb
    have h := @VRel.ptr (startG 3) 2 90 ⟨2, 0, none⟩ (by simp [startG])
    rw [Ab.add_plain, Nat.zero_add] at h
    exact h
  | i + 1, ha, hb => simp at ha
theorem logBack_start {W : World} (h : laidMetH Tryd.prog Rows.logBackRow.laid W) : SRel 3 W.heap.size W (startG 3) (upd (fun _ => none) 1 (some hBlk)) 3 W := by
  have hc := logBack_handle h
  have hsz : 1 < W.heap.size := cell_lt hc
  refine SRel.start 3 W _ fun n b hn => ?_
  by_cases e : n = 1
  · subst e
    rw [upd_same] at hn
    injection hn with hn
    subst hn
    refine ⟨by decide, rfl, by omega, fun j v hj hv => ?_⟩
    match j, hv with
    | 0, hv =>
      injection hv with hv
      subst hv
      exact ⟨hV, hc, logBack_hV⟩
    | j + 1, hv => simp at hv
  · rw [upd_other _ _ e] at hn
    cases hn
noncomputable def logBackWorld (os : Os) : World :=
  let w0 := World.holding Tryd.prog os ⟨#[], #[], []⟩
  { w0 with heap := w0.heap.modify 1 fun
      | .cells _ t frozen => .cells #[hV] t frozen
      | o => o }
theorem logBackWorld_os (os : Os) : (logBackWorld os).os = os := rfl
theorem logBackWorld_met (os : Os) (args : Array Value) : laidMetH Tryd.prog Rows.logBackRow.laid ((logBackWorld os).forCall (fun _ _ => 0) ⟨#[], args, []⟩).memory :=
  laidMetH_of_parts (laidMet_nil _ _) (by kernel_rfl)

theorem logBack_own : ownKnob Tryd.prog.godebug = none := by kernel_rfl
theorem logBack_contract (H : Type) (enc : TypeId × Value → H) (W : World) (base : Nat) (args : Array Value) (ds gs : List (DataW H)) (before : List MemPlace)
    (hval : ∀ (j : Nat) t v, Tryd.f5.params[j]? = some t → args[j]? = some v → Value.okWide Tryd.prog W .any base t v)
    (hW : DataW.Whole enc Tryd.prog Tryd.f5.params.toList Rows.logBackSpec.vars false W args.toList ds gs before) (us : List TypeId) (hZ : (DataW.weightsEach Tryd.prog (Tryd.f5.params.toList ++ us) (ds ++ gs)).all (· ≤ reachBytes) = true) (hL : laidMetH Tryd.prog Rows.logBackRow.laid W) :
    Calls Tryd.prog 5 args W fun e W' => ∃ v, e = .returned v ∧ Rows.logBackSpec.post enc Tryd.prog Tryd.f5 false true false false W args v W' := by
  have hW' := hW
  obtain ⟨p, q, hA, hV, hpq, _, _⟩ := hW
  have hS := logBack_start hL
  have hlen := trodAll_len hA
  have hpl : plains Tryd.prog [44, 3, 41, 121, 4, 42, 29, 59, 2, 9, 32, 30] = true := by kernel_rfl
  have hts : Tryd.f5.params.toList.all ([44, 3, 41, 121, 4, 42, 29, 59, 2, 9, 32, 30].contains ·) = true := by kernel_rfl
  have hrd : Tryd.f5.params.toList.all (fun t => Tryd.prog.readableRec t && decide (t < Tryd.prog.types.size)) = true := by kernel_rfl
  have hcall := law_calls (P := Tryd.prog) (f := 5) (fn := Tryd.f5) hpl (List.all_eq_true.1 hts) hval hA (weightsEach_append hlen hZ) hS (fun H k us hsub _ hus => logBack_any H k us (hsub _ _ (upd_same _ _ _)) hus)
  refine hcall.mono ?_
  rintro e W' ⟨rfl, hb⟩
  have hfn : (Rows.logBackSpec.fn H ds).results = [.lit (.bool true)] ∧ (Rows.logBackSpec.fn H ds).args = ds ∧ (Rows.logBackSpec.fn H ds).vars = [] := by
    have hl : ds.length = 3 := hlen
    match ds, hl with
    | [d0, d1, d2], _ => exact ⟨rfl, rfl, rfl⟩
  exact ⟨_, rfl, law_post (P := Tryd.prog) (by kernel_rfl) rfl hfn (fun t ht => by
    have := List.all_eq_true.1 hrd t ht
    simpa using this) rfl (show Tryd.prog.underlying 4 = some .bool by kernel_rfl) hW' hb⟩
theorem logBack_reads (os : Os) {H : Type} (enc : TypeId × Value → H) : ∃ x, DataW.whole enc Tryd.prog ((logBackWorld os).forCall (fun _ _ => 0) ⟨#[], #[.agg #[.int .i64 0, .slice none 0 0, .int .i64 0, .slice none 0 0, .int .i64 0, .int .i64 0, .slice none 0 0, .slice none 0 0, .int .i64 0, .int .i64 0], .slice none 0 0, .int .i64 0], []⟩).memory Tryd.f5.params.toList Rows.logBackSpec.vars false #[.agg #[.int .i64 0, .slice none 0 0, .int .i64 0, .slice none 0 0, .int .i64 0, .int .i64 0, .slice none 0 0, .slice none 0 0, .int .i64 0, .int .i64 0], .slice none 0 0, .int .i64 0].toList 8 = some x :=
  Option.isSome_iff_exists.1 (by kernel_rfl)
theorem logBack_lifted (os : Os) (started : os.Started) (H : Type) (enc : TypeId × Value → H) (F : Stop.Interp) :
    ReturnsInHanded {} Tryd.checked os 5 .any ((OpenSpec.ofChange Rows.logBackSpec).preRow enc Tryd.prog Tryd.f5 Rows.logBackRow.domain false Rows.logBackRow.laid) (((OpenSpec.ofChange Rows.logBackSpec).at F).post enc Tryd.prog Tryd.f5 false true false false) := by
  obtain ⟨x, hx⟩ := logBack_reads os enc
  refine returnsInHanded_of_row (C := Tryd.checked) (s := OpenSpec.ofChange Rows.logBackSpec) logBack_own started (by kernel_rfl) Tryd.func5
    (witness_row_at (enc := enc) (C := Tryd.checked) false (logBackWorld os) #[.agg #[.int .i64 0, .slice none 0 0, .int .i64 0, .slice none 0 0, .int .i64 0, .int .i64 0, .slice none 0 0, .slice none 0 0, .int .i64 0, .int .i64 0], .slice none 0 0, .int .i64 0] (logBackWorld_os os) (by kernel_rfl) (by kernel_rfl) (by kernel_rfl)
      (OpenSpec.preRow_of_cond 8 hx rfl (fun k hk => by cases hk) (by kernel_rfl) (logBackWorld_met os _))) ?_
  intro W base args ds gs before hval hW _ _ hZ hL _ _
  exact logBack_contract H enc W base args ds gs before hval hW _ hZ hL
theorem logBack_said : Rows.LogBackSaid :=
  OpenClaim.holds_of_cond 5 Tryd.f5 rfl rfl rfl rfl rfl rfl rfl ⟨rfl, rfl, rfl, rfl, rfl⟩ rfl rfl rfl rfl rfl (by kernel_rfl) Tryd.func5 (by kernel_rfl)
    (of_decide_eq_true (by kernel_rfl)) (by unfold Func.isWrapper; first | (rw [if_pos (by decide +kernel)]; kernel_rfl) | (rw [if_neg (by decide +kernel)]; exact ⟨rfl, rfl⟩))
    (fun os started H enc _ F => by rw [OpenClaim.pre_eq_preRow]; exact logBack_lifted os started H enc F)
theorem logBack_plain (f : FuncId) (fn : Func) (hf : Tryd.pinned.checked.prog.funcNamed "estreat/estreatlaw25.LogBack" = some f) (hfn : Tryd.pinned.checked.prog.funcs[f]? = some fn) :
    true = Tryd.pinned.checked.prog.looks [] ∧ ∀ (j : Nat) t, fn.params[j]? = some t → Tryd.pinned.checked.prog.wantsStandIn t = false := by
  obtain rfl : f = 5 := Option.some.inj ((show Tryd.prog.funcNamed "estreat/estreatlaw25.LogBack" = some 5 by kernel_rfl).symm.trans hf) |>.symm
  obtain rfl : fn = Tryd.f5 := (Option.some.inj (Tryd.func5.symm.trans hfn)).symm
  have w3 : Tryd.prog.wantsStandIn 3 = false := by kernel_rfl
  have w41 : Tryd.prog.wantsStandIn 41 = false := by kernel_rfl
  have w44 : Tryd.prog.wantsStandIn 44 = false := by kernel_rfl
  refine ⟨by kernel_rfl, fun j t ht => ?_⟩
  rw [Tryd.params5] at ht
  match j, ht with
  | 0, ht => obtain rfl := Option.some.inj ht; exact w44
  | 1, ht => obtain rfl := Option.some.inj ht; exact w41
  | 2, ht => obtain rfl := Option.some.inj ht; exact w3
  | n + 3, ht => simp at ht
theorem logBack_card : Rows.LogBackCardSaid :=
  Claim7.holds_tied_plain_at .later [] _ _ _ _ logBack_said (fun _ h => by cases h) (by kernel_rfl) (fun _ h => by cases h) logBack_row_tie rfl ⟨rfl, rfl⟩ (by kernel_rfl) rfl logBack_plain (by kernel_rfl)
#print axioms logBack_card
end Go.Proofs.YteoofihjmldllaaDoor
