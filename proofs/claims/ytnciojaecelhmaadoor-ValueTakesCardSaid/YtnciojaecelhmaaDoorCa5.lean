/- ValueTakes: the tied card: for every input the law answers true, and what it is given reads as it did. Condition: the listed variables hold what the program's text lays. -/
import Derived.Test.YtnciojaecelhmaaDoorRT
import Derived.Test.YtnciojaecelhmaaDoorCards
import Derived.Test.YtnciojaecelhmaaDoorTie
import Derived.WalkKit
import Derived.ProofKit
import Derived.OpenShut
import Derived.Deep.DeepHandedRow
import Derived.Lib.LaidTab
import Derived.Lay
import Derived.LaidHandle
set_option linter.unusedVariables false
set_option maxRecDepth 100000
namespace Go.Proofs.YtnciojaecelhmaaDoor
open Go Go.Ab Go.ChangeShapes Go.WideShapes Go.RowKit
theorem valueTakes_et : Tryd.prog.globalNamed "errors.errorType" = some 2 := by kernel_rfl
theorem valueTakes_rt : (Tryd.prog.cutTypes.find? (·.1 == "internal/reflectlite.rtype")).map (·.2) = some 161 := by kernel_rfl
theorem valueTakes_size : Tryd.prog.types.size = 204 := by kernel_rfl
theorem valueTakes_oneRow : ((List.range 204).filter fun t => Tryd.prog.rowNamed t [101, 114, 114, 111, 114]) = [100] := by kernel_rfl
theorem valueTakes_handle {W : World} (h : laidMetH Tryd.prog Rows.valueTakesRow.laid W) : W.cell? ⟨2, 0, none⟩ = some hV := by
  have h' : laidMet Tryd.prog [] W ∧ handlesMet Tryd.prog Rows.valueTakesRow.laid W := h
  obtain ⟨name, u, ty, e1, e2, e3, e4, e5⟩ := h'.2 _ (List.mem_singleton.2 rfl)
  have en : name = [101, 114, 114, 111, 114] := (Option.some.inj e1).symm
  subst en
  obtain rfl := Option.some.inj (valueTakes_rt.symm.trans e2)
  have hm : ty ∈ (List.range 204).filter fun t => Tryd.prog.rowNamed t [101, 114, 114, 111, 114] := List.mem_filter.2 ⟨List.mem_range.2 (by rw [← valueTakes_size]; exact e3), e4⟩
  rw [valueTakes_oneRow] at hm
  obtain rfl := List.mem_singleton.1 hm
  have hh : typeHandle Tryd.prog 100 = .pointer (some ⟨3, 100, none⟩) := by kernel_rfl
  rw [hh] at e5
  simpa using World.var?_cell valueTakes_et e5 0
theorem valueTakes_hV : VRel (startG 4) hV hV := by
  refine .iface (.agg rfl fun i a b ha hb => ?_)
  match i, ha, hb with
  | 0, ha, hb =>
    injection ha with ha
    injection hb with hb
    subst ha
    subst hb
    have h := @VRel.ptr (startG 4) 3 100 ⟨3, 0, none⟩ (by simp [startG])
    rw [Ab.add_plain, Nat.zero_add] at h
    exact h
  | i + 1, ha, hb => simp at ha
theorem valueTakes_start {W : World} (h : laidMetH Tryd.prog Rows.valueTakesRow.laid W) : SRel 4 W.heap.size W (startG 4) (upd (fun _ => none) 2 (some hBlk)) 4 W := by
  have hc := valueTakes_handle h
  have hsz : 2 < W.heap.size := cell_lt hc
  refine SRel.start 4 W _ fun n b hn => ?_
  by_cases e : n = 2
  · subst e
    rw [upd_same] at hn
    injection hn with hn
    subst hn
    refine ⟨by decide, rfl, by omega, fun j v hj hv => ?_⟩
    match j, hv with
    | 0, hv =>
      injection hv with hv
      subst hv
      exact ⟨hV, hc, valueTakes_hV⟩
    | j + 1, hv => simp at hv
  · rw [upd_other _ _ e] at hn
    cases hn
noncomputable def valueTakesWorld (os : Os) : World :=
  let w0 := World.holding Tryd.prog os ⟨#[], #[], []⟩
  { w0 with heap := w0.heap.modify 2 fun
      | .cells _ t frozen => .cells #[hV] t frozen
      | o => o }
theorem valueTakesWorld_os (os : Os) : (valueTakesWorld os).os = os := rfl
theorem valueTakesWorld_met (os : Os) (args : Array Value) : laidMetH Tryd.prog Rows.valueTakesRow.laid ((valueTakesWorld os).forCall (fun _ _ => 0) ⟨#[], args, []⟩).memory :=
  laidMetH_of_parts (laidMet_nil _ _) (by kernel_rfl)

theorem valueTakes_own : ownKnob Tryd.prog.godebug = none := by kernel_rfl
theorem valueTakes_contract (H : Type) (enc : TypeId × Value → H) (W : World) (base : Nat) (args : Array Value) (ds gs : List (DataW H)) (before : List MemPlace)
    (hval : ∀ (j : Nat) t v, Tryd.f7.params[j]? = some t → args[j]? = some v → Value.okWide Tryd.prog W .any base t v)
    (hW : DataW.Whole enc Tryd.prog Tryd.f7.params.toList Rows.valueTakesSpec.vars false W args.toList ds gs before) (us : List TypeId) (hZ : (DataW.weightsEach Tryd.prog (Tryd.f7.params.toList ++ us) (ds ++ gs)).all (· ≤ reachBytes) = true) (hL : laidMetH Tryd.prog Rows.valueTakesRow.laid W) :
    Calls Tryd.prog 7 args W fun e W' => ∃ v, e = .returned v ∧ Rows.valueTakesSpec.post enc Tryd.prog Tryd.f7 false true false false W args v W' := by
  have hW' := hW
  obtain ⟨p, q, hA, hV, hpq, _, _⟩ := hW
  have hS := valueTakes_start hL
  have hlen := trodAll_len hA
  have hpl : plains Tryd.prog [53, 5, 22, 49, 3, 4] = true := by kernel_rfl
  have hts : Tryd.f7.params.toList.all ([53, 5, 22, 49, 3, 4].contains ·) = true := by kernel_rfl
  have hrd : Tryd.f7.params.toList.all (fun t => Tryd.prog.readableRec t && decide (t < Tryd.prog.types.size)) = true := by kernel_rfl
  have hcall := law_calls (P := Tryd.prog) (f := 7) (fn := Tryd.f7) hpl (List.all_eq_true.1 hts) hval hA (weightsEach_append hlen hZ) hS (fun H k us hsub _ hus => valueTakes_any H k us (hsub _ _ (upd_same _ _ _)) hus)
  refine hcall.mono ?_
  rintro e W' ⟨rfl, hb⟩
  have hfn : (Rows.valueTakesSpec.fn H ds).results = [.lit (.bool true)] ∧ (Rows.valueTakesSpec.fn H ds).args = ds ∧ (Rows.valueTakesSpec.fn H ds).vars = [] := by
    have hl : ds.length = 2 := hlen
    match ds, hl with
    | [d0, d1], _ => exact ⟨rfl, rfl, rfl⟩
  exact ⟨_, rfl, law_post (P := Tryd.prog) (by kernel_rfl) rfl hfn (fun t ht => by
    have := List.all_eq_true.1 hrd t ht
    simpa using this) rfl (show Tryd.prog.underlying 4 = some .bool by kernel_rfl) hW' hb⟩
theorem valueTakes_reads (os : Os) {H : Type} (enc : TypeId × Value → H) : ∃ x, DataW.whole enc Tryd.prog ((valueTakesWorld os).forCall (fun _ _ => 0) ⟨#[], #[.slice none 0 0, .slice none 0 0], []⟩).memory Tryd.f7.params.toList Rows.valueTakesSpec.vars false #[.slice none 0 0, .slice none 0 0].toList 8 = some x :=
  Option.isSome_iff_exists.1 (by kernel_rfl)
theorem valueTakes_lifted (os : Os) (started : os.Started) (H : Type) (enc : TypeId × Value → H) (F : Stop.Interp) :
    ReturnsInHanded {} Tryd.checked os 7 .any ((OpenSpec.ofChange Rows.valueTakesSpec).preRow enc Tryd.prog Tryd.f7 Rows.valueTakesRow.domain false Rows.valueTakesRow.laid) (((OpenSpec.ofChange Rows.valueTakesSpec).at F).post enc Tryd.prog Tryd.f7 false true false false) := by
  obtain ⟨x, hx⟩ := valueTakes_reads os enc
  refine returnsInHanded_of_row (C := Tryd.checked) (s := OpenSpec.ofChange Rows.valueTakesSpec) valueTakes_own started (by kernel_rfl) Tryd.func7
    (witness_row_at (enc := enc) (C := Tryd.checked) false (valueTakesWorld os) #[.slice none 0 0, .slice none 0 0] (valueTakesWorld_os os) (by kernel_rfl) (by kernel_rfl) (by kernel_rfl)
      (OpenSpec.preRow_of_cond 8 hx rfl (fun k hk => by cases hk) (by kernel_rfl) (valueTakesWorld_met os _))) ?_
  intro W base args ds gs before hval hW _ _ hZ hL _ _
  exact valueTakes_contract H enc W base args ds gs before hval hW _ hZ hL
theorem valueTakes_said : Rows.ValueTakesSaid :=
  OpenClaim.holds_of_cond 7 Tryd.f7 rfl rfl rfl rfl rfl rfl rfl ⟨rfl, rfl, rfl, rfl, rfl⟩ rfl rfl rfl rfl rfl (by kernel_rfl) Tryd.func7 (by kernel_rfl)
    (of_decide_eq_true (by kernel_rfl)) (by unfold Func.isWrapper; first | (rw [if_pos (by decide +kernel)]; kernel_rfl) | (rw [if_neg (by decide +kernel)]; exact ⟨rfl, rfl⟩))
    (fun os started H enc _ F => by rw [OpenClaim.pre_eq_preRow]; exact valueTakes_lifted os started H enc F)
theorem valueTakes_plain (f : FuncId) (fn : Func) (hf : Tryd.pinned.checked.prog.funcNamed "estreat/estreatlaw15.ValueTakes" = some f) (hfn : Tryd.pinned.checked.prog.funcs[f]? = some fn) :
    true = Tryd.pinned.checked.prog.looks [] ∧ ∀ (j : Nat) t, fn.params[j]? = some t → Tryd.pinned.checked.prog.wantsStandIn t = false := by
  obtain rfl : f = 7 := Option.some.inj ((show Tryd.prog.funcNamed "estreat/estreatlaw15.ValueTakes" = some 7 by kernel_rfl).symm.trans hf) |>.symm
  obtain rfl : fn = Tryd.f7 := (Option.some.inj (Tryd.func7.symm.trans hfn)).symm
  have w22 : Tryd.prog.wantsStandIn 22 = false := by kernel_rfl
  have w53 : Tryd.prog.wantsStandIn 53 = false := by kernel_rfl
  refine ⟨by kernel_rfl, fun j t ht => ?_⟩
  rw [Tryd.params7] at ht
  match j, ht with
  | 0, ht => obtain rfl := Option.some.inj ht; exact w53
  | 1, ht => obtain rfl := Option.some.inj ht; exact w22
  | n + 2, ht => simp at ht
theorem valueTakes_card : Rows.ValueTakesCardSaid :=
  Claim7.holds_tied_plain_at .later [] _ _ _ _ valueTakes_said (fun _ h => by cases h) (by kernel_rfl) (fun _ h => by cases h) valueTakes_row_tie rfl ⟨rfl, rfl⟩ (by kernel_rfl) rfl valueTakes_plain (by kernel_rfl)
#print axioms valueTakes_card
end Go.Proofs.YtnciojaecelhmaaDoor
