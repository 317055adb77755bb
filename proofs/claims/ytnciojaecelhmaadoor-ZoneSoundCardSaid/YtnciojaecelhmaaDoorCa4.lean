/- ZoneSound: the tied card: for every input the law answers true, and what it is given reads as it did. Condition: the listed variables hold what the program's text lays. -/
import Derived.Test.YtnciojaecelhmaaDoorZT
import Derived.Test.YtnciojaecelhmaaDoorCards
import Derived.Test.YtnciojaecelhmaaDoorTie
import Derived.WalkKit
import Derived.ProofKit
import Derived.OpenShut
import Derived.Deep.DeepHandedRow
import Derived.Lib.LaidTab
import Derived.Lay
set_option linter.unusedVariables false
set_option maxRecDepth 100000
namespace Go.Proofs.YtnciojaecelhmaaDoor
open Go Go.Ab Go.ChangeShapes Go.WideShapes Go.RowKit
theorem zoneSound_start {W : World} (h : laidMetH Tryd.prog Rows.zoneSoundRow.laid W) : SRel 3 W.heap.size W (startG 3) (tabH 1 92 [.bool true, .bool true, .bool true] (tabH 0 85 shT (fun _ => none))) 3 W := by
  have hT : plains Tryd.prog [3, 4, 84, 85, 92] = true := by kernel_rfl
  have hl : laidMet Tryd.prog Rows.zoneSoundRow.laid W := h
  obtain ⟨ps, hv, _⟩ := hl
  have hc := laid_cells (P := Tryd.prog) hT hv (name := "estreat/pred.shapes") (d := Rows.laid_estreat_pred_shapes) (by simp [Rows.zoneSoundRow]) (g := 0) (t := 85) (l := shT) (by kernel_rfl) (by kernel_rfl) (by decide) (by kernel_rfl)
  have hd := laid_cells (P := Tryd.prog) hT hv (name := "estreat/zone.all") (d := Rows.laid_estreat_zone_all) (by simp [Rows.zoneSoundRow]) (g := 1) (t := 92) (l := [.bool true, .bool true, .bool true]) (by kernel_rfl) (by kernel_rfl) (by decide) (by kernel_rfl)
  exact SRel.start_tab 92 (SRel.start_tab 85 (SRel.start 3 W (fun _ => none) (fun n b h => by cases h)) (by decide) hc (by decide) (by decide)) (by decide) hd (by decide) (by decide)

theorem zoneSound_own : ownKnob Tryd.prog.godebug = none := by kernel_rfl
theorem zoneSound_contract (H : Type) (enc : TypeId × Value → H) (W : World) (base : Nat) (args : Array Value) (ds gs : List (DataW H)) (before : List MemPlace)
    (hval : ∀ (j : Nat) t v, Tryd.f5.params[j]? = some t → args[j]? = some v → Value.okWide Tryd.prog W .any base t v)
    (hW : DataW.Whole enc Tryd.prog Tryd.f5.params.toList Rows.zoneSoundSpec.vars false W args.toList ds gs before) (us : List TypeId) (hZ : (DataW.weightsEach Tryd.prog (Tryd.f5.params.toList ++ us) (ds ++ gs)).all (· ≤ reachBytes) = true) (hL : laidMetH Tryd.prog Rows.zoneSoundRow.laid W) :
    Calls Tryd.prog 5 args W fun e W' => ∃ v, e = .returned v ∧ Rows.zoneSoundSpec.post enc Tryd.prog Tryd.f5 false true false false W args v W' := by
  have hW' := hW
  obtain ⟨p, q, hA, hV, hpq, _, _⟩ := hW
  have hS := zoneSound_start hL
  have hlen := trodAll_len hA
  have hpl : plains Tryd.prog [22, 49, 3, 4, 29, 23, 43, 2, 9, 27, 37] = true := by kernel_rfl
  have hts : Tryd.f5.params.toList.all ([22, 49, 3, 4, 29, 23, 43, 2, 9, 27, 37].contains ·) = true := by kernel_rfl
  have hrd : Tryd.f5.params.toList.all (fun t => Tryd.prog.readableRec t && decide (t < Tryd.prog.types.size)) = true := by kernel_rfl
  have hcall := law_calls (P := Tryd.prog) (f := 5) (fn := Tryd.f5) hpl (List.all_eq_true.1 hts) hval hA (weightsEach_append hlen hZ) hS (fun H k us hsub _ hus => zoneSound_any H k us (hsub _ _ ((upd_other _ _ (by decide)).trans (upd_same _ _ _))) (hsub _ _ (upd_same _ _ _)) hus)
  refine hcall.mono ?_
  rintro e W' ⟨rfl, hb⟩
  have hfn : (Rows.zoneSoundSpec.fn H ds).results = [.lit (.bool true)] ∧ (Rows.zoneSoundSpec.fn H ds).args = ds ∧ (Rows.zoneSoundSpec.fn H ds).vars = [] := by
    have hl : ds.length = 4 := hlen
    match ds, hl with
    | [d0, d1, d2, d3], _ => exact ⟨rfl, rfl, rfl⟩
  exact ⟨_, rfl, law_post (P := Tryd.prog) (by kernel_rfl) rfl hfn (fun t ht => by
    have := List.all_eq_true.1 hrd t ht
    simpa using this) rfl (show Tryd.prog.underlying 4 = some .bool by kernel_rfl) hW' hb⟩
theorem zoneSound_reads (os : Os) {H : Type} (enc : TypeId × Value → H) : ∃ x, DataW.whole enc Tryd.prog ((World.laidAll Tryd.prog os Rows.zoneSoundRow.laid).forCall (fun _ _ => 0) ⟨#[], #[.slice none 0 0, .agg #[.int .i64 0, .int .i64 0, .slice none 0 0, .slice none 0 0], .slice none 0 0, .int .i64 0], []⟩).memory Tryd.f5.params.toList Rows.zoneSoundSpec.vars false #[.slice none 0 0, .agg #[.int .i64 0, .int .i64 0, .slice none 0 0, .slice none 0 0], .slice none 0 0, .int .i64 0].toList 8 = some x :=
  Option.isSome_iff_exists.1 (by kernel_rfl)
theorem zoneSound_lifted (os : Os) (started : os.Started) (H : Type) (enc : TypeId × Value → H) (F : Stop.Interp) :
    ReturnsInHanded {} Tryd.checked os 5 .any ((OpenSpec.ofChange Rows.zoneSoundSpec).preRow enc Tryd.prog Tryd.f5 Rows.zoneSoundRow.domain false Rows.zoneSoundRow.laid) (((OpenSpec.ofChange Rows.zoneSoundSpec).at F).post enc Tryd.prog Tryd.f5 false true false false) := by
  obtain ⟨x, hx⟩ := zoneSound_reads os enc
  refine returnsInHanded_of_row (C := Tryd.checked) (s := OpenSpec.ofChange Rows.zoneSoundSpec) zoneSound_own started (by kernel_rfl) Tryd.func5
    (witness_row_at (enc := enc) (C := Tryd.checked) false (World.laidAll Tryd.prog os Rows.zoneSoundRow.laid) #[.slice none 0 0, .agg #[.int .i64 0, .int .i64 0, .slice none 0 0, .slice none 0 0], .slice none 0 0, .int .i64 0] (World.laidAll_os _ _ _) (by kernel_rfl) (by kernel_rfl) (by kernel_rfl)
      (OpenSpec.preRow_of_cond 8 hx rfl (fun k hk => by cases hk) (by kernel_rfl) (laidMet_laidAll _ (by kernel_rfl) (by kernel_rfl)))) ?_
  intro W base args ds gs before hval hW _ _ hZ hL _ _
  exact zoneSound_contract H enc W base args ds gs before hval hW _ hZ hL
theorem zoneSound_said : Rows.ZoneSoundSaid :=
  OpenClaim.holds_of_cond 5 Tryd.f5 rfl rfl rfl rfl rfl rfl rfl ⟨rfl, rfl, rfl, rfl, rfl⟩ rfl rfl rfl rfl rfl (by kernel_rfl) Tryd.func5 (by kernel_rfl)
    (of_decide_eq_true (by kernel_rfl)) (by unfold Func.isWrapper; first | (rw [if_pos (by decide +kernel)]; kernel_rfl) | (rw [if_neg (by decide +kernel)]; exact ⟨rfl, rfl⟩))
    (fun os started H enc _ F => by rw [OpenClaim.pre_eq_preRow]; exact zoneSound_lifted os started H enc F)
theorem zoneSound_plain (f : FuncId) (fn : Func) (hf : Tryd.pinned.checked.prog.funcNamed "estreat/estreatlaw17.ZoneSound" = some f) (hfn : Tryd.pinned.checked.prog.funcs[f]? = some fn) :
    true = Tryd.pinned.checked.prog.looks [] ∧ ∀ (j : Nat) t, fn.params[j]? = some t → Tryd.pinned.checked.prog.wantsStandIn t = false := by
  obtain rfl : f = 5 := Option.some.inj ((show Tryd.prog.funcNamed "estreat/estreatlaw17.ZoneSound" = some 5 by kernel_rfl).symm.trans hf) |>.symm
  obtain rfl : fn = Tryd.f5 := (Option.some.inj (Tryd.func5.symm.trans hfn)).symm
  have w3 : Tryd.prog.wantsStandIn 3 = false := by kernel_rfl
  have w22 : Tryd.prog.wantsStandIn 22 = false := by kernel_rfl
  have w29 : Tryd.prog.wantsStandIn 29 = false := by kernel_rfl
  have w37 : Tryd.prog.wantsStandIn 37 = false := by kernel_rfl
  refine ⟨by kernel_rfl, fun j t ht => ?_⟩
  rw [Tryd.params5] at ht
  match j, ht with
  | 0, ht => obtain rfl := Option.some.inj ht; exact w22
  | 1, ht => obtain rfl := Option.some.inj ht; exact w29
  | 2, ht => obtain rfl := Option.some.inj ht; exact w37
  | 3, ht => obtain rfl := Option.some.inj ht; exact w3
  | n + 4, ht => simp at ht
theorem zoneSound_card : Rows.ZoneSoundCardSaid :=
  Claim7.holds_tied_plain_at .later [] _ _ _ _ zoneSound_said (fun _ h => by cases h) (by kernel_rfl) (fun _ h => by cases h) zoneSound_row_tie rfl ⟨rfl, rfl⟩ (by kernel_rfl) rfl zoneSound_plain (by kernel_rfl)
#print axioms zoneSound_card
end Go.Proofs.YtnciojaecelhmaaDoor
