/- LedgerPlays: the tied card: for every input the law answers true, and what it is given reads as it did. Condition: the listed variables hold what the program's text lays. -/
import Derived.Test.YtipaiielkpifoaaDoorL21
import Derived.Test.YtipaiielkpifoaaDoorCards
import Derived.Test.YtipaiielkpifoaaDoorTie
import Derived.WalkKit
import Derived.ProofKit
import Derived.OpenShut
import Derived.Deep.DeepHandedRow
import Derived.Lib.LaidTab
import Derived.Lay
set_option linter.unusedVariables false
set_option maxRecDepth 100000
namespace Go.Proofs.YtipaiielkpifoaaDoor
open Go Go.Ab Go.ChangeShapes Go.WideShapes Go.RowKit
theorem ledgerPlays_start {W : World} (h : laidMetH Tryd.prog Rows.ledgerPlaysRow.laid W) : SRel 1 W.heap.size W (startG 1) (tabH 0 118 (kTab.map wv) (fun _ => none)) 1 W := by
  have hg : Tryd.prog.globalNamed "estreat/sha.table" = some 0 := by kernel_rfl
  have ht : Lib.TabIs Tryd.prog W "estreat/sha.table" .u32 (kTab.map fun x => (x.toNat : Int)) :=
    Lib.tabIs_of_head (rest := []) (t := 118) (e := 100) (n := 64) hg (by kernel_rfl) (by kernel_rfl) (by kernel_rfl) (by kernel_rfl) (by kernel_rfl) h
  exact SRel.start_tab 118 (SRel.start 1 W (fun _ => none) (fun n b h => by cases h)) (by decide) (tab_words ht hg) (wv_plain _) (by decide)

theorem ledgerPlays_own : ownKnob Tryd.prog.godebug = none := by kernel_rfl
theorem ledgerPlays_contract (H : Type) (enc : TypeId × Value → H) (W : World) (base : Nat) (args : Array Value) (ds gs : List (DataW H)) (before : List MemPlace)
    (hval : ∀ (j : Nat) t v, Tryd.f5.params[j]? = some t → args[j]? = some v → Value.okWide Tryd.prog W .any base t v)
    (hW : DataW.Whole enc Tryd.prog Tryd.f5.params.toList Rows.ledgerPlaysSpec.vars false W args.toList ds gs before) (hL : laidMetH Tryd.prog Rows.ledgerPlaysRow.laid W) :
    Calls Tryd.prog 5 args W fun e W' => ∃ v, e = .returned v ∧ Rows.ledgerPlaysSpec.post enc Tryd.prog Tryd.f5 false true false false W args v W' := by
  have hW' := hW
  obtain ⟨p, q, hA, hV, hpq, _, _⟩ := hW
  have hS := ledgerPlays_start hL
  have hlen := trodAll_len hA
  have hpl : plains Tryd.prog [34, 38, 31, 5, 3] = true := by kernel_rfl
  have hts : Tryd.f5.params.toList.all ([34, 38, 31, 5, 3].contains ·) = true := by kernel_rfl
  have hrd : Tryd.f5.params.toList.all (fun t => Tryd.prog.readableRec t && decide (t < Tryd.prog.types.size)) = true := by kernel_rfl
  have hcall := law_calls (P := Tryd.prog) (f := 5) (fn := Tryd.f5) hpl (List.all_eq_true.1 hts) hval hA hS (fun H k us hsub _ hus => ledgerPlays_any H k us (hsub _ _ (upd_same _ _ _)) hus)
  refine hcall.mono ?_
  rintro e W' ⟨rfl, hb⟩
  have hfn : (Rows.ledgerPlaysSpec.fn H ds).results = [.lit (.bool true)] ∧ (Rows.ledgerPlaysSpec.fn H ds).args = ds ∧ (Rows.ledgerPlaysSpec.fn H ds).vars = [] := by
    have hl : ds.length = 2 := hlen
    match ds, hl with
    | [d0, d1], _ => exact ⟨rfl, rfl, rfl⟩
  exact ⟨_, rfl, law_post (P := Tryd.prog) (by kernel_rfl) rfl hfn (fun t ht => by
    have := List.all_eq_true.1 hrd t ht
    simpa using this) rfl (show Tryd.prog.underlying 4 = some .bool by kernel_rfl) hW' hb⟩
theorem ledgerPlays_reads (os : Os) {H : Type} (enc : TypeId × Value → H) : ∃ x, DataW.whole enc Tryd.prog ((World.laidAll Tryd.prog os Rows.ledgerPlaysRow.laid).forCall (fun _ _ => 0) ⟨#[], #[.slice none 0 0, .int .i64 0], []⟩).memory Tryd.f5.params.toList Rows.ledgerPlaysSpec.vars false #[.slice none 0 0, .int .i64 0].toList 8 = some x :=
  Option.isSome_iff_exists.1 (by kernel_rfl)
theorem ledgerPlays_lifted (os : Os) (started : os.Started) (H : Type) (enc : TypeId × Value → H) (F : Stop.Interp) :
    ReturnsInHanded {} Tryd.checked os 5 .any ((OpenSpec.ofChange Rows.ledgerPlaysSpec).preRow enc Tryd.prog Tryd.f5 Rows.ledgerPlaysRow.domain false Rows.ledgerPlaysRow.laid) (((OpenSpec.ofChange Rows.ledgerPlaysSpec).at F).post enc Tryd.prog Tryd.f5 false true false false) := by
  obtain ⟨x, hx⟩ := ledgerPlays_reads os enc
  refine returnsInHanded_of_row (C := Tryd.checked) (s := OpenSpec.ofChange Rows.ledgerPlaysSpec) ledgerPlays_own started (by kernel_rfl) Tryd.func5
    (witness_row_at (enc := enc) (C := Tryd.checked) false (World.laidAll Tryd.prog os Rows.ledgerPlaysRow.laid) #[.slice none 0 0, .int .i64 0] (World.laidAll_os _ _ _) (by kernel_rfl) (by kernel_rfl) (by kernel_rfl)
      (OpenSpec.preRow_of_cond 8 hx rfl (fun k hk => by cases hk) (by kernel_rfl) (laidMet_laidAll _ (by kernel_rfl) (by kernel_rfl)))) ?_
  intro W base args ds gs before hval hW _ _ _ hL _ _
  exact ledgerPlays_contract H enc W base args ds gs before hval hW hL
theorem ledgerPlays_said : Rows.LedgerPlaysSaid :=
  OpenClaim.holds_of_cond 5 Tryd.f5 rfl rfl rfl rfl rfl rfl rfl ⟨rfl, rfl, rfl, rfl, rfl⟩ rfl rfl rfl rfl rfl (by kernel_rfl) Tryd.func5 (by kernel_rfl)
    (of_decide_eq_true (by kernel_rfl)) (by unfold Func.isWrapper; first | (rw [if_pos (by decide +kernel)]; kernel_rfl) | (rw [if_neg (by decide +kernel)]; exact ⟨rfl, rfl⟩))
    (fun os started H enc _ F => by rw [OpenClaim.pre_eq_preRow]; exact ledgerPlays_lifted os started H enc F)
theorem ledgerPlays_plain (f : FuncId) (fn : Func) (hf : Tryd.pinned.checked.prog.funcNamed "estreat/estreatlaw21.LedgerPlays" = some f) (hfn : Tryd.pinned.checked.prog.funcs[f]? = some fn) :
    false = Tryd.pinned.checked.prog.looks [] ∧ ∀ (j : Nat) t, fn.params[j]? = some t → Tryd.pinned.checked.prog.wantsStandIn t = false := by
  obtain rfl : f = 5 := Option.some.inj ((show Tryd.prog.funcNamed "estreat/estreatlaw21.LedgerPlays" = some 5 by kernel_rfl).symm.trans hf) |>.symm
  obtain rfl : fn = Tryd.f5 := (Option.some.inj (Tryd.func5.symm.trans hfn)).symm
  have w3 : Tryd.prog.wantsStandIn 3 = false := by kernel_rfl
  have w34 : Tryd.prog.wantsStandIn 34 = false := by kernel_rfl
  refine ⟨by kernel_rfl, fun j t ht => ?_⟩
  rw [Tryd.params5] at ht
  match j, ht with
  | 0, ht => obtain rfl := Option.some.inj ht; exact w34
  | 1, ht => obtain rfl := Option.some.inj ht; exact w3
  | n + 2, ht => simp at ht
theorem ledgerPlays_card : Rows.LedgerPlaysCardSaid :=
  Claim7.holds_tied_plain_at .later [] _ _ _ _ ledgerPlays_said (fun _ h => by cases h) (by kernel_rfl) (fun _ h => by cases h) ledgerPlays_row_tie rfl ⟨rfl, rfl⟩ (by kernel_rfl) rfl ledgerPlays_plain (by kernel_rfl)
#print axioms ledgerPlays_card
end Go.Proofs.YtipaiielkpifoaaDoor
