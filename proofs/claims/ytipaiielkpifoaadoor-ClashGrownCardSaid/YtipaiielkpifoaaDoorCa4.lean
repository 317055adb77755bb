/- ClashGrown: the tied card: for every input the law answers true, and what it is given reads as it did. Condition: the listed variables hold what the program's text lays. -/
import Derived.Test.YtipaiielkpifoaaDoorL12
import Derived.Test.YtipaiielkpifoaaDoorCards
import Derived.Test.YtipaiielkpifoaaDoorTie
import Derived.WalkKit
import Derived.ProofKit
import Derived.OpenShut
import Derived.Deep.DeepHandedRow
import Derived.Lib.LaidTab
import Derived.Lay
set_option linter.unusedVariables false
set_option maxRecDepth 100000
namespace Go.Proofs.YtipaiielkpifoaaDoor
open Go Go.Ab Go.ChangeShapes Go.WideShapes Go.RowKit
theorem clashGrown_start {W : World} (h : laidMetH Tryd.prog Rows.clashGrownRow.laid W) : SRel 1 W.heap.size W (startG 1) (tabH 0 118 (kTab.map wv) (fun _ => none)) 1 W := by
  have hg : Tryd.prog.globalNamed "estreat/sha.table" = some 0 := by kernel_rfl
  have ht : Lib.TabIs Tryd.prog W "estreat/sha.table" .u32 (kTab.map fun x => (x.toNat : Int)) :=
    Lib.tabIs_of_head (rest := []) (t := 118) (e := 100) (n := 64) hg (by kernel_rfl) (by kernel_rfl) (by kernel_rfl) (by kernel_rfl) (by kernel_rfl) h
  exact SRel.start_tab 118 (SRel.start 1 W (fun _ => none) (fun n b h => by cases h)) (by decide) (tab_words ht hg) (wv_plain _) (by decide)

theorem clashGrown_own : ownKnob Tryd.prog.godebug = none := by kernel_rfl
theorem clashGrown_contract (H : Type) (enc : TypeId × Value → H) (W : World) (base : Nat) (args : Array Value) (ds gs : List (DataW H)) (before : List MemPlace)
    (hval : ∀ (j : Nat) t v, Tryd.f7.params[j]? = some t → args[j]? = some v → Value.okWide Tryd.prog W .any base t v)
    (hW : DataW.Whole enc Tryd.prog Tryd.f7.params.toList Rows.clashGrownSpec.vars false W args.toList ds gs before) (hL : laidMetH Tryd.prog Rows.clashGrownRow.laid W) :
    Calls Tryd.prog 7 args W fun e W' => ∃ v, e = .returned v ∧ Rows.clashGrownSpec.post enc Tryd.prog Tryd.f7 false true false false W args v W' := by
  have hW' := hW
  obtain ⟨p, q, hA, hV, hpq, _, _⟩ := hW
  have hS := clashGrown_start hL
  have hlen := trodAll_len hA
  have hpl : plains Tryd.prog [22, 25, 5, 3, 31, 43] = true := by kernel_rfl
  have hts : Tryd.f7.params.toList.all ([22, 25, 5, 3, 31, 43].contains ·) = true := by kernel_rfl
  have hrd : Tryd.f7.params.toList.all (fun t => Tryd.prog.readableRec t && decide (t < Tryd.prog.types.size)) = true := by kernel_rfl
  have hcall := law_calls (P := Tryd.prog) (f := 7) (fn := Tryd.f7) hpl (List.all_eq_true.1 hts) hval hA hS (fun H k us hsub _ hus => clashGrown_any H k us (hsub _ _ (upd_same _ _ _)) hus)
  refine hcall.mono ?_
  rintro e W' ⟨rfl, hb⟩
  have hfn : (Rows.clashGrownSpec.fn H ds).results = [.lit (.bool true)] ∧ (Rows.clashGrownSpec.fn H ds).args = ds ∧ (Rows.clashGrownSpec.fn H ds).vars = [] := by
    have hl : ds.length = 4 := hlen
    match ds, hl with
    | [d0, d1, d2, d3], _ => exact ⟨rfl, rfl, rfl⟩
  exact ⟨_, rfl, law_post (P := Tryd.prog) (by kernel_rfl) rfl hfn (fun t ht => by
    have := List.all_eq_true.1 hrd t ht
    simpa using this) rfl (show Tryd.prog.underlying 4 = some .bool by kernel_rfl) hW' hb⟩
theorem clashGrown_reads (os : Os) {H : Type} (enc : TypeId × Value → H) : ∃ x, DataW.whole enc Tryd.prog ((World.laidAll Tryd.prog os Rows.clashGrownRow.laid).forCall (fun _ _ => 0) ⟨#[], #[.slice none 0 0, .int .i64 0, .agg (List.replicate 32 (Value.int .u8 0)).toArray, .slice none 0 0], []⟩).memory Tryd.f7.params.toList Rows.clashGrownSpec.vars false #[.slice none 0 0, .int .i64 0, .agg (List.replicate 32 (Value.int .u8 0)).toArray, .slice none 0 0].toList 8 = some x :=
  Option.isSome_iff_exists.1 (by kernel_rfl)
theorem clashGrown_lifted (os : Os) (started : os.Started) (H : Type) (enc : TypeId × Value → H) (F : Stop.Interp) :
    ReturnsInHanded {} Tryd.checked os 7 .any ((OpenSpec.ofChange Rows.clashGrownSpec).preRow enc Tryd.prog Tryd.f7 Rows.clashGrownRow.domain false Rows.clashGrownRow.laid) (((OpenSpec.ofChange Rows.clashGrownSpec).at F).post enc Tryd.prog Tryd.f7 false true false false) := by
  obtain ⟨x, hx⟩ := clashGrown_reads os enc
  refine returnsInHanded_of_row (C := Tryd.checked) (s := OpenSpec.ofChange Rows.clashGrownSpec) clashGrown_own started (by kernel_rfl) Tryd.func7
    (witness_row_at (enc := enc) (C := Tryd.checked) false (World.laidAll Tryd.prog os Rows.clashGrownRow.laid) #[.slice none 0 0, .int .i64 0, .agg (List.replicate 32 (Value.int .u8 0)).toArray, .slice none 0 0] (World.laidAll_os _ _ _) (by kernel_rfl) (by kernel_rfl) (by kernel_rfl)
      (OpenSpec.preRow_of_cond 8 hx rfl (fun k hk => by cases hk) (by kernel_rfl) (laidMet_laidAll _ (by kernel_rfl) (by kernel_rfl)))) ?_
  intro W base args ds gs before hval hW _ _ _ hL _ _
  exact clashGrown_contract H enc W base args ds gs before hval hW hL
theorem clashGrown_said : Rows.ClashGrownSaid :=
  OpenClaim.holds_of_cond 7 Tryd.f7 rfl rfl rfl rfl rfl rfl rfl ⟨rfl, rfl, rfl, rfl, rfl⟩ rfl rfl rfl rfl rfl (by kernel_rfl) Tryd.func7 (by kernel_rfl)
    (of_decide_eq_true (by kernel_rfl)) (by unfold Func.isWrapper; first | (rw [if_pos (by decide +kernel)]; kernel_rfl) | (rw [if_neg (by decide +kernel)]; exact ⟨rfl, rfl⟩))
    (fun os started H enc _ F => by rw [OpenClaim.pre_eq_preRow]; exact clashGrown_lifted os started H enc F)
theorem clashGrown_plain (f : FuncId) (fn : Func) (hf : Tryd.pinned.checked.prog.funcNamed "estreat/estreatlaw22.ClashGrown" = some f) (hfn : Tryd.pinned.checked.prog.funcs[f]? = some fn) :
    false = Tryd.pinned.checked.prog.looks [] ∧ ∀ (j : Nat) t, fn.params[j]? = some t → Tryd.pinned.checked.prog.wantsStandIn t = false := by
  obtain rfl : f = 7 := Option.some.inj ((show Tryd.prog.funcNamed "estreat/estreatlaw22.ClashGrown" = some 7 by kernel_rfl).symm.trans hf) |>.symm
  obtain rfl : fn = Tryd.f7 := (Option.some.inj (Tryd.func7.symm.trans hfn)).symm
  have w3 : Tryd.prog.wantsStandIn 3 = false := by kernel_rfl
  have w22 : Tryd.prog.wantsStandIn 22 = false := by kernel_rfl
  have w31 : Tryd.prog.wantsStandIn 31 = false := by kernel_rfl
  have w43 : Tryd.prog.wantsStandIn 43 = false := by kernel_rfl
  refine ⟨by kernel_rfl, fun j t ht => ?_⟩
  rw [Tryd.params7] at ht
  match j, ht with
  | 0, ht => obtain rfl := Option.some.inj ht; exact w22
  | 1, ht => obtain rfl := Option.some.inj ht; exact w3
  | 2, ht => obtain rfl := Option.some.inj ht; exact w31
  | 3, ht => obtain rfl := Option.some.inj ht; exact w43
  | n + 4, ht => simp at ht
theorem clashGrown_card : Rows.ClashGrownCardSaid :=
  Claim7.holds_tied_plain_at .later [] _ _ _ _ clashGrown_said (fun _ h => by cases h) (by kernel_rfl) (fun _ h => by cases h) clashGrown_row_tie rfl ⟨rfl, rfl⟩ (by kernel_rfl) rfl clashGrown_plain (by kernel_rfl)
#print axioms clashGrown_card
end Go.Proofs.YtipaiielkpifoaaDoor
