/- ReplyPuts: the tied card: for every input the law answers true, and what it is given reads as it did. Condition: the listed variables hold what the program's text lays. -/
import Derived.Test.YteoofihjmldllaaGreatDoorRTy
import Derived.Test.YteoofihjmldllaaGreatDoorCards
import Derived.Test.YteoofihjmldllaaGreatDoorTie
import Derived.WalkKit
import Derived.ProofKit
import Derived.OpenShut
import Derived.Deep.DeepHandedRow
import Derived.Lib.LaidTab
import Derived.Lay
import Derived.LaidHandle
set_option linter.unusedVariables false
set_option maxRecDepth 100000
namespace Go.Proofs.YteoofihjmldllaaGreatDoor
open Go Go.Ab Go.ChangeShapes Go.WideShapes Go.RowKit
theorem replyPuts_et : Tryz.prog.globalNamed "errors.errorType" = some 0 := by kernel_rfl
theorem replyPuts_rt : (Tryz.prog.cutTypes.find? (·.1 == "internal/reflectlite.rtype")).map (·.2) = some 146 := by kernel_rfl
theorem replyPuts_size : Tryz.prog.types.size = 198 := by kernel_rfl
theorem replyPuts_oneRow : ((List.range 198).filter fun t => Tryz.prog.rowNamed t [101, 114, 114, 111, 114]) = [107] := by kernel_rfl
theorem replyPuts_handle {W : World} (h : laidMetH Tryz.prog Rows.replyPutsRow.laid W) : W.cell? ⟨0, 0, none⟩ = some hV := by
 have h' : laidMet Tryz.prog [] W ∧ handlesMet Tryz.prog Rows.replyPutsRow.laid W := h
 obtain ⟨name, u, ty, e1, e2, e3, e4, e5⟩ := h'.2 _ (List.mem_singleton.2 rfl)
 have en : name = [101, 114, 114, 111, 114] := (Option.some.inj e1).symm
 subst en
 obtain rfl := Option.some.inj (replyPuts_rt.symm.trans e2)
 have hm : ty ∈ (List.range 198).filter fun t => Tryz.prog.rowNamed t [101, 114, 114, 111, 114] := List.mem_filter.2 ⟨List.mem_range.2 (by rw [← replyPuts_size]; exact e3), e4⟩
 rw [replyPuts_oneRow] at hm
 obtain rfl := List.mem_singleton.1 hm
 have hh : typeHandle Tryz.prog 107 = .pointer (some ⟨1, 107, none⟩) := by kernel_rfl
 rw [hh] at e5
 simpa using World.var?_cell replyPuts_et e5 0
theorem replyPuts_hV : VRel (startG 2) hV hV := by
 refine .iface (.agg rfl fun i a b ha hb => ?_)
 match i, ha, hb with
 | 0, ha, hb =>
  injection ha with ha
  injection hb with hb
  subst ha
  subst hb
  have h := @VRel.ptr (startG 2) 1 107 ⟨1, 0, none⟩ (by simp [startG])
  rw [Ab.add_plain, Nat.zero_add] at h
  exact h
 | i + 1, ha, hb => simp at ha
theorem replyPuts_start {W : World} (h : laidMetH Tryz.prog Rows.replyPutsRow.laid W) : SRel 2 W.heap.size W (startG 2) (upd (fun _ => none) 0 (some hBlk)) 2 W := by
 have hc := replyPuts_handle h
 have hsz : 0 < W.heap.size := cell_lt hc
 refine SRel.start 2 W _ fun n b hn => ?_
 by_cases e : n = 0
 ·subst e
  rw [upd_same] at hn
  injection hn with hn
  subst hn
  refine ⟨by decide, rfl, by omega, fun j v hj hv => ?_⟩
  match j, hv with
  | 0, hv =>
   injection hv with hv
   subst hv
   exact ⟨hV, hc, replyPuts_hV⟩
  | j + 1, hv => simp at hv
 ·rw [upd_other _ _ e] at hn
  cases hn
noncomputable def replyPutsWorld (os : Os) : World :=
 let w0 := World.holding Tryz.prog os ⟨#[], #[], []⟩
 { w0 with heap := w0.heap.modify 0 fun
   | .cells _ t frozen => .cells #[hV] t frozen
   | o => o }
theorem replyPutsWorld_os (os : Os) : (replyPutsWorld os).os = os := rfl
theorem replyPutsWorld_met (os : Os) (args : Array Value) : laidMetH Tryz.prog Rows.replyPutsRow.laid ((replyPutsWorld os).forCall (fun _ _ => 0) ⟨#[], args, []⟩).memory :=
 laidMetH_of_parts (laidMet_nil _ _) (by kernel_rfl)

theorem replyPuts_own : ownKnob Tryz.prog.godebug = none := by kernel_rfl
theorem replyPuts_contract (H : Type) (enc : TypeId × Value → H) (W : World) (base : Nat) (args : Array Value) (ds gs : List (DataW H)) (before : List MemPlace)
  (hval : ∀ (j : Nat) t v, Tryz.f3.params[j]? = some t → args[j]? = some v → Value.okWide Tryz.prog W .any base t v)
  (hW : DataW.Whole enc Tryz.prog Tryz.f3.params.toList Rows.replyPutsSpec.vars false W args.toList ds gs before) (us : List TypeId) (hZ : (DataW.weightsEach Tryz.prog (Tryz.f3.params.toList ++ us) (ds ++ gs)).all (· ≤ reachBytes) = true) (hL : laidMetH Tryz.prog Rows.replyPutsRow.laid W) :
  Calls Tryz.prog 3 args W fun e W' => ∃ v, e = .returned v ∧ Rows.replyPutsSpec.post enc Tryz.prog Tryz.f3 false true false false W args v W' := by
 have hW' := hW
 obtain ⟨p, q, hA, hV, hpq, _, _⟩ := hW
 have hS := replyPuts_start hL
 have hlen := trodAll_len hA
 have hpl : plains Tryz.prog [30, 3, 23, 5, 25, 26, 27, 59, 4, 28, 51, 48, 46, 57, 55, 53, 2, 9, 33, 49] = true := by kernel_rfl
 have hts : Tryz.f3.params.toList.all ([30, 3, 23, 5, 25, 26, 27, 59, 4, 28, 51, 48, 46, 57, 55, 53, 2, 9, 33, 49].contains ·) = true := by kernel_rfl
 have hrd : Tryz.f3.params.toList.all (fun t => Tryz.prog.readableRec t && decide (t < Tryz.prog.types.size)) = true := by kernel_rfl
 have hcall := law_calls (P := Tryz.prog) (f := 3) (fn := Tryz.f3) hpl (List.all_eq_true.1 hts) hval hA (weightsEach_append hlen hZ) hS (fun H k us hsub _ hus => replyPuts_any H k us (hsub _ _ (upd_same _ _ _)) hus)
 refine hcall.mono ?_
 rintro e W' ⟨rfl, hb⟩
 have hfn : (Rows.replyPutsSpec.fn H ds).results = [.lit (.bool true)] ∧ (Rows.replyPutsSpec.fn H ds).args = ds ∧ (Rows.replyPutsSpec.fn H ds).vars = [] := by
  have hl : ds.length = 1 := hlen
  match ds, hl with
  | [d0], _ => exact ⟨rfl, rfl, rfl⟩
 exact ⟨_, rfl, law_post (P := Tryz.prog) (by kernel_rfl) rfl hfn (fun t ht => by
  have := List.all_eq_true.1 hrd t ht
  simpa using this) rfl (show Tryz.prog.underlying 4 = some .bool by kernel_rfl) hW' hb⟩
theorem replyPuts_reads (os : Os) {H : Type} (enc : TypeId × Value → H) : ∃ x, DataW.whole enc Tryz.prog ((replyPutsWorld os).forCall (fun _ _ => 0) ⟨#[], #[.agg ⟨.int .i64 0 :: .int .u8 0 :: .int .u8 0 :: .int .u8 0 :: .int .u8 0 :: .int .u8 0 :: .int .u8 0 :: .int .u8 0 :: .int .u8 0 :: .int .u8 0 :: .int .u8 0 :: .int .u8 0 :: .int .u8 0 :: .int .u8 0 :: .int .u8 0 :: .int .u8 0 :: .int .u8 0 :: .int .u8 0 :: .int .u8 0 :: .int .u8 0 :: .int .u8 0 :: .int .u8 0 :: .int .u8 0 :: .int .u8 0 :: .int .u8 0 :: .int .u8 0 :: .int .u8 0 :: .int .u8 0 :: .int .u8 0 :: .int .u8 0 :: .int .u8 0 :: .int .u8 0 :: .int .u8 0 :: .int .u8 0 :: .int .u8 0 :: .int .u8 0 :: .int .u8 0 :: .int .u8 0 :: .int .u8 0 :: .int .u8 0 :: .int .u8 0 :: .int .u8 0 :: .int .u8 0 :: .int .u8 0 :: .int .u8 0 :: .int .u8 0 :: .int .u8 0 :: .int .u8 0 :: .int .u8 0 :: .int .u8 0 :: .int .u8 0 :: .int .u8 0 :: .int .u8 0 :: .int .u8 0 :: .int .u8 0 :: .int .u8 0 :: .int .u8 0 :: .int .u8 0 :: .int .u8 0 :: .int .u8 0 :: .int .u8 0 :: .int .u8 0 :: .int .u8 0 :: .int .u8 0 :: .int .u8 0 :: .int .i64 0 :: .int .u8 0 :: .int .u8 0 :: .int .u8 0 :: .int .u8 0 :: .int .u8 0 :: .int .u8 0 :: .int .u8 0 :: .int .u8 0 :: .int .u8 0 :: .int .u8 0 :: .int .u8 0 :: .int .u8 0 :: .int .u8 0 :: .int .u8 0 :: .int .u8 0 :: .int .u8 0 :: .int .u8 0 :: .int .u8 0 :: .int .u8 0 :: .int .u8 0 :: .int .u8 0 :: .int .u8 0 :: .int .u8 0 :: .int .u8 0 :: .int .u8 0 :: .int .u8 0 :: .int .u8 0 :: .int .u8 0 :: .int .u8 0 :: .int .u8 0 :: .int .u8 0 :: .int .u8 0 :: .slice none 0 0 :: .slice none 0 0 :: .slice none 0 0 :: []⟩], []⟩).memory Tryz.f3.params.toList Rows.replyPutsSpec.vars false #[.agg ⟨.int .i64 0 :: .int .u8 0 :: .int .u8 0 :: .int .u8 0 :: .int .u8 0 :: .int .u8 0 :: .int .u8 0 :: .int .u8 0 :: .int .u8 0 :: .int .u8 0 :: .int .u8 0 :: .int .u8 0 :: .int .u8 0 :: .int .u8 0 :: .int .u8 0 :: .int .u8 0 :: .int .u8 0 :: .int .u8 0 :: .int .u8 0 :: .int .u8 0 :: .int .u8 0 :: .int .u8 0 :: .int .u8 0 :: .int .u8 0 :: .int .u8 0 :: .int .u8 0 :: .int .u8 0 :: .int .u8 0 :: .int .u8 0 :: .int .u8 0 :: .int .u8 0 :: .int .u8 0 :: .int .u8 0 :: .int .u8 0 :: .int .u8 0 :: .int .u8 0 :: .int .u8 0 :: .int .u8 0 :: .int .u8 0 :: .int .u8 0 :: .int .u8 0 :: .int .u8 0 :: .int .u8 0 :: .int .u8 0 :: .int .u8 0 :: .int .u8 0 :: .int .u8 0 :: .int .u8 0 :: .int .u8 0 :: .int .u8 0 :: .int .u8 0 :: .int .u8 0 :: .int .u8 0 :: .int .u8 0 :: .int .u8 0 :: .int .u8 0 :: .int .u8 0 :: .int .u8 0 :: .int .u8 0 :: .int .u8 0 :: .int .u8 0 :: .int .u8 0 :: .int .u8 0 :: .int .u8 0 :: .int .u8 0 :: .int .i64 0 :: .int .u8 0 :: .int .u8 0 :: .int .u8 0 :: .int .u8 0 :: .int .u8 0 :: .int .u8 0 :: .int .u8 0 :: .int .u8 0 :: .int .u8 0 :: .int .u8 0 :: .int .u8 0 :: .int .u8 0 :: .int .u8 0 :: .int .u8 0 :: .int .u8 0 :: .int .u8 0 :: .int .u8 0 :: .int .u8 0 :: .int .u8 0 :: .int .u8 0 :: .int .u8 0 :: .int .u8 0 :: .int .u8 0 :: .int .u8 0 :: .int .u8 0 :: .int .u8 0 :: .int .u8 0 :: .int .u8 0 :: .int .u8 0 :: .int .u8 0 :: .int .u8 0 :: .int .u8 0 :: .slice none 0 0 :: .slice none 0 0 :: .slice none 0 0 :: []⟩].toList 8 = some x :=
 Option.isSome_iff_exists.1 (by kernel_rfl)
theorem replyPuts_lifted (os : Os) (started : os.Started) (H : Type) (enc : TypeId × Value → H) (F : Stop.Interp) :
  ReturnsInHanded {} Tryz.checked os 3 .any ((OpenSpec.ofChange Rows.replyPutsSpec).preRow enc Tryz.prog Tryz.f3 Rows.replyPutsRow.domain false Rows.replyPutsRow.laid) (((OpenSpec.ofChange Rows.replyPutsSpec).at F).post enc Tryz.prog Tryz.f3 false true false false) := by
 obtain ⟨x, hx⟩ := replyPuts_reads os enc
 refine returnsInHanded_of_row (C := Tryz.checked) (s := OpenSpec.ofChange Rows.replyPutsSpec) replyPuts_own started (by kernel_rfl) Tryz.func3
  (witness_row_at (enc := enc) (C := Tryz.checked) false (replyPutsWorld os) #[.agg ⟨.int .i64 0 :: .int .u8 0 :: .int .u8 0 :: .int .u8 0 :: .int .u8 0 :: .int .u8 0 :: .int .u8 0 :: .int .u8 0 :: .int .u8 0 :: .int .u8 0 :: .int .u8 0 :: .int .u8 0 :: .int .u8 0 :: .int .u8 0 :: .int .u8 0 :: .int .u8 0 :: .int .u8 0 :: .int .u8 0 :: .int .u8 0 :: .int .u8 0 :: .int .u8 0 :: .int .u8 0 :: .int .u8 0 :: .int .u8 0 :: .int .u8 0 :: .int .u8 0 :: .int .u8 0 :: .int .u8 0 :: .int .u8 0 :: .int .u8 0 :: .int .u8 0 :: .int .u8 0 :: .int .u8 0 :: .int .u8 0 :: .int .u8 0 :: .int .u8 0 :: .int .u8 0 :: .int .u8 0 :: .int .u8 0 :: .int .u8 0 :: .int .u8 0 :: .int .u8 0 :: .int .u8 0 :: .int .u8 0 :: .int .u8 0 :: .int .u8 0 :: .int .u8 0 :: .int .u8 0 :: .int .u8 0 :: .int .u8 0 :: .int .u8 0 :: .int .u8 0 :: .int .u8 0 :: .int .u8 0 :: .int .u8 0 :: .int .u8 0 :: .int .u8 0 :: .int .u8 0 :: .int .u8 0 :: .int .u8 0 :: .int .u8 0 :: .int .u8 0 :: .int .u8 0 :: .int .u8 0 :: .int .u8 0 :: .int .i64 0 :: .int .u8 0 :: .int .u8 0 :: .int .u8 0 :: .int .u8 0 :: .int .u8 0 :: .int .u8 0 :: .int .u8 0 :: .int .u8 0 :: .int .u8 0 :: .int .u8 0 :: .int .u8 0 :: .int .u8 0 :: .int .u8 0 :: .int .u8 0 :: .int .u8 0 :: .int .u8 0 :: .int .u8 0 :: .int .u8 0 :: .int .u8 0 :: .int .u8 0 :: .int .u8 0 :: .int .u8 0 :: .int .u8 0 :: .int .u8 0 :: .int .u8 0 :: .int .u8 0 :: .int .u8 0 :: .int .u8 0 :: .int .u8 0 :: .int .u8 0 :: .int .u8 0 :: .int .u8 0 :: .slice none 0 0 :: .slice none 0 0 :: .slice none 0 0 :: []⟩] (replyPutsWorld_os os) (by kernel_rfl) (by kernel_rfl) (by kernel_rfl)
   (OpenSpec.preRow_of_cond 8 hx rfl (fun k hk => by cases hk) (by kernel_rfl) (replyPutsWorld_met os _))) ?_
 intro W base args ds gs before hval hW _ _ hZ hL _ _
 exact replyPuts_contract H enc W base args ds gs before hval hW _ hZ hL
theorem replyPuts_said : Rows.ReplyPutsSaid :=
 OpenClaim.holds_of_cond 3 Tryz.f3 rfl rfl rfl rfl rfl rfl rfl ⟨rfl, rfl, rfl, rfl, rfl⟩ rfl rfl rfl rfl rfl (by kernel_rfl) Tryz.func3 (by kernel_rfl)
  (of_decide_eq_true (by kernel_rfl)) (by unfold Func.isWrapper; first | (rw [if_pos (by decide +kernel)]; kernel_rfl) | (rw [if_neg (by decide +kernel)]; exact ⟨rfl, rfl⟩))
  (fun os started H enc _ F => by rw [OpenClaim.pre_eq_preRow]; exact replyPuts_lifted os started H enc F)
theorem replyPuts_plain (f : FuncId) (fn : Func) (hf : Tryz.pinned.checked.prog.funcNamed "estreat/estreatlaw29.ReplyPuts" = some f) (hfn : Tryz.pinned.checked.prog.funcs[f]? = some fn) :
  true = Tryz.pinned.checked.prog.looks [] ∧ ∀ (j : Nat) t, fn.params[j]? = some t → Tryz.pinned.checked.prog.wantsStandIn t = false := by
 obtain rfl : f = 3 := Option.some.inj ((show Tryz.prog.funcNamed "estreat/estreatlaw29.ReplyPuts" = some 3 by kernel_rfl).symm.trans hf) |>.symm
 obtain rfl : fn = Tryz.f3 := (Option.some.inj (Tryz.func3.symm.trans hfn)).symm
 have w30 : Tryz.prog.wantsStandIn 30 = false := by kernel_rfl
 refine ⟨by kernel_rfl, fun j t ht => ?_⟩
 rw [Tryz.params3] at ht
 match j, ht with
 | 0, ht => obtain rfl := Option.some.inj ht; exact w30
 | n + 1, ht => simp at ht
theorem replyPuts_card : Rows.ReplyPutsCardSaid :=
 Claim7.holds_tied_plain_at .later [] _ _ _ _ replyPuts_said (fun _ h => by cases h) (by kernel_rfl) (fun _ h => by cases h) replyPuts_row_tie rfl ⟨rfl, rfl⟩ (by kernel_rfl) rfl replyPuts_plain (by kernel_rfl)
#print axioms replyPuts_card
end Go.Proofs.YteoofihjmldllaaGreatDoor
