/- The order of texts and of values, in plain Lean: turned about it is turned; ahead of one that is ahead is ahead; the same are the same where they may stand in columns. No condition beside the stated ones. -/
import Derived.Test.YteoofihjmldllaaDoorAb20
import Derived.Laws.Strings
import Derived.Test.YteoofihjmldllaaDoorAbF
set_option linter.unusedVariables false
set_option linter.unusedSimpArgs false
namespace Go.Proofs.YteoofihjmldllaaDoor
open Go

theorem toList_inj {x y : ByteArray} (h : x.toList = y.toList) : x = y := by
  rw [ByteArray.toList_eq, ByteArray.toList_eq] at h
  cases x; cases y
  exact congrArg ByteArray.mk (Array.toList_inj.1 h)

structure Val where
  kind : Int
  n : Int
  s : ByteArray
abbrev vv (a : Val) : Value := .agg #[.int .i64 a.kind, .int .i64 a.n, .string a.s]
def isEmp (s : ByteArray) : Bool := s.toList == ByteArray.toList (⟨#[]⟩ : ByteArray)
def right (a : Val) (k : Int) : Bool := if a.kind = 0 then (a.n == 0 && isEmp a.s) else (a.kind == k && (k == 1 && isEmp a.s || k == 2 && a.n == 0))

def valEq (a b : Val) : Bool := a.kind == b.kind && a.n == b.n && decide (a.s = b.s)
theorem valEq_iff (a b : Val) : valEq a b = true ↔ (#[.int .i64 a.kind, .int .i64 a.n, .string a.s] : Array Value) = #[.int .i64 b.kind, .int .i64 b.n, .string b.s] := by
  simp [valEq, and_assoc]
theorem isEmp_iff (s : ByteArray) : isEmp s = true ↔ s = ⟨#[]⟩ := by
  unfold isEmp
  rw [beq_iff_eq]
  exact ⟨toList_inj, fun e => by rw [e]⟩
end Go.Proofs.YteoofihjmldllaaDoor

/- Contracts over the abstract states: the order of values, what is right of a value, the document's example. -/
set_option linter.unusedVariables false
set_option linter.unusedSimpArgs false
set_option maxRecDepth 100000
namespace Go.Proofs.YteoofihjmldllaaDoor
open Go Go.Ab

section
variable (NG : Nat) (H : Hp) (k : Nat)

theorem right_val (a : Val) (kd : Int) : ACalls Tryd.prog NG 62 [vv a, .int .i64 kd] H k (Same H k (.bool (right a kd))) := by
  refine ACalls.fresh fun hf => ?_
  refine ACalls.body Tryd.func62 rfl (Nat.le_of_ble_eq_true rfl) ?_
  refine ACode.seq ?_
  refine ACode.region' [0, 1] (by kernel_rfl) rfl ?_
  refine aOps_1 rfl rfl rfl (AOp.boxV rfl rfl ?_)
  refine aOps_1 rfl rfl rfl (AOp.move' (.inr rfl) rfl ?_)
  refine aOps_end ?_
  show ACode _ _ _ _ _ _
  refine ACode.seq ?_
  refine ACode.seq ?_
  refine ACode.region' [0, 1, 2] (by kernel_rfl) rfl ?_
  refine aOps_1 rfl rfl rfl (AOp.fieldAddr' rfl (by decide) rfl ?_)
  refine aOps_1 rfl rfl rfl ?_
  refine AOp.load1 (b := ?b11) (v := ?v11) rfl rfl ?hn11 ?hv11 ?hR11
  (case hn11 => exact hpA)
  (case hv11 => rfl)
  refine aOps_1 rfl rfl rfl (AOp.bin' rfl rfl rfl rfl ?_)
  refine aOps_end ?_
  show ACode _ _ _ _ _ _
  refine ACode.cond rfl (fun c0 => ?_) (fun c0 => ?_)
  · try simp only [decide_eq_true_eq, decide_eq_false_iff_not, beq_iff_eq, beq_eq_false_iff_ne, ne_eq, bne_iff_ne, Bool.not_eq_true', Bool.not_eq_false', Int.not_lt, Int.not_le, gt_iff_lt, ge_iff_le, bne_eq_false_iff_eq, Bool.not_eq_eq_eq_not, Bool.not_true, Bool.not_false] at c0
    refine ACode.seq ?_
    refine ACode.region' [0, 1, 2, 3, 4, 5, 6, 7, 8] (by kernel_rfl) rfl ?_
    refine aOps_1 rfl rfl rfl (AOp.fieldAddr' rfl (by decide) rfl ?_)
    refine aOps_1 rfl rfl rfl ?_
    refine AOp.load1 (b := ?b12) (v := ?v12) rfl rfl ?hn12 ?hv12 ?hR12
    (case hn12 => exact hpA)
    (case hv12 => rfl)
    refine aOps_1 rfl rfl rfl (AOp.bin' rfl rfl rfl rfl ?_)
    refine aOps_1 rfl rfl rfl (AOp.move' (.inl rfl) rfl ?_)
    refine aOps_gd0 rfl rfl (wantT rfl rfl rfl) (fun hc => AOp.slots [(2, _)] (.cons rfl .nil) (AOp.fieldAddr' rfl (by decide) rfl ⟨rfl, rfl, rfl⟩)) ?_
    refine aOps_gd0 rfl rfl (wantT rfl rfl rfl) (fun hc => AOp.slots [(12, _)] (.cons (gvT rfl hc) .nil) ((by refine AOp.load1 (b := ?b13) (v := ?v13) rfl rfl ?hn13 ?hv13 ?hR13; (case hn13 => exact hpA); (case hv13 => rfl); exact ⟨rfl, rfl, rfl⟩))) ?_
    refine aOps_gd0 rfl rfl (wantT rfl rfl rfl) (fun hc => AOp.slots [(13, _)] (.cons (gvT rfl hc) .nil) (AOp.bin' rfl rfl rfl rfl ⟨rfl, rfl, rfl⟩)) ?_
    refine aOps_1 rfl rfl rfl (AOp.pickAnd rfl rfl rfl (fun hb => gvE rfl hb) ?_)
    refine aOps_1 rfl rfl rfl (AOp.move' (.inr rfl) rfl ?_)
    refine aOps_end ?_
    show ACode _ _ _ _ _ _
    refine ACode.ret ?_
    exact RetQ.one rfl rfl subA stays (fun hk => ⟨(by rw [right, if_pos c0]; rfl), rfl, by omega⟩)
  · try simp only [decide_eq_true_eq, decide_eq_false_iff_not, beq_iff_eq, beq_eq_false_iff_ne, ne_eq, bne_iff_ne, Bool.not_eq_true', Bool.not_eq_false', Int.not_lt, Int.not_le, gt_iff_lt, ge_iff_le, bne_eq_false_iff_eq, Bool.not_eq_eq_eq_not, Bool.not_true, Bool.not_false] at c0
    refine ACode.skip ?_
    show ACode _ _ _ _ _ _
    refine ACode.seq ?_
    refine ACode.region' [0, 1, 2, 3, 4, 5, 6, 7, 8, 9, 10, 11, 12, 13, 14, 15, 16, 17, 18, 19, 20, 21, 22] (by kernel_rfl) rfl ?_
    refine aOps_1 rfl rfl rfl (AOp.fieldAddr' rfl (by decide) rfl ?_)
    refine aOps_1 rfl rfl rfl ?_
    refine AOp.load1 (b := ?b14) (v := ?v14) rfl rfl ?hn14 ?hv14 ?hR14
    (case hn14 => exact hpA)
    (case hv14 => rfl)
    refine aOps_1 rfl rfl rfl (AOp.move' (.inl rfl) rfl ?_)
    refine aOps_1 rfl rfl rfl (AOp.bin' rfl rfl rfl rfl ?_)
    refine aOps_1 rfl rfl rfl (AOp.move' (.inl rfl) rfl ?_)
    refine aOps_gd0 rfl rfl (wantT rfl rfl rfl) (fun hc => AOp.slots [(1, _)] (.cons rfl .nil) (AOp.move' (.inl rfl) rfl ⟨rfl, rfl, rfl⟩)) ?_
    refine aOps_gd0 rfl rfl (wantT rfl rfl rfl) (fun hc => AOp.slots [(21, _)] (.cons (gvT rfl hc) .nil) (AOp.bin' rfl rfl rfl rfl ⟨rfl, rfl, rfl⟩)) ?_
    refine aOps_gd0 rfl rfl (wantT rfl rfl rfl) (fun hc => AOp.slots [(22, _)] (.cons (gvT rfl hc) .nil) (AOp.move' (.inl rfl) rfl ⟨rfl, rfl, rfl⟩)) ?_
    refine aOps_gd0 rfl rfl (wantGT rfl rfl rfl) (fun hc => AOp.slots [(2, _)] (.cons rfl .nil) (AOp.fieldAddr' rfl (by decide) rfl ⟨rfl, rfl, rfl⟩)) ?_
    refine aOps_gd0 rfl rfl (wantGT rfl rfl rfl) (fun hc => AOp.slots [(24, _)] (.cons (gvT rfl hc) .nil) ((by refine AOp.load1 (b := ?b15) (v := ?v15) rfl rfl ?hn15 ?hv15 ?hR15; (case hn15 => exact hpA); (case hv15 => rfl); exact ⟨rfl, rfl, rfl⟩))) ?_
    refine aOps_gd0 rfl rfl (wantGT rfl rfl rfl) (fun hc => AOp.slots [(25, _)] (.cons (gvT rfl hc) .nil) (AOp.bin' rfl rfl rfl rfl ⟨rfl, rfl, rfl⟩)) ?_
    refine aOps_gd0 rfl rfl (wantT rfl rfl rfl) (fun hc => AOp.pickAnd rfl rfl (gvE rfl hc) (fun hb => gvE rfl (and_mk hc hb)) ⟨rfl, rfl, rfl⟩) ?_
    refine aOps_gd0 rfl rfl (wantT rfl rfl rfl) (fun hc => AOp.slots [(27, _)] (.cons (gvT rfl hc) .nil) (AOp.move' (.inl rfl) rfl ⟨rfl, rfl, rfl⟩)) ?_
    refine aOps_gd0 rfl rfl (wantGF rfl rfl rfl) (fun hc => AOp.slots [(1, _)] (.cons rfl .nil) (AOp.move' (.inl rfl) rfl ⟨rfl, rfl, rfl⟩)) ?_
    refine aOps_gd0 rfl rfl (wantGF rfl rfl rfl) (fun hc => AOp.slots [(29, _)] (.cons (gvT rfl hc) .nil) (AOp.bin' rfl rfl rfl rfl ⟨rfl, rfl, rfl⟩)) ?_
    refine aOps_gd0 rfl rfl (wantGF rfl rfl rfl) (fun hc => AOp.slots [(30, _)] (.cons (gvT rfl hc) .nil) (AOp.move' (.inl rfl) rfl ⟨rfl, rfl, rfl⟩)) ?_
    refine aOps_gd0 rfl rfl (wantGT rfl rfl rfl) (fun hc => AOp.slots [(2, _)] (.cons rfl .nil) (AOp.fieldAddr' rfl (by decide) rfl ⟨rfl, rfl, rfl⟩)) ?_
    refine aOps_gd0 rfl rfl (wantGT rfl rfl rfl) (fun hc => AOp.slots [(32, _)] (.cons (gvT rfl hc) .nil) ((by refine AOp.load1 (b := ?b16) (v := ?v16) rfl rfl ?hn16 ?hv16 ?hR16; (case hn16 => exact hpA); (case hv16 => rfl); exact ⟨rfl, rfl, rfl⟩))) ?_
    refine aOps_gd0 rfl rfl (wantGT rfl rfl rfl) (fun hc => AOp.slots [(33, _)] (.cons (gvT rfl hc) .nil) (AOp.bin' rfl rfl rfl rfl ⟨rfl, rfl, rfl⟩)) ?_
    refine aOps_gd0 rfl rfl (wantGF rfl rfl rfl) (fun hc => AOp.pickAnd rfl rfl (gvE rfl hc) (fun hb => gvE rfl (and_mk hc hb)) ⟨rfl, rfl, rfl⟩) ?_
    refine aOps_gd0 rfl rfl (wantT rfl rfl rfl) (fun hc => AOp.pickOr rfl rfl (gvE rfl hc) (fun hb => gvE rfl (and_mk hc (t_not hb))) ⟨rfl, rfl, rfl⟩) ?_
    refine aOps_1 rfl rfl rfl (AOp.pickAnd rfl rfl rfl (fun hb => gvE rfl hb) ?_)
    refine aOps_1 rfl rfl rfl (AOp.move' (.inr rfl) rfl ?_)
    refine aOps_end ?_
    show ACode _ _ _ _ _ _
    refine ACode.ret ?_
    exact RetQ.one rfl rfl subA stays (fun hk => ⟨(by rw [right, if_neg c0]; rfl), rfl, by omega⟩)

theorem val_scals (a : Val) (h1 : (Lit.int .i64 a.kind).wf = true) (h2 : (Lit.int .i64 a.n).wf = true) (h3 : a.s.size ≤ maxLen) : (scals [.int .i64, .int .i64, .string] (vv a).cells.toList).isSome = true := by
  show (scals [.int .i64, .int .i64, .string] [.int .i64 a.kind, .int .i64 a.n, .string a.s]).isSome = true
  simp [scals, scal, h1, h2, h3]
def Val.ok (a : Val) : Prop := (Lit.int .i64 a.kind).wf = true ∧ (Lit.int .i64 a.n).wf = true ∧ a.s.size ≤ reachBytes
theorem Val.sc {a : Val} (h : a.ok) : (scals [.int .i64, .int .i64, .string] (vv a).cells.toList).isSome = true := val_scals a h.1 h.2.1 (Nat.le_trans h.2.2 (by decide))
end

end Go.Proofs.YteoofihjmldllaaDoor
