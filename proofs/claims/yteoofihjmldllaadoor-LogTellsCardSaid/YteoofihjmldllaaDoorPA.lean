/- Contracts over the abstract states: predicates: what operators have, comparisons, the truth of a row. -/
import Derived.Test.YteoofihjmldllaaDoorP2
import Derived.Test.YteoofihjmldllaaDoorF2
set_option linter.unusedVariables false
set_option linter.unusedSimpArgs false
set_option maxRecDepth 100000
namespace Go.Proofs.YteoofihjmldllaaDoor
open Go Go.Ab

section
variable (H : Hp) (k : Nat)
abbrev pv (op col : Int) (A : Option Addr) (l c : Nat) (B : Option Addr) (m d : Nat) : Value := .agg #[.int .i64 op, .int .i64 col, .slice A l c, .slice B m d]
theorem getD_i {l : List Val} {i : Nat} (hi : i < l.length) : l[i] = l.getD i vD := by rw [List.getD_eq_getElem?_getD, List.getElem?_eq_getElem hi]; rfl
/-- A value of a slice of values. -/
theorem slcV {H : Hp} {i : Nat} {v : Value} {l : List Val} (h : slcCells H 3 v = some (vals3 l)) (hi : i < l.length) : ∃ n off sp, aslcAt H 3 i v = some (ptr n off sp) ∧ PAt H n off sp (vv (l.getD i vD)).cells.toList := by
  obtain ⟨n, off, sp, h1, h2⟩ := slcEl h (fun _ => rfl) (by decide) hi
  rw [getD_i hi] at h2
  exact ⟨n, off, sp, h1, h2⟩

theorem known_b (op : Int) : ACalls Tryd.prog 3 88 [.int .i64 op] H k (Same H k (.bool (known op))) := by
  refine ACalls.fresh fun hf => ?_
  refine ACalls.body Tryd.func88 rfl (Nat.le_of_ble_eq_true rfl) ?_
  refine ACode.seq ?_
  refine ACode.region' [0] (by kernel_rfl) rfl ?_
  refine aOps_1 rfl rfl rfl (AOp.move' (.inr rfl) rfl ?_)
  refine aOps_end ?_
  show ACode _ _ _ _ _ _
  refine ACode.seq ?_
  refine ACode.region' [0, 1, 2, 3, 4, 5, 6] (by kernel_rfl) rfl ?_
  refine aOps_1 rfl rfl rfl (AOp.move' (.inl rfl) rfl ?_)
  refine aOps_1 rfl rfl rfl (AOp.bin' rfl rfl rfl rfl ?_)
  refine aOps_1 rfl rfl rfl (AOp.move' (.inl rfl) rfl ?_)
  refine aOps_gd0 rfl rfl (wantT rfl rfl rfl) (fun hc => AOp.slots [(0, _)] (.cons rfl .nil) (AOp.move' (.inl rfl) rfl ⟨rfl, rfl, rfl⟩)) ?_
  refine aOps_gd0 rfl rfl (wantT rfl rfl rfl) (fun hc => AOp.slots [(6, _)] (.cons (gvT rfl hc) .nil) (AOp.bin' rfl rfl rfl rfl ⟨rfl, rfl, rfl⟩)) ?_
  refine aOps_1 rfl rfl rfl (AOp.pickAnd rfl rfl rfl (fun hb => gvE rfl hb) ?_)
  refine aOps_1 rfl rfl rfl (AOp.move' (.inr rfl) rfl ?_)
  refine aOps_end ?_
  show ACode _ _ _ _ _ _
  refine ACode.ret ?_
  exact RetQ.one rfl rfl subA stays (fun hk => ⟨rfl, rfl, by omega⟩)

end

end Go.Proofs.YteoofihjmldllaaDoor

/- What the arguments of the statements on values, predicates and zones are. No condition. -/
set_option linter.unusedVariables false
set_option maxRecDepth 100000
namespace Go.Proofs.YteoofihjmldllaaDoor
open Go Go.Ab
theorem val_inv {H : Hp} {cs : List Value} (h : AD Tryd.prog H (.one 59) cs) : ∃ a : Val, a.ok ∧ cs = (vv a).cells.toList := by
  obtain ⟨a, b, rfl, ha, _, hb⟩ := h.struct_inv.cons_inv
  obtain ⟨c, d, rfl, hc, _, hd⟩ := hb.cons_inv
  obtain ⟨e, f, rfl, he, _, hf⟩ := hd.cons_inv
  rw [hf.nil_inv]
  obtain ⟨kind, rfl, k1, k2⟩ := ha.int_inv
  obtain ⟨n, rfl, n1, n2⟩ := hc.int_inv
  obtain ⟨s, rfl, hs⟩ := he.str_invR
  exact ⟨⟨kind, n, s⟩, ⟨litwf k1 k2, litwf n1 n2, hs⟩, rfl⟩
theorem vals_inv {H : Hp} : ∀ {l : Nat} {cs : List Value}, AD Tryd.prog H (.many (List.replicate l 59)) cs → ∃ vals : List Val, vals.length = l ∧ cs = vals3 vals ∧ ∀ v ∈ vals, v.ok
  | 0, cs, h => ⟨[], rfl, h.nil_inv, fun v hv => by cases hv⟩
  | l + 1, cs, h => by
    rw [List.replicate_succ] at h
    obtain ⟨a, b, rfl, ha, hl, hb⟩ := h.cons_inv
    obtain ⟨c, hc, rfl⟩ := val_inv ha
    obtain ⟨vals, h1, rfl, h3⟩ := vals_inv hb
    exact ⟨c :: vals, by simp [h1], rfl, fun v hv => by
      rcases List.mem_cons.1 hv with rfl | hv
      · exact hc
      · exact h3 v hv⟩
theorem row_inv {H : Hp} {cs : List Value} (h : AD Tryd.prog H (.one 29) cs) : ∃ (vals : List Val) (A : Option Addr) (c : Nat), cs = [.slice A vals.length c] ∧ SLC H 3 A vals.length c (vals3 vals) ∧ vals.length ≤ 9223372036854775807 ∧ ∀ v ∈ vals, v.ok := by
  obtain ⟨A, l, c, cells, rfl, h1, h2, h3, h4⟩ := h.SLC_inv
  obtain ⟨vals, rfl, rfl, h5⟩ := vals_inv h4
  exact ⟨vals, A, c, rfl, h1, h3, h5⟩
theorem plain_slc {e : TypeId} : (∀ fs, TypeDesc.slice e ≠ .struct fs) ∧ ∀ n e', TypeDesc.slice e ≠ .array n e' := ⟨fun _ h => (TypeDesc.noConfusion h), fun _ _ h => (TypeDesc.noConfusion h)⟩
end Go.Proofs.YteoofihjmldllaaDoor
