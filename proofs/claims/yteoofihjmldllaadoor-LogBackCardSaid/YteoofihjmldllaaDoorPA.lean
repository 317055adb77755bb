/- Predicates, in plain Lean: what operators have, the truth of a row, what is wrong with a predicate; predicates in memory. No condition. -/
import Derived.Test.YteoofihjmldllaaDoorV5
import Derived.Test.YteoofihjmldllaaDoorAbG
import Derived.Test.YteoofihjmldllaaDoorF2
set_option linter.unusedVariables false
set_option linter.unusedSimpArgs false
set_option maxRecDepth 100000
namespace Go.Proofs.YteoofihjmldllaaDoor
open Go Go.Ab

structure Sh where
  col : Bool
  v : Nat
  mv : Nat
  p : Nat
  mp : Nat
def shL : List Sh := [⟨false, 0, 0, 0, 0⟩, ⟨true, 1, 1, 0, 0⟩, ⟨true, 1, 1, 0, 0⟩, ⟨true, 1, 1, 0, 0⟩, ⟨true, 1, 1, 0, 0⟩, ⟨true, 1, 1, 0, 0⟩, ⟨true, 1, 1, 0, 0⟩, ⟨true, 0, 256, 0, 0⟩, ⟨true, 2, 2, 0, 0⟩, ⟨true, 0, 0, 0, 0⟩, ⟨false, 0, 0, 1, 256⟩, ⟨false, 0, 0, 1, 256⟩, ⟨false, 0, 0, 1, 1⟩]
def sh (m : Nat) : Sh := shL.getD m ⟨false, 0, 0, 0, 0⟩
inductive Pd where
  | mk (op col : Int) (vals : List Val) (of : List Pd)
theorem Pd.lt {op col : Int} {vals : List Val} {of : List Pd} {q : Pd} (h : q ∈ of) : SizeOf.sizeOf q < SizeOf.sizeOf (Pd.mk op col vals of) := by
  have := List.sizeOf_lt_of_mem h
  simp only [Pd.mk.sizeOf_spec]
  omega
def vD : Val := ⟨0, 0, ⟨#[]⟩⟩
def known (op : Int) : Bool := decide (op ≥ 0) && decide (op < 13)
theorem known_nat {op : Int} (h : known op = true) : ∃ m : Nat, op = m ∧ m < 13 := by
  unfold known at h
  rw [Bool.and_eq_true, decide_eq_true_eq, decide_eq_true_eq] at h
  exact ⟨op.toNat, by omega, by omega⟩
def fitsP (x : Sh) (v n : Nat) (col : Int) : Bool := (((decide ((v : Int) ≥ (x.v : Int)) && decide ((v : Int) ≤ (x.mv : Int))) && decide ((n : Int) ≥ (x.p : Int))) && decide ((n : Int) ≤ (x.mp : Int))) && (x.col || col == 0)
def formedP (op col : Int) (v n : Nat) : Bool := known op && fitsP (sh op.toNat) v n col
theorem formed_vals {m : Nat} {col : Int} {v n : Nat} (h : formedP (m : Int) col v n = true) (hm : m < 13) : (sh m).v ≤ v ∧ v ≤ (sh m).mv ∧ (sh m).p ≤ n ∧ n ≤ (sh m).mp := by
  unfold formedP fitsP at h
  simp only [Bool.and_eq_true, decide_eq_true_eq, Int.toNat_natCast] at h
  omega

/-! ### In memory -/
mutual
def PdV (H : Hp) : Pd → Value → Prop
  | .mk op col vals of, v => ∃ A c B d bs, v = .agg #[.int .i64 op, .int .i64 col, .slice A vals.length c, .slice B of.length d] ∧ slcCells H 3 (.slice A vals.length c) = some (vals3 vals) ∧ vals.length ≤ 9223372036854775807 ∧ of.length ≤ 9223372036854775807 ∧ (-9223372036854775808 ≤ op ∧ op ≤ 9223372036854775807) ∧ (-9223372036854775808 ≤ col ∧ col ≤ 9223372036854775807) ∧ (∀ v ∈ vals, v.ok) ∧ SLC H 4 B of.length d bs ∧ PdVs H of bs
def PdVs (H : Hp) : List Pd → List Value → Prop
  | [], bs => bs = []
  | p :: ps, bs => ∃ v r, bs = v.cells.toList ++ r ∧ PdV H p v ∧ PdVs H ps r
end
theorem PdV.agg {H : Hp} {p : Pd} {v : Value} (h : PdV H p v) : v = .agg v.cells ∧ v.cells.toList.length = 4 := by
  cases p with
  | mk op col vals of =>
    rw [PdV] at h
    obtain ⟨A, c, B, d, bs, rfl, _⟩ := h
    exact ⟨rfl, rfl⟩
mutual
theorem PdV.sub {H H' : Hp} (hs : Ab.Sub H H') : ∀ {p : Pd} {v : Value}, PdV H p v → PdV H' p v
  | .mk op col vals of, v, h => by
    rw [PdV] at h ⊢
    obtain ⟨A, c, B, d, bs, h1, h2, h3, h4, h5, h6, h7, h8, h9⟩ := h
    exact ⟨A, c, B, d, bs, h1, slcCells_sub hs h2, h3, h4, h5, h6, h7, h8.sub hs, PdVs.sub hs h9⟩
theorem PdVs.sub {H H' : Hp} (hs : Ab.Sub H H') : ∀ {ps : List Pd} {bs : List Value}, PdVs H ps bs → PdVs H' ps bs
  | [], bs, h => by rw [PdVs] at h ⊢; exact h
  | p :: ps, bs, h => by
    rw [PdVs] at h ⊢
    obtain ⟨v, r, h1, h2, h3⟩ := h
    exact ⟨v, r, h1, PdV.sub hs h2, PdVs.sub hs h3⟩
end
theorem PdVs.len {H : Hp} : ∀ {ps : List Pd} {bs : List Value}, PdVs H ps bs → bs.length = ps.length * 4
  | [], bs, h => by rw [PdVs] at h; subst h; rfl
  | p :: ps, bs, h => by
    rw [PdVs] at h
    obtain ⟨v, r, rfl, h2, h3⟩ := h
    rw [List.length_append, h2.agg.2, PdVs.len h3, List.length_cons]
    omega
theorem PdVs.at_ {H : Hp} (d : Pd) : ∀ {ps : List Pd} {bs : List Value} (i : Nat), PdVs H ps bs → i < ps.length → ∃ v, (bs.drop (i * 4)).take 4 = v.cells.toList ∧ PdV H (ps.getD i d) v
  | p :: ps, bs, 0, h, _ => by
    rw [PdVs] at h
    obtain ⟨v, r, rfl, h2, h3⟩ := h
    exact ⟨v, by rw [Nat.zero_mul, List.drop_zero, List.take_left' h2.agg.2], h2⟩
  | p :: ps, bs, i + 1, h, hi => by
    rw [PdVs] at h
    obtain ⟨v, r, rfl, h2, h3⟩ := h
    obtain ⟨u, h4, h5⟩ := PdVs.at_ d i h3 (by simpa using hi)
    refine ⟨u, ?_, h5⟩
    rw [Nat.succ_mul, Nat.add_comm, ← List.drop_drop, List.drop_left' h2.agg.2, h4]
theorem PdVs.snoc {H : Hp} {p : Pd} {v : Value} (hv : PdV H p v) : ∀ {ps : List Pd} {bs : List Value}, PdVs H ps bs → PdVs H (ps ++ [p]) (bs ++ v.cells.toList)
  | [], bs, h => by
    rw [PdVs] at h
    subst h
    rw [List.nil_append, PdVs]
    exact ⟨v, [], by rw [List.append_nil]; rfl, hv, by rw [PdVs]⟩
  | q :: ps, bs, h => by
    rw [PdVs] at h
    obtain ⟨u, r, rfl, h2, h3⟩ := h
    rw [List.cons_append, PdVs]
    exact ⟨u, r ++ v.cells.toList, by rw [List.append_assoc], h2, PdVs.snoc hv h3⟩
/-- A part of a predicate: where it lies. -/
theorem PdVs.el {H : Hp} {ps : List Pd} {bs : List Value} {B : Option Addr} {c i : Nat} (d : Pd) (hS : SLC H 4 B ps.length c bs) (h : PdVs H ps bs) (hi : i < ps.length) :
    ∃ n off sp v, aslcAt H 4 i (.slice B ps.length c) = some (ptr n off sp) ∧ PAt H n off sp v.cells.toList ∧ PdV H (ps.getD i d) v := by
  obtain ⟨v, h1, h2⟩ := h.at_ d i hi
  obtain ⟨n, off, sp, h3, h4⟩ := slcPt (i := i) hS.cells (by rw [h.len]; exact Nat.mul_le_mul_right _ hi) (by decide)
  rw [h1] at h4
  exact ⟨n, off, sp, v, h3, h4, h2⟩
def pD : Pd := .mk 0 0 [] []
end Go.Proofs.YteoofihjmldllaaDoor

/- Contracts over the abstract states: predicates: what operators have, comparisons, the truth of a row. -/
set_option linter.unusedVariables false
set_option linter.unusedSimpArgs false
set_option maxRecDepth 100000
namespace Go.Proofs.YteoofihjmldllaaDoor
open Go Go.Ab

section
variable (H : Hp) (k : Nat)
abbrev pv (op col : Int) (A : Option Addr) (l c : Nat) (B : Option Addr) (m d : Nat) : Value := .agg #[.int .i64 op, .int .i64 col, .slice A l c, .slice B m d]
theorem getD_i {l : List Val} {i : Nat} (hi : i < l.length) : l[i] = l.getD i vD := by rw [List.getD_eq_getElem?_getD, List.getElem?_eq_getElem hi]; rfl
/-- A value of a slice of values. -/
theorem slcV {H : Hp} {i : Nat} {v : Value} {l : List Val} (h : slcCells H 3 v = some (vals3 l)) (hi : i < l.length) : ∃ n off sp, aslcAt H 3 i v = some (ptr n off sp) ∧ PAt H n off sp (vv (l.getD i vD)).cells.toList := by
  obtain ⟨n, off, sp, h1, h2⟩ := slcEl h (fun _ => rfl) (by decide) hi
  rw [getD_i hi] at h2
  exact ⟨n, off, sp, h1, h2⟩

theorem known_b (op : Int) : ACalls Tryd.prog 3 88 [.int .i64 op] H k (Same H k (.bool (known op))) := by
  refine ACalls.fresh fun hf => ?_
  refine ACalls.body Tryd.func88 rfl (Nat.le_of_ble_eq_true rfl) ?_
  refine ACode.seq ?_
  refine ACode.region' [0] (by kernel_rfl) rfl ?_
  refine aOps_1 rfl rfl rfl (AOp.move' (.inr rfl) rfl ?_)
  refine aOps_end ?_
  show ACode _ _ _ _ _ _
  refine ACode.seq ?_
  refine ACode.region' [0, 1, 2, 3, 4, 5, 6] (by kernel_rfl) rfl ?_
  refine aOps_1 rfl rfl rfl (AOp.move' (.inl rfl) rfl ?_)
  refine aOps_1 rfl rfl rfl (AOp.bin' rfl rfl rfl rfl ?_)
  refine aOps_1 rfl rfl rfl (AOp.move' (.inl rfl) rfl ?_)
  refine aOps_gd0 rfl rfl (wantT rfl rfl rfl) (fun hc => AOp.slots [(0, _)] (.cons rfl .nil) (AOp.move' (.inl rfl) rfl ⟨rfl, rfl, rfl⟩)) ?_
  refine aOps_gd0 rfl rfl (wantT rfl rfl rfl) (fun hc => AOp.slots [(6, _)] (.cons (gvT rfl hc) .nil) (AOp.bin' rfl rfl rfl rfl ⟨rfl, rfl, rfl⟩)) ?_
  refine aOps_1 rfl rfl rfl (AOp.pickAnd rfl rfl rfl (fun hb => gvE rfl hb) ?_)
  refine aOps_1 rfl rfl rfl (AOp.move' (.inr rfl) rfl ?_)
  refine aOps_end ?_
  show ACode _ _ _ _ _ _
  refine ACode.ret ?_
  exact RetQ.one rfl rfl subA stays (fun hk => ⟨rfl, rfl, by omega⟩)

end

end Go.Proofs.YteoofihjmldllaaDoor

/- What the arguments of the statements on values, predicates and zones are. No condition. -/
set_option linter.unusedVariables false
set_option maxRecDepth 100000
namespace Go.Proofs.YteoofihjmldllaaDoor
open Go Go.Ab
theorem val_inv {H : Hp} {cs : List Value} (h : AD Tryd.prog H (.one 59) cs) : ∃ a : Val, a.ok ∧ cs = (vv a).cells.toList := by
  obtain ⟨a, b, rfl, ha, _, hb⟩ := h.struct_inv.cons_inv
  obtain ⟨c, d, rfl, hc, _, hd⟩ := hb.cons_inv
  obtain ⟨e, f, rfl, he, _, hf⟩ := hd.cons_inv
  rw [hf.nil_inv]
  obtain ⟨kind, rfl, k1, k2⟩ := ha.int_inv
  obtain ⟨n, rfl, n1, n2⟩ := hc.int_inv
  obtain ⟨s, rfl, hs⟩ := he.str_invR
  exact ⟨⟨kind, n, s⟩, ⟨litwf k1 k2, litwf n1 n2, hs⟩, rfl⟩
theorem vals_inv {H : Hp} : ∀ {l : Nat} {cs : List Value}, AD Tryd.prog H (.many (List.replicate l 59)) cs → ∃ vals : List Val, vals.length = l ∧ cs = vals3 vals ∧ ∀ v ∈ vals, v.ok
  | 0, cs, h => ⟨[], rfl, h.nil_inv, fun v hv => by cases hv⟩
  | l + 1, cs, h => by
    rw [List.replicate_succ] at h
    obtain ⟨a, b, rfl, ha, hl, hb⟩ := h.cons_inv
    obtain ⟨c, hc, rfl⟩ := val_inv ha
    obtain ⟨vals, h1, rfl, h3⟩ := vals_inv hb
    exact ⟨c :: vals, by simp [h1], rfl, fun v hv => by
      rcases List.mem_cons.1 hv with rfl | hv
      · exact hc
      · exact h3 v hv⟩
theorem row_inv {H : Hp} {cs : List Value} (h : AD Tryd.prog H (.one 29) cs) : ∃ (vals : List Val) (A : Option Addr) (c : Nat), cs = [.slice A vals.length c] ∧ SLC H 3 A vals.length c (vals3 vals) ∧ vals.length ≤ 9223372036854775807 ∧ ∀ v ∈ vals, v.ok := by
  obtain ⟨A, l, c, cells, rfl, h1, h2, h3, h4⟩ := h.SLC_inv
  obtain ⟨vals, rfl, rfl, h5⟩ := vals_inv h4
  exact ⟨vals, A, c, rfl, h1, h3, h5⟩
theorem plain_slc {e : TypeId} : (∀ fs, TypeDesc.slice e ≠ .struct fs) ∧ ∀ n e', TypeDesc.slice e ≠ .array n e' := ⟨fun _ h => (TypeDesc.noConfusion h), fun _ _ h => (TypeDesc.noConfusion h)⟩
theorem plain_int {k : IntKind} : (∀ fs, TypeDesc.int k ≠ .struct fs) ∧ ∀ n e', TypeDesc.int k ≠ .array n e' := ⟨fun _ h => (TypeDesc.noConfusion h), fun _ _ h => (TypeDesc.noConfusion h)⟩
theorem int_arg {H : Hp} {u : Value} (h : AV Tryd.prog H 3 u) : ∃ n : Int, u = .int .i64 n ∧ -9223372036854775808 ≤ n ∧ n ≤ 9223372036854775807 := by
  obtain ⟨n, e, h1, h2⟩ := (h.plain plain_int).int_inv
  injection e with e
  exact ⟨n, e, h1, h2⟩
end Go.Proofs.YteoofihjmldllaaDoor
