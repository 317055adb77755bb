/- Contracts over the abstract states: the truth of a row; what is wrong with a predicate. -/
import Derived.Test.YteoofihjmldllaaDoorPA
set_option linter.unusedVariables false
set_option linter.unusedSimpArgs false
set_option maxRecDepth 100000
namespace Go.Proofs.YteoofihjmldllaaDoor
open Go Go.Ab

theorem pd_getD {ps : List Pd} {i : Nat} (h : i < ps.length) : ps.getD i pD ∈ ps := by
  rw [List.getD_eq_getElem?_getD, List.getElem?_eq_getElem h]
  exact List.getElem_mem _
theorem PdV.form {H : Hp} {p : Pd} {v : Value} (h : PdV H p v) : ∃ op col A l c B m d, v = pv op col A l c B m d := by
  cases p with
  | mk op col vals of =>
    rw [PdV] at h
    obtain ⟨A, c, B, d, bs, rfl, _⟩ := h
    exact ⟨_, _, _, _, _, _, _, _, rfl⟩
section
variable (H : Hp) (k : Nat)

end

end Go.Proofs.YteoofihjmldllaaDoor

/- Contracts over the abstract states: what is wrong with a predicate. -/
set_option linter.unusedVariables false
set_option linter.unusedSimpArgs false
set_option maxRecDepth 100000
namespace Go.Proofs.YteoofihjmldllaaDoor
open Go Go.Ab

def firstI {α : Type} (f : α → Int) : List α → Int
  | [] => 0
  | v :: vs => if f v = 0 then firstI f vs else f v
theorem firstI_step {α : Type} {f : α → Int} : ∀ {l : List α} {i : Nat} (d : α), i < l.length → f (l.getD i d) = 0 → firstI f (l.drop i) = firstI f (l.drop (i + 1))
  | v :: vs, 0, d, _, h => by
    show firstI f (v :: vs) = firstI f vs
    rw [firstI, if_pos (show f v = 0 from h)]
  | v :: vs, i + 1, d, hi, h => firstI_step (l := vs) (i := i) d (by simpa using hi) h
theorem firstI_hit {α : Type} {f : α → Int} : ∀ {l : List α} {i : Nat} (d : α), i < l.length → f (l.getD i d) ≠ 0 → firstI f (l.drop i) = f (l.getD i d)
  | v :: vs, 0, d, _, h => by
    show firstI f (v :: vs) = f v
    rw [firstI, if_neg (show ¬ f v = 0 from h)]
  | v :: vs, i + 1, d, hi, h => firstI_hit (l := vs) (i := i) d (by simpa using hi) h
def cD : Col := ⟨0, false, 0⟩
theorem slcC {H : Hp} {i : Nat} {v : Value} {l : List Col} (h : slcCells H 3 v = some (cols3 l)) (hi : i < l.length) : ∃ n off sp, aslcAt H 3 i v = some (ptr n off sp) ∧ PAt H n off sp (cc (l.getD i cD)).cells.toList := by
  obtain ⟨n, off, sp, h1, h2⟩ := slcEl h (fun _ => rfl) (by decide) hi
  rw [show l[i] = l.getD i cD by rw [List.getD_eq_getElem?_getD, List.getElem?_eq_getElem hi]; rfl] at h2
  exact ⟨n, off, sp, h1, h2⟩
section
variable (H : Hp) (k : Nat)

end

end Go.Proofs.YteoofihjmldllaaDoor

/- Contracts over the abstract states: the example of predicates; the statement that one of several is the one or the other. -/
set_option linter.unusedVariables false
set_option linter.unusedSimpArgs false
set_option maxRecDepth 100000
namespace Go.Proofs.YteoofihjmldllaaDoor
open Go Go.Ab

theorem pick_mod (x n : Int) (h : 0 < n) : (x.tmod n < 0 → x.tmod n + n = x % n) ∧ (0 ≤ x.tmod n → x.tmod n = x % n) ∧ -n < x.tmod n ∧ x.tmod n < n := by
  have e := @Int.tmod_eq_emod x n
  have r1 := Int.emod_nonneg x (show n ≠ 0 by omega)
  have r2 := Int.emod_lt_of_pos x h
  split at e
  · omega
  · rename_i hc
    have r3 : x % n ≠ 0 := fun h0 => hc (.inr (Int.dvd_of_emod_eq_zero h0))
    omega
theorem PdV.intro {H : Hp} {op col : Int} {vals : List Val} {of : List Pd} {A : Option Addr} {c : Nat} {B : Option Addr} {d : Nat} {bs : List Value} (hA : slcCells H 3 (.slice A vals.length c) = some (vals3 vals)) (h1 : vals.length ≤ 9223372036854775807) (h2 : of.length ≤ 9223372036854775807) (h3 : -9223372036854775808 ≤ op ∧ op ≤ 9223372036854775807) (h4 : -9223372036854775808 ≤ col ∧ col ≤ 9223372036854775807) (h5 : ∀ v ∈ vals, v.ok) (hB : SLC H 4 B of.length d bs) (hP : PdVs H of bs) :
    PdV H (.mk op col vals of) (pv op col A vals.length c B of.length d) := by
  rw [PdV]
  exact ⟨A, c, B, d, bs, rfl, hA, h1, h2, h3, h4, h5, hB, hP⟩
theorem PdVs.nil {H : Hp} : PdVs H [] [] := by rw [PdVs]
abbrev v5 : Val := ⟨1, 5, ⟨#[]⟩⟩
abbrev pA : Pd := .mk 3 0 [v5] []
/-! ### One of several -/
section
variable (H : Hp) (k : Nat)

theorem pick_b (x n : Int) (h1 : 1 ≤ n) (h2 : n ≤ 9223372036854775807) (hx1 : -9223372036854775808 ≤ x) (hx2 : x ≤ 9223372036854775807) : ACalls Tryd.prog 3 26 [.int .i64 x, .int .i64 n] H k (Same H k (.int .i64 (x % n))) := by
  refine ACalls.fresh fun hf => ?_
  refine ACalls.body Tryd.func26 rfl (Nat.le_of_ble_eq_true rfl) ?_
  refine ACode.seq ?_
  refine ACode.region' [0] (by kernel_rfl) rfl ?_
  refine aOps_1 rfl rfl rfl (AOp.move' (.inr rfl) rfl ?_)
  refine aOps_end ?_
  show ACode _ _ _ _ _ _
  refine ACode.seq ?_
  refine ACode.seq ?_
  refine ACode.region' [0, 1] (by kernel_rfl) rfl ?_
  refine aOps_1 rfl rfl rfl (AOp.move' (.inl rfl) rfl ?_)
  refine aOps_1 rfl rfl rfl (AOp.bin' rfl rfl rfl rfl ?_)
  refine aOps_end ?_
  show ACode _ _ _ _ _ _
  refine ACode.cond rfl (fun c0 => absurd c0 (by simp; omega)) (fun c0 => ?_)
  refine ACode.skip ?_
  show ACode _ _ _ _ _ _
  refine ACode.seq ?_
  refine ACode.region' [0, 1, 2, 3] (by kernel_rfl) rfl ?_
  refine aOps_1 rfl rfl rfl (AOp.move' (.inl rfl) rfl ?_)
  refine aOps_1 rfl rfl rfl (AOp.move' (.inl rfl) rfl ?_)
  refine aOps_1 rfl rfl rfl (AOp.bin' rfl rfl rfl (if_neg (by first | decide | omega)) ?_)
  refine aOps_1 rfl rfl rfl (AOp.move' (.inr rfl) rfl ?_)
  refine aOps_end ?_
  show ACode _ _ _ _ _ _
  refine ACode.seq ?_
  refine ACode.seq ?_
  obtain ⟨ht1, ht2, ht3, ht4⟩ := pick_mod x n (by omega)
  refine ACode.region' [0, 1] (by kernel_rfl) rfl ?_
  refine aOps_1 rfl rfl rfl (AOp.move' (.inl rfl) rfl ?_)
  refine aOps_1 rfl rfl rfl (AOp.bin' rfl rfl rfl rfl ?_)
  refine aOps_end ?_
  show ACode _ _ _ _ _ _
  refine ACode.cond rfl (fun c1 => ?_) (fun c1 => ?_)
  · try simp only [decide_eq_true_eq, decide_eq_false_iff_not, beq_iff_eq, beq_eq_false_iff_ne, ne_eq, bne_iff_ne, Bool.not_eq_true', Bool.not_eq_false', Int.not_lt, Int.not_le, gt_iff_lt, ge_iff_le, bne_eq_false_iff_eq, Bool.not_eq_eq_eq_not, Bool.not_true, Bool.not_false] at c1
    refine ACode.region' [0, 1, 2, 3] (by kernel_rfl) rfl ?_
    refine aOps_1 rfl rfl rfl (AOp.move' (.inl rfl) rfl ?_)
    refine aOps_1 rfl rfl rfl (AOp.move' (.inl rfl) rfl ?_)
    refine aOps_1 rfl rfl rfl (AOp.add rfl rfl rfl (i64_wrap (by omega) (by omega)) ?_)
    refine aOps_1 rfl rfl rfl (AOp.move' (.inr rfl) rfl ?_)
    refine aOps_end ?_
    show ACode _ _ _ _ _ _
    refine ACode.seq ?_
    refine ACode.region' [0, 1] (by kernel_rfl) rfl ?_
    refine aOps_1 rfl rfl rfl (AOp.move' (.inl rfl) rfl ?_)
    refine aOps_1 rfl rfl rfl (AOp.move' (.inr rfl) rfl ?_)
    refine aOps_end ?_
    show ACode _ _ _ _ _ _
    refine ACode.ret ?_
    exact RetQ.one rfl rfl subA stays (fun hk => ⟨(by rw [ht1 c1]), rfl, by omega⟩)
  · try simp only [decide_eq_true_eq, decide_eq_false_iff_not, beq_iff_eq, beq_eq_false_iff_ne, ne_eq, bne_iff_ne, Bool.not_eq_true', Bool.not_eq_false', Int.not_lt, Int.not_le, gt_iff_lt, ge_iff_le, bne_eq_false_iff_eq, Bool.not_eq_eq_eq_not, Bool.not_true, Bool.not_false] at c1
    refine ACode.skip ?_
    show ACode _ _ _ _ _ _
    refine ACode.seq ?_
    refine ACode.region' [0, 1] (by kernel_rfl) rfl ?_
    refine aOps_1 rfl rfl rfl (AOp.move' (.inl rfl) rfl ?_)
    refine aOps_1 rfl rfl rfl (AOp.move' (.inr rfl) rfl ?_)
    refine aOps_end ?_
    show ACode _ _ _ _ _ _
    refine ACode.ret ?_
    exact RetQ.one rfl rfl subA stays (fun hk => ⟨(by rw [ht2 c1]), rfl, by omega⟩)

end

end Go.Proofs.YteoofihjmldllaaDoor

/- Contracts over the abstract states: the statement that one of several is the one or the other. -/
set_option linter.unusedVariables false
set_option linter.unusedSimpArgs false
set_option maxRecDepth 100000
namespace Go.Proofs.YteoofihjmldllaaDoor
open Go Go.Ab

section
variable (H : Hp) (k : Nat)


end

end Go.Proofs.YteoofihjmldllaaDoor
