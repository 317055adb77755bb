/- Abstract states over the model, part 21: what abstract arguments are, type by type. No condition; over any program. -/
import Derived.Test.YtlbcgadmcjobiaaDoorAb20
set_option linter.unusedVariables false
set_option linter.unusedSimpArgs false
namespace Go.Ab
open Go.RowKit

/-- A struct's fields' types. -/
class FieldTys (P : Program) (t : TypeId) (ts : outParam (List TypeId)) : Prop where
  h : (match P.underlying t with | some (.struct fs) => some (fs.toList.map (·.type)) | _ => none) = some ts
/-- An array's length and its elements' type. -/
class ArrTy (P : Program) (t : TypeId) (n : outParam Nat) (e : outParam TypeId) : Prop where
  h : P.underlying t = some (.array n e)

section
variable {P : Program} {H : Hp} {t : TypeId} {cs : List Value} {u : Value}

theorem AD.int_inv {k : IntKind} [ht : DescInfo P t (.int k)] (h : AD P H (.one t) cs) : ∃ n, cs = [.int k n] ∧ k.min ≤ n ∧ n ≤ k.max := by
  have hu := ht.h
  cases h with
  | @int _ k' n ht' hw =>
    rw [hu] at ht'
    injection ht' with e
    injection e with e
    subst e
    simp only [Lit.wf, Bool.and_eq_true, decide_eq_true_eq] at hw
    exact ⟨n, rfl, hw⟩
  | _ => simp_all
theorem AD.bool_inv [ht : DescInfo P t .bool] (h : AD P H (.one t) cs) : ∃ b, cs = [.bool b] := by
  have hu := ht.h
  cases h with
  | @bool _ b ht' => exact ⟨b, rfl⟩
  | _ => simp_all
theorem AD.str_inv [ht : DescInfo P t .string] (h : AD P H (.one t) cs) : ∃ s, cs = [.string s] ∧ s.size ≤ maxLen := by
  have hu := ht.h
  cases h with
  | @str _ s ht' hw => exact ⟨s, rfl, hw⟩
  | _ => simp_all
theorem AD.struct_inv {ts : List TypeId} [ht : FieldTys P t ts] (h : AD P H (.one t) cs) : AD P H (.many ts) cs := by
  have hu := ht.h
  cases h with
  | struct ht' hl h' =>
    rw [ht'] at hu
    injection hu with hu
    rw [← hu]
    exact h'
  | _ => simp_all
theorem AD.array_inv {n : Nat} {e : TypeId} [ht : ArrTy P t n e] (h : AD P H (.one t) cs) : AD P H (.many (List.replicate n e)) cs := by
  have hu := ht.h
  cases h with
  | array ht' hl h' =>
    rw [ht'] at hu
    injection hu with hu
    injection hu with e1 e2
    subst e1; subst e2
    exact h'
  | _ => simp_all
theorem AD.nil_inv (h : AD P H (.many []) cs) : cs = [] := by
  cases h
  rfl
theorem AD.cons_inv {ts : List TypeId} (h : AD P H (.many (t :: ts)) cs) : ∃ a b, cs = a ++ b ∧ AD P H (.one t) a ∧ a.length = P.cellsOf t ∧ AD P H (.many ts) b := by
  cases h with
  | cons ha hl hb => exact ⟨_, _, rfl, ha, hl, hb⟩

theorem litwf {k : IntKind} {n : Int} (h1 : k.min ≤ n) (h2 : n ≤ k.max) : (Lit.int k n).wf = true := by
  simp only [Lit.wf, Bool.and_eq_true, decide_eq_true_eq]
  exact ⟨h1, h2⟩
theorem cellsOf_size {e : TypeId} {z : Nat} (h : sizeB P e = some z) : P.cellsOf e = z := by
  unfold sizeB at h
  unfold Program.cellsOf
  cases hi : P.info? e with
  | none => simp [hi] at h
  | some i =>
    simp [hi] at h
    simp [h]

/-- A slice: what it shows. -/
theorem AD.slc_inv {e : TypeId} {z : Nat} [ht : SlInfo P t e z] (h : AD P H (.one t) cs) : ∃ v l cells, cs = [v] ∧ (∃ A c, v = .slice A l c) ∧ slcCells H z v = some cells ∧ cells.length = l * z ∧ l ≤ maxLen ∧ AD P H (.many (List.replicate l e)) cells := by
  obtain ⟨hu, hs⟩ := slB_inv ht.h
  have hz := cellsOf_size hs
  cases h with
  | nilSlc ht' => exact ⟨_, 0, [], rfl, ⟨_, _, rfl⟩, rfl, by simp, by simp, .nil⟩
  | slc0 ht' hm => exact ⟨_, 0, [], rfl, ⟨_, _, rfl⟩, rfl, by simp, by simp, .nil⟩
  | @slc _ e' n l c cells ht' hn hl h0 hc hm h' =>
    rw [hu] at ht'
    injection ht' with ht'
    injection ht' with ht'
    subst ht'
    rw [hz] at hl
    refine ⟨_, l, cells, rfl, ⟨_, _, rfl⟩, ?_, hl, Nat.le_trans hc hm, h'⟩
    simp only [slcCells, hn]
    rw [if_neg (by omega), if_pos (by omega), List.drop_zero, ← hl, List.take_length]
  | _ => simp_all

/-- Several of one type. -/
theorem AD.rep_inv {e : TypeId} : ∀ {l : Nat} {cs : List Value}, AD P H (.many (List.replicate l e)) cs → ∃ css : List (List Value), css.length = l ∧ cs = css.flatten ∧ ∀ c ∈ css, AD P H (.one e) c ∧ c.length = P.cellsOf e
  | 0, cs, h => ⟨[], rfl, by rw [h.nil_inv]; rfl, fun c hc => by cases hc⟩
  | l + 1, cs, h => by
    rw [List.replicate_succ] at h
    obtain ⟨a, b, rfl, ha, hl, hb⟩ := h.cons_inv
    obtain ⟨css, h1, rfl, h3⟩ := AD.rep_inv hb
    exact ⟨a :: css, by simp [h1], rfl, fun c hc => by
      rcases List.mem_cons.1 hc with rfl | hc
      · exact ⟨ha, hl⟩
      · exact h3 c hc⟩

theorem AD.byte_inv [ht : DescInfo P t (.int .u8)] (h : AD P H (.one t) cs) : ∃ c : UInt8, cs = [bv c] := by
  obtain ⟨n, rfl, h1, h2⟩ := h.int_inv
  have h1' : 0 ≤ n := h1
  have h2' : n ≤ 255 := h2
  refine ⟨UInt8.ofNat n.toNat, ?_⟩
  have : ((UInt8.ofNat n.toNat).toNat : Int) = n := by
    rw [UInt8.toNat_ofNat']
    omega
  simp only [bv]
  rw [this]
/-- Bytes. -/
theorem AD.bytes_inv [ht : DescInfo P t (.int .u8)] : ∀ {l : Nat} {cs : List Value}, AD P H (.many (List.replicate l t)) cs → ∃ bs : List UInt8, bs.length = l ∧ cs = bs.map bv
  | 0, cs, h => ⟨[], rfl, by rw [h.nil_inv]; rfl⟩
  | l + 1, cs, h => by
    rw [List.replicate_succ] at h
    obtain ⟨a, b, rfl, ha, hl, hb⟩ := h.cons_inv
    obtain ⟨c, rfl⟩ := ha.byte_inv
    obtain ⟨bs, h1, rfl⟩ := AD.bytes_inv hb
    exact ⟨c :: bs, by simp [h1], rfl⟩

/-! ### Arguments -/
theorem AVs.cons_inv {ts : List TypeId} {us : List Value} (h : AVs P H (t :: ts) us) : ∃ u r, us = u :: r ∧ AV P H t u ∧ AVs P H ts r := h
theorem AVs.nil_inv {us : List Value} (h : AVs P H [] us) : us = [] := h
theorem AV.plain {d : TypeDesc} [ht : DescInfo P t d] (hd : (∀ fs, d ≠ .struct fs) ∧ ∀ n e, d ≠ .array n e) (h : AV P H t u) : AD P H (.one t) [u] := by
  unfold AV at h
  rw [ht.h] at h
  split at h
  · rename_i fs hf
    exact absurd (Option.some.inj hf) (hd.1 _)
  · rename_i n e hf
    exact absurd (Option.some.inj hf) (hd.2 _ _)
  · exact h
theorem AV.struct {ts : List TypeId} [ht : FieldTys P t ts] (h : AV P H t u) : ∃ cs, u = .agg cs ∧ AD P H (.one t) cs.toList := by
  have hu := ht.h
  unfold AV at h
  split at h
  · exact h
  · rename_i hf
    simp [hf] at hu
  · split at hu
    · simp_all
    · cases hu
theorem AV.array {n : Nat} {e : TypeId} [ht : ArrTy P t n e] (h : AV P H t u) : ∃ cs, u = .agg cs ∧ AD P H (.one t) cs.toList := by
  unfold AV at h
  rw [ht.h] at h
  exact h
end
end Go.Ab
