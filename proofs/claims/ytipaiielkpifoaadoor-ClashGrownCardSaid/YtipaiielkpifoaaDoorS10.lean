/- What the arguments of the statements on digests and trees are. No condition. -/
import Derived.Test.YtipaiielkpifoaaDoorAbF
import Derived.Test.YtipaiielkpifoaaDoorS0
set_option linter.unusedVariables false
set_option maxRecDepth 100000
namespace Go.Proofs.YtipaiielkpifoaaDoor
open Go Go.Ab
theorem plain_slc {e : TypeId} : (∀ fs, TypeDesc.slice e ≠ .struct fs) ∧ ∀ n e', TypeDesc.slice e ≠ .array n e' := ⟨fun _ h => (TypeDesc.noConfusion h), fun _ _ h => (TypeDesc.noConfusion h)⟩
theorem plain_int {k : IntKind} : (∀ fs, TypeDesc.int k ≠ .struct fs) ∧ ∀ n e', TypeDesc.int k ≠ .array n e' := ⟨fun _ h => (TypeDesc.noConfusion h), fun _ _ h => (TypeDesc.noConfusion h)⟩
section
variable {H : Hp} {u : Value}
theorem bytes_inv {cs : List Value} (h : AD Tryd.prog H (.one 25) cs) : ∃ (bs : List UInt8) (A : Option Addr) (c : Nat), cs = [.slice A bs.length c] ∧ SLC H 1 A bs.length c (bs.map bv) ∧ bs.length ≤ maxLen := by
  obtain ⟨A, l, c, cells, rfl, h1, h2, h3, h4⟩ := h.SLC_inv
  obtain ⟨bs, rfl, rfl⟩ := h4.bytes_inv
  exact ⟨bs, A, c, rfl, h1, h3⟩
theorem hash_inv {cs : List Value} (h : AD Tryd.prog H (.one 31) cs) : ∃ d : Dg, cs = d.l.map bv := by
  obtain ⟨bs, h1, rfl⟩ := h.array_inv.bytes_inv
  exact ⟨⟨bs, h1⟩, rfl⟩
theorem hash_arg (h : AV Tryd.prog H 31 u) : ∃ d : Dg, u = hv d := by
  obtain ⟨cs, rfl, h1⟩ := h.array
  obtain ⟨d, hd⟩ := hash_inv h1
  exact ⟨d, by rw [show cs = (d.l.map bv).toArray from Array.toList_inj.1 (by rw [hd])]⟩
theorem int_arg (h : AV Tryd.prog H 3 u) : ∃ n : Int, u = .int .i64 n ∧ -9223372036854775808 ≤ n ∧ n ≤ 9223372036854775807 := by
  obtain ⟨n, e, h1, h2⟩ := (h.plain plain_int).int_inv
  injection e with e
  exact ⟨n, e, h1, h2⟩
theorem leaves_inv : ∀ {l : Nat} {cs : List Value}, AD Tryd.prog H (.many (List.replicate l 25)) cs → ∃ ls : List (List UInt8), ls.length = l ∧ Lvs H cs ls ∧ ∀ x ∈ ls, x.length ≤ maxLen
  | 0, cs, h => ⟨[], rfl, by rw [h.nil_inv]; exact Lvs.nil, fun x hx => by cases hx⟩
  | l + 1, cs, h => by
    rw [List.replicate_succ] at h
    obtain ⟨a, b, rfl, ha, hl, hb⟩ := h.cons_inv
    obtain ⟨bs, A, c, rfl, h1, h2⟩ := bytes_inv ha
    obtain ⟨ls, h3, h4, h5⟩ := leaves_inv hb
    exact ⟨bs :: ls, by simp [h3], Lvs.cons h1 h4, fun x hx => by
      rcases List.mem_cons.1 hx with rfl | hx
      · exact h2
      · exact h5 x hx⟩
theorem leaves_arg (h : AV Tryd.prog H 22 u) : ∃ (ls : List (List UInt8)) (vs : List Value) (A : Option Addr) (c : Nat), u = .slice A vs.length c ∧ SLC H 1 A vs.length c vs ∧ Lvs H vs ls ∧ vs.length ≤ maxLen ∧ ∀ x ∈ ls, x.length ≤ maxLen := by
  obtain ⟨A, l, c, cells, e, h1, h2, h3, h4⟩ := (h.plain plain_slc).SLC_inv
  injection e with e
  subst e
  obtain ⟨ls, h5, h6, h7⟩ := leaves_inv h4
  have hc : cells.length = l := by rw [h6.len, h5]
  subst hc
  exact ⟨ls, cells, A, c, rfl, h1, h6, h3, h7⟩
end
end Go.Proofs.YtipaiielkpifoaaDoor
