/- Abstract states over the model, part 20: more rules over a state in its parts; loads and stores whose block is looked up. No condition; over any program. -/
import Derived.Test.YtlbcgadmcjobiaaDoorAb19
set_option linter.unusedVariables false
set_option linter.unusedSimpArgs false
namespace Go.Ab
open Go.RowKit

section
variable {P : Program} {NG : Nat} {fr : Fr} {H : Hp} {nk : Nat} {R : Value → Hp → Nat → Prop} {o : Oper}

theorem AOp.move' {x : Operand} {v : Value} (ho : o.op = .move x ∨ o.op = .assign x) (hx : aeval NG fr x = some v) (hR : R v H nk) : AOp P NG o ⟨fr, H, nk⟩ R := AOp.move ho hx hR
theorem AOp.extract' {x : Operand} {i : Nat} {cs : Array Value} {v : Value} (ho : o.op = .extract x i) (hx : aeval NG fr x = some (.tuple cs)) (hp : cs[i]? = some v) (hR : R v H nk) : AOp P NG o ⟨fr, H, nk⟩ R := AOp.extract ho hx hp hR
theorem AOp.makeIface' {t : TypeId} {x : Operand} {v : Value} {d : TypeDesc} (ho : o.op = .makeInterface t x) [hu : DescInfo P t d] (hd : ∀ ms, d ≠ .interface ms) (hx : aeval NG fr x = some v) (hR : R (.iface t v) H nk) : AOp P NG o ⟨fr, H, nk⟩ R := AOp.makeIface ho hu.h hd hx hR
theorem AOp.makeFunc' {fn : Fn} {cap : Array Operand} {vs : List Value} (ho : o.op = .makeFunc fn #[] cap) (hx : cap.toList.mapM (aeval NG fr) = some vs) (hR : R (.func fn #[] vs.toArray) H nk) : AOp P NG o ⟨fr, H, nk⟩ R := AOp.makeFunc ho hx hR
theorem AOp.nilCheck' {x : Operand} {n off : Nat} {sp : Option Nat} (ho : o.op = .nilCheck x) (hx : aeval NG fr x = some (.pointer (some ⟨n, off, sp⟩))) (hR : R (.pointer (some ⟨n, off, sp⟩)) H nk) : AOp P NG o ⟨fr, H, nk⟩ R := AOp.nilCheck ho hx hR
theorem AOp.nilCheckF {x : Operand} {f : FuncId} {cs : Array Value} (ho : o.op = .nilCheck x) (hx : aeval NG fr x = some (.func (.func f) #[] cs)) (hR : R (.func (.func f) #[] cs) H nk) : AOp P NG o ⟨fr, H, nk⟩ R := AOp.nilCheck_func ho hx hR
theorem AOp.boxV {e : TypeId} {x : Operand} {v : Value} (ho : o.op = .box e x) (hx : aeval NG fr x = some v)
    (hR : R (.pointer (some ⟨nk, 0, none⟩)) (upd H nk (some { cells := v.cells.toList, elem := e, kind := .fix })) (nk + 1)) : AOp P NG o ⟨fr, H, nk⟩ R := AOp.box ho hx hR

/-- A struct or an array, the whole of its block. -/
theorem AOp.loadAll {t : TypeId} {x : Operand} {n : Nat} {b : Blk} {z : Nat} {v : Value} (ho : o.op = .load t x) [ht : TyInfo P t true z] (hx : aeval NG fr x = some (.pointer (some ⟨n, 0, none⟩))) (hn : H n = some b) (hb : b.cells = v.cells.toList) (hv : v = .agg v.cells) (hz : v.cells.size = z) (hR : R v H nk) : AOp P NG o ⟨fr, H, nk⟩ R := by
  refine AOp.loadN (cs := v.cells.toList) ho hx hn (by rw [hb]; simp; omega) ?_ ?_
  · rw [hb, List.drop_zero, ← hz, ← Array.length_toList, List.take_length]
  · rw [Array.toArray_toList, ← hv]
    exact hR
theorem AOp.storeAll {t : TypeId} {x y : Operand} {n z : Nat} {b : Blk} {v : Value} (ho : o.op = .store t x y) [ht : TyInfo P t true z] (hx : aeval NG fr x = some (.pointer (some ⟨n, 0, none⟩)))
    (hy : aeval NG fr y = some v) (hn : H n = some b) (hk : b.kind = .fix) (hv : v = .agg v.cells) (hz : v.cells.size = z) (h1 : v.cells.toList.all (·.oneCell') = true) (hl : b.cells.length = z) (hR : R undef (upd H n (some { b with cells := v.cells.toList })) nk) : AOp P NG o ⟨fr, H, nk⟩ R := by
  rw [hv] at hy
  refine AOp.storeN ho hx hy hn hk hz (by rw [← Array.all_toList]; exact h1) (by omega) ?_
  have : putL b.cells 0 v.cells.toList = v.cells.toList := by
    unfold putL
    have h2 : v.cells.toList.length = b.cells.length := by rw [Array.length_toList]; omega
    simp [h2]
  rw [this]
  exact hR

/-- An element of a slice whose cells are known: where it lies, and that it can be read. -/
theorem slcAt {sz i : Nat} {v : Value} {cs : List Value} (h : slcCells H sz v = some cs) (hi : (i + 1) * sz ≤ cs.length) (h0 : 0 < sz) : ∃ q, aslcAt H sz i v = some q ∧ aload H sz q = some ((cs.drop (i * sz)).take sz) := by
  have hpos : 0 < cs.length := by
    have : 0 < (i + 1) * sz := Nat.mul_pos (by omega) h0
    omega
  have e1 : (i + 1) * sz = i * sz + sz := by rw [Nat.add_mul, Nat.one_mul]
  have main : ∀ (n off l : Nat) (b : Blk), H n = some b → off + l * sz ≤ b.cells.length → cs = (b.cells.drop off).take (l * sz) →
      i < l ∧ hcells H n (off + i * sz) sz = some ((cs.drop (i * sz)).take sz) := by
    intro n off l b hn hle hcs
    have hl : cs.length = l * sz := by rw [hcs, List.length_take, List.length_drop]; omega
    have hlt : i < l := by
      rcases Nat.lt_or_ge i l with h' | h'
      · exact h'
      · have := Nat.mul_le_mul_right sz h'
        omega
    refine ⟨hlt, ?_⟩
    have h2 : i * sz + sz ≤ l * sz := by omega
    simp only [hcells, hn]
    rw [if_pos (by omega), hcs, List.drop_take, List.take_take, List.drop_drop, Nat.min_eq_left (by omega)]
  unfold slcCells at h
  split at h
  · injection h with h
    subst h
    simp at hpos
  · rename_i n off l c
    split at h
    · injection h with h
      subst h
      simp at hpos
    · cases hn : H n with
      | none => simp [hn] at h
      | some b =>
        simp only [hn] at h
        split at h
        · rename_i hle
          injection h with h
          obtain ⟨h1, h2⟩ := main n off l b hn hle h.symm
          exact ⟨.pointer (some ⟨n, off + i * sz, none⟩), by simp only [aslcAt]; rw [if_pos h1], h2⟩
        · cases h
  · rename_i n off l c
    split at h
    · injection h with h
      subst h
      simp at hpos
    · cases hn : H n with
      | none => simp [hn] at h
      | some b =>
        simp only [hn] at h
        split at h
        · rename_i hle
          injection h with h
          obtain ⟨h1, h2⟩ := main n off l b hn hle h.symm
          exact ⟨.pointer (some ⟨n, off + i * sz, none⟩), by simp only [aslcAt]; rw [if_pos h1], h2⟩
        · cases h
  · rename_i n off l c
    split at h
    · injection h with h
      subst h
      simp at hpos
    · cases hn : H n with
      | none => simp [hn] at h
      | some b =>
        simp only [hn] at h
        split at h
        · rename_i hle
          injection h with h
          obtain ⟨h1, h2⟩ := main n off l b hn hle.2 h.symm
          refine ⟨.pointer (some ⟨n, off + i * sz, some 1⟩), by simp only [aslcAt, hn]; rw [if_pos ⟨h1, hle.1.1⟩], ?_⟩
          simp only [aload, hn]
          rw [if_pos]
          · exact h2
          · rw [hle.1.1, Nat.add_mul_mod_self_right, hle.1.2]
            omega
        · cases h
  · rename_i n off l c
    split at h
    · injection h with h
      subst h
      simp at hpos
    · cases hn : H n with
      | none => simp [hn] at h
      | some b =>
        simp only [hn] at h
        split at h
        · rename_i hle
          injection h with h
          obtain ⟨h1, h2⟩ := main n off l b hn hle.2 h.symm
          refine ⟨.pointer (some ⟨n, off + i * sz, some 1⟩), by simp only [aslcAt, hn]; rw [if_pos ⟨h1, hle.1.1⟩], ?_⟩
          simp only [aload, hn]
          rw [if_pos]
          · exact h2
          · rw [hle.1.1, Nat.add_mul_mod_self_right, hle.1.2]
            omega
        · cases h
  · cases h
end
end Go.Ab
