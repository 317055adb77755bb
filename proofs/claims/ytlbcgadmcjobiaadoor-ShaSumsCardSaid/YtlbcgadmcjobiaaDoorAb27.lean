/- Abstract states over the model, part 27: slices of bytes that grow, their blocks as lists of bytes. No condition; over any program. -/
import Derived.Test.YtlbcgadmcjobiaaDoorAb26
set_option linter.unusedVariables false
set_option linter.unusedSimpArgs false
namespace Go.Ab
open Go.RowKit

/-- A block of bytes that may grow. -/
abbrev gbk (e : TypeId) (bs : List UInt8) : Blk := { cells := bs.map bv, elem := e, kind := .grow, esz := 1 }
abbrev gsl (n l : Nat) : Value := .slice (some ⟨n, 0, some 1⟩) l l

theorem slcCells_loose {H : Hp} {n sz l : Nat} {b : Blk} (hn : H n = some b) (hl : l * sz = b.cells.length) : slcCells H sz (.slice (some ⟨n, 0, some 0⟩) l l) = some b.cells := by
  simp only [slcCells]
  by_cases h0 : l = 0
  · rw [if_pos h0]
    subst h0
    rw [List.length_eq_zero_iff.1 (show b.cells.length = 0 by omega)]
  · rw [if_neg h0]
    simp only [hn]
    rw [if_pos (by omega), List.drop_zero, hl, List.take_length]
section
variable {P : Program} {NG : Nat} {fr : Fr} {H : Hp} {nk : Nat} {R : Value → Hp → Nat → Prop} {o : Oper}

theorem AOp.appendB {x y : Operand} {t tx e : TypeId} {bytes n : Nat} {bs ps : List UInt8} {yv : Value} (ho : o.op = .call { callee := .builtin .append, args := #[x, y], argTypes := #[t, tx] }) [he : ElemInfo P t e 1 bytes]
    (hx : aeval NG fr x = some (gsl n bs.length)) (hy : aeval NG fr y = some yv) (hn : H n = some (gbk e bs)) (hsrc : srcOf H 1 yv = some (ps.length, ps.map bv)) (ht : srcOk P tx yv = true)
    (hb : (bs.length + ps.length) * bytes ≤ 140737488355328) (h63 : bs.length + ps.length ≤ 9223372036854775807)
    (hR : R (gsl n (bs ++ ps).length) (upd H n (some (gbk e (bs ++ ps)))) nk) : AOp P NG o ⟨fr, H, nk⟩ R := by
  refine AOp.append' (b := gbk e bs) ho hx hy hn hsrc rfl rfl rfl (by simp) ht (bv_one ps) hb h63 ?_
  have e1 : ({ gbk e bs with cells := (gbk e bs).cells ++ ps.map bv } : Blk) = gbk e (bs ++ ps) := by simp
  rw [e1, ← List.length_append]
  exact hR

theorem AOp.buildB {t e : TypeId} {len : Nat} {ps : Array (Nat × Operand)} {z : Value} (bs : List UInt8) (ho : o.op = .buildSlice t len ps) [hf : SlInfo P t e 1] [hz : ZeroInfo P e z] (hb : len ≤ 16777216)
    (hx : aparts NG fr ps = some ((bs.map bv).zipIdx.map fun p => (p.2, p.1))) (hl : bs.length = len)
    (hR : R (gsl nk bs.length) (upd H nk (some (gbk e bs))) (nk + 1)) : AOp P NG o ⟨fr, H, nk⟩ R := by
  refine AOp.buildG1 (vals := bs.map bv) ho hb hx (by simpa using hl) (fun v hv => ?_) ?_
  · obtain ⟨c, _, rfl⟩ := List.mem_map.1 hv
    rfl
  · rw [← hl]
    exact hR
theorem srcOf_gb {n : Nat} {e : TypeId} {bs : List UInt8} (hn : H n = some (gbk e bs)) : srcOf H 1 (gsl n bs.length) = some (bs.length, bs.map bv) :=
  srcOf_grow hn rfl (by simp)
end
end Go.Ab
