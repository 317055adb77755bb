/- Abstract states over the model, part 19: literals, append, slices' parts, in the form in which they are used. No condition; over any program. -/
import Derived.Test.YtlbcgadmcjobiaaDoorAb18
set_option linter.unusedVariables false
set_option linter.unusedSimpArgs false
namespace Go.Ab
open Go.RowKit

/-- A struct's fields: where each lies, how many cells it has. -/
class PlInfo (P : Program) (t : TypeId) (pl : outParam (List (Nat × Nat))) : Prop where
  h : ∃ fs, P.underlying t = some (.struct fs) ∧ (fs.toList.mapM fun f => (sizeB P f.type).map fun n => (f.offset, n)) = some pl

def plOk (P : Program) (t : TypeId) (pl : List (Nat × Nat)) : Bool :=
  match P.underlying t with
  | some (.struct fs) => decide ((fs.toList.mapM fun f => (sizeB P f.type).map fun n => (f.offset, n)) = some pl)
  | _ => false
theorem PlInfo.of {P : Program} {t : TypeId} {pl : List (Nat × Nat)} (h : plOk P t pl = true) : PlInfo P t pl := by
  unfold plOk at h
  split at h
  · rename_i fs hu
    exact ⟨fs, hu, by simpa using h⟩
  · cases h

/-- Zero cells, one element behind the other. -/
def litZ (z : Value) (n : Nat) : Array Value := if n = 0 then #[] else (Array.range n).map fun i => z.cells[i % z.cells.size]!
theorem litZero_of {P : Program} {e : TypeId} {z : Value} [hz : ZeroInfo P e z] (n : Nat) : litZero P e n = some (litZ z n) := by
  unfold litZero litZ
  rw [hz.h]
  split <;> rfl
theorem litZ_plain {z : Value} (hp : z.cells.all isPlain = true) (n : Nat) : (litZ z n).all isPlain = true := by
  rw [Array.all_eq_true_iff_forall_mem] at hp ⊢
  unfold litZ
  split
  · intro v hv
    simp at hv
  · intro v hv
    rw [Array.mem_map] at hv
    obtain ⟨i, _, rfl⟩ := hv
    by_cases h : i % z.cells.size < z.cells.size
    · rw [getElem!_pos z.cells _ h]
      exact hp _ (Array.getElem_mem h)
    · rw [getElem!_neg z.cells _ h]
      rfl

section
variable {P : Program} {NG : Nat} {fr : Fr} {H : Hp} {nk : Nat} {R : Value → Hp → Nat → Prop} {o : Oper}

theorem AOp.buildS {t : TypeId} {ps : Array (Nat × Operand)} {cells : Array Value} {z : Value} {pl : List (Nat × Nat)} {vs : List (Nat × Value)} (ho : o.op = .build t ps) [hz : ZeroInfo P t z] [hp : PlInfo P t pl]
    (hx : aparts NG fr ps = some vs) (hf : Instr.fill (pl[·]?) z.cells vs = some cells) (hR : R (.agg cells) H nk) : AOp P NG o ⟨fr, H, nk⟩ R := by
  obtain ⟨fs, hu, hm⟩ := hp.h
  exact AOp.build (zero := #[]) (place := (pl[·]?)) ho hz.h hz.p (fun w ps' r hr => run_build_struct (pl := pl.toArray) hu hz.h (by simpa using hm) w ps' r (by simpa using hr)) hx hf hR
theorem AOp.buildA {t : TypeId} {ps : Array (Nat × Operand)} {cells : Array Value} {z : Value} {n sz : Nat} {agg : Bool} {vs : List (Nat × Value)} (ho : o.op = .build t ps) [hz : ZeroInfo P t z] [ha : ArrInfo P t n agg sz]
    (hx : aparts NG fr ps = some vs) (hf : Instr.fill (fun i => some (i * sz, sz)) z.cells vs = some cells) (hR : R (.agg cells) H nk) : AOp P NG o ⟨fr, H, nk⟩ R := by
  obtain ⟨e, hu, h1, h2⟩ := arrB_inv ha.h
  exact AOp.build (zero := #[]) ho hz.h hz.p (fun w ps' r hr => run_build_arr hu hz.h h2 w ps' r hr) hx hf hR
theorem AOp.buildSl {t e : TypeId} {len sz : Nat} {ps : Array (Nat × Operand)} {z : Value} {cells : Array Value} {vs : List (Nat × Value)} (ho : o.op = .buildSlice t len ps) [hf : SlInfo P t e sz] [hz : ZeroInfo P e z] (hb : len * sz ≤ 16777216)
    (hx : aparts NG fr ps = some vs) (hfill : Instr.fill (fun i => some (i * sz, sz)) (litZ z (len * sz)) vs = some cells)
    (hR : R (.slice (some ⟨nk, 0, none⟩) len len) (upd H nk (some { cells := cells.toList, elem := e, kind := .fix })) (nk + 1)) : AOp P NG o ⟨fr, H, nk⟩ R :=
  AOp.buildSlice ho hf.h hb (litZero_of _) (litZ_plain hz.p _) hx hfill hR
theorem AOp.buildGr {t e : TypeId} {len sz : Nat} {ps : Array (Nat × Operand)} {z : Value} {cells : Array Value} {vs : List (Nat × Value)} (ho : o.op = .buildSlice t len ps) [hf : SlInfo P t e sz] [hz : ZeroInfo P e z] (hsz : 0 < sz) (hb : len * sz ≤ 16777216)
    (hx : aparts NG fr ps = some vs) (hfill : Instr.fill (fun i => some (i * sz, sz)) (litZ z (len * sz)) vs = some cells) (hcs : cells.size = len * sz)
    (hR : R (.slice (some ⟨nk, 0, some 1⟩) len len) (upd H nk (some { cells := cells.toList, elem := e, kind := .grow, esz := sz })) (nk + 1)) : AOp P NG o ⟨fr, H, nk⟩ R :=
  AOp.buildGrow ho hf.h hsz hb (litZero_of _) (litZ_plain hz.p _) hx hfill hcs hR

theorem AOp.append' {x y : Operand} {t tx e : TypeId} {sz bytes n len m : Nat} {b : Blk} {yv : Value} {news : List Value} (ho : o.op = .call { callee := .builtin .append, args := #[x, y], argTypes := #[t, tx] }) [he : ElemInfo P t e sz bytes]
    (hx : aeval NG fr x = some (.slice (some ⟨n, 0, some 1⟩) len len)) (hy : aeval NG fr y = some yv) (hn : H n = some b) (hsrc : srcOf H sz yv = some (m, news)) (hk : b.kind = .grow) (hbe : b.elem = e) (hbz : b.esz = sz) (hlen : len * sz = b.cells.length)
    (ht : srcOk P tx yv = true) (h1 : ∀ u ∈ news, u.oneCell' = true) (hb : (len + m) * bytes ≤ 140737488355328) (h63 : len + m ≤ 9223372036854775807)
    (hR : R (.slice (some ⟨n, 0, some 1⟩) (len + m) (len + m)) (upd H n (some { b with cells := b.cells ++ news })) nk) : AOp P NG o ⟨fr, H, nk⟩ R :=
  AOp.append ho he.h hx hn hk hbe hbz hlen hy hsrc ht h1 hb h63 hR
theorem AOp.append0' {x y : Operand} {t tx e : TypeId} {sz bytes m : Nat} {A0 : Option Addr} {yv : Value} {news : List Value} (ho : o.op = .call { callee := .builtin .append, args := #[x, y], argTypes := #[t, tx] }) [he : ElemInfo P t e sz bytes]
    (hx : aeval NG fr x = some (.slice A0 0 0)) (hy : aeval NG fr y = some yv) (hsrc : srcOf H sz yv = some (m, news)) (hA0 : ∀ ad, A0 = some ad → ad.spot = none)
    (ht : srcOk P tx yv = true) (h1 : ∀ u ∈ news, u.oneCell' = true) (hb : m * bytes ≤ 140737488355328) (h63 : m ≤ 9223372036854775807)
    (hR : R (.slice (some ⟨nk, 0, some 1⟩) m m) (upd H nk (some { cells := news, elem := e, kind := .grow, esz := sz })) (nk + 1)) : AOp P NG o ⟨fr, H, nk⟩ R :=
  AOp.append0 ho he.h hx hA0 hy hsrc ht h1 hb h63 hR
/-- A slice's type is a slice's. -/
theorem srcOk_sl {t e : TypeId} {z : Nat} [hf : SlInfo P t e z] {A : Option Addr} {l c : Nat} : srcOk P t (.slice A l c) = true := by
  unfold srcOk
  rw [(slB_inv hf.h).1]
theorem srcOk_st {t : TypeId} [hf : DescInfo P t .string] {b : ByteArray} : srcOk P t (.string b) = true := by
  unfold srcOk
  rw [hf.h]
theorem bv_one (l : List UInt8) : ∀ u ∈ l.map bv, u.oneCell' = true := by
  intro u hu
  obtain ⟨c, _, rfl⟩ := List.mem_map.1 hu
  rfl

theorem AOp.lenStr' {x : Operand} {t : TypeId} {b : ByteArray} (ho : o.op = .call { callee := .builtin .len, args := #[x], argTypes := #[t] }) [hf : DescInfo P t .string] (hx : aeval NG fr x = some (.string b)) (hR : R (.int .i64 b.size) H nk) : AOp P NG o ⟨fr, H, nk⟩ R :=
  AOp.len_str ho hf.h hx hR
end
end Go.Ab
