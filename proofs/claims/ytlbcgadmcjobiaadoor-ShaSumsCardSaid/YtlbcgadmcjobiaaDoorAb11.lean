/- Abstract states over the model, part 11: the rules in the form in which they are used: facts on types and functions come as instances, values are reckoned. No condition; over any program. -/
import Derived.Test.YtlbcgadmcjobiaaDoorAb10
set_option linter.unusedVariables false
set_option linter.unusedSimpArgs false
namespace Go.Ab
open Go.RowKit

/-! ### Facts on a program -/
class TyInfo (P : Program) (t : TypeId) (agg : outParam Bool) (z : outParam Nat) : Prop where
  a : isAggB P t = some agg
  s : sizeB P t = some z
class FieldInfo (P : Program) (t : TypeId) (f : Nat) (off : outParam Nat) (agg : outParam Bool) (z : outParam Nat) : Prop where
  h : fieldB P t f = some (off, agg, z)
class ArrInfo (P : Program) (t : TypeId) (n : outParam Nat) (agg : outParam Bool) (z : outParam Nat) : Prop where
  h : arrB P t = some (n, agg, z)
class SlInfo (P : Program) (t : TypeId) (e : outParam TypeId) (z : outParam Nat) : Prop where
  h : slB P t = some (e, z)
class ElemInfo (P : Program) (t : TypeId) (e : outParam TypeId) (z : outParam Nat) (bytes : outParam Nat) : Prop where
  h : elemB P t e z bytes = true
class ZeroInfo (P : Program) (t : TypeId) (v : outParam Value) : Prop where
  h : zeroB P t = some v
  p : v.cells.all isPlain = true
class DescInfo (P : Program) (t : TypeId) (d : outParam TypeDesc) : Prop where
  h : P.underlying t = some d
class FnInfo (P : Program) (f : FuncId) (fn : outParam Func) : Prop where
  h : P.funcs[f]? = some fn
  b : fn.body.isSome = true
  n : (fn.name == "runtime.NumGoroutine") = false

/-! ### Values of scalars -/
def ibit (op : BinOp) (k : IntKind) (x y : Int) : Int :=
  let a := BitVec.ofInt k.bits x
  let b := BitVec.ofInt k.bits y
  match op with
  | .and => k.wrap ((a &&& b).toNat : Int)
  | .or => k.wrap ((a ||| b).toNat : Int)
  | .xor => k.wrap ((a ^^^ b).toNat : Int)
  | _ => k.wrap ((a &&& ~~~b).toNat : Int)

def abin : BinOp → Value → Value → Option Value
  | .shl, .int k a, .int _ b => if b < 0 then none else some (.int k (k.wrap (a * 2 ^ (min b.toNat k.bits))))
  | .shr, .int k a, .int _ b => if b < 0 then none else some (.int k (a.fdiv (2 ^ (min b.toNat k.bits))))
  | op, .int k a, .int k' b => if k ≠ k' then none else match op with
    | .add => some (.int k (k.wrap (a + b)))
    | .sub => some (.int k (k.wrap (a - b)))
    | .mul => some (.int k (k.wrap (a * b)))
    | .quo => if b = 0 then none else some (.int k (k.wrap (a.tdiv b)))
    | .rem => if b = 0 then none else some (.int k (a.tmod b))
    | .and => some (.int k (ibit .and k a b))
    | .or => some (.int k (ibit .or k a b))
    | .xor => some (.int k (ibit .xor k a b))
    | .andNot => some (.int k (ibit .andNot k a b))
    | .eql => some (.bool (a == b))
    | .neq => some (.bool (a != b))
    | .lss => some (.bool (decide (a < b)))
    | .leq => some (.bool (decide (a ≤ b)))
    | .gtr => some (.bool (decide (a > b)))
    | .geq => some (.bool (decide (a ≥ b)))
    | _ => none
  | op, .string a, .string b => match op with
    | .add => if ((a.size + b.size : Nat) : Int) > 9223372036854775807 then none else some (.string (a ++ b))
    | .eql => some (.bool (a.toList == b.toList))
    | .neq => some (.bool (!(a.toList == b.toList)))
    | .lss => some (.bool (Op.bytesLess a.toList b.toList))
    | .leq => some (.bool (Op.bytesLess a.toList b.toList || a.toList == b.toList))
    | .gtr => some (.bool (!(Op.bytesLess a.toList b.toList || a.toList == b.toList)))
    | .geq => some (.bool (!Op.bytesLess a.toList b.toList))
    | _ => none
  | _, _, _ => none

theorem abin_run {P : Program} {w : World} {op : BinOp} {t : TypeId} {x y : Operand} {u v z : Value} (h : abin op u v = some z) : (do eqGuard op t x y u v; binOp op t u v : Sem Value).run P w = .ok z w ∧ selfRel u = true ∧ selfRel v = true ∧ selfRel z = true := by
  have hf : (∃ k a k' b, u = .int k a ∧ v = .int k' b) ∨ (∃ a b, u = .string a ∧ v = .string b) := by
    unfold abin at h
    split at h
    · exact .inl ⟨_, _, _, _, rfl, rfl⟩
    · exact .inl ⟨_, _, _, _, rfl, rfl⟩
    · exact .inl ⟨_, _, _, _, rfl, rfl⟩
    · exact .inr ⟨_, _, rfl, rfl⟩
    · cases h
  have hg : (eqGuard op t x y u v).run P w = .ok () w := by
    rcases hf with ⟨k, a, k', b, rfl, rfl⟩ | ⟨a, b, rfl, rfl⟩
    · simp [eqGuard]
    · simp [eqGuard]
  rw [Sem.run_bind, hg]
  simp only [Result.andThen_ok]
  unfold abin at h
  split at h
  · split at h
    · cases h
    · rename_i hb
      injection h with h
      subst h
      exact ⟨by simp [binOp, Op.shift, hb], rfl, rfl, rfl⟩
  · split at h
    · cases h
    · rename_i hb
      injection h with h
      subst h
      exact ⟨by simp [binOp, Op.shift, hb], rfl, rfl, rfl⟩
  · rename_i k a k' b hs1 hs2
    split at h
    · cases h
    · rename_i hk
      have hk' : k = k' := by simpa using hk
      subst hk'
      split at h
      all_goals first
        | (injection h with h
           subst h
           exact ⟨by simp [binOp, Op.intArith, Op.intCmp, Op.intBits, ibit], rfl, rfl, rfl⟩)
        | (split at h
           · cases h
           · rename_i hb
             injection h with h
             subst h
             exact ⟨by simp [binOp, Op.intDiv, hb], rfl, rfl, rfl⟩)
        | cases h
  · split at h
    all_goals first
      | (injection h with h
         subst h
         exact ⟨by simp [binOp, Op.stringOp], rfl, rfl, rfl⟩)
      | (split at h
         · cases h
         · rename_i hb
           injection h with h
           subst h
           refine ⟨?_, rfl, rfl, rfl⟩
           simp only [binOp, Op.stringOp]
           rw [if_neg (by simpa using hb)]
           rfl)
      | cases h
  · cases h

def aun : UnOp → Value → Option Value
  | .neg, .int k n => some (.int k (k.wrap (0 - n)))
  | .xor, .int k n => some (.int k (ibit .xor k (if k.signed then -1 else k.max) n))
  | .not, .bool b => some (.bool (!b))
  | _, _ => none

theorem aun_run {P : Program} {w : World} {op : UnOp} {u z : Value} (h : aun op u = some z) : (Op.unary op u).run P w = .ok z w ∧ selfRel u = true ∧ selfRel z = true := by
  unfold aun at h
  split at h
  all_goals first
    | (injection h with h
       subst h
       exact ⟨by simp [Op.unary, Op.intArith, Op.intBits, ibit], rfl, rfl⟩)
    | cases h

section
variable {P : Program} {NG : Nat} {fr : Fr} {H : Hp} {nk : Nat} {R : Value → Hp → Nat → Prop} {o : Oper}

theorem AOp.bin' {op : BinOp} {t t' : TypeId} {x y : Operand} {u v z : Value} (ho : o.op = .binOp op t x y t') (hx : aeval NG fr x = some u) (hy : aeval NG fr y = some v) (h : abin op u v = some z) (hR : R z H nk) : AOp P NG o ⟨fr, H, nk⟩ R :=
  have h0 := fun w => abin_run (P := P) (w := w) (t := t) (x := x) (y := y) h
  AOp.bin ho hx hy (h0 default).2.1 (h0 default).2.2.1 (h0 default).2.2.2 (fun w => (h0 w).1) hR

theorem AOp.un' {op : UnOp} {t : TypeId} {x : Operand} {u z : Value} (ho : o.op = .unOp op t x) (hx : aeval NG fr x = some u) (h : aun op u = some z) (hR : R z H nk) : AOp P NG o ⟨fr, H, nk⟩ R :=
  have h0 := fun w => aun_run (P := P) (w := w) h
  AOp.un ho hx (h0 default).2.1 (h0 default).2.2 (fun w => (h0 w).1) hR

/-- Whole numbers of one kind; the result lies in it. -/
theorem AOp.add {k : IntKind} {t t' : TypeId} {x y : Operand} {a b : Int} (ho : o.op = .binOp .add t x y t') (hx : aeval NG fr x = some (.int k a)) (hy : aeval NG fr y = some (.int k b)) (hw : k.wrap (a + b) = a + b) (hR : R (.int k (a + b)) H nk) : AOp P NG o ⟨fr, H, nk⟩ R :=
  AOp.bin' ho hx hy (z := .int k (a + b)) (by simp [abin, hw]) hR
theorem AOp.sub {k : IntKind} {t t' : TypeId} {x y : Operand} {a b : Int} (ho : o.op = .binOp .sub t x y t') (hx : aeval NG fr x = some (.int k a)) (hy : aeval NG fr y = some (.int k b)) (hw : k.wrap (a - b) = a - b) (hR : R (.int k (a - b)) H nk) : AOp P NG o ⟨fr, H, nk⟩ R :=
  AOp.bin' ho hx hy (z := .int k (a - b)) (by simp [abin, hw]) hR
theorem AOp.mul {k : IntKind} {t t' : TypeId} {x y : Operand} {a b : Int} (ho : o.op = .binOp .mul t x y t') (hx : aeval NG fr x = some (.int k a)) (hy : aeval NG fr y = some (.int k b)) (hw : k.wrap (a * b) = a * b) (hR : R (.int k (a * b)) H nk) : AOp P NG o ⟨fr, H, nk⟩ R :=
  AOp.bin' ho hx hy (z := .int k (a * b)) (by simp [abin, hw]) hR

theorem i64_wrap {a : Int} (h1 : -9223372036854775808 ≤ a) (h2 : a ≤ 9223372036854775807) : IntKind.i64.wrap a = a := by rw [IntKind.wrap_i64]; omega

/-- Between numbers. -/
theorem AOp.convInt {t t' : TypeId} {x : Operand} {k k' : IntKind} {a : Int} {d : TypeDesc} (ho : o.op = .convert t t' x) [DescInfo P t d] [hd : DescInfo P t' (.int k')] (hx : aeval NG fr x = some (.int k a)) (hR : R (.int k' (k'.wrap a)) H nk) : AOp P NG o ⟨fr, H, nk⟩ R := by
  have h1 := (inferInstance : DescInfo P t d).h
  refine AOp.conv (z := .int k' (k'.wrap a)) ho hx rfl rfl (fun w => ?_) hR
  unfold convert
  rw [Sem.run_bind, run_underlying h1]
  simp only [Result.andThen_ok]
  rw [Sem.run_bind, run_underlying hd.h]
  simp only [Result.andThen_ok, Conv.intToInt]
  rfl

theorem AOp.load1 {t : TypeId} {x : Operand} {n off : Nat} {b : Blk} {v : Value} {z : Nat} (ho : o.op = .load t x) [ht : TyInfo P t false z] (hx : aeval NG fr x = some (.pointer (some ⟨n, off, none⟩))) (hn : H n = some b) (hv : b.cells[off]? = some v) (hR : R v H nk) : AOp P NG o ⟨fr, H, nk⟩ R := by
  refine AOp.load ho hx ?_ hR
  have hlt := (List.getElem?_eq_some_iff.1 hv).1
  have : (b.cells.drop off).take 1 = [v] := by
    rw [List.drop_eq_getElem_cons hlt, List.take_succ_cons, List.take_zero]
    rw [List.getElem?_eq_getElem hlt] at hv
    injection hv with hv
    rw [hv]
  simp only [aloadVar, ht.a, aload, hcells, hn]
  rw [if_pos (by omega), this]

/-- A cell of an element of a grown slice. -/
theorem AOp.load1g {t : TypeId} {x : Operand} {n off : Nat} {b : Blk} {v : Value} {z : Nat} (ho : o.op = .load t x) [ht : TyInfo P t false z] (hx : aeval NG fr x = some (.pointer (some ⟨n, off, some 1⟩))) (hn : H n = some b) (he : off % b.esz + 1 ≤ b.esz) (hv : b.cells[off]? = some v) (hR : R v H nk) : AOp P NG o ⟨fr, H, nk⟩ R := by
  refine AOp.load ho hx ?_ hR
  have hlt := (List.getElem?_eq_some_iff.1 hv).1
  have : (b.cells.drop off).take 1 = [v] := by
    rw [List.drop_eq_getElem_cons hlt, List.take_succ_cons, List.take_zero]
    rw [List.getElem?_eq_getElem hlt] at hv
    injection hv with hv
    rw [hv]
  simp only [aloadVar, ht.a, aload, hcells, hn]
  rw [if_pos he, if_pos (by omega), this]

/-- A struct or an array. -/
theorem AOp.loadN {t : TypeId} {x : Operand} {n off : Nat} {b : Blk} {z : Nat} {cs : List Value} (ho : o.op = .load t x) [ht : TyInfo P t true z] (hx : aeval NG fr x = some (.pointer (some ⟨n, off, none⟩))) (hn : H n = some b) (hl : off + z ≤ b.cells.length) (hcs : (b.cells.drop off).take z = cs) (hR : R (.agg cs.toArray) H nk) : AOp P NG o ⟨fr, H, nk⟩ R := by
  refine AOp.load ho hx ?_ hR
  simp only [aloadVar, ht.a, ht.s, aload, hcells, hn]
  rw [if_pos hl, hcs]
  rfl
theorem AOp.loadNg {t : TypeId} {x : Operand} {n off : Nat} {b : Blk} {z : Nat} {cs : List Value} (ho : o.op = .load t x) [ht : TyInfo P t true z] (hx : aeval NG fr x = some (.pointer (some ⟨n, off, some 1⟩))) (hn : H n = some b) (he : off % b.esz + z ≤ b.esz) (hl : off + z ≤ b.cells.length) (hcs : (b.cells.drop off).take z = cs) (hR : R (.agg cs.toArray) H nk) : AOp P NG o ⟨fr, H, nk⟩ R := by
  refine AOp.load ho hx ?_ hR
  simp only [aloadVar, ht.a, ht.s, aload, hcells, hn]
  rw [if_pos he, if_pos hl, hcs]
  rfl

theorem AOp.fieldAddr' {t : TypeId} {x : Operand} {f off z : Nat} {agg : Bool} {n d : Nat} (ho : o.op = .fieldAddr t x f) [hf : FieldInfo P t f off agg z] (hz0 : 0 < z)
    (hx : aeval NG fr x = some (.pointer (some ⟨n, d, none⟩))) (hR : R (.pointer (some ⟨n, d + off, none⟩)) H nk) : AOp P NG o ⟨fr, H, nk⟩ R :=
  AOp.fieldAddr ho hf.h hz0 hx rfl hR

theorem AOp.field' {t : TypeId} {x : Operand} {f off z : Nat} {agg : Bool} {cs : Array Value} {v : Value} (ho : o.op = .field t x f) [hf : FieldInfo P t f off agg z]
    (hx : aeval NG fr x = some (.agg cs)) (hp : apart cs agg off z = some v) (hR : R v H nk) : AOp P NG o ⟨fr, H, nk⟩ R :=
  AOp.field ho hf.h hx hp hR

theorem AOp.indexAddr_arr' {t : TypeId} {x y : Operand} {n z m d : Nat} {agg : Bool} {i : Int} {ik : IntKind} (ho : o.op = .indexAddr t x y) [hf : ArrInfo P t n agg z]
    (hx : aeval NG fr x = some (.pointer (some ⟨m, d, none⟩))) (hy : aeval NG fr y = some (.int ik i)) (h0 : 0 ≤ i) (hi : i < n) (hR : R (.pointer (some ⟨m, d + i.toNat * z, none⟩)) H nk) : AOp P NG o ⟨fr, H, nk⟩ R :=
  AOp.indexAddr_arr ho hf.h hx hy h0 hi rfl hR

theorem AOp.index_arr' {t : TypeId} {x y : Operand} {n z : Nat} {agg : Bool} {cs : Array Value} {v : Value} {i : Int} {ik : IntKind} (ho : o.op = .index t x y) [hf : ArrInfo P t n agg z]
    (hx : aeval NG fr x = some (.agg cs)) (hy : aeval NG fr y = some (.int ik i)) (h0 : 0 ≤ i) (hi : i < n) (hp : apart cs agg (i.toNat * z) z = some v) (hR : R v H nk) : AOp P NG o ⟨fr, H, nk⟩ R :=
  AOp.index_arr ho hf.h hx hy h0 hi hp hR

theorem AOp.indexAddr_slc' {t e : TypeId} {x y : Operand} {z : Nat} {p q : Value} {i : Int} {ik : IntKind} (ho : o.op = .indexAddr t x y) [hf : SlInfo P t e z]
    (hx : aeval NG fr x = some p) (hy : aeval NG fr y = some (.int ik i)) (h0 : 0 ≤ i) (hq : aslcAt H z i.toNat p = some q) (hR : R q H nk) : AOp P NG o ⟨fr, H, nk⟩ R :=
  AOp.indexAddr_slc ho hf.h hx hy h0 hq hR

theorem AOp.store1 {t : TypeId} {x y : Operand} {n off : Nat} {b : Blk} {v : Value} (ho : o.op = .store t x y) [ht : TyInfo P t false 1] (hx : aeval NG fr x = some (.pointer (some ⟨n, off, none⟩)))
    (hy : aeval NG fr y = some v) (hn : H n = some b) (hk : b.kind = .fix) (hc : v.cells = #[v]) (h1 : v.oneCell' = true) (hl : off < b.cells.length) (hR : R undef (upd H n (some { b with cells := b.cells.set off v })) nk) : AOp P NG o ⟨fr, H, nk⟩ R := by
  refine AOp.store ho ht.s hx hy hn hk (by rw [hc]; rfl) (by rw [hc]; simp [h1]) (by omega) ?_
  have : putL b.cells off v.cells.toList = b.cells.set off v := by
    rw [hc]
    unfold putL
    rw [List.set_eq_take_append_cons_drop, if_pos hl]
    simp
  rw [this]
  exact hR

theorem AOp.storeN {t : TypeId} {x y : Operand} {n off z : Nat} {b : Blk} {cs : Array Value} (ho : o.op = .store t x y) [ht : TyInfo P t true z] (hx : aeval NG fr x = some (.pointer (some ⟨n, off, none⟩)))
    (hy : aeval NG fr y = some (.agg cs)) (hn : H n = some b) (hk : b.kind = .fix) (hz : cs.size = z) (h1 : cs.all (·.oneCell') = true) (hl : off + z ≤ b.cells.length) (hR : R undef (upd H n (some { b with cells := putL b.cells off cs.toList })) nk) : AOp P NG o ⟨fr, H, nk⟩ R :=
  AOp.store ho ht.s hx hy hn hk hz h1 hl hR

theorem AOp.box' {e : TypeId} {x : Operand} {cs : Array Value} (ho : o.op = .box e x) (hx : aeval NG fr x = some (.agg cs))
    (hR : R (.pointer (some ⟨nk, 0, none⟩)) (upd H nk (some { cells := cs.toList, elem := e, kind := .fix })) (nk + 1)) : AOp P NG o ⟨fr, H, nk⟩ R := AOp.box ho hx hR

theorem AOp.alloc' {e : TypeId} {z : Value} (ho : o.op = .alloc e) [hz : ZeroInfo P e z]
    (hR : R (.pointer (some ⟨nk, 0, none⟩)) (upd H nk (some { cells := z.cells.toList, elem := e, kind := .fix })) (nk + 1)) : AOp P NG o ⟨fr, H, nk⟩ R := AOp.alloc ho hz.h hz.p hR

theorem AOp.call' {x : Operand} {args : Array Operand} {ts : Array TypeId} {f : FuncId} {cap : Array Value} {vs : List Value} {fn : Func} {R' : Value → Hp → Nat → Prop} (ho : o.op = .call { callee := .value x, args := args, argTypes := ts })
    (hx : aeval NG fr x = some (.func (.func f) #[] cap)) [hf : FnInfo P f fn] (hv : args.toList.mapM (aeval NG fr) = some vs) (h : ACalls P NG f (vs ++ cap.toList) H nk R') (hR : ∀ v H' k', R' v H' k' → R v H' k') : AOp P NG o ⟨fr, H, nk⟩ R :=
  AOp.call ho hf.h hf.b hf.n hx hv (h.mono hR)

theorem AOp.len' {x : Operand} {t e : TypeId} {z : Nat} {A : Option Addr} {l c : Nat} (ho : o.op = .call { callee := .builtin .len, args := #[x], argTypes := #[t] }) [hf : SlInfo P t e z]
    (hx : aeval NG fr x = some (.slice A l c)) (hR : R (.int .i64 l) H nk) : AOp P NG o ⟨fr, H, nk⟩ R := AOp.len_slc ho (slB_inv hf.h).1 hx hR

theorem aOps_step {ops : Array Oper} {Q : St → Prop} {i : Nat} {rest : List Nat} {o : Oper} (ho : ops[i]? = some o) (hw : wantedA ops fr o = some true) (h : AOp P NG o ⟨fr, H, nk⟩ fun v H' k' => aOps P NG ops Q rest ⟨putA fr o.dst v, H', k'⟩) : aOps P NG ops Q (i :: rest) ⟨fr, H, nk⟩ := by
  simp only [aOps, ho, hw]
  exact h
theorem aOps_skip {ops : Array Oper} {Q : St → Prop} {i : Nat} {rest : List Nat} {o : Oper} (ho : ops[i]? = some o) (hw : wantedA ops fr o = some false) (h : aOps P NG ops Q rest ⟨putA fr o.dst undef, H, nk⟩) : aOps P NG ops Q (i :: rest) ⟨fr, H, nk⟩ := by
  simp only [aOps, ho, hw]
  exact h
end

theorem ACode.region' {P : Program} {NG N : Nat} {Q : Exit → St → Prop} {fr : Fr} {H : Hp} {nk : Nat} {id : Nat} {ops : Array Oper} (l : List Nat) (hd : dstsOk N ops = true) (hl : List.range ops.size = l) (h : aOps P NG ops (Q .normal) l ⟨fr, H, nk⟩) : ACode P NG N (.region id ops false) Q ⟨fr, H, nk⟩ :=
  ACode.region hd (by rw [hl]; exact h)
end Go.Ab
