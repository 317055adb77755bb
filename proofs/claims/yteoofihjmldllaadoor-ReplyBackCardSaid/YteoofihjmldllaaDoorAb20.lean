/- Abstract states over the model, parts 11 to 20: a logic of contracts over abstract heaps. No condition; over any program. -/
import Derived.Test.YteoofihjmldllaaDoorAb10
import Derived.OpenShut
import Derived.DataReads
import Derived.Below
import Derived.Carry
import Derived.ChangeSame
import Derived.Handed
import Derived.DeepKeys
import Derived.Laws.StructEq
set_option linter.unusedVariables false
set_option linter.unusedSimpArgs false
namespace Go.Ab
open Go.RowKit

/-! ### Facts on a program -/
class TyInfo (P : Program) (t : TypeId) (agg : outParam Bool) (z : outParam Nat) : Prop where
  a : isAggB P t = some agg
  s : sizeB P t = some z
class FieldInfo (P : Program) (t : TypeId) (f : Nat) (off : outParam Nat) (agg : outParam Bool) (z : outParam Nat) : Prop where
  h : fieldB P t f = some (off, agg, z)
class ArrInfo (P : Program) (t : TypeId) (n : outParam Nat) (agg : outParam Bool) (z : outParam Nat) : Prop where
  h : arrB P t = some (n, agg, z)
class SlInfo (P : Program) (t : TypeId) (e : outParam TypeId) (z : outParam Nat) : Prop where
  h : slB P t = some (e, z)
class ElemInfo (P : Program) (t : TypeId) (e : outParam TypeId) (z : outParam Nat) (bytes : outParam Nat) : Prop where
  h : elemB P t e z bytes = true
class ZeroInfo (P : Program) (t : TypeId) (v : outParam Value) : Prop where
  h : zeroB P t = some v
  p : v.cells.all isPlain = true
class DescInfo (P : Program) (t : TypeId) (d : outParam TypeDesc) : Prop where
  h : P.underlying t = some d
class FnInfo (P : Program) (f : FuncId) (fn : outParam Func) : Prop where
  h : P.funcs[f]? = some fn
  b : fn.body.isSome = true
  n : (fn.name == "runtime.NumGoroutine") = false

/-! ### Values of scalars -/
def ibit (op : BinOp) (k : IntKind) (x y : Int) : Int :=
  let a := BitVec.ofInt k.bits x
  let b := BitVec.ofInt k.bits y
  match op with
  | .and => k.wrap ((a &&& b).toNat : Int)
  | .or => k.wrap ((a ||| b).toNat : Int)
  | .xor => k.wrap ((a ^^^ b).toNat : Int)
  | _ => k.wrap ((a &&& ~~~b).toNat : Int)

def abin : BinOp → Value → Value → Option Value
  | .shl, .int k a, .int _ b => if b < 0 then none else some (.int k (k.wrap (a * 2 ^ (min b.toNat k.bits))))
  | .shr, .int k a, .int _ b => if b < 0 then none else some (.int k (a.fdiv (2 ^ (min b.toNat k.bits))))
  | op, .int k a, .int k' b => if k ≠ k' then none else match op with
    | .add => some (.int k (k.wrap (a + b)))
    | .sub => some (.int k (k.wrap (a - b)))
    | .mul => some (.int k (k.wrap (a * b)))
    | .quo => if b = 0 then none else some (.int k (k.wrap (a.tdiv b)))
    | .rem => if b = 0 then none else some (.int k (a.tmod b))
    | .and => some (.int k (ibit .and k a b))
    | .or => some (.int k (ibit .or k a b))
    | .xor => some (.int k (ibit .xor k a b))
    | .andNot => some (.int k (ibit .andNot k a b))
    | .eql => some (.bool (a == b))
    | .neq => some (.bool (a != b))
    | .lss => some (.bool (decide (a < b)))
    | .leq => some (.bool (decide (a ≤ b)))
    | .gtr => some (.bool (decide (a > b)))
    | .geq => some (.bool (decide (a ≥ b)))
    | _ => none
  | op, .string a, .string b => match op with
    | .add => if ((a.size + b.size : Nat) : Int) > 9223372036854775807 then none else some (.string (a ++ b))
    | .eql => some (.bool (a.toList == b.toList))
    | .neq => some (.bool (!(a.toList == b.toList)))
    | .lss => some (.bool (Op.bytesLess a.toList b.toList))
    | .leq => some (.bool (Op.bytesLess a.toList b.toList || a.toList == b.toList))
    | .gtr => some (.bool (!(Op.bytesLess a.toList b.toList || a.toList == b.toList)))
    | .geq => some (.bool (!Op.bytesLess a.toList b.toList))
    | _ => none
  | _, _, _ => none

theorem abin_run {P : Program} {w : World} {op : BinOp} {t : TypeId} {x y : Operand} {u v z : Value} (h : abin op u v = some z) : (do eqGuard op t x y u v; binOp op t u v : Sem Value).run P w = .ok z w ∧ selfRel u = true ∧ selfRel v = true ∧ selfRel z = true := by
  have hf : (∃ k a k' b, u = .int k a ∧ v = .int k' b) ∨ (∃ a b, u = .string a ∧ v = .string b) := by
    unfold abin at h
    split at h
    · exact .inl ⟨_, _, _, _, rfl, rfl⟩
    · exact .inl ⟨_, _, _, _, rfl, rfl⟩
    · exact .inl ⟨_, _, _, _, rfl, rfl⟩
    · exact .inr ⟨_, _, rfl, rfl⟩
    · cases h
  have hg : (eqGuard op t x y u v).run P w = .ok () w := by
    rcases hf with ⟨k, a, k', b, rfl, rfl⟩ | ⟨a, b, rfl, rfl⟩
    · simp [eqGuard]
    · simp [eqGuard]
  rw [Sem.run_bind, hg]
  simp only [Result.andThen_ok]
  unfold abin at h
  split at h
  · split at h
    · cases h
    · rename_i hb
      injection h with h
      subst h
      exact ⟨by simp [binOp, Op.shift, hb], rfl, rfl, rfl⟩
  · split at h
    · cases h
    · rename_i hb
      injection h with h
      subst h
      exact ⟨by simp [binOp, Op.shift, hb], rfl, rfl, rfl⟩
  · rename_i k a k' b hs1 hs2
    split at h
    · cases h
    · rename_i hk
      have hk' : k = k' := by simpa using hk
      subst hk'
      split at h
      all_goals first
        | (injection h with h
           subst h
           exact ⟨by simp [binOp, Op.intArith, Op.intCmp, Op.intBits, ibit], rfl, rfl, rfl⟩)
        | (split at h
           · cases h
           · rename_i hb
             injection h with h
             subst h
             exact ⟨by simp [binOp, Op.intDiv, hb], rfl, rfl, rfl⟩)
        | cases h
  · split at h
    all_goals first
      | (injection h with h
         subst h
         exact ⟨by simp [binOp, Op.stringOp], rfl, rfl, rfl⟩)
      | (split at h
         · cases h
         · rename_i hb
           injection h with h
           subst h
           refine ⟨?_, rfl, rfl, rfl⟩
           simp only [binOp, Op.stringOp]
           rw [if_neg (by simpa using hb)]
           rfl)
      | cases h
  · cases h

def aun : UnOp → Value → Option Value
  | .neg, .int k n => some (.int k (k.wrap (0 - n)))
  | .xor, .int k n => some (.int k (ibit .xor k (if k.signed then -1 else k.max) n))
  | .not, .bool b => some (.bool (!b))
  | _, _ => none

theorem aun_run {P : Program} {w : World} {op : UnOp} {u z : Value} (h : aun op u = some z) : (Op.unary op u).run P w = .ok z w ∧ selfRel u = true ∧ selfRel z = true := by
  unfold aun at h
  split at h
  all_goals first
    | (injection h with h
       subst h
       exact ⟨by simp [Op.unary, Op.intArith, Op.intBits, ibit], rfl, rfl⟩)
    | cases h

section
variable {P : Program} {NG : Nat} {fr : Fr} {H : Hp} {nk : Nat} {R : Value → Hp → Nat → Prop} {o : Oper}

theorem AOp.bin' {op : BinOp} {t t' : TypeId} {x y : Operand} {u v z : Value} (ho : o.op = .binOp op t x y t') (hx : aeval NG fr x = some u) (hy : aeval NG fr y = some v) (h : abin op u v = some z) (hR : R z H nk) : AOp P NG o ⟨fr, H, nk⟩ R :=
  have h0 := fun w => abin_run (P := P) (w := w) (t := t) (x := x) (y := y) h
  AOp.bin ho hx hy (h0 default).2.1 (h0 default).2.2.1 (h0 default).2.2.2 (fun w => (h0 w).1) hR

theorem AOp.un' {op : UnOp} {t : TypeId} {x : Operand} {u z : Value} (ho : o.op = .unOp op t x) (hx : aeval NG fr x = some u) (h : aun op u = some z) (hR : R z H nk) : AOp P NG o ⟨fr, H, nk⟩ R :=
  have h0 := fun w => aun_run (P := P) (w := w) h
  AOp.un ho hx (h0 default).2.1 (h0 default).2.2 (fun w => (h0 w).1) hR

/-- Whole numbers of one kind; the result lies in it. -/
theorem AOp.add {k : IntKind} {t t' : TypeId} {x y : Operand} {a b : Int} (ho : o.op = .binOp .add t x y t') (hx : aeval NG fr x = some (.int k a)) (hy : aeval NG fr y = some (.int k b)) (hw : k.wrap (a + b) = a + b) (hR : R (.int k (a + b)) H nk) : AOp P NG o ⟨fr, H, nk⟩ R :=
  AOp.bin' ho hx hy (z := .int k (a + b)) (by simp [abin, hw]) hR
theorem AOp.sub {k : IntKind} {t t' : TypeId} {x y : Operand} {a b : Int} (ho : o.op = .binOp .sub t x y t') (hx : aeval NG fr x = some (.int k a)) (hy : aeval NG fr y = some (.int k b)) (hw : k.wrap (a - b) = a - b) (hR : R (.int k (a - b)) H nk) : AOp P NG o ⟨fr, H, nk⟩ R :=
  AOp.bin' ho hx hy (z := .int k (a - b)) (by simp [abin, hw]) hR
theorem i64_wrap {a : Int} (h1 : -9223372036854775808 ≤ a) (h2 : a ≤ 9223372036854775807) : IntKind.i64.wrap a = a := by rw [IntKind.wrap_i64]; omega

/-- Between numbers. -/
theorem AOp.convInt {t t' : TypeId} {x : Operand} {k k' : IntKind} {a : Int} {d : TypeDesc} (ho : o.op = .convert t t' x) [DescInfo P t d] [hd : DescInfo P t' (.int k')] (hx : aeval NG fr x = some (.int k a)) (hR : R (.int k' (k'.wrap a)) H nk) : AOp P NG o ⟨fr, H, nk⟩ R := by
  have h1 := (inferInstance : DescInfo P t d).h
  refine AOp.conv (z := .int k' (k'.wrap a)) ho hx rfl rfl (fun w => ?_) hR
  unfold convert
  rw [Sem.run_bind, run_underlying h1]
  simp only [Result.andThen_ok]
  rw [Sem.run_bind, run_underlying hd.h]
  simp only [Result.andThen_ok, Conv.intToInt]
  rfl

theorem AOp.load1 {t : TypeId} {x : Operand} {n off : Nat} {b : Blk} {v : Value} {z : Nat} (ho : o.op = .load t x) [ht : TyInfo P t false z] (hx : aeval NG fr x = some (.pointer (some ⟨n, off, none⟩))) (hn : H n = some b) (hv : b.cells[off]? = some v) (hR : R v H nk) : AOp P NG o ⟨fr, H, nk⟩ R := by
  refine AOp.load ho hx ?_ hR
  have hlt := (List.getElem?_eq_some_iff.1 hv).1
  have : (b.cells.drop off).take 1 = [v] := by
    rw [List.drop_eq_getElem_cons hlt, List.take_succ_cons, List.take_zero]
    rw [List.getElem?_eq_getElem hlt] at hv
    injection hv with hv
    rw [hv]
  simp only [aloadVar, ht.a, aload, hcells, hn]
  rw [if_pos (by omega), this]

/-- A struct or an array. -/
theorem AOp.loadN {t : TypeId} {x : Operand} {n off : Nat} {b : Blk} {z : Nat} {cs : List Value} (ho : o.op = .load t x) [ht : TyInfo P t true z] (hx : aeval NG fr x = some (.pointer (some ⟨n, off, none⟩))) (hn : H n = some b) (hl : off + z ≤ b.cells.length) (hcs : (b.cells.drop off).take z = cs) (hR : R (.agg cs.toArray) H nk) : AOp P NG o ⟨fr, H, nk⟩ R := by
  refine AOp.load ho hx ?_ hR
  simp only [aloadVar, ht.a, ht.s, aload, hcells, hn]
  rw [if_pos hl, hcs]
  rfl
theorem AOp.fieldAddr' {t : TypeId} {x : Operand} {f off z : Nat} {agg : Bool} {n d : Nat} (ho : o.op = .fieldAddr t x f) [hf : FieldInfo P t f off agg z] (hz0 : 0 < z)
    (hx : aeval NG fr x = some (.pointer (some ⟨n, d, none⟩))) (hR : R (.pointer (some ⟨n, d + off, none⟩)) H nk) : AOp P NG o ⟨fr, H, nk⟩ R :=
  AOp.fieldAddr ho hf.h hz0 hx rfl hR

theorem AOp.indexAddr_slc' {t e : TypeId} {x y : Operand} {z : Nat} {p q : Value} {i : Int} {ik : IntKind} (ho : o.op = .indexAddr t x y) [hf : SlInfo P t e z]
    (hx : aeval NG fr x = some p) (hy : aeval NG fr y = some (.int ik i)) (h0 : 0 ≤ i) (hq : aslcAt H z i.toNat p = some q) (hR : R q H nk) : AOp P NG o ⟨fr, H, nk⟩ R :=
  AOp.indexAddr_slc ho hf.h hx hy h0 hq hR

theorem AOp.store1 {t : TypeId} {x y : Operand} {n off : Nat} {b : Blk} {v : Value} (ho : o.op = .store t x y) [ht : TyInfo P t false 1] (hx : aeval NG fr x = some (.pointer (some ⟨n, off, none⟩)))
    (hy : aeval NG fr y = some v) (hn : H n = some b) (hk : b.kind = .fix) (hc : v.cells = #[v]) (h1 : v.oneCell' = true) (hl : off < b.cells.length) (hR : R undef (upd H n (some { b with cells := b.cells.set off v })) nk) : AOp P NG o ⟨fr, H, nk⟩ R := by
  refine AOp.store ho ht.s hx hy hn hk (by rw [hc]; rfl) (by rw [hc]; simp [h1]) (by omega) ?_
  have : putL b.cells off v.cells.toList = b.cells.set off v := by
    rw [hc]
    unfold putL
    rw [List.set_eq_take_append_cons_drop, if_pos hl]
    simp
  rw [this]
  exact hR

theorem AOp.storeN {t : TypeId} {x y : Operand} {n off z : Nat} {b : Blk} {cs : Array Value} (ho : o.op = .store t x y) [ht : TyInfo P t true z] (hx : aeval NG fr x = some (.pointer (some ⟨n, off, none⟩)))
    (hy : aeval NG fr y = some (.agg cs)) (hn : H n = some b) (hk : b.kind = .fix) (hz : cs.size = z) (h1 : cs.all (·.oneCell') = true) (hl : off + z ≤ b.cells.length) (hR : R undef (upd H n (some { b with cells := putL b.cells off cs.toList })) nk) : AOp P NG o ⟨fr, H, nk⟩ R :=
  AOp.store ho ht.s hx hy hn hk hz h1 hl hR

theorem AOp.alloc' {e : TypeId} {z : Value} (ho : o.op = .alloc e) [hz : ZeroInfo P e z]
    (hR : R (.pointer (some ⟨nk, 0, none⟩)) (upd H nk (some { cells := z.cells.toList, elem := e, kind := .fix })) (nk + 1)) : AOp P NG o ⟨fr, H, nk⟩ R := AOp.alloc ho hz.h hz.p hR

theorem AOp.call' {x : Operand} {args : Array Operand} {ts : Array TypeId} {f : FuncId} {cap : Array Value} {vs : List Value} {fn : Func} {R' : Value → Hp → Nat → Prop} (ho : o.op = .call { callee := .value x, args := args, argTypes := ts })
    (hx : aeval NG fr x = some (.func (.func f) #[] cap)) [hf : FnInfo P f fn] (hv : args.toList.mapM (aeval NG fr) = some vs) (h : ACalls P NG f (vs ++ cap.toList) H nk R') (hR : ∀ v H' k', R' v H' k' → R v H' k') : AOp P NG o ⟨fr, H, nk⟩ R :=
  AOp.call ho hf.h hf.b hf.n hx hv (h.mono hR)

theorem AOp.len' {x : Operand} {t e : TypeId} {z : Nat} {A : Option Addr} {l c : Nat} (ho : o.op = .call { callee := .builtin .len, args := #[x], argTypes := #[t] }) [hf : SlInfo P t e z]
    (hx : aeval NG fr x = some (.slice A l c)) (hR : R (.int .i64 l) H nk) : AOp P NG o ⟨fr, H, nk⟩ R := AOp.len_slc ho (slB_inv hf.h).1 hx hR

theorem aOps_step {ops : Array Oper} {Q : St → Prop} {i : Nat} {rest : List Nat} {o : Oper} (ho : ops[i]? = some o) (hw : wantedA ops fr o = some true) (h : AOp P NG o ⟨fr, H, nk⟩ fun v H' k' => aOps P NG ops Q rest ⟨putA fr o.dst v, H', k'⟩) : aOps P NG ops Q (i :: rest) ⟨fr, H, nk⟩ := by
  simp only [aOps, ho, hw]
  exact h
theorem aOps_skip {ops : Array Oper} {Q : St → Prop} {i : Nat} {rest : List Nat} {o : Oper} (ho : ops[i]? = some o) (hw : wantedA ops fr o = some false) (h : aOps P NG ops Q rest ⟨putA fr o.dst undef, H, nk⟩) : aOps P NG ops Q (i :: rest) ⟨fr, H, nk⟩ := by
  simp only [aOps, ho, hw]
  exact h
end

theorem ACode.region' {P : Program} {NG N : Nat} {Q : Exit → St → Prop} {fr : Fr} {H : Hp} {nk : Nat} {id : Nat} {ops : Array Oper} (l : List Nat) (hd : dstsOk N ops = true) (hl : List.range ops.size = l) (h : aOps P NG ops (Q .normal) l ⟨fr, H, nk⟩) : ACode P NG N (.region id ops false) Q ⟨fr, H, nk⟩ :=
  ACode.region hd (by rw [hl]; exact h)
end Go.Ab

set_option linter.unusedVariables false
set_option linter.unusedSimpArgs false
namespace Go.Ab
open Go.RowKit

/-- The value is x, the heap as it was (what is new is forgotten). -/
def Same (H : Hp) (k : Nat) (x : Value) (v : Value) (H' : Hp) (k' : Nat) : Prop := v = x ∧ H' = H ∧ k ≤ k'

/-- A body's end: its results, a heap that is kept of what there is then. -/
def RetQ (P : Program) (fn : Func) (H : Hp) (k : Nat) (R : Value → Hp → Nat → Prop) : Exit → St → Prop
  | .normal, s' => k ≤ s'.k → ∃ xs H'', aresults P fn.results.toList s'.fr s'.H = some xs ∧ Sub H'' s'.H ∧ (∀ n b, H n = some b → ∃ b', H'' n = some b') ∧ R (packA xs) H'' s'.k
  | .ret, s' => k ≤ s'.k → ∃ xs H'', aresults P fn.results.toList s'.fr s'.H = some xs ∧ Sub H'' s'.H ∧ (∀ n b, H n = some b → ∃ b', H'' n = some b') ∧ R (packA xs) H'' s'.k
  | _, _ => False

section
variable {P : Program} {NG : Nat}

theorem Keep.less {H H' H'' : Hp} {k k' : Nat} {G G' : GMap} {w w' : World} (h : Keep H k G w H' k' G' w') (hs : Sub H'' H') (hk : ∀ n b, H n = some b → ∃ b', H'' n = some b') : Keep H k G w H'' k' G' w' where
  le := h.le
  names := h.names
  size := h.size
  others := h.others
  same := h.same
  dom := fun n hn h0 => by
    cases hh : H'' n with
    | none => rfl
    | some b =>
      have := hs n b hh
      rw [h.dom n hn h0] at this
      cases this
  newer := h.newer
  stay := fun n b hn => by
    obtain ⟨b', h1⟩ := hk n b hn
    obtain ⟨b'', h2, h3⟩ := h.stay n b hn
    rw [hs n b' h1] at h2
    injection h2 with h2
    subst h2
    exact ⟨b', h1, h3⟩

theorem ACalls.body {f : FuncId} {fn : Func} {c : Code} {vs : List Value} {H : Hp} {k : Nat} {R : Value → Hp → Nat → Prop} (hf : P.funcs[f]? = some fn) (hb : fn.body = some c) (hn : vs.length ≤ fn.ntmps)
    (h : ACode P NG fn.ntmps c (RetQ P fn H k R) ⟨frOf vs, H, k⟩) : ACalls P NG f vs H k R := by
  intro B w0 G vs' w hS hv
  refine calls_of_wp hf hb ?_
  have hF : FRel G fn.ntmps (frOf vs) (vs' ++ Array.replicate (fn.ntmps - vs'.size) undef) := by
    refine ⟨by have := hv.1; simp; omega, fun t v ht => ?_⟩
    obtain ⟨v', h1, h2⟩ := hv.2 t v ht
    have hlt : t < vs'.size := (Array.getElem?_eq_some_iff.1 h1).1
    have e : (vs' ++ Array.replicate (fn.ntmps - vs'.size) undef).getD t undef = v' := by
      rw [Array.getD_eq_getD_getElem?, Array.getElem?_append_left hlt, h1]
      rfl
    rw [e]
    exact h2
  refine wp_mono (h B w0 G _ w ⟨hS, hF⟩ rfl) ?_
  rintro e a' w' ⟨s', G', hq, hs', hk, hd⟩
  have fin : (k ≤ s'.k → ∃ xs H'', aresults P fn.results.toList s'.fr s'.H = some xs ∧ Sub H'' s'.H ∧ (∀ n b, H n = some b → ∃ b', H'' n = some b') ∧ R (packA xs) H'' s'.k) →
      a'.defers = [] ∧ ∃ v, (results fn a'.tmps).run P w' = .ok v w' ∧ ∃ u v' H' k' G', Ending.returned v = .returned v' ∧ R u H' k' ∧ VRel G' u v' ∧ SRel NG B w0 G' H' k' w' ∧ Keep H k G w H' k' G' w' := by
    intro h0
    obtain ⟨xs, H'', hx, hsub, hst, hR⟩ := h0 hk.names
    obtain ⟨x', hr, hvx⟩ := results_rel (fn := fn) hs'.S hs'.F hx
    exact ⟨hd, x', hr, packA xs, x', H'', s'.k, G', rfl, hR, hvx, hs'.S.less hsub, hk.less hsub hst⟩
  cases e with
  | normal => exact fin hq
  | ret => exact fin hq
  | _ => exact hq.elim

/-- One result, in a slot. -/
theorem RetQ.one {fn : Func} {H H'' : Hp} {k t : Nat} {R : Value → Hp → Nat → Prop} {fr : Fr} {H' : Hp} {k' : Nat} {v : Value} (hr : fn.results = #[.tmp t]) (hv : fr t = some v) (hs : Sub H'' H') (hst : ∀ n b, H n = some b → ∃ b', H'' n = some b') (hR : k ≤ k' → R v H'' k') :
    RetQ P fn H k R .ret ⟨fr, H', k'⟩ := by
  intro hk
  refine ⟨[v], H'', ?_, hs, hst, hR hk⟩
  rw [hr]
  simp [aresults, aresult, hv]

/-- Two results, in slots. -/
theorem RetQ.two {fn : Func} {H H'' : Hp} {k t t' : Nat} {R : Value → Hp → Nat → Prop} {fr : Fr} {H' : Hp} {k' : Nat} {v v' : Value} (hr : fn.results = #[.tmp t, .tmp t']) (hv : fr t = some v) (hv' : fr t' = some v') (hs : Sub H'' H') (hst : ∀ n b, H n = some b → ∃ b', H'' n = some b') (hR : k ≤ k' → R (.tuple #[v, v']) H'' k') :
    RetQ P fn H k R .ret ⟨fr, H', k'⟩ := by
  intro hk
  refine ⟨[v, v'], H'', ?_, hs, hst, hR hk⟩
  rw [hr]
  simp [aresults, aresult, hv, hv']

/-- No result. -/
theorem RetQ.none_ {fn : Func} {H H'' : Hp} {k : Nat} {R : Value → Hp → Nat → Prop} {fr : Fr} {H' : Hp} {k' : Nat} (hr : fn.results = #[]) (hs : Sub H'' H') (hst : ∀ n b, H n = some b → ∃ b', H'' n = some b') (hR : k ≤ k' → R (.tuple #[]) H'' k') :
    RetQ P fn H k R .normal ⟨fr, H', k'⟩ := by
  intro hk
  refine ⟨[], H'', ?_, hs, hst, hR hk⟩
  rw [hr]
  simp [aresults]

theorem stays {H : Hp} : ∀ n b, H n = some b → ∃ b', H n = some b' := fun n b h => ⟨b, h⟩

end
end Go.Ab

set_option linter.unusedVariables false
set_option linter.unusedSimpArgs false
namespace Go.Ab
open Go.RowKit

/-- A frame of what one operation looks at: slots, each with the operation that gives it, or as it was ahead of the region. -/
def useFr (env : Fr) (fr0 : Fr) : List (Nat × Option Nat) → Fr
  | [] => fun _ => none
  | (t, some j) :: U => upd (useFr env fr0 U) t (env j)
  | (t, none) :: U => upd (useFr env fr0 U) t (fr0 t)

def useOk (ops : Array Oper) (i : Nat) (U : List (Nat × Option Nat)) : Bool :=
  U.all fun p => match p.2 with
    | some j => edgeOn ops i j && (match ops[j]? with | some o => o.dst == some p.1 | none => false)
    | none => (List.range ops.size).all fun j => match ops[j]? with | some o => !(o.dst == some p.1) || j == i || edgeOn ops j i | none => true

section
variable {P : Program} {NG N : Nat} {s : St} {Q : Exit → St → Prop} {ops : Array Oper}

/-- From the values of the first operations on: each next one has a value, whatever has been done besides; K: what holds of all values. -/
def Draw (P : Program) (NG : Nat) (ops : Array Oper) (s : St) (m : Nat) (K : Fr → Nat → Prop) : Nat → Fr → Prop
  | 0, env => ∀ k, s.k ≤ k → K env k
  | n + 1, env => ∃ (o : Oper) (v : Value), ops[m - (n + 1)]? = some o ∧ (∃ U, useOk ops (m - (n + 1)) U = true ∧ ∀ k, s.k ≤ k → stepA P NG ops o ⟨useFr env s.fr U, s.H, k⟩ fun v' H' k' => v' = v ∧ H' = s.H ∧ k ≤ k') ∧ Draw P NG ops s m K n (upd env (m - (n + 1)) (some v))

theorem draw_values {m : Nat} {K : Fr → Nat → Prop} : ∀ (n : Nat) (env : Fr), n ≤ m → (∀ j, m - n ≤ j → env j = none) → Draw P NG ops s m K n env →
    ∃ all : Fr, (∀ i, i < m - n → all i = env i) ∧ (∀ k, s.k ≤ k → K all k) ∧
      ∀ i, m - n ≤ i → i < m → ∃ o v, ops[i]? = some o ∧ all i = some v ∧ ∃ U, useOk ops i U = true ∧ ∀ k, s.k ≤ k → stepA P NG ops o ⟨useFr (fun j => if j < i then all j else none) s.fr U, s.H, k⟩ fun v' H' k' => v' = v ∧ H' = s.H ∧ k ≤ k'
  | 0, env, _, hl, h => ⟨env, fun _ _ => rfl, h, fun i h1 h2 => by omega⟩
  | n + 1, env, hn, hl, h => by
    obtain ⟨o, v, ho, ⟨U, hU, hst⟩, hr⟩ := h
    obtain ⟨all, h2, h3, h4⟩ := draw_values n (upd env (m - (n + 1)) (some v)) (by omega) (fun j hj => by
      rw [upd_other _ _ (by omega)]
      exact hl j (by omega)) hr
    refine ⟨all, fun i hi => ?_, h3, fun i hi1 hi2 => ?_⟩
    · rw [h2 i (by omega), upd_other _ _ (by omega)]
    · rcases Nat.lt_or_ge i (m - n) with hlt | hge
      · have e : i = m - (n + 1) := by omega
        subst e
        refine ⟨o, v, ho, ?_, U, hU, fun k hk => ?_⟩
        · rw [h2 _ (by omega), upd_same]
        · have e2 : (fun j => if j < m - (n + 1) then all j else none) = env := by
            funext j
            by_cases hj : j < m - (n + 1)
            · rw [if_pos hj, h2 j (by omega), upd_other _ _ (by omega)]
            · rw [if_neg hj, hl j (by omega)]
          rw [e2]
          exact hst k hk
      · exact h4 i hge hi2

theorem AOp.less {o : Oper} {fr fr' : Fr} {H : Hp} {k : Nat} {R : Value → Hp → Nat → Prop} (h : AOp P NG o ⟨fr', H, k⟩ R) (hl : ∀ t v, fr' t = some v → fr t = some v) : AOp P NG o ⟨fr, H, k⟩ R :=
  fun N B w0 G a w hs next Q hn => h N B w0 G a w ⟨hs.S, hs.F.less hl⟩ next Q hn

theorem stepA_less {o : Oper} {fr fr' : Fr} {H : Hp} {k : Nat} {R : Value → Hp → Nat → Prop} (h : stepA P NG ops o ⟨fr', H, k⟩ R) (hl : ∀ t v, fr' t = some v → fr t = some v) : stepA P NG ops o ⟨fr, H, k⟩ R := by
  unfold stepA at h ⊢
  have hw : ∀ b, wantedA ops fr' o = some b → wantedA ops fr o = some b := by
    intro b hb
    unfold wantedA at hb ⊢
    cases hg : o.guard with
    | none => simp only [hg] at hb ⊢; exact hb
    | some p =>
      obtain ⟨j, want⟩ := p
      simp only [hg] at hb ⊢
      cases hd : (ops[j]?).bind (·.dst) with
      | none => simp [hd] at hb
      | some t =>
        simp only [hd] at hb ⊢
        cases hf : fr' t with
        | none => simp [hf] at hb
        | some v =>
          rw [hf] at hb
          rw [hl t v hf]
          exact hb
  cases hb : wantedA ops fr' o with
  | none => rw [hb] at h; exact h.elim
  | some b =>
    rw [hw b hb]
    rw [hb] at h
    cases b with
    | true => exact h.less hl
    | false => exact h

theorem useFr_get {env : Fr} {fr0 : Fr} {t : Nat} {v : Value} : ∀ (U : List (Nat × Option Nat)), useFr env fr0 U t = some v → (∃ j, (t, some j) ∈ U ∧ env j = some v) ∨ ((t, none) ∈ U ∧ fr0 t = some v)
  | [], h => by simp [useFr] at h
  | (u, some j) :: U, h => by
    simp only [useFr] at h
    by_cases hu : t = u
    · subst hu
      rw [upd_same] at h
      exact .inl ⟨j, List.mem_cons_self, h⟩
    · rw [upd_other _ _ hu] at h
      rcases useFr_get U h with ⟨j', h1, h2⟩ | ⟨h1, h2⟩
      · exact .inl ⟨j', List.mem_cons_of_mem _ h1, h2⟩
      · exact .inr ⟨List.mem_cons_of_mem _ h1, h2⟩
  | (u, none) :: U, h => by
    simp only [useFr] at h
    by_cases hu : t = u
    · subst hu
      rw [upd_same] at h
      exact .inr ⟨List.mem_cons_self, h⟩
    · rw [upd_other _ _ hu] at h
      rcases useFr_get U h with ⟨j', h1, h2⟩ | ⟨h1, h2⟩
      · exact .inl ⟨j', List.mem_cons_of_mem _ h1, h2⟩
      · exact .inr ⟨List.mem_cons_of_mem _ h1, h2⟩

/-- The region: the first m operations in whatever order, each with its value; the others in the text's order. -/
theorem ACode.draw {id : Nat} (m : Nat) (L : List (Nat × Nat)) (hm : P.follows .mixedOrders = true) (hok : drawOk N ops m L = true)
    (h : Draw P NG ops s m (fun env k => aOps P NG ops (Q .normal) (List.range' m (ops.size - m)) ⟨puts s.fr (L.map fun p => (p.2, (env p.1).getD undef)), s.H, k⟩) m (fun _ => none)) : ACode P NG N (.region id ops true) Q s := by
  have hmn : m ≤ ops.size := by
    unfold drawOk at hok
    simp only [Bool.and_eq_true, decide_eq_true_eq] at hok
    exact hok.1.1.1.1.2
  obtain ⟨all, _, h3, h4⟩ := draw_values m (fun _ => none) (Nat.le_refl _) (fun _ _ => rfl) h
  refine ACode.region_tail m L hm hok Eq (fun _ => rfl) (fun h k => h.trans k) (fun i v _ => all i = some v) (fun i v H H' h _ => h) ?_ ?_
  · intro i o ho hi fr H k hH hk hdeps holds
    subst hH
    obtain ⟨o', v, ho', hv, U, hU, hst⟩ := h4 i (by omega) hi
    rw [ho] at ho'
    injection ho' with ho'
    subst ho'
    refine (stepA_less (hst k hk) fun t u hu => ?_).mono fun v' H' k' ⟨e1, e2, e3⟩ => ⟨by rw [e1]; exact hv, e2.symm, e3⟩
    unfold useOk at hU
    rw [List.all_eq_true] at hU
    rcases useFr_get U hu with ⟨j, hj, hu2⟩ | ⟨hj, hu2⟩
    · have := hU _ hj
      simp only [Bool.and_eq_true] at this
      obtain ⟨he, hd⟩ := this
      cases hoj : ops[j]? with
      | none => simp [hoj] at hd
      | some oj =>
        simp only [hoj, beq_iff_eq] at hd
        obtain ⟨v', hv1, hv2⟩ := hdeps j oj t hoj he hd
        rw [hv1]
        split at hu2
        · rw [hv2] at hu2; exact hu2
        · cases hu2
    · have := hU _ hj
      simp only [List.all_eq_true] at this
      rw [holds t fun j oj hoj hdj => ?_]
      · exact hu2
      · have hlt := (Array.getElem?_eq_some_iff.1 hoj).1
        have h5 := this j (List.mem_range.2 hlt)
        simp only [hoj, hdj, beq_self_eq_true, Bool.not_true, Bool.false_or, Bool.or_eq_true, beq_iff_eq] at h5
        exact h5
  · intro vs H k hH hk hφ
    subst hH
    have := h3 k hk
    have e : (L.map fun p => (p.2, (all p.1).getD undef)) = L.map fun p => (p.2, vs p.1) := by
      refine List.map_congr_left fun p hp => ?_
      have := hφ p hp
      simp [this]
    rw [e] at this
    exact this

theorem ACode.draw' {id : Nat} {fr : Fr} {H : Hp} {nk : Nat} (m : Nat) (L : List (Nat × Nat)) (hm : P.follows .mixedOrders = true) (hok : drawOk N ops m L = true)
    (h : Draw P NG ops ⟨fr, H, nk⟩ m (fun env k => aOps P NG ops (Q .normal) (List.range' m (ops.size - m)) ⟨puts fr (L.map fun p => (p.2, (env p.1).getD undef)), H, k⟩) m (fun _ => none)) : ACode P NG N (.region id ops true) Q ⟨fr, H, nk⟩ := ACode.draw m L hm hok h
variable {fr : Fr} {H : Hp} {nk : Nat}
theorem Draw.step {m n : Nat} {K : Fr → Nat → Prop} {env : Fr} {o : Oper} {v : Value} (U : List (Nat × Option Nat)) (ho : ops[m - (n + 1)]? = some o) (hU : useOk ops (m - (n + 1)) U = true) (hw : wantedA ops (useFr env fr U) o = some true)
    (h : ∀ k, nk ≤ k → AOp P NG o ⟨useFr env fr U, H, k⟩ fun v' H' k' => v' = v ∧ H' = H ∧ k ≤ k') (hr : Draw P NG ops ⟨fr, H, nk⟩ m K n (upd env (m - (n + 1)) (some v))) : Draw P NG ops ⟨fr, H, nk⟩ m K (n + 1) env :=
  ⟨o, v, ho, ⟨U, hU, fun k hk => by unfold stepA; rw [hw]; exact h k hk⟩, hr⟩
theorem Draw.done {m : Nat} {K : Fr → Nat → Prop} {env : Fr} (h : ∀ k, nk ≤ k → K env k) : Draw P NG ops ⟨fr, H, nk⟩ m K 0 env := h

/-! ### A frame written out -/
def frL : List (Nat × Value) → Fr
  | [] => fun _ => none
  | (t, v) :: l => upd (frL l) t (some v)
def Has (fr : Fr) (l : List (Nat × Value)) : Prop := ∀ p ∈ l, fr p.1 = some p.2
theorem Has.nil {fr : Fr} : Has fr [] := fun p hp => by cases hp
theorem Has.cons {fr : Fr} {l : List (Nat × Value)} {t : Nat} {v : Value} (h : fr t = some v) (hl : Has fr l) : Has fr ((t, v) :: l) := fun p hp => by
  rcases List.mem_cons.1 hp with rfl | hp
  · exact h
  · exact hl p hp
theorem frL_get {t : Nat} {v : Value} : ∀ (l : List (Nat × Value)), frL l t = some v → (t, v) ∈ l
  | [], h => by simp [frL] at h
  | (u, x) :: l, h => by
    simp only [frL] at h
    by_cases hu : t = u
    · subst hu
      rw [upd_same] at h
      injection h with h
      subst h
      exact List.mem_cons_self
    · rw [upd_other _ _ hu] at h
      exact List.mem_cons_of_mem _ (frL_get l h)
theorem ACode.has {c : Code} {l : List (Nat × Value)} (h : Has fr l) (hc : ACode P NG N c Q ⟨frL l, H, nk⟩) : ACode P NG N c Q ⟨fr, H, nk⟩ :=
  ACode.less hc fun t v ht => h (t, v) (frL_get l ht)
end
end Go.Ab

set_option linter.unusedVariables false
set_option linter.unusedSimpArgs false
namespace Go.Ab
open Go.RowKit

abbrev W32 := BitVec 32
def bv (b : UInt8) : Value := .int .u8 (b.toNat : Int)

section
variable {P : Program} {NG : Nat} {fr : Fr} {H : Hp} {nk : Nat} {R : Value → Hp → Nat → Prop} {o : Oper} {t t' : TypeId} {x y : Operand} {a b : W32}
end

end Go.Ab

set_option linter.unusedVariables false
set_option linter.unusedSimpArgs false
namespace Go.Ab
open Go.RowKit

/-- One type's cells, or several types' cells, one behind the other. -/
inductive Kd where
  | one (t : TypeId)
  | many (ts : List TypeId)

/-- Cells of a type (or of types) over an abstract heap: what is pointed at is only read. -/
inductive AD (P : Program) (H : Hp) : Kd → List Value → Prop
  | bool {t : TypeId} {b : Bool} (ht : P.underlying t = some .bool) : AD P H (.one t) [.bool b]
  | int {t : TypeId} {k : IntKind} {n : Int} (ht : P.underlying t = some (.int k)) (hw : (Lit.int k n).wf = true) : AD P H (.one t) [.int k n]
  | str {t : TypeId} {s : ByteArray} (ht : P.underlying t = some .string) (hs : s.size ≤ reachBytes) : AD P H (.one t) [.string s]
  | nilPtr {t e : TypeId} (ht : P.underlying t = some (.pointer e)) : AD P H (.one t) [.pointer none]
  | ptr {t e : TypeId} {n : Nat} {cs : List Value} (ht : P.underlying t = some (.pointer e)) (hn : H n = some ⟨cs, e, .ro, 1⟩) (hl : cs.length = P.cellsOf e) (h : AD P H (.one e) cs) :
      AD P H (.one t) [.pointer (some ⟨n, 0, none⟩)]
  | nilSlc {t e : TypeId} (ht : P.underlying t = some (.slice e)) : AD P H (.one t) [.slice none 0 0]
  | slc0 {t e : TypeId} {n c : Nat} (ht : P.underlying t = some (.slice e)) (hm : c ≤ maxLen) : AD P H (.one t) [.slice (some ⟨n, 0, none⟩) 0 c]
  | slc {t e : TypeId} {n l c : Nat} {cs : List Value} (ht : P.underlying t = some (.slice e)) (hn : H n = some ⟨cs, e, .ro, 1⟩) (hl : cs.length = l * P.cellsOf e) (h0 : 0 < l) (hc : l ≤ c) (hm : c ≤ maxLen) (hr : l * P.bytesOf e ≤ reachBytes)
      (h : AD P H (.many (List.replicate l e)) cs) : AD P H (.one t) [.slice (some ⟨n, 0, none⟩) l c]
  | struct {t : TypeId} {fs : Array Field} {cs : List Value} (ht : P.underlying t = some (.struct fs)) (hl : cs.length = P.cellsOf t) (h : AD P H (.many (fs.toList.map (·.type))) cs) : AD P H (.one t) cs
  | array {t e : TypeId} {n : Nat} {cs : List Value} (ht : P.underlying t = some (.array n e)) (hl : cs.length = P.cellsOf t) (h : AD P H (.many (List.replicate n e)) cs) : AD P H (.one t) cs
  | nil : AD P H (.many []) []
  | cons {t : TypeId} {ts : List TypeId} {a b : List Value} (ha : AD P H (.one t) a) (hl : a.length = P.cellsOf t) (hb : AD P H (.many ts) b) : AD P H (.many (t :: ts)) (a ++ b)

theorem AD.mono {P : Program} {H H' : Hp} (hs : Sub H H') {kd : Kd} {cs : List Value} (h : AD P H kd cs) : AD P H' kd cs := by
  induction h with
  | bool ht => exact .bool ht
  | int ht hw => exact .int ht hw
  | str ht hw => exact .str ht hw
  | nilPtr ht => exact .nilPtr ht
  | ptr ht hn hl _ ih => exact .ptr ht (hs _ _ hn) hl ih
  | nilSlc ht => exact .nilSlc ht
  | slc0 ht hm => exact .slc0 ht hm
  | slc ht hn hl h0 hc hm hr _ ih => exact .slc ht (hs _ _ hn) hl h0 hc hm hr ih
  | struct ht hl _ ih => exact .struct ht hl ih
  | array ht hl _ ih => exact .array ht hl ih
  | nil => exact .nil
  | cons _ hl _ iha ihb => exact .cons iha hl ihb

theorem AD.snoc {P : Program} {H : Hp} {t : TypeId} {a : List Value} (ha : AD P H (.one t) a) (hl : a.length = P.cellsOf t) : ∀ {ts : List TypeId} {b : List Value}, AD P H (.many ts) b → AD P H (.many (ts ++ [t])) (b ++ a)
  | [], _, h => by
    cases h
    have := AD.cons ha hl AD.nil
    simpa using this
  | t' :: ts, _, h => by
    cases h with
    | @cons _ _ a' b' ha' hl' hb' =>
      rw [List.append_assoc]
      exact .cons ha' hl' (AD.snoc ha hl hb')

/-- Cells, one by one. -/
def LRel (G : GMap) (cs cs' : List Value) : Prop := cs.length = cs'.length ∧ ∀ (i : Nat) (v v' : Value), cs[i]? = some v → cs'[i]? = some v' → VRel G v v'

theorem LRel.mono {G G' : GMap} (hG : GLe G G') {cs cs' : List Value} (h : LRel G cs cs') : LRel G' cs cs' := ⟨h.1, fun i v v' h1 h2 => (h.2 i v v' h1 h2).mono hG⟩
theorem LRel.nil {G : GMap} : LRel G [] [] := ⟨rfl, fun i v v' h => by simp at h⟩
theorem LRel.single {G : GMap} {v v' : Value} (h : VRel G v v') : LRel G [v] [v'] := ⟨rfl, fun i u u' h1 h2 => by
  cases i with
  | zero => simp at h1 h2; subst h1; subst h2; exact h
  | succ i => simp at h1⟩
theorem LRel.append {G : GMap} {a a' b b' : List Value} (h : LRel G a a') (h' : LRel G b b') : LRel G (a ++ b) (a' ++ b') := by
  refine ⟨by simp [h.1, h'.1], fun i v v' h1 h2 => ?_⟩
  rcases Nat.lt_or_ge i a.length with hlt | hge
  · rw [List.getElem?_append_left hlt] at h1
    rw [List.getElem?_append_left (by rw [← h.1]; exact hlt)] at h2
    exact h.2 i v v' h1 h2
  · rw [List.getElem?_append_right hge] at h1
    rw [List.getElem?_append_right (by rw [← h.1]; exact hge), ← h.1] at h2
    exact h'.2 _ v v' h1 h2

theorem cell_lt {w : World} {a : Addr} {v : Value} (h : w.cell? a = some v) : a.block < w.heap.size := by
  rcases Nat.lt_or_ge a.block w.heap.size with hlt | hge
  · exact hlt
  · have h0 : w.heap[a.block]? = none := Array.getElem?_eq_none hge
    simp [World.cell?, h0] at h

section
variable {P : Program} {NG B : Nat} {w0 w : World} {G : GMap} {H : Hp} {k : Nat}

/-- A new name for an address of old, that nothing is known of, or a block that is only read. -/
theorem SRel.look (h : SRel NG B w0 G H k w) (a : Addr) (ob : Option Blk) (hb : ∀ b, ob = some b → b.kind = .ro ∧ a.block < B ∧ CRel (upd G k (.at a)) b.cells (fun j => w.cell? (a.add j)) b.cells.length) :
    SRel NG B w0 (upd G k (.at a)) (upd H k ob) (k + 1) w := by
  have hG := gle_upd (x := .at a) h
  refine h.update h.below h.base hG (Nat.le_succ _) (· = k) ?_ ?_ ?_ ?_
  · intro n hn
    exact ⟨upd_other _ _ hn, fun h0 => ⟨upd_other _ _ hn, fun y hy => rfl⟩⟩
  · rintro n c rfl hc
    rw [upd_same] at hc ⊢
    obtain ⟨h1, h2, h3⟩ := hb c hc
    unfold BRel
    rw [h1]
    exact ⟨a, rfl, h2, h3⟩
  · rintro n c rfl hc ho
    rw [upd_same] at hc
    have h1 := (hb c hc).1
    unfold Blk.own at ho
    rw [h1] at ho
    cases ho
  · intro n hn
    rw [upd_other _ _ (by omega), upd_other _ _ (by omega)]
    exact h.fresh n (by omega)

/-- The types that are taken up: plain ones, whose parts tile them. -/
def tiles (P : Program) : Nat → List Field → Nat → Bool
  | off, [], n => off == n
  | off, f :: fs, n => f.offset == off && tiles P (off + P.cellsOf f.type) fs n
def plainAt (P : Program) (T : List TypeId) (t : TypeId) : Bool :=
  match P.underlying t with
  | some .bool | some (.int _) | some .string => P.cellsOf t == 1
  | some (.pointer e) => P.cellsOf t == 1 && T.contains e && decide (0 < P.cellsOf e)
  | some (.slice e) => P.cellsOf t == 1 && T.contains e && decide (0 < P.cellsOf e)
  | some (.struct fs) => fs.toList.all (fun f => T.contains f.type) && tiles P 0 fs.toList (P.cellsOf t)
  | some (.array n e) => T.contains e && P.cellsOf t == n * P.cellsOf e
  | _ => false
def plains (P : Program) (T : List TypeId) : Bool := T.all (plainAt P T)

/-- Taken up: new names, the rest as it was. -/
def Took (P : Program) (NG B : Nat) (w0 w : World) (G : GMap) (H : Hp) (k : Nat) (kd : Kd) (cs : List Value) : Prop :=
  ∃ G' H' k' cs', SRel NG B w0 G' H' k' w ∧ GLe G G' ∧ Sub H H' ∧ k ≤ k' ∧ LRel G' cs' cs ∧ AD P H' kd cs'

theorem sub_look {ob : Option Blk} (h : SRel NG B w0 G H k w) : Sub H (upd H k ob) := fun n b hn => by
  have := name_lt h hn
  rw [upd_other _ _ (by omega)]
  exact hn
theorem sub_refl (H : Hp) : Sub H H := fun _ _ h => h
theorem sub_trans {a b c : Hp} (h : Sub a b) (k : Sub b c) : Sub a c := fun n x hn => k n x (h n x hn)

/-- Several, one behind the other, whose cells lie where f says. -/
theorem took_row {e : TypeId} {z : Nat} {f : Nat → Option Value} (hz : P.cellsOf e = z) : ∀ (l : Nat) (css : Nat → List Value),
    (∀ i, i < l → (css i).length = z ∧ (∀ j, j < z → f (i * z + j) = (css i)[j]?) ∧ ∀ G H k, SRel NG B w0 G H k w → Took P NG B w0 w G H k (.one e) (css i)) →
    ∀ G H k, SRel NG B w0 G H k w → ∃ G' H' k' cs', SRel NG B w0 G' H' k' w ∧ GLe G G' ∧ Sub H H' ∧ k ≤ k' ∧ cs'.length = l * z ∧ CRel G' cs' f cs'.length ∧ AD P H' (.many (List.replicate l e)) cs'
  | 0, css, h, G, H, k, hS => ⟨G, H, k, [], hS, GLe.refl _, sub_refl _, Nat.le_refl _, by simp, fun j v hj => by simp at hj, .nil⟩
  | l + 1, css, h, G, H, k, hS => by
    obtain ⟨G1, H1, k1, b, hS1, hG1, hH1, hk1, hl1, hc1, hA1⟩ := took_row hz l css (fun i hi => h i (by omega)) G H k hS
    obtain ⟨hlen, hf, ht⟩ := h l (by omega)
    obtain ⟨G2, H2, k2, a, hS2, hG2, hH2, hk2, hl2, hA2⟩ := ht G1 H1 k1 hS1
    have hal : a.length = z := by rw [hl2.1]; exact hlen
    refine ⟨G2, H2, k2, b ++ a, hS2, hG1.trans hG2, sub_trans hH1 hH2, Nat.le_trans hk1 hk2, by simp [hl1, hal, Nat.add_mul], ?_, ?_⟩
    · intro j v hj hv
      rcases Nat.lt_or_ge j b.length with hlt | hge
      · rw [List.getElem?_append_left hlt] at hv
        exact (hc1.mono hG2) j v hlt hv
      · rw [List.getElem?_append_right hge] at hv
        have hlt : j - b.length < a.length := (List.getElem?_eq_some_iff.1 hv).1
        have hjz : j - b.length < z := by omega
        have h' : (css l)[j - b.length]? = some ((css l)[j - b.length]'(by omega)) := List.getElem?_eq_getElem (by omega)
        refine ⟨_, ?_, hl2.2 _ v _ hv h'⟩
        rw [← h', ← hf _ hjz]
        congr 1
        omega
    · rw [List.replicate_succ']
      exact .snoc hA2 (by rw [hz]; exact hal) (hA1.mono hH2)

/-- Several pieces, one behind the other. -/
theorem took_many : ∀ (ps : List (TypeId × List Value)), (∀ p ∈ ps, p.2.length = P.cellsOf p.1 ∧ ∀ G H k, SRel NG B w0 G H k w → Took P NG B w0 w G H k (.one p.1) p.2) →
    ∀ G H k, SRel NG B w0 G H k w → Took P NG B w0 w G H k (.many (ps.map (·.1))) (ps.flatMap (·.2))
  | [], _, G, H, k, hS => ⟨G, H, k, [], hS, GLe.refl _, sub_refl _, Nat.le_refl _, LRel.nil, .nil⟩
  | p :: ps, h, G, H, k, hS => by
    obtain ⟨hlen, hp⟩ := h p (by simp)
    obtain ⟨G1, H1, k1, a, hS1, hG1, hH1, hk1, hl1, hA1⟩ := hp G H k hS
    obtain ⟨G2, H2, k2, b, hS2, hG2, hH2, hk2, hl2, hA2⟩ := took_many ps (fun q hq => h q (by simp [hq])) G1 H1 k1 hS1
    refine ⟨G2, H2, k2, a ++ b, hS2, hG1.trans hG2, sub_trans hH1 hH2, Nat.le_trans hk1 hk2, ?_, ?_⟩
    · rw [List.flatMap_cons]
      exact (hl1.mono hG2).append hl2
    · exact .cons (hA1.mono hH2) (by rw [hl1.1]; exact hlen) hA2

theorem tiles_flat (cs : List Value) : ∀ (fs : List Field) (off : Nat), tiles P off fs cs.length = true →
    (fs.map fun f => (f.type, (cs.drop f.offset).take (P.cellsOf f.type))).flatMap (·.2) = cs.drop off ∧ (∀ f ∈ fs, ((cs.drop f.offset).take (P.cellsOf f.type)).length = P.cellsOf f.type) ∧ off ≤ cs.length
  | [], off, h => by
    simp only [tiles, beq_iff_eq] at h
    subst h
    simp
  | f :: fs, off, h => by
    simp only [tiles, Bool.and_eq_true, beq_iff_eq] at h
    obtain ⟨ho, hr⟩ := h
    obtain ⟨h1, h2, h3⟩ := tiles_flat cs fs _ hr
    subst ho
    refine ⟨?_, ?_, by omega⟩
    · rw [List.map_cons, List.flatMap_cons, h1, ← List.drop_drop]
      exact List.take_append_drop _ _
    · intro g hg
      rcases List.mem_cons.1 hg with rfl | hg
      · rw [List.length_take, List.length_drop]
        omega
      · exact h2 g hg

theorem flat_replicate (cs : List Value) (e : TypeId) (z : Nat) : ∀ (n : Nat), n * z ≤ cs.length →
    ((List.range n).map fun i => (e, (cs.drop (i * z)).take z)).flatMap (·.2) = cs.take (n * z)
  | 0, _ => by simp
  | n + 1, h => by
    have hn : n * z + z ≤ cs.length := by rw [Nat.add_mul] at h; omega
    rw [List.range_succ, List.map_append, List.flatMap_append, flat_replicate cs e z n (by omega)]
    simp only [List.map_cons, List.map_nil, List.flatMap_cons, List.flatMap_nil, List.append_nil]
    rw [Nat.add_mul, Nat.one_mul, List.take_add]

variable {Hh : Type} {enc : TypeId × Value → Hh} {spare : Nat → Bool} {held : Bool}

theorem plainAt_of {T : List TypeId} (hT : plains P T = true) {t : TypeId} (h : T.contains t = true) : plainAt P T t = true :=
  List.all_eq_true.1 hT t (by simpa using h)

theorem weightsAll_mem {P : Program} {e : TypeId} {p : Nat → Bool} : ∀ {l : List (DataW Hh)} {d : DataW Hh}, (DataW.weightsAll P e l).all p = true → d ∈ l → (d.weights P e).all p = true
  | x :: r, d, h, hd => by
    rw [DataW.weightsAll, List.all_append, Bool.and_eq_true] at h
    rcases List.mem_cons.1 hd with rfl | hd
    · exact h.1
    · exact weightsAll_mem h.2 hd
theorem weightsEach_get {P : Program} {p : Nat → Bool} : ∀ {ts : List TypeId} {l : List (DataW Hh)} {i : Nat} {t : TypeId} {d : DataW Hh}, (DataW.weightsEach P ts l).all p = true → ts[i]? = some t → l[i]? = some d → (d.weights P t).all p = true
  | t0 :: ts, d0 :: l, 0, t, d, h, h1, h2 => by
    rw [DataW.weightsEach, List.all_append, Bool.and_eq_true] at h
    injection h1 with h1
    injection h2 with h2
    subst h1; subst h2
    exact h.1
  | t0 :: ts, d0 :: l, i + 1, t, d, h, h1, h2 => by
    rw [DataW.weightsEach, List.all_append, Bool.and_eq_true] at h
    exact weightsEach_get h.2 (by simpa using h1) (by simpa using h2)
  | [], _, _, _, _, _, h1, _ => by simp at h1
  | _ :: _, [], _, _, _, _, _, h2 => by simp at h2
theorem weightsEach_append {P : Program} {p : Nat → Bool} : ∀ {ts us : List TypeId} {l r : List (DataW Hh)}, l.length = ts.length → (DataW.weightsEach P (ts ++ us) (l ++ r)).all p = true → (DataW.weightsEach P ts l).all p = true
  | [], us, [], r, _, h => by rw [DataW.weightsEach]; rfl; intro _ _ _ _ h; cases h
  | t :: ts, us, d :: l, r, hl, h => by
    rw [List.cons_append, List.cons_append, DataW.weightsEach, List.all_append, Bool.and_eq_true] at h
    rw [DataW.weightsEach, List.all_append, Bool.and_eq_true]
    exact ⟨h.1, weightsEach_append (by simpa using hl) h.2⟩
theorem took_trod {T : List TypeId} (hT : plains P T = true) (hB : w.heap.size ≤ B) : ∀ (fuel : Nat) (t : TypeId) (cs : List Value) (x : DataW Hh × List MemPlace), T.contains t = true → DataW.trod enc P w 0 spare held fuel t cs = some x → (x.1.weights P t).all (· ≤ reachBytes) = true →
    cs.length = P.cellsOf t ∧ ∀ G H k, SRel NG B w0 G H k w → Took P NG B w0 w G H k (.one t) cs
  | 0, t, cs, x, hc, h, hW => by simp [DataW.trod] at h
  | fuel + 1, t, cs, x, hc, h, hW => by
    have hp := plainAt_of hT hc
    unfold plainAt at hp
    split at hp
    · rename_i hu
      obtain ⟨b, rfl, _⟩ := DataW.trod_bool hu h
      refine ⟨by simpa using (beq_iff_eq.1 hp).symm, fun G H k hS => ?_⟩
      exact ⟨G, H, k, _, hS, GLe.refl _, sub_refl _, Nat.le_refl _, LRel.single (.plain rfl), .bool hu⟩
    · rename_i kk hu
      obtain ⟨n, rfl, _, hw⟩ := DataW.trod_int hu h
      refine ⟨by simpa using (beq_iff_eq.1 hp).symm, fun G H k hS => ?_⟩
      exact ⟨G, H, k, _, hS, GLe.refl _, sub_refl _, Nat.le_refl _, LRel.single (.plain rfl), .int hu hw⟩
    · rename_i hu
      obtain ⟨s, rfl, rfl, _⟩ := DataW.trod_string hu h
      have hw : s.size ≤ reachBytes := by simpa [DataW.weights] using hW
      refine ⟨by simpa using (beq_iff_eq.1 hp).symm, fun G H k hS => ?_⟩
      exact ⟨G, H, k, _, hS, GLe.refl _, sub_refl _, Nat.le_refl _, LRel.single (.plain rfl), .str hu hw⟩
    · rename_i e hu
      simp only [Bool.and_eq_true, beq_iff_eq, decide_eq_true_eq] at hp
      obtain ⟨⟨hp1, hpe⟩, hpos⟩ := hp
      rcases DataW.trod_pointer hu h with ⟨rfl, _⟩ | ⟨a, cs', y, n, hf, rfl, rfl, hcells, hy⟩
      · refine ⟨by simpa using hp1.symm, fun G H k hS => ?_⟩
        exact ⟨G, H, k, _, hS, GLe.refl _, sub_refl _, Nat.le_refl _, LRel.single (.plain rfl), .nilPtr hu⟩
      · refine ⟨by simpa using hp1.symm, fun G H k hS => ?_⟩
        obtain rfl : fuel = n := by omega
        have hWy : (y.1.weights P e).all (· ≤ reachBytes) = true := by simpa [DataW.weights, hu] using hW
        obtain ⟨hlen, ht⟩ := took_trod hT hB fuel e cs' y hpe hy hWy
        obtain ⟨G1, H1, k1, c1, hS1, hG1, hH1, hk1, hl1, hA1⟩ := ht G H k hS
        obtain ⟨_, _, hcell⟩ := World.cells?_some hcells
        have hlt : a.block < B := by
          have h0 := hcell 0 hpos
          rw [List.getElem?_eq_getElem (by omega)] at h0
          have h1 := cell_lt h0
          rw [add_block] at h1
          omega
        have hG2 := gle_upd (x := .at a) hS1
        have hS2 := hS1.look a (some ⟨c1, e, .ro, 1⟩) (fun b hb => by
          injection hb with hb
          subst hb
          refine ⟨rfl, hlt, fun j v hj hv => ?_⟩
          have hj' : j < c1.length := hj
          have hj2 : j < cs'.length := by rw [← hl1.1]; exact hj'
          have h' : cs'[j]? = some cs'[j] := List.getElem?_eq_getElem hj2
          exact ⟨_, (hcell j (by omega)).trans h', (hl1.2 j v _ hv h').mono hG2⟩)
        refine ⟨_, _, _, [.pointer (some ⟨k1, 0, none⟩)], hS2, hG1.trans hG2, sub_trans hH1 (sub_look hS1), by omega, LRel.single ?_, ?_⟩
        · have := VRel.ptr (G := upd G1 k1 (.at a)) (n := k1) (off := 0) (base := a) (upd_same _ _ _)
          simpa [Addr.add] using this
        · exact .ptr hu (upd_same _ _ _) (by rw [hl1.1]; exact hlen) (hA1.mono (sub_look hS1))
    · rename_i e hu
      simp only [Bool.and_eq_true, beq_iff_eq, decide_eq_true_eq] at hp
      obtain ⟨⟨hp1, hpe⟩, hpos⟩ := hp
      rcases DataW.trod_slice hu h with ⟨rfl, _⟩ | ⟨a, len, cap, elems, rest, n, hf, rfl, rfl, _, hlc, hcm, hel, hcells, _⟩
      · refine ⟨by simpa using hp1.symm, fun G H k hS => ?_⟩
        exact ⟨G, H, k, _, hS, GLe.refl _, sub_refl _, Nat.le_refl _, LRel.single (.plain rfl), .nilSlc hu⟩
      · refine ⟨by simpa using hp1.symm, fun G H k hS => ?_⟩
        obtain rfl : fuel = n := by omega
        have hW2 : (elems.map (·.1)).length * P.bytesOf e ≤ reachBytes ∧ (DataW.weightsAll P e (elems.map (·.1))).all (· ≤ reachBytes) = true := by
          simp only [DataW.weights, hu, List.all_cons, List.all_append, Bool.and_eq_true, decide_eq_true_eq] at hW
          exact ⟨Nat.le_trans (Nat.mul_le_mul_right _ (Nat.le_add_right _ _)) hW.1, hW.2.1⟩
        have hR : len * P.bytesOf e ≤ reachBytes := by have := hW2.1; rwa [List.length_map, hel] at this
        rcases Nat.eq_zero_or_pos len with h0 | h0
        · subst h0
          have hS2 := hS.look a none (fun b hb => by cases hb)
          refine ⟨_, _, _, [.slice (some ⟨k, 0, none⟩) 0 cap], hS2, gle_upd hS, sub_look hS, by omega, LRel.single ?_, .slc0 hu hcm⟩
          have := VRel.exact (G := upd G k (.at a)) (n := k) (off := 0) (l := 0) (c := cap) (base := a) (upd_same _ _ _)
          simpa [Addr.add] using this
        · have hi : ∀ i, i < len → ∃ cs, w.cells? 0 (a.add (i * P.cellsOf e)) (P.cellsOf e) = some cs ∧ ∃ y, DataW.trod enc P w 0 spare held fuel e cs = some y ∧ (y.1.weights P e).all (· ≤ reachBytes) = true := by
            intro i hi
            have h1 := hcells i hi
            rw [List.getElem?_eq_getElem (by omega)] at h1
            obtain ⟨cs, h2, h3⟩ := Option.bind_eq_some_iff.1 h1
            exact ⟨cs, h2, _, h3, weightsAll_mem hW2.2 (List.mem_map.2 ⟨_, List.getElem_mem (by omega), rfl⟩)⟩
          let css : Nat → List Value := fun i => (w.cells? 0 (a.add (i * P.cellsOf e)) (P.cellsOf e)).getD []
          have hall : ∀ i, i < len → (css i).length = P.cellsOf e ∧ (∀ j, j < P.cellsOf e → (fun j => w.cell? (a.add j)) (i * P.cellsOf e + j) = (css i)[j]?) ∧ ∀ G H k, SRel NG B w0 G H k w → Took P NG B w0 w G H k (.one e) (css i) := by
            intro i hi'
            obtain ⟨cs, h2, y, h3, hWy⟩ := hi i hi'
            have hcs : css i = cs := by show (w.cells? 0 (a.add (i * P.cellsOf e)) (P.cellsOf e)).getD [] = cs; rw [h2]; rfl
            rw [hcs]
            obtain ⟨_, hl', hcell⟩ := World.cells?_some h2
            refine ⟨hl', fun j hj => ?_, (took_trod hT hB fuel e cs y hpe h3 hWy).2⟩
            rw [← hcell j hj, add_add]
          obtain ⟨G1, H1, k1, c1, hS1, hG1, hH1, hk1, hl1, hc1, hA1⟩ := took_row (P := P) (e := e) (z := P.cellsOf e) (f := fun j => w.cell? (a.add j)) rfl len css hall G H k hS
          have hlt : a.block < B := by
            obtain ⟨h1, h2, _⟩ := hall 0 h0
            have h3 := h2 0 hpos
            rw [List.getElem?_eq_getElem (by omega)] at h3
            have h4 := cell_lt h3
            rw [add_block] at h4
            omega
          have hG2 := gle_upd (x := .at a) hS1
          have hS2 := hS1.look a (some ⟨c1, e, .ro, 1⟩) (fun b hb => by
            injection hb with hb
            subst hb
            exact ⟨rfl, hlt, hc1.mono hG2⟩)
          refine ⟨_, _, _, [.slice (some ⟨k1, 0, none⟩) len cap], hS2, hG1.trans hG2, sub_trans hH1 (sub_look hS1), by omega, LRel.single ?_, ?_⟩
          · have := VRel.exact (G := upd G1 k1 (.at a)) (n := k1) (off := 0) (l := len) (c := cap) (base := a) (upd_same _ _ _)
            simpa [Addr.add] using this
          · exact .slc hu (upd_same _ _ _) hl1 h0 hlc hcm hR (hA1.mono (sub_look hS1))
    · rename_i fs hu
      simp only [Bool.and_eq_true, List.all_eq_true] at hp
      obtain ⟨xs, n, hf, rfl, hlen, hxl, hx⟩ := DataW.trod_struct hu h
      obtain rfl : fuel = n := by omega
      have hW2 : (DataW.weightsEach P (fs.toList.map (·.type)) (xs.map (·.1))).all (· ≤ reachBytes) = true := by simpa only [DataW.weights, hu] using hW
      refine ⟨hlen, fun G H k hS => ?_⟩
      have htl := hp.2
      rw [← hlen] at htl
      obtain ⟨h1, h2, _⟩ := tiles_flat cs fs.toList 0 htl
      have := took_many (P := P) (NG := NG) (B := B) (w0 := w0) (w := w) (fs.toList.map fun f => (f.type, (cs.drop f.offset).take (P.cellsOf f.type))) (fun p hp' => by
        obtain ⟨f, hf', rfl⟩ := List.mem_map.1 hp'
        obtain ⟨i, hi⟩ := List.getElem?_of_mem hf'
        have hxi := hx i f (by simpa using hi)
        have hil : i < xs.length := by
          have := (List.getElem?_eq_some_iff.1 hi).1
          rw [hxl]
          simpa using this
        rw [List.getElem?_eq_getElem hil] at hxi
        exact took_trod hT hB fuel f.type _ _ (hp.1 f hf') hxi (weightsEach_get (i := i) hW2 (by rw [List.getElem?_map, hi]; rfl) (by rw [List.getElem?_map, List.getElem?_eq_getElem hil]; rfl))) G H k hS
      rw [h1, List.drop_zero, List.map_map] at this
      obtain ⟨G1, H1, k1, c1, a1, a2, a3, a4, a5, a6⟩ := this
      exact ⟨G1, H1, k1, c1, a1, a2, a3, a4, a5, .struct hu (by rw [a5.1]; exact hlen) a6⟩
    · rename_i m e hu
      simp only [Bool.and_eq_true, beq_iff_eq] at hp
      obtain ⟨xs, n, hf, rfl, hlen, hxl, hx⟩ := DataW.trod_array hu h
      obtain rfl : fuel = n := by omega
      have hW2 : (DataW.weightsAll P e (xs.map (·.1))).all (· ≤ reachBytes) = true := by simpa only [DataW.weights, hu] using hW
      refine ⟨hlen, fun G H k hS => ?_⟩
      have hfl := flat_replicate cs e (P.cellsOf e) m (by rw [hlen, hp.2]; exact Nat.le_refl _)
      have hlm : m * P.cellsOf e = cs.length := by rw [hlen, hp.2]
      have := took_many (P := P) (NG := NG) (B := B) (w0 := w0) (w := w) ((List.range m).map fun i => (e, (cs.drop (i * P.cellsOf e)).take (P.cellsOf e))) (fun p hp' => by
        obtain ⟨i, hi, rfl⟩ := List.mem_map.1 hp'
        have him : i < m := by simpa using hi
        have hxi := hx i him
        rw [List.getElem?_eq_getElem (by omega)] at hxi
        exact took_trod hT hB fuel e _ _ hp.1 hxi (weightsAll_mem hW2 (List.mem_map.2 ⟨_, List.getElem_mem (by omega), rfl⟩))) G H k hS
      rw [hfl, hlm, List.take_length, List.map_map] at this
      have hr : (List.range m).map ((fun x : TypeId × List Value => x.1) ∘ fun i => (e, (cs.drop (i * P.cellsOf e)).take (P.cellsOf e))) = List.replicate m e := by
        rw [show ((fun x : TypeId × List Value => x.1) ∘ fun i => (e, (cs.drop (i * P.cellsOf e)).take (P.cellsOf e))) = fun _ => e from rfl]
        simp [List.map_const']
      rw [hr] at this
      obtain ⟨G1, H1, k1, c1, a1, a2, a3, a4, a5, a6⟩ := this
      exact ⟨G1, H1, k1, c1, a1, a2, a3, a4, a5, .array hu (by rw [a5.1]; exact hlen) a6⟩
    · cases hp
end
end Go.Ab

set_option linter.unusedVariables false
set_option linter.unusedSimpArgs false
namespace Go.Ab
open Go.RowKit Go.WideShapes Go.ChangeShapes

/-- An abstract value of a type. -/
def AV (P : Program) (H : Hp) (t : TypeId) (u : Value) : Prop :=
  match P.underlying t with
  | some (.struct _) | some (.array _ _) => ∃ cs, u = .agg cs ∧ AD P H (.one t) cs.toList
  | _ => AD P H (.one t) [u]

/-- Abstract values, one a type. -/
def AVs (P : Program) (H : Hp) : List TypeId → List Value → Prop
  | [], us => us = []
  | t :: ts, us => ∃ u r, us = u :: r ∧ AV P H t u ∧ AVs P H ts r

theorem AV.mono {P : Program} {H H' : Hp} (hs : Sub H H') {t : TypeId} {u : Value} (h : AV P H t u) : AV P H' t u := by
  unfold AV at h ⊢
  split at h
  · obtain ⟨cs, h1, h2⟩ := h
    exact ⟨cs, h1, h2.mono hs⟩
  · obtain ⟨cs, h1, h2⟩ := h
    exact ⟨cs, h1, h2.mono hs⟩
  · exact h.mono hs

section
variable {P : Program} {NG B : Nat} {w0 w : World} {Hh : Type} {enc : TypeId × Value → Hh} {spare : Nat → Bool} {held : Bool}

theorem took_arg {T : List TypeId} (hT : plains P T = true) (hB : w.heap.size ≤ B) {t : TypeId} (hc : T.contains t = true) {v : Value} {d : DataW Hh} {ps : List MemPlace} {r : Reach} {b0 : Nat} (hv : Value.okWide P w r b0 t v) (h : DataW.Trod enc P w 0 spare held t v d ps) (hW : (d.weights P t).all (· ≤ reachBytes) = true)
    {G : GMap} {H : Hp} {k : Nat} (hS : SRel NG B w0 G H k w) : ∃ G' H' k' u, SRel NG B w0 G' H' k' w ∧ GLe G G' ∧ Sub H H' ∧ k ≤ k' ∧ VRel G' u v ∧ AV P H' t u := by
  obtain ⟨fuel, hf⟩ := h
  obtain ⟨hlen, ht⟩ := took_trod hT hB fuel t _ _ hc hf hW
  obtain ⟨G1, H1, k1, c1, a1, a2, a3, a4, a5, a6⟩ := ht G H k hS
  have hp := plainAt_of hT hc
  have agg : (∃ cs, v = .agg cs) → VRel G1 (.agg c1.toArray) v := by
    rintro ⟨cs, rfl⟩
    refine .agg (by simpa [Value.cells] using a5.1) fun i x x' h1 h2 => a5.2 i x x' (by simpa using h1) (by simpa [Value.cells] using h2)
  have one : v.cells = #[v] → ∃ u, c1 = [u] ∧ VRel G1 u v := by
    intro hv1
    rw [hv1] at a5
    obtain ⟨u, rfl⟩ : ∃ u, c1 = [u] := by
      have := a5.1
      match c1, this with
      | [u], _ => exact ⟨u, rfl⟩
    exact ⟨u, rfl, a5.2 0 u v rfl rfl⟩
  unfold plainAt at hp
  split at hp
  · rename_i hu
    obtain ⟨b, rfl⟩ := okWide_bool hu hv
    obtain ⟨u, rfl, h1⟩ := one rfl
    exact ⟨G1, H1, k1, u, a1, a2, a3, a4, h1, by unfold AV; rw [hu]; exact a6⟩
  · rename_i hu
    obtain ⟨b, rfl⟩ := okWide_int hu hv
    obtain ⟨u, rfl, h1⟩ := one rfl
    exact ⟨G1, H1, k1, u, a1, a2, a3, a4, h1, by unfold AV; rw [hu]; exact a6⟩
  · rename_i hu
    obtain ⟨b, rfl⟩ := okWide_string hu hv
    obtain ⟨u, rfl, h1⟩ := one rfl
    exact ⟨G1, H1, k1, u, a1, a2, a3, a4, h1, by unfold AV; rw [hu]; exact a6⟩
  · rename_i hu
    obtain ⟨b, rfl⟩ := okWide_pointer hu hv
    obtain ⟨u, rfl, h1⟩ := one rfl
    exact ⟨G1, H1, k1, u, a1, a2, a3, a4, h1, by unfold AV; rw [hu]; exact a6⟩
  · rename_i hu
    obtain ⟨b, l, c, rfl⟩ := okWide_slice hu hv
    obtain ⟨u, rfl, h1⟩ := one rfl
    exact ⟨G1, H1, k1, u, a1, a2, a3, a4, h1, by unfold AV; rw [hu]; exact a6⟩
  · rename_i hu
    obtain ⟨cs, rfl, _⟩ := okWide_struct hu hv
    exact ⟨G1, H1, k1, _, a1, a2, a3, a4, agg ⟨_, rfl⟩, by unfold AV; rw [hu]; exact ⟨_, rfl, a6⟩⟩
  · rename_i hu
    have : ∃ cs, v = .agg cs := by
      simp only [Value.okWide, hu] at hv
      obtain ⟨cs, h1, _⟩ := hv
      exact ⟨cs, h1⟩
    exact ⟨G1, H1, k1, _, a1, a2, a3, a4, agg this, by unfold AV; rw [hu]; exact ⟨_, rfl, a6⟩⟩
  · cases hp

theorem took_args {T : List TypeId} (hT : plains P T = true) (hB : w.heap.size ≤ B) {r : Reach} {b0 : Nat} : ∀ (ts : List TypeId) (vs : List Value) (ds : List (DataW Hh)) (ps : List MemPlace), (∀ t ∈ ts, T.contains t = true) →
    (∀ (j : Nat) t v, ts[j]? = some t → vs[j]? = some v → Value.okWide P w r b0 t v) → DataW.TrodAll enc P w 0 spare held ts vs ds ps → (DataW.weightsEach P ts ds).all (· ≤ reachBytes) = true → ∀ G H k, SRel NG B w0 G H k w →
    ∃ G' H' k' us, SRel NG B w0 G' H' k' w ∧ GLe G G' ∧ Sub H H' ∧ k ≤ k' ∧ us.length = vs.length ∧ (∀ (i : Nat) (u : Value), us[i]? = some u → ∃ v, vs[i]? = some v ∧ VRel G' u v) ∧ AVs P H' ts us
  | [], vs, ds, ps, _, _, h, _, G, H, k, hS => by
    obtain ⟨h1, rfl, rfl⟩ := trodAll_nil h
    exact ⟨G, H, k, [], hS, GLe.refl _, sub_refl _, Nat.le_refl _, by simp [h1], fun i u hu => by simp at hu, rfl⟩
  | t :: ts, vs, ds, ps, ht, hv, h, hW, G, H, k, hS => by
    obtain ⟨v, vs', d, ds', p, q, rfl, rfl, rfl, hd, hr⟩ := trodAll_cons h
    rw [DataW.weightsEach, List.all_append, Bool.and_eq_true] at hW
    obtain ⟨G1, H1, k1, u, a1, a2, a3, a4, a5, a6⟩ := took_arg hT hB (ht t (by simp)) (hv 0 t v rfl rfl) hd hW.1 hS
    obtain ⟨G2, H2, k2, us, b1, b2, b3, b4, b5, b6, b7⟩ := took_args hT hB ts vs' ds' q (fun x hx => ht x (by simp [hx])) (fun j x y h1 h2 => hv (j + 1) x y h1 h2) hr hW.2 G1 H1 k1 a1
    refine ⟨G2, H2, k2, u :: us, b1, a2.trans b2, sub_trans a3 b3, Nat.le_trans a4 b4, by simp [b5], fun i x hx => ?_, ⟨u, us, rfl, a6.mono b3, b7⟩⟩
    cases i with
    | zero =>
      simp at hx
      subst hx
      exact ⟨v, by simp, a5.mono b2⟩
    | succ i =>
      simp at hx
      obtain ⟨y, h1, h2⟩ := b6 i x hx
      exact ⟨y, by simpa using h1, h2⟩

theorem trodAll_len {base : Nat} : ∀ {ts : List TypeId} {vs : List Value} {ds : List (DataW Hh)} {ps : List MemPlace}, DataW.TrodAll enc P w base spare held ts vs ds ps → ds.length = ts.length
  | [], vs, ds, ps, h => by
    obtain ⟨h1, rfl, rfl⟩ := trodAll_nil h
    rfl
  | t :: ts, vs, ds, ps, h => by
    obtain ⟨v, vs', d, ds', p, q, rfl, rfl, rfl, hd, hr⟩ := trodAll_cons h
    simp [trodAll_len hr]

/-- Where a call starts: the program's variables have their names, nothing else is named. -/
def startG (NG : Nat) : GMap := fun n => if n < NG then .at ⟨n, 0, none⟩ else .free
theorem SRel.start (NG : Nat) (w : World) (H : Hp) (hH : ∀ n b, H n = some b → n < NG ∧ b.kind = .ro ∧ n < w.heap.size ∧ CRel (startG NG) b.cells (fun j => w.cell? ⟨n, j, none⟩) b.cells.length) : SRel NG w.heap.size w (startG NG) H NG w where
  below := Below.refl _ _
  base := Nat.le_refl _
  glob := fun g hg => by simp [startG, hg]
  le := Nat.le_refl _
  blk := fun n b hn => by
    obtain ⟨h1, h2, h3, h4⟩ := hH n b hn
    unfold BRel
    rw [h2]
    refine ⟨⟨n, 0, none⟩, by simp [startG, h1], h3, h4.ext fun j _ => ?_⟩
    rw [add_plain, Nat.zero_add]
  sep := fun n m b c hn _ ho => by
    have := (hH n b hn).2.1
    unfold Blk.own at ho
    rw [this] at ho
    cases ho
  fresh := fun n hn => by
    refine ⟨?_, by simp [startG]; omega⟩
    cases h : H n with
    | none => rfl
    | some b =>
      have := (hH n b h).1
      omega

/-- A law that answers true over what it is given: so it does at the arguments that the world holds; what was there stays. -/
theorem law_calls {T : List TypeId} {f : FuncId} {fn : Func} {args : Array Value} {ds : List (DataW Hh)} {ps : List MemPlace} {r : Reach} {b0 : Nat} {H0 : Hp} (hT : plains P T = true) (hts : ∀ t ∈ fn.params.toList, T.contains t = true)
    (hval : ∀ (j : Nat) t v, fn.params[j]? = some t → args[j]? = some v → Value.okWide P w r b0 t v) (hA : DataW.TrodAll enc P w 0 spare held fn.params.toList args.toList ds ps) (hW : (DataW.weightsEach P fn.params.toList ds).all (· ≤ reachBytes) = true)
    (hS : SRel NG w.heap.size w (startG NG) H0 NG w)
    (hc : ∀ H k us, Sub H0 H → NG ≤ k → AVs P H fn.params.toList us → ACalls P NG f us H k fun v _ _ => v = .bool true) :
    Calls P f args w fun e w' => e = .returned (.bool true) ∧ Below w.heap.size w w' := by
  obtain ⟨G1, H1, k1, us, a1, a2, a3, a4, a5, a6, a7⟩ := took_args hT (Nat.le_refl _) fn.params.toList args.toList ds ps hts (fun j t v h1 h2 => hval j t v (by simpa using h1) (by simpa using h2)) hA hW _ _ _ hS
  refine (hc H1 k1 us a3 a4 a7 _ _ _ args w a1 ⟨by simpa using a5, fun i u hu => ?_⟩).mono ?_
  · obtain ⟨v, h1, h2⟩ := a6 i u hu
    exact ⟨v, by simpa using h1, h2⟩
  · rintro e w' ⟨v, v', H', k', G', rfl, rfl, hv, hS', hK⟩
    rw [hv.bool_]
    exact ⟨rfl, hS'.below⟩

theorem trodAll_below (hl : laidOutB P = true) {W W' : World} (hb : Below W.heap.size W W') {sp : Nat → Bool} (hsp : ∀ b, b < W.heap.size → sp b = true) : ∀ {ts : List TypeId} {vs : List Value} {ds : List (DataW Hh)} {ps : List MemPlace},
    (∀ t ∈ ts, P.readableRec t = true ∧ t < P.types.size) → DataW.TrodAll enc P W 0 (fun _ => true) true ts vs ds ps → (∀ x ∈ ps, x.block < W.heap.size) → DataW.TrodAll enc P W' 0 sp true ts vs ds ps
  | [], vs, ds, ps, _, h, _ => by
    obtain ⟨h1, rfl, rfl⟩ := trodAll_nil h
    cases vs <;> simp_all [DataW.TrodAll]
  | t :: ts, vs, ds, ps, ht, h, hlt => by
    obtain ⟨v, vs', d, ds', p, q, rfl, rfl, rfl, hd, hr⟩ := trodAll_cons h
    exact ⟨p, q, WideElems.Trod_stays hl (ht t (by simp)).1 (ht t (by simp)).2 hd (fun x hx => hb.same (hlt x (by simp [hx]))) (fun x hx => hsp _ (hlt x (by simp [hx]))),
      trodAll_below hl hb hsp (fun x hx => ht x (by simp [hx])) hr (fun x hx => hlt x (by simp [hx])), rfl⟩

/-- The row's answer to 'true', what it was given as it was. -/
theorem law_post (hl : laidOutB P = true) {fn : Func} {s : ChangeSpec} {W W' : World} {args : Array Value} {ds gs : List (DataW Hh)} {before : List MemPlace} {tb : TypeId} (hvars : s.vars = []) (hfn : (s.fn Hh ds).results = [.lit (.bool true)] ∧ (s.fn Hh ds).args = ds ∧ (s.fn Hh ds).vars = [])
    (hread : ∀ t ∈ fn.params.toList, P.readableRec t = true ∧ t < P.types.size) (hres : fn.resultTypes = #[tb]) (hb : P.underlying tb = some .bool)
    (hW : DataW.Whole enc P fn.params.toList s.vars false W args.toList ds gs before) (hbel : Below W.heap.size W W') : s.post enc P fn false true false false W args (.bool true) W' := by
  have hW' := hW
  have hlt : ∀ p ∈ before, p.block < W.heap.size := fun p hp => hW.lt p hp
  obtain ⟨p, q, hA, hV, hpq, hfz, hnd⟩ := hW
  rw [hvars] at hV
  obtain ⟨rfl, rfl⟩ := trodVars_none hV
  simp only [List.append_nil] at hpq
  subst hpq
  have hargs : ∀ sp : Nat → Bool, (∀ b, b < W.heap.size → sp b = true) → DataW.TrodAll enc P W' 0 sp true fn.params.toList args.toList (s.fn Hh (ds ++ [])).args before := fun sp hsp => by
    rw [List.append_nil, hfn.2.1]
    exact trodAll_below hl hbel hsp hread hA hlt
  refine ⟨ds, [], before, [], before, [], hW', ?_, hargs _ (fun b hb' => by simpa using hb'), ?_, World.keptBut_mono (fun p hp => ⟨hp, .inr (.inl hp)⟩) (hbel.frame (· ∈ before)), fun h => by cases h⟩
  · rw [List.append_nil, hfn.1, hres]
    exact trodAll_mk1 (shut_bool hb _)
  · rw [List.append_nil, hfn.2.2, hvars]
    rfl
end
end Go.Ab

set_option linter.unusedVariables false
set_option linter.unusedSimpArgs false
namespace Go.Ab
open Go.RowKit

/-- A value that is there if c holds. -/
def gv (c : Bool) (v : Value) : Value := bif c then v else undef

section
variable {P : Program} {NG N : Nat} {fr : Fr} {H : Hp} {nk : Nat} {R : Value → Hp → Nat → Prop} {o : Oper} {ops : Array Oper}

theorem gvT {t : Nat} {c : Bool} {v : Value} (h : fr t = some (gv c v)) (hc : c = true) : fr t = some v := by subst hc; exact h
theorem gvE {t : Nat} {c : Bool} {v : Value} (h : aeval NG fr (.tmp t) = some (gv c v)) (hc : c = true) : aeval NG fr (.tmp t) = some v := by subst hc; exact h

theorem wantT {j t : Nat} {b : Bool} (hg : o.guard = some (j, true)) (hd : (ops[j]?).bind (·.dst) = some t) (hf : fr t = some (.bool b)) : wantedA ops fr o = some b := by
  simp only [wantedA, hg, hd, hf]
  cases b <;> rfl
theorem wantF {j t : Nat} {b : Bool} (hg : o.guard = some (j, false)) (hd : (ops[j]?).bind (·.dst) = some t) (hf : fr t = some (.bool b)) : wantedA ops fr o = some (!b) := by
  simp only [wantedA, hg, hd, hf]
  cases b <;> rfl
theorem wantGT {j t : Nat} {b c : Bool} (hg : o.guard = some (j, true)) (hd : (ops[j]?).bind (·.dst) = some t) (hf : fr t = some (gv c (.bool b))) : wantedA ops fr o = some (c && b) := by
  simp only [wantedA, hg, hd, hf]
  cases c <;> cases b <;> rfl
/-- A guarded operation that leaves the heap as it was. -/
theorem aOps_gd {Q : St → Prop} {i t : Nat} {rest : List Nat} {cond : Bool} {v : Value} (ho : ops[i]? = some o) (hd : o.dst = some t) (hw : wantedA ops fr o = some cond)
    (h : cond = true → AOp P NG o ⟨fr, H, nk⟩ fun v' H' k' => v' = v ∧ H' = H ∧ nk ≤ k') (hn : ∀ k', nk ≤ k' → aOps P NG ops Q rest ⟨upd fr t (some (gv cond v)), H, k'⟩) : aOps P NG ops Q (i :: rest) ⟨fr, H, nk⟩ := by
  simp only [aOps, ho, hw, hd, putA]
  cases cond with
  | true =>
    refine (h rfl).mono ?_
    rintro v' H' k' ⟨rfl, rfl, hk⟩
    exact hn k' hk
  | false => exact hn nk (Nat.le_refl _)

theorem aOps_gd0 {Q : St → Prop} {i t : Nat} {rest : List Nat} {cond : Bool} {v : Value} (ho : ops[i]? = some o) (hd : o.dst = some t) (hw : wantedA ops fr o = some cond)
    (h : cond = true → AOp P NG o ⟨fr, H, nk⟩ fun v' H' k' => v' = v ∧ H' = H ∧ k' = nk) (hn : aOps P NG ops Q rest ⟨upd fr t (some (gv cond v)), H, nk⟩) : aOps P NG ops Q (i :: rest) ⟨fr, H, nk⟩ := by
  simp only [aOps, ho, hw, hd, putA]
  cases cond with
  | true =>
    refine (h rfl).mono ?_
    rintro v' H' k' ⟨rfl, rfl, rfl⟩
    exact hn
  | false => exact hn

/-- An operation under no guard, with a slot for its value; without one. -/
theorem aOps_1 {Q : St → Prop} {i t : Nat} {rest : List Nat} (ho : ops[i]? = some o) (hd : o.dst = some t) (hg : o.guard = none)
    (h : AOp P NG o ⟨fr, H, nk⟩ fun v H' k' => aOps P NG ops Q rest ⟨upd fr t (some v), H', k'⟩) : aOps P NG ops Q (i :: rest) ⟨fr, H, nk⟩ :=
  aOps_step ho (by simp [wantedA, hg]) (h.mono fun v H' k' hq => by rw [hd]; exact hq)
theorem aOps_0 {Q : St → Prop} {i : Nat} {rest : List Nat} (ho : ops[i]? = some o) (hd : o.dst = none) (hg : o.guard = none)
    (h : AOp P NG o ⟨fr, H, nk⟩ fun v H' k' => aOps P NG ops Q rest ⟨fr, H', k'⟩) : aOps P NG ops Q (i :: rest) ⟨fr, H, nk⟩ :=
  aOps_step ho (by simp [wantedA, hg]) (h.mono fun v H' k' hq => by rw [hd]; exact hq)
/-- An operation that leaves the heap as it was. -/
theorem aOps_q {Q : St → Prop} {i t : Nat} {rest : List Nat} {v : Value} (ho : ops[i]? = some o) (hd : o.dst = some t) (hg : o.guard = none)
    (h : AOp P NG o ⟨fr, H, nk⟩ fun v' H' k' => v' = v ∧ H' = H ∧ nk ≤ k') (hn : ∀ k', nk ≤ k' → aOps P NG ops Q rest ⟨upd fr t (some v), H, k'⟩) : aOps P NG ops Q (i :: rest) ⟨fr, H, nk⟩ :=
  aOps_1 ho hd hg (h.mono (by rintro v' H' k' ⟨rfl, rfl, hk⟩; exact hn k' hk))
theorem aOps_end {Q : St → Prop} (h : Q ⟨fr, H, nk⟩) : aOps P NG ops Q [] ⟨fr, H, nk⟩ := h

theorem Draw.gd {m n : Nat} {K : Fr → Nat → Prop} {env : Fr} {v : Value} {cond : Bool} (U : List (Nat × Option Nat)) (ho : ops[m - (n + 1)]? = some o) (hU : useOk ops (m - (n + 1)) U = true) (hw : wantedA ops (useFr env fr U) o = some cond)
    (h : ∀ k, nk ≤ k → cond = true → AOp P NG o ⟨useFr env fr U, H, k⟩ fun v' H' k' => v' = v ∧ H' = H ∧ k ≤ k') (hr : Draw P NG ops ⟨fr, H, nk⟩ m K n (upd env (m - (n + 1)) (some (gv cond v)))) : Draw P NG ops ⟨fr, H, nk⟩ m K (n + 1) env := by
  refine ⟨o, gv cond v, ho, ⟨U, hU, fun k hk => ?_⟩, hr⟩
  unfold stepA
  rw [hw]
  cases cond with
  | true => exact h k hk rfl
  | false => exact ⟨rfl, rfl, Nat.le_refl _⟩

/-- An operation that looks at these slots alone. -/
theorem AOp.slots (l : List (Nat × Value)) (hl : Has fr l) (h : AOp P NG o ⟨frL l, H, nk⟩ R) : AOp P NG o ⟨fr, H, nk⟩ R :=
  h.less fun t v ht => hl (t, v) (frL_get l ht)

theorem AOp.pickAnd {c x y : Operand} {b b' : Bool} (ho : o.op = .pick c x y) (hy : aeval NG fr y = some (.bool false)) (hc : aeval NG fr c = some (.bool b)) (hx : b = true → aeval NG fr x = some (.bool b'))
    (hR : R (.bool (b && b')) H nk) : AOp P NG o ⟨fr, H, nk⟩ R := by
  refine AOp.pick ho hc (v := .bool (b && b')) ?_ hR
  cases b with
  | true => exact hx rfl
  | false => exact hy
theorem AOp.pickOr {c x y : Operand} {b b' : Bool} (ho : o.op = .pick c x y) (hx : aeval NG fr x = some (.bool true)) (hc : aeval NG fr c = some (.bool b)) (hy : b = false → aeval NG fr y = some (.bool b'))
    (hR : R (.bool (b || b')) H nk) : AOp P NG o ⟨fr, H, nk⟩ R := by
  refine AOp.pick ho hc (v := .bool (b || b')) ?_ hR
  cases b with
  | true => exact hx
  | false => exact hy rfl

theorem ACalls.fresh {f : FuncId} {vs : List Value} {H : Hp} {k : Nat} {R : Value → Hp → Nat → Prop} (h : (∀ n, k ≤ n → H n = none) → ACalls P NG f vs H k R) : ACalls P NG f vs H k R :=
  fun B w0 G vs' w hS hv => h (fun n hn => (hS.fresh n hn).1) B w0 G vs' w hS hv
theorem sub_upd' {H X : Hp} {n : Nat} {b : Option Blk} (h : Sub H X) (hn : H n = none) : Sub H (upd X n b) := fun m c hc => by
  rw [upd_other]
  · exact h m c hc
  · rintro rfl
    rw [hn] at hc
    cases hc
theorem old_lt {H : Hp} {k n : Nat} {b : Blk} (hf : ∀ n, k ≤ n → H n = none) (h : H n = some b) : n < k := by
  rcases Nat.lt_or_ge n k with hlt | hge
  · exact hlt
  · rw [hf n hge] at h
    cases h

theorem and_mk {a b : Bool} (h : a = true) (k : b = true) : (a && b) = true := by rw [h, k]; rfl
theorem t_not {b : Bool} (h : b = false) : (!b) = true := by rw [h]; rfl
end
end Go.Ab

set_option linter.unusedVariables false
set_option linter.unusedSimpArgs false
namespace Go.Ab
open Go.RowKit

def scal : TypeDesc → Value → Option Lit
  | .bool, .bool b => some (.bool b)
  | .int q, .int q' n => if q' = q ∧ (Lit.int q n).wf = true then some (.int q n) else none
  | .string, .string s => if s.size ≤ maxLen then some (.string s.data.toList) else none
  | _, _ => none
def scals : List TypeDesc → List Value → Option (List Lit)
  | [], [] => some []
  | d :: ds, v :: vs => (scal d v).bind fun l => (scals ds vs).map fun r => l :: r
  | _, _ => none

def flats (P : Program) : Nat → TypeId → Option (List TypeDesc)
  | 0, _ => none
  | d + 1, t =>
    match P.underlying t with
    | some .bool => some [.bool]
    | some (.int q) => some [.int q]
    | some .string => some [.string]
    | some (.array n e) => (flats P d e).bind fun ds => if ds.length = P.cellsOf e ∧ P.cellsOf t = n * P.cellsOf e then some (List.replicate n ds).flatten else none
    | some (.struct fs) => if fs.all (·.name != "_") = true ∧ tiles P 0 fs.toList (P.cellsOf t) = true then (fs.toList.mapM fun f => (flats P d f.type).bind fun ds => if ds.length = P.cellsOf f.type then some ds else none).map List.flatten else none
    | _ => none

theorem scals_length : ∀ {ds : List TypeDesc} {cs : List Value} {ls : List Lit}, scals ds cs = some ls → cs.length = ds.length
  | [], [], _, _ => rfl
  | d :: ds, v :: vs, ls, h => by
    simp only [scals, Option.bind_eq_some_iff, Option.map_eq_some_iff] at h
    obtain ⟨l, h1, r, h2, h3⟩ := h
    simp [scals_length h2]
  | [], _ :: _, _, h => by simp [scals] at h
  | _ :: _, [], _, h => by simp [scals] at h

theorem scals_split : ∀ {ds : List TypeDesc} {ds' : List TypeDesc} {cs : List Value} {ls : List Lit}, scals (ds ++ ds') cs = some ls → ∃ la lb, scals ds (cs.take ds.length) = some la ∧ scals ds' (cs.drop ds.length) = some lb ∧ ls = la ++ lb
  | [], ds', cs, ls, h => ⟨[], ls, by simp [scals], by simpa using h, rfl⟩
  | d :: ds, ds', [], ls, h => by simp [scals] at h
  | d :: ds, ds', v :: vs, ls, h => by
    simp only [List.cons_append, scals, Option.bind_eq_some_iff, Option.map_eq_some_iff] at h
    obtain ⟨l, h1, r, h2, rfl⟩ := h
    obtain ⟨la, lb, h3, h4, rfl⟩ := scals_split h2
    refine ⟨l :: la, lb, ?_, by simpa using h4, rfl⟩
    simp [scals, h1, h3]

theorem mapM_flats {P : Program} {d : Nat} (ih : ∀ t ds cs ls, flats P d t = some ds → scals ds cs = some ls → P.keyLits d t cs = some ls) {cs : List Value} {N : Nat} (hN : cs.length = N) :
    ∀ (fs : List Field) (dss : List (List TypeDesc)) (off : Nat) (ls : List Lit), tiles P off fs N = true →
    (fs.mapM fun f => (flats P d f.type).bind fun ds => if ds.length = P.cellsOf f.type then some ds else none) = some dss → scals dss.flatten (cs.drop off) = some ls →
    ∃ lss, (fs.mapM fun f => P.keyLits d f.type ((cs.drop f.offset).take (P.cellsOf f.type))) = some lss ∧ lss.flatten = ls
  | [], dss, off, ls, ht, hm, hs => by
    simp at hm
    subst hm
    refine ⟨[], by simp, ?_⟩
    have h0 : cs.drop off = [] := List.length_eq_zero_iff.1 (scals_length hs)
    rw [h0] at hs
    simpa [scals] using hs
  | f :: fs, dss, off, ls, ht, hm, hs => by
    simp only [tiles, Bool.and_eq_true, beq_iff_eq] at ht
    obtain ⟨ho, hr⟩ := ht
    rw [List.mapM_cons] at hm
    simp only [bind, Option.bind_eq_some_iff, pure, Option.some.injEq] at hm
    obtain ⟨ds, ⟨ds0, hf, hd⟩, dss', hm', rfl⟩ := hm
    split at hd
    · rename_i hlen
      injection hd with hd
      subst hd
      rw [List.flatten_cons] at hs
      obtain ⟨la, lb, h1, h2, rfl⟩ := scals_split hs
      rw [hlen] at h1 h2
      obtain ⟨lss, h3, h4⟩ := mapM_flats ih hN fs dss' _ lb hr hm' (by rw [List.drop_drop] at h2; exact h2)
      refine ⟨la :: lss, ?_, by rw [List.flatten_cons, h4]⟩
      rw [List.mapM_cons, h3, ho, ih _ _ _ _ hf h1]
      rfl
    · cases hd

theorem rep_flats {P : Program} {d : Nat} {e : TypeId} {ds : List TypeDesc} (ih : ∀ cs ls, scals ds cs = some ls → P.keyLits d e cs = some ls) (hl : ds.length = P.cellsOf e) (cs : List Value) :
    ∀ (n i : Nat) (ls : List Lit), scals (List.replicate n ds).flatten (cs.drop (i * P.cellsOf e)) = some ls →
    ∃ lss, ((List.range' i n).mapM fun i => P.keyLits d e ((cs.drop (i * P.cellsOf e)).take (P.cellsOf e))) = some lss ∧ lss.flatten = ls
  | 0, i, ls, hs => by
    refine ⟨[], by simp, ?_⟩
    have h0 : cs.drop (i * P.cellsOf e) = [] := List.length_eq_zero_iff.1 (scals_length hs)
    rw [h0] at hs
    simpa [scals] using hs
  | n + 1, i, ls, hs => by
    rw [List.replicate_succ, List.flatten_cons] at hs
    obtain ⟨la, lb, h1, h2, rfl⟩ := scals_split hs
    rw [hl] at h1 h2
    obtain ⟨lss, h3, h4⟩ := rep_flats ih hl cs n (i + 1) lb (by rw [List.drop_drop] at h2; rw [Nat.add_mul, Nat.one_mul]; exact h2)
    refine ⟨la :: lss, ?_, by rw [List.flatten_cons, h4]⟩
    rw [List.range'_succ, List.mapM_cons, h3, ih _ _ h1]
    rfl

theorem keyLits_flats {P : Program} : ∀ (d : Nat) (t : TypeId) (ds : List TypeDesc) (cs : List Value) (ls : List Lit), flats P d t = some ds → scals ds cs = some ls → P.keyLits d t cs = some ls
  | 0, t, ds, cs, ls, h, _ => by simp [flats] at h
  | d + 1, t, ds, cs, ls, h, hs => by
    unfold flats at h
    unfold Program.keyLits
    have one : ∀ dd : TypeDesc, ds = [dd] → ∃ v l, cs = [v] ∧ scal dd v = some l ∧ ls = [l] := by
      rintro dd rfl
      have hl := scals_length hs
      match cs, hl with
      | [v], _ =>
        simp only [scals, Option.bind_eq_some_iff, Option.map_eq_some_iff] at hs
        obtain ⟨l, h1, r, h2, rfl⟩ := hs
        injection h2 with h2
        subst h2
        exact ⟨v, l, rfl, h1, rfl⟩
    split at h
    · rename_i hu
      injection h with h
      obtain ⟨v, l, rfl, h1, rfl⟩ := one _ h.symm
      cases v <;> simp_all [scal]
    · rename_i q hu
      injection h with h
      obtain ⟨v, l, rfl, h1, rfl⟩ := one _ h.symm
      clear one hs h
      cases v <;> simp only [scal] at h1 <;> first | (cases h1; done) | skip
      split at h1
      · rename_i hc
        simp only [hu]
        rw [if_pos hc]
        exact congrArg _ (congrArg (· :: []) (Option.some.inj h1))
      · cases h1
    · rename_i hu
      injection h with h
      obtain ⟨v, l, rfl, h1, rfl⟩ := one _ h.symm
      cases v <;> simp_all [scal]
    · rename_i n e hu
      obtain ⟨ds0, hf, hd⟩ := Option.bind_eq_some_iff.1 h
      split at hd
      · rename_i hc
        injection hd with hd
        subst hd
        have hlen : cs.length = P.cellsOf t := by
          rw [scals_length hs, List.length_flatten, List.map_replicate, hc.1, hc.2]
          simp
        obtain ⟨lss, h3, h4⟩ := rep_flats (P := P) (d := d) (e := e) (fun cs ls h => keyLits_flats d e _ cs ls hf h) hc.1 cs n 0 ls (by simpa using hs)
        rw [← List.range_eq_range'] at h3
        simp only [hu]
        split <;> simp_all
      · cases hd
    · rename_i fs hu
      split at h
      · rename_i hc
        obtain ⟨dss, hm, rfl⟩ := Option.map_eq_some_iff.1 h
        have hlen : cs.length = P.cellsOf t := by
          have h1 := scals_length hs
          rw [h1]
          have key : ∀ (fs : List Field) (dss : List (List TypeDesc)) (off N : Nat), tiles P off fs N = true → (fs.mapM fun f => (flats P d f.type).bind fun ds => if ds.length = P.cellsOf f.type then some ds else none) = some dss → off + dss.flatten.length = N := by
            intro fs
            induction fs with
            | nil =>
              intro dss off N ht hm
              simp at hm
              subst hm
              simpa [tiles] using ht
            | cons f fs ihf =>
              intro dss off N ht hm
              simp only [tiles, Bool.and_eq_true, beq_iff_eq] at ht
              rw [List.mapM_cons] at hm
              simp only [bind, Option.bind_eq_some_iff, pure, Option.some.injEq] at hm
              obtain ⟨ds, ⟨ds0, hf, hd⟩, dss', hm', rfl⟩ := hm
              split at hd
              · rename_i hl
                injection hd with hd
                subst hd
                have := ihf dss' _ N ht.2 hm'
                rw [List.flatten_cons, List.length_append, hl]
                omega
              · cases hd
          have := key fs.toList dss 0 _ hc.2 hm
          omega
        obtain ⟨lss, h3, h4⟩ := mapM_flats (fun t ds cs ls h1 h2 => keyLits_flats d t ds cs ls h1 h2) hlen fs.toList dss 0 ls hc.2 hm (by simpa using hs)
        simp only [hu]
        rw [if_pos ⟨hlen, hc.1⟩, h3, Option.map_some, h4]
      · cases h
    · cases h

/-- A struct's or an array's type whose values are compared cell by cell. -/
class EqInfo (P : Program) (t : TypeId) (ds : outParam (List TypeDesc)) : Prop where
  f : flats P 4 t = some ds
  k : P.keyTypeAt 4 t = true
  g : P.eqGuardType P.depth t = false
  a : isAggB P t = some true

section
variable {P : Program} {NG : Nat} {fr : Fr} {H : Hp} {nk : Nat} {R : Value → Hp → Nat → Prop} {o : Oper}

theorem scal_plain {d : TypeDesc} {v : Value} {l : Lit} (h : scal d v = some l) : isPlain v = true := by
  unfold scal at h
  split at h <;> first | rfl | cases h
theorem scals_plain : ∀ {ds : List TypeDesc} {cs : List Value} {ls : List Lit}, scals ds cs = some ls → cs.all isPlain = true
  | [], [], _, _ => rfl
  | d :: ds, v :: vs, ls, h => by
    simp only [scals, Option.bind_eq_some_iff, Option.map_eq_some_iff] at h
    obtain ⟨l, h1, r, h2, h3⟩ := h
    simp [scal_plain h1]
    have := scals_plain h2
    simpa using this
  | [], _ :: _, _, h => by simp [scals] at h
  | _ :: _, [], _, h => by simp [scals] at h

theorem scal_inj {d : TypeDesc} {v v' : Value} {l : Lit} (h : scal d v = some l) (h' : scal d v' = some l) : v = v' := by
  unfold scal at h h'
  split at h
  · injection h with h
    subst h
    split at h' <;> simp_all
  · split at h
    · injection h with h
      subst h
      split at h'
      · simp_all
      · split at h'
        · simp_all
        · cases h'
      · split at h' <;> simp_all
      · cases h'
    · cases h
  · split at h
    · injection h with h
      subst h
      split at h'
      · simp_all
      · split at h' <;> simp_all
      · split at h'
        · rename_i s1 _ _ _ s2 _ _
          injection h' with h'
          injection h' with h'
          have : s2.data = s1.data := Array.toList_inj.1 h'
          congr 1
          cases s1; cases s2
          exact congrArg ByteArray.mk this.symm
        · cases h'
      · cases h'
    · cases h
  · cases h
theorem scals_inj : ∀ {ds : List TypeDesc} {cs cs' : List Value} {l : List Lit}, scals ds cs = some l → scals ds cs' = some l → cs = cs'
  | [], [], [], _, _, _ => rfl
  | d :: ds, v :: vs, v' :: vs', l, h, h' => by
    simp only [scals, Option.bind_eq_some_iff, Option.map_eq_some_iff] at h h'
    obtain ⟨x, h1, r, h2, rfl⟩ := h
    obtain ⟨x', h1', r', h2', e⟩ := h'
    injection e with e1 e2
    subst e1; subst e2
    rw [scal_inj h1 h1', scals_inj h2 h2']
  | [], _ :: _, _, _, h, _ => by simp [scals] at h
  | [], [], _ :: _, _, _, h => by simp [scals] at h
  | _ :: _, [], _, _, h, _ => by simp [scals] at h
  | _ :: _, _ :: _, [], _, _, h => by simp [scals] at h

theorem eqAgg_run {t : TypeId} {ds : List TypeDesc} [he : EqInfo P t ds] {cs cs' : Array Value} (ha : (scals ds cs.toList).isSome = true) (hb : (scals ds cs'.toList).isSome = true) {r : Bool} (hr : r = true ↔ cs = cs') (w : World) :
    (Op.equalIn 10000 t (.agg cs) (.agg cs')).run P w = .ok r w := by
  obtain ⟨la, ha⟩ := Option.isSome_iff_exists.1 ha
  obtain ⟨lb, hb⟩ := Option.isSome_iff_exists.1 hb
  have hF : ∀ xs : Array Value, ∀ l, scals ds xs.toList = some l → (Value.agg xs).formed P t = true := by
    intro xs l hx
    have h1 := keyLits_flats 4 t ds _ _ he.f hx
    have hag := he.a
    unfold isAggB at hag
    unfold Program.keyLits at h1
    unfold Value.formed
    split at h1 <;> first
      | (rename_i hu _; simp_all; done)
      | (rename_i hu; rw [hu]; simp only [hu] at hag; split at h1 <;> first | (cases h1; done) | skip; rename_i hc; simp_all)
      | cases h1
  obtain ⟨q, h1, h2⟩ := run_equalIn_deep 9996 4 t he.k w 4 4 (.agg cs) (.agg cs') la lb (hF _ _ ha) (hF _ _ hb) (keyLits_flats 4 t ds _ _ he.f (by simpa [Value.cells] using ha)) (keyLits_flats 4 t ds _ _ he.f (by simpa [Value.cells] using hb))
  rw [h1]
  congr 1
  have h3 : la = lb ↔ cs = cs' := ⟨fun e => by
    subst e
    exact Array.toList_inj.1 (scals_inj ha hb), fun e => by
    subst e
    rw [ha] at hb
    exact Option.some.inj hb⟩
  have h4 : q = true ↔ r = true := h2.trans (h3.trans hr.symm)
  cases q <;> cases r <;> simp_all

theorem AOp.eqAgg {t t' : TypeId} {ds : List TypeDesc} {x y : Operand} {cs cs' : Array Value} (r : Bool) (ho : o.op = .binOp .eql t x y t') [he : EqInfo P t ds] (hx : aeval NG fr x = some (.agg cs)) (hy : aeval NG fr y = some (.agg cs'))
    (ha : (scals ds cs.toList).isSome = true) (hb : (scals ds cs'.toList).isSome = true) (hr : r = true ↔ cs = cs') (hR : R (.bool r) H nk) : AOp P NG o ⟨fr, H, nk⟩ R := by
  refine AOp.bin ho hx hy (z := .bool r) ?_ ?_ rfl (fun w => ?_) hR
  · obtain ⟨la, ha⟩ := Option.isSome_iff_exists.1 ha
    have := scals_plain ha
    simpa [selfRel] using this
  · obtain ⟨la, hb⟩ := Option.isSome_iff_exists.1 hb
    have := scals_plain hb
    simpa [selfRel] using this
  · rw [Sem.run_bind, run_eqGuard_agg w .eql t x y cs cs' he.g]
    simp only [Result.andThen_ok]
    rw [run_eql_struct, eqAgg_run ha hb hr w]
    rfl
theorem AOp.neAgg {t t' : TypeId} {ds : List TypeDesc} {x y : Operand} {cs cs' : Array Value} (r : Bool) (ho : o.op = .binOp .neq t x y t') [he : EqInfo P t ds] (hx : aeval NG fr x = some (.agg cs)) (hy : aeval NG fr y = some (.agg cs'))
    (ha : (scals ds cs.toList).isSome = true) (hb : (scals ds cs'.toList).isSome = true) (hr : r = true ↔ cs = cs') (hR : R (.bool (!r)) H nk) : AOp P NG o ⟨fr, H, nk⟩ R := by
  refine AOp.bin ho hx hy (z := .bool (!r)) ?_ ?_ rfl (fun w => ?_) hR
  · obtain ⟨la, ha⟩ := Option.isSome_iff_exists.1 ha
    have := scals_plain ha
    simpa [selfRel] using this
  · obtain ⟨la, hb⟩ := Option.isSome_iff_exists.1 hb
    have := scals_plain hb
    simpa [selfRel] using this
  · rw [Sem.run_bind, run_eqGuard_agg w .neq t x y cs cs' he.g]
    simp only [Result.andThen_ok]
    rw [run_neq_struct, eqAgg_run ha hb hr w]
    rfl
theorem scals_bytes : ∀ (l : List UInt8), scals (List.replicate l.length (.int .u8)) (l.map bv) = some (l.map fun c => .int .u8 (c.toNat : Int))
  | [] => rfl
  | c :: l => by
    have hw : (Lit.int .u8 (c.toNat : Int)).wf = true := by
      have := c.toNat_lt
      simp only [Lit.wf, Bool.and_eq_true, decide_eq_true_eq]
      constructor
      · exact Int.le_trans (by decide) (Int.natCast_nonneg _)
      · exact Int.le_trans (Int.ofNat_le.2 (show c.toNat ≤ 255 by omega)) (by decide)
    have h1 : scal (.int .u8) (bv c) = some (.int .u8 (c.toNat : Int)) := if_pos ⟨rfl, hw⟩
    simp only [List.length_cons, List.replicate_succ, List.map_cons, scals, h1, scals_bytes l]
    rfl
theorem AOp.neBool {t t' : TypeId} {x y : Operand} {a b : Bool} (ho : o.op = .binOp .neq t x y t') [hd : DescInfo P t .bool] (hx : aeval NG fr x = some (.bool a)) (hy : aeval NG fr y = some (.bool b)) (hR : R (.bool (!(a == b))) H nk) : AOp P NG o ⟨fr, H, nk⟩ R := by
  refine AOp.bin ho hx hy (z := .bool (!(a == b))) rfl rfl rfl (fun w => ?_) hR
  rw [Sem.run_bind]
  have h1 := run_equalIn_bool' w 9999 t a b hd.h
  have h2 : (eqGuard .neq t x y (.bool a) (.bool b)).run P w = .ok () w := by simp [eqGuard]
  rw [h2]
  simp only [Result.andThen_ok, binOp]
  simp [Op.equal, Op.maxDepth, h1]
end
end Go.Ab

set_option linter.unusedVariables false
set_option linter.unusedSimpArgs false
namespace Go.Ab
open Go.RowKit

/-- A struct's fields: where each lies, how many cells it has. -/
class PlInfo (P : Program) (t : TypeId) (pl : outParam (List (Nat × Nat))) : Prop where
  h : ∃ fs, P.underlying t = some (.struct fs) ∧ (fs.toList.mapM fun f => (sizeB P f.type).map fun n => (f.offset, n)) = some pl

def plOk (P : Program) (t : TypeId) (pl : List (Nat × Nat)) : Bool :=
  match P.underlying t with
  | some (.struct fs) => decide ((fs.toList.mapM fun f => (sizeB P f.type).map fun n => (f.offset, n)) = some pl)
  | _ => false
theorem PlInfo.of {P : Program} {t : TypeId} {pl : List (Nat × Nat)} (h : plOk P t pl = true) : PlInfo P t pl := by
  unfold plOk at h
  split at h
  · rename_i fs hu
    exact ⟨fs, hu, by simpa using h⟩
  · cases h

/-- Zero cells, one element behind the other. -/
def litZ (z : Value) (n : Nat) : Array Value := if n = 0 then #[] else (Array.range n).map fun i => z.cells[i % z.cells.size]!
theorem litZero_of {P : Program} {e : TypeId} {z : Value} [hz : ZeroInfo P e z] (n : Nat) : litZero P e n = some (litZ z n) := by
  unfold litZero litZ
  rw [hz.h]
  split <;> rfl
theorem litZ_plain {z : Value} (hp : z.cells.all isPlain = true) (n : Nat) : (litZ z n).all isPlain = true := by
  rw [Array.all_eq_true_iff_forall_mem] at hp ⊢
  unfold litZ
  split
  · intro v hv
    simp at hv
  · intro v hv
    rw [Array.mem_map] at hv
    obtain ⟨i, _, rfl⟩ := hv
    by_cases h : i % z.cells.size < z.cells.size
    · rw [getElem!_pos z.cells _ h]
      exact hp _ (Array.getElem_mem h)
    · rw [getElem!_neg z.cells _ h]
      rfl

section
variable {P : Program} {NG : Nat} {fr : Fr} {H : Hp} {nk : Nat} {R : Value → Hp → Nat → Prop} {o : Oper}

theorem AOp.buildS {t : TypeId} {ps : Array (Nat × Operand)} {cells : Array Value} {z : Value} {pl : List (Nat × Nat)} {vs : List (Nat × Value)} (ho : o.op = .build t ps) [hz : ZeroInfo P t z] [hp : PlInfo P t pl]
    (hx : aparts NG fr ps = some vs) (hf : Instr.fill (pl[·]?) z.cells vs = some cells) (hR : R (.agg cells) H nk) : AOp P NG o ⟨fr, H, nk⟩ R := by
  obtain ⟨fs, hu, hm⟩ := hp.h
  exact AOp.build (zero := #[]) (place := (pl[·]?)) ho hz.h hz.p (fun w ps' r hr => run_build_struct (pl := pl.toArray) hu hz.h (by simpa using hm) w ps' r (by simpa using hr)) hx hf hR
theorem AOp.buildSl {t e : TypeId} {len sz : Nat} {ps : Array (Nat × Operand)} {z : Value} {cells : Array Value} {vs : List (Nat × Value)} (ho : o.op = .buildSlice t len ps) [hf : SlInfo P t e sz] [hz : ZeroInfo P e z] (hb : len * sz ≤ 16777216)
    (hx : aparts NG fr ps = some vs) (hfill : Instr.fill (fun i => some (i * sz, sz)) (litZ z (len * sz)) vs = some cells)
    (hR : R (.slice (some ⟨nk, 0, none⟩) len len) (upd H nk (some { cells := cells.toList, elem := e, kind := .fix })) (nk + 1)) : AOp P NG o ⟨fr, H, nk⟩ R :=
  AOp.buildSlice ho hf.h hb (litZero_of _) (litZ_plain hz.p _) hx hfill hR
theorem AOp.buildGr {t e : TypeId} {len sz : Nat} {ps : Array (Nat × Operand)} {z : Value} {cells : Array Value} {vs : List (Nat × Value)} (ho : o.op = .buildSlice t len ps) [hf : SlInfo P t e sz] [hz : ZeroInfo P e z] (hsz : 0 < sz) (hb : len * sz ≤ 16777216)
    (hx : aparts NG fr ps = some vs) (hfill : Instr.fill (fun i => some (i * sz, sz)) (litZ z (len * sz)) vs = some cells) (hcs : cells.size = len * sz)
    (hR : R (.slice (some ⟨nk, 0, some 1⟩) len len) (upd H nk (some { cells := cells.toList, elem := e, kind := .grow, esz := sz })) (nk + 1)) : AOp P NG o ⟨fr, H, nk⟩ R :=
  AOp.buildGrow ho hf.h hsz hb (litZero_of _) (litZ_plain hz.p _) hx hfill hcs hR

theorem AOp.append' {x y : Operand} {t tx e : TypeId} {sz bytes n len m : Nat} {b : Blk} {yv : Value} {news : List Value} (ho : o.op = .call { callee := .builtin .append, args := #[x, y], argTypes := #[t, tx] }) [he : ElemInfo P t e sz bytes]
    (hx : aeval NG fr x = some (.slice (some ⟨n, 0, some 1⟩) len len)) (hy : aeval NG fr y = some yv) (hn : H n = some b) (hsrc : srcOf H sz yv = some (m, news)) (hk : b.kind = .grow) (hbe : b.elem = e) (hbz : b.esz = sz) (hlen : len * sz = b.cells.length)
    (ht : srcOk P tx yv = true) (h1 : ∀ u ∈ news, u.oneCell' = true) (hb : (len + m) * bytes ≤ 140737488355328) (h63 : len + m ≤ 9223372036854775807)
    (hR : R (.slice (some ⟨n, 0, some 1⟩) (len + m) (len + m)) (upd H n (some { b with cells := b.cells ++ news })) nk) : AOp P NG o ⟨fr, H, nk⟩ R :=
  AOp.append ho he.h hx hn hk hbe hbz hlen hy hsrc ht h1 hb h63 hR
theorem AOp.append0' {x y : Operand} {t tx e : TypeId} {sz bytes m : Nat} {A0 : Option Addr} {yv : Value} {news : List Value} (ho : o.op = .call { callee := .builtin .append, args := #[x, y], argTypes := #[t, tx] }) [he : ElemInfo P t e sz bytes]
    (hx : aeval NG fr x = some (.slice A0 0 0)) (hy : aeval NG fr y = some yv) (hsrc : srcOf H sz yv = some (m, news)) (hA0 : ∀ ad, A0 = some ad → ad.spot = none)
    (ht : srcOk P tx yv = true) (h1 : ∀ u ∈ news, u.oneCell' = true) (hb : m * bytes ≤ 140737488355328) (h63 : m ≤ 9223372036854775807)
    (hR : R (.slice (some ⟨nk, 0, some 1⟩) m m) (upd H nk (some { cells := news, elem := e, kind := .grow, esz := sz })) (nk + 1)) : AOp P NG o ⟨fr, H, nk⟩ R :=
  AOp.append0 ho he.h hx hA0 hy hsrc ht h1 hb h63 hR
/-- A slice's type is a slice's. -/
theorem srcOk_sl {t e : TypeId} {z : Nat} [hf : SlInfo P t e z] {A : Option Addr} {l c : Nat} : srcOk P t (.slice A l c) = true := by
  unfold srcOk
  rw [(slB_inv hf.h).1]
theorem bv_one (l : List UInt8) : ∀ u ∈ l.map bv, u.oneCell' = true := by
  intro u hu
  obtain ⟨c, _, rfl⟩ := List.mem_map.1 hu
  rfl

theorem AOp.lenStr' {x : Operand} {t : TypeId} {b : ByteArray} (ho : o.op = .call { callee := .builtin .len, args := #[x], argTypes := #[t] }) [hf : DescInfo P t .string] (hx : aeval NG fr x = some (.string b)) (hR : R (.int .i64 b.size) H nk) : AOp P NG o ⟨fr, H, nk⟩ R :=
  AOp.len_str ho hf.h hx hR
end
end Go.Ab

set_option linter.unusedVariables false
set_option linter.unusedSimpArgs false
namespace Go.Ab
open Go.RowKit

section
variable {P : Program} {NG : Nat} {fr : Fr} {H : Hp} {nk : Nat} {R : Value → Hp → Nat → Prop} {o : Oper}

theorem AOp.move' {x : Operand} {v : Value} (ho : o.op = .move x ∨ o.op = .assign x) (hx : aeval NG fr x = some v) (hR : R v H nk) : AOp P NG o ⟨fr, H, nk⟩ R := AOp.move ho hx hR
theorem AOp.extract' {x : Operand} {i : Nat} {cs : Array Value} {v : Value} (ho : o.op = .extract x i) (hx : aeval NG fr x = some (.tuple cs)) (hp : cs[i]? = some v) (hR : R v H nk) : AOp P NG o ⟨fr, H, nk⟩ R := AOp.extract ho hx hp hR
theorem AOp.makeIface' {t : TypeId} {x : Operand} {v : Value} {d : TypeDesc} (ho : o.op = .makeInterface t x) [hu : DescInfo P t d] (hd : ∀ ms, d ≠ .interface ms) (hx : aeval NG fr x = some v) (hR : R (.iface t v) H nk) : AOp P NG o ⟨fr, H, nk⟩ R := AOp.makeIface ho hu.h hd hx hR
theorem AOp.makeFunc' {fn : Fn} {cap : Array Operand} {vs : List Value} (ho : o.op = .makeFunc fn #[] cap) (hx : cap.toList.mapM (aeval NG fr) = some vs) (hR : R (.func fn #[] vs.toArray) H nk) : AOp P NG o ⟨fr, H, nk⟩ R := AOp.makeFunc ho hx hR
theorem AOp.nilCheck' {x : Operand} {n off : Nat} {sp : Option Nat} (ho : o.op = .nilCheck x) (hx : aeval NG fr x = some (.pointer (some ⟨n, off, sp⟩))) (hR : R (.pointer (some ⟨n, off, sp⟩)) H nk) : AOp P NG o ⟨fr, H, nk⟩ R := AOp.nilCheck ho hx hR
theorem AOp.boxV {e : TypeId} {x : Operand} {v : Value} (ho : o.op = .box e x) (hx : aeval NG fr x = some v)
    (hR : R (.pointer (some ⟨nk, 0, none⟩)) (upd H nk (some { cells := v.cells.toList, elem := e, kind := .fix })) (nk + 1)) : AOp P NG o ⟨fr, H, nk⟩ R := AOp.box ho hx hR

/-- A struct or an array, the whole of its block. -/
theorem AOp.loadAll {t : TypeId} {x : Operand} {n : Nat} {b : Blk} {z : Nat} {v : Value} (ho : o.op = .load t x) [ht : TyInfo P t true z] (hx : aeval NG fr x = some (.pointer (some ⟨n, 0, none⟩))) (hn : H n = some b) (hb : b.cells = v.cells.toList) (hv : v = .agg v.cells) (hz : v.cells.size = z) (hR : R v H nk) : AOp P NG o ⟨fr, H, nk⟩ R := by
  refine AOp.loadN (cs := v.cells.toList) ho hx hn (by rw [hb]; simp; omega) ?_ ?_
  · rw [hb, List.drop_zero, ← hz, ← Array.length_toList, List.take_length]
  · rw [Array.toArray_toList, ← hv]
    exact hR
theorem AOp.storeAll {t : TypeId} {x y : Operand} {n z : Nat} {b : Blk} {v : Value} (ho : o.op = .store t x y) [ht : TyInfo P t true z] (hx : aeval NG fr x = some (.pointer (some ⟨n, 0, none⟩)))
    (hy : aeval NG fr y = some v) (hn : H n = some b) (hk : b.kind = .fix) (hv : v = .agg v.cells) (hz : v.cells.size = z) (h1 : v.cells.toList.all (·.oneCell') = true) (hl : b.cells.length = z) (hR : R undef (upd H n (some { b with cells := v.cells.toList })) nk) : AOp P NG o ⟨fr, H, nk⟩ R := by
  rw [hv] at hy
  refine AOp.storeN ho hx hy hn hk hz (by rw [← Array.all_toList]; exact h1) (by omega) ?_
  have : putL b.cells 0 v.cells.toList = v.cells.toList := by
    unfold putL
    have h2 : v.cells.toList.length = b.cells.length := by rw [Array.length_toList]; omega
    simp [h2]
  rw [this]
  exact hR

end
end Go.Ab
