/- Abstract states over the model, part 4: a function's body; operations on values and addresses. No condition; over any program. -/
import Derived.Test.YtlbcgadmcjobiaaDoorAb3
set_option linter.unusedVariables false
set_option linter.unusedSimpArgs false
namespace Go.Ab
open Go.RowKit

section
variable {P : Program} {NG N B : Nat} {w0 w : World} {G : GMap} {s : St} {a : Act}

def resSem (tmps : Array Value) : ResultVar → Sem Value
  | .tmp t => pure (tmps.getD t undef)
  | .cell a t => do loadVar t (← asAddr (tmps.getD a undef))

theorem aresult_rel {H : Hp} {k : Nat} {fr : Fr} {tmps : Array Value} {r : ResultVar} {x : Value} (hS : SRel NG B w0 G H k w) (hF : FRel G N fr tmps) (h : aresult P fr H r = some x) :
    ∃ x', (resSem tmps r).run P w = .ok x' w ∧ VRel G x x' := by
  cases r with
  | tmp t => exact ⟨_, rfl, hF.2 t x h⟩
  | cell t ty =>
    simp only [aresult] at h
    cases hp : fr t with
    | none => simp [hp] at h
    | some p =>
      simp only [hp] at h
      obtain ⟨ad, x', e, hr, hv⟩ := loadVar_rel hS h (hF.2 t p hp)
      refine ⟨x', ?_, hv⟩
      simp only [resSem]
      rw [e, Sem.run_bind]
      exact hr

theorem mapM_run {H : Hp} {k : Nat} {fr : Fr} {tmps : Array Value} (hS : SRel NG B w0 G H k w) (hF : FRel G N fr tmps) :
    ∀ (rs : List ResultVar) (xs : List Value), aresults P rs fr H = some xs →
      ∃ xs' : List Value, (rs.mapM (resSem tmps) : Sem (List Value)).run P w = .ok xs' w ∧ ARel G xs xs'.toArray
  | [], xs, h => by
    injection h with h
    subst h
    exact ⟨[], by simp, rfl, fun i v hv => by simp at hv⟩
  | r :: rs, xs, h => by
    simp only [aresults, List.mapM_cons] at h
    cases h1 : aresult P fr H r with
    | none => simp [h1] at h
    | some x =>
      cases h2 : rs.mapM (aresult P fr H) with
      | none => simp [h1, h2] at h
      | some ys =>
        simp [h1, h2] at h
        subst h
        obtain ⟨x', e1, v1⟩ := aresult_rel (P := P) hS hF h1
        obtain ⟨ys', e2, v2, v3⟩ := mapM_run hS hF rs ys h2
        refine ⟨x' :: ys', ?_, by simpa using v2, fun i v hv => ?_⟩
        · rw [List.mapM_cons, Sem.run_bind, e1]
          simp only [Result.andThen_ok]
          rw [Sem.run_bind, e2]
          rfl
        · cases i with
          | zero => simp at hv; subst hv; exact ⟨x', by simp, v1⟩
          | succ i => simpa using v3 i v (by simpa using hv)

theorem results_rel {fn : Func} {H : Hp} {k : Nat} {fr : Fr} {tmps : Array Value} {xs : List Value} (hS : SRel NG B w0 G H k w) (hF : FRel G N fr tmps) (h : aresults P fn.results.toList fr H = some xs) :
    ∃ x', (results fn tmps).run P w = .ok x' w ∧ VRel G (packA xs) x' := by
  obtain ⟨xs', e, hl, hv⟩ := mapM_run (P := P) hS hF _ _ h
  refine ⟨if h : xs'.toArray.size = 1 then xs'.toArray[0] else .tuple xs'.toArray, ?_, ?_⟩
  · have : results fn tmps = (fn.results.mapM (resSem tmps) >>= fun vs => pure (if h : vs.size = 1 then vs[0] else .tuple vs)) := by
      unfold results
      congr 2
    rw [this, Sem.run_bind, Array.mapM_eq_mapM_toList, Sem.run_map, e]
    rfl
  · match xs, hl, hv with
    | [], hl, hv =>
      have : xs' = [] := by simpa using hl.symm
      subst this
      exact .tuple rfl fun i v v' hv => by simp at hv
    | [x], hl, hv =>
      match xs', hl with
      | [x'], _ =>
        obtain ⟨x'', h1, h2⟩ := hv 0 x rfl
        simp at h1
        subst h1
        exact h2
    | x :: y :: r, hl, hv =>
      have h1 : ¬ xs'.toArray.size = 1 := by simp at hl ⊢; omega
      rw [dif_neg h1]
      refine .tuple (by simpa using hl) fun i v v' h2 h3 => ?_
      obtain ⟨v'', h4, h5⟩ := hv i v (by simpa using h2)
      rw [h3] at h4
      injection h4 with h4
      subst h4
      exact h5

/-- A contract from a body. -/
theorem ACalls.of_code {f : FuncId} {fn : Func} {c : Code} {vs : List Value} {H : Hp} {k : Nat} {R : Value → Hp → Nat → Prop} (hf : P.funcs[f]? = some fn) (hb : fn.body = some c) (hn : vs.length ≤ fn.ntmps)
    (h : ACode P NG fn.ntmps c (fun e s' => (e = .normal ∨ e = .ret) ∧ ∃ xs, aresults P fn.results.toList s'.fr s'.H = some xs ∧ R (packA xs) s'.H s'.k) ⟨frOf vs, H, k⟩) : ACalls P NG f vs H k R := by
  intro B w0 G vs' w hS hv
  refine calls_of_wp hf hb ?_
  have hF : FRel G fn.ntmps (frOf vs) (vs' ++ Array.replicate (fn.ntmps - vs'.size) undef) := by
    refine ⟨by have := hv.1; simp; omega, fun t v ht => ?_⟩
    obtain ⟨v', h1, h2⟩ := hv.2 t v ht
    have hlt : t < vs'.size := (Array.getElem?_eq_some_iff.1 h1).1
    have e : (vs' ++ Array.replicate (fn.ntmps - vs'.size) undef).getD t undef = v' := by
      rw [Array.getD_eq_getD_getElem?, Array.getElem?_append_left hlt, h1]
      rfl
    rw [e]
    exact h2
  refine wp_mono (h B w0 G _ w ⟨hS, hF⟩ rfl) ?_
  rintro e a' w' ⟨s', G', ⟨he, xs, hx, hR⟩, hs', hk, hd⟩
  obtain ⟨x', hr, hvx⟩ := results_rel (fn := fn) hs'.S hs'.F hx
  rcases he with rfl | rfl
  · exact ⟨hd, x', hr, packA xs, x', s'.H, s'.k, G', rfl, hR, hvx, hs'.S, hk⟩
  · exact ⟨hd, x', hr, packA xs, x', s'.H, s'.k, G', rfl, hR, hvx, hs'.S, hk⟩

/-! ### Operations that make no memory -/
theorem AOp.quiet {o : Oper} {R : Value → Hp → Nat → Prop} (v : Value) (hR : R v s.H s.k)
    (h : ∀ (N B : Nat) (w0 : World) (G : GMap) (a : Act) (w : World), StRel NG N B w0 G s a w → ∃ v', (execOp a.eval o).run P w = .ok (.value v') w ∧ VRel G v v') : AOp P NG o s R := by
  intro N B w0 G a w hs next Q hn
  obtain ⟨v', hr, hv⟩ := h N B w0 G a w hs
  unfold Oper.wp
  rw [hr]
  exact hn v v' s.H s.k G w hR hv hs.S (Keep.refl _ _ _ _)

theorem VRel.self_ {v v' : Value} (hp : selfRel v = true) (h : VRel G v v') : v' = v := by
  have arr : ∀ cs cs' : Array Value, cs.all isPlain = true → cs.size = cs'.size → (∀ (i : Nat) (x x' : Value), cs[i]? = some x → cs'[i]? = some x' → VRel G x x') → cs' = cs := by
    intro cs cs' hc hs hh
    apply Array.ext_getElem?
    intro i
    rcases Nat.lt_or_ge i cs.size with hi | hi
    · have h1 : cs[i]? = some cs[i] := Array.getElem?_eq_getElem hi
      have h2 : cs'[i]? = some (cs'[i]'(by omega)) := Array.getElem?_eq_getElem (by omega)
      have := hh i _ _ h1 h2
      rw [h1, h2, this.plain_ (all_at hc h1)]
    · rw [Array.getElem?_eq_none hi, Array.getElem?_eq_none (by omega)]
  cases h with
  | plain h => rfl
  | agg hs h => rw [arr _ _ hp hs h]
  | tuple hs h => rw [arr _ _ hp hs h]
  | iface h => rw [h.plain_ hp]
  | func hs h =>
    simp only [selfRel, Bool.and_eq_true] at hp
    rw [arr _ _ hp.2 hs h]
  | _ => simp [selfRel, isPlain] at hp

theorem AOp.move {o : Oper} {R : Value → Hp → Nat → Prop} {x : Operand} {v : Value} (ho : o.op = .move x ∨ o.op = .assign x) (hx : aeval NG s.fr x = some v) (hR : R v s.H s.k) : AOp P NG o s R := by
  refine AOp.quiet v hR fun N B w0 G a w hs => ⟨a.eval x, ?_, aeval_rel hs hx⟩
  rcases ho with ho | ho <;> simp [execOp, ho]

theorem AOp.pick {o : Oper} {R : Value → Hp → Nat → Prop} {c x y : Operand} {t : Bool} {v : Value} (ho : o.op = .pick c x y) (hc : aeval NG s.fr c = some (.bool t)) (hx : aeval NG s.fr (if t then x else y) = some v)
    (hR : R v s.H s.k) : AOp P NG o s R := by
  refine AOp.quiet v hR fun N B w0 G a w hs => ?_
  have h1 := (aeval_rel hs hc).bool_
  refine ⟨_, ?_, aeval_rel hs hx⟩
  simp only [execOp, ho, h1]
  cases t <;> simp [asBool]

/-- Two operands that are scalars (or structs, arrays of these): what the model's operation comes to in every world. -/
theorem AOp.bin {o : Oper} {R : Value → Hp → Nat → Prop} {op : BinOp} {t t' : TypeId} {x y : Operand} {u v z : Value} (ho : o.op = .binOp op t x y t') (hx : aeval NG s.fr x = some u) (hy : aeval NG s.fr y = some v)
    (hu : selfRel u = true) (hv : selfRel v = true) (hz : selfRel z = true) (hrun : ∀ w : World, (do eqGuard op t x y u v; binOp op t u v : Sem Value).run P w = .ok z w) (hR : R z s.H s.k) : AOp P NG o s R := by
  refine AOp.quiet z hR fun N B w0 G a w hs => ⟨z, ?_, selfRel_rel hz⟩
  have h1 := (aeval_rel hs hx).self_ hu
  have h2 := (aeval_rel hs hy).self_ hv
  simp only [execOp, ho, h1, h2]
  rw [Sem.run_bind, hrun w]
  rfl

theorem AOp.un {o : Oper} {R : Value → Hp → Nat → Prop} {op : UnOp} {t : TypeId} {x : Operand} {u z : Value} (ho : o.op = .unOp op t x) (hx : aeval NG s.fr x = some u)
    (hu : selfRel u = true) (hz : selfRel z = true) (hrun : ∀ w : World, (Op.unary op u).run P w = .ok z w) (hR : R z s.H s.k) : AOp P NG o s R := by
  refine AOp.quiet z hR fun N B w0 G a w hs => ⟨z, ?_, selfRel_rel hz⟩
  have h1 := (aeval_rel hs hx).self_ hu
  simp only [execOp, ho, h1]
  rw [Sem.run_bind, hrun w]
  rfl

theorem AOp.conv {o : Oper} {R : Value → Hp → Nat → Prop} {t t' : TypeId} {x : Operand} {u z : Value} (ho : o.op = .convert t t' x) (hx : aeval NG s.fr x = some u)
    (hu : selfRel u = true) (hz : selfRel z = true) (hrun : ∀ w : World, (convert t t' u).run P w = .ok z w) (hR : R z s.H s.k) : AOp P NG o s R := by
  refine AOp.quiet z hR fun N B w0 G a w hs => ⟨z, ?_, selfRel_rel hz⟩
  have h1 := (aeval_rel hs hx).self_ hu
  simp only [execOp, ho, h1]
  rw [Sem.run_bind, hrun w]
  rfl

/-- A part of a struct or an array. -/
def apart (cs : Array Value) (agg : Bool) (off z : Nat) : Option Value :=
  if agg then (if off + z ≤ cs.size then some (.agg (cs.extract off (off + z))) else none) else cs[off]?

theorem part_rel {t : TypeId} {cs cs' : Array Value} {agg : Bool} {off z : Nat} {v : Value} (ha : isAggB P t = some agg) (hz : sizeB P t = some z) (h : apart cs agg off z = some v)
    (hs : cs.size = cs'.size) (hc : ∀ (i : Nat) (x x' : Value), cs[i]? = some x → cs'[i]? = some x' → VRel G x x') : ∃ v', (part t cs' off).run P w = .ok v' w ∧ VRel G v v' := by
  unfold part
  rw [Sem.run_bind, run_isAgg ha]
  simp only [Result.andThen_ok]
  cases agg with
  | true =>
    simp only [apart, if_true] at h
    split at h
    · rename_i hle
      injection h with h
      subst h
      refine ⟨.agg (cs'.extract off (off + z)), ?_, .agg (by simp; omega) fun i x x' hx hx' => ?_⟩
      · simp only [if_true]
        rw [Sem.run_bind, run_sizeOf hz]
        rfl
      · rw [Array.getElem?_extract] at hx hx'
        split at hx
        · rename_i h1
          split at hx'
          · exact hc _ x x' hx hx'
          · cases hx'
        · cases hx
    · cases h
  | false =>
    simp only [apart, Bool.false_eq_true, if_false] at h
    have hoff : off < cs.size := (Array.getElem?_eq_some_iff.1 h).1
    have h1 : cs'[off]? = some (cs'[off]'(by omega)) := Array.getElem?_eq_getElem (by omega)
    refine ⟨_, ?_, hc off v _ h h1⟩
    simp [h1]

/-- A struct type's field: its offset, whether it is a struct or an array, its size. -/
def fieldB (P : Program) (t : TypeId) (f : Nat) : Option (Nat × Bool × Nat) :=
  match P.underlying t with
  | some (.struct fs) => match fs[f]? with
    | some fd => match isAggB P fd.type, sizeB P fd.type with
      | some a, some z => some (fd.offset, a, z)
      | _, _ => none
    | none => none
  | _ => none

/-- An array type: its length, whether its elements are structs or arrays, their size. -/
def arrB (P : Program) (t : TypeId) : Option (Nat × Bool × Nat) :=
  match P.underlying t with
  | some (.array n e) => match isAggB P e, sizeB P e with
    | some a, some z => some (n, a, z)
    | _, _ => none
  | _ => none

/-- A slice type: its element's type and size. -/
def slB (P : Program) (t : TypeId) : Option (TypeId × Nat) :=
  match P.underlying t with
  | some (.slice e) => (sizeB P e).map fun z => (e, z)
  | _ => none

theorem fieldB_inv {t : TypeId} {f off z : Nat} {agg : Bool} (h : fieldB P t f = some (off, agg, z)) : ∃ fs fd, P.underlying t = some (.struct fs) ∧ fs[f]? = some fd ∧ fd.offset = off ∧ isAggB P fd.type = some agg ∧ sizeB P fd.type = some z := by
  unfold fieldB at h
  split at h
  · rename_i fs hu
    split at h
    · rename_i fd hf
      split at h
      · rename_i a z' h1 h2
        simp only [Option.some.injEq, Prod.mk.injEq] at h
        obtain ⟨rfl, rfl, rfl⟩ := h
        exact ⟨fs, fd, hu, hf, rfl, h1, h2⟩
      · cases h
    · cases h
  · cases h
theorem arrB_inv {t : TypeId} {n z : Nat} {agg : Bool} (h : arrB P t = some (n, agg, z)) : ∃ e, P.underlying t = some (.array n e) ∧ isAggB P e = some agg ∧ sizeB P e = some z := by
  unfold arrB at h
  split at h
  · rename_i m e hu
    split at h
    · rename_i a z' h1 h2
      simp only [Option.some.injEq, Prod.mk.injEq] at h
      obtain ⟨rfl, rfl, rfl⟩ := h
      exact ⟨e, hu, h1, h2⟩
    · cases h
  · cases h
theorem slB_inv {t e : TypeId} {z : Nat} (h : slB P t = some (e, z)) : P.underlying t = some (.slice e) ∧ sizeB P e = some z := by
  unfold slB at h
  split at h
  · rename_i e' hu
    cases h1 : sizeB P e' with
    | none => simp [h1] at h
    | some z' =>
      simp [h1] at h
      obtain ⟨rfl, rfl⟩ := h
      exact ⟨hu, h1⟩
  · cases h

theorem AOp.field {o : Oper} {R : Value → Hp → Nat → Prop} {t : TypeId} {x : Operand} {f off z : Nat} {agg : Bool} {cs : Array Value} {v : Value} (ho : o.op = .field t x f) (hf : fieldB P t f = some (off, agg, z))
    (hx : aeval NG s.fr x = some (.agg cs)) (hp : apart cs agg off z = some v) (hR : R v s.H s.k) : AOp P NG o s R := by
  refine AOp.quiet v hR fun N B w0 G a w hs => ?_
  obtain ⟨fs, fd, hu, hfd, rfl, ha, hz⟩ := fieldB_inv hf
  have h1 := aeval_rel hs hx
  generalize hy : a.eval x = y at h1
  cases h1 with
  | plain h => simp [isPlain] at h
  | @agg _ cs' hsz hc =>
    obtain ⟨v', hr, hv⟩ := part_rel (P := P) (w := w) ha hz hp hsz hc
    refine ⟨v', ?_, hv⟩
    simp only [execOp, ho, hy]
    rw [Sem.run_bind]
    have : (Instr.field t (.agg cs') f).run P w = .ok v' w := by
      unfold Instr.field
      rw [Sem.run_bind, run_underlying hu]
      simp only [Result.andThen_ok, hfd, asAgg]
      exact hr
    rw [this]
    rfl

theorem AOp.index_arr {o : Oper} {R : Value → Hp → Nat → Prop} {t : TypeId} {x y : Operand} {n z : Nat} {agg : Bool} {cs : Array Value} {v : Value} {i : Int} {ik : IntKind} (ho : o.op = .index t x y) (hf : arrB P t = some (n, agg, z))
    (hx : aeval NG s.fr x = some (.agg cs)) (hy : aeval NG s.fr y = some (.int ik i)) (h0 : 0 ≤ i) (hi : i < n) (hp : apart cs agg (i.toNat * z) z = some v) (hR : R v s.H s.k) : AOp P NG o s R := by
  refine AOp.quiet v hR fun N B w0 G a w hs => ?_
  obtain ⟨e, hu, ha, hz⟩ := arrB_inv hf
  have h2 := (aeval_rel hs hy).int_
  have h1 := aeval_rel hs hx
  generalize hy' : a.eval x = y' at h1
  cases h1 with
  | plain h => simp [isPlain] at h
  | @agg _ cs' hsz hc =>
    obtain ⟨v', hr, hv⟩ := part_rel (P := P) (w := w) ha hz hp hsz hc
    refine ⟨v', ?_, hv⟩
    simp only [execOp, ho, hy', h2]
    rw [Sem.run_bind]
    have : (Instr.index t (.agg cs') (.int ik i)).run P w = .ok v' w := by
      unfold Instr.index
      simp only [asIntOf]
      rw [Sem.run_bind]
      simp only [Sem.run_pure, Result.andThen_ok]
      rw [Sem.run_bind, run_underlying hu]
      simp only [Result.andThen_ok]
      rw [if_pos ⟨h0, hi⟩, Sem.run_bind, run_sizeOf hz]
      exact hr
    rw [this]
    rfl

theorem AOp.index_str {o : Oper} {R : Value → Hp → Nat → Prop} {t : TypeId} {x y : Operand} {b : ByteArray} {i : Int} {ik : IntKind} (ho : o.op = .index t x y) (hu : P.underlying t = some .string)
    (hx : aeval NG s.fr x = some (.string b)) (hy : aeval NG s.fr y = some (.int ik i)) (h0 : 0 ≤ i) (hi : i.toNat < b.size) (hR : R (.int .u8 (b[i.toNat]'hi).toNat) s.H s.k) : AOp P NG o s R := by
  refine AOp.quiet _ hR fun N B w0 G a w hs => ⟨_, ?_, .plain rfl⟩
  have h2 := (aeval_rel hs hy).int_
  have h1 := (aeval_rel hs hx).string_
  simp only [execOp, ho, h1, h2]
  rw [Sem.run_bind]
  have : (Instr.index t (.string b) (.int ik i)).run P w = .ok (.int .u8 (b[i.toNat]'hi).toNat) w := by
    unfold Instr.index
    simp only [asIntOf]
    rw [Sem.run_bind]
    simp only [Sem.run_pure, Result.andThen_ok]
    rw [Sem.run_bind, run_underlying hu]
    simp only [Result.andThen_ok, if_pos h0]
    rw [getElem?_pos b i.toNat hi]
    rfl
  rw [this]
  rfl

theorem AOp.extract {o : Oper} {R : Value → Hp → Nat → Prop} {x : Operand} {i : Nat} {cs : Array Value} {v : Value} (ho : o.op = .extract x i) (hx : aeval NG s.fr x = some (.tuple cs)) (hp : cs[i]? = some v) (hR : R v s.H s.k) : AOp P NG o s R := by
  refine AOp.quiet v hR fun N B w0 G a w hs => ?_
  have h1 := aeval_rel hs hx
  generalize hy : a.eval x = y at h1
  cases h1 with
  | plain h => simp [isPlain] at h
  | @tuple _ cs' hsz hc =>
    have hi : i < cs.size := (Array.getElem?_eq_some_iff.1 hp).1
    have h2 : cs'[i]? = some (cs'[i]'(by omega)) := Array.getElem?_eq_getElem (by omega)
    refine ⟨_, ?_, hc i v _ hp h2⟩
    simp [execOp, ho, hy, Instr.extract, h2]

theorem AOp.makeIface {o : Oper} {R : Value → Hp → Nat → Prop} {t : TypeId} {x : Operand} {v : Value} {d : TypeDesc} (ho : o.op = .makeInterface t x) (hu : P.underlying t = some d) (hd : ∀ ms, d ≠ .interface ms) (hx : aeval NG s.fr x = some v)
    (hR : R (.iface t v) s.H s.k) : AOp P NG o s R := by
  refine AOp.quiet _ hR fun N B w0 G a w hs => ⟨.iface t (a.eval x), ?_, .iface (aeval_rel hs hx)⟩
  simp only [execOp, ho]
  rw [Sem.run_bind]
  have : (Instr.makeInterface t (a.eval x)).run P w = .ok (.iface t (a.eval x)) w := by
    unfold Instr.makeInterface
    rw [Sem.run_bind, run_underlying hu]
    cases d <;> first | rfl | (exact absurd rfl (hd _))
  rw [this]
  rfl

theorem mapM_aeval {l : List Operand} {vs : List Value} (hs : StRel NG N B w0 G s a w) (h : l.mapM (aeval NG s.fr) = some vs) : ARel G vs (l.map a.eval).toArray := by
  induction l generalizing vs with
  | nil => injection h with h; subst h; exact ⟨rfl, fun i v hv => by simp at hv⟩
  | cons x l ih =>
    simp only [List.mapM_cons] at h
    cases h1 : aeval NG s.fr x with
    | none => simp [h1] at h
    | some v =>
      cases h2 : l.mapM (aeval NG s.fr) with
      | none => simp [h1, h2] at h
      | some ys =>
        simp [h1, h2] at h
        subst h
        obtain ⟨e1, e2⟩ := ih h2
        refine ⟨by simpa using e1, fun i u hu => ?_⟩
        cases i with
        | zero => simp at hu; subst hu; exact ⟨a.eval x, by simp, aeval_rel hs h1⟩
        | succ i => simpa using e2 i u (by simpa using hu)

theorem AOp.makeFunc {o : Oper} {R : Value → Hp → Nat → Prop} {fn : Fn} {cap : Array Operand} {vs : List Value} (ho : o.op = .makeFunc fn #[] cap) (hx : cap.toList.mapM (aeval NG s.fr) = some vs)
    (hR : R (.func fn #[] vs.toArray) s.H s.k) : AOp P NG o s R := by
  refine AOp.quiet _ hR fun N B w0 G a w hs => ?_
  obtain ⟨e1, e2⟩ := mapM_aeval hs hx
  refine ⟨.func fn #[] (cap.map a.eval), ?_, .func (by simpa using e1) fun i v v' hv hv' => ?_⟩
  · simp [execOp, ho, Instr.makeFunc]
  · obtain ⟨v'', h1, h2⟩ := e2 i v (by simpa using hv)
    have : (cap.map a.eval)[i]? = some v'' := by simpa using h1
    rw [hv'] at this
    injection this with this
    subst this
    exact h2

/-! ### Addresses -/
def aptrAdd (H : Hp) (d : Nat) : Value → Option Value
  | .pointer (some ⟨n, off, none⟩) => some (.pointer (some ⟨n, off + d, none⟩))
  | .pointer (some ⟨n, off, some 1⟩) => match H n with
    | some b => if off % b.esz + d < b.esz then some (.pointer (some ⟨n, off + d, some 1⟩)) else none
    | none => none
  | _ => none

theorem row_facts {H : Hp} {k : Nat} {b : Blk} {n z : Nat} {rows : List Row} (hS : SRel NG B w0 G H k w) (hn : H n = some b) (hg : G n = .rows z rows) : z = b.esz ∧ 0 < b.esz ∧ b.kind = .grow ∧ ∀ r ∈ rows, RowRel G w B b r := by
  have hb := hS.blk n b hn
  unfold BRel at hb
  cases hkd : b.kind with
  | ro => simp only [hkd] at hb; obtain ⟨base', e, _⟩ := hb; rw [hg] at e; cases e
  | fix => simp only [hkd] at hb; obtain ⟨blk, cs, e, _⟩ := hb; rw [hg] at e; cases e
  | grow =>
    simp only [hkd] at hb
    obtain ⟨h0, rows', e, _, h2, _⟩ := hb
    rw [hg] at e
    injection e with e1 e2
    subst e2
    exact ⟨e1, h0, rfl, h2⟩

theorem aptrAdd_rel {H : Hp} {k d : Nat} {p q p' : Value} (hS : SRel NG B w0 G H k w) (h : aptrAdd H d p = some q) (hp : VRel G p p') : ∃ ad, p' = .pointer (some ad) ∧ VRel G q (.pointer (some (ad.add d))) := by
  cases hp with
  | @ptr n off base hg =>
    injection h with h
    subst h
    exact ⟨_, rfl, by rw [add_add]; exact .ptr hg⟩
  | @gptr n off z rows r hg hr hk =>
    simp only [aptrAdd] at h
    cases hn : H n with
    | none => simp [hn] at h
    | some b =>
      simp only [hn] at h
      split at h
      · rename_i hlt
        injection h with h
        subst h
        obtain ⟨rfl, h0, _, h2⟩ := row_facts hS hn hg
        obtain ⟨_, _, h3, _⟩ := h2 r hr
        refine ⟨_, rfl, ?_⟩
        rw [add_plain]
        refine .gptr hg hr ?_
        have d1 := Nat.div_add_mod off b.esz
        have d2 := Nat.div_add_mod r.k b.esz
        rw [h3] at d2
        have hq : off / b.esz < r.k / b.esz := by
          rw [Nat.div_lt_iff_lt_mul h0, Nat.mul_comm, show b.esz * (r.k / b.esz) = r.k by omega]
          exact hk
        have : b.esz * (off / b.esz) + b.esz ≤ r.k := by
          rw [← Nat.mul_succ, show r.k = b.esz * (r.k / b.esz) by omega]
          exact Nat.mul_le_mul_left _ hq
        omega
      · cases h
  | plain hpl =>
    unfold aptrAdd at h
    split at h <;> simp_all [isPlain]
  | _ => simp [aptrAdd] at h

theorem AOp.fieldAddr {o : Oper} {R : Value → Hp → Nat → Prop} {t : TypeId} {x : Operand} {f off z : Nat} {agg : Bool} {p q : Value} (ho : o.op = .fieldAddr t x f) (hf : fieldB P t f = some (off, agg, z)) (hz0 : 0 < z)
    (hx : aeval NG s.fr x = some p) (hq : aptrAdd s.H off p = some q) (hR : R q s.H s.k) : AOp P NG o s R := by
  refine AOp.quiet q hR fun N B w0 G a w hs => ?_
  obtain ⟨fs, fd, hu, hfd, rfl, ha, hz⟩ := fieldB_inv hf
  obtain ⟨ad, e, hv⟩ := aptrAdd_rel hs.S hq (aeval_rel hs hx)
  refine ⟨_, ?_, hv⟩
  simp only [execOp, ho, e]
  rw [Sem.run_bind]
  have : (Instr.fieldAt t (.pointer (some ad)) f).run P w = .ok (.pointer (some (ad.add fd.offset))) w := by
    unfold Instr.fieldAt
    rw [Sem.run_bind, run_underlying hu]
    simp only [Result.andThen_ok, hfd, Instr.sureAddr]
    rw [Sem.run_bind]
    simp only [Sem.run_pure, Result.andThen_ok]
    unfold fieldPlace
    rw [Sem.run_bind, Sem.run_bind, run_sizeOf hz]
    simp only [Result.andThen_ok]
    rw [if_neg (by omega)]
    rfl
  rw [this]
  rfl

theorem AOp.indexAddr_arr {o : Oper} {R : Value → Hp → Nat → Prop} {t : TypeId} {x y : Operand} {n z : Nat} {agg : Bool} {p q : Value} {i : Int} {ik : IntKind} (ho : o.op = .indexAddr t x y) (hf : arrB P t = some (n, agg, z))
    (hx : aeval NG s.fr x = some p) (hy : aeval NG s.fr y = some (.int ik i)) (h0 : 0 ≤ i) (hi : i < n) (hq : aptrAdd s.H (i.toNat * z) p = some q) (hR : R q s.H s.k) : AOp P NG o s R := by
  refine AOp.quiet q hR fun N B w0 G a w hs => ?_
  obtain ⟨e, hu, ha, hz⟩ := arrB_inv hf
  obtain ⟨ad, e1, hv⟩ := aptrAdd_rel hs.S hq (aeval_rel hs hx)
  have h2 := (aeval_rel hs hy).int_
  refine ⟨_, ?_, hv⟩
  simp only [execOp, ho, e1, h2]
  rw [Sem.run_bind]
  have : (Instr.indexAt t (.pointer (some ad)) (.int ik i)).run P w = .ok (.pointer (some (ad.add (i.toNat * z)))) w := by
    simp [Instr.indexAt, asIntOf, run_underlying hu, Instr.sureAddr, h0, hi, run_sizeOf hz]
  rw [this]
  rfl

/-- Element i of an abstract slice: where it lies. -/
def aslcAt (H : Hp) (z : Nat) (i : Nat) : Value → Option Value
  | .slice (some ⟨n, off, none⟩) l _ => if i < l then some (.pointer (some ⟨n, off + i * z, none⟩)) else none
  | .slice (some ⟨n, off, some 0⟩) l _ => if i < l then some (.pointer (some ⟨n, off + i * z, none⟩)) else none
  | .slice (some ⟨n, off, some 1⟩) l _ => match H n with
    | some b => if i < l ∧ b.esz = z then some (.pointer (some ⟨n, off + i * z, some 1⟩)) else none
    | none => none
  | .slice (some ⟨n, off, some 2⟩) l _ => match H n with
    | some b => if i < l ∧ b.esz = z then some (.pointer (some ⟨n, off + i * z, some 1⟩)) else none
    | none => none
  | _ => none

theorem aslcAt_rel {H : Hp} {k z i : Nat} {p q p' : Value} (hS : SRel NG B w0 G H k w) (h : aslcAt H z i p = some q) (hp : VRel G p p') :
    ∃ ad l c, p' = .slice (some ad) l c ∧ i < l ∧ VRel G q (.pointer (some (ad.add (i * z)))) := by
  cases hp with
  | @exact n off l c base hg =>
    simp only [aslcAt] at h
    split at h
    · injection h with h
      subst h
      exact ⟨_, _, _, rfl, by assumption, by rw [add_add]; exact .ptr hg⟩
    · cases h
  | @loose n off l c base A hg hc hA =>
    simp only [aslcAt] at h
    split at h
    · rename_i hlt
      injection h with h
      subst h
      refine ⟨base.add off, l, c, by rw [hA (by omega)], hlt, by rw [add_add]; exact .ptr hg⟩
    · cases h
  | @grow n z' l c rows A hg hl =>
    simp only [aslcAt] at h
    cases hn : H n with
    | none => simp [hn] at h
    | some b =>
      simp only [hn] at h
      split at h
      · rename_i hlt
        obtain ⟨hlt, hz⟩ := hlt
        injection h with h
        subst h
        obtain ⟨e, h0, _, h2⟩ := row_facts hS hn hg
        have hzz : z' = z := e.trans hz
        subst hzz
        rcases hl with h3 | ⟨r, hr, rfl, hk, hlc, _⟩
        · omega
        · refine ⟨_, _, _, rfl, hlt, ?_⟩
          rw [add_plain]
          refine .gptr hg hr ?_
          have : i * z' + z' ≤ l * z' := by rw [← Nat.succ_mul]; exact Nat.mul_le_mul_right _ hlt
          omega
      · cases h
  | @gcut n off z' l c rows A hg hl =>
    simp only [aslcAt] at h
    cases hn : H n with
    | none => simp [hn] at h
    | some b =>
      simp only [hn] at h
      split at h
      · rename_i hlt
        obtain ⟨hlt, hz⟩ := hlt
        injection h with h
        subst h
        obtain ⟨e, h0, _, h2⟩ := row_facts hS hn hg
        have hzz : z' = z := e.trans hz
        subst hzz
        obtain ⟨r, hr, rfl, hk⟩ := hl.2 (by omega)
        refine ⟨_, _, _, rfl, hlt, ?_⟩
        rw [add_plain]
        refine .gptr hg hr ?_
        have : i * z' + z' ≤ l * z' := by rw [← Nat.succ_mul]; exact Nat.mul_le_mul_right _ hlt
        omega
      · cases h
  | plain hpl =>
    unfold aslcAt at h
    split at h <;> simp_all [isPlain]
  | _ => simp [aslcAt] at h

theorem AOp.indexAddr_slc {o : Oper} {R : Value → Hp → Nat → Prop} {t e : TypeId} {x y : Operand} {z : Nat} {p q : Value} {i : Int} {ik : IntKind} (ho : o.op = .indexAddr t x y) (hf : slB P t = some (e, z))
    (hx : aeval NG s.fr x = some p) (hy : aeval NG s.fr y = some (.int ik i)) (h0 : 0 ≤ i) (hq : aslcAt s.H z i.toNat p = some q) (hR : R q s.H s.k) : AOp P NG o s R := by
  refine AOp.quiet q hR fun N B w0 G a w hs => ?_
  obtain ⟨hu, hz⟩ := slB_inv hf
  obtain ⟨ad, l, c, e1, hi, hv⟩ := aslcAt_rel hs.S hq (aeval_rel hs hx)
  have h2 := (aeval_rel hs hy).int_
  refine ⟨_, ?_, hv⟩
  simp only [execOp, ho, e1, h2]
  rw [Sem.run_bind]
  have hil : i < (l : Int) := by omega
  have : (Instr.indexAt t (.slice (some ad) l c) (.int ik i)).run P w = .ok (.pointer (some (ad.add (i.toNat * z)))) w := by
    simp [Instr.indexAt, asIntOf, run_underlying hu, h0, hil, run_sizeOf hz]
  rw [this]
  rfl

theorem AOp.load {o : Oper} {R : Value → Hp → Nat → Prop} {t : TypeId} {x : Operand} {p v : Value} (ho : o.op = .load t x) (hx : aeval NG s.fr x = some p) (hl : aloadVar P s.H t p = some v) (hR : R v s.H s.k) : AOp P NG o s R := by
  refine AOp.quiet v hR fun N B w0 G a w hs => ?_
  obtain ⟨ad, x', e, hr, hv⟩ := loadVar_rel hs.S hl (aeval_rel hs hx)
  refine ⟨x', ?_, hv⟩
  simp only [execOp, ho, e, Instr.loadAt, Instr.sureAddr]
  rw [Sem.run_bind, Sem.run_bind]
  simp only [Sem.run_pure, Result.andThen_ok]
  rw [hr]
  rfl

theorem AOp.nilCheck {o : Oper} {R : Value → Hp → Nat → Prop} {x : Operand} {n off : Nat} {sp : Option Nat} (ho : o.op = .nilCheck x) (hx : aeval NG s.fr x = some (.pointer (some ⟨n, off, sp⟩))) (hR : R (.pointer (some ⟨n, off, sp⟩)) s.H s.k) : AOp P NG o s R := by
  refine AOp.quiet _ hR fun N B w0 G a w hs => ⟨a.eval x, ?_, aeval_rel hs hx⟩
  have h1 := aeval_rel hs hx
  generalize hy : a.eval x = y at h1
  simp only [execOp, ho, hy]
  cases h1 <;> first | rfl | (simp [isPlain] at *)

theorem AOp.nilCheck_func {o : Oper} {R : Value → Hp → Nat → Prop} {x : Operand} {f : FuncId} {cs : Array Value} (ho : o.op = .nilCheck x) (hx : aeval NG s.fr x = some (.func (.func f) #[] cs)) (hR : R (.func (.func f) #[] cs) s.H s.k) : AOp P NG o s R := by
  refine AOp.quiet _ hR fun N B w0 G a w hs => ⟨a.eval x, ?_, aeval_rel hs hx⟩
  have h1 := aeval_rel hs hx
  generalize hy : a.eval x = y at h1
  simp only [execOp, ho, hy]
  cases h1 <;> first | rfl | (simp [isPlain] at *)

end
end Go.Ab
