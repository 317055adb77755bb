/- Abstract states over the model, part 3: code and calls. No condition; over any program. -/
import Derived.Test.YtlbcgadmcjobiaaDoorAb2
set_option linter.unusedVariables false
set_option linter.unusedSimpArgs false
namespace Go.Ab
open Go.RowKit

/-- From the state s on the code c ends as Q says, whatever real world the state stands for. -/
def ACode (P : Program) (NG N : Nat) (c : Code) (Q : Exit → St → Prop) (s : St) : Prop :=
  ∀ (B : Nat) (w0 : World) (G : GMap) (a : Act) (w : World), StRel NG N B w0 G s a w → a.defers = [] → c.wp P (Post NG N B w0 G s w Q) a w

def thenA (K : St → Prop) (Q : Exit → St → Prop) : Exit → St → Prop
  | .normal, s => K s
  | e, s => Q e s

def blockA (id : Nat) (Q : Exit → St → Prop) : Exit → St → Prop
  | .exit id', s => if id' = id then Q .normal s else Q (.exit id') s
  | e, s => Q e s

section
variable {P : Program} {NG N : Nat} {Q Q' : Exit → St → Prop} {s : St}

theorem ACode.mono {c : Code} (h : ACode P NG N c Q s) (hq : ∀ e s, Q e s → Q' e s) : ACode P NG N c Q' s :=
  fun B w0 G a w hs hd => wp_mono (h B w0 G a w hs hd) fun e a' w' ⟨s', G', h1, h2⟩ => ⟨s', G', hq _ _ h1, h2⟩

/-- Fewer slots, the same heap. -/
theorem ACode.less {c : Code} {fr : Fr} (h : ACode P NG N c Q ⟨fr, s.H, s.k⟩) (hl : ∀ t v, fr t = some v → s.fr t = some v) : ACode P NG N c Q s :=
  fun B w0 G a w hs hd => h B w0 G a w ⟨hs.S, hs.F.less hl⟩ hd

theorem ACode.skip (h : Q .normal s) : ACode P NG N .skip Q s := fun B w0 G a w hs hd => wp_skip ⟨s, G, h, hs, Keep.refl _ _ _ _, hd⟩
theorem ACode.label {l : Nat} (h : Q .normal s) : ACode P NG N (.label l) Q s := fun B w0 G a w hs hd => wp_label ⟨s, G, h, hs, Keep.refl _ _ _ _, hd⟩
theorem ACode.exit {id : Nat} (h : Q (.exit id) s) : ACode P NG N (.exit id) Q s := fun B w0 G a w hs hd => wp_exit ⟨s, G, h, hs, Keep.refl _ _ _ _, hd⟩
theorem ACode.ret (h : Q .ret s) : ACode P NG N .ret Q s := fun B w0 G a w hs hd => wp_ret ⟨s, G, h, hs, Keep.refl _ _ _ _, hd⟩

theorem ACode.seq {x y : Code} (h : ACode P NG N x (thenA (ACode P NG N y Q) Q) s) : ACode P NG N (.seq x y) Q s := by
  intro B w0 G a w hs hd
  refine wp_seq (wp_mono (h B w0 G a w hs hd) ?_)
  rintro e a' w' ⟨s', G', h1, h2, h3, h4⟩
  cases e with
  | normal =>
    refine wp_mono (h1 B w0 G' a' w' h2 h4) ?_
    intro e2 a2 w2 hp
    exact hp.back (fun n hn => (hs.S.fresh n hn).2) h3
  | _ => exact ⟨s', G', h1, h2, h3, h4⟩

theorem ACode.cond {c : Operand} {x y : Code} {t : Bool} (hc : aeval NG s.fr c = some (.bool t)) (ht : t = true → ACode P NG N x Q s) (hf : t = false → ACode P NG N y Q s) :
    ACode P NG N (.cond c x y) Q s := by
  intro B w0 G a w hs hd
  refine wp_cond_split (t := t) (aeval_rel hs hc).bool_ (fun h => ht h B w0 G a w hs hd) (fun h => hf h B w0 G a w hs hd)

theorem ACode.block {id : Nat} {c : Code} (h : ACode P NG N c (blockA id Q) s) : ACode P NG N (.block id c) Q s := by
  intro B w0 G a w hs hd
  refine wp_block (wp_mono (h B w0 G a w hs hd) ?_)
  rintro e a' w' ⟨s', G', h1, h2⟩
  cases e with
  | exit id' =>
    simp only [blockA] at h1
    simp only [Exit.inBlock]
    split
    · rename_i e
      rw [if_pos e] at h1
      exact ⟨s', G', h1, h2⟩
    · rename_i e
      rw [if_neg e] at h1
      exact ⟨s', G', h1, h2⟩
  | _ => exact ⟨s', G', h1, h2⟩

theorem ACode.region {id : Nat} {ops : Array Oper} (hd : dstsOk N ops = true) (h : aOps P NG ops (Q .normal) (List.range ops.size) s) : ACode P NG N (.region id ops false) Q s :=
  fun B w0 G a w hs hdf => wp_region (aOps_sound hd _ s G a w h hs hdf)

theorem rounds_mono {c : Code} {R : Exit → Act → World → Prop} : ∀ (n m : Nat), n ≤ m → ∀ (a : Act) (w : World), Code.rounds P c R n a w → Code.rounds P c R m a w
  | 0, _, _, _, _, h => h.elim
  | n + 1, 0, hle, _, _, _ => by omega
  | n + 1, m + 1, hle, a, w, h => by
    rw [rounds_succ] at h ⊢
    refine wp_mono h ?_
    intro e a' w' he
    cases e with
    | normal => exact rounds_mono n m (by omega) a' w' he
    | _ => exact he

/-- A loop: I n holds at each round's head, n falls. -/
theorem ACode.loop {c : Code} (I : Nat → St → Prop) (n : Nat) (h0 : I n s) (h : ∀ n s, I n s → ACode P NG N c (thenA (fun s' => ∃ m, m < n ∧ I m s') Q) s) : ACode P NG N (.loop c) Q s := by
  intro B w0 G a w hs hd
  have key : ∀ n s1 G1 a1 w1, I n s1 → StRel NG N B w0 G1 s1 a1 w1 → a1.defers = [] → Keep s.H s.k G w s1.H s1.k G1 w1 → Code.rounds P c (Post NG N B w0 G s w Q) (n + 1) a1 w1 := by
    intro n
    induction n using Nat.strongRecOn with
    | _ n ih =>
      intro s1 G1 a1 w1 hI hs1 hd1 hk
      rw [rounds_succ]
      refine wp_mono (h n s1 hI B w0 G1 a1 w1 hs1 hd1) ?_
      rintro e a' w' ⟨s', G', h1, h2, h3, h4⟩
      have hk' := hk.trans (fun n hn => (hs.S.fresh n hn).2) h3
      cases e with
      | normal =>
        obtain ⟨m, hm, hI'⟩ := h1
        exact rounds_mono (m + 1) n (by omega) a' w' (ih m hm s' G' a' w' hI' h2 h4 hk')
      | _ => exact ⟨s', G', h1, h2, hk', h4⟩
  exact wp_loop_rounds _ (key n s G a w h0 hs hd (Keep.refl _ _ _ _))
end

/-! ### Calls -/
def ARel (G : GMap) (vs : List Value) (vs' : Array Value) : Prop := vs.length = vs'.size ∧ ∀ (i : Nat) (v : Value), vs[i]? = some v → ∃ v', vs'[i]? = some v' ∧ VRel G v v'

/-- Called with values that vs stand for, in whatever world that H stands for, f returns; R tells the value, the heap, the names. -/
def ACalls (P : Program) (NG : Nat) (f : FuncId) (vs : List Value) (H : Hp) (k : Nat) (R : Value → Hp → Nat → Prop) : Prop :=
  ∀ (B : Nat) (w0 : World) (G : GMap) (vs' : Array Value) (w : World), SRel NG B w0 G H k w → ARel G vs vs' →
    Calls P f vs' w fun e w' => ∃ v v' H' k' G', e = .returned v' ∧ R v H' k' ∧ VRel G' v v' ∧ SRel NG B w0 G' H' k' w' ∧ Keep H k G w H' k' G' w'

theorem ACalls.mono {P : Program} {NG : Nat} {f : FuncId} {vs : List Value} {H : Hp} {k : Nat} {R R' : Value → Hp → Nat → Prop} (h : ACalls P NG f vs H k R)
    (hr : ∀ v H k, R v H k → R' v H k) : ACalls P NG f vs H k R' :=
  fun B w0 G vs' w hS hv => (h B w0 G vs' w hS hv).mono fun e w' ⟨v, v', H', k', G', h1, h2, h3⟩ => ⟨v, v', H', k', G', h1, hr _ _ _ h2, h3⟩

/-! ### Types, as the rules ask of them -/
def isAggB (P : Program) (t : TypeId) : Option Bool :=
  match P.underlying t with
  | some (.struct _) | some (.array _ _) => some true
  | some _ => some false
  | none => none
def sizeB (P : Program) (t : TypeId) : Option Nat := (P.info? t).map (·.size)

section
variable {P : Program} {w : World}
theorem run_isAgg {t : TypeId} {b : Bool} (h : isAggB P t = some b) : (isAgg t).run P w = .ok b w := by
  unfold isAggB at h
  cases hu : P.underlying t with
  | none => simp [hu] at h
  | some d =>
    rw [hu] at h
    unfold isAgg
    rw [Sem.run_bind, run_underlying hu]
    cases d <;> simp_all
theorem run_sizeOf {t : TypeId} {z : Nat} (h : sizeB P t = some z) : (sizeOf t).run P w = .ok z w := by
  unfold sizeB at h
  cases hi : P.info? t with
  | none => simp [hi] at h
  | some i =>
    simp [hi] at h
    simp [sizeOf, typeInfo, hi, h]
end

/-! ### Loads -/
/-- The cells of a name. -/
def hcells (H : Hp) (n off z : Nat) : Option (List Value) :=
  match H n with
  | some b => if off + z ≤ b.cells.length then some ((b.cells.drop off).take z) else none
  | none => none

/-- z cells at an abstract address. -/
def aload (H : Hp) (z : Nat) : Value → Option (List Value)
  | .pointer (some ⟨n, off, none⟩) => hcells H n off z
  | .pointer (some ⟨n, off, some 1⟩) => match H n with
    | some b => if off % b.esz + z ≤ b.esz then hcells H n off z else none
    | none => none
  | _ => none

theorem add_block (a : Addr) (n : Nat) : (a.add n).block = a.block := by unfold Addr.add; split <;> rfl
theorem add_add (a : Addr) (i j : Nat) : (a.add i).add j = a.add (i + j) := by
  unfold Addr.add
  by_cases hi : i = 0 <;> by_cases hj : j = 0 <;> simp [hi, hj, Nat.add_assoc]
theorem add_plain (g i j : Nat) : (⟨g, i, none⟩ : Addr).add j = ⟨g, i + j, none⟩ := by unfold Addr.add; split <;> simp_all

section
variable {NG B : Nat} {w0 w : World} {G : GMap} {H : Hp} {k : Nat}

/-- What stands at the real address. -/
theorem load_at {b : Blk} {n : Nat} {base : Addr} (hS : SRel NG B w0 G H k w) (hn : H n = some b) (hg : G n = .at base) {j : Nat} {v : Value} (hv : b.cells[j]? = some v) :
    ∃ v', w.cell? (base.add j) = some v' ∧ VRel G v v' := by
  have hb := hS.blk n b hn
  have hj : j < b.cells.length := (List.getElem?_eq_some_iff.1 hv).1
  unfold BRel at hb
  cases hk : b.kind with
  | ro =>
    simp only [hk] at hb
    obtain ⟨base', e, _, hc⟩ := hb
    rw [hg] at e
    injection e with e
    subst e
    exact hc j v hj hv
  | fix =>
    simp only [hk] at hb
    obtain ⟨blk, cs, e, _, hr, _, hc⟩ := hb
    rw [hg] at e
    injection e with e
    subst e
    obtain ⟨v', h1, h2⟩ := hc j v hj hv
    refine ⟨v', ?_, h2⟩
    rw [add_plain, hr.cell, Nat.zero_add]
    exact h1
  | grow =>
    simp only [hk] at hb
    obtain ⟨_, rows, e, _⟩ := hb
    rw [hg] at e
    cases e

theorem load_row {b : Blk} {n s : Nat} {rows : List Row} {r : Row} (hS : SRel NG B w0 G H k w) (hn : H n = some b) (hg : G n = .rows s rows) (hr : r ∈ rows) {j : Nat} {v : Value} (hv : b.cells[j]? = some v) (hj : j < r.k) :
    ∃ v', w.cell? ⟨r.block, j, none⟩ = some v' ∧ VRel G v v' := by
  have hb := hS.blk n b hn
  unfold BRel at hb
  cases hk : b.kind with
  | ro =>
    simp only [hk] at hb
    obtain ⟨base', e, _, hc⟩ := hb
    rw [hg] at e
    cases e
  | fix =>
    simp only [hk] at hb
    obtain ⟨blk, cs, e, _, hr, _, hc⟩ := hb
    rw [hg] at e
    cases e
  | grow =>
    simp only [hk] at hb
    obtain ⟨_, rows', e, _, h2, _⟩ := hb
    rw [hg] at e
    injection e with e1 e2
    subst e2
    obtain ⟨_, _, _, cs, h3, _, _, h4⟩ := h2 r hr
    obtain ⟨v', h5, h6⟩ := h4 j v hj hv
    exact ⟨v', by rw [h3.cell]; exact h5, h6⟩

/-- The real cells behind an abstract address, a list. -/
theorem aload_rel {z : Nat} {v v' : Value} {cs : List Value} (hS : SRel NG B w0 G H k w) (hl : aload H z v = some cs) (hv : VRel G v v') :
    ∃ a, v' = .pointer (some a) ∧ cs.length = z ∧ ∃ cs' : List Value, cs'.length = z ∧ (∀ j u, cs'[j]? = some u → w.cell? (a.add j) = some u) ∧ ∀ (j : Nat) (u : Value), cs[j]? = some u → ∃ u', cs'[j]? = some u' ∧ VRel G u u' := by
  have main : ∀ (n off : Nat) (a : Addr), hcells H n off z = some cs → (∀ b, H n = some b → ∀ j u, j < z → b.cells[off + j]? = some u → ∃ u', w.cell? (a.add j) = some u' ∧ VRel G u u') →
      cs.length = z ∧ ∃ cs' : List Value, cs'.length = z ∧ (∀ j u, cs'[j]? = some u → w.cell? (a.add j) = some u) ∧ ∀ (j : Nat) (u : Value), cs[j]? = some u → ∃ u', cs'[j]? = some u' ∧ VRel G u u' := by
    intro n off a hc hat
    unfold hcells at hc
    cases hn : H n with
    | none => simp [hn] at hc
    | some b =>
      simp only [hn] at hc
      split at hc
      · rename_i hle
        injection hc with hc
        have hlen : cs.length = z := by rw [← hc, List.length_take, List.length_drop]; omega
        refine ⟨hlen, (List.range z).map (fun j => (w.cell? (a.add j)).getD undef), by simp, ?_, ?_⟩
        · intro j u hu
          rw [List.getElem?_map] at hu
          rcases Nat.lt_or_ge j z with hj | hj
          · rw [List.getElem?_range hj] at hu
            simp only [Option.map_some, Option.some.injEq] at hu
            obtain ⟨u', h1, _⟩ := hat b hn j (b.cells[off + j]'(by omega)) hj (List.getElem?_eq_getElem (by omega))
            rw [h1] at hu ⊢
            simpa using hu
          · rw [List.getElem?_eq_none (by simpa using hj)] at hu
            cases hu
        · intro j u hu
          have hj : j < z := by have := (List.getElem?_eq_some_iff.1 hu).1; omega
          have hu' : b.cells[off + j]? = some u := by
            rw [← hc, List.getElem?_take, if_pos hj, List.getElem?_drop] at hu
            exact hu
          obtain ⟨u', h1, h2⟩ := hat b hn j u hj hu'
          refine ⟨u', ?_, h2⟩
          rw [List.getElem?_map, List.getElem?_range hj]
          simp [h1]
      · cases hc
  cases hv with
  | @ptr n off base hg =>
    refine ⟨_, rfl, main n off _ hl fun b hn j u hj hu => ?_⟩
    rw [add_add]
    exact load_at hS hn hg hu
  | @gptr n off s rows r hg hr hk =>
    simp only [aload] at hl
    cases hn : H n with
    | none => simp [hn] at hl
    | some b =>
      simp only [hn] at hl
      split at hl
      · rename_i hmod
        refine ⟨_, rfl, main n off _ hl fun b' hn' j u hj hu => ?_⟩
        rw [hn] at hn'
        injection hn' with hn'
        subst hn'
        rw [add_plain]
        refine load_row hS hn hg hr hu ?_
        have hb := hS.blk n b hn
        unfold BRel at hb
        cases hkd : b.kind with
        | ro => simp only [hkd] at hb; obtain ⟨base', e, _⟩ := hb; rw [hg] at e; cases e
        | fix => simp only [hkd] at hb; obtain ⟨blk, cs, e, _⟩ := hb; rw [hg] at e; cases e
        | grow =>
          simp only [hkd] at hb
          obtain ⟨h0, rows', e, _, h2, _⟩ := hb
          rw [hg] at e
          injection e with e1 e2
          subst e2
          obtain ⟨_, _, h3, _⟩ := h2 r hr
          have d1 := Nat.div_add_mod off b.esz
          have d2 := Nat.div_add_mod r.k b.esz
          rw [h3] at d2
          have hq : off / b.esz < r.k / b.esz := by
            rw [Nat.div_lt_iff_lt_mul h0]
            rw [Nat.mul_comm, show b.esz * (r.k / b.esz) = r.k by omega]
            exact hk
          have : b.esz * (off / b.esz) + b.esz ≤ r.k := by
            rw [← Nat.mul_succ, show r.k = b.esz * (r.k / b.esz) by omega]
            exact Nat.mul_le_mul_left _ hq
          omega
      · cases hl
  | plain hp =>
    unfold aload at hl
    split at hl <;> simp_all [isPlain]
  | _ => simp [aload] at hl
end

/-- The value of a variable of type t. -/
def aloadVar (P : Program) (H : Hp) (t : TypeId) (v : Value) : Option Value :=
  match isAggB P t, sizeB P t with
  | some true, some z => (aload H z v).map fun cs => .agg cs.toArray
  | some false, _ => match aload H 1 v with
    | some [x] => some x
    | _ => none
  | _, _ => none

theorem loadVar_rel {P : Program} {NG B : Nat} {w0 w : World} {G : GMap} {H : Hp} {k : Nat} {t : TypeId} {v v' x : Value} (hS : SRel NG B w0 G H k w) (hl : aloadVar P H t v = some x) (hv : VRel G v v') :
    ∃ a x', v' = .pointer (some a) ∧ (loadVar t a).run P w = .ok x' w ∧ VRel G x x' := by
  unfold aloadVar at hl
  cases ha : isAggB P t with
  | none => simp [ha] at hl
  | some b =>
    cases b with
    | true =>
      cases hz : sizeB P t with
      | none => simp [ha, hz] at hl
      | some z =>
        simp only [ha, hz] at hl
        cases hc : aload H z v with
        | none => simp [hc] at hl
        | some cs =>
          simp only [hc, Option.map_some, Option.some.injEq] at hl
          subst hl
          obtain ⟨a, rfl, hlen, cs', hlen', h1, h2⟩ := aload_rel hS hc hv
          refine ⟨a, .agg cs'.toArray, rfl, ?_, ?_⟩
          · unfold loadVar
            rw [Sem.run_bind, run_isAgg ha]
            simp only [Result.andThen_ok, if_true]
            rw [Sem.run_bind, run_sizeOf hz]
            simp only [Result.andThen_ok]
            have h3 := run_loadCells_list (P := P) w a cs' h1
            rw [hlen'] at h3
            rw [Sem.run_bind, h3]
            rfl
          · refine .agg (by simp [hlen, hlen']) fun i u u' hu hu' => ?_
            obtain ⟨u'', h4, h5⟩ := h2 i u (by simpa using hu)
            have : cs'[i]? = some u' := by simpa using hu'
            rw [h4] at this
            injection this with this
            subst this
            exact h5
    | false =>
      simp only [ha] at hl
      cases hc : aload H 1 v with
      | none => simp [hc] at hl
      | some cs =>
        simp only [hc] at hl
        match cs, hc, hl with
        | [y], hc, hl =>
          injection hl with hl
          subst hl
          obtain ⟨a, rfl, hlen, cs', hlen', h1, h2⟩ := aload_rel hS hc hv
          obtain ⟨u', h4, h5⟩ := h2 0 y rfl
          refine ⟨a, u', rfl, ?_, h5⟩
          unfold loadVar
          rw [Sem.run_bind, run_isAgg ha]
          simp only [Result.andThen_ok, Bool.false_eq_true, if_false]
          have h6 := h1 0 u' h4
          rw [show a.add 0 = a from rfl] at h6
          simp [load, Sem.run, h6]

/-! ### A function's body -/
def aresult (P : Program) (fr : Fr) (H : Hp) : ResultVar → Option Value
  | .tmp t => fr t
  | .cell a t => match fr a with
    | some p => aloadVar P H t p
    | none => none

def aresults (P : Program) (rs : List ResultVar) (fr : Fr) (H : Hp) : Option (List Value) := rs.mapM (aresult P fr H)

def packA : List Value → Value
  | [v] => v
  | vs => .tuple vs.toArray

def frOf (vs : List Value) : Fr := fun t => vs[t]?

end Go.Ab
