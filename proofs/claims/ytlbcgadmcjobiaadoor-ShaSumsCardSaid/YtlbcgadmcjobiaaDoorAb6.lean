/- Abstract states over the model, part 6: calls, len, cuts, append. No condition; over any program. -/
import Derived.Test.YtlbcgadmcjobiaaDoorAb5
import Derived.Deep.Upon
set_option linter.unusedVariables false
set_option linter.unusedSimpArgs false
namespace Go.Ab
open Go.RowKit

section
variable {P : Program} {NG : Nat} {s : St} {R : Value → Hp → Nat → Prop} {o : Oper}

/-- A call of a function with a body, or of a closure. -/
theorem AOp.call {x : Operand} {args : Array Operand} {ts : Array TypeId} {f : FuncId} {cap : Array Value} {vs : List Value} {fn : Func} (ho : o.op = .call { callee := .value x, args := args, argTypes := ts })
    (hf : P.funcs[f]? = some fn) (hb : fn.body.isSome = true) (hnm : (fn.name == "runtime.NumGoroutine") = false) (hx : aeval NG s.fr x = some (.func (.func f) #[] cap))
    (hv : args.toList.mapM (aeval NG s.fr) = some vs) (h : ACalls P NG f (vs ++ cap.toList) s.H s.k R) : AOp P NG o s R := by
  intro N B w0 G a w hs next Q hn
  have h1 := aeval_rel hs hx
  obtain ⟨e1, e2⟩ := mapM_aeval hs hv
  generalize hy : a.eval x = y at h1
  cases h1 with
  | plain h => simp [isPlain] at h
  | @func _ _ cap' hsz hc =>
    have hrun : (execOp a.eval o).run P w = .ok (.enter f (args.map a.eval ++ cap')) w := by
      simp only [execOp, ho]
      rw [Sem.run_bind]
      have : (resolve a.eval { callee := .value x, args := args, argTypes := ts } o.type).run P w = .ok { target := .fn (.func f) cap', args := args.map a.eval } w := by
        simp [resolve, hy, Deferred.ofValue]
      rw [this]
      simp only [Result.andThen_ok]
      have hbn : ¬ fn.body = none := by
        intro h0
        rw [h0] at hb
        cases hb
      have hnm' : ¬ fn.name = "runtime.NumGoroutine" := by simpa using hnm
      simp [invoke, callFunc, hf, hnm', hbn]
    unfold Oper.wp
    rw [hrun]
    simp only [Oper.upon]
    refine (h B w0 G _ w hs.S ⟨by simp [← hsz]; simpa using e1, fun i v hiv => ?_⟩).mono ?_
    · rcases Nat.lt_or_ge i vs.length with hlt | hge
      · rw [List.getElem?_append_left hlt] at hiv
        obtain ⟨v', h2, h3⟩ := e2 i v hiv
        refine ⟨v', ?_, h3⟩
        have e1' : vs.length = args.size := by simpa using e1
        rw [Array.getElem?_append_left (by simp; omega)]
        simp at h2 ⊢
        exact h2
      · rw [List.getElem?_append_right hge] at hiv
        have e1' : vs.length = args.size := by simpa using e1
        have hi : i - vs.length < cap.size := by have := (List.getElem?_eq_some_iff.1 hiv).1; simpa using this
        have h4 : cap'[i - vs.length]? = some (cap'[i - vs.length]'(by omega)) := Array.getElem?_eq_getElem (by omega)
        refine ⟨_, ?_, hc _ v _ (by simpa using hiv) h4⟩
        rw [Array.getElem?_append_right (by simp; omega)]
        simp [e1', h4]
    · rintro e w' ⟨v, v', H', k', G', rfl, hR, hvv, hS', hK⟩
      exact hn v v' H' k' G' w' hR hvv hS' hK

theorem run_builtin {ρ : Operand → Value} {b : Builtin} {args : Array Operand} {ts : Array TypeId} {w w' : World} {v : Value} (ho : o.op = .call { callee := .builtin b, args := args, argTypes := ts })
    (h : (builtin b ts o.type (args.map fun | .const _ => true | _ => false) (args.map ρ)).run P w = .ok (.value v) w') : (execOp ρ o).run P w = .ok (.value v) w' := by
  simp only [execOp, ho]
  rw [Sem.run_bind]
  simp only [resolve, Sem.run_pure, Result.andThen_ok]
  exact h

theorem vrel_slice {G : GMap} {A : Option Addr} {l c : Nat} {v' : Value} (h : VRel G (.slice A l c) v') : ∃ A' c', v' = .slice A' l c' := by
  cases h with
  | plain h =>
    exact ⟨_, _, rfl⟩
  | exact _ => exact ⟨_, _, rfl⟩
  | loose _ _ _ => exact ⟨_, _, rfl⟩
  | grow _ _ => exact ⟨_, _, rfl⟩
  | gcut _ _ => exact ⟨_, _, rfl⟩

theorem AOp.len_slc {x : Operand} {t e : TypeId} {A : Option Addr} {l c : Nat} (ho : o.op = .call { callee := .builtin .len, args := #[x], argTypes := #[t] }) (hu : P.underlying t = some (.slice e))
    (hx : aeval NG s.fr x = some (.slice A l c)) (hR : R (.int .i64 l) s.H s.k) : AOp P NG o s R := by
  refine AOp.quiet _ hR fun N B w0 G a w hs => ⟨.int .i64 l, ?_, .plain rfl⟩
  obtain ⟨A', c', e'⟩ := vrel_slice (aeval_rel hs hx)
  refine run_builtin ho ?_
  simp [builtin, Builtin.len_, e', run_underlying hu, goInt]

theorem AOp.len_str {x : Operand} {t : TypeId} {b : ByteArray} (ho : o.op = .call { callee := .builtin .len, args := #[x], argTypes := #[t] }) (hu : P.underlying t = some .string)
    (hx : aeval NG s.fr x = some (.string b)) (hR : R (.int .i64 b.size) s.H s.k) : AOp P NG o s R := by
  refine AOp.quiet _ hR fun N B w0 G a w hs => ⟨.int .i64 b.size, ?_, .plain rfl⟩
  have e' := (aeval_rel hs hx).string_
  refine run_builtin ho ?_
  simp [builtin, Builtin.len_, e', run_underlying hu, goInt]

/-! ### Cuts -/
def aslice (H : Hp) (z l h : Nat) (m : Option Nat) : Value → Option Value
  | .slice none 0 0 => if l = 0 ∧ h = 0 ∧ m.getD 0 = 0 then some (.slice none 0 0) else none
  | .slice (some ⟨n, off, none⟩) len cap => if l ≤ h ∧ h ≤ m.getD cap ∧ m.getD cap ≤ cap then some (.slice (some ⟨n, if m.getD cap = l then off else off + l * z, none⟩) (h - l) (m.getD cap - l)) else none
  | .slice (some ⟨n, off, some 0⟩) len _ => match m with
    | none => if l ≤ h ∧ h ≤ len then some (.slice (some ⟨n, off + l * z, some 0⟩) (h - l) (h - l)) else none
    | some m => if l ≤ h ∧ h ≤ m ∧ m ≤ len then (if l < m then some (.slice (some ⟨n, off + l * z, none⟩) (h - l) (m - l)) else if 0 < len then some (.slice (some ⟨n, off, none⟩) 0 0) else some (.slice (some ⟨n, off, some 0⟩) 0 0)) else none
  | .slice (some ⟨n, off, some 1⟩) len _ => match H n with
    | some b => if b.esz = z ∧ l ≤ h ∧ h ≤ m.getD len ∧ m.getD len ≤ len then some (.slice (some ⟨n, off + l * z, some 2⟩) (h - l) (h - l)) else none
    | none => none
  | .slice (some ⟨n, off, some 2⟩) len _ => match H n with
    | some b => if b.esz = z ∧ l ≤ h ∧ h ≤ m.getD len ∧ m.getD len ≤ len then some (.slice (some ⟨n, off + l * z, some 2⟩) (h - l) (h - l)) else none
    | none => none
  | _ => none

theorem aslice_rel {B : Nat} {w0 w : World} {G : GMap} {H : Hp} {k z l h : Nat} {m : Option Nat} {p q p' : Value} (hS : SRel NG B w0 G H k w) (hq : aslice H z l h m p = some q) (hp : VRel G p p') :
    ∃ A len c, p' = .slice A len c ∧ (∃ A0 c0, p = .slice A0 len c0) ∧ l ≤ h ∧ h ≤ m.getD c ∧ m.getD c ≤ c ∧ VRel G q (.slice (if m.getD c = l then A else A.map (·.add (l * z))) (h - l) (m.getD c - l)) := by
  cases hp with
  | plain hpl =>
    unfold aslice at hq
    split at hq
    · split at hq
      · rename_i hc
        injection hq with hq
        subst hq
        obtain ⟨rfl, rfl, h3⟩ := hc
        refine ⟨none, 0, 0, rfl, ⟨none, 0, rfl⟩, Nat.le_refl _, by omega, by omega, ?_⟩
        rw [h3]
        exact .plain rfl
      · cases hq
    all_goals simp_all [isPlain]
  | @exact n off len cap base hg =>
    simp only [aslice] at hq
    split at hq
    · rename_i hc
      injection hq with hq
      subst hq
      refine ⟨_, len, cap, rfl, ⟨_, _, rfl⟩, hc.1, hc.2.1, hc.2.2, ?_⟩
      by_cases he : m.getD cap = l
      · rw [if_pos he, if_pos he]
        exact .exact hg
      · rw [if_neg he, if_neg he]
        simp only [Option.map_some, add_add]
        exact .exact hg
    · cases hq
  | @loose n off len c base A hg hc hA =>
    simp only [aslice] at hq
    cases m with
    | none =>
      simp only at hq
      split at hq
      · rename_i hh
        injection hq with hq
        subst hq
        refine ⟨_, len, c, rfl, ⟨_, _, rfl⟩, hh.1, by simp; omega, by simp, ?_⟩
        simp only [Option.getD_none]
        refine .loose hg (by omega) fun h0 => ?_
        rw [if_neg (by omega), hA (by omega)]
        simp [add_add]
      · cases hq
    | some m =>
      simp only at hq
      split at hq
      · rename_i hh
        refine ⟨_, len, c, rfl, ⟨_, _, rfl⟩, hh.1, by simp; omega, by simp; omega, ?_⟩
        simp only [Option.getD_some]
        split at hq
        · rename_i hlm
          injection hq with hq
          subst hq
          rw [if_neg (by omega), hA (by omega)]
          simp only [Option.map_some, add_add]
          exact .exact hg
        · rename_i hlm
          have e1 : m = l := by omega
          have e2 : h = l := by omega
          subst e1
          subst e2
          rw [if_pos rfl, Nat.sub_self]
          split at hq
          · rename_i h0
            injection hq with hq
            subst hq
            rw [hA h0]
            exact .exact hg
          · injection hq with hq
            subst hq
            exact .loose hg (Nat.le_refl _) (by omega)
      · cases hq
  | @grow n z' len c rows A hg hl =>
    simp only [aslice] at hq
    cases hn : H n with
    | none => simp [hn] at hq
    | some b =>
      simp only [hn] at hq
      split at hq
      · rename_i hh
        injection hq with hq
        subst hq
        obtain ⟨e, h0, _, _⟩ := row_facts hS hn hg
        have hz : z' = z := e.trans hh.1
        subst hz
        have hlc : len ≤ c := by rcases hl with h3 | ⟨r, _, _, _, h3, _⟩ <;> omega
        have hm : m.getD len ≤ m.getD c ∧ m.getD c ≤ c := by cases m <;> simp at hh ⊢ <;> omega
        refine ⟨A, len, c, rfl, ⟨_, _, rfl⟩, hh.2.1, by omega, hm.2, ?_⟩
        refine .gcut hg ⟨by omega, fun h1 => ?_⟩
        rcases hl with h3 | ⟨r, hr, rfl, hk, hlc, hcap⟩
        · omega
        · refine ⟨r, hr, ?_, ?_⟩
          · rw [if_neg (by omega)]
            simp [add_plain]
          · have : l * z' + (h - l) * z' = h * z' := by rw [← Nat.add_mul]; congr 1; omega
            have h2 : h * z' ≤ len * z' := Nat.mul_le_mul_right _ (by omega)
            omega
      · cases hq
  | @gcut n off z' len c rows A hg hl =>
    simp only [aslice] at hq
    cases hn : H n with
    | none => simp [hn] at hq
    | some b =>
      simp only [hn] at hq
      split at hq
      · rename_i hh
        injection hq with hq
        subst hq
        obtain ⟨e, h0, _, _⟩ := row_facts hS hn hg
        have hz : z' = z := e.trans hh.1
        subst hz
        have hlc := hl.1
        have hm : m.getD len ≤ m.getD c ∧ m.getD c ≤ c := by cases m <;> simp at hh ⊢ <;> omega
        refine ⟨A, len, c, rfl, ⟨_, _, rfl⟩, hh.2.1, by omega, hm.2, ?_⟩
        refine .gcut hg ⟨by omega, fun h1 => ?_⟩
        obtain ⟨r, hr, rfl, hk⟩ := hl.2 (by omega)
        refine ⟨r, hr, ?_, ?_⟩
        · rw [if_neg (by omega)]
          simp [add_plain]
        · have : l * z' + (h - l) * z' = h * z' := by rw [← Nat.add_mul]; congr 1; omega
          have h2 : h * z' ≤ len * z' := Nat.mul_le_mul_right _ (by omega)
          omega
      · cases hq
  | _ => simp [aslice] at hq

/-- A bound of a cut: what is written, or what stands where nothing is written. -/
def bnd (NG : Nat) (fr : Fr) (x : Option Operand) (d n : Nat) : Prop :=
  match x with
  | none => n = d
  | some y => ∃ k i, aeval NG fr y = some (.int k i) ∧ i = (n : Int)

theorem bnd_rel {N B d n : Nat} {w0 w : World} {G : GMap} {a : Act} (hs : StRel NG N B w0 G s a w) {x : Option Operand} (h : bnd NG s.fr x d n) : (x = none ∧ x.map a.eval = none ∧ n = d) ∨ (∃ y, x = some y ∧ ∃ k, x.map a.eval = some (.int k n)) := by
  cases x with
  | none => exact .inl ⟨rfl, rfl, h⟩
  | some y =>
    obtain ⟨k, i, h1, rfl⟩ := h
    exact .inr ⟨y, rfl, k, by simp [(aeval_rel hs h1).int_]⟩

theorem run_bound {w : World} {kk : IntKind} {n y : Nat} {code : BoundsCode} (h : n ≤ y) : (Instr.sliceBound (.int kk n) y code).run P w = .ok n w := by
  unfold Instr.sliceBound
  simp only [asIntOf]
  rw [Sem.run_bind]
  simp only [Sem.run_pure, Result.andThen_ok]
  rw [if_pos ⟨by omega, by omega⟩]
  simp

theorem run_bounds {w : World} {isS : Bool} {len cap l h m : Nat} {lo hi mx : Option Value} (hl : l ≤ h) (hh : h ≤ m) (hm : m ≤ cap)
    (elo : (lo = none ∧ l = 0) ∨ ∃ k, lo = some (.int k l)) (ehi : (hi = none ∧ h = len ∧ mx = none) ∨ ∃ k, hi = some (.int k h)) (emx : (mx = none ∧ m = cap) ∨ ∃ k, mx = some (.int k m)) :
    (Instr.sliceBounds isS len cap lo hi mx).run P w = .ok (l, h, m) w := by
  unfold Instr.sliceBounds
  rcases emx with ⟨rfl, rfl⟩ | ⟨k1, rfl⟩
  · rcases ehi with ⟨rfl, rfl, _⟩ | ⟨k2, rfl⟩
    · rcases elo with ⟨rfl, rfl⟩ | ⟨k3, rfl⟩
      · simp
      · simp [run_bound hl]
    · rcases elo with ⟨rfl, rfl⟩ | ⟨k3, rfl⟩
      · simp [run_bound hh]
      · simp [run_bound hh, run_bound hl]
  · rcases ehi with ⟨_, _, h0⟩ | ⟨k2, rfl⟩
    · cases h0
    · rcases elo with ⟨rfl, rfl⟩ | ⟨k3, rfl⟩
      · simp [run_bound hh, run_bound hm]
      · simp [run_bound hh, run_bound hl, run_bound hm]

theorem AOp.slice {t e : TypeId} {x : Operand} {lo hi mx : Option Operand} {z l h len c0 : Nat} {m : Option Nat} {A0 : Option Addr} {q : Value} (ho : o.op = .slice t x lo hi mx) (hf : slB P t = some (e, z)) (hx : aeval NG s.fr x = some (.slice A0 len c0))
    (hlo : bnd NG s.fr lo 0 l) (hhi : bnd NG s.fr hi len h) (hmx : match mx, m with | none, none => True | some y, some n => hi ≠ none ∧ ∃ k, aeval NG s.fr y = some (.int k (n : Int)) | _, _ => False)
    (hq : aslice s.H z l h m (.slice A0 len c0) = some q) (hR : R q s.H s.k) : AOp P NG o s R := by
  refine AOp.quiet q hR fun N B w0 G a w hs => ?_
  obtain ⟨hu, hz⟩ := slB_inv hf
  obtain ⟨A, len', c, e1, ⟨A1, c1, e2⟩, h1, h2, h3, hv⟩ := aslice_rel hs.S hq (aeval_rel hs hx)
  injection e2 with _ e2 _
  subst e2
  refine ⟨_, ?_, hv⟩
  simp only [execOp, ho, e1]
  rw [Sem.run_bind]
  have hb : (Instr.sliceBounds true len c (lo.map a.eval) (hi.map a.eval) (mx.map a.eval)).run P w = .ok (l, h, m.getD c) w := by
    refine run_bounds h1 h2 h3 ?_ ?_ ?_
    · rcases bnd_rel hs hlo with ⟨_, e3, e4⟩ | ⟨_, _, k, e3⟩
      · exact .inl ⟨e3, e4⟩
      · exact .inr ⟨k, e3⟩
    · rcases bnd_rel hs hhi with ⟨e0, e3, e4⟩ | ⟨_, _, k, e3⟩
      · refine .inl ⟨e3, e4, ?_⟩
        cases mx with
        | none => rfl
        | some y =>
          cases m with
          | none => exact hmx.elim
          | some n => exact absurd e0 hmx.1
      · exact .inr ⟨k, e3⟩
    · cases mx with
      | none =>
        cases m with
        | none => exact .inl ⟨rfl, rfl⟩
        | some n => exact hmx.elim
      | some y =>
        cases m with
        | none => exact hmx.elim
        | some n =>
          obtain ⟨_, k, e3⟩ := hmx
          exact .inr ⟨k, by simp [(aeval_rel hs e3).int_]⟩
  have : (Instr.sliceAt t (.slice A len c) (lo.map a.eval) (hi.map a.eval) (mx.map a.eval)).run P w = .ok (.slice (if m.getD c = l then A else A.map (·.add (l * z))) (h - l) (m.getD c - l)) w := by
    unfold Instr.sliceAt
    rw [Sem.run_bind, run_underlying hu]
    simp only [Result.andThen_ok]
    unfold Instr.slice
    rw [Sem.run_bind, run_underlying hu]
    simp only [Result.andThen_ok]
    rw [Sem.run_bind, hb]
    simp only [Result.andThen_ok]
    rw [Sem.run_bind, run_sizeOf hz]
    rfl
  rw [this]
  rfl

/-- A cut of an array that lies in memory. -/
theorem AOp.slice_arr {t : TypeId} {x : Operand} {lo hi : Option Operand} {n0 z l h n off : Nat} {agg : Bool} (ho : o.op = .slice t x lo hi none) (hf : arrB P t = some (n0, agg, z)) (hx : aeval NG s.fr x = some (.pointer (some ⟨n, off, none⟩)))
    (hlo : bnd NG s.fr lo 0 l) (hhi : bnd NG s.fr hi n0 h) (h1 : l ≤ h) (h2 : h ≤ n0) (hR : R (.slice (some ⟨n, if n0 = l then off else off + l * z, none⟩) (h - l) (n0 - l)) s.H s.k) : AOp P NG o s R := by
  refine AOp.quiet _ hR fun N B w0 G a w hs => ?_
  obtain ⟨e, hu, ha, hz⟩ := arrB_inv hf
  have hp := aeval_rel hs hx
  generalize hpv : a.eval x = p at hp
  cases hp with
  | plain h => simp [isPlain] at h
  | @ptr _ _ base hg =>
    refine ⟨.slice (some (if n0 = l then base.add off else (base.add off).add (l * z))) (h - l) (n0 - l), ?_, ?_⟩
    · simp only [execOp, ho, hpv]
      rw [Sem.run_bind]
      have hb : (Instr.sliceBounds false n0 n0 (lo.map a.eval) (hi.map a.eval) none).run P w = .ok (l, h, n0) w := by
        refine run_bounds h1 h2 (Nat.le_refl _) ?_ ?_ (.inl ⟨rfl, rfl⟩)
        · rcases bnd_rel hs hlo with ⟨_, e3, e4⟩ | ⟨_, _, k, e3⟩
          · exact .inl ⟨e3, e4⟩
          · exact .inr ⟨k, e3⟩
        · rcases bnd_rel hs hhi with ⟨e0, e3, e4⟩ | ⟨_, _, k, e3⟩
          · exact .inl ⟨e3, e4, rfl⟩
          · exact .inr ⟨k, e3⟩
      have : (Instr.sliceAt t (.pointer (some (base.add off))) (lo.map a.eval) (hi.map a.eval) none).run P w = .ok (.slice (some (if n0 = l then base.add off else (base.add off).add (l * z))) (h - l) (n0 - l)) w := by
        unfold Instr.sliceAt
        rw [Sem.run_bind, run_underlying hu]
        simp only [Result.andThen_ok, Instr.sureAddr]
        rw [Sem.run_bind]
        simp only [Sem.run_pure, Result.andThen_ok]
        rw [Sem.run_bind, hb]
        simp only [Result.andThen_ok]
        rw [Sem.run_bind, run_sizeOf hz]
        rfl
      simp only [Option.map_none]
      rw [this]
      rfl
    · by_cases he : n0 = l
      · rw [if_pos he, if_pos he]
        exact .exact hg
      · rw [if_neg he, if_neg he, add_add]
        exact .exact hg

theorem AOp.slice_str {t : TypeId} {x : Operand} {lo hi : Option Operand} {l h : Nat} {b : ByteArray} (ho : o.op = .slice t x lo hi none) (hu : P.underlying t = some .string) (hx : aeval NG s.fr x = some (.string b))
    (hlo : bnd NG s.fr lo 0 l) (hhi : bnd NG s.fr hi b.size h) (h1 : l ≤ h) (h2 : h ≤ b.size) (hR : R (.string (b.extract l h)) s.H s.k) : AOp P NG o s R := by
  refine AOp.quiet _ hR fun N B w0 G a w hs => ⟨.string (b.extract l h), ?_, .plain rfl⟩
  have hp := (aeval_rel hs hx).string_
  simp only [execOp, ho, hp]
  rw [Sem.run_bind]
  have hb : (Instr.sliceBounds false b.size b.size (lo.map a.eval) (hi.map a.eval) none).run P w = .ok (l, h, b.size) w := by
    refine run_bounds h1 h2 (Nat.le_refl _) ?_ ?_ (.inl ⟨rfl, rfl⟩)
    · rcases bnd_rel hs hlo with ⟨_, e3, e4⟩ | ⟨_, _, k, e3⟩
      · exact .inl ⟨e3, e4⟩
      · exact .inr ⟨k, e3⟩
    · rcases bnd_rel hs hhi with ⟨e0, e3, e4⟩ | ⟨_, _, k, e3⟩
      · exact .inl ⟨e3, e4, rfl⟩
      · exact .inr ⟨k, e3⟩
  have : (Instr.sliceAt t (.string b) (lo.map a.eval) (hi.map a.eval) none).run P w = .ok (.string (b.extract l h)) w := by
    unfold Instr.sliceAt
    rw [Sem.run_bind, run_underlying hu]
    simp only [Result.andThen_ok]
    unfold Instr.slice
    rw [Sem.run_bind, run_underlying hu]
    simp only [Result.andThen_ok, Option.isSome_none, Bool.false_eq_true, if_false]
    rw [Sem.run_bind, hb]
    rfl
  simp only [Option.map_none]
  rw [this]
  rfl
end
end Go.Ab
