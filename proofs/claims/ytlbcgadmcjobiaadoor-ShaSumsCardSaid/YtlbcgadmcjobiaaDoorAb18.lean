/- Abstract states over the model, part 18: == on structs and arrays of bools, numbers and texts; == on the other comparable plain values. Condition: the type's cells are such. Over any program. -/
import Derived.Test.YtlbcgadmcjobiaaDoorAb17
import Derived.DeepKeys
import Derived.Laws.StructEq
set_option linter.unusedVariables false
set_option linter.unusedSimpArgs false
namespace Go.Ab
open Go.RowKit

def scal : TypeDesc → Value → Option Lit
  | .bool, .bool b => some (.bool b)
  | .int q, .int q' n => if q' = q ∧ (Lit.int q n).wf = true then some (.int q n) else none
  | .string, .string s => if s.size ≤ maxLen then some (.string s.data.toList) else none
  | _, _ => none
def scals : List TypeDesc → List Value → Option (List Lit)
  | [], [] => some []
  | d :: ds, v :: vs => (scal d v).bind fun l => (scals ds vs).map fun r => l :: r
  | _, _ => none

def flats (P : Program) : Nat → TypeId → Option (List TypeDesc)
  | 0, _ => none
  | d + 1, t =>
    match P.underlying t with
    | some .bool => some [.bool]
    | some (.int q) => some [.int q]
    | some .string => some [.string]
    | some (.array n e) => (flats P d e).bind fun ds => if ds.length = P.cellsOf e ∧ P.cellsOf t = n * P.cellsOf e then some (List.replicate n ds).flatten else none
    | some (.struct fs) => if fs.all (·.name != "_") = true ∧ tiles P 0 fs.toList (P.cellsOf t) = true then (fs.toList.mapM fun f => (flats P d f.type).bind fun ds => if ds.length = P.cellsOf f.type then some ds else none).map List.flatten else none
    | _ => none

theorem scals_length : ∀ {ds : List TypeDesc} {cs : List Value} {ls : List Lit}, scals ds cs = some ls → cs.length = ds.length
  | [], [], _, _ => rfl
  | d :: ds, v :: vs, ls, h => by
    simp only [scals, Option.bind_eq_some_iff, Option.map_eq_some_iff] at h
    obtain ⟨l, h1, r, h2, h3⟩ := h
    simp [scals_length h2]
  | [], _ :: _, _, h => by simp [scals] at h
  | _ :: _, [], _, h => by simp [scals] at h

theorem scals_split : ∀ {ds : List TypeDesc} {ds' : List TypeDesc} {cs : List Value} {ls : List Lit}, scals (ds ++ ds') cs = some ls → ∃ la lb, scals ds (cs.take ds.length) = some la ∧ scals ds' (cs.drop ds.length) = some lb ∧ ls = la ++ lb
  | [], ds', cs, ls, h => ⟨[], ls, by simp [scals], by simpa using h, rfl⟩
  | d :: ds, ds', [], ls, h => by simp [scals] at h
  | d :: ds, ds', v :: vs, ls, h => by
    simp only [List.cons_append, scals, Option.bind_eq_some_iff, Option.map_eq_some_iff] at h
    obtain ⟨l, h1, r, h2, rfl⟩ := h
    obtain ⟨la, lb, h3, h4, rfl⟩ := scals_split h2
    refine ⟨l :: la, lb, ?_, by simpa using h4, rfl⟩
    simp [scals, h1, h3]

theorem mapM_flats {P : Program} {d : Nat} (ih : ∀ t ds cs ls, flats P d t = some ds → scals ds cs = some ls → P.keyLits d t cs = some ls) {cs : List Value} {N : Nat} (hN : cs.length = N) :
    ∀ (fs : List Field) (dss : List (List TypeDesc)) (off : Nat) (ls : List Lit), tiles P off fs N = true →
    (fs.mapM fun f => (flats P d f.type).bind fun ds => if ds.length = P.cellsOf f.type then some ds else none) = some dss → scals dss.flatten (cs.drop off) = some ls →
    ∃ lss, (fs.mapM fun f => P.keyLits d f.type ((cs.drop f.offset).take (P.cellsOf f.type))) = some lss ∧ lss.flatten = ls
  | [], dss, off, ls, ht, hm, hs => by
    simp at hm
    subst hm
    refine ⟨[], by simp, ?_⟩
    have h0 : cs.drop off = [] := List.length_eq_zero_iff.1 (scals_length hs)
    rw [h0] at hs
    simpa [scals] using hs
  | f :: fs, dss, off, ls, ht, hm, hs => by
    simp only [tiles, Bool.and_eq_true, beq_iff_eq] at ht
    obtain ⟨ho, hr⟩ := ht
    rw [List.mapM_cons] at hm
    simp only [bind, Option.bind_eq_some_iff, pure, Option.some.injEq] at hm
    obtain ⟨ds, ⟨ds0, hf, hd⟩, dss', hm', rfl⟩ := hm
    split at hd
    · rename_i hlen
      injection hd with hd
      subst hd
      rw [List.flatten_cons] at hs
      obtain ⟨la, lb, h1, h2, rfl⟩ := scals_split hs
      rw [hlen] at h1 h2
      obtain ⟨lss, h3, h4⟩ := mapM_flats ih hN fs dss' _ lb hr hm' (by rw [List.drop_drop] at h2; exact h2)
      refine ⟨la :: lss, ?_, by rw [List.flatten_cons, h4]⟩
      rw [List.mapM_cons, h3, ho, ih _ _ _ _ hf h1]
      rfl
    · cases hd

theorem rep_flats {P : Program} {d : Nat} {e : TypeId} {ds : List TypeDesc} (ih : ∀ cs ls, scals ds cs = some ls → P.keyLits d e cs = some ls) (hl : ds.length = P.cellsOf e) (cs : List Value) :
    ∀ (n i : Nat) (ls : List Lit), scals (List.replicate n ds).flatten (cs.drop (i * P.cellsOf e)) = some ls →
    ∃ lss, ((List.range' i n).mapM fun i => P.keyLits d e ((cs.drop (i * P.cellsOf e)).take (P.cellsOf e))) = some lss ∧ lss.flatten = ls
  | 0, i, ls, hs => by
    refine ⟨[], by simp, ?_⟩
    have h0 : cs.drop (i * P.cellsOf e) = [] := List.length_eq_zero_iff.1 (scals_length hs)
    rw [h0] at hs
    simpa [scals] using hs
  | n + 1, i, ls, hs => by
    rw [List.replicate_succ, List.flatten_cons] at hs
    obtain ⟨la, lb, h1, h2, rfl⟩ := scals_split hs
    rw [hl] at h1 h2
    obtain ⟨lss, h3, h4⟩ := rep_flats ih hl cs n (i + 1) lb (by rw [List.drop_drop] at h2; rw [Nat.add_mul, Nat.one_mul]; exact h2)
    refine ⟨la :: lss, ?_, by rw [List.flatten_cons, h4]⟩
    rw [List.range'_succ, List.mapM_cons, h3, ih _ _ h1]
    rfl

theorem keyLits_flats {P : Program} : ∀ (d : Nat) (t : TypeId) (ds : List TypeDesc) (cs : List Value) (ls : List Lit), flats P d t = some ds → scals ds cs = some ls → P.keyLits d t cs = some ls
  | 0, t, ds, cs, ls, h, _ => by simp [flats] at h
  | d + 1, t, ds, cs, ls, h, hs => by
    unfold flats at h
    unfold Program.keyLits
    have one : ∀ dd : TypeDesc, ds = [dd] → ∃ v l, cs = [v] ∧ scal dd v = some l ∧ ls = [l] := by
      rintro dd rfl
      have hl := scals_length hs
      match cs, hl with
      | [v], _ =>
        simp only [scals, Option.bind_eq_some_iff, Option.map_eq_some_iff] at hs
        obtain ⟨l, h1, r, h2, rfl⟩ := hs
        injection h2 with h2
        subst h2
        exact ⟨v, l, rfl, h1, rfl⟩
    split at h
    · rename_i hu
      injection h with h
      obtain ⟨v, l, rfl, h1, rfl⟩ := one _ h.symm
      cases v <;> simp_all [scal]
    · rename_i q hu
      injection h with h
      obtain ⟨v, l, rfl, h1, rfl⟩ := one _ h.symm
      clear one hs h
      cases v <;> simp only [scal] at h1 <;> first | (cases h1; done) | skip
      split at h1
      · rename_i hc
        simp only [hu]
        rw [if_pos hc]
        exact congrArg _ (congrArg (· :: []) (Option.some.inj h1))
      · cases h1
    · rename_i hu
      injection h with h
      obtain ⟨v, l, rfl, h1, rfl⟩ := one _ h.symm
      cases v <;> simp_all [scal]
    · rename_i n e hu
      obtain ⟨ds0, hf, hd⟩ := Option.bind_eq_some_iff.1 h
      split at hd
      · rename_i hc
        injection hd with hd
        subst hd
        have hlen : cs.length = P.cellsOf t := by
          rw [scals_length hs, List.length_flatten, List.map_replicate, hc.1, hc.2]
          simp
        obtain ⟨lss, h3, h4⟩ := rep_flats (P := P) (d := d) (e := e) (fun cs ls h => keyLits_flats d e _ cs ls hf h) hc.1 cs n 0 ls (by simpa using hs)
        rw [← List.range_eq_range'] at h3
        simp only [hu]
        split <;> simp_all
      · cases hd
    · rename_i fs hu
      split at h
      · rename_i hc
        obtain ⟨dss, hm, rfl⟩ := Option.map_eq_some_iff.1 h
        have hlen : cs.length = P.cellsOf t := by
          have h1 := scals_length hs
          rw [h1]
          have key : ∀ (fs : List Field) (dss : List (List TypeDesc)) (off N : Nat), tiles P off fs N = true → (fs.mapM fun f => (flats P d f.type).bind fun ds => if ds.length = P.cellsOf f.type then some ds else none) = some dss → off + dss.flatten.length = N := by
            intro fs
            induction fs with
            | nil =>
              intro dss off N ht hm
              simp at hm
              subst hm
              simpa [tiles] using ht
            | cons f fs ihf =>
              intro dss off N ht hm
              simp only [tiles, Bool.and_eq_true, beq_iff_eq] at ht
              rw [List.mapM_cons] at hm
              simp only [bind, Option.bind_eq_some_iff, pure, Option.some.injEq] at hm
              obtain ⟨ds, ⟨ds0, hf, hd⟩, dss', hm', rfl⟩ := hm
              split at hd
              · rename_i hl
                injection hd with hd
                subst hd
                have := ihf dss' _ N ht.2 hm'
                rw [List.flatten_cons, List.length_append, hl]
                omega
              · cases hd
          have := key fs.toList dss 0 _ hc.2 hm
          omega
        obtain ⟨lss, h3, h4⟩ := mapM_flats (fun t ds cs ls h1 h2 => keyLits_flats d t ds cs ls h1 h2) hlen fs.toList dss 0 ls hc.2 hm (by simpa using hs)
        simp only [hu]
        rw [if_pos ⟨hlen, hc.1⟩, h3, Option.map_some, h4]
      · cases h
    · cases h

/-- A struct's or an array's type whose values are compared cell by cell. -/
class EqInfo (P : Program) (t : TypeId) (ds : outParam (List TypeDesc)) : Prop where
  f : flats P 4 t = some ds
  k : P.keyTypeAt 4 t = true
  g : P.eqGuardType P.depth t = false
  a : isAggB P t = some true

section
variable {P : Program} {NG : Nat} {fr : Fr} {H : Hp} {nk : Nat} {R : Value → Hp → Nat → Prop} {o : Oper}

theorem scal_plain {d : TypeDesc} {v : Value} {l : Lit} (h : scal d v = some l) : isPlain v = true := by
  unfold scal at h
  split at h <;> first | rfl | cases h
theorem scals_plain : ∀ {ds : List TypeDesc} {cs : List Value} {ls : List Lit}, scals ds cs = some ls → cs.all isPlain = true
  | [], [], _, _ => rfl
  | d :: ds, v :: vs, ls, h => by
    simp only [scals, Option.bind_eq_some_iff, Option.map_eq_some_iff] at h
    obtain ⟨l, h1, r, h2, h3⟩ := h
    simp [scal_plain h1]
    have := scals_plain h2
    simpa using this
  | [], _ :: _, _, h => by simp [scals] at h
  | _ :: _, [], _, h => by simp [scals] at h

theorem scal_inj {d : TypeDesc} {v v' : Value} {l : Lit} (h : scal d v = some l) (h' : scal d v' = some l) : v = v' := by
  unfold scal at h h'
  split at h
  · injection h with h
    subst h
    split at h' <;> simp_all
  · split at h
    · injection h with h
      subst h
      split at h'
      · simp_all
      · split at h'
        · simp_all
        · cases h'
      · split at h' <;> simp_all
      · cases h'
    · cases h
  · split at h
    · injection h with h
      subst h
      split at h'
      · simp_all
      · split at h' <;> simp_all
      · split at h'
        · rename_i s1 _ _ _ s2 _ _
          injection h' with h'
          injection h' with h'
          have : s2.data = s1.data := Array.toList_inj.1 h'
          congr 1
          cases s1; cases s2
          exact congrArg ByteArray.mk this.symm
        · cases h'
      · cases h'
    · cases h
  · cases h
theorem scals_inj : ∀ {ds : List TypeDesc} {cs cs' : List Value} {l : List Lit}, scals ds cs = some l → scals ds cs' = some l → cs = cs'
  | [], [], [], _, _, _ => rfl
  | d :: ds, v :: vs, v' :: vs', l, h, h' => by
    simp only [scals, Option.bind_eq_some_iff, Option.map_eq_some_iff] at h h'
    obtain ⟨x, h1, r, h2, rfl⟩ := h
    obtain ⟨x', h1', r', h2', e⟩ := h'
    injection e with e1 e2
    subst e1; subst e2
    rw [scal_inj h1 h1', scals_inj h2 h2']
  | [], _ :: _, _, _, h, _ => by simp [scals] at h
  | [], [], _ :: _, _, _, h => by simp [scals] at h
  | _ :: _, [], _, _, h, _ => by simp [scals] at h
  | _ :: _, _ :: _, [], _, _, h => by simp [scals] at h

theorem eqAgg_run {t : TypeId} {ds : List TypeDesc} [he : EqInfo P t ds] {cs cs' : Array Value} (ha : (scals ds cs.toList).isSome = true) (hb : (scals ds cs'.toList).isSome = true) {r : Bool} (hr : r = true ↔ cs = cs') (w : World) :
    (Op.equalIn 10000 t (.agg cs) (.agg cs')).run P w = .ok r w := by
  obtain ⟨la, ha⟩ := Option.isSome_iff_exists.1 ha
  obtain ⟨lb, hb⟩ := Option.isSome_iff_exists.1 hb
  have hF : ∀ xs : Array Value, ∀ l, scals ds xs.toList = some l → (Value.agg xs).formed P t = true := by
    intro xs l hx
    have h1 := keyLits_flats 4 t ds _ _ he.f hx
    have hag := he.a
    unfold isAggB at hag
    unfold Program.keyLits at h1
    unfold Value.formed
    split at h1 <;> first
      | (rename_i hu _; simp_all; done)
      | (rename_i hu; rw [hu]; simp only [hu] at hag; split at h1 <;> first | (cases h1; done) | skip; rename_i hc; simp_all)
      | cases h1
  obtain ⟨q, h1, h2⟩ := run_equalIn_deep 9996 4 t he.k w 4 4 (.agg cs) (.agg cs') la lb (hF _ _ ha) (hF _ _ hb) (keyLits_flats 4 t ds _ _ he.f (by simpa [Value.cells] using ha)) (keyLits_flats 4 t ds _ _ he.f (by simpa [Value.cells] using hb))
  rw [h1]
  congr 1
  have h3 : la = lb ↔ cs = cs' := ⟨fun e => by
    subst e
    exact Array.toList_inj.1 (scals_inj ha hb), fun e => by
    subst e
    rw [ha] at hb
    exact Option.some.inj hb⟩
  have h4 : q = true ↔ r = true := h2.trans (h3.trans hr.symm)
  cases q <;> cases r <;> simp_all

theorem AOp.eqAgg {t t' : TypeId} {ds : List TypeDesc} {x y : Operand} {cs cs' : Array Value} (r : Bool) (ho : o.op = .binOp .eql t x y t') [he : EqInfo P t ds] (hx : aeval NG fr x = some (.agg cs)) (hy : aeval NG fr y = some (.agg cs'))
    (ha : (scals ds cs.toList).isSome = true) (hb : (scals ds cs'.toList).isSome = true) (hr : r = true ↔ cs = cs') (hR : R (.bool r) H nk) : AOp P NG o ⟨fr, H, nk⟩ R := by
  refine AOp.bin ho hx hy (z := .bool r) ?_ ?_ rfl (fun w => ?_) hR
  · obtain ⟨la, ha⟩ := Option.isSome_iff_exists.1 ha
    have := scals_plain ha
    simpa [selfRel] using this
  · obtain ⟨la, hb⟩ := Option.isSome_iff_exists.1 hb
    have := scals_plain hb
    simpa [selfRel] using this
  · rw [Sem.run_bind, run_eqGuard_agg w .eql t x y cs cs' he.g]
    simp only [Result.andThen_ok]
    rw [run_eql_struct, eqAgg_run ha hb hr w]
    rfl
theorem AOp.neAgg {t t' : TypeId} {ds : List TypeDesc} {x y : Operand} {cs cs' : Array Value} (r : Bool) (ho : o.op = .binOp .neq t x y t') [he : EqInfo P t ds] (hx : aeval NG fr x = some (.agg cs)) (hy : aeval NG fr y = some (.agg cs'))
    (ha : (scals ds cs.toList).isSome = true) (hb : (scals ds cs'.toList).isSome = true) (hr : r = true ↔ cs = cs') (hR : R (.bool (!r)) H nk) : AOp P NG o ⟨fr, H, nk⟩ R := by
  refine AOp.bin ho hx hy (z := .bool (!r)) ?_ ?_ rfl (fun w => ?_) hR
  · obtain ⟨la, ha⟩ := Option.isSome_iff_exists.1 ha
    have := scals_plain ha
    simpa [selfRel] using this
  · obtain ⟨la, hb⟩ := Option.isSome_iff_exists.1 hb
    have := scals_plain hb
    simpa [selfRel] using this
  · rw [Sem.run_bind, run_eqGuard_agg w .neq t x y cs cs' he.g]
    simp only [Result.andThen_ok]
    rw [run_neq_struct, eqAgg_run ha hb hr w]
    rfl
theorem scals_bytes : ∀ (l : List UInt8), scals (List.replicate l.length (.int .u8)) (l.map bv) = some (l.map fun c => .int .u8 (c.toNat : Int))
  | [] => rfl
  | c :: l => by
    have hw : (Lit.int .u8 (c.toNat : Int)).wf = true := by
      have := c.toNat_lt
      simp only [Lit.wf, Bool.and_eq_true, decide_eq_true_eq]
      constructor
      · exact Int.le_trans (by decide) (Int.natCast_nonneg _)
      · exact Int.le_trans (Int.ofNat_le.2 (show c.toNat ≤ 255 by omega)) (by decide)
    have h1 : scal (.int .u8) (bv c) = some (.int .u8 (c.toNat : Int)) := if_pos ⟨rfl, hw⟩
    simp only [List.length_cons, List.replicate_succ, List.map_cons, scals, h1, scals_bytes l]
    rfl
/-- Two truths. -/
theorem AOp.eqBool {t t' : TypeId} {x y : Operand} {a b : Bool} (ho : o.op = .binOp .eql t x y t') [hd : DescInfo P t .bool] (hx : aeval NG fr x = some (.bool a)) (hy : aeval NG fr y = some (.bool b)) (hR : R (.bool (a == b)) H nk) : AOp P NG o ⟨fr, H, nk⟩ R := by
  refine AOp.bin ho hx hy (z := .bool (a == b)) rfl rfl rfl (fun w => ?_) hR
  rw [Sem.run_bind]
  have h1 := run_equalIn_bool' w 9999 t a b hd.h
  have h2 : (eqGuard .eql t x y (.bool a) (.bool b)).run P w = .ok () w := by simp [eqGuard]
  rw [h2]
  simp only [Result.andThen_ok, binOp]
  simp [Op.equal, Op.maxDepth, h1]
theorem AOp.neBool {t t' : TypeId} {x y : Operand} {a b : Bool} (ho : o.op = .binOp .neq t x y t') [hd : DescInfo P t .bool] (hx : aeval NG fr x = some (.bool a)) (hy : aeval NG fr y = some (.bool b)) (hR : R (.bool (!(a == b))) H nk) : AOp P NG o ⟨fr, H, nk⟩ R := by
  refine AOp.bin ho hx hy (z := .bool (!(a == b))) rfl rfl rfl (fun w => ?_) hR
  rw [Sem.run_bind]
  have h1 := run_equalIn_bool' w 9999 t a b hd.h
  have h2 : (eqGuard .neq t x y (.bool a) (.bool b)).run P w = .ok () w := by simp [eqGuard]
  rw [h2]
  simp only [Result.andThen_ok, binOp]
  simp [Op.equal, Op.maxDepth, h1]
end
end Go.Ab
