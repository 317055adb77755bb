/- Zones, in plain Lean: the zone of values, which truths may be; the truth of a row may be by the zones of rows; of more rows a zone only grows. No condition. -/
import Derived.Test.YtnciojaecelhmaaDoorP4
set_option linter.unusedVariables false
set_option linter.unusedSimpArgs false
set_option maxRecDepth 100000
namespace Go.Proofs.YtnciojaecelhmaaDoor
open Go Go.Ab

structure Zn where
  nulls : Int
  some : Bool
  min : Val
  max : Val
abbrev znc (z : Zn) : List Value := [.int .i64 z.nulls, .bool z.some, .int .i64 z.min.kind, .int .i64 z.min.n, .string z.min.s, .int .i64 z.max.kind, .int .i64 z.max.n, .string z.max.s]
abbrev zv (z : Zn) : Value := .agg #[.int .i64 z.nulls, .bool z.some, .int .i64 z.min.kind, .int .i64 z.min.n, .string z.min.s, .int .i64 z.max.kind, .int .i64 z.max.n, .string z.max.s]
def zD : Zn := ⟨0, false, vD, vD⟩
def zs8 (l : List Zn) : List Value := l.flatMap fun z => (zv z).cells.toList

/-! ### The zone of values -/
def zfirst (z : Zn) (v : Val) : Zn := if z.some = true then z else ⟨z.nulls, true, v, v⟩
def zlow (z : Zn) (v : Val) : Zn := if cmpV v z.min < 0 then { z with min := v } else z
def zhigh (z : Zn) (v : Val) : Zn := if cmpV v z.max > 0 then { z with max := v } else z
def zstep (z : Zn) (v : Val) : Zn := if v.kind = 0 then { z with nulls := z.nulls + 1 } else zhigh (zlow (zfirst z v) v) v
def zoneOf (l : List Val) : Zn := l.foldl zstep zD
theorem zoneOf_snoc (l : List Val) (v : Val) : zoneOf (l ++ [v]) = zstep (zoneOf l) v := by rw [zoneOf, List.foldl_append]; rfl
def nnull (l : List Val) : Nat := l.countP fun v => v.kind == 0
theorem cmpV_self (a : Val) : cmpV a a = 0 := by have := cmpV_neg a a; omega
structure ZIs (l : List Val) (z : Zn) : Prop where
  nulls : z.nulls = (nnull l : Int)
  no : z.some = false → (∀ v ∈ l, v.kind = 0) ∧ z.min = vD ∧ z.max = vD
  yes : z.some = true → (z.min ∈ l ∧ z.min.kind ≠ 0) ∧ (z.max ∈ l ∧ z.max.kind ≠ 0) ∧ ∀ v ∈ l, v.kind ≠ 0 → cmpV z.min v ≤ 0 ∧ cmpV v z.max ≤ 0
theorem nulls_snoc (l : List Val) (v : Val) : nnull (l ++ [v]) = nnull l + if v.kind = 0 then 1 else 0 := by
  rw [nnull, List.countP_append, List.countP_cons, List.countP_nil]
  by_cases h : v.kind = 0
  · rw [if_pos (by simp [h]), if_pos h]; rfl
  · rw [if_neg (by simp [h]), if_neg h]; rfl
theorem ZIs.snoc {l : List Val} {z : Zn} (h : ZIs l z) (v : Val) : ZIs (l ++ [v]) (zstep z v) := by
  by_cases hk : v.kind = 0
  · have e : zstep z v = { z with nulls := z.nulls + 1 } := if_pos hk
    rw [e]
    have e1 : z.nulls + 1 = (nnull (l ++ [v]) : Int) := by rw [nulls_snoc, if_pos hk, h.nulls]; omega
    refine ⟨e1, fun hs => ?_, fun hs => ?_⟩
    · obtain ⟨h1, h2⟩ := h.no hs
      exact ⟨fun u hu => by
        rcases List.mem_append.1 hu with hu | hu
        · exact h1 u hu
        · rw [List.mem_singleton.1 hu]; exact hk, h2⟩
    · obtain ⟨h1, h2, h3⟩ := h.yes hs
      exact ⟨⟨List.mem_append_left _ h1.1, h1.2⟩, ⟨List.mem_append_left _ h2.1, h2.2⟩, fun u hu hn => by
        rcases List.mem_append.1 hu with hu | hu
        · exact h3 u hu hn
        · rw [List.mem_singleton.1 hu] at hn; exact absurd hk hn⟩
  · have e : zstep z v = zhigh (zlow (zfirst z v) v) v := if_neg hk
    rw [e]
    have hn1 : (zhigh (zlow (zfirst z v) v) v).nulls = z.nulls := by
      unfold zhigh zlow zfirst
      repeat' split
      all_goals rfl
    have hs1 : (zhigh (zlow (zfirst z v) v) v).some = true := by
      unfold zhigh zlow zfirst
      repeat' split
      all_goals first | rfl | assumption
    refine ⟨by rw [hn1, nulls_snoc, if_neg hk, h.nulls]; rfl, fun hs => absurd (hs1.symm.trans hs) (by decide), fun _ => ?_⟩
    have hv : v ∈ l ++ [v] := List.mem_append_right _ (List.mem_singleton.2 rfl)
    -- the first one
    have hf : ((zfirst z v).min ∈ l ++ [v] ∧ (zfirst z v).min.kind ≠ 0) ∧ ((zfirst z v).max ∈ l ++ [v] ∧ (zfirst z v).max.kind ≠ 0) ∧ ∀ u ∈ l, u.kind ≠ 0 → cmpV (zfirst z v).min u ≤ 0 ∧ cmpV u (zfirst z v).max ≤ 0 := by
      unfold zfirst
      split
      · rename_i hs
        obtain ⟨h1, h2, h3⟩ := h.yes hs
        exact ⟨⟨List.mem_append_left _ h1.1, h1.2⟩, ⟨List.mem_append_left _ h2.1, h2.2⟩, h3⟩
      · rename_i hs
        obtain ⟨h1, _⟩ := h.no (by simpa using hs)
        exact ⟨⟨hv, hk⟩, ⟨hv, hk⟩, fun u hu hn => absurd (h1 u hu) hn⟩
    have hg : ((zlow (zfirst z v) v).min ∈ l ++ [v] ∧ (zlow (zfirst z v) v).min.kind ≠ 0) ∧ ((zlow (zfirst z v) v).max ∈ l ++ [v] ∧ (zlow (zfirst z v) v).max.kind ≠ 0) ∧ (∀ u ∈ l, u.kind ≠ 0 → cmpV (zlow (zfirst z v) v).min u ≤ 0 ∧ cmpV u (zlow (zfirst z v) v).max ≤ 0) ∧ cmpV (zlow (zfirst z v) v).min v ≤ 0 := by
      unfold zlow
      obtain ⟨h1, h2, h3⟩ := hf
      split
      · rename_i hc
        refine ⟨⟨hv, hk⟩, h2, fun u hu hn => ⟨?_, (h3 u hu hn).2⟩, ?_⟩
        · exact cmpV_trans (show cmpV v (zfirst z v).min ≤ 0 by omega) (h3 u hu hn).1
        · show cmpV v v ≤ 0
          rw [cmpV_self]
          decide
      · rename_i hc
        refine ⟨h1, h2, h3, ?_⟩
        rw [cmpV_neg]
        omega
    obtain ⟨h1, h2, h3, h4⟩ := hg
    generalize zlow (zfirst z v) v = y at *
    unfold zhigh
    split
    · rename_i hc
      refine ⟨h1, ⟨hv, hk⟩, fun u hu hn => ?_⟩
      rcases List.mem_append.1 hu with hu | hu
      · refine ⟨(h3 u hu hn).1, cmpV_trans (h3 u hu hn).2 ?_⟩
        show cmpV y.max v ≤ 0
        rw [cmpV_neg]
        omega
      · rw [List.mem_singleton.1 hu]
        refine ⟨h4, ?_⟩
        show cmpV v v ≤ 0
        rw [cmpV_self]
        decide
    · rename_i hc
      refine ⟨h1, h2, fun u hu hn => ?_⟩
      rcases List.mem_append.1 hu with hu | hu
      · exact h3 u hu hn
      · rw [List.mem_singleton.1 hu]
        exact ⟨h4, by omega⟩
theorem snoc_ind {α : Type} {p : List α → Prop} (h0 : p []) (h1 : ∀ l a, p l → p (l ++ [a])) : ∀ l, p l := by
  intro l
  have key : ∀ (n : Nat) (l : List α), l.length = n → p l := by
    intro n
    induction n with
    | zero => intro l hl; rw [List.length_eq_zero_iff.1 hl]; exact h0
    | succ n ih =>
      intro l hl
      have hne : l ≠ [] := by intro e; subst e; cases hl
      rw [← List.dropLast_concat_getLast hne]
      exact h1 _ _ (ih _ (by rw [List.length_dropLast, hl]; rfl))
  exact key _ l rfl
theorem zoneOf_is (l : List Val) : ZIs l (zoneOf l) := by
  refine snoc_ind (p := fun l => ZIs l (zoneOf l)) ⟨rfl, fun _ => ⟨fun v hv => (by cases hv), rfl, rfl⟩, fun h => (by cases h)⟩ (fun l v ih => ?_) l
  rw [zoneOf_snoc]
  exact ih.snoc v
theorem nulls_le (l : List Val) : nnull l ≤ l.length := List.countP_le_length
theorem nulls_lt {l : List Val} {v : Val} (h : v ∈ l) (hk : v.kind ≠ 0) : nnull l < l.length := by
  rcases Nat.lt_or_ge (nnull l) l.length with h1 | h1
  · exact h1
  · have := List.countP_eq_length.1 (Nat.le_antisymm (nulls_le l) h1) v h
    exact absurd (by simpa using this) hk
theorem nulls_pos {l : List Val} {v : Val} (h : v ∈ l) (hk : v.kind = 0) : 0 < nnull l := List.countP_pos_iff.2 ⟨v, h, by simp [hk]⟩
/-! ### Which truths may be -/
structure T3 where
  f : Bool
  u : Bool
  t : Bool
abbrev t3l (x : T3) : List Bool := [x.f, x.u, x.t]
abbrev bl (b : Bool) : Value := .bool b
abbrev t3v (x : T3) : Value := .agg #[.bool x.f, .bool x.u, .bool x.t]
def T3.has (x : T3) (e : Int) : Bool := if e = 0 then x.f else if e = 1 then x.u else x.t
def T3.rev (x : T3) : T3 := ⟨x.t, x.u, x.f⟩
def allT : T3 := ⟨true, true, true⟩
def noT : T3 := ⟨false, false, false⟩
def onlyT : T3 := ⟨false, false, true⟩
def pairT (t f : Bool) : T3 := ⟨f, false, t⟩
def joinT (mn : Bool) (a b : T3) : T3 :=
  if mn = true then ⟨(a.f && (b.f || b.u || b.t)) || (b.f && (a.u || a.t)), (a.u && (b.u || b.t)) || (b.u && a.t), a.t && b.t⟩
  else ⟨a.f && b.f, (a.u && (b.u || b.f)) || (b.u && a.f), (a.t && (b.f || b.u || b.t)) || (b.t && (a.u || a.f))⟩
def mnI (mn : Bool) (x y : Nat) : Nat := if mn = true then Nat.min x y else Nat.max x y
def jstep (mn : Bool) (a b : T3) (out : List Bool) (n : Nat) : List Bool := if ((t3l a).getD (n / 3) false && (t3l b).getD (n % 3) false) = true then out.set (mnI mn (n / 3) (n % 3)) true else out
def jn (mn : Bool) (a b : T3) (n : Nat) : List Bool := (List.range n).foldl (jstep mn a b) [false, false, false]
theorem jn_succ (mn : Bool) (a b : T3) (n : Nat) : jn mn a b (n + 1) = jstep mn a b (jn mn a b n) n := by rw [jn, List.range_succ, List.foldl_append]; rfl
theorem jn_len (mn : Bool) (a b : T3) : ∀ n, (jn mn a b n).length = 3
  | 0 => rfl
  | n + 1 => by
    rw [jn_succ, jstep]
    split
    · rw [List.length_set, jn_len mn a b n]
    · exact jn_len mn a b n
theorem jn_all (mn : Bool) (a b : T3) : jn mn a b 9 = t3l (joinT mn a b) := by
  obtain ⟨a1, a2, a3⟩ := a
  obtain ⟨b1, b2, b3⟩ := b
  revert mn a1 a2 a3 b1 b2 b3
  decide
def isP (op : Int) (c : Int) : Bool := if op = 3 then decide (c < 0) else if op = 4 then decide (c ≤ 0) else if op = 5 then decide (c > 0) else decide (c ≥ 0)
def withinZ (z : Zn) (v : Val) : Bool := decide (cmpV z.min v ≤ 0) && decide (cmpV v z.max ≤ 0)
def oneZ (z : Zn) (v : Val) : Bool := cmpV z.min v == 0 && cmpV z.max v == 0
def someP (op : Int) (vals : List Val) (z : Zn) : T3 :=
  if op = 1 then pairT (withinZ z (vals.getD 0 vD)) (!oneZ z (vals.getD 0 vD)) else if op = 2 then pairT (!oneZ z (vals.getD 0 vD)) (withinZ z (vals.getD 0 vD)) else
  if (op = 3 ∨ op = 4) then pairT (isP op (cmpV z.min (vals.getD 0 vD))) (!isP op (cmpV z.max (vals.getD 0 vD))) else
  if (op = 5 ∨ op = 6) then pairT (isP op (cmpV z.max (vals.getD 0 vD))) (!isP op (cmpV z.min (vals.getD 0 vD))) else
  if op = 7 then pairT (vals.any (withinZ z)) (!vals.any (oneZ z)) else
  pairT (decide (cmpV (vals.getD 0 vD) (vals.getD 1 vD) ≤ 0) && decide (cmpV (vals.getD 0 vD) z.max ≤ 0) && decide (cmpV (vals.getD 1 vD) z.min ≥ 0)) (decide (cmpV z.min (vals.getD 0 vD) < 0) || decide (cmpV z.max (vals.getD 1 vD) > 0))
def ofColP (op : Int) (vals : List Val) (rows : Int) (z : Zn) : T3 :=
  if op = 9 then pairT (decide (z.nulls > 0)) (decide (z.nulls < rows)) else
    ⟨(if z.some = true then someP op vals z else noT).f, decide (z.nulls > 0), (if z.some = true then someP op vals z else noT).t⟩
def joinM (op : Int) : List T3 → T3
  | [] => allT
  | t :: ts => if op = 12 then t.rev else ts.foldl (fun a x => joinT (op == 10) a x) t
def mayOk (op col : Int) (v n cols : Nat) : Bool := formedP op col v n && (!(sh op.toNat).col || (decide (col ≥ 0) && decide (col < (cols : Int))))
mutual
def mayP (rows : Int) (zs : List Zn) : Pd → T3
  | .mk op col vals of => if mayOk op col vals.length of.length zs.length = true then (if op = 0 then onlyT else if (sh op.toNat).col = true then ofColP op vals rows (zs.getD col.toNat zD) else joinM op (mayPs rows zs of)) else allT
def mayPs (rows : Int) (zs : List Zn) : List Pd → List T3
  | [] => []
  | p :: ps => mayP rows zs p :: mayPs rows zs ps
end
theorem mayPs_map (rows : Int) (zs : List Zn) : ∀ ps : List Pd, mayPs rows zs ps = ps.map (mayP rows zs)
  | [] => by rw [mayPs]; rfl
  | p :: ps => by rw [mayPs, mayPs_map rows zs ps]; rfl
def mayR (rows : Int) (zs : List Zn) (p : Pd) : T3 := if rows < 1 then noT else mayP rows zs p

/-! ### The truth of a row may be -/
theorem joinT_has {mn : Bool} {a b : T3} {x y : Int} (hx : 0 ≤ x ∧ x ≤ 2) (hy : 0 ≤ y ∧ y ≤ 2) (ha : a.has x = true) (hb : b.has y = true) : (joinT mn a b).has (if mn = true then min x y else max x y) = true := by
  obtain ⟨a1, a2, a3⟩ := a
  obtain ⟨b1, b2, b3⟩ := b
  have h1 : x = 0 ∨ x = 1 ∨ x = 2 := by omega
  have h2 : y = 0 ∨ y = 1 ∨ y = 2 := by omega
  rcases h1 with rfl | rfl | rfl <;> rcases h2 with rfl | rfl | rfl <;> revert mn a1 a2 a3 b1 b2 b3 <;> decide
theorem rev_has {a : T3} {x : Int} (hx : 0 ≤ x ∧ x ≤ 2) (ha : a.has x = true) : a.rev.has (2 - x) = true := by
  obtain ⟨a1, a2, a3⟩ := a
  have h1 : x = 0 ∨ x = 1 ∨ x = 2 := by omega
  rcases h1 with rfl | rfl | rfl <;> revert a1 a2 a3 <;> decide
theorem all_has (x : Int) : allT.has x = true := by
  unfold T3.has allT
  repeat' split
  all_goals rfl
theorem truth_has (b : Bool) (x : T3) : x.has (truthI b) = if b = true then x.t else x.f := by cases b <;> rfl
theorem shape_op {m : Nat} (h : m < 13) : ((sh m).col = true ↔ 1 ≤ m ∧ m ≤ 9) ∧ ((1 ≤ m ∧ m ≤ 6) → (sh m).v = 1) ∧ (m = 8 → (sh m).v = 2) := by
  have : ∀ m, m < 13 → ((sh m).col = true ↔ 1 ≤ m ∧ m ≤ 9) ∧ ((1 ≤ m ∧ m ≤ 6) → (sh m).v = 1) ∧ (m = 8 → (sh m).v = 2) := by decide
  exact this m h
theorem cmp_le_ge {a b c : Val} (h : cmpV a b ≤ 0) (h' : 0 ≤ cmpV a c) : 0 ≤ cmpV b c := by
  rcases Int.lt_or_le (cmpV b c) 0 with h1 | h1
  · have h2 := cmpV_trans h (show cmpV b c ≤ 0 by omega)
    have h3 : cmpV c a ≤ 0 := by rw [cmpV_neg]; omega
    have h4 := cmpV_trans h3 h
    rw [cmpV_neg] at h4
    omega
  · exact h1
theorem cmp_lt_of {a b c : Val} (h : cmpV a b ≤ 0) (h' : cmpV b c < 0) : cmpV a c < 0 := by
  rcases Int.lt_or_le (cmpV a c) 0 with h1 | h1
  · exact h1
  · have := cmp_le_ge h h1
    omega
theorem cmp_eq_mid {a b c v : Val} (h1 : cmpV a b ≤ 0) (h2 : cmpV b c ≤ 0) (h3 : cmpV a v = 0) (h4 : cmpV c v = 0) : cmpV b v = 0 := by
  have := cmp_le_ge h1 (show 0 ≤ cmpV a v by omega)
  have := cmpV_trans h2 (show cmpV c v ≤ 0 by omega)
  omega
theorem cmpd4 (c : Int) : cmpdB 4 c = decide (c ≤ 0) := by
  show (c == 0 || decide (c < 0)) = decide (c ≤ 0)
  rw [Bool.eq_iff_iff, Bool.or_eq_true, beq_iff_eq, decide_eq_true_eq, decide_eq_true_eq]
  omega
theorem cmpd6 (c : Int) : cmpdB 6 c = decide (c ≥ 0) := by
  show (c == 0 || decide (c > 0)) = decide (c ≥ 0)
  rw [Bool.eq_iff_iff, Bool.or_eq_true, beq_iff_eq, decide_eq_true_eq, decide_eq_true_eq]
  omega
/-- A value between two. -/
theorem col_has {op : Nat} {col : Int} {vals : List Val} {n : Nat} {rows : Int} {z : Zn} {l : List Val} {v : Val} (ho : op < 13) (hc : (sh op).col = true) (hf : formedP (op : Int) col vals.length n = true) (hz : ZIs l z) (hr : rows = (l.length : Int)) (hv : v ∈ l) :
    (ofColP (op : Int) vals rows z).has (ofValueP (op : Int) col vals n v) = true := by
  obtain ⟨hs1, hs2, hs3⟩ := shape_op ho
  have hop := hs1.1 hc
  by_cases h9 : (op : Int) = 9
  · rw [ofColP, if_pos h9, ofValueP, if_pos h9, truth_has]
    by_cases hk : v.kind = 0
    · rw [if_pos (by simp [hk])]
      have := nulls_pos hv hk
      have := hz.nulls
      exact decide_eq_true (by omega)
    · rw [if_neg (by simp [hk])]
      have := nulls_lt hv hk
      have := hz.nulls
      exact decide_eq_true (by omega)
  · rw [ofColP, if_neg h9, ofValueP, if_neg h9]
    by_cases hk : v.kind = 0
    · rw [if_pos (show (v.kind == 0 || !formedP (op : Int) col vals.length n) = true by simp [hk])]
      have := nulls_pos hv hk
      have := hz.nulls
      exact decide_eq_true (show z.nulls > 0 by omega)
    · rw [if_neg (show ¬ (v.kind == 0 || !formedP (op : Int) col vals.length n) = true by simp [hk, hf])]
      have hsome : z.some = true := by
        cases h : z.some with
        | true => rfl
        | false => exact absurd ((hz.no h).1 v hv) hk
      obtain ⟨_, _, h3⟩ := hz.yes hsome
      obtain ⟨hlo, hhi⟩ := h3 v hv hk
      have hnlo : 0 ≤ cmpV v z.min := by rw [cmpV_neg]; omega
      rw [hsome, if_pos rfl]
      -- by the operator
      have key : ∀ b : Bool, (b = true → (someP (op : Int) vals z).t = true) → (b = false → (someP (op : Int) vals z).f = true) → (⟨(someP (op : Int) vals z).f, decide (z.nulls > 0), (someP (op : Int) vals z).t⟩ : T3).has (truthI b) = true := by
        intro b h1 h2
        rw [truth_has]
        cases b with
        | true => rw [if_pos rfl]; exact h1 rfl
        | false => rw [if_neg (by decide)]; exact h2 rfl
      have hw : ∀ x, cmpV v x = 0 → withinZ z x = true := by
        intro x hx
        unfold withinZ
        rw [Bool.and_eq_true, decide_eq_true_eq, decide_eq_true_eq]
        refine ⟨cmpV_trans hlo (by omega), cmpV_trans ?_ hhi⟩
        rw [cmpV_neg]; omega
      have hone : ∀ x, oneZ z x = true → cmpV v x = 0 := by
        intro x hx
        unfold oneZ at hx
        rw [Bool.and_eq_true, beq_iff_eq, beq_iff_eq] at hx
        exact cmp_eq_mid hlo hhi hx.1 hx.2
      have hno : ∀ x, cmpV v x ≠ 0 → (!oneZ z x) = true := by
        intro x hx
        cases h : oneZ z x with
        | true => exact absurd (hone x h) hx
        | false => rfl
      by_cases h7 : (op : Int) = 7
      · rw [if_pos h7]
        refine key _ (fun h => ?_) (fun h => ?_)
        · rw [h7]
          show vals.any (withinZ z) = true
          rw [List.any_eq_true] at h ⊢
          obtain ⟨x, hx, hc⟩ := h
          exact ⟨x, hx, hw x (by simpa using hc)⟩
        · rw [h7]
          show (!vals.any (oneZ z)) = true
          rw [Bool.not_eq_true', List.any_eq_false] at *
          intro x hx hox
          exact h x hx (by simpa using hone x hox)
      · rw [if_neg h7]
        by_cases h8 : (op : Int) = 8
        · rw [if_pos h8]
          refine key _ (fun h => ?_) (fun h => ?_)
          · rw [h8]
            show (decide _ && decide _ && decide _) = true
            simp only [Bool.and_eq_true, decide_eq_true_eq] at h ⊢
            have g1 : cmpV (vals.getD 0 vD) v ≤ 0 := by rw [cmpV_neg]; omega
            refine ⟨⟨cmpV_trans g1 h.2, cmpV_trans g1 hhi⟩, ?_⟩
            rw [ge_iff_le, ← Int.neg_nonpos_iff, ← cmpV_neg]
            exact cmpV_trans hlo h.2
          · rw [h8]
            show (decide _ || decide _) = true
            rw [Bool.or_eq_true, decide_eq_true_eq, decide_eq_true_eq]
            rw [Bool.and_eq_false_iff, decide_eq_false_iff_not, decide_eq_false_iff_not] at h
            rcases h with h | h
            · exact .inl (cmp_lt_of hlo (by omega))
            · refine .inr ?_
              have g1 : cmpV (vals.getD 1 vD) v < 0 := by rw [cmpV_neg]; omega
              have g2 : cmpV (vals.getD 1 vD) z.max < 0 := by
                rcases Int.lt_or_le (cmpV (vals.getD 1 vD) z.max) 0 with g | g
                · exact g
                · have g4 : cmpV z.max (vals.getD 1 vD) ≤ 0 := by rw [cmpV_neg]; omega
                  have g5 := cmp_lt_of g4 g1
                  rw [cmpV_neg] at g5
                  omega
              rw [cmpV_neg]
              omega
        · rw [if_neg h8]
          have hcases : (op : Int) = 1 ∨ (op : Int) = 2 ∨ (op : Int) = 3 ∨ (op : Int) = 4 ∨ (op : Int) = 5 ∨ (op : Int) = 6 := by omega
          have hle : ∀ y, cmpV v y < 0 → cmpV z.min y < 0 := fun y hy => cmp_lt_of hlo hy
          have hle2 : cmpV v (vals.getD 0 vD) ≤ 0 → cmpV z.min (vals.getD 0 vD) ≤ 0 := fun hy => cmpV_trans hlo hy
          have hge2 : 0 ≤ cmpV v (vals.getD 0 vD) → 0 ≤ cmpV z.max (vals.getD 0 vD) := fun hy => cmp_le_ge hhi hy
          have hge : 0 < cmpV v (vals.getD 0 vD) → 0 < cmpV z.max (vals.getD 0 vD) := fun hy => by
            rcases Int.lt_or_le 0 (cmpV z.max (vals.getD 0 vD)) with g | g
            · exact g
            · have := cmpV_trans hhi g
              omega
          rcases hcases with e | e | e | e | e | e <;> rw [e] at key ⊢
          · refine key _ (fun h => ?_) (fun h => ?_)
            · exact hw (vals.getD 0 vD) (by simpa [cmpdB] using h)
            · exact hno (vals.getD 0 vD) (by simpa [cmpdB] using h)
          · refine key _ (fun h => ?_) (fun h => ?_)
            · exact hno (vals.getD 0 vD) (by simpa [cmpdB] using h)
            · exact hw (vals.getD 0 vD) (by simpa [cmpdB] using h)
          · refine key _ (fun h => ?_) (fun h => ?_)
            · have h : cmpV v (vals.getD 0 vD) < 0 := by simpa [cmpdB] using h
              exact decide_eq_true (hle (vals.getD 0 vD) h)
            · have h : 0 ≤ cmpV v (vals.getD 0 vD) := by simpa [cmpdB] using h
              show (!decide (cmpV z.max (vals.getD 0 vD) < 0)) = true
              rw [decide_eq_false (by have := hge2 h; omega)]
              rfl
          · refine key _ (fun h => ?_) (fun h => ?_)
            · rw [cmpd4] at h
              have h := of_decide_eq_true h
              exact decide_eq_true (hle2 h)
            · rw [cmpd4] at h
              have h : 0 < cmpV v (vals.getD 0 vD) := by have := of_decide_eq_false h; omega
              show (!decide (cmpV z.max (vals.getD 0 vD) ≤ 0)) = true
              rw [decide_eq_false (by have := hge h; omega)]
              rfl
          · refine key _ (fun h => ?_) (fun h => ?_)
            · have h : 0 < cmpV v (vals.getD 0 vD) := by simpa [cmpdB] using h
              exact decide_eq_true (hge h)
            · have h : cmpV v (vals.getD 0 vD) ≤ 0 := by simpa [cmpdB] using h
              show (!decide (cmpV z.min (vals.getD 0 vD) > 0)) = true
              rw [decide_eq_false (by have := hle2 h; omega)]
              rfl
          · refine key _ (fun h => ?_) (fun h => ?_)
            · rw [cmpd6] at h
              have h := of_decide_eq_true h
              exact decide_eq_true (hge2 h)
            · rw [cmpd6] at h
              have h : cmpV v (vals.getD 0 vD) < 0 := by have := of_decide_eq_false h; omega
              show (!decide (cmpV z.min (vals.getD 0 vD) ≥ 0)) = true
              rw [decide_eq_false (by have := hle (vals.getD 0 vD) h; omega)]
              rfl
inductive All2 {α β : Type} (R : α → β → Prop) : List α → List β → Prop
  | nil : All2 R [] []
  | cons {a : α} {b : β} {l : List α} {m : List β} (h : R a b) (t : All2 R l m) : All2 R (a :: l) (b :: m)
/-- The columns' values and their zones. -/
structure Covers (rows : List (List Val)) (zs : List Zn) : Prop where
  wide : ∀ row ∈ rows, row.length = zs.length
  zone : ∀ c, c < zs.length → zs.getD c zD = zoneOf (rows.map fun row => row.getD c vD)
theorem known_of {op : Int} {col : Int} {v n : Nat} (h : formedP op col v n = true) : known op = true := by
  cases h1 : known op with
  | true => rfl
  | false => rw [formedP, h1] at h; cases h
theorem fold_has {op : Int} : ∀ {ts : List T3} {es : List Int} {t : T3} {e : Int}, All2 (fun t e => T3.has t e = true) ts es → (∀ x ∈ es, 0 ≤ x ∧ x ≤ 2) → 0 ≤ e ∧ e ≤ 2 → t.has e = true → (ts.foldl (fun a x => joinT (op == 10) a x) t).has (es.foldl (fun a x => if op = 10 then min a x else max a x) e) = true
  | [], [], t, e, _, _, _, h => h
  | t1 :: ts, e1 :: es, t, e, .cons h1 h2, hr, he, h => by
    have h3 := hr e1 List.mem_cons_self
    refine fold_has (ts := ts) (es := es) h2 (fun x hx => hr x (List.mem_cons_of_mem _ hx)) ?_ ?_
    · show 0 ≤ (if op = 10 then min e e1 else max e e1) ∧ (if op = 10 then min e e1 else max e e1) ≤ 2
      split <;> omega
    · have := joinT_has (mn := op == 10) he h3 h h1
      by_cases h10 : op = 10
      · simpa [h10] using this
      · simpa [h10] using this
theorem of_ne {op col : Int} {vals : List Val} {of : List Pd} (h : formedP op col vals.length of.length = true) (h0 : op ≠ 0) (hc : ¬ (sh op.toNat).col = true) : of ≠ [] := by
  obtain ⟨m, rfl, hm⟩ := known_nat (known_of h)
  rintro rfl
  have h1 := (formed_vals h hm).2.2.1
  have : ∀ m, m < 13 → m ≠ 0 → ¬ (sh m).col = true → 1 ≤ (sh m).p := by decide
  have h2 := this m hm (by omega) (by simpa using hc)
  rw [Int.toNat_natCast] at hc
  simp at h1
  omega
mutual
theorem may_true {rows : List (List Val)} {zs : List Zn} (hz : Covers rows zs) {row : List Val} (hr : row ∈ rows) : ∀ p : Pd, (mayP (rows.length : Int) zs p).has (evalP p row) = true
  | .mk op col vals of => by
    rw [mayP]
    split
    · rename_i hok
      unfold mayOk at hok
      rw [Bool.and_eq_true] at hok
      obtain ⟨hf, hcol⟩ := hok
      have hk := known_of hf
      obtain ⟨m, rfl, hm⟩ := known_nat hk
      rw [evalP, if_pos hk]
      rw [Int.toNat_natCast] at hcol ⊢
      by_cases h0 : (m : Int) = 0
      · rw [if_pos h0]
        have hm0 : m = 0 := by omega
        subst hm0
        rw [if_neg (by decide), if_pos (show ((0 : Nat) : Int) = 0 from rfl)]
        rfl
      · rw [if_neg h0, if_neg h0]
        by_cases hc : (sh m).col = true
        · rw [if_pos hc, if_pos hc]
          rw [hc] at hcol
          simp only [Bool.not_true, Bool.false_or, Bool.and_eq_true, decide_eq_true_eq] at hcol
          have hw := hz.wide row hr
          rw [if_neg (by simp; omega)]
          rw [hz.zone _ (by omega)]
          refine col_has hm hc hf (zoneOf_is _) (by rw [List.length_map]) ?_
          exact List.mem_map.2 ⟨row, hr, rfl⟩
        · rw [if_neg hc, if_neg hc]
          have hne := of_ne hf h0 (by rwa [Int.toNat_natCast])
          have h1 := may_trues hz hr of
          have h2 := evalPs_range of row
          cases of with
          | nil => exact absurd rfl hne
          | cons q qs =>
            rw [mayPs, evalPs] at *
            cases h1 with
            | cons h1 h3 =>
              have h4 := h2 _ List.mem_cons_self
              unfold joinM joinP
              simp only
              split
              · exact rev_has h4 h1
              · exact fold_has h3 (fun x hx => h2 x (List.mem_cons_of_mem _ hx)) h4 h1
    · exact all_has _
theorem may_trues {rows : List (List Val)} {zs : List Zn} (hz : Covers rows zs) {row : List Val} (hr : row ∈ rows) : ∀ ps : List Pd, All2 (fun t e => T3.has t e = true) (mayPs (rows.length : Int) zs ps) (evalPs ps row)
  | [] => by rw [mayPs, evalPs]; exact .nil
  | p :: ps => by
    rw [mayPs, evalPs]
    exact .cons (may_true hz hr p) (may_trues hz hr ps)
end

/-! ### Of more rows a zone only grows -/
def T3.le (a b : T3) : Prop := (a.f = true → b.f = true) ∧ (a.u = true → b.u = true) ∧ (a.t = true → b.t = true)
theorem T3.le_refl (a : T3) : a.le a := ⟨id, id, id⟩
structure ZLe (y z : Zn) (k n : Int) : Prop where
  nulls : y.nulls ≤ z.nulls
  rest : k - y.nulls ≤ n - z.nulls
  some : y.some = true → z.some = true ∧ cmpV z.min y.min ≤ 0 ∧ cmpV y.max z.max ≤ 0 ∧ cmpV y.min y.max ≤ 0
theorem not_le {a b : Bool} (h : b = true → a = true) : (!a) = true → (!b) = true := by cases a <;> cases b <;> simp_all
end Go.Proofs.YtnciojaecelhmaaDoor
