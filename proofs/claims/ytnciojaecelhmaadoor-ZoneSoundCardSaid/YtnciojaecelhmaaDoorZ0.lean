/- Zones, in plain Lean: the zone of values, which truths may be; the truth of a row may be by the zones of rows; of more rows a zone only grows. No condition. -/
import Derived.Test.YtnciojaecelhmaaDoorP4
set_option linter.unusedVariables false
set_option linter.unusedSimpArgs false
set_option maxRecDepth 100000
namespace Go.Proofs.YtnciojaecelhmaaDoor
open Go Go.Ab

structure Zn where
  nulls : Int
  some : Bool
  min : Val
  max : Val
abbrev znc (z : Zn) : List Value := [.int .i64 z.nulls, .bool z.some, .int .i64 z.min.kind, .int .i64 z.min.n, .string z.min.s, .int .i64 z.max.kind, .int .i64 z.max.n, .string z.max.s]
abbrev zv (z : Zn) : Value := .agg #[.int .i64 z.nulls, .bool z.some, .int .i64 z.min.kind, .int .i64 z.min.n, .string z.min.s, .int .i64 z.max.kind, .int .i64 z.max.n, .string z.max.s]
def zD : Zn := ⟨0, false, vD, vD⟩
def zs8 (l : List Zn) : List Value := l.flatMap fun z => (zv z).cells.toList

/-! ### The zone of values -/
def zfirst (z : Zn) (v : Val) : Zn := if z.some = true then z else ⟨z.nulls, true, v, v⟩
def zlow (z : Zn) (v : Val) : Zn := if cmpV v z.min < 0 then { z with min := v } else z
def zhigh (z : Zn) (v : Val) : Zn := if cmpV v z.max > 0 then { z with max := v } else z
def zstep (z : Zn) (v : Val) : Zn := if v.kind = 0 then { z with nulls := z.nulls + 1 } else zhigh (zlow (zfirst z v) v) v
def zoneOf (l : List Val) : Zn := l.foldl zstep zD
theorem zoneOf_snoc (l : List Val) (v : Val) : zoneOf (l ++ [v]) = zstep (zoneOf l) v := by rw [zoneOf, List.foldl_append]; rfl
def nnull (l : List Val) : Nat := l.countP fun v => v.kind == 0
theorem cmpV_self (a : Val) : cmpV a a = 0 := by have := cmpV_neg a a; omega
structure ZIs (l : List Val) (z : Zn) : Prop where
  nulls : z.nulls = (nnull l : Int)
  no : z.some = false → (∀ v ∈ l, v.kind = 0) ∧ z.min = vD ∧ z.max = vD
  yes : z.some = true → (z.min ∈ l ∧ z.min.kind ≠ 0) ∧ (z.max ∈ l ∧ z.max.kind ≠ 0) ∧ ∀ v ∈ l, v.kind ≠ 0 → cmpV z.min v ≤ 0 ∧ cmpV v z.max ≤ 0
theorem nulls_snoc (l : List Val) (v : Val) : nnull (l ++ [v]) = nnull l + if v.kind = 0 then 1 else 0 := by
  rw [nnull, List.countP_append, List.countP_cons, List.countP_nil]
  by_cases h : v.kind = 0
  · rw [if_pos (by simp [h]), if_pos h]; rfl
  · rw [if_neg (by simp [h]), if_neg h]; rfl
theorem ZIs.snoc {l : List Val} {z : Zn} (h : ZIs l z) (v : Val) : ZIs (l ++ [v]) (zstep z v) := by
  by_cases hk : v.kind = 0
  · have e : zstep z v = { z with nulls := z.nulls + 1 } := if_pos hk
    rw [e]
    have e1 : z.nulls + 1 = (nnull (l ++ [v]) : Int) := by rw [nulls_snoc, if_pos hk, h.nulls]; omega
    refine ⟨e1, fun hs => ?_, fun hs => ?_⟩
    · obtain ⟨h1, h2⟩ := h.no hs
      exact ⟨fun u hu => by
        rcases List.mem_append.1 hu with hu | hu
        · exact h1 u hu
        · rw [List.mem_singleton.1 hu]; exact hk, h2⟩
    · obtain ⟨h1, h2, h3⟩ := h.yes hs
      exact ⟨⟨List.mem_append_left _ h1.1, h1.2⟩, ⟨List.mem_append_left _ h2.1, h2.2⟩, fun u hu hn => by
        rcases List.mem_append.1 hu with hu | hu
        · exact h3 u hu hn
        · rw [List.mem_singleton.1 hu] at hn; exact absurd hk hn⟩
  · have e : zstep z v = zhigh (zlow (zfirst z v) v) v := if_neg hk
    rw [e]
    have hn1 : (zhigh (zlow (zfirst z v) v) v).nulls = z.nulls := by
      unfold zhigh zlow zfirst
      repeat' split
      all_goals rfl
    have hs1 : (zhigh (zlow (zfirst z v) v) v).some = true := by
      unfold zhigh zlow zfirst
      repeat' split
      all_goals first | rfl | assumption
    refine ⟨by rw [hn1, nulls_snoc, if_neg hk, h.nulls]; rfl, fun hs => absurd (hs1.symm.trans hs) (by decide), fun _ => ?_⟩
    have hv : v ∈ l ++ [v] := List.mem_append_right _ (List.mem_singleton.2 rfl)
    -- the first one
    have hf : ((zfirst z v).min ∈ l ++ [v] ∧ (zfirst z v).min.kind ≠ 0) ∧ ((zfirst z v).max ∈ l ++ [v] ∧ (zfirst z v).max.kind ≠ 0) ∧ ∀ u ∈ l, u.kind ≠ 0 → cmpV (zfirst z v).min u ≤ 0 ∧ cmpV u (zfirst z v).max ≤ 0 := by
      unfold zfirst
      split
      · rename_i hs
        obtain ⟨h1, h2, h3⟩ := h.yes hs
        exact ⟨⟨List.mem_append_left _ h1.1, h1.2⟩, ⟨List.mem_append_left _ h2.1, h2.2⟩, h3⟩
      · rename_i hs
        obtain ⟨h1, _⟩ := h.no (by simpa using hs)
        exact ⟨⟨hv, hk⟩, ⟨hv, hk⟩, fun u hu hn => absurd (h1 u hu) hn⟩
    have hg : ((zlow (zfirst z v) v).min ∈ l ++ [v] ∧ (zlow (zfirst z v) v).min.kind ≠ 0) ∧ ((zlow (zfirst z v) v).max ∈ l ++ [v] ∧ (zlow (zfirst z v) v).max.kind ≠ 0) ∧ (∀ u ∈ l, u.kind ≠ 0 → cmpV (zlow (zfirst z v) v).min u ≤ 0 ∧ cmpV u (zlow (zfirst z v) v).max ≤ 0) ∧ cmpV (zlow (zfirst z v) v).min v ≤ 0 := by
      unfold zlow
      obtain ⟨h1, h2, h3⟩ := hf
      split
      · rename_i hc
        refine ⟨⟨hv, hk⟩, h2, fun u hu hn => ⟨?_, (h3 u hu hn).2⟩, ?_⟩
        · exact cmpV_trans (show cmpV v (zfirst z v).min ≤ 0 by omega) (h3 u hu hn).1
        · show cmpV v v ≤ 0
          rw [cmpV_self]
          decide
      · rename_i hc
        refine ⟨h1, h2, h3, ?_⟩
        rw [cmpV_neg]
        omega
    obtain ⟨h1, h2, h3, h4⟩ := hg
    generalize zlow (zfirst z v) v = y at *
    unfold zhigh
    split
    · rename_i hc
      refine ⟨h1, ⟨hv, hk⟩, fun u hu hn => ?_⟩
      rcases List.mem_append.1 hu with hu | hu
      · refine ⟨(h3 u hu hn).1, cmpV_trans (h3 u hu hn).2 ?_⟩
        show cmpV y.max v ≤ 0
        rw [cmpV_neg]
        omega
      · rw [List.mem_singleton.1 hu]
        refine ⟨h4, ?_⟩
        show cmpV v v ≤ 0
        rw [cmpV_self]
        decide
    · rename_i hc
      refine ⟨h1, h2, fun u hu hn => ?_⟩
      rcases List.mem_append.1 hu with hu | hu
      · exact h3 u hu hn
      · rw [List.mem_singleton.1 hu]
        exact ⟨h4, by omega⟩
theorem snoc_ind {α : Type} {p : List α → Prop} (h0 : p []) (h1 : ∀ l a, p l → p (l ++ [a])) : ∀ l, p l := by
  intro l
  have key : ∀ (n : Nat) (l : List α), l.length = n → p l := by
    intro n
    induction n with
    | zero => intro l hl; rw [List.length_eq_zero_iff.1 hl]; exact h0
    | succ n ih =>
      intro l hl
      have hne : l ≠ [] := by intro e; subst e; cases hl
      rw [← List.dropLast_concat_getLast hne]
      exact h1 _ _ (ih _ (by rw [List.length_dropLast, hl]; rfl))
  exact key _ l rfl
theorem zoneOf_is (l : List Val) : ZIs l (zoneOf l) := by
  refine snoc_ind (p := fun l => ZIs l (zoneOf l)) ⟨rfl, fun _ => ⟨fun v hv => (by cases hv), rfl, rfl⟩, fun h => (by cases h)⟩ (fun l v ih => ?_) l
  rw [zoneOf_snoc]
  exact ih.snoc v
theorem nulls_le (l : List Val) : nnull l ≤ l.length := List.countP_le_length
theorem nulls_lt {l : List Val} {v : Val} (h : v ∈ l) (hk : v.kind ≠ 0) : nnull l < l.length := by
  rcases Nat.lt_or_ge (nnull l) l.length with h1 | h1
  · exact h1
  · have := List.countP_eq_length.1 (Nat.le_antisymm (nulls_le l) h1) v h
    exact absurd (by simpa using this) hk
theorem zone_some (l : List Val) : (zoneOf l).some = decide ((zoneOf l).nulls < (l.length : Int)) := by
  have h := zoneOf_is l
  cases hs : (zoneOf l).some with
  | true =>
    have := nulls_lt (h.yes hs).1.1 (h.yes hs).1.2
    rw [h.nulls]
    exact (decide_eq_true (by omega)).symm
  | false =>
    have : nnull l = l.length := List.countP_eq_length.2 fun v hv => by simp [(h.no hs).1 v hv]
    rw [h.nulls, this]
    exact (decide_eq_false (by omega)).symm

/-! ### Which truths may be -/
structure T3 where
  f : Bool
  u : Bool
  t : Bool
abbrev t3l (x : T3) : List Bool := [x.f, x.u, x.t]
abbrev bl (b : Bool) : Value := .bool b
abbrev t3v (x : T3) : Value := .agg #[.bool x.f, .bool x.u, .bool x.t]
def T3.has (x : T3) (e : Int) : Bool := if e = 0 then x.f else if e = 1 then x.u else x.t
def T3.rev (x : T3) : T3 := ⟨x.t, x.u, x.f⟩
def allT : T3 := ⟨true, true, true⟩
def noT : T3 := ⟨false, false, false⟩
def onlyT : T3 := ⟨false, false, true⟩
def pairT (t f : Bool) : T3 := ⟨f, false, t⟩
def joinT (mn : Bool) (a b : T3) : T3 :=
  if mn = true then ⟨(a.f && (b.f || b.u || b.t)) || (b.f && (a.u || a.t)), (a.u && (b.u || b.t)) || (b.u && a.t), a.t && b.t⟩
  else ⟨a.f && b.f, (a.u && (b.u || b.f)) || (b.u && a.f), (a.t && (b.f || b.u || b.t)) || (b.t && (a.u || a.f))⟩
def mnI (mn : Bool) (x y : Nat) : Nat := if mn = true then Nat.min x y else Nat.max x y
def jstep (mn : Bool) (a b : T3) (out : List Bool) (n : Nat) : List Bool := if ((t3l a).getD (n / 3) false && (t3l b).getD (n % 3) false) = true then out.set (mnI mn (n / 3) (n % 3)) true else out
def jn (mn : Bool) (a b : T3) (n : Nat) : List Bool := (List.range n).foldl (jstep mn a b) [false, false, false]
theorem jn_succ (mn : Bool) (a b : T3) (n : Nat) : jn mn a b (n + 1) = jstep mn a b (jn mn a b n) n := by rw [jn, List.range_succ, List.foldl_append]; rfl
theorem jn_len (mn : Bool) (a b : T3) : ∀ n, (jn mn a b n).length = 3
  | 0 => rfl
  | n + 1 => by
    rw [jn_succ, jstep]
    split
    · rw [List.length_set, jn_len mn a b n]
    · exact jn_len mn a b n
theorem jn_all (mn : Bool) (a b : T3) : jn mn a b 9 = t3l (joinT mn a b) := by
  obtain ⟨a1, a2, a3⟩ := a
  obtain ⟨b1, b2, b3⟩ := b
  revert mn a1 a2 a3 b1 b2 b3
  decide
def isP (op : Int) (c : Int) : Bool := if op = 3 then decide (c < 0) else if op = 4 then decide (c ≤ 0) else if op = 5 then decide (c > 0) else decide (c ≥ 0)
def withinZ (z : Zn) (v : Val) : Bool := decide (cmpV z.min v ≤ 0) && decide (cmpV v z.max ≤ 0)
def oneZ (z : Zn) (v : Val) : Bool := cmpV z.min v == 0 && cmpV z.max v == 0
def someP (op : Int) (vals : List Val) (z : Zn) : T3 :=
  if op = 1 then pairT (withinZ z (vals.getD 0 vD)) (!oneZ z (vals.getD 0 vD)) else if op = 2 then pairT (!oneZ z (vals.getD 0 vD)) (withinZ z (vals.getD 0 vD)) else
  if (op = 3 ∨ op = 4) then pairT (isP op (cmpV z.min (vals.getD 0 vD))) (!isP op (cmpV z.max (vals.getD 0 vD))) else
  if (op = 5 ∨ op = 6) then pairT (isP op (cmpV z.max (vals.getD 0 vD))) (!isP op (cmpV z.min (vals.getD 0 vD))) else
  if op = 7 then pairT (vals.any (withinZ z)) (!vals.any (oneZ z)) else
  pairT (decide (cmpV (vals.getD 0 vD) (vals.getD 1 vD) ≤ 0) && decide (cmpV (vals.getD 0 vD) z.max ≤ 0) && decide (cmpV (vals.getD 1 vD) z.min ≥ 0)) (decide (cmpV z.min (vals.getD 0 vD) < 0) || decide (cmpV z.max (vals.getD 1 vD) > 0))
def ofColP (op : Int) (vals : List Val) (rows : Int) (z : Zn) : T3 :=
  if op = 9 then pairT (decide (z.nulls > 0)) (decide (z.nulls < rows)) else
    ⟨(if z.some = true then someP op vals z else noT).f, decide (z.nulls > 0), (if z.some = true then someP op vals z else noT).t⟩
def joinM (op : Int) : List T3 → T3
  | [] => allT
  | t :: ts => if op = 12 then t.rev else ts.foldl (fun a x => joinT (op == 10) a x) t
def mayOk (op col : Int) (v n cols : Nat) : Bool := formedP op col v n && (!(sh op.toNat).col || (decide (col ≥ 0) && decide (col < (cols : Int))))
mutual
def mayP (rows : Int) (zs : List Zn) : Pd → T3
  | .mk op col vals of => if mayOk op col vals.length of.length zs.length = true then (if op = 0 then onlyT else if (sh op.toNat).col = true then ofColP op vals rows (zs.getD col.toNat zD) else joinM op (mayPs rows zs of)) else allT
def mayPs (rows : Int) (zs : List Zn) : List Pd → List T3
  | [] => []
  | p :: ps => mayP rows zs p :: mayPs rows zs ps
end
theorem mayPs_map (rows : Int) (zs : List Zn) : ∀ ps : List Pd, mayPs rows zs ps = ps.map (mayP rows zs)
  | [] => by rw [mayPs]; rfl
  | p :: ps => by rw [mayPs, mayPs_map rows zs ps]; rfl
def mayR (rows : Int) (zs : List Zn) (p : Pd) : T3 := if rows < 1 then noT else mayP rows zs p

/-! ### The truth of a row may be -/
theorem shape_op {m : Nat} (h : m < 13) : ((sh m).col = true ↔ 1 ≤ m ∧ m ≤ 9) ∧ ((1 ≤ m ∧ m ≤ 6) → (sh m).v = 1) ∧ (m = 8 → (sh m).v = 2) := by
  have : ∀ m, m < 13 → ((sh m).col = true ↔ 1 ≤ m ∧ m ≤ 9) ∧ ((1 ≤ m ∧ m ≤ 6) → (sh m).v = 1) ∧ (m = 8 → (sh m).v = 2) := by decide
  exact this m h
theorem cmp_le_ge {a b c : Val} (h : cmpV a b ≤ 0) (h' : 0 ≤ cmpV a c) : 0 ≤ cmpV b c := by
  rcases Int.lt_or_le (cmpV b c) 0 with h1 | h1
  · have h2 := cmpV_trans h (show cmpV b c ≤ 0 by omega)
    have h3 : cmpV c a ≤ 0 := by rw [cmpV_neg]; omega
    have h4 := cmpV_trans h3 h
    rw [cmpV_neg] at h4
    omega
  · exact h1
theorem cmp_lt_of {a b c : Val} (h : cmpV a b ≤ 0) (h' : cmpV b c < 0) : cmpV a c < 0 := by
  rcases Int.lt_or_le (cmpV a c) 0 with h1 | h1
  · exact h1
  · have := cmp_le_ge h h1
    omega
theorem cmp_eq_mid {a b c v : Val} (h1 : cmpV a b ≤ 0) (h2 : cmpV b c ≤ 0) (h3 : cmpV a v = 0) (h4 : cmpV c v = 0) : cmpV b v = 0 := by
  have := cmp_le_ge h1 (show 0 ≤ cmpV a v by omega)
  have := cmpV_trans h2 (show cmpV c v ≤ 0 by omega)
  omega
inductive All2 {α β : Type} (R : α → β → Prop) : List α → List β → Prop
  | nil : All2 R [] []
  | cons {a : α} {b : β} {l : List α} {m : List β} (h : R a b) (t : All2 R l m) : All2 R (a :: l) (b :: m)
/-- The columns' values and their zones. -/
structure Covers (rows : List (List Val)) (zs : List Zn) : Prop where
  wide : ∀ row ∈ rows, row.length = zs.length
  zone : ∀ c, c < zs.length → zs.getD c zD = zoneOf (rows.map fun row => row.getD c vD)
theorem known_of {op : Int} {col : Int} {v n : Nat} (h : formedP op col v n = true) : known op = true := by
  cases h1 : known op with
  | true => rfl
  | false => rw [formedP, h1] at h; cases h
theorem of_ne {op col : Int} {vals : List Val} {of : List Pd} (h : formedP op col vals.length of.length = true) (h0 : op ≠ 0) (hc : ¬ (sh op.toNat).col = true) : of ≠ [] := by
  obtain ⟨m, rfl, hm⟩ := known_nat (known_of h)
  rintro rfl
  have h1 := (formed_vals h hm).2.2.1
  have : ∀ m, m < 13 → m ≠ 0 → ¬ (sh m).col = true → 1 ≤ (sh m).p := by decide
  have h2 := this m hm (by omega) (by simpa using hc)
  rw [Int.toNat_natCast] at hc
  simp at h1
  omega

/-! ### Of more rows a zone only grows -/
def T3.le (a b : T3) : Prop := (a.f = true → b.f = true) ∧ (a.u = true → b.u = true) ∧ (a.t = true → b.t = true)
theorem T3.le_refl (a : T3) : a.le a := ⟨id, id, id⟩
theorem le_join {mn : Bool} {a b a' b' : T3} (h : a.le a') (h' : b.le b') : (joinT mn a b).le (joinT mn a' b') := by
  obtain ⟨a1, a2, a3⟩ := a
  obtain ⟨b1, b2, b3⟩ := b
  obtain ⟨c1, c2, c3⟩ := a'
  obtain ⟨d1, d2, d3⟩ := b'
  obtain ⟨h1, h2, h3⟩ := h
  obtain ⟨k1, k2, k3⟩ := h'
  simp only at h1 h2 h3 k1 k2 k3
  cases mn <;> refine ⟨?_, ?_, ?_⟩ <;> simp only [joinT, if_true, Bool.false_eq_true, if_false, Bool.or_eq_true, Bool.and_eq_true] <;> grind
theorem le_rev {a b : T3} (h : a.le b) : a.rev.le b.rev := ⟨h.2.2, h.2.1, h.1⟩
structure ZLe (y z : Zn) (k n : Int) : Prop where
  nulls : y.nulls ≤ z.nulls
  rest : k - y.nulls ≤ n - z.nulls
  some : y.some = true → z.some = true ∧ cmpV z.min y.min ≤ 0 ∧ cmpV y.max z.max ≤ 0 ∧ cmpV y.min y.max ≤ 0
theorem zone_prefix (l r : List Val) : ZLe (zoneOf l) (zoneOf (l ++ r)) (l.length : Int) ((l ++ r).length : Int) := by
  have h1 := zoneOf_is l
  have h2 := zoneOf_is (l ++ r)
  have h3 : nnull (l ++ r) = nnull l + nnull r := List.countP_append
  have h4 := nulls_le r
  refine ⟨by rw [h1.nulls, h2.nulls]; omega, by rw [h1.nulls, h2.nulls, List.length_append]; omega, fun hs => ?_⟩
  obtain ⟨⟨g1, g2⟩, ⟨g3, g4⟩, g5⟩ := h1.yes hs
  have hs2 : (zoneOf (l ++ r)).some = true := by
    cases h : (zoneOf (l ++ r)).some with
    | true => rfl
    | false => exact absurd ((h2.no h).1 _ (List.mem_append_left _ g1)) g2
  obtain ⟨_, _, h5⟩ := h2.yes hs2
  exact ⟨hs2, (h5 _ (List.mem_append_left _ g1) g2).1, (h5 _ (List.mem_append_left _ g3) g4).2, (g5 _ g3 g4).1⟩
theorem within_le {y z : Zn} {v : Val} (h1 : cmpV z.min y.min ≤ 0) (h2 : cmpV y.max z.max ≤ 0) (h : withinZ y v = true) : withinZ z v = true := by
  unfold withinZ at *
  rw [Bool.and_eq_true, decide_eq_true_eq, decide_eq_true_eq] at *
  exact ⟨cmpV_trans h1 h.1, cmpV_trans h.2 h2⟩
theorem one_le {y z : Zn} {v : Val} (h1 : cmpV z.min y.min ≤ 0) (h2 : cmpV y.max z.max ≤ 0) (h3 : cmpV y.min y.max ≤ 0) (h : oneZ z v = true) : oneZ y v = true := by
  unfold oneZ at *
  rw [Bool.and_eq_true, beq_iff_eq, beq_iff_eq] at *
  exact ⟨cmp_eq_mid h1 (cmpV_trans h3 h2) h.1 h.2, cmp_eq_mid (cmpV_trans h1 h3) h2 h.1 h.2⟩
theorem pair_le {t f t' f' : Bool} (h : t = true → t' = true) (h' : f = true → f' = true) : (pairT t f).le (pairT t' f') := ⟨h', id, h⟩
theorem not_le {a b : Bool} (h : b = true → a = true) : (!a) = true → (!b) = true := by cases a <;> cases b <;> simp_all
theorem some_le {op : Int} {vals : List Val} {y z : Zn} (h1 : cmpV z.min y.min ≤ 0) (h2 : cmpV y.max z.max ≤ 0) (h3 : cmpV y.min y.max ≤ 0) : (someP op vals y).le (someP op vals z) := by
  have hlt : ∀ x, cmpV y.min x < 0 → cmpV z.min x < 0 := fun x h => cmp_lt_of h1 h
  have hle : ∀ x, cmpV y.min x ≤ 0 → cmpV z.min x ≤ 0 := fun x h => cmpV_trans h1 h
  have hge : ∀ x, 0 ≤ cmpV y.max x → 0 ≤ cmpV z.max x := fun x h => cmp_le_ge h2 h
  have hgt : ∀ x, 0 < cmpV y.max x → 0 < cmpV z.max x := fun x h => by
    rcases Int.lt_or_le 0 (cmpV z.max x) with g | g
    · exact g
    · have := cmpV_trans h2 g
      omega
  unfold someP
  split
  · exact pair_le (within_le h1 h2) (not_le (one_le h1 h2 h3))
  · split
    · exact pair_le (not_le (one_le h1 h2 h3)) (within_le h1 h2)
    · split
      · rename_i hop
        rcases hop with e | e <;> subst e
        · refine pair_le (fun h => ?_) (not_le fun h => ?_)
          · exact decide_eq_true (hlt _ (of_decide_eq_true h))
          · have h : cmpV z.max (vals.getD 0 vD) < 0 := of_decide_eq_true h
            exact decide_eq_true (show cmpV y.max (vals.getD 0 vD) < 0 by
              rcases Int.lt_or_le (cmpV y.max (vals.getD 0 vD)) 0 with g | g
              · exact g
              · have := hge _ g
                omega)
        · refine pair_le (fun h => ?_) (not_le fun h => ?_)
          · exact decide_eq_true (hle _ (of_decide_eq_true h))
          · have h : cmpV z.max (vals.getD 0 vD) ≤ 0 := of_decide_eq_true h
            exact decide_eq_true (show cmpV y.max (vals.getD 0 vD) ≤ 0 from cmpV_trans h2 h)
      · split
        · rename_i hop
          rcases hop with e | e <;> subst e
          · refine pair_le (fun h => ?_) (not_le fun h => ?_)
            · exact decide_eq_true (hgt _ (of_decide_eq_true h))
            · have h : cmpV z.min (vals.getD 0 vD) > 0 := of_decide_eq_true h
              exact decide_eq_true (show cmpV y.min (vals.getD 0 vD) > 0 by
                rcases Int.lt_or_le 0 (cmpV y.min (vals.getD 0 vD)) with g | g
                · exact g
                · have := hle _ g
                  omega)
          · refine pair_le (fun h => ?_) (not_le fun h => ?_)
            · exact decide_eq_true (hge _ (of_decide_eq_true h))
            · have h : cmpV z.min (vals.getD 0 vD) ≥ 0 := of_decide_eq_true h
              exact decide_eq_true (show cmpV y.min (vals.getD 0 vD) ≥ 0 from cmp_le_ge h1 h)
        · split
          · refine pair_le (fun h => ?_) (not_le fun h => ?_)
            · rw [List.any_eq_true] at h ⊢
              obtain ⟨x, hx, h⟩ := h
              exact ⟨x, hx, within_le h1 h2 h⟩
            · rw [List.any_eq_true] at h ⊢
              obtain ⟨x, hx, h⟩ := h
              exact ⟨x, hx, one_le h1 h2 h3 h⟩
          · refine pair_le (fun h => ?_) (fun h => ?_)
            · simp only [Bool.and_eq_true, decide_eq_true_eq] at h ⊢
              refine ⟨⟨h.1.1, cmpV_trans h.1.2 h2⟩, ?_⟩
              have := hle (vals.getD 1 vD) (by rw [cmpV_neg]; omega)
              rw [cmpV_neg]
              omega
            · simp only [Bool.or_eq_true, decide_eq_true_eq] at h ⊢
              rcases h with h | h
              · exact .inl (hlt _ h)
              · exact .inr (hgt _ h)
theorem col_le {op : Int} {vals : List Val} {y z : Zn} {k n : Int} (h : ZLe y z k n) : (ofColP op vals k y).le (ofColP op vals n z) := by
  unfold ofColP
  split
  · refine pair_le (fun g => ?_) (fun g => ?_)
    · have := of_decide_eq_true g
      have := h.nulls
      exact decide_eq_true (by omega)
    · have := of_decide_eq_true g
      have := h.rest
      exact decide_eq_true (by omega)
  · have hu : decide (y.nulls > 0) = true → decide (z.nulls > 0) = true := fun g => by
      have := of_decide_eq_true g
      have := h.nulls
      exact decide_eq_true (by omega)
    cases hs : y.some with
    | false => exact ⟨fun g => by simp [noT] at g, hu, fun g => by simp [noT] at g⟩
    | true =>
      obtain ⟨g1, g2, g3, g4⟩ := h.some hs
      rw [g1]
      have := some_le (op := op) (vals := vals) g2 g3 g4
      exact ⟨this.1, hu, this.2.2⟩
theorem fold_le {op : Int} : ∀ {ts us : List T3} {t u : T3}, All2 T3.le ts us → t.le u → (ts.foldl (fun a x => joinT (op == 10) a x) t).le (us.foldl (fun a x => joinT (op == 10) a x) u)
  | [], [], _, _, _, h => h
  | _ :: ts, _ :: us, _, _, .cons h1 h2, h => fold_le (ts := ts) (us := us) h2 (le_join h h1)
mutual
theorem may_le {ys zs : List Zn} {k n : Int} (hl : ys.length = zs.length) (h : ∀ c, c < zs.length → ZLe (ys.getD c zD) (zs.getD c zD) k n) : ∀ p : Pd, (mayP k ys p).le (mayP n zs p)
  | .mk op col vals of => by
    rw [mayP, mayP, hl]
    split
    · rename_i hok
      split
      · exact T3.le_refl _
      · rename_i h0
        split
        · rename_i hc
          unfold mayOk at hok
          rw [hc] at hok
          simp only [Bool.not_true, Bool.false_or, Bool.and_eq_true, decide_eq_true_eq] at hok
          exact col_le (h _ (by omega))
        · have h1 := may_les hl h of
          cases of with
          | nil => rw [mayPs, mayPs]; exact T3.le_refl _
          | cons q qs =>
            rw [mayPs, mayPs] at *
            cases h1 with
            | cons h1 h3 =>
              unfold joinM
              simp only
              split
              · exact le_rev h1
              · exact fold_le h3 h1
    · exact T3.le_refl _
theorem may_les {ys zs : List Zn} {k n : Int} (hl : ys.length = zs.length) (h : ∀ c, c < zs.length → ZLe (ys.getD c zD) (zs.getD c zD) k n) : ∀ ps : List Pd, All2 T3.le (mayPs k ys ps) (mayPs n zs ps)
  | [] => by rw [mayPs, mayPs]; exact .nil
  | p :: ps => by
    rw [mayPs, mayPs]
    exact .cons (may_le hl h p) (may_les hl h ps)
end
end Go.Proofs.YtnciojaecelhmaaDoor
