/- Rows of values in memory; columns and their zones, in plain Lean. No condition. -/
import Derived.Test.YtnciojaecelhmaaDoorZP
set_option linter.unusedVariables false
set_option linter.unusedSimpArgs false
set_option maxRecDepth 100000
namespace Go.Proofs.YtnciojaecelhmaaDoor
open Go Go.Ab
/-- The values are slices that show these rows. -/
structure Rws (H : Hp) (vs : List Value) (rows : List (List Val)) : Prop where
  len : vs.length = rows.length
  at_ : ∀ i, i < rows.length → ∃ A c, vs.getD i undef = .slice A (rows.getD i []).length c ∧ SLC H 3 A (rows.getD i []).length c (vals3 (rows.getD i []))
theorem Rws.sub {H H' : Hp} {vs : List Value} {rows : List (List Val)} (h : Rws H vs rows) (hs : Ab.Sub H H') : Rws H' vs rows :=
  ⟨h.len, fun i hi => by
    obtain ⟨A, c, h1, h2⟩ := h.at_ i hi
    exact ⟨A, c, h1, h2.sub hs⟩⟩
theorem rows_inv {H : Hp} : ∀ {l : Nat} {cs : List Value}, AD Tryd.prog H (.many (List.replicate l 23)) cs → ∃ rows : List (List Val), rows.length = l ∧ Rws H cs rows ∧ ∀ r ∈ rows, r.length ≤ 9223372036854775807 ∧ ∀ v ∈ r, v.ok
  | 0, cs, h => ⟨[], rfl, by rw [h.nil_inv]; exact ⟨rfl, fun i hi => by simp at hi⟩, fun x hx => by cases hx⟩
  | l + 1, cs, h => by
    rw [List.replicate_succ] at h
    obtain ⟨a, b, rfl, ha, hl, hb⟩ := h.cons_inv
    obtain ⟨r, A, c, rfl, h1, h2, h2'⟩ := row_inv ha
    obtain ⟨rows, h3, h4, h5⟩ := rows_inv hb
    refine ⟨r :: rows, by simp [h3], ⟨by simp [h4.len], fun i hi => ?_⟩, fun x hx => ?_⟩
    · cases i with
      | zero => exact ⟨A, c, rfl, h1⟩
      | succ i => exact h4.at_ i (by simpa using hi)
    · rcases List.mem_cons.1 hx with rfl | hx
      · exact ⟨h2, h2'⟩
      · exact h5 x hx
theorem rows_arg {H : Hp} {u : Value} (h : AV Tryd.prog H 37 u) : ∃ (rows : List (List Val)) (vs : List Value) (A : Option Addr) (c : Nat), u = .slice A vs.length c ∧ SLC H 1 A vs.length c vs ∧ Rws H vs rows ∧ vs.length ≤ 9223372036854775807 ∧ ∀ r ∈ rows, r.length ≤ 9223372036854775807 ∧ ∀ v ∈ r, v.ok := by
  obtain ⟨A, l, c, cells, e, h1, h2, h3, h4⟩ := (h.plain plain_slc).SLC_inv
  injection e with e
  subst e
  obtain ⟨rows, h5, h6, h7⟩ := rows_inv h4
  have hc : cells.length = l := by rw [h6.len, h5]
  subst hc
  exact ⟨rows, cells, A, c, rfl, h1, h6, h3, h7⟩

/-! ### Columns and zones -/
def colOf (rows : List (List Val)) (c : Nat) : List Val := rows.map fun row => row.getD c vD
theorem colOf_len (rows : List (List Val)) (c : Nat) : (colOf rows c).length = rows.length := List.length_map _
theorem colOf_take {rows : List (List Val)} {c i : Nat} (h : i < rows.length) : (colOf rows c).take (i + 1) = (colOf rows c).take i ++ [(rows.getD i []).getD c vD] := by
  have h2 : i < (colOf rows c).length := by rw [colOf_len]; exact h
  have e : (colOf rows c)[i] = (rows.getD i []).getD c vD := by
    have h3 : (colOf rows c)[i]? = some ((rows.getD i []).getD c vD) := by
      unfold colOf
      have e0 : rows.getD i [] = rows[i] := by
        rw [List.getD_eq_getElem?_getD, List.getElem?_eq_getElem h]
        rfl
      rw [List.getElem?_map, e0, List.getElem?_eq_getElem h]
      rfl
    rw [List.getElem?_eq_getElem h2] at h3
    injection h3
  rw [List.take_succ_eq_append_getElem h2, e]
def zonesOf (rows : List (List Val)) (n : Nat) : List Zn := (List.range n).map fun c => zoneOf (colOf rows c)
theorem zonesOf_len (rows : List (List Val)) (n : Nat) : (zonesOf rows n).length = n := by rw [zonesOf, List.length_map, List.length_range]
theorem zonesOf_succ (rows : List (List Val)) (n : Nat) : zonesOf rows (n + 1) = zonesOf rows n ++ [zoneOf (colOf rows n)] := by
  unfold zonesOf
  rw [List.range_succ, List.map_append]
  rfl
theorem zonesOf_getD {rows : List (List Val)} {n c : Nat} (h : c < n) : (zonesOf rows n).getD c zD = zoneOf (colOf rows c) := by
  unfold zonesOf
  rw [List.getD_eq_getElem?_getD, List.getElem?_map, List.getElem?_range h]
  rfl
theorem zs8_snoc (zs : List Zn) (z : Zn) : zs8 (zs ++ [z]) = zs8 zs ++ (zv z).cells.toList := by
  unfold zs8
  rw [List.flatMap_append]
  simp
theorem vals3_snoc (l : List Val) (v : Val) : vals3 (l ++ [v]) = vals3 l ++ (vv v).cells.toList := by
  show (l ++ [v]).flatMap _ = _
  rw [List.flatMap_append]
  simp
theorem zs8_len (zs : List Zn) : (zs8 zs).length = zs.length * 8 := flatMap_len (f := fun z : Zn => (zv z).cells.toList) (fun _ => rfl) zs
/-- Rows that are right for a schema. -/
def RightRows (cols : List Col) (rows : List (List Val)) : Prop := ∀ row ∈ rows, rowI wrongR cols row = 0
theorem RightRows.len {cols : List Col} {rows : List (List Val)} (h : RightRows cols rows) {row : List Val} (hr : row ∈ rows) : row.length = cols.length := by
  have := h row hr
  unfold rowI at this
  split at this
  · assumption
  · cases this
/-- What stands in a column of rows that are right. -/
theorem rowAt_zero {p : Col → Val → Bool} : ∀ {cs : List Col} {vs : List Val} {i : Nat}, rowAt p cs vs = 0 → vs.length = cs.length → i < vs.length → p (cs.getD i cD) (vs.getD i vD) = false ∧ (vs.getD i vD).s.size ≤ 65536
  | c :: cs, v :: vs, i, h, hl, hi => by
    unfold rowAt at h
    split at h
    · cases h
    · rename_i h1
      split at h
      · cases h
      · rename_i h2
        cases i with
        | zero => exact ⟨by simpa using h1, by show v.s.size ≤ 65536; omega⟩
        | succ i => exact rowAt_zero (cs := cs) (vs := vs) h (by simpa using hl) (by simpa using hi)
  | [], vs, i, _, hl, hi => absurd (hl ▸ hi) (Nat.not_lt_zero _)
  | _ :: _, [], i, _, _, hi => absurd hi (Nat.not_lt_zero _)
theorem right_at {cols : List Col} {rows : List (List Val)} (h : RightRows cols rows) {c : Nat} (hc : c < cols.length) {v : Val} (hv : v ∈ colOf rows c) : wrongR (cols.getD c cD) v = false ∧ v.s.size ≤ 65536 := by
  obtain ⟨row, hr, rfl⟩ := List.mem_map.1 hv
  have h1 := h row hr
  have h2 := h.len hr
  unfold rowI at h1
  rw [if_pos h2] at h1
  exact rowAt_zero h1 h2 (by omega)
theorem wrong_no {c : Col} {v : Val} (h : wrongR c v = false) (hk : v.kind ≠ 0) : right v c.kind = true ∧ v.kind = c.kind := by
  unfold wrongR at h
  rw [Bool.or_eq_false_iff] at h
  have h1 : right v c.kind = true := by simpa using h.1
  refine ⟨h1, ?_⟩
  unfold right at h1
  rw [if_neg hk, Bool.and_eq_true, beq_iff_eq] at h1
  exact h1.1
theorem rightP_of {k : Int} {c : Col} {v : Val} (h : wrongR c v = false) (hk : v.kind ≠ 0) (hs : v.s.size ≤ 65536) (e : c.kind = k) : rightP k v = true := by
  obtain ⟨h1, h2⟩ := wrong_no h hk
  subst e
  unfold rightP
  rw [h2, beq_self_eq_true, Bool.true_and, beq_iff_eq]
  unfold errV
  rw [row_same]
  have h3 : wrongR ⟨c.kind, false, 0⟩ v = false := by
    unfold wrongR
    rw [show right v (⟨c.kind, false, 0⟩ : Col).kind = true from h1, beq_eq_false_iff_ne.2 hk]
    rfl
  show (if ([v] : List Val).length = ([⟨c.kind, false, 0⟩] : List Col).length then rowAt wrongR [⟨c.kind, false, 0⟩] [v] else 1) = 0
  rw [if_pos (show ([v] : List Val).length = ([⟨c.kind, false, 0⟩] : List Col).length from rfl)]
  unfold rowAt
  rw [if_neg (by rw [h3]; decide), if_neg (by omega)]
  rfl
theorem schema_kind {cols : List Col} (h : schemaR cols = 0) {c : Nat} (hc : c < cols.length) : (cols.getD c cD).kind = 1 ∨ (cols.getD c cD).kind = 2 := by
  unfold schemaR at h
  split at h
  · cases h
  · split at h
    · cases h
    · rename_i h1
      have hm : cols.getD c cD ∈ cols := by rw [List.getD_eq_getElem?_getD, List.getElem?_eq_getElem hc]; exact List.getElem_mem _
      have h2 := List.any_eq_false.1 (by simpa using h1) _ hm
      by_cases h3 : (cols.getD c cD).kind = 1
      · exact .inl h3
      · refine .inr ?_
        by_cases h4 : (cols.getD c cD).kind = 2
        · exact h4
        · unfold badKind at h2
          rw [bne_iff_ne.2 h3, bne_iff_ne.2 h4] at h2
          exact absurd rfl h2
theorem sound_zone {cols : List Col} {rows : List (List Val)} (hs : schemaR cols = 0) (h : RightRows cols rows) {c : Nat} (hc : c < cols.length) :
    soundP (zoneOf (colOf rows c)) (rows.length : Int) (cols.getD c cD).kind = true ∧ ((zoneOf (colOf rows c)).some = true → right (zoneOf (colOf rows c)).min (cols.getD c cD).kind = true) := by
  have hz := zoneOf_is (colOf rows c)
  have hk := schema_kind hs hc
  have hn := nulls_le (colOf rows c)
  rw [colOf_len] at hn
  have hsome := zone_some (colOf rows c)
  rw [colOf_len] at hsome
  have hnn := hz.nulls
  cases hb : (zoneOf (colOf rows c)).some with
  | false =>
    refine ⟨?_, fun h => by cases h⟩
    obtain ⟨_, h1, h2⟩ := hz.no hb
    unfold soundP
    rw [← hsome, hb]
    rw [if_neg (by rw [decide_eq_false (by omega), decide_eq_false (by omega)]; decide), if_neg (by decide)]
    unfold znEq
    rw [hb, h1, h2]
    rfl
  | true =>
    obtain ⟨⟨g1, g2⟩, ⟨g3, g4⟩, g5⟩ := hz.yes hb
    obtain ⟨w1, w2⟩ := right_at h hc g1
    obtain ⟨w3, w4⟩ := right_at h hc g3
    refine ⟨?_, fun _ => (wrong_no w1 g2).1⟩
    unfold soundP
    rw [← hsome, hb]
    rw [if_neg (by rw [decide_eq_false (by omega), decide_eq_false (by omega)]; decide), if_pos rfl, rightP_of w1 g2 w2 rfl, rightP_of w3 g4 w4 rfl, decide_eq_true (g5 _ g3 g4).1]
    rcases hk with e | e <;> rw [e] <;> rfl
theorem colOf_prefix (rows : List (List Val)) (c k : Nat) : colOf (rows.take k) c = (colOf rows c).take k := by unfold colOf; rw [List.map_take]
theorem may_prefix {cols : List Col} {rows : List (List Val)} {k : Nat} (hk : k ≤ rows.length) (h0 : 0 < k) (p : Pd) (h : (mayR (k : Int) (zonesOf (rows.take k) cols.length) p).t = true) : (mayR (rows.length : Int) (zonesOf rows cols.length) p).t = true := by
  rw [mayR_pos (by omega)] at h ⊢
  refine (may_le (ys := zonesOf (rows.take k) cols.length) (zs := zonesOf rows cols.length) (k := (k : Int)) (n := (rows.length : Int)) (by rw [zonesOf_len, zonesOf_len]) (fun c hc => ?_) p).2.2 h
  rw [zonesOf_len] at hc
  rw [zonesOf_getD hc, zonesOf_getD hc, colOf_prefix]
  have h1 := zone_prefix ((colOf rows c).take k) ((colOf rows c).drop k)
  rw [List.take_append_drop, colOf_len, List.length_take, colOf_len, Nat.min_eq_left hk] at h1
  exact h1
end Go.Proofs.YtnciojaecelhmaaDoor
