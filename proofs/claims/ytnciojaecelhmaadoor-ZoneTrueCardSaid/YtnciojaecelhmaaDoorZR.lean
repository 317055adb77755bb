/- Rows of values in memory; columns and their zones, in plain Lean. No condition. -/
import Derived.Test.YtnciojaecelhmaaDoorZP
set_option linter.unusedVariables false
set_option linter.unusedSimpArgs false
set_option maxRecDepth 100000
namespace Go.Proofs.YtnciojaecelhmaaDoor
open Go Go.Ab
/-- The values are slices that show these rows. -/
structure Rws (H : Hp) (vs : List Value) (rows : List (List Val)) : Prop where
  len : vs.length = rows.length
  at_ : ∀ i, i < rows.length → ∃ A c, vs.getD i undef = .slice A (rows.getD i []).length c ∧ SLC H 3 A (rows.getD i []).length c (vals3 (rows.getD i []))
theorem Rws.sub {H H' : Hp} {vs : List Value} {rows : List (List Val)} (h : Rws H vs rows) (hs : Ab.Sub H H') : Rws H' vs rows :=
  ⟨h.len, fun i hi => by
    obtain ⟨A, c, h1, h2⟩ := h.at_ i hi
    exact ⟨A, c, h1, h2.sub hs⟩⟩
theorem rows_inv {H : Hp} : ∀ {l : Nat} {cs : List Value}, AD Tryd.prog H (.many (List.replicate l 23)) cs → ∃ rows : List (List Val), rows.length = l ∧ Rws H cs rows ∧ ∀ r ∈ rows, r.length ≤ 9223372036854775807 ∧ ∀ v ∈ r, v.ok
  | 0, cs, h => ⟨[], rfl, by rw [h.nil_inv]; exact ⟨rfl, fun i hi => by simp at hi⟩, fun x hx => by cases hx⟩
  | l + 1, cs, h => by
    rw [List.replicate_succ] at h
    obtain ⟨a, b, rfl, ha, hl, hb⟩ := h.cons_inv
    obtain ⟨r, A, c, rfl, h1, h2, h2'⟩ := row_inv ha
    obtain ⟨rows, h3, h4, h5⟩ := rows_inv hb
    refine ⟨r :: rows, by simp [h3], ⟨by simp [h4.len], fun i hi => ?_⟩, fun x hx => ?_⟩
    · cases i with
      | zero => exact ⟨A, c, rfl, h1⟩
      | succ i => exact h4.at_ i (by simpa using hi)
    · rcases List.mem_cons.1 hx with rfl | hx
      · exact ⟨h2, h2'⟩
      · exact h5 x hx
theorem rows_arg {H : Hp} {u : Value} (h : AV Tryd.prog H 37 u) : ∃ (rows : List (List Val)) (vs : List Value) (A : Option Addr) (c : Nat), u = .slice A vs.length c ∧ SLC H 1 A vs.length c vs ∧ Rws H vs rows ∧ vs.length ≤ 9223372036854775807 ∧ ∀ r ∈ rows, r.length ≤ 9223372036854775807 ∧ ∀ v ∈ r, v.ok := by
  obtain ⟨A, l, c, cells, e, h1, h2, h3, h4⟩ := (h.plain plain_slc).SLC_inv
  injection e with e
  subst e
  obtain ⟨rows, h5, h6, h7⟩ := rows_inv h4
  have hc : cells.length = l := by rw [h6.len, h5]
  subst hc
  exact ⟨rows, cells, A, c, rfl, h1, h6, h3, h7⟩

/-! ### Columns and zones -/
def colOf (rows : List (List Val)) (c : Nat) : List Val := rows.map fun row => row.getD c vD
theorem colOf_len (rows : List (List Val)) (c : Nat) : (colOf rows c).length = rows.length := List.length_map _
theorem colOf_take {rows : List (List Val)} {c i : Nat} (h : i < rows.length) : (colOf rows c).take (i + 1) = (colOf rows c).take i ++ [(rows.getD i []).getD c vD] := by
  have h2 : i < (colOf rows c).length := by rw [colOf_len]; exact h
  have e : (colOf rows c)[i] = (rows.getD i []).getD c vD := by
    have h3 : (colOf rows c)[i]? = some ((rows.getD i []).getD c vD) := by
      unfold colOf
      have e0 : rows.getD i [] = rows[i] := by
        rw [List.getD_eq_getElem?_getD, List.getElem?_eq_getElem h]
        rfl
      rw [List.getElem?_map, e0, List.getElem?_eq_getElem h]
      rfl
    rw [List.getElem?_eq_getElem h2] at h3
    injection h3
  rw [List.take_succ_eq_append_getElem h2, e]
def zonesOf (rows : List (List Val)) (n : Nat) : List Zn := (List.range n).map fun c => zoneOf (colOf rows c)
theorem zonesOf_len (rows : List (List Val)) (n : Nat) : (zonesOf rows n).length = n := by rw [zonesOf, List.length_map, List.length_range]
theorem zonesOf_succ (rows : List (List Val)) (n : Nat) : zonesOf rows (n + 1) = zonesOf rows n ++ [zoneOf (colOf rows n)] := by
  unfold zonesOf
  rw [List.range_succ, List.map_append]
  rfl
theorem zonesOf_getD {rows : List (List Val)} {n c : Nat} (h : c < n) : (zonesOf rows n).getD c zD = zoneOf (colOf rows c) := by
  unfold zonesOf
  rw [List.getD_eq_getElem?_getD, List.getElem?_map, List.getElem?_range h]
  rfl
theorem zs8_snoc (zs : List Zn) (z : Zn) : zs8 (zs ++ [z]) = zs8 zs ++ (zv z).cells.toList := by
  unfold zs8
  rw [List.flatMap_append]
  simp
theorem vals3_snoc (l : List Val) (v : Val) : vals3 (l ++ [v]) = vals3 l ++ (vv v).cells.toList := by
  show (l ++ [v]).flatMap _ = _
  rw [List.flatMap_append]
  simp
theorem zs8_len (zs : List Zn) : (zs8 zs).length = zs.length * 8 := flatMap_len (f := fun z : Zn => (zv z).cells.toList) (fun _ => rfl) zs
/-- Rows that are right for a schema. -/
def RightRows (cols : List Col) (rows : List (List Val)) : Prop := ∀ row ∈ rows, rowI wrongR cols row = 0
theorem RightRows.len {cols : List Col} {rows : List (List Val)} (h : RightRows cols rows) {row : List Val} (hr : row ∈ rows) : row.length = cols.length := by
  have := h row hr
  unfold rowI at this
  split at this
  · assumption
  · cases this
theorem covers_of {cols : List Col} {rows : List (List Val)} (h : RightRows cols rows) : Covers rows (zonesOf rows cols.length) :=
  ⟨fun row hr => by rw [zonesOf_len]; exact h.len hr, fun c hc => by rw [zonesOf_len] at hc; exact zonesOf_getD hc⟩
theorem has_getD (x : T3) {n : Nat} (h : n < 3) : (t3l x).getD n false = x.has (n : Int) := by
  have hc : n = 0 ∨ n = 1 ∨ n = 2 := by omega
  rcases hc with rfl | rfl | rfl <;> rfl
theorem eval_may {cols : List Col} {rows : List (List Val)} (h : RightRows cols rows) {row : List Val} (hr : row ∈ rows) (p : Pd) : (mayR (rows.length : Int) (zonesOf rows cols.length) p).has (evalP p row) = true := by
  rw [mayR_pos (by have := List.length_pos_of_mem hr; omega)]
  exact may_true (covers_of h) hr p
end Go.Proofs.YtnciojaecelhmaaDoor
