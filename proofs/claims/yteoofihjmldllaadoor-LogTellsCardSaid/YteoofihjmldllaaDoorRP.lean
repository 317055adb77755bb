/- Plain commands in memory: rows of blocks of their own. No condition. -/
import Derived.Test.YteoofihjmldllaaDoorR18
set_option linter.unusedVariables false
set_option linter.unusedSimpArgs false
set_option maxRecDepth 100000
namespace Go.Proofs.YteoofihjmldllaaDoor
open Go Go.Ab
/-- A row in a block of its own, or nil. -/
def FR (g : Hp) (kk Q : Nat) (row : List Val) (v : Value) : Prop := (row = [] ∧ v = NIL) ∨ ∃ q, v = .slice (some ⟨q, 0, some 1⟩) row.length row.length ∧ kk ≤ q ∧ q ≠ Q ∧ g q = some (vlblk row)
def RowsG (g : Hp) (kk : Nat) (rows : List (List Val)) (w : Value) : Prop := (rows = [] ∧ w = NIL) ∨ ∃ Q vs, w = .slice (some ⟨Q, 0, some 1⟩) vs.length vs.length ∧ kk ≤ Q ∧ g Q = some (tblW vs) ∧ vs.length = rows.length ∧ ∀ j, j < rows.length → FR g kk Q (rows.getD j []) (vs.getD j undef)
structure PlV (g : Hp) (kk : Nat) (c : Cm) (s w : Value) (op col : Int) (v o : Value) : Prop where
  s : ∃ As cs, s = .slice As c.sch.length cs ∧ SLC (cutH g kk) 3 As c.sch.length cs (cols3 c.sch)
  w : RowsG g kk c.rows w
  p : ∃ VA vl vc VB om od, v = .slice VA vl vc ∧ o = .slice VB om od ∧ PdV (cutH g kk) c.pred (pv op col VA vl vc VB om od)
theorem FR.mono {g h : Hp} {kk kk' Q : Nat} {row : List Val} {v : Value} (hm : ∀ m b, kk ≤ m → g m = some b → h m = some b) (hk : kk' ≤ kk) (hr : FR g kk Q row v) : FR h kk' Q row v := by
  rcases hr with hr | ⟨q, h1, h2, h3, h4⟩
  · exact .inl hr
  · exact .inr ⟨q, h1, Nat.le_trans hk h2, h3, hm _ _ h2 h4⟩
theorem FR_keep {g h : Hp} {kk Q : Nat} {row : List Val} {v : Value} (hm : ∀ m b, kk ≤ m → m ≠ Q → g m = some b → h m = some b) (hr : FR g kk Q row v) : FR h kk Q row v := by
  rcases hr with hr | ⟨q, h1, h2, h3, h4⟩
  · exact .inl hr
  · exact .inr ⟨q, h1, h2, h3, hm _ _ h2 h3 h4⟩
theorem getD_app_l {l r : List Value} {j : Nat} (h : j < l.length) : (l ++ r).getD j undef = l.getD j undef := by
  rw [List.getD_eq_getElem?_getD, List.getD_eq_getElem?_getD, List.getElem?_append_left h]
theorem getD_app_r {l : List Value} {v : Value} {j : Nat} (h : l.length = j) : (l ++ [v]).getD j undef = v := by
  subst h
  rw [List.getD_eq_getElem?_getD, List.getElem?_append_right (Nat.le_refl _), Nat.sub_self]
  rfl
theorem RowsG.mono {g h : Hp} {kk kk' : Nat} {rows : List (List Val)} {w : Value} (hm : ∀ m b, kk ≤ m → g m = some b → h m = some b) (hk : kk' ≤ kk) (hr : RowsG g kk rows w) : RowsG h kk' rows w := by
  rcases hr with hr | ⟨Q, vs, h1, h2, h3, h4, h5⟩
  · exact .inl hr
  · exact .inr ⟨Q, vs, h1, Nat.le_trans hk h2, hm _ _ h2 h3, h4, fun j hj => (h5 j hj).mono hm hk⟩
theorem cutH_le {g h : Hp} {kk kk' : Nat} (hm : ∀ m b, kk ≤ m → g m = some b → h m = some b) (hk : kk' ≤ kk) : Ab.Sub (cutH g kk) (cutH h kk') := fun m b hb => by
  unfold cutH at hb
  split at hb
  · rename_i hc
    rw [cutH_at (Nat.le_trans hk hc)]
    exact hm m b hc hb
  · cases hb
theorem PlV.mono {g h : Hp} {kk kk' : Nat} {c : Cm} {s w : Value} {op col : Int} {v o : Value} (hm : ∀ m b, kk ≤ m → g m = some b → h m = some b) (hk : kk' ≤ kk) (hp : PlV g kk c s w op col v o) : PlV h kk' c s w op col v o := by
  obtain ⟨⟨As, cs, h1, h2⟩, h3, VA, vl, vc, VB, om, od, h4, h5, h6⟩ := hp
  exact ⟨⟨As, cs, h1, h2.sub (cutH_le hm hk)⟩, h3.mono hm hk, VA, vl, vc, VB, om, od, h4, h5, h6.sub (cutH_le hm hk)⟩
theorem RowsG.slc {g : Hp} {kk : Nat} {rows : List (List Val)} {w : Value} (h : RowsG g kk rows w) : ∃ Aw cw ws, w = .slice Aw ws.length cw ∧ SLC (cutH g kk) 1 Aw ws.length cw ws ∧ Rws (cutH g kk) ws rows := by
  rcases h with ⟨rfl, rfl⟩ | ⟨Q, vs, rfl, h1, h2, h3, h4⟩
  · exact ⟨none, 0, [], rfl, SLC.nil, Rws.nil⟩
  · refine ⟨_, _, vs, rfl, SLC.grow (b := tblW vs) ((cutH_at h1).trans h2) rfl (by simp), ⟨h3, fun i hi => ?_⟩⟩
    rcases h4 i hi with ⟨e1, e2⟩ | ⟨q, e1, e2, _, e3⟩
    · refine ⟨none, 0, ?_, ?_⟩
      · rw [e1, e2]; rfl
      · rw [e1]; exact SLC.nil
    · exact ⟨_, _, e1, SLC.vlblk ((cutH_at e2).trans e3)⟩
theorem PlV.cm {g : Hp} {kk : Nat} {c : Cm} {s w : Value} {op col : Int} {v o : Value} (h : PlV g kk c s w op col v o) : CmV (cutH g kk) c (cmv c.kind s c.most w op col v o c.fr c.to) := by
  obtain ⟨⟨As, cs, rfl, h2⟩, h3, VA, vl, vc, VB, om, od, rfl, rfl, h6⟩ := h
  obtain ⟨Aw, cw, ws, rfl, h7, h8⟩ := h3.slc
  exact ⟨As, cs, Aw, cw, ws, op, col, VA, vl, vc, VB, om, od, rfl, h2, h7, h8, h6⟩
theorem plNil {g : Hp} {kk : Nat} : ∃ VA vl vc VB om od, NIL = Value.slice VA vl vc ∧ NIL = Value.slice VB om od ∧ PdV (cutH g kk) pD0 (pv 0 0 VA vl vc VB om od) := ⟨none, 0, 0, none, 0, 0, rfl, rfl, PdV.zero⟩
theorem plSch {g : Hp} {kk : Nat} : ∃ As cs, NIL = Value.slice As ([] : List Col).length cs ∧ SLC (cutH g kk) 3 As ([] : List Col).length cs (cols3 []) := ⟨none, 0, rfl, SLC.nil⟩
end Go.Proofs.YteoofihjmldllaaDoor
