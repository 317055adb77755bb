/- Plain commands in memory: rows of blocks of their own. No condition. -/
import Derived.Test.YteoofihjmldllaaDoorR18
set_option linter.unusedVariables false
set_option linter.unusedSimpArgs false
set_option maxRecDepth 100000
namespace Go.Proofs.YteoofihjmldllaaDoor
open Go Go.Ab
/-- A row's block that is written to. -/
abbrev flblk (l : List Val) : Blk := { cells := vals3 l, elem := 59, kind := .fix }
/-- The block of a row: of an empty one, one that may grow. -/
def RowB (l : List Val) (sp : Nat) (b : Blk) : Prop := (l = [] ∧ sp = 1 ∧ b = vlblk []) ∨ (l ≠ [] ∧ sp = 0 ∧ b = flblk l)
theorem RowB.slc {H : Hp} {q sp : Nat} {l : List Val} {b : Blk} (h : RowB l sp b) (hq : H q = some b) : SLC H 3 (some ⟨q, 0, some sp⟩) l.length l.length (vals3 l) := by
  rcases h with ⟨rfl, rfl, rfl⟩ | ⟨_, rfl, rfl⟩
  · exact SLC.vlblk hq
  · exact ⟨slcCells_loose hq (vals3_len' l).symm, trivial⟩
/-- A new row. -/
def NewW (H' : Hp) (k k' : Nat) (l : List Val) (v : Value) : Prop := (l = [] ∧ v = NIL) ∨ ∃ q sp b, v = .slice (some ⟨q, 0, some sp⟩) l.length l.length ∧ k ≤ q ∧ q < k' ∧ H' q = some b ∧ RowB l sp b
theorem NewW.slc {H' : Hp} {k k' : Nat} {l : List Val} {v : Value} (h : NewW H' k k' l v) : ∃ A c, v = .slice A l.length c ∧ SLC H' 3 A l.length c (vals3 l) ∧ ∀ a, A = some a → k ≤ a.block ∧ a.block < k' := by
  rcases h with ⟨rfl, rfl⟩ | ⟨q, sp, b, rfl, h1, h2, h3, h4⟩
  · exact ⟨none, 0, rfl, SLC.nil, fun a h => (nomatch h)⟩
  · exact ⟨_, _, rfl, h4.slc h3, fun a h => by cases h; exact ⟨h1, h2⟩⟩
theorem NewV.w {H' : Hp} {k k' : Nat} {v : Value} (h : NewV H' k k' [] v) : NewW H' k k' [] v := by
  rcases h with h | ⟨q, h1, h2, h3, h4⟩
  · exact .inl h
  · exact .inr ⟨q, 1, _, h1, h2, h3, h4, .inl ⟨rfl, rfl, rfl⟩⟩
/-- A row in a block of its own, or nil. -/
def FR (g : Hp) (kk Q : Nat) (row : List Val) (v : Value) : Prop := (row = [] ∧ v = NIL) ∨ ∃ q sp b, v = .slice (some ⟨q, 0, some sp⟩) row.length row.length ∧ kk ≤ q ∧ q ≠ Q ∧ g q = some b ∧ RowB row sp b
def RowsG (g : Hp) (kk : Nat) (rows : List (List Val)) (w : Value) : Prop := (rows = [] ∧ w = NIL) ∨ ∃ Q vs, w = .slice (some ⟨Q, 0, some 1⟩) vs.length vs.length ∧ kk ≤ Q ∧ g Q = some (tblW vs) ∧ vs.length = rows.length ∧ ∀ j, j < rows.length → FR g kk Q (rows.getD j []) (vs.getD j undef)
structure PlV (g : Hp) (kk : Nat) (c : Cm) (s w : Value) (op col : Int) (v o : Value) : Prop where
  s : ∃ As cs, s = .slice As c.sch.length cs ∧ SLC (cutH g kk) 3 As c.sch.length cs (cols3 c.sch)
  w : RowsG g kk c.rows w
  p : ∃ VA vl vc VB om od, v = .slice VA vl vc ∧ o = .slice VB om od ∧ PdV (cutH g kk) c.pred (pv op col VA vl vc VB om od)
theorem FR.mono {g h : Hp} {kk kk' Q : Nat} {row : List Val} {v : Value} (hm : ∀ m b, kk ≤ m → g m = some b → h m = some b) (hk : kk' ≤ kk) (hr : FR g kk Q row v) : FR h kk' Q row v := by
  rcases hr with hr | ⟨q, sp, b, h1, h2, h3, h4, h5⟩
  · exact .inl hr
  · exact .inr ⟨q, sp, b, h1, Nat.le_trans hk h2, h3, hm _ _ h2 h4, h5⟩
theorem FR_keep {g h : Hp} {kk Q : Nat} {row : List Val} {v : Value} (hm : ∀ m b, kk ≤ m → m ≠ Q → g m = some b → h m = some b) (hr : FR g kk Q row v) : FR h kk Q row v := by
  rcases hr with hr | ⟨q, sp, b, h1, h2, h3, h4, h5⟩
  · exact .inl hr
  · exact .inr ⟨q, sp, b, h1, h2, h3, hm _ _ h2 h3 h4, h5⟩
theorem getD_app_l {l r : List Value} {j : Nat} (h : j < l.length) : (l ++ r).getD j undef = l.getD j undef := by
  rw [List.getD_eq_getElem?_getD, List.getD_eq_getElem?_getD, List.getElem?_append_left h]
theorem getD_app_r {l : List Value} {v : Value} {j : Nat} (h : l.length = j) : (l ++ [v]).getD j undef = v := by
  subst h
  rw [List.getD_eq_getElem?_getD, List.getElem?_append_right (Nat.le_refl _), Nat.sub_self]
  rfl
theorem RowsG.mono {g h : Hp} {kk kk' : Nat} {rows : List (List Val)} {w : Value} (hm : ∀ m b, kk ≤ m → g m = some b → h m = some b) (hk : kk' ≤ kk) (hr : RowsG g kk rows w) : RowsG h kk' rows w := by
  rcases hr with hr | ⟨Q, vs, h1, h2, h3, h4, h5⟩
  · exact .inl hr
  · exact .inr ⟨Q, vs, h1, Nat.le_trans hk h2, hm _ _ h2 h3, h4, fun j hj => (h5 j hj).mono hm hk⟩
theorem cutH_le {g h : Hp} {kk kk' : Nat} (hm : ∀ m b, kk ≤ m → g m = some b → h m = some b) (hk : kk' ≤ kk) : Ab.Sub (cutH g kk) (cutH h kk') := fun m b hb => by
  unfold cutH at hb
  split at hb
  · rename_i hc
    rw [cutH_at (Nat.le_trans hk hc)]
    exact hm m b hc hb
  · cases hb
theorem PlV.mono {g h : Hp} {kk kk' : Nat} {c : Cm} {s w : Value} {op col : Int} {v o : Value} (hm : ∀ m b, kk ≤ m → g m = some b → h m = some b) (hk : kk' ≤ kk) (hp : PlV g kk c s w op col v o) : PlV h kk' c s w op col v o := by
  obtain ⟨⟨As, cs, h1, h2⟩, h3, VA, vl, vc, VB, om, od, h4, h5, h6⟩ := hp
  exact ⟨⟨As, cs, h1, h2.sub (cutH_le hm hk)⟩, h3.mono hm hk, VA, vl, vc, VB, om, od, h4, h5, h6.sub (cutH_le hm hk)⟩
theorem RowsG.slc {g : Hp} {kk : Nat} {rows : List (List Val)} {w : Value} (h : RowsG g kk rows w) : ∃ Aw cw ws, w = .slice Aw ws.length cw ∧ SLC (cutH g kk) 1 Aw ws.length cw ws ∧ Rws (cutH g kk) ws rows := by
  rcases h with ⟨rfl, rfl⟩ | ⟨Q, vs, rfl, h1, h2, h3, h4⟩
  · exact ⟨none, 0, [], rfl, SLC.nil, Rws.nil⟩
  · refine ⟨_, _, vs, rfl, SLC.grow (b := tblW vs) ((cutH_at h1).trans h2) rfl (by simp), ⟨h3, fun i hi => ?_⟩⟩
    rcases h4 i hi with ⟨e1, e2⟩ | ⟨q, sp, b, e1, e2, _, e3, e4⟩
    · refine ⟨none, 0, ?_, ?_⟩
      · rw [e1, e2]; rfl
      · rw [e1]; exact SLC.nil
    · exact ⟨_, _, e1, e4.slc ((cutH_at e2).trans e3)⟩
/-- The first row of them. -/
theorem RowsG.first {g : Hp} {kk : Nat} {rows : List (List Val)} {w : Value} (h : RowsG g kk rows w) : ∃ Aw cw ws, w = .slice Aw ws.length cw ∧ SLC (cutH g kk) 1 Aw ws.length cw ws ∧ Rws (cutH g kk) ws rows ∧ ws.length = rows.length ∧
    ∃ n off sp Q A0 d0, 0 < ws.length → (aslcAt g 1 0 (.slice Aw ws.length cw) = some (ptr n off sp) ∧ PAt g n off sp [.slice A0 (rows.getD 0 []).length d0]) ∧ FR g kk Q (rows.getD 0 []) (.slice A0 (rows.getD 0 []).length d0) := by
  rcases h with ⟨rfl, rfl⟩ | ⟨Q, vs, rfl, h1, h2, h3, h4⟩
  · exact ⟨none, 0, [], rfl, SLC.nil, Rws.nil, rfl, 0, 0, none, 0, none, 0, fun h => absurd h (Nat.lt_irrefl _)⟩
  · refine ⟨some ⟨Q, 0, some 1⟩, vs.length, vs, rfl, SLC.grow (b := tblW vs) ((cutH_at h1).trans h2) rfl (by simp), ⟨h3, fun i hi => ?_⟩, h3, ?_⟩
    · rcases h4 i hi with ⟨f1, f2⟩ | ⟨q, sp, b, f1, f2, _, f3, f4⟩
      · refine ⟨none, 0, ?_, ?_⟩
        · rw [f1, f2]; rfl
        · rw [f1]; exact SLC.nil
      · exact ⟨_, _, f1, f4.slc ((cutH_at f2).trans f3)⟩
    · rcases Nat.eq_zero_or_pos vs.length with h0 | h0
      · exact ⟨0, 0, none, 0, none, 0, fun h => absurd h (by omega)⟩
      · have hr : 0 < rows.length := by omega
        have hf := h4 0 hr
        have hfr : ∃ A0 d0, vs.getD 0 undef = .slice A0 (rows.getD 0 []).length d0 := by
          rcases hf with ⟨f1, f2⟩ | ⟨q, sp, b, f1, _⟩
          · exact ⟨none, 0, by rw [f1, f2]; rfl⟩
          · exact ⟨_, _, f1⟩
        obtain ⟨A0, d0, h7⟩ := hfr
        obtain ⟨n, off, sp, h8, h9⟩ := slcElV (H := g) (SLC.grow (b := tblW vs) (l := vs.length) h2 rfl (by simp)).cells h0
        exact ⟨n, off, sp, Q, A0, d0, fun _ => ⟨⟨h8, h7 ▸ h9⟩, h7 ▸ hf⟩⟩
theorem PlV.cm {g : Hp} {kk : Nat} {c : Cm} {s w : Value} {op col : Int} {v o : Value} (h : PlV g kk c s w op col v o) : CmV (cutH g kk) c (cmv c.kind s c.most w op col v o c.fr c.to) := by
  obtain ⟨⟨As, cs, rfl, h2⟩, h3, VA, vl, vc, VB, om, od, rfl, rfl, h6⟩ := h
  obtain ⟨Aw, cw, ws, rfl, h7, h8⟩ := h3.slc
  exact ⟨As, cs, Aw, cw, ws, op, col, VA, vl, vc, VB, om, od, rfl, h2, h7, h8, h6⟩
theorem plNil {g : Hp} {kk : Nat} : ∃ VA vl vc VB om od, NIL = Value.slice VA vl vc ∧ NIL = Value.slice VB om od ∧ PdV (cutH g kk) pD0 (pv 0 0 VA vl vc VB om od) := ⟨none, 0, 0, none, 0, 0, rfl, rfl, PdV.zero⟩
theorem plSch {g : Hp} {kk : Nat} : ∃ As cs, NIL = Value.slice As ([] : List Col).length cs ∧ SLC (cutH g kk) 3 As ([] : List Col).length cs (cols3 []) := ⟨none, 0, rfl, SLC.nil⟩
end Go.Proofs.YteoofihjmldllaaDoor
