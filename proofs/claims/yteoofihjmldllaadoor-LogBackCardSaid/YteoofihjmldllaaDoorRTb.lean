/- What readers' laws are given: bytes, columns, rows. No condition. -/
import Derived.Test.YteoofihjmldllaaDoorR8
import Derived.Test.YteoofihjmldllaaDoorPA
import Derived.Test.YteoofihjmldllaaDoorZ0
import Derived.Test.YteoofihjmldllaaDoorR25
set_option linter.unusedVariables false
set_option maxRecDepth 100000
namespace Go.Proofs.YteoofihjmldllaaDoor
open Go Go.Ab
theorem col_inv' {H : Hp} {cs : List Value} (h : AD Tryd.prog H (.one 121) cs) : ∃ a : Col, cs = (cc a).cells.toList ∧ a.ok := by
  obtain ⟨a, b, rfl, ha, _, hb⟩ := h.struct_inv.cons_inv
  obtain ⟨c, d, rfl, hc, _, hd⟩ := hb.cons_inv
  obtain ⟨e, f, rfl, he, _, hf⟩ := hd.cons_inv
  rw [hf.nil_inv]
  obtain ⟨kind, rfl, k1, k2⟩ := ha.int_inv
  obtain ⟨n, rfl⟩ := hc.bool_inv
  obtain ⟨s, rfl, s1, s2⟩ := he.int_inv
  exact ⟨⟨kind, n, s⟩, rfl, wf_i64 k1 k2, wf_i64 s1 s2⟩
theorem cols_inv' {H : Hp} : ∀ {l : Nat} {cs : List Value}, AD Tryd.prog H (.many (List.replicate l 121)) cs → ∃ cols : List Col, cols.length = l ∧ cs = cols3 cols ∧ ∀ a ∈ cols, a.ok
  | 0, cs, h => ⟨[], rfl, h.nil_inv, fun a ha => by cases ha⟩
  | l + 1, cs, h => by
    rw [List.replicate_succ] at h
    obtain ⟨a, b, rfl, ha, hl, hb⟩ := h.cons_inv
    obtain ⟨c, rfl, hc⟩ := col_inv' ha
    obtain ⟨cols, h1, rfl, h2⟩ := cols_inv' hb
    refine ⟨c :: cols, by simp [h1], rfl, fun x hx => ?_⟩
    rcases List.mem_cons.1 hx with rfl | hx
    · exact hc
    · exact h2 x hx
theorem cols_arg' {H : Hp} {u : Value} (h : AV Tryd.prog H 41 u) : ∃ (cols : List Col) (A : Option Addr) (c : Nat), u = .slice A cols.length c ∧ SLC H 3 A cols.length c (cols3 cols) ∧ cols.length ≤ 9223372036854775807 ∧ ∀ a ∈ cols, a.ok := by
  obtain ⟨A, l, c, cells, e, h1, h2, h3, h4⟩ := (h.plain plain_slc).SLC_inv
  injection e with e
  subst e
  obtain ⟨cols, rfl, rfl, h5⟩ := cols_inv' h4
  exact ⟨cols, A, c, rfl, h1, h3, h5⟩
theorem rows_inv' {H : Hp} : ∀ {l : Nat} {cs : List Value}, AD Tryd.prog H (.many (List.replicate l 29)) cs → ∃ rows : List (List Val), rows.length = l ∧ Rws H cs rows ∧ ∀ r ∈ rows, r.length ≤ 9223372036854775807 ∧ ∀ v ∈ r, v.ok
  | 0, cs, h => ⟨[], rfl, by rw [h.nil_inv]; exact ⟨rfl, fun i hi => by simp at hi⟩, fun x hx => by cases hx⟩
  | l + 1, cs, h => by
    rw [List.replicate_succ] at h
    obtain ⟨a, b, rfl, ha, hl, hb⟩ := h.cons_inv
    obtain ⟨r, A, c, rfl, h1, h2, h2'⟩ := row_inv ha
    obtain ⟨rows, h3, h4, h5⟩ := rows_inv' hb
    refine ⟨r :: rows, by simp [h3], ⟨by simp [h4.len], fun i hi => ?_⟩, fun x hx => ?_⟩
    · cases i with
      | zero => exact ⟨A, c, rfl, h1⟩
      | succ i => exact h4.at_ i (by simpa using hi)
    · rcases List.mem_cons.1 hx with rfl | hx
      · exact ⟨h2, h2'⟩
      · exact h5 x hx
end Go.Proofs.YteoofihjmldllaaDoor

/- What the arguments of the statements on commands are. No condition. -/
set_option linter.unusedVariables false
set_option maxRecDepth 100000
namespace Go.Proofs.YteoofihjmldllaaDoor
open Go Go.Ab
/-- What cells of a type tell of predicates. -/
def M1 (H : Hp) (t : TypeId) (c : List Value) : Prop :=
  (t = 32 → ∃ (p : Pd) (v : Value), v.cells.toList = c ∧ PdV H p v) ∧
  (t = 30 → ∃ (ps : List Pd) (B : Option Addr) (d : Nat) (bs : List Value), c = [.slice B ps.length d] ∧ SLC H 4 B ps.length d bs ∧ PdVs H ps bs ∧ ps.length ≤ 9223372036854775807) ∧ AD Tryd.prog H (.one t) c
def MK (H : Hp) : Kd → List Value → Prop
  | .one t, c => M1 H t c
  | .many ts, c => ∃ css : List (List Value), c = css.flatten ∧ css.length = ts.length ∧ ∀ (i : Nat) (t : TypeId) (x : List Value), ts[i]? = some t → css[i]? = some x → M1 H t x ∧ x.length = Tryd.prog.cellsOf t
theorem und_pred : ∃ fs, Tryd.prog.underlying 32 = some (.struct fs) ∧ fs.toList.map (·.type) = [3, 3, 29, 30] := by
  have h := (inferInstance : FieldTys Tryd.prog 32 _).h
  cases hu : Tryd.prog.underlying 32 with
  | none => rw [hu] at h; cases h
  | some d =>
    rw [hu] at h
    cases d with
    | struct fs => exact ⟨fs, rfl, by injection h⟩
    | _ => cases h
theorem und_preds : Tryd.prog.underlying 30 = some (.slice 32) := (slB_inv (inferInstance : SlInfo Tryd.prog 30 _ _).h).1
theorem cells_pred : Tryd.prog.cellsOf 32 = 4 := cellsOf_size (slB_inv (inferInstance : SlInfo Tryd.prog 30 _ _).h).2
theorem no_pred {t : TypeId} {d : TypeDesc} (hu : Tryd.prog.underlying t = some d) (h1 : ∀ fs, d ≠ .struct fs) : t ≠ 32 := by
  rintro rfl
  obtain ⟨fs, h, _⟩ := und_pred
  rw [hu] at h
  injection h with h
  exact h1 fs h
theorem no_preds {t : TypeId} {d : TypeDesc} (hu : Tryd.prog.underlying t = some d) (h1 : ∀ e, d ≠ .slice e) : t ≠ 30 := by
  rintro rfl
  rw [und_preds] at hu
  injection hu with hu
  exact h1 _ hu.symm
theorem preds_of {H : Hp} : ∀ (l : Nat) (css : List (List Value)), css.length = l → (∀ (i : Nat) (x : List Value), css[i]? = some x → ∃ (p : Pd) (v : Value), v.cells.toList = x ∧ PdV H p v) → ∃ ps : List Pd, ps.length = l ∧ PdVs H ps css.flatten
  | 0, css, hl, _ => by
    rw [List.length_eq_zero_iff.1 hl]
    exact ⟨[], rfl, by rw [PdVs]; rfl⟩
  | l + 1, [], hl, _ => by cases hl
  | l + 1, x :: css, hl, h => by
    obtain ⟨p, v, rfl, h1⟩ := h 0 x rfl
    obtain ⟨ps, h2, h3⟩ := preds_of l css (by simpa using hl) fun i y hy => h (i + 1) y (by simpa using hy)
    refine ⟨p :: ps, by rw [List.length_cons, h2], ?_⟩
    rw [List.flatten_cons, PdVs]
    exact ⟨v, _, rfl, h1, h3⟩
theorem four {α : Type} {l : List α} (h : l.length = 4) : ∃ a b c d, l = [a, b, c, d] := by
  match l, h with
  | [a, b, c, d], _ => exact ⟨a, b, c, d, rfl⟩
theorem ad_all {H : Hp} {kd : Kd} {cs : List Value} (h : AD Tryd.prog H kd cs) : MK H kd cs := by
  induction h with
  | bool ht => exact ⟨fun e => absurd e (no_pred ht fun _ h => by cases h), fun e => absurd e (no_preds ht fun _ h => by cases h), .bool ht⟩
  | int ht hw => exact ⟨fun e => absurd e (no_pred ht fun _ h => by cases h), fun e => absurd e (no_preds ht fun _ h => by cases h), .int ht hw⟩
  | str ht hw => exact ⟨fun e => absurd e (no_pred ht fun _ h => by cases h), fun e => absurd e (no_preds ht fun _ h => by cases h), .str ht hw⟩
  | nilPtr ht => exact ⟨fun e => absurd e (no_pred ht fun _ h => by cases h), fun e => absurd e (no_preds ht fun _ h => by cases h), .nilPtr ht⟩
  | ptr ht hn hl h _ => exact ⟨fun e => absurd e (no_pred ht fun _ h => by cases h), fun e => absurd e (no_preds ht fun _ h => by cases h), .ptr ht hn hl h⟩
  | nilSlc ht => exact ⟨fun e => absurd e (no_pred ht fun _ h => by cases h), fun _ => ⟨[], none, 0, [], rfl, SLC.nil, by rw [PdVs], by decide⟩, .nilSlc ht⟩
  | @slc0 t e n c ht hm => exact ⟨fun e => absurd e (no_pred ht fun _ h => by cases h), fun _ => ⟨[], some ⟨n, 0, none⟩, c, [], rfl, ⟨rfl, Nat.zero_le _⟩, by rw [PdVs], by decide⟩, .slc0 ht hm⟩
  | @slc t e n l c cs ht hn hl h0 hc hm hr h ih =>
    refine ⟨fun e => absurd e (no_pred ht fun _ h => by cases h), fun et => ?_, .slc ht hn hl h0 hc hm hr h⟩
    subst et
    have he : e = 32 := by
      rw [und_preds] at ht
      injection ht with ht
      injection ht with ht
      exact ht.symm
    subst he
    obtain ⟨css, rfl, h1, h2⟩ := ih
    rw [List.length_replicate] at h1
    obtain ⟨ps, h3, h4⟩ := preds_of l css h1 fun i x hx => by
      have hi : i < l := by rw [← h1]; exact (List.getElem?_eq_some_iff.1 hx).1
      exact ((h2 i 32 x (by rw [List.getElem?_replicate, if_pos hi]) hx).1).1 rfl
    rw [cells_pred] at hl
    subst h3
    refine ⟨ps, some ⟨n, 0, none⟩, c, css.flatten, rfl, ⟨?_, hc⟩, h4, Nat.le_trans hc hm⟩
    simp only [slcCells, hn]
    rw [if_neg (by omega), if_pos (by omega), List.drop_zero, ← hl, List.take_length]
  | @struct t fs cs ht hl h ih =>
    refine ⟨fun et => ?_, fun e => absurd e (no_preds ht fun _ h => by cases h), .struct ht hl h⟩
    subst et
    obtain ⟨fs', hu, hts⟩ := und_pred
    rw [ht] at hu
    injection hu with hu
    injection hu with hu
    subst hu
    obtain ⟨css, rfl, h1, h2⟩ := ih
    rw [hts] at h1 h2
    obtain ⟨a, b, c, d, rfl⟩ := four h1
    obtain ⟨op, rfl, o1, o2⟩ := ((h2 0 _ a rfl rfl).1.2.2).int_inv
    obtain ⟨col, rfl, c1, c2⟩ := ((h2 1 _ b rfl rfl).1.2.2).int_inv
    obtain ⟨vals, A, e, rfl, g1, g2, g3⟩ := row_inv (h2 2 _ c rfl rfl).1.2.2
    obtain ⟨ps, B, dd, bs, rfl, g4, g5, g6⟩ := (h2 3 _ d rfl rfl).1.2.1 rfl
    exact ⟨.mk op col vals ps, pv op col A vals.length e B ps.length dd, rfl, PdV.intro g1.cells g2 g6 ⟨o1, o2⟩ ⟨c1, c2⟩ g3 g4 g5⟩
  | array ht hl h _ => exact ⟨fun e => absurd e (no_pred ht fun _ h => by cases h), fun e => absurd e (no_preds ht fun _ h => by cases h), .array ht hl h⟩
  | nil => exact ⟨[], rfl, rfl, fun i t x h => by cases h⟩
  | @cons t ts a b ha hl hb iha ihb =>
    obtain ⟨css, rfl, h1, h2⟩ := ihb
    refine ⟨a :: css, rfl, by rw [List.length_cons, List.length_cons, h1], fun i t' x ht hx => ?_⟩
    cases i with
    | zero =>
      injection ht with ht
      injection hx with hx
      subst ht; subst hx
      exact ⟨iha, hl⟩
    | succ i => exact h2 i t' x (by simpa using ht) (by simpa using hx)
theorem cm_arg {H : Hp} {u : Value} (h : AV Tryd.prog H 44 u) : ∃ c : Cm, c.ok ∧ CmV H c u := by
  obtain ⟨cs, rfl, h1⟩ := h.struct
  obtain ⟨a1, r1, e1, q1, _, h2⟩ := h1.struct_inv.cons_inv
  obtain ⟨a2, r2, e2, q2, _, h3⟩ := h2.cons_inv
  obtain ⟨a3, r3, e3, q3, _, h4⟩ := h3.cons_inv
  obtain ⟨a4, r4, e4, q4, _, h5⟩ := h4.cons_inv
  obtain ⟨a5, r5, e5, q5, _, h6⟩ := h5.cons_inv
  obtain ⟨a6, r6, e6, q6, _, h7⟩ := h6.cons_inv
  obtain ⟨a7, r7, e7, q7, _, h8⟩ := h7.cons_inv
  have e8 := h8.nil_inv
  obtain ⟨kind, rfl, _⟩ := q1.int_inv
  obtain ⟨most, rfl, _⟩ := q3.int_inv
  obtain ⟨fr, rfl, _⟩ := q6.int_inv
  obtain ⟨to, rfl, _⟩ := q7.int_inv
  obtain ⟨As, ls, ns, cells, rfl, s1, s2, s3, s4⟩ := q2.SLC_inv
  obtain ⟨cols, rfl, rfl, s5⟩ := cols_inv' s4
  obtain ⟨Aw, lw, nw, cellw, rfl, w1, w2, w3, w4⟩ := q4.SLC_inv
  obtain ⟨rows, w5, w6, w7⟩ := rows_inv' w4
  have hc : cellw.length = lw := by rw [w6.len, w5]
  subst hc
  obtain ⟨p, v, p1, p2⟩ := (ad_all q5).1 rfl
  obtain ⟨op, col, VA, vl, vc, VB, om, od, rfl⟩ := p2.form
  refine ⟨⟨kind, cols, most, rows, p, fr, to⟩, ⟨s3, s5, by show rows.length ≤ _; rw [w5]; exact w3, fun r hr => (w7 r hr).1, fun r hr => (w7 r hr).2⟩, As, ns, Aw, nw, cellw, op, col, VA, vl, vc, VB, om, od, ?_, s1, w1, w6, p2⟩
  congr 1
  apply Array.toList_inj.1
  rw [e1, e2, e3, e4, e5, e6, e7, e8, ← p1]
  rfl
end Go.Proofs.YteoofihjmldllaaDoor

/- LogBack over whatever abstract arguments. No condition. -/
set_option linter.unusedVariables false
set_option maxRecDepth 100000
namespace Go.Proofs.YteoofihjmldllaaDoor
open Go Go.Ab
theorem logBack_any (H : Hp) (k : Nat) (us : List Value) (ht : H 1 = some hBlk) (h : AVs Tryd.prog H Tryd.f5.params.toList us) : ACalls Tryd.prog 3 5 us H k fun v _ _ => v = .bool true := by
  rw [Tryd.params5] at h
  obtain ⟨u1, r1, rfl, h1, h⟩ := AVs.cons_inv h
  obtain ⟨u2, r2, rfl, h2, h⟩ := AVs.cons_inv h
  obtain ⟨u3, r3, rfl, h3, h⟩ := AVs.cons_inv h
  cases AVs.nil_inv h
  obtain ⟨c, co, hc⟩ := cm_arg h1
  obtain ⟨cols, B, d, rfl, g3, g4, _⟩ := cols_arg' h2
  obtain ⟨x, rfl, x1, x2⟩ := int_arg h3
  exact logBack H k ht c co u1 hc cols B d g3 g4 x x1 x2
end Go.Proofs.YteoofihjmldllaaDoor
