/- A nil slice in a cell of a block as one that grows; predicates out of readers, in plain Lean. No condition. -/
import Derived.Test.YteoofihjmldllaaDoorR8
import Derived.Test.YteoofihjmldllaaDoorP7
set_option linter.unusedVariables false
set_option linter.unusedSimpArgs false
set_option maxRecDepth 100000
namespace Go.Ab
open Go.RowKit
theorem SRel.recell {NG B : Nat} {w0 w : World} {G : GMap} {H : Hp} {k : Nat} (h : SRel NG B w0 G H k w) {n q sz : Nat} {b : Blk} {j : Nat} (hn : H n = some b) (hk : b.kind = .fix) (hj : b.cells[j]? = some (.slice none 0 0)) (hG : G q = .rows sz []) :
    SRel NG B w0 G (upd H n (some { b with cells := b.cells.set j (.slice (some ⟨q, 0, some 1⟩) 0 0) })) k w ∧ Keep H k G w (upd H n (some { b with cells := b.cells.set j (.slice (some ⟨q, 0, some 1⟩) 0 0) })) k G w := by
  have hlt : n < k := name_lt h hn
  have hown : b.own = true := by unfold Blk.own; rw [hk]; rfl
  have key : ∀ m c, upd H n (some { b with cells := b.cells.set j (.slice (some ⟨q, 0, some 1⟩) 0 0) }) m = some c → c.own = true → ∃ c0, H m = some c0 ∧ c0.own = true := fun m c hm ho => by
    by_cases e : m = n
    · subst e; exact ⟨b, hn, hown⟩
    · rw [upd_other _ _ e] at hm; exact ⟨c, hm, ho⟩
  refine ⟨⟨h.below, h.base, h.glob, h.le, fun m c hm => ?_, fun m l c d hm hl ho ho' hne x hx => ?_, fun m hm => ⟨(upd_other _ _ (by omega)).trans (h.fresh m hm).1, (h.fresh m hm).2⟩⟩, GLe.refl _, Nat.le_refl _, Nat.le_refl _, fun _ _ _ => rfl, fun _ _ _ => rfl, fun m _ h0 => ?_, fun _ _ hx _ => hx, fun m c hm => ?_⟩
  · by_cases e : m = n
    · subst e
      rw [upd_same] at hm
      injection hm with hm
      subst hm
      have hb := h.blk _ _ hn
      unfold BRel at hb ⊢
      simp only [hk] at hb ⊢
      obtain ⟨blk, cs, h1, h2, h3, h4, h5⟩ := hb
      refine ⟨blk, cs, h1, h2, h3, by rw [List.length_set]; exact h4, fun i u hi hu => ?_⟩
      rw [List.length_set] at hi
      by_cases e : i = j
      · subst e
        rw [List.getElem?_set_self hi] at hu
        injection hu with hu
        subst hu
        obtain ⟨v', g1, g2⟩ := h5 i _ hi hj
        rw [g2.plain_ rfl] at g1
        exact ⟨_, g1, .grow hG (.inl ⟨rfl, rfl⟩)⟩
      · rw [List.getElem?_set_ne (Ne.symm e)] at hu
        exact h5 i u hi hu
    · rw [upd_other _ _ e] at hm
      exact h.blk m c hm
  · obtain ⟨c0, hm0, ho0⟩ := key m c hm ho
    obtain ⟨d0, hl0, hd0⟩ := key l d hl ho'
    exact h.sep m l c0 d0 hm0 hl0 ho0 hd0 hne x hx
  · by_cases e : m = n
    · subst e; rw [hn] at h0; cases h0
    · exact (upd_other _ _ e).trans h0
  · by_cases e : m = n
    · subst e
      rw [hn] at hm
      injection hm with hm
      subst hm
      exact ⟨_, upd_same _ _ _, rfl⟩
    · exact ⟨c, (upd_other _ _ e).trans hm, rfl⟩
/-- Nil in a cell as a slice that grows. -/
theorem ACode.adoptC {P : Program} {NG N : Nat} {fr : Fr} {H : Hp} {nk : Nat} {Q : Exit → St → Prop} {c : Code} (e : TypeId) (sz : Nat) (hsz : 0 < sz) {n j : Nat} {b : Blk} (hn : H n = some b) (hk : b.kind = .fix) (hj : b.cells[j]? = some (.slice none 0 0))
    (h : ACode P NG N c Q ⟨fr, upd (upd H nk (some { cells := [], elem := e, kind := .grow, esz := sz })) n (some { b with cells := b.cells.set j (.slice (some ⟨nk, 0, some 1⟩) 0 0) }), nk + 1⟩) :
    ACode P NG N c Q ⟨fr, H, nk⟩ := by
  intro B w0 G a w hs hd
  obtain ⟨hS1, hK1⟩ := hs.S.adopt e sz hsz
  have hlt : n < nk := name_lt hs.S hn
  obtain ⟨hS2, hK2⟩ := hS1.recell (n := n) ((upd_other _ _ (Nat.ne_of_lt hlt)).trans hn) hk hj (upd_same _ _ _)
  have hF : FRel (upd G nk (.rows sz [])) N fr a.tmps := ⟨hs.F.1, fun u v hu => (hs.F.2 u v hu).mono hK1.le⟩
  refine wp_mono (h B w0 _ a w ⟨hS2, hF⟩ hd) ?_
  rintro e' a' w' ⟨s', G', h1, h2, h3, h4⟩
  exact ⟨s', G', h1, h2, (hK1.trans (fun m hm => (hs.S.fresh m hm).2) hK2).trans (fun m hm => (hs.S.fresh m hm).2) h3, h4⟩
end Go.Ab
namespace Go.Proofs.YteoofihjmldllaaDoor
open Go Go.Ab
abbrev pD0 : Pd := .mk 0 0 [] []
/-- A count out of a reader. -/
def cntR (r : Rd) : Nat × Rd := if r.var.1 > 256 then (0, r.var.2.fail 12) else (r.var.1, r.var.2)
def pr1 (r : Rd) : Rd := if r.fix1.1 < 13 then r.fix1.2 else r.fix1.2.fail 4
def pcol (r : Rd) : Int := IntKind.i64.wrap ((pr1 r).var.1 : Int)
def pc1 (r : Rd) : Nat × Rd := cntR (pr1 r).var.2
def pvals (r : Rd) : List Val × Rd := runR vStep (pc1 r).1 ([], (pc1 r).2)
def pc2 (r : Rd) : Nat × Rd := cntR (pvals r).2
def pStep (g : Rd → Pd × Rd) (p : List Pd × Rd) : List Pd × Rd := (p.1 ++ [(g p.2).1], (g p.2).2)
/-- A predicate out of a reader, so deep at most. -/
def takeP : Nat → Rd → Pd × Rd
  | 0, r => (pD0, r.fail 18)
  | f + 1, r => (.mk (r.fix1.1 : Int) (pcol r) (pvals r).1 (runR (pStep (takeP f)) (pc2 r).1 ([], (pc2 r).2)).1, (runR (pStep (takeP f)) (pc2 r).1 ([], (pc2 r).2)).2)
def takePr (r : Rd) : Pd × Rd := (if (takeP 32 r).2.e ≠ 0 then pD0 else (takeP 32 r).1, (takeP 32 r).2)
theorem cntR_ok {r : Rd} (h : r.ok) : (cntR r).2.ok ∧ (cntR r).1 ≤ 256 := by
  unfold cntR
  split
  · exact ⟨Rd.fail_ok (Rd.var_ok h).1 (by decide) (by decide), Nat.zero_le _⟩
  · exact ⟨(Rd.var_ok h).1, by omega⟩
theorem cntR_bs (r : Rd) : (cntR r).2.bs = r.bs := by
  unfold cntR
  split
  · exact (Rd.fail_bs _ _).trans (Rd.var_bs r)
  · exact Rd.var_bs r
theorem pr1_ok {r : Rd} (h : r.ok) : (pr1 r).ok := by
  unfold pr1
  split
  · exact (Rd.fix1_ok h).1
  · exact Rd.fail_ok (Rd.fix1_ok h).1 (by decide) (by decide)
theorem pr1_bs (r : Rd) : (pr1 r).bs = r.bs := by
  unfold pr1
  split
  · exact Rd.fix1_bs r
  · exact (Rd.fail_bs _ _).trans (Rd.fix1_bs r)
theorem pvals_ok {r : Rd} (h : r.ok) : (pvals r).2.ok ∧ (pvals r).2.bs = r.bs ∧ (∀ v ∈ (pvals r).1, v.ok) ∧ (pvals r).1.length ≤ 256 := by
  have h1 := cntR_ok (Rd.var_ok (pr1_ok h)).1
  obtain ⟨i, hi⟩ := runR_it vStep (pc1 r).1 ([], (pc1 r).2)
  have h2 := itV_ok ([], (pc1 r).2) h1.1 (fun v hv => by cases hv) i
  have h3 := itV_bs ([], (pc1 r).2) i
  have h4 : ∀ (n : Nat) (s : List Val × Rd), (runR vStep n s).1.length ≤ s.1.length + n := by
    intro n
    induction n with
    | zero => intro s; exact Nat.le_refl _
    | succ n ih =>
      intro s
      rw [runR]
      split
      · omega
      · have := ih (vStep s)
        have e : (vStep s).1.length = s.1.length + 1 := by show (s.1 ++ [_]).length = _; rw [List.length_append]; rfl
        omega
  have h5 := h4 (pc1 r).1 ([], (pc1 r).2)
  have h6 : (pc1 r).2.bs = r.bs := (cntR_bs _).trans ((Rd.var_bs _).trans (pr1_bs r))
  unfold pvals
  refine ⟨by rw [hi]; exact h2.1, by rw [hi, h3]; exact h6, by rw [hi]; exact h2.2, ?_⟩
  have h7 : (pc1 r).1 ≤ 256 := h1.2
  have h8 : (runR vStep (pc1 r).1 ([], (pc1 r).2)).1.length ≤ 0 + (pc1 r).1 := h5
  omega
end Go.Proofs.YteoofihjmldllaaDoor
