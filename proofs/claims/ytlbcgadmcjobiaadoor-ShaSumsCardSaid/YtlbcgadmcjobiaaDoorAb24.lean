/- Abstract states over the model, part 24: a drawn region whose operations change the heap, their effects reckoned in the text's order. No condition; over any program. -/
import Derived.Test.YtlbcgadmcjobiaaDoorAb23
set_option linter.unusedVariables false
set_option linter.unusedSimpArgs false
namespace Go.Ab
open Go.RowKit

/-- A code's name: the block that operation c makes; the old names behind. -/
def nmC (nk m : Nat) (bs : List Nat) (c : Nat) : Nat := if c < m then nk + c else bs.getD (c - m) 0

def setM (nm : Nat → Nat) : Hp → List (Nat × Option Blk) → Hp
  | H, [] => H
  | H, (c, b) :: l => setM nm (upd H (nm c) b) l
def setC : (Nat → Option Blk) → List (Nat × Option Blk) → (Nat → Option Blk)
  | ct, [] => ct
  | ct, (c, b) :: l => setC (upd ct c b) l

def Hof (nm : Nat → Nat) (C : List Nat) (H : Hp) (ct : Nat → Option Blk) : Hp := C.foldr (fun c X => upd X (nm c) (ct c)) H

theorem Hof_at {nm : Nat → Nat} {H : Hp} {ct : Nat → Option Blk} : ∀ {C : List Nat}, (C.map nm).Nodup → ∀ {c : Nat}, c ∈ C → Hof nm C H ct (nm c) = ct c
  | d :: C, hn, c, hc => by
    simp only [List.map_cons, List.nodup_cons] at hn
    show upd (Hof nm C H ct) (nm d) (ct d) (nm c) = ct c
    rcases List.mem_cons.1 hc with rfl | hc
    · exact upd_same _ _ _
    · rw [upd_other]
      · exact Hof_at hn.2 hc
      · exact fun e => hn.1 (by rw [← e]; exact List.mem_map.2 ⟨c, hc, rfl⟩)
theorem Hof_out {nm : Nat → Nat} {H : Hp} {ct : Nat → Option Blk} {n : Nat} : ∀ {C : List Nat}, n ∉ C.map nm → Hof nm C H ct n = H n
  | [], _ => rfl
  | d :: C, h => by
    simp only [List.map_cons, List.mem_cons, not_or] at h
    show upd (Hof nm C H ct) (nm d) (ct d) n = H n
    rw [upd_other _ _ h.1]
    exact Hof_out h.2
theorem Hof_set {nm : Nat → Nat} {H : Hp} {ct : Nat → Option Blk} {C : List Nat} (hn : (C.map nm).Nodup) {c : Nat} (hc : c ∈ C) (b : Option Blk) : Hof nm C H (upd ct c b) = upd (Hof nm C H ct) (nm c) b := by
  funext n
  by_cases h : n ∈ C.map nm
  · obtain ⟨d, hd, rfl⟩ := List.mem_map.1 h
    rw [Hof_at hn hd]
    by_cases e : d = c
    · subst e; rw [upd_same, upd_same]
    · rw [upd_other _ _ e, upd_other, Hof_at hn hd]
      intro e'
      have key : ∀ l : List Nat, (l.map nm).Nodup → d ∈ l → c ∈ l → d = c := by
        intro l
        induction l with
        | nil => intro _ h; cases h
        | cons q l ih =>
          intro hq h1 h2
          simp only [List.map_cons, List.nodup_cons] at hq
          rcases List.mem_cons.1 h1 with g1 | g1
          · rcases List.mem_cons.1 h2 with g2 | g2
            · rw [g1, g2]
            · exact absurd (List.mem_map.2 ⟨c, g2, by rw [← g1]; exact e'.symm⟩) hq.1
          · rcases List.mem_cons.1 h2 with g2 | g2
            · exact absurd (List.mem_map.2 ⟨d, g1, by rw [← g2]; exact e'⟩) hq.1
            · exact ih hq.2 g1 g2
      exact e (key C hn hd hc)
  · rw [Hof_out h, upd_other, Hof_out h]
    rintro rfl
    exact h (List.mem_map.2 ⟨c, hc, rfl⟩)
theorem Hof_setC {nm : Nat → Nat} {H : Hp} {C : List Nat} (hn : (C.map nm).Nodup) : ∀ (M : List (Nat × Option Blk)) (ct : Nat → Option Blk), (∀ p ∈ M, p.1 ∈ C) → Hof nm C H (setC ct M) = setM nm (Hof nm C H ct) M
  | [], ct, _ => rfl
  | (c, b) :: M, ct, h => by
    rw [setC, setM, Hof_setC hn M _ (fun p hp => h p (by simp [hp])), Hof_set hn (h (c, b) (by simp))]
theorem Hof_start {nm : Nat → Nat} {H : Hp} {C : List Nat} {ct : Nat → Option Blk} (hn : (C.map nm).Nodup) (h : ∀ c ∈ C, H (nm c) = ct c) : Hof nm C H ct = H := by
  funext n
  by_cases hx : n ∈ C.map nm
  · obtain ⟨d, hd, rfl⟩ := List.mem_map.1 hx
    rw [Hof_at hn hd, h d hd]
  · exact Hof_out hx

theorem setC_other {c : Nat} : ∀ (M : List (Nat × Option Blk)) (ct : Nat → Option Blk), (∀ p ∈ M, p.1 ≠ c) → setC ct M c = ct c
  | [], ct, _ => rfl
  | (d, b) :: M, ct, h => by
    rw [setC, setC_other M _ (fun p hp => h p (by simp [hp])), upd_other _ _ (Ne.symm (h (d, b) (by simp)))]
theorem setC_in {c : Nat} : ∀ (M : List (Nat × Option Blk)) (ct ct' : Nat → Option Blk), (∃ p ∈ M, p.1 = c) → setC ct M c = setC ct' M c
  | (d, b) :: M, ct, ct', h => by
    rw [setC, setC]
    by_cases hx : ∃ p ∈ M, p.1 = c
    · exact setC_in M _ _ hx
    · have hx' : ∀ p ∈ M, p.1 ≠ c := fun p hp e => hx ⟨p, hp, e⟩
      rw [setC_other M _ hx', setC_other M _ hx']
      obtain ⟨p, hp, rfl⟩ := h
      rcases List.mem_cons.1 hp with rfl | hp
      · rw [upd_same, upd_same]
      · exact absurd rfl (hx' p hp)

/-- The codes' contents with the operations of X done, the text's order. -/
def ctX (ct0 : Nat → Option Blk) (M : Nat → List (Nat × Option Blk)) (X : Nat → Bool) : Nat → Nat → Option Blk
  | 0 => ct0
  | i + 1 => if X i then setC (ctX ct0 M X i) (M i) else ctX ct0 M X i

theorem ctX_upto {ct0 : Nat → Option Blk} {M : Nat → List (Nat × Option Blk)} {X Y : Nat → Bool} {c : Nat} : ∀ (p : Nat), (∀ j, j < p → (∃ q ∈ M j, q.1 = c) → X j = Y j) → ctX ct0 M X p c = ctX ct0 M Y p c
  | 0, _ => rfl
  | p + 1, h => by
    have ih := ctX_upto (ct0 := ct0) (M := M) (X := X) (Y := Y) (c := c) p (fun j hj => h j (by omega))
    by_cases hx : ∃ q ∈ M p, q.1 = c
    · have e := h p (by omega) hx
      simp only [ctX, e]
      cases Y p with
      | true => exact setC_in _ _ _ hx
      | false => exact ih
    · have hx' : ∀ q ∈ M p, q.1 ≠ c := fun q hq e => hx ⟨q, hq, e⟩
      have a1 : ∀ Z : Nat → Bool, ctX ct0 M Z (p + 1) c = ctX ct0 M Z p c := by
        intro Z
        simp only [ctX]
        split
        · exact setC_other _ _ hx'
        · rfl
      rw [a1, a1, ih]
/-- From i on nothing of X touches c. -/
theorem ctX_from {ct0 : Nat → Option Blk} {M : Nat → List (Nat × Option Blk)} {X : Nat → Bool} {c i : Nat} : ∀ (p : Nat), (∀ j, i ≤ j → j < i + p → (∃ q ∈ M j, q.1 = c) → X j = false) → ctX ct0 M X (i + p) c = ctX ct0 M X i c
  | 0, _ => rfl
  | p + 1, h => by
    have ih := ctX_from (ct0 := ct0) (M := M) (X := X) (c := c) (i := i) p (fun j h1 h2 => h j h1 (by omega))
    show (if X (i + p) then setC (ctX ct0 M X (i + p)) (M (i + p)) else ctX ct0 M X (i + p)) c = _
    by_cases hx : ∃ q ∈ M (i + p), q.1 = c
    · rw [h (i + p) (by omega) (by omega) hx]
      exact ih
    · have hx' : ∀ q ∈ M (i + p), q.1 ≠ c := fun q hq e => hx ⟨q, hq, e⟩
      split
      · rw [setC_other _ _ hx', ih]
      · exact ih

/-- Operations that touch one code, one of them writing, are ordered. -/
def modsOk (ops : Array Oper) (m : Nat) (W : List (List Nat × List Nat)) (C : List Nat) : Bool :=
  let ms := ancMask ops ops.size
  (List.range m).all fun i => ((W.getD i ([], [])).1 ++ (W.getD i ([], [])).2).all (fun c => C.contains c) && (List.range i).all fun j =>
    let wi := W.getD i ([], []); let wj := W.getD j ([], [])
    !(wj.1.any (fun c => wi.1.contains c || wi.2.contains c) || wi.1.any (fun c => wj.2.contains c)) || anc ms i j

end Go.Ab
