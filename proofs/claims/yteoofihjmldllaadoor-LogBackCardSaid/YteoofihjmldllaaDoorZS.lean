/- Predicates' sizes and forms, in plain Lean: what is small has short lists; the document's form is the code's; what is checked of a form. No condition. -/
import Derived.Test.YteoofihjmldllaaDoorZ0
import Derived.Test.YteoofihjmldllaaDoorP7
import Derived.Test.YteoofihjmldllaaDoorZF
set_option linter.unusedVariables false
set_option linter.unusedSimpArgs false
set_option maxRecDepth 100000
namespace Go.Proofs.YteoofihjmldllaaDoor
open Go Go.Ab

/-! ### Sizes -/
def szV (l : List Val) : Int := l.foldl (fun n v => n + 1 + (v.s.size : Int)) 1
def szO (l : List Int) (n : Int) : Int := l.foldl (fun a x => a + x) n
def sizeVs (most : Int) : Int → List Val → Int
  | n, [] => n
  | n, v :: vs => if n ≤ most then sizeVs most (n + 1 + (v.s.size : Int)) vs else n
def sizeOs (most : Int) : Int → List Int → Int
  | n, [] => n
  | n, x :: xs => if n ≤ most then sizeOs most (n + x) xs else n
mutual
def sizeP (most : Int) : Pd → Nat → Int
  | .mk _ _ vals of, deep => if deep = 0 then most + 1 else sizeOs most (sizeVs most 1 vals) (sizePs most of (deep - 1))
def sizePs (most : Int) : List Pd → Nat → List Int
  | [], _ => []
  | p :: ps, deep => sizeP most p deep :: sizePs most ps deep
end
theorem sizePs_map (most : Int) (deep : Nat) : ∀ ps : List Pd, sizePs most ps deep = ps.map fun p => sizeP most p deep
  | [] => by rw [sizePs]; rfl
  | p :: ps => by rw [sizePs, sizePs_map most deep ps]; rfl
theorem szV_snoc (l : List Val) (v : Val) : szV (l ++ [v]) = szV l + 1 + (v.s.size : Int) := by rw [szV, List.foldl_append]; rfl
theorem szO_snoc (l : List Int) (x n : Int) : szO (l ++ [x]) n = szO l n + x := by rw [szO, List.foldl_append]; rfl
theorem szV_take {l : List Val} {i : Nat} (h : i < l.length) : szV (l.take (i + 1)) = szV (l.take i) + 1 + ((l.getD i vD).s.size : Int) := by
  rw [List.take_succ_eq_append_getElem h, szV_snoc, getD_i h]
theorem szO_take {l : List Int} {i : Nat} {n : Int} (h : i < l.length) : szO (l.take (i + 1)) n = szO (l.take i) n + l.getD i 0 := by
  rw [List.take_succ_eq_append_getElem h, szO_snoc, List.getD_eq_getElem?_getD, List.getElem?_eq_getElem h]
  rfl
theorem sizeVs_go {most : Int} {l : List Val} {i : Nat} (h : i < l.length) (hn : szV (l.take i) ≤ most) : sizeVs most (szV (l.take i)) (l.drop i) = sizeVs most (szV (l.take (i + 1))) (l.drop (i + 1)) := by
  rw [List.drop_eq_getElem_cons h, sizeVs, if_pos hn, szV_take h, getD_i h]
theorem sizeVs_end {most n : Int} {l : List Val} (h : l = [] ∨ ¬ n ≤ most) : sizeVs most n l = n := by
  cases l with
  | nil => rfl
  | cons v l => rw [sizeVs, if_neg (h.resolve_left (by simp))]
theorem sizeOs_go {most n : Int} {l : List Int} {i : Nat} (h : i < l.length) (hn : szO (l.take i) n ≤ most) : sizeOs most (szO (l.take i) n) (l.drop i) = sizeOs most (szO (l.take (i + 1)) n) (l.drop (i + 1)) := by
  rw [List.drop_eq_getElem_cons h, sizeOs, if_pos hn, szO_take h, List.getD_eq_getElem?_getD, List.getElem?_eq_getElem h]
  rfl
theorem sizeOs_end {most n : Int} {l : List Int} (h : l = [] ∨ ¬ n ≤ most) : sizeOs most n l = n := by
  cases l with
  | nil => rfl
  | cons v l => rw [sizeOs, if_neg (h.resolve_left (by simp))]
/-! Texts as long as memory may hold. -/
mutual
def Pd.okS : Pd → Prop
  | .mk _ _ vals of => (∀ v ∈ vals, v.s.size ≤ 140737488351232) ∧ Pd.okSs of
def Pd.okSs : List Pd → Prop
  | [] => True
  | p :: ps => p.okS ∧ Pd.okSs ps
end
mutual
theorem PdV.okS {H : Hp} : ∀ {p : Pd} {v : Value}, PdV H p v → p.okS
  | .mk op col vals of, v, h => by
    rw [PdV] at h
    obtain ⟨A, c, B, d, bs, _, _, _, _, _, _, hok, _, hs⟩ := h
    rw [Pd.okS]
    exact ⟨fun v hv => (hok v hv).2.2, PdVs.okS hs⟩
theorem PdVs.okS {H : Hp} : ∀ {ps : List Pd} {bs : List Value}, PdVs H ps bs → Pd.okSs ps
  | [], bs, h => by rw [Pd.okSs]; trivial
  | p :: ps, bs, h => by
    rw [PdVs] at h
    obtain ⟨v, r, _, h1, h2⟩ := h
    rw [Pd.okSs]
    exact ⟨h1.okS, PdVs.okS h2⟩
end
theorem sizeVs_bd {most : Int} (h0 : 0 ≤ most) : ∀ {l : List Val} {n : Int}, (∀ v ∈ l, v.s.size ≤ 140737488351232) → 1 ≤ n → n ≤ most + 140737488351233 → n ≤ sizeVs most n l ∧ sizeVs most n l ≤ most + 140737488351233
  | [], n, _, h1, h2 => ⟨Int.le_refl _, h2⟩
  | v :: l, n, hl, h1, h2 => by
    rw [sizeVs]
    split
    · have hv := hl v List.mem_cons_self
      have := sizeVs_bd h0 (l := l) (n := n + 1 + (v.s.size : Int)) (fun u hu => hl u (List.mem_cons_of_mem _ hu)) (by omega) (by omega)
      omega
    · exact ⟨Int.le_refl _, h2⟩
theorem sizeOs_bd {most b : Int} (hb : most ≤ b) : ∀ {l : List Int} {n : Int}, (∀ x ∈ l, 1 ≤ x ∧ x ≤ b) → 1 ≤ n → n ≤ most + b → n ≤ sizeOs most n l ∧ sizeOs most n l ≤ most + b
  | [], n, _, h1, h2 => ⟨Int.le_refl _, h2⟩
  | v :: l, n, hl, h1, h2 => by
    rw [sizeOs]
    split
    · have hv := hl v List.mem_cons_self
      have := sizeOs_bd hb (l := l) (n := n + v) (fun u hu => hl u (List.mem_cons_of_mem _ hu)) (by omega) (by omega)
      omega
    · exact ⟨Int.le_refl _, h2⟩
mutual
theorem sizeP_bd {most : Int} (h0 : 0 ≤ most) : ∀ (p : Pd) (deep : Nat), p.okS → 1 ≤ sizeP most p deep ∧ sizeP most p deep ≤ 140737488351233 + most * (deep + 1 : Nat)
  | .mk op col vals of, deep, h => by
    rw [sizeP]
    rw [Pd.okS] at h
    split
    · rename_i hd
      subst hd
      omega
    · rename_i hd
      have h1 := sizeVs_bd (most := most) h0 (n := 1) h.1 (by omega) (by omega)
      have h2 := sizePs_bd h0 of (deep - 1) h.2
      have he : most * ((deep - 1 + 1 : Nat) : Int) + most = most * ((deep + 1 : Nat) : Int) := by
        rw [show ((deep + 1 : Nat) : Int) = ((deep - 1 + 1 : Nat) : Int) + 1 by omega, Int.mul_add, Int.mul_one]
      have hp : most ≤ most * ((deep - 1 + 1 : Nat) : Int) := by
        have := Int.mul_le_mul_of_nonneg_left (show (1 : Int) ≤ ((deep - 1 + 1 : Nat) : Int) by omega) h0
        rwa [Int.mul_one] at this
      have h3 := sizeOs_bd (most := most) (b := 140737488351233 + most * ((deep - 1 + 1 : Nat) : Int)) (by omega) (n := sizeVs most 1 vals) h2 h1.1 (by omega)
      omega
theorem sizePs_bd {most : Int} (h0 : 0 ≤ most) : ∀ (ps : List Pd) (deep : Nat), Pd.okSs ps → ∀ x ∈ sizePs most ps deep, 1 ≤ x ∧ x ≤ 140737488351233 + most * ((deep + 1 : Nat) : Int)
  | [], deep, _, x, hx => by rw [sizePs] at hx; cases hx
  | p :: ps, deep, h, x, hx => by
    rw [sizePs] at hx
    rw [Pd.okSs] at h
    rcases List.mem_cons.1 hx with rfl | hx
    · exact sizeP_bd h0 p deep h.1
    · exact sizePs_bd h0 ps deep h.2 x hx
end
/-! Lists that are short. -/
mutual
def Pd.tiny : Pd → Prop
  | .mk _ _ vals of => vals.length ≤ 1000 ∧ of.length ≤ 1000 ∧ Pd.tinys of
def Pd.tinys : List Pd → Prop
  | [] => True
  | p :: ps => p.tiny ∧ Pd.tinys ps
end
theorem tinys_mem : ∀ {ps : List Pd} {p : Pd}, Pd.tinys ps → p ∈ ps → p.tiny
  | q :: ps, p, h, hp => by
    rw [Pd.tinys] at h
    rcases List.mem_cons.1 hp with rfl | hp
    · exact h.1
    · exact tinys_mem h.2 hp
theorem sizeVs_le {most : Int} : ∀ {l : List Val} {n : Int}, sizeVs most n l ≤ most → n + (l.length : Int) ≤ sizeVs most n l
  | [], n, h => by rw [sizeVs, List.length_nil]; omega
  | v :: l, n, h => by
    rw [sizeVs] at h ⊢
    split at h
    · rename_i hn
      rw [if_pos hn]
      have := sizeVs_le h
      rw [List.length_cons]
      omega
    · omega
theorem sizeOs_le {most : Int} : ∀ {l : List Int} {n : Int}, (∀ x ∈ l, 1 ≤ x) → 1 ≤ n → sizeOs most n l ≤ most → n + (l.length : Int) ≤ sizeOs most n l ∧ ∀ x ∈ l, x ≤ most
  | [], n, _, _, h => by rw [sizeOs, List.length_nil]; exact ⟨by omega, fun x hx => by cases hx⟩
  | v :: l, n, hl, h1, h => by
    rw [sizeOs] at h ⊢
    split at h
    · rename_i hn
      rw [if_pos hn]
      have hv := hl v List.mem_cons_self
      obtain ⟨h2, h3⟩ := sizeOs_le (fun u hu => hl u (List.mem_cons_of_mem _ hu)) (by omega) h
      rw [List.length_cons]
      refine ⟨by omega, fun x hx => ?_⟩
      rcases List.mem_cons.1 hx with rfl | hx
      · omega
      · exact h3 x hx
    · omega
mutual
theorem small_tiny {most : Int} (h0 : 0 ≤ most) (h1 : most ≤ 1000) : ∀ (p : Pd) (deep : Nat), p.okS → sizeP most p deep ≤ most → p.tiny
  | .mk op col vals of, deep, h, hs => by
    rw [sizeP] at hs
    rw [Pd.okS] at h
    rw [Pd.tiny]
    split at hs
    · omega
    · have g1 := sizeVs_bd (most := most) h0 (n := 1) h.1 (by omega) (by omega)
      have g2 := sizePs_bd h0 of (deep - 1) h.2
      obtain ⟨g3, g4⟩ := sizeOs_le (fun x hx => (g2 x hx).1) g1.1 hs
      have g5 := sizeVs_le (most := most) (n := 1) (l := vals) (by omega)
      have g6 : (sizePs most of (deep - 1)).length = of.length := by rw [sizePs_map, List.length_map]
      rw [g6] at g3
      exact ⟨by omega, by omega, small_tinys h0 h1 of (deep - 1) h.2 g4⟩
theorem small_tinys {most : Int} (h0 : 0 ≤ most) (h1 : most ≤ 1000) : ∀ (ps : List Pd) (deep : Nat), Pd.okSs ps → (∀ x ∈ sizePs most ps deep, x ≤ most) → Pd.tinys ps
  | [], deep, _, _ => by rw [Pd.tinys]; trivial
  | p :: ps, deep, h, hx => by
    rw [Pd.okSs] at h
    rw [sizePs] at hx
    rw [Pd.tinys]
    exact ⟨small_tiny h0 h1 p deep h.1 (hx _ List.mem_cons_self), small_tinys h0 h1 ps deep h.2 fun x h => hx x (List.mem_cons_of_mem _ h)⟩
end

/-! ### Forms -/
def colO (op : Int) : Bool := decide (op ≥ 1) && decide (op ≤ 9)
def formR (op col : Int) (v n : Nat) : Bool :=
  if (!colO op && (col != 0)) = true then false else
  if op = 0 ∨ op = 9 then ((v : Int) == 0 && ((n : Int) == 0)) else
  if op = 1 ∨ op = 2 ∨ op = 3 ∨ op = 4 ∨ op = 5 ∨ op = 6 then ((v : Int) == 1 && ((n : Int) == 0)) else
  if op = 7 then (decide ((v : Int) ≤ 256) && ((n : Int) == 0)) else if op = 8 then ((v : Int) == 2 && ((n : Int) == 0)) else
  if op = 10 ∨ op = 11 then (((v : Int) == 0 && decide ((n : Int) ≥ 1)) && decide ((n : Int) ≤ 256)) else if op = 12 then ((v : Int) == 0 && ((n : Int) == 1)) else false
theorem formed_eq (op col : Int) (v n : Nat) : formedP op col v n = formR op col v n := by
  cases hk : known op with
  | false =>
    have h1 : op < 0 ∨ 13 ≤ op := by
      unfold known at hk
      rw [Bool.and_eq_false_iff, decide_eq_false_iff_not, decide_eq_false_iff_not] at hk
      omega
    rw [formedP, hk, formR]
    split
    · rfl
    · rw [if_neg (by omega), if_neg (by omega), if_neg (by omega), if_neg (by omega), if_neg (by omega), if_neg (by omega)]
      rfl
  | true =>
    obtain ⟨m, rfl, hm⟩ := known_nat hk
    have hc : m = 0 ∨ m = 1 ∨ m = 2 ∨ m = 3 ∨ m = 4 ∨ m = 5 ∨ m = 6 ∨ m = 7 ∨ m = 8 ∨ m = 9 ∨ m = 10 ∨ m = 11 ∨ m = 12 := by omega
    rcases hc with rfl | rfl | rfl | rfl | rfl | rfl | rfl | rfl | rfl | rfl | rfl | rfl | rfl <;>
      (simp [formedP, fitsP, known, sh, shL, formR, colO]; rw [Bool.eq_iff_iff]; simp; try omega)
/-! ### What is checked of a form -/
abbrev v1 : Val := ⟨1, 0, ⟨#[]⟩⟩
abbrev c1 : Col := ⟨1, false, 0⟩
end Go.Proofs.YteoofihjmldllaaDoor
