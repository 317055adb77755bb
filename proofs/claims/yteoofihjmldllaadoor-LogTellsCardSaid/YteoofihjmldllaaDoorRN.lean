/- Commands as bytes, in plain Lean: what is put of a right one is taken as it was; cut off it isn't; predicates that are small have short forms. No condition. -/
import Derived.Test.YteoofihjmldllaaDoorRM
import Derived.Test.YteoofihjmldllaaDoorRL
import Derived.Test.YteoofihjmldllaaDoorZS
import Derived.Test.YteoofihjmldllaaDoorV11
set_option linter.unusedVariables false
set_option linter.unusedSimpArgs false
set_option maxRecDepth 100000
namespace Go.Proofs.YteoofihjmldllaaDoor
open Go Go.Ab
/-! ### Predicates that can be taken -/
/-! ### What the document finds wrong with a predicate -/
/-! ### Lengths -/
mutual
def szP : Pd → Nat
  | .mk _ _ vals of => 1 + (vals.map fun v => 1 + v.s.size).sum + szPs of
def szPs : List Pd → Nat
  | [] => 0
  | p :: ps => szP p + szPs ps
end
theorem putB_le' {a : Val} (ha : a.ok) : (putB a).length ≤ 21 * (1 + a.s.size) := by
  have h1 := ha.2.1
  have h0 := ha.2.2
  simp only [Lit.wf, Bool.and_eq_true, decide_eq_true_eq] at h1
  have h2 := varB_len (zigN a.n) (zigN_lt h1.1 h1.2)
  have h3 := varB_len a.s.size (Nat.lt_of_le_of_lt h0 (by decide))
  have h4 : a.s.data.toList.length = a.s.size := rfl
  unfold putB
  split
  · rw [List.length_cons]; omega
  · split
    · rw [List.length_cons, List.length_append]; omega
    · rw [List.length_cons, List.length_nil]; omega
theorem flatB_le : ∀ (vals : List Val), (∀ v ∈ vals, v.ok) → (vals.flatMap putB).length ≤ 21 * (vals.map fun v => 1 + v.s.size).sum
  | [], _ => Nat.zero_le _
  | v :: vs, h => by
    rw [List.flatMap_cons, List.length_append, List.map_cons, List.sum_cons]
    have h1 := putB_le' (h v (by simp))
    have h2 := flatB_le vs (fun u hu => h u (by simp [hu]))
    omega
theorem vlen_le : ∀ (vals : List Val), vals.length ≤ (vals.map fun v => 1 + v.s.size).sum
  | [] => Nat.zero_le _
  | v :: vs => by
    rw [List.length_cons, List.map_cons, List.sum_cons]
    have := vlen_le vs
    omega
mutual
theorem putP_le : ∀ (p : Pd), p.fine → szP p ≤ 1000000 → (putP p).length ≤ 31 * szP p
  | .mk op col vals of, h, hs => by
    rw [szP] at hs
    rw [Pd.fine] at h
    rw [putP, szP]
    have h1 := varB_len (uN col) (uN_lt col)
    have h5 := vlen_le vals
    have h6 := putPs_le of h.2.2 (by omega)
    have h2 := varB_len vals.length (by omega)
    have h3 := varB_len of.length (by omega)
    have h4 := flatB_le vals h.2.1
    simp only [List.length_cons, List.length_append]
    omega
theorem putPs_le : ∀ (ps : List Pd), Pd.fines ps → szPs ps ≤ 1000000 → (putPs ps).length ≤ 31 * szPs ps ∧ ps.length ≤ szPs ps
  | [], _, _ => ⟨Nat.zero_le _, Nat.zero_le _⟩
  | p :: ps, h, hs => by
    rw [szPs] at hs
    rw [Pd.fines] at h
    have h1 := putP_le p h.1 (by omega)
    have h2 := putPs_le ps h.2 (by omega)
    have h3 : 1 ≤ szP p := by cases p with | mk a b c d => rw [szP]; omega
    rw [putPs, szPs, List.length_append, List.length_cons]
    omega
end
theorem szPs_mem : ∀ {ps : List Pd} {p : Pd}, p ∈ ps → szP p ≤ szPs ps
  | q :: ps, p, h => by
    rw [szPs]
    rcases List.mem_cons.1 h with rfl | h
    · omega
    · have := szPs_mem h
      omega
theorem sizeVs_eq {most : Int} : ∀ {l : List Val} {n : Int}, sizeVs most n l ≤ most → sizeVs most n l = n + ((l.map fun v => 1 + v.s.size).sum : Nat)
  | [], n, h => by rw [sizeVs]; simp
  | v :: l, n, h => by
    rw [sizeVs] at h ⊢
    split at h
    · rename_i hn
      rw [if_pos hn, sizeVs_eq h, List.map_cons, List.sum_cons]
      omega
    · omega
theorem sizeOs_eq {most : Int} : ∀ {l : List Int} {n : Int}, (∀ x ∈ l, 1 ≤ x) → sizeOs most n l ≤ most → n + l.sum ≤ sizeOs most n l
  | [], n, _, h => by rw [sizeOs]; simp
  | v :: l, n, hl, h => by
    rw [sizeOs] at h ⊢
    split at h
    · rename_i hn
      rw [if_pos hn, List.sum_cons]
      have := sizeOs_eq (fun u hu => hl u (List.mem_cons_of_mem _ hu)) h
      omega
    · omega
mutual
theorem szP_le {most : Int} (h0 : 0 ≤ most) (h1 : most ≤ 1000) : ∀ (p : Pd) (deep : Nat), p.okS → sizeP most p deep ≤ most → (szP p : Int) ≤ sizeP most p deep
  | .mk op col vals of, deep, h, hs => by
    rw [sizeP] at hs ⊢
    rw [Pd.okS] at h
    rw [szP]
    split at hs
    · omega
    · rename_i hd
      rw [if_neg hd]
      have g1 := sizeVs_bd (most := most) h0 (n := 1) h.1 (by omega) (by omega)
      have g2 := sizePs_bd h0 of (deep - 1) h.2
      have g3 := sizeOs_eq (fun x hx => (g2 x hx).1) hs
      obtain ⟨g4, g5⟩ := sizeOs_le (fun x hx => (g2 x hx).1) g1.1 hs
      have g6 := szPs_le h0 h1 of (deep - 1) h.2 g5
      have g7 : sizeVs most 1 vals ≤ most := by omega
      have g8 := sizeVs_eq g7
      omega
theorem szPs_le {most : Int} (h0 : 0 ≤ most) (h1 : most ≤ 1000) : ∀ (ps : List Pd) (deep : Nat), Pd.okSs ps → (∀ x ∈ sizePs most ps deep, x ≤ most) → (szPs ps : Int) ≤ (sizePs most ps deep).sum
  | [], deep, _, _ => by rw [szPs, sizePs]; simp
  | p :: ps, deep, h, hx => by
    rw [Pd.okSs] at h
    rw [sizePs] at hx ⊢
    rw [szPs, List.sum_cons]
    have g1 := szP_le h0 h1 p deep h.1 (hx _ List.mem_cons_self)
    have g2 := szPs_le h0 h1 ps deep h.2 fun x h => hx x (List.mem_cons_of_mem _ h)
    omega
end
/-! ### Commands -/
def plainC (c : Cm) : Cm := if c.kind = 1 then ⟨1, c.sch, c.most, [], pD0, 0, 0⟩ else if c.kind = 2 then ⟨2, [], 0, c.rows, pD0, 0, 0⟩ else if c.kind = 3 then ⟨3, [], 0, [], c.pred, 0, 0⟩ else if c.kind = 5 then ⟨5, [], 0, [], pD0, c.fr, c.to⟩ else cmD c.kind
def bodyC (c : Cm) : List UInt8 := if c.kind = 1 then schB c.sch ++ varB (uN c.most) else if c.kind = 2 then rowsB c.rows else if c.kind = 3 then putP c.pred else if c.kind = 5 then varB (uN c.fr) ++ varB (uN c.to) else []
def putE (c : Cm) : Int := if min (min c.most c.fr) c.to < 0 then 1 else if 1 ≤ c.kind ∧ c.kind ≤ 5 then 0 else 11
def putC (c : Cm) : List UInt8 × Int := if putE (plainC c) = 0 then (byteI c.kind :: bodyC (plainC c), 0) else ([], putE (plainC c))
theorem plainC_kind (c : Cm) : (plainC c).kind = c.kind := by
  unfold plainC
  split
  · rename_i h; exact h.symm
  · split
    · rename_i h; exact h.symm
    · split
      · rename_i h; exact h.symm
      · split
        · rename_i h; exact h.symm
        · rfl
end Go.Proofs.YteoofihjmldllaaDoor
