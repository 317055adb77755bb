/- Commands as bytes, in plain Lean: what is put of a right one is taken as it was; cut off it isn't; predicates that are small have short forms. No condition. -/
import Derived.Test.YteoofihjmldllaaDoorRM
import Derived.Test.YteoofihjmldllaaDoorZ0
import Derived.Test.YteoofihjmldllaaDoorZS
import Derived.Test.YteoofihjmldllaaDoorV11
set_option linter.unusedVariables false
set_option linter.unusedSimpArgs false
set_option maxRecDepth 100000
namespace Go.Proofs.YteoofihjmldllaaDoor
open Go Go.Ab
/-! ### Predicates that can be taken -/
def Pd.can : Nat → Pd → Prop
  | 0, _ => False
  | f + 1, .mk op col vals of => (∃ m : Nat, op = m ∧ m < 13) ∧ vals.length ≤ 256 ∧ of.length ≤ 256 ∧ (∀ v ∈ vals, Tidy v) ∧ (-9223372036854775808 ≤ col ∧ col ≤ 9223372036854775807) ∧ ∀ q ∈ of, Pd.can f q
theorem takeP_can : ∀ (f : Nat) (p : Pd) (r : Rd) (y : List UInt8), p.can f → r.has (putP p ++ y) → takeP f r = (p, r.adv (putP p).length) ∧ (r.adv (putP p).length).has y
  | 0, p, r, y, hc, h => hc.elim
  | f + 1, .mk op col vals of, r, y, hc, h => by
    obtain ⟨⟨m, rfl, hm⟩, hvl, hol, ht, hcl, hof⟩ := hc
    refine ⟨?_, h.adv⟩
    have g0 : r.has (byteI (m : Int) :: (varB (uN col) ++ (varB vals.length ++ (vals.flatMap putB ++ (varB of.length ++ (putPs of ++ y)))))) := by
      rw [putP] at h
      simpa only [List.cons_append, List.append_assoc] using h
    obtain ⟨f1, g1⟩ := g0.fix1
    have hb : (byteI (m : Int)).toNat = m := by have := byteI_of (n := (m : Int)) (by omega) (by omega); omega
    rw [hb] at f1
    have f1b : pr1 r = r.adv 1 := by unfold pr1; rw [f1, if_pos hm]
    obtain ⟨f2, g2⟩ := g1.var (uN_lt col)
    obtain ⟨f3, g3⟩ := cntR_put hvl g2
    obtain ⟨f4, g4⟩ := runV_put vals [] _ _ ht g3
    obtain ⟨f5, g5⟩ := cntR_put hol g4
    obtain ⟨f6, g6⟩ := runP_put (g := takeP f) of [] _ y (fun q hq r y hr => takeP_can f q r y (hof q hq) hr) g5
    have e1 : pcol r = col := by unfold pcol; rw [f1b, f2]; exact uN_back hcl.1 hcl.2
    have e2 : pc1 r = (vals.length, ((r.adv 1).adv (varB (uN col)).length).adv (varB vals.length).length) := by unfold pc1; rw [f1b, f2]; exact f3
    have e3 : pvals r = (vals, (((r.adv 1).adv (varB (uN col)).length).adv (varB vals.length).length).adv (vals.flatMap putB).length) := by unfold pvals; rw [e2]; exact f4
    have e4 : pc2 r = (of.length, ((((r.adv 1).adv (varB (uN col)).length).adv (varB vals.length).length).adv (vals.flatMap putB).length).adv (varB of.length).length) := by unfold pc2; rw [e3]; exact f5
    show ((Pd.mk (r.fix1.1 : Int) (pcol r) (pvals r).1 (runR (pStep (takeP f)) (pc2 r).1 ([], (pc2 r).2)).1 : Pd), (runR (pStep (takeP f)) (pc2 r).1 ([], (pc2 r).2)).2) = _
    rw [e1, e3, e4, f1]
    simp only
    rw [f6, List.nil_append]
    simp only [Rd.adv_adv]
    congr 1
    congr 1
    rw [putP]
    simp only [List.length_cons, List.length_append]
    omega
theorem takePr_can {p : Pd} {r : Rd} {y : List UInt8} (hc : p.can 32) (h : r.has (putP p ++ y)) : takePr r = (p, r.adv (putP p).length) ∧ (r.adv (putP p).length).has y := by
  refine ⟨?_, h.adv⟩
  unfold takePr
  rw [(takeP_can 32 p r y hc h).1, if_neg (fun he => he h.adv.e0)]
/-! ### What the document finds wrong with a predicate -/
def rerrV (kind : Int) (v : Val) : Int := if (v.kind == 0 || !right v kind) = true then 11 else if (v.s.size : Int) > 65536 then 12 else 0
mutual
def rchk (cols : List Col) : Pd → Nat → Int
  | .mk op col vals of, deep => if deep > 31 then 18 else if (decide ((vals.length : Int) > 256) || decide ((of.length : Int) > 256)) = true then 12 else if formedP op col vals.length of.length = false then 4 else
      if colO op = true then (if (decide (col < 0) || decide (col ≥ (cols.length : Int))) = true then 8 else if firstI (rerrV (cols.getD col.toNat cD).kind) vals ≠ 0 then firstI (rerrV (cols.getD col.toNat cD).kind) vals else rchks cols of (deep + 1)) else rchks cols of (deep + 1)
def rchks (cols : List Col) : List Pd → Nat → Int
  | [], _ => 0
  | p :: ps, deep => if rchk cols p deep = 0 then rchks cols ps deep else rchk cols p deep
end
theorem rchks_first (cols : List Col) (deep : Nat) : ∀ ps : List Pd, rchks cols ps deep = firstI (fun p => rchk cols p deep) ps
  | [] => by rw [rchks]; rfl
  | p :: ps => by rw [rchks, firstI, rchks_first cols deep ps]
theorem rerrV_tidy {k : Int} {v : Val} (h : rerrV k v = 0) (ho : v.ok) : Tidy v := by
  unfold rerrV at h
  split at h
  · cases h
  · rename_i h1
    split at h
    · cases h
    · rename_i h2
      simp only [Bool.or_eq_true, not_or, Bool.not_eq_true, Bool.not_eq_false'] at h1
      exact right_tidy h1.2 (by omega) ho
theorem rchk_can (cols : List Col) : ∀ (f deep : Nat) (p : Pd), deep + f = 32 → p.fine → rchk cols p deep = 0 → p.can f
  | 0, deep, .mk op col vals of, hd, hf, h => by
    rw [rchk, if_pos (by omega)] at h
    cases h
  | f + 1, deep, .mk op col vals of, hd, hf, h => by
    rw [rchk, if_neg (by omega)] at h
    rw [Pd.fine] at hf
    obtain ⟨hcl, hok, hfs⟩ := hf
    split at h
    · cases h
    · rename_i h1
      simp only [Bool.or_eq_true, decide_eq_true_eq, not_or] at h1
      split at h
      · cases h
      · rename_i h2
        have h2 : formedP op col vals.length of.length = true := by simpa using h2
        have hk : known op = true := by
          unfold formedP at h2
          exact ((Bool.and_eq_true _ _).mp h2).1
        obtain ⟨m, rfl, hm⟩ := known_nat hk
        have key : (∀ v ∈ vals, Tidy v) ∧ rchks cols of (deep + 1) = 0 := by
          split at h
          · split at h
            · cases h
            · split at h
              · rename_i h3
                exact absurd h h3
              · rename_i h3
                have h3 := Decidable.not_not.1 h3
                exact ⟨fun v hv => rerrV_tidy (firstI_all h3 v hv) (hok v hv), h⟩
          · rename_i h3
            refine ⟨?_, h⟩
            have h4 : (sh m).col = false := by
              cases hc : (sh m).col with
              | false => rfl
              | true =>
                have := ((shape_op hm).1).1 hc
                exact absurd (by unfold colO; rw [Bool.and_eq_true, decide_eq_true_eq, decide_eq_true_eq]; omega) h3
            have h5 := sh_vals0 hm h4
            have h6 := formed_vals h2 hm
            have : vals = [] := List.length_eq_zero_iff.1 (by omega)
            subst this
            intro v hv
            cases hv
        obtain ⟨k1, k2⟩ := key
        rw [rchks_first] at k2
        exact ⟨⟨m, rfl, hm⟩, by omega, by omega, k1, hcl, fun q hq => rchk_can cols f (deep + 1) q (by omega) (fines_mem hfs hq) (firstI_all k2 q hq)⟩
/-! ### Lengths -/
mutual
def szP : Pd → Nat
  | .mk _ _ vals of => 1 + (vals.map fun v => 1 + v.s.size).sum + szPs of
def szPs : List Pd → Nat
  | [] => 0
  | p :: ps => szP p + szPs ps
end
theorem putB_le' {a : Val} (ha : a.ok) : (putB a).length ≤ 21 * (1 + a.s.size) := by
  have h1 := ha.2.1
  have h0 := ha.2.2
  simp only [Lit.wf, Bool.and_eq_true, decide_eq_true_eq] at h1
  have h2 := varB_len (zigN a.n) (zigN_lt h1.1 h1.2)
  have h3 := varB_len a.s.size (Nat.lt_of_le_of_lt h0 (by decide))
  have h4 : a.s.data.toList.length = a.s.size := rfl
  unfold putB
  split
  · rw [List.length_cons]; omega
  · split
    · rw [List.length_cons, List.length_append]; omega
    · rw [List.length_cons, List.length_nil]; omega
theorem flatB_le : ∀ (vals : List Val), (∀ v ∈ vals, v.ok) → (vals.flatMap putB).length ≤ 21 * (vals.map fun v => 1 + v.s.size).sum
  | [], _ => Nat.zero_le _
  | v :: vs, h => by
    rw [List.flatMap_cons, List.length_append, List.map_cons, List.sum_cons]
    have h1 := putB_le' (h v (by simp))
    have h2 := flatB_le vs (fun u hu => h u (by simp [hu]))
    omega
theorem vlen_le : ∀ (vals : List Val), vals.length ≤ (vals.map fun v => 1 + v.s.size).sum
  | [] => Nat.zero_le _
  | v :: vs => by
    rw [List.length_cons, List.map_cons, List.sum_cons]
    have := vlen_le vs
    omega
mutual
theorem putP_le : ∀ (p : Pd), p.fine → szP p ≤ 1000000 → (putP p).length ≤ 31 * szP p
  | .mk op col vals of, h, hs => by
    rw [szP] at hs
    rw [Pd.fine] at h
    rw [putP, szP]
    have h1 := varB_len (uN col) (uN_lt col)
    have h5 := vlen_le vals
    have h6 := putPs_le of h.2.2 (by omega)
    have h2 := varB_len vals.length (by omega)
    have h3 := varB_len of.length (by omega)
    have h4 := flatB_le vals h.2.1
    simp only [List.length_cons, List.length_append]
    omega
theorem putPs_le : ∀ (ps : List Pd), Pd.fines ps → szPs ps ≤ 1000000 → (putPs ps).length ≤ 31 * szPs ps ∧ ps.length ≤ szPs ps
  | [], _, _ => ⟨Nat.zero_le _, Nat.zero_le _⟩
  | p :: ps, h, hs => by
    rw [szPs] at hs
    rw [Pd.fines] at h
    have h1 := putP_le p h.1 (by omega)
    have h2 := putPs_le ps h.2 (by omega)
    have h3 : 1 ≤ szP p := by cases p with | mk a b c d => rw [szP]; omega
    rw [putPs, szPs, List.length_append, List.length_cons]
    omega
end
theorem szPs_mem : ∀ {ps : List Pd} {p : Pd}, p ∈ ps → szP p ≤ szPs ps
  | q :: ps, p, h => by
    rw [szPs]
    rcases List.mem_cons.1 h with rfl | h
    · omega
    · have := szPs_mem h
      omega
theorem sizeVs_eq {most : Int} : ∀ {l : List Val} {n : Int}, sizeVs most n l ≤ most → sizeVs most n l = n + ((l.map fun v => 1 + v.s.size).sum : Nat)
  | [], n, h => by rw [sizeVs]; simp
  | v :: l, n, h => by
    rw [sizeVs] at h ⊢
    split at h
    · rename_i hn
      rw [if_pos hn, sizeVs_eq h, List.map_cons, List.sum_cons]
      omega
    · omega
theorem sizeOs_eq {most : Int} : ∀ {l : List Int} {n : Int}, (∀ x ∈ l, 1 ≤ x) → sizeOs most n l ≤ most → n + l.sum ≤ sizeOs most n l
  | [], n, _, h => by rw [sizeOs]; simp
  | v :: l, n, hl, h => by
    rw [sizeOs] at h ⊢
    split at h
    · rename_i hn
      rw [if_pos hn, List.sum_cons]
      have := sizeOs_eq (fun u hu => hl u (List.mem_cons_of_mem _ hu)) h
      omega
    · omega
mutual
theorem szP_le {most : Int} (h0 : 0 ≤ most) (h1 : most ≤ 1000) : ∀ (p : Pd) (deep : Nat), p.okS → sizeP most p deep ≤ most → (szP p : Int) ≤ sizeP most p deep
  | .mk op col vals of, deep, h, hs => by
    rw [sizeP] at hs ⊢
    rw [Pd.okS] at h
    rw [szP]
    split at hs
    · omega
    · rename_i hd
      rw [if_neg hd]
      have g1 := sizeVs_bd (most := most) h0 (n := 1) h.1 (by omega) (by omega)
      have g2 := sizePs_bd h0 of (deep - 1) h.2
      have g3 := sizeOs_eq (fun x hx => (g2 x hx).1) hs
      obtain ⟨g4, g5⟩ := sizeOs_le (fun x hx => (g2 x hx).1) g1.1 hs
      have g6 := szPs_le h0 h1 of (deep - 1) h.2 g5
      have g7 : sizeVs most 1 vals ≤ most := by omega
      have g8 := sizeVs_eq g7
      omega
theorem szPs_le {most : Int} (h0 : 0 ≤ most) (h1 : most ≤ 1000) : ∀ (ps : List Pd) (deep : Nat), Pd.okSs ps → (∀ x ∈ sizePs most ps deep, x ≤ most) → (szPs ps : Int) ≤ (sizePs most ps deep).sum
  | [], deep, _, _ => by rw [szPs, sizePs]; simp
  | p :: ps, deep, h, hx => by
    rw [Pd.okSs] at h
    rw [sizePs] at hx ⊢
    rw [szPs, List.sum_cons]
    have g1 := szP_le h0 h1 p deep h.1 (hx _ List.mem_cons_self)
    have g2 := szPs_le h0 h1 ps deep h.2 fun x h => hx x (List.mem_cons_of_mem _ h)
    omega
end
/-! ### Commands -/
def plainC (c : Cm) : Cm := if c.kind = 1 then ⟨1, c.sch, c.most, [], pD0, 0, 0⟩ else if c.kind = 2 then ⟨2, [], 0, c.rows, pD0, 0, 0⟩ else if c.kind = 3 then ⟨3, [], 0, [], c.pred, 0, 0⟩ else if c.kind = 5 then ⟨5, [], 0, [], pD0, c.fr, c.to⟩ else cmD c.kind
def bodyC (c : Cm) : List UInt8 := if c.kind = 1 then schB c.sch ++ varB (uN c.most) else if c.kind = 2 then rowsB c.rows else if c.kind = 3 then putP c.pred else if c.kind = 5 then varB (uN c.fr) ++ varB (uN c.to) else []
def putE (c : Cm) : Int := if min (min c.most c.fr) c.to < 0 then 1 else if 1 ≤ c.kind ∧ c.kind ≤ 5 then 0 else 11
def putC (c : Cm) : List UInt8 × Int := if putE (plainC c) = 0 then (byteI c.kind :: bodyC (plainC c), 0) else ([], putE (plainC c))
theorem plainC_kind (c : Cm) : (plainC c).kind = c.kind := by
  unfold plainC
  split
  · rename_i h; exact h.symm
  · split
    · rename_i h; exact h.symm
    · split
      · rename_i h; exact h.symm
      · split
        · rename_i h; exact h.symm
        · rfl
theorem uN_pos {n : Int} (h0 : 0 ≤ n) (h : n ≤ 9223372036854775807) : ((uN n : Nat) : Int) = n := by
  unfold uN
  rw [IntKind.wrap_u64]
  omega
theorem numR_put {r : Rd} {n : Int} {y : List UInt8} (h0 : 0 ≤ n) (hn : n ≤ 1099511627776) (h : r.has (varB (uN n) ++ y)) : numR r = (uN n, r.adv (varB (uN n)).length) ∧ (r.adv (varB (uN n)).length).has y := by
  obtain ⟨h1, h2⟩ := h.var (uN_lt n)
  refine ⟨?_, h2⟩
  have e := uN_pos h0 (by omega)
  unfold numR
  rw [h1]
  simp only
  rw [if_neg (by omega)]
theorem end_done {r : Rd} (h : r.has []) (ho : r.on = 0) : r.end_ = (0, 0) := by
  have h1 := r.rest_len
  rw [h.eq, List.length_nil] at h1
  unfold Rd.end_
  rw [if_neg (fun x => by omega), h.e0, ho]
/-- What is so of a command that is taken back. -/
structure Cm.right (cols : List Col) (c : Cm) : Prop where
  sch : c.kind = 1 → schemaI c.sch = 0
  rows : c.kind = 2 → c.rows.length ≤ 65536 ∧ ∀ row ∈ c.rows, row.length = cols.length ∧ rowI wrongR cols row = 0 ∧ ∀ a ∈ row, Tidy a
  pred : c.kind = 3 → c.pred.can 32
  most : c.kind = 1 → c.most ≤ 1099511627776
  to : c.kind = 5 → c.fr ≤ 1099511627776 ∧ c.to ≤ 1099511627776
theorem takeC_put {cols : List Col} {c : Cm} (hr : c.right cols) (hp : (putC c).2 = 0) : takeC cols (putC c).1 = (plainC c, 0, 0) := by
  have he : putE (plainC c) = 0 := by
    unfold putC at hp
    split at hp
    · assumption
    · exact hp
  have hb : (putC c).1 = byteI c.kind :: bodyC (plainC c) := by unfold putC; rw [if_pos he]
  rw [hb]
  have hk : 1 ≤ c.kind ∧ c.kind ≤ 5 ∧ ¬ min (min (plainC c).most (plainC c).fr) (plainC c).to < 0 := by
    unfold putE at he
    split at he
    · cases he
    · rename_i h1
      split at he
      · rename_i h2
        rw [plainC_kind] at h2
        exact ⟨h2.1, h2.2, h1⟩
      · cases he
  obtain ⟨k1, k2, k3⟩ := hk
  obtain ⟨R, hR⟩ : ∃ R : Rd, R = ⟨byteI c.kind :: bodyC (plainC c), 0, 0, 0⟩ := ⟨_, rfl⟩
  have g0 : R.has (byteI c.kind :: (bodyC (plainC c) ++ [])) := by rw [hR, List.append_nil]; exact ⟨rfl, Nat.zero_le _, rfl⟩
  have ho : R.on = 0 := by rw [hR]
  obtain ⟨f1, g1⟩ := g0.fix1
  have hbk := byteI_of (n := c.kind) (by omega) (by omega)
  have hfin : ∀ (d : Cm) (n : Nat), (R.adv n).has [] → takeCr (fun v => (v : Int)) cols R = (d, R.adv n) → d = plainC c → takeC cols (byteI c.kind :: bodyC (plainC c)) = (plainC c, 0, 0) := by
    intro d n h1 h2 h3
    unfold takeC ansC
    rw [← hR, h2]
    have h4 : (R.adv n).end_ = (0, 0) := end_done h1 ho
    rw [h4, if_neg (fun h => h rfl), h3]
  have hcr : takeCr (fun v => (v : Int)) cols R = cmK (fun v => (v : Int)) cols (byteI c.kind).toNat (R.adv 1) := by unfold takeCr; rw [f1]
  rcases (show c.kind = 1 ∨ c.kind = 2 ∨ c.kind = 3 ∨ c.kind = 4 ∨ c.kind = 5 by omega) with h | h | h | h | h
  · have e1 : (byteI c.kind).toNat = 1 := by omega
    have ep : plainC c = ⟨1, c.sch, c.most, [], pD0, 0, 0⟩ := by unfold plainC; rw [if_pos h]
    rw [ep] at k3
    simp only at k3
    have eb : bodyC (plainC c) = schB c.sch ++ varB (uN c.most) := by rw [ep]; unfold bodyC; rw [if_pos rfl]
    rw [eb, List.append_assoc] at g1
    obtain ⟨f2, g2⟩ := takeSch_put (hr.sch h) g1
    obtain ⟨f3, g3⟩ := numR_put (by omega) (hr.most h) g2
    rw [Rd.adv_adv, Rd.adv_adv] at g3
    refine hfin _ _ g3 ?_ ep.symm
    rw [hcr, e1]
    unfold cmK
    rw [if_pos rfl, f2]
    simp only
    rw [f3]
    simp only
    rw [uN_pos (by omega) (by have := hr.most h; omega), Rd.adv_adv, Rd.adv_adv]
  · have e1 : (byteI c.kind).toNat = 2 := by omega
    have ep : plainC c = ⟨2, [], 0, c.rows, pD0, 0, 0⟩ := by unfold plainC; rw [if_neg (by omega), if_pos h]
    have eb : bodyC (plainC c) = rowsB c.rows := by rw [ep]; unfold bodyC; rw [if_neg (show ¬ (2 : Int) = 1 by decide), if_pos rfl]
    rw [eb] at g1
    obtain ⟨f2, g2⟩ := takeRows_put (hr.rows h).1 (hr.rows h).2 g1
    rw [Rd.adv_adv] at g2
    refine hfin _ _ g2 ?_ ep.symm
    rw [hcr, e1]
    unfold cmK
    rw [if_neg (by decide), if_pos rfl, f2, Rd.adv_adv]
  · have e1 : (byteI c.kind).toNat = 3 := by omega
    have ep : plainC c = ⟨3, [], 0, [], c.pred, 0, 0⟩ := by unfold plainC; rw [if_neg (by omega), if_neg (by omega), if_pos h]
    have eb : bodyC (plainC c) = putP c.pred := by rw [ep]; unfold bodyC; rw [if_neg (show ¬ (3 : Int) = 1 by decide), if_neg (show ¬ (3 : Int) = 2 by decide), if_pos rfl]
    rw [eb] at g1
    obtain ⟨f2, g2⟩ := takePr_can (hr.pred h) g1
    rw [Rd.adv_adv] at g2
    refine hfin _ _ g2 ?_ ep.symm
    rw [hcr, e1]
    unfold cmK
    rw [if_neg (by decide), if_neg (by decide), if_pos rfl, f2, Rd.adv_adv]
  · have e1 : (byteI c.kind).toNat = 4 := by omega
    have ep : plainC c = cmD 4 := by unfold plainC; rw [if_neg (by omega), if_neg (by omega), if_neg (by omega), if_neg (by omega), h]
    have eb : bodyC (plainC c) = [] := by rw [ep]; unfold bodyC cmD; rw [if_neg (by decide), if_neg (by decide), if_neg (by decide), if_neg (by decide)]
    rw [eb] at g1
    refine hfin _ _ g1 ?_ ep.symm
    rw [hcr, e1]
    unfold cmK
    rw [if_neg (by decide), if_neg (by decide), if_neg (by decide), if_pos rfl]
  · have e1 : (byteI c.kind).toNat = 5 := by omega
    have ep : plainC c = ⟨5, [], 0, [], pD0, c.fr, c.to⟩ := by unfold plainC; rw [if_neg (by omega), if_neg (by omega), if_neg (by omega), if_pos h]
    rw [ep] at k3
    simp only at k3
    have eb : bodyC (plainC c) = varB (uN c.fr) ++ varB (uN c.to) := by rw [ep]; unfold bodyC; rw [if_neg (show ¬ (5 : Int) = 1 by decide), if_neg (show ¬ (5 : Int) = 2 by decide), if_neg (show ¬ (5 : Int) = 3 by decide), if_pos rfl]
    rw [eb, List.append_assoc] at g1
    obtain ⟨f2, g2⟩ := numR_put (by omega) (hr.to h).1 g1
    obtain ⟨f3, g3⟩ := numR_put (by omega) (hr.to h).2 g2
    rw [Rd.adv_adv, Rd.adv_adv] at g3
    refine hfin _ _ g3 ?_ ep.symm
    rw [hcr, e1]
    unfold cmK
    rw [if_neg (by decide), if_neg (by decide), if_neg (by decide), if_neg (by decide), if_pos rfl, f2]
    simp only
    rw [f3]
    simp only
    rw [uN_pos (by omega) (by have := hr.to h; omega), uN_pos (by omega) (by have := hr.to h; omega), Rd.adv_adv, Rd.adv_adv]
theorem pfx_num : Pfx numR := by
  have e : numR = bindR Rd.var fun v => bindR (fun r => ((), if decide (¬ v > 1099511627776) = true then r else r.fail 12)) fun _ r => (v, r) := by
    funext r
    unfold numR
    simp only [bindR]
    congr 1
    by_cases h : r.var.1 > 1099511627776
    · rw [if_pos h, if_neg (by rw [decide_eq_true_eq]; exact fun x => x h)]
    · rw [if_neg h, if_pos (by rw [decide_eq_true_eq]; exact h)]
  rw [e]
  exact pfx_var.bindR fun v => (pfx_check _ 12).bindR fun _ => Pfx.pure _
theorem pfx_cmK (g : Nat → Int) (cols : List Col) (k : Nat) : Pfx (cmK g cols k) := by
  unfold cmK
  refine Pfx.ite ?_ (Pfx.ite ?_ (Pfx.ite ?_ (Pfx.ite (Pfx.pure _) (Pfx.ite ?_ (Pfx.fail _ 11)))))
  · exact pfx_sch.bind (g := fun s r => ((⟨1, s, g (numR r).1, [], pD0, 0, 0⟩ : Cm), (numR r).2)) fun s => pfx_num.map fun n => (⟨1, s, g n, [], pD0, 0, 0⟩ : Cm)
  · exact (pfx_rows cols).map fun x => (⟨2, [], 0, x, pD0, 0, 0⟩ : Cm)
  · exact pfx_Pr.map fun x => (⟨3, [], 0, [], x, 0, 0⟩ : Cm)
  · exact pfx_num.bind (g := fun a r => ((⟨5, [], 0, [], pD0, g a, g (numR r).1⟩ : Cm), (numR r).2)) fun a => pfx_num.map fun b => (⟨5, [], 0, [], pD0, g a, g b⟩ : Cm)
theorem pfx_C (g : Nat → Int) (cols : List Col) : Pfx (takeCr g cols) := pfx_fix1.bind (g := fun k r => cmK g cols k r) fun k => pfx_cmK g cols k
theorem takeC_e {cols : List Col} {bs : List UInt8} : (takeC cols bs).2.1 = (takeCr (fun v => (v : Int)) cols ⟨bs, 0, 0, 0⟩).2.end_.1 := by
  unfold takeC ansC
  split
  · rfl
  · rename_i h
    exact (Decidable.not_not.1 h).symm
/-- What is taken whole is not taken cut off. -/
theorem takeC_cut {cols : List Col} {x t : List UInt8} (ht : t ≠ []) (h : (takeC cols (x ++ t)).2.1 = 0) : (takeC cols x).2.1 ≠ 0 := by
  rw [takeC_e] at h ⊢
  exact (pfx_C _ cols).cut ht h
end Go.Proofs.YteoofihjmldllaaDoor
