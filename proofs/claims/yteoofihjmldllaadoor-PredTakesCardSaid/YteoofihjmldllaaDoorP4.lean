/- Contracts over the abstract states: the truth of a row; what is wrong with a predicate. -/
import Derived.Test.YteoofihjmldllaaDoorP3
set_option linter.unusedVariables false
set_option linter.unusedSimpArgs false
set_option maxRecDepth 100000
namespace Go.Proofs.YteoofihjmldllaaDoor
open Go Go.Ab

theorem joinP_cons (op t : Int) (ts : List Int) (h : op ≠ 12) : joinP op (t :: ts) = ts.foldl (fun a x => if op = 10 then min a x else max a x) t := if_neg h
theorem fold_take {op t : Int} {ts : List Int} {i : Nat} (h : i < ts.length) : (ts.take (i + 1)).foldl (fun a x => if op = 10 then min a x else max a x) t = (if op = 10 then min ((ts.take i).foldl (fun a x => if op = 10 then min a x else max a x) t) (ts.getD i 0) else max ((ts.take i).foldl (fun a x => if op = 10 then min a x else max a x) t) (ts.getD i 0)) := by
  have e : ts.take (i + 1) = ts.take i ++ [ts.getD i 0] := by
    rw [List.take_succ_eq_append_getElem h, List.getD_eq_getElem?_getD, List.getElem?_eq_getElem h]
    rfl
  rw [e, List.foldl_append]
  rfl
abbrev accP (op : Int) (of : List Pd) (row : List Val) (i : Nat) : Int := (((of.map fun p => evalP p row).drop 1).take i).foldl (fun a x => if op = 10 then min a x else max a x) (evalP (of.getD 0 pD) row)
theorem pd_getD {ps : List Pd} {i : Nat} (h : i < ps.length) : ps.getD i pD ∈ ps := by
  rw [List.getD_eq_getElem?_getD, List.getElem?_eq_getElem h]
  exact List.getElem_mem _
theorem joinP_all {op : Int} {of : List Pd} {row : List Val} (h0 : of ≠ []) (h : op ≠ 12) : joinP op (evalPs of row) = accP op of row (of.length - 1) := by
  rw [evalPs_map]
  match of, h0 with
  | p :: ps, _ =>
    rw [List.map_cons, joinP_cons _ _ _ h]
    show _ = List.foldl _ _ (List.take ((p :: ps).length - 1) (List.drop 1 (evalP p row :: ps.map fun p => evalP p row)))
    rw [List.drop_succ_cons, List.drop_zero, List.take_of_length_le (by simp)]
    rfl
theorem joinP_12 {of : List Pd} {row : List Val} (h0 : of ≠ []) : joinP 12 (evalPs of row) = 2 - evalP (of.getD 0 pD) row := by
  rw [evalPs_map]
  match of, h0 with
  | p :: ps, _ => rfl
theorem PdVs.tail {H : Hp} {of : List Pd} {bs : List Value} {B : Option Addr} {d : Nat} (hS : SLC H 4 B of.length d bs) (h : PdVs H of bs) (h1 : 1 ≤ of.length) :
    ∃ A c, aslice H 4 1 of.length none (.slice B of.length d) = some (.slice A (of.drop 1).length c) ∧ SLC H 4 A (of.drop 1).length c (bs.drop 4) ∧ PdVs H (of.drop 1) (bs.drop 4) := by
  have hl := h.len
  obtain ⟨A, c, h2, h3⟩ := SLC.cut hS 1 of.length none h1 (Nat.le_refl _) (by intro x hx; cases hx)
  match of, h1, h with
  | p :: ps, _, h =>
    rw [PdVs] at h
    obtain ⟨v, r, rfl, h4, h5⟩ := h
    have e : (v.cells.toList ++ r).drop 4 = r := List.drop_left' h4.agg.2
    rw [show 1 * 4 = 4 from rfl, e, List.take_of_length_le (by rw [h5.len]; simp)] at h3
    rw [e]
    exact ⟨A, c, by simpa using h2, by simpa using h3, h5⟩
theorem acc_step {op : Int} {of : List Pd} {row : List Val} {i : Nat} (h : i < (of.drop 1).length) : accP op of row (i + 1) = (if op = 10 then min (accP op of row i) (evalP ((of.drop 1).getD i pD) row) else max (accP op of row i) (evalP ((of.drop 1).getD i pD) row)) := by
  have h2 : i < ((of.map fun p => evalP p row).drop 1).length := by simpa using h
  have e : ((of.map fun p => evalP p row).drop 1).getD i 0 = evalP ((of.drop 1).getD i pD) row := by
    rw [← List.map_drop, List.getD_eq_getElem?_getD, List.getElem?_map, List.getElem?_eq_getElem h, List.getD_eq_getElem?_getD, List.getElem?_eq_getElem h]
    rfl
  have := fold_take (op := op) (t := evalP (of.getD 0 pD) row) h2
  rw [e] at this
  exact this
theorem PdV.form {H : Hp} {p : Pd} {v : Value} (h : PdV H p v) : ∃ op col A l c B m d, v = pv op col A l c B m d := by
  cases p with
  | mk op col vals of =>
    rw [PdV] at h
    obtain ⟨A, c, B, d, bs, rfl, _⟩ := h
    exact ⟨_, _, _, _, _, _, _, _, rfl⟩
theorem drop_mem {ps : List Pd} {i : Nat} (h : i < (ps.drop 1).length) : (ps.drop 1).getD i pD ∈ ps := List.mem_of_mem_drop (pd_getD h)
mutual
theorem evalP_range : ∀ (p : Pd) (row : List Val), 0 ≤ evalP p row ∧ evalP p row ≤ 2
  | .mk op col vals of, row => by
    rw [evalP]
    split
    · split
      · split
        · decide
        · unfold ofValueP truthI
          repeat' split
          all_goals decide
      · split
        · decide
        · have h := evalPs_range of row
          cases he : evalPs of row with
          | nil => exact ⟨by show (0 : Int) ≤ 1; decide, by show (1 : Int) ≤ 2; decide⟩
          | cons t ts =>
            rw [he] at h
            have ht := h t List.mem_cons_self
            unfold joinP
            simp only
            split
            · omega
            · have key : ∀ (l : List Int) (a : Int), 0 ≤ a ∧ a ≤ 2 → (∀ x ∈ l, 0 ≤ x ∧ x ≤ 2) → 0 ≤ l.foldl (fun a x => if op = 10 then min a x else max a x) a ∧ l.foldl (fun a x => if op = 10 then min a x else max a x) a ≤ 2 := by
                intro l
                induction l with
                | nil => intro a ha _; exact ha
                | cons x l ih =>
                  intro a ha hl
                  have hx := hl x List.mem_cons_self
                  refine ih _ ?_ fun y hy => hl y (List.mem_cons_of_mem _ hy)
                  show 0 ≤ (if op = 10 then min a x else max a x) ∧ (if op = 10 then min a x else max a x) ≤ 2
                  split <;> omega
              exact key ts t ht fun x hx => h x (List.mem_cons_of_mem _ hx)
    · decide
theorem evalPs_range : ∀ (ps : List Pd) (row : List Val), ∀ x ∈ evalPs ps row, 0 ≤ x ∧ x ≤ 2
  | [], _, x, hx => by rw [evalPs] at hx; cases hx
  | p :: ps, row, x, hx => by
    rw [evalPs] at hx
    rcases List.mem_cons.1 hx with rfl | hx
    · exact evalP_range p row
    · exact evalPs_range ps row x hx
end
section
variable (H : Hp) (k : Nat)

theorem eval_c : ∀ (N : Nat) (p : Pd) (v : Value) (row : List Val) (R : Option Addr) (rc : Nat) (H : Hp) (k : Nat), H 0 = some shBlk → PdV H p v → slcCells H 3 (.slice R row.length rc) = some (vals3 row) → row.length ≤ 9223372036854775807 → SizeOf.sizeOf p < N → ACalls Tryd.prog 3 35 [v, .slice R row.length rc] H k (Same H k (.int .i64 (evalP p row))) := by
  intro N
  induction N
  case zero => intro p v row R rc H k ht hp hR hrl hN; exact absurd hN (Nat.not_lt_zero _)
  rename_i N ih
  intro p v row R rc H k ht hp hR hrl hN
  cases p
  rename_i op col vals of
  rw [PdV] at hp
  obtain ⟨A, c, B, d, bs, rfl, hA, hvl, hol, hop, hcl, hok, hB, hPs⟩ := hp
  refine ACalls.fresh fun hf => ?_
  refine ACalls.body Tryd.func35 rfl (Nat.le_of_ble_eq_true rfl) ?_
  have h0k := old_lt hf ht
  refine ACode.seq ?_
  refine ACode.region' [0, 1] (by kernel_rfl) rfl ?_
  refine aOps_1 rfl rfl rfl (AOp.boxV rfl rfl ?_)
  refine aOps_1 rfl rfl rfl (AOp.move' (.inr rfl) rfl ?_)
  refine aOps_end ?_
  show ACode _ _ _ _ _ _
  refine ACode.seq ?_
  refine ACode.block ?_
  refine ACode.seq ?_
  refine ACode.region' [0, 1, 2, 3, 4] (by kernel_rfl) rfl ?_
  refine aOps_1 rfl rfl rfl (AOp.fieldAddr' rfl (by decide) rfl ?_)
  refine aOps_1 rfl rfl rfl ?_
  refine AOp.load1 (b := ?b1) (v := ?v1) rfl rfl ?hn1 ?hv1 ?hR1
  (case hn1 => exact hpA)
  (case hv1 => rfl)
  refine aOps_q rfl rfl rfl (AOp.call' rfl rfl rfl (known_b _ _ op) (fun _ _ _ h => h)) (fun kq hkq => ?_)
  refine aOps_1 rfl rfl rfl (AOp.un' rfl rfl rfl ?_)
  refine aOps_1 rfl rfl rfl (AOp.move' (.inr rfl) rfl ?_)
  refine aOps_end ?_
  show ACode _ _ _ _ _ _
  refine ACode.cond rfl (fun c0 => ?_) (fun c0 => ?_)
  · try simp only [decide_eq_true_eq, decide_eq_false_iff_not, beq_iff_eq, beq_eq_false_iff_ne, ne_eq, bne_iff_ne, Bool.not_eq_true', Bool.not_eq_false', Int.not_lt, Int.not_le, gt_iff_lt, ge_iff_le, bne_eq_false_iff_eq, Bool.not_eq_eq_eq_not, Bool.not_true, Bool.not_false] at c0
    have hkn : known op = false := by simpa using c0
    refine ACode.seq ?_
    refine ACode.region' [0] (by kernel_rfl) rfl ?_
    refine aOps_1 rfl rfl rfl (AOp.move' (.inr rfl) rfl ?_)
    refine aOps_end ?_
    show ACode _ _ _ _ _ _
    refine ACode.ret ?_
    exact RetQ.one rfl rfl subA stays (fun hk => ⟨(by rw [evalP, if_neg (by rw [hkn]; decide)]), rfl, by omega⟩)
  · try simp only [decide_eq_true_eq, decide_eq_false_iff_not, beq_iff_eq, beq_eq_false_iff_ne, ne_eq, bne_iff_ne, Bool.not_eq_true', Bool.not_eq_false', Int.not_lt, Int.not_le, gt_iff_lt, ge_iff_le, bne_eq_false_iff_eq, Bool.not_eq_eq_eq_not, Bool.not_true, Bool.not_false] at c0
    have hkn : known op = true := by simpa using c0
    obtain ⟨o, rfl, ho⟩ := known_nat hkn
    refine ACode.seq ?_
    refine ACode.region' [0, 1, 2, 3, 4, 5] (by kernel_rfl) rfl ?_
    refine aOps_1 rfl rfl rfl (AOp.fieldAddr' rfl (by decide) rfl ?_)
    refine aOps_1 rfl rfl rfl ?_
    refine AOp.load1 (b := ?b2) (v := ?v2) rfl rfl ?hn2 ?hv2 ?hR2
    (case hn2 => exact hpA)
    (case hv2 => rfl)
    refine aOps_1 rfl rfl rfl (AOp.indexAddr_arr' rfl rfl rfl (by omega) (by omega) ?_)
    refine aOps_1 rfl rfl rfl (AOp.fieldAddr' rfl (by decide) rfl ?_)
    refine aOps_1 rfl rfl rfl (AOp.load1 (b := shBlk) (v := .bool (sh o).col) rfl rfl hpA (by show shT[0 + (o : Int).toNat * 5 + 0]? = _; rw [show 0 + (o : Int).toNat * 5 + 0 = o * 5 + 0 by omega]; exact sh_get ho (by decide)) ?_)
    refine aOps_1 rfl rfl rfl (AOp.move' (.inr rfl) rfl ?_)
    refine aOps_end ?_
    show ACode _ _ _ _ _ _
    refine ACode.cond rfl (fun c1 => ?_) (fun c1 => ?_)
    · try simp only [decide_eq_true_eq, decide_eq_false_iff_not, beq_iff_eq, beq_eq_false_iff_ne, ne_eq, bne_iff_ne, Bool.not_eq_true', Bool.not_eq_false', Int.not_lt, Int.not_le, gt_iff_lt, ge_iff_le, bne_eq_false_iff_eq, Bool.not_eq_eq_eq_not, Bool.not_true, Bool.not_false] at c1
      refine ACode.seq ?_
      refine ACode.seq ?_
      refine ACode.region' [0, 1, 2, 3, 4, 5, 6, 7, 8, 9] (by kernel_rfl) rfl ?_
      refine aOps_1 rfl rfl rfl (AOp.fieldAddr' rfl (by decide) rfl ?_)
      refine aOps_1 rfl rfl rfl ?_
      refine AOp.load1 (b := ?b3) (v := ?v3) rfl rfl ?hn3 ?hv3 ?hR3
      (case hn3 => exact hpA)
      (case hv3 => rfl)
      refine aOps_1 rfl rfl rfl (AOp.bin' rfl rfl rfl rfl ?_)
      refine aOps_1 rfl rfl rfl (AOp.move' (.inl rfl) rfl ?_)
      refine aOps_gd0 rfl rfl (wantF rfl rfl rfl) (fun hc => AOp.slots [(2, _)] (.cons rfl .nil) (AOp.fieldAddr' rfl (by decide) rfl ⟨rfl, rfl, rfl⟩)) ?_
      refine aOps_gd0 rfl rfl (wantF rfl rfl rfl) (fun hc => AOp.slots [(24, _)] (.cons (gvT rfl hc) .nil) ((by refine AOp.load1 (b := ?b4) (v := ?v4) rfl rfl ?hn4 ?hv4 ?hR4; (case hn4 => exact hpA); (case hv4 => rfl); exact ⟨rfl, rfl, rfl⟩))) ?_
      refine aOps_gd0 rfl rfl (wantF rfl rfl rfl) (fun hc => AOp.slots [(1, _)] (.cons rfl .nil) (AOp.move' (.inl rfl) rfl ⟨rfl, rfl, rfl⟩)) ?_
      refine aOps_gd0 rfl rfl (wantF rfl rfl rfl) (fun hc => AOp.slots [(26, _)] (.cons (gvT rfl hc) .nil) (AOp.len' rfl rfl ⟨rfl, rfl, rfl⟩)) ?_
      refine aOps_gd0 rfl rfl (wantF rfl rfl rfl) (fun hc => AOp.slots [(25, _), (27, _)] (.cons (gvT rfl hc) (.cons (gvT rfl hc) .nil)) (AOp.bin' rfl rfl rfl rfl ⟨rfl, rfl, rfl⟩)) ?_
      refine aOps_1 rfl rfl rfl (AOp.pickOr rfl rfl rfl (fun hb => gvE rfl (t_not hb)) ?_)
      refine aOps_end ?_
      show ACode _ _ _ _ _ _
      refine ACode.cond rfl (fun c2 => ?_) (fun c2 => ?_)
      · try simp only [decide_eq_true_eq, decide_eq_false_iff_not, beq_iff_eq, beq_eq_false_iff_ne, ne_eq, bne_iff_ne, Bool.not_eq_true', Bool.not_eq_false', Int.not_lt, Int.not_le, gt_iff_lt, ge_iff_le, bne_eq_false_iff_eq, Bool.not_eq_eq_eq_not, Bool.not_true, Bool.not_false] at c2
        refine ACode.seq ?_
        refine ACode.region' [0] (by kernel_rfl) rfl ?_
        refine aOps_1 rfl rfl rfl (AOp.move' (.inr rfl) rfl ?_)
        refine aOps_end ?_
        show ACode _ _ _ _ _ _
        refine ACode.ret ?_
        exact RetQ.one rfl rfl subA stays (fun hk => ⟨(by rw [evalP, if_pos hkn]; rw [Int.toNat_natCast, if_pos c1, if_pos c2]), rfl, by omega⟩)
      · try simp only [decide_eq_true_eq, decide_eq_false_iff_not, beq_iff_eq, beq_eq_false_iff_ne, ne_eq, bne_iff_ne, Bool.not_eq_true', Bool.not_eq_false', Int.not_lt, Int.not_le, gt_iff_lt, ge_iff_le, bne_eq_false_iff_eq, Bool.not_eq_eq_eq_not, Bool.not_true, Bool.not_false] at c2
        simp only [Bool.or_eq_false_iff, decide_eq_false_iff_not] at c2
        obtain ⟨x, rfl⟩ : ∃ x : Nat, col = x := ⟨col.toNat, by omega⟩
        have hxr : x < row.length := by omega
        refine ACode.skip ?_
        show ACode _ _ _ _ _ _
        refine ACode.seq ?_
        obtain ⟨n6_4, o6_4, s6_4, hq6_4, hp6_4⟩ := slcV hR hxr
        refine ACode.draw' 8 [(0, 30), (1, 31), (2, 32), (3, 33), (4, 34), (5, 35), (6, 36), (7, 4)] mixed (by kernel_rfl) ?_
        refine Draw.step [(2, none)] rfl (by kernel_rfl) rfl (fun kq hkq => (by refine AOp.loadAll (b := ?b5) (v := pv (o : Int) (x : Int) A vals.length c B of.length d) rfl rfl ?hn5 ?hv5 ?hw5 ?hz5 ?hR5; (case hn5 => exact hpA); (case hv5 => rfl); (case hw5 => rfl); (case hz5 => first | rfl | (simp; done)); exact ⟨rfl, rfl, Nat.le_refl _⟩)) ?_
        refine Draw.step [(1, none)] rfl (by kernel_rfl) rfl (fun kq hkq => AOp.move' (.inl rfl) rfl ⟨rfl, rfl, Nat.le_refl _⟩) ?_
        refine Draw.step [(2, none)] rfl (by kernel_rfl) rfl (fun kq hkq => AOp.fieldAddr' rfl (by decide) rfl ⟨rfl, rfl, Nat.le_refl _⟩) ?_
        refine Draw.step [(32, some 2)] rfl (by kernel_rfl) rfl (fun kq hkq => (by refine AOp.load1 (b := ?b6) (v := ?v6) rfl rfl ?hn6 ?hv6 ?hR6; (case hn6 => exact hpA); (case hv6 => rfl); exact ⟨rfl, rfl, Nat.le_refl _⟩)) ?_
        refine Draw.step [(31, some 1), (33, some 3)] rfl (by kernel_rfl) rfl (fun kq hkq => AOp.indexP (aslcAt_sub subA hq6_4) rfl rfl rfl ⟨rfl, rfl, Nat.le_refl _⟩) ?_
        refine Draw.step [(34, some 4)] rfl (by kernel_rfl) rfl (fun kq hkq => AOp.loadPA (v := vv (row.getD x vD)) (hp6_4.sub subA) rfl rfl rfl rfl (by first | rfl | (simp; done)) (by decide) ⟨rfl, rfl, Nat.le_refl _⟩) ?_
        refine Draw.step [(30, some 0), (35, some 5)] rfl (by kernel_rfl) rfl (fun kq hkq => AOp.call' rfl rfl rfl (ofValue_b _ _ hpA (o : Int) (x : Int) hop vals A c (slcCells_sub subA hA) hvl B of.length d hol o ho rfl c1 (row.getD x vD)) (fun _ _ _ h => h)) ?_
        refine Draw.step [(36, some 6)] rfl (by kernel_rfl) rfl (fun kq hkq => AOp.move' (.inr rfl) rfl ⟨rfl, rfl, Nat.le_refl _⟩) ?_
        refine Draw.done fun kq hkq => ?_
        show aOps _ _ _ _ [] ⟨_, _, _⟩
        refine aOps_end ?_
        show ACode _ _ _ _ _ _
        refine ACode.ret ?_
        exact RetQ.one rfl rfl subA stays (fun hk => ⟨(by rw [evalP, if_pos hkn]; rw [Int.toNat_natCast, if_pos c1, if_neg (by simp; omega), Int.toNat_natCast]; rfl), rfl, by omega⟩)
    · try simp only [decide_eq_true_eq, decide_eq_false_iff_not, beq_iff_eq, beq_eq_false_iff_ne, ne_eq, bne_iff_ne, Bool.not_eq_true', Bool.not_eq_false', Int.not_lt, Int.not_le, gt_iff_lt, ge_iff_le, bne_eq_false_iff_eq, Bool.not_eq_eq_eq_not, Bool.not_true, Bool.not_false] at c1
      have hcb : (sh o).col = false := by simpa using c1
      refine ACode.seq ?_
      refine ACode.region' [0, 1, 2, 3] (by kernel_rfl) rfl ?_
      refine aOps_1 rfl rfl rfl (AOp.fieldAddr' rfl (by decide) rfl ?_)
      refine aOps_1 rfl rfl rfl ?_
      refine AOp.load1 (b := ?b7) (v := ?v7) rfl rfl ?hn7 ?hv7 ?hR7
      (case hn7 => exact hpA)
      (case hv7 => rfl)
      refine aOps_1 rfl rfl rfl (AOp.bin' rfl rfl rfl rfl ?_)
      refine aOps_1 rfl rfl rfl (AOp.move' (.inr rfl) rfl ?_)
      refine aOps_end ?_
      show ACode _ _ _ _ _ _
      refine ACode.cond rfl (fun c3 => ?_) (fun c3 => ?_)
      · try simp only [decide_eq_true_eq, decide_eq_false_iff_not, beq_iff_eq, beq_eq_false_iff_ne, ne_eq, bne_iff_ne, Bool.not_eq_true', Bool.not_eq_false', Int.not_lt, Int.not_le, gt_iff_lt, ge_iff_le, bne_eq_false_iff_eq, Bool.not_eq_eq_eq_not, Bool.not_true, Bool.not_false] at c3
        refine ACode.seq ?_
        refine ACode.region' [0] (by kernel_rfl) rfl ?_
        refine aOps_1 rfl rfl rfl (AOp.move' (.inr rfl) rfl ?_)
        refine aOps_end ?_
        show ACode _ _ _ _ _ _
        refine ACode.ret ?_
        exact RetQ.one rfl rfl subA stays (fun hk => ⟨(by rw [evalP, if_pos hkn]; rw [Int.toNat_natCast, if_neg (by rw [hcb]; decide), if_pos c3]), rfl, by omega⟩)
      · try simp only [decide_eq_true_eq, decide_eq_false_iff_not, beq_iff_eq, beq_eq_false_iff_ne, ne_eq, bne_iff_ne, Bool.not_eq_true', Bool.not_eq_false', Int.not_lt, Int.not_le, gt_iff_lt, ge_iff_le, bne_eq_false_iff_eq, Bool.not_eq_eq_eq_not, Bool.not_true, Bool.not_false] at c3
        refine ACode.seq ?_
        refine ACode.region' [0, 1, 2, 3, 4] (by kernel_rfl) rfl ?_
        refine aOps_1 rfl rfl rfl (AOp.fieldAddr' rfl (by decide) rfl ?_)
        refine aOps_1 rfl rfl rfl ?_
        refine AOp.load1 (b := ?b8) (v := ?v8) rfl rfl ?hn8 ?hv8 ?hR8
        (case hn8 => exact hpA)
        (case hv8 => rfl)
        refine aOps_1 rfl rfl rfl (AOp.len' rfl rfl ?_)
        refine aOps_1 rfl rfl rfl (AOp.bin' rfl rfl rfl rfl ?_)
        refine aOps_1 rfl rfl rfl (AOp.move' (.inr rfl) rfl ?_)
        refine aOps_end ?_
        show ACode _ _ _ _ _ _
        refine ACode.cond rfl (fun c4 => ?_) (fun c4 => ?_)
        · try simp only [decide_eq_true_eq, decide_eq_false_iff_not, beq_iff_eq, beq_eq_false_iff_ne, ne_eq, bne_iff_ne, Bool.not_eq_true', Bool.not_eq_false', Int.not_lt, Int.not_le, gt_iff_lt, ge_iff_le, bne_eq_false_iff_eq, Bool.not_eq_eq_eq_not, Bool.not_true, Bool.not_false] at c4
          refine ACode.seq ?_
          refine ACode.region' [0] (by kernel_rfl) rfl ?_
          refine aOps_1 rfl rfl rfl (AOp.move' (.inr rfl) rfl ?_)
          refine aOps_end ?_
          show ACode _ _ _ _ _ _
          refine ACode.ret ?_
          exact RetQ.one rfl rfl subA stays (fun hk => ⟨(by rw [evalP, if_pos hkn]; rw [Int.toNat_natCast, if_neg (by rw [hcb]; decide), if_neg c3]; rw [show of = [] from List.length_eq_zero_iff.1 (by omega)]; rfl), rfl, by omega⟩)
        · try simp only [decide_eq_true_eq, decide_eq_false_iff_not, beq_iff_eq, beq_eq_false_iff_ne, ne_eq, bne_iff_ne, Bool.not_eq_true', Bool.not_eq_false', Int.not_lt, Int.not_le, gt_iff_lt, ge_iff_le, bne_eq_false_iff_eq, Bool.not_eq_eq_eq_not, Bool.not_true, Bool.not_false] at c4
          have hof : of ≠ [] := by { intro e; subst e; exact c4 rfl }
          have hof1 : 1 ≤ of.length := by { cases of with | nil => exact absurd rfl hof | cons a b => simp }
          refine ACode.skip ?_
          show ACode _ _ _ _ _ _
          refine ACode.seq ?_
          obtain ⟨n11_2, o11_2, s11_2, v0, hq11_2, hp11_2, hv0⟩ := PdVs.el pD hB hPs (show 0 < of.length by omega)
          obtain ⟨g1, g2⟩ := hv0.agg
          have hr0 := evalP_range (of.getD 0 pD) row
          refine ACode.region' [0, 1, 2, 3, 4, 5, 6] (by kernel_rfl) rfl ?_
          refine aOps_1 rfl rfl rfl (AOp.fieldAddr' rfl (by decide) rfl ?_)
          refine aOps_1 rfl rfl rfl ?_
          refine AOp.load1 (b := ?b9) (v := ?v9) rfl rfl ?hn9 ?hv9 ?hR9
          (case hn9 => exact hpA)
          (case hv9 => rfl)
          refine aOps_1 rfl rfl rfl (AOp.indexP (aslcAt_sub subA hq11_2) rfl rfl rfl ?_)
          refine aOps_1 rfl rfl rfl (AOp.loadPA (v := v0) (hp11_2.sub subA) rfl rfl rfl g1 g2 (by decide) ?_)
          refine aOps_1 rfl rfl rfl (AOp.move' (.inl rfl) rfl ?_)
          refine aOps_q rfl rfl rfl (AOp.call' rfl rfl rfl (ih (of.getD 0 pD) v0 row R rc _ _ hpA (hv0.sub subA) (slcCells_sub subA hR) hrl (by have := Pd.lt (op := (o : Int)) (col := col) (vals := vals) (pd_getD (ps := of) (i := 0) (by omega)); omega)) (fun _ _ _ h => h)) (fun kq hkq => ?_)
          refine aOps_1 rfl rfl rfl (AOp.move' (.inr rfl) rfl ?_)
          refine aOps_end ?_
          show ACode _ _ _ _ _ _
          refine ACode.seq ?_
          refine ACode.seq ?_
          refine ACode.region' [0, 1, 2] (by kernel_rfl) rfl ?_
          refine aOps_1 rfl rfl rfl (AOp.fieldAddr' rfl (by decide) rfl ?_)
          refine aOps_1 rfl rfl rfl ?_
          refine AOp.load1 (b := ?b10) (v := ?v10) rfl rfl ?hn10 ?hv10 ?hR10
          (case hn10 => exact hpA)
          (case hv10 => rfl)
          refine aOps_1 rfl rfl rfl (AOp.bin' rfl rfl rfl rfl ?_)
          refine aOps_end ?_
          show ACode _ _ _ _ _ _
          refine ACode.cond rfl (fun c5 => ?_) (fun c5 => ?_)
          · try simp only [decide_eq_true_eq, decide_eq_false_iff_not, beq_iff_eq, beq_eq_false_iff_ne, ne_eq, bne_iff_ne, Bool.not_eq_true', Bool.not_eq_false', Int.not_lt, Int.not_le, gt_iff_lt, ge_iff_le, bne_eq_false_iff_eq, Bool.not_eq_eq_eq_not, Bool.not_true, Bool.not_false] at c5
            have ho12 : o = 12 := by omega
            subst ho12
            refine ACode.seq ?_
            refine ACode.region' [0, 1, 2] (by kernel_rfl) rfl ?_
            refine aOps_1 rfl rfl rfl (AOp.move' (.inl rfl) rfl ?_)
            refine aOps_1 rfl rfl rfl (AOp.sub rfl rfl rfl (i64_wrap (by omega) (by omega)) ?_)
            refine aOps_1 rfl rfl rfl (AOp.move' (.inr rfl) rfl ?_)
            refine aOps_end ?_
            show ACode _ _ _ _ _ _
            refine ACode.ret ?_
            exact RetQ.one rfl rfl subA stays (fun hk => ⟨(by rw [evalP, if_pos hkn]; rw [Int.toNat_natCast, if_neg (by rw [hcb]; decide), if_neg c3, show ((12 : Nat) : Int) = 12 from rfl, joinP_12 hof]), rfl, by omega⟩)
          · try simp only [decide_eq_true_eq, decide_eq_false_iff_not, beq_iff_eq, beq_eq_false_iff_ne, ne_eq, bne_iff_ne, Bool.not_eq_true', Bool.not_eq_false', Int.not_lt, Int.not_le, gt_iff_lt, ge_iff_le, bne_eq_false_iff_eq, Bool.not_eq_eq_eq_not, Bool.not_true, Bool.not_false] at c5
            have ho12 : (o : Int) ≠ 12 := c5
            refine ACode.skip ?_
            show ACode _ _ _ _ _ _
            refine ACode.seq ?_
            refine ACode.seq ?_
            obtain ⟨A9, r9, q9, g9, hP9⟩ := hPs.tail hB hof1
            have hd9 : (of.drop 1).length = of.length - 1 := List.length_drop
            refine ACode.region' [0, 1, 2, 3, 4] (by kernel_rfl) rfl ?_
            refine aOps_1 rfl rfl rfl (AOp.fieldAddr' rfl (by decide) rfl ?_)
            refine aOps_1 rfl rfl rfl ?_
            refine AOp.load1 (b := ?b11) (v := ?v11) rfl rfl ?hn11 ?hv11 ?hR11
            (case hn11 => exact hpA)
            (case hv11 => rfl)
            refine aOps_1 rfl rfl rfl (AOp.cutQ (aslice_sub subA q9) rfl rfl (bnd_at rfl rfl) (bnd_no rfl) mx_no ?_)
            refine aOps_1 rfl rfl rfl (AOp.len' rfl rfl ?_)
            refine aOps_1 rfl rfl rfl (AOp.move' (.inl rfl) rfl ?_)
            refine aOps_end ?_
            show ACode _ _ _ _ _ _
            refine ACode.block ?_
            refine ACode.count0 (fun i => [(61, .int .i64 (i : Int)), (5, .int .i64 (accP (o : Int) of row i))]) [(1, _), (2, _), (4, _), (59, _), (60, _)] ((of.drop 1).length) (fun _ => True) (.cons rfl (.cons rfl .nil)) (.cons rfl (.cons rfl (.cons rfl (.cons rfl (.cons rfl .nil))))) trivial (fun i0 kL0 HL0 hiL0 hkL0 hsL0 hfL0 hxL0 => ?_)
            show ACode _ _ _ _ _ ⟨_, _, _⟩
            have tsL0 := SubS.of hsL0
            refine ACode.seq ?_
            refine ACode.region' [0] (by kernel_rfl) rfl ?_
            refine aOps_1 rfl rfl rfl (AOp.bin' rfl rfl rfl rfl ?_)
            refine aOps_end ?_
            show ACode _ _ _ _ _ _
            refine ACode.seq ?_
            refine ACode.cond rfl (fun c6 => ?_) (fun c6 => ?_)
            · try simp only [decide_eq_true_eq, decide_eq_false_iff_not, beq_iff_eq, beq_eq_false_iff_ne, ne_eq, bne_iff_ne, Bool.not_eq_true', Bool.not_eq_false', Int.not_lt, Int.not_le, gt_iff_lt, ge_iff_le, bne_eq_false_iff_eq, Bool.not_eq_eq_eq_not, Bool.not_true, Bool.not_false] at c6
              refine ACode.skip ?_
              show ACode _ _ _ _ _ _
              refine ACode.seq ?_
              refine ACode.block ?_
              refine ACode.seq ?_
              obtain ⟨n16_0, o16_0, s16_0, v1, hq16_0, hp16_0, hv1⟩ := PdVs.el pD g9 hP9 (show i0 < (of.drop 1).length by omega)
              obtain ⟨xo, xc, xA, xl, xcc, xB, xm, xd, rfl⟩ := hv1.form
              refine ACode.region' [0, 1, 2, 3] (by kernel_rfl) rfl ?_
              refine aOps_1 rfl rfl rfl (AOp.indexP (aslcAt_sub subA hq16_0) rfl rfl rfl ?_)
              refine aOps_1 rfl rfl rfl (AOp.loadPA (v := pv xo xc xA xl xcc xB xm xd) (hp16_0.sub subA) rfl rfl rfl rfl rfl (by show 0 < 4; decide) ?_)
              refine aOps_1 rfl rfl rfl (AOp.alloc' rfl ?_)
              refine aOps_0 rfl rfl rfl ?_
              refine AOp.storeAll (b := ?b12) rfl rfl rfl ?hn12 ?hk12 rfl ?hw12 ?ho12 ?hl12 ?hR12
              (case hn12 => exact hpA)
              (case hk12 => rfl)
              (case hw12 => first | rfl | (simp; done))
              (case ho12 => first | rfl | decide | (simp; done))
              (case hl12 => first | rfl | (simp; done))
              refine aOps_end ?_
              show ACode _ _ _ _ _ _
              refine ACode.seq ?_
              refine ACode.region' [0, 1, 2, 3] (by kernel_rfl) rfl ?_
              refine aOps_1 rfl rfl rfl ?_
              refine AOp.loadAll (b := ?b13) (v := pv xo xc xA xl xcc xB xm xd) rfl rfl ?hn13 ?hv13 ?hw13 ?hz13 ?hR13
              (case hn13 => exact hpA)
              (case hv13 => rfl)
              (case hw13 => rfl)
              (case hz13 => first | rfl | (simp; done))
              refine aOps_1 rfl rfl rfl (AOp.move' (.inl rfl) rfl ?_)
              refine aOps_q rfl rfl rfl (AOp.call' rfl rfl rfl (ih ((of.drop 1).getD i0 pD) (pv xo xc xA xl xcc xB xm xd) row R rc _ _ hpA (hv1.sub subA) (slcCells_sub subA hR) hrl (by have := Pd.lt (op := (o : Int)) (col := col) (vals := vals) (drop_mem (ps := of) (i := i0) (by omega)); omega)) (fun _ _ _ h => h)) (fun kq hkq => ?_)
              refine aOps_1 rfl rfl rfl (AOp.move' (.inr rfl) rfl ?_)
              refine aOps_end ?_
              show ACode _ _ _ _ _ _
              refine ACode.seq ?_
              refine ACode.region' [0, 1, 2] (by kernel_rfl) rfl ?_
              refine aOps_1 rfl rfl rfl (AOp.fieldAddr' rfl (by decide) rfl ?_)
              refine aOps_1 rfl rfl rfl ?_
              refine AOp.load1 (b := ?b14) (v := ?v14) rfl rfl ?hn14 ?hv14 ?hR14
              (case hn14 => exact hpA)
              (case hv14 => rfl)
              refine aOps_1 rfl rfl rfl (AOp.bin' rfl rfl rfl rfl ?_)
              refine aOps_end ?_
              show ACode _ _ _ _ _ _
              refine ACode.cond rfl (fun c7 => ?_) (fun c7 => ?_)
              · try simp only [decide_eq_true_eq, decide_eq_false_iff_not, beq_iff_eq, beq_eq_false_iff_ne, ne_eq, bne_iff_ne, Bool.not_eq_true', Bool.not_eq_false', Int.not_lt, Int.not_le, gt_iff_lt, ge_iff_le, bne_eq_false_iff_eq, Bool.not_eq_eq_eq_not, Bool.not_true, Bool.not_false] at c7
                refine ACode.region' [0, 1, 2, 3] (by kernel_rfl) rfl ?_
                refine aOps_1 rfl rfl rfl (AOp.move' (.inl rfl) rfl ?_)
                refine aOps_1 rfl rfl rfl (AOp.move' (.inl rfl) rfl ?_)
                refine aOps_1 rfl rfl rfl (AOp.min2 rfl rfl rfl ?_)
                refine aOps_1 rfl rfl rfl (AOp.move' (.inr rfl) rfl ?_)
                refine aOps_end ?_
                show ACode _ _ _ _ _ _
                refine ACode.region' [0, 1] (by kernel_rfl) rfl ?_
                refine aOps_1 rfl rfl rfl (AOp.add rfl rfl rfl (i64_wrap (by omega) (by omega)) ?_)
                refine aOps_1 rfl rfl rfl (AOp.move' (.inl rfl) rfl ?_)
                refine aOps_end ?_
                have hacc := acc_step (op := (o : Int)) (of := of) (row := row) (i := i0) (by omega)
                first | refine thenA_n ?_ | simp only [thenA, blockA, if_true]
                exact NextR.mk (by omega) (by omega) (.cons rfl (.cons (show _ = some (Value.int .i64 _) by rw [hacc, if_pos c7]; rfl) .nil)) (.cons rfl (.cons rfl (.cons rfl (.cons rfl (.cons rfl .nil))))) subA trivial
              · try simp only [decide_eq_true_eq, decide_eq_false_iff_not, beq_iff_eq, beq_eq_false_iff_ne, ne_eq, bne_iff_ne, Bool.not_eq_true', Bool.not_eq_false', Int.not_lt, Int.not_le, gt_iff_lt, ge_iff_le, bne_eq_false_iff_eq, Bool.not_eq_eq_eq_not, Bool.not_true, Bool.not_false] at c7
                refine ACode.region' [0, 1, 2, 3] (by kernel_rfl) rfl ?_
                refine aOps_1 rfl rfl rfl (AOp.move' (.inl rfl) rfl ?_)
                refine aOps_1 rfl rfl rfl (AOp.move' (.inl rfl) rfl ?_)
                refine aOps_1 rfl rfl rfl (AOp.max2 rfl rfl rfl ?_)
                refine aOps_1 rfl rfl rfl (AOp.move' (.inr rfl) rfl ?_)
                refine aOps_end ?_
                show ACode _ _ _ _ _ _
                refine ACode.region' [0, 1] (by kernel_rfl) rfl ?_
                refine aOps_1 rfl rfl rfl (AOp.add rfl rfl rfl (i64_wrap (by omega) (by omega)) ?_)
                refine aOps_1 rfl rfl rfl (AOp.move' (.inl rfl) rfl ?_)
                refine aOps_end ?_
                have hacc := acc_step (op := (o : Int)) (of := of) (row := row) (i := i0) (by omega)
                first | refine thenA_n ?_ | simp only [thenA, blockA, if_true]
                exact NextR.mk (by omega) (by omega) (.cons rfl (.cons (show _ = some (Value.int .i64 _) by rw [hacc, if_neg c7]; rfl) .nil)) (.cons rfl (.cons rfl (.cons rfl (.cons rfl (.cons rfl .nil))))) subA trivial
            · try simp only [decide_eq_true_eq, decide_eq_false_iff_not, beq_iff_eq, beq_eq_false_iff_ne, ne_eq, bne_iff_ne, Bool.not_eq_true', Bool.not_eq_false', Int.not_lt, Int.not_le, gt_iff_lt, ge_iff_le, bne_eq_false_iff_eq, Bool.not_eq_eq_eq_not, Bool.not_true, Bool.not_false] at c6
              refine ACode.exit ?_
              show ACode _ _ _ _ _ _
              refine ACode.seq ?_
              refine ACode.region' [0, 1] (by kernel_rfl) rfl ?_
              refine aOps_1 rfl rfl rfl (AOp.move' (.inl rfl) rfl ?_)
              refine aOps_1 rfl rfl rfl (AOp.move' (.inr rfl) rfl ?_)
              refine aOps_end ?_
              show ACode _ _ _ _ _ _
              refine ACode.ret ?_
              exact RetQ.one rfl rfl subA stays (fun hk => ⟨(by rw [evalP, if_pos hkn]; rw [Int.toNat_natCast, if_neg (by rw [hcb]; decide), if_neg c3, joinP_all hof ho12, show of.length - 1 = i0 by omega]), rfl, by omega⟩)
end

end Go.Proofs.YteoofihjmldllaaDoor
