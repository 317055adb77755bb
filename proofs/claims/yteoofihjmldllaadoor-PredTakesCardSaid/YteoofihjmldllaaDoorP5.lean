/- Contracts over the abstract states: what is wrong with a predicate. -/
import Derived.Test.YteoofihjmldllaaDoorP4
set_option linter.unusedVariables false
set_option linter.unusedSimpArgs false
set_option maxRecDepth 100000
namespace Go.Proofs.YteoofihjmldllaaDoor
open Go Go.Ab

def firstI {α : Type} (f : α → Int) : List α → Int
  | [] => 0
  | v :: vs => if f v = 0 then firstI f vs else f v
theorem firstI_step {α : Type} {f : α → Int} : ∀ {l : List α} {i : Nat} (d : α), i < l.length → f (l.getD i d) = 0 → firstI f (l.drop i) = firstI f (l.drop (i + 1))
  | v :: vs, 0, d, _, h => by
    show firstI f (v :: vs) = firstI f vs
    rw [firstI, if_pos (show f v = 0 from h)]
  | v :: vs, i + 1, d, hi, h => firstI_step (l := vs) (i := i) d (by simpa using hi) h
theorem firstI_hit {α : Type} {f : α → Int} : ∀ {l : List α} {i : Nat} (d : α), i < l.length → f (l.getD i d) ≠ 0 → firstI f (l.drop i) = f (l.getD i d)
  | v :: vs, 0, d, _, h => by
    show firstI f (v :: vs) = f v
    rw [firstI, if_neg (show ¬ f v = 0 from h)]
  | v :: vs, i + 1, d, hi, h => firstI_hit (l := vs) (i := i) d (by simpa using hi) h
def errV (kind : Int) (v : Val) : Int := rowI (fun c v => !stands c v) [⟨kind, false, 0⟩] [v]
def cD : Col := ⟨0, false, 0⟩
def ownP (cols : List Col) (op col : Int) (vals : List Val) (n : Nat) : Int :=
  if (decide ((vals.length : Int) > 256) || decide ((n : Int) > 256)) = true then 12 else if formedP op col vals.length n = true then (if (sh op.toNat).col = true then (if (decide (col < 0) || decide (col ≥ (cols.length : Int))) = true then 8 else firstI (errV (cols.getD col.toNat cD).kind) vals) else 0) else 4
mutual
def checkP (cols : List Col) : Pd → Nat → Int
  | .mk op col vals of, deep => if deep = 32 then 18 else if ownP cols op col vals of.length = 0 then checkPs cols of (deep + 1) else ownP cols op col vals of.length
def checkPs (cols : List Col) : List Pd → Nat → Int
  | [], _ => 0
  | p :: ps, deep => if checkP cols p deep = 0 then checkPs cols ps deep else checkP cols p deep
end
theorem checkPs_first (cols : List Col) (deep : Nat) : ∀ ps : List Pd, checkPs cols ps deep = firstI (fun p => checkP cols p deep) ps
  | [] => by rw [checkPs]; rfl
  | p :: ps => by rw [checkPs, firstI, checkPs_first cols deep ps]
theorem slcC {H : Hp} {i : Nat} {v : Value} {l : List Col} (h : slcCells H 3 v = some (cols3 l)) (hi : i < l.length) : ∃ n off sp, aslcAt H 3 i v = some (ptr n off sp) ∧ PAt H n off sp (cc (l.getD i cD)).cells.toList := by
  obtain ⟨n, off, sp, h1, h2⟩ := slcEl h (fun _ => rfl) (by decide) hi
  rw [show l[i] = l.getD i cD by rw [List.getD_eq_getElem?_getD, List.getElem?_eq_getElem hi]; rfl] at h2
  exact ⟨n, off, sp, h1, h2⟩
section
variable (H : Hp) (k : Nat)

theorem own_b (ht : H 0 = some shBlk) (cols : List Col) (C : Option Addr) (e : Nat) (hC : slcCells H 3 (.slice C cols.length e) = some (cols3 cols)) (hcn : cols.length ≤ 9223372036854775807) (op col : Int) (hop : -9223372036854775808 ≤ op ∧ op ≤ 9223372036854775807) (vals : List Val) (A : Option Addr) (c : Nat) (hA : slcCells H 3 (.slice A vals.length c) = some (vals3 vals)) (hl : vals.length ≤ 9223372036854775807) (B : Option Addr) (m d : Nat) (hm : m ≤ 9223372036854775807) (hok : ∀ v ∈ vals, v.ok) : ACalls Tryd.prog 3 126 [.slice C cols.length e, pv op col A vals.length c B m d] H k (Same H k (.int .i64 (ownP cols op col vals m))) := by
  refine ACalls.fresh fun hf => ?_
  refine ACalls.body Tryd.func126 rfl (Nat.le_of_ble_eq_true rfl) ?_
  have h0k := old_lt hf ht
  refine ACode.seq ?_
  refine ACode.region' [0, 1] (by kernel_rfl) rfl ?_
  refine aOps_1 rfl rfl rfl (AOp.boxV rfl rfl ?_)
  refine aOps_1 rfl rfl rfl (AOp.move' (.inr rfl) rfl ?_)
  refine aOps_end ?_
  show ACode _ _ _ _ _ _
  refine ACode.seq ?_
  refine ACode.block ?_
  refine ACode.seq ?_
  refine ACode.region' [0, 1, 2, 3, 4, 5, 6, 7, 8, 9, 10] (by kernel_rfl) rfl ?_
  refine aOps_1 rfl rfl rfl (AOp.fieldAddr' rfl (by decide) rfl ?_)
  refine aOps_1 rfl rfl rfl ?_
  refine AOp.load1 (b := ?b1) (v := ?v1) rfl rfl ?hn1 ?hv1 ?hR1
  (case hn1 => exact hpA)
  (case hv1 => rfl)
  refine aOps_1 rfl rfl rfl (AOp.len' rfl rfl ?_)
  refine aOps_1 rfl rfl rfl (AOp.bin' rfl rfl rfl rfl ?_)
  refine aOps_1 rfl rfl rfl (AOp.move' (.inl rfl) rfl ?_)
  refine aOps_gd0 rfl rfl (wantF rfl rfl rfl) (fun hc => AOp.slots [(3, _)] (.cons rfl .nil) (AOp.fieldAddr' rfl (by decide) rfl ⟨rfl, rfl, rfl⟩)) ?_
  refine aOps_gd0 rfl rfl (wantF rfl rfl rfl) (fun hc => AOp.slots [(15, _)] (.cons (gvT rfl hc) .nil) ((by refine AOp.load1 (b := ?b2) (v := ?v2) rfl rfl ?hn2 ?hv2 ?hR2; (case hn2 => exact hpA); (case hv2 => rfl); exact ⟨rfl, rfl, rfl⟩))) ?_
  refine aOps_gd0 rfl rfl (wantF rfl rfl rfl) (fun hc => AOp.slots [(16, _)] (.cons (gvT rfl hc) .nil) (AOp.len' rfl rfl ⟨rfl, rfl, rfl⟩)) ?_
  refine aOps_gd0 rfl rfl (wantF rfl rfl rfl) (fun hc => AOp.slots [(17, _)] (.cons (gvT rfl hc) .nil) (AOp.bin' rfl rfl rfl rfl ⟨rfl, rfl, rfl⟩)) ?_
  refine aOps_1 rfl rfl rfl (AOp.pickOr rfl rfl rfl (fun hb => gvE rfl (t_not hb)) ?_)
  refine aOps_1 rfl rfl rfl (AOp.move' (.inr rfl) rfl ?_)
  refine aOps_end ?_
  show ACode _ _ _ _ _ _
  refine ACode.cond rfl (fun c0 => ?_) (fun c0 => ?_)
  · try simp only [decide_eq_true_eq, decide_eq_false_iff_not, beq_iff_eq, beq_eq_false_iff_ne, ne_eq, bne_iff_ne, Bool.not_eq_true', Bool.not_eq_false', Int.not_lt, Int.not_le, gt_iff_lt, ge_iff_le, bne_eq_false_iff_eq, Bool.not_eq_eq_eq_not, Bool.not_true, Bool.not_false] at c0
    refine ACode.seq ?_
    refine ACode.region' [0] (by kernel_rfl) rfl ?_
    refine aOps_1 rfl rfl rfl (AOp.move' (.inr rfl) rfl ?_)
    refine aOps_end ?_
    show ACode _ _ _ _ _ _
    refine ACode.ret ?_
    exact RetQ.one rfl rfl subA stays (fun hk => ⟨(by rw [ownP, if_pos c0]), rfl, by omega⟩)
  · try simp only [decide_eq_true_eq, decide_eq_false_iff_not, beq_iff_eq, beq_eq_false_iff_ne, ne_eq, bne_iff_ne, Bool.not_eq_true', Bool.not_eq_false', Int.not_lt, Int.not_le, gt_iff_lt, ge_iff_le, bne_eq_false_iff_eq, Bool.not_eq_eq_eq_not, Bool.not_true, Bool.not_false] at c0
    have hn0 : ¬ (decide ((vals.length : Int) > 256) || decide ((m : Int) > 256)) = true := by rw [c0]; decide
    refine ACode.seq ?_
    refine ACode.region' [0, 1, 2, 3] (by kernel_rfl) rfl ?_
    refine aOps_1 rfl rfl rfl ?_
    refine AOp.loadAll (b := ?b3) (v := pv op col A vals.length c B m d) rfl rfl ?hn3 ?hv3 ?hw3 ?hz3 ?hR3
    (case hn3 => exact hpA)
    (case hv3 => rfl)
    (case hw3 => rfl)
    (case hz3 => first | rfl | (simp; done))
    refine aOps_q rfl rfl rfl (AOp.call' rfl rfl rfl (formed_b _ _ hpA op col hop vals A c (slcCells_sub subA hA) hl B m d hm) (fun _ _ _ h => h)) (fun kf hkf => ?_)
    refine aOps_1 rfl rfl rfl (AOp.un' rfl rfl rfl ?_)
    refine aOps_1 rfl rfl rfl (AOp.move' (.inr rfl) rfl ?_)
    refine aOps_end ?_
    show ACode _ _ _ _ _ _
    refine ACode.cond rfl (fun c1 => ?_) (fun c1 => ?_)
    · try simp only [decide_eq_true_eq, decide_eq_false_iff_not, beq_iff_eq, beq_eq_false_iff_ne, ne_eq, bne_iff_ne, Bool.not_eq_true', Bool.not_eq_false', Int.not_lt, Int.not_le, gt_iff_lt, ge_iff_le, bne_eq_false_iff_eq, Bool.not_eq_eq_eq_not, Bool.not_true, Bool.not_false] at c1
      have hfm : formedP op col vals.length m = false := by simpa using c1
      refine ACode.seq ?_
      refine ACode.region' [0] (by kernel_rfl) rfl ?_
      refine aOps_1 rfl rfl rfl (AOp.move' (.inr rfl) rfl ?_)
      refine aOps_end ?_
      show ACode _ _ _ _ _ _
      refine ACode.ret ?_
      exact RetQ.one rfl rfl subA stays (fun hk => ⟨(by rw [ownP, if_neg hn0, if_neg (by rw [hfm]; decide)]), rfl, by omega⟩)
    · try simp only [decide_eq_true_eq, decide_eq_false_iff_not, beq_iff_eq, beq_eq_false_iff_ne, ne_eq, bne_iff_ne, Bool.not_eq_true', Bool.not_eq_false', Int.not_lt, Int.not_le, gt_iff_lt, ge_iff_le, bne_eq_false_iff_eq, Bool.not_eq_eq_eq_not, Bool.not_true, Bool.not_false] at c1
      have hfm : formedP op col vals.length m = true := by simpa using c1
      have hkn : known op = true := by { cases h : known op with | true => rfl | false => rw [formedP, h] at hfm; cases hfm }
      obtain ⟨o, rfl, ho⟩ := known_nat hkn
      refine ACode.seq ?_
      refine ACode.region' [0, 1, 2, 3, 4, 5, 6] (by kernel_rfl) rfl ?_
      refine aOps_1 rfl rfl rfl (AOp.fieldAddr' rfl (by decide) rfl ?_)
      refine aOps_1 rfl rfl rfl ?_
      refine AOp.load1 (b := ?b4) (v := ?v4) rfl rfl ?hn4 ?hv4 ?hR4
      (case hn4 => exact hpA)
      (case hv4 => rfl)
      refine aOps_1 rfl rfl rfl (AOp.indexAddr_arr' rfl rfl rfl (by omega) (by omega) ?_)
      refine aOps_1 rfl rfl rfl (AOp.fieldAddr' rfl (by decide) rfl ?_)
      refine aOps_1 rfl rfl rfl (AOp.load1 (b := shBlk) (v := .bool (sh o).col) rfl rfl hpA (by show shT[0 + (o : Int).toNat * 5 + 0]? = _; rw [show 0 + (o : Int).toNat * 5 + 0 = o * 5 + 0 by omega]; exact sh_get ho (by decide)) ?_)
      refine aOps_1 rfl rfl rfl (AOp.un' rfl rfl rfl ?_)
      refine aOps_1 rfl rfl rfl (AOp.move' (.inr rfl) rfl ?_)
      refine aOps_end ?_
      show ACode _ _ _ _ _ _
      refine ACode.cond rfl (fun c2 => ?_) (fun c2 => ?_)
      · try simp only [decide_eq_true_eq, decide_eq_false_iff_not, beq_iff_eq, beq_eq_false_iff_ne, ne_eq, bne_iff_ne, Bool.not_eq_true', Bool.not_eq_false', Int.not_lt, Int.not_le, gt_iff_lt, ge_iff_le, bne_eq_false_iff_eq, Bool.not_eq_eq_eq_not, Bool.not_true, Bool.not_false] at c2
        have hcb : (sh o).col = false := by simpa using c2
        refine ACode.seq ?_
        refine ACode.region' [0] (by kernel_rfl) rfl ?_
        refine aOps_1 rfl rfl rfl (AOp.move' (.inr rfl) rfl ?_)
        refine aOps_end ?_
        show ACode _ _ _ _ _ _
        refine ACode.ret ?_
        exact RetQ.one rfl rfl subA stays (fun hk => ⟨(by rw [ownP, if_neg hn0, if_pos hfm, Int.toNat_natCast, if_neg (by rw [hcb]; decide)]), rfl, by omega⟩)
      · try simp only [decide_eq_true_eq, decide_eq_false_iff_not, beq_iff_eq, beq_eq_false_iff_ne, ne_eq, bne_iff_ne, Bool.not_eq_true', Bool.not_eq_false', Int.not_lt, Int.not_le, gt_iff_lt, ge_iff_le, bne_eq_false_iff_eq, Bool.not_eq_eq_eq_not, Bool.not_true, Bool.not_false] at c2
        have hcb : (sh o).col = true := by simpa using c2
        refine ACode.seq ?_
        refine ACode.region' [0, 1, 2, 3, 4, 5, 6, 7, 8, 9, 10] (by kernel_rfl) rfl ?_
        refine aOps_1 rfl rfl rfl (AOp.fieldAddr' rfl (by decide) rfl ?_)
        refine aOps_1 rfl rfl rfl ?_
        refine AOp.load1 (b := ?b5) (v := ?v5) rfl rfl ?hn5 ?hv5 ?hR5
        (case hn5 => exact hpA)
        (case hv5 => rfl)
        refine aOps_1 rfl rfl rfl (AOp.bin' rfl rfl rfl rfl ?_)
        refine aOps_1 rfl rfl rfl (AOp.move' (.inl rfl) rfl ?_)
        refine aOps_gd0 rfl rfl (wantF rfl rfl rfl) (fun hc => AOp.slots [(3, _)] (.cons rfl .nil) (AOp.fieldAddr' rfl (by decide) rfl ⟨rfl, rfl, rfl⟩)) ?_
        refine aOps_gd0 rfl rfl (wantF rfl rfl rfl) (fun hc => AOp.slots [(36, _)] (.cons (gvT rfl hc) .nil) ((by refine AOp.load1 (b := ?b6) (v := ?v6) rfl rfl ?hn6 ?hv6 ?hR6; (case hn6 => exact hpA); (case hv6 => rfl); exact ⟨rfl, rfl, rfl⟩))) ?_
        refine aOps_gd0 rfl rfl (wantF rfl rfl rfl) (fun hc => AOp.slots [(0, _)] (.cons rfl .nil) (AOp.move' (.inl rfl) rfl ⟨rfl, rfl, rfl⟩)) ?_
        refine aOps_gd0 rfl rfl (wantF rfl rfl rfl) (fun hc => AOp.slots [(38, _)] (.cons (gvT rfl hc) .nil) (AOp.len' rfl rfl ⟨rfl, rfl, rfl⟩)) ?_
        refine aOps_gd0 rfl rfl (wantF rfl rfl rfl) (fun hc => AOp.slots [(37, _), (39, _)] (.cons (gvT rfl hc) (.cons (gvT rfl hc) .nil)) (AOp.bin' rfl rfl rfl rfl ⟨rfl, rfl, rfl⟩)) ?_
        refine aOps_1 rfl rfl rfl (AOp.pickOr rfl rfl rfl (fun hb => gvE rfl (t_not hb)) ?_)
        refine aOps_1 rfl rfl rfl (AOp.move' (.inr rfl) rfl ?_)
        refine aOps_end ?_
        show ACode _ _ _ _ _ _
        refine ACode.cond rfl (fun c3 => ?_) (fun c3 => ?_)
        · try simp only [decide_eq_true_eq, decide_eq_false_iff_not, beq_iff_eq, beq_eq_false_iff_ne, ne_eq, bne_iff_ne, Bool.not_eq_true', Bool.not_eq_false', Int.not_lt, Int.not_le, gt_iff_lt, ge_iff_le, bne_eq_false_iff_eq, Bool.not_eq_eq_eq_not, Bool.not_true, Bool.not_false] at c3
          refine ACode.seq ?_
          refine ACode.region' [0] (by kernel_rfl) rfl ?_
          refine aOps_1 rfl rfl rfl (AOp.move' (.inr rfl) rfl ?_)
          refine aOps_end ?_
          show ACode _ _ _ _ _ _
          refine ACode.ret ?_
          exact RetQ.one rfl rfl subA stays (fun hk => ⟨(by rw [ownP, if_neg hn0, if_pos hfm, Int.toNat_natCast, if_pos hcb, if_pos c3]), rfl, by omega⟩)
        · try simp only [decide_eq_true_eq, decide_eq_false_iff_not, beq_iff_eq, beq_eq_false_iff_ne, ne_eq, bne_iff_ne, Bool.not_eq_true', Bool.not_eq_false', Int.not_lt, Int.not_le, gt_iff_lt, ge_iff_le, bne_eq_false_iff_eq, Bool.not_eq_eq_eq_not, Bool.not_true, Bool.not_false] at c3
          have hn3 : ¬ (decide (col < 0) || decide (col ≥ (cols.length : Int))) = true := by rw [c3]; decide
          simp only [Bool.or_eq_false_iff, decide_eq_false_iff_not] at c3
          obtain ⟨x, rfl⟩ : ∃ x : Nat, col = x := ⟨col.toNat, by omega⟩
          have hxr : x < cols.length := by omega
          refine ACode.skip ?_
          show ACode _ _ _ _ _ _
          refine ACode.seq ?_
          obtain ⟨n9_3, o9_3, s9_3, hq9_3, hp9_3⟩ := slcC hC hxr
          refine ACode.region' [0, 1, 2, 3, 4, 5, 6, 7, 8] (by kernel_rfl) rfl ?_
          refine aOps_1 rfl rfl rfl (AOp.move' (.inl rfl) rfl ?_)
          refine aOps_1 rfl rfl rfl (AOp.fieldAddr' rfl (by decide) rfl ?_)
          refine aOps_1 rfl rfl rfl ?_
          refine AOp.load1 (b := ?b7) (v := ?v7) rfl rfl ?hn7 ?hv7 ?hR7
          (case hn7 => exact hpA)
          (case hv7 => rfl)
          refine aOps_1 rfl rfl rfl (AOp.indexP (aslcAt_sub subA hq9_3) rfl rfl rfl ?_)
          refine aOps_1 rfl rfl rfl (AOp.fieldP (hp9_3.sub subA) rfl (by decide) (Nat.le_of_ble_eq_true rfl) rfl ?_)
          refine aOps_1 rfl rfl rfl (AOp.loadP1 (hp9_3.sub subA) rfl rfl rfl ?_)
          refine aOps_1 rfl rfl rfl (AOp.buildS (cells := #[.int .i64 (cols.getD x cD).kind, .bool false, .int .i64 0]) rfl rfl rfl ?_)
          refine aOps_1 rfl rfl rfl (AOp.buildH (cols3 [⟨(cols.getD x cD).kind, false, 0⟩]) rfl rfl (by show 0 < 3; decide) (by show 3 ≤ 16777216; decide) rfl rfl ?_)
          refine aOps_1 rfl rfl rfl (AOp.move' (.inr rfl) rfl ?_)
          refine aOps_end ?_
          show ACode _ _ _ _ _ _
          refine ACode.seq ?_
          refine ACode.seq ?_
          refine ACode.region' [0, 1, 2, 3] (by kernel_rfl) rfl ?_
          refine aOps_1 rfl rfl rfl (AOp.fieldAddr' rfl (by decide) rfl ?_)
          refine aOps_1 rfl rfl rfl ?_
          refine AOp.load1 (b := ?b8) (v := ?v8) rfl rfl ?hn8 ?hv8 ?hR8
          (case hn8 => exact hpA)
          (case hv8 => rfl)
          refine aOps_1 rfl rfl rfl (AOp.len' rfl rfl ?_)
          refine aOps_1 rfl rfl rfl (AOp.move' (.inl rfl) rfl ?_)
          refine aOps_end ?_
          show ACode _ _ _ _ _ _
          refine ACode.block ?_
          refine ACode.count0 (fun i => [(53, .int .i64 (i : Int))]) [(5, _), (51, _), (52, _)] (vals.length) (fun i => firstI (errV (cols.getD x cD).kind) vals = firstI (errV (cols.getD x cD).kind) (vals.drop i)) (.cons rfl .nil) (.cons rfl (.cons rfl (.cons rfl .nil))) rfl (fun i0 kL0 HL0 hiL0 hkL0 hsL0 hfL0 hxL0 => ?_)
          show ACode _ _ _ _ _ ⟨_, _, _⟩
          have tsL0 := SubS.of hsL0
          refine ACode.seq ?_
          refine ACode.region' [0] (by kernel_rfl) rfl ?_
          refine aOps_1 rfl rfl rfl (AOp.bin' rfl rfl rfl rfl ?_)
          refine aOps_end ?_
          show ACode _ _ _ _ _ _
          refine ACode.seq ?_
          refine ACode.cond rfl (fun c4 => ?_) (fun c4 => ?_)
          · try simp only [decide_eq_true_eq, decide_eq_false_iff_not, beq_iff_eq, beq_eq_false_iff_ne, ne_eq, bne_iff_ne, Bool.not_eq_true', Bool.not_eq_false', Int.not_lt, Int.not_le, gt_iff_lt, ge_iff_le, bne_eq_false_iff_eq, Bool.not_eq_eq_eq_not, Bool.not_true, Bool.not_false] at c4
            refine ACode.skip ?_
            show ACode _ _ _ _ _ _
            refine ACode.seq ?_
            refine ACode.block ?_
            refine ACode.seq ?_
            obtain ⟨n12_0, o12_0, s12_0, hq12_0, hp12_0⟩ := slcV hA (show i0 < vals.length by omega)
            refine ACode.region' [0, 1, 2, 3] (by kernel_rfl) rfl ?_
            refine aOps_1 rfl rfl rfl (AOp.indexP (aslcAt_sub subA hq12_0) rfl rfl rfl ?_)
            refine aOps_1 rfl rfl rfl (AOp.loadPA (v := vv (vals.getD i0 vD)) (hp12_0.sub subA) rfl rfl rfl rfl (by first | rfl | (simp; done)) (by decide) ?_)
            refine aOps_1 rfl rfl rfl (AOp.alloc' rfl ?_)
            refine aOps_0 rfl rfl rfl ?_
            refine AOp.storeAll (b := ?b9) rfl rfl rfl ?hn9 ?hk9 rfl ?hw9 ?ho9 ?hl9 ?hR9
            (case hn9 => exact hpA)
            (case hk9 => rfl)
            (case hw9 => first | rfl | (simp; done))
            (case ho9 => first | rfl | decide | (simp; done))
            (case hl9 => first | rfl | (simp; done))
            refine aOps_end ?_
            show ACode _ _ _ _ _ _
            refine ACode.seq ?_
            have hm0 : vals.getD i0 vD ∈ vals := by rw [← getD_i (by omega)]; exact List.getElem_mem _
            refine ACode.region' [0, 1, 2, 3, 4] (by kernel_rfl) rfl ?_
            refine aOps_1 rfl rfl rfl (AOp.move' (.inl rfl) rfl ?_)
            refine aOps_1 rfl rfl rfl ?_
            refine AOp.loadAll (b := ?b10) (v := vv (vals.getD i0 vD)) rfl rfl ?hn10 ?hv10 ?hw10 ?hz10 ?hR10
            (case hn10 => exact hpA)
            (case hv10 => rfl)
            (case hw10 => rfl)
            (case hz10 => first | rfl | (simp; done))
            refine aOps_1 rfl rfl rfl (AOp.buildH (vals3 [vals.getD i0 vD]) rfl rfl (by show 0 < 3; decide) (by show 3 ≤ 16777216; decide) rfl rfl ?_)
            refine aOps_q rfl rfl rfl (AOp.call' rfl rfl rfl (row_vals 3 _ _ [⟨(cols.getD x cD).kind, false, 0⟩] [vals.getD i0 vD] (some ⟨kf, 0, some 1⟩) 1 (slcCells_grow (n := kf) (b := { cells := cols3 [⟨(cols.getD x cD).kind, false, 0⟩], elem := 121, kind := .grow, esz := 3 }) hpA rfl rfl) (some ⟨_, 0, some 1⟩) 1 (slcCells_grow (b := { cells := vals3 [vals.getD i0 vD], elem := 59, kind := .grow, esz := 3 }) hpA rfl rfl) (by show 1 ≤ 9223372036854775807; decide) (by intro v hv; rw [List.mem_singleton.1 hv]; exact hok _ hm0)) (fun _ _ _ h => h)) (fun kq hkq => ?_)
            refine aOps_1 rfl rfl rfl (AOp.move' (.inr rfl) rfl ?_)
            refine aOps_end ?_
            show ACode _ _ _ _ _ _
            refine ACode.seq ?_
            refine ACode.region' [0, 1] (by kernel_rfl) rfl ?_
            refine aOps_1 rfl rfl rfl (AOp.move' (.inl rfl) rfl ?_)
            refine aOps_1 rfl rfl rfl (AOp.bin' rfl rfl rfl rfl ?_)
            refine aOps_end ?_
            show ACode _ _ _ _ _ _
            refine ACode.cond rfl (fun c5 => ?_) (fun c5 => ?_)
            · try simp only [decide_eq_true_eq, decide_eq_false_iff_not, beq_iff_eq, beq_eq_false_iff_ne, ne_eq, bne_iff_ne, Bool.not_eq_true', Bool.not_eq_false', Int.not_lt, Int.not_le, gt_iff_lt, ge_iff_le, bne_eq_false_iff_eq, Bool.not_eq_eq_eq_not, Bool.not_true, Bool.not_false] at c5
              refine ACode.seq ?_
              refine ACode.region' [0, 1] (by kernel_rfl) rfl ?_
              refine aOps_1 rfl rfl rfl (AOp.move' (.inl rfl) rfl ?_)
              refine aOps_1 rfl rfl rfl (AOp.move' (.inr rfl) rfl ?_)
              refine aOps_end ?_
              show ACode _ _ _ _ _ _
              refine ACode.ret ?_
              exact RetQ.one rfl rfl subA stays (fun hk => ⟨(by rw [ownP, if_neg hn0, if_pos hfm, Int.toNat_natCast, if_pos hcb, if_neg hn3, Int.toNat_natCast, hxL0, firstI_hit vD (by omega) c5]; rfl), rfl, by omega⟩)
            · try simp only [decide_eq_true_eq, decide_eq_false_iff_not, beq_iff_eq, beq_eq_false_iff_ne, ne_eq, bne_iff_ne, Bool.not_eq_true', Bool.not_eq_false', Int.not_lt, Int.not_le, gt_iff_lt, ge_iff_le, bne_eq_false_iff_eq, Bool.not_eq_eq_eq_not, Bool.not_true, Bool.not_false] at c5
              refine ACode.skip ?_
              show ACode _ _ _ _ _ _
              refine ACode.region' [0, 1] (by kernel_rfl) rfl ?_
              refine aOps_1 rfl rfl rfl (AOp.add rfl rfl rfl (i64_wrap (by omega) (by omega)) ?_)
              refine aOps_1 rfl rfl rfl (AOp.move' (.inl rfl) rfl ?_)
              refine aOps_end ?_
              first | refine thenA_n ?_ | simp only [thenA, blockA, if_true]
              exact NextR.mk (by omega) (by omega) (.cons rfl .nil) (.cons rfl (.cons rfl (.cons rfl .nil))) subA (hxL0.trans (firstI_step vD (by omega) c5))
          · try simp only [decide_eq_true_eq, decide_eq_false_iff_not, beq_iff_eq, beq_eq_false_iff_ne, ne_eq, bne_iff_ne, Bool.not_eq_true', Bool.not_eq_false', Int.not_lt, Int.not_le, gt_iff_lt, ge_iff_le, bne_eq_false_iff_eq, Bool.not_eq_eq_eq_not, Bool.not_true, Bool.not_false] at c4
            refine ACode.exit ?_
            show ACode _ _ _ _ _ _
            refine ACode.seq ?_
            refine ACode.region' [0] (by kernel_rfl) rfl ?_
            refine aOps_1 rfl rfl rfl (AOp.move' (.inr rfl) rfl ?_)
            refine aOps_end ?_
            show ACode _ _ _ _ _ _
            refine ACode.ret ?_
            exact RetQ.one rfl rfl subA stays (fun hk => ⟨(by rw [ownP, if_neg hn0, if_pos hfm, Int.toNat_natCast, if_pos hcb, if_neg hn3, Int.toNat_natCast, hxL0, List.drop_eq_nil_of_le (by omega)]; rfl), rfl, by omega⟩)

theorem check_c : ∀ (N : Nat) (p : Pd) (v : Value) (deep : Nat) (cols : List Col) (C : Option Addr) (e : Nat) (H : Hp) (k : Nat), H 0 = some shBlk → PdV H p v → slcCells H 3 (.slice C cols.length e) = some (cols3 cols) → cols.length ≤ 9223372036854775807 → deep ≤ 32 → SizeOf.sizeOf p < N → ACalls Tryd.prog 3 90 [.slice C cols.length e, v, .int .i64 (deep : Int)] H k (Same H k (.int .i64 (checkP cols p deep))) := by
  intro N
  induction N
  case zero => intro p v deep cols C e H k ht hp hC hcn hd hN; exact absurd hN (Nat.not_lt_zero _)
  rename_i N ih
  intro p v deep cols C e H k ht hp hC hcn hd hN
  cases p
  rename_i op col vals of
  rw [PdV] at hp
  obtain ⟨A, c, B, d, bs, rfl, hA, hvl, hol, hop, hcl, hok, hB, hPs⟩ := hp
  refine ACalls.fresh fun hf => ?_
  refine ACalls.body Tryd.func90 rfl (Nat.le_of_ble_eq_true rfl) ?_
  have h0k := old_lt hf ht
  refine ACode.seq ?_
  refine ACode.region' [0, 1] (by kernel_rfl) rfl ?_
  refine aOps_1 rfl rfl rfl (AOp.boxV rfl rfl ?_)
  refine aOps_1 rfl rfl rfl (AOp.move' (.inr rfl) rfl ?_)
  refine aOps_end ?_
  show ACode _ _ _ _ _ _
  refine ACode.seq ?_
  refine ACode.seq ?_
  refine ACode.region' [0, 1] (by kernel_rfl) rfl ?_
  refine aOps_1 rfl rfl rfl (AOp.move' (.inl rfl) rfl ?_)
  refine aOps_1 rfl rfl rfl (AOp.bin' rfl rfl rfl rfl ?_)
  refine aOps_end ?_
  show ACode _ _ _ _ _ _
  refine ACode.cond rfl (fun c0 => ?_) (fun c0 => ?_)
  · try simp only [decide_eq_true_eq, decide_eq_false_iff_not, beq_iff_eq, beq_eq_false_iff_ne, ne_eq, bne_iff_ne, Bool.not_eq_true', Bool.not_eq_false', Int.not_lt, Int.not_le, gt_iff_lt, ge_iff_le, bne_eq_false_iff_eq, Bool.not_eq_eq_eq_not, Bool.not_true, Bool.not_false] at c0
    have hd32 : deep = 32 := by omega
    refine ACode.seq ?_
    refine ACode.region' [0] (by kernel_rfl) rfl ?_
    refine aOps_1 rfl rfl rfl (AOp.move' (.inr rfl) rfl ?_)
    refine aOps_end ?_
    show ACode _ _ _ _ _ _
    refine ACode.ret ?_
    exact RetQ.one rfl rfl subA stays (fun hk => ⟨(by rw [checkP, if_pos hd32]), rfl, by omega⟩)
  · try simp only [decide_eq_true_eq, decide_eq_false_iff_not, beq_iff_eq, beq_eq_false_iff_ne, ne_eq, bne_iff_ne, Bool.not_eq_true', Bool.not_eq_false', Int.not_lt, Int.not_le, gt_iff_lt, ge_iff_le, bne_eq_false_iff_eq, Bool.not_eq_eq_eq_not, Bool.not_true, Bool.not_false] at c0
    have hd32 : ¬ deep = 32 := by omega
    refine ACode.skip ?_
    show ACode _ _ _ _ _ _
    refine ACode.seq ?_
    refine ACode.seq ?_
    refine ACode.region' [0, 1, 2, 3] (by kernel_rfl) rfl ?_
    refine aOps_1 rfl rfl rfl (AOp.move' (.inl rfl) rfl ?_)
    refine aOps_1 rfl rfl rfl ?_
    refine AOp.loadAll (b := ?b11) (v := pv op col A vals.length c B of.length d) rfl rfl ?hn11 ?hv11 ?hw11 ?hz11 ?hR11
    (case hn11 => exact hpA)
    (case hv11 => rfl)
    (case hw11 => rfl)
    (case hz11 => first | rfl | (simp; done))
    refine aOps_q rfl rfl rfl (AOp.call' rfl rfl rfl (own_b _ _ hpA cols C e (slcCells_sub subA hC) hcn op col hop vals A c (slcCells_sub subA hA) hvl B of.length d hol hok) (fun _ _ _ h => h)) (fun kq hkq => ?_)
    refine aOps_1 rfl rfl rfl (AOp.move' (.inr rfl) rfl ?_)
    refine aOps_end ?_
    show ACode _ _ _ _ _ _
    refine ACode.seq ?_
    refine ACode.region' [0, 1] (by kernel_rfl) rfl ?_
    refine aOps_1 rfl rfl rfl (AOp.move' (.inl rfl) rfl ?_)
    refine aOps_1 rfl rfl rfl (AOp.bin' rfl rfl rfl rfl ?_)
    refine aOps_end ?_
    show ACode _ _ _ _ _ _
    refine ACode.cond rfl (fun c1 => ?_) (fun c1 => ?_)
    · try simp only [decide_eq_true_eq, decide_eq_false_iff_not, beq_iff_eq, beq_eq_false_iff_ne, ne_eq, bne_iff_ne, Bool.not_eq_true', Bool.not_eq_false', Int.not_lt, Int.not_le, gt_iff_lt, ge_iff_le, bne_eq_false_iff_eq, Bool.not_eq_eq_eq_not, Bool.not_true, Bool.not_false] at c1
      refine ACode.seq ?_
      refine ACode.region' [0, 1] (by kernel_rfl) rfl ?_
      refine aOps_1 rfl rfl rfl (AOp.move' (.inl rfl) rfl ?_)
      refine aOps_1 rfl rfl rfl (AOp.move' (.inr rfl) rfl ?_)
      refine aOps_end ?_
      show ACode _ _ _ _ _ _
      refine ACode.ret ?_
      exact RetQ.one rfl rfl subA stays (fun hk => ⟨(by rw [checkP, if_neg hd32, if_neg c1]), rfl, by omega⟩)
    · try simp only [decide_eq_true_eq, decide_eq_false_iff_not, beq_iff_eq, beq_eq_false_iff_ne, ne_eq, bne_iff_ne, Bool.not_eq_true', Bool.not_eq_false', Int.not_lt, Int.not_le, gt_iff_lt, ge_iff_le, bne_eq_false_iff_eq, Bool.not_eq_eq_eq_not, Bool.not_true, Bool.not_false] at c1
      have ho0 : ownP cols op col vals of.length = 0 := c1
      refine ACode.skip ?_
      show ACode _ _ _ _ _ _
      refine ACode.seq ?_
      refine ACode.seq ?_
      refine ACode.region' [0, 1, 2, 3] (by kernel_rfl) rfl ?_
      refine aOps_1 rfl rfl rfl (AOp.fieldAddr' rfl (by decide) rfl ?_)
      refine aOps_1 rfl rfl rfl ?_
      refine AOp.load1 (b := ?b12) (v := ?v12) rfl rfl ?hn12 ?hv12 ?hR12
      (case hn12 => exact hpA)
      (case hv12 => rfl)
      refine aOps_1 rfl rfl rfl (AOp.len' rfl rfl ?_)
      refine aOps_1 rfl rfl rfl (AOp.move' (.inl rfl) rfl ?_)
      refine aOps_end ?_
      show ACode _ _ _ _ _ _
      refine ACode.block ?_
      refine ACode.count0 (fun i => [(22, .int .i64 (i : Int))]) [(0, _), (2, _), (20, _), (21, _)] (of.length) (fun i => checkPs cols of (deep + 1) = firstI (fun p => checkP cols p (deep + 1)) (of.drop i)) (.cons rfl .nil) (.cons rfl (.cons rfl (.cons rfl (.cons rfl .nil)))) (checkPs_first cols (deep + 1) of) (fun i0 kL0 HL0 hiL0 hkL0 hsL0 hfL0 hxL0 => ?_)
      show ACode _ _ _ _ _ ⟨_, _, _⟩
      have tsL0 := SubS.of hsL0
      refine ACode.seq ?_
      refine ACode.region' [0] (by kernel_rfl) rfl ?_
      refine aOps_1 rfl rfl rfl (AOp.bin' rfl rfl rfl rfl ?_)
      refine aOps_end ?_
      show ACode _ _ _ _ _ _
      refine ACode.seq ?_
      refine ACode.cond rfl (fun c2 => ?_) (fun c2 => ?_)
      · try simp only [decide_eq_true_eq, decide_eq_false_iff_not, beq_iff_eq, beq_eq_false_iff_ne, ne_eq, bne_iff_ne, Bool.not_eq_true', Bool.not_eq_false', Int.not_lt, Int.not_le, gt_iff_lt, ge_iff_le, bne_eq_false_iff_eq, Bool.not_eq_eq_eq_not, Bool.not_true, Bool.not_false] at c2
        refine ACode.skip ?_
        show ACode _ _ _ _ _ _
        refine ACode.seq ?_
        refine ACode.block ?_
        refine ACode.seq ?_
        obtain ⟨n8_0, o8_0, s8_0, v1, hq8_0, hp8_0, hv1⟩ := PdVs.el pD hB hPs (show i0 < of.length by omega)
        obtain ⟨xo, xc, xA, xl, xcc, xB, xm, xd, rfl⟩ := hv1.form
        refine ACode.region' [0, 1, 2, 3] (by kernel_rfl) rfl ?_
        refine aOps_1 rfl rfl rfl (AOp.indexP (aslcAt_sub subA hq8_0) rfl rfl rfl ?_)
        refine aOps_1 rfl rfl rfl (AOp.loadPA (v := pv xo xc xA xl xcc xB xm xd) (hp8_0.sub subA) rfl rfl rfl rfl rfl (by show 0 < 4; decide) ?_)
        refine aOps_1 rfl rfl rfl (AOp.alloc' rfl ?_)
        refine aOps_0 rfl rfl rfl ?_
        refine AOp.storeAll (b := ?b13) rfl rfl rfl ?hn13 ?hk13 rfl ?hw13 ?ho13 ?hl13 ?hR13
        (case hn13 => exact hpA)
        (case hk13 => rfl)
        (case hw13 => first | rfl | (simp; done))
        (case ho13 => first | rfl | decide | (simp; done))
        (case hl13 => first | rfl | (simp; done))
        refine aOps_end ?_
        show ACode _ _ _ _ _ _
        refine ACode.seq ?_
        refine ACode.region' [0, 1, 2, 3, 4, 5] (by kernel_rfl) rfl ?_
        refine aOps_1 rfl rfl rfl (AOp.move' (.inl rfl) rfl ?_)
        refine aOps_1 rfl rfl rfl ?_
        refine AOp.loadAll (b := ?b14) (v := pv xo xc xA xl xcc xB xm xd) rfl rfl ?hn14 ?hv14 ?hw14 ?hz14 ?hR14
        (case hn14 => exact hpA)
        (case hv14 => rfl)
        (case hw14 => rfl)
        (case hz14 => first | rfl | (simp; done))
        refine aOps_1 rfl rfl rfl (AOp.move' (.inl rfl) rfl ?_)
        refine aOps_1 rfl rfl rfl (AOp.add rfl rfl rfl (i64_wrap (by omega) (by omega)) ?_)
        rw [show ((deep : Int) + 1) = ((deep + 1 : Nat) : Int) by omega]
        refine aOps_q rfl rfl rfl (AOp.call' rfl rfl rfl (ih (of.getD i0 pD) (pv xo xc xA xl xcc xB xm xd) (deep + 1) cols C e _ _ hpA (hv1.sub subA) (slcCells_sub subA hC) hcn (by omega) (by have := Pd.lt (op := op) (col := col) (vals := vals) (pd_getD (ps := of) (i := i0) (by omega)); omega)) (fun _ _ _ h => h)) (fun kq hkq => ?_)
        refine aOps_1 rfl rfl rfl (AOp.move' (.inr rfl) rfl ?_)
        refine aOps_end ?_
        show ACode _ _ _ _ _ _
        refine ACode.seq ?_
        refine ACode.region' [0, 1] (by kernel_rfl) rfl ?_
        refine aOps_1 rfl rfl rfl (AOp.move' (.inl rfl) rfl ?_)
        refine aOps_1 rfl rfl rfl (AOp.bin' rfl rfl rfl rfl ?_)
        refine aOps_end ?_
        show ACode _ _ _ _ _ _
        refine ACode.cond rfl (fun c3 => ?_) (fun c3 => ?_)
        · try simp only [decide_eq_true_eq, decide_eq_false_iff_not, beq_iff_eq, beq_eq_false_iff_ne, ne_eq, bne_iff_ne, Bool.not_eq_true', Bool.not_eq_false', Int.not_lt, Int.not_le, gt_iff_lt, ge_iff_le, bne_eq_false_iff_eq, Bool.not_eq_eq_eq_not, Bool.not_true, Bool.not_false] at c3
          refine ACode.seq ?_
          refine ACode.region' [0, 1] (by kernel_rfl) rfl ?_
          refine aOps_1 rfl rfl rfl (AOp.move' (.inl rfl) rfl ?_)
          refine aOps_1 rfl rfl rfl (AOp.move' (.inr rfl) rfl ?_)
          refine aOps_end ?_
          show ACode _ _ _ _ _ _
          refine ACode.ret ?_
          exact RetQ.one rfl rfl subA stays (fun hk => ⟨(by rw [checkP, if_neg hd32, if_pos ho0, hxL0, firstI_hit pD (by omega) c3]), rfl, by omega⟩)
        · try simp only [decide_eq_true_eq, decide_eq_false_iff_not, beq_iff_eq, beq_eq_false_iff_ne, ne_eq, bne_iff_ne, Bool.not_eq_true', Bool.not_eq_false', Int.not_lt, Int.not_le, gt_iff_lt, ge_iff_le, bne_eq_false_iff_eq, Bool.not_eq_eq_eq_not, Bool.not_true, Bool.not_false] at c3
          refine ACode.skip ?_
          show ACode _ _ _ _ _ _
          refine ACode.region' [0, 1] (by kernel_rfl) rfl ?_
          refine aOps_1 rfl rfl rfl (AOp.add rfl rfl rfl (i64_wrap (by omega) (by omega)) ?_)
          refine aOps_1 rfl rfl rfl (AOp.move' (.inl rfl) rfl ?_)
          refine aOps_end ?_
          first | refine thenA_n ?_ | simp only [thenA, blockA, if_true]
          exact NextR.mk (by omega) (by omega) (.cons rfl .nil) (.cons rfl (.cons rfl (.cons rfl (.cons rfl .nil)))) subA (hxL0.trans (firstI_step pD (by omega) c3))
      · try simp only [decide_eq_true_eq, decide_eq_false_iff_not, beq_iff_eq, beq_eq_false_iff_ne, ne_eq, bne_iff_ne, Bool.not_eq_true', Bool.not_eq_false', Int.not_lt, Int.not_le, gt_iff_lt, ge_iff_le, bne_eq_false_iff_eq, Bool.not_eq_eq_eq_not, Bool.not_true, Bool.not_false] at c2
        refine ACode.exit ?_
        show ACode _ _ _ _ _ _
        refine ACode.seq ?_
        refine ACode.region' [0] (by kernel_rfl) rfl ?_
        refine aOps_1 rfl rfl rfl (AOp.move' (.inr rfl) rfl ?_)
        refine aOps_end ?_
        show ACode _ _ _ _ _ _
        refine ACode.ret ?_
        exact RetQ.one rfl rfl subA stays (fun hk => ⟨(by rw [checkP, if_neg hd32, if_pos ho0, hxL0, List.drop_eq_nil_of_le (by omega)]; rfl), rfl, by omega⟩)

theorem Check_b (ht : H 0 = some shBlk) (p : Pd) (v : Value) (hp : PdV H p v) (cols : List Col) (C : Option Addr) (e : Nat) (hC : slcCells H 3 (.slice C cols.length e) = some (cols3 cols)) (hcn : cols.length ≤ 9223372036854775807) : ACalls Tryd.prog 3 36 [.slice C cols.length e, v] H k (Same H k (.int .i64 (checkP cols p 0))) := by
  obtain ⟨xo, xc, xA, xl, xcc, xB, xm, xd, rfl⟩ := hp.form
  refine ACalls.fresh fun hf => ?_
  refine ACalls.body Tryd.func36 rfl (Nat.le_of_ble_eq_true rfl) ?_
  have h0k := old_lt hf ht
  refine ACode.seq ?_
  refine ACode.region' [0, 1] (by kernel_rfl) rfl ?_
  refine aOps_1 rfl rfl rfl (AOp.boxV rfl rfl ?_)
  refine aOps_1 rfl rfl rfl (AOp.move' (.inr rfl) rfl ?_)
  refine aOps_end ?_
  show ACode _ _ _ _ _ _
  refine ACode.seq ?_
  refine ACode.region' [0, 1, 2, 3] (by kernel_rfl) rfl ?_
  refine aOps_1 rfl rfl rfl (AOp.move' (.inl rfl) rfl ?_)
  refine aOps_1 rfl rfl rfl ?_
  refine AOp.loadAll (b := ?b15) (v := pv xo xc xA xl xcc xB xm xd) rfl rfl ?hn15 ?hv15 ?hw15 ?hz15 ?hR15
  (case hn15 => exact hpA)
  (case hv15 => rfl)
  (case hw15 => rfl)
  (case hz15 => first | rfl | (simp; done))
  refine aOps_q rfl rfl rfl (AOp.call' rfl rfl rfl (check_c (SizeOf.sizeOf p + 1) p _ 0 cols C e _ _ hpA (hp.sub subA) (slcCells_sub subA hC) hcn (by decide) (Nat.lt_succ_self _)) (fun _ _ _ h => h)) (fun kq hkq => ?_)
  refine aOps_1 rfl rfl rfl (AOp.move' (.inr rfl) rfl ?_)
  refine aOps_end ?_
  show ACode _ _ _ _ _ _
  refine ACode.ret ?_
  exact RetQ.one rfl rfl subA stays (fun hk => ⟨rfl, rfl, by omega⟩)
end

end Go.Proofs.YteoofihjmldllaaDoor
