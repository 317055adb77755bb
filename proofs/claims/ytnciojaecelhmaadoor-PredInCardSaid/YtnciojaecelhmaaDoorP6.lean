/- Contracts over the abstract states: the example of predicates; the statement that one of several is the one or the other. -/
import Derived.Test.YtnciojaecelhmaaDoorP5
set_option linter.unusedVariables false
set_option linter.unusedSimpArgs false
set_option maxRecDepth 100000
namespace Go.Proofs.YtnciojaecelhmaaDoor
open Go Go.Ab

theorem pick_mod (x n : Int) (h : 0 < n) : (x.tmod n < 0 → x.tmod n + n = x % n) ∧ (0 ≤ x.tmod n → x.tmod n = x % n) ∧ -n < x.tmod n ∧ x.tmod n < n := by
  have e := @Int.tmod_eq_emod x n
  have r1 := Int.emod_nonneg x (show n ≠ 0 by omega)
  have r2 := Int.emod_lt_of_pos x h
  split at e
  · omega
  · rename_i hc
    have r3 : x % n ≠ 0 := fun h0 => hc (.inr (Int.dvd_of_emod_eq_zero h0))
    omega
theorem PdV.intro {H : Hp} {op col : Int} {vals : List Val} {of : List Pd} {A : Option Addr} {c : Nat} {B : Option Addr} {d : Nat} {bs : List Value} (hA : slcCells H 3 (.slice A vals.length c) = some (vals3 vals)) (h1 : vals.length ≤ 9223372036854775807) (h2 : of.length ≤ 9223372036854775807) (h3 : -9223372036854775808 ≤ op ∧ op ≤ 9223372036854775807) (h4 : -9223372036854775808 ≤ col ∧ col ≤ 9223372036854775807) (h5 : ∀ v ∈ vals, v.ok) (hB : SLC H 4 B of.length d bs) (hP : PdVs H of bs) :
    PdV H (.mk op col vals of) (pv op col A vals.length c B of.length d) := by
  rw [PdV]
  exact ⟨A, c, B, d, bs, rfl, hA, h1, h2, h3, h4, h5, hB, hP⟩
theorem PdVs.nil {H : Hp} : PdVs H [] [] := by rw [PdVs]
theorem PdVs.cons {H : Hp} {p : Pd} {ps : List Pd} {v : Value} {r : List Value} (h : PdV H p v) (hr : PdVs H ps r) : PdVs H (p :: ps) (v.cells.toList ++ r) := by
  rw [PdVs]
  exact ⟨v, r, rfl, h, hr⟩
abbrev v5 : Val := ⟨1, 5, ⟨#[]⟩⟩
abbrev v4 : Val := ⟨1, 4, ⟨#[]⟩⟩
abbrev pA : Pd := .mk 3 0 [v5] []
theorem awkP1 : evalP pA [vD] = 1 := by decide +kernel
theorem awkP2 : evalP pA [v4] = 2 := by decide +kernel
theorem awkP3 : checkP [] pA 0 = 8 := by decide +kernel
/-! ### One of several -/
theorem eval_col {m x : Nat} {vals : List Val} {of : List Pd} {row : List Val} (hm : m < 13) (hc : (sh m).col = true) (hx : x < row.length) : evalP (.mk (m : Int) (x : Int) vals of) row = ofValueP (m : Int) (x : Int) vals of.length (row.getD x vD) := by
  have hk : known (m : Int) = true := by
    unfold known
    rw [decide_eq_true (show (m : Int) ≥ 0 by omega), decide_eq_true (show (m : Int) < 13 by omega)]
    rfl
  rw [evalP, if_pos hk, Int.toNat_natCast, if_pos hc, if_neg (by simp; omega), Int.toNat_natCast]
theorem formed_ok {m x v : Nat} (hm : m < 13) (hc : (sh m).col = true) (h1 : (sh m).v ≤ v) (h2 : v ≤ (sh m).mv) (h3 : (sh m).p = 0) : formedP (m : Int) (x : Int) v 0 = true := by
  unfold formedP fitsP known
  rw [Int.toNat_natCast, hc, h3]
  simp
  omega
theorem fold_truth (f : Val → Bool) : ∀ (l : List Val) (b : Bool), (l.map fun u => truthI (f u)).foldl (fun a x => if (11 : Int) = 10 then min a x else max a x) (truthI b) = truthI (b || l.any f)
  | [], b => by rw [List.any_nil, Bool.or_false]; rfl
  | u :: l, b => by
    have e : (if (11 : Int) = 10 then min (truthI b) (truthI (f u)) else max (truthI b) (truthI (f u))) = truthI (b || f u) := by cases b <;> cases f u <;> rfl
    rw [List.map_cons, List.foldl_cons, e, fold_truth f l, List.any_cons, Bool.or_assoc]
theorem fold_ones (α : Type) : ∀ (l : List α), (l.map fun _ => (1 : Int)).foldl (fun a x => if (11 : Int) = 10 then min a x else max a x) 1 = 1
  | [] => rfl
  | u :: l => by
    rw [List.map_cons, List.foldl_cons]
    exact fold_ones α l
abbrev eqs (x : Nat) (vals : List Val) : List Pd := vals.map fun v => Pd.mk ((1 : Nat) : Int) (x : Int) [v] []
theorem in_or {x : Nat} {vals row : List Val} (hx : x < row.length) (h1 : 2 ≤ vals.length) (h2 : vals.length ≤ 256) : evalP (.mk ((7 : Nat) : Int) (x : Int) vals []) row = evalP (.mk 11 0 [] (eqs x vals)) row := by
  rw [eval_col (by decide) (by decide) hx, evalP, if_pos (by decide), if_neg (by decide), if_neg (by decide), evalPs_map, List.map_map]
  have hf : formedP ((7 : Nat) : Int) (x : Int) vals.length ([] : List Pd).length = true := formed_ok (by decide) (by decide) (Nat.zero_le _) h2 rfl
  have he : (eqs x vals).map (fun p => evalP p row) = vals.map fun u => if ((row.getD x vD).kind == 0) = true then (1 : Int) else truthI (cmpV (row.getD x vD) u == 0) := by
    rw [eqs, List.map_map]
    refine List.map_congr_left fun u _ => ?_
    show evalP (.mk ((1 : Nat) : Int) (x : Int) [u] []) row = _
    rw [eval_col (by decide) (by decide) hx, ofValueP, if_neg (by decide)]
    have hf1 : formedP ((1 : Nat) : Int) (x : Int) [u].length ([] : List Pd).length = true := formed_ok (by decide) (by decide) (show 1 ≤ 1 by decide) (show 1 ≤ 1 by decide) rfl
    rw [hf1]
    cases hk : (row.getD x vD).kind == 0 with
    | true => rfl
    | false => rfl
  rw [← List.map_map, he, ofValueP, if_neg (by decide), hf]
  match vals, h1 with
  | u :: us, _ =>
    cases hk : (row.getD x vD).kind == 0 with
    | true =>
      simp only [if_true]
      exact (fold_ones Val us).symm
    | false =>
      have := fold_truth (fun u => cmpV (row.getD x vD) u == 0) us (cmpV (row.getD x vD) u == 0)
      exact this.symm
theorem between_and {x : Nat} {row : List Val} (a b : Val) (hx : x < row.length) : evalP (.mk ((8 : Nat) : Int) (x : Int) [a, b] []) row = evalP (.mk 10 0 [] [.mk ((6 : Nat) : Int) (x : Int) [a] [], .mk ((4 : Nat) : Int) (x : Int) [b] []]) row := by
  rw [eval_col (by decide) (by decide) hx, evalP, if_pos (by decide), if_neg (by decide), if_neg (by decide), evalPs_map]
  simp only [List.map_cons, List.map_nil]
  rw [eval_col (by decide) (by decide) hx, eval_col (by decide) (by decide) hx, ofValueP, ofValueP, ofValueP, if_neg (show ¬ ((8 : Nat) : Int) = 9 by decide), if_neg (show ¬ ((6 : Nat) : Int) = 9 by decide), if_neg (show ¬ ((4 : Nat) : Int) = 9 by decide)]
  have h8 : formedP ((8 : Nat) : Int) (x : Int) [a, b].length ([] : List Pd).length = true := formed_ok (by decide) (by decide) (show 2 ≤ 2 by decide) (show 2 ≤ 2 by decide) rfl
  have h6 : formedP ((6 : Nat) : Int) (x : Int) [a].length ([] : List Pd).length = true := formed_ok (by decide) (by decide) (show 1 ≤ 1 by decide) (show 1 ≤ 1 by decide) rfl
  have h4 : formedP ((4 : Nat) : Int) (x : Int) [b].length ([] : List Pd).length = true := formed_ok (by decide) (by decide) (show 1 ≤ 1 by decide) (show 1 ≤ 1 by decide) rfl
  rw [h8, h6, h4]
  show (if ((row.getD x vD).kind == 0 || !true) = true then (1 : Int) else truthI (decide (cmpV (row.getD x vD) a ≥ 0) && decide (cmpV (row.getD x vD) b ≤ 0))) = min (if ((row.getD x vD).kind == 0 || !true) = true then (1 : Int) else truthI (cmpV (row.getD x vD) a == 0 || decide (cmpV (row.getD x vD) a > 0))) (if ((row.getD x vD).kind == 0 || !true) = true then (1 : Int) else truthI (cmpV (row.getD x vD) b == 0 || decide (cmpV (row.getD x vD) b < 0)))
  cases hk : (row.getD x vD).kind == 0 with
  | true => rfl
  | false =>
    have e1 : decide (cmpV (row.getD x vD) a ≥ 0) = (cmpV (row.getD x vD) a == 0 || decide (cmpV (row.getD x vD) a > 0)) := by rw [Bool.eq_iff_iff]; simp; omega
    have e2 : decide (cmpV (row.getD x vD) b ≤ 0) = (cmpV (row.getD x vD) b == 0 || decide (cmpV (row.getD x vD) b < 0)) := by rw [Bool.eq_iff_iff]; simp; omega
    rw [e1, e2]
    cases (cmpV (row.getD x vD) a == 0 || decide (cmpV (row.getD x vD) a > 0)) <;> cases (cmpV (row.getD x vD) b == 0 || decide (cmpV (row.getD x vD) b < 0)) <;> rfl
theorem rowI_len {p : Col → Val → Bool} {cs : List Col} {vs : List Val} (h : rowI p cs vs = 0) : vs.length = cs.length := by
  unfold rowI at h
  split at h
  · assumption
  · cases h
section
variable (H : Hp) (k : Nat)

theorem pick_b (x n : Int) (h1 : 1 ≤ n) (h2 : n ≤ 9223372036854775807) (hx1 : -9223372036854775808 ≤ x) (hx2 : x ≤ 9223372036854775807) : ACalls Tryd.prog 3 12 [.int .i64 x, .int .i64 n] H k (Same H k (.int .i64 (x % n))) := by
  refine ACalls.fresh fun hf => ?_
  refine ACalls.body Tryd.func12 rfl (Nat.le_of_ble_eq_true rfl) ?_
  refine ACode.seq ?_
  refine ACode.region' [0] (by kernel_rfl) rfl ?_
  refine aOps_1 rfl rfl rfl (AOp.move' (.inr rfl) rfl ?_)
  refine aOps_end ?_
  show ACode _ _ _ _ _ _
  refine ACode.seq ?_
  refine ACode.seq ?_
  refine ACode.region' [0, 1] (by kernel_rfl) rfl ?_
  refine aOps_1 rfl rfl rfl (AOp.move' (.inl rfl) rfl ?_)
  refine aOps_1 rfl rfl rfl (AOp.bin' rfl rfl rfl rfl ?_)
  refine aOps_end ?_
  show ACode _ _ _ _ _ _
  refine ACode.cond rfl (fun c0 => absurd c0 (by simp; omega)) (fun c0 => ?_)
  refine ACode.skip ?_
  show ACode _ _ _ _ _ _
  refine ACode.seq ?_
  refine ACode.region' [0, 1, 2, 3] (by kernel_rfl) rfl ?_
  refine aOps_1 rfl rfl rfl (AOp.move' (.inl rfl) rfl ?_)
  refine aOps_1 rfl rfl rfl (AOp.move' (.inl rfl) rfl ?_)
  refine aOps_1 rfl rfl rfl (AOp.bin' rfl rfl rfl (if_neg (by first | decide | omega)) ?_)
  refine aOps_1 rfl rfl rfl (AOp.move' (.inr rfl) rfl ?_)
  refine aOps_end ?_
  show ACode _ _ _ _ _ _
  refine ACode.seq ?_
  refine ACode.seq ?_
  obtain ⟨ht1, ht2, ht3, ht4⟩ := pick_mod x n (by omega)
  refine ACode.region' [0, 1] (by kernel_rfl) rfl ?_
  refine aOps_1 rfl rfl rfl (AOp.move' (.inl rfl) rfl ?_)
  refine aOps_1 rfl rfl rfl (AOp.bin' rfl rfl rfl rfl ?_)
  refine aOps_end ?_
  show ACode _ _ _ _ _ _
  refine ACode.cond rfl (fun c1 => ?_) (fun c1 => ?_)
  · try simp only [decide_eq_true_eq, decide_eq_false_iff_not, beq_iff_eq, beq_eq_false_iff_ne, ne_eq, bne_iff_ne, Bool.not_eq_true', Bool.not_eq_false', Int.not_lt, Int.not_le, gt_iff_lt, ge_iff_le, bne_eq_false_iff_eq, Bool.not_eq_eq_eq_not, Bool.not_true, Bool.not_false] at c1
    refine ACode.region' [0, 1, 2, 3] (by kernel_rfl) rfl ?_
    refine aOps_1 rfl rfl rfl (AOp.move' (.inl rfl) rfl ?_)
    refine aOps_1 rfl rfl rfl (AOp.move' (.inl rfl) rfl ?_)
    refine aOps_1 rfl rfl rfl (AOp.add rfl rfl rfl (i64_wrap (by omega) (by omega)) ?_)
    refine aOps_1 rfl rfl rfl (AOp.move' (.inr rfl) rfl ?_)
    refine aOps_end ?_
    show ACode _ _ _ _ _ _
    refine ACode.seq ?_
    refine ACode.region' [0, 1] (by kernel_rfl) rfl ?_
    refine aOps_1 rfl rfl rfl (AOp.move' (.inl rfl) rfl ?_)
    refine aOps_1 rfl rfl rfl (AOp.move' (.inr rfl) rfl ?_)
    refine aOps_end ?_
    show ACode _ _ _ _ _ _
    refine ACode.ret ?_
    exact RetQ.one rfl rfl (by (repeat (first | exact sub_refl _ | assumption | refine sub_upd' ?_ (by ((repeat refine (upd_other _ _ (by omega)).trans ?_); first | exact hf _ (by omega))) | refine sub_over (by assumption) | refine sub_over0 ?_ | refine sub_trans (sub_same (by assumption)) ?_ | refine sub_dropu ?_ | refine sub_drop ?_ | refine sub_put ?_ (by repeat (first | assumption | exact upd_same _ _ _ | refine (upd_other _ _ (by omega)).trans ?_))))) stays (fun hk => ⟨(by rw [ht1 c1]), rfl, by omega⟩)
  · try simp only [decide_eq_true_eq, decide_eq_false_iff_not, beq_iff_eq, beq_eq_false_iff_ne, ne_eq, bne_iff_ne, Bool.not_eq_true', Bool.not_eq_false', Int.not_lt, Int.not_le, gt_iff_lt, ge_iff_le, bne_eq_false_iff_eq, Bool.not_eq_eq_eq_not, Bool.not_true, Bool.not_false] at c1
    refine ACode.skip ?_
    show ACode _ _ _ _ _ _
    refine ACode.seq ?_
    refine ACode.region' [0, 1] (by kernel_rfl) rfl ?_
    refine aOps_1 rfl rfl rfl (AOp.move' (.inl rfl) rfl ?_)
    refine aOps_1 rfl rfl rfl (AOp.move' (.inr rfl) rfl ?_)
    refine aOps_end ?_
    show ACode _ _ _ _ _ _
    refine ACode.ret ?_
    exact RetQ.one rfl rfl (by (repeat (first | exact sub_refl _ | assumption | refine sub_upd' ?_ (by ((repeat refine (upd_other _ _ (by omega)).trans ?_); first | exact hf _ (by omega))) | refine sub_over (by assumption) | refine sub_over0 ?_ | refine sub_trans (sub_same (by assumption)) ?_ | refine sub_dropu ?_ | refine sub_drop ?_ | refine sub_put ?_ (by repeat (first | assumption | exact upd_same _ _ _ | refine (upd_other _ _ (by omega)).trans ?_))))) stays (fun hk => ⟨(by rw [ht2 c1]), rfl, by omega⟩)

theorem awake16 (ht : H 0 = some shBlk) : ACalls Tryd.prog 3 11 [] H k (Same H k (.bool true)) := by
  refine ACalls.fresh fun hf => ?_
  refine ACalls.body Tryd.func11 rfl (Nat.le_of_ble_eq_true rfl) ?_
  have h0k := old_lt hf ht
  refine ACode.seq ?_
  refine ACode.region' [0] (by kernel_rfl) rfl ?_
  refine aOps_1 rfl rfl rfl (AOp.move' (.inr rfl) rfl ?_)
  refine aOps_end ?_
  show ACode _ _ _ _ _ _
  refine ACode.seq ?_
  refine ACode.region' [0, 1, 2, 3, 4] (by kernel_rfl) rfl ?_
  refine aOps_1 rfl rfl rfl (AOp.buildS (cells := #[.int .i64 1, .int .i64 5, .string ⟨#[]⟩]) rfl rfl rfl ?_)
  refine aOps_1 rfl rfl rfl (AOp.buildH (vals3 [v5]) rfl rfl (by show 0 < 3; decide) (by show 3 ≤ 16777216; decide) rfl rfl ?_)
  refine aOps_1 rfl rfl rfl (AOp.buildS (cells := #[.int .i64 3, .int .i64 0, .slice (some ⟨k, 0, some 1⟩) 1 1, .slice none 0 0]) rfl rfl rfl ?_)
  refine aOps_1 rfl rfl rfl (AOp.alloc' rfl ?_)
  refine aOps_0 rfl rfl rfl ?_
  refine AOp.storeAll (b := ?b1) rfl rfl rfl ?hn1 ?hk1 rfl ?hw1 ?ho1 ?hl1 ?hR1
  (case hn1 => repeat (first | assumption | exact upd_same _ _ _ | refine (upd_other _ _ (by omega)).trans ?_))
  (case hk1 => rfl)
  (case hw1 => first | rfl | (simp; done))
  (case ho1 => first | rfl | decide | (simp; done))
  (case hl1 => first | rfl | (simp; done))
  refine aOps_end ?_
  show ACode _ _ _ _ _ _
  refine ACode.seq ?_
  refine ACode.region' [0, 1, 2, 3, 4, 5, 6, 7, 8, 9, 10, 11, 12, 13, 14, 15, 16, 17] (by kernel_rfl) rfl ?_
  refine aOps_1 rfl rfl rfl ?_
  refine AOp.loadAll (b := ?b2) (v := pv 3 0 (some ⟨k, 0, some 1⟩) 1 1 none 0 0) rfl rfl ?hn2 ?hv2 ?hw2 ?hz2 ?hR2
  (case hn2 => repeat (first | assumption | exact upd_same _ _ _ | refine (upd_other _ _ (by omega)).trans ?_))
  (case hv2 => rfl)
  (case hw2 => rfl)
  (case hz2 => first | rfl | (simp; done))
  refine aOps_1 rfl rfl rfl (AOp.buildS (cells := #[.int .i64 0, .int .i64 0, .string ⟨#[]⟩]) rfl rfl rfl ?_)
  refine aOps_1 rfl rfl rfl (AOp.buildH (vals3 [vD]) rfl rfl (by show 0 < 3; decide) (by show 3 ≤ 16777216; decide) rfl rfl ?_)
  refine aOps_q rfl rfl rfl (AOp.call' rfl rfl rfl (eval_c (SizeOf.sizeOf pA + 1) pA _ [vD] (some ⟨k + 1 + 1, 0, some 1⟩) 1 _ _ (by repeat (first | assumption | exact upd_same _ _ _ | refine (upd_other _ _ (by omega)).trans ?_)) (PdV.intro (vals := [v5]) (of := []) (slcCells_grow (n := k) (b := { cells := vals3 [v5], elem := 43, kind := .grow, esz := 3 }) (by repeat (first | assumption | exact upd_same _ _ _ | refine (upd_other _ _ (by omega)).trans ?_)) rfl rfl) (by decide) (by decide) (by decide) (by decide) (by intro v hv; rw [List.mem_singleton.1 hv]; exact ⟨rfl, rfl, by decide⟩) SLC.nil PdVs.nil) (slcCells_grow (n := k + 1 + 1) (b := { cells := vals3 [vD], elem := 43, kind := .grow, esz := 3 }) (by repeat (first | assumption | exact upd_same _ _ _ | refine (upd_other _ _ (by omega)).trans ?_)) rfl rfl) (by decide) (Nat.lt_succ_self _)) (fun _ _ _ h => h)) (fun kx hkx => ?_)
  rw [awkP1]
  refine aOps_1 rfl rfl rfl (AOp.bin' rfl rfl rfl rfl ?_)
  refine aOps_1 rfl rfl rfl (AOp.move' (.inl rfl) rfl ?_)
  refine aOps_w rfl rfl rfl ?_
  refine AOp.loadAll (b := ?b3) (v := pv 3 0 (some ⟨k, 0, some 1⟩) 1 1 none 0 0) rfl rfl ?hn3 ?hv3 ?hw3 ?hz3 ?hR3
  (case hn3 => repeat (first | assumption | exact upd_same _ _ _ | refine (upd_other _ _ (by omega)).trans ?_))
  (case hv3 => rfl)
  (case hw3 => rfl)
  (case hz3 => first | rfl | (simp; done))
  refine aOps_w rfl rfl rfl (AOp.buildS (cells := #[.int .i64 1, .int .i64 4, .string ⟨#[]⟩]) rfl rfl rfl ?_)
  refine aOps_w rfl rfl rfl (AOp.buildH (vals3 [v4]) rfl rfl (by show 0 < 3; decide) (by show 3 ≤ 16777216; decide) rfl rfl ?_)
  refine aOps_wq rfl rfl rfl (AOp.call' rfl rfl rfl (eval_c (SizeOf.sizeOf pA + 1) pA _ [v4] (some ⟨kx, 0, some 1⟩) 1 _ _ (by repeat (first | assumption | exact upd_same _ _ _ | refine (upd_other _ _ (by omega)).trans ?_)) (PdV.intro (vals := [v5]) (of := []) (slcCells_grow (n := k) (b := { cells := vals3 [v5], elem := 43, kind := .grow, esz := 3 }) (by repeat (first | assumption | exact upd_same _ _ _ | refine (upd_other _ _ (by omega)).trans ?_)) rfl rfl) (by decide) (by decide) (by decide) (by decide) (by intro v hv; rw [List.mem_singleton.1 hv]; exact ⟨rfl, rfl, by decide⟩) SLC.nil PdVs.nil) (slcCells_grow (n := kx) (b := { cells := vals3 [v4], elem := 43, kind := .grow, esz := 3 }) (by repeat (first | assumption | exact upd_same _ _ _ | refine (upd_other _ _ (by omega)).trans ?_)) rfl rfl) (by decide) (Nat.lt_succ_self _)) (fun _ _ _ h => h)) (fun kq hkq => ?_)
  rw [awkP2]
  refine aOps_w rfl rfl rfl (AOp.bin' rfl rfl rfl rfl ?_)
  refine aOps_1 rfl rfl rfl (AOp.pickB rfl rfl rfl ?_)
  refine aOps_1 rfl rfl rfl (AOp.move' (.inl rfl) rfl ?_)
  refine aOps_w rfl rfl rfl ?_
  refine AOp.loadAll (b := ?b4) (v := pv 3 0 (some ⟨k, 0, some 1⟩) 1 1 none 0 0) rfl rfl ?hn4 ?hv4 ?hw4 ?hz4 ?hR4
  (case hn4 => repeat (first | assumption | exact upd_same _ _ _ | refine (upd_other _ _ (by omega)).trans ?_))
  (case hv4 => rfl)
  (case hw4 => rfl)
  (case hz4 => first | rfl | (simp; done))
  refine aOps_wq rfl rfl rfl (AOp.call' rfl rfl rfl (Check_b _ _ (by repeat (first | assumption | exact upd_same _ _ _ | refine (upd_other _ _ (by omega)).trans ?_)) pA _ (PdV.intro (vals := [v5]) (of := []) (slcCells_grow (n := k) (b := { cells := vals3 [v5], elem := 43, kind := .grow, esz := 3 }) (by repeat (first | assumption | exact upd_same _ _ _ | refine (upd_other _ _ (by omega)).trans ?_)) rfl rfl) (by decide) (by decide) (by decide) (by decide) (by intro v hv; rw [List.mem_singleton.1 hv]; exact ⟨rfl, rfl, by decide⟩) SLC.nil PdVs.nil) [] none 0 rfl (by decide)) (fun _ _ _ h => h)) (fun kq hkq => ?_)
  rw [awkP3]
  refine aOps_w rfl rfl rfl (AOp.bin' rfl rfl rfl rfl ?_)
  refine aOps_1 rfl rfl rfl (AOp.pickB rfl rfl rfl ?_)
  refine aOps_1 rfl rfl rfl (AOp.move' (.inr rfl) rfl ?_)
  refine aOps_end ?_
  show ACode _ _ _ _ _ _
  refine ACode.ret ?_
  exact RetQ.one rfl rfl (by (repeat (first | exact sub_refl _ | assumption | refine sub_upd' ?_ (by ((repeat refine (upd_other _ _ (by omega)).trans ?_); first | exact hf _ (by omega))) | refine sub_over (by assumption) | refine sub_over0 ?_ | refine sub_trans (sub_same (by assumption)) ?_ | refine sub_dropu ?_ | refine sub_drop ?_ | refine sub_put ?_ (by repeat (first | assumption | exact upd_same _ _ _ | refine (upd_other _ _ (by omega)).trans ?_))))) stays (fun hk => ⟨rfl, rfl, by omega⟩)
end

end Go.Proofs.YtnciojaecelhmaaDoor
