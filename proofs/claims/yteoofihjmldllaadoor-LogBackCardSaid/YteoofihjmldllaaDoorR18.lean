/- Contracts over the abstract states: clones of values and columns, copies and forms of predicates. -/
import Derived.Test.YteoofihjmldllaaDoorRN
import Derived.Test.YteoofihjmldllaaDoorR15
set_option linter.unusedVariables false
set_option linter.unusedSimpArgs false
set_option maxRecDepth 100000
namespace Go.Proofs.YteoofihjmldllaaDoor
open Go Go.Ab

theorem SLC.re {H H' : Hp} {z l c : Nat} {A : Option Addr} {cs : List Value} (h : SLC H z A l c cs) (hA : ∀ a, A = some a → H' a.block = H a.block) : SLC H' z A l c cs := by
  cases A with
  | none =>
    obtain ⟨h1, h2⟩ := h
    cases l with
    | zero => cases c with
      | zero => exact ⟨h1, trivial⟩
      | succ c => exact absurd h2 (by simp [SlcWf])
    | succ l => exact absurd h2 (by simp [SlcWf])
  | some a =>
    obtain ⟨n, off, sp⟩ := a
    have e : H' n = H n := hA _ rfl
    obtain ⟨h1, h2⟩ := h
    refine ⟨?_, ?_⟩
    · unfold slcCells at h1 ⊢
      split at h1 <;> simp_all
    · unfold SlcWf at h2 ⊢
      split at h2 <;> simp_all
def NewV (H' : Hp) (k k' : Nat) (l : List Val) (v : Value) : Prop := (l = [] ∧ v = NIL) ∨ ∃ q, v = .slice (some ⟨q, 0, some 1⟩) l.length l.length ∧ k ≤ q ∧ q < k' ∧ H' q = some (vlblk l)
def NewK (H' : Hp) (k k' : Nat) (l : List Col) (v : Value) : Prop := (l = [] ∧ v = NIL) ∨ ∃ q, v = .slice (some ⟨q, 0, some 1⟩) l.length l.length ∧ k ≤ q ∧ q < k' ∧ H' q = some (cblk l)
theorem NewV.slc {H' : Hp} {k k' : Nat} {l : List Val} {v : Value} (h : NewV H' k k' l v) : ∃ A c, v = .slice A l.length c ∧ SLC H' 3 A l.length c (vals3 l) ∧ ∀ a, A = some a → k ≤ a.block ∧ a.block < k' := by
  rcases h with ⟨rfl, rfl⟩ | ⟨q, rfl, h1, h2, h3⟩
  · exact ⟨none, 0, rfl, SLC.nil, fun a h => (nomatch h)⟩
  · exact ⟨_, _, rfl, SLC.vlblk h3, fun a h => by cases h; exact ⟨h1, h2⟩⟩
theorem NewK.slc {H' : Hp} {k k' : Nat} {l : List Col} {v : Value} (h : NewK H' k k' l v) : ∃ A c, v = .slice A l.length c ∧ SLC H' 3 A l.length c (cols3 l) ∧ ∀ a, A = some a → k ≤ a.block ∧ a.block < k' := by
  rcases h with ⟨rfl, rfl⟩ | ⟨q, rfl, h1, h2, h3⟩
  · exact ⟨none, 0, rfl, SLC.nil, fun a h => (nomatch h)⟩
  · exact ⟨_, _, rfl, SLC.cblk h3, fun a h => by cases h; exact ⟨h1, h2⟩⟩
theorem uN_cast (n : Int) : IntKind.u64.wrap n = ((uN n : Nat) : Int) := by
  unfold uN
  rw [IntKind.wrap_u64]
  omega
theorem take_snoc {α : Type} {l : List α} {i : Nat} (d : α) (h : i < l.length) : l.take (i + 1) = l.take i ++ [l.getD i d] := by
  rw [List.take_succ_eq_append_getElem h, List.getD_eq_getElem?_getD, List.getElem?_eq_getElem h]
  rfl
theorem putPs_snoc (ps : List Pd) (p : Pd) : putPs (ps ++ [p]) = putPs ps ++ putP p := by rw [putPs_flat, putPs_flat, List.flatMap_append, List.flatMap_cons, List.flatMap_nil, List.append_nil]
theorem flat_take_le {α β : Type} (f : α → List β) : ∀ (l : List α) (i : Nat), ((l.take i).flatMap f).length ≤ (l.flatMap f).length
  | [], i => by rw [List.take_nil]; exact Nat.le_refl _
  | a :: l, 0 => Nat.zero_le _
  | a :: l, i + 1 => by
    rw [List.take_succ_cons, List.flatMap_cons, List.flatMap_cons, List.length_append, List.length_append]
    have := flat_take_le f l i
    omega
section
variable (H : Hp) (k : Nat)

theorem clone_v (l : List Val) (A : Option Addr) (c : Nat) (hA : slcCells H 3 (.slice A l.length c) = some (vals3 l)) (hl : l.length ≤ 1000000) : ACalls Tryd.prog 3 59 [.slice A l.length c] H k (fun v H' k' => NewV H' k k' l v ∧ k ≤ k' ∧ (∀ m, k' ≤ m → H' m = none) ∧ Ab.Sub H H') := by
  refine ACalls.fresh fun hf => ?_
  refine ACalls.body Tryd.func59 rfl (Nat.le_of_ble_eq_true rfl) ?_
  refine ACode.seq ?_
  refine ACode.region' [0] (by kernel_rfl) rfl ?_
  refine aOps_1 rfl rfl rfl (AOp.move' (.inr rfl) rfl ?_)
  refine aOps_end ?_
  show ACode _ _ _ _ _ _
  refine ACode.seq ?_
  refine ACode.seq ?_
  refine ACode.region' [0, 1] (by kernel_rfl) rfl ?_
  refine aOps_1 rfl rfl rfl (AOp.move' (.inl rfl) rfl ?_)
  refine aOps_1 rfl rfl rfl (AOp.eqNilX rfl rfl rfl (fun b hb => ?_))
  refine aOps_end ?_
  show ACode _ _ _ _ _ _
  refine ACode.cond rfl (fun c0 => ?_) (fun c0 => ?_)
  · try simp only [decide_eq_true_eq, decide_eq_false_iff_not, beq_iff_eq, beq_eq_false_iff_ne, ne_eq, bne_iff_ne, Bool.not_eq_true', Bool.not_eq_false', Int.not_lt, Int.not_le, gt_iff_lt, ge_iff_le, bne_eq_false_iff_eq, Bool.not_eq_eq_eq_not, Bool.not_true, Bool.not_false] at c0
    have h0 : l = [] := by
      apply List.eq_nil_of_length_eq_zero
      rcases Nat.eq_zero_or_pos l.length with h | h
      · exact h
      · rw [hb h] at c0; cases c0
    subst h0
    refine ACode.seq ?_
    refine ACode.region' [0] (by kernel_rfl) rfl ?_
    refine aOps_1 rfl rfl rfl (AOp.move' (.inr rfl) rfl ?_)
    refine aOps_end ?_
    show ACode _ _ _ _ _ _
    refine ACode.ret ?_
    try simp only [thenA, blockA, if_true]
    exact RetQ.one rfl rfl (sub_refl _) (fun n b h => ⟨b, h⟩) (fun hk => ⟨.inl ⟨rfl, rfl⟩, hk, (fun m hm => hf m (by omega)), sub_refl _⟩)
  · try simp only [decide_eq_true_eq, decide_eq_false_iff_not, beq_iff_eq, beq_eq_false_iff_ne, ne_eq, bne_iff_ne, Bool.not_eq_true', Bool.not_eq_false', Int.not_lt, Int.not_le, gt_iff_lt, ge_iff_le, bne_eq_false_iff_eq, Bool.not_eq_eq_eq_not, Bool.not_true, Bool.not_false] at c0
    refine ACode.skip ?_
    show ACode _ _ _ _ _ _
    refine ACode.seq ?_
    refine ACode.region' [0, 1, 2, 3] (by kernel_rfl) rfl ?_
    refine aOps_1 rfl rfl rfl (AOp.buildSl (cells := #[]) rfl (by decide) rfl rfl ?_)
    refine aOps_1 rfl rfl rfl (AOp.move' (.inl rfl) rfl ?_)
    refine aOps_1 rfl rfl rfl (AOp.append0' (m := l.length) (news := vals3 l) rfl rfl rfl (srcOf_slc (slcCells_sub subA hA)) (by intro ad h; cases h; rfl) srcOk_sl (vals3_one' l) (by omega) (by omega) ?_)
    refine aOps_1 rfl rfl rfl (AOp.move' (.inr rfl) rfl ?_)
    refine aOps_end ?_
    show ACode _ _ _ _ _ _
    refine ACode.ret ?_
    try simp only [thenA, blockA, if_true]
    exact RetQ.one rfl rfl (sub_refl _) (fun n b h => ⟨b, (show Ab.Sub H _ from by exact subA) n b h⟩) (fun hk => ⟨.inr ⟨k + 1, rfl, by omega, by omega, upd_same _ _ _⟩, by omega, (fun m hm => (upd_other _ _ (by omega)).trans ((upd_other _ _ (by omega)).trans (hf m (by omega)))), by exact subA⟩)

theorem clone_s (l : List Col) (A : Option Addr) (c : Nat) (hA : slcCells H 3 (.slice A l.length c) = some (cols3 l)) (hl : l.length ≤ 1000000) : ACalls Tryd.prog 3 58 [.slice A l.length c] H k (fun v H' k' => NewK H' k k' l v ∧ k ≤ k' ∧ (∀ m, k' ≤ m → H' m = none) ∧ Ab.Sub H H') := by
  refine ACalls.fresh fun hf => ?_
  refine ACalls.body Tryd.func58 rfl (Nat.le_of_ble_eq_true rfl) ?_
  refine ACode.seq ?_
  refine ACode.region' [0] (by kernel_rfl) rfl ?_
  refine aOps_1 rfl rfl rfl (AOp.move' (.inr rfl) rfl ?_)
  refine aOps_end ?_
  show ACode _ _ _ _ _ _
  refine ACode.seq ?_
  refine ACode.seq ?_
  refine ACode.region' [0, 1] (by kernel_rfl) rfl ?_
  refine aOps_1 rfl rfl rfl (AOp.move' (.inl rfl) rfl ?_)
  refine aOps_1 rfl rfl rfl (AOp.eqNilX rfl rfl rfl (fun b hb => ?_))
  refine aOps_end ?_
  show ACode _ _ _ _ _ _
  refine ACode.cond rfl (fun c0 => ?_) (fun c0 => ?_)
  · try simp only [decide_eq_true_eq, decide_eq_false_iff_not, beq_iff_eq, beq_eq_false_iff_ne, ne_eq, bne_iff_ne, Bool.not_eq_true', Bool.not_eq_false', Int.not_lt, Int.not_le, gt_iff_lt, ge_iff_le, bne_eq_false_iff_eq, Bool.not_eq_eq_eq_not, Bool.not_true, Bool.not_false] at c0
    have h0 : l = [] := by
      apply List.eq_nil_of_length_eq_zero
      rcases Nat.eq_zero_or_pos l.length with h | h
      · exact h
      · rw [hb h] at c0; cases c0
    subst h0
    refine ACode.seq ?_
    refine ACode.region' [0] (by kernel_rfl) rfl ?_
    refine aOps_1 rfl rfl rfl (AOp.move' (.inr rfl) rfl ?_)
    refine aOps_end ?_
    show ACode _ _ _ _ _ _
    refine ACode.ret ?_
    try simp only [thenA, blockA, if_true]
    exact RetQ.one rfl rfl (sub_refl _) (fun n b h => ⟨b, h⟩) (fun hk => ⟨.inl ⟨rfl, rfl⟩, hk, (fun m hm => hf m (by omega)), sub_refl _⟩)
  · try simp only [decide_eq_true_eq, decide_eq_false_iff_not, beq_iff_eq, beq_eq_false_iff_ne, ne_eq, bne_iff_ne, Bool.not_eq_true', Bool.not_eq_false', Int.not_lt, Int.not_le, gt_iff_lt, ge_iff_le, bne_eq_false_iff_eq, Bool.not_eq_eq_eq_not, Bool.not_true, Bool.not_false] at c0
    refine ACode.skip ?_
    show ACode _ _ _ _ _ _
    refine ACode.seq ?_
    refine ACode.region' [0, 1, 2, 3] (by kernel_rfl) rfl ?_
    refine aOps_1 rfl rfl rfl (AOp.buildSl (cells := #[]) rfl (by decide) rfl rfl ?_)
    refine aOps_1 rfl rfl rfl (AOp.move' (.inl rfl) rfl ?_)
    refine aOps_1 rfl rfl rfl (AOp.append0' (m := l.length) (news := cols3 l) rfl rfl rfl (srcOf_slc (slcCells_sub subA hA)) (by intro ad h; cases h; rfl) srcOk_sl (cols3_one' l) (by omega) (by omega) ?_)
    refine aOps_1 rfl rfl rfl (AOp.move' (.inr rfl) rfl ?_)
    refine aOps_end ?_
    show ACode _ _ _ _ _ _
    refine ACode.ret ?_
    try simp only [thenA, blockA, if_true]
    exact RetQ.one rfl rfl (sub_refl _) (fun n b h => ⟨b, (show Ab.Sub H _ from by exact subA) n b h⟩) (fun hk => ⟨.inr ⟨k + 1, rfl, by omega, by omega, upd_same _ _ _⟩, by omega, (fun m hm => (upd_other _ _ (by omega)).trans ((upd_other _ _ (by omega)).trans (hf m (by omega)))), by exact subA⟩)

theorem copy_p : ∀ (N : Nat) (p : Pd) (v : Value) (H : Hp) (k : Nat), PdV H p v → p.tiny → SizeOf.sizeOf p < N → ACalls Tryd.prog 3 60 [v] H k (fun u H' k' => PdV (cutH H' k) p u ∧ k ≤ k' ∧ (∀ m, k' ≤ m → H' m = none) ∧ Ab.Sub H H') := by
  intro N
  induction N
  case zero => intro p v H k hv ht hN; exact absurd hN (Nat.not_lt_zero _)
  rename_i N ih
  intro p v H k hv ht hN
  cases p
  rename_i op col vals of
  rw [PdV] at hv
  obtain ⟨A, c, B, d, bs, rfl, hA, hvl, hol, hop, hcl, hok, hB, hPs⟩ := hv
  rw [Pd.tiny] at ht
  refine ACalls.fresh fun hf => ?_
  refine ACalls.body Tryd.func60 rfl (Nat.le_of_ble_eq_true rfl) ?_
  have hHk := hf k (Nat.le_refl k)
  have hHk1 := hf (k + 1) (Nat.le_succ k)
  refine ACode.seq ?_
  refine ACode.region' [0, 1] (by kernel_rfl) rfl ?_
  refine aOps_1 rfl rfl rfl (AOp.boxV rfl rfl ?_)
  refine aOps_1 rfl rfl rfl (AOp.alloc' rfl ?_)
  refine aOps_end ?_
  show ACode _ _ _ _ _ _
  refine ACode.seq ?_
  refine ACode.region' [0, 1, 2, 3, 4] (by kernel_rfl) rfl ?_
  refine aOps_1 rfl rfl rfl (AOp.fieldAddr' rfl (by decide) rfl ?_)
  refine aOps_1 rfl rfl rfl ?_
  refine AOp.load1 (b := ?b1) (v := ?v1) rfl rfl ?hn1 ?hv1 ?hR1
  (case hn1 => exact hpA)
  (case hv1 => rfl)
  refine aOps_1 rfl rfl rfl ?_
  refine AOp.call' rfl rfl rfl (clone_v _ _ vals A c (slcCells_sub subA hA) (by omega)) ?_
  rintro vs1 HLc kc ⟨hN, hkc, hfLc, hsLc⟩
  have thsLc := SubS.of hsLc
  have hbc : HLc k = some (pblk op col (.slice A vals.length c) (.slice B of.length d)) := hpA
  have hzc : HLc (k + 1) = some (pblk 0 0 NIL NIL) := hpA
  have hSc : Ab.Sub H HLc := by exact subA
  obtain ⟨VA, VC, rfl, hVS, hVA⟩ := hN.slc
  refine aOps_1 rfl rfl rfl (AOp.fieldAddr' rfl (by decide) rfl ?_)
  refine aOps_0 rfl rfl rfl ?_
  refine AOp.store1 (b := ?b2) rfl rfl rfl ?hn2 ?hk2 rfl rfl ?hl2 ?hR2
  (case hn2 => exact hpA)
  (case hk2 => rfl)
  (case hl2 => first | (simp; done) | exact Nat.le_of_ble_eq_true rfl)
  refine aOps_end ?_
  show ACode _ _ _ _ _ _
  refine ACode.seq ?_
  refine ACode.region' [0] (by kernel_rfl) rfl ?_
  refine aOps_1 rfl rfl rfl (AOp.move' (.inr rfl) rfl ?_)
  refine aOps_end ?_
  show ACode _ _ _ _ _ _
  refine ACode.seq ?_
  refine ACode.seq ?_
  refine ACode.region' [0, 1, 2, 3] (by kernel_rfl) rfl ?_
  refine aOps_1 rfl rfl rfl (AOp.fieldAddr' rfl (by decide) rfl ?_)
  refine aOps_1 rfl rfl rfl ?_
  refine AOp.load1 (b := ?b3) (v := ?v3) rfl rfl ?hn3 ?hv3 ?hR3
  (case hn3 => exact hpA)
  (case hv3 => rfl)
  refine aOps_1 rfl rfl rfl (AOp.len' rfl rfl ?_)
  refine aOps_1 rfl rfl rfl (AOp.move' (.inl rfl) rfl ?_)
  refine aOps_end ?_
  show ACode _ _ _ _ _ _
  refine ACode.block ?_
  obtain ⟨Q, hQ⟩ : ∃ Q, Q = kc := ⟨_, rfl⟩
  refine ACode.adopt (t := 3) 32 4 (by decide) rfl ?_
  subst hQ
  refine ACode.countG (γ := Hp × List Value) (fun i g => [(3, .slice (some ⟨Q, 0, some 1⟩) i i), (13, .int .i64 (i : Int))]) [(1, _), (2, _), (11, _), (12, _)] (fun i g => g.1) (of.length) (fun i g => g.1 Q = some (oblk g.2) ∧ g.1 k = some (pblk op col (.slice VA vals.length VC) (.slice B of.length d)) ∧ g.1 (k + 1) = some (pblk 0 0 NIL NIL) ∧ SLC (cutQ g.1 (k + 2) Q) 3 VA vals.length VC (vals3 vals) ∧ Ab.Sub H g.1 ∧ PdVs (cutQ g.1 (k + 2) Q) (of.take i) g.2) ((upd (upd HLc k (some (pblk op col (.slice VA vals.length VC) (.slice B of.length d)))) Q (some (oblk [])), [])) (.cons rfl (.cons rfl .nil)) (.cons rfl (.cons rfl (.cons rfl (.cons rfl .nil)))) (by exact sub_refl _) ⟨upd_same _ _ _, (upd_other _ _ (by omega)).trans (upd_same _ _ _), (upd_other _ _ (by omega)).trans ((upd_other _ _ (by omega)).trans hzc), SLC.re hVS (fun a ha => by have h := hVA a ha; exact (cutQ_at (by omega) (by omega)).trans ((upd_other _ _ (by omega)).trans (upd_other _ _ (by omega)))), sub_new (sub_new hSc hHk) (hf Q (by omega)), PdVs.nil⟩ (fun i0 g0 kL0 HL0 hiL0 hkL0 hsL0 hfL0 hxL0 => ?_)
  show ACode _ _ _ _ _ ⟨_, _, _⟩
  have tsL0 := SubS.of hsL0
  obtain ⟨x1, x2, x3, x4, x5, x6⟩ := hxL0
  have hq0 := hsL0 _ _ x1
  have hb0 := hsL0 _ _ x2
  have hz0 := hsL0 _ _ x3
  have hS0 : Ab.Sub H HL0 := sub_trans x5 hsL0
  have hgl : i0 * 4 = g0.2.length := by rw [x6.len, List.length_take, Nat.min_eq_left hiL0]
  refine ACode.seq ?_
  refine ACode.region' [0] (by kernel_rfl) rfl ?_
  refine aOps_1 rfl rfl rfl (AOp.bin' rfl rfl rfl rfl ?_)
  refine aOps_end ?_
  show ACode _ _ _ _ _ _
  refine ACode.seq ?_
  refine ACode.cond rfl (fun c0 => ?_) (fun c0 => ?_)
  · try simp only [decide_eq_true_eq, decide_eq_false_iff_not, beq_iff_eq, beq_eq_false_iff_ne, ne_eq, bne_iff_ne, Bool.not_eq_true', Bool.not_eq_false', Int.not_lt, Int.not_le, gt_iff_lt, ge_iff_le, bne_eq_false_iff_eq, Bool.not_eq_eq_eq_not, Bool.not_true, Bool.not_false] at c0
    refine ACode.skip ?_
    show ACode _ _ _ _ _ _
    refine ACode.seq ?_
    refine ACode.block ?_
    refine ACode.seq ?_
    obtain ⟨nE, oE, sE, vE, hqE, hpE, hvE⟩ := PdVs.el pD hB hPs (show i0 < of.length by omega)
    obtain ⟨gE1, gE2⟩ := hvE.agg
    obtain ⟨xo, xc, xA, xl, xcc, xB, xm, xd, rfl⟩ := hvE.form
    refine ACode.region' [0, 1, 2, 3] (by kernel_rfl) rfl ?_
    refine aOps_1 rfl rfl rfl (AOp.indexP (aslcAt_sub hS0 hqE) rfl rfl rfl ?_)
    refine aOps_1 rfl rfl rfl (AOp.loadPA (v := pv xo xc xA xl xcc xB xm xd) (hpE.sub hS0) rfl rfl rfl gE1 gE2 (by decide) ?_)
    refine aOps_1 rfl rfl rfl (AOp.alloc' rfl ?_)
    refine aOps_0 rfl rfl rfl ?_
    refine AOp.storeAll (b := ?b4) rfl rfl rfl ?hn4 ?hk4 rfl ?hw4 ?ho4 ?hl4 ?hR4
    (case hn4 => exact hpA)
    (case hk4 => rfl)
    (case hw4 => first | rfl | (simp; done))
    (case ho4 => first | rfl | decide | (simp; done))
    (case hl4 => first | rfl | (simp; done))
    try rw [rd_upd2]
    refine aOps_end ?_
    show ACode _ _ _ _ _ _
    refine ACode.region' [0, 1, 2, 3, 4, 5] (by kernel_rfl) rfl ?_
    refine aOps_1 rfl rfl rfl (AOp.move' (.inl rfl) rfl ?_)
    refine aOps_1 rfl rfl rfl ?_
    refine AOp.loadAll (b := ?b5) (v := pv xo xc xA xl xcc xB xm xd) rfl rfl ?hn5 ?hv5 ?hw5 ?hz5 ?hR5
    (case hn5 => exact hpA)
    (case hv5 => rfl)
    (case hw5 => rfl)
    (case hz5 => first | rfl | (simp; done))
    refine aOps_1 rfl rfl rfl ?_
    refine AOp.call' rfl rfl rfl (ih (of.getD i0 pD) (pv xo xc xA xl xcc xB xm xd) _ _ (hvE.sub (sub_trans hS0 subA)) (tinys_mem ht.2.2 (pd_getD (by omega))) (by have := Pd.lt (op := op) (col := col) (vals := vals) (pd_getD (ps := of) (i := i0) (by omega)); omega)) ?_
    rintro u HLu ku ⟨hVu, hku, hfLu, hsLu⟩
    have thsLu := SubS.of hsLu
    have hdu : HLu Q = some (oblk g0.2) := hpA
    have hbu : HLu k = some (pblk op col (.slice VA vals.length VC) (.slice B of.length d)) := hpA
    have hzu : HLu (k + 1) = some (pblk 0 0 NIL NIL) := hpA
    refine aOps_1 rfl rfl rfl (AOp.buildH u.cells.toList (hVu.agg.1.trans (by rw [Array.toArray_toList])) hVu.agg.2 (by decide) (by decide) rfl rfl ?_)
    refine aOps_1 rfl rfl rfl (AOp.append' (b := oblk g0.2) (m := 1) (news := u.cells.toList) rfl rfl rfl hpA (srcOf_grow (b := oblk u.cells.toList) hpA rfl hVu.agg.2.symm) rfl rfl rfl hgl srcOk_sl hVu.one' (by omega) (by omega) ?_)
    refine aOps_1 rfl rfl rfl (AOp.move' (.inr rfl) rfl ?_)
    refine aOps_end ?_
    show ACode _ _ _ _ _ _
    refine ACode.region' [0, 1] (by kernel_rfl) rfl ?_
    refine aOps_1 rfl rfl rfl (AOp.add rfl rfl rfl (i64_wrap (by omega) (by omega)) ?_)
    refine aOps_1 rfl rfl rfl (AOp.move' (.inl rfl) rfl ?_)
    refine aOps_end ?_
    have htk := take_snoc pD (l := of) (i := i0) (by omega)
    have hmx : ∀ m b, k + 2 ≤ m → m ≠ Q → g0.1 m = some b → (upd (upd HLu ku (some (oblk u.cells.toList))) Q (some (oblk (g0.2 ++ u.cells.toList)))) m = some b := fun m b hm hmq hb => by
      have hb1 := hsL0 _ _ hb
      have hb2 := hsLu _ _ ((upd_other _ _ (fun e => by rw [e, hfL0 kL0 (Nat.le_refl _)] at hb1; cases hb1)).trans hb1)
      exact (upd_other _ _ hmq).trans ((upd_other _ _ (fun e => by rw [e, hfLu ku (Nat.le_refl _)] at hb2; cases hb2)).trans hb2)
    have hV2 : PdV (cutQ (upd (upd HLu ku (some (oblk u.cells.toList))) Q (some (oblk (g0.2 ++ u.cells.toList)))) (k + 2) Q) (of.getD i0 pD) u := hVu.sub (fun m b hm => by
      unfold cutH at hm
      split at hm
      · rename_i hc
        rw [cutQ_at (by omega) (by omega)]
        exact (upd_other _ _ (by omega)).trans ((upd_other _ _ (fun e => by rw [e, hfLu ku (Nat.le_refl _)] at hm; cases hm)).trans hm)
      · cases hm)
    first | refine thenA_n ?_ | simp only [thenA, blockA, if_true]
    exact NextG.mk (by omega) (by omega) ((upd (upd HLu ku (some (oblk u.cells.toList))) Q (some (oblk (g0.2 ++ u.cells.toList))), g0.2 ++ u.cells.toList)) (.cons rfl (.cons rfl .nil)) (.cons rfl (.cons rfl (.cons rfl (.cons rfl .nil)))) (by exact sub_refl _) ⟨upd_same _ _ _, (upd_other _ _ (by omega)).trans ((upd_other _ _ (by omega)).trans hbu), (upd_other _ _ (by omega)).trans ((upd_other _ _ (by omega)).trans hzu), x4.sub (cutQ_sub hmx), sub_new (sub_new (sub_trans hS0 subA) (hf _ (by omega))) (hf Q (by omega)), by rw [htk]; exact PdVs.snoc hV2 (PdVs.sub (cutQ_sub hmx) x6)⟩
  · try simp only [decide_eq_true_eq, decide_eq_false_iff_not, beq_iff_eq, beq_eq_false_iff_ne, ne_eq, bne_iff_ne, Bool.not_eq_true', Bool.not_eq_false', Int.not_lt, Int.not_le, gt_iff_lt, ge_iff_le, bne_eq_false_iff_eq, Bool.not_eq_eq_eq_not, Bool.not_true, Bool.not_false] at c0
    obtain rfl : i0 = of.length := by omega
    rw [List.take_length] at x6
    refine ACode.exit ?_
    show ACode _ _ _ _ _ _
    refine ACode.seq ?_
    refine ACode.region' [0, 1, 2] (by kernel_rfl) rfl ?_
    refine aOps_1 rfl rfl rfl (AOp.move' (.inl rfl) rfl ?_)
    refine aOps_1 rfl rfl rfl (AOp.fieldAddr' rfl (by decide) rfl ?_)
    refine aOps_0 rfl rfl rfl ?_
    refine AOp.store1 (b := ?b6) rfl rfl rfl ?hn6 ?hk6 rfl rfl ?hl6 ?hR6
    (case hn6 => exact hpA)
    (case hk6 => rfl)
    (case hl6 => first | (simp; done) | exact Nat.le_of_ble_eq_true rfl)
    refine aOps_end ?_
    show ACode _ _ _ _ _ _
    refine ACode.seq ?_
    refine ACode.region' [0, 1] (by kernel_rfl) rfl ?_
    refine aOps_1 rfl rfl rfl ?_
    refine AOp.loadAll (b := ?b7) (v := pv op col VA vals.length VC (some ⟨Q, 0, some 1⟩) of.length of.length) rfl rfl ?hn7 ?hv7 ?hw7 ?hz7 ?hR7
    (case hn7 => exact hpA)
    (case hv7 => rfl)
    (case hw7 => rfl)
    (case hz7 => first | rfl | (simp; done))
    refine aOps_0 rfl rfl rfl ?_
    refine AOp.storeAll (b := ?b8) rfl rfl rfl ?hn8 ?hk8 rfl ?hw8 ?ho8 ?hl8 ?hR8
    (case hn8 => exact hpA)
    (case hk8 => rfl)
    (case hw8 => first | rfl | (simp; done))
    (case ho8 => first | rfl | decide | (simp; done))
    (case hl8 => first | rfl | (simp; done))
    refine aOps_end ?_
    show ACode _ _ _ _ _ _
    refine ACode.ret ?_
    try simp only [thenA, blockA, if_true]
    have hSF : Ab.Sub H (upd (upd HL0 k (some (pblk op col (.slice VA vals.length VC) (.slice (some ⟨Q, 0, some 1⟩) of.length of.length)))) (k + 1) (some (pblk op col (.slice VA vals.length VC) (.slice (some ⟨Q, 0, some 1⟩) of.length of.length)))) := sub_new (sub_new hS0 hHk) hHk1
    have hcq : Ab.Sub (cutQ g0.1 (k + 2) Q) (cutH (upd (upd HL0 k (some (pblk op col (.slice VA vals.length VC) (.slice (some ⟨Q, 0, some 1⟩) of.length of.length)))) (k + 1) (some (pblk op col (.slice VA vals.length VC) (.slice (some ⟨Q, 0, some 1⟩) of.length of.length)))) k) := fun m b hm => by
      unfold cutQ at hm
      split at hm
      · rename_i hc
        exact (cutH_at (by omega)).trans ((upd_other _ _ (by omega)).trans ((upd_other _ _ (by omega)).trans (hsL0 _ _ hm)))
      · cases hm
    exact RetQ.cell rfl rfl (aloadAll (b := pblk op col (.slice VA vals.length VC) (.slice (some ⟨Q, 0, some 1⟩) of.length of.length)) (v := pv op col VA vals.length VC (some ⟨Q, 0, some 1⟩) of.length of.length) (upd_same _ _ _) rfl rfl rfl) (sub_refl _) (fun m b h => ⟨b, hSF m b h⟩) (fun hk => ⟨PdV.intro (x4.sub hcq).cells hvl hol hop hcl hok (SLC.grow (b := oblk g0.2) ((cutH_at (by omega)).trans ((upd_other _ _ (by omega)).trans ((upd_other _ _ (by omega)).trans hq0))) rfl hgl) (PdVs.sub hcq x6), by omega, (fun m hm => (upd_other _ _ (by omega)).trans ((upd_other _ _ (by omega)).trans (hfL0 m (by omega)))), hSF⟩)
end

end Go.Proofs.YteoofihjmldllaaDoor
