/- Contracts over the abstract states: proofs that leaves have grown, and how long they are. -/
import Derived.Test.YtipaiielkpifoaaDoorS21
import Derived.Test.YtipaiielkpifoaaDoorS25
set_option linter.unusedVariables false
set_option linter.unusedSimpArgs false
set_option maxRecDepth 100000
namespace Go.Proofs.YtipaiielkpifoaaDoor
open Go Go.Ab

section
variable (H : Hp) (k : Nat)
theorem may_b (m n : Int) (hm1 : -9223372036854775808 ≤ m) (hm2 : m ≤ 9223372036854775807) (hn1 : -9223372036854775808 ≤ n) (hn2 : n ≤ 9223372036854775807) : ACalls Tryd.prog 1 69 [.int .i64 m, .int .i64 n] H k (Same H k (.bool (mayZ m n))) := by
  refine ACalls.fresh fun hf => ?_
  refine ACalls.body Tryd.func69 rfl (Nat.le_of_ble_eq_true rfl) ?_
  refine ACode.seq ?_
  refine ACode.region' [0] (by kernel_rfl) rfl ?_
  refine aOps_1 rfl rfl rfl (AOp.move' (.inr rfl) rfl ?_)
  refine aOps_end ?_
  show ACode _ _ _ _ _ _
  refine ACode.seq ?_
  refine ACode.region' [0, 1, 2, 3, 4, 5, 6, 7, 8, 9, 10, 11, 12, 13, 14, 15] (by kernel_rfl) rfl ?_
  refine aOps_1 rfl rfl rfl (AOp.move' (.inl rfl) rfl ?_)
  refine aOps_1 rfl rfl rfl (AOp.bin' rfl rfl rfl rfl ?_)
  refine aOps_1 rfl rfl rfl (AOp.move' (.inl rfl) rfl ?_)
  refine aOps_gd0 rfl rfl (wantT rfl rfl rfl) (fun hc => AOp.slots [(1, _)] (.cons rfl .nil) (AOp.move' (.inl rfl) rfl ⟨rfl, rfl, rfl⟩)) ?_
  refine aOps_gd0 rfl rfl (wantT rfl rfl rfl) (fun hc => AOp.slots [(8, _)] (.cons (gvT rfl hc) .nil) (AOp.bin' rfl rfl rfl rfl ⟨rfl, rfl, rfl⟩)) ?_
  refine aOps_1 rfl rfl rfl (AOp.pickAnd rfl rfl rfl (fun hb => gvE rfl hb) ?_)
  refine aOps_1 rfl rfl rfl (AOp.move' (.inl rfl) rfl ?_)
  refine aOps_gd0 rfl rfl (wantT rfl rfl rfl) (fun hc => AOp.slots [(0, _)] (.cons rfl .nil) (AOp.move' (.inl rfl) rfl ⟨rfl, rfl, rfl⟩)) ?_
  refine aOps_gd0 rfl rfl (wantT rfl rfl rfl) (fun hc => AOp.slots [(12, _)] (.cons (gvT rfl hc) .nil) (AOp.bin' rfl rfl rfl rfl ⟨rfl, rfl, rfl⟩)) ?_
  refine aOps_1 rfl rfl rfl (AOp.pickAnd rfl rfl rfl (fun hb => gvE rfl hb) ?_)
  refine aOps_1 rfl rfl rfl (AOp.move' (.inl rfl) rfl ?_)
  refine aOps_gd0 rfl rfl (wantT rfl rfl rfl) (fun hc => AOp.slots [(0, _)] (.cons rfl .nil) (AOp.move' (.inl rfl) rfl ⟨rfl, rfl, rfl⟩)) ?_
  refine aOps_gd0 rfl rfl (wantT rfl rfl rfl) (fun hc => AOp.slots [(1, _)] (.cons rfl .nil) (AOp.move' (.inl rfl) rfl ⟨rfl, rfl, rfl⟩)) ?_
  refine aOps_gd0 rfl rfl (wantT rfl rfl rfl) (fun hc => AOp.slots [(16, _), (17, _)] (.cons (gvT rfl hc) (.cons (gvT rfl hc) .nil)) (AOp.bin' rfl rfl rfl rfl ⟨rfl, rfl, rfl⟩)) ?_
  refine aOps_1 rfl rfl rfl (AOp.pickAnd rfl rfl rfl (fun hb => gvE rfl hb) ?_)
  refine aOps_1 rfl rfl rfl (AOp.move' (.inr rfl) rfl ?_)
  refine aOps_end ?_
  show ACode _ _ _ _ _ _
  refine ACode.ret ?_
  exact RetQ.one rfl rfl (by (repeat (first | exact sub_refl _ | assumption | refine sub_upd' ?_ (by ((repeat refine (upd_other _ _ (by omega)).trans ?_); first | exact hf _ (by omega))) | refine sub_over (by assumption) | refine sub_over0 ?_ | refine sub_trans (sub_same (by assumption)) ?_ | refine sub_dropu ?_ | refine sub_drop ?_ | refine sub_put ?_ (by repeat (first | assumption | exact upd_same _ _ _ | refine (upd_other _ _ (by omega)).trans ?_))))) stays (fun hk => ⟨(by congr 1; rw [mayZ, Bool.eq_iff_iff]; simp only [Bool.and_eq_true, decide_eq_true_eq, ge_iff_le]; omega), rfl, by omega⟩)

theorem proof_b : ∀ (N : Nat) (ls : List (List UInt8)) (vs : List Value) (A : Option Addr) (c : Nat) (m : Nat) (part : Bool) (H : Hp) (k : Nat), H 0 = some tabBlk → SLC H 1 A vs.length c vs → Lvs H vs ls → vs.length ≤ 1099511627776 → (∀ x ∈ ls, x.length ≤ 549755813000) → 1 ≤ m → m ≤ vs.length → vs.length < N → ACalls Tryd.prog 1 86 [.slice A vs.length c, .int .i64 (m : Int), .bool part] H k (NewD H k 31 (proofT ls m part)) := by
  intro N
  induction N
  case zero => intro ls vs A c m part H k ht hs hL hl hb h1 h2 hN; omega
  rename_i N ih
  intro ls vs A c m part H k ht hs hL hl hb hm1 hm2 hN
  refine ACalls.fresh fun hf => ?_
  refine ACalls.body Tryd.func86 rfl (Nat.le_of_ble_eq_true rfl) ?_
  have h0k := old_lt hf ht
  have hvl := hL.len
  refine ACode.seq ?_
  refine ACode.region' [0] (by kernel_rfl) rfl ?_
  refine aOps_1 rfl rfl rfl (AOp.move' (.inr rfl) rfl ?_)
  refine aOps_end ?_
  show ACode _ _ _ _ _ _
  refine ACode.seq ?_
  refine ACode.region' [0, 1, 2] (by kernel_rfl) rfl ?_
  refine aOps_1 rfl rfl rfl (AOp.move' (.inl rfl) rfl ?_)
  refine aOps_1 rfl rfl rfl (AOp.len' rfl rfl ?_)
  refine aOps_1 rfl rfl rfl (AOp.move' (.inr rfl) rfl ?_)
  refine aOps_end ?_
  show ACode _ _ _ _ _ _
  refine ACode.seq ?_
  refine ACode.seq ?_
  refine ACode.region' [0, 1, 2] (by kernel_rfl) rfl ?_
  refine aOps_1 rfl rfl rfl (AOp.move' (.inl rfl) rfl ?_)
  refine aOps_1 rfl rfl rfl (AOp.move' (.inl rfl) rfl ?_)
  refine aOps_1 rfl rfl rfl (AOp.bin' rfl rfl rfl rfl ?_)
  refine aOps_end ?_
  show ACode _ _ _ _ _ _
  refine ACode.cond rfl (fun c0 => ?_) (fun c0 => ?_)
  · try simp only [decide_eq_true_eq, decide_eq_false_iff_not, beq_iff_eq, beq_eq_false_iff_ne, ne_eq, bne_iff_ne, Bool.not_eq_true', Bool.not_eq_false', Int.not_lt, Int.not_le, gt_iff_lt, ge_iff_le, bne_eq_false_iff_eq, Bool.not_eq_eq_eq_not, Bool.not_true, Bool.not_false] at c0
    have hpe := proofT_eq (l := ls) (m := m) (part := part) (by omega)
    refine ACode.seq ?_
    refine ACode.seq ?_
    refine ACode.region' [0] (by kernel_rfl) rfl ?_
    refine aOps_1 rfl rfl rfl (AOp.move' (.inl rfl) rfl ?_)
    refine aOps_end ?_
    show ACode _ _ _ _ _ _
    refine ACode.cond rfl (fun c1 => ?_) (fun c1 => ?_)
    · try simp only [decide_eq_true_eq, decide_eq_false_iff_not, beq_iff_eq, beq_eq_false_iff_ne, ne_eq, bne_iff_ne, Bool.not_eq_true', Bool.not_eq_false', Int.not_lt, Int.not_le, gt_iff_lt, ge_iff_le, bne_eq_false_iff_eq, Bool.not_eq_eq_eq_not, Bool.not_true, Bool.not_false] at c1
      obtain rfl : part = true := c1
      rw [if_pos rfl] at hpe
      refine ACode.seq ?_
      refine ACode.region' [0, 1, 2, 3] (by kernel_rfl) rfl ?_
      refine aOps_1 rfl rfl rfl (AOp.move' (.inl rfl) rfl ?_)
      refine aOps_q rfl rfl rfl (AOp.call' rfl rfl rfl (root_b (vs.length + 1) ls vs A c _ _ (by repeat (first | assumption | exact upd_same _ _ _ | refine (upd_other _ _ (by omega)).trans ?_)) (hs.sub (by (repeat (first | exact sub_refl _ | assumption | refine sub_upd' ?_ (by ((repeat refine (upd_other _ _ (by omega)).trans ?_); first | exact hf _ (by omega))) | refine sub_over (by assumption) | refine sub_over0 ?_ | refine sub_trans (sub_same (by assumption)) ?_ | refine sub_dropu ?_ | refine sub_drop ?_ | refine sub_put ?_ (by repeat (first | assumption | exact upd_same _ _ _ | refine (upd_other _ _ (by omega)).trans ?_)))))) (hL.sub (by (repeat (first | exact sub_refl _ | assumption | refine sub_upd' ?_ (by ((repeat refine (upd_other _ _ (by omega)).trans ?_); first | exact hf _ (by omega))) | refine sub_over (by assumption) | refine sub_over0 ?_ | refine sub_trans (sub_same (by assumption)) ?_ | refine sub_dropu ?_ | refine sub_drop ?_ | refine sub_put ?_ (by repeat (first | assumption | exact upd_same _ _ _ | refine (upd_other _ _ (by omega)).trans ?_)))))) (by omega) hb (by omega)) (fun _ _ _ h => h)) (fun kq hkq => ?_)
      refine aOps_1 rfl rfl rfl (AOp.buildD _ rfl rfl ?_)
      refine aOps_1 rfl rfl rfl (AOp.move' (.inr rfl) rfl ?_)
      refine aOps_end ?_
      show ACode _ _ _ _ _ _
      refine ACode.ret ?_
      rw [hpe]
      exact RetQ.one (H'' := upd H _ (some (pbk 31 [root ls]))) rfl rfl (by (repeat (first | exact sub_refl _ | assumption | refine sub_upd' ?_ (by ((repeat refine (upd_other _ _ (by omega)).trans ?_); first | exact hf _ (by omega))) | refine sub_over (by assumption) | refine sub_over0 ?_ | refine sub_trans (sub_same (by assumption)) ?_ | refine sub_dropu ?_ | refine sub_drop ?_ | refine sub_put ?_ (by repeat (first | assumption | exact upd_same _ _ _ | refine (upd_other _ _ (by omega)).trans ?_))))) stays_upd (fun hk => ⟨_, by omega, by omega, rfl, rfl⟩)
    · try simp only [decide_eq_true_eq, decide_eq_false_iff_not, beq_iff_eq, beq_eq_false_iff_ne, ne_eq, bne_iff_ne, Bool.not_eq_true', Bool.not_eq_false', Int.not_lt, Int.not_le, gt_iff_lt, ge_iff_le, bne_eq_false_iff_eq, Bool.not_eq_eq_eq_not, Bool.not_true, Bool.not_false] at c1
      obtain rfl : part = false := by simpa using c1
      rw [if_neg (by decide)] at hpe
      refine ACode.skip ?_
      show ACode _ _ _ _ _ _
      refine ACode.seq ?_
      refine ACode.region' [0] (by kernel_rfl) rfl ?_
      refine aOps_1 rfl rfl rfl (AOp.move' (.inr rfl) rfl ?_)
      refine aOps_end ?_
      show ACode _ _ _ _ _ _
      refine ACode.adopt (t := 6) 31 32 (by decide) rfl ?_
      refine ACode.ret ?_
      rw [hpe]
      exact RetQ.one (H'' := upd H k (some (pbk 31 []))) rfl rfl (by (repeat (first | exact sub_refl _ | assumption | refine sub_upd' ?_ (by ((repeat refine (upd_other _ _ (by omega)).trans ?_); first | exact hf _ (by omega))) | refine sub_over (by assumption) | refine sub_over0 ?_ | refine sub_trans (sub_same (by assumption)) ?_ | refine sub_dropu ?_ | refine sub_drop ?_ | refine sub_put ?_ (by repeat (first | assumption | exact upd_same _ _ _ | refine (upd_other _ _ (by omega)).trans ?_))))) stays_upd (fun hk => ⟨k, by omega, by omega, rfl, rfl⟩)
  · try simp only [decide_eq_true_eq, decide_eq_false_iff_not, beq_iff_eq, beq_eq_false_iff_ne, ne_eq, bne_iff_ne, Bool.not_eq_true', Bool.not_eq_false', Int.not_lt, Int.not_le, gt_iff_lt, ge_iff_le, bne_eq_false_iff_eq, Bool.not_eq_eq_eq_not, Bool.not_true, Bool.not_false] at c0
    have h2 : 2 ≤ vs.length := by omega
    obtain ⟨sp1, sp2, sp3⟩ := spN_spec h2
    have htl : (vs.take (spN vs.length)).length = spN vs.length := by rw [List.length_take]; omega
    have hdl : (vs.drop (spN vs.length)).length = vs.length - spN vs.length := List.length_drop
    have htl2 : (ls.take (spN vs.length)).length = spN vs.length := by rw [List.length_take]; omega
    have hdl2 : (ls.drop (spN vs.length)).length = vs.length - spN vs.length := by rw [List.length_drop]; omega
    refine ACode.skip ?_
    show ACode _ _ _ _ _ _
    refine ACode.seq ?_
    refine ACode.region' [0, 1, 2] (by kernel_rfl) rfl ?_
    refine aOps_1 rfl rfl rfl (AOp.move' (.inl rfl) rfl ?_)
    refine aOps_q rfl rfl rfl (AOp.call' rfl rfl rfl (split_b _ _ vs.length h2 (by omega)) (fun _ _ _ h => h)) (fun kq hkq => ?_)
    refine aOps_1 rfl rfl rfl (AOp.move' (.inr rfl) rfl ?_)
    refine aOps_end ?_
    show ACode _ _ _ _ _ _
    refine ACode.seq ?_
    refine ACode.seq ?_
    refine ACode.region' [0, 1, 2] (by kernel_rfl) rfl ?_
    refine aOps_1 rfl rfl rfl (AOp.move' (.inl rfl) rfl ?_)
    refine aOps_1 rfl rfl rfl (AOp.move' (.inl rfl) rfl ?_)
    refine aOps_1 rfl rfl rfl (AOp.bin' rfl rfl rfl rfl ?_)
    refine aOps_end ?_
    show ACode _ _ _ _ _ _
    refine ACode.cond rfl (fun c2 => ?_) (fun c2 => ?_)
    · try simp only [decide_eq_true_eq, decide_eq_false_iff_not, beq_iff_eq, beq_eq_false_iff_ne, ne_eq, bne_iff_ne, Bool.not_eq_true', Bool.not_eq_false', Int.not_lt, Int.not_le, gt_iff_lt, ge_iff_le, bne_eq_false_iff_eq, Bool.not_eq_eq_eq_not, Bool.not_true, Bool.not_false] at c2
      have e9 : proofT ls m part = (proofT (ls.take (spN vs.length)) m part) ++ [(root (ls.drop (spN vs.length)))] := by rw [proofT_l (by omega) (by rw [← hvl]; omega), hvl]
      have hpl := proofT_len (vs.length + 1) m (ls.take (spN vs.length)) part (by omega) (by omega) (by omega)
      rw [htl2] at hpl
      have hsz := sizeN_le (part := part) 40 (m := m) (n := spN vs.length) (by omega) (by omega)
      refine ACode.seq ?_
      obtain ⟨A8_3, c8_3, hq8_3, hs8_3⟩ := SLC.cutL hs (spN vs.length) (some (spN vs.length)) (by omega) (by intro x hx; cases hx <;> omega)
      obtain ⟨A8_9, c8_9, hq8_9, hs8_9⟩ := SLC.cutR hs (spN vs.length) none (by omega) (by intro x hx; cases hx <;> omega)
      refine ACode.drawM0 13 [(0, 23), (1, 24), (2, 25), (3, 26), (4, 27), (5, 28), (6, 29), (7, 30), (8, 31), (9, 32), (10, 33), (11, 34), (12, 35)] [6, 11] [([], []), ([], []), ([], []), ([], []), ([], []), ([], []), ([6], []), ([], []), ([], []), ([], []), ([], []), ([11], []), ([6], [11])] mixed (by kernel_rfl) (by kernel_rfl) (by decide) ?_
      refine DrawM.q 0 [(0, none)] rfl rfl (by kernel_rfl) rfl rfl (fun Hc kq hkq hF hSb hfr => AOp.move' (.inl rfl) rfl ⟨rfl, rfl, Nat.le_refl _⟩) ?_
      refine DrawM.q 1 [(8, none)] rfl rfl (by kernel_rfl) rfl rfl (fun Hc kq hkq hF hSb hfr => AOp.move' (.inl rfl) rfl ⟨rfl, rfl, Nat.le_refl _⟩) ?_
      refine DrawM.q 2 [(8, none)] rfl rfl (by kernel_rfl) rfl rfl (fun Hc kq hkq hF hSb hfr => AOp.move' (.inl rfl) rfl ⟨rfl, rfl, Nat.le_refl _⟩) ?_
      refine DrawM.q 3 [(23, some 0), (24, some 1), (25, some 2)] rfl rfl (by kernel_rfl) rfl rfl (fun Hc kq hkq hF hSb hfr => AOp.cutQ (aslice_sub (by (repeat (first | exact sub_refl _ | assumption | refine sub_upd' ?_ (by ((repeat refine (upd_other _ _ (by omega)).trans ?_); first | exact hf _ (by omega))) | refine sub_trans ?_ hSb | refine sub_over (by assumption) | refine sub_over0 ?_ | refine sub_trans (sub_same (by assumption)) ?_ | refine sub_dropu ?_ | refine sub_drop ?_ | refine sub_put ?_ (by repeat (first | assumption | exact upd_same _ _ _ | refine (upd_other _ _ (by omega)).trans ?_ | refine hSb _ _ ?_))))) hq8_3) rfl rfl (bnd_no rfl) (bnd_at rfl rfl) (mx_at rfl) ⟨rfl, rfl, Nat.le_refl _⟩) ?_
      refine DrawM.q 4 [(1, none)] rfl rfl (by kernel_rfl) rfl rfl (fun Hc kq hkq hF hSb hfr => AOp.move' (.inl rfl) rfl ⟨rfl, rfl, Nat.le_refl _⟩) ?_
      refine DrawM.q 5 [(2, none)] rfl rfl (by kernel_rfl) rfl rfl (fun Hc kq hkq hF hSb hfr => AOp.move' (.inl rfl) rfl ⟨rfl, rfl, Nat.le_refl _⟩) ?_
      refine DrawM.new 6 _ _ [(26, some 3), (27, some 4), (28, some 5)] rfl (by decide) rfl (by kernel_rfl) rfl rfl RenOk.grow (fun Hc kq hkq hF hSb hfr => AOp.call' rfl rfl rfl (ih (ls.take (spN vs.length)) (vs.take (spN vs.length)) A8_3 c8_3 (m) part _ _ (by repeat (first | assumption | exact upd_same _ _ _ | refine (upd_other _ _ (by omega)).trans ?_ | exact hF 6 (by decide) | refine hSb _ _ ?_)) (hs8_3.sub (by (repeat (first | exact sub_refl _ | assumption | refine sub_upd' ?_ (by ((repeat refine (upd_other _ _ (by omega)).trans ?_); first | exact hf _ (by omega))) | refine sub_trans ?_ hSb | refine sub_over (by assumption) | refine sub_over0 ?_ | refine sub_trans (sub_same (by assumption)) ?_ | refine sub_dropu ?_ | refine sub_drop ?_ | refine sub_put ?_ (by repeat (first | assumption | exact upd_same _ _ _ | refine (upd_other _ _ (by omega)).trans ?_ | exact hF 6 (by decide) | refine hSb _ _ ?_)))))) ((hL.take _).sub (by (repeat (first | exact sub_refl _ | assumption | refine sub_upd' ?_ (by ((repeat refine (upd_other _ _ (by omega)).trans ?_); first | exact hf _ (by omega))) | refine sub_trans ?_ hSb | refine sub_over (by assumption) | refine sub_over0 ?_ | refine sub_trans (sub_same (by assumption)) ?_ | refine sub_dropu ?_ | refine sub_drop ?_ | refine sub_put ?_ (by repeat (first | assumption | exact upd_same _ _ _ | refine (upd_other _ _ (by omega)).trans ?_ | exact hF 6 (by decide) | refine hSb _ _ ?_)))))) (by omega) (fun x hx => hb x (List.mem_of_mem_take hx)) (by omega) (by omega) (by omega)) (fun _ _ _ h => h)) ?_
      refine DrawM.q 7 [(0, none)] rfl rfl (by kernel_rfl) rfl rfl (fun Hc kq hkq hF hSb hfr => AOp.move' (.inl rfl) rfl ⟨rfl, rfl, Nat.le_refl _⟩) ?_
      refine DrawM.q 8 [(8, none)] rfl rfl (by kernel_rfl) rfl rfl (fun Hc kq hkq hF hSb hfr => AOp.move' (.inl rfl) rfl ⟨rfl, rfl, Nat.le_refl _⟩) ?_
      refine DrawM.q 9 [(30, some 7), (31, some 8)] rfl rfl (by kernel_rfl) rfl rfl (fun Hc kq hkq hF hSb hfr => AOp.cutQ (aslice_sub (by (repeat (first | exact sub_refl _ | assumption | refine sub_upd' ?_ (by ((repeat refine (upd_other _ _ (by omega)).trans ?_); first | exact hf _ (by omega))) | refine sub_trans ?_ hSb | refine sub_over (by assumption) | refine sub_over0 ?_ | refine sub_trans (sub_same (by assumption)) ?_ | refine sub_dropu ?_ | refine sub_drop ?_ | refine sub_put ?_ (by repeat (first | assumption | exact upd_same _ _ _ | refine (upd_other _ _ (by omega)).trans ?_ | refine hSb _ _ ?_))))) hq8_9) rfl rfl (bnd_at rfl rfl) (bnd_no rfl) mx_no ⟨rfl, rfl, Nat.le_refl _⟩) ?_
      refine DrawM.q 10 [(32, some 9)] rfl rfl (by kernel_rfl) rfl rfl (fun Hc kq hkq hF hSb hfr => AOp.call' rfl rfl rfl (root_b (vs.length + 1) (ls.drop (spN vs.length)) (vs.drop (spN vs.length)) A8_9 c8_9 _ _ (by repeat (first | assumption | exact upd_same _ _ _ | refine (upd_other _ _ (by omega)).trans ?_ | refine hSb _ _ ?_)) (hs8_9.sub (by (repeat (first | exact sub_refl _ | assumption | refine sub_upd' ?_ (by ((repeat refine (upd_other _ _ (by omega)).trans ?_); first | exact hf _ (by omega))) | refine sub_trans ?_ hSb | refine sub_over (by assumption) | refine sub_over0 ?_ | refine sub_trans (sub_same (by assumption)) ?_ | refine sub_dropu ?_ | refine sub_drop ?_ | refine sub_put ?_ (by repeat (first | assumption | exact upd_same _ _ _ | refine (upd_other _ _ (by omega)).trans ?_ | refine hSb _ _ ?_)))))) ((hL.drop _).sub (by (repeat (first | exact sub_refl _ | assumption | refine sub_upd' ?_ (by ((repeat refine (upd_other _ _ (by omega)).trans ?_); first | exact hf _ (by omega))) | refine sub_trans ?_ hSb | refine sub_over (by assumption) | refine sub_over0 ?_ | refine sub_trans (sub_same (by assumption)) ?_ | refine sub_dropu ?_ | refine sub_drop ?_ | refine sub_put ?_ (by repeat (first | assumption | exact upd_same _ _ _ | refine (upd_other _ _ (by omega)).trans ?_ | refine hSb _ _ ?_)))))) (by omega) (fun x hx => hb x (List.mem_of_mem_drop hx)) (by omega)) (fun _ _ _ h => h)) ?_
      refine DrawM.new 11 _ _ [(33, some 10)] rfl (by decide) rfl (by kernel_rfl) rfl rfl RenOk.grow (fun Hc kq hkq hF hSb hfr => AOp.buildD _ rfl rfl ⟨kq, Nat.le_refl _, Nat.lt_succ_self _, rfl, rfl⟩) ?_
      refine DrawM.wr 12 6 _ [(29, some 6), (34, some 11)] rfl rfl (by kernel_rfl) rfl rfl (fun Hc kq hkq hF hSb hfr => AOp.appendP (proofT (ls.take (spN vs.length)) m part) [(root (ls.drop (spN vs.length)))] rfl rfl rfl (by repeat (first | assumption | exact upd_same _ _ _ | refine (upd_other _ _ (by omega)).trans ?_ | exact hF 6 (by decide) | exact hF 11 (by decide) | refine hSb _ _ ?_)) (by repeat (first | assumption | exact upd_same _ _ _ | refine (upd_other _ _ (by omega)).trans ?_ | exact hF 6 (by decide) | exact hF 11 (by decide) | refine hSb _ _ ?_)) (by rw [List.length_singleton]; omega) (by rw [List.length_singleton]; omega) ⟨rfl, rfl, Nat.le_refl _⟩) ?_
      refine DrawM.done fun kq hkq => ?_
      show aOps _ _ _ _ [13] ⟨_, (upd (upd _ (_ + 11) _) (_ + 6) _), _⟩
      refine aOps_1 rfl rfl rfl (AOp.move' (.inr rfl) rfl ?_)
      refine aOps_end ?_
      show ACode _ _ _ _ _ _
      refine ACode.ret ?_
      rw [e9]
      exact RetQ.one (H'' := upd H _ (some (pbk 31 ((proofT (ls.take (spN vs.length)) m part) ++ [(root (ls.drop (spN vs.length)))])))) rfl rfl (by (repeat (first | exact sub_refl _ | assumption | refine sub_upd' ?_ (by ((repeat refine (upd_other _ _ (by omega)).trans ?_); first | exact hf _ (by omega))) | refine sub_over (by assumption) | refine sub_over0 ?_ | refine sub_trans (sub_same (by assumption)) ?_ | refine sub_dropu ?_ | refine sub_drop ?_ | refine sub_put ?_ (by repeat (first | assumption | exact upd_same _ _ _ | refine (upd_other _ _ (by omega)).trans ?_))))) stays_upd (fun hk => ⟨_, by omega, by omega, rfl, rfl⟩)
    · try simp only [decide_eq_true_eq, decide_eq_false_iff_not, beq_iff_eq, beq_eq_false_iff_ne, ne_eq, bne_iff_ne, Bool.not_eq_true', Bool.not_eq_false', Int.not_lt, Int.not_le, gt_iff_lt, ge_iff_le, bne_eq_false_iff_eq, Bool.not_eq_eq_eq_not, Bool.not_true, Bool.not_false] at c2
      have e9 : proofT ls m part = (proofT (ls.drop (spN vs.length)) (m - spN vs.length) true) ++ [(root (ls.take (spN vs.length)))] := by rw [proofT_r (by omega) (by omega) (by rw [← hvl]; omega), hvl]
      have hpl := proofT_len (vs.length + 1) (m - spN vs.length) (ls.drop (spN vs.length)) true (by omega) (by omega) (by omega)
      rw [hdl2] at hpl
      have hsz := sizeN_le (part := true) 40 (m := m - spN vs.length) (n := vs.length - spN vs.length) (by omega) (by omega)
      refine ACode.skip ?_
      show ACode _ _ _ _ _ _
      refine ACode.seq ?_
      obtain ⟨A9_2, c9_2, hq9_2, hs9_2⟩ := SLC.cutR hs (spN vs.length) none (by omega) (by intro x hx; cases hx <;> omega)
      obtain ⟨A9_10, c9_10, hq9_10, hs9_10⟩ := SLC.cutL hs (spN vs.length) (some (spN vs.length)) (by omega) (by intro x hx; cases hx <;> omega)
      refine ACode.drawM0 14 [(0, 36), (1, 37), (2, 38), (3, 39), (4, 40), (5, 41), (6, 42), (7, 43), (8, 44), (9, 45), (10, 46), (11, 47), (12, 48), (13, 49)] [6, 12] [([], []), ([], []), ([], []), ([], []), ([], []), ([], []), ([6], []), ([], []), ([], []), ([], []), ([], []), ([], []), ([12], []), ([6], [12])] mixed (by kernel_rfl) (by kernel_rfl) (by decide) ?_
      refine DrawM.q 0 [(0, none)] rfl rfl (by kernel_rfl) rfl rfl (fun Hc kq hkq hF hSb hfr => AOp.move' (.inl rfl) rfl ⟨rfl, rfl, Nat.le_refl _⟩) ?_
      refine DrawM.q 1 [(8, none)] rfl rfl (by kernel_rfl) rfl rfl (fun Hc kq hkq hF hSb hfr => AOp.move' (.inl rfl) rfl ⟨rfl, rfl, Nat.le_refl _⟩) ?_
      refine DrawM.q 2 [(36, some 0), (37, some 1)] rfl rfl (by kernel_rfl) rfl rfl (fun Hc kq hkq hF hSb hfr => AOp.cutQ (aslice_sub (by (repeat (first | exact sub_refl _ | assumption | refine sub_upd' ?_ (by ((repeat refine (upd_other _ _ (by omega)).trans ?_); first | exact hf _ (by omega))) | refine sub_trans ?_ hSb | refine sub_over (by assumption) | refine sub_over0 ?_ | refine sub_trans (sub_same (by assumption)) ?_ | refine sub_dropu ?_ | refine sub_drop ?_ | refine sub_put ?_ (by repeat (first | assumption | exact upd_same _ _ _ | refine (upd_other _ _ (by omega)).trans ?_ | refine hSb _ _ ?_))))) hq9_2) rfl rfl (bnd_at rfl rfl) (bnd_no rfl) mx_no ⟨rfl, rfl, Nat.le_refl _⟩) ?_
      refine DrawM.q 3 [(1, none)] rfl rfl (by kernel_rfl) rfl rfl (fun Hc kq hkq hF hSb hfr => AOp.move' (.inl rfl) rfl ⟨rfl, rfl, Nat.le_refl _⟩) ?_
      refine DrawM.q 4 [(8, none)] rfl rfl (by kernel_rfl) rfl rfl (fun Hc kq hkq hF hSb hfr => AOp.move' (.inl rfl) rfl ⟨rfl, rfl, Nat.le_refl _⟩) ?_
      refine DrawM.q 5 [(39, some 3), (40, some 4)] rfl rfl (by kernel_rfl) rfl rfl (fun Hc kq hkq hF hSb hfr => AOp.sub rfl rfl rfl (i64_wrap (by omega) (by omega)) ⟨rfl, rfl, Nat.le_refl _⟩) ?_
      rw [show ((m : Int) - (spN vs.length : Int)) = ((m - spN vs.length : Nat) : Int) by omega]
      refine DrawM.new 6 _ _ [(38, some 2), (41, some 5)] rfl (by decide) rfl (by kernel_rfl) rfl rfl RenOk.grow (fun Hc kq hkq hF hSb hfr => AOp.call' rfl rfl rfl (ih (ls.drop (spN vs.length)) (vs.drop (spN vs.length)) A9_2 c9_2 (m - spN vs.length) true _ _ (by repeat (first | assumption | exact upd_same _ _ _ | refine (upd_other _ _ (by omega)).trans ?_ | exact hF 6 (by decide) | refine hSb _ _ ?_)) (hs9_2.sub (by (repeat (first | exact sub_refl _ | assumption | refine sub_upd' ?_ (by ((repeat refine (upd_other _ _ (by omega)).trans ?_); first | exact hf _ (by omega))) | refine sub_trans ?_ hSb | refine sub_over (by assumption) | refine sub_over0 ?_ | refine sub_trans (sub_same (by assumption)) ?_ | refine sub_dropu ?_ | refine sub_drop ?_ | refine sub_put ?_ (by repeat (first | assumption | exact upd_same _ _ _ | refine (upd_other _ _ (by omega)).trans ?_ | exact hF 6 (by decide) | refine hSb _ _ ?_)))))) ((hL.drop _).sub (by (repeat (first | exact sub_refl _ | assumption | refine sub_upd' ?_ (by ((repeat refine (upd_other _ _ (by omega)).trans ?_); first | exact hf _ (by omega))) | refine sub_trans ?_ hSb | refine sub_over (by assumption) | refine sub_over0 ?_ | refine sub_trans (sub_same (by assumption)) ?_ | refine sub_dropu ?_ | refine sub_drop ?_ | refine sub_put ?_ (by repeat (first | assumption | exact upd_same _ _ _ | refine (upd_other _ _ (by omega)).trans ?_ | exact hF 6 (by decide) | refine hSb _ _ ?_)))))) (by omega) (fun x hx => hb x (List.mem_of_mem_drop hx)) (by omega) (by omega) (by omega)) (fun _ _ _ h => h)) ?_
      refine DrawM.q 7 [(0, none)] rfl rfl (by kernel_rfl) rfl rfl (fun Hc kq hkq hF hSb hfr => AOp.move' (.inl rfl) rfl ⟨rfl, rfl, Nat.le_refl _⟩) ?_
      refine DrawM.q 8 [(8, none)] rfl rfl (by kernel_rfl) rfl rfl (fun Hc kq hkq hF hSb hfr => AOp.move' (.inl rfl) rfl ⟨rfl, rfl, Nat.le_refl _⟩) ?_
      refine DrawM.q 9 [(8, none)] rfl rfl (by kernel_rfl) rfl rfl (fun Hc kq hkq hF hSb hfr => AOp.move' (.inl rfl) rfl ⟨rfl, rfl, Nat.le_refl _⟩) ?_
      refine DrawM.q 10 [(43, some 7), (44, some 8), (45, some 9)] rfl rfl (by kernel_rfl) rfl rfl (fun Hc kq hkq hF hSb hfr => AOp.cutQ (aslice_sub (by (repeat (first | exact sub_refl _ | assumption | refine sub_upd' ?_ (by ((repeat refine (upd_other _ _ (by omega)).trans ?_); first | exact hf _ (by omega))) | refine sub_trans ?_ hSb | refine sub_over (by assumption) | refine sub_over0 ?_ | refine sub_trans (sub_same (by assumption)) ?_ | refine sub_dropu ?_ | refine sub_drop ?_ | refine sub_put ?_ (by repeat (first | assumption | exact upd_same _ _ _ | refine (upd_other _ _ (by omega)).trans ?_ | refine hSb _ _ ?_))))) hq9_10) rfl rfl (bnd_no rfl) (bnd_at rfl rfl) (mx_at rfl) ⟨rfl, rfl, Nat.le_refl _⟩) ?_
      refine DrawM.q 11 [(46, some 10)] rfl rfl (by kernel_rfl) rfl rfl (fun Hc kq hkq hF hSb hfr => AOp.call' rfl rfl rfl (root_b (vs.length + 1) (ls.take (spN vs.length)) (vs.take (spN vs.length)) A9_10 c9_10 _ _ (by repeat (first | assumption | exact upd_same _ _ _ | refine (upd_other _ _ (by omega)).trans ?_ | refine hSb _ _ ?_)) (hs9_10.sub (by (repeat (first | exact sub_refl _ | assumption | refine sub_upd' ?_ (by ((repeat refine (upd_other _ _ (by omega)).trans ?_); first | exact hf _ (by omega))) | refine sub_trans ?_ hSb | refine sub_over (by assumption) | refine sub_over0 ?_ | refine sub_trans (sub_same (by assumption)) ?_ | refine sub_dropu ?_ | refine sub_drop ?_ | refine sub_put ?_ (by repeat (first | assumption | exact upd_same _ _ _ | refine (upd_other _ _ (by omega)).trans ?_ | refine hSb _ _ ?_)))))) ((hL.take _).sub (by (repeat (first | exact sub_refl _ | assumption | refine sub_upd' ?_ (by ((repeat refine (upd_other _ _ (by omega)).trans ?_); first | exact hf _ (by omega))) | refine sub_trans ?_ hSb | refine sub_over (by assumption) | refine sub_over0 ?_ | refine sub_trans (sub_same (by assumption)) ?_ | refine sub_dropu ?_ | refine sub_drop ?_ | refine sub_put ?_ (by repeat (first | assumption | exact upd_same _ _ _ | refine (upd_other _ _ (by omega)).trans ?_ | refine hSb _ _ ?_)))))) (by omega) (fun x hx => hb x (List.mem_of_mem_take hx)) (by omega)) (fun _ _ _ h => h)) ?_
      refine DrawM.new 12 _ _ [(47, some 11)] rfl (by decide) rfl (by kernel_rfl) rfl rfl RenOk.grow (fun Hc kq hkq hF hSb hfr => AOp.buildD _ rfl rfl ⟨kq, Nat.le_refl _, Nat.lt_succ_self _, rfl, rfl⟩) ?_
      refine DrawM.wr 13 6 _ [(42, some 6), (48, some 12)] rfl rfl (by kernel_rfl) rfl rfl (fun Hc kq hkq hF hSb hfr => AOp.appendP (proofT (ls.drop (spN vs.length)) (m - spN vs.length) true) [(root (ls.take (spN vs.length)))] rfl rfl rfl (by repeat (first | assumption | exact upd_same _ _ _ | refine (upd_other _ _ (by omega)).trans ?_ | exact hF 6 (by decide) | exact hF 12 (by decide) | refine hSb _ _ ?_)) (by repeat (first | assumption | exact upd_same _ _ _ | refine (upd_other _ _ (by omega)).trans ?_ | exact hF 6 (by decide) | exact hF 12 (by decide) | refine hSb _ _ ?_)) (by rw [List.length_singleton]; omega) (by rw [List.length_singleton]; omega) ⟨rfl, rfl, Nat.le_refl _⟩) ?_
      refine DrawM.done fun kq hkq => ?_
      show aOps _ _ _ _ [14] ⟨_, (upd (upd _ (_ + 12) _) (_ + 6) _), _⟩
      refine aOps_1 rfl rfl rfl (AOp.move' (.inr rfl) rfl ?_)
      refine aOps_end ?_
      show ACode _ _ _ _ _ _
      refine ACode.ret ?_
      rw [e9]
      exact RetQ.one (H'' := upd H _ (some (pbk 31 ((proofT (ls.drop (spN vs.length)) (m - spN vs.length) true) ++ [(root (ls.take (spN vs.length)))])))) rfl rfl (by (repeat (first | exact sub_refl _ | assumption | refine sub_upd' ?_ (by ((repeat refine (upd_other _ _ (by omega)).trans ?_); first | exact hf _ (by omega))) | refine sub_over (by assumption) | refine sub_over0 ?_ | refine sub_trans (sub_same (by assumption)) ?_ | refine sub_dropu ?_ | refine sub_drop ?_ | refine sub_put ?_ (by repeat (first | assumption | exact upd_same _ _ _ | refine (upd_other _ _ (by omega)).trans ?_))))) stays_upd (fun hk => ⟨_, by omega, by omega, rfl, rfl⟩)

theorem part_b : ∀ (N : Nat) (ls : List (List UInt8)) (vs : List Value) (A : Option Addr) (c : Nat) (m : Nat) (part : Bool) (H : Hp) (k : Nat), H 0 = some tabBlk → SLC H 1 A vs.length c vs → Lvs H vs ls → vs.length ≤ 1099511627776 → (∀ x ∈ ls, x.length ≤ 549755813000) → 1 ≤ m → m ≤ vs.length → vs.length < N → ACalls Tryd.prog 1 62 [.slice A vs.length c, .int .i64 (m : Int), .bool part] H k (NewD H k 31 (proofT ls m part)) := by
  intro N
  induction N
  case zero => intro ls vs A c m part H k ht hs hL hl hb h1 h2 hN; omega
  rename_i N ih
  intro ls vs A c m part H k ht hs hL hl hb hm1 hm2 hN
  refine ACalls.fresh fun hf => ?_
  refine ACalls.body Tryd.func62 rfl (Nat.le_of_ble_eq_true rfl) ?_
  have h0k := old_lt hf ht
  have hvl := hL.len
  refine ACode.seq ?_
  refine ACode.region' [0] (by kernel_rfl) rfl ?_
  refine aOps_1 rfl rfl rfl (AOp.move' (.inr rfl) rfl ?_)
  refine aOps_end ?_
  show ACode _ _ _ _ _ _
  refine ACode.seq ?_
  refine ACode.seq ?_
  refine ACode.region' [0, 1, 2, 3] (by kernel_rfl) rfl ?_
  refine aOps_1 rfl rfl rfl (AOp.move' (.inl rfl) rfl ?_)
  refine aOps_1 rfl rfl rfl (AOp.move' (.inl rfl) rfl ?_)
  refine aOps_1 rfl rfl rfl (AOp.len' rfl rfl ?_)
  refine aOps_1 rfl rfl rfl (AOp.bin' rfl rfl rfl rfl ?_)
  refine aOps_end ?_
  show ACode _ _ _ _ _ _
  refine ACode.cond rfl (fun c0 => ?_) (fun c0 => ?_)
  · try simp only [decide_eq_true_eq, decide_eq_false_iff_not, beq_iff_eq, beq_eq_false_iff_ne, ne_eq, bne_iff_ne, Bool.not_eq_true', Bool.not_eq_false', Int.not_lt, Int.not_le, gt_iff_lt, ge_iff_le, bne_eq_false_iff_eq, Bool.not_eq_eq_eq_not, Bool.not_true, Bool.not_false] at c0
    have hpe := proofT_eq (l := ls) (m := m) (part := part) (by omega)
    refine ACode.seq ?_
    refine ACode.seq ?_
    refine ACode.region' [0] (by kernel_rfl) rfl ?_
    refine aOps_1 rfl rfl rfl (AOp.move' (.inl rfl) rfl ?_)
    refine aOps_end ?_
    show ACode _ _ _ _ _ _
    refine ACode.cond rfl (fun c1 => ?_) (fun c1 => ?_)
    · try simp only [decide_eq_true_eq, decide_eq_false_iff_not, beq_iff_eq, beq_eq_false_iff_ne, ne_eq, bne_iff_ne, Bool.not_eq_true', Bool.not_eq_false', Int.not_lt, Int.not_le, gt_iff_lt, ge_iff_le, bne_eq_false_iff_eq, Bool.not_eq_eq_eq_not, Bool.not_true, Bool.not_false] at c1
      obtain rfl : part = true := c1
      rw [if_pos rfl] at hpe
      refine ACode.seq ?_
      refine ACode.region' [0, 1, 2, 3] (by kernel_rfl) rfl ?_
      refine aOps_1 rfl rfl rfl (AOp.move' (.inl rfl) rfl ?_)
      refine aOps_q rfl rfl rfl (AOp.call' rfl rfl rfl (refroot_b (vs.length + 1) ls vs A c _ _ (by repeat (first | assumption | exact upd_same _ _ _ | refine (upd_other _ _ (by omega)).trans ?_)) (hs.sub (by (repeat (first | exact sub_refl _ | assumption | refine sub_upd' ?_ (by ((repeat refine (upd_other _ _ (by omega)).trans ?_); first | exact hf _ (by omega))) | refine sub_over (by assumption) | refine sub_over0 ?_ | refine sub_trans (sub_same (by assumption)) ?_ | refine sub_dropu ?_ | refine sub_drop ?_ | refine sub_put ?_ (by repeat (first | assumption | exact upd_same _ _ _ | refine (upd_other _ _ (by omega)).trans ?_)))))) (hL.sub (by (repeat (first | exact sub_refl _ | assumption | refine sub_upd' ?_ (by ((repeat refine (upd_other _ _ (by omega)).trans ?_); first | exact hf _ (by omega))) | refine sub_over (by assumption) | refine sub_over0 ?_ | refine sub_trans (sub_same (by assumption)) ?_ | refine sub_dropu ?_ | refine sub_drop ?_ | refine sub_put ?_ (by repeat (first | assumption | exact upd_same _ _ _ | refine (upd_other _ _ (by omega)).trans ?_)))))) (by omega) hb (by omega)) (fun _ _ _ h => h)) (fun kq hkq => ?_)
      refine aOps_1 rfl rfl rfl (AOp.buildD _ rfl rfl ?_)
      refine aOps_1 rfl rfl rfl (AOp.move' (.inr rfl) rfl ?_)
      refine aOps_end ?_
      show ACode _ _ _ _ _ _
      refine ACode.ret ?_
      rw [hpe]
      exact RetQ.one (H'' := upd H _ (some (pbk 31 [root ls]))) rfl rfl (by (repeat (first | exact sub_refl _ | assumption | refine sub_upd' ?_ (by ((repeat refine (upd_other _ _ (by omega)).trans ?_); first | exact hf _ (by omega))) | refine sub_over (by assumption) | refine sub_over0 ?_ | refine sub_trans (sub_same (by assumption)) ?_ | refine sub_dropu ?_ | refine sub_drop ?_ | refine sub_put ?_ (by repeat (first | assumption | exact upd_same _ _ _ | refine (upd_other _ _ (by omega)).trans ?_))))) stays_upd (fun hk => ⟨_, by omega, by omega, rfl, rfl⟩)
    · try simp only [decide_eq_true_eq, decide_eq_false_iff_not, beq_iff_eq, beq_eq_false_iff_ne, ne_eq, bne_iff_ne, Bool.not_eq_true', Bool.not_eq_false', Int.not_lt, Int.not_le, gt_iff_lt, ge_iff_le, bne_eq_false_iff_eq, Bool.not_eq_eq_eq_not, Bool.not_true, Bool.not_false] at c1
      obtain rfl : part = false := by simpa using c1
      rw [if_neg (by decide)] at hpe
      refine ACode.skip ?_
      show ACode _ _ _ _ _ _
      refine ACode.seq ?_
      refine ACode.region' [0] (by kernel_rfl) rfl ?_
      refine aOps_1 rfl rfl rfl (AOp.move' (.inr rfl) rfl ?_)
      refine aOps_end ?_
      show ACode _ _ _ _ _ _
      refine ACode.adopt (t := 6) 31 32 (by decide) rfl ?_
      refine ACode.ret ?_
      rw [hpe]
      exact RetQ.one (H'' := upd H k (some (pbk 31 []))) rfl rfl (by (repeat (first | exact sub_refl _ | assumption | refine sub_upd' ?_ (by ((repeat refine (upd_other _ _ (by omega)).trans ?_); first | exact hf _ (by omega))) | refine sub_over (by assumption) | refine sub_over0 ?_ | refine sub_trans (sub_same (by assumption)) ?_ | refine sub_dropu ?_ | refine sub_drop ?_ | refine sub_put ?_ (by repeat (first | assumption | exact upd_same _ _ _ | refine (upd_other _ _ (by omega)).trans ?_))))) stays_upd (fun hk => ⟨k, by omega, by omega, rfl, rfl⟩)
  · try simp only [decide_eq_true_eq, decide_eq_false_iff_not, beq_iff_eq, beq_eq_false_iff_ne, ne_eq, bne_iff_ne, Bool.not_eq_true', Bool.not_eq_false', Int.not_lt, Int.not_le, gt_iff_lt, ge_iff_le, bne_eq_false_iff_eq, Bool.not_eq_eq_eq_not, Bool.not_true, Bool.not_false] at c0
    have h2 : 2 ≤ vs.length := by omega
    obtain ⟨sp1, sp2, sp3⟩ := spN_spec h2
    have htl : (vs.take (spN vs.length)).length = spN vs.length := by rw [List.length_take]; omega
    have hdl : (vs.drop (spN vs.length)).length = vs.length - spN vs.length := List.length_drop
    have htl2 : (ls.take (spN vs.length)).length = spN vs.length := by rw [List.length_take]; omega
    have hdl2 : (ls.drop (spN vs.length)).length = vs.length - spN vs.length := by rw [List.length_drop]; omega
    refine ACode.skip ?_
    show ACode _ _ _ _ _ _
    refine ACode.seq ?_
    refine ACode.region' [0, 1, 2, 3] (by kernel_rfl) rfl ?_
    refine aOps_1 rfl rfl rfl (AOp.move' (.inl rfl) rfl ?_)
    refine aOps_1 rfl rfl rfl (AOp.len' rfl rfl ?_)
    refine aOps_q rfl rfl rfl (AOp.call' rfl rfl rfl (refsplit_b _ _ vs.length h2 (by omega)) (fun _ _ _ h => h)) (fun kq hkq => ?_)
    refine aOps_1 rfl rfl rfl (AOp.move' (.inr rfl) rfl ?_)
    refine aOps_end ?_
    show ACode _ _ _ _ _ _
    refine ACode.seq ?_
    refine ACode.seq ?_
    refine ACode.region' [0, 1, 2] (by kernel_rfl) rfl ?_
    refine aOps_1 rfl rfl rfl (AOp.move' (.inl rfl) rfl ?_)
    refine aOps_1 rfl rfl rfl (AOp.move' (.inl rfl) rfl ?_)
    refine aOps_1 rfl rfl rfl (AOp.bin' rfl rfl rfl rfl ?_)
    refine aOps_end ?_
    show ACode _ _ _ _ _ _
    refine ACode.cond rfl (fun c2 => ?_) (fun c2 => ?_)
    · try simp only [decide_eq_true_eq, decide_eq_false_iff_not, beq_iff_eq, beq_eq_false_iff_ne, ne_eq, bne_iff_ne, Bool.not_eq_true', Bool.not_eq_false', Int.not_lt, Int.not_le, gt_iff_lt, ge_iff_le, bne_eq_false_iff_eq, Bool.not_eq_eq_eq_not, Bool.not_true, Bool.not_false] at c2
      have e9 : proofT ls m part = (proofT (ls.take (spN vs.length)) m part) ++ [(root (ls.drop (spN vs.length)))] := by rw [proofT_l (by omega) (by rw [← hvl]; omega), hvl]
      have hpl := proofT_len (vs.length + 1) m (ls.take (spN vs.length)) part (by omega) (by omega) (by omega)
      rw [htl2] at hpl
      have hsz := sizeN_le (part := part) 40 (m := m) (n := spN vs.length) (by omega) (by omega)
      refine ACode.seq ?_
      obtain ⟨A7_2, c7_2, hq7_2, hs7_2⟩ := SLC.cutL hs (spN vs.length) none (by omega) (by intro x hx; cases hx <;> omega)
      obtain ⟨A7_8, c7_8, hq7_8, hs7_8⟩ := SLC.cutR hs (spN vs.length) none (by omega) (by intro x hx; cases hx <;> omega)
      refine ACode.drawM0 12 [(0, 22), (1, 23), (2, 24), (3, 25), (4, 26), (5, 27), (6, 28), (7, 29), (8, 30), (9, 31), (10, 32), (11, 33)] [5, 10] [([], []), ([], []), ([], []), ([], []), ([], []), ([5], []), ([], []), ([], []), ([], []), ([], []), ([10], []), ([5], [10])] mixed (by kernel_rfl) (by kernel_rfl) (by decide) ?_
      refine DrawM.q 0 [(0, none)] rfl rfl (by kernel_rfl) rfl rfl (fun Hc kq hkq hF hSb hfr => AOp.move' (.inl rfl) rfl ⟨rfl, rfl, Nat.le_refl _⟩) ?_
      refine DrawM.q 1 [(7, none)] rfl rfl (by kernel_rfl) rfl rfl (fun Hc kq hkq hF hSb hfr => AOp.move' (.inl rfl) rfl ⟨rfl, rfl, Nat.le_refl _⟩) ?_
      refine DrawM.q 2 [(22, some 0), (23, some 1)] rfl rfl (by kernel_rfl) rfl rfl (fun Hc kq hkq hF hSb hfr => AOp.cutQ (aslice_sub (by (repeat (first | exact sub_refl _ | assumption | refine sub_upd' ?_ (by ((repeat refine (upd_other _ _ (by omega)).trans ?_); first | exact hf _ (by omega))) | refine sub_trans ?_ hSb | refine sub_over (by assumption) | refine sub_over0 ?_ | refine sub_trans (sub_same (by assumption)) ?_ | refine sub_dropu ?_ | refine sub_drop ?_ | refine sub_put ?_ (by repeat (first | assumption | exact upd_same _ _ _ | refine (upd_other _ _ (by omega)).trans ?_ | refine hSb _ _ ?_))))) hq7_2) rfl rfl (bnd_no rfl) (bnd_at rfl rfl) mx_no ⟨rfl, rfl, Nat.le_refl _⟩) ?_
      refine DrawM.q 3 [(1, none)] rfl rfl (by kernel_rfl) rfl rfl (fun Hc kq hkq hF hSb hfr => AOp.move' (.inl rfl) rfl ⟨rfl, rfl, Nat.le_refl _⟩) ?_
      refine DrawM.q 4 [(2, none)] rfl rfl (by kernel_rfl) rfl rfl (fun Hc kq hkq hF hSb hfr => AOp.move' (.inl rfl) rfl ⟨rfl, rfl, Nat.le_refl _⟩) ?_
      refine DrawM.new 5 _ _ [(24, some 2), (25, some 3), (26, some 4)] rfl (by decide) rfl (by kernel_rfl) rfl rfl RenOk.grow (fun Hc kq hkq hF hSb hfr => AOp.call' rfl rfl rfl (ih (ls.take (spN vs.length)) (vs.take (spN vs.length)) A7_2 c7_2 (m) part _ _ (by repeat (first | assumption | exact upd_same _ _ _ | refine (upd_other _ _ (by omega)).trans ?_ | exact hF 5 (by decide) | refine hSb _ _ ?_)) (hs7_2.sub (by (repeat (first | exact sub_refl _ | assumption | refine sub_upd' ?_ (by ((repeat refine (upd_other _ _ (by omega)).trans ?_); first | exact hf _ (by omega))) | refine sub_trans ?_ hSb | refine sub_over (by assumption) | refine sub_over0 ?_ | refine sub_trans (sub_same (by assumption)) ?_ | refine sub_dropu ?_ | refine sub_drop ?_ | refine sub_put ?_ (by repeat (first | assumption | exact upd_same _ _ _ | refine (upd_other _ _ (by omega)).trans ?_ | exact hF 5 (by decide) | refine hSb _ _ ?_)))))) ((hL.take _).sub (by (repeat (first | exact sub_refl _ | assumption | refine sub_upd' ?_ (by ((repeat refine (upd_other _ _ (by omega)).trans ?_); first | exact hf _ (by omega))) | refine sub_trans ?_ hSb | refine sub_over (by assumption) | refine sub_over0 ?_ | refine sub_trans (sub_same (by assumption)) ?_ | refine sub_dropu ?_ | refine sub_drop ?_ | refine sub_put ?_ (by repeat (first | assumption | exact upd_same _ _ _ | refine (upd_other _ _ (by omega)).trans ?_ | exact hF 5 (by decide) | refine hSb _ _ ?_)))))) (by omega) (fun x hx => hb x (List.mem_of_mem_take hx)) (by omega) (by omega) (by omega)) (fun _ _ _ h => h)) ?_
      refine DrawM.q 6 [(0, none)] rfl rfl (by kernel_rfl) rfl rfl (fun Hc kq hkq hF hSb hfr => AOp.move' (.inl rfl) rfl ⟨rfl, rfl, Nat.le_refl _⟩) ?_
      refine DrawM.q 7 [(7, none)] rfl rfl (by kernel_rfl) rfl rfl (fun Hc kq hkq hF hSb hfr => AOp.move' (.inl rfl) rfl ⟨rfl, rfl, Nat.le_refl _⟩) ?_
      refine DrawM.q 8 [(28, some 6), (29, some 7)] rfl rfl (by kernel_rfl) rfl rfl (fun Hc kq hkq hF hSb hfr => AOp.cutQ (aslice_sub (by (repeat (first | exact sub_refl _ | assumption | refine sub_upd' ?_ (by ((repeat refine (upd_other _ _ (by omega)).trans ?_); first | exact hf _ (by omega))) | refine sub_trans ?_ hSb | refine sub_over (by assumption) | refine sub_over0 ?_ | refine sub_trans (sub_same (by assumption)) ?_ | refine sub_dropu ?_ | refine sub_drop ?_ | refine sub_put ?_ (by repeat (first | assumption | exact upd_same _ _ _ | refine (upd_other _ _ (by omega)).trans ?_ | refine hSb _ _ ?_))))) hq7_8) rfl rfl (bnd_at rfl rfl) (bnd_no rfl) mx_no ⟨rfl, rfl, Nat.le_refl _⟩) ?_
      refine DrawM.q 9 [(30, some 8)] rfl rfl (by kernel_rfl) rfl rfl (fun Hc kq hkq hF hSb hfr => AOp.call' rfl rfl rfl (refroot_b (vs.length + 1) (ls.drop (spN vs.length)) (vs.drop (spN vs.length)) A7_8 c7_8 _ _ (by repeat (first | assumption | exact upd_same _ _ _ | refine (upd_other _ _ (by omega)).trans ?_ | refine hSb _ _ ?_)) (hs7_8.sub (by (repeat (first | exact sub_refl _ | assumption | refine sub_upd' ?_ (by ((repeat refine (upd_other _ _ (by omega)).trans ?_); first | exact hf _ (by omega))) | refine sub_trans ?_ hSb | refine sub_over (by assumption) | refine sub_over0 ?_ | refine sub_trans (sub_same (by assumption)) ?_ | refine sub_dropu ?_ | refine sub_drop ?_ | refine sub_put ?_ (by repeat (first | assumption | exact upd_same _ _ _ | refine (upd_other _ _ (by omega)).trans ?_ | refine hSb _ _ ?_)))))) ((hL.drop _).sub (by (repeat (first | exact sub_refl _ | assumption | refine sub_upd' ?_ (by ((repeat refine (upd_other _ _ (by omega)).trans ?_); first | exact hf _ (by omega))) | refine sub_trans ?_ hSb | refine sub_over (by assumption) | refine sub_over0 ?_ | refine sub_trans (sub_same (by assumption)) ?_ | refine sub_dropu ?_ | refine sub_drop ?_ | refine sub_put ?_ (by repeat (first | assumption | exact upd_same _ _ _ | refine (upd_other _ _ (by omega)).trans ?_ | refine hSb _ _ ?_)))))) (by omega) (fun x hx => hb x (List.mem_of_mem_drop hx)) (by omega)) (fun _ _ _ h => h)) ?_
      refine DrawM.new 10 _ _ [(31, some 9)] rfl (by decide) rfl (by kernel_rfl) rfl rfl RenOk.grow (fun Hc kq hkq hF hSb hfr => AOp.buildD _ rfl rfl ⟨kq, Nat.le_refl _, Nat.lt_succ_self _, rfl, rfl⟩) ?_
      refine DrawM.wr 11 5 _ [(27, some 5), (32, some 10)] rfl rfl (by kernel_rfl) rfl rfl (fun Hc kq hkq hF hSb hfr => AOp.appendP (proofT (ls.take (spN vs.length)) m part) [(root (ls.drop (spN vs.length)))] rfl rfl rfl (by repeat (first | assumption | exact upd_same _ _ _ | refine (upd_other _ _ (by omega)).trans ?_ | exact hF 5 (by decide) | exact hF 10 (by decide) | refine hSb _ _ ?_)) (by repeat (first | assumption | exact upd_same _ _ _ | refine (upd_other _ _ (by omega)).trans ?_ | exact hF 5 (by decide) | exact hF 10 (by decide) | refine hSb _ _ ?_)) (by rw [List.length_singleton]; omega) (by rw [List.length_singleton]; omega) ⟨rfl, rfl, Nat.le_refl _⟩) ?_
      refine DrawM.done fun kq hkq => ?_
      show aOps _ _ _ _ [12] ⟨_, (upd (upd _ (_ + 10) _) (_ + 5) _), _⟩
      refine aOps_1 rfl rfl rfl (AOp.move' (.inr rfl) rfl ?_)
      refine aOps_end ?_
      show ACode _ _ _ _ _ _
      refine ACode.ret ?_
      rw [e9]
      exact RetQ.one (H'' := upd H _ (some (pbk 31 ((proofT (ls.take (spN vs.length)) m part) ++ [(root (ls.drop (spN vs.length)))])))) rfl rfl (by (repeat (first | exact sub_refl _ | assumption | refine sub_upd' ?_ (by ((repeat refine (upd_other _ _ (by omega)).trans ?_); first | exact hf _ (by omega))) | refine sub_over (by assumption) | refine sub_over0 ?_ | refine sub_trans (sub_same (by assumption)) ?_ | refine sub_dropu ?_ | refine sub_drop ?_ | refine sub_put ?_ (by repeat (first | assumption | exact upd_same _ _ _ | refine (upd_other _ _ (by omega)).trans ?_))))) stays_upd (fun hk => ⟨_, by omega, by omega, rfl, rfl⟩)
    · try simp only [decide_eq_true_eq, decide_eq_false_iff_not, beq_iff_eq, beq_eq_false_iff_ne, ne_eq, bne_iff_ne, Bool.not_eq_true', Bool.not_eq_false', Int.not_lt, Int.not_le, gt_iff_lt, ge_iff_le, bne_eq_false_iff_eq, Bool.not_eq_eq_eq_not, Bool.not_true, Bool.not_false] at c2
      have e9 : proofT ls m part = (proofT (ls.drop (spN vs.length)) (m - spN vs.length) true) ++ [(root (ls.take (spN vs.length)))] := by rw [proofT_r (by omega) (by omega) (by rw [← hvl]; omega), hvl]
      have hpl := proofT_len (vs.length + 1) (m - spN vs.length) (ls.drop (spN vs.length)) true (by omega) (by omega) (by omega)
      rw [hdl2] at hpl
      have hsz := sizeN_le (part := true) 40 (m := m - spN vs.length) (n := vs.length - spN vs.length) (by omega) (by omega)
      refine ACode.skip ?_
      show ACode _ _ _ _ _ _
      refine ACode.seq ?_
      obtain ⟨A8_2, c8_2, hq8_2, hs8_2⟩ := SLC.cutR hs (spN vs.length) none (by omega) (by intro x hx; cases hx <;> omega)
      obtain ⟨A8_9, c8_9, hq8_9, hs8_9⟩ := SLC.cutL hs (spN vs.length) none (by omega) (by intro x hx; cases hx <;> omega)
      refine ACode.drawM0 13 [(0, 34), (1, 35), (2, 36), (3, 37), (4, 38), (5, 39), (6, 40), (7, 41), (8, 42), (9, 43), (10, 44), (11, 45), (12, 46)] [6, 11] [([], []), ([], []), ([], []), ([], []), ([], []), ([], []), ([6], []), ([], []), ([], []), ([], []), ([], []), ([11], []), ([6], [11])] mixed (by kernel_rfl) (by kernel_rfl) (by decide) ?_
      refine DrawM.q 0 [(0, none)] rfl rfl (by kernel_rfl) rfl rfl (fun Hc kq hkq hF hSb hfr => AOp.move' (.inl rfl) rfl ⟨rfl, rfl, Nat.le_refl _⟩) ?_
      refine DrawM.q 1 [(7, none)] rfl rfl (by kernel_rfl) rfl rfl (fun Hc kq hkq hF hSb hfr => AOp.move' (.inl rfl) rfl ⟨rfl, rfl, Nat.le_refl _⟩) ?_
      refine DrawM.q 2 [(34, some 0), (35, some 1)] rfl rfl (by kernel_rfl) rfl rfl (fun Hc kq hkq hF hSb hfr => AOp.cutQ (aslice_sub (by (repeat (first | exact sub_refl _ | assumption | refine sub_upd' ?_ (by ((repeat refine (upd_other _ _ (by omega)).trans ?_); first | exact hf _ (by omega))) | refine sub_trans ?_ hSb | refine sub_over (by assumption) | refine sub_over0 ?_ | refine sub_trans (sub_same (by assumption)) ?_ | refine sub_dropu ?_ | refine sub_drop ?_ | refine sub_put ?_ (by repeat (first | assumption | exact upd_same _ _ _ | refine (upd_other _ _ (by omega)).trans ?_ | refine hSb _ _ ?_))))) hq8_2) rfl rfl (bnd_at rfl rfl) (bnd_no rfl) mx_no ⟨rfl, rfl, Nat.le_refl _⟩) ?_
      refine DrawM.q 3 [(1, none)] rfl rfl (by kernel_rfl) rfl rfl (fun Hc kq hkq hF hSb hfr => AOp.move' (.inl rfl) rfl ⟨rfl, rfl, Nat.le_refl _⟩) ?_
      refine DrawM.q 4 [(7, none)] rfl rfl (by kernel_rfl) rfl rfl (fun Hc kq hkq hF hSb hfr => AOp.move' (.inl rfl) rfl ⟨rfl, rfl, Nat.le_refl _⟩) ?_
      refine DrawM.q 5 [(37, some 3), (38, some 4)] rfl rfl (by kernel_rfl) rfl rfl (fun Hc kq hkq hF hSb hfr => AOp.sub rfl rfl rfl (i64_wrap (by omega) (by omega)) ⟨rfl, rfl, Nat.le_refl _⟩) ?_
      rw [show ((m : Int) - (spN vs.length : Int)) = ((m - spN vs.length : Nat) : Int) by omega]
      refine DrawM.new 6 _ _ [(36, some 2), (39, some 5)] rfl (by decide) rfl (by kernel_rfl) rfl rfl RenOk.grow (fun Hc kq hkq hF hSb hfr => AOp.call' rfl rfl rfl (ih (ls.drop (spN vs.length)) (vs.drop (spN vs.length)) A8_2 c8_2 (m - spN vs.length) true _ _ (by repeat (first | assumption | exact upd_same _ _ _ | refine (upd_other _ _ (by omega)).trans ?_ | exact hF 6 (by decide) | refine hSb _ _ ?_)) (hs8_2.sub (by (repeat (first | exact sub_refl _ | assumption | refine sub_upd' ?_ (by ((repeat refine (upd_other _ _ (by omega)).trans ?_); first | exact hf _ (by omega))) | refine sub_trans ?_ hSb | refine sub_over (by assumption) | refine sub_over0 ?_ | refine sub_trans (sub_same (by assumption)) ?_ | refine sub_dropu ?_ | refine sub_drop ?_ | refine sub_put ?_ (by repeat (first | assumption | exact upd_same _ _ _ | refine (upd_other _ _ (by omega)).trans ?_ | exact hF 6 (by decide) | refine hSb _ _ ?_)))))) ((hL.drop _).sub (by (repeat (first | exact sub_refl _ | assumption | refine sub_upd' ?_ (by ((repeat refine (upd_other _ _ (by omega)).trans ?_); first | exact hf _ (by omega))) | refine sub_trans ?_ hSb | refine sub_over (by assumption) | refine sub_over0 ?_ | refine sub_trans (sub_same (by assumption)) ?_ | refine sub_dropu ?_ | refine sub_drop ?_ | refine sub_put ?_ (by repeat (first | assumption | exact upd_same _ _ _ | refine (upd_other _ _ (by omega)).trans ?_ | exact hF 6 (by decide) | refine hSb _ _ ?_)))))) (by omega) (fun x hx => hb x (List.mem_of_mem_drop hx)) (by omega) (by omega) (by omega)) (fun _ _ _ h => h)) ?_
      refine DrawM.q 7 [(0, none)] rfl rfl (by kernel_rfl) rfl rfl (fun Hc kq hkq hF hSb hfr => AOp.move' (.inl rfl) rfl ⟨rfl, rfl, Nat.le_refl _⟩) ?_
      refine DrawM.q 8 [(7, none)] rfl rfl (by kernel_rfl) rfl rfl (fun Hc kq hkq hF hSb hfr => AOp.move' (.inl rfl) rfl ⟨rfl, rfl, Nat.le_refl _⟩) ?_
      refine DrawM.q 9 [(41, some 7), (42, some 8)] rfl rfl (by kernel_rfl) rfl rfl (fun Hc kq hkq hF hSb hfr => AOp.cutQ (aslice_sub (by (repeat (first | exact sub_refl _ | assumption | refine sub_upd' ?_ (by ((repeat refine (upd_other _ _ (by omega)).trans ?_); first | exact hf _ (by omega))) | refine sub_trans ?_ hSb | refine sub_over (by assumption) | refine sub_over0 ?_ | refine sub_trans (sub_same (by assumption)) ?_ | refine sub_dropu ?_ | refine sub_drop ?_ | refine sub_put ?_ (by repeat (first | assumption | exact upd_same _ _ _ | refine (upd_other _ _ (by omega)).trans ?_ | refine hSb _ _ ?_))))) hq8_9) rfl rfl (bnd_no rfl) (bnd_at rfl rfl) mx_no ⟨rfl, rfl, Nat.le_refl _⟩) ?_
      refine DrawM.q 10 [(43, some 9)] rfl rfl (by kernel_rfl) rfl rfl (fun Hc kq hkq hF hSb hfr => AOp.call' rfl rfl rfl (refroot_b (vs.length + 1) (ls.take (spN vs.length)) (vs.take (spN vs.length)) A8_9 c8_9 _ _ (by repeat (first | assumption | exact upd_same _ _ _ | refine (upd_other _ _ (by omega)).trans ?_ | refine hSb _ _ ?_)) (hs8_9.sub (by (repeat (first | exact sub_refl _ | assumption | refine sub_upd' ?_ (by ((repeat refine (upd_other _ _ (by omega)).trans ?_); first | exact hf _ (by omega))) | refine sub_trans ?_ hSb | refine sub_over (by assumption) | refine sub_over0 ?_ | refine sub_trans (sub_same (by assumption)) ?_ | refine sub_dropu ?_ | refine sub_drop ?_ | refine sub_put ?_ (by repeat (first | assumption | exact upd_same _ _ _ | refine (upd_other _ _ (by omega)).trans ?_ | refine hSb _ _ ?_)))))) ((hL.take _).sub (by (repeat (first | exact sub_refl _ | assumption | refine sub_upd' ?_ (by ((repeat refine (upd_other _ _ (by omega)).trans ?_); first | exact hf _ (by omega))) | refine sub_trans ?_ hSb | refine sub_over (by assumption) | refine sub_over0 ?_ | refine sub_trans (sub_same (by assumption)) ?_ | refine sub_dropu ?_ | refine sub_drop ?_ | refine sub_put ?_ (by repeat (first | assumption | exact upd_same _ _ _ | refine (upd_other _ _ (by omega)).trans ?_ | refine hSb _ _ ?_)))))) (by omega) (fun x hx => hb x (List.mem_of_mem_take hx)) (by omega)) (fun _ _ _ h => h)) ?_
      refine DrawM.new 11 _ _ [(44, some 10)] rfl (by decide) rfl (by kernel_rfl) rfl rfl RenOk.grow (fun Hc kq hkq hF hSb hfr => AOp.buildD _ rfl rfl ⟨kq, Nat.le_refl _, Nat.lt_succ_self _, rfl, rfl⟩) ?_
      refine DrawM.wr 12 6 _ [(40, some 6), (45, some 11)] rfl rfl (by kernel_rfl) rfl rfl (fun Hc kq hkq hF hSb hfr => AOp.appendP (proofT (ls.drop (spN vs.length)) (m - spN vs.length) true) [(root (ls.take (spN vs.length)))] rfl rfl rfl (by repeat (first | assumption | exact upd_same _ _ _ | refine (upd_other _ _ (by omega)).trans ?_ | exact hF 6 (by decide) | exact hF 11 (by decide) | refine hSb _ _ ?_)) (by repeat (first | assumption | exact upd_same _ _ _ | refine (upd_other _ _ (by omega)).trans ?_ | exact hF 6 (by decide) | exact hF 11 (by decide) | refine hSb _ _ ?_)) (by rw [List.length_singleton]; omega) (by rw [List.length_singleton]; omega) ⟨rfl, rfl, Nat.le_refl _⟩) ?_
      refine DrawM.done fun kq hkq => ?_
      show aOps _ _ _ _ [13] ⟨_, (upd (upd _ (_ + 11) _) (_ + 6) _), _⟩
      refine aOps_1 rfl rfl rfl (AOp.move' (.inr rfl) rfl ?_)
      refine aOps_end ?_
      show ACode _ _ _ _ _ _
      refine ACode.ret ?_
      rw [e9]
      exact RetQ.one (H'' := upd H _ (some (pbk 31 ((proofT (ls.drop (spN vs.length)) (m - spN vs.length) true) ++ [(root (ls.take (spN vs.length)))])))) rfl rfl (by (repeat (first | exact sub_refl _ | assumption | refine sub_upd' ?_ (by ((repeat refine (upd_other _ _ (by omega)).trans ?_); first | exact hf _ (by omega))) | refine sub_over (by assumption) | refine sub_over0 ?_ | refine sub_trans (sub_same (by assumption)) ?_ | refine sub_dropu ?_ | refine sub_drop ?_ | refine sub_put ?_ (by repeat (first | assumption | exact upd_same _ _ _ | refine (upd_other _ _ (by omega)).trans ?_))))) stays_upd (fun hk => ⟨_, by omega, by omega, rfl, rfl⟩)

theorem proofF_b (ht : H 0 = some tabBlk) (ls : List (List UInt8)) (vs : List Value) (A : Option Addr) (c : Nat) (hs : SLC H 1 A vs.length c vs) (hL : Lvs H vs ls) (hl : vs.length ≤ 1099511627776) (hb : ∀ x ∈ ls, x.length ≤ 549755813000) (m : Int) (hm1 : -9223372036854775808 ≤ m) (hm2 : m ≤ 9223372036854775807) : ACalls Tryd.prog 1 58 [.slice A vs.length c, .int .i64 m] H k (NewP H k 31 (proofZ ls m) (mayZ m vs.length)) := by
  refine ACalls.fresh fun hf => ?_
  refine ACalls.body Tryd.func58 rfl (Nat.le_of_ble_eq_true rfl) ?_
  have h0k := old_lt hf ht
  have hvl := hL.len
  refine ACode.seq ?_
  refine ACode.region' [0, 1] (by kernel_rfl) rfl ?_
  refine aOps_1 rfl rfl rfl (AOp.move' (.inr rfl) rfl ?_)
  refine aOps_1 rfl rfl rfl (AOp.move' (.inr rfl) rfl ?_)
  refine aOps_end ?_
  show ACode _ _ _ _ _ _
  refine ACode.seq ?_
  refine ACode.seq ?_
  refine ACode.region' [0, 1, 2, 3, 4] (by kernel_rfl) rfl ?_
  refine aOps_1 rfl rfl rfl (AOp.move' (.inl rfl) rfl ?_)
  refine aOps_1 rfl rfl rfl (AOp.move' (.inl rfl) rfl ?_)
  refine aOps_1 rfl rfl rfl (AOp.len' rfl rfl ?_)
  refine aOps_q rfl rfl rfl (AOp.call' rfl rfl rfl (may_b _ _ m vs.length hm1 hm2 (by omega) (by omega)) (fun _ _ _ h => h)) (fun kq hkq => ?_)
  refine aOps_1 rfl rfl rfl (AOp.un' rfl rfl rfl ?_)
  refine aOps_end ?_
  show ACode _ _ _ _ _ _
  refine ACode.cond rfl (fun c0 => ?_) (fun c0 => ?_)
  · try simp only [decide_eq_true_eq, decide_eq_false_iff_not, beq_iff_eq, beq_eq_false_iff_ne, ne_eq, bne_iff_ne, Bool.not_eq_true', Bool.not_eq_false', Int.not_lt, Int.not_le, gt_iff_lt, ge_iff_le, bne_eq_false_iff_eq, Bool.not_eq_eq_eq_not, Bool.not_true, Bool.not_false] at c0
    have hmy : mayZ m vs.length = false := by simpa using c0
    have hpe : proofZ ls m = [] := by { unfold mayZ at hmy; rw [decide_eq_false_iff_not] at hmy; exact if_neg (by omega) }
    refine ACode.seq ?_
    refine ACode.region' [0, 1] (by kernel_rfl) rfl ?_
    refine aOps_1 rfl rfl rfl (AOp.move' (.inr rfl) rfl ?_)
    refine aOps_1 rfl rfl rfl (AOp.move' (.inr rfl) rfl ?_)
    refine aOps_end ?_
    show ACode _ _ _ _ _ _
    refine ACode.adopt (t := 4) 31 32 (by decide) rfl ?_
    refine ACode.ret ?_
    rw [hpe, hmy]
    exact RetQ.two (H'' := upd H _ (some (pbk 31 []))) rfl rfl rfl (by (repeat (first | exact sub_refl _ | assumption | refine sub_upd' ?_ (by ((repeat refine (upd_other _ _ (by omega)).trans ?_); first | exact hf _ (by omega))) | refine sub_over (by assumption) | refine sub_over0 ?_ | refine sub_trans (sub_same (by assumption)) ?_ | refine sub_dropu ?_ | refine sub_drop ?_ | refine sub_put ?_ (by repeat (first | assumption | exact upd_same _ _ _ | refine (upd_other _ _ (by omega)).trans ?_))))) stays_upd (fun hk => ⟨_, by omega, by omega, rfl, rfl⟩)
  · try simp only [decide_eq_true_eq, decide_eq_false_iff_not, beq_iff_eq, beq_eq_false_iff_ne, ne_eq, bne_iff_ne, Bool.not_eq_true', Bool.not_eq_false', Int.not_lt, Int.not_le, gt_iff_lt, ge_iff_le, bne_eq_false_iff_eq, Bool.not_eq_eq_eq_not, Bool.not_true, Bool.not_false] at c0
    have hmy : mayZ m vs.length = true := by simpa using c0
    have hmz := hmy
    unfold mayZ at hmz
    rw [decide_eq_true_eq] at hmz
    refine ACode.skip ?_
    show ACode _ _ _ _ _ _
    refine ACode.seq ?_
    refine ACode.seq ?_
    refine ACode.region' [0, 1] (by kernel_rfl) rfl ?_
    refine aOps_1 rfl rfl rfl (AOp.move' (.inl rfl) rfl ?_)
    refine aOps_1 rfl rfl rfl (AOp.bin' rfl rfl rfl rfl ?_)
    refine aOps_end ?_
    show ACode _ _ _ _ _ _
    refine ACode.cond rfl (fun c1 => ?_) (fun c1 => ?_)
    · try simp only [decide_eq_true_eq, decide_eq_false_iff_not, beq_iff_eq, beq_eq_false_iff_ne, ne_eq, bne_iff_ne, Bool.not_eq_true', Bool.not_eq_false', Int.not_lt, Int.not_le, gt_iff_lt, ge_iff_le, bne_eq_false_iff_eq, Bool.not_eq_eq_eq_not, Bool.not_true, Bool.not_false] at c1
      have hpe : proofZ ls m = [] := if_neg (by omega)
      refine ACode.seq ?_
      refine ACode.region' [0, 1] (by kernel_rfl) rfl ?_
      refine aOps_1 rfl rfl rfl (AOp.move' (.inr rfl) rfl ?_)
      refine aOps_1 rfl rfl rfl (AOp.move' (.inr rfl) rfl ?_)
      refine aOps_end ?_
      show ACode _ _ _ _ _ _
      refine ACode.adopt (t := 4) 31 32 (by decide) rfl ?_
      refine ACode.ret ?_
      rw [hpe, hmy]
      exact RetQ.two (H'' := upd H _ (some (pbk 31 []))) rfl rfl rfl (by (repeat (first | exact sub_refl _ | assumption | refine sub_upd' ?_ (by ((repeat refine (upd_other _ _ (by omega)).trans ?_); first | exact hf _ (by omega))) | refine sub_over (by assumption) | refine sub_over0 ?_ | refine sub_trans (sub_same (by assumption)) ?_ | refine sub_dropu ?_ | refine sub_drop ?_ | refine sub_put ?_ (by repeat (first | assumption | exact upd_same _ _ _ | refine (upd_other _ _ (by omega)).trans ?_))))) stays_upd (fun hk => ⟨_, by omega, by omega, rfl, rfl⟩)
    · try simp only [decide_eq_true_eq, decide_eq_false_iff_not, beq_iff_eq, beq_eq_false_iff_ne, ne_eq, bne_iff_ne, Bool.not_eq_true', Bool.not_eq_false', Int.not_lt, Int.not_le, gt_iff_lt, ge_iff_le, bne_eq_false_iff_eq, Bool.not_eq_eq_eq_not, Bool.not_true, Bool.not_false] at c1
      obtain ⟨a, rfl⟩ : ∃ a : Nat, m = a := ⟨m.toNat, by omega⟩
      have hpe : proofZ ls (a : Int) = proofT ls a false := (if_pos (by omega)).trans (by rw [Int.toNat_natCast])
      refine ACode.skip ?_
      show ACode _ _ _ _ _ _
      refine ACode.seq ?_
      refine ACode.region' [0, 1, 2, 3, 4] (by kernel_rfl) rfl ?_
      refine aOps_1 rfl rfl rfl (AOp.move' (.inl rfl) rfl ?_)
      refine aOps_1 rfl rfl rfl (AOp.move' (.inl rfl) rfl ?_)
      refine aOps_1 rfl rfl rfl ?_
      refine AOp.call' rfl rfl rfl (proof_b (vs.length + 1) ls vs A c a false _ _ (by repeat (first | assumption | exact upd_same _ _ _ | refine (upd_other _ _ (by omega)).trans ?_)) (hs.sub (by (repeat (first | exact sub_refl _ | assumption | refine sub_upd' ?_ (by ((repeat refine (upd_other _ _ (by omega)).trans ?_); first | exact hf _ (by omega))) | refine sub_over (by assumption) | refine sub_over0 ?_ | refine sub_trans (sub_same (by assumption)) ?_ | refine sub_dropu ?_ | refine sub_drop ?_ | refine sub_put ?_ (by repeat (first | assumption | exact upd_same _ _ _ | refine (upd_other _ _ (by omega)).trans ?_)))))) (hL.sub (by (repeat (first | exact sub_refl _ | assumption | refine sub_upd' ?_ (by ((repeat refine (upd_other _ _ (by omega)).trans ?_); first | exact hf _ (by omega))) | refine sub_over (by assumption) | refine sub_over0 ?_ | refine sub_trans (sub_same (by assumption)) ?_ | refine sub_dropu ?_ | refine sub_drop ?_ | refine sub_put ?_ (by repeat (first | assumption | exact upd_same _ _ _ | refine (upd_other _ _ (by omega)).trans ?_)))))) hl hb (by omega) (by omega) (by omega)) ?_
      rintro _ _ kq0 ⟨q, hq1, hq2, rfl, rfl⟩
      refine aOps_1 rfl rfl rfl (AOp.move' (.inr rfl) rfl ?_)
      refine aOps_1 rfl rfl rfl (AOp.move' (.inr rfl) rfl ?_)
      refine aOps_end ?_
      show ACode _ _ _ _ _ _
      refine ACode.ret ?_
      rw [hpe, hmy]
      exact RetQ.two (H'' := upd H q (some (pbk 31 (proofT ls a false)))) rfl rfl rfl (by (repeat (first | exact sub_refl _ | assumption | refine sub_upd' ?_ (by ((repeat refine (upd_other _ _ (by omega)).trans ?_); first | exact hf _ (by omega))) | refine sub_over (by assumption) | refine sub_over0 ?_ | refine sub_trans (sub_same (by assumption)) ?_ | refine sub_dropu ?_ | refine sub_drop ?_ | refine sub_put ?_ (by repeat (first | assumption | exact upd_same _ _ _ | refine (upd_other _ _ (by omega)).trans ?_))))) stays_upd (fun hk => ⟨q, by omega, by omega, rfl, rfl⟩)

theorem refproofF_b (ht : H 0 = some tabBlk) (ls : List (List UInt8)) (vs : List Value) (A : Option Addr) (c : Nat) (hs : SLC H 1 A vs.length c vs) (hL : Lvs H vs ls) (hl : vs.length ≤ 1099511627776) (hb : ∀ x ∈ ls, x.length ≤ 549755813000) (m : Int) (hm1 : 0 ≤ m) (hm2 : m ≤ vs.length) : ACalls Tryd.prog 1 27 [.slice A vs.length c, .int .i64 m] H k (NewD H k 31 (proofZ ls m)) := by
  refine ACalls.fresh fun hf => ?_
  refine ACalls.body Tryd.func27 rfl (Nat.le_of_ble_eq_true rfl) ?_
  have h0k := old_lt hf ht
  have hvl := hL.len
  refine ACode.seq ?_
  refine ACode.region' [0] (by kernel_rfl) rfl ?_
  refine aOps_1 rfl rfl rfl (AOp.move' (.inr rfl) rfl ?_)
  refine aOps_end ?_
  show ACode _ _ _ _ _ _
  refine ACode.seq ?_
  refine ACode.seq ?_
  refine ACode.region' [0, 1] (by kernel_rfl) rfl ?_
  refine aOps_1 rfl rfl rfl (AOp.move' (.inl rfl) rfl ?_)
  refine aOps_1 rfl rfl rfl (AOp.bin' rfl rfl rfl rfl ?_)
  refine aOps_end ?_
  show ACode _ _ _ _ _ _
  refine ACode.cond rfl (fun c0 => ?_) (fun c0 => ?_)
  · try simp only [decide_eq_true_eq, decide_eq_false_iff_not, beq_iff_eq, beq_eq_false_iff_ne, ne_eq, bne_iff_ne, Bool.not_eq_true', Bool.not_eq_false', Int.not_lt, Int.not_le, gt_iff_lt, ge_iff_le, bne_eq_false_iff_eq, Bool.not_eq_eq_eq_not, Bool.not_true, Bool.not_false] at c0
    have hpe : proofZ ls m = [] := if_neg (by omega)
    refine ACode.seq ?_
    refine ACode.region' [0] (by kernel_rfl) rfl ?_
    refine aOps_1 rfl rfl rfl (AOp.move' (.inr rfl) rfl ?_)
    refine aOps_end ?_
    show ACode _ _ _ _ _ _
    refine ACode.adopt (t := 4) 31 32 (by decide) rfl ?_
    refine ACode.ret ?_
    rw [hpe]
    exact RetQ.one (H'' := upd H _ (some (pbk 31 []))) rfl rfl (by (repeat (first | exact sub_refl _ | assumption | refine sub_upd' ?_ (by ((repeat refine (upd_other _ _ (by omega)).trans ?_); first | exact hf _ (by omega))) | refine sub_over (by assumption) | refine sub_over0 ?_ | refine sub_trans (sub_same (by assumption)) ?_ | refine sub_dropu ?_ | refine sub_drop ?_ | refine sub_put ?_ (by repeat (first | assumption | exact upd_same _ _ _ | refine (upd_other _ _ (by omega)).trans ?_))))) stays_upd (fun hk => ⟨_, by omega, by omega, rfl, rfl⟩)
  · try simp only [decide_eq_true_eq, decide_eq_false_iff_not, beq_iff_eq, beq_eq_false_iff_ne, ne_eq, bne_iff_ne, Bool.not_eq_true', Bool.not_eq_false', Int.not_lt, Int.not_le, gt_iff_lt, ge_iff_le, bne_eq_false_iff_eq, Bool.not_eq_eq_eq_not, Bool.not_true, Bool.not_false] at c0
    obtain ⟨a, rfl⟩ : ∃ a : Nat, m = a := ⟨m.toNat, by omega⟩
    have hpe : proofZ ls (a : Int) = proofT ls a false := (if_pos (by omega)).trans (by rw [Int.toNat_natCast])
    refine ACode.skip ?_
    show ACode _ _ _ _ _ _
    refine ACode.seq ?_
    refine ACode.region' [0, 1, 2, 3] (by kernel_rfl) rfl ?_
    refine aOps_1 rfl rfl rfl (AOp.move' (.inl rfl) rfl ?_)
    refine aOps_1 rfl rfl rfl (AOp.move' (.inl rfl) rfl ?_)
    refine aOps_1 rfl rfl rfl ?_
    refine AOp.call' rfl rfl rfl (part_b (vs.length + 1) ls vs A c a false _ _ (by repeat (first | assumption | exact upd_same _ _ _ | refine (upd_other _ _ (by omega)).trans ?_)) (hs.sub (by (repeat (first | exact sub_refl _ | assumption | refine sub_upd' ?_ (by ((repeat refine (upd_other _ _ (by omega)).trans ?_); first | exact hf _ (by omega))) | refine sub_over (by assumption) | refine sub_over0 ?_ | refine sub_trans (sub_same (by assumption)) ?_ | refine sub_dropu ?_ | refine sub_drop ?_ | refine sub_put ?_ (by repeat (first | assumption | exact upd_same _ _ _ | refine (upd_other _ _ (by omega)).trans ?_)))))) (hL.sub (by (repeat (first | exact sub_refl _ | assumption | refine sub_upd' ?_ (by ((repeat refine (upd_other _ _ (by omega)).trans ?_); first | exact hf _ (by omega))) | refine sub_over (by assumption) | refine sub_over0 ?_ | refine sub_trans (sub_same (by assumption)) ?_ | refine sub_dropu ?_ | refine sub_drop ?_ | refine sub_put ?_ (by repeat (first | assumption | exact upd_same _ _ _ | refine (upd_other _ _ (by omega)).trans ?_)))))) hl hb (by omega) (by omega) (by omega)) ?_
    rintro _ _ kq0 ⟨q, hq1, hq2, rfl, rfl⟩
    refine aOps_1 rfl rfl rfl (AOp.move' (.inr rfl) rfl ?_)
    refine aOps_end ?_
    show ACode _ _ _ _ _ _
    refine ACode.ret ?_
    rw [hpe]
    exact RetQ.one (H'' := upd H q (some (pbk 31 (proofT ls a false)))) rfl rfl (by (repeat (first | exact sub_refl _ | assumption | refine sub_upd' ?_ (by ((repeat refine (upd_other _ _ (by omega)).trans ?_); first | exact hf _ (by omega))) | refine sub_over (by assumption) | refine sub_over0 ?_ | refine sub_trans (sub_same (by assumption)) ?_ | refine sub_dropu ?_ | refine sub_drop ?_ | refine sub_put ?_ (by repeat (first | assumption | exact upd_same _ _ _ | refine (upd_other _ _ (by omega)).trans ?_))))) stays_upd (fun hk => ⟨q, by omega, by omega, rfl, rfl⟩)

end

end Go.Proofs.YtipaiielkpifoaaDoor
