/- Contracts over the abstract states: words, rounds, the state behind a block. -/
import Derived.Test.YtipaiielkpifoaaDoorAbF
import Derived.Test.YtipaiielkpifoaaDoorS0
set_option linter.unusedVariables false
set_option linter.unusedSimpArgs false
set_option maxRecDepth 100000
namespace Go.Proofs.YtipaiielkpifoaaDoor
open Go Go.Ab

section
variable (NG : Nat) (H : Hp) (k : Nat)
abbrev wblk (e : Nat) (l : List W32) : Blk := { cells := l.map wv, elem := e, kind := .fix }
abbrev aw (l : List W32) : Value := .agg (l.map wv).toArray
theorem and31 : ∀ n : Nat, n < 32 → 1 ≤ n → ibit .and .u64 (IntKind.u64.wrap (IntKind.i64.wrap (0 - (n : Int)))) 31 = ((32 - n : Nat) : Int) := by decide +kernel
theorem rotl_rotr (x : W32) (n : Nat) (h : n ≤ 31) : (x <<< (32 - n) ||| x >>> (32 - (32 - n))) = rotr x n := by
  rw [rotr, BitVec.or_comm, show 32 - (32 - n) = n by omega]
/-- The words, as far as they are reckoned. -/
def wPart (b : List UInt8) (i : Nat) : List W32 := wTo b i ++ List.replicate (64 - i) 0
theorem wPart_len (b : List UInt8) {i : Nat} (h : i ≤ 64) : (wPart b i).length = 64 := by
  rw [wPart, List.length_append, wTo_len, List.length_replicate]; omega
theorem wPart_get (b : List UInt8) {i j : Nat} (h : j < i) : (wPart b i).getD j 0 = (wTo b i).getD j 0 := by
  rw [wPart, List.getD_eq_getElem?_getD, List.getElem?_append_left (by rw [wTo_len]; exact h), ← List.getD_eq_getElem?_getD]
theorem wPart_set (b : List UInt8) {i : Nat} (h : i < 64) : (wPart b i).set i (wNext b (wTo b i) i) = wPart b (i + 1) := by
  rw [wPart, wPart, List.set_append_right _ _ (by rw [wTo_len]; exact Nat.le_refl _), wTo_len, Nat.sub_self, show 64 - i = (64 - (i + 1)) + 1 by omega, List.replicate_succ, List.set_cons_zero, wTo, List.append_assoc]
  rfl
theorem wPart_all (b : List UInt8) : wPart b 64 = wTo b 64 := by simp [wPart]
theorem aw_size (l : List W32) : (aw l).cells.size = l.length := by show (l.map wv).toArray.size = _; simp
theorem one_bv (l : List UInt8) : (l.map bv).toArray.toList.all (·.oneCell') = true := by simp [bv, Value.oneCell']
theorem one_wv (l : List W32) : (l.map wv).toArray.toList.all (·.oneCell') = true := by simp [wv, Value.oneCell']
theorem take4 (b : List UInt8) (n : Nat) (h : n + 4 ≤ b.length) : ((b.map bv).drop (n * 1)).take (4 * 1) = [b.getD n 0, b.getD (n + 1) 0, b.getD (n + 2) 0, b.getD (n + 3) 0].map bv := by
  rw [Nat.mul_one, Nat.mul_one, ← List.map_drop, ← List.map_take]
  congr 1
  have g : ∀ j, j < b.length → b.getD j 0 = b[j]! := fun j hj => by
    rw [List.getD_eq_getElem?_getD, List.getElem?_eq_getElem hj, getElem!_pos b j hj]; rfl
  rw [List.drop_eq_getElem_cons (by omega), List.drop_eq_getElem_cons (by omega), List.drop_eq_getElem_cons (by omega), List.drop_eq_getElem_cons (by omega)]
  simp only [List.take_succ_cons, List.take_zero]
  rw [g n (by omega), g (n + 1) (by omega), g (n + 2) (by omega), g (n + 3) (by omega), getElem!_pos, getElem!_pos, getElem!_pos, getElem!_pos]

theorem rotl32 (x : W32) (m : Int) (r : Nat) (hr : ibit .and .u64 (IntKind.u64.wrap m) 31 = (r : Int)) (h1 : r ≤ 31) : ACalls Tryd.prog NG 103 [wv x, .int .i64 m] H k (Same H k (wv (x <<< r ||| x >>> (32 - r)))) := by
  refine ACalls.fresh fun hf => ?_
  refine ACalls.body Tryd.func103 rfl (Nat.le_of_ble_eq_true rfl) ?_
  refine ACode.seq ?_
  refine ACode.region' [0] (by kernel_rfl) rfl ?_
  refine aOps_1 rfl rfl rfl (AOp.move' (.inr rfl) rfl ?_)
  refine aOps_end ?_
  show ACode _ _ _ _ _ _
  refine ACode.seq ?_
  refine ACode.region' [0, 1, 2, 3] (by kernel_rfl) rfl ?_
  refine aOps_1 rfl rfl rfl (AOp.move' (.inl rfl) rfl ?_)
  refine aOps_1 rfl rfl rfl (AOp.convInt rfl rfl ?_)
  refine aOps_1 rfl rfl rfl (AOp.bin' rfl rfl rfl rfl ?_)
  rw [hr]
  refine aOps_1 rfl rfl rfl (AOp.move' (.inr rfl) rfl ?_)
  refine aOps_end ?_
  show ACode _ _ _ _ _ _
  refine ACode.seq ?_
  refine ACode.region' [0, 1, 2, 3, 4, 5, 6, 7, 8] (by kernel_rfl) rfl ?_
  refine aOps_1 rfl rfl rfl (AOp.move' (.inl rfl) rfl ?_)
  refine aOps_1 rfl rfl rfl (AOp.move' (.inl rfl) rfl ?_)
  refine aOps_1 rfl rfl rfl (AOp.wshl rfl rfl rfl (by first | decide | omega) ?_)
  refine aOps_1 rfl rfl rfl (AOp.move' (.inl rfl) rfl ?_)
  refine aOps_1 rfl rfl rfl (AOp.move' (.inl rfl) rfl ?_)
  refine aOps_1 rfl rfl rfl (AOp.sub rfl rfl rfl (by rw [IntKind.wrap_u64]; omega) ?_)
  rw [show (32 - (r : Int)) = ((32 - r : Nat) : Int) by omega]
  refine aOps_1 rfl rfl rfl (AOp.wshr rfl rfl rfl (by first | decide | omega) ?_)
  refine aOps_1 rfl rfl rfl (AOp.wor rfl rfl rfl ?_)
  refine aOps_1 rfl rfl rfl (AOp.move' (.inr rfl) rfl ?_)
  refine aOps_end ?_
  show ACode _ _ _ _ _ _
  refine ACode.ret ?_
  exact RetQ.one rfl rfl (by (repeat (first | exact sub_refl _ | assumption | refine sub_upd' ?_ (by ((repeat refine (upd_other _ _ (by omega)).trans ?_); first | exact hf _ (by omega))) | refine sub_over (by assumption) | refine sub_over0 ?_ | refine sub_trans (sub_same (by assumption)) ?_ | refine sub_dropu ?_ | refine sub_drop ?_ | refine sub_put ?_ (by repeat (first | assumption | exact upd_same _ _ _ | refine (upd_other _ _ (by omega)).trans ?_))))) stays (fun hk => ⟨rfl, rfl, by omega⟩)

theorem turn_w (x : W32) (n : Nat) (h : 1 ≤ n) (hn : n ≤ 31) : ACalls Tryd.prog NG 100 [wv x, .int .i64 (n : Int)] H k (Same H k (wv (rotr x n))) := by
  refine ACalls.fresh fun hf => ?_
  refine ACalls.body Tryd.func100 rfl (Nat.le_of_ble_eq_true rfl) ?_
  refine ACode.seq ?_
  refine ACode.region' [0] (by kernel_rfl) rfl ?_
  refine aOps_1 rfl rfl rfl (AOp.move' (.inr rfl) rfl ?_)
  refine aOps_end ?_
  show ACode _ _ _ _ _ _
  refine ACode.seq ?_
  refine ACode.region' [0, 1, 2, 3, 4] (by kernel_rfl) rfl ?_
  refine aOps_1 rfl rfl rfl (AOp.move' (.inl rfl) rfl ?_)
  refine aOps_1 rfl rfl rfl (AOp.move' (.inl rfl) rfl ?_)
  refine aOps_1 rfl rfl rfl (AOp.un' rfl rfl rfl ?_)
  refine aOps_q rfl rfl rfl (AOp.call' rfl rfl rfl (rotl32 NG _ _ x (IntKind.i64.wrap (0 - (n : Int))) (32 - n) (and31 n (by omega) h) (by omega)) (fun _ _ _ h => h)) (fun kq hkq => ?_)
  refine aOps_1 rfl rfl rfl (AOp.move' (.inr rfl) rfl ?_)
  refine aOps_end ?_
  show ACode _ _ _ _ _ _
  refine ACode.ret ?_
  exact RetQ.one rfl rfl (by (repeat (first | exact sub_refl _ | assumption | refine sub_upd' ?_ (by ((repeat refine (upd_other _ _ (by omega)).trans ?_); first | exact hf _ (by omega))) | refine sub_over (by assumption) | refine sub_over0 ?_ | refine sub_trans (sub_same (by assumption)) ?_ | refine sub_dropu ?_ | refine sub_drop ?_ | refine sub_put ?_ (by repeat (first | assumption | exact upd_same _ _ _ | refine (upd_other _ _ (by omega)).trans ?_))))) stays (fun hk => ⟨(congrArg wv (rotl_rotr x n hn)), rfl, by omega⟩)

theorem words_w (b : List UInt8) (A : Option Addr) (c : Nat) (hs : SLC H 1 A 64 c (b.map bv)) (hl : b.length = 64) : ACalls Tryd.prog NG 99 [.slice A 64 c] H k (Same H k (aw (wTo b 64))) := by
  refine ACalls.fresh fun hf => ?_
  refine ACalls.body Tryd.func99 rfl (Nat.le_of_ble_eq_true rfl) ?_
  refine ACode.seq ?_
  refine ACode.region' [0] (by kernel_rfl) rfl ?_
  refine aOps_1 rfl rfl rfl (AOp.alloc' rfl ?_)
  refine aOps_end ?_
  show ACode _ _ _ _ _ _
  refine ACode.seq ?_
  refine ACode.seq ?_
  refine ACode.region' [0] (by kernel_rfl) rfl ?_
  refine aOps_1 rfl rfl rfl (AOp.move' (.inl rfl) rfl ?_)
  refine aOps_end ?_
  show ACode _ _ _ _ _ _
  refine ACode.block ?_
  refine ACode.count (fun i => [(7, .int .i64 (i : Int))]) [(0, _), (2, _)] (fun i => upd H k (some (wblk 118 (wPart b i)))) (64) (fun _ => True) (.cons rfl .nil) (.cons rfl (.cons rfl .nil)) (by exact sub_refl _) trivial (fun i0 kL0 HL0 hiL0 hkL0 hsL0 hfL0 hxL0 => ?_)
  show ACode _ _ _ _ _ ⟨_, _, _⟩
  refine ACode.seq ?_
  refine ACode.region' [0] (by kernel_rfl) rfl ?_
  refine aOps_1 rfl rfl rfl (AOp.bin' rfl rfl rfl rfl ?_)
  refine aOps_end ?_
  show ACode _ _ _ _ _ _
  refine ACode.seq ?_
  refine ACode.cond rfl (fun c0 => ?_) (fun c0 => ?_)
  · try simp only [decide_eq_true_eq, decide_eq_false_iff_not, beq_iff_eq, beq_eq_false_iff_ne, ne_eq, bne_iff_ne, Bool.not_eq_true', Bool.not_eq_false', Int.not_lt, Int.not_le, gt_iff_lt, ge_iff_le, bne_eq_false_iff_eq, Bool.not_eq_eq_eq_not, Bool.not_true, Bool.not_false] at c0
    refine ACode.skip ?_
    show ACode _ _ _ _ _ _
    refine ACode.seq ?_
    refine ACode.block ?_
    refine ACode.seq ?_
    refine ACode.region' [0, 1] (by kernel_rfl) rfl ?_
    refine aOps_1 rfl rfl rfl (AOp.move' (.inl rfl) rfl ?_)
    refine aOps_1 rfl rfl rfl (AOp.move' (.inr rfl) rfl ?_)
    refine aOps_end ?_
    show ACode _ _ _ _ _ _
    refine ACode.seq ?_
    refine ACode.seq ?_
    refine ACode.region' [0, 1] (by kernel_rfl) rfl ?_
    refine aOps_1 rfl rfl rfl (AOp.move' (.inl rfl) rfl ?_)
    refine aOps_1 rfl rfl rfl (AOp.bin' rfl rfl rfl rfl ?_)
    refine aOps_end ?_
    show ACode _ _ _ _ _ _
    refine ACode.cond rfl (fun c1 => ?_) (fun c1 => ?_)
    · try simp only [decide_eq_true_eq, decide_eq_false_iff_not, beq_iff_eq, beq_eq_false_iff_ne, ne_eq, bne_iff_ne, Bool.not_eq_true', Bool.not_eq_false', Int.not_lt, Int.not_le, gt_iff_lt, ge_iff_le, bne_eq_false_iff_eq, Bool.not_eq_eq_eq_not, Bool.not_true, Bool.not_false] at c1
      refine ACode.seq ?_
      obtain ⟨A5_9, c5_9, hq5_9, hs5_9⟩ := hs.cut (4 * i0) (4 * i0 + 4) (some (4 * i0 + 4)) (by omega) (by omega) (by intro x hx; injection hx; omega)
      rw [show 4 * i0 + 4 - 4 * i0 = 4 by omega] at hq5_9 hs5_9
      rw [take4 b (4 * i0) (by omega)] at hs5_9
      refine ACode.region' [0, 1, 2, 3, 4, 5, 6, 7, 8, 9, 10] (by kernel_rfl) rfl ?_
      refine aOps_1 rfl rfl rfl (AOp.move' (.inl rfl) rfl ?_)
      refine aOps_1 rfl rfl rfl (AOp.move' (.inl rfl) rfl ?_)
      refine aOps_1 rfl rfl rfl (AOp.mul rfl rfl rfl (i64_wrap (by omega) (by omega)) ?_)
      rw [show (4 * (i0 : Int)) = ((4 * i0 : Nat) : Int) by omega]
      refine aOps_1 rfl rfl rfl (AOp.move' (.inl rfl) rfl ?_)
      refine aOps_1 rfl rfl rfl (AOp.mul rfl rfl rfl (i64_wrap (by omega) (by omega)) ?_)
      refine aOps_1 rfl rfl rfl (AOp.add rfl rfl rfl (i64_wrap (by omega) (by omega)) ?_)
      rw [show (4 * (i0 : Int) + 4) = ((4 * i0 + 4 : Nat) : Int) by omega]
      refine aOps_1 rfl rfl rfl (AOp.move' (.inl rfl) rfl ?_)
      refine aOps_1 rfl rfl rfl (AOp.mul rfl rfl rfl (i64_wrap (by omega) (by omega)) ?_)
      refine aOps_1 rfl rfl rfl (AOp.add rfl rfl rfl (i64_wrap (by omega) (by omega)) ?_)
      rw [show (4 * (i0 : Int) + 4) = ((4 * i0 + 4 : Nat) : Int) by omega]
      refine aOps_1 rfl rfl rfl (AOp.cutQ (aslice_sub (by (repeat (first | exact sub_refl _ | assumption | refine sub_upd' ?_ (by ((repeat refine (upd_other _ _ (by omega)).trans ?_); first | exact hf _ (by omega) | exact hfL0 _ (by omega))) | refine sub_trans ?_ hsL0 | refine sub_over (by assumption) | refine sub_over0 ?_ | refine sub_trans (sub_same (by assumption)) ?_ | refine sub_dropu ?_ | refine sub_drop ?_ | refine sub_put ?_ (by repeat (first | assumption | exact upd_same _ _ _ | refine (upd_other _ _ (by omega)).trans ?_ | refine hsL0 _ _ ?_))))) hq5_9) rfl rfl (bnd_at rfl rfl) (bnd_at rfl rfl) (mx_at rfl) ?_)
      refine aOps_1 rfl rfl rfl (AOp.move' (.inr rfl) rfl ?_)
      refine aOps_end ?_
      show ACode _ _ _ _ _ _
      refine ACode.seq ?_
      obtain ⟨n6_2, o6_2, s6_2, hq6_2, hp6_2⟩ := slcElD bv (i := 0) 0 hs5_9.cells (Nat.le_of_ble_eq_true rfl)
      obtain ⟨n6_7, o6_7, s6_7, hq6_7, hp6_7⟩ := slcElD bv (i := 1) 0 hs5_9.cells (Nat.le_of_ble_eq_true rfl)
      obtain ⟨n6_13, o6_13, s6_13, hq6_13, hp6_13⟩ := slcElD bv (i := 2) 0 hs5_9.cells (Nat.le_of_ble_eq_true rfl)
      obtain ⟨n6_19, o6_19, s6_19, hq6_19, hp6_19⟩ := slcElD bv (i := 3) 0 hs5_9.cells (Nat.le_of_ble_eq_true rfl)
      refine ACode.draw' 24 [(0, 22), (1, 23), (2, 24), (3, 25), (4, 26), (5, 27), (6, 28), (7, 29), (8, 30), (9, 31), (10, 32), (11, 33), (12, 34), (13, 35), (14, 36), (15, 37), (16, 38), (17, 39), (18, 40), (19, 41), (20, 42), (21, 43), (22, 44), (23, 45)] mixed (by kernel_rfl) ?_
      refine Draw.step [(3, none)] rfl (by kernel_rfl) rfl (fun kq hkq => AOp.move' (.inl rfl) rfl ⟨rfl, rfl, Nat.le_refl _⟩) ?_
      refine Draw.step [(4, none)] rfl (by kernel_rfl) rfl (fun kq hkq => AOp.move' (.inl rfl) rfl ⟨rfl, rfl, Nat.le_refl _⟩) ?_
      refine Draw.step [(23, some 1)] rfl (by kernel_rfl) rfl (fun kq hkq => AOp.indexP (aslcAt_sub (by (repeat (first | exact sub_refl _ | assumption | refine sub_upd' ?_ (by ((repeat refine (upd_other _ _ (by omega)).trans ?_); first | exact hf _ (by omega) | exact hfL0 _ (by omega))) | refine sub_trans ?_ hsL0 | refine sub_over (by assumption) | refine sub_over0 ?_ | refine sub_trans (sub_same (by assumption)) ?_ | refine sub_dropu ?_ | refine sub_drop ?_ | refine sub_put ?_ (by repeat (first | assumption | exact upd_same _ _ _ | refine (upd_other _ _ (by omega)).trans ?_ | refine hsL0 _ _ ?_))))) hq6_2) rfl rfl rfl ⟨rfl, rfl, Nat.le_refl _⟩) ?_
      refine Draw.step [(24, some 2)] rfl (by kernel_rfl) rfl (fun kq hkq => AOp.loadP0 (hp6_2.sub (by (repeat (first | exact sub_refl _ | assumption | refine sub_upd' ?_ (by ((repeat refine (upd_other _ _ (by omega)).trans ?_); first | exact hf _ (by omega) | exact hfL0 _ (by omega))) | refine sub_trans ?_ hsL0 | refine sub_over (by assumption) | refine sub_over0 ?_ | refine sub_trans (sub_same (by assumption)) ?_ | refine sub_dropu ?_ | refine sub_drop ?_ | refine sub_put ?_ (by repeat (first | assumption | exact upd_same _ _ _ | refine (upd_other _ _ (by omega)).trans ?_ | refine hsL0 _ _ ?_)))))) rfl rfl rfl ⟨rfl, rfl, Nat.le_refl _⟩) ?_
      refine Draw.step [(25, some 3)] rfl (by kernel_rfl) rfl (fun kq hkq => AOp.wofByte rfl rfl ⟨rfl, rfl, Nat.le_refl _⟩) ?_
      refine Draw.step [(26, some 4)] rfl (by kernel_rfl) rfl (fun kq hkq => AOp.wshl (n := 24) rfl rfl rfl (by first | decide | omega) ⟨rfl, rfl, Nat.le_refl _⟩) ?_
      refine Draw.step [(4, none)] rfl (by kernel_rfl) rfl (fun kq hkq => AOp.move' (.inl rfl) rfl ⟨rfl, rfl, Nat.le_refl _⟩) ?_
      refine Draw.step [(28, some 6)] rfl (by kernel_rfl) rfl (fun kq hkq => AOp.indexP (aslcAt_sub (by (repeat (first | exact sub_refl _ | assumption | refine sub_upd' ?_ (by ((repeat refine (upd_other _ _ (by omega)).trans ?_); first | exact hf _ (by omega) | exact hfL0 _ (by omega))) | refine sub_trans ?_ hsL0 | refine sub_over (by assumption) | refine sub_over0 ?_ | refine sub_trans (sub_same (by assumption)) ?_ | refine sub_dropu ?_ | refine sub_drop ?_ | refine sub_put ?_ (by repeat (first | assumption | exact upd_same _ _ _ | refine (upd_other _ _ (by omega)).trans ?_ | refine hsL0 _ _ ?_))))) hq6_7) rfl rfl rfl ⟨rfl, rfl, Nat.le_refl _⟩) ?_
      refine Draw.step [(29, some 7)] rfl (by kernel_rfl) rfl (fun kq hkq => AOp.loadP0 (hp6_7.sub (by (repeat (first | exact sub_refl _ | assumption | refine sub_upd' ?_ (by ((repeat refine (upd_other _ _ (by omega)).trans ?_); first | exact hf _ (by omega) | exact hfL0 _ (by omega))) | refine sub_trans ?_ hsL0 | refine sub_over (by assumption) | refine sub_over0 ?_ | refine sub_trans (sub_same (by assumption)) ?_ | refine sub_dropu ?_ | refine sub_drop ?_ | refine sub_put ?_ (by repeat (first | assumption | exact upd_same _ _ _ | refine (upd_other _ _ (by omega)).trans ?_ | refine hsL0 _ _ ?_)))))) rfl rfl rfl ⟨rfl, rfl, Nat.le_refl _⟩) ?_
      refine Draw.step [(30, some 8)] rfl (by kernel_rfl) rfl (fun kq hkq => AOp.wofByte rfl rfl ⟨rfl, rfl, Nat.le_refl _⟩) ?_
      refine Draw.step [(31, some 9)] rfl (by kernel_rfl) rfl (fun kq hkq => AOp.wshl (n := 16) rfl rfl rfl (by first | decide | omega) ⟨rfl, rfl, Nat.le_refl _⟩) ?_
      refine Draw.step [(27, some 5), (32, some 10)] rfl (by kernel_rfl) rfl (fun kq hkq => AOp.wor rfl rfl rfl ⟨rfl, rfl, Nat.le_refl _⟩) ?_
      refine Draw.step [(4, none)] rfl (by kernel_rfl) rfl (fun kq hkq => AOp.move' (.inl rfl) rfl ⟨rfl, rfl, Nat.le_refl _⟩) ?_
      refine Draw.step [(34, some 12)] rfl (by kernel_rfl) rfl (fun kq hkq => AOp.indexP (aslcAt_sub (by (repeat (first | exact sub_refl _ | assumption | refine sub_upd' ?_ (by ((repeat refine (upd_other _ _ (by omega)).trans ?_); first | exact hf _ (by omega) | exact hfL0 _ (by omega))) | refine sub_trans ?_ hsL0 | refine sub_over (by assumption) | refine sub_over0 ?_ | refine sub_trans (sub_same (by assumption)) ?_ | refine sub_dropu ?_ | refine sub_drop ?_ | refine sub_put ?_ (by repeat (first | assumption | exact upd_same _ _ _ | refine (upd_other _ _ (by omega)).trans ?_ | refine hsL0 _ _ ?_))))) hq6_13) rfl rfl rfl ⟨rfl, rfl, Nat.le_refl _⟩) ?_
      refine Draw.step [(35, some 13)] rfl (by kernel_rfl) rfl (fun kq hkq => AOp.loadP0 (hp6_13.sub (by (repeat (first | exact sub_refl _ | assumption | refine sub_upd' ?_ (by ((repeat refine (upd_other _ _ (by omega)).trans ?_); first | exact hf _ (by omega) | exact hfL0 _ (by omega))) | refine sub_trans ?_ hsL0 | refine sub_over (by assumption) | refine sub_over0 ?_ | refine sub_trans (sub_same (by assumption)) ?_ | refine sub_dropu ?_ | refine sub_drop ?_ | refine sub_put ?_ (by repeat (first | assumption | exact upd_same _ _ _ | refine (upd_other _ _ (by omega)).trans ?_ | refine hsL0 _ _ ?_)))))) rfl rfl rfl ⟨rfl, rfl, Nat.le_refl _⟩) ?_
      refine Draw.step [(36, some 14)] rfl (by kernel_rfl) rfl (fun kq hkq => AOp.wofByte rfl rfl ⟨rfl, rfl, Nat.le_refl _⟩) ?_
      refine Draw.step [(37, some 15)] rfl (by kernel_rfl) rfl (fun kq hkq => AOp.wshl (n := 8) rfl rfl rfl (by first | decide | omega) ⟨rfl, rfl, Nat.le_refl _⟩) ?_
      refine Draw.step [(33, some 11), (38, some 16)] rfl (by kernel_rfl) rfl (fun kq hkq => AOp.wor rfl rfl rfl ⟨rfl, rfl, Nat.le_refl _⟩) ?_
      refine Draw.step [(4, none)] rfl (by kernel_rfl) rfl (fun kq hkq => AOp.move' (.inl rfl) rfl ⟨rfl, rfl, Nat.le_refl _⟩) ?_
      refine Draw.step [(40, some 18)] rfl (by kernel_rfl) rfl (fun kq hkq => AOp.indexP (aslcAt_sub (by (repeat (first | exact sub_refl _ | assumption | refine sub_upd' ?_ (by ((repeat refine (upd_other _ _ (by omega)).trans ?_); first | exact hf _ (by omega) | exact hfL0 _ (by omega))) | refine sub_trans ?_ hsL0 | refine sub_over (by assumption) | refine sub_over0 ?_ | refine sub_trans (sub_same (by assumption)) ?_ | refine sub_dropu ?_ | refine sub_drop ?_ | refine sub_put ?_ (by repeat (first | assumption | exact upd_same _ _ _ | refine (upd_other _ _ (by omega)).trans ?_ | refine hsL0 _ _ ?_))))) hq6_19) rfl rfl rfl ⟨rfl, rfl, Nat.le_refl _⟩) ?_
      refine Draw.step [(41, some 19)] rfl (by kernel_rfl) rfl (fun kq hkq => AOp.loadP0 (hp6_19.sub (by (repeat (first | exact sub_refl _ | assumption | refine sub_upd' ?_ (by ((repeat refine (upd_other _ _ (by omega)).trans ?_); first | exact hf _ (by omega) | exact hfL0 _ (by omega))) | refine sub_trans ?_ hsL0 | refine sub_over (by assumption) | refine sub_over0 ?_ | refine sub_trans (sub_same (by assumption)) ?_ | refine sub_dropu ?_ | refine sub_drop ?_ | refine sub_put ?_ (by repeat (first | assumption | exact upd_same _ _ _ | refine (upd_other _ _ (by omega)).trans ?_ | refine hsL0 _ _ ?_)))))) rfl rfl rfl ⟨rfl, rfl, Nat.le_refl _⟩) ?_
      refine Draw.step [(42, some 20)] rfl (by kernel_rfl) rfl (fun kq hkq => AOp.wofByte rfl rfl ⟨rfl, rfl, Nat.le_refl _⟩) ?_
      refine Draw.step [(39, some 17), (43, some 21)] rfl (by kernel_rfl) rfl (fun kq hkq => AOp.wor rfl rfl rfl ⟨rfl, rfl, Nat.le_refl _⟩) ?_
      refine Draw.step [(2, none), (22, some 0)] rfl (by kernel_rfl) rfl (fun kq hkq => AOp.indexA (by omega) rfl rfl rfl ⟨rfl, rfl, Nat.le_refl _⟩) ?_
      refine Draw.done fun kq hkq => ?_
      show aOps _ _ _ _ [24] ⟨_, _, _⟩
      refine aOps_0 rfl rfl rfl ?_
      refine AOp.storeM wv (wPart b i0) (_) (b := ?b1) ?hn1 ?hv1 ?hw1 rfl rfl rfl rfl rfl ?hR1
      (case hn1 => repeat (first | assumption | exact upd_same _ _ _ | refine (upd_other _ _ (by omega)).trans ?_ | refine hsL0 _ _ ?_))
      (case hv1 => rfl)
      (case hw1 => exact (by rw [wPart_len b (by omega)]; omega))
      refine aOps_end ?_
      show ACode _ _ _ _ _ _
      refine ACode.exit ?_
      show ACode _ _ _ _ _ _
      refine ACode.region' [0, 1] (by kernel_rfl) rfl ?_
      refine aOps_1 rfl rfl rfl (AOp.add rfl rfl rfl (i64_wrap (by omega) (by omega)) ?_)
      refine aOps_1 rfl rfl rfl (AOp.move' (.inl rfl) rfl ?_)
      refine aOps_end ?_
      have hX : wNext b (wTo b i0) i0 = be4 (b.getD (4 * i0) 0) (b.getD (4 * i0 + 1) 0) (b.getD (4 * i0 + 2) 0) (b.getD (4 * i0 + 3) 0) := if_pos (by omega)
      first | refine thenA_n ?_ | simp only [thenA, blockA, if_true]
      exact NextR.mk (by omega) (by omega) (.cons rfl .nil) (.cons rfl (.cons rfl .nil)) (by exact sub_over_eq (y := some (wblk 118 (wPart b i0))) (by (repeat (first | exact sub_refl _ | assumption | refine sub_upd' ?_ (by ((repeat refine (upd_other _ _ (by omega)).trans ?_); first | exact hf _ (by omega) | exact hfL0 _ (by omega))) | refine sub_trans ?_ hsL0 | refine sub_over (by assumption) | refine sub_over0 ?_ | refine sub_trans (sub_same (by assumption)) ?_ | refine sub_dropu ?_ | refine sub_drop ?_ | refine sub_put ?_ (by repeat (first | assumption | exact upd_same _ _ _ | refine (upd_other _ _ (by omega)).trans ?_ | refine hsL0 _ _ ?_))))) (by rw [← wPart_set b (by omega), hX]; rfl)) trivial
    · try simp only [decide_eq_true_eq, decide_eq_false_iff_not, beq_iff_eq, beq_eq_false_iff_ne, ne_eq, bne_iff_ne, Bool.not_eq_true', Bool.not_eq_false', Int.not_lt, Int.not_le, gt_iff_lt, ge_iff_le, bne_eq_false_iff_eq, Bool.not_eq_eq_eq_not, Bool.not_true, Bool.not_false] at c1
      refine ACode.skip ?_
      show ACode _ _ _ _ _ _
      refine ACode.seq ?_
      refine ACode.draw' 10 [(0, 46), (1, 47), (2, 48), (3, 49), (4, 50), (5, 51), (6, 52), (7, 53), (8, 5), (9, 6)] mixed (by kernel_rfl) ?_
      refine Draw.step [(3, none)] rfl (by kernel_rfl) rfl (fun kq hkq => AOp.move' (.inl rfl) rfl ⟨rfl, rfl, Nat.le_refl _⟩) ?_
      refine Draw.step [(46, some 0)] rfl (by kernel_rfl) rfl (fun kq hkq => AOp.sub rfl rfl rfl (i64_wrap (by omega) (by omega)) ⟨rfl, rfl, Nat.le_refl _⟩) ?_
      rw [show ((i0 : Int) - 15) = ((i0 - 15 : Nat) : Int) by omega]
      refine Draw.step [(2, none), (47, some 1)] rfl (by kernel_rfl) rfl (fun kq hkq => AOp.indexA (by omega) rfl rfl rfl ⟨rfl, rfl, Nat.le_refl _⟩) ?_
      refine Draw.step [(48, some 2)] rfl (by kernel_rfl) rfl (fun kq hkq => (by refine AOp.loadM wv (wPart b i0) 0 (b := ?b2) ?hn2 ?hv2 ?hw2 rfl rfl ?hR2; (case hn2 => repeat (first | assumption | exact upd_same _ _ _ | refine (upd_other _ _ (by omega)).trans ?_ | refine hsL0 _ _ ?_)); (case hv2 => rfl); (case hw2 => exact (by rw [wPart_len b (by omega)]; omega)); exact ⟨rfl, rfl, Nat.le_refl _⟩)) ?_
      refine Draw.step [(3, none)] rfl (by kernel_rfl) rfl (fun kq hkq => AOp.move' (.inl rfl) rfl ⟨rfl, rfl, Nat.le_refl _⟩) ?_
      refine Draw.step [(50, some 4)] rfl (by kernel_rfl) rfl (fun kq hkq => AOp.sub rfl rfl rfl (i64_wrap (by omega) (by omega)) ⟨rfl, rfl, Nat.le_refl _⟩) ?_
      rw [show ((i0 : Int) - 2) = ((i0 - 2 : Nat) : Int) by omega]
      refine Draw.step [(2, none), (51, some 5)] rfl (by kernel_rfl) rfl (fun kq hkq => AOp.indexA (by omega) rfl rfl rfl ⟨rfl, rfl, Nat.le_refl _⟩) ?_
      refine Draw.step [(52, some 6)] rfl (by kernel_rfl) rfl (fun kq hkq => (by refine AOp.loadM wv (wPart b i0) 0 (b := ?b3) ?hn3 ?hv3 ?hw3 rfl rfl ?hR3; (case hn3 => repeat (first | assumption | exact upd_same _ _ _ | refine (upd_other _ _ (by omega)).trans ?_ | refine hsL0 _ _ ?_)); (case hv3 => rfl); (case hw3 => exact (by rw [wPart_len b (by omega)]; omega)); exact ⟨rfl, rfl, Nat.le_refl _⟩)) ?_
      refine Draw.step [(49, some 3)] rfl (by kernel_rfl) rfl (fun kq hkq => AOp.move' (.inr rfl) rfl ⟨rfl, rfl, Nat.le_refl _⟩) ?_
      refine Draw.step [(53, some 7)] rfl (by kernel_rfl) rfl (fun kq hkq => AOp.move' (.inr rfl) rfl ⟨rfl, rfl, Nat.le_refl _⟩) ?_
      refine Draw.done fun kq hkq => ?_
      show aOps _ _ _ _ [] ⟨_, _, _⟩
      refine aOps_end ?_
      show ACode _ _ _ _ _ _
      have h63 : i0 < 64 := by omega
      refine ACode.draw' 29 [(0, 54), (1, 55), (2, 56), (3, 57), (4, 58), (5, 59), (6, 60), (7, 61), (8, 62), (9, 63), (10, 64), (11, 65), (12, 66), (13, 67), (14, 68), (15, 69), (16, 70), (17, 71), (18, 72), (19, 73), (20, 74), (21, 75), (22, 76), (23, 77), (24, 78), (25, 79), (26, 80), (27, 81), (28, 82)] mixed (by kernel_rfl) ?_
      refine Draw.step [(3, none)] rfl (by kernel_rfl) rfl (fun kq hkq => AOp.move' (.inl rfl) rfl ⟨rfl, rfl, Nat.le_refl _⟩) ?_
      refine Draw.step [(3, none)] rfl (by kernel_rfl) rfl (fun kq hkq => AOp.move' (.inl rfl) rfl ⟨rfl, rfl, Nat.le_refl _⟩) ?_
      refine Draw.step [(55, some 1)] rfl (by kernel_rfl) rfl (fun kq hkq => AOp.sub rfl rfl rfl (i64_wrap (by omega) (by omega)) ⟨rfl, rfl, Nat.le_refl _⟩) ?_
      rw [show ((i0 : Int) - 16) = ((i0 - 16 : Nat) : Int) by omega]
      refine Draw.step [(2, none), (56, some 2)] rfl (by kernel_rfl) rfl (fun kq hkq => AOp.indexA (by omega) rfl rfl rfl ⟨rfl, rfl, Nat.le_refl _⟩) ?_
      refine Draw.step [(57, some 3)] rfl (by kernel_rfl) rfl (fun kq hkq => (by refine AOp.loadM wv (wPart b i0) 0 (b := ?b4) ?hn4 ?hv4 ?hw4 rfl rfl ?hR4; (case hn4 => repeat (first | assumption | exact upd_same _ _ _ | refine (upd_other _ _ (by omega)).trans ?_ | refine hsL0 _ _ ?_)); (case hv4 => rfl); (case hw4 => exact (by rw [wPart_len b (by omega)]; omega)); exact ⟨rfl, rfl, Nat.le_refl _⟩)) ?_
      refine Draw.step [(5, none)] rfl (by kernel_rfl) rfl (fun kq hkq => AOp.move' (.inl rfl) rfl ⟨rfl, rfl, Nat.le_refl _⟩) ?_
      refine Draw.step [(59, some 5)] rfl (by kernel_rfl) rfl (fun kq hkq => AOp.call' rfl rfl rfl (turn_w NG _ _ (((wPart b i0).getD (i0 - 15) 0)) 7 (by decide) (by decide)) (fun _ _ _ h => h)) ?_
      refine Draw.step [(5, none)] rfl (by kernel_rfl) rfl (fun kq hkq => AOp.move' (.inl rfl) rfl ⟨rfl, rfl, Nat.le_refl _⟩) ?_
      refine Draw.step [(61, some 7)] rfl (by kernel_rfl) rfl (fun kq hkq => AOp.call' rfl rfl rfl (turn_w NG _ _ (((wPart b i0).getD (i0 - 15) 0)) 18 (by decide) (by decide)) (fun _ _ _ h => h)) ?_
      refine Draw.step [(60, some 6), (62, some 8)] rfl (by kernel_rfl) rfl (fun kq hkq => AOp.wxor rfl rfl rfl ⟨rfl, rfl, Nat.le_refl _⟩) ?_
      refine Draw.step [(5, none)] rfl (by kernel_rfl) rfl (fun kq hkq => AOp.move' (.inl rfl) rfl ⟨rfl, rfl, Nat.le_refl _⟩) ?_
      refine Draw.step [(64, some 10)] rfl (by kernel_rfl) rfl (fun kq hkq => AOp.wshr (n := 3) rfl rfl rfl (by first | decide | omega) ⟨rfl, rfl, Nat.le_refl _⟩) ?_
      refine Draw.step [(63, some 9), (65, some 11)] rfl (by kernel_rfl) rfl (fun kq hkq => AOp.wxor rfl rfl rfl ⟨rfl, rfl, Nat.le_refl _⟩) ?_
      refine Draw.step [(58, some 4), (66, some 12)] rfl (by kernel_rfl) rfl (fun kq hkq => AOp.wadd rfl rfl rfl ⟨rfl, rfl, Nat.le_refl _⟩) ?_
      refine Draw.step [(3, none)] rfl (by kernel_rfl) rfl (fun kq hkq => AOp.move' (.inl rfl) rfl ⟨rfl, rfl, Nat.le_refl _⟩) ?_
      refine Draw.step [(68, some 14)] rfl (by kernel_rfl) rfl (fun kq hkq => AOp.sub rfl rfl rfl (i64_wrap (by omega) (by omega)) ⟨rfl, rfl, Nat.le_refl _⟩) ?_
      rw [show ((i0 : Int) - 7) = ((i0 - 7 : Nat) : Int) by omega]
      refine Draw.step [(2, none), (69, some 15)] rfl (by kernel_rfl) rfl (fun kq hkq => AOp.indexA (by omega) rfl rfl rfl ⟨rfl, rfl, Nat.le_refl _⟩) ?_
      refine Draw.step [(70, some 16)] rfl (by kernel_rfl) rfl (fun kq hkq => (by refine AOp.loadM wv (wPart b i0) 0 (b := ?b5) ?hn5 ?hv5 ?hw5 rfl rfl ?hR5; (case hn5 => repeat (first | assumption | exact upd_same _ _ _ | refine (upd_other _ _ (by omega)).trans ?_ | refine hsL0 _ _ ?_)); (case hv5 => rfl); (case hw5 => exact (by rw [wPart_len b (by omega)]; omega)); exact ⟨rfl, rfl, Nat.le_refl _⟩)) ?_
      refine Draw.step [(67, some 13), (71, some 17)] rfl (by kernel_rfl) rfl (fun kq hkq => AOp.wadd rfl rfl rfl ⟨rfl, rfl, Nat.le_refl _⟩) ?_
      refine Draw.step [(6, none)] rfl (by kernel_rfl) rfl (fun kq hkq => AOp.move' (.inl rfl) rfl ⟨rfl, rfl, Nat.le_refl _⟩) ?_
      refine Draw.step [(73, some 19)] rfl (by kernel_rfl) rfl (fun kq hkq => AOp.call' rfl rfl rfl (turn_w NG _ _ (((wPart b i0).getD (i0 - 2) 0)) 17 (by decide) (by decide)) (fun _ _ _ h => h)) ?_
      refine Draw.step [(6, none)] rfl (by kernel_rfl) rfl (fun kq hkq => AOp.move' (.inl rfl) rfl ⟨rfl, rfl, Nat.le_refl _⟩) ?_
      refine Draw.step [(75, some 21)] rfl (by kernel_rfl) rfl (fun kq hkq => AOp.call' rfl rfl rfl (turn_w NG _ _ (((wPart b i0).getD (i0 - 2) 0)) 19 (by decide) (by decide)) (fun _ _ _ h => h)) ?_
      refine Draw.step [(74, some 20), (76, some 22)] rfl (by kernel_rfl) rfl (fun kq hkq => AOp.wxor rfl rfl rfl ⟨rfl, rfl, Nat.le_refl _⟩) ?_
      refine Draw.step [(6, none)] rfl (by kernel_rfl) rfl (fun kq hkq => AOp.move' (.inl rfl) rfl ⟨rfl, rfl, Nat.le_refl _⟩) ?_
      refine Draw.step [(78, some 24)] rfl (by kernel_rfl) rfl (fun kq hkq => AOp.wshr (n := 10) rfl rfl rfl (by first | decide | omega) ⟨rfl, rfl, Nat.le_refl _⟩) ?_
      refine Draw.step [(77, some 23), (79, some 25)] rfl (by kernel_rfl) rfl (fun kq hkq => AOp.wxor rfl rfl rfl ⟨rfl, rfl, Nat.le_refl _⟩) ?_
      refine Draw.step [(72, some 18), (80, some 26)] rfl (by kernel_rfl) rfl (fun kq hkq => AOp.wadd rfl rfl rfl ⟨rfl, rfl, Nat.le_refl _⟩) ?_
      refine Draw.step [(2, none), (54, some 0)] rfl (by kernel_rfl) rfl (fun kq hkq => AOp.indexA (by omega) rfl rfl rfl ⟨rfl, rfl, Nat.le_refl _⟩) ?_
      refine Draw.done fun kq hkq => ?_
      show aOps _ _ _ _ [29] ⟨_, _, _⟩
      refine aOps_0 rfl rfl rfl ?_
      refine AOp.storeM wv (wPart b i0) (_) (b := ?b6) ?hn6 ?hv6 ?hw6 rfl rfl rfl rfl rfl ?hR6
      (case hn6 => repeat (first | assumption | exact upd_same _ _ _ | refine (upd_other _ _ (by omega)).trans ?_ | refine hsL0 _ _ ?_))
      (case hv6 => rfl)
      (case hw6 => exact (by rw [wPart_len b (by omega)]; omega))
      refine aOps_end ?_
      show ACode _ _ _ _ _ _
      refine ACode.region' [0, 1] (by kernel_rfl) rfl ?_
      refine aOps_1 rfl rfl rfl (AOp.add rfl rfl rfl (i64_wrap (by omega) (by omega)) ?_)
      refine aOps_1 rfl rfl rfl (AOp.move' (.inl rfl) rfl ?_)
      refine aOps_end ?_
      have hX : wNext b (wTo b i0) i0 = _ := if_neg (by omega)
      have h16 := wPart_get b (i := i0) (j := i0 - 16) (by omega)
      have h15 := wPart_get b (i := i0) (j := i0 - 15) (by omega)
      have h7 := wPart_get b (i := i0) (j := i0 - 7) (by omega)
      have h2 := wPart_get b (i := i0) (j := i0 - 2) (by omega)
      first | refine thenA_n ?_ | simp only [thenA, blockA, if_true]
      exact NextR.mk (by omega) (by omega) (.cons rfl .nil) (.cons rfl (.cons rfl .nil)) (by exact sub_over_eq (y := some (wblk 118 (wPart b i0))) (by (repeat (first | exact sub_refl _ | assumption | refine sub_upd' ?_ (by ((repeat refine (upd_other _ _ (by omega)).trans ?_); first | exact hf _ (by omega) | exact hfL0 _ (by omega))) | refine sub_trans ?_ hsL0 | refine sub_over (by assumption) | refine sub_over0 ?_ | refine sub_trans (sub_same (by assumption)) ?_ | refine sub_dropu ?_ | refine sub_drop ?_ | refine sub_put ?_ (by repeat (first | assumption | exact upd_same _ _ _ | refine (upd_other _ _ (by omega)).trans ?_ | refine hsL0 _ _ ?_))))) (by rw [← wPart_set b (by omega), hX, h16, h15, h7, h2]; rfl)) trivial
  · try simp only [decide_eq_true_eq, decide_eq_false_iff_not, beq_iff_eq, beq_eq_false_iff_ne, ne_eq, bne_iff_ne, Bool.not_eq_true', Bool.not_eq_false', Int.not_lt, Int.not_le, gt_iff_lt, ge_iff_le, bne_eq_false_iff_eq, Bool.not_eq_eq_eq_not, Bool.not_true, Bool.not_false] at c0
    refine ACode.exit ?_
    show ACode _ _ _ _ _ _
    refine ACode.seq ?_
    have e64 : i0 = 64 := by omega
    subst e64
    rw [wPart_all] at hsL0
    have hwl := wTo_len b 64
    generalize wTo b 64 = W at *
    refine ACode.region' [0, 1] (by kernel_rfl) rfl ?_
    refine aOps_1 rfl rfl rfl ?_
    refine AOp.loadAll (b := ?b7) (v := aw W) rfl rfl ?hn7 ?hv7 ?hw7 ?hz7 ?hR7
    (case hn7 => repeat (first | assumption | exact upd_same _ _ _ | refine (upd_other _ _ (by omega)).trans ?_ | refine hsL0 _ _ ?_))
    (case hv7 => rfl)
    (case hw7 => rfl)
    (case hz7 => first | rfl | exact (aw_size _).trans hwl | exact one_wv _ | exact one_bv _ | (simp; done))
    refine aOps_0 rfl rfl rfl ?_
    refine AOp.storeAll (b := ?b8) rfl rfl rfl ?hn8 ?hk8 rfl ?hw8 ?ho8 ?hl8 ?hR8
    (case hn8 => repeat (first | assumption | exact upd_same _ _ _ | refine (upd_other _ _ (by omega)).trans ?_ | refine hsL0 _ _ ?_))
    (case hk8 => rfl)
    (case hw8 => first | rfl | exact (aw_size _).trans hwl | exact one_wv _ | exact one_bv _ | (simp; done))
    (case ho8 => first | rfl | exact (aw_size _).trans hwl | exact one_wv _ | exact one_bv _ | decide | (simp; done))
    (case hl8 => first | rfl | exact (aw_size _).trans hwl | exact one_wv _ | exact one_bv _ | (simp; done))
    refine aOps_end ?_
    show ACode _ _ _ _ _ _
    refine ACode.ret ?_
    exact RetQ.cell rfl rfl (aloadAll (b := wblk 118 W) (v := aw W) (upd_same _ _ _) rfl rfl ((aw_size _).trans hwl)) (by (repeat (first | exact sub_refl _ | assumption | refine sub_upd' ?_ (by ((repeat refine (upd_other _ _ (by omega)).trans ?_); first | exact hf _ (by omega) | exact hfL0 _ (by omega))) | refine sub_trans ?_ hsL0 | refine sub_over (by assumption) | refine sub_over0 ?_ | refine sub_trans (sub_same (by assumption)) ?_ | refine sub_dropu ?_ | refine sub_drop ?_ | refine sub_put ?_ (by repeat (first | assumption | exact upd_same _ _ _ | refine (upd_other _ _ (by omega)).trans ?_ | refine hsL0 _ _ ?_))))) stays (fun hk => ⟨rfl, rfl, by omega⟩)
end

end Go.Proofs.YtipaiielkpifoaaDoor
