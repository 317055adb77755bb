/- Contracts over the abstract states: rows as bytes. -/
import Derived.Test.YteoofihjmldllaaDoorV10
set_option linter.unusedVariables false
set_option linter.unusedSimpArgs false
set_option maxRecDepth 100000
namespace Go.Proofs.YteoofihjmldllaaDoor
open Go Go.Ab

section
variable (NG : Nat) (H : Hp) (k : Nat)
def rowB (r : List Val) : List UInt8 := r.flatMap putB
def rowsB (rows : List (List Val)) : List UInt8 := varB rows.length ++ rows.flatMap rowB
theorem flatMap_take {α β : Type} (f : α → List β) (l : List α) (d : α) {i : Nat} (h : i < l.length) : (l.take (i + 1)).flatMap f = (l.take i).flatMap f ++ f (l.getD i d) := by
  rw [take_el l d h, List.flatMap_append]
  simp
theorem getD_mem {α : Type} {l : List α} {d : α} {i : Nat} (h : i < l.length) : l.getD i d ∈ l := by
  rw [getD_el h]; exact List.getElem_mem _
theorem flatMap_bound {α β : Type} (f : α → List β) (m : Nat) : ∀ (l : List α), (∀ a ∈ l, (f a).length ≤ m) → (l.flatMap f).length ≤ m * l.length
  | [], _ => by simp
  | a :: l, h => by
    rw [List.flatMap_cons, List.length_append, List.length_cons, Nat.mul_add]
    have h1 := h a (by simp)
    have h2 := flatMap_bound f m l fun b hb => h b (by simp [hb])
    omega
theorem putB_le {a : Val} (ha : a.ok) (hs : a.s.size ≤ 100) : (putB a).length ≤ 111 := by
  have h1 := ha.2.1
  simp only [Lit.wf, Bool.and_eq_true, decide_eq_true_eq] at h1
  have h2 := varB_len (zigN a.n) (zigN_lt h1.1 h1.2)
  have h3 := varB_len a.s.size (by omega)
  have h4 : a.s.data.toList.length = a.s.size := rfl
  unfold putB
  split
  · rw [List.length_cons]; omega
  · split
    · rw [List.length_cons, List.length_append]; omega
    · simp
structure Small (rows : List (List Val)) : Prop where
  n : rows.length ≤ 50
  w : ∀ r ∈ rows, r.length ≤ 70
  v : ∀ r ∈ rows, ∀ v ∈ r, v.ok ∧ v.s.size ≤ 100
theorem rowB_le {r : List Val} (h : r.length ≤ 70) (hv : ∀ v ∈ r, v.ok ∧ v.s.size ≤ 100) (j : Nat) : ((r.take j).flatMap putB).length ≤ 7770 := by
  have := flatMap_bound putB 111 (r.take j) fun a ha => putB_le (hv a (List.mem_of_mem_take ha)).1 (hv a (List.mem_of_mem_take ha)).2
  have : (r.take j).length ≤ 70 := by rw [List.length_take]; omega
  omega
theorem rowsB_le {rows : List (List Val)} (h : Small rows) (i : Nat) : ((rows.take i).flatMap rowB).length ≤ 388500 := by
  have h1 := flatMap_bound rowB 7770 (rows.take i) fun r hr => by
    have hm := List.mem_of_mem_take hr
    have := rowB_le (h.w r hm) (h.v r hm) r.length
    rwa [List.take_length] at this
  have : (rows.take i).length ≤ 50 := by have := h.n; rw [List.length_take]; omega
  omega

theorem putRows_b (n : Nat) (bs : List UInt8) (rows : List (List Val)) (vs : List Value) (A : Option Addr) (c : Nat) (hn : H n = some (gb bs)) (hs : SLC (upd H n none) 1 A vs.length c vs) (hr : Rws (upd H n none) vs rows) (hsm : Small rows) (hl : bs.length ≤ 1000) : ACalls Tryd.prog NG 66 [sl n bs.length, .slice A vs.length c] H k (fun r H' k' => r = sl n (bs ++ rowsB rows).length ∧ H' = upd H n (some (gb (bs ++ rowsB rows))) ∧ k ≤ k') := by
  refine ACalls.fresh fun hf => ?_
  refine ACalls.body Tryd.func66 rfl (Nat.le_of_ble_eq_true rfl) ?_
  have hnk := old_lt hf hn
  have hvl := hr.len
  have hrn := hsm.n
  have hvb := varB_len vs.length (by omega)
  refine ACode.seq ?_
  refine ACode.region' [0] (by kernel_rfl) rfl ?_
  refine aOps_1 rfl rfl rfl (AOp.move' (.inr rfl) rfl ?_)
  refine aOps_end ?_
  show ACode _ _ _ _ _ _
  refine ACode.seq ?_
  refine ACode.region' [0, 1, 2, 3, 4, 5] (by kernel_rfl) rfl ?_
  refine aOps_1 rfl rfl rfl (AOp.move' (.inl rfl) rfl ?_)
  refine aOps_1 rfl rfl rfl (AOp.move' (.inl rfl) rfl ?_)
  refine aOps_1 rfl rfl rfl (AOp.len' rfl rfl ?_)
  refine aOps_1 rfl rfl rfl (AOp.convU64 rfl rfl (by omega) ?_)
  refine aOps_1 rfl rfl rfl ?_
  refine AOp.call' rfl rfl rfl (putVar NG _ _ n bs vs.length hn (by omega) (by omega)) ?_
  rintro _ _ kq ⟨rfl, rfl, hkq⟩
  refine aOps_1 rfl rfl rfl (AOp.move' (.inr rfl) rfl ?_)
  refine aOps_end ?_
  show ACode _ _ _ _ _ _
  refine ACode.seq ?_
  refine ACode.seq ?_
  refine ACode.region' [0, 1, 2] (by kernel_rfl) rfl ?_
  refine aOps_1 rfl rfl rfl (AOp.move' (.inl rfl) rfl ?_)
  refine aOps_1 rfl rfl rfl (AOp.len' rfl rfl ?_)
  refine aOps_1 rfl rfl rfl (AOp.move' (.inl rfl) rfl ?_)
  refine aOps_end ?_
  show ACode _ _ _ _ _ _
  refine ACode.block ?_
  refine ACode.count (fun i => [(16, .int .i64 (i : Int)), (0, sl n (bs ++ varB vs.length ++ (rows.take i).flatMap rowB).length)]) [(4, _), (14, _), (15, _)] (fun i => upd H n (some (gb (bs ++ varB vs.length ++ (rows.take i).flatMap rowB)))) (vs.length) (fun _ => True) (.cons rfl (.cons (show _ = some (sl n _) by rw [List.take_zero, List.flatMap_nil, List.append_nil]; rfl) .nil)) (.cons rfl (.cons rfl (.cons rfl .nil))) (by rw [List.take_zero, List.flatMap_nil, List.append_nil]; exact subA) trivial (fun i0 kL0 HL0 hiL0 hkL0 hsL0 hfL0 hxL0 => ?_)
  show ACode _ _ _ _ _ ⟨_, _, _⟩
  have tsL0 := SubS.of hsL0
  refine ACode.seq ?_
  refine ACode.region' [0] (by kernel_rfl) rfl ?_
  refine aOps_1 rfl rfl rfl (AOp.bin' rfl rfl rfl rfl ?_)
  refine aOps_end ?_
  show ACode _ _ _ _ _ _
  refine ACode.seq ?_
  refine ACode.cond rfl (fun c0 => ?_) (fun c0 => ?_)
  · try simp only [decide_eq_true_eq, decide_eq_false_iff_not, beq_iff_eq, beq_eq_false_iff_ne, ne_eq, bne_iff_ne, Bool.not_eq_true', Bool.not_eq_false', Int.not_lt, Int.not_le, gt_iff_lt, ge_iff_le, bne_eq_false_iff_eq, Bool.not_eq_eq_eq_not, Bool.not_true, Bool.not_false] at c0
    refine ACode.skip ?_
    show ACode _ _ _ _ _ _
    refine ACode.seq ?_
    refine ACode.block ?_
    refine ACode.seq ?_
    obtain ⟨A1, d1, e1, hc1⟩ := hr.at_ i0 (by omega)
    have hm : (rows.getD i0 []) ∈ rows := getD_mem (by omega)
    have hw := hsm.w _ hm
    have hft := flatMap_take rowB rows [] (i := i0) (by omega)
    have hle := rowsB_le hsm i0
    obtain ⟨n4_0, o4_0, s4_0, hq4_0, hp4_0⟩ := e1 ▸ slcElV hs.cells (show i0 < vs.length by omega)
    refine ACode.region' [0, 1, 2] (by kernel_rfl) rfl ?_
    refine aOps_1 rfl rfl rfl (AOp.indexP (aslcAt_sub subA hq4_0) rfl rfl rfl ?_)
    refine aOps_1 rfl rfl rfl (AOp.loadP0 (hp4_0.sub subA) rfl rfl rfl ?_)
    refine aOps_1 rfl rfl rfl (AOp.move' (.inr rfl) rfl ?_)
    refine aOps_end ?_
    show ACode _ _ _ _ _ _
    refine ACode.seq ?_
    refine ACode.region' [0, 1, 2] (by kernel_rfl) rfl ?_
    refine aOps_1 rfl rfl rfl (AOp.move' (.inl rfl) rfl ?_)
    refine aOps_1 rfl rfl rfl (AOp.len' rfl rfl ?_)
    refine aOps_1 rfl rfl rfl (AOp.move' (.inl rfl) rfl ?_)
    refine aOps_end ?_
    show ACode _ _ _ _ _ _
    refine ACode.block ?_
    refine ACode.count (fun i => [(22, .int .i64 (i : Int)), (0, sl n (bs ++ varB vs.length ++ (rows.take i0).flatMap rowB ++ ((rows.getD i0 []).take i).flatMap putB).length)]) [(4, _), (6, _), (14, _), (15, _), (16, _), (17, _), (18, _), (19, _), (20, _), (21, _)] (fun i => upd H n (some (gb (bs ++ varB vs.length ++ (rows.take i0).flatMap rowB ++ ((rows.getD i0 []).take i).flatMap putB)))) ((rows.getD i0 []).length) (fun _ => True) (.cons rfl (.cons (show _ = some (sl n _) by rw [List.take_zero, List.flatMap_nil, List.append_nil]; rfl) .nil)) (.cons rfl (.cons rfl (.cons rfl (.cons rfl (.cons rfl (.cons rfl (.cons rfl (.cons rfl (.cons rfl (.cons rfl .nil)))))))))) (by rw [List.take_zero, List.flatMap_nil, List.append_nil]; exact hsL0) trivial (fun i1 kL1 HL1 hiL1 hkL1 hsL1 hfL1 hxL1 => ?_)
    show ACode _ _ _ _ _ ⟨_, _, _⟩
    have tsL1 := SubS.of hsL1
    refine ACode.seq ?_
    refine ACode.region' [0] (by kernel_rfl) rfl ?_
    refine aOps_1 rfl rfl rfl (AOp.bin' rfl rfl rfl rfl ?_)
    refine aOps_end ?_
    show ACode _ _ _ _ _ _
    refine ACode.seq ?_
    refine ACode.cond rfl (fun c1 => ?_) (fun c1 => ?_)
    · try simp only [decide_eq_true_eq, decide_eq_false_iff_not, beq_iff_eq, beq_eq_false_iff_ne, ne_eq, bne_iff_ne, Bool.not_eq_true', Bool.not_eq_false', Int.not_lt, Int.not_le, gt_iff_lt, ge_iff_le, bne_eq_false_iff_eq, Bool.not_eq_eq_eq_not, Bool.not_true, Bool.not_false] at c1
      refine ACode.skip ?_
      show ACode _ _ _ _ _ _
      refine ACode.seq ?_
      refine ACode.block ?_
      refine ACode.seq ?_
      have hv := hsm.v _ hm ((rows.getD i0 []).getD i1 V0_) (getD_mem (by omega))
      have hft2 := flatMap_take putB (rows.getD i0 []) V0_ (i := i1) (by omega)
      have hle2 := rowB_le hw (hsm.v _ hm) i1
      have hpl := putB_le hv.1 hv.2
      obtain ⟨n7_0, o7_0, s7_0, hq7_0, hp7_0⟩ := slcElG (fun a => (vv a).cells.toList) V0_ hc1.cells (fun _ => rfl) (by decide) (show i1 < (rows.getD i0 []).length by omega)
      refine ACode.region' [0, 1, 2, 3] (by kernel_rfl) rfl ?_
      refine aOps_1 rfl rfl rfl (AOp.indexP (aslcAt_sub subA hq7_0) rfl rfl rfl ?_)
      refine aOps_1 rfl rfl rfl (AOp.loadPA (v := vv ((rows.getD i0 []).getD i1 V0_)) (hp7_0.sub subA) rfl rfl rfl rfl (by first | rfl | (simp; done)) (by decide) ?_)
      refine aOps_1 rfl rfl rfl (AOp.alloc' rfl ?_)
      refine aOps_0 rfl rfl rfl ?_
      refine AOp.storeAll (b := ?b1) rfl rfl rfl ?hn1 ?hk1 rfl ?hw1 ?ho1 ?hl1 ?hR1
      (case hn1 => exact hpA)
      (case hk1 => rfl)
      (case hw1 => first | rfl | (simp; done))
      (case ho1 => first | rfl | decide | (simp; done))
      (case hl1 => first | rfl | (simp; done))
      refine aOps_end ?_
      show ACode _ _ _ _ _ _
      refine ACode.region' [0, 1, 2, 3] (by kernel_rfl) rfl ?_
      refine aOps_1 rfl rfl rfl (AOp.move' (.inl rfl) rfl ?_)
      refine aOps_1 rfl rfl rfl ?_
      refine AOp.loadAll (b := ?b2) (v := vv ((rows.getD i0 []).getD i1 V0_)) rfl rfl ?hn2 ?hv2 ?hw2 ?hz2 ?hR2
      (case hn2 => exact hpA)
      (case hv2 => rfl)
      (case hw2 => rfl)
      (case hz2 => first | rfl | (simp; done))
      refine aOps_1 rfl rfl rfl ?_
      refine AOp.call' rfl rfl rfl (put_val NG _ _ n (bs ++ varB vs.length ++ (rows.take i0).flatMap rowB ++ ((rows.getD i0 []).take i1).flatMap putB) ((rows.getD i0 []).getD i1 V0_) hv.1 (by omega) hpA (by simp only [List.length_append]; omega)) ?_
      rintro _ _ kq ⟨rfl, rfl, hkq⟩
      refine aOps_1 rfl rfl rfl (AOp.move' (.inr rfl) rfl ?_)
      refine aOps_end ?_
      show ACode _ _ _ _ _ _
      refine ACode.region' [0, 1] (by kernel_rfl) rfl ?_
      refine aOps_1 rfl rfl rfl (AOp.add rfl rfl rfl (i64_wrap (by omega) (by omega)) ?_)
      refine aOps_1 rfl rfl rfl (AOp.move' (.inl rfl) rfl ?_)
      refine aOps_end ?_
      have e5 : (bs ++ varB vs.length ++ (rows.take i0).flatMap rowB ++ ((rows.getD i0 []).take (i1 + 1)).flatMap putB) = (bs ++ varB vs.length ++ (rows.take i0).flatMap rowB ++ ((rows.getD i0 []).take i1).flatMap putB) ++ putB ((rows.getD i0 []).getD i1 V0_) := by rw [hft2]; simp
      first | refine thenA_n ?_ | simp only [thenA, blockA, if_true]
      exact NextR.mk (by omega) (by omega) (.cons rfl (.cons (show _ = some (sl n _) by rw [e5]; rfl) .nil)) (.cons rfl (.cons rfl (.cons rfl (.cons rfl (.cons rfl (.cons rfl (.cons rfl (.cons rfl (.cons rfl (.cons rfl .nil)))))))))) (by exact sub_over_eq (y := some (gb (bs ++ varB vs.length ++ (rows.take i0).flatMap rowB ++ ((rows.getD i0 []).take i1).flatMap putB))) subA (by rw [e5])) trivial
    · try simp only [decide_eq_true_eq, decide_eq_false_iff_not, beq_iff_eq, beq_eq_false_iff_ne, ne_eq, bne_iff_ne, Bool.not_eq_true', Bool.not_eq_false', Int.not_lt, Int.not_le, gt_iff_lt, ge_iff_le, bne_eq_false_iff_eq, Bool.not_eq_eq_eq_not, Bool.not_true, Bool.not_false] at c1
      refine ACode.exit ?_
      show ACode _ _ _ _ _ _
      have e4 : (rows.getD i0 []).take i1 = (rows.getD i0 []) := List.take_of_length_le (by omega)
      have e6 : (bs ++ varB vs.length ++ (rows.take (i0 + 1)).flatMap rowB) = (bs ++ varB vs.length ++ (rows.take i0).flatMap rowB ++ ((rows.getD i0 []).take i1).flatMap putB) := by rw [e4, hft, rowB]; simp
      refine ACode.region' [0, 1] (by kernel_rfl) rfl ?_
      refine aOps_1 rfl rfl rfl (AOp.add rfl rfl rfl (i64_wrap (by omega) (by omega)) ?_)
      refine aOps_1 rfl rfl rfl (AOp.move' (.inl rfl) rfl ?_)
      refine aOps_end ?_
      first | refine thenA_n ?_ | simp only [thenA, blockA, if_true]
      exact NextR.mk (by omega) (by omega) (.cons rfl (.cons (show _ = some (sl n _) by rw [e6]; rfl) .nil)) (.cons rfl (.cons rfl (.cons rfl .nil))) (by rw [e6]; exact hsL1) trivial
  · try simp only [decide_eq_true_eq, decide_eq_false_iff_not, beq_iff_eq, beq_eq_false_iff_ne, ne_eq, bne_iff_ne, Bool.not_eq_true', Bool.not_eq_false', Int.not_lt, Int.not_le, gt_iff_lt, ge_iff_le, bne_eq_false_iff_eq, Bool.not_eq_eq_eq_not, Bool.not_true, Bool.not_false] at c0
    refine ACode.exit ?_
    show ACode _ _ _ _ _ _
    refine ACode.seq ?_
    refine ACode.region' [0, 1] (by kernel_rfl) rfl ?_
    refine aOps_1 rfl rfl rfl (AOp.move' (.inl rfl) rfl ?_)
    refine aOps_1 rfl rfl rfl (AOp.move' (.inr rfl) rfl ?_)
    refine aOps_end ?_
    show ACode _ _ _ _ _ _
    refine ACode.ret ?_
    have e0 : rows.take i0 = rows := List.take_of_length_le (by omega)
    have e7 : bs ++ rowsB rows = (bs ++ varB vs.length ++ (rows.take i0).flatMap rowB) := by rw [e0, rowsB, hvl, List.append_assoc]
    exact RetQ.one rfl rfl (H'' := upd H n (some (gb (bs ++ rowsB rows)))) (by rw [e7]; exact hsL0) stays_upd (fun hk => ⟨by rw [e7], rfl, by omega⟩)
end

end Go.Proofs.YteoofihjmldllaaDoor
