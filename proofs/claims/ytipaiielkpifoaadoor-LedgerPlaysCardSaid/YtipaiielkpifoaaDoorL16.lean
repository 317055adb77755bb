/- Contracts over the abstract states: what a ledger has. -/
import Derived.Test.YtipaiielkpifoaaDoorL15
import Derived.Test.YtipaiielkpifoaaDoorS28
set_option linter.unusedVariables false
set_option linter.unusedSimpArgs false
set_option maxRecDepth 100000
namespace Go.Proofs.YtipaiielkpifoaaDoor
open Go Go.Ab

theorem upd_upd (A : Hp) (k : Nat) (x y : Option Blk) : upd (upd A k y) k x = upd A k x := by
  funext m
  by_cases h : m = k
  · subst h; rw [upd_same, upd_same]
  · rw [upd_other _ _ h, upd_other _ _ h, upd_other _ _ h]
theorem sub_cut {A B : Hp} {k : Nat} (h : Ab.Sub A B) (hk : A k = none) : Ab.Sub A (upd B k none) := fun n b hn => by
  by_cases e : n = k
  · subst e; rw [hk] at hn; cases hn
  · rw [upd_other _ _ e]; exact h n b hn
def eD : Ent := ⟨zeroD, 0, zeroD⟩
theorem formB_pos (e : Ent) : 0 < (formB e).length := by rw [formB, List.length_append, e.s.h]; omega
theorem entc_f (e : Ent) (v : Value) : (entc e ++ [v])[65]? = some v := by
  rw [List.getElem?_append_right (by rw [entc_len]; exact Nat.le_refl _), entc_len]
  rfl
theorem SLC.some_ {H : Hp} {A : Option Addr} {l c : Nat} {cs : List Value} (h : SLC H 1 A l c cs) (h0 : 0 < l) : ∃ n off sp, A = some ⟨n, off, sp⟩ := by
  cases A with
  | none =>
    have := h.cells
    cases l with
    | zero => omega
    | succ l => simp [slcCells] at this
  | some a => exact ⟨a.block, a.off, a.spot, rfl⟩
abbrev forms (es : List Ent) : List (List UInt8) := es.map formB
theorem forms_at {es : List Ent} {i : Nat} (h : i < es.length) : (forms es).getD i [] = formB (es.getD i eD) := by
  rw [List.getD_eq_getElem?_getD, List.getElem?_map, List.getElem?_eq_getElem h, getD_el h]; rfl
theorem forms_take {es : List Ent} {i : Nat} (h : i < es.length) : forms (es.take (i + 1)) = forms (es.take i) ++ [formB (es.getD i eD)] := by
  rw [forms, take_el es eD h, List.map_append]; rfl
abbrev tbl (vs : List Value) : Blk := { cells := vs, elem := 25, kind := .grow }
/-- A new list of new texts. -/
def NewF (H : Hp) (k : Nat) (ls : List (List UInt8)) (v : Value) (H' : Hp) (k' : Nat) : Prop :=
  ∃ q vs, k ≤ q ∧ q < k' ∧ v = .slice (some ⟨q, 0, some 1⟩) vs.length vs.length ∧ Ab.Sub H H' ∧ (∀ n, k' ≤ n → H' n = none) ∧ H' q = some (tbl vs) ∧ Lvs H' vs ls
theorem NewF.slc {H' : Hp} {q : Nat} {vs : List Value} (h : H' q = some (tbl vs)) : SLC H' 1 (some ⟨q, 0, some 1⟩) vs.length vs.length vs := SLC.grow h rfl (by simp)
structure LG (H : Hp) (n q : Nat) (es : List Ent) (vs : List Value) : Prop where
  hn : H n = some (lblk TL q es.length)
  hq : H q = some (kblk T74 es vs)
  hL0 : Lvs (upd (upd H q none) n none) vs (forms es)
  hg : ∀ e ∈ es, good e = true
  hm : es.length ≤ 1000000000
  hnq : n ≠ q
theorem LG.hL {H : Hp} {n q : Nat} {es : List Ent} {vs : List Value} (h : LG H n q es vs) : Lvs H vs (forms es) := h.hL0.sub (sub_drop (sub_drop (sub_refl _)))
theorem sub_none2 {A B : Hp} {k : Nat} (h : Ab.Sub A B) : Ab.Sub (upd A k none) (upd B k none) := fun m b hm => by
  by_cases e : m = k
  · subst e; rw [upd_same] at hm; cases hm
  · rw [upd_other _ _ e] at hm ⊢; exact h m b hm
theorem LG.len {H : Hp} {n q : Nat} {es : List Ent} {vs : List Value} (h : LG H n q es vs) : es.length = vs.length := by rw [h.hL.len, List.length_map]
theorem LG.sub {H H' : Hp} {n q : Nat} {es : List Ent} {vs : List Value} (h : LG H n q es vs) (hs : Ab.Sub H H') : LG H' n q es vs := ⟨hs _ _ h.hn, hs _ _ h.hq, h.hL0.sub (sub_none2 (sub_none2 hs)), h.hg, h.hm, h.hnq⟩
theorem forms_le {es : List Ent} (hg : ∀ e ∈ es, good e = true) : ∀ x ∈ forms es, x.length ≤ 549755813000 := fun x hx => by
  obtain ⟨e, he, rfl⟩ := List.mem_map.1 hx
  exact Nat.le_trans (formB_len e (hg e he)) (by decide)
section
variable (H : Hp) (k : Nat)

theorem size_l (n q : Nat) (es : List Ent) (vs : List Value) (hG : LG H n q es vs) : ACalls Tryd.prog 1 28 [.pointer (some ⟨n, 0, none⟩)] H k (Same H k (.int .i64 (es.length : Int))) := by
  refine ACalls.fresh fun hf => ?_
  refine ACalls.body Tryd.func28 rfl (Nat.le_of_ble_eq_true rfl) ?_
  have hlen := hG.len
  have hn := hG.hn
  have hq := hG.hq
  have hnk := old_lt hf hn
  have hqk := old_lt hf hq
  have hm := hG.hm
  refine ACode.seq ?_
  refine ACode.region' [0] (by kernel_rfl) rfl ?_
  refine aOps_1 rfl rfl rfl (AOp.move' (.inr rfl) rfl ?_)
  refine aOps_end ?_
  show ACode _ _ _ _ _ _
  refine ACode.seq ?_
  refine ACode.seq ?_
  refine ACode.region' [0, 1] (by kernel_rfl) rfl ?_
  refine aOps_1 rfl rfl rfl (AOp.move' (.inl rfl) rfl ?_)
  refine aOps_1 rfl rfl rfl (AOp.eqNilP rfl rfl rfl ?_)
  refine aOps_end ?_
  show ACode _ _ _ _ _ _
  refine ACode.cond rfl (fun c0 => absurd c0 (by simp)) (fun c0 => ?_)
  refine ACode.skip ?_
  show ACode _ _ _ _ _ _
  refine ACode.seq ?_
  refine ACode.region' [0, 1, 2, 3, 4, 5] (by kernel_rfl) rfl ?_
  refine aOps_1 rfl rfl rfl (AOp.move' (.inl rfl) rfl ?_)
  refine aOps_1 rfl rfl rfl (AOp.nilCheck' rfl rfl ?_)
  refine aOps_1 rfl rfl rfl (AOp.fieldAddr' rfl (by decide) rfl ?_)
  refine aOps_1 rfl rfl rfl ?_
  refine AOp.load1 (b := ?b1) (v := ?v1) rfl rfl ?hn1 ?hv1 ?hR1
  (case hn1 => repeat (first | assumption | exact upd_same _ _ _ | refine (upd_other _ _ (by omega)).trans ?_))
  (case hv1 => rfl)
  refine aOps_1 rfl rfl rfl (AOp.len' rfl rfl ?_)
  refine aOps_1 rfl rfl rfl (AOp.move' (.inr rfl) rfl ?_)
  refine aOps_end ?_
  show ACode _ _ _ _ _ _
  refine ACode.ret ?_
  exact RetQ.one rfl rfl (by (repeat (first | exact sub_refl _ | assumption | refine sub_upd' ?_ (by ((repeat refine (upd_other _ _ (by omega)).trans ?_); first | exact hf _ (by omega))) | refine sub_over (by assumption) | refine sub_over0 ?_ | refine sub_trans (sub_same (by assumption)) ?_ | refine sub_dropu ?_ | refine sub_drop ?_ | refine sub_put ?_ (by repeat (first | assumption | exact upd_same _ _ _ | refine (upd_other _ _ (by omega)).trans ?_))))) stays (fun hk => ⟨rfl, rfl, by omega⟩)

theorem forms_l (n q : Nat) (es : List Ent) (vs : List Value) (hG : LG H n q es vs) : ACalls Tryd.prog 1 32 [.pointer (some ⟨n, 0, none⟩)] H k (NewF H k (forms es)) := by
  refine ACalls.fresh fun hf => ?_
  refine ACalls.body Tryd.func32 rfl (Nat.le_of_ble_eq_true rfl) ?_
  have hlen := hG.len
  have hn := hG.hn
  have hq := hG.hq
  have hnk := old_lt hf hn
  have hqk := old_lt hf hq
  have hm := hG.hm
  refine ACode.seq ?_
  refine ACode.region' [0] (by kernel_rfl) rfl ?_
  refine aOps_1 rfl rfl rfl (AOp.move' (.inr rfl) rfl ?_)
  refine aOps_end ?_
  show ACode _ _ _ _ _ _
  refine ACode.seq ?_
  refine ACode.region' [0] (by kernel_rfl) rfl ?_
  refine aOps_1 rfl rfl rfl (AOp.move' (.inr rfl) rfl ?_)
  refine aOps_end ?_
  show ACode _ _ _ _ _ _
  refine ACode.seq ?_
  refine ACode.seq ?_
  refine ACode.adopt (t := 3) 25 1 (by decide) rfl ?_
  refine ACode.region' [0, 1, 2] (by kernel_rfl) rfl ?_
  refine aOps_1 rfl rfl rfl (AOp.move' (.inl rfl) rfl ?_)
  refine aOps_q rfl rfl rfl (AOp.call' rfl rfl rfl (size_l _ _ n q es vs (hG.sub (by (repeat (first | exact sub_refl _ | assumption | refine sub_upd' ?_ (by ((repeat refine (upd_other _ _ (by omega)).trans ?_); first | exact hf _ (by omega))) | refine sub_over (by assumption) | refine sub_over0 ?_ | refine sub_trans (sub_same (by assumption)) ?_ | refine sub_dropu ?_ | refine sub_drop ?_ | refine sub_put ?_ (by repeat (first | assumption | exact upd_same _ _ _ | refine (upd_other _ _ (by omega)).trans ?_))))))) (fun _ _ _ h => h)) (fun kq hkq => ?_)
  refine aOps_1 rfl rfl rfl (AOp.move' (.inl rfl) rfl ?_)
  refine aOps_end ?_
  show ACode _ _ _ _ _ _
  refine ACode.block ?_
  refine ACode.countG (γ := Hp × List Value) (fun i g => [(7, .int .i64 (i : Int)), (3, .slice (some ⟨k, 0, some 1⟩) i i)]) [(0, _), (2, _), (5, _), (6, _)] (fun i g => upd g.1 k (some (tbl g.2))) (es.length) (fun i g => Ab.Sub H g.1 ∧ g.1 k = none ∧ g.2.length = i ∧ Lvs g.1 g.2 (forms (es.take i))) ((H, [])) (.cons rfl (.cons rfl .nil)) (.cons rfl (.cons rfl (.cons rfl (.cons rfl .nil)))) (by (repeat (first | exact sub_refl _ | assumption | refine sub_upd' ?_ (by ((repeat refine (upd_other _ _ (by omega)).trans ?_); first | exact hf _ (by omega))) | refine sub_over (by assumption) | refine sub_over0 ?_ | refine sub_trans (sub_same (by assumption)) ?_ | refine sub_dropu ?_ | refine sub_drop ?_ | refine sub_put ?_ (by repeat (first | assumption | exact upd_same _ _ _ | refine (upd_other _ _ (by omega)).trans ?_))))) ⟨sub_refl _, hf k (Nat.le_refl _), rfl, Lvs.nil⟩ (fun i0 g0 kL0 HL0 hiL0 hkL0 hsL0 hfL0 hxL0 => ?_)
  show ACode _ _ _ _ _ ⟨_, _, _⟩
  refine ACode.seq ?_
  refine ACode.region' [0] (by kernel_rfl) rfl ?_
  refine aOps_1 rfl rfl rfl (AOp.bin' rfl rfl rfl rfl ?_)
  refine aOps_end ?_
  show ACode _ _ _ _ _ _
  refine ACode.seq ?_
  refine ACode.cond rfl (fun c0 => ?_) (fun c0 => ?_)
  · try simp only [decide_eq_true_eq, decide_eq_false_iff_not, beq_iff_eq, beq_eq_false_iff_ne, ne_eq, bne_iff_ne, Bool.not_eq_true', Bool.not_eq_false', Int.not_lt, Int.not_le, gt_iff_lt, ge_iff_le, bne_eq_false_iff_eq, Bool.not_eq_eq_eq_not, Bool.not_true, Bool.not_false] at c0
    refine ACode.skip ?_
    show ACode _ _ _ _ _ _
    refine ACode.seq ?_
    refine ACode.block ?_
    refine ACode.seq ?_
    refine ACode.region' [0, 1] (by kernel_rfl) rfl ?_
    refine aOps_1 rfl rfl rfl (AOp.move' (.inl rfl) rfl ?_)
    refine aOps_1 rfl rfl rfl (AOp.move' (.inr rfl) rfl ?_)
    refine aOps_end ?_
    show ACode _ _ _ _ _ _
    obtain ⟨hx1, hx2, hx3, hx4⟩ := hxL0
    have hH : Ab.Sub H HL0 := sub_trans (sub_upf hf (Nat.le_refl k) hx1) hsL0
    have hX : Ab.Sub g0.1 HL0 := sub_trans (sub_upd' (sub_refl _) hx2) hsL0
    have hn0 := hH _ _ hn
    have hq0 := hH _ _ hq
    have hk0 : HL0 k = some (tbl g0.2) := hsL0 _ _ (upd_same _ _ _)
    obtain ⟨A1, d1, e1, hc1⟩ := hG.hL.at_ i0 (by rw [List.length_map]; omega)
    rw [forms_at (by omega)] at e1 hc1
    obtain ⟨n1, o1, p1, rfl⟩ := SLC.some_ hc1 (formB_pos _)
    have hfl := formB_len (es.getD i0 eD) (hG.hg _ (by rw [getD_el (by omega)]; exact List.getElem_mem _))
    obtain ⟨n5_6, o5_6, s5_6, hq5_6, hp5_6⟩ := kel eD hq0 hlen (show i0 < es.length by omega)
    refine ACode.region' [0, 1, 2, 3, 4, 5, 6, 7, 8, 9, 10, 11, 12] (by kernel_rfl) rfl ?_
    refine aOps_1 rfl rfl rfl (AOp.move' (.inl rfl) rfl ?_)
    refine aOps_1 rfl rfl rfl (AOp.move' (.inl rfl) rfl ?_)
    refine aOps_1 rfl rfl rfl (AOp.nilCheck' rfl rfl ?_)
    refine aOps_1 rfl rfl rfl (AOp.fieldAddr' rfl (by decide) rfl ?_)
    refine aOps_1 rfl rfl rfl ?_
    refine AOp.load1 (b := ?b2) (v := ?v2) rfl rfl ?hn2 ?hv2 ?hR2
    (case hn2 => repeat (first | assumption | exact upd_same _ _ _ | refine (upd_other _ _ (by omega)).trans ?_ | refine hsL0 _ _ ?_))
    (case hv2 => rfl)
    refine aOps_1 rfl rfl rfl (AOp.move' (.inl rfl) rfl ?_)
    refine aOps_1 rfl rfl rfl (AOp.indexP (aslcAt_sub (by (repeat (first | exact sub_refl _ | assumption | refine sub_upd' ?_ (by ((repeat refine (upd_other _ _ (by omega)).trans ?_); first | exact hf _ (by omega) | exact hfL0 _ (by omega))) | refine sub_trans ?_ hsL0 | refine sub_over (by assumption) | refine sub_over0 ?_ | refine sub_trans (sub_same (by assumption)) ?_ | refine sub_dropu ?_ | refine sub_drop ?_ | refine sub_put ?_ (by repeat (first | assumption | exact upd_same _ _ _ | refine (upd_other _ _ (by omega)).trans ?_ | refine hsL0 _ _ ?_))))) hq5_6) rfl rfl rfl ?_)
    refine aOps_1 rfl rfl rfl (AOp.fieldP (hp5_6.sub (by (repeat (first | exact sub_refl _ | assumption | refine sub_upd' ?_ (by ((repeat refine (upd_other _ _ (by omega)).trans ?_); first | exact hf _ (by omega) | exact hfL0 _ (by omega))) | refine sub_trans ?_ hsL0 | refine sub_over (by assumption) | refine sub_over0 ?_ | refine sub_trans (sub_same (by assumption)) ?_ | refine sub_dropu ?_ | refine sub_drop ?_ | refine sub_put ?_ (by repeat (first | assumption | exact upd_same _ _ _ | refine (upd_other _ _ (by omega)).trans ?_ | refine hsL0 _ _ ?_)))))) rfl (by decide) (by rw [List.length_append, entc_len]; exact Nat.lt_succ_self _) rfl ?_)
    refine aOps_1 rfl rfl rfl (AOp.loadP1 (hp5_6.sub (by (repeat (first | exact sub_refl _ | assumption | refine sub_upd' ?_ (by ((repeat refine (upd_other _ _ (by omega)).trans ?_); first | exact hf _ (by omega) | exact hfL0 _ (by omega))) | refine sub_trans ?_ hsL0 | refine sub_over (by assumption) | refine sub_over0 ?_ | refine sub_trans (sub_same (by assumption)) ?_ | refine sub_dropu ?_ | refine sub_drop ?_ | refine sub_put ?_ (by repeat (first | assumption | exact upd_same _ _ _ | refine (upd_other _ _ (by omega)).trans ?_ | refine hsL0 _ _ ?_)))))) rfl rfl (entc_f _ _) ?_)
    rw [e1]
    refine aOps_1 rfl rfl rfl ?_
    refine AOp.call' rfl rfl rfl (clone_b _ _ (formB (es.getD i0 eD)) n1 o1 p1 _ _ rfl ((hc1.sub hH).sub (by (repeat (first | exact sub_refl _ | assumption | refine sub_upd' ?_ (by ((repeat refine (upd_other _ _ (by omega)).trans ?_); first | exact hf _ (by omega) | exact hfL0 _ (by omega))) | refine sub_trans ?_ hsL0 | refine sub_over (by assumption) | refine sub_over0 ?_ | refine sub_trans (sub_same (by assumption)) ?_ | refine sub_dropu ?_ | refine sub_drop ?_ | refine sub_put ?_ (by repeat (first | assumption | exact upd_same _ _ _ | refine (upd_other _ _ (by omega)).trans ?_ | refine hsL0 _ _ ?_)))))) (formB_pos _) (by omega)) ?_
    rintro _ _ ka ⟨f, hf1, hf2, rfl, rfl⟩
    refine aOps_1 rfl rfl rfl (AOp.buildG1 (vals := [_]) rfl (by decide) rfl rfl (by intro u hu; simp at hu; first | (rcases hu with rfl | rfl | rfl <;> rfl) | (rcases hu with rfl | rfl <;> rfl) | (subst hu; rfl) | (rcases hu with rfl | rfl | rfl | rfl <;> rfl)) ?_)
    refine aOps_1 rfl rfl rfl (AOp.append' (b := tbl g0.2) (m := 1) (news := [gsl f (formB (es.getD i0 eD)).length]) rfl rfl rfl (by repeat (first | assumption | exact upd_same _ _ _ | refine (upd_other _ _ (by omega)).trans ?_ | refine hsL0 _ _ ?_)) (srcOf_grow (b := tbl [gsl f (formB (es.getD i0 eD)).length]) (by repeat (first | assumption | exact upd_same _ _ _ | refine (upd_other _ _ (by omega)).trans ?_ | refine hsL0 _ _ ?_)) rfl rfl) rfl rfl rfl (by rw [hx3, Nat.mul_one]) srcOk_sl (by intro u hu; simp at hu; subst hu; rfl) (by omega) (by omega) ?_)
    refine aOps_1 rfl rfl rfl (AOp.move' (.inr rfl) rfl ?_)
    refine aOps_end ?_
    show ACode _ _ _ _ _ _
    refine ACode.region' [0, 1] (by kernel_rfl) rfl ?_
    refine aOps_1 rfl rfl rfl (AOp.add rfl rfl rfl (i64_wrap (by omega) (by omega)) ?_)
    refine aOps_1 rfl rfl rfl (AOp.move' (.inl rfl) rfl ?_)
    refine aOps_end ?_
    have hXf : Ab.Sub g0.1 (upd HL0 f (some (gb (formB (es.getD i0 eD))))) := sub_trans hX (sub_upd' (sub_refl _) (hfL0 f (by omega)))
    have hLn : Lvs (upd (upd HL0 f (some (gb (formB (es.getD i0 eD))))) k none) (g0.2 ++ [gsl f (formB (es.getD i0 eD)).length]) (forms (es.take (i0 + 1))) := by rw [forms_take (by omega)]; exact Lvs.append (hx4.sub (sub_cut hXf hx2)) (Lvs.cons (SLC.gb (e := 5) ((upd_other _ _ (by omega)).trans (upd_same _ _ _))) Lvs.nil)
    first | refine thenA_n ?_ | simp only [thenA, blockA, if_true]
    exact NextG.mk (by omega) (by omega) ((upd (upd HL0 f (some (gb (formB (es.getD i0 eD))))) k none, g0.2 ++ [gsl f (formB (es.getD i0 eD)).length])) (.cons rfl (.cons rfl .nil)) (.cons rfl (.cons rfl (.cons rfl (.cons rfl .nil)))) (by rw [upd_upd]; refine sub_over0 (sub_upd' (sub_refl _) ((upd_other _ _ (by omega)).trans (hfL0 _ (by omega))))) ⟨sub_cut (sub_upf hf (by omega) hH) (hf k (Nat.le_refl _)), upd_same _ _ _, by rw [List.length_append, hx3]; rfl, hLn⟩
  · try simp only [decide_eq_true_eq, decide_eq_false_iff_not, beq_iff_eq, beq_eq_false_iff_ne, ne_eq, bne_iff_ne, Bool.not_eq_true', Bool.not_eq_false', Int.not_lt, Int.not_le, gt_iff_lt, ge_iff_le, bne_eq_false_iff_eq, Bool.not_eq_eq_eq_not, Bool.not_true, Bool.not_false] at c0
    refine ACode.exit ?_
    show ACode _ _ _ _ _ _
    refine ACode.seq ?_
    refine ACode.region' [0, 1] (by kernel_rfl) rfl ?_
    refine aOps_1 rfl rfl rfl (AOp.move' (.inl rfl) rfl ?_)
    refine aOps_1 rfl rfl rfl (AOp.move' (.inr rfl) rfl ?_)
    refine aOps_end ?_
    show ACode _ _ _ _ _ _
    refine ACode.ret ?_
    obtain ⟨hx1, hx2, hx3, hx4⟩ := hxL0
    have hi : i0 = es.length := by omega
    subst hi
    rw [List.take_length] at hx4
    have hX : Ab.Sub g0.1 HL0 := sub_trans (sub_upd' (sub_refl _) hx2) hsL0
    exact RetQ.one rfl rfl (sub_refl _) (stays_sub (sub_trans hx1 hX)) (fun hk => ⟨k, g0.2, Nat.le_refl _, by omega, by rw [hx3], sub_trans hx1 hX, (fun m hm => hfL0 m (by omega)), hsL0 _ _ (upd_same _ _ _), hx4.sub hX⟩)

theorem entry_in (n q : Nat) (es : List Ent) (vs : List Value) (hG : LG H n q es vs) (i : Nat) (hi : i < es.length) : ACalls Tryd.prog 1 19 [.pointer (some ⟨n, 0, none⟩), .int .i64 (i : Int)] H k (Same H k (.tuple #[entv (es.getD i eD), .bool true])) := by
  refine ACalls.fresh fun hf => ?_
  refine ACalls.body Tryd.func19 rfl (Nat.le_of_ble_eq_true rfl) ?_
  have hlen := hG.len
  have hn := hG.hn
  have hq := hG.hq
  have hnk := old_lt hf hn
  have hqk := old_lt hf hq
  have hm := hG.hm
  refine ACode.seq ?_
  refine ACode.region' [0, 1] (by kernel_rfl) rfl ?_
  refine aOps_1 rfl rfl rfl (AOp.alloc' rfl ?_)
  refine aOps_1 rfl rfl rfl (AOp.move' (.inr rfl) rfl ?_)
  refine aOps_end ?_
  show ACode _ _ _ _ _ _
  refine ACode.seq ?_
  refine ACode.seq ?_
  refine ACode.region' [0, 1, 2, 3, 4, 5, 6, 7] (by kernel_rfl) rfl ?_
  refine aOps_1 rfl rfl rfl (AOp.move' (.inl rfl) rfl ?_)
  refine aOps_1 rfl rfl rfl (AOp.bin' rfl rfl rfl rfl ?_)
  refine aOps_1 rfl rfl rfl (AOp.move' (.inl rfl) rfl ?_)
  refine aOps_gd0 rfl rfl (wantF rfl rfl rfl) (fun hc => AOp.slots [(1, _)] (.cons rfl .nil) (AOp.move' (.inl rfl) rfl ⟨rfl, rfl, rfl⟩)) ?_
  refine aOps_gd0 rfl rfl (wantF rfl rfl rfl) (fun hc => AOp.slots [(0, _)] (.cons rfl .nil) (AOp.move' (.inl rfl) rfl ⟨rfl, rfl, rfl⟩)) ?_
  refine aOps_gd rfl rfl (wantF rfl rfl rfl) (fun hc => AOp.slots [(10, _)] (.cons (gvT rfl hc) .nil) (AOp.call' rfl rfl rfl (size_l _ _ n q es vs (hG.sub (by (repeat (first | exact sub_refl _ | assumption | refine sub_upd' ?_ (by ((repeat refine (upd_other _ _ (by omega)).trans ?_); first | exact hf _ (by omega))) | refine sub_over (by assumption) | refine sub_over0 ?_ | refine sub_trans (sub_same (by assumption)) ?_ | refine sub_dropu ?_ | refine sub_drop ?_ | refine sub_put ?_ (by repeat (first | assumption | exact upd_same _ _ _ | refine (upd_other _ _ (by omega)).trans ?_))))))) (fun _ _ _ h => h))) (fun kq hkq => ?_)
  refine aOps_gd0 rfl rfl (wantF rfl rfl rfl) (fun hc => AOp.slots [(9, _), (11, _)] (.cons (gvT rfl hc) (.cons (gvT rfl hc) .nil)) (AOp.bin' rfl rfl rfl rfl ⟨rfl, rfl, rfl⟩)) ?_
  refine aOps_1 rfl rfl rfl (AOp.pickOr rfl rfl rfl (fun hb => gvE rfl (t_not hb)) ?_)
  refine aOps_end ?_
  show ACode _ _ _ _ _ _
  refine ACode.cond rfl (fun c0 => absurd c0 (by simp at c0; omega)) (fun c0 => ?_)
  refine ACode.skip ?_
  show ACode _ _ _ _ _ _
  refine ACode.seq ?_
  obtain ⟨n3_5, o3_5, s3_5, hq3_5, hp3_5⟩ := kel eD hq hlen hi
  refine ACode.region' [0, 1, 2, 3, 4, 5, 6, 7, 8, 9] (by kernel_rfl) rfl ?_
  refine aOps_1 rfl rfl rfl (AOp.move' (.inl rfl) rfl ?_)
  refine aOps_1 rfl rfl rfl (AOp.nilCheck' rfl rfl ?_)
  refine aOps_1 rfl rfl rfl (AOp.fieldAddr' rfl (by decide) rfl ?_)
  refine aOps_1 rfl rfl rfl ?_
  refine AOp.load1 (b := ?b3) (v := ?v3) rfl rfl ?hn3 ?hv3 ?hR3
  (case hn3 => repeat (first | assumption | exact upd_same _ _ _ | refine (upd_other _ _ (by omega)).trans ?_))
  (case hv3 => rfl)
  refine aOps_1 rfl rfl rfl (AOp.move' (.inl rfl) rfl ?_)
  refine aOps_1 rfl rfl rfl (AOp.indexP (aslcAt_sub (by (repeat (first | exact sub_refl _ | assumption | refine sub_upd' ?_ (by ((repeat refine (upd_other _ _ (by omega)).trans ?_); first | exact hf _ (by omega))) | refine sub_over (by assumption) | refine sub_over0 ?_ | refine sub_trans (sub_same (by assumption)) ?_ | refine sub_dropu ?_ | refine sub_drop ?_ | refine sub_put ?_ (by repeat (first | assumption | exact upd_same _ _ _ | refine (upd_other _ _ (by omega)).trans ?_))))) hq3_5) rfl rfl rfl ?_)
  refine aOps_1 rfl rfl rfl (AOp.fieldP (hp3_5.sub (by (repeat (first | exact sub_refl _ | assumption | refine sub_upd' ?_ (by ((repeat refine (upd_other _ _ (by omega)).trans ?_); first | exact hf _ (by omega))) | refine sub_over (by assumption) | refine sub_over0 ?_ | refine sub_trans (sub_same (by assumption)) ?_ | refine sub_dropu ?_ | refine sub_drop ?_ | refine sub_put ?_ (by repeat (first | assumption | exact upd_same _ _ _ | refine (upd_other _ _ (by omega)).trans ?_)))))) rfl (by decide) (by rw [List.length_append, entc_len]; exact Nat.zero_lt_succ _) rfl ?_)
  refine aOps_1 rfl rfl rfl (AOp.loadPre (entc (es.getD i eD)) (entv (es.getD i eD)) (hp3_5.sub (by (repeat (first | exact sub_refl _ | assumption | refine sub_upd' ?_ (by ((repeat refine (upd_other _ _ (by omega)).trans ?_); first | exact hf _ (by omega))) | refine sub_over (by assumption) | refine sub_over0 ?_ | refine sub_trans (sub_same (by assumption)) ?_ | refine sub_dropu ?_ | refine sub_drop ?_ | refine sub_put ?_ (by repeat (first | assumption | exact upd_same _ _ _ | refine (upd_other _ _ (by omega)).trans ?_)))))) rfl (List.take_left' (entc_len _)) (by rw [List.length_append, entc_len]; omega) (by decide) rfl rfl ?_)
  refine aOps_0 rfl rfl rfl ?_
  refine AOp.storeAll (b := ?b4) rfl rfl rfl ?hn4 ?hk4 rfl ?hw4 ?ho4 ?hl4 ?hR4
  (case hn4 => repeat (first | assumption | exact upd_same _ _ _ | refine (upd_other _ _ (by omega)).trans ?_))
  (case hk4 => rfl)
  (case hw4 => first | rfl | exact hv_size _ | exact hcs_one _ | exact (aw_size _).trans rfl | exact one_wv _ | exact one_bv _ | exact entv_size _ | exact entc_one _ | (simp; done))
  (case ho4 => first | rfl | exact hv_size _ | exact hcs_one _ | exact (aw_size _).trans rfl | exact one_wv _ | exact one_bv _ | exact entv_size _ | exact entc_one _ | decide | (simp; done))
  (case hl4 => first | rfl | exact hv_size _ | exact hcs_one _ | exact (aw_size _).trans rfl | exact one_wv _ | exact one_bv _ | exact entv_size _ | exact entc_one _ | (simp; done))
  refine aOps_1 rfl rfl rfl (AOp.move' (.inr rfl) rfl ?_)
  refine aOps_end ?_
  show ACode _ _ _ _ _ _
  refine ACode.ret ?_
  exact RetQ.cellTmp rfl rfl (aloadAll (b := ebk (es.getD i eD)) (v := entv (es.getD i eD)) (upd_same _ _ _) rfl rfl (entv_size _)) rfl (by (repeat (first | exact sub_refl _ | assumption | refine sub_upd' ?_ (by ((repeat refine (upd_other _ _ (by omega)).trans ?_); first | exact hf _ (by omega))) | refine sub_over (by assumption) | refine sub_over0 ?_ | refine sub_trans (sub_same (by assumption)) ?_ | refine sub_dropu ?_ | refine sub_drop ?_ | refine sub_put ?_ (by repeat (first | assumption | exact upd_same _ _ _ | refine (upd_other _ _ (by omega)).trans ?_))))) stays (fun hk => ⟨rfl, rfl, by omega⟩)

theorem entry_out (n q : Nat) (es : List Ent) (vs : List Value) (hG : LG H n q es vs) (i : Int) (hi1 : -9223372036854775808 ≤ i) (hi2 : i ≤ 9223372036854775807) (hb : ¬ (0 ≤ i ∧ i < (es.length : Int))) : ACalls Tryd.prog 1 19 [.pointer (some ⟨n, 0, none⟩), .int .i64 i] H k (Same H k (.tuple #[entv eD, .bool false])) := by
  refine ACalls.fresh fun hf => ?_
  refine ACalls.body Tryd.func19 rfl (Nat.le_of_ble_eq_true rfl) ?_
  have hlen := hG.len
  have hn := hG.hn
  have hq := hG.hq
  have hnk := old_lt hf hn
  have hqk := old_lt hf hq
  have hm := hG.hm
  refine ACode.seq ?_
  refine ACode.region' [0, 1] (by kernel_rfl) rfl ?_
  refine aOps_1 rfl rfl rfl (AOp.alloc' rfl ?_)
  refine aOps_1 rfl rfl rfl (AOp.move' (.inr rfl) rfl ?_)
  refine aOps_end ?_
  show ACode _ _ _ _ _ _
  refine ACode.seq ?_
  refine ACode.seq ?_
  refine ACode.region' [0, 1, 2, 3, 4, 5, 6, 7] (by kernel_rfl) rfl ?_
  refine aOps_1 rfl rfl rfl (AOp.move' (.inl rfl) rfl ?_)
  refine aOps_1 rfl rfl rfl (AOp.bin' rfl rfl rfl rfl ?_)
  refine aOps_1 rfl rfl rfl (AOp.move' (.inl rfl) rfl ?_)
  refine aOps_gd0 rfl rfl (wantF rfl rfl rfl) (fun hc => AOp.slots [(1, _)] (.cons rfl .nil) (AOp.move' (.inl rfl) rfl ⟨rfl, rfl, rfl⟩)) ?_
  refine aOps_gd0 rfl rfl (wantF rfl rfl rfl) (fun hc => AOp.slots [(0, _)] (.cons rfl .nil) (AOp.move' (.inl rfl) rfl ⟨rfl, rfl, rfl⟩)) ?_
  refine aOps_gd rfl rfl (wantF rfl rfl rfl) (fun hc => AOp.slots [(10, _)] (.cons (gvT rfl hc) .nil) (AOp.call' rfl rfl rfl (size_l _ _ n q es vs (hG.sub (by (repeat (first | exact sub_refl _ | assumption | refine sub_upd' ?_ (by ((repeat refine (upd_other _ _ (by omega)).trans ?_); first | exact hf _ (by omega))) | refine sub_over (by assumption) | refine sub_over0 ?_ | refine sub_trans (sub_same (by assumption)) ?_ | refine sub_dropu ?_ | refine sub_drop ?_ | refine sub_put ?_ (by repeat (first | assumption | exact upd_same _ _ _ | refine (upd_other _ _ (by omega)).trans ?_))))))) (fun _ _ _ h => h))) (fun kq hkq => ?_)
  refine aOps_gd0 rfl rfl (wantF rfl rfl rfl) (fun hc => AOp.slots [(9, _), (11, _)] (.cons (gvT rfl hc) (.cons (gvT rfl hc) .nil)) (AOp.bin' rfl rfl rfl rfl ⟨rfl, rfl, rfl⟩)) ?_
  refine aOps_1 rfl rfl rfl (AOp.pickOr rfl rfl rfl (fun hb => gvE rfl (t_not hb)) ?_)
  refine aOps_end ?_
  show ACode _ _ _ _ _ _
  refine ACode.cond rfl (fun c0 => ?_) (fun c0 => absurd c0 (by simp at c0; omega))
  refine ACode.seq ?_
  refine ACode.region' [0, 1, 2] (by kernel_rfl) rfl ?_
  refine aOps_1 rfl rfl rfl (AOp.buildS (cells := (entc eD).toArray) rfl rfl rfl ?_)
  refine aOps_0 rfl rfl rfl ?_
  refine AOp.storeAll (b := ?b5) rfl rfl rfl ?hn5 ?hk5 rfl ?hw5 ?ho5 ?hl5 ?hR5
  (case hn5 => repeat (first | assumption | exact upd_same _ _ _ | refine (upd_other _ _ (by omega)).trans ?_))
  (case hk5 => rfl)
  (case hw5 => first | rfl | exact hv_size _ | exact hcs_one _ | exact (aw_size _).trans rfl | exact one_wv _ | exact one_bv _ | exact entv_size _ | exact entc_one _ | (simp; done))
  (case ho5 => first | rfl | exact hv_size _ | exact hcs_one _ | exact (aw_size _).trans rfl | exact one_wv _ | exact one_bv _ | exact entv_size _ | exact entc_one _ | decide | (simp; done))
  (case hl5 => first | rfl | exact hv_size _ | exact hcs_one _ | exact (aw_size _).trans rfl | exact one_wv _ | exact one_bv _ | exact entv_size _ | exact entc_one _ | (simp; done))
  refine aOps_1 rfl rfl rfl (AOp.move' (.inr rfl) rfl ?_)
  refine aOps_end ?_
  show ACode _ _ _ _ _ _
  refine ACode.ret ?_
  exact RetQ.cellTmp rfl rfl (aloadAll (b := ebk (eD)) (v := entv eD) (upd_same _ _ _) rfl rfl (entv_size _)) rfl (by (repeat (first | exact sub_refl _ | assumption | refine sub_upd' ?_ (by ((repeat refine (upd_other _ _ (by omega)).trans ?_); first | exact hf _ (by omega))) | refine sub_over (by assumption) | refine sub_over0 ?_ | refine sub_trans (sub_same (by assumption)) ?_ | refine sub_dropu ?_ | refine sub_drop ?_ | refine sub_put ?_ (by repeat (first | assumption | exact upd_same _ _ _ | refine (upd_other _ _ (by omega)).trans ?_))))) stays (fun hk => ⟨rfl, rfl, by omega⟩)

theorem path_l (ht : H 0 = some tabBlk) (n q : Nat) (es : List Ent) (vs : List Value) (hG : LG H n q es vs) (i : Int) (hi1 : -9223372036854775808 ≤ i) (hi2 : i ≤ 9223372036854775807) : ACalls Tryd.prog 1 20 [.pointer (some ⟨n, 0, none⟩), .int .i64 i] H k (NewP H k 31 (pathZ (forms es) i) (inZ es.length i)) := by
  refine ACalls.fresh fun hf => ?_
  refine ACalls.body Tryd.func20 rfl (Nat.le_of_ble_eq_true rfl) ?_
  have h0k := old_lt hf ht
  have hlen := hG.len
  have hn := hG.hn
  have hq := hG.hq
  have hnk := old_lt hf hn
  have hqk := old_lt hf hq
  have hm := hG.hm
  refine ACode.seq ?_
  refine ACode.region' [0, 1] (by kernel_rfl) rfl ?_
  refine aOps_1 rfl rfl rfl (AOp.move' (.inr rfl) rfl ?_)
  refine aOps_1 rfl rfl rfl (AOp.move' (.inr rfl) rfl ?_)
  refine aOps_end ?_
  show ACode _ _ _ _ _ _
  refine ACode.seq ?_
  refine ACode.region' [0, 1, 2, 3, 4, 5, 6, 7] (by kernel_rfl) rfl ?_
  refine aOps_1 rfl rfl rfl (AOp.move' (.inl rfl) rfl ?_)
  refine aOps_1 rfl rfl rfl ?_
  refine AOp.call' rfl rfl rfl (forms_l _ _ n q es vs (hG.sub (by (repeat (first | exact sub_refl _ | assumption | refine sub_upd' ?_ (by ((repeat refine (upd_other _ _ (by omega)).trans ?_); first | exact hf _ (by omega) | exact hfL8 _ (by omega))) | refine sub_trans ?_ hsL8 | refine sub_over (by assumption) | refine sub_over0 ?_ | refine sub_trans (sub_same (by assumption)) ?_ | refine sub_dropu ?_ | refine sub_drop ?_ | refine sub_put ?_ (by repeat (first | assumption | exact upd_same _ _ _ | refine (upd_other _ _ (by omega)).trans ?_ | refine hsL8 _ _ ?_))))))) ?_
  rintro _ H1 k1 ⟨q1, ws, h1a, h1b, rfl, hsL8, hfL8, hq1, hL1⟩
  have hwl := hL1.len
  rw [List.length_map] at hwl
  refine aOps_1 rfl rfl rfl (AOp.move' (.inl rfl) rfl ?_)
  refine aOps_1 rfl rfl rfl ?_
  refine AOp.call' rfl rfl rfl (path_b (ws.length + 1) (forms es) ws (some ⟨q1, 0, some 1⟩) _ i _ _ (by repeat (first | assumption | exact upd_same _ _ _ | refine (upd_other _ _ (by omega)).trans ?_ | refine hsL8 _ _ ?_)) (NewF.slc hq1) hL1 (by omega) (forms_le hG.hg) hi1 hi2 (by omega)) ?_
  rintro _ _ k2 ⟨q2, h2a, h2b, rfl, rfl⟩
  rw [hwl]
  refine aOps_1 rfl rfl rfl (AOp.extract' rfl rfl rfl ?_)
  refine aOps_1 rfl rfl rfl (AOp.extract' rfl rfl rfl ?_)
  refine aOps_1 rfl rfl rfl (AOp.move' (.inr rfl) rfl ?_)
  refine aOps_1 rfl rfl rfl (AOp.move' (.inr rfl) rfl ?_)
  refine aOps_end ?_
  show ACode _ _ _ _ _ _
  refine ACode.ret ?_
  exact RetQ.two (H'' := upd H q2 (some (pbk 31 (pathZ (forms es) i)))) rfl rfl rfl (sub_over0 hsL8) stays_upd (fun hk => ⟨q2, by omega, by omega, rfl, rfl⟩)

theorem root_in (ht : H 0 = some tabBlk) (n q : Nat) (es : List Ent) (vs : List Value) (hG : LG H n q es vs) (i : Nat) (hi : i ≤ es.length) : ACalls Tryd.prog 1 24 [.pointer (some ⟨n, 0, none⟩), .int .i64 (i : Int)] H k (Same H k (.tuple #[hv (root ((forms es).take i)), .bool true])) := by
  refine ACalls.fresh fun hf => ?_
  refine ACalls.body Tryd.func24 rfl (Nat.le_of_ble_eq_true rfl) ?_
  have h0k := old_lt hf ht
  have hlen := hG.len
  have hn := hG.hn
  have hq := hG.hq
  have hnk := old_lt hf hn
  have hqk := old_lt hf hq
  have hm := hG.hm
  refine ACode.seq ?_
  refine ACode.region' [0, 1] (by kernel_rfl) rfl ?_
  refine aOps_1 rfl rfl rfl (AOp.alloc' rfl ?_)
  refine aOps_1 rfl rfl rfl (AOp.move' (.inr rfl) rfl ?_)
  refine aOps_end ?_
  show ACode _ _ _ _ _ _
  refine ACode.seq ?_
  refine ACode.seq ?_
  refine ACode.region' [0, 1, 2, 3, 4, 5, 6, 7, 8, 9, 10, 11, 12, 13, 14] (by kernel_rfl) rfl ?_
  refine aOps_1 rfl rfl rfl (AOp.move' (.inl rfl) rfl ?_)
  refine aOps_1 rfl rfl rfl (AOp.eqNilP rfl rfl rfl ?_)
  refine aOps_1 rfl rfl rfl (AOp.move' (.inl rfl) rfl ?_)
  refine aOps_gd0 rfl rfl (wantF rfl rfl rfl) (fun hc => AOp.slots [(1, _)] (.cons rfl .nil) (AOp.move' (.inl rfl) rfl ⟨rfl, rfl, rfl⟩)) ?_
  refine aOps_gd0 rfl rfl (wantF rfl rfl rfl) (fun hc => AOp.slots [(9, _)] (.cons (gvT rfl hc) .nil) (AOp.bin' rfl rfl rfl rfl ⟨rfl, rfl, rfl⟩)) ?_
  refine aOps_1 rfl rfl rfl (AOp.pickOr rfl rfl rfl (fun hb => gvE rfl (t_not hb)) ?_)
  refine aOps_1 rfl rfl rfl (AOp.move' (.inl rfl) rfl ?_)
  refine aOps_gd0 rfl rfl (wantF rfl rfl rfl) (fun hc => AOp.slots [(1, _)] (.cons rfl .nil) (AOp.move' (.inl rfl) rfl ⟨rfl, rfl, rfl⟩)) ?_
  refine aOps_gd0 rfl rfl (wantF rfl rfl rfl) (fun hc => AOp.slots [(0, _)] (.cons rfl .nil) (AOp.move' (.inl rfl) rfl ⟨rfl, rfl, rfl⟩)) ?_
  refine aOps_gd0 rfl rfl (wantF rfl rfl rfl) (fun hc => AOp.slots [(14, _)] (.cons (gvT rfl hc) .nil) (AOp.nilCheck' rfl rfl ⟨rfl, rfl, rfl⟩)) ?_
  refine aOps_gd0 rfl rfl (wantF rfl rfl rfl) (fun hc => AOp.slots [(15, _)] (.cons (gvT rfl hc) .nil) (AOp.fieldAddr' rfl (by decide) rfl ⟨rfl, rfl, rfl⟩)) ?_
  refine aOps_gd0 rfl rfl (wantF rfl rfl rfl) (fun hc => AOp.slots [(16, _)] (.cons (gvT rfl hc) .nil) ((by refine AOp.load1 (b := ?b6) (v := ?v6) rfl rfl ?hn6 ?hv6 ?hR6; (case hn6 => repeat (first | assumption | exact upd_same _ _ _ | refine (upd_other _ _ (by omega)).trans ?_ | refine hsL8 _ _ ?_)); (case hv6 => rfl); exact ⟨rfl, rfl, rfl⟩))) ?_
  refine aOps_gd0 rfl rfl (wantF rfl rfl rfl) (fun hc => AOp.slots [(17, _)] (.cons (gvT rfl hc) .nil) (AOp.len' rfl rfl ⟨rfl, rfl, rfl⟩)) ?_
  refine aOps_gd0 rfl rfl (wantF rfl rfl rfl) (fun hc => AOp.slots [(13, _), (18, _)] (.cons (gvT rfl hc) (.cons (gvT rfl hc) .nil)) (AOp.bin' rfl rfl rfl rfl ⟨rfl, rfl, rfl⟩)) ?_
  refine aOps_1 rfl rfl rfl (AOp.pickOr rfl rfl rfl (fun hb => gvE rfl (t_not hb)) ?_)
  refine aOps_end ?_
  show ACode _ _ _ _ _ _
  refine ACode.cond rfl (fun c0 => absurd c0 (by simp at c0; omega)) (fun c0 => ?_)
  refine ACode.skip ?_
  show ACode _ _ _ _ _ _
  refine ACode.seq ?_
  refine ACode.region' [0, 1, 2, 3, 4, 5, 6] (by kernel_rfl) rfl ?_
  refine aOps_1 rfl rfl rfl (AOp.move' (.inl rfl) rfl ?_)
  refine aOps_1 rfl rfl rfl ?_
  refine AOp.call' rfl rfl rfl (forms_l _ _ n q es vs (hG.sub (by (repeat (first | exact sub_refl _ | assumption | refine sub_upd' ?_ (by ((repeat refine (upd_other _ _ (by omega)).trans ?_); first | exact hf _ (by omega) | exact hfL8 _ (by omega))) | refine sub_trans ?_ hsL8 | refine sub_over (by assumption) | refine sub_over0 ?_ | refine sub_trans (sub_same (by assumption)) ?_ | refine sub_dropu ?_ | refine sub_drop ?_ | refine sub_put ?_ (by repeat (first | assumption | exact upd_same _ _ _ | refine (upd_other _ _ (by omega)).trans ?_ | refine hsL8 _ _ ?_))))))) ?_
  rintro _ H1 k1 ⟨q1, ws, h1a, h1b, rfl, hsL8, hfL8, hq1, hL1⟩
  have hwl := hL1.len
  rw [List.length_map] at hwl
  have hil : (ws.take i).length = i := by rw [List.length_take]; omega
  obtain ⟨A7, c7, q7, g7⟩ := SLC.cutL (NewF.slc hq1) i none (by omega) (by intro x hx; cases hx)
  refine aOps_1 rfl rfl rfl (AOp.move' (.inl rfl) rfl ?_)
  refine aOps_1 rfl rfl rfl (AOp.cutQ (aslice_sub (by (repeat (first | exact sub_refl _ | assumption | refine sub_upd' ?_ (by ((repeat refine (upd_other _ _ (by omega)).trans ?_); first | exact hf _ (by omega) | exact hfL8 _ (by omega))) | refine sub_trans ?_ hsL8 | refine sub_over (by assumption) | refine sub_over0 ?_ | refine sub_trans (sub_same (by assumption)) ?_ | refine sub_dropu ?_ | refine sub_drop ?_ | refine sub_put ?_ (by repeat (first | assumption | exact upd_same _ _ _ | refine (upd_other _ _ (by omega)).trans ?_ | refine hsL8 _ _ ?_))))) q7) rfl rfl (bnd_no rfl) (bnd_at rfl rfl) mx_no ?_)
  refine aOps_q rfl rfl rfl (AOp.call' rfl rfl rfl (root_b (ws.length + 1) ((forms es).take i) (ws.take i) A7 c7 _ _ (by repeat (first | assumption | exact upd_same _ _ _ | refine (upd_other _ _ (by omega)).trans ?_ | refine hsL8 _ _ ?_)) (g7.sub (by (repeat (first | exact sub_refl _ | assumption | refine sub_upd' ?_ (by ((repeat refine (upd_other _ _ (by omega)).trans ?_); first | exact hf _ (by omega) | exact hfL8 _ (by omega))) | refine sub_trans ?_ hsL8 | refine sub_over (by assumption) | refine sub_over0 ?_ | refine sub_trans (sub_same (by assumption)) ?_ | refine sub_dropu ?_ | refine sub_drop ?_ | refine sub_put ?_ (by repeat (first | assumption | exact upd_same _ _ _ | refine (upd_other _ _ (by omega)).trans ?_ | refine hsL8 _ _ ?_)))))) ((hL1.take i).sub (by (repeat (first | exact sub_refl _ | assumption | refine sub_upd' ?_ (by ((repeat refine (upd_other _ _ (by omega)).trans ?_); first | exact hf _ (by omega) | exact hfL8 _ (by omega))) | refine sub_trans ?_ hsL8 | refine sub_over (by assumption) | refine sub_over0 ?_ | refine sub_trans (sub_same (by assumption)) ?_ | refine sub_dropu ?_ | refine sub_drop ?_ | refine sub_put ?_ (by repeat (first | assumption | exact upd_same _ _ _ | refine (upd_other _ _ (by omega)).trans ?_ | refine hsL8 _ _ ?_)))))) (by omega) (fun x hx => forms_le hG.hg x (List.mem_of_mem_take hx)) (by omega)) (fun _ _ _ h => h)) (fun kq hkq => ?_)
  generalize root ((forms es).take i) = D
  refine aOps_0 rfl rfl rfl ?_
  refine AOp.storeAll (b := ?b7) rfl rfl rfl ?hn7 ?hk7 rfl ?hw7 ?ho7 ?hl7 ?hR7
  (case hn7 => repeat (first | assumption | exact upd_same _ _ _ | refine (upd_other _ _ (by omega)).trans ?_ | refine hsL8 _ _ ?_))
  (case hk7 => rfl)
  (case hw7 => first | rfl | exact hv_size _ | exact hcs_one _ | exact (aw_size _).trans rfl | exact one_wv _ | exact one_bv _ | exact entv_size _ | exact entc_one _ | (simp; done))
  (case ho7 => first | rfl | exact hv_size _ | exact hcs_one _ | exact (aw_size _).trans rfl | exact one_wv _ | exact one_bv _ | exact entv_size _ | exact entc_one _ | decide | (simp; done))
  (case hl7 => first | rfl | exact hv_size _ | exact hcs_one _ | exact (aw_size _).trans rfl | exact one_wv _ | exact one_bv _ | exact entv_size _ | exact entc_one _ | (simp; done))
  refine aOps_1 rfl rfl rfl (AOp.move' (.inr rfl) rfl ?_)
  refine aOps_end ?_
  show ACode _ _ _ _ _ _
  refine ACode.ret ?_
  exact RetQ.cellTmp rfl rfl (aloadAll (b := dblk (D).l) (v := hv D) (upd_same _ _ _) rfl rfl (hv_size _)) rfl (by (repeat (first | exact sub_refl _ | assumption | refine sub_upd' ?_ (by ((repeat refine (upd_other _ _ (by omega)).trans ?_); first | exact hf _ (by omega) | exact hfL8 _ (by omega))) | refine sub_trans ?_ hsL8 | refine sub_over (by assumption) | refine sub_over0 ?_ | refine sub_trans (sub_same (by assumption)) ?_ | refine sub_dropu ?_ | refine sub_drop ?_ | refine sub_put ?_ (by repeat (first | assumption | exact upd_same _ _ _ | refine (upd_other _ _ (by omega)).trans ?_ | refine hsL8 _ _ ?_))))) stays (fun hk => ⟨rfl, rfl, by omega⟩)

theorem root_out (n q : Nat) (es : List Ent) (vs : List Value) (hG : LG H n q es vs) (i : Int) (hi1 : -9223372036854775808 ≤ i) (hi2 : i ≤ 9223372036854775807) (hb : ¬ (0 ≤ i ∧ i ≤ (es.length : Int))) : ACalls Tryd.prog 1 24 [.pointer (some ⟨n, 0, none⟩), .int .i64 i] H k (Same H k (.tuple #[hv zeroD, .bool false])) := by
  refine ACalls.fresh fun hf => ?_
  refine ACalls.body Tryd.func24 rfl (Nat.le_of_ble_eq_true rfl) ?_
  have hlen := hG.len
  have hn := hG.hn
  have hq := hG.hq
  have hnk := old_lt hf hn
  have hqk := old_lt hf hq
  have hm := hG.hm
  refine ACode.seq ?_
  refine ACode.region' [0, 1] (by kernel_rfl) rfl ?_
  refine aOps_1 rfl rfl rfl (AOp.alloc' rfl ?_)
  refine aOps_1 rfl rfl rfl (AOp.move' (.inr rfl) rfl ?_)
  refine aOps_end ?_
  show ACode _ _ _ _ _ _
  refine ACode.seq ?_
  refine ACode.seq ?_
  refine ACode.region' [0, 1, 2, 3, 4, 5, 6, 7, 8, 9, 10, 11, 12, 13, 14] (by kernel_rfl) rfl ?_
  refine aOps_1 rfl rfl rfl (AOp.move' (.inl rfl) rfl ?_)
  refine aOps_1 rfl rfl rfl (AOp.eqNilP rfl rfl rfl ?_)
  refine aOps_1 rfl rfl rfl (AOp.move' (.inl rfl) rfl ?_)
  refine aOps_gd0 rfl rfl (wantF rfl rfl rfl) (fun hc => AOp.slots [(1, _)] (.cons rfl .nil) (AOp.move' (.inl rfl) rfl ⟨rfl, rfl, rfl⟩)) ?_
  refine aOps_gd0 rfl rfl (wantF rfl rfl rfl) (fun hc => AOp.slots [(9, _)] (.cons (gvT rfl hc) .nil) (AOp.bin' rfl rfl rfl rfl ⟨rfl, rfl, rfl⟩)) ?_
  refine aOps_1 rfl rfl rfl (AOp.pickOr rfl rfl rfl (fun hb => gvE rfl (t_not hb)) ?_)
  refine aOps_1 rfl rfl rfl (AOp.move' (.inl rfl) rfl ?_)
  refine aOps_gd0 rfl rfl (wantF rfl rfl rfl) (fun hc => AOp.slots [(1, _)] (.cons rfl .nil) (AOp.move' (.inl rfl) rfl ⟨rfl, rfl, rfl⟩)) ?_
  refine aOps_gd0 rfl rfl (wantF rfl rfl rfl) (fun hc => AOp.slots [(0, _)] (.cons rfl .nil) (AOp.move' (.inl rfl) rfl ⟨rfl, rfl, rfl⟩)) ?_
  refine aOps_gd0 rfl rfl (wantF rfl rfl rfl) (fun hc => AOp.slots [(14, _)] (.cons (gvT rfl hc) .nil) (AOp.nilCheck' rfl rfl ⟨rfl, rfl, rfl⟩)) ?_
  refine aOps_gd0 rfl rfl (wantF rfl rfl rfl) (fun hc => AOp.slots [(15, _)] (.cons (gvT rfl hc) .nil) (AOp.fieldAddr' rfl (by decide) rfl ⟨rfl, rfl, rfl⟩)) ?_
  refine aOps_gd0 rfl rfl (wantF rfl rfl rfl) (fun hc => AOp.slots [(16, _)] (.cons (gvT rfl hc) .nil) ((by refine AOp.load1 (b := ?b8) (v := ?v8) rfl rfl ?hn8 ?hv8 ?hR8; (case hn8 => repeat (first | assumption | exact upd_same _ _ _ | refine (upd_other _ _ (by omega)).trans ?_)); (case hv8 => rfl); exact ⟨rfl, rfl, rfl⟩))) ?_
  refine aOps_gd0 rfl rfl (wantF rfl rfl rfl) (fun hc => AOp.slots [(17, _)] (.cons (gvT rfl hc) .nil) (AOp.len' rfl rfl ⟨rfl, rfl, rfl⟩)) ?_
  refine aOps_gd0 rfl rfl (wantF rfl rfl rfl) (fun hc => AOp.slots [(13, _), (18, _)] (.cons (gvT rfl hc) (.cons (gvT rfl hc) .nil)) (AOp.bin' rfl rfl rfl rfl ⟨rfl, rfl, rfl⟩)) ?_
  refine aOps_1 rfl rfl rfl (AOp.pickOr rfl rfl rfl (fun hb => gvE rfl (t_not hb)) ?_)
  refine aOps_end ?_
  show ACode _ _ _ _ _ _
  refine ACode.cond rfl (fun c0 => ?_) (fun c0 => absurd c0 (by simp at c0; omega))
  refine ACode.seq ?_
  refine ACode.region' [0, 1, 2] (by kernel_rfl) rfl ?_
  refine aOps_1 rfl rfl rfl (AOp.buildA (cells := (zeroD.l.map bv).toArray) rfl rfl rfl ?_)
  refine aOps_0 rfl rfl rfl ?_
  refine AOp.storeAll (b := ?b9) rfl rfl rfl ?hn9 ?hk9 rfl ?hw9 ?ho9 ?hl9 ?hR9
  (case hn9 => repeat (first | assumption | exact upd_same _ _ _ | refine (upd_other _ _ (by omega)).trans ?_))
  (case hk9 => rfl)
  (case hw9 => first | rfl | exact hv_size _ | exact hcs_one _ | exact (aw_size _).trans rfl | exact one_wv _ | exact one_bv _ | exact entv_size _ | exact entc_one _ | (simp; done))
  (case ho9 => first | rfl | exact hv_size _ | exact hcs_one _ | exact (aw_size _).trans rfl | exact one_wv _ | exact one_bv _ | exact entv_size _ | exact entc_one _ | decide | (simp; done))
  (case hl9 => first | rfl | exact hv_size _ | exact hcs_one _ | exact (aw_size _).trans rfl | exact one_wv _ | exact one_bv _ | exact entv_size _ | exact entc_one _ | (simp; done))
  refine aOps_1 rfl rfl rfl (AOp.move' (.inr rfl) rfl ?_)
  refine aOps_end ?_
  show ACode _ _ _ _ _ _
  refine ACode.ret ?_
  exact RetQ.cellTmp rfl rfl (aloadAll (b := dblk (zeroD).l) (v := hv zeroD) (upd_same _ _ _) rfl rfl (hv_size _)) rfl (by (repeat (first | exact sub_refl _ | assumption | refine sub_upd' ?_ (by ((repeat refine (upd_other _ _ (by omega)).trans ?_); first | exact hf _ (by omega))) | refine sub_over (by assumption) | refine sub_over0 ?_ | refine sub_trans (sub_same (by assumption)) ?_ | refine sub_dropu ?_ | refine sub_drop ?_ | refine sub_put ?_ (by repeat (first | assumption | exact upd_same _ _ _ | refine (upd_other _ _ (by omega)).trans ?_))))) stays (fun hk => ⟨rfl, rfl, by omega⟩)

theorem head_l (ht : H 0 = some tabBlk) (n q : Nat) (es : List Ent) (vs : List Value) (hG : LG H n q es vs) : ACalls Tryd.prog 1 29 [.pointer (some ⟨n, 0, none⟩)] H k (Same H k (hv (headD (es.length : Int) (root (forms es))))) := by
  refine ACalls.fresh fun hf => ?_
  refine ACalls.body Tryd.func29 rfl (Nat.le_of_ble_eq_true rfl) ?_
  have h0k := old_lt hf ht
  have hlen := hG.len
  have hn := hG.hn
  have hq := hG.hq
  have hnk := old_lt hf hn
  have hqk := old_lt hf hq
  have hm := hG.hm
  refine ACode.seq ?_
  refine ACode.region' [0] (by kernel_rfl) rfl ?_
  refine aOps_1 rfl rfl rfl (AOp.alloc' rfl ?_)
  refine aOps_end ?_
  show ACode _ _ _ _ _ _
  refine ACode.seq ?_
  refine ACode.seq ?_
  refine ACode.region' [0, 1] (by kernel_rfl) rfl ?_
  refine aOps_1 rfl rfl rfl (AOp.move' (.inl rfl) rfl ?_)
  refine aOps_1 rfl rfl rfl (AOp.eqNilP rfl rfl rfl ?_)
  refine aOps_end ?_
  show ACode _ _ _ _ _ _
  refine ACode.cond rfl (fun c0 => absurd c0 (by simp)) (fun c0 => ?_)
  refine ACode.skip ?_
  show ACode _ _ _ _ _ _
  refine ACode.seq ?_
  refine ACode.region' [0, 1, 2, 3, 4, 5, 6, 7, 8, 9, 10, 11, 12] (by kernel_rfl) rfl ?_
  refine aOps_1 rfl rfl rfl (AOp.move' (.inl rfl) rfl ?_)
  refine aOps_1 rfl rfl rfl (AOp.move' (.inl rfl) rfl ?_)
  refine aOps_1 rfl rfl rfl (AOp.nilCheck' rfl rfl ?_)
  refine aOps_1 rfl rfl rfl (AOp.fieldAddr' rfl (by decide) rfl ?_)
  refine aOps_1 rfl rfl rfl ?_
  refine AOp.load1 (b := ?b10) (v := ?v10) rfl rfl ?hn10 ?hv10 ?hR10
  (case hn10 => repeat (first | assumption | exact upd_same _ _ _ | refine (upd_other _ _ (by omega)).trans ?_))
  (case hv10 => rfl)
  refine aOps_1 rfl rfl rfl (AOp.len' rfl rfl ?_)
  refine aOps_q rfl rfl rfl (AOp.call' rfl rfl rfl (root_in _ _ (by repeat (first | assumption | exact upd_same _ _ _ | refine (upd_other _ _ (by omega)).trans ?_)) n q es vs (hG.sub (by (repeat (first | exact sub_refl _ | assumption | refine sub_upd' ?_ (by ((repeat refine (upd_other _ _ (by omega)).trans ?_); first | exact hf _ (by omega))) | refine sub_over (by assumption) | refine sub_over0 ?_ | refine sub_trans (sub_same (by assumption)) ?_ | refine sub_dropu ?_ | refine sub_drop ?_ | refine sub_put ?_ (by repeat (first | assumption | exact upd_same _ _ _ | refine (upd_other _ _ (by omega)).trans ?_)))))) es.length (Nat.le_refl _)) (fun _ _ _ h => h)) (fun kq hkq => ?_)
  rw [List.take_of_length_le (show (forms es).length ≤ es.length by rw [List.length_map]; exact Nat.le_refl _)]
  refine aOps_1 rfl rfl rfl (AOp.move' (.inl rfl) rfl ?_)
  refine aOps_1 rfl rfl rfl (AOp.extract' rfl rfl rfl ?_)
  refine aOps_1 rfl rfl rfl (AOp.extract' rfl rfl rfl ?_)
  refine aOps_1 rfl rfl rfl (AOp.alloc' rfl ?_)
  refine aOps_0 rfl rfl rfl ?_
  refine AOp.storeAll (b := ?b11) rfl rfl rfl ?hn11 ?hk11 rfl ?hw11 ?ho11 ?hl11 ?hR11
  (case hn11 => repeat (first | assumption | exact upd_same _ _ _ | refine (upd_other _ _ (by omega)).trans ?_))
  (case hk11 => rfl)
  (case hw11 => first | rfl | exact hv_size _ | exact hcs_one _ | exact (aw_size _).trans rfl | exact one_wv _ | exact one_bv _ | exact entv_size _ | exact entc_one _ | (simp; done))
  (case ho11 => first | rfl | exact hv_size _ | exact hcs_one _ | exact (aw_size _).trans rfl | exact one_wv _ | exact one_bv _ | exact entv_size _ | exact entc_one _ | decide | (simp; done))
  (case hl11 => first | rfl | exact hv_size _ | exact hcs_one _ | exact (aw_size _).trans rfl | exact one_wv _ | exact one_bv _ | exact entv_size _ | exact entc_one _ | (simp; done))
  refine aOps_1 rfl rfl rfl (AOp.move' (.inr rfl) rfl ?_)
  refine aOps_end ?_
  show ACode _ _ _ _ _ _
  refine ACode.seq ?_
  refine ACode.draw' 7 [(0, 18), (1, 19), (2, 20), (3, 21), (4, 22), (5, 23), (6, 24)] mixed (by kernel_rfl) ?_
  refine Draw.step [(0, none)] rfl (by kernel_rfl) rfl (fun kq hkq => AOp.move' (.inl rfl) rfl ⟨rfl, rfl, Nat.le_refl _⟩) ?_
  refine Draw.step [(18, some 0)] rfl (by kernel_rfl) rfl (fun kq hkq => AOp.nilCheck' rfl rfl ⟨rfl, rfl, Nat.le_refl _⟩) ?_
  refine Draw.step [(19, some 1)] rfl (by kernel_rfl) rfl (fun kq hkq => AOp.fieldAddr' rfl (by decide) rfl ⟨rfl, rfl, Nat.le_refl _⟩) ?_
  refine Draw.step [(20, some 2)] rfl (by kernel_rfl) rfl (fun kq hkq => (by refine AOp.load1 (b := ?b12) (v := ?v12) rfl rfl ?hn12 ?hv12 ?hR12; (case hn12 => repeat (first | assumption | exact upd_same _ _ _ | refine (upd_other _ _ (by omega)).trans ?_)); (case hv12 => rfl); exact ⟨rfl, rfl, Nat.le_refl _⟩)) ?_
  refine Draw.step [(21, some 3)] rfl (by kernel_rfl) rfl (fun kq hkq => AOp.len' rfl rfl ⟨rfl, rfl, Nat.le_refl _⟩) ?_
  refine Draw.step [(3, none)] rfl (by kernel_rfl) rfl (fun kq hkq => (by refine AOp.loadAll (b := ?b13) (v := hv (root (forms es))) rfl rfl ?hn13 ?hv13 ?hw13 ?hz13 ?hR13; (case hn13 => repeat (first | assumption | exact upd_same _ _ _ | refine (upd_other _ _ (by omega)).trans ?_)); (case hv13 => rfl); (case hw13 => rfl); (case hz13 => first | rfl | exact hv_size _ | exact hcs_one _ | exact (aw_size _).trans rfl | exact one_wv _ | exact one_bv _ | exact entv_size _ | exact entc_one _ | (simp; done)); exact ⟨rfl, rfl, Nat.le_refl _⟩)) ?_
  refine Draw.step [(22, some 4), (23, some 5)] rfl (by kernel_rfl) rfl (fun kq hkq => AOp.call' rfl rfl rfl (headof_b _ _ (by repeat (first | assumption | exact upd_same _ _ _ | refine (upd_other _ _ (by omega)).trans ?_)) (es.length : Int) (root (forms es))) (fun _ _ _ h => h)) ?_
  refine Draw.done fun kq hkq => ?_
  show aOps _ _ _ _ [7] ⟨_, _, _⟩
  refine aOps_0 rfl rfl rfl ?_
  refine AOp.storeAll (b := ?b14) rfl rfl rfl ?hn14 ?hk14 rfl ?hw14 ?ho14 ?hl14 ?hR14
  (case hn14 => repeat (first | assumption | exact upd_same _ _ _ | refine (upd_other _ _ (by omega)).trans ?_))
  (case hk14 => rfl)
  (case hw14 => first | rfl | exact hv_size _ | exact hcs_one _ | exact (aw_size _).trans rfl | exact one_wv _ | exact one_bv _ | exact entv_size _ | exact entc_one _ | (simp; done))
  (case ho14 => first | rfl | exact hv_size _ | exact hcs_one _ | exact (aw_size _).trans rfl | exact one_wv _ | exact one_bv _ | exact entv_size _ | exact entc_one _ | decide | (simp; done))
  (case hl14 => first | rfl | exact hv_size _ | exact hcs_one _ | exact (aw_size _).trans rfl | exact one_wv _ | exact one_bv _ | exact entv_size _ | exact entc_one _ | (simp; done))
  generalize headD (es.length : Int) (root (forms es)) = D
  refine aOps_end ?_
  show ACode _ _ _ _ _ _
  refine ACode.ret ?_
  exact RetQ.cell rfl rfl (aloadAll (b := dblk D.l) (v := hv D) (upd_same _ _ _) rfl rfl (hv_size _)) (by (repeat (first | exact sub_refl _ | assumption | refine sub_upd' ?_ (by ((repeat refine (upd_other _ _ (by omega)).trans ?_); first | exact hf _ (by omega))) | refine sub_over (by assumption) | refine sub_over0 ?_ | refine sub_trans (sub_same (by assumption)) ?_ | refine sub_dropu ?_ | refine sub_drop ?_ | refine sub_put ?_ (by repeat (first | assumption | exact upd_same _ _ _ | refine (upd_other _ _ (by omega)).trans ?_))))) stays (fun hk => ⟨rfl, rfl, by omega⟩)

theorem proof_l (ht : H 0 = some tabBlk) (n q : Nat) (es : List Ent) (vs : List Value) (hG : LG H n q es vs) (i : Int) (hi1 : -9223372036854775808 ≤ i) (hi2 : i ≤ 9223372036854775807) : ACalls Tryd.prog 1 25 [.pointer (some ⟨n, 0, none⟩), .int .i64 i] H k (NewP H k 31 (proofZ (forms es) i) (mayZ i (es.length : Int))) := by
  refine ACalls.fresh fun hf => ?_
  refine ACalls.body Tryd.func25 rfl (Nat.le_of_ble_eq_true rfl) ?_
  have h0k := old_lt hf ht
  have hlen := hG.len
  have hn := hG.hn
  have hq := hG.hq
  have hnk := old_lt hf hn
  have hqk := old_lt hf hq
  have hm := hG.hm
  refine ACode.seq ?_
  refine ACode.region' [0, 1] (by kernel_rfl) rfl ?_
  refine aOps_1 rfl rfl rfl (AOp.move' (.inr rfl) rfl ?_)
  refine aOps_1 rfl rfl rfl (AOp.move' (.inr rfl) rfl ?_)
  refine aOps_end ?_
  show ACode _ _ _ _ _ _
  refine ACode.seq ?_
  refine ACode.seq ?_
  refine ACode.region' [0, 1] (by kernel_rfl) rfl ?_
  refine aOps_1 rfl rfl rfl (AOp.move' (.inl rfl) rfl ?_)
  refine aOps_1 rfl rfl rfl (AOp.eqNilP rfl rfl rfl ?_)
  refine aOps_end ?_
  show ACode _ _ _ _ _ _
  refine ACode.cond rfl (fun c0 => absurd c0 (by simp)) (fun c0 => ?_)
  refine ACode.skip ?_
  show ACode _ _ _ _ _ _
  refine ACode.seq ?_
  refine ACode.region' [0, 1, 2, 3, 4, 5, 6, 7] (by kernel_rfl) rfl ?_
  refine aOps_1 rfl rfl rfl (AOp.move' (.inl rfl) rfl ?_)
  refine aOps_1 rfl rfl rfl ?_
  refine AOp.call' rfl rfl rfl (forms_l _ _ n q es vs (hG.sub (by (repeat (first | exact sub_refl _ | assumption | refine sub_upd' ?_ (by ((repeat refine (upd_other _ _ (by omega)).trans ?_); first | exact hf _ (by omega) | exact hfL8 _ (by omega))) | refine sub_trans ?_ hsL8 | refine sub_over (by assumption) | refine sub_over0 ?_ | refine sub_trans (sub_same (by assumption)) ?_ | refine sub_dropu ?_ | refine sub_drop ?_ | refine sub_put ?_ (by repeat (first | assumption | exact upd_same _ _ _ | refine (upd_other _ _ (by omega)).trans ?_ | refine hsL8 _ _ ?_))))))) ?_
  rintro _ H1 k1 ⟨q1, ws, h1a, h1b, rfl, hsL8, hfL8, hq1, hL1⟩
  have hwl := hL1.len
  rw [List.length_map] at hwl
  refine aOps_1 rfl rfl rfl (AOp.move' (.inl rfl) rfl ?_)
  refine aOps_1 rfl rfl rfl ?_
  refine AOp.call' rfl rfl rfl (proofF_b _ _ (by repeat (first | assumption | exact upd_same _ _ _ | refine (upd_other _ _ (by omega)).trans ?_ | refine hsL8 _ _ ?_)) (forms es) ws (some ⟨q1, 0, some 1⟩) _ (NewF.slc hq1) hL1 (by omega) (forms_le hG.hg) i hi1 hi2) ?_
  rintro _ _ k2 ⟨q2, h2a, h2b, rfl, rfl⟩
  rw [hwl]
  refine aOps_1 rfl rfl rfl (AOp.extract' rfl rfl rfl ?_)
  refine aOps_1 rfl rfl rfl (AOp.extract' rfl rfl rfl ?_)
  refine aOps_1 rfl rfl rfl (AOp.move' (.inr rfl) rfl ?_)
  refine aOps_1 rfl rfl rfl (AOp.move' (.inr rfl) rfl ?_)
  refine aOps_end ?_
  show ACode _ _ _ _ _ _
  refine ACode.ret ?_
  exact RetQ.two (H'' := upd H q2 (some (pbk 31 (proofZ (forms es) i)))) rfl rfl rfl (sub_over0 hsL8) stays_upd (fun hk => ⟨q2, by omega, by omega, rfl, rfl⟩)
end

end Go.Proofs.YtipaiielkpifoaaDoor
