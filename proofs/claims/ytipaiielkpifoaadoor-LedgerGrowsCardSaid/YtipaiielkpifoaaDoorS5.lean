/- Contracts over the abstract states: the digest of a tag and parts; a digest's text; the document's words, filling, table. -/
import Derived.Test.YtipaiielkpifoaaDoorS4
set_option linter.unusedVariables false
set_option linter.unusedSimpArgs false
set_option maxRecDepth 100000
namespace Go.Proofs.YtipaiielkpifoaaDoor
open Go Go.Ab

section
variable (H : Hp) (k : Nat)
theorem tagged_b (ht : H 0 = some tabBlk) (tag : UInt8) (ls : List (List UInt8)) (vs : List Value) (A : Option Addr) (c : Nat) (hs : SLC H 1 A vs.length c vs) (hL : Lvs H vs ls) (hl : vs.length ≤ 1099511627776) (hb : ls.flatten.length ≤ 549755813000) : ACalls Tryd.prog 1 72 [bv tag, .slice A vs.length c] H k (Same H k (hv (shaD (tag :: ls.flatten)))) := by
  refine ACalls.fresh fun hf => ?_
  refine ACalls.body Tryd.func72 rfl (Nat.le_of_ble_eq_true rfl) ?_
  have h0k := old_lt hf ht
  refine ACode.seq ?_
  refine ACode.region' [0] (by kernel_rfl) rfl ?_
  refine aOps_1 rfl rfl rfl (AOp.alloc' rfl ?_)
  refine aOps_end ?_
  show ACode _ _ _ _ _ _
  refine ACode.seq ?_
  refine ACode.region' [0, 1, 2, 3, 4, 5, 6, 7] (by kernel_rfl) rfl ?_
  refine aOps_1 rfl rfl rfl (AOp.move' (.inl rfl) rfl ?_)
  refine aOps_1 rfl rfl rfl (AOp.buildB [_] rfl (by decide) rfl rfl ?_)
  refine aOps_1 rfl rfl rfl (AOp.move' (.inl rfl) rfl ?_)
  refine aOps_1 rfl rfl rfl ?_
  refine AOp.call' rfl rfl rfl (concat_b 1 _ _ ls vs A c (hs.sub (by (repeat (first | exact sub_refl _ | assumption | refine sub_upd' ?_ (by ((repeat refine (upd_other _ _ (by omega)).trans ?_); first | exact hf _ (by omega))) | refine sub_over (by assumption) | refine sub_over0 ?_ | refine sub_trans (sub_same (by assumption)) ?_ | refine sub_dropu ?_ | refine sub_drop ?_ | refine sub_put ?_ (by repeat (first | assumption | exact upd_same _ _ _ | refine (upd_other _ _ (by omega)).trans ?_)))))) (hL.sub (by (repeat (first | exact sub_refl _ | assumption | refine sub_upd' ?_ (by ((repeat refine (upd_other _ _ (by omega)).trans ?_); first | exact hf _ (by omega))) | refine sub_over (by assumption) | refine sub_over0 ?_ | refine sub_trans (sub_same (by assumption)) ?_ | refine sub_dropu ?_ | refine sub_drop ?_ | refine sub_put ?_ (by repeat (first | assumption | exact upd_same _ _ _ | refine (upd_other _ _ (by omega)).trans ?_)))))) hl (by omega)) ?_
  rintro _ _ kq ⟨q, hq1, hq2, rfl, rfl⟩
  refine aOps_1 rfl rfl rfl (AOp.buildG1 (vals := [_, _]) rfl (by decide) rfl rfl (by intro u hu; simp at hu; first | (rcases hu with rfl | rfl | rfl <;> rfl) | (rcases hu with rfl | rfl <;> rfl) | (subst hu; rfl) | (rcases hu with rfl | rfl | rfl | rfl <;> rfl)) ?_)
  have hb2 : [[tag], ls.flatten].flatten.length ≤ 1099511627776 := by rw [show [[tag], ls.flatten].flatten = tag :: ls.flatten by simp, List.length_cons]; omega
  refine aOps_1 rfl rfl rfl ?_
  refine AOp.call' rfl rfl rfl (concat_b 1 _ _ [[tag], ls.flatten] [gsl (k + 1) [tag].length, gsl q ls.flatten.length] (some ⟨kq, 0, some 1⟩) 2 (SLC.grow (n := kq) (l := 2) (b := { cells := [gsl (k + 1) [tag].length, gsl q ls.flatten.length], elem := 25, kind := .grow }) (by repeat (first | assumption | exact upd_same _ _ _ | refine (upd_other _ _ (by omega)).trans ?_)) rfl rfl) (Lvs.cons (SLC.gb (n := k + 1) (e := 5) (bs := [tag]) (by repeat (first | assumption | exact upd_same _ _ _ | refine (upd_other _ _ (by omega)).trans ?_))) (Lvs.cons (SLC.gb (n := q) (e := 5) (bs := ls.flatten) (by repeat (first | assumption | exact upd_same _ _ _ | refine (upd_other _ _ (by omega)).trans ?_))) Lvs.nil)) (by simp) hb2) ?_
  rintro _ _ kq2 ⟨q2, hq3, hq4, rfl, rfl⟩
  rw [show [[tag], ls.flatten].flatten = tag :: ls.flatten by simp]
  refine aOps_q rfl rfl rfl (AOp.call' rfl rfl rfl (sum_b _ _ (by repeat (first | assumption | exact upd_same _ _ _ | refine (upd_other _ _ (by omega)).trans ?_)) (tag :: ls.flatten) (some ⟨q2, 0, some 1⟩) _ (SLC.gb (e := 5) (by repeat (first | assumption | exact upd_same _ _ _ | refine (upd_other _ _ (by omega)).trans ?_))) (by rw [List.length_cons]; omega)) (fun _ _ _ h => h)) (fun kq3 hkq3 => ?_)
  generalize shaD (tag :: ls.flatten) = D
  refine aOps_0 rfl rfl rfl ?_
  refine AOp.storeAll (b := ?b1) rfl rfl rfl ?hn1 ?hk1 rfl ?hw1 ?ho1 ?hl1 ?hR1
  (case hn1 => repeat (first | assumption | exact upd_same _ _ _ | refine (upd_other _ _ (by omega)).trans ?_))
  (case hk1 => rfl)
  (case hw1 => first | rfl | exact hv_size _ | exact (aw_size _).trans rfl | exact one_wv _ | exact one_bv _ | (simp; done))
  (case ho1 => first | rfl | exact hv_size _ | exact (aw_size _).trans rfl | exact one_wv _ | exact one_bv _ | decide | (simp; done))
  (case hl1 => first | rfl | exact hv_size _ | exact (aw_size _).trans rfl | exact one_wv _ | exact one_bv _ | (simp; done))
  refine aOps_end ?_
  show ACode _ _ _ _ _ _
  refine ACode.ret ?_
  exact RetQ.cell rfl rfl (aloadAll (b := dblk D.l) (v := hv D) (upd_same _ _ _) rfl rfl (hv_size _)) (by (repeat (first | exact sub_refl _ | assumption | refine sub_upd' ?_ (by ((repeat refine (upd_other _ _ (by omega)).trans ?_); first | exact hf _ (by omega))) | refine sub_over (by assumption) | refine sub_over0 ?_ | refine sub_trans (sub_same (by assumption)) ?_ | refine sub_dropu ?_ | refine sub_drop ?_ | refine sub_put ?_ (by repeat (first | assumption | exact upd_same _ _ _ | refine (upd_other _ _ (by omega)).trans ?_))))) stays (fun hk => ⟨rfl, rfl, by omega⟩)

end

end Go.Proofs.YtipaiielkpifoaaDoor
