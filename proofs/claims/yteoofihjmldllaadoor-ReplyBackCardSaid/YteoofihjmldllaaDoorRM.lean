/- Contracts over the abstract states: digests out of readers. -/
import Derived.Test.YteoofihjmldllaaDoorRH
import Derived.Test.YteoofihjmldllaaDoorR5
import Derived.Test.YteoofihjmldllaaDoorRE
set_option linter.unusedVariables false
set_option linter.unusedSimpArgs false
set_option maxRecDepth 100000
namespace Go.Proofs.YteoofihjmldllaaDoor
open Go Go.Ab

theorem one_bv (l : List UInt8) : (l.map bv).toArray.toList.all (·.oneCell') = true := by simp [bv, Value.oneCell']
section
variable (H : Hp) (k : Nat)

theorem nhash_r (n c : Nat) (A : Option Addr) (ev : Value) (r : Rd) (hR : RdN H n A c ev r) : ACalls Tryd.prog 3 79 [ptr n 0 none] H k (fun v H' k' => v = hv r.hash.1 ∧ RdP H k n A c r.hash.2 H' k') := by
 refine ACalls.fresh fun hf => ?_
 refine ACalls.body Tryd.func79 rfl (Nat.le_of_ble_eq_true rfl) ?_
 have hn := hR.hn
 have hnk := old_lt hf hn
 have hok := hR.ok
 have hal := hok.at_le
 have hle := hok.len
 have hAk : Away A r.bs.length k := Away.of hR.hs (hf k (Nat.le_refl k))
 refine Sz ?_
 refine Rz [0] Kz rfl ?_
 refine Oz rfl rfl rfl (AOp.alloc' rfl ?_)
 refine Ez ?_
 refine Sz ?_
 refine ACode.any mixed Kz ?_
 refine AnyA.float (Hq := (fun _ => none)) [(0, 3), (1, 4)] [2, 3] Kz (Nat.le_of_ble_eq_true rfl) Kz (sub_none _) ?_
 refine DrawF.q 0 3 [(2, none)] rfl Kz rfl (fun Hc kq hSb => AOp.sliceP rfl rfl Tz) ?_
 refine DrawF.q 1 4 [(0, none)] rfl Kz rfl (fun Hc kq hSb => AOp.move' (.inl rfl) rfl Tz) ?_
 refine DrawF.done ?_
 show aOpsF _ _ _ _ _ _ [2, 3] ⟨_, _, _⟩
 refine aOpsF_1 [4] rfl rfl Kz rfl ?_
 refine AOp.call' rfl rfl rfl (ntake _ _ n c A ev r (hR.sub subA) 32 Dz) ?_
 rintro _ HL3 k3 ⟨⟨Aq, cq, rfl, hq3, hqa⟩, hP3⟩
 have hk3 := hP3.1
 have hsL3 := hP3.2.2.1
 have hfL3 := hP3.2.1
 have thsL3 := SubS.of hsL3
 have hkL3 : HL3 k = some ({ cells := List.replicate 32 (.int .u8 0), elem := 65, kind := .fix } : Blk) := hsL3 _ _ (Uz (upd_same _ _ _))
 refine ⟨sub_none _, ?_⟩
 refine aOpsF_1 [3, 5] rfl rfl Kz rfl (AOp.copyD (b := ({ cells := List.replicate 32 (.int .u8 0), elem := 65, kind := .fix } : Blk)) (news := (r.take 32).1.map bv) (cs' := r.hash.1.l.map bv) rfl rfl hkL3 rfl (by show 0 + 32 ≤ 32; decide) rfl hq3.cells (bv_one _) ((copy32 0 (a := []) (r := []) rfl rfl (r.take_all 32)).trans (List.append_nil _)) ?_)
 refine ⟨sub_none _, ?_⟩
 refine aOpsF_end ?_
 refine Sz ?_
 refine Rz [0, 1] Kz rfl ?_
 refine Oz rfl rfl rfl ?_
 refine AOp.loadAll (b := ?b1) (v := hv r.hash.1) rfl rfl ?hn1 ?hv1 ?hw1 ?hz1 ?hR1
 (case hn1 => exact hpA)
 (case hv1 => rfl)
 (case hw1 => rfl)
 (case hz1 => first | rfl | exact hv_size _ | exact one_bv _ | (simp; done))
 refine aOps_0 rfl rfl rfl ?_
 refine AOp.storeAll (b := ?b2) rfl rfl rfl ?hn2 ?hk2 rfl ?hw2 ?ho2 ?hl2 ?hR2
 (case hn2 => exact hpA)
 (case hk2 => rfl)
 (case hw2 => first | rfl | exact hv_size _ | exact one_bv _ | (simp; done))
 (case ho2 => first | rfl | exact hv_size _ | exact one_bv _ | decide | (simp; done))
 (case hl2 => first | rfl | exact hv_size _ | exact one_bv _ | (simp; done))
 refine Ez ?_
 refine ACode.ret ?_
 try simp only [thenA, blockA, if_true]
 have hPo : ∀ HF : Hp, (∀ m, m ∉ [k] → HF m = HL3 m) → RdP H k n A c r.hash.2 HF k3 := fun HF h => RdP.own (HF := HF) (r := r) [k] hP3 (sub_upd' (sub_refl H) (hf k (Nat.le_refl k))) Wz (Rd.take_bs r 32) (fun q hq => by rw [List.mem_singleton.1 hq]; exact ⟨hf k (Nat.le_refl k), by omega, hAk, by omega, _, hkL3, by show (65 : Nat) ≠ 101; decide⟩) h
 have hmk : ∀ m, m ∉ [k] → m ≠ k := fun m hm e => hm (by rw [e]; exact List.mem_singleton_self _)
 refine RetQ.cell rfl rfl (aloadAll (b := dblk r.hash.1.l) (v := hv r.hash.1) (upd_same _ _ _) rfl rfl (hv_size _)) (sub_refl _) (RdP.stays (hPo _ (fun m hm => by (repeat refine (upd_other _ _ (hmk m hm)).trans ?_); rfl))) (fun hk => ⟨rfl, (hPo _ (fun m hm => by (repeat refine (upd_other _ _ (hmk m hm)).trans ?_); rfl)).at_ (Nat.le_refl _) Wz⟩)

theorem nhash_g (n c : Nat) (A : Option Addr) (ev : Value) (r : Rd) (hR : RdN H n A c ev r) : ACalls Tryd.prog 3 114 [ptr n 0 none] H k (fun v H' k' => v = hv r.hash.1 ∧ RdP H k n A c r.hash.2 H' k') := by
 refine ACalls.fresh fun hf => ?_
 refine ACalls.body Tryd.func114 rfl (Nat.le_of_ble_eq_true rfl) ?_
 have hn := hR.hn
 have hnk := old_lt hf hn
 have hok := hR.ok
 have hal := hok.at_le
 have hle := hok.len
 have hAk : Away A r.bs.length k := Away.of hR.hs (hf k (Nat.le_refl k))
 refine Sz ?_
 refine Rz [0] Kz rfl ?_
 refine Oz rfl rfl rfl (AOp.alloc' rfl ?_)
 refine Ez ?_
 refine Sz ?_
 refine ACode.any mixed Kz ?_
 refine AnyA.float (Hq := (fun _ => none)) [(0, 3), (1, 4)] [2, 3] Kz (Nat.le_of_ble_eq_true rfl) Kz (sub_none _) ?_
 refine DrawF.q 0 3 [(2, none)] rfl Kz rfl (fun Hc kq hSb => AOp.sliceP rfl rfl Tz) ?_
 refine DrawF.q 1 4 [(0, none)] rfl Kz rfl (fun Hc kq hSb => AOp.move' (.inl rfl) rfl Tz) ?_
 refine DrawF.done ?_
 show aOpsF _ _ _ _ _ _ [2, 3] ⟨_, _, _⟩
 refine aOpsF_1 [4] rfl rfl Kz rfl ?_
 refine AOp.call' rfl rfl rfl (ntake _ _ n c A ev r (hR.sub subA) 32 Dz) ?_
 rintro _ HL3 k3 ⟨⟨Aq, cq, rfl, hq3, hqa⟩, hP3⟩
 have hk3 := hP3.1
 have hsL3 := hP3.2.2.1
 have hfL3 := hP3.2.1
 have thsL3 := SubS.of hsL3
 have hkL3 : HL3 k = some ({ cells := List.replicate 32 (.int .u8 0), elem := 65, kind := .fix } : Blk) := hsL3 _ _ (Uz (upd_same _ _ _))
 refine ⟨sub_none _, ?_⟩
 refine aOpsF_1 [3, 5] rfl rfl Kz rfl (AOp.copyD (b := ({ cells := List.replicate 32 (.int .u8 0), elem := 65, kind := .fix } : Blk)) (news := (r.take 32).1.map bv) (cs' := r.hash.1.l.map bv) rfl rfl hkL3 rfl (by show 0 + 32 ≤ 32; decide) rfl hq3.cells (bv_one _) ((copy32 0 (a := []) (r := []) rfl rfl (r.take_all 32)).trans (List.append_nil _)) ?_)
 refine ⟨sub_none _, ?_⟩
 refine aOpsF_end ?_
 refine Sz ?_
 refine Rz [0, 1] Kz rfl ?_
 refine Oz rfl rfl rfl ?_
 refine AOp.loadAll (b := ?b3) (v := hv r.hash.1) rfl rfl ?hn3 ?hv3 ?hw3 ?hz3 ?hR3
 (case hn3 => exact hpA)
 (case hv3 => rfl)
 (case hw3 => rfl)
 (case hz3 => first | rfl | exact hv_size _ | exact one_bv _ | (simp; done))
 refine aOps_0 rfl rfl rfl ?_
 refine AOp.storeAll (b := ?b4) rfl rfl rfl ?hn4 ?hk4 rfl ?hw4 ?ho4 ?hl4 ?hR4
 (case hn4 => exact hpA)
 (case hk4 => rfl)
 (case hw4 => first | rfl | exact hv_size _ | exact one_bv _ | (simp; done))
 (case ho4 => first | rfl | exact hv_size _ | exact one_bv _ | decide | (simp; done))
 (case hl4 => first | rfl | exact hv_size _ | exact one_bv _ | (simp; done))
 refine Ez ?_
 refine ACode.ret ?_
 try simp only [thenA, blockA, if_true]
 have hPo : ∀ HF : Hp, (∀ m, m ∉ [k] → HF m = HL3 m) → RdP H k n A c r.hash.2 HF k3 := fun HF h => RdP.own (HF := HF) (r := r) [k] hP3 (sub_upd' (sub_refl H) (hf k (Nat.le_refl k))) Wz (Rd.take_bs r 32) (fun q hq => by rw [List.mem_singleton.1 hq]; exact ⟨hf k (Nat.le_refl k), by omega, hAk, by omega, _, hkL3, by show (65 : Nat) ≠ 101; decide⟩) h
 have hmk : ∀ m, m ∉ [k] → m ≠ k := fun m hm e => hm (by rw [e]; exact List.mem_singleton_self _)
 refine RetQ.cell rfl rfl (aloadAll (b := dblk r.hash.1.l) (v := hv r.hash.1) (upd_same _ _ _) rfl rfl (hv_size _)) (sub_refl _) (RdP.stays (hPo _ (fun m hm => by (repeat refine (upd_other _ _ (hmk m hm)).trans ?_); rfl))) (fun hk => ⟨rfl, (hPo _ (fun m hm => by (repeat refine (upd_other _ _ (hmk m hm)).trans ?_); rfl)).at_ (Nat.le_refl _) Wz⟩)
end

end Go.Proofs.YteoofihjmldllaaDoor

/- Two ways that meet: a rule over the abstract states. No condition. -/
set_option linter.unusedVariables false
namespace Go.Ab
/-- What is so on both ways is all that the rest is told. -/
theorem ACode.meet {P : Program} {NG N : Nat} {Q : Exit → St → Prop} {fr : Fr} {H : Hp} {nk : Nat} {γ : Type} {x y : Code} (lv : γ → List (Nat × Value)) (lc : List (Nat × Value)) (h0 : Has fr lc) (X : γ → Hp → Nat → Prop)
  (h : ACode P NG N x (thenA (fun s' => ∃ g, Has s'.fr (lv g ++ lc) ∧ X g s'.H s'.k) Q) ⟨fr, H, nk⟩)
  (h2 : ∀ g H' k', (∀ m, k' ≤ m → H' m = none) → X g H' k' → ACode P NG N y Q ⟨frL (lv g ++ lc), H', k'⟩) : ACode P NG N (.seq x y) Q ⟨fr, H, nk⟩ := by
 refine Sz (h.mono ?_)
 intro e s' hq
 cases e with
 | normal =>
  obtain ⟨fr, H', k'⟩ := s'
  obtain ⟨g, h3, h4⟩ := hq
  exact ACode.has h3 (ACode.fresh fun hf => h2 g H' k' hf h4)
 | _ => exact hq
end Go.Ab
