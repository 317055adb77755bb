/- Contracts over the abstract states: the example of predicates; the statement that one of several is the one or the other. -/
import Derived.Test.YteoofihjmldllaaDoorP5
set_option linter.unusedVariables false
set_option linter.unusedSimpArgs false
set_option maxRecDepth 100000
namespace Go.Proofs.YteoofihjmldllaaDoor
open Go Go.Ab

theorem PdV.intro {H : Hp} {op col : Int} {vals : List Val} {of : List Pd} {A : Option Addr} {c : Nat} {B : Option Addr} {d : Nat} {bs : List Value} (hA : slcCells H 3 (.slice A vals.length c) = some (vals3 vals)) (h1 : vals.length ≤ 9223372036854775807) (h2 : of.length ≤ 9223372036854775807) (h3 : -9223372036854775808 ≤ op ∧ op ≤ 9223372036854775807) (h4 : -9223372036854775808 ≤ col ∧ col ≤ 9223372036854775807) (h5 : ∀ v ∈ vals, v.ok) (hB : SLC H 4 B of.length d bs) (hP : PdVs H of bs) :
    PdV H (.mk op col vals of) (pv op col A vals.length c B of.length d) := by
  rw [PdV]
  exact ⟨A, c, B, d, bs, rfl, hA, h1, h2, h3, h4, h5, hB, hP⟩
theorem PdVs.nil {H : Hp} : PdVs H [] [] := by rw [PdVs]
abbrev v5 : Val := ⟨1, 5, ⟨#[]⟩⟩
abbrev v4 : Val := ⟨1, 4, ⟨#[]⟩⟩
abbrev pA : Pd := .mk 3 0 [v5] []
theorem awkP1 : evalP pA [vD] = 1 := by decide +kernel
theorem awkP2 : evalP pA [v4] = 2 := by decide +kernel
theorem awkP3 : checkP [] pA 0 = 8 := by decide +kernel
/-! ### One of several -/
section
variable (H : Hp) (k : Nat)

theorem awake16 (ht : H 0 = some shBlk) : ACalls Tryd.prog 3 8 [] H k (Same H k (.bool true)) := by
  refine ACalls.fresh fun hf => ?_
  refine ACalls.body Tryd.func8 rfl (Nat.le_of_ble_eq_true rfl) ?_
  have h0k := old_lt hf ht
  refine ACode.seq ?_
  refine ACode.region' [0] (by kernel_rfl) rfl ?_
  refine aOps_1 rfl rfl rfl (AOp.move' (.inr rfl) rfl ?_)
  refine aOps_end ?_
  show ACode _ _ _ _ _ _
  refine ACode.seq ?_
  refine ACode.region' [0, 1, 2, 3, 4] (by kernel_rfl) rfl ?_
  refine aOps_1 rfl rfl rfl (AOp.buildS (cells := #[.int .i64 1, .int .i64 5, .string ⟨#[]⟩]) rfl rfl rfl ?_)
  refine aOps_1 rfl rfl rfl (AOp.buildH (vals3 [v5]) rfl rfl (by show 0 < 3; decide) (by show 3 ≤ 16777216; decide) rfl rfl ?_)
  refine aOps_1 rfl rfl rfl (AOp.buildS (cells := #[.int .i64 3, .int .i64 0, .slice (some ⟨k, 0, some 1⟩) 1 1, .slice none 0 0]) rfl rfl rfl ?_)
  refine aOps_1 rfl rfl rfl (AOp.alloc' rfl ?_)
  refine aOps_0 rfl rfl rfl ?_
  refine AOp.storeAll (b := ?b1) rfl rfl rfl ?hn1 ?hk1 rfl ?hw1 ?ho1 ?hl1 ?hR1
  (case hn1 => exact hpA)
  (case hk1 => rfl)
  (case hw1 => first | rfl | (simp; done))
  (case ho1 => first | rfl | decide | (simp; done))
  (case hl1 => first | rfl | (simp; done))
  refine aOps_end ?_
  show ACode _ _ _ _ _ _
  refine ACode.seq ?_
  refine ACode.region' [0, 1, 2, 3, 4, 5, 6, 7, 8, 9, 10, 11, 12, 13, 14, 15, 16, 17] (by kernel_rfl) rfl ?_
  refine aOps_1 rfl rfl rfl ?_
  refine AOp.loadAll (b := ?b2) (v := pv 3 0 (some ⟨k, 0, some 1⟩) 1 1 none 0 0) rfl rfl ?hn2 ?hv2 ?hw2 ?hz2 ?hR2
  (case hn2 => exact hpA)
  (case hv2 => rfl)
  (case hw2 => rfl)
  (case hz2 => first | rfl | (simp; done))
  refine aOps_1 rfl rfl rfl (AOp.buildS (cells := #[.int .i64 0, .int .i64 0, .string ⟨#[]⟩]) rfl rfl rfl ?_)
  refine aOps_1 rfl rfl rfl (AOp.buildH (vals3 [vD]) rfl rfl (by show 0 < 3; decide) (by show 3 ≤ 16777216; decide) rfl rfl ?_)
  refine aOps_q rfl rfl rfl (AOp.call' rfl rfl rfl (eval_c (SizeOf.sizeOf pA + 1) pA _ [vD] (some ⟨k + 1 + 1, 0, some 1⟩) 1 _ _ hpA (PdV.intro (vals := [v5]) (of := []) (slcCells_grow (n := k) (b := { cells := vals3 [v5], elem := 59, kind := .grow, esz := 3 }) hpA rfl rfl) (by decide) (by decide) (by decide) (by decide) (by intro v hv; rw [List.mem_singleton.1 hv]; exact ⟨rfl, rfl, by decide⟩) SLC.nil PdVs.nil) (slcCells_grow (n := k + 1 + 1) (b := { cells := vals3 [vD], elem := 59, kind := .grow, esz := 3 }) hpA rfl rfl) (by decide) (Nat.lt_succ_self _)) (fun _ _ _ h => h)) (fun kx hkx => ?_)
  rw [awkP1]
  refine aOps_1 rfl rfl rfl (AOp.bin' rfl rfl rfl rfl ?_)
  refine aOps_1 rfl rfl rfl (AOp.move' (.inl rfl) rfl ?_)
  refine aOps_w rfl rfl rfl ?_
  refine AOp.loadAll (b := ?b3) (v := pv 3 0 (some ⟨k, 0, some 1⟩) 1 1 none 0 0) rfl rfl ?hn3 ?hv3 ?hw3 ?hz3 ?hR3
  (case hn3 => exact hpA)
  (case hv3 => rfl)
  (case hw3 => rfl)
  (case hz3 => first | rfl | (simp; done))
  refine aOps_w rfl rfl rfl (AOp.buildS (cells := #[.int .i64 1, .int .i64 4, .string ⟨#[]⟩]) rfl rfl rfl ?_)
  refine aOps_w rfl rfl rfl (AOp.buildH (vals3 [v4]) rfl rfl (by show 0 < 3; decide) (by show 3 ≤ 16777216; decide) rfl rfl ?_)
  refine aOps_wq rfl rfl rfl (AOp.call' rfl rfl rfl (eval_c (SizeOf.sizeOf pA + 1) pA _ [v4] (some ⟨kx, 0, some 1⟩) 1 _ _ hpA (PdV.intro (vals := [v5]) (of := []) (slcCells_grow (n := k) (b := { cells := vals3 [v5], elem := 59, kind := .grow, esz := 3 }) hpA rfl rfl) (by decide) (by decide) (by decide) (by decide) (by intro v hv; rw [List.mem_singleton.1 hv]; exact ⟨rfl, rfl, by decide⟩) SLC.nil PdVs.nil) (slcCells_grow (n := kx) (b := { cells := vals3 [v4], elem := 59, kind := .grow, esz := 3 }) hpA rfl rfl) (by decide) (Nat.lt_succ_self _)) (fun _ _ _ h => h)) (fun kq hkq => ?_)
  rw [awkP2]
  refine aOps_w rfl rfl rfl (AOp.bin' rfl rfl rfl rfl ?_)
  refine aOps_1 rfl rfl rfl (AOp.pickB rfl rfl rfl ?_)
  refine aOps_1 rfl rfl rfl (AOp.move' (.inl rfl) rfl ?_)
  refine aOps_w rfl rfl rfl ?_
  refine AOp.loadAll (b := ?b4) (v := pv 3 0 (some ⟨k, 0, some 1⟩) 1 1 none 0 0) rfl rfl ?hn4 ?hv4 ?hw4 ?hz4 ?hR4
  (case hn4 => exact hpA)
  (case hv4 => rfl)
  (case hw4 => rfl)
  (case hz4 => first | rfl | (simp; done))
  refine aOps_wq rfl rfl rfl (AOp.call' rfl rfl rfl (Check_b _ _ hpA pA _ (PdV.intro (vals := [v5]) (of := []) (slcCells_grow (n := k) (b := { cells := vals3 [v5], elem := 59, kind := .grow, esz := 3 }) hpA rfl rfl) (by decide) (by decide) (by decide) (by decide) (by intro v hv; rw [List.mem_singleton.1 hv]; exact ⟨rfl, rfl, by decide⟩) SLC.nil PdVs.nil) [] none 0 rfl (by decide)) (fun _ _ _ h => h)) (fun kq hkq => ?_)
  rw [awkP3]
  refine aOps_w rfl rfl rfl (AOp.bin' rfl rfl rfl rfl ?_)
  refine aOps_1 rfl rfl rfl (AOp.pickB rfl rfl rfl ?_)
  refine aOps_1 rfl rfl rfl (AOp.move' (.inr rfl) rfl ?_)
  refine aOps_end ?_
  show ACode _ _ _ _ _ _
  refine ACode.ret ?_
  exact RetQ.one rfl rfl subA stays (fun hk => ⟨rfl, rfl, by omega⟩)
end

end Go.Proofs.YteoofihjmldllaaDoor
