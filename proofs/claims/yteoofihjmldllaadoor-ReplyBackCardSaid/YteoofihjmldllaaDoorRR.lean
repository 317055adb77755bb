/- Contracts over the abstract states: headers out of the reference's readers. -/
import Derived.Test.YteoofihjmldllaaDoorR41
import Derived.Test.YteoofihjmldllaaDoorR27
import Derived.Test.YteoofihjmldllaaDoorR36
set_option linter.unusedVariables false
set_option linter.unusedSimpArgs false
set_option maxRecDepth 100000
namespace Go.Proofs.YteoofihjmldllaaDoor
open Go Go.Ab

section
variable (H : Hp) (k : Nat)


end

end Go.Proofs.YteoofihjmldllaaDoor

/- Contracts over the abstract states: the closures of reply.Take. -/
set_option linter.unusedVariables false
set_option linter.unusedSimpArgs false
set_option maxRecDepth 100000
namespace Go.Proofs.YteoofihjmldllaaDoor
open Go Go.Ab

/-- The reader's variable, and that of the closure good. -/
abbrev cRd (n : Nat) : Blk := { cells := [ptr n 0 none], elem := 24, kind := .fix }
abbrev cGd (q1 : Nat) : Blk := { cells := [.func (.func 76) #[] #[ptr q1 0 none]], elem := 23, kind := .fix }
section
variable (H : Hp) (k : Nat)

theorem tgood (h2 : H 1 = some hBlk) (n c : Nat) (A : Option Addr) (ev : Value) (r : Rd) (hR : RdN H n A c ev r) (q1 : Nat) (hq1 : H q1 = some (cRd n)) : ACalls Tryd.prog 3 76 [ptr q1 0 none] H k (Same H k (.bool (decide (r.e = 0)))) := by
 refine ACalls.fresh fun hf => ?_
 refine ACalls.body Tryd.func76 rfl (Nat.le_of_ble_eq_true rfl) ?_
 have h2k_ := old_lt hf h2
 refine Sz ?_
 refine Rz [0] Kz rfl ?_
 refine Nz ?_
 refine Ez (Sz (Rz [0, 1, 2, 3, 4, 5, 6] Kz rfl ?_))
 refine Oz rfl rfl rfl ?_
 refine AOp.load1 (b := ?b1) (v := ?v1) rfl rfl ?hn1 ?hv1 ?hR1
 (case hn1 => exact hpA)
 (case hv1 => rfl)
 refine aOps_q rfl rfl rfl (AOp.call' rfl rfl rfl (nerr _ _ hpA n c A ev r (hR.sub subA)) Iz) (fun kq hkq => ?_)
 refine Mz ?_
 refine Oz rfl rfl rfl (AOp.extract' rfl rfl rfl ?_)
 refine Oz rfl rfl rfl (AOp.extract' rfl rfl rfl ?_)
 refine Nz ?_
 refine Nz ?_
 refine Ez (Sz (Rz [0, 1, 2] Kz rfl ?_))
 refine Mz ?_
 refine Oz rfl rfl rfl (AOp.bin' rfl rfl rfl rfl ?_)
 refine Nz ?_
 refine Ez ?_
 refine ACode.ret ?_
 exact RetQ.one rfl rfl subA stays (fun hk => ⟨rfl, rfl, by omega⟩)

theorem tcount (h2 : H 1 = some hBlk) (n c : Nat) (A : Option Addr) (ev : Value) (r : Rd) (hR : RdN H n A c ev r) (q1 : Nat) (hq1 : H q1 = some (cRd n)) (hqn : q1 ≠ n) (q2 : Nat) (hq2 : H q2 = some (cGd q1)) (hqm : q2 ≠ n) (m : Nat) (hm : m < 4611686018427387904) : ACalls Tryd.prog 3 77 [u64 m, ptr q1 0 none, ptr q2 0 none] H k (fun v H' k' => v = .int .i64 ((r.count m).1 : Nat) ∧ RdP H k n A c (r.count m).2 H' k') := by
 refine ACalls.fresh fun hf => ?_
 refine ACalls.body Tryd.func77 rfl (Nat.le_of_ble_eq_true rfl) ?_
 have hn := hR.hn
 have hnk := old_lt hf hn
 have hok := hR.ok
 have hal := hok.at_le
 have hle := hok.len
 have h2k_ := old_lt hf h2
 refine Sz ?_
 refine Rz [0] Kz rfl ?_
 refine Nz ?_
 refine Ez (Sz (Rz [0, 1, 2] Kz rfl ?_))
 refine Oz rfl rfl rfl ?_
 refine AOp.load1 (b := ?b2) (v := ?v2) rfl rfl ?hn2 ?hv2 ?hR2
 (case hn2 => exact hpA)
 (case hv2 => rfl)
 refine Oz rfl rfl rfl ?_
 refine AOp.call' rfl rfl rfl (nvar _ _ n c A ev r (hR.sub subA)) ?_
 rintro _ HLv kv ⟨rfl, hPv⟩
 have hkv := hPv.1
 have hfLv := hPv.2.1
 have hsLv := hPv.2.2.1
 have hPvb := hPv
 obtain ⟨evv, hRv⟩ := hPvb.2.2.2
 have hnv := hRv.hn
 have thsLv := SubS.of hsLv
 have hq1v : HLv q1 = some (cRd n) := hsLv _ _ ((upd_other _ _ hqn).trans hq1)
 have hq2v : HLv q2 = some (cGd q1) := hsLv _ _ ((upd_other _ _ hqm).trans hq2)
 have h2v : HLv 1 = some hBlk := hsLv _ _ ((upd_other _ _ (hR.ne2 h2)).trans h2)
 refine Nz ?_
 refine Ez ?_
 refine Sz ?_
 refine Sz ?_
 refine Rz [0, 1, 2] Kz rfl ?_
 refine Mz ?_
 refine Mz ?_
 refine Oz rfl rfl rfl (AOp.bin' rfl rfl rfl rfl ?_)
 refine Ez ?_
 refine ACode.cond rfl (fun c0 => ?_) (fun c0 => ?_)
 ·try simp only [Cz] at c0
  refine Rz [0, 1] Kz rfl ?_
  refine Oz rfl rfl rfl ?_
  refine AOp.load1 (b := ?b3) (v := ?v3) rfl rfl ?hn3 ?hv3 ?hR3
  (case hn3 => exact hpA)
  (case hv3 => rfl)
  refine Oz rfl rfl rfl ?_
  refine AOp.call' rfl rfl rfl (nfail _ _ n c A evv r.var.2 (hRv.sub subA) 12 Dz Dz) ?_
  rintro _ HLf kf ⟨rfl, hPf⟩
  have hkf := hPf.1
  have hfLf := hPf.2.1
  have hsLf := hPf.2.2.1
  have hPfb := hPf
  obtain ⟨evf, hRf⟩ := hPfb.2.2.2
  have hnf := hRf.hn
  have thsLf := SubS.of hsLf
  have hq1f : HLf q1 = some (cRd n) := hsLf _ _ ((upd_other _ _ hqn).trans hq1v)
  have hq2f : HLf q2 = some (cGd q1) := hsLf _ _ ((upd_other _ _ hqm).trans hq2v)
  have h2f : HLf 1 = some hBlk := hsLf _ _ ((upd_other _ _ (hRv.ne2 h2v)).trans h2v)
  refine Ez ?_
  refine Sz ?_
  refine Sz ?_
  refine Rz [0, 1, 2] Kz rfl ?_
  refine Oz rfl rfl rfl ?_
  refine AOp.load1 (b := ?b4) (v := ?v4) rfl rfl ?hn4 ?hv4 ?hR4
  (case hn4 => exact hpA)
  (case hv4 => rfl)
  refine aOps_q rfl rfl rfl (AOp.call' rfl rfl rfl (tgood _ _ hpA n c A evf (r.var.2.fail 12) (hRf.sub subA) q1 hpA) Iz) (fun kq hkq => ?_)
  refine Oz rfl rfl rfl (AOp.un' rfl rfl rfl ?_)
  refine Ez ?_
  refine ACode.cond rfl (fun c1 => ?_) (fun c1 => absurd c1 (by simpa using Rd.fail_ne r.var.2 (show (12 : Int) ≠ 0 by decide)))
  refine Sz ?_
  refine Rz [0] Kz rfl ?_
  refine Nz ?_
  refine Ez ?_
  refine ACode.ret ?_
  try simp only [thenA, blockA, if_true]
  have e1 : r.count m = (0, r.var.2.fail 12) := by rw [Rd.count, Rd.countR_t Wz, if_pos (Rd.fail_ne _ Dz)]
  rw [e1]
  exact RetQ.one rfl rfl (sub_refl _) (RdP.stays (hPv.trans (hPf.at_ Wz (Nat.le_refl _)))) (fun hk => ⟨rfl, (hPv.trans (hPf.at_ Wz (Nat.le_refl _))).at_ Wz Wz⟩)
 ·try simp only [Cz] at c0
  refine ACode.skip ?_
  refine Sz ?_
  refine Sz ?_
  refine Rz [0, 1, 2] Kz rfl ?_
  refine Oz rfl rfl rfl ?_
  refine AOp.load1 (b := ?b5) (v := ?v5) rfl rfl ?hn5 ?hv5 ?hR5
  (case hn5 => exact hpA)
  (case hv5 => rfl)
  refine aOps_q rfl rfl rfl (AOp.call' rfl rfl rfl (tgood _ _ hpA n c A evv r.var.2 (hRv.sub subA) q1 hpA) Iz) (fun kq hkq => ?_)
  refine Oz rfl rfl rfl (AOp.un' rfl rfl rfl ?_)
  refine Ez ?_
  refine ACode.cond rfl (fun c1 => ?_) (fun c1 => ?_)
  ·try simp only [Cz] at c1
   refine Sz ?_
   refine Rz [0] Kz rfl ?_
   refine Nz ?_
   refine Ez ?_
   refine ACode.ret ?_
   try simp only [thenA, blockA, if_true]
   have e1 : r.count m = (0, r.var.2) := by rw [Rd.count, Rd.countR_f Wz, if_pos (by simpa using c1)]
   rw [e1]
   exact RetQ.one rfl rfl (sub_refl _) (RdP.stays hPv) (fun hk => ⟨rfl, hPv.at_ Wz Wz⟩)
  ·try simp only [Cz] at c1
   refine ACode.skip ?_
   refine Sz ?_
   refine Rz [0, 1, 2] Kz rfl ?_
   refine Mz ?_
   refine Oz rfl rfl rfl (AOp.convInt rfl rfl ?_)
   refine Nz ?_
   refine Ez ?_
   refine ACode.ret ?_
   try simp only [thenA, blockA, if_true]
   have e1 : r.count m = (r.var.1, r.var.2) := by rw [Rd.count, Rd.countR_f Wz, if_neg (by simpa using c1)]
   rw [e1]
   exact RetQ.one rfl rfl (sub_refl _) (RdP.stays hPv) (fun hk => ⟨congrArg (Value.int .i64) (i64_wrap Wz Wz), hPv.at_ Wz Wz⟩)
end

end Go.Proofs.YteoofihjmldllaaDoor

/- Replies out of readers: plain Lean. No condition. -/
set_option linter.unusedVariables false
set_option linter.unusedSimpArgs false
set_option maxRecDepth 100000
namespace Go.Proofs.YteoofihjmldllaaDoor
open Go Go.Ab
def phStep (p : List Dg × Rd) : List Dg × Rd := (p.1 ++ [p.2.hash.1], p.2.hash.2)
def ckStep (p : List (List UInt8) × Rd) : List (List UInt8) × Rd := (p.1 ++ [(p.2.blob 16777216).1], (p.2.blob 16777216).2)
/-- A shipped block's mark. -/
def Rd.opn (r : Rd) : Rd := if r.fix1.1 > 1 then r.fix1.2.fail 4 else r.fix1.2
def shA (cols : List Col) (r : Rd) : Hd × Rd := r.opn.head cols
def shB (cols : List Col) (r : Rd) : List UInt8 × Rd := (shA cols r).2.blob 65536
def shC (cols : List Col) (r : Rd) : Nat × Rd := (shB cols r).2.count 64
def shD (cols : List Col) (r : Rd) : List (List UInt8) × Rd := itR ckStep ([], (shC cols r).2) (shC cols r).1
def Rd.ship (cols : List Col) (r : Rd) : Sp × Rd :=
 if r.fix1.1 = 1 then (⟨(shA cols r).1, true, (shB cols r).1, (shD cols r).1⟩, (shD cols r).2)
 else (⟨(shA cols r).1, false, [], []⟩, (shA cols r).2)
def spStep (cols : List Col) (p : List Sp × Rd) : List Sp × Rd := (p.1 ++ [(p.2.ship cols).1], (p.2.ship cols).2)
def rp1 (r : Rd) : Nat × Rd := r.count 1099511627776
def rp2 (r : Rd) : Dg × Rd := (rp1 r).2.hash
def rp3 (r : Rd) : List Col × Rd := takeSch (rp2 r).2
def rp4 (r : Rd) : Ent × Rd := (rp3 r).2.ent
def rp5 (r : Rd) : Nat × Rd := (rp4 r).2.count 64
def rp6 (r : Rd) : List Dg × Rd := itR phStep ([], (rp5 r).2) (rp5 r).1
def rp7 (r : Rd) : Nat × Rd := (rp6 r).2.count 1048576
def rp8 (r : Rd) : List Sp × Rd := runR (spStep (rp3 r).1) (rp7 r).1 ([], (rp7 r).2)
def rpOf (r : Rd) : Rp := ⟨((rp1 r).1 : Int), (rp2 r).1, (rp4 r).1, (rp6 r).1, (rp3 r).1, (rp8 r).1⟩
def rpD : Rp := ⟨0, zeroD, zeroE, [], [], []⟩
def rd0 (bs : List UInt8) : Rd := ⟨bs, 0, 0, 0⟩
def takeRp (bs : List UInt8) : Rp × Int × Int := if (rp8 (rd0 bs)).2.end_.1 ≠ 0 then (rpD, (rp8 (rd0 bs)).2.end_) else (rpOf (rd0 bs), 0, 0)
/-! ### What is always so -/
theorem Rd.count_ok {r : Rd} (h : r.ok) (m : Nat) : (r.count m).2.ok := by
 show (r.countR m).ok
 unfold Rd.countR
 split
 ·exact Rd.fail_ok (Rd.var_ok h).1 Dz Dz
 ·exact (Rd.var_ok h).1
theorem Rd.count_bs (r : Rd) (m : Nat) : (r.count m).2.bs = r.bs := Rd.countR_bs r m
theorem Rd.count_le (r : Rd) (m : Nat) : (r.count m).1 ≤ m := by
 unfold Rd.count
 simp only
 split
 ·exact Nat.zero_le _
 ·rename_i h
  rcases Nat.lt_or_ge m r.var.1 with hc | hc
  ·rw [Rd.countR_t hc] at h
   exact absurd (Rd.fail_ne _ Dz) h
  ·exact hc
theorem itR_len {α : Type} {f : List α × Rd → List α × Rd} (hf : ∀ p, (f p).1.length = p.1.length + 1) (p : List α × Rd) : ∀ (n : Nat), (itR f p n).1.length = p.1.length + n
 | 0 => rfl
 | n + 1 => by
  show (f (itR f p n)).1.length = _
  rw [hf, itR_len hf p n]
  rfl
theorem itR_bs {α : Type} {f : α × Rd → α × Rd} (hf : ∀ p, (f p).2.bs = p.2.bs) (p : α × Rd) : ∀ (n : Nat), (itR f p n).2.bs = p.2.bs
 | 0 => rfl
 | n + 1 => (hf _).trans (itR_bs hf p n)
theorem snoc_len {α : Type} (l : List α) (x : α) : (l ++ [x]).length = l.length + 1 := List.length_append
theorem phStep_bs (p : List Dg × Rd) : (phStep p).2.bs = p.2.bs := Rd.hash_bs _
theorem wf_nat {n : Nat} (h : n ≤ 1048576) : (Lit.int .i64 (n : Int)).wf = true := wf_i64 Wz Wz
theorem Rd.ent_ok {r : Rd} (h : r.ok) : r.ent.2.ok ∧ (Lit.int .i64 r.ent.1.g).wf = true := by
 have h1 := Rd.var_ok (Rd.hash_ok h)
 have h2 := Rd.hash_ok h1.1
 refine ⟨?_, ?_⟩
 ·show r.entR.ok
  unfold Rd.entR
  split
  ·exact Rd.fail_ok h2 Dz Dz
  ·exact h2
 ·show (Lit.int .i64 (ite _ _ _ : Ent).g).wf = true
  split
  ·exact wf_i64 Dz Dz
  ·rename_i h3
   have h4 := Rd.ent_le (Classical.not_not.1 h3)
   exact wf_nat h4
theorem Rd.ent_bs (r : Rd) : r.ent.2.bs = r.bs := r.entR_bs
theorem ph_it_ok (n : Nat) (r : Rd) (hr : r.ok) : (itR phStep ([], r) n).2.ok ∧ (itR phStep ([], r) n).1.length = n ∧ (itR phStep ([], r) n).2.bs = r.bs := by
 have h2 := itR_len (f := phStep) (fun p => snoc_len _ _) ([], r) n
 refine ⟨itR_ok (f := phStep) (P := fun p => p.2.ok) (fun p hp => Rd.hash_ok hp) _ hr _, ?_, itR_bs phStep_bs _ _⟩
 rw [show ([] : List Dg).length + n = n from Nat.zero_add n] at h2
 exact h2
theorem rp2_all {r : Rd} (h : r.ok) : (rp2 r).2.ok ∧ (rp2 r).2.bs = r.bs := ⟨Rd.hash_ok (Rd.count_ok h _), (Rd.hash_bs _).trans (Rd.count_bs _ _)⟩
theorem rp3_all {r : Rd} (h : r.ok) : (rp3 r).2.ok ∧ (∀ a ∈ (rp3 r).1, a.ok) ∧ (rp3 r).2.bs = r.bs ∧ (rp3 r).1.length ≤ 255 := by
 have h2 := rp2_all h
 have h3 := takeSch_ok h2.1
 exact ⟨h3.1, h3.2.1, h3.2.2.trans h2.2, takeSch_le h2.1⟩
theorem rp4_all {r : Rd} (h : r.ok) : (rp4 r).2.ok ∧ (Lit.int .i64 (rp4 r).1.g).wf = true ∧ (rp4 r).2.bs = r.bs := by
 have h3 := rp3_all h
 have h4 := Rd.ent_ok h3.1
 exact ⟨h4.1, h4.2, (Rd.ent_bs _).trans h3.2.2.1⟩
theorem rp5_all {r : Rd} (h : r.ok) : (rp5 r).2.ok ∧ (rp5 r).1 ≤ 64 ∧ (rp5 r).2.bs = r.bs := by
 have h4 := rp4_all h
 exact ⟨Rd.count_ok h4.1 _, Rd.count_le _ _, (Rd.count_bs _ _).trans h4.2.2⟩
theorem rp6_all {r : Rd} (h : r.ok) : (rp6 r).2.ok ∧ (rp6 r).1.length ≤ 64 ∧ (rp6 r).2.bs = r.bs := by
 have h5 := rp5_all h
 have h6 := ph_it_ok (rp5 r).1 (rp5 r).2 h5.1
 exact ⟨h6.1, Nat.le_trans (Nat.le_of_eq h6.2.1) h5.2.1, h6.2.2.trans h5.2.2⟩
theorem rp7_all {r : Rd} (h : r.ok) : (rp7 r).2.ok ∧ (rp7 r).1 ≤ 1048576 ∧ (rp7 r).2.bs = r.bs := by
 have h6 := rp6_all h
 exact ⟨Rd.count_ok h6.1 _, Rd.count_le _ _, (Rd.count_bs _ _).trans h6.2.2⟩
end Go.Proofs.YteoofihjmldllaaDoor
