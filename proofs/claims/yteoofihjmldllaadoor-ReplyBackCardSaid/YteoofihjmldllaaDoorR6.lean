/- Contracts over the abstract states: schemas out of readers. -/
import Derived.Test.YteoofihjmldllaaDoorRK
set_option linter.unusedVariables false
set_option linter.unusedSimpArgs false
set_option maxRecDepth 100000
namespace Go.Proofs.YteoofihjmldllaaDoor
open Go Go.Ab

theorem Rd.fail_err {r : Rd} (h : r.e ≠ 0) (e : Int) : r.fail e = r := if_neg (fun x => h x.1)
theorem eqI {x y : Nat} : (((x : Nat) : Int) == ((y : Nat) : Int)) = decide (x = y) := by rw [Bool.eq_iff_iff]; simp; omega
theorem schRun_end {r : Rd} {i : Nat} (h : schRun r = runR sStep (r.fix1.1 - i) (itR sStep ([], r.fix1.2) i)) (hi : i = r.fix1.1 ∨ (itR sStep ([], r.fix1.2) i).2.e ≠ 0) : schRun r = itR sStep ([], r.fix1.2) i := by
 rcases hi with hi | hi
 ·rw [h, hi, Nat.sub_self]; rfl
 ·rw [h, runR_err hi]
theorem takeSch_err {r : Rd} {s : List Col × Rd} (h : schRun r = s) (he : s.2.e ≠ 0) : takeSch r = ([], s.2) := by
 rw [takeSch, h, Rd.fail_err he, if_pos he]
section
variable (H : Hp) (k : Nat)

theorem ntakeS (h2 : H 1 = some hBlk) (n c : Nat) (A : Option Addr) (ev : Value) (r : Rd) (hR : RdN H n A c ev r) : ACalls Tryd.prog 3 44 [ptr n 0 none] H k (fun v H' k' => NewC H' k k' (takeSch r).1 v ∧ RdP H k n A c (takeSch r).2 H' k') := by
 refine ACalls.fresh fun hf => ?_
 refine ACalls.body Tryd.func44 rfl (Nat.le_of_ble_eq_true rfl) ?_
 have hn := hR.hn
 have hnk := old_lt hf hn
 have hok := hR.ok
 have hal := hok.at_le
 have hle := hok.len
 have h2n := hR.ne2 h2
 have h2k := old_lt hf h2
 have hfx := Rd.fix1_ok hok
 refine Sz ?_
 refine Rz [0] Kz rfl ?_
 refine Nz ?_
 refine Ez (Sz (Rz [0, 1, 2, 3] Kz rfl ?_))
 refine Mz ?_
 refine Oz rfl rfl rfl ?_
 refine AOp.call' rfl rfl rfl (nfix1 _ _ n c A ev r (hR.sub subA)) ?_
 rintro _ HL1 k1 ⟨rfl, hP1⟩
 have hk1 := hP1.1
 have hfL1 := hP1.2.1
 have hsL1 := hP1.2.2.1
 have hP1b := hP1
 obtain ⟨ev1, hR1⟩ := hP1b.2.2.2
 have hn1 := hR1.hn
 have thsL1 := SubS.of hsL1
 have hk1k : k < k1 ∨ k ≤ k1 := by omega
 have hAq : Away A r.bs.length k1 := by have h := Away.of hR1.hs (hfL1 k1 (Nat.le_refl _)); rw [Rd.fix1_bs] at h; exact h
 refine Oz rfl rfl rfl (AOp.convInt rfl rfl ?_)
 rw [show IntKind.i64.wrap ((r.fix1.1 : Nat) : Int) = ((r.fix1.1 : Nat) : Int) from i64_wrap Wz Wz]
 refine Nz ?_
 refine Ez (Sz (Rz [0] Kz rfl ?_))
 refine Nz ?_
 refine Ez ?_
 refine Sz ?_
 refine Sz ?_
 refine ACode.adopt (t := 4) 121 3 Dz rfl ?_
 refine Rz [0, 1] Kz rfl ?_
 refine Mz ?_
 refine Mz ?_
 refine Ez ?_
 refine ACode.block ?_
 refine ACode.countG (γ := Hp) (fun i g => [(4, .slice (some ⟨k1, 0, some 1⟩) (itR sStep ([], r.fix1.2) (i)).1.length (itR sStep ([], r.fix1.2) (i)).1.length), (12, .int .i64 (i : Int))]) [(0, _), (11, _)] (fun i g => g) (r.fix1.1) (fun i g => g k1 = some (cblk (itR sStep ([], r.fix1.2) (i)).1) ∧ Ab.Sub (upd H n none) g ∧ (∃ ev, RdN g n A c ev (itR sStep ([], r.fix1.2) (i)).2) ∧ schRun r = runR sStep (r.fix1.1 - i) (itR sStep ([], r.fix1.2) (i)) ∧ (i < r.fix1.1 → (itR sStep ([], r.fix1.2) (i)).2.e = 0)) ((upd HL1 k1 (some (cblk [])))) (.cons rfl (.cons rfl .nil)) (.cons rfl (.cons rfl .nil)) (by exact sub_refl _) ⟨upd_same _ _ _, sub_new (sub_cutn (sub_drop (sub_refl _)) hsL1) (none_n (hf k1 Wz)), ⟨ev1, hR1.sub (sub_upd' (sub_refl _) (hfL1 k1 (Nat.le_refl _)))⟩, rfl, fun h => Decidable.byContradiction fun he => by have := Rd.fix1_err he; omega⟩ (fun i0 g0 kL0 HL0 hiL0 hkL0 hsL0 hfL0 hxL0 => ?_)
 show ACode _ _ _ _ _ ⟨_, _, _⟩
 have tsL0 := SubS.of hsL0
 obtain ⟨hx1, hx2, ⟨ev0, hx3⟩, hx4, hx5⟩ := hxL0
 have hq0 : HL0 k1 = some (cblk (itR sStep ([], r.fix1.2) (i0)).1) := hsL0 _ _ hx1
 have hR0 := hx3.sub hsL0
 have hn0 := hR0.hn
 have hS0 := sub_trans hx2 hsL0
 have hfL00 := hfL0
 have h20 : HL0 1 = some hBlk := hS0 _ _ ((upd_other _ _ h2n).trans h2)
 have hil := itS_len ([], r.fix1.2) i0
 simp only [List.length_nil, Nat.zero_add] at hil
 have ha1 := Rd.fix1_ok hR0.ok
 have ha2 := Rd.fix1_ok ha1.1
 have ha3 := Rd.fix1_ok ha2.1
 refine Sz ?_
 refine Rz [0] Kz rfl ?_
 refine Oz rfl rfl rfl (AOp.bin' rfl rfl rfl rfl ?_)
 refine Ez ?_
 refine Sz ?_
 refine ACode.cond rfl (fun c0 => ?_) (fun c0 => ?_)
 ·try simp only [Cz] at c0
  have hin : i0 < r.fix1.1 := by omega
  refine ACode.skip ?_
  refine Sz ?_
  refine ACode.block ?_
  refine Sz ?_
  refine Rz [0, 1, 2, 3, 4, 5, 6, 7, 8] Kz rfl ?_
  refine Mz ?_
  refine Oz rfl rfl rfl ?_
  refine AOp.call' rfl rfl rfl (nfix1 _ _ n c A ev0 (itR sStep ([], r.fix1.2) (i0)).2 (hR0.sub subA)) ?_
  rintro _ HLa ka ⟨rfl, hPa⟩
  have hka := hPa.1
  have hfLa := hPa.2.1
  have hsLa := hPa.2.2.1
  have hPab := hPa
  obtain ⟨eva, hRa⟩ := hPab.2.2.2
  have hna := hRa.hn
  have thsLa := SubS.of hsLa
  have hqa : HLa k1 = some (cblk (itR sStep ([], r.fix1.2) (i0)).1) := hsLa _ _ (Uz hq0)
  have h2a : HLa 1 = some hBlk := hsLa _ _ ((upd_other _ _ h2n).trans h20)
  have hSa := sub_cutn hS0 hsLa
  refine Mz ?_
  refine Oz rfl rfl rfl ?_
  refine AOp.call' rfl rfl rfl (nfix1 _ _ n c A eva (itR sStep ([], r.fix1.2) (i0)).2.fix1.2 hRa) ?_
  rintro _ HLb kb ⟨rfl, hPb⟩
  have hkb := hPb.1
  have hfLb := hPb.2.1
  have hsLb := hPb.2.2.1
  have hPbb := hPb
  obtain ⟨evb, hRb⟩ := hPbb.2.2.2
  have hnb := hRb.hn
  have thsLb := SubS.of hsLb
  have hqb : HLb k1 = some (cblk (itR sStep ([], r.fix1.2) (i0)).1) := hsLb _ _ (Uz hqa)
  have h2b : HLb 1 = some hBlk := hsLb _ _ ((upd_other _ _ h2n).trans h2a)
  have hSb := sub_cutn hSa hsLb
  refine Mz ?_
  refine Oz rfl rfl rfl ?_
  refine AOp.call' rfl rfl rfl (nfix1 _ _ n c A evb (itR sStep ([], r.fix1.2) (i0)).2.fix1.2.fix1.2 hRb) ?_
  rintro _ HLc kc ⟨rfl, hPc⟩
  have hkc := hPc.1
  have hfLc := hPc.2.1
  have hsLc := hPc.2.2.1
  have hPcb := hPc
  obtain ⟨evc, hRc⟩ := hPcb.2.2.2
  have hnc := hRc.hn
  have thsLc := SubS.of hsLc
  have hqc : HLc k1 = some (cblk (itR sStep ([], r.fix1.2) (i0)).1) := hsLc _ _ (Uz hqb)
  have h2c : HLc 1 = some hBlk := hsLc _ _ ((upd_other _ _ h2n).trans h2b)
  have hSc := sub_cutn hSb hsLc
  refine Nz ?_
  refine Nz ?_
  refine Nz ?_
  refine Ez ?_
  refine Sz ?_
  refine Sz ?_
  refine Rz [0, 1] Kz rfl ?_
  refine Mz ?_
  refine Oz rfl rfl rfl (AOp.bin' rfl rfl rfl rfl ?_)
  refine Ez ?_
  refine ACode.cond rfl (fun c1 => ?_) (fun c1 => ?_)
  ·try simp only [Cz] at c1
   refine Rz [0, 1] Kz rfl ?_
   refine Mz ?_
   refine Oz rfl rfl rfl ?_
   refine AOp.call' rfl rfl rfl (nfail _ _ n c A evc (itR sStep ([], r.fix1.2) (i0)).2.fix1.2.fix1.2.fix1.2 hRc 4 Dz Dz) ?_
   rintro _ HLd kd ⟨rfl, hPd⟩
   have hkd := hPd.1
   have hfLd := hPd.2.1
   have hsLd := hPd.2.2.1
   have hPdb := hPd
   obtain ⟨evd, hRd⟩ := hPdb.2.2.2
   have hnd := hRd.hn
   have thsLd := SubS.of hsLd
   have hqd : HLd k1 = some (cblk (itR sStep ([], r.fix1.2) (i0)).1) := hsLd _ _ (Uz hqc)
   have h2d : HLd 1 = some hBlk := hsLd _ _ ((upd_other _ _ h2n).trans h2c)
   have hSd := sub_cutn hSc hsLd
   refine Ez ?_
   refine Sz ?_
   refine Sz ?_
   refine Rz [0, 1, 2] Kz rfl ?_
   refine Mz ?_
   refine aOps_q rfl rfl rfl (AOp.call' rfl rfl rfl (ngood _ _ h2d n c A evd _ hRd) Iz) (fun kg hkg => ?_)
   refine Oz rfl rfl rfl (AOp.un' rfl rfl rfl ?_)
   refine Ez ?_
   refine ACode.cond rfl (fun c2 => ?_) (fun c2 => absurd c2 (by rw [decide_eq_false (Rd.fail_ne _ Dz)]; decide))
   have c2 := Rd.fail_ne (itR sStep ([], r.fix1.2) (i0)).2.fix1.2.fix1.2.fix1.2 (e := 4) Dz
   refine Sz ?_
   refine Rz [0] Kz rfl ?_
   refine Nz ?_
   refine Ez ?_
   refine ACode.ret ?_
   have hcs : (itR sStep ([], r.fix1.2) (i0 + 1)).2 = (itR sStep ([], r.fix1.2) (i0)).2.fix1.2.fix1.2.fix1.2.fail 4 := if_pos Wz
   try simp only [thenA, blockA, if_true]
   have e1 : takeSch r = ([], (itR sStep ([], r.fix1.2) (i0)).2.fix1.2.fix1.2.fix1.2.fail 4) := by have h := takeSch_err (schRun_end (runR_step hx4 hin (hx5 hin)) (.inr (by rw [hcs]; exact c2))) (by rw [hcs]; exact c2); rw [h, hcs]
   rw [e1]
   have hPz : ∀ kz, kd ≤ kz → k ≤ kz → RdP H k n A c _ HLd kz := fun kz h1 h3 => ⟨h3, (fun m hm => hfLd m Wz), hSd, _, hRd⟩
   exact RetQ.one rfl rfl (sub_refl _) (hPz _ Wz Wz).stays (fun hk => ⟨NewC.none_, hPz _ Wz Wz⟩)
  ·try simp only [Cz] at c1
   refine ACode.skip ?_
   refine Sz ?_
   refine Sz ?_
   refine Rz [0, 1, 2] Kz rfl ?_
   refine Mz ?_
   refine aOps_q rfl rfl rfl (AOp.call' rfl rfl rfl (ngood _ _ h2c n c A evc _ hRc) Iz) (fun kg hkg => ?_)
   refine Oz rfl rfl rfl (AOp.un' rfl rfl rfl ?_)
   refine Ez ?_
   refine ACode.cond rfl (fun c2 => ?_) (fun c2 => ?_)
   ·try simp only [Cz] at c2
    refine Sz ?_
    refine Rz [0] Kz rfl ?_
    refine Nz ?_
    refine Ez ?_
    refine ACode.ret ?_
    have hcs : (itR sStep ([], r.fix1.2) (i0 + 1)).2 = (itR sStep ([], r.fix1.2) (i0)).2.fix1.2.fix1.2.fix1.2 := if_neg Wz
    try simp only [thenA, blockA, if_true]
    have e1 : takeSch r = ([], (itR sStep ([], r.fix1.2) (i0)).2.fix1.2.fix1.2.fix1.2) := by have h := takeSch_err (schRun_end (runR_step hx4 hin (hx5 hin)) (.inr (by rw [hcs]; exact c2))) (by rw [hcs]; exact c2); rw [h, hcs]
    rw [e1]
    have hPz : ∀ kz, kc ≤ kz → k ≤ kz → RdP H k n A c _ HLc kz := fun kz h1 h3 => ⟨h3, (fun m hm => hfLc m Wz), hSc, _, hRc⟩
    exact RetQ.one rfl rfl (sub_refl _) (hPz _ Wz Wz).stays (fun hk => ⟨NewC.none_, hPz _ Wz Wz⟩)
   ·try simp only [Cz] at c2
    refine ACode.skip ?_
    refine Rz [0, 1, 2, 3, 4, 5, 6, 7, 8, 9, 10, 11] Kz rfl ?_
    refine Mz ?_
    refine Mz ?_
    refine Oz rfl rfl rfl (AOp.convInt rfl rfl ?_)
    rw [show IntKind.i64.wrap (((itR sStep ([], r.fix1.2) (i0)).2.fix1.1 : Nat) : Int) = (((itR sStep ([], r.fix1.2) (i0)).2.fix1.1 : Nat) : Int) from i64_wrap Wz Wz]
    refine Mz ?_
    refine Oz rfl rfl rfl (AOp.bin' (z := .bool (decide ((itR sStep ([], r.fix1.2) (i0)).2.fix1.2.fix1.1 = 1))) rfl rfl rfl (congrArg (fun b => some (Value.bool b)) (eqI (y := 1))) ?_)
    refine Mz ?_
    refine Oz rfl rfl rfl (AOp.convInt rfl rfl ?_)
    rw [show IntKind.i64.wrap (((itR sStep ([], r.fix1.2) (i0)).2.fix1.2.fix1.2.fix1.1 : Nat) : Int) = (((itR sStep ([], r.fix1.2) (i0)).2.fix1.2.fix1.2.fix1.1 : Nat) : Int) from i64_wrap Wz Wz]
    refine Oz rfl rfl rfl (AOp.sub rfl rfl rfl (i64_wrap Wz Wz) ?_)
    refine Oz rfl rfl rfl (AOp.buildS (cells := #[_, _, _]) rfl rfl rfl ?_)
    refine Oz rfl rfl rfl (AOp.buildH (cols3 [(colStep (itR sStep ([], r.fix1.2) (i0)).2).1]) rfl rfl (by show 0 < 3; decide) (by show 3 ≤ 16777216; decide) rfl rfl ?_)
    refine Oz rfl rfl rfl (AOp.append' (b := cblk (itR sStep ([], r.fix1.2) (i0)).1) (m := 1) (news := cols3 [(colStep (itR sStep ([], r.fix1.2) (i0)).2).1]) rfl rfl rfl hpA (srcOf_grow (b := cblk [(colStep (itR sStep ([], r.fix1.2) (i0)).2).1]) hpA rfl rfl) rfl rfl rfl (by first | exact cols3_len _ | exact (cols3_len _).symm) srcOk_sl (cols3_one' _) Wz Wz ?_)
    refine Nz ?_
    refine Ez ?_
    refine Rz [0, 1] Kz rfl ?_
    refine Oz rfl rfl rfl (AOp.add rfl rfl rfl (i64_wrap Wz Wz) ?_)
    refine Mz ?_
    refine Ez ?_
    have hcs : (itR sStep ([], r.fix1.2) (i0 + 1)) = ((itR sStep ([], r.fix1.2) (i0)).1 ++ [(colStep (itR sStep ([], r.fix1.2) (i0)).2).1], (itR sStep ([], r.fix1.2) (i0)).2.fix1.2.fix1.2.fix1.2) := congrArg (fun x => ((itR sStep ([], r.fix1.2) (i0)).1 ++ [(colStep (itR sStep ([], r.fix1.2) (i0)).2).1], x)) (show (colStep (itR sStep ([], r.fix1.2) (i0)).2).2 = (itR sStep ([], r.fix1.2) (i0)).2.fix1.2.fix1.2.fix1.2 from if_neg Wz)
    have hsn : cblk ((itR sStep ([], r.fix1.2) (i0)).1 ++ [(colStep (itR sStep ([], r.fix1.2) (i0)).2).1]) = { cells := cols3 (itR sStep ([], r.fix1.2) (i0)).1 ++ cols3 [(colStep (itR sStep ([], r.fix1.2) (i0)).2).1], elem := 121, kind := .grow, esz := 3 } := by unfold cblk; rw [cols3_snoc]
    have hfk : HLc kg = none := hfLc kg Wz
    have hAq2 : Away A (itR sStep ([], r.fix1.2) (i0)).2.fix1.2.fix1.2.fix1.2.bs.length k1 := by rw [Rd.fix1_bs, Rd.fix1_bs, Rd.fix1_bs, itS_bs]; exact (by rw [Rd.fix1_bs]; exact hAq)
    first | refine thenA_n ?_ | simp only [thenA, blockA, if_true]
    exact NextG.mk Wz Wz ((upd (upd HLc kg (some (cblk [(colStep (itR sStep ([], r.fix1.2) (i0)).2).1]))) k1 (some (cblk ((itR sStep ([], r.fix1.2) (i0)).1 ++ [(colStep (itR sStep ([], r.fix1.2) (i0)).2).1]))))) (.cons (show _ = some (Value.slice _ _ _) by rw [hcs, List.length_append]; rfl) (.cons (show _ = some (Value.int .i64 (((i0 + 1 : Nat)) : Int)) from rfl) .nil)) (.cons rfl (.cons rfl .nil)) (by rw [hsn]; exact sub_refl _) (by rw [hcs]; exact ⟨upd_same _ _ _, sub_new (sub_new hSc (none_n (hf kg Wz))) (none_n (hf k1 Wz)), ⟨evc, (hRc.sub (sub_upd' (sub_refl _) hfk)).away Wz hAq2 (Uz hqc) (by show (121 : Nat) ≠ 101; decide)⟩, by rw [← hcs]; exact runR_step hx4 Wz (hx5 Wz), fun _ => c2⟩)
 ·try simp only [Cz] at c0
  have hin : i0 = r.fix1.1 := by omega
  have hrun := schRun_end hx4 (.inl hin)
  refine ACode.exit ?_
  refine Sz ?_
  refine Sz ?_
  refine Rz [0, 1] Kz rfl ?_
  refine Mz ?_
  refine aOps_q rfl rfl rfl (AOp.call' rfl rfl rfl (ngood _ _ h20 n c A ev0 _ (hR0.sub subA)) Iz) (fun kq hkq => ?_)
  refine Ez ?_
  refine ACode.cond rfl (fun c3 => ?_) (fun c3 => ?_)
  ·try simp only [Cz] at c3
   refine Rz [0, 1, 2, 3] Kz rfl ?_
   refine Mz ?_
   refine Mz ?_
   refine aOps_q rfl rfl rfl (AOp.call' rfl rfl rfl (schema_cols 3 _ _ (itR sStep ([], r.fix1.2) (i0)).1 (some ⟨k1, 0, some 1⟩) _ (SLC.cblk hq0).cells (by have := itS_len ([], r.fix1.2) i0; simp only [List.length_nil] at this; omega)) Iz) (fun kq hkq => ?_)
   refine Oz rfl rfl rfl ?_
   refine AOp.call' rfl rfl rfl (nfail _ _ n c A ev0 (itR sStep ([], r.fix1.2) (i0)).2 (hR0.sub subA) _ (schemaI_le _).1 (schemaI_le _).2) ?_
   rintro _ HLe ke ⟨rfl, hPe⟩
   have hke := hPe.1
   have hfLe := hPe.2.1
   have hsLe := hPe.2.2.1
   have hPeb := hPe
   obtain ⟨eve, hRe⟩ := hPeb.2.2.2
   have hne := hRe.hn
   have thsLe := SubS.of hsLe
   have hqe : HLe k1 = some (cblk (itR sStep ([], r.fix1.2) (i0)).1) := hsLe _ _ (Uz hq0)
   have h2e : HLe 1 = some hBlk := hsLe _ _ ((upd_other _ _ h2n).trans h20)
   have hSe := sub_cutn hS0 hsLe
   refine Ez ?_
   refine Sz ?_
   refine Sz ?_
   refine Rz [0, 1, 2] Kz rfl ?_
   refine Mz ?_
   refine aOps_q rfl rfl rfl (AOp.call' rfl rfl rfl (ngood _ _ h2e n c A eve _ hRe) Iz) (fun kq hkq => ?_)
   refine Oz rfl rfl rfl (AOp.un' rfl rfl rfl ?_)
   refine Ez ?_
   refine ACode.cond rfl (fun c4 => ?_) (fun c4 => ?_)
   ·try simp only [Cz] at c4
    refine Sz ?_
    refine Rz [0] Kz rfl ?_
    refine Nz ?_
    refine Ez ?_
    refine ACode.ret ?_
    try simp only [thenA, blockA, if_true]
    have e1 : takeSch r = ([], (itR sStep ([], r.fix1.2) (i0)).2.fail (schemaI (itR sStep ([], r.fix1.2) (i0)).1)) := by rw [takeSch, hrun, if_pos c4]
    rw [e1]
    have hPz : ∀ kz, ke ≤ kz → k ≤ kz → RdP H k n A c _ HLe kz := fun kz h1 h3 => ⟨h3, (fun m hm => hfLe m Wz), hSe, _, hRe⟩
    exact RetQ.one rfl rfl (sub_refl _) (hPz _ Wz Wz).stays (fun hk => ⟨NewC.none_, hPz _ Wz Wz⟩)
   ·try simp only [Cz] at c4
    refine ACode.skip ?_
    refine Sz ?_
    refine Rz [0, 1] Kz rfl ?_
    refine Mz ?_
    refine Nz ?_
    refine Ez ?_
    refine ACode.ret ?_
    try simp only [thenA, blockA, if_true]
    have e1 : takeSch r = ((itR sStep ([], r.fix1.2) (i0)).1, (itR sStep ([], r.fix1.2) (i0)).2.fail (schemaI (itR sStep ([], r.fix1.2) (i0)).1)) := by rw [takeSch, hrun, if_neg (fun h => h c4)]
    rw [e1]
    have hPz : ∀ kz, ke ≤ kz → k ≤ kz → RdP H k n A c _ HLe kz := fun kz h1 h3 => ⟨h3, (fun m hm => hfLe m Wz), hSe, _, hRe⟩
    exact RetQ.one rfl rfl (sub_refl _) (hPz _ Wz Wz).stays (fun hk => ⟨⟨_, _, rfl, SLC.cblk hqe, fun a ha => by cases ha; exact ⟨by show k ≤ k1; omega, by show k1 < _; omega⟩⟩, hPz _ Wz Wz⟩)
  ·try simp only [Cz] at c3
   refine ACode.skip ?_
   refine Sz ?_
   refine Sz ?_
   refine Rz [0, 1, 2] Kz rfl ?_
   refine Mz ?_
   refine aOps_q rfl rfl rfl (AOp.call' rfl rfl rfl (ngood _ _ h20 n c A ev0 _ hR0) Iz) (fun kq hkq => ?_)
   refine Oz rfl rfl rfl (AOp.un' rfl rfl rfl ?_)
   refine Ez ?_
   refine ACode.cond rfl (fun c4 => ?_) (fun c4 => absurd c4 (by rw [decide_eq_false c3]; decide))
   refine Sz ?_
   refine Rz [0] Kz rfl ?_
   refine Nz ?_
   refine Ez ?_
   refine ACode.ret ?_
   try simp only [thenA, blockA, if_true]
   have e1 : takeSch r = ([], (itR sStep ([], r.fix1.2) (i0)).2) := takeSch_err hrun c3
   rw [e1]
   have hPz : ∀ kz, kL0 ≤ kz → k ≤ kz → RdP H k n A c _ HL0 kz := fun kz h1 h3 => ⟨h3, (fun m hm => hfL0 m Wz), hS0, _, hR0⟩
   exact RetQ.one rfl rfl (sub_refl _) (hPz _ Wz Wz).stays (fun hk => ⟨NewC.none_, hPz _ Wz Wz⟩)

end

end Go.Proofs.YteoofihjmldllaaDoor
