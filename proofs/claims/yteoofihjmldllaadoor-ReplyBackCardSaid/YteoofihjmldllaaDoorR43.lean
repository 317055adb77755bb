/- Contracts over the abstract states: replies out of bytes. -/
import Derived.Test.YteoofihjmldllaaDoorRTk
set_option linter.unusedVariables false
set_option linter.unusedSimpArgs false
set_option maxRecDepth 100000
namespace Go.Proofs.YteoofihjmldllaaDoor
open Go Go.Ab

theorem entA_one (e : Ent) : (entc e).toArray.all (fun x => x.oneCell') = true := by rw [← Array.all_toList]; exact entc_one e
theorem ship_t' {cols : List Col} {r : Rd} (h : r.fix1.1 = 1) : r.ship cols = (⟨(shA cols r).1, decide (r.fix1.1 = 1), (shB cols r).1, (shI cols r (shC cols r).1).1⟩, (shI cols r (shC cols r).1).2) := by rw [ship_t h, decide_eq_true h]
theorem ship_f' {cols : List Col} {r : Rd} (h : ¬ r.fix1.1 = 1) : r.ship cols = (⟨(shA cols r).1, decide (r.fix1.1 = 1), [], []⟩, (shA cols r).2) := by rw [ship_f h, decide_eq_false h]
instance zFunc : ZeroInfo Tryd.prog 23 .nilFunc := ⟨by kernel_rfl, by kernel_rfl⟩
section
variable (H : Hp) (k : Nat)

set_option maxHeartbeats 4000000 in
theorem takeN (h2 : H 1 = some hBlk) (bs : List UInt8) (A : Option Addr) (c : Nat) (hD : SLC H 1 A bs.length c (bs.map bv)) (hl : bs.length ≤ 1000000000) : ACalls Tryd.prog 3 31 [.slice A bs.length c] H k (fun v H' k' => ∃ u, v = .tuple #[u, .int .i64 (takeRp bs).2.1, .int .i64 (takeRp bs).2.2] ∧ RpV H' (takeRp bs).1 u ∧ k ≤ k' ∧ (∀ m, k' ≤ m → H' m = none) ∧ Ab.Sub H H') := by
 refine ACalls.fresh fun hf => ?_
 refine ACalls.body Tryd.func31 rfl (Nat.le_of_ble_eq_true rfl) ?_
 have hHk := hf k (Nat.le_refl k)
 have h2k := old_lt hf h2
 refine Sz ?_
 refine Rz [0, 1, 2] Kz rfl ?_
 refine Oz rfl rfl rfl (AOp.alloc' rfl ?_)
 refine Nz ?_
 refine Nz ?_
 refine Ez (Sz (Rz [0, 1, 2, 3] Kz rfl ?_))
 refine Mz ?_
 refine Oz rfl rfl rfl ?_
 refine AOp.call' rfl rfl rfl (newN _ _ A c bs (hD.sub subB) hl) ?_
 rintro _ HLa ka ⟨hka, hfLa, hsLa, n, B, d, rfl, hna, hnb, hRa0, hBa⟩
 have thsLa := SubS.of hsLa
 obtain ⟨R, hRR⟩ : ∃ R, R = rd0 bs := ⟨_, rfl⟩
 have hRa : RdN HLa n B d .nilIface R := by rw [hRR]; exact hRa0
 have hokR := hRa.ok
 have hHn : H n = none := hf n Wz
 have hSa : Ab.Sub H HLa := sub_trans (sub_upd' (sub_refl H) hHk) hsLa
 have hka_ : HLa k = some (rpblk ⟨0, zeroD, zeroE, [], [], []⟩ NIL NIL NIL) := hsLa _ _ (upd_same _ _ _)
 have hAw : ∀ l m, (m = k ∨ ka ≤ m) → Away B l m := fun l m hm => Away.ne (fun a ha => by have := hBa a ha; omega)
 refine Oz rfl rfl rfl (AOp.alloc' rfl ?_)
 refine aOps_0 rfl rfl rfl ?_
 refine AOp.store1 (b := ?b1) rfl rfl rfl ?hn1 ?hk1 rfl rfl ?hl1 ?hR1
 (case hn1 => exact hpB)
 (case hk1 => rfl)
 (case hl1 => first | (simp; done) | exact Nat.le_of_ble_eq_true rfl)
 rw [rd_upd2]
 refine Ez (Sz (Rz [0, 1, 2] Kz rfl ?_))
 refine Oz rfl rfl rfl (AOp.makeFunc' rfl rfl ?_)
 refine Oz rfl rfl rfl (AOp.alloc' rfl ?_)
 refine aOps_0 rfl rfl rfl ?_
 refine AOp.store1 (b := ?b2) rfl rfl rfl ?hn2 ?hk2 rfl rfl ?hl2 ?hR2
 (case hn2 => exact hpB)
 (case hk2 => rfl)
 (case hl2 => first | (simp; done) | exact Nat.le_of_ble_eq_true rfl)
 rw [rd_upd2]
 refine Ez (Sz (Rz [0, 1] Kz rfl ?_))
 refine Oz rfl rfl rfl (AOp.makeFunc' rfl rfl ?_)
 refine Nz ?_
 refine Ez ?_
 refine Sz ?_
 have hR0 : RdN (upd (upd HLa ka (some (cRd n))) (ka + 1) (some (cGd ka))) n B d .nilIface R := (hRa.sub (sub_upd' (sub_refl _) (hfLa ka (Nat.le_refl _)))).sub (sub_upd' (sub_refl _) (Uz (hfLa (ka + 1) Wz)))
 have hb0 : (upd (upd HLa ka (some (cRd n))) (ka + 1) (some (cGd ka))) k = some (rpblk ⟨0, zeroD, zeroE, [], [], []⟩ NIL NIL NIL) := Uz (Uz hka_)
 have hr0 : (upd (upd HLa ka (some (cRd n))) (ka + 1) (some (cGd ka))) ka = some (cRd n) := Uz (upd_same _ _ _)
 have hg0 : (upd (upd HLa ka (some (cRd n))) (ka + 1) (some (cGd ka))) (ka + 1) = some (cGd ka) := upd_same _ _ _
 have hS0 : Ab.Sub H (upd (upd HLa ka (some (cRd n))) (ka + 1) (some (cGd ka))) := sub_new (sub_new hSa (hf ka Wz)) (hf (ka + 1) Wz)
 have hG0 := hS0 _ _ h2
 refine ACode.any mixed Kz ?_
 refine AnyA.float (Hq := (upd (fun _ => none) ka (some (cRd n)))) [(0, 15), (2, 17), (4, 19), (6, 20)] [1, 3, 5, 7] Kz (Nat.le_of_ble_eq_true rfl) Kz subB ?_
 refine DrawF.q 0 15 [(7, none)] rfl Kz rfl (fun Hc kq hSb => AOp.move' (.inl rfl) rfl Tz) ?_
 refine DrawF.q 2 17 [(5, none)] rfl Kz rfl (fun Hc kq hSb => have tSb := SubS.of hSb; (by refine AOp.load1 (b := ?b3) (v := ?v3) rfl rfl ?hn3 ?hv3 ?hR3; (case hn3 => exact hpB); (case hv3 => rfl); exact Tz)) ?_
 refine DrawF.q 4 19 [(2, none)] rfl Kz rfl (fun Hc kq hSb => AOp.fieldAddr' rfl Dz rfl Tz) ?_
 refine DrawF.q 6 20 [(2, none)] rfl Kz rfl (fun Hc kq hSb => AOp.fieldAddr' rfl Dz rfl Tz) ?_
 refine DrawF.done ?_
 show aOpsF _ _ _ _ _ _ [1, 3, 5, 7] ⟨_, _, _⟩
 refine aOpsF_1 [15] rfl rfl Kz rfl ?_
 refine AOp.call' rfl rfl rfl (tcount _ _ hG0 n d B .nilIface R hR0 ka hr0 Wz (ka + 1) hg0 Wz 1099511627776 Dz) ?_
 rintro _ HLb kb ⟨rfl, hPb⟩
 have hkb := hPb.1
 have hfLb := hPb.2.1
 have hsLb := hPb.2.2.1
 have hPbb := hPb
 obtain ⟨evb, hRb⟩ := hPbb.2.2.2
 have hnb := hRb.hn
 have thsLb := SubS.of hsLb
 have hbb : HLb k = some (rpblk ⟨0, zeroD, zeroE, [], [], []⟩ NIL NIL NIL) := hsLb _ _ (Uz hb0)
 have hrb : HLb ka = some (cRd n) := hsLb _ _ (Uz hr0)
 have hgb : HLb (ka + 1) = some (cGd ka) := hsLb _ _ (Uz hg0)
 have hSb : Ab.Sub H HLb := sub_thru hS0 hHn hsLb
 have hGb : HLb 1 = some hBlk := hSb _ _ h2
 have hRb : RdN HLb n B d evb (rp1 R).2 := hRb
 rw [show (R.count 1099511627776).1 = (rp1 R).1 from rfl]
 refine ⟨by exact subB, ?_⟩
 refine aOpsF_1 [17] rfl rfl Kz rfl ?_
 refine AOp.call' rfl rfl rfl (nhash_r _ _ n d B evb (rp1 R).2 hRb) ?_
 rintro _ HLc kc ⟨rfl, hPc⟩
 have hkc := hPc.1
 have hfLc := hPc.2.1
 have hsLc := hPc.2.2.1
 have hPcb := hPc
 obtain ⟨evc, hRc⟩ := hPcb.2.2.2
 have hnc := hRc.hn
 have thsLc := SubS.of hsLc
 have hbc : HLc k = some (rpblk ⟨0, zeroD, zeroE, [], [], []⟩ NIL NIL NIL) := hsLc _ _ (Uz hbb)
 have hrc : HLc ka = some (cRd n) := hsLc _ _ (Uz hrb)
 have hgc : HLc (ka + 1) = some (cGd ka) := hsLc _ _ (Uz hgb)
 have hSc : Ab.Sub H HLc := sub_thru hSb hHn hsLc
 have hGc : HLc 1 = some hBlk := hSc _ _ h2
 have hRc : RdN HLc n B d evc (rp2 R).2 := hRc
 have hbc1 : (upd HLc k (some (rpblk ⟨((rp1 R).1 : Nat), zeroD, zeroE, [], [], []⟩ NIL NIL NIL))) k = some (rpblk ⟨((rp1 R).1 : Nat), zeroD, zeroE, [], [], []⟩ NIL NIL NIL) := upd_same _ _ _
 refine ⟨by exact subB, ?_⟩
 refine aOpsF_0 [19, 16] rfl rfl Kz rfl (AOp.store1 (b := (rpblk ⟨0, zeroD, zeroE, [], [], []⟩ NIL NIL NIL)) rfl rfl rfl hbc rfl rfl rfl (by show 0 < (rpc _ _ _ _).length; rw [rpc_len]; decide) ?_)
 refine ⟨by exact subB, ?_⟩
 refine aOpsF_0 [20, 18] rfl rfl Kz rfl (AOp.storeN (b := (rpblk ⟨((rp1 R).1 : Nat), zeroD, zeroE, [], [], []⟩ NIL NIL NIL)) (cs := ((rp2 R).1.l.map bv).toArray) rfl rfl rfl hbc1 rfl (hv_size _) (one_bvA _) (by show 1 + 32 ≤ (rpc _ _ _ _).length; rw [rpc_len]; decide) ?_)
 refine ⟨by exact subB, ?_⟩
 rw [rpc_root1, rd_upd2]
 refine aOpsF_end ?_
 refine Sz ?_
 have hb4 : (upd HLc k (some (rpblk ⟨((rp1 R).1 : Nat), (rp2 R).1, zeroE, [], [], []⟩ NIL NIL NIL))) k = some (rpblk ⟨((rp1 R).1 : Nat), (rp2 R).1, zeroE, [], [], []⟩ NIL NIL NIL) := upd_same _ _ _
 have hr4 : (upd HLc k (some (rpblk ⟨((rp1 R).1 : Nat), (rp2 R).1, zeroE, [], [], []⟩ NIL NIL NIL))) ka = some (cRd n) := Uz hrc
 have hg4 : (upd HLc k (some (rpblk ⟨((rp1 R).1 : Nat), (rp2 R).1, zeroE, [], [], []⟩ NIL NIL NIL))) (ka + 1) = some (cGd ka) := Uz hgc
 have hS4 : Ab.Sub H (upd HLc k (some (rpblk ⟨((rp1 R).1 : Nat), (rp2 R).1, zeroE, [], [], []⟩ NIL NIL NIL))) := sub_new hSc (hHk)
 have hG4 : (upd HLc k (some (rpblk ⟨((rp1 R).1 : Nat), (rp2 R).1, zeroE, [], [], []⟩ NIL NIL NIL))) 1 = some hBlk := hS4 _ _ h2
 have hR4 : RdN (upd HLc k (some (rpblk ⟨((rp1 R).1 : Nat), (rp2 R).1, zeroE, [], [], []⟩ NIL NIL NIL))) n B d evc (rp2 R).2 := hRc.away Wz (hAw _ _ Wz) hbc (by show (71 : Nat) ≠ 101; decide)
 refine ACode.any mixed Kz ?_
 refine AnyA.float (Hq := (upd (fun _ => none) ka (some (cRd n)))) [(0, 21), (2, 23), (4, 25), (6, 26)] [1, 3, 5, 7] Kz (Nat.le_of_ble_eq_true rfl) Kz subB ?_
 refine DrawF.q 0 21 [(5, none)] rfl Kz rfl (fun Hc kq hSb => have tSb := SubS.of hSb; (by refine AOp.load1 (b := ?b4) (v := ?v4) rfl rfl ?hn4 ?hv4 ?hR4; (case hn4 => exact hpB); (case hv4 => rfl); exact Tz)) ?_
 refine DrawF.q 2 23 [(5, none)] rfl Kz rfl (fun Hc kq hSb => have tSb := SubS.of hSb; (by refine AOp.load1 (b := ?b5) (v := ?v5) rfl rfl ?hn5 ?hv5 ?hR5; (case hn5 => exact hpB); (case hv5 => rfl); exact Tz)) ?_
 refine DrawF.q 4 25 [(2, none)] rfl Kz rfl (fun Hc kq hSb => AOp.fieldAddr' rfl Dz rfl Tz) ?_
 refine DrawF.q 6 26 [(2, none)] rfl Kz rfl (fun Hc kq hSb => AOp.fieldAddr' rfl Dz rfl Tz) ?_
 refine DrawF.done ?_
 show aOpsF _ _ _ _ _ _ [1, 3, 5, 7] ⟨_, _, _⟩
 refine aOpsF_1 [21] rfl rfl Kz rfl ?_
 refine AOp.call' rfl rfl rfl (ntakeS _ _ hG4 n d B evc (rp2 R).2 hR4) ?_
 rintro _ HLe ke ⟨⟨As, cs9, rfl, hs9, hsa9⟩, hPe⟩
 have hke := hPe.1
 have hfLe := hPe.2.1
 have hsLe := hPe.2.2.1
 have hPeb := hPe
 obtain ⟨eve, hRe⟩ := hPeb.2.2.2
 have hne := hRe.hn
 have thsLe := SubS.of hsLe
 have hbe : HLe k = some (rpblk ⟨((rp1 R).1 : Nat), (rp2 R).1, zeroE, [], [], []⟩ NIL NIL NIL) := hsLe _ _ (Uz hb4)
 have hre : HLe ka = some (cRd n) := hsLe _ _ (Uz hr4)
 have hge : HLe (ka + 1) = some (cGd ka) := hsLe _ _ (Uz hg4)
 have hSe : Ab.Sub H HLe := sub_thru hS4 hHn hsLe
 have hGe : HLe 1 = some hBlk := hSe _ _ h2
 have hRe : RdN HLe n B d eve (rp3 R).2 := hRe
 have hTe : Ab.Sub (cutR HLe kc ke) HLe := cutR_sub
 have hZn : (cutR HLe kc ke) n = none := cutR_no (.inl Wz)
 have hZk : (cutR HLe kc ke) k = none := cutR_no (.inl Wz)
 have hZq : ∀ m, ke ≤ m → (cutR HLe kc ke) m = none := fun m hm => cutR_no (.inr hm)
 have hsch : SLC (cutR HLe kc ke) 3 As (rp3 R).1.length cs9 (cols3 (rp3 R).1) := SLC.newR hs9 hsa9
 have hCn : Away As (rp3 R).1.length n := Away.ne (fun a ha => by have := (hsa9 a ha).1; omega)
 have hcl : (rp3 R).1.length ≤ 1000000 := Nat.le_trans (rp3_all hokR).2.2.2 Dz
 refine ⟨by exact subB, ?_⟩
 refine aOpsF_1 [23] rfl rfl Kz rfl ?_
 refine AOp.call' rfl rfl rfl (ntakeE _ _ hGe n d B eve (rp3 R).2 hRe) ?_
 rintro _ HLf kf ⟨rfl, hPf⟩
 have hkf := hPf.1
 have hfLf := hPf.2.1
 have hsLf := hPf.2.2.1
 have hPfb := hPf
 obtain ⟨evf, hRf⟩ := hPfb.2.2.2
 have hnf := hRf.hn
 have thsLf := SubS.of hsLf
 have hbf : HLf k = some (rpblk ⟨((rp1 R).1 : Nat), (rp2 R).1, zeroE, [], [], []⟩ NIL NIL NIL) := hsLf _ _ (Uz hbe)
 have hrf : HLf ka = some (cRd n) := hsLf _ _ (Uz hre)
 have hgf : HLf (ka + 1) = some (cGd ka) := hsLf _ _ (Uz hge)
 have hSf : Ab.Sub H HLf := sub_thru hSe hHn hsLf
 have hGf : HLf 1 = some hBlk := hSf _ _ h2
 have hTf : Ab.Sub (cutR HLe kc ke) HLf := sub_thru hTe hZn hsLf
 have hRf : RdN HLf n B d evf (rp4 R).2 := hRf
 have hbf1 : (upd HLf k (some (rpblk ⟨((rp1 R).1 : Nat), (rp2 R).1, zeroE, [], [], []⟩ NIL (.slice As (rp3 R).1.length cs9) NIL))) k = some (rpblk ⟨((rp1 R).1 : Nat), (rp2 R).1, zeroE, [], [], []⟩ NIL (.slice As (rp3 R).1.length cs9) NIL) := upd_same _ _ _
 refine ⟨by exact subB, ?_⟩
 refine aOpsF_0 [25, 22] rfl rfl Kz rfl (AOp.store1 (b := (rpblk ⟨((rp1 R).1 : Nat), (rp2 R).1, zeroE, [], [], []⟩ NIL NIL NIL)) rfl rfl rfl hbf rfl rfl rfl (by show 99 < (rpc _ _ _ _).length; rw [rpc_len]; decide) ?_)
 rw [(rpc_set _ _ _ _ _).2.1]
 refine ⟨by exact subB, ?_⟩
 refine aOpsF_0 [26, 24] rfl rfl Kz rfl (AOp.storeN (b := (rpblk ⟨((rp1 R).1 : Nat), (rp2 R).1, zeroE, [], [], []⟩ NIL (.slice As (rp3 R).1.length cs9) NIL)) (cs := (entc (rp4 R).1).toArray) rfl rfl rfl hbf1 rfl (entv_size _) (entA_one _) (by show 33 + 65 ≤ (rpc _ _ _ _).length; rw [rpc_len]; decide) ?_)
 refine ⟨by exact subB, ?_⟩
 rw [rpc_ent33, rd_upd2]
 refine aOpsF_end ?_
 refine ACode.meet (γ := Unit) (fun g => []) [(2, _), (3, _), (4, _), (5, _), (6, _), (7, _)] Xz (fun g H' k' => ∃ kh, ke ≤ kh ∧ kh < k' ∧ H' k = some (Qz R (.slice (some ⟨kh, 0, some 1⟩) (rp6 R).1.length (rp6 R).1.length) (.slice As (rp3 R).1.length cs9) NIL) ∧ H' ka = some (cRd n) ∧ H' (ka + 1) = some (cGd ka) ∧ H' kh = some (dwb (rp6 R).1) ∧ Ab.Sub H H' ∧ Ab.Sub (cutR HLe kc ke) H' ∧ (∃ ev, RdN H' n B d ev (rp6 R).2)) ?_ (fun g HLp kp hfLp hXp => ?_)
 ·show ACode _ _ _ _ _ _
  refine Sz ?_
  have hb5 : (upd HLf k (some (Qz R NIL (.slice As (rp3 R).1.length cs9) NIL))) k = some (Qz R NIL (.slice As (rp3 R).1.length cs9) NIL) := upd_same _ _ _
  have hr5 : (upd HLf k (some (Qz R NIL (.slice As (rp3 R).1.length cs9) NIL))) ka = some (cRd n) := Uz hrf
  have hg5 : (upd HLf k (some (Qz R NIL (.slice As (rp3 R).1.length cs9) NIL))) (ka + 1) = some (cGd ka) := Uz hgf
  have hS5 : Ab.Sub H (upd HLf k (some (Qz R NIL (.slice As (rp3 R).1.length cs9) NIL))) := sub_new hSf (hHk)
  have hG5 : (upd HLf k (some (Qz R NIL (.slice As (rp3 R).1.length cs9) NIL))) 1 = some hBlk := hS5 _ _ h2
  have hT5 : Ab.Sub (cutR HLe kc ke) (upd HLf k (some (Qz R NIL (.slice As (rp3 R).1.length cs9) NIL))) := sub_new hTf (hZk)
  have hR5 : RdN (upd HLf k (some (Qz R NIL (.slice As (rp3 R).1.length cs9) NIL))) n B d evf (rp4 R).2 := hRf.away Wz (hAw _ _ Wz) hbf (by show (71 : Nat) ≠ 101; decide)
  refine Rz [0, 1, 2] Kz rfl ?_
  refine Mz ?_
  refine Oz rfl rfl rfl ?_
  refine AOp.call' rfl rfl rfl (tcount _ _ hG5 n d B evf (rp4 R).2 hR5 ka hr5 Wz (ka + 1) hg5 Wz 64 Dz) ?_
  rintro _ HLh kh ⟨rfl, hPh⟩
  have hkh := hPh.1
  have hfLh := hPh.2.1
  have hsLh := hPh.2.2.1
  have hPhb := hPh
  obtain ⟨evh, hRh⟩ := hPhb.2.2.2
  have hnh := hRh.hn
  have thsLh := SubS.of hsLh
  have hbh : HLh k = some (Qz R NIL (.slice As (rp3 R).1.length cs9) NIL) := hsLh _ _ (Uz hb5)
  have hrh : HLh ka = some (cRd n) := hsLh _ _ (Uz hr5)
  have hgh : HLh (ka + 1) = some (cGd ka) := hsLh _ _ (Uz hg5)
  have hSh : Ab.Sub H HLh := sub_thru hS5 hHn hsLh
  have hGh : HLh 1 = some hBlk := hSh _ _ h2
  have hTh : Ab.Sub (cutR HLe kc ke) HLh := sub_thru hT5 hZn hsLh
  have hRh : RdN HLh n B d evh (rp5 R).2 := hRh
  rw [show ((rp4 R).2.count 64).1 = (rp5 R).1 from rfl]
  have hn6 := (rp5_all hokR).2.1
  refine Mz ?_
  refine Ez ?_
  refine ACode.block ?_
  refine ACode.adoptC 65 32 Dz (n := k) (b := (Qz R NIL (.slice As (rp3 R).1.length cs9) NIL)) (j := 98) hbh rfl (rpc_at _ _ _ _).1 ?_
  refine ACode.countG (γ := Hp) (fun i g => [(29, .int .i64 (i : Int))]) [(2, _), (3, _), (4, _), (5, _), (6, _), (7, _), (28, _)] (fun i g => g) ((rp5 R).1) (fun i g => g k = some (Qz R (.slice (some ⟨kh, 0, some 1⟩) (rpI6 R (i)).1.length (rpI6 R (i)).1.length) (.slice As (rp3 R).1.length cs9) NIL) ∧ g ka = some (cRd n) ∧ g (ka + 1) = some (cGd ka) ∧ g kh = some (dwb (rpI6 R (i)).1) ∧ Ab.Sub H g ∧ Ab.Sub (cutR HLe kc ke) g ∧ (∃ ev, RdN g n B d ev (rpI6 R (i)).2)) ((upd (upd HLh kh (some (dwb []))) k (some (Qz R (.slice (some ⟨kh, 0, some 1⟩) ([] : List Dg).length ([] : List Dg).length) (.slice As (rp3 R).1.length cs9) NIL)))) (.cons rfl .nil) Xz (by rw [(rpc_set _ _ _ _ _).1]; exact sub_refl _) ⟨upd_same _ _ _, Uz (Uz hrh), Uz (Uz hgh), Uz (upd_same _ _ _), sub_new (sub_new hSh (hf kh Wz)) hHk, sub_new (sub_new hTh (hZq kh Wz)) hZk, ⟨evh, (hRh.sub (sub_upd' (sub_refl _) (hfLh kh (Nat.le_refl _)))).away Wz (hAw _ _ Wz) (Uz hbh) (by show (71 : Nat) ≠ 101; decide)⟩⟩ (fun i0 g0 kL0 HL0 hiL0 hkL0 hsL0 hfL0 hxL0 => ?_)
  show ACode _ _ _ _ _ ⟨_, _, _⟩
  have tsL0 := SubS.of hsL0
  obtain ⟨hbn0, hrn0, hgn0, hWn0, hSn0, hTn0, ⟨evn0, hRn0⟩⟩ := hxL0
  have hbn := hsL0 _ _ hbn0
  have hrn := hsL0 _ _ hrn0
  have hgn := hsL0 _ _ hgn0
  have hWn := hsL0 _ _ hWn0
  have hSn := sub_trans hSn0 hsL0
  have hTn := sub_trans hTn0 hsL0
  have hRn := hRn0.sub hsL0
  have hGn := hSn _ _ h2
  have hli := rpI6_len R i0
  have hln6 : (rpI6 R (i0)).1.length + 1 = (rpI6 R (i0 + 1)).1.length := by rw [rpI6_len, rpI6_len]
  refine Sz ?_
  refine Rz [0] Kz rfl ?_
  refine Oz rfl rfl rfl (AOp.bin' rfl rfl rfl rfl ?_)
  refine Ez ?_
  refine Sz ?_
  refine ACode.cond rfl (fun c0 => ?_) (fun c0 => ?_)
  ·try simp only [Cz] at c0
   have hin : i0 < (rp5 R).1 := by omega
   refine ACode.skip ?_
   refine Sz ?_
   refine ACode.block ?_
   refine ACode.any mixed Kz ?_
   refine AnyA.split 6 Kz Kz Dz Dz (Nat.le_of_ble_eq_true rfl) ?_
   refine AnyA.float (Hq := (upd (upd (fun _ => none) k (some (Qz R (.slice (some ⟨kh, 0, some 1⟩) (rpI6 R (i0)).1.length (rpI6 R (i0)).1.length) (.slice As (rp3 R).1.length cs9) NIL))) ka (some (cRd n)))) [(0, 31), (1, 32), (2, 33)] [3, 4, 5] Kz (Nat.le_of_ble_eq_true rfl) Kz subB ?_
   refine DrawF.q 0 31 [(2, none)] rfl Kz rfl (fun Hc kq hSb => AOp.fieldAddr' rfl Dz rfl Tz) ?_
   refine DrawF.q 1 32 [(31, some 0)] rfl Kz rfl (fun Hc kq hSb => have tSb := SubS.of hSb; AOp.load1 (b := (Qz R (.slice (some ⟨kh, 0, some 1⟩) (rpI6 R (i0)).1.length (rpI6 R (i0)).1.length) (.slice As (rp3 R).1.length cs9) NIL)) (v := (.slice (some ⟨kh, 0, some 1⟩) (rpI6 R (i0)).1.length (rpI6 R (i0)).1.length)) rfl rfl hpB (rpc_at _ _ _ _).1 Tz) ?_
   refine DrawF.q 2 33 [(5, none)] rfl Kz rfl (fun Hc kq hSb => have tSb := SubS.of hSb; (by refine AOp.load1 (b := ?b6) (v := ?v6) rfl rfl ?hn6 ?hv6 ?hR6; (case hn6 => exact hpB); (case hv6 => rfl); exact Tz)) ?_
   refine DrawF.done ?_
   show aOpsF _ _ _ _ _ _ [3, 4, 5] ⟨_, _, _⟩
   refine aOpsF_1 [33] rfl rfl Kz rfl ?_
   refine AOp.call' rfl rfl rfl (nhash_r _ _ n d B evn0 (rpI6 R (i0)).2 hRn) ?_
   rintro _ HLm km ⟨rfl, hPm⟩
   have hkm := hPm.1
   have hfLm := hPm.2.1
   have hsLm := hPm.2.2.1
   have hPmb := hPm
   obtain ⟨evm, hRm⟩ := hPmb.2.2.2
   have hnm := hRm.hn
   have thsLm := SubS.of hsLm
   have hbm : HLm k = some (Qz R (.slice (some ⟨kh, 0, some 1⟩) (rpI6 R (i0)).1.length (rpI6 R (i0)).1.length) (.slice As (rp3 R).1.length cs9) NIL) := hsLm _ _ (Uz hbn)
   have hrm : HLm ka = some (cRd n) := hsLm _ _ (Uz hrn)
   have hgm : HLm (ka + 1) = some (cGd ka) := hsLm _ _ (Uz hgn)
   have hWm : HLm kh = some (dwb (rpI6 R (i0)).1) := hsLm _ _ (Uz hWn)
   have hSm : Ab.Sub H HLm := sub_thru hSn hHn hsLm
   have hGm : HLm 1 = some hBlk := hSm _ _ h2
   have hTm : Ab.Sub (cutR HLe kc ke) HLm := sub_thru hTn hZn hsLm
   have hRm : RdN HLm n B d evm (rpI6 R (i0)).2.hash.2 := hRm
   refine ⟨by exact subB, ?_⟩
   refine aOpsF_1 [34] rfl rfl Kz rfl (AOp.buildH ((rpI6 R (i0)).2.hash.1.l.map bv) rfl (hcs_one _) (by show 0 < 32; decide) (by show 32 ≤ 16777216; decide) rfl rfl ?_)
   refine ⟨by exact subB, ?_⟩
   refine aOpsF_1 [32, 35] rfl rfl Kz rfl (AOp.append' (b := dwb (rpI6 R (i0)).1) (m := 1) (news := (rpI6 R (i0)).2.hash.1.l.map bv) rfl rfl rfl hpB (srcOf_grow (b := { cells := (rpI6 R (i0)).2.hash.1.l.map bv, elem := 65, kind := .grow, esz := 32 }) hpB rfl (hcs_one _).symm) rfl rfl rfl (hcs_len _).symm srcOk_sl (bv_one _) Wz Wz ?_)
   refine ⟨by exact subB, ?_⟩
   refine aOpsF_end ?_
   refine AnyA.float (Hq := (fun _ => none)) [] [6, 7] Kz (Nat.le_of_ble_eq_true rfl) Kz (sub_none _) ?_
   refine DrawF.done ?_
   show aOpsF _ _ _ _ _ _ [6, 7] ⟨_, _, _⟩
   refine aOpsF_1 [2] rfl rfl Kz rfl (AOp.fieldAddr' rfl Dz rfl ?_)
   refine ⟨sub_none _, ?_⟩
   refine aOpsF_0 [37, 36] rfl rfl Kz rfl (AOp.store1 (b := (Qz R (.slice (some ⟨kh, 0, some 1⟩) (rpI6 R (i0)).1.length (rpI6 R (i0)).1.length) (.slice As (rp3 R).1.length cs9) NIL)) rfl rfl rfl hpB rfl rfl rfl (by show 98 < (rpc _ _ _ _).length; rw [rpc_len]; decide) ?_)
   refine ⟨sub_none _, ?_⟩
   rw [(rpc_set _ _ _ _ _).1, ← hcs_snoc, hln6]
   refine aOpsF_end ?_
   refine Rz [0, 1] Kz rfl ?_
   refine Oz rfl rfl rfl (AOp.add rfl rfl rfl (i64_wrap Wz Wz) ?_)
   refine Mz ?_
   refine Ez ?_
   first | refine thenA_n ?_ | simp only [thenA, blockA, if_true]
   exact NextG.mk Wz Wz ((upd (upd (upd HLm km (some (dob (rpI6 R (i0)).2.hash.1))) kh (some (dwb ((rpI6 R (i0)).1 ++ [(rpI6 R (i0)).2.hash.1])))) k (some (Qz R (.slice (some ⟨kh, 0, some 1⟩) (rpI6 R (i0 + 1)).1.length (rpI6 R (i0 + 1)).1.length) (.slice As (rp3 R).1.length cs9) NIL)))) (.cons rfl .nil) Xz (by exact sub_refl _) ⟨upd_same _ _ _, Uz (Uz (Uz hrm)), Uz (Uz (Uz hgm)), Uz (upd_same _ _ _), sub_new (sub_new (sub_new hSm (hf km Wz)) (hf kh Wz)) hHk, sub_new (sub_new (sub_new hTm (hZq km Wz)) (hZq kh Wz)) hZk, ⟨evm, ((hRm.sub (sub_upd' (sub_refl _) (hfLm km (Nat.le_refl _)))).away Wz (hAw _ _ Wz) (Uz hWm) (by show (65 : Nat) ≠ 101; decide)).away Wz (hAw _ _ Wz) (Uz (Uz hbm)) (by show (71 : Nat) ≠ 101; decide)⟩⟩
  ·try simp only [Cz] at c0
   have hin : i0 = (rp5 R).1 := by omega
   have h6 : rp6 R = (rpI6 R (i0)) := by rw [hin]; rfl
   refine ACode.exit ?_
   first | refine thenA_n ?_ | simp only [thenA, blockA, if_true]
   exact ⟨(), has_append .nil Xz, (by (try dsimp only); exact by rw [h6]; exact ⟨kh, by omega, by omega, hbn, hrn, hgn, hWn, hSn, hTn, ⟨_, hRn⟩⟩)⟩
 ·show ACode _ _ _ _ _ ⟨_, _, _⟩
  obtain ⟨kh, hkhe, hkhp, hbp, hrp, hgp, hWp, hSp, hTp, ⟨evp, hRp⟩⟩ := hXp
  have hGp := hSp _ _ h2
  refine Sz ?_
  refine Sz ?_
  refine Rz [0, 1, 2] Kz rfl ?_
  refine Mz ?_
  refine Oz rfl rfl rfl ?_
  refine AOp.call' rfl rfl rfl (tcount _ _ hGp n d B evp (rp6 R).2 hRp ka hrp Wz (ka + 1) hgp Wz 1048576 Dz) ?_
  rintro _ HLj kj ⟨rfl, hPj⟩
  have hkj := hPj.1
  have hfLj := hPj.2.1
  have hsLj := hPj.2.2.1
  have hPjb := hPj
  obtain ⟨evj, hRj⟩ := hPjb.2.2.2
  have hnj := hRj.hn
  have thsLj := SubS.of hsLj
  have hbj : HLj k = some (Qz R (.slice (some ⟨kh, 0, some 1⟩) (rp6 R).1.length (rp6 R).1.length) (.slice As (rp3 R).1.length cs9) NIL) := hsLj _ _ (Uz hbp)
  have hrj : HLj ka = some (cRd n) := hsLj _ _ (Uz hrp)
  have hgj : HLj (ka + 1) = some (cGd ka) := hsLj _ _ (Uz hgp)
  have hWj : HLj kh = some (dwb (rp6 R).1) := hsLj _ _ (Uz hWp)
  have hSj : Ab.Sub H HLj := sub_thru hSp hHn hsLj
  have hGj : HLj 1 = some hBlk := hSj _ _ h2
  have hTj : Ab.Sub (cutR HLe kc ke) HLj := sub_thru hTp hZn hsLj
  have hRj : RdN HLj n B d evj (rp7 R).2 := hRj
  rw [show ((rp6 R).2.count 1048576).1 = (rp7 R).1 from rfl]
  have hn7 := (rp7_all hokR).2.1
  refine Nz ?_
  refine Ez ?_
  refine ACode.block ?_
  refine ACode.adoptC 84 38 Dz (n := k) (b := (Qz R (.slice (some ⟨kh, 0, some 1⟩) (rp6 R).1.length (rp6 R).1.length) (.slice As (rp3 R).1.length cs9) NIL)) (j := 100) hbj rfl (rpc_at _ _ _ _).2.2 ?_
  refine ACode.countG (γ := Hp × List Value) (fun i g => [(8, .int .i64 (((rp7 R).1 : Int) - (i : Int)))]) [(2, _), (3, _), (4, _), (5, _), (6, _), (7, _)] (fun i g => g.1) ((rp7 R).1) (fun i g => g.1 k = some (Qz R (.slice (some ⟨kh, 0, some 1⟩) (rp6 R).1.length (rp6 R).1.length) (.slice As (rp3 R).1.length cs9) (.slice (some ⟨kj, 0, some 1⟩) (rpI8 R (i)).1.length (rpI8 R (i)).1.length)) ∧ g.1 ka = some (cRd n) ∧ g.1 (ka + 1) = some (cGd ka) ∧ g.1 kh = some (dwb (rp6 R).1) ∧ g.1 kj = some (swb g.2) ∧ Ab.Sub H g.1 ∧ Ab.Sub (cutR HLe kc ke) g.1 ∧ (∃ ev, RdN g.1 n B d ev (rpI8 R (i)).2) ∧ rp8 R = runR (spStep (rp3 R).1) ((rp7 R).1 - i) (rpI8 R (i)) ∧ Sps (cutH g.1 (kj + 1)) g.2 (rpI8 R (i)).1) ((upd (upd HLj kj (some (swb []))) k (some (Qz R (.slice (some ⟨kh, 0, some 1⟩) (rp6 R).1.length (rp6 R).1.length) (.slice As (rp3 R).1.length cs9) (.slice (some ⟨kj, 0, some 1⟩) ([] : List Sp).length ([] : List Sp).length))), [])) (.cons (show _ = some (Value.int .i64 (((rp7 R).1 : Int) - ((0 : Nat) : Int))) by rw [show (((rp7 R).1 : Int) - ((0 : Nat) : Int)) = ((rp7 R).1 : Int) by omega]; rfl) .nil) Xz (by rw [(rpc_set _ _ _ _ _).2.2]; exact sub_refl _) ⟨upd_same _ _ _, Uz (Uz hrj), Uz (Uz hgj), Uz (Uz hWj), Uz (upd_same _ _ _), sub_new (sub_new hSj (hf kj Wz)) hHk, sub_new (sub_new hTj (hZq kj Wz)) hZk, ⟨evj, (hRj.sub (sub_upd' (sub_refl _) (hfLj kj (Nat.le_refl _)))).away Wz (hAw _ _ Wz) (Uz hbj) (by show (71 : Nat) ≠ 101; decide)⟩, rfl, Sps.nil⟩ (fun i1 g1 kL1 HL1 hiL1 hkL1 hsL1 hfL1 hxL1 => ?_)
  show ACode _ _ _ _ _ ⟨_, _, _⟩
  have tsL1 := SubS.of hsL1
  obtain ⟨hbi0, hri0, hgi0, hWi0, hVi0, hSi0, hTi0, ⟨evi0, hRi0⟩, hrun, hPi0⟩ := hxL1
  have hbi := hsL1 _ _ hbi0
  have hri := hsL1 _ _ hri0
  have hgi := hsL1 _ _ hgi0
  have hWi := hsL1 _ _ hWi0
  have hVi := hsL1 _ _ hVi0
  have hSi := sub_trans hSi0 hsL1
  have hTi := sub_trans hTi0 hsL1
  have hRi := hRi0.sub hsL1
  have hGi := hSi _ _ h2
  have hPi := hPi0.sub (cutH_mono hsL1)
  have hli := rpI8_len R i1
  have hpl : g1.2.length = (rpI8 R (i1)).1.length * 38 := hPi.len
  have hln8 : (rpI8 R (i1)).1.length + 1 = (rpI8 R (i1 + 1)).1.length := by rw [rpI8_len, rpI8_len]
  refine Sz ?_
  refine Sz ?_
  refine Rz [0, 1, 2, 3, 4, 5] Kz rfl ?_
  refine Mz ?_
  refine Oz rfl rfl rfl (AOp.bin' rfl rfl rfl rfl ?_)
  refine Mz ?_
  refine aOps_gd0 rfl rfl (wantT rfl rfl rfl) (fun hc => AOp.slots [(6, _)] (.cons rfl .nil) ((by refine AOp.load1 (b := ?b7) (v := ?v7) rfl rfl ?hn7 ?hv7 ?hR7; (case hn7 => exact hpB); (case hv7 => rfl); exact Tz))) ?_
  refine aOps_gd rfl rfl (wantT rfl rfl rfl) (fun hc => AOp.slots [(44, _)] (.cons (gvT rfl hc) .nil) (AOp.call' rfl rfl rfl (tgood _ _ hGi n d B evi0 (Pz R i1) hRi ka hri) Iz)) (fun kq hkq => ?_)
  refine Oz rfl rfl rfl (AOp.pickAnd rfl rfl rfl (fun hb => gvE rfl hb) ?_)
  refine Ez ?_
  refine ACode.cond rfl (fun c1 => ?_) (fun c1 => ?_)
  ·try simp only [Cz] at c1
   have c1b : i1 < (rp7 R).1 ∧ (Pz R i1).e = 0 := by simp at c1; omega
   refine ACode.skip ?_
   refine Sz ?_
   refine ACode.block ?_
   refine Sz ?_
   refine Rz [0, 1, 2] Kz rfl ?_
   refine Oz rfl rfl rfl ?_
   refine AOp.load1 (b := ?b8) (v := ?v8) rfl rfl ?hn8 ?hv8 ?hR8
   (case hn8 => exact hpB)
   (case hv8 => rfl)
   refine Oz rfl rfl rfl ?_
   refine AOp.call' rfl rfl rfl (nfix1 _ _ n d B evi0 (Pz R i1) hRi) ?_
   rintro _ HLq kq ⟨rfl, hPq⟩
   have hkq := hPq.1
   have hfLq := hPq.2.1
   have hsLq := hPq.2.2.1
   have hPqb := hPq
   obtain ⟨evq, hRq⟩ := hPqb.2.2.2
   have hnq := hRq.hn
   have thsLq := SubS.of hsLq
   have hbq : HLq k = some (Qz R (.slice (some ⟨kh, 0, some 1⟩) (rp6 R).1.length (rp6 R).1.length) (.slice As (rp3 R).1.length cs9) (.slice (some ⟨kj, 0, some 1⟩) (rpI8 R (i1)).1.length (rpI8 R (i1)).1.length)) := hsLq _ _ (Uz hbi)
   have hrq : HLq ka = some (cRd n) := hsLq _ _ (Uz hri)
   have hgq : HLq (ka + 1) = some (cGd ka) := hsLq _ _ (Uz hgi)
   have hWq : HLq kh = some (dwb (rp6 R).1) := hsLq _ _ (Uz hWi)
   have hVq : HLq kj = some (swb g1.2) := hsLq _ _ (Uz hVi)
   have hSq : Ab.Sub H HLq := sub_thru hSi hHn hsLq
   have hGq : HLq 1 = some hBlk := hSq _ _ h2
   have hTq : Ab.Sub (cutR HLe kc ke) HLq := sub_thru hTi hZn hsLq
   have hRq : RdN HLq n B d evq (Pz R i1).fix1.2 := hRq
   have hPq := hPi.sub (cutH_by hsLq Wz)
   refine Nz ?_
   refine Ez ?_
   refine ACode.meet (γ := Unit) (fun g => []) [(2, _), (3, _), (4, _), (5, _), (6, _), (7, _), (8, _), (9, _), (41, _), (42, _), (43, _), (44, _), (45, _), (46, _), (49, _), (50, _)] Xz (fun g H' k' => H' k = some (Qz R (.slice (some ⟨kh, 0, some 1⟩) (rp6 R).1.length (rp6 R).1.length) (.slice As (rp3 R).1.length cs9) (.slice (some ⟨kj, 0, some 1⟩) (rpI8 R (i1)).1.length (rpI8 R (i1)).1.length)) ∧ H' ka = some (cRd n) ∧ H' (ka + 1) = some (cGd ka) ∧ H' kh = some (dwb (rp6 R).1) ∧ H' kj = some (swb g1.2) ∧ Ab.Sub H H' ∧ Ab.Sub (cutR HLe kc ke) H' ∧ (∃ ev, RdN H' n B d ev (Pz R i1).opn) ∧ Sps (cutH H' (kj + 1)) g1.2 (rpI8 R (i1)).1 ∧ kj < k') ?_ (fun g HLv kv hfLv hXv => ?_)
   ·show ACode _ _ _ _ _ _
    refine Sz ?_
    refine Rz [0, 1] Kz rfl ?_
    refine Mz ?_
    refine Oz rfl rfl rfl (AOp.bin' rfl rfl rfl rfl ?_)
    refine Ez ?_
    refine ACode.cond rfl (fun c2 => ?_) (fun c2 => ?_)
    ·try simp only [Cz] at c2
     have hbig : (Pz R i1).fix1.1 > 1 := by omega
     refine Rz [0, 1] Kz rfl ?_
     refine Oz rfl rfl rfl ?_
     refine AOp.load1 (b := ?b9) (v := ?v9) rfl rfl ?hn9 ?hv9 ?hR9
     (case hn9 => exact hpB)
     (case hv9 => rfl)
     refine Oz rfl rfl rfl ?_
     refine AOp.call' rfl rfl rfl (nfail _ _ n d B evq (Pz R i1).fix1.2 hRq 4 Dz Dz) ?_
     rintro _ HLu ku ⟨rfl, hPu⟩
     have hku := hPu.1
     have hfLu := hPu.2.1
     have hsLu := hPu.2.2.1
     have hPub := hPu
     obtain ⟨evu, hRu⟩ := hPub.2.2.2
     have hnu := hRu.hn
     have thsLu := SubS.of hsLu
     have hbu : HLu k = some (Qz R (.slice (some ⟨kh, 0, some 1⟩) (rp6 R).1.length (rp6 R).1.length) (.slice As (rp3 R).1.length cs9) (.slice (some ⟨kj, 0, some 1⟩) (rpI8 R (i1)).1.length (rpI8 R (i1)).1.length)) := hsLu _ _ (Uz hbq)
     have hru : HLu ka = some (cRd n) := hsLu _ _ (Uz hrq)
     have hgu : HLu (ka + 1) = some (cGd ka) := hsLu _ _ (Uz hgq)
     have hWu : HLu kh = some (dwb (rp6 R).1) := hsLu _ _ (Uz hWq)
     have hVu : HLu kj = some (swb g1.2) := hsLu _ _ (Uz hVq)
     have hSu : Ab.Sub H HLu := sub_thru hSq hHn hsLu
     have hGu : HLu 1 = some hBlk := hSu _ _ h2
     have hTu : Ab.Sub (cutR HLe kc ke) HLu := sub_thru hTq hZn hsLu
     have hRu : RdN HLu n B d evu ((Pz R i1).fix1.2.fail 4) := hRu
     have hPu := hPq.sub (cutH_by hsLu Wz)
     refine Ez ?_
     rw [Rd.opn_t hbig]
     first | refine thenA_n ?_ | simp only [thenA, blockA, if_true]
     exact ⟨(), has_append .nil Xz, (by (try dsimp only); exact ⟨hbu, hru, hgu, hWu, hVu, hSu, hTu, ⟨evu, hRu⟩, hPu, by omega⟩)⟩
    ·try simp only [Cz] at c2
     have hbig : ¬ (Pz R i1).fix1.1 > 1 := by omega
     refine ACode.skip ?_
     rw [Rd.opn_f hbig]
     first | refine thenA_n ?_ | simp only [thenA, blockA, if_true]
     exact ⟨(), has_append .nil Xz, (by (try dsimp only); exact ⟨hbq, hrq, hgq, hWq, hVq, hSq, hTq, ⟨evq, hRq⟩, hPq, by omega⟩)⟩
   ·show ACode _ _ _ _ _ ⟨_, _, _⟩
    obtain ⟨hbv, hrv, hgv, hWv, hVv, hSv, hTv, ⟨evv, hRv⟩, hPv, hkjv⟩ := hXv
    have hGv := hSv _ _ h2
    refine Sz ?_
    refine Rz [0, 1, 2, 3, 4, 5, 6, 7, 8] Kz rfl ?_
    refine Oz rfl rfl rfl ?_
    refine AOp.load1 (b := ?b10) (v := ?v10) rfl rfl ?hn10 ?hv10 ?hR10
    (case hn10 => exact hpB)
    (case hv10 => rfl)
    refine Fz ?_
    refine Oz rfl rfl rfl (AOp.load1 (b := (Qz R (.slice (some ⟨kh, 0, some 1⟩) (rp6 R).1.length (rp6 R).1.length) (.slice As (rp3 R).1.length cs9) (.slice (some ⟨kj, 0, some 1⟩) (rpI8 R (i1)).1.length (rpI8 R (i1)).1.length))) (v := (.slice As (rp3 R).1.length cs9)) rfl rfl hbv (rpc_at _ _ _ _).2.1 ?_)
    refine Oz rfl rfl rfl ?_
    refine AOp.call' rfl rfl rfl (ntakeH _ _ hGv n d B evv (Pz R i1).opn hRv (rp3 R).1 As cs9 (hsch.sub hTv) hCn hcl) ?_
    rintro _ HLw kw ⟨⟨A1, d1, rfl, hh1, hh1a⟩, hPw⟩
    have hkw := hPw.1
    have hfLw := hPw.2.1
    have hsLw := hPw.2.2.1
    have hPwb := hPw
    obtain ⟨evw, hRw⟩ := hPwb.2.2.2
    have hnw := hRw.hn
    have thsLw := SubS.of hsLw
    have hbw : HLw k = some (Qz R (.slice (some ⟨kh, 0, some 1⟩) (rp6 R).1.length (rp6 R).1.length) (.slice As (rp3 R).1.length cs9) (.slice (some ⟨kj, 0, some 1⟩) (rpI8 R (i1)).1.length (rpI8 R (i1)).1.length)) := hsLw _ _ (Uz hbv)
    have hrw : HLw ka = some (cRd n) := hsLw _ _ (Uz hrv)
    have hgw : HLw (ka + 1) = some (cGd ka) := hsLw _ _ (Uz hgv)
    have hWw : HLw kh = some (dwb (rp6 R).1) := hsLw _ _ (Uz hWv)
    have hVw : HLw kj = some (swb g1.2) := hsLw _ _ (Uz hVv)
    have hSw : Ab.Sub H HLw := sub_thru hSv hHn hsLw
    have hGw : HLw 1 = some hBlk := hSw _ _ h2
    have hTw : Ab.Sub (cutR HLe kc ke) HLw := sub_thru hTv hZn hsLw
    have hRw : RdN HLw n B d evw (Az R i1).2 := hRw
    have hPw := hPv.sub (cutH_by hsLw Wz)
    have hHw : SLC (cutH HLw (kj + 1)) 40 A1 (Az R i1).1.cols.length d1 (chs (Az R i1).1.cols) := SLC.newH hh1 hh1a Wz
    refine Mz ?_
    refine Oz rfl rfl rfl (AOp.bin' (z := .bool (decide ((Pz R i1).fix1.1 = 1))) rfl rfl rfl (congrArg (fun b => some (Value.bool b)) (eqI (y := 1))) ?_)
    refine Oz rfl rfl rfl (AOp.buildS (cells := (spc ⟨(Az R i1).1, (decide ((Pz R i1).fix1.1 = 1)), [], []⟩ (.slice A1 (Az R i1).1.cols.length d1) NIL NIL).toArray) rfl rfl (by refine (fill_cons (hdc (Az R i1).1 (.slice A1 (Az R i1).1.cols.length d1)) rfl rfl (hdc_len _ _) (Nat.le_of_ble_eq_true rfl)).trans ?_; refine (fill_cons [.bool (decide ((Pz R i1).fix1.1 = 1))] rfl rfl rfl (show 35 + 1 ≤ (putL (hdc hdD (.slice none 0 0) ++ [.bool false, .slice none 0 0, .slice none 0 0]) 0 (hdc (Az R i1).1 (.slice A1 (Az R i1).1.cols.length d1))).toArray.size from by rw [List.size_toArray, sp_put0 _ false rfl]; decide)).trans ?_; exact congrArg (fun l : List Value => some l.toArray) (sp_fill _ false rfl _ _ _)) ?_)
    refine Oz rfl rfl rfl (AOp.alloc' rfl ?_)
    refine aOps_0 rfl rfl rfl ?_
    refine AOp.storeAll (b := ?b11) rfl rfl rfl ?hn11 ?hk11 rfl ?hw11 ?ho11 ?hl11 ?hR11
    (case hn11 => exact hpB)
    (case hk11 => rfl)
    (case hw11 => first | rfl | exact hv_size _ | exact one_bv _ | exact entv_size _ | exact entc_one _ | exact rpv_size _ _ _ _ | exact spv_size _ _ _ _ | exact spc_one _ _ _ _ rfl rfl rfl | exact rp_one _ _ _ _ rfl rfl rfl | (simp; done))
    (case ho11 => first | rfl | exact hv_size _ | exact one_bv _ | exact entv_size _ | exact entc_one _ | exact rpv_size _ _ _ _ | exact spv_size _ _ _ _ | exact spc_one _ _ _ _ rfl rfl rfl | exact rp_one _ _ _ _ rfl rfl rfl | decide | (simp; done))
    (case hl11 => first | rfl | exact hv_size _ | exact one_bv _ | exact entv_size _ | exact entc_one _ | exact rpv_size _ _ _ _ | exact spv_size _ _ _ _ | exact spc_one _ _ _ _ rfl rfl rfl | exact rp_one _ _ _ _ rfl rfl rfl | (simp; done))
    rw [rd_upd2]
    refine Ez ?_
    refine ACode.meet (γ := Unit) (fun g => []) [(2, _), (3, _), (4, _), (5, _), (6, _), (7, _), (8, _), (9, _), (10, _), (41, _), (42, _), (43, _), (44, _), (45, _), (46, _), (49, _), (50, _), (55, _), (56, _), (57, _), (58, _), (59, _), (60, _), (61, _)] Xz (fun g H' k' => ∃ s1 s2 s3, H' kw = some (spblk ((Pz R i1).ship (rp3 R).1).1 s1 s2 s3) ∧ SpC (cutH H' (kj + 1)) ((Pz R i1).ship (rp3 R).1).1 (spc ((Pz R i1).ship (rp3 R).1).1 s1 s2 s3) ∧ s1.oneCell' = true ∧ s2.oneCell' = true ∧ s3.oneCell' = true ∧ kw < k' ∧ H' k = some (Qz R (.slice (some ⟨kh, 0, some 1⟩) (rp6 R).1.length (rp6 R).1.length) (.slice As (rp3 R).1.length cs9) (.slice (some ⟨kj, 0, some 1⟩) (rpI8 R (i1)).1.length (rpI8 R (i1)).1.length)) ∧ H' ka = some (cRd n) ∧ H' (ka + 1) = some (cGd ka) ∧ H' kh = some (dwb (rp6 R).1) ∧ H' kj = some (swb g1.2) ∧ Ab.Sub H H' ∧ Ab.Sub (cutR HLe kc ke) H' ∧ (∃ ev, RdN H' n B d ev ((Pz R i1).ship (rp3 R).1).2) ∧ Sps (cutH H' (kj + 1)) g1.2 (rpI8 R (i1)).1) ?_ (fun g HLo ko hfLo hXo => ?_)
    ·show ACode _ _ _ _ _ _
     refine Sz ?_
     have hbs : (upd HLw kw (some (Yz R i1 A1 d1 NIL NIL))) k = some (Qz R (.slice (some ⟨kh, 0, some 1⟩) (rp6 R).1.length (rp6 R).1.length) (.slice As (rp3 R).1.length cs9) (.slice (some ⟨kj, 0, some 1⟩) (rpI8 R (i1)).1.length (rpI8 R (i1)).1.length)) := Uz hbw
     have hrs : (upd HLw kw (some (Yz R i1 A1 d1 NIL NIL))) ka = some (cRd n) := Uz hrw
     have hgs : (upd HLw kw (some (Yz R i1 A1 d1 NIL NIL))) (ka + 1) = some (cGd ka) := Uz hgw
     have hWs : (upd HLw kw (some (Yz R i1 A1 d1 NIL NIL))) kh = some (dwb (rp6 R).1) := Uz hWw
     have hVs : (upd HLw kw (some (Yz R i1 A1 d1 NIL NIL))) kj = some (swb g1.2) := Uz hVw
     have hss : (upd HLw kw (some (Yz R i1 A1 d1 NIL NIL))) kw = some (Yz R i1 A1 d1 NIL NIL) := upd_same _ _ _
     have hSs : Ab.Sub H (upd HLw kw (some (Yz R i1 A1 d1 NIL NIL))) := sub_new hSw (hf kw Wz)
     have hGs : (upd HLw kw (some (Yz R i1 A1 d1 NIL NIL))) 1 = some hBlk := hSs _ _ h2
     have hTs : Ab.Sub (cutR HLe kc ke) (upd HLw kw (some (Yz R i1 A1 d1 NIL NIL))) := sub_new hTw (hZq kw Wz)
     have hRs : RdN (upd HLw kw (some (Yz R i1 A1 d1 NIL NIL))) n B d evw (Az R i1).2 := hRw.sub (sub_upd' (sub_refl _) (hfLw kw (Nat.le_refl _)))
     have hPs := (hPw.sub (cutK_in (q := kw) (hfLw kw (Nat.le_refl _)))).sub (sub_eq (cutK_set (b := some (Yz R i1 A1 d1 NIL NIL))).symm)
     have hHs := (hHw.sub (cutK_in (q := kw) (hfLw kw (Nat.le_refl _)))).sub (sub_eq (cutK_set (b := some (Yz R i1 A1 d1 NIL NIL))).symm)
     refine Rz [0, 1] Kz rfl ?_
     refine Fz ?_
     refine Oz rfl rfl rfl (AOp.load1 (b := (Yz R i1 A1 d1 NIL NIL)) (v := .bool (decide ((Pz R i1).fix1.1 = 1))) rfl rfl hss (spc_at _ _ _ _).1 ?_)
     refine Ez ?_
     refine ACode.cond rfl (fun c3 => ?_) (fun c3 => ?_)
     ·try simp only [Cz] at c3
      have hone : (Pz R i1).fix1.1 = 1 := by simpa using c3
      refine Sz ?_
      refine Rz [0, 1, 2, 3] Kz rfl ?_
      refine Oz rfl rfl rfl ?_
      refine AOp.load1 (b := ?b12) (v := ?v12) rfl rfl ?hn12 ?hv12 ?hR12
      (case hn12 => exact hpB)
      (case hv12 => rfl)
      refine Oz rfl rfl rfl ?_
      refine AOp.call' rfl rfl rfl (nblob _ _ n d B evw (Az R i1).2 hRs 65536 Dz) ?_
      rintro _ HLx kx ⟨⟨A2, d2, rfl, hd2, hd2a⟩, hPx⟩
      have hkx := hPx.1
      have hfLx := hPx.2.1
      have hsLx := hPx.2.2.1
      have hPxb := hPx
      obtain ⟨evx, hRx⟩ := hPxb.2.2.2
      have hnx := hRx.hn
      have thsLx := SubS.of hsLx
      have hbx : HLx k = some (Qz R (.slice (some ⟨kh, 0, some 1⟩) (rp6 R).1.length (rp6 R).1.length) (.slice As (rp3 R).1.length cs9) (.slice (some ⟨kj, 0, some 1⟩) (rpI8 R (i1)).1.length (rpI8 R (i1)).1.length)) := hsLx _ _ (Uz hbs)
      have hrx : HLx ka = some (cRd n) := hsLx _ _ (Uz hrs)
      have hgx : HLx (ka + 1) = some (cGd ka) := hsLx _ _ (Uz hgs)
      have hWx : HLx kh = some (dwb (rp6 R).1) := hsLx _ _ (Uz hWs)
      have hVx : HLx kj = some (swb g1.2) := hsLx _ _ (Uz hVs)
      have hsx : HLx kw = some (Yz R i1 A1 d1 NIL NIL) := hsLx _ _ (Uz hss)
      have hSx : Ab.Sub H HLx := sub_thru hSs hHn hsLx
      have hGx : HLx 1 = some hBlk := hSx _ _ h2
      have hTx : Ab.Sub (cutR HLe kc ke) HLx := sub_thru hTs hZn hsLx
      have hRx : RdN HLx n B d evx (Bz R i1).2 := hRx
      have hPx := hPs.sub (cutK_by hsLx Wz)
      have hHx := hHs.sub (cutK_by hsLx Wz)
      have hEx : SLC (cutK HLx kw (kj + 1)) 1 A2 (Bz R i1).1.length d2 ((Bz R i1).1.map bv) := SLC.sub (SLC.newH (w := kw + 1) hd2 hd2a Wz) (cutH_K Wz)
      refine Fz ?_
      refine aOps_0 rfl rfl rfl (AOp.store1 (b := (Yz R i1 A1 d1 NIL NIL)) rfl rfl rfl hsx rfl rfl rfl (by show 36 < (spc _ _ _ _).length; rw [spc_len]; decide) ?_)
      rw [(spc_set _ _ _ _ _).1]
      refine Ez ?_
      refine Sz ?_
      have hbt : (upd HLx kw (some (Yz R i1 A1 d1 (.slice A2 (Bz R i1).1.length d2) NIL))) k = some (Qz R (.slice (some ⟨kh, 0, some 1⟩) (rp6 R).1.length (rp6 R).1.length) (.slice As (rp3 R).1.length cs9) (.slice (some ⟨kj, 0, some 1⟩) (rpI8 R (i1)).1.length (rpI8 R (i1)).1.length)) := Uz hbx
      have hrt : (upd HLx kw (some (Yz R i1 A1 d1 (.slice A2 (Bz R i1).1.length d2) NIL))) ka = some (cRd n) := Uz hrx
      have hgt : (upd HLx kw (some (Yz R i1 A1 d1 (.slice A2 (Bz R i1).1.length d2) NIL))) (ka + 1) = some (cGd ka) := Uz hgx
      have hWt : (upd HLx kw (some (Yz R i1 A1 d1 (.slice A2 (Bz R i1).1.length d2) NIL))) kh = some (dwb (rp6 R).1) := Uz hWx
      have hVt : (upd HLx kw (some (Yz R i1 A1 d1 (.slice A2 (Bz R i1).1.length d2) NIL))) kj = some (swb g1.2) := Uz hVx
      have hst : (upd HLx kw (some (Yz R i1 A1 d1 (.slice A2 (Bz R i1).1.length d2) NIL))) kw = some (Yz R i1 A1 d1 (.slice A2 (Bz R i1).1.length d2) NIL) := upd_same _ _ _
      have hSt : Ab.Sub H (upd HLx kw (some (Yz R i1 A1 d1 (.slice A2 (Bz R i1).1.length d2) NIL))) := sub_new hSx (hf kw Wz)
      have hGt : (upd HLx kw (some (Yz R i1 A1 d1 (.slice A2 (Bz R i1).1.length d2) NIL))) 1 = some hBlk := hSt _ _ h2
      have hTt : Ab.Sub (cutR HLe kc ke) (upd HLx kw (some (Yz R i1 A1 d1 (.slice A2 (Bz R i1).1.length d2) NIL))) := sub_new hTx (hZq kw Wz)
      have hRt : RdN (upd HLx kw (some (Yz R i1 A1 d1 (.slice A2 (Bz R i1).1.length d2) NIL))) n B d evx (Bz R i1).2 := hRx.away Wz (hAw _ _ Wz) hsx (by show (84 : Nat) ≠ 101; decide)
      have hPt := hPx.sub (sub_eq (cutK_set (b := some (Yz R i1 A1 d1 (.slice A2 (Bz R i1).1.length d2) NIL))).symm)
      have hHt := hHx.sub (sub_eq (cutK_set (b := some (Yz R i1 A1 d1 (.slice A2 (Bz R i1).1.length d2) NIL))).symm)
      have hEt := hEx.sub (sub_eq (cutK_set (b := some (Yz R i1 A1 d1 (.slice A2 (Bz R i1).1.length d2) NIL))).symm)
      refine Rz [0, 1, 2] Kz rfl ?_
      refine Mz ?_
      refine Oz rfl rfl rfl ?_
      refine AOp.call' rfl rfl rfl (tcount _ _ hGt n d B evx (Bz R i1).2 hRt ka hrt Wz (ka + 1) hgt Wz 64 Dz) ?_
      rintro _ HLy ky ⟨rfl, hPy⟩
      have hky := hPy.1
      have hfLy := hPy.2.1
      have hsLy := hPy.2.2.1
      have hPyb := hPy
      obtain ⟨evy, hRy⟩ := hPyb.2.2.2
      have hny := hRy.hn
      have thsLy := SubS.of hsLy
      have hby : HLy k = some (Qz R (.slice (some ⟨kh, 0, some 1⟩) (rp6 R).1.length (rp6 R).1.length) (.slice As (rp3 R).1.length cs9) (.slice (some ⟨kj, 0, some 1⟩) (rpI8 R (i1)).1.length (rpI8 R (i1)).1.length)) := hsLy _ _ (Uz hbt)
      have hry : HLy ka = some (cRd n) := hsLy _ _ (Uz hrt)
      have hgy : HLy (ka + 1) = some (cGd ka) := hsLy _ _ (Uz hgt)
      have hWy : HLy kh = some (dwb (rp6 R).1) := hsLy _ _ (Uz hWt)
      have hVy : HLy kj = some (swb g1.2) := hsLy _ _ (Uz hVt)
      have hsy : HLy kw = some (Yz R i1 A1 d1 (.slice A2 (Bz R i1).1.length d2) NIL) := hsLy _ _ (Uz hst)
      have hSy : Ab.Sub H HLy := sub_thru hSt hHn hsLy
      have hGy : HLy 1 = some hBlk := hSy _ _ h2
      have hTy : Ab.Sub (cutR HLe kc ke) HLy := sub_thru hTt hZn hsLy
      have hRy : RdN HLy n B d evy (Gz R i1).2 := hRy
      have hPy := hPt.sub (cutK_by hsLy Wz)
      have hHy := hHt.sub (cutK_by hsLy Wz)
      have hEy := hEt.sub (cutK_by hsLy Wz)
      rw [show ((Bz R i1).2.count 64).1 = (Gz R i1).1 from rfl]
      have hnc : (Gz R i1).1 ≤ 64 := Rd.count_le _ _
      have hDy : Ab.Sub (cutK HLy kw (kj + 1)) HLy := sub_trans cutK_sub cutH_sub
      have hZDn : (cutK HLy kw (kj + 1)) n = none := cutK_lt Wz
      have hZDq : ∀ m, ky ≤ m → (cutK HLy kw (kj + 1)) m = none := fun m hm => cutK_no (hfLy m hm)
      refine Mz ?_
      refine Ez ?_
      refine ACode.block ?_
      refine ACode.adoptC 22 1 Dz (n := kw) (b := (Yz R i1 A1 d1 (.slice A2 (Bz R i1).1.length d2) NIL)) (j := 37) hsy rfl (spc_at _ _ _ _).2.2 ?_
      refine ACode.countG (γ := Hp × List Value) (fun i g => [(69, .int .i64 (i : Int))]) [(2, _), (3, _), (4, _), (5, _), (6, _), (7, _), (8, _), (9, _), (10, _), (41, _), (42, _), (43, _), (44, _), (45, _), (46, _), (49, _), (50, _), (55, _), (56, _), (57, _), (58, _), (59, _), (60, _), (61, _), (62, _), (63, _), (64, _), (65, _), (66, _), (67, _), (68, _)] (fun i g => g.1) ((Gz R i1).1) (fun i g => g.1 k = some (Qz R (.slice (some ⟨kh, 0, some 1⟩) (rp6 R).1.length (rp6 R).1.length) (.slice As (rp3 R).1.length cs9) (.slice (some ⟨kj, 0, some 1⟩) (rpI8 R (i1)).1.length (rpI8 R (i1)).1.length)) ∧ g.1 ka = some (cRd n) ∧ g.1 (ka + 1) = some (cGd ka) ∧ g.1 kh = some (dwb (rp6 R).1) ∧ g.1 kj = some (swb g1.2) ∧ g.1 kw = some (Yz R i1 A1 d1 (.slice A2 (Bz R i1).1.length d2) (.slice (some ⟨ky, 0, some 1⟩) g.2.length g.2.length)) ∧ g.1 ky = some (kwb g.2) ∧ Ab.Sub H g.1 ∧ Ab.Sub (cutR HLe kc ke) g.1 ∧ (∃ ev, RdN g.1 n B d ev (shI (rp3 R).1 (Pz R i1) (i)).2) ∧ Ab.Sub (cutK HLy kw (kj + 1)) g.1 ∧ Bws (cutH g.1 (ky + 1)) g.2 (shI (rp3 R).1 (Pz R i1) (i)).1) ((upd (upd HLy ky (some (kwb []))) kw (some (Yz R i1 A1 d1 (.slice A2 (Bz R i1).1.length d2) (.slice (some ⟨ky, 0, some 1⟩) ([] : List Value).length ([] : List Value).length))), [])) (.cons rfl .nil) Xz (by rw [(spc_set _ _ _ _ _).2]; exact sub_refl _) ⟨Uz (Uz hby), Uz (Uz hry), Uz (Uz hgy), Uz (Uz hWy), Uz (Uz hVy), upd_same _ _ _, Uz (upd_same _ _ _), sub_new (sub_new hSy (hf ky Wz)) (hf kw Wz), sub_new (sub_new hTy (hZq ky Wz)) (hZq kw Wz), ⟨evy, (hRy.sub (sub_upd' (sub_refl _) (hfLy ky (Nat.le_refl _)))).away Wz (hAw _ _ Wz) (Uz hsy) (by show (84 : Nat) ≠ 101; decide)⟩, sub_new (sub_new hDy (hZDq ky (Nat.le_refl _))) cutK_at, Bws.nil⟩ (fun i2 g2 kL2 HL2 hiL2 hkL2 hsL2 hfL2 hxL2 => ?_)
      show ACode _ _ _ _ _ ⟨_, _, _⟩
      have tsL2 := SubS.of hsL2
      obtain ⟨hbl0, hrl0, hgl0, hWl0, hVl0, hsl0, hYl0, hSl0, hTl0, ⟨evl0, hRl0⟩, hDl0, hKl0⟩ := hxL2
      have hbl := hsL2 _ _ hbl0
      have hrl := hsL2 _ _ hrl0
      have hgl := hsL2 _ _ hgl0
      have hWl := hsL2 _ _ hWl0
      have hVl := hsL2 _ _ hVl0
      have hsl := hsL2 _ _ hsl0
      have hYl := hsL2 _ _ hYl0
      have hSl := sub_trans hSl0 hsL2
      have hTl := sub_trans hTl0 hsL2
      have hRl := hRl0.sub hsL2
      have hGl := hSl _ _ h2
      have hDl := sub_trans hDl0 hsL2
      have hKl := hKl0.sub (cutH_mono hsL2)
      have hkl9 : g2.2.length = i2 := hKl.len.trans (shI_len _ _ _)
      have hlk : ∀ z : Value, g2.2.length + 1 = (g2.2 ++ [z]).length := fun z => by rw [List.length_append]; rfl
      refine Sz ?_
      refine Rz [0] Kz rfl ?_
      refine Oz rfl rfl rfl (AOp.bin' rfl rfl rfl rfl ?_)
      refine Ez ?_
      refine Sz ?_
      refine ACode.cond rfl (fun c4 => ?_) (fun c4 => ?_)
      ·try simp only [Cz] at c4
       have hic : i2 < (Gz R i1).1 := by omega
       refine ACode.skip ?_
       refine Sz ?_
       refine ACode.block ?_
       refine ACode.any mixed Kz ?_
       refine AnyA.split 6 Kz Kz Dz Dz (Nat.le_of_ble_eq_true rfl) ?_
       refine AnyA.float (Hq := (upd (upd (fun _ => none) kw (some (Yz R i1 A1 d1 (.slice A2 (Bz R i1).1.length d2) (.slice (some ⟨ky, 0, some 1⟩) g2.2.length g2.2.length)))) ka (some (cRd n)))) [(0, 71), (1, 72), (2, 73)] [3, 4, 5] Kz (Nat.le_of_ble_eq_true rfl) Kz subB ?_
       refine DrawF.q 0 71 [(10, none)] rfl Kz rfl (fun Hc kq hSb => AOp.fieldAddr' rfl Dz rfl Tz) ?_
       refine DrawF.q 1 72 [(71, some 0)] rfl Kz rfl (fun Hc kq hSb => have tSb := SubS.of hSb; AOp.load1 (b := (Yz R i1 A1 d1 (.slice A2 (Bz R i1).1.length d2) (.slice (some ⟨ky, 0, some 1⟩) g2.2.length g2.2.length))) (v := (.slice (some ⟨ky, 0, some 1⟩) g2.2.length g2.2.length)) rfl rfl hpB (spc_at _ _ _ _).2.2 Tz) ?_
       refine DrawF.q 2 73 [(5, none)] rfl Kz rfl (fun Hc kq hSb => have tSb := SubS.of hSb; (by refine AOp.load1 (b := ?b13) (v := ?v13) rfl rfl ?hn13 ?hv13 ?hR13; (case hn13 => exact hpB); (case hv13 => rfl); exact Tz)) ?_
       refine DrawF.done ?_
       show aOpsF _ _ _ _ _ _ [3, 4, 5] ⟨_, _, _⟩
       refine aOpsF_1 [73] rfl rfl Kz rfl ?_
       refine AOp.call' rfl rfl rfl (nblob _ _ n d B evl0 (shI (rp3 R).1 (Pz R i1) (i2)).2 hRl 16777216 Dz) ?_
       rintro _ HLz kz ⟨⟨A3, d3, rfl, hd3, hd3a⟩, hPz⟩
       have hkz := hPz.1
       have hfLz := hPz.2.1
       have hsLz := hPz.2.2.1
       have hPzb := hPz
       obtain ⟨evz, hRz⟩ := hPzb.2.2.2
       have hnz := hRz.hn
       have thsLz := SubS.of hsLz
       have hbz : HLz k = some (Qz R (.slice (some ⟨kh, 0, some 1⟩) (rp6 R).1.length (rp6 R).1.length) (.slice As (rp3 R).1.length cs9) (.slice (some ⟨kj, 0, some 1⟩) (rpI8 R (i1)).1.length (rpI8 R (i1)).1.length)) := hsLz _ _ (Uz hbl)
       have hrz : HLz ka = some (cRd n) := hsLz _ _ (Uz hrl)
       have hgz : HLz (ka + 1) = some (cGd ka) := hsLz _ _ (Uz hgl)
       have hWz : HLz kh = some (dwb (rp6 R).1) := hsLz _ _ (Uz hWl)
       have hVz : HLz kj = some (swb g1.2) := hsLz _ _ (Uz hVl)
       have hsz : HLz kw = some (Yz R i1 A1 d1 (.slice A2 (Bz R i1).1.length d2) (.slice (some ⟨ky, 0, some 1⟩) g2.2.length g2.2.length)) := hsLz _ _ (Uz hsl)
       have hYz : HLz ky = some (kwb g2.2) := hsLz _ _ (Uz hYl)
       have hSz : Ab.Sub H HLz := sub_thru hSl hHn hsLz
       have hGz : HLz 1 = some hBlk := hSz _ _ h2
       have hTz : Ab.Sub (cutR HLe kc ke) HLz := sub_thru hTl hZn hsLz
       have hRz : RdN HLz n B d evz (shI (rp3 R).1 (Pz R i1) (i2 + 1)).2 := hRz
       have hDz : Ab.Sub (cutK HLy kw (kj + 1)) HLz := sub_thru hDl hZDn hsLz
       have hKz := hKl.sub (cutH_by hsLz Wz)
       have hBz : SLC (cutH HLz (ky + 1)) 1 A3 (Lz R i1 i2).1.length d3 ((Lz R i1 i2).1.map bv) := SLC.newH hd3 hd3a Wz
       refine ⟨by exact subB, ?_⟩
       refine aOpsF_1 [74] rfl rfl Kz rfl (AOp.buildG1 (vals := [_]) rfl Dz rfl rfl (by intro u hu; simp at hu; first | (rcases hu with rfl | rfl | rfl <;> rfl) | (rcases hu with rfl | rfl <;> rfl) | (subst hu; rfl) | (rcases hu with rfl | rfl | rfl | rfl <;> rfl)) ?_)
       refine ⟨by exact subB, ?_⟩
       refine aOpsF_1 [72, 75] rfl rfl Kz rfl (AOp.append' (b := kwb g2.2) (m := 1) (news := [(Value.slice A3 (Lz R i1 i2).1.length d3)]) rfl rfl rfl hpB (srcOf_grow (b := kwb [(Value.slice A3 (Lz R i1 i2).1.length d3)]) hpB rfl rfl) rfl rfl rfl (Nat.mul_one _) srcOk_sl (by intro u hu; rw [List.mem_singleton.1 hu]; rfl) Wz Wz ?_)
       refine ⟨by exact subB, ?_⟩
       refine aOpsF_end ?_
       refine AnyA.float (Hq := (fun _ => none)) [] [6, 7] Kz (Nat.le_of_ble_eq_true rfl) Kz (sub_none _) ?_
       refine DrawF.done ?_
       show aOpsF _ _ _ _ _ _ [6, 7] ⟨_, _, _⟩
       refine aOpsF_1 [10] rfl rfl Kz rfl (AOp.fieldAddr' rfl Dz rfl ?_)
       refine ⟨sub_none _, ?_⟩
       refine aOpsF_0 [77, 76] rfl rfl Kz rfl (AOp.store1 (b := (Yz R i1 A1 d1 (.slice A2 (Bz R i1).1.length d2) (.slice (some ⟨ky, 0, some 1⟩) g2.2.length g2.2.length))) rfl rfl rfl hpB rfl rfl rfl (by show 37 < (spc _ _ _ _).length; rw [spc_len]; decide) ?_)
       refine ⟨sub_none _, ?_⟩
       rw [(spc_set _ _ _ _ _).2, hlk (Value.slice A3 (Lz R i1 i2).1.length d3)]
       refine aOpsF_end ?_
       refine Rz [0, 1] Kz rfl ?_
       refine Oz rfl rfl rfl (AOp.add rfl rfl rfl (i64_wrap Wz Wz) ?_)
       refine Mz ?_
       refine Ez ?_
       first | refine thenA_n ?_ | simp only [thenA, blockA, if_true]
       exact NextG.mk Wz Wz (((upd (upd (upd HLz kz (some (kwb [(Value.slice A3 (Lz R i1 i2).1.length d3)]))) ky (some (kwb (g2.2 ++ [(Value.slice A3 (Lz R i1 i2).1.length d3)])))) kw (some (Yz R i1 A1 d1 (.slice A2 (Bz R i1).1.length d2) (.slice (some ⟨ky, 0, some 1⟩) (g2.2 ++ [(Value.slice A3 (Lz R i1 i2).1.length d3)]).length (g2.2 ++ [(Value.slice A3 (Lz R i1 i2).1.length d3)]).length)))), g2.2 ++ [(Value.slice A3 (Lz R i1 i2).1.length d3)])) (.cons rfl .nil) Xz (by exact sub_refl _) ⟨Uz (Uz (Uz hbz)), Uz (Uz (Uz hrz)), Uz (Uz (Uz hgz)), Uz (Uz (Uz hWz)), Uz (Uz (Uz hVz)), upd_same _ _ _, Uz (upd_same _ _ _), sub_new (sub_new (sub_new hSz (hf kz Wz)) (hf ky Wz)) (hf kw Wz), sub_new (sub_new (sub_new hTz (hZq kz Wz)) (hZq ky Wz)) (hZq kw Wz), ⟨evz, ((hRz.sub (sub_upd' (sub_refl _) (hfLz kz (Nat.le_refl _)))).away Wz (hAw _ _ Wz) (Uz hYz) (by show (22 : Nat) ≠ 101; decide)).away Wz (hAw _ _ Wz) (Uz (Uz hsz)) (by show (84 : Nat) ≠ 101; decide)⟩, sub_new (sub_new (sub_new hDz (hZDq kz Wz)) (hZDq ky Wz)) cutK_at, by simp only; rw [cutH_upd Wz, cutH_upd Wz]; exact (Bws.snoc hKz hBz).sub (cutH_mono (sub_upd' (sub_refl HLz) (hfLz kz (Nat.le_refl _))))⟩
      ·try simp only [Cz] at c4
       have hic : i2 = (Gz R i1).1 := by omega
       have hsh : (Pz R i1).ship (rp3 R).1 = (⟨(Az R i1).1, (decide ((Pz R i1).fix1.1 = 1)), (Bz R i1).1, (shI (rp3 R).1 (Pz R i1) (i2)).1⟩, (shI (rp3 R).1 (Pz R i1) (i2)).2) := by rw [ship_t' hone, ← hic]
       refine ACode.exit ?_
       first | refine thenA_n ?_ | simp only [thenA, blockA, if_true]
       exact ⟨(), has_append .nil Xz, (by (try dsimp only); exact by rw [hsh]; exact ⟨(Value.slice A1 (Az R i1).1.cols.length d1), (Value.slice A2 (Bz R i1).1.length d2), (Value.slice (some ⟨ky, 0, some 1⟩) g2.2.length g2.2.length), hsl, ⟨A1, d1, A2, d2, _, _, g2.2, rfl, hHy.sub (cut_lift hDl), hEy.sub (cut_lift hDl), SLC.kwb ((cutH_at Wz).trans hYl), hKl.sub (cutH_less Wz)⟩, rfl, rfl, rfl, by omega, hbl, hrl, hgl, hWl, hVl, hSl, hTl, ⟨_, hRl⟩, hPy.sub (cut_lift hDl)⟩)⟩
     ·try simp only [Cz] at c3
      have hone : ¬ (Pz R i1).fix1.1 = 1 := by simpa using c3
      refine ACode.skip ?_
      first | refine thenA_n ?_ | simp only [thenA, blockA, if_true]
      exact ⟨(), has_append .nil Xz, (by (try dsimp only); exact by rw [ship_f' hone]; exact ⟨(Value.slice A1 (Az R i1).1.cols.length d1), NIL, NIL, hss, ⟨A1, d1, none, 0, none, 0, [], rfl, hHs.sub cutK_sub, SLC.nil, SLC.nil, Bws.nil⟩, rfl, rfl, rfl, by omega, hbs, hrs, hgs, hWs, hVs, hSs, hTs, ⟨_, hRs⟩, hPs.sub cutK_sub⟩)⟩
    ·show ACode _ _ _ _ _ ⟨_, _, _⟩
     obtain ⟨s1, s2, s3, hso, hXo_, ho1, ho2, ho3, hkwo, hbo, hro, hgo, hWo, hVo, hSo, hTo, ⟨evo, hRo⟩, hPo⟩ := hXo
     refine Rz [0, 1, 2, 3, 4, 5, 6] Kz rfl ?_
     refine Fz ?_
     refine Oz rfl rfl rfl (AOp.load1 (b := (Qz R (.slice (some ⟨kh, 0, some 1⟩) (rp6 R).1.length (rp6 R).1.length) (.slice As (rp3 R).1.length cs9) (.slice (some ⟨kj, 0, some 1⟩) (rpI8 R (i1)).1.length (rpI8 R (i1)).1.length))) (v := (.slice (some ⟨kj, 0, some 1⟩) (rpI8 R (i1)).1.length (rpI8 R (i1)).1.length)) rfl rfl hbo (rpc_at _ _ _ _).2.2 ?_)
     refine Oz rfl rfl rfl (AOp.loadAll (b := spblk ((Pz R i1).ship (rp3 R).1).1 s1 s2 s3) (v := .agg (spc ((Pz R i1).ship (rp3 R).1).1 s1 s2 s3).toArray) rfl rfl hso rfl rfl (spv_size _ _ _ _) ?_)
     refine Oz rfl rfl rfl (AOp.buildH (spc ((Pz R i1).ship (rp3 R).1).1 s1 s2 s3) rfl (spc_len _ _ _ _) (by show 0 < 38; decide) (by show 38 ≤ 16777216; decide) rfl rfl ?_)
     refine Oz rfl rfl rfl (AOp.append' (b := swb g1.2) (m := 1) (news := (spc ((Pz R i1).ship (rp3 R).1).1 s1 s2 s3)) rfl rfl rfl (Uz hVo) (srcOf_grow (b := swb (spc ((Pz R i1).ship (rp3 R).1).1 s1 s2 s3)) (upd_same _ _ _) rfl (spc_len _ _ _ _).symm) rfl rfl rfl hpl.symm srcOk_sl (fun u hu => List.all_eq_true.1 (spc_one _ _ _ _ ho1 ho2 ho3) u hu) Wz Wz ?_)
     refine Fz ?_
     refine aOps_0 rfl rfl rfl (AOp.store1 (b := (Qz R (.slice (some ⟨kh, 0, some 1⟩) (rp6 R).1.length (rp6 R).1.length) (.slice As (rp3 R).1.length cs9) (.slice (some ⟨kj, 0, some 1⟩) (rpI8 R (i1)).1.length (rpI8 R (i1)).1.length))) rfl rfl rfl (Uz (Uz hbo)) rfl rfl rfl (by show 100 < (rpc _ _ _ _).length; rw [rpc_len]; decide) ?_)
     rw [(rpc_set _ _ _ _ _).2.2, hln8]
     refine Ez ?_
     refine Rz [0, 1, 2] Kz rfl ?_
     refine Mz ?_
     refine Oz rfl rfl rfl (AOp.sub rfl rfl rfl (i64_wrap Wz Wz) ?_)
     refine Nz ?_
     refine Ez ?_
     have hdec : (((rp7 R).1 : Int) - (i1 : Int)) - 1 = ((rp7 R).1 : Int) - ((i1 + 1 : Nat) : Int) := by omega
     first | refine thenA_n ?_ | simp only [thenA, blockA, if_true]
     exact NextG.mk Wz Wz (((upd (upd (upd HLo ko (some (swb (spc ((Pz R i1).ship (rp3 R).1).1 s1 s2 s3)))) kj (some (swb (g1.2 ++ (spc ((Pz R i1).ship (rp3 R).1).1 s1 s2 s3))))) k (some (Qz R (.slice (some ⟨kh, 0, some 1⟩) (rp6 R).1.length (rp6 R).1.length) (.slice As (rp3 R).1.length cs9) (.slice (some ⟨kj, 0, some 1⟩) (rpI8 R (i1 + 1)).1.length (rpI8 R (i1 + 1)).1.length)))), g1.2 ++ (spc ((Pz R i1).ship (rp3 R).1).1 s1 s2 s3))) (.cons (show _ = some (Value.int .i64 _) by rw [← hdec]; rfl) .nil) Xz (by exact sub_refl _) ⟨upd_same _ _ _, Uz (Uz (Uz hro)), Uz (Uz (Uz hgo)), Uz (Uz (Uz hWo)), Uz (upd_same _ _ _), sub_new (sub_new (sub_new hSo (hf ko Wz)) (hf kj Wz)) hHk, sub_new (sub_new (sub_new hTo (hZq ko Wz)) (hZq kj Wz)) hZk, ⟨evo, ((hRo.sub (sub_upd' (sub_refl _) (hfLo ko (Nat.le_refl _)))).away Wz (hAw _ _ Wz) (Uz hVo) (by show (84 : Nat) ≠ 101; decide)).away Wz (hAw _ _ Wz) (Uz (Uz hbo)) (by show (71 : Nat) ≠ 101; decide)⟩, rpI8_next hrun c1b.1 c1b.2, by simp only; rw [cutH_upd Wz, cutH_upd Wz]; exact (Sps.snoc hPo hXo_).sub (cutH_mono (sub_upd' (sub_refl HLo) (hfLo ko (Nat.le_refl _))))⟩
  ·try simp only [Cz] at c1
   have c1b : ¬ (i1 < (rp7 R).1 ∧ (Pz R i1).e = 0) := by simp at c1; omega
   have h8 : rp8 R = (rpI8 R (i1)) := rpI8_end rfl hrun (by show _ ∨ (Pz R i1).e ≠ 0; omega)
   refine ACode.exit ?_
   refine Sz ?_
   refine Sz ?_
   refine Rz [0, 1, 2, 3, 4, 5, 6] Kz rfl ?_
   refine Oz rfl rfl rfl ?_
   refine AOp.load1 (b := ?b14) (v := ?v14) rfl rfl ?hn14 ?hv14 ?hR14
   (case hn14 => exact hpB)
   (case hv14 => rfl)
   refine aOps_q rfl rfl rfl (AOp.call' rfl rfl rfl (nend _ _ hGi n d B evi0 (Pz R i1) hRi) Iz) (fun kq hkq => ?_)
   refine Mz ?_
   refine Oz rfl rfl rfl (AOp.extract' rfl rfl rfl ?_)
   refine Oz rfl rfl rfl (AOp.extract' rfl rfl rfl ?_)
   refine Nz ?_
   refine Nz ?_
   refine Ez (Sz (Rz [0, 1] Kz rfl ?_))
   refine Mz ?_
   refine Oz rfl rfl rfl (AOp.bin' rfl rfl rfl rfl ?_)
   refine Ez ?_
   refine ACode.cond rfl (fun c5 => ?_) (fun c5 => ?_)
   ·try simp only [Cz] at c5
    refine Sz ?_
    refine Rz [0, 1, 2, 3, 4, 5] Kz rfl ?_
    refine Oz rfl rfl rfl (AOp.buildS rfl rfl rfl ?_)
    refine Mz ?_
    refine Mz ?_
    refine aOps_0 rfl rfl rfl ?_
    refine AOp.storeAll (b := ?b15) rfl rfl rfl ?hn15 ?hk15 rfl ?hw15 ?ho15 ?hl15 ?hR15
    (case hn15 => exact hpB)
    (case hk15 => rfl)
    (case hw15 => first | rfl | exact hv_size _ | exact one_bv _ | exact entv_size _ | exact entc_one _ | exact rpv_size _ _ _ _ | exact spv_size _ _ _ _ | exact spc_one _ _ _ _ rfl rfl rfl | exact rp_one _ _ _ _ rfl rfl rfl | (simp; done))
    (case ho15 => first | rfl | exact hv_size _ | exact one_bv _ | exact entv_size _ | exact entc_one _ | exact rpv_size _ _ _ _ | exact spv_size _ _ _ _ | exact spc_one _ _ _ _ rfl rfl rfl | exact rp_one _ _ _ _ rfl rfl rfl | decide | (simp; done))
    (case hl15 => first | rfl | exact hv_size _ | exact one_bv _ | exact entv_size _ | exact entc_one _ | exact rpv_size _ _ _ _ | exact spv_size _ _ _ _ | exact spc_one _ _ _ _ rfl rfl rfl | exact rp_one _ _ _ _ rfl rfl rfl | (simp; done))
    refine Nz ?_
    refine Nz ?_
    refine Ez ?_
    refine ACode.ret ?_
    try simp only [thenA, blockA, if_true]
    have et : takeRp bs = (rpD, (Pz R i1).end_) := by unfold takeRp; rw [← hRR, h8]; exact if_pos c5
    rw [et]
    have hSZ : Ab.Sub H (upd HL1 k (some (rpblk rpD NIL NIL NIL))) := sub_new hSi hHk
    exact RetQ.cell2 rfl rfl (aloadAll (b := rpblk rpD NIL NIL NIL) (v := rpv rpD NIL NIL NIL) (upd_same _ _ _) rfl rfl (rpv_size _ _ _ _)) rfl rfl (sub_refl _) (fun m b h => ⟨b, hSZ m b h⟩) (fun hk => ⟨_, rfl, ⟨none, 0, none, 0, none, 0, [], rfl, SLC.nil, SLC.nil, SLC.nil, Sps.nil⟩, by omega, (fun m hm => Uz (hfL1 m Wz)), hSZ⟩)
   ·try simp only [Cz] at c5
    refine ACode.skip ?_
    refine Sz ?_
    refine Rz [0, 1, 2, 3] Kz rfl ?_
    refine Oz rfl rfl rfl ?_
    refine AOp.loadAll (b := ?b16) (v := rpv (rpOf R) (.slice (some ⟨kh, 0, some 1⟩) (rp6 R).1.length (rp6 R).1.length) (.slice As (rp3 R).1.length cs9) (.slice (some ⟨kj, 0, some 1⟩) (rpI8 R (i1)).1.length (rpI8 R (i1)).1.length)) rfl rfl ?hn16 ?hv16 ?hw16 ?hz16 ?hR16
    (case hn16 => exact hpB)
    (case hv16 => rfl)
    (case hw16 => rfl)
    (case hz16 => first | rfl | exact hv_size _ | exact one_bv _ | exact entv_size _ | exact entc_one _ | exact rpv_size _ _ _ _ | exact spv_size _ _ _ _ | exact spc_one _ _ _ _ rfl rfl rfl | exact rp_one _ _ _ _ rfl rfl rfl | (simp; done))
    refine aOps_0 rfl rfl rfl ?_
    refine AOp.storeAll (b := ?b17) rfl rfl rfl ?hn17 ?hk17 rfl ?hw17 ?ho17 ?hl17 ?hR17
    (case hn17 => exact hpB)
    (case hk17 => rfl)
    (case hw17 => first | rfl | exact hv_size _ | exact one_bv _ | exact entv_size _ | exact entc_one _ | exact rpv_size _ _ _ _ | exact spv_size _ _ _ _ | exact spc_one _ _ _ _ rfl rfl rfl | exact rp_one _ _ _ _ rfl rfl rfl | (simp; done))
    (case ho17 => first | rfl | exact hv_size _ | exact one_bv _ | exact entv_size _ | exact entc_one _ | exact rpv_size _ _ _ _ | exact spv_size _ _ _ _ | exact spc_one _ _ _ _ rfl rfl rfl | exact rp_one _ _ _ _ rfl rfl rfl | decide | (simp; done))
    (case hl17 => first | rfl | exact hv_size _ | exact one_bv _ | exact entv_size _ | exact entc_one _ | exact rpv_size _ _ _ _ | exact spv_size _ _ _ _ | exact spc_one _ _ _ _ rfl rfl rfl | exact rp_one _ _ _ _ rfl rfl rfl | (simp; done))
    refine Nz ?_
    refine Nz ?_
    refine Ez ?_
    refine ACode.ret ?_
    try simp only [thenA, blockA, if_true]
    have et : takeRp bs = (rpOf R, 0, 0) := by unfold takeRp; rw [← hRR, h8]; exact if_neg (fun x => x c5)
    rw [et]
    have hSZ : Ab.Sub H (upd HL1 k (some (rpblk (rpOf R) (.slice (some ⟨kh, 0, some 1⟩) (rp6 R).1.length (rp6 R).1.length) (.slice As (rp3 R).1.length cs9) (.slice (some ⟨kj, 0, some 1⟩) (rpI8 R (i1)).1.length (rpI8 R (i1)).1.length)))) := sub_new hSi hHk
    have ebk : (rpOf R).blocks = (rpI8 R (i1)).1 := congrArg Prod.fst h8
    exact RetQ.cell2 rfl rfl (aloadAll (b := rpblk (rpOf R) (.slice (some ⟨kh, 0, some 1⟩) (rp6 R).1.length (rp6 R).1.length) (.slice As (rp3 R).1.length cs9) (.slice (some ⟨kj, 0, some 1⟩) (rpI8 R (i1)).1.length (rpI8 R (i1)).1.length)) (v := rpv (rpOf R) (.slice (some ⟨kh, 0, some 1⟩) (rp6 R).1.length (rp6 R).1.length) (.slice As (rp3 R).1.length cs9) (.slice (some ⟨kj, 0, some 1⟩) (rpI8 R (i1)).1.length (rpI8 R (i1)).1.length)) (upd_same _ _ _) rfl rfl (rpv_size _ _ _ _)) rfl rfl (sub_refl _) (fun m b h => ⟨b, hSZ m b h⟩) (fun hk => ⟨_, rfl, by unfold RpV; rw [ebk]; exact ⟨_, _, _, _, _, _, g1.2, rfl, SLC.dwb (Uz hWi), hsch.sub (sub_new hTi hZk), SLC.swb (Uz hVi) hpl, (hPi.sub (sub_eq (cutH_upd Wz).symm)).sub cutH_sub⟩, by omega, (fun m hm => Uz (hfL1 m Wz)), hSZ⟩)
end

end Go.Proofs.YteoofihjmldllaaDoor
