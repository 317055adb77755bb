/- Contracts over the abstract states: headers out of readers. -/
import Derived.Test.YteoofihjmldllaaDoorRK
import Derived.Test.YteoofihjmldllaaDoorP5
import Derived.Test.YteoofihjmldllaaDoorRW
import Derived.Test.YteoofihjmldllaaDoorRM
import Derived.Test.YteoofihjmldllaaDoorR6
set_option linter.unusedVariables false
set_option linter.unusedSimpArgs false
set_option maxRecDepth 100000
namespace Go.Proofs.YteoofihjmldllaaDoor
open Go Go.Ab

abbrev NIL : Value := .slice none 0 0
abbrev hwb (l : List Ch) : Blk := { cells := chs l, elem := 135, kind := .grow, esz := 40 }
abbrev cwb (c : Ch) : Blk := { cells := chc c, elem := 135, kind := .grow, esz := 40 }
theorem chs_snoc (l : List Ch) (c : Ch) : chs (l ++ [c]) = chs l ++ chc c := by rw [chs, List.flatMap_append, List.flatMap_singleton]
theorem chc_one' (c : Ch) : ∀ u ∈ chc c, u.oneCell' = true := fun u hu => List.all_eq_true.1 (chc_one c) u hu
theorem SLC.hwb {H : Hp} {q : Nat} {l : List Ch} (h : H q = some (hwb l)) : SLC H 40 (some ⟨q, 0, some 1⟩) l.length l.length (chs l) := SLC.grow h rfl (chs_len l).symm
theorem hdc_one (h : Hd) (s : Value) (h3 : s.oneCell' = true) : ((hdv h s).cells.toList.all fun x => x.oneCell') = true := by
 rw [List.all_eq_true]
 intro v hv
 have hv : v ∈ hdc h s := hv
 simp only [hdc, List.mem_append, List.mem_cons, List.mem_map, List.not_mem_nil, or_false] at hv
 rcases hv with rfl | rfl | ⟨a, _, rfl⟩ | rfl
 all_goals first | rfl | assumption
theorem hdc_set (h : Hd) (s t : Value) : (hdc h s).set 34 t = hdc h t := by
 unfold hdc
 rw [List.set_cons_succ, List.set_cons_succ, List.set_append_right _ _ (by rw [hcs_one]; exact Nat.le_refl _), hcs_one]
 rfl
theorem hdc_put2 (a b : Int) (d e : Dg) (l : List Ch) (s : Value) : putL (hdc ⟨a, b, d, l⟩ s) 2 (e.l.map bv) = hdc ⟨a, b, e, l⟩ s := by
 unfold putL
 rw [hcs_one]
 show Value.int .i64 a :: Value.int .i64 b :: (List.take 0 (d.l.map bv ++ [s]) ++ (e.l.map bv ++ List.drop 32 (d.l.map bv ++ [s]))) = _
 rw [List.take_zero, List.nil_append, List.drop_left' (hcs_one d)]
/-- A new header. -/
def NewHd (H' : Hp) (k k' : Nat) (h : Hd) (v : Value) : Prop := ∃ Aq cq, v = hdv h (.slice Aq h.cols.length cq) ∧ SLC H' 40 Aq h.cols.length cq (chs h.cols) ∧ ∀ a, Aq = some a → k ≤ a.block ∧ a.block < k'
theorem itC_len (s : List Ch × Rd) (i : Nat) : (itR chStep s i).1.length = s.1.length + i := by
 induction i with
 | zero => rfl
 | succ i ih =>
  show ((itR chStep s i).1 ++ [_]).length = _
  rw [List.length_append, ih]
  rfl
theorem itC_bs (s : List Ch × Rd) (i : Nat) : (itR chStep s i).2.bs = s.2.bs := by
 induction i with
 | zero => rfl
 | succ i ih => exact (chStep_bs _).trans ih
/-- A header's columns' heads, so far. -/
def hdIt (r : Rd) (i : Nat) : List Ch × Rd := itR chStep ([], r.num.2.num.2.hash.2) i
def hdCh (r : Rd) (i : Nat) : Ch := ⟨(hdIt r i).2.zone.1, (hdIt r i).2.zone.2.hash.1⟩
theorem hdIt_len (r : Rd) (i : Nat) : (hdIt r i).1.length = i := (itC_len _ _).trans (Nat.zero_add i)
theorem hdIt_bs (r : Rd) (i : Nat) : (hdIt r i).2.bs = r.bs := (itC_bs _ _).trans ((Rd.hash_bs _).trans ((Rd.num_bs _).trans r.num_bs))
theorem hdRun_next {r : Rd} {n i : Nat} (h : hdRun r n = runR chStep (n - i) (hdIt r i)) (hi : i < n) (he : (hdIt r (i + 1)).2.e = 0) : hdRun r n = runR chStep (n - (i + 1)) (hdIt r (i + 1)) := by
 refine runR_step h hi (Decidable.byContradiction fun hc => ?_)
 have : (hdIt r (i + 1)).2 = (hdIt r i).2 := chStep_err hc
 rw [this] at he
 exact hc he
theorem hdRun_bad {r : Rd} {n i : Nat} (h : hdRun r n = runR chStep (n - i) (hdIt r i)) (hi : i < n) (he : (hdIt r (i + 1)).2.e ≠ 0) : (hdRun r n).2 = (hdIt r (i + 1)).2 := by
 by_cases hc : (hdIt r i).2.e = 0
 ·rw [show hdRun r n = runR chStep (n - (i + 1)) (hdIt r (i + 1)) from runR_step h hi hc]
  exact congrArg Prod.snd (runR_err (s := hdIt r (i + 1)) he _)
 ·rw [h, runR_err (s := hdIt r i) hc]
  exact (chStep_err (p := hdIt r i) hc).symm
theorem hdEnd_bad {r : Rd} {cols : List Col} (h : (hdRun r cols.length).2.e ≠ 0) : hdEnd r cols = (hdRun r cols.length).2 := if_neg fun x => h x.1
theorem hdEnd_t {r : Rd} {cols : List Col} (h : (hdRun r cols.length).2.e = 0) (h2 : soundH soundR (hdOf r cols.length) cols = false) : hdEnd r cols = (hdRun r cols.length).2.fail 4 := if_pos ⟨h, h2⟩
theorem hdEnd_f {r : Rd} {cols : List Col} (h : ¬ ((hdRun r cols.length).2.e = 0 ∧ soundH soundR (hdOf r cols.length) cols = false)) : hdEnd r cols = (hdRun r cols.length).2 := if_neg h
theorem head_bad {r : Rd} {cols : List Col} (h : (hdEnd r cols).e ≠ 0) : r.head cols = (hdD, hdEnd r cols) := by rw [Rd.head, if_pos h]
theorem head_good {r : Rd} {cols : List Col} (h : (hdEnd r cols).e = 0) : r.head cols = (hdOf r cols.length, hdEnd r cols) := by rw [Rd.head, if_neg (fun x => x h)]
theorem soundH_same (h : Hd) (cols : List Col) : soundH soundP h cols = soundH soundR h cols := by
 rw [show soundP = soundR from funext fun z => funext fun a => funext fun b => sound_same z a b]
theorem ch_fill (Z : List Value) (hZ : Z.length = 40) (z : Zn) (d : Dg) : putL (putL Z 0 (znc z)) 8 (d.l.map bv) = chc ⟨z, d⟩ := by
 have e : putL Z 0 (znc z) = znc z ++ Z.drop 8 := rfl
 rw [e, putL, hcs_one, List.take_left' (show (znc z).length = 8 from rfl), List.drop_of_length_le (by rw [List.length_append, List.length_drop, hZ]; exact Nat.le_refl _), List.append_nil]
def hdAt (r : Rd) (i : Nat) : Hd := ⟨r.num.1, r.num.2.num.1, r.num.2.num.2.hash.1, (hdIt r i).1⟩
theorem hdIt_ok {r : Rd} (h : r.ok) (i : Nat) : (hdIt r i).2.ok ∧ ∀ c ∈ (hdIt r i).1, c.z.ok := by
 refine itR_ok (f := chStep) (P := fun p => p.2.ok ∧ ∀ c ∈ p.1, c.z.ok) ?_ _ ⟨Rd.hash_ok (Rd.num_ok (Rd.num_ok h).1).1, fun c hc => by cases hc⟩ i
 rintro p ⟨h1, h2⟩
 have h3 := Rd.zone_ok h1
 refine ⟨Rd.hash_ok h3.1, fun c hc => ?_⟩
 rcases List.mem_append.1 hc with hc | hc
 ·exact h2 c hc
 ·rw [List.mem_singleton.1 hc]; exact h3.2
section
variable (H : Hp) (k : Nat)

set_option maxHeartbeats 1000000 in
theorem ntakeH (h2 : H 1 = some hBlk) (n c : Nat) (A : Option Addr) (ev : Value) (r : Rd) (hR : RdN H n A c ev r) (cols : List Col) (B : Option Addr) (d : Nat) (hC : SLC H 3 B cols.length d (cols3 cols)) (hCn : Away B cols.length n) (hcl : cols.length ≤ 1000000) : ACalls Tryd.prog 3 81 [ptr n 0 none, .slice B cols.length d] H k (fun v H' k' => NewHd H' k k' (r.head cols).1 v ∧ RdP H k n A c (r.head cols).2 H' k') := by
 refine ACalls.fresh fun hf => ?_
 refine ACalls.body Tryd.func81 rfl (Nat.le_of_ble_eq_true rfl) ?_
 have hn := hR.hn
 have hnk := old_lt hf hn
 have hok := hR.ok
 have hal := hok.at_le
 have hle := hok.len
 have hAk : Away A r.bs.length k := Away.of hR.hs (hf k (Nat.le_refl k))
 have hHk := hf k (Nat.le_refl k)
 have h2n := hR.ne2 h2
 have h2k := old_lt hf h2
 have hk0 : (upd H n none) k = none := none_n hHk
 have hCk : SLC (upd H n none) 3 B cols.length d (cols3 cols) := SLC.away hCn hC
 refine Sz ?_
 refine Rz [0] Kz rfl ?_
 refine Oz rfl rfl rfl (AOp.alloc' rfl ?_)
 refine Ez (Sz (Rz [0, 1, 2, 3, 4, 5, 6, 7, 8, 9, 10] Kz rfl ?_))
 refine Mz ?_
 refine Oz rfl rfl rfl ?_
 refine AOp.call' rfl rfl rfl (nvar _ _ n c A ev r (hR.sub subB)) ?_
 rintro _ HLa ka ⟨rfl, hPa⟩
 have hka := hPa.1
 have hfLa := hPa.2.1
 have hsLa := hPa.2.2.1
 have hPab := hPa
 obtain ⟨eva, hRa⟩ := hPab.2.2.2
 have hna := hRa.hn
 have thsLa := SubS.of hsLa
 have hka_ : HLa k = some (hdblk hdD NIL) := hsLa _ _ (Uz (upd_same _ _ _))
 have hSa : Ab.Sub (upd H n none) HLa := sub_cutn (sub_new (sub_drop (sub_refl H)) hk0) hsLa
 refine Oz rfl rfl rfl (AOp.min2 rfl rfl rfl ?_)
 refine Oz rfl rfl rfl (AOp.convInt rfl rfl ?_)
 rw [show IntKind.i64.wrap (Min.min ((r.var.1 : Nat) : Int) 65537) = r.num.1 from i64_wrap Wz Wz]
 refine Mz ?_
 refine Oz rfl rfl rfl ?_
 refine AOp.call' rfl rfl rfl (nvar _ _ n c A eva r.num.2 hRa) ?_
 rintro _ HLb kb ⟨rfl, hPb⟩
 have hkb := hPb.1
 have hfLb := hPb.2.1
 have hsLb := hPb.2.2.1
 have hPbb := hPb
 obtain ⟨evb, hRb⟩ := hPbb.2.2.2
 have hnb := hRb.hn
 have thsLb := SubS.of hsLb
 have hkb_ : HLb k = some (hdblk hdD NIL) := hsLb _ _ (Uz hka_)
 have hSb := sub_cutn hSa hsLb
 have hbb : r.num.2.num.2.bs = r.bs := (Rd.num_bs _).trans r.num_bs
 have hAq : Away A r.bs.length kb := by have h := Away.of hRb.hs (hfLb kb (Nat.le_refl _)); rw [Rd.var_bs, Rd.num_bs] at h; exact h
 refine Oz rfl rfl rfl (AOp.min2 rfl rfl rfl ?_)
 refine Oz rfl rfl rfl (AOp.convInt rfl rfl ?_)
 rw [show IntKind.i64.wrap (Min.min ((r.num.2.var.1 : Nat) : Int) 65537) = r.num.2.num.1 from i64_wrap Wz Wz]
 refine Oz rfl rfl rfl (AOp.buildS (cells := (hdc ⟨r.num.1, r.num.2.num.1, zeroD, []⟩ NIL).toArray) rfl rfl rfl ?_)
 refine Oz rfl rfl rfl (AOp.alloc' rfl ?_)
 refine aOps_0 rfl rfl rfl ?_
 refine AOp.storeAll (b := ?b1) rfl rfl rfl ?hn1 ?hk1 rfl ?hw1 ?ho1 ?hl1 ?hR1
 (case hn1 => exact hpB)
 (case hk1 => rfl)
 (case hw1 => first | rfl | exact hv_size _ | exact one_bv _ | exact hdv_size _ _ | exact chc_size _ | exact chc_one _ | exact hdc_one _ _ rfl | (simp; done))
 (case ho1 => first | rfl | exact hv_size _ | exact one_bv _ | exact hdv_size _ _ | exact chc_size _ | exact chc_one _ | exact hdc_one _ _ rfl | decide | (simp; done))
 (case hl1 => first | rfl | exact hv_size _ | exact one_bv _ | exact hdv_size _ _ | exact chc_size _ | exact chc_one _ | exact hdc_one _ _ rfl | (simp; done))
 rw [rd_upd2]
 refine Ez (Sz (Rz [0, 1, 2, 3] Kz rfl ?_))
 refine Mz ?_
 refine Oz rfl rfl rfl ?_
 refine AOp.call' rfl rfl rfl (nhash_g _ _ n c A evb r.num.2.num.2 (hRb.sub subB)) ?_
 rintro _ HLd kd ⟨rfl, hPd⟩
 have hkd := hPd.1
 have hfLd := hPd.2.1
 have hsLd := hPd.2.2.1
 have hPdb := hPd
 obtain ⟨evd, hRd⟩ := hPdb.2.2.2
 have hnd := hRd.hn
 have thsLd := SubS.of hsLd
 have hkd_ : HLd k = some (hdblk hdD NIL) := hsLd _ _ (Uz (Uz hkb_))
 have hqd : HLd kb = some (hdblk ⟨r.num.1, r.num.2.num.1, zeroD, []⟩ NIL) := hsLd _ _ (Uz (upd_same _ _ _))
 have hSd := sub_cutn (sub_new hSb (none_n (hf kb Wz))) hsLd
 refine Fz ?_
 refine aOps_0 rfl rfl rfl (AOp.storeN (b := hdblk ⟨r.num.1, r.num.2.num.1, zeroD, []⟩ NIL) (cs := (r.num.2.num.2.hash.1.l.map bv).toArray) rfl rfl rfl hqd rfl (hv_size _) (one_bvA _) (by show 2 + 32 ≤ (hdc _ _).length; rw [hdc_len]; decide) ?_)
 rw [hdc_put2]
 refine Ez ?_
 refine Sz ?_
 refine Sz ?_
 refine Rz [0, 1, 2] Kz rfl ?_
 refine Mz ?_
 refine Oz rfl rfl rfl (AOp.len' rfl rfl ?_)
 refine Mz ?_
 refine Ez ?_
 refine ACode.block ?_
 have hAd : Away A r.bs.length kd := by have h := Away.of hRd.hs (hfLd kd (Nat.le_refl _)); rw [Rd.hash_bs, hbb] at h; exact h
 have hb3 : r.num.2.num.2.hash.2.bs = r.bs := (Rd.hash_bs _).trans hbb
 refine ACode.adoptC 135 40 Dz (n := kb) (b := hdblk ⟨r.num.1, r.num.2.num.1, r.num.2.num.2.hash.1, []⟩ NIL) (j := 34) (upd_same _ _ _) rfl (hdc_s _ _) ?_
 refine ACode.countG (γ := Hp) (fun i g => [(21, .int .i64 (i : Int))]) [(0, _), (1, _), (4, _), (5, _), (20, _)] (fun i g => g) (cols.length) (fun i g => g kd = some (hwb (hdIt r (i)).1) ∧ g kb = some (hdblk ⟨r.num.1, r.num.2.num.1, r.num.2.num.2.hash.1, []⟩ (.slice (some ⟨kd, 0, some 1⟩) (hdIt r (i)).1.length (hdIt r (i)).1.length)) ∧ g k = some (hdblk hdD NIL) ∧ Ab.Sub (upd H n none) g ∧ (∃ ev, RdN g n A c ev (hdIt r (i)).2) ∧ hdRun r cols.length = runR chStep (cols.length - i) (hdIt r (i))) ((upd (upd (upd HLd kb (some (hdblk ⟨r.num.1, r.num.2.num.1, r.num.2.num.2.hash.1, []⟩ NIL))) kd (some (hwb []))) kb (some (hdblk ⟨r.num.1, r.num.2.num.1, r.num.2.num.2.hash.1, []⟩ (.slice (some ⟨kd, 0, some 1⟩) ([] : List Ch).length ([] : List Ch).length))))) (.cons rfl .nil) Xz (by rw [hdc_set]; exact sub_refl _) ⟨Uz (upd_same _ _ _), upd_same _ _ _, Uz (Uz (Uz hkd_)), sub_new (sub_new (sub_new hSd (none_n (hf kb Wz))) (none_n (hf kd Wz))) (none_n (hf kb Wz)), ⟨evd, ((hRd.away Wz (by rw [hb3]; exact hAq) hqd (by show (81 : Nat) ≠ 101; decide)).sub (sub_upd' (sub_refl _) (Uz (hfLd kd (Nat.le_refl _))))).away Wz (by rw [hb3]; exact hAq) (Uz (upd_same _ _ _)) (by show (81 : Nat) ≠ 101; decide)⟩, rfl⟩ (fun i0 g0 kL0 HL0 hiL0 hkL0 hsL0 hfL0 hxL0 => ?_)
 show ACode _ _ _ _ _ ⟨_, _, _⟩
 have tsL0 := SubS.of hsL0
 obtain ⟨hx1, hx2, hx3, hx4, ⟨ev0, hx5⟩, hx6⟩ := hxL0
 have hW0 := hsL0 _ _ hx1
 have hq0 := hsL0 _ _ hx2
 have hk0_ := hsL0 _ _ hx3
 have hS0 := sub_trans hx4 hsL0
 have hR0 := hx5.sub hsL0
 have hn0 := hR0.hn
 have h20 : HL0 1 = some hBlk := hS0 _ _ ((upd_other _ _ h2n).trans h2)
 have hbi := hdIt_bs r i0
 have hli := hdIt_len r i0
 have hln1 : (hdIt r (i0)).1.length + 1 = (hdIt r (i0 + 1)).1.length := by rw [hdIt_len, hdIt_len]
 refine Sz ?_
 refine Rz [0] Kz rfl ?_
 refine Oz rfl rfl rfl (AOp.bin' rfl rfl rfl rfl ?_)
 refine Ez ?_
 refine Sz ?_
 refine ACode.cond rfl (fun c0 => ?_) (fun c0 => ?_)
 ·try simp only [Cz] at c0
  have hin : i0 < cols.length := by omega
  refine ACode.skip ?_
  refine Sz ?_
  refine ACode.block ?_
  refine Sz ?_
  refine Rz [0, 1, 2, 3] Kz rfl ?_
  refine Mz ?_
  refine Oz rfl rfl rfl ?_
  refine AOp.call' rfl rfl rfl (ntakeZ _ _ h20 n c A ev0 (hdIt r (i0)).2 hR0) ?_
  rintro _ HLt kt ⟨rfl, hPt⟩
  have hkt := hPt.1
  have hfLt := hPt.2.1
  have hsLt := hPt.2.2.1
  have hPtb := hPt
  obtain ⟨evt, hRt⟩ := hPtb.2.2.2
  have hnt := hRt.hn
  have thsLt := SubS.of hsLt
  have hkt_ : HLt k = some (hdblk hdD NIL) := hsLt _ _ (Uz hk0_)
  have hqt : HLt kb = some (hdblk ⟨r.num.1, r.num.2.num.1, r.num.2.num.2.hash.1, []⟩ (.slice (some ⟨kd, 0, some 1⟩) (hdIt r (i0)).1.length (hdIt r (i0)).1.length)) := hsLt _ _ (Uz hq0)
  have hWt : HLt kd = some (hwb (hdIt r (i0)).1) := hsLt _ _ (Uz hW0)
  have hSt := sub_cutn hS0 hsLt
  refine Oz rfl rfl rfl (AOp.alloc' rfl ?_)
  refine aOps_0 rfl rfl rfl ?_
  refine AOp.storeAll (b := ?b2) rfl rfl rfl ?hn2 ?hk2 rfl ?hw2 ?ho2 ?hl2 ?hR2
  (case hn2 => exact hpB)
  (case hk2 => rfl)
  (case hw2 => first | rfl | exact hv_size _ | exact one_bv _ | exact hdv_size _ _ | exact chc_size _ | exact chc_one _ | exact hdc_one _ _ rfl | (simp; done))
  (case ho2 => first | rfl | exact hv_size _ | exact one_bv _ | exact hdv_size _ _ | exact chc_size _ | exact chc_one _ | exact hdc_one _ _ rfl | decide | (simp; done))
  (case hl2 => first | rfl | exact hv_size _ | exact one_bv _ | exact hdv_size _ _ | exact chc_size _ | exact chc_one _ | exact hdc_one _ _ rfl | (simp; done))
  rw [rd_upd2]
  refine Ez ?_
  refine Sz ?_
  refine ACode.any mixed Kz ?_
  refine AnyA.split 8 Kz Kz Dz Dz (Nat.le_of_ble_eq_true rfl) ?_
  refine AnyA.float (Hq := (upd (upd (fun _ => none) kb (some (hdblk ⟨r.num.1, r.num.2.num.1, r.num.2.num.2.hash.1, []⟩ (.slice (some ⟨kd, 0, some 1⟩) (hdIt r (i0)).1.length (hdIt r (i0)).1.length)))) kt (some (zblk (hdIt r (i0)).2.zone.1)))) [(0, 25), (1, 26), (2, 27), (3, 28)] [4, 5, 6, 7] Kz (Nat.le_of_ble_eq_true rfl) Kz subB ?_
  refine DrawF.q 0 25 [(5, none)] rfl Kz rfl (fun Hc kq hSb => AOp.fieldAddr' rfl Dz rfl Tz) ?_
  refine DrawF.q 1 26 [(25, some 0)] rfl Kz rfl (fun Hc kq hSb => have tSb := SubS.of hSb; AOp.load1 (b := (hdblk ⟨r.num.1, r.num.2.num.1, r.num.2.num.2.hash.1, []⟩ (.slice (some ⟨kd, 0, some 1⟩) (hdIt r (i0)).1.length (hdIt r (i0)).1.length))) (v := (.slice (some ⟨kd, 0, some 1⟩) (hdIt r (i0)).1.length (hdIt r (i0)).1.length)) rfl rfl hpB (hdc_s _ _) Tz) ?_
  refine DrawF.q 2 27 [(6, none)] rfl Kz rfl (fun Hc kq hSb => have tSb := SubS.of hSb; (by refine AOp.loadAll (b := ?b3) (v := zv (hdIt r (i0)).2.zone.1) rfl rfl ?hn3 ?hv3 ?hw3 ?hz3 ?hR3; (case hn3 => exact hpB); (case hv3 => rfl); (case hw3 => rfl); (case hz3 => first | rfl | exact hv_size _ | exact one_bv _ | exact hdv_size _ _ | exact chc_size _ | exact chc_one _ | exact hdc_one _ _ rfl | (simp; done)); exact Tz)) ?_
  refine DrawF.q 3 28 [(0, none)] rfl Kz rfl (fun Hc kq hSb => AOp.move' (.inl rfl) rfl Tz) ?_
  refine DrawF.done ?_
  show aOpsF _ _ _ _ _ _ [4, 5, 6, 7] ⟨_, _, _⟩
  refine aOpsF_1 [28] rfl rfl Kz rfl ?_
  refine AOp.call' rfl rfl rfl (nhash_g _ _ n c A evt (hdIt r (i0)).2.zone.2 (hRt.sub subB)) ?_
  rintro _ HLh kh ⟨rfl, hPh⟩
  have hkh := hPh.1
  have hfLh := hPh.2.1
  have hsLh := hPh.2.2.1
  have hPhb := hPh
  obtain ⟨evh, hRh⟩ := hPhb.2.2.2
  have hnh := hRh.hn
  have thsLh := SubS.of hsLh
  have hkh_ : HLh k = some (hdblk hdD NIL) := hsLh _ _ (Uz (Uz hkt_))
  have hqh : HLh kb = some (hdblk ⟨r.num.1, r.num.2.num.1, r.num.2.num.2.hash.1, []⟩ (.slice (some ⟨kd, 0, some 1⟩) (hdIt r (i0)).1.length (hdIt r (i0)).1.length)) := hsLh _ _ (Uz (Uz hqt))
  have hWh : HLh kd = some (hwb (hdIt r (i0)).1) := hsLh _ _ (Uz (Uz hWt))
  have hSh := sub_cutn (sub_new hSt (none_n (hf kt Wz))) hsLh
  have hbz : (hdIt r (i0)).2.zone.2.hash.2.bs = r.bs := hdIt_bs r (i0 + 1)
  refine ⟨by exact subB, ?_⟩
  refine aOpsF_1 [27, 29] rfl rfl Kz rfl (AOp.buildS (cells := (chc (hdCh r i0)).toArray) rfl rfl (by refine (fill_cons (znc (hdIt r (i0)).2.zone.1) rfl rfl rfl (Nat.le_of_ble_eq_true rfl)).trans ?_; refine (fill_cons ((hdIt r (i0)).2.zone.2.hash.1.l.map bv) rfl rfl (hcs_one _) (Nat.le_of_ble_eq_true rfl)).trans ?_; exact congrArg (fun l : List Value => some l.toArray) (ch_fill _ rfl _ _)) ?_)
  refine ⟨by exact subB, ?_⟩
  refine aOpsF_1 [30] rfl rfl Kz rfl (AOp.buildH (chc (hdCh r i0)) rfl (chc_len _) (by show 0 < 40; decide) (by show 40 ≤ 16777216; decide) rfl rfl ?_)
  refine ⟨by exact subB, ?_⟩
  refine aOpsF_1 [26, 31] rfl rfl Kz rfl (AOp.append' (b := hwb (hdIt r (i0)).1) (m := 1) (news := chc (hdCh r i0)) rfl rfl rfl hpB (srcOf_grow (b := cwb (hdCh r i0)) hpB rfl (chc_len _).symm) rfl rfl rfl (chs_len _).symm srcOk_sl (chc_one' _) Wz Wz ?_)
  refine ⟨by exact subB, ?_⟩
  refine aOpsF_end ?_
  refine AnyA.float (Hq := (fun _ => none)) [] [8, 9] Kz (Nat.le_of_ble_eq_true rfl) Kz (sub_none _) ?_
  refine DrawF.done ?_
  show aOpsF _ _ _ _ _ _ [8, 9] ⟨_, _, _⟩
  refine aOpsF_1 [5] rfl rfl Kz rfl (AOp.fieldAddr' rfl Dz rfl ?_)
  refine ⟨sub_none _, ?_⟩
  refine aOpsF_0 [33, 32] rfl rfl Kz rfl (AOp.store1 (b := (hdblk ⟨r.num.1, r.num.2.num.1, r.num.2.num.2.hash.1, []⟩ (.slice (some ⟨kd, 0, some 1⟩) (hdIt r (i0)).1.length (hdIt r (i0)).1.length))) rfl rfl rfl hpB rfl rfl rfl (by show 34 < (hdc _ _).length; rw [hdc_len]; decide) ?_)
  refine ⟨sub_none _, ?_⟩
  rw [hdc_set, ← chs_snoc, hln1]
  refine aOpsF_end ?_
  refine Sz ?_
  have hRz : RdN (upd (upd (upd HLh kh (some (cwb (hdCh r i0)))) kd (some (hwb ((hdIt r (i0)).1 ++ [(hdCh r i0)])))) kb (some (hdblk ⟨r.num.1, r.num.2.num.1, r.num.2.num.2.hash.1, []⟩ (.slice (some ⟨kd, 0, some 1⟩) (hdIt r (i0 + 1)).1.length (hdIt r (i0 + 1)).1.length)))) n A c evh (hdIt r (i0 + 1)).2 := (((hRh.sub (sub_upd' (sub_refl _) (hfLh kh (Nat.le_refl _)))).away Wz (by rw [hbz]; exact hAd) (Uz hWh) (by show (135 : Nat) ≠ 101; decide)).away Wz (by rw [hbz]; exact hAq) (Uz (Uz hqh)) (by show (81 : Nat) ≠ 101; decide))
  refine Rz [0, 1, 2] Kz rfl ?_
  refine Mz ?_
  refine aOps_q rfl rfl rfl (AOp.call' rfl rfl rfl (ggood _ _ hpB n c A evh (hdIt r (i0 + 1)).2 hRz) Iz) (fun kq hkq => ?_)
  refine Oz rfl rfl rfl (AOp.un' rfl rfl rfl ?_)
  refine Ez ?_
  refine ACode.cond rfl (fun c1 => ?_) (fun c1 => ?_)
  ·try simp only [Cz] at c1
   refine Sz ?_
   refine Rz [0, 1] Kz rfl ?_
   refine Oz rfl rfl rfl (AOp.buildS (cells := #[_, _, _, _, _, _, _, _, _, _, _, _, _, _, _, _, _, _, _, _, _, _, _, _, _, _, _, _, _, _, _, _, _, _, _]) rfl rfl rfl ?_)
   refine aOps_0 rfl rfl rfl ?_
   refine AOp.storeAll (b := ?b4) rfl rfl rfl ?hn4 ?hk4 rfl ?hw4 ?ho4 ?hl4 ?hR4
   (case hn4 => exact hpB)
   (case hk4 => rfl)
   (case hw4 => first | rfl | exact hv_size _ | exact one_bv _ | exact hdv_size _ _ | exact chc_size _ | exact chc_one _ | exact hdc_one _ _ rfl | (simp; done))
   (case ho4 => first | rfl | exact hv_size _ | exact one_bv _ | exact hdv_size _ _ | exact chc_size _ | exact chc_one _ | exact hdc_one _ _ rfl | decide | (simp; done))
   (case hl4 => first | rfl | exact hv_size _ | exact one_bv _ | exact hdv_size _ _ | exact chc_size _ | exact chc_one _ | exact hdc_one _ _ rfl | (simp; done))
   refine Ez ?_
   refine ACode.ret ?_
   try simp only [thenA, blockA, if_true]
   have hbad := hdRun_bad hx6 hin c1
   have he : hdEnd r cols = (hdIt r (i0 + 1)).2 := (hdEnd_bad (by rw [hbad]; exact c1)).trans hbad
   rw [head_bad (by rw [he]; exact c1), he]
   have hPz : ∀ kz, (kh + 1) ≤ kz → k ≤ kz → RdP H k n A c (hdIt r (i0 + 1)).2 (upd (upd (upd (upd HLh kh (some (cwb (hdCh r i0)))) kd (some (hwb ((hdIt r (i0)).1 ++ [(hdCh r i0)])))) kb (some (hdblk ⟨r.num.1, r.num.2.num.1, r.num.2.num.2.hash.1, []⟩ (.slice (some ⟨kd, 0, some 1⟩) (hdIt r (i0 + 1)).1.length (hdIt r (i0 + 1)).1.length)))) k (some (hdblk hdD NIL))) kz := fun kz h1 h3 => ⟨h3, (fun m hm => by (repeat refine Uz ?_); exact hfLh m Wz), (sub_new (sub_new (sub_new (sub_new hSh (none_n (hf kh Wz))) (none_n (hf kd Wz))) (none_n (hf kb Wz))) hk0), _, (hRz.away Wz (by rw [hdIt_bs]; exact hAk) (Uz (Uz (Uz hkh_))) (by show (81 : Nat) ≠ 101; decide))⟩
   exact RetQ.cell rfl rfl (aloadAll (b := hdblk hdD NIL) (v := hdv hdD NIL) (upd_same _ _ _) rfl rfl (hdv_size _ _)) (sub_refl _) (hPz (max (kh + 1) k) (Nat.le_max_left _ _) (Nat.le_max_right _ _)).stays (fun hk => ⟨⟨none, 0, rfl, SLC.nil, fun a h => by cases h⟩, hPz _ Wz Wz⟩)
  ·try simp only [Cz] at c1
   refine ACode.skip ?_
   refine Rz [0, 1] Kz rfl ?_
   refine Oz rfl rfl rfl (AOp.add rfl rfl rfl (i64_wrap Wz Wz) ?_)
   refine Mz ?_
   refine Ez ?_
   first | refine thenA_n ?_ | simp only [thenA, blockA, if_true]
   exact NextG.mk Wz Wz ((upd (upd (upd HLh kh (some (cwb (hdCh r i0)))) kd (some (hwb ((hdIt r (i0)).1 ++ [(hdCh r i0)])))) kb (some (hdblk ⟨r.num.1, r.num.2.num.1, r.num.2.num.2.hash.1, []⟩ (.slice (some ⟨kd, 0, some 1⟩) (hdIt r (i0 + 1)).1.length (hdIt r (i0 + 1)).1.length))))) (.cons rfl .nil) Xz (by exact sub_refl _) ⟨Uz (upd_same _ _ _), upd_same _ _ _, Uz (Uz (Uz hkh_)), (sub_new (sub_new (sub_new hSh (none_n (hf kh Wz))) (none_n (hf kd Wz))) (none_n (hf kb Wz))), ⟨evh, hRz⟩, hdRun_next hx6 hin c1⟩
 ·try simp only [Cz] at c0
  have hin : i0 = cols.length := by omega
  subst hin
  have hrun : hdRun r cols.length = (hdIt r (cols.length)) := by rw [hx6, Nat.sub_self]; rfl
  have hof : hdOf r cols.length = hdAt r cols.length := by unfold hdOf hdAt; rw [hrun]
  refine ACode.exit ?_
  refine ACode.meet (γ := Unit) (fun g => []) [(0, _), (1, _), (4, _), (5, _), (20, _), (21, _), (22, _)] Xz (fun g H' k' => H' k = some (hdblk hdD NIL) ∧ H' kb = some (hdblk ⟨r.num.1, r.num.2.num.1, r.num.2.num.2.hash.1, []⟩ (.slice (some ⟨kd, 0, some 1⟩) (hdIt r (cols.length)).1.length (hdIt r (cols.length)).1.length)) ∧ H' kd = some (hwb (hdIt r (cols.length)).1) ∧ Ab.Sub (upd H n none) H' ∧ ∃ ev, RdN H' n A c ev (hdEnd r cols)) ?_ (fun g HLm km hfLm hXm => ?_)
  ·show ACode _ _ _ _ _ _
   refine Sz ?_
   refine Rz [0, 1, 2, 3, 4, 5, 6, 7] Kz rfl ?_
   refine Mz ?_
   refine aOps_q rfl rfl rfl (AOp.call' rfl rfl rfl (ggood _ _ h20 n c A ev0 (hdIt r (cols.length)).2 hR0) Iz) (fun kq hkq => ?_)
   refine Mz ?_
   refine aOps_gd0 rfl rfl (wantT rfl rfl rfl) (fun hc => AOp.slots [(5, _)] (.cons rfl .nil) ((by refine AOp.loadAll (b := ?b5) (v := hdv (hdAt r cols.length) (.slice (some ⟨kd, 0, some 1⟩) (hdIt r (cols.length)).1.length (hdIt r (cols.length)).1.length)) rfl rfl ?hn5 ?hv5 ?hw5 ?hz5 ?hR5; (case hn5 => exact hpB); (case hv5 => rfl); (case hw5 => rfl); (case hz5 => first | rfl | exact hv_size _ | exact one_bv _ | exact hdv_size _ _ | exact chc_size _ | exact chc_one _ | exact hdc_one _ _ rfl | (simp; done)); exact Tz))) ?_
   refine aOps_gd0 rfl rfl (wantT rfl rfl rfl) (fun hc => AOp.slots [(1, _)] (.cons rfl .nil) (AOp.move' (.inl rfl) rfl Tz)) ?_
   refine aOps_gd rfl rfl (wantT rfl rfl rfl) (fun hc => AOp.slots [(42, _), (43, _)] (.cons (gvT rfl hc) (.cons (gvT rfl hc) .nil)) (AOp.call' rfl rfl rfl (nHsound _ _ (hdAt r cols.length) (some ⟨kd, 0, some 1⟩) _ (SLC.hwb hW0) (hdIt_ok hok _).2 (by show (hdIt r (cols.length)).1.length ≤ _; rw [hdIt_len]; omega) cols B d (hCk.sub hS0) hcl) Iz)) (fun kq hkq => ?_)
   refine aOps_gd0 rfl rfl (wantT rfl rfl rfl) (fun hc => AOp.slots [(44, _)] (.cons (gvT rfl hc) .nil) (AOp.un' rfl rfl rfl Tz)) ?_
   refine Oz rfl rfl rfl (AOp.pickAnd rfl rfl rfl (fun hb => gvE rfl hb) ?_)
   refine Ez ?_
   refine ACode.cond rfl (fun c2 => ?_) (fun c2 => ?_)
   ·skip
    have hend : hdEnd r cols = (hdIt r (cols.length)).2.fail 4 := by rw [← hrun]; refine hdEnd_t ?_ ?_ <;> (rw [soundH_same] at c2; simp at c2; first | (rw [hrun]; exact c2.1) | (rw [hof]; exact c2.2))
    refine Rz [0, 1] Kz rfl ?_
    refine Mz ?_
    refine Oz rfl rfl rfl ?_
    refine AOp.call' rfl rfl rfl (nfail _ _ n c A ev0 (hdIt r (cols.length)).2 hR0 4 Dz Dz) ?_
    rintro _ HLf kf ⟨rfl, hPf⟩
    have hkf := hPf.1
    have hfLf := hPf.2.1
    have hsLf := hPf.2.2.1
    have hPfb := hPf
    obtain ⟨evf, hRf⟩ := hPfb.2.2.2
    have hnf := hRf.hn
    have thsLf := SubS.of hsLf
    refine Ez ?_
    first | refine thenA_n ?_ | simp only [thenA, blockA, if_true]
    exact ⟨(), has_append .nil Xz, (by (try dsimp only); exact ⟨hsLf _ _ (Uz hk0_), hsLf _ _ (Uz hq0), hsLf _ _ (Uz hW0), sub_cutn hS0 hsLf, evf, by rw [hend]; exact hRf⟩)⟩
   ·skip
    have hend : hdEnd r cols = (hdIt r (cols.length)).2 := by rw [← hrun]; refine hdEnd_f ?_; rw [hrun, hof]; rintro ⟨h8, h9⟩; rw [soundH_same, h9, decide_eq_true h8] at c2; cases c2
    refine ACode.skip ?_
    first | refine thenA_n ?_ | simp only [thenA, blockA, if_true]
    exact ⟨(), has_append .nil Xz, (by (try dsimp only); exact ⟨hk0_, hq0, hW0, hS0, ev0, by rw [hend]; exact hR0⟩)⟩
  ·show ACode _ _ _ _ _ ⟨_, _, _⟩
   obtain ⟨hkm_, hqm, hWm, hSm, evm, hRm⟩ := hXm
   have hkkm := old_lt hfLm hkm_
   have hdkm := old_lt hfLm hWm
   have h2m : HLm 1 = some hBlk := hSm _ _ ((upd_other _ _ h2n).trans h2)
   refine Sz ?_
   refine Sz ?_
   refine Rz [0, 1, 2] Kz rfl ?_
   refine Mz ?_
   refine aOps_q rfl rfl rfl (AOp.call' rfl rfl rfl (ggood _ _ h2m n c A evm (hdEnd r cols) hRm) Iz) (fun kq hkq => ?_)
   refine Oz rfl rfl rfl (AOp.un' rfl rfl rfl ?_)
   refine Ez ?_
   refine ACode.cond rfl (fun c3 => ?_) (fun c3 => ?_)
   ·try simp only [Cz] at c3
    refine Sz ?_
    refine Rz [0, 1] Kz rfl ?_
    refine Oz rfl rfl rfl (AOp.buildS (cells := #[_, _, _, _, _, _, _, _, _, _, _, _, _, _, _, _, _, _, _, _, _, _, _, _, _, _, _, _, _, _, _, _, _, _, _]) rfl rfl rfl ?_)
    refine aOps_0 rfl rfl rfl ?_
    refine AOp.storeAll (b := ?b6) rfl rfl rfl ?hn6 ?hk6 rfl ?hw6 ?ho6 ?hl6 ?hR6
    (case hn6 => exact hpB)
    (case hk6 => rfl)
    (case hw6 => first | rfl | exact hv_size _ | exact one_bv _ | exact hdv_size _ _ | exact chc_size _ | exact chc_one _ | exact hdc_one _ _ rfl | (simp; done))
    (case ho6 => first | rfl | exact hv_size _ | exact one_bv _ | exact hdv_size _ _ | exact chc_size _ | exact chc_one _ | exact hdc_one _ _ rfl | decide | (simp; done))
    (case hl6 => first | rfl | exact hv_size _ | exact one_bv _ | exact hdv_size _ _ | exact chc_size _ | exact chc_one _ | exact hdc_one _ _ rfl | (simp; done))
    refine Ez ?_
    refine ACode.ret ?_
    try simp only [thenA, blockA, if_true]
    rw [head_bad c3]
    have hPz : ∀ kz, km ≤ kz → k ≤ kz → RdP H k n A c (hdEnd r cols) (upd HLm k (some (hdblk hdD NIL))) kz := fun kz h1 h3 => ⟨h3, (fun m hm => by (repeat refine Uz ?_); exact hfLm m Wz), (sub_new hSm hk0), _, (hRm.away Wz (by rw [hdEnd_bs]; exact hAk) hkm_ (by show (81 : Nat) ≠ 101; decide))⟩
    exact RetQ.cell rfl rfl (aloadAll (b := hdblk hdD NIL) (v := hdv hdD NIL) (upd_same _ _ _) rfl rfl (hdv_size _ _)) (sub_refl _) (hPz (max km k) (Nat.le_max_left _ _) (Nat.le_max_right _ _)).stays (fun hk => ⟨⟨none, 0, rfl, SLC.nil, fun a h => by cases h⟩, hPz _ Wz Wz⟩)
   ·try simp only [Cz] at c3
    refine ACode.skip ?_
    refine Sz ?_
    refine Rz [0, 1] Kz rfl ?_
    refine Oz rfl rfl rfl ?_
    refine AOp.loadAll (b := ?b7) (v := hdv (hdAt r cols.length) (.slice (some ⟨kd, 0, some 1⟩) (hdIt r (cols.length)).1.length (hdIt r (cols.length)).1.length)) rfl rfl ?hn7 ?hv7 ?hw7 ?hz7 ?hR7
    (case hn7 => exact hpB)
    (case hv7 => rfl)
    (case hw7 => rfl)
    (case hz7 => first | rfl | exact hv_size _ | exact one_bv _ | exact hdv_size _ _ | exact chc_size _ | exact chc_one _ | exact hdc_one _ _ rfl | (simp; done))
    refine aOps_0 rfl rfl rfl ?_
    refine AOp.storeAll (b := ?b8) rfl rfl rfl ?hn8 ?hk8 rfl ?hw8 ?ho8 ?hl8 ?hR8
    (case hn8 => exact hpB)
    (case hk8 => rfl)
    (case hw8 => first | rfl | exact hv_size _ | exact one_bv _ | exact hdv_size _ _ | exact chc_size _ | exact chc_one _ | exact hdc_one _ _ rfl | (simp; done))
    (case ho8 => first | rfl | exact hv_size _ | exact one_bv _ | exact hdv_size _ _ | exact chc_size _ | exact chc_one _ | exact hdc_one _ _ rfl | decide | (simp; done))
    (case hl8 => first | rfl | exact hv_size _ | exact one_bv _ | exact hdv_size _ _ | exact chc_size _ | exact chc_one _ | exact hdc_one _ _ rfl | (simp; done))
    refine Ez ?_
    refine ACode.ret ?_
    try simp only [thenA, blockA, if_true]
    rw [head_good c3, hof]
    have hPz : ∀ kz, km ≤ kz → k ≤ kz → RdP H k n A c (hdEnd r cols) (upd HLm k (some (hdblk (hdAt r cols.length) (.slice (some ⟨kd, 0, some 1⟩) (hdIt r (cols.length)).1.length (hdIt r (cols.length)).1.length)))) kz := fun kz h1 h3 => ⟨h3, (fun m hm => by (repeat refine Uz ?_); exact hfLm m Wz), (sub_new hSm hk0), _, (hRm.away Wz (by rw [hdEnd_bs]; exact hAk) hkm_ (by show (81 : Nat) ≠ 101; decide))⟩
    exact RetQ.cell rfl rfl (aloadAll (b := hdblk (hdAt r cols.length) (.slice (some ⟨kd, 0, some 1⟩) (hdIt r (cols.length)).1.length (hdIt r (cols.length)).1.length)) (v := hdv (hdAt r cols.length) (.slice (some ⟨kd, 0, some 1⟩) (hdIt r (cols.length)).1.length (hdIt r (cols.length)).1.length)) (upd_same _ _ _) rfl rfl (hdv_size _ _)) (sub_refl _) (hPz (max km k) (Nat.le_max_left _ _) (Nat.le_max_right _ _)).stays (fun hk => ⟨⟨_, _, rfl, SLC.hwb (Uz hWm), fun a ha => by cases ha; exact ⟨by show k ≤ kd; omega, by show kd < _; omega⟩⟩, hPz _ Wz Wz⟩)
end

end Go.Proofs.YteoofihjmldllaaDoor
