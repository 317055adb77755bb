/- Contracts over the abstract states: digests and headers are the same. -/
import Derived.Test.YteoofihjmldllaaDoorRK
set_option linter.unusedVariables false
set_option linter.unusedSimpArgs false
set_option maxRecDepth 100000
namespace Go.Proofs.YteoofihjmldllaaDoor
open Go Go.Ab

theorem scals_app : ∀ {a b : List TypeDesc} {x y : List Value}, (scals a x).isSome = true → (scals b y).isSome = true → (scals (a ++ b) (x ++ y)).isSome = true
 | [], b, [], y, _, h2 => h2
 | [], b, v :: x, y, h1, _ => by cases h1
 | d :: a, b, [], y, h1, _ => by cases h1
 | d :: a, b, v :: x, y, h1, h2 => by
  rw [scals] at h1
  rw [List.cons_append, List.cons_append, scals]
  cases hs : scal d v with
  | none => rw [hs] at h1; cases h1
  | some l =>
   rw [hs] at h1
   cases ha : scals a x with
   | none => rw [ha] at h1; cases h1
   | some r =>
    obtain ⟨s, h3⟩ := Option.isSome_iff_exists.1 (scals_app (by rw [ha]; rfl : (scals a x).isSome = true) h2)
    rw [h3]
    rfl
theorem ch_sc {c : Ch} (h : c.z.ok) : (scals (dsZ ++ List.replicate 32 (.int .u8)) (chc c).toArray.toList).isSome = true := scals_app (zn_sc h) (hv_sc c.d)
theorem hdc_dead (h : Hd) (s : Value) : ((hdc h s).drop 2).take 32 = h.dead.l.map bv := by
 show (h.dead.l.map bv ++ [s]).take 32 = _
 rw [List.take_left' (hcs_one _)]
section
variable (H : Hp) (k : Nat)

theorem sameHs (p : List Dg) (A B : Option Addr) (c d : Nat) (hx : SLC H 32 A p.length c (hcs p)) (hy : SLC H 32 B p.length d (hcs p)) (hl : p.length ≤ 9223372036854775807) : ACalls Tryd.prog 3 83 [.slice A p.length c, .slice B p.length d] H k (Same H k (.bool true)) := by
 refine ACalls.fresh fun hf => ?_
 refine ACalls.body Tryd.func83 rfl (Nat.le_of_ble_eq_true rfl) ?_
 refine Sz ?_
 refine Rz [0] Kz rfl ?_
 refine Nz ?_
 refine Ez ?_
 refine Sz ?_
 refine Sz ?_
 refine Rz [0, 1, 2, 3, 4] Kz rfl ?_
 refine Mz ?_
 refine Oz rfl rfl rfl (AOp.len' rfl rfl ?_)
 refine Mz ?_
 refine Oz rfl rfl rfl (AOp.len' rfl rfl ?_)
 refine Oz rfl rfl rfl (AOp.bin' rfl rfl rfl rfl ?_)
 refine Ez ?_
 refine ACode.cond rfl (fun c0 => absurd c0 (by simp)) (fun c0 => ?_)
 refine ACode.skip ?_
 refine Sz ?_
 refine Sz ?_
 refine Rz [0] Kz rfl ?_
 refine Nz ?_
 refine Ez ?_
 refine ACode.block ?_
 refine ACode.count0 (fun i => [(5, .int .i64 (i : Int))]) [(0, _), (1, _)] (p.length) (fun _ => True) (.cons rfl .nil) (.cons rfl (.cons rfl .nil)) trivial (fun i0 kL0 HL0 hiL0 hkL0 hsL0 hfL0 hxL0 => ?_)
 show ACode _ _ _ _ _ ⟨_, _, _⟩
 have tsL0 := SubS.of hsL0
 refine Sz ?_
 refine Sz ?_
 refine Rz [0, 1, 2, 3] Kz rfl ?_
 refine Mz ?_
 refine Mz ?_
 refine Oz rfl rfl rfl (AOp.len' rfl rfl ?_)
 refine Oz rfl rfl rfl (AOp.bin' rfl rfl rfl rfl ?_)
 refine Ez ?_
 refine ACode.cond rfl (fun c1 => ?_) (fun c1 => ?_)
 ·try simp only [Cz] at c1
  refine ACode.skip ?_
  refine Sz ?_
  refine ACode.block ?_
  refine Sz ?_
  obtain ⟨n6_2, o6_2, s6_2, hq6_2, hp6_2⟩ := SLC.elH (SLC.sub hx subB) zeroD (show i0 < p.length by omega)
  obtain ⟨n6_6, o6_6, s6_6, hq6_6, hp6_6⟩ := SLC.elH (SLC.sub hy subB) zeroD (show i0 < p.length by omega)
  refine ACode.draw' 9 [(0, 17), (1, 18), (2, 19), (3, 20), (4, 21), (5, 22), (6, 23), (7, 24), (8, 25)] mixed Kz ?_
  refine Draw.step [(0, none)] rfl Kz rfl (fun kq hkq => AOp.move' (.inl rfl) rfl Vz) ?_
  refine Draw.step [(5, none)] rfl Kz rfl (fun kq hkq => AOp.move' (.inl rfl) rfl Vz) ?_
  refine Draw.step [(17, some 0), (18, some 1)] rfl Kz rfl (fun kq hkq => AOp.indexP (aslcAt_sub subB hq6_2) rfl rfl rfl Vz) ?_
  refine Draw.step [(19, some 2)] rfl Kz rfl (fun kq hkq => AOp.loadPA (v := hv (p.getD i0 zeroD)) (hp6_2.sub subB) rfl rfl rfl rfl (hcs_one _) Dz Vz) ?_
  refine Draw.step [(1, none)] rfl Kz rfl (fun kq hkq => AOp.move' (.inl rfl) rfl Vz) ?_
  refine Draw.step [(5, none)] rfl Kz rfl (fun kq hkq => AOp.move' (.inl rfl) rfl Vz) ?_
  refine Draw.step [(21, some 4), (22, some 5)] rfl Kz rfl (fun kq hkq => AOp.indexP (aslcAt_sub subB hq6_6) rfl rfl rfl Vz) ?_
  refine Draw.step [(23, some 6)] rfl Kz rfl (fun kq hkq => AOp.loadPA (v := hv (p.getD i0 zeroD)) (hp6_6.sub subB) rfl rfl rfl rfl (hcs_one _) Dz Vz) ?_
  refine Draw.step [(20, some 3), (24, some 7)] rfl Kz rfl (fun kq hkq => AOp.neAgg true rfl rfl rfl (hv_sc _) (hv_sc _) ⟨fun _ => rfl, fun _ => rfl⟩ Vz) ?_
  refine Draw.done fun kq hkq => ?_
  show aOps _ _ _ _ [] ⟨_, _, _⟩
  refine Ez ?_
  refine ACode.cond rfl (fun c2 => absurd c2 Dz) (fun c2 => ?_)
  refine ACode.skip ?_
  refine Rz [0, 1, 2] Kz rfl ?_
  refine Mz ?_
  refine Oz rfl rfl rfl (AOp.add rfl rfl rfl (i64_wrap Wz Wz) ?_)
  refine Nz ?_
  refine Ez ?_
  first | refine thenA_n ?_ | simp only [thenA, blockA, if_true]
  exact NextR.mk Wz Wz (.cons rfl .nil) (.cons rfl (.cons rfl .nil)) subB trivial
 ·try simp only [Cz] at c1
  refine ACode.exit ?_
  refine Sz ?_
  refine Rz [0] Kz rfl ?_
  refine Nz ?_
  refine Ez ?_
  refine ACode.ret ?_
  exact RetQ.one rfl rfl subB stays (fun hk => ⟨rfl, rfl, by omega⟩)

theorem sameHd (h : Hd) (A B : Option Addr) (c d : Nat) (hx : SLC H 40 A h.cols.length c (chs h.cols)) (hy : SLC H 40 B h.cols.length d (chs h.cols)) (hok : ∀ x ∈ h.cols, x.z.ok) (hl : h.cols.length ≤ 9223372036854775807) : ACalls Tryd.prog 3 84 [hdv h (.slice A h.cols.length c), hdv h (.slice B h.cols.length d)] H k (Same H k (.bool true)) := by
 refine ACalls.fresh fun hf => ?_
 refine ACalls.body Tryd.func84 rfl (Nat.le_of_ble_eq_true rfl) ?_
 refine Sz ?_
 refine Rz [0, 1, 2] Kz rfl ?_
 refine Oz rfl rfl rfl (AOp.boxV rfl rfl ?_)
 refine Oz rfl rfl rfl (AOp.boxV rfl rfl ?_)
 refine Nz ?_
 refine Ez ?_
 refine Sz ?_
 refine Sz ?_
 refine Rz [0, 1, 2, 3, 4, 5, 6, 7, 8, 9, 10, 11, 12, 13, 14, 15, 16, 17, 18, 19, 20, 21, 22, 23, 24, 25, 26, 27] Kz rfl ?_
 refine Fz ?_
 refine Oz rfl rfl rfl ?_
 refine AOp.load1 (b := ?b1) (v := ?v1) rfl rfl ?hn1 ?hv1 ?hR1
 (case hn1 => exact hpB)
 (case hv1 => rfl)
 refine Fz ?_
 refine Oz rfl rfl rfl ?_
 refine AOp.load1 (b := ?b2) (v := ?v2) rfl rfl ?hn2 ?hv2 ?hR2
 (case hn2 => exact hpB)
 (case hv2 => rfl)
 refine Oz rfl rfl rfl (AOp.bin' rfl rfl rfl rfl ?_)
 refine Mz ?_
 refine aOps_gd0 rfl rfl (wantF rfl rfl rfl) (fun hc => AOp.slots [(2, _)] (.cons rfl .nil) (AOp.fieldAddr' rfl Dz rfl Tz)) ?_
 refine aOps_gd0 rfl rfl (wantF rfl rfl rfl) (fun hc => AOp.slots [(12, _)] (.cons (gvT rfl hc) .nil) ((by refine AOp.load1 (b := ?b3) (v := ?v3) rfl rfl ?hn3 ?hv3 ?hR3; (case hn3 => exact hpB); (case hv3 => rfl); exact Tz))) ?_
 refine aOps_gd0 rfl rfl (wantF rfl rfl rfl) (fun hc => AOp.slots [(3, _)] (.cons rfl .nil) (AOp.fieldAddr' rfl Dz rfl Tz)) ?_
 refine aOps_gd0 rfl rfl (wantF rfl rfl rfl) (fun hc => AOp.slots [(14, _)] (.cons (gvT rfl hc) .nil) ((by refine AOp.load1 (b := ?b4) (v := ?v4) rfl rfl ?hn4 ?hv4 ?hR4; (case hn4 => exact hpB); (case hv4 => rfl); exact Tz))) ?_
 refine aOps_gd0 rfl rfl (wantF rfl rfl rfl) (fun hc => AOp.slots [(13, _), (15, _)] (.cons (gvT rfl hc) (.cons (gvT rfl hc) .nil)) (AOp.bin' rfl rfl rfl rfl Tz)) ?_
 refine Oz rfl rfl rfl (AOp.pickOr rfl rfl rfl (fun hb => gvE rfl (t_not hb)) ?_)
 refine Mz ?_
 refine aOps_gd0 rfl rfl (wantF rfl rfl rfl) (fun hc => AOp.slots [(2, _)] (.cons rfl .nil) (AOp.fieldAddr' rfl Dz rfl Tz)) ?_
 refine aOps_gd0 rfl rfl (wantF rfl rfl rfl) (fun hc => AOp.slots [(19, _)] (.cons (gvT rfl hc) .nil) (AOp.loadN (b := hdblk h (.slice A h.cols.length c)) (cs := h.dead.l.map bv) rfl rfl hpB (by show 2 + 32 ≤ (hdc _ _).length; rw [hdc_len]; decide) (hdc_dead _ _) Tz)) ?_
 refine aOps_gd0 rfl rfl (wantF rfl rfl rfl) (fun hc => AOp.slots [(3, _)] (.cons rfl .nil) (AOp.fieldAddr' rfl Dz rfl Tz)) ?_
 refine aOps_gd0 rfl rfl (wantF rfl rfl rfl) (fun hc => AOp.slots [(21, _)] (.cons (gvT rfl hc) .nil) (AOp.loadN (b := hdblk h (.slice B h.cols.length d)) (cs := h.dead.l.map bv) rfl rfl hpB (by show 2 + 32 ≤ (hdc _ _).length; rw [hdc_len]; decide) (hdc_dead _ _) Tz)) ?_
 refine aOps_gd0 rfl rfl (wantF rfl rfl rfl) (fun hc => AOp.slots [(20, _), (22, _)] (.cons (gvT rfl hc) (.cons (gvT rfl hc) .nil)) (AOp.neAgg true rfl rfl rfl (hv_sc _) (hv_sc _) ⟨fun _ => rfl, fun _ => rfl⟩ Tz)) ?_
 refine Oz rfl rfl rfl (AOp.pickOr rfl rfl rfl (fun hb => gvE rfl (t_not hb)) ?_)
 refine Mz ?_
 refine aOps_gd0 rfl rfl (wantF rfl rfl rfl) (fun hc => AOp.slots [(2, _)] (.cons rfl .nil) (AOp.fieldAddr' rfl Dz rfl Tz)) ?_
 refine aOps_gd0 rfl rfl (wantF rfl rfl rfl) (fun hc => AOp.slots [(26, _)] (.cons (gvT rfl hc) .nil) (AOp.load1 (b := hdblk h (.slice A h.cols.length c)) (v := .slice A h.cols.length c) rfl rfl hpB (hdc_s h _) Tz)) ?_
 refine aOps_gd0 rfl rfl (wantF rfl rfl rfl) (fun hc => AOp.slots [(27, _)] (.cons (gvT rfl hc) .nil) (AOp.len' rfl rfl Tz)) ?_
 refine aOps_gd0 rfl rfl (wantF rfl rfl rfl) (fun hc => AOp.slots [(3, _)] (.cons rfl .nil) (AOp.fieldAddr' rfl Dz rfl Tz)) ?_
 refine aOps_gd0 rfl rfl (wantF rfl rfl rfl) (fun hc => AOp.slots [(29, _)] (.cons (gvT rfl hc) .nil) (AOp.load1 (b := hdblk h (.slice B h.cols.length d)) (v := .slice B h.cols.length d) rfl rfl hpB (hdc_s h _) Tz)) ?_
 refine aOps_gd0 rfl rfl (wantF rfl rfl rfl) (fun hc => AOp.slots [(30, _)] (.cons (gvT rfl hc) .nil) (AOp.len' rfl rfl Tz)) ?_
 refine aOps_gd0 rfl rfl (wantF rfl rfl rfl) (fun hc => AOp.slots [(28, _), (31, _)] (.cons (gvT rfl hc) (.cons (gvT rfl hc) .nil)) (AOp.bin' rfl rfl rfl rfl Tz)) ?_
 refine Oz rfl rfl rfl (AOp.pickOr rfl rfl rfl (fun hb => gvE rfl (t_not hb)) ?_)
 refine Ez ?_
 refine ACode.cond rfl (fun c0 => absurd c0 (by simp)) (fun c0 => ?_)
 refine ACode.skip ?_
 refine Sz ?_
 refine Sz ?_
 refine Rz [0] Kz rfl ?_
 refine Nz ?_
 refine Ez ?_
 refine ACode.block ?_
 refine ACode.count0 (fun i => [(5, .int .i64 (i : Int))]) [(2, _), (3, _)] (h.cols.length) (fun _ => True) (.cons rfl .nil) (.cons rfl (.cons rfl .nil)) trivial (fun i0 kL0 HL0 hiL0 hkL0 hsL0 hfL0 hxL0 => ?_)
 show ACode _ _ _ _ _ ⟨_, _, _⟩
 have tsL0 := SubS.of hsL0
 refine Sz ?_
 refine Sz ?_
 refine Rz [0, 1, 2, 3, 4] Kz rfl ?_
 refine Mz ?_
 refine Fz ?_
 refine Oz rfl rfl rfl (AOp.load1 (b := hdblk h (.slice A h.cols.length c)) (v := .slice A h.cols.length c) rfl rfl hpB (hdc_s h _) ?_)
 refine Oz rfl rfl rfl (AOp.len' rfl rfl ?_)
 refine Oz rfl rfl rfl (AOp.bin' rfl rfl rfl rfl ?_)
 refine Ez ?_
 refine ACode.cond rfl (fun c1 => ?_) (fun c1 => ?_)
 ·try simp only [Cz] at c1
  refine ACode.skip ?_
  refine Sz ?_
  refine ACode.block ?_
  refine Sz ?_
  have hmem : (h.cols.getD i0 chD) ∈ h.cols := getD_mem Wz
  obtain ⟨n6_3, o6_3, s6_3, hq6_3, hp6_3⟩ := SLC.elC (i := i0) (SLC.sub hx subB) Wz
  obtain ⟨n6_8, o6_8, s6_8, hq6_8, hp6_8⟩ := SLC.elC (i := i0) (SLC.sub hy subB) Wz
  refine ACode.draw' 11 [(0, 41), (1, 42), (2, 43), (3, 44), (4, 45), (5, 46), (6, 47), (7, 48), (8, 49), (9, 50), (10, 51)] mixed Kz ?_
  refine Draw.step [(2, none)] rfl Kz rfl (fun kq hkq => AOp.fieldAddr' rfl Dz rfl Vz) ?_
  refine Draw.step [(41, some 0)] rfl Kz rfl (fun kq hkq => AOp.load1 (b := hdblk h (.slice A h.cols.length c)) (v := .slice A h.cols.length c) rfl rfl hpB (hdc_s h _) Vz) ?_
  refine Draw.step [(5, none)] rfl Kz rfl (fun kq hkq => AOp.move' (.inl rfl) rfl Vz) ?_
  refine Draw.step [(42, some 1), (43, some 2)] rfl Kz rfl (fun kq hkq => AOp.indexP (aslcAt_sub subB hq6_3) rfl rfl rfl Vz) ?_
  refine Draw.step [(44, some 3)] rfl Kz rfl (fun kq hkq => AOp.loadPA (v := .agg (chc (h.cols.getD i0 chD)).toArray) (hp6_3.sub subB) rfl rfl rfl rfl (chc_len _) Dz Vz) ?_
  refine Draw.step [(3, none)] rfl Kz rfl (fun kq hkq => AOp.fieldAddr' rfl Dz rfl Vz) ?_
  refine Draw.step [(46, some 5)] rfl Kz rfl (fun kq hkq => AOp.load1 (b := hdblk h (.slice B h.cols.length d)) (v := .slice B h.cols.length d) rfl rfl hpB (hdc_s h _) Vz) ?_
  refine Draw.step [(5, none)] rfl Kz rfl (fun kq hkq => AOp.move' (.inl rfl) rfl Vz) ?_
  refine Draw.step [(47, some 6), (48, some 7)] rfl Kz rfl (fun kq hkq => AOp.indexP (aslcAt_sub subB hq6_8) rfl rfl rfl Vz) ?_
  refine Draw.step [(49, some 8)] rfl Kz rfl (fun kq hkq => AOp.loadPA (v := .agg (chc (h.cols.getD i0 chD)).toArray) (hp6_8.sub subB) rfl rfl rfl rfl (chc_len _) Dz Vz) ?_
  refine Draw.step [(45, some 4), (50, some 9)] rfl Kz rfl (fun kq hkq => AOp.neAgg true rfl rfl rfl (ch_sc (hok _ hmem)) (ch_sc (hok _ hmem)) ⟨fun _ => rfl, fun _ => rfl⟩ Vz) ?_
  refine Draw.done fun kq hkq => ?_
  show aOps _ _ _ _ [] ⟨_, _, _⟩
  refine Ez ?_
  refine ACode.cond rfl (fun c2 => absurd c2 Dz) (fun c2 => ?_)
  refine ACode.skip ?_
  refine Rz [0, 1, 2] Kz rfl ?_
  refine Mz ?_
  refine Oz rfl rfl rfl (AOp.add rfl rfl rfl (i64_wrap Wz Wz) ?_)
  refine Nz ?_
  refine Ez ?_
  first | refine thenA_n ?_ | simp only [thenA, blockA, if_true]
  exact NextR.mk Wz Wz (.cons rfl .nil) (.cons rfl (.cons rfl .nil)) subB trivial
 ·try simp only [Cz] at c1
  refine ACode.exit ?_
  refine Sz ?_
  refine Rz [0] Kz rfl ?_
  refine Nz ?_
  refine Ez ?_
  refine ACode.ret ?_
  exact RetQ.one rfl rfl subB stays (fun hk => ⟨rfl, rfl, by omega⟩)
end

end Go.Proofs.YteoofihjmldllaaDoor
