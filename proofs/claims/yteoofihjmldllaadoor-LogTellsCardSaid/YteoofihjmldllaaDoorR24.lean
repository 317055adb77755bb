/- Contracts over the abstract states: LogTells. -/
import Derived.Test.YteoofihjmldllaaDoorR22
import Derived.Test.YteoofihjmldllaaDoorR23
import Derived.Test.YteoofihjmldllaaDoorR17
set_option linter.unusedVariables false
set_option linter.unusedSimpArgs false
set_option maxRecDepth 100000
namespace Go.Proofs.YteoofihjmldllaaDoor
open Go Go.Ab

theorem putC_len {c : Cm} (h : c.lean_) (hf : c.pred.fine) : (putC c).1.length ≤ 1000000 := by
  have hl := lean_plain h
  have hp : (plainC c).pred.fine := by
    have h0 : pD0.fine := by rw [Pd.fine]; exact ⟨⟨by decide, by decide⟩, fun v hv => (nomatch hv), by rw [Pd.fines]; trivial⟩
    unfold plainC
    split
    · exact h0
    · split
      · exact h0
      · split
        · exact hf
        · split
          · exact h0
          · exact h0
  have h1 := hl.sch
  have h2 := hl.small
  have h3 := hl.len hp
  have h4 := rowsB_le h2 (plainC c).rows.length
  rw [List.take_length] at h4
  have h5 := h2.n
  have h6 := varB_len (plainC c).rows.length (by omega)
  have h7 : (rowsB (plainC c).rows).length ≤ 388510 := by rw [rowsB, List.length_append]; omega
  have h8 : (schB (plainC c).sch).length ≤ 300 := by rw [schB, List.length_cons, colB_len]; omega
  have v1 := varB_len (uN (plainC c).most) (uN_lt _)
  have v2 := varB_len (uN (plainC c).fr) (uN_lt _)
  have v3 := varB_len (uN (plainC c).to) (uN_lt _)
  unfold putC
  split
  · show (byteI c.kind :: bodyC (plainC c)).length ≤ 1000000
    rw [List.length_cons]
    unfold bodyC
    split
    · rw [List.length_append]; omega
    · split
      · omega
      · split
        · omega
        · split
          · rw [List.length_append]; omega
          · rw [List.length_nil]; omega
  · exact Nat.zero_le _
theorem putC_plain {a b : Cm} (h : plainC a = plainC b) : putC a = putC b := by
  have hk : a.kind = b.kind := by rw [← plainC_kind a, ← plainC_kind b, h]
  unfold putC
  rw [h, hk]
theorem tells_key {cols : List Col} {a b : Cm} (h1 : eqB (takeC cols (putC a).1).1 (plainC a) = true) (h2 : eqB (takeC cols (putC b).1).1 (plainC b) = true) : (decide ((putC a).1 = (putC b).1) == eqB (takeC cols (putC a).1).1 (takeC cols (putC b).1).1) = true := by
  have e1 := eqB_iff.1 h1
  have e2 := eqB_iff.1 h2
  by_cases h : (putC a).1 = (putC b).1
  · rw [decide_eq_true h, h, eqB_t rfl]; rfl
  · rw [decide_eq_false h, eqB_f]
    · rfl
    · intro e
      rw [e1, e2] at e
      exact h (by rw [putC_plain e])
theorem plain_ok {c : Cm} (h : c.ok) : (plainC c).ok := by
  have h0 := cmD_ok c.kind
  unfold plainC
  split
  · exact ⟨h.sl, h.so, h0.rl, h0.rr, h0.ro⟩
  · split
    · exact ⟨h0.sl, h0.so, h.rl, h.rr, h.ro⟩
    · split
      · exact ⟨h0.sl, h0.so, h0.rl, h0.rr, h0.ro⟩
      · split
        · exact ⟨h0.sl, h0.so, h0.rl, h0.rr, h0.ro⟩
        · exact h0
section
variable (H : Hp) (k : Nat)

set_option maxHeartbeats 2000000 in
theorem logTells1 (h2 : H 1 = some hBlk) (a b : Cm) (hao : a.ok) (hbo : b.ok) (va vb : Value) (ha : CmV H a va) (hb : CmV H b vb) (cols : List Col) (B : Option Addr) (d : Nat) (hC : SLC H 3 B cols.length d (cols3 cols)) (hcl : cols.length ≤ 9223372036854775807) (hc1 : (takeC cols (putC a).1).2.1 ≠ 0) : ACalls Tryd.prog 3 6 [va, vb, .slice B cols.length d] H k (fun v _ _ => v = .bool true) := by
  have ha0 := ha
  have hb0 := hb
  obtain ⟨xs, xn, xw, xwn, xws, xo, xc, xA, xl, xcc, xB, xm, xd, rfl, x1, x2, x3, x4⟩ := ha
  obtain ⟨ys, yn, yw, ywn, yws, yo, yc, yA, yl, ycc, yB, ym, yd, rfl, y1, y2, y3, y4⟩ := hb
  refine ACalls.fresh fun hf => ?_
  refine ACalls.body Tryd.func6 rfl (Nat.le_of_ble_eq_true rfl) ?_
  have h2k := old_lt hf h2
  refine ACode.seq ?_
  refine ACode.region' [0, 1, 2] (by kernel_rfl) rfl ?_
  refine aOps_1 rfl rfl rfl (AOp.boxV rfl rfl ?_)
  refine aOps_1 rfl rfl rfl (AOp.boxV rfl rfl ?_)
  refine aOps_1 rfl rfl rfl (AOp.move' (.inr rfl) rfl ?_)
  refine aOps_end ?_
  show ACode _ _ _ _ _ _
  refine ACode.seq ?_
  refine ACode.seq ?_
  refine ACode.region' [0, 1, 2, 3, 4, 5, 6, 7, 8, 9, 10, 11, 12, 13, 14, 15] (by kernel_rfl) rfl ?_
  refine aOps_1 rfl rfl rfl ?_
  refine AOp.loadAll (b := ?b1) (v := cmv a.kind (.slice xs a.sch.length xn) a.most (.slice xw xws.length xwn) xo xc (.slice xA xl xcc) (.slice xB xm xd) a.fr a.to) rfl rfl ?hn1 ?hv1 ?hw1 ?hz1 ?hR1
  (case hn1 => exact hpA)
  (case hv1 => rfl)
  (case hw1 => rfl)
  (case hz1 => first | rfl | (simp; done))
  refine aOps_q rfl rfl rfl (AOp.call' rfl rfl rfl (great25 _ _ a hao _ (CmV.sub subA ha0)) (fun _ _ _ h => h)) (fun kq hkq => ?_)
  refine aOps_1 rfl rfl rfl (AOp.move' (.inl rfl) rfl ?_)
  refine aOps_gd0 rfl rfl (wantF rfl rfl rfl) (fun hc => AOp.slots [(4, _)] (.cons rfl .nil) ((by refine AOp.loadAll (b := ?b2) (v := cmv b.kind (.slice ys b.sch.length yn) b.most (.slice yw yws.length ywn) yo yc (.slice yA yl ycc) (.slice yB ym yd) b.fr b.to) rfl rfl ?hn2 ?hv2 ?hw2 ?hz2 ?hR2; (case hn2 => exact hpA); (case hv2 => rfl); (case hw2 => rfl); (case hz2 => first | rfl | (simp; done)); exact ⟨rfl, rfl, rfl⟩))) ?_
  refine aOps_gd rfl rfl (wantF rfl rfl rfl) (fun hc => AOp.slots [(20, _)] (.cons (gvT rfl hc) .nil) (AOp.call' rfl rfl rfl (great25 _ _ b hbo _ (CmV.sub subA hb0)) (fun _ _ _ h => h))) (fun kq hkq => ?_)
  refine aOps_1 rfl rfl rfl (AOp.pickOr rfl rfl rfl (fun hb => gvE rfl (t_not hb)) ?_)
  refine aOps_1 rfl rfl rfl (AOp.move' (.inl rfl) rfl ?_)
  refine aOps_gd0 rfl rfl (wantF rfl rfl rfl) (fun hc => AOp.slots [(2, _)] (.cons rfl .nil) (AOp.move' (.inl rfl) rfl ⟨rfl, rfl, rfl⟩)) ?_
  refine aOps_gd0 rfl rfl (wantF rfl rfl rfl) (fun hc => AOp.slots [(24, _)] (.cons (gvT rfl hc) .nil) (AOp.len' rfl rfl ⟨rfl, rfl, rfl⟩)) ?_
  refine aOps_gd0 rfl rfl (wantF rfl rfl rfl) (fun hc => AOp.slots [(25, _)] (.cons (gvT rfl hc) .nil) (AOp.bin' rfl rfl rfl rfl ⟨rfl, rfl, rfl⟩)) ?_
  refine aOps_1 rfl rfl rfl (AOp.pickOr rfl rfl rfl (fun hb => gvE rfl (t_not hb)) ?_)
  refine aOps_1 rfl rfl rfl (AOp.move' (.inl rfl) rfl ?_)
  refine aOps_gd0 rfl rfl (wantF rfl rfl rfl) (fun hc => AOp.slots [(2, _)] (.cons rfl .nil) (AOp.move' (.inl rfl) rfl ⟨rfl, rfl, rfl⟩)) ?_
  refine aOps_gd0 rfl rfl (wantF rfl rfl rfl) (fun hc => AOp.slots [(29, _)] (.cons (gvT rfl hc) .nil) (AOp.len' rfl rfl ⟨rfl, rfl, rfl⟩)) ?_
  refine aOps_gd0 rfl rfl (wantF rfl rfl rfl) (fun hc => AOp.slots [(30, _)] (.cons (gvT rfl hc) .nil) (AOp.bin' rfl rfl rfl rfl ⟨rfl, rfl, rfl⟩)) ?_
  refine aOps_1 rfl rfl rfl (AOp.pickOr rfl rfl rfl (fun hb => gvE rfl (t_not hb)) ?_)
  refine aOps_end ?_
  show ACode _ _ _ _ _ _
  refine ACode.cond rfl (fun c0 => ?_) (fun c0 => ?_)
  · skip
    refine ACode.seq ?_
    refine ACode.region' [0, 1] (by kernel_rfl) rfl ?_
    refine aOps_q rfl rfl rfl (AOp.call' rfl rfl rfl (awake25 _ _ hpA) (fun _ _ _ h => h)) (fun kq hkq => ?_)
    refine aOps_1 rfl rfl rfl (AOp.move' (.inr rfl) rfl ?_)
    refine aOps_end ?_
    show ACode _ _ _ _ _ _
    refine ACode.ret ?_
    try simp only [thenA, blockA, if_true]
    exact RetQ.one rfl rfl (sub_refl _) (fun m b h => ⟨b, (show Ab.Sub H _ from by exact subA) m b h⟩) (fun hk => rfl)
  · skip
    simp only [Bool.or_eq_false_iff, decide_eq_false_iff_not, beq_eq_false_iff_ne] at c0
    obtain ⟨⟨⟨g1, g2⟩, g3⟩, g4⟩ := c0
    have hla := great_lean hao x4.okS g1
    have hlb := great_lean hbo y4.okS g2
    have hlx := putC_len hla x4.fine
    have hly := putC_len hlb y4.fine
    refine ACode.skip ?_
    show ACode _ _ _ _ _ _
    refine ACode.seq ?_
    refine ACode.region' [0, 1, 2, 3, 4, 5, 6] (by kernel_rfl) rfl ?_
    refine aOps_1 rfl rfl rfl ?_
    refine AOp.loadAll (b := ?b3) (v := cmv a.kind (.slice xs a.sch.length xn) a.most (.slice xw xws.length xwn) xo xc (.slice xA xl xcc) (.slice xB xm xd) a.fr a.to) rfl rfl ?hn3 ?hv3 ?hw3 ?hz3 ?hR3
    (case hn3 => exact hpA)
    (case hv3 => rfl)
    (case hw3 => rfl)
    (case hz3 => first | rfl | (simp; done))
    refine aOps_1 rfl rfl rfl ?_
    refine AOp.call' rfl rfl rfl (put_c _ _ a hao xs xn xw xwn xws xo xc xA xl xcc xB xm xd (x1.sub subA) (x2.sub subA) (x3.sub subA) (x4.sub subA) hla) ?_
    rintro _ HLx kx ⟨vx, rfl, hNx, hkx, hfLx, hsLx⟩
    have thsLx := SubS.of hsLx
    obtain ⟨Ax, cx, rfl, hSx, hAx⟩ := hNx
    refine aOps_1 rfl rfl rfl (AOp.move' (.inl rfl) rfl ?_)
    refine aOps_1 rfl rfl rfl (AOp.extract' rfl rfl rfl ?_)
    refine aOps_1 rfl rfl rfl (AOp.extract' rfl rfl rfl ?_)
    refine aOps_1 rfl rfl rfl (AOp.move' (.inr rfl) rfl ?_)
    refine aOps_1 rfl rfl rfl (AOp.move' (.inr rfl) rfl ?_)
    refine aOps_end ?_
    show ACode _ _ _ _ _ _
    refine ACode.seq ?_
    refine ACode.region' [0, 1, 2, 3, 4, 5, 6] (by kernel_rfl) rfl ?_
    refine aOps_1 rfl rfl rfl ?_
    refine AOp.loadAll (b := ?b4) (v := cmv b.kind (.slice ys b.sch.length yn) b.most (.slice yw yws.length ywn) yo yc (.slice yA yl ycc) (.slice yB ym yd) b.fr b.to) rfl rfl ?hn4 ?hv4 ?hw4 ?hz4 ?hR4
    (case hn4 => exact hpA)
    (case hv4 => rfl)
    (case hw4 => rfl)
    (case hz4 => first | rfl | (simp; done))
    refine aOps_1 rfl rfl rfl ?_
    refine AOp.call' rfl rfl rfl (put_c _ _ b hbo ys yn yw ywn yws yo yc yA yl ycc yB ym yd (y1.sub subA) (y2.sub subA) (y3.sub subA) (y4.sub subA) hlb) ?_
    rintro _ HLy ky ⟨vy, rfl, hNy, hky, hfLy, hsLy⟩
    have thsLy := SubS.of hsLy
    obtain ⟨Ay, cy, rfl, hSy, hAy⟩ := hNy
    refine aOps_1 rfl rfl rfl (AOp.move' (.inl rfl) rfl ?_)
    refine aOps_1 rfl rfl rfl (AOp.extract' rfl rfl rfl ?_)
    refine aOps_1 rfl rfl rfl (AOp.extract' rfl rfl rfl ?_)
    refine aOps_1 rfl rfl rfl (AOp.move' (.inr rfl) rfl ?_)
    refine aOps_1 rfl rfl rfl (AOp.move' (.inr rfl) rfl ?_)
    refine aOps_end ?_
    show ACode _ _ _ _ _ _
    refine ACode.seq ?_
    refine ACode.seq ?_
    refine ACode.region' [0, 1, 2, 3, 4, 5] (by kernel_rfl) rfl ?_
    refine aOps_1 rfl rfl rfl (AOp.move' (.inl rfl) rfl ?_)
    refine aOps_1 rfl rfl rfl (AOp.bin' rfl rfl rfl rfl ?_)
    refine aOps_1 rfl rfl rfl (AOp.move' (.inl rfl) rfl ?_)
    refine aOps_gd0 rfl rfl (wantF rfl rfl rfl) (fun hc => AOp.slots [(10, _)] (.cons rfl .nil) (AOp.move' (.inl rfl) rfl ⟨rfl, rfl, rfl⟩)) ?_
    refine aOps_gd0 rfl rfl (wantF rfl rfl rfl) (fun hc => AOp.slots [(47, _)] (.cons (gvT rfl hc) .nil) (AOp.bin' rfl rfl rfl rfl ⟨rfl, rfl, rfl⟩)) ?_
    refine aOps_1 rfl rfl rfl (AOp.pickOr rfl rfl rfl (fun hb => gvE rfl (t_not hb)) ?_)
    refine aOps_end ?_
    show ACode _ _ _ _ _ _
    refine ACode.cond rfl (fun c1 => ?_) (fun c1 => ?_)
    · skip
      refine ACode.seq ?_
      refine ACode.region' [0, 1] (by kernel_rfl) rfl ?_
      refine aOps_q rfl rfl rfl (AOp.call' rfl rfl rfl (awake25 _ _ hpA) (fun _ _ _ h => h)) (fun kq hkq => ?_)
      refine aOps_1 rfl rfl rfl (AOp.move' (.inr rfl) rfl ?_)
      refine aOps_end ?_
      show ACode _ _ _ _ _ _
      refine ACode.ret ?_
      try simp only [thenA, blockA, if_true]
      exact RetQ.one rfl rfl (sub_refl _) (fun m b h => ⟨b, (show Ab.Sub H _ from by exact subA) m b h⟩) (fun hk => rfl)
    · skip
      refine ACode.skip ?_
      show ACode _ _ _ _ _ _
      refine ACode.seq ?_
      refine ACode.region' [0, 1, 2, 3, 4, 5, 6, 7, 8, 9, 10] (by kernel_rfl) rfl ?_
      refine aOps_1 rfl rfl rfl (AOp.move' (.inl rfl) rfl ?_)
      refine aOps_1 rfl rfl rfl (AOp.move' (.inl rfl) rfl ?_)
      refine aOps_1 rfl rfl rfl ?_
      refine AOp.call' rfl rfl rfl (nlogTake _ _ hpA (putC a).1 Ax cx (hSx.sub subA) (by omega) cols B d (hC.sub subA) (by omega)) ?_
      rintro _ HLc kc ⟨ccv, rfl, hcv, hkc, hfLc, hsLc⟩
      have thsLc := SubS.of hsLc
      have hcv2 := hcv
      obtain ⟨us, un, uw, uwn, uws, uo, uc, uA, ul, ucc, uB, um, ud, rfl, u1, u2, u3, u4⟩ := hcv2
      refine aOps_1 rfl rfl rfl (AOp.move' (.inl rfl) rfl ?_)
      refine aOps_1 rfl rfl rfl (AOp.extract' rfl rfl rfl ?_)
      refine aOps_1 rfl rfl rfl (AOp.extract' rfl rfl rfl ?_)
      refine aOps_1 rfl rfl rfl (AOp.extract' rfl rfl rfl ?_)
      refine aOps_1 rfl rfl rfl (AOp.alloc' rfl ?_)
      refine aOps_0 rfl rfl rfl ?_
      refine AOp.storeAll (b := ?b5) rfl rfl rfl ?hn5 ?hk5 rfl ?hw5 ?ho5 ?hl5 ?hR5
      (case hn5 => exact hpA)
      (case hk5 => rfl)
      (case hw5 => first | rfl | (simp; done))
      (case ho5 => first | rfl | decide | (simp; done))
      (case hl5 => first | rfl | (simp; done))
      refine aOps_1 rfl rfl rfl (AOp.move' (.inr rfl) rfl ?_)
      refine aOps_1 rfl rfl rfl (AOp.move' (.inr rfl) rfl ?_)
      rw [rd_upd2]
      refine aOps_end ?_
      show ACode _ _ _ _ _ _
      refine ACode.seq ?_
      refine ACode.region' [0, 1, 2, 3, 4, 5, 6, 7, 8, 9, 10] (by kernel_rfl) rfl ?_
      refine aOps_1 rfl rfl rfl (AOp.move' (.inl rfl) rfl ?_)
      refine aOps_1 rfl rfl rfl (AOp.move' (.inl rfl) rfl ?_)
      refine aOps_1 rfl rfl rfl ?_
      refine AOp.call' rfl rfl rfl (nlogTake _ _ hpA (putC b).1 Ay cy (hSy.sub subA) (by omega) cols B d (hC.sub subA) (by omega)) ?_
      rintro _ HLd kd ⟨cdv, rfl, hdv, hkd, hfLd, hsLd⟩
      have thsLd := SubS.of hsLd
      have hdv2 := hdv
      obtain ⟨ws, wn, ww, wwn, wws, wo, wc, wA, wl, wcc, wB, wm, wd, rfl, w1, w2, w3, w4⟩ := hdv2
      refine aOps_1 rfl rfl rfl (AOp.move' (.inl rfl) rfl ?_)
      refine aOps_1 rfl rfl rfl (AOp.extract' rfl rfl rfl ?_)
      refine aOps_1 rfl rfl rfl (AOp.extract' rfl rfl rfl ?_)
      refine aOps_1 rfl rfl rfl (AOp.extract' rfl rfl rfl ?_)
      refine aOps_1 rfl rfl rfl (AOp.alloc' rfl ?_)
      refine aOps_0 rfl rfl rfl ?_
      refine AOp.storeAll (b := ?b6) rfl rfl rfl ?hn6 ?hk6 rfl ?hw6 ?ho6 ?hl6 ?hR6
      (case hn6 => exact hpA)
      (case hk6 => rfl)
      (case hw6 => first | rfl | (simp; done))
      (case ho6 => first | rfl | decide | (simp; done))
      (case hl6 => first | rfl | (simp; done))
      refine aOps_1 rfl rfl rfl (AOp.move' (.inr rfl) rfl ?_)
      refine aOps_1 rfl rfl rfl (AOp.move' (.inr rfl) rfl ?_)
      rw [rd_upd2]
      refine aOps_end ?_
      show ACode _ _ _ _ _ _
      refine ACode.seq ?_
      refine ACode.seq ?_
      refine ACode.any mixed (by kernel_rfl) ?_
      refine AnyA.float [(0, 65), (1, 66), (2, 67), (3, 68), (4, 69), (5, 70), (6, 71), (7, 72), (8, 73), (9, 74), (10, 75), (11, 76), (12, 77), (13, 78), (14, 79), (15, 80), (16, 81), (17, 82), (18, 83), (19, 84)] [] (by kernel_rfl) (Nat.le_of_ble_eq_true rfl) (by kernel_rfl) (sub_refl _) ?_
      refine DrawF.q 0 65 [(12, none)] rfl (by kernel_rfl) rfl (fun Hc kq hSb => AOp.move' (.inl rfl) rfl ⟨rfl, rfl, rfl⟩) ?_
      refine DrawF.q 1 66 [(65, some 0)] rfl (by kernel_rfl) rfl (fun Hc kq hSb => AOp.bin' (z := .bool true) rfl rfl rfl (congrArg (fun b => some (Value.bool b)) (show (_ != _) = true by rw [bne_iff_ne]; exact hc1)) ⟨rfl, rfl, rfl⟩) ?_
      refine DrawF.q 2 67 [(66, some 1)] rfl (by kernel_rfl) rfl (fun Hc kq hSb => AOp.move' (.inl rfl) rfl ⟨rfl, rfl, rfl⟩) ?_
      refine DrawF.skip 3 68 [(15, none), (67, some 2)] rfl (by kernel_rfl) rfl ?_
      refine DrawF.skip 4 69 [(68, some 3), (67, some 2)] rfl (by kernel_rfl) rfl ?_
      refine DrawF.q 5 70 [(67, some 2), (69, some 4)] rfl (by kernel_rfl) rfl (fun Hc kq hSb => AOp.pickB rfl rfl rfl ⟨rfl, rfl, rfl⟩) ?_
      refine DrawF.q 6 71 [(70, some 5)] rfl (by kernel_rfl) rfl (fun Hc kq hSb => AOp.move' (.inl rfl) rfl ⟨rfl, rfl, rfl⟩) ?_
      refine DrawF.skip 7 72 [(11, none), (71, some 6)] rfl (by kernel_rfl) rfl ?_
      refine DrawF.skip 8 73 [(3, none), (71, some 6)] rfl (by kernel_rfl) rfl ?_
      refine DrawF.skip 9 74 [(73, some 8), (71, some 6)] rfl (by kernel_rfl) rfl ?_
      refine DrawF.skip 10 75 [(72, some 7), (74, some 9), (71, some 6)] rfl (by kernel_rfl) rfl ?_
      refine DrawF.skip 11 76 [(75, some 10), (71, some 6)] rfl (by kernel_rfl) rfl ?_
      refine DrawF.q 12 77 [(71, some 6), (76, some 11)] rfl (by kernel_rfl) rfl (fun Hc kq hSb => AOp.pickB rfl rfl rfl ⟨rfl, rfl, rfl⟩) ?_
      refine DrawF.q 13 78 [(77, some 12)] rfl (by kernel_rfl) rfl (fun Hc kq hSb => AOp.move' (.inl rfl) rfl ⟨rfl, rfl, rfl⟩) ?_
      refine DrawF.skip 14 79 [(14, none), (78, some 13)] rfl (by kernel_rfl) rfl ?_
      refine DrawF.skip 15 80 [(4, none), (78, some 13)] rfl (by kernel_rfl) rfl ?_
      refine DrawF.skip 16 81 [(80, some 15), (78, some 13)] rfl (by kernel_rfl) rfl ?_
      refine DrawF.skip 17 82 [(79, some 14), (81, some 16), (78, some 13)] rfl (by kernel_rfl) rfl ?_
      refine DrawF.skip 18 83 [(82, some 17), (78, some 13)] rfl (by kernel_rfl) rfl ?_
      refine DrawF.q 19 84 [(78, some 13), (83, some 18)] rfl (by kernel_rfl) rfl (fun Hc kq hSb => AOp.pickB rfl rfl rfl ⟨rfl, rfl, rfl⟩) ?_
      refine DrawF.done ?_
      show aOpsF _ _ _ _ _ _ [] ⟨_, _, _⟩
      refine aOpsF_end ?_
      show ACode _ _ _ _ _ _
      refine ACode.cond rfl (fun c2 => ?_) (fun c2 => absurd c2 (by decide))
      refine ACode.seq ?_
      refine ACode.region' [0, 1] (by kernel_rfl) rfl ?_
      refine aOps_q rfl rfl rfl (AOp.call' rfl rfl rfl (awake25 _ _ hpA) (fun _ _ _ h => h)) (fun kq hkq => ?_)
      refine aOps_1 rfl rfl rfl (AOp.move' (.inr rfl) rfl ?_)
      refine aOps_end ?_
      show ACode _ _ _ _ _ _
      refine ACode.ret ?_
      try simp only [thenA, blockA, if_true]
      exact RetQ.one rfl rfl (sub_refl _) (fun m b h => ⟨b, (show Ab.Sub H _ from by exact subA) m b h⟩) (fun hk => rfl)

set_option maxHeartbeats 2000000 in
theorem logTells2 (h2 : H 1 = some hBlk) (a b : Cm) (hao : a.ok) (hbo : b.ok) (va vb : Value) (ha : CmV H a va) (hb : CmV H b vb) (cols : List Col) (B : Option Addr) (d : Nat) (hC : SLC H 3 B cols.length d (cols3 cols)) (hcl : cols.length ≤ 9223372036854775807) (hc1 : (takeC cols (putC a).1).2.1 = 0) (hc2 : (takeC cols (putC b).1).2.1 ≠ 0) : ACalls Tryd.prog 3 6 [va, vb, .slice B cols.length d] H k (fun v _ _ => v = .bool true) := by
  have ha0 := ha
  have hb0 := hb
  obtain ⟨xs, xn, xw, xwn, xws, xo, xc, xA, xl, xcc, xB, xm, xd, rfl, x1, x2, x3, x4⟩ := ha
  obtain ⟨ys, yn, yw, ywn, yws, yo, yc, yA, yl, ycc, yB, ym, yd, rfl, y1, y2, y3, y4⟩ := hb
  refine ACalls.fresh fun hf => ?_
  refine ACalls.body Tryd.func6 rfl (Nat.le_of_ble_eq_true rfl) ?_
  have h2k := old_lt hf h2
  refine ACode.seq ?_
  refine ACode.region' [0, 1, 2] (by kernel_rfl) rfl ?_
  refine aOps_1 rfl rfl rfl (AOp.boxV rfl rfl ?_)
  refine aOps_1 rfl rfl rfl (AOp.boxV rfl rfl ?_)
  refine aOps_1 rfl rfl rfl (AOp.move' (.inr rfl) rfl ?_)
  refine aOps_end ?_
  show ACode _ _ _ _ _ _
  refine ACode.seq ?_
  refine ACode.seq ?_
  refine ACode.region' [0, 1, 2, 3, 4, 5, 6, 7, 8, 9, 10, 11, 12, 13, 14, 15] (by kernel_rfl) rfl ?_
  refine aOps_1 rfl rfl rfl ?_
  refine AOp.loadAll (b := ?b7) (v := cmv a.kind (.slice xs a.sch.length xn) a.most (.slice xw xws.length xwn) xo xc (.slice xA xl xcc) (.slice xB xm xd) a.fr a.to) rfl rfl ?hn7 ?hv7 ?hw7 ?hz7 ?hR7
  (case hn7 => exact hpA)
  (case hv7 => rfl)
  (case hw7 => rfl)
  (case hz7 => first | rfl | (simp; done))
  refine aOps_q rfl rfl rfl (AOp.call' rfl rfl rfl (great25 _ _ a hao _ (CmV.sub subA ha0)) (fun _ _ _ h => h)) (fun kq hkq => ?_)
  refine aOps_1 rfl rfl rfl (AOp.move' (.inl rfl) rfl ?_)
  refine aOps_gd0 rfl rfl (wantF rfl rfl rfl) (fun hc => AOp.slots [(4, _)] (.cons rfl .nil) ((by refine AOp.loadAll (b := ?b8) (v := cmv b.kind (.slice ys b.sch.length yn) b.most (.slice yw yws.length ywn) yo yc (.slice yA yl ycc) (.slice yB ym yd) b.fr b.to) rfl rfl ?hn8 ?hv8 ?hw8 ?hz8 ?hR8; (case hn8 => exact hpA); (case hv8 => rfl); (case hw8 => rfl); (case hz8 => first | rfl | (simp; done)); exact ⟨rfl, rfl, rfl⟩))) ?_
  refine aOps_gd rfl rfl (wantF rfl rfl rfl) (fun hc => AOp.slots [(20, _)] (.cons (gvT rfl hc) .nil) (AOp.call' rfl rfl rfl (great25 _ _ b hbo _ (CmV.sub subA hb0)) (fun _ _ _ h => h))) (fun kq hkq => ?_)
  refine aOps_1 rfl rfl rfl (AOp.pickOr rfl rfl rfl (fun hb => gvE rfl (t_not hb)) ?_)
  refine aOps_1 rfl rfl rfl (AOp.move' (.inl rfl) rfl ?_)
  refine aOps_gd0 rfl rfl (wantF rfl rfl rfl) (fun hc => AOp.slots [(2, _)] (.cons rfl .nil) (AOp.move' (.inl rfl) rfl ⟨rfl, rfl, rfl⟩)) ?_
  refine aOps_gd0 rfl rfl (wantF rfl rfl rfl) (fun hc => AOp.slots [(24, _)] (.cons (gvT rfl hc) .nil) (AOp.len' rfl rfl ⟨rfl, rfl, rfl⟩)) ?_
  refine aOps_gd0 rfl rfl (wantF rfl rfl rfl) (fun hc => AOp.slots [(25, _)] (.cons (gvT rfl hc) .nil) (AOp.bin' rfl rfl rfl rfl ⟨rfl, rfl, rfl⟩)) ?_
  refine aOps_1 rfl rfl rfl (AOp.pickOr rfl rfl rfl (fun hb => gvE rfl (t_not hb)) ?_)
  refine aOps_1 rfl rfl rfl (AOp.move' (.inl rfl) rfl ?_)
  refine aOps_gd0 rfl rfl (wantF rfl rfl rfl) (fun hc => AOp.slots [(2, _)] (.cons rfl .nil) (AOp.move' (.inl rfl) rfl ⟨rfl, rfl, rfl⟩)) ?_
  refine aOps_gd0 rfl rfl (wantF rfl rfl rfl) (fun hc => AOp.slots [(29, _)] (.cons (gvT rfl hc) .nil) (AOp.len' rfl rfl ⟨rfl, rfl, rfl⟩)) ?_
  refine aOps_gd0 rfl rfl (wantF rfl rfl rfl) (fun hc => AOp.slots [(30, _)] (.cons (gvT rfl hc) .nil) (AOp.bin' rfl rfl rfl rfl ⟨rfl, rfl, rfl⟩)) ?_
  refine aOps_1 rfl rfl rfl (AOp.pickOr rfl rfl rfl (fun hb => gvE rfl (t_not hb)) ?_)
  refine aOps_end ?_
  show ACode _ _ _ _ _ _
  refine ACode.cond rfl (fun c0 => ?_) (fun c0 => ?_)
  · skip
    refine ACode.seq ?_
    refine ACode.region' [0, 1] (by kernel_rfl) rfl ?_
    refine aOps_q rfl rfl rfl (AOp.call' rfl rfl rfl (awake25 _ _ hpA) (fun _ _ _ h => h)) (fun kq hkq => ?_)
    refine aOps_1 rfl rfl rfl (AOp.move' (.inr rfl) rfl ?_)
    refine aOps_end ?_
    show ACode _ _ _ _ _ _
    refine ACode.ret ?_
    try simp only [thenA, blockA, if_true]
    exact RetQ.one rfl rfl (sub_refl _) (fun m b h => ⟨b, (show Ab.Sub H _ from by exact subA) m b h⟩) (fun hk => rfl)
  · skip
    simp only [Bool.or_eq_false_iff, decide_eq_false_iff_not, beq_eq_false_iff_ne] at c0
    obtain ⟨⟨⟨g1, g2⟩, g3⟩, g4⟩ := c0
    have hla := great_lean hao x4.okS g1
    have hlb := great_lean hbo y4.okS g2
    have hlx := putC_len hla x4.fine
    have hly := putC_len hlb y4.fine
    refine ACode.skip ?_
    show ACode _ _ _ _ _ _
    refine ACode.seq ?_
    refine ACode.region' [0, 1, 2, 3, 4, 5, 6] (by kernel_rfl) rfl ?_
    refine aOps_1 rfl rfl rfl ?_
    refine AOp.loadAll (b := ?b9) (v := cmv a.kind (.slice xs a.sch.length xn) a.most (.slice xw xws.length xwn) xo xc (.slice xA xl xcc) (.slice xB xm xd) a.fr a.to) rfl rfl ?hn9 ?hv9 ?hw9 ?hz9 ?hR9
    (case hn9 => exact hpA)
    (case hv9 => rfl)
    (case hw9 => rfl)
    (case hz9 => first | rfl | (simp; done))
    refine aOps_1 rfl rfl rfl ?_
    refine AOp.call' rfl rfl rfl (put_c _ _ a hao xs xn xw xwn xws xo xc xA xl xcc xB xm xd (x1.sub subA) (x2.sub subA) (x3.sub subA) (x4.sub subA) hla) ?_
    rintro _ HLx kx ⟨vx, rfl, hNx, hkx, hfLx, hsLx⟩
    have thsLx := SubS.of hsLx
    obtain ⟨Ax, cx, rfl, hSx, hAx⟩ := hNx
    refine aOps_1 rfl rfl rfl (AOp.move' (.inl rfl) rfl ?_)
    refine aOps_1 rfl rfl rfl (AOp.extract' rfl rfl rfl ?_)
    refine aOps_1 rfl rfl rfl (AOp.extract' rfl rfl rfl ?_)
    refine aOps_1 rfl rfl rfl (AOp.move' (.inr rfl) rfl ?_)
    refine aOps_1 rfl rfl rfl (AOp.move' (.inr rfl) rfl ?_)
    refine aOps_end ?_
    show ACode _ _ _ _ _ _
    refine ACode.seq ?_
    refine ACode.region' [0, 1, 2, 3, 4, 5, 6] (by kernel_rfl) rfl ?_
    refine aOps_1 rfl rfl rfl ?_
    refine AOp.loadAll (b := ?b10) (v := cmv b.kind (.slice ys b.sch.length yn) b.most (.slice yw yws.length ywn) yo yc (.slice yA yl ycc) (.slice yB ym yd) b.fr b.to) rfl rfl ?hn10 ?hv10 ?hw10 ?hz10 ?hR10
    (case hn10 => exact hpA)
    (case hv10 => rfl)
    (case hw10 => rfl)
    (case hz10 => first | rfl | (simp; done))
    refine aOps_1 rfl rfl rfl ?_
    refine AOp.call' rfl rfl rfl (put_c _ _ b hbo ys yn yw ywn yws yo yc yA yl ycc yB ym yd (y1.sub subA) (y2.sub subA) (y3.sub subA) (y4.sub subA) hlb) ?_
    rintro _ HLy ky ⟨vy, rfl, hNy, hky, hfLy, hsLy⟩
    have thsLy := SubS.of hsLy
    obtain ⟨Ay, cy, rfl, hSy, hAy⟩ := hNy
    refine aOps_1 rfl rfl rfl (AOp.move' (.inl rfl) rfl ?_)
    refine aOps_1 rfl rfl rfl (AOp.extract' rfl rfl rfl ?_)
    refine aOps_1 rfl rfl rfl (AOp.extract' rfl rfl rfl ?_)
    refine aOps_1 rfl rfl rfl (AOp.move' (.inr rfl) rfl ?_)
    refine aOps_1 rfl rfl rfl (AOp.move' (.inr rfl) rfl ?_)
    refine aOps_end ?_
    show ACode _ _ _ _ _ _
    refine ACode.seq ?_
    refine ACode.seq ?_
    refine ACode.region' [0, 1, 2, 3, 4, 5] (by kernel_rfl) rfl ?_
    refine aOps_1 rfl rfl rfl (AOp.move' (.inl rfl) rfl ?_)
    refine aOps_1 rfl rfl rfl (AOp.bin' rfl rfl rfl rfl ?_)
    refine aOps_1 rfl rfl rfl (AOp.move' (.inl rfl) rfl ?_)
    refine aOps_gd0 rfl rfl (wantF rfl rfl rfl) (fun hc => AOp.slots [(10, _)] (.cons rfl .nil) (AOp.move' (.inl rfl) rfl ⟨rfl, rfl, rfl⟩)) ?_
    refine aOps_gd0 rfl rfl (wantF rfl rfl rfl) (fun hc => AOp.slots [(47, _)] (.cons (gvT rfl hc) .nil) (AOp.bin' rfl rfl rfl rfl ⟨rfl, rfl, rfl⟩)) ?_
    refine aOps_1 rfl rfl rfl (AOp.pickOr rfl rfl rfl (fun hb => gvE rfl (t_not hb)) ?_)
    refine aOps_end ?_
    show ACode _ _ _ _ _ _
    refine ACode.cond rfl (fun c1 => ?_) (fun c1 => ?_)
    · skip
      refine ACode.seq ?_
      refine ACode.region' [0, 1] (by kernel_rfl) rfl ?_
      refine aOps_q rfl rfl rfl (AOp.call' rfl rfl rfl (awake25 _ _ hpA) (fun _ _ _ h => h)) (fun kq hkq => ?_)
      refine aOps_1 rfl rfl rfl (AOp.move' (.inr rfl) rfl ?_)
      refine aOps_end ?_
      show ACode _ _ _ _ _ _
      refine ACode.ret ?_
      try simp only [thenA, blockA, if_true]
      exact RetQ.one rfl rfl (sub_refl _) (fun m b h => ⟨b, (show Ab.Sub H _ from by exact subA) m b h⟩) (fun hk => rfl)
    · skip
      refine ACode.skip ?_
      show ACode _ _ _ _ _ _
      refine ACode.seq ?_
      refine ACode.region' [0, 1, 2, 3, 4, 5, 6, 7, 8, 9, 10] (by kernel_rfl) rfl ?_
      refine aOps_1 rfl rfl rfl (AOp.move' (.inl rfl) rfl ?_)
      refine aOps_1 rfl rfl rfl (AOp.move' (.inl rfl) rfl ?_)
      refine aOps_1 rfl rfl rfl ?_
      refine AOp.call' rfl rfl rfl (nlogTake _ _ hpA (putC a).1 Ax cx (hSx.sub subA) (by omega) cols B d (hC.sub subA) (by omega)) ?_
      rw [hc1]
      rintro _ HLc kc ⟨ccv, rfl, hcv, hkc, hfLc, hsLc⟩
      have thsLc := SubS.of hsLc
      have hcv2 := hcv
      obtain ⟨us, un, uw, uwn, uws, uo, uc, uA, ul, ucc, uB, um, ud, rfl, u1, u2, u3, u4⟩ := hcv2
      refine aOps_1 rfl rfl rfl (AOp.move' (.inl rfl) rfl ?_)
      refine aOps_1 rfl rfl rfl (AOp.extract' rfl rfl rfl ?_)
      refine aOps_1 rfl rfl rfl (AOp.extract' rfl rfl rfl ?_)
      refine aOps_1 rfl rfl rfl (AOp.extract' rfl rfl rfl ?_)
      refine aOps_1 rfl rfl rfl (AOp.alloc' rfl ?_)
      refine aOps_0 rfl rfl rfl ?_
      refine AOp.storeAll (b := ?b11) rfl rfl rfl ?hn11 ?hk11 rfl ?hw11 ?ho11 ?hl11 ?hR11
      (case hn11 => exact hpA)
      (case hk11 => rfl)
      (case hw11 => first | rfl | (simp; done))
      (case ho11 => first | rfl | decide | (simp; done))
      (case hl11 => first | rfl | (simp; done))
      refine aOps_1 rfl rfl rfl (AOp.move' (.inr rfl) rfl ?_)
      refine aOps_1 rfl rfl rfl (AOp.move' (.inr rfl) rfl ?_)
      rw [rd_upd2]
      refine aOps_end ?_
      show ACode _ _ _ _ _ _
      refine ACode.seq ?_
      refine ACode.region' [0, 1, 2, 3, 4, 5, 6, 7, 8, 9, 10] (by kernel_rfl) rfl ?_
      refine aOps_1 rfl rfl rfl (AOp.move' (.inl rfl) rfl ?_)
      refine aOps_1 rfl rfl rfl (AOp.move' (.inl rfl) rfl ?_)
      refine aOps_1 rfl rfl rfl ?_
      refine AOp.call' rfl rfl rfl (nlogTake _ _ hpA (putC b).1 Ay cy (hSy.sub subA) (by omega) cols B d (hC.sub subA) (by omega)) ?_
      rintro _ HLd kd ⟨cdv, rfl, hdv, hkd, hfLd, hsLd⟩
      have thsLd := SubS.of hsLd
      have hdv2 := hdv
      obtain ⟨ws, wn, ww, wwn, wws, wo, wc, wA, wl, wcc, wB, wm, wd, rfl, w1, w2, w3, w4⟩ := hdv2
      refine aOps_1 rfl rfl rfl (AOp.move' (.inl rfl) rfl ?_)
      refine aOps_1 rfl rfl rfl (AOp.extract' rfl rfl rfl ?_)
      refine aOps_1 rfl rfl rfl (AOp.extract' rfl rfl rfl ?_)
      refine aOps_1 rfl rfl rfl (AOp.extract' rfl rfl rfl ?_)
      refine aOps_1 rfl rfl rfl (AOp.alloc' rfl ?_)
      refine aOps_0 rfl rfl rfl ?_
      refine AOp.storeAll (b := ?b12) rfl rfl rfl ?hn12 ?hk12 rfl ?hw12 ?ho12 ?hl12 ?hR12
      (case hn12 => exact hpA)
      (case hk12 => rfl)
      (case hw12 => first | rfl | (simp; done))
      (case ho12 => first | rfl | decide | (simp; done))
      (case hl12 => first | rfl | (simp; done))
      refine aOps_1 rfl rfl rfl (AOp.move' (.inr rfl) rfl ?_)
      refine aOps_1 rfl rfl rfl (AOp.move' (.inr rfl) rfl ?_)
      rw [rd_upd2]
      refine aOps_end ?_
      show ACode _ _ _ _ _ _
      refine ACode.seq ?_
      refine ACode.seq ?_
      refine ACode.any mixed (by kernel_rfl) ?_
      refine AnyA.float [(0, 65), (1, 66), (2, 67), (3, 68), (4, 69), (5, 70), (6, 71), (7, 72), (8, 73), (9, 74), (10, 75), (11, 76), (12, 77), (13, 78), (14, 79), (15, 80), (16, 81), (17, 82), (18, 83), (19, 84)] [] (by kernel_rfl) (Nat.le_of_ble_eq_true rfl) (by kernel_rfl) (sub_refl _) ?_
      refine DrawF.q 0 65 [(12, none)] rfl (by kernel_rfl) rfl (fun Hc kq hSb => AOp.move' (.inl rfl) rfl ⟨rfl, rfl, rfl⟩) ?_
      refine DrawF.q 1 66 [(65, some 0)] rfl (by kernel_rfl) rfl (fun Hc kq hSb => AOp.bin' rfl rfl rfl rfl ⟨rfl, rfl, rfl⟩) ?_
      refine DrawF.q 2 67 [(66, some 1)] rfl (by kernel_rfl) rfl (fun Hc kq hSb => AOp.move' (.inl rfl) rfl ⟨rfl, rfl, rfl⟩) ?_
      refine DrawF.q 3 68 [(15, none), (67, some 2)] rfl (by kernel_rfl) rfl (fun Hc kq hSb => AOp.move' (.inl rfl) rfl ⟨rfl, rfl, rfl⟩) ?_
      refine DrawF.q 4 69 [(68, some 3), (67, some 2)] rfl (by kernel_rfl) rfl (fun Hc kq hSb => AOp.bin' (z := .bool true) rfl rfl rfl (congrArg (fun b => some (Value.bool b)) (show (_ != _) = true by rw [bne_iff_ne]; exact hc2)) ⟨rfl, rfl, rfl⟩) ?_
      refine DrawF.q 5 70 [(67, some 2), (69, some 4)] rfl (by kernel_rfl) rfl (fun Hc kq hSb => AOp.pickB rfl rfl rfl ⟨rfl, rfl, rfl⟩) ?_
      refine DrawF.q 6 71 [(70, some 5)] rfl (by kernel_rfl) rfl (fun Hc kq hSb => AOp.move' (.inl rfl) rfl ⟨rfl, rfl, rfl⟩) ?_
      refine DrawF.skip 7 72 [(11, none), (71, some 6)] rfl (by kernel_rfl) rfl ?_
      refine DrawF.skip 8 73 [(3, none), (71, some 6)] rfl (by kernel_rfl) rfl ?_
      refine DrawF.skip 9 74 [(73, some 8), (71, some 6)] rfl (by kernel_rfl) rfl ?_
      refine DrawF.skip 10 75 [(72, some 7), (74, some 9), (71, some 6)] rfl (by kernel_rfl) rfl ?_
      refine DrawF.skip 11 76 [(75, some 10), (71, some 6)] rfl (by kernel_rfl) rfl ?_
      refine DrawF.q 12 77 [(71, some 6), (76, some 11)] rfl (by kernel_rfl) rfl (fun Hc kq hSb => AOp.pickB rfl rfl rfl ⟨rfl, rfl, rfl⟩) ?_
      refine DrawF.q 13 78 [(77, some 12)] rfl (by kernel_rfl) rfl (fun Hc kq hSb => AOp.move' (.inl rfl) rfl ⟨rfl, rfl, rfl⟩) ?_
      refine DrawF.skip 14 79 [(14, none), (78, some 13)] rfl (by kernel_rfl) rfl ?_
      refine DrawF.skip 15 80 [(4, none), (78, some 13)] rfl (by kernel_rfl) rfl ?_
      refine DrawF.skip 16 81 [(80, some 15), (78, some 13)] rfl (by kernel_rfl) rfl ?_
      refine DrawF.skip 17 82 [(79, some 14), (81, some 16), (78, some 13)] rfl (by kernel_rfl) rfl ?_
      refine DrawF.skip 18 83 [(82, some 17), (78, some 13)] rfl (by kernel_rfl) rfl ?_
      refine DrawF.q 19 84 [(78, some 13), (83, some 18)] rfl (by kernel_rfl) rfl (fun Hc kq hSb => AOp.pickB rfl rfl rfl ⟨rfl, rfl, rfl⟩) ?_
      refine DrawF.done ?_
      show aOpsF _ _ _ _ _ _ [] ⟨_, _, _⟩
      refine aOpsF_end ?_
      show ACode _ _ _ _ _ _
      refine ACode.cond rfl (fun c2 => ?_) (fun c2 => absurd c2 (by decide))
      refine ACode.seq ?_
      refine ACode.region' [0, 1] (by kernel_rfl) rfl ?_
      refine aOps_q rfl rfl rfl (AOp.call' rfl rfl rfl (awake25 _ _ hpA) (fun _ _ _ h => h)) (fun kq hkq => ?_)
      refine aOps_1 rfl rfl rfl (AOp.move' (.inr rfl) rfl ?_)
      refine aOps_end ?_
      show ACode _ _ _ _ _ _
      refine ACode.ret ?_
      try simp only [thenA, blockA, if_true]
      exact RetQ.one rfl rfl (sub_refl _) (fun m b h => ⟨b, (show Ab.Sub H _ from by exact subA) m b h⟩) (fun hk => rfl)

set_option maxHeartbeats 2000000 in
theorem logTells3 (h2 : H 1 = some hBlk) (a b : Cm) (hao : a.ok) (hbo : b.ok) (va vb : Value) (ha : CmV H a va) (hb : CmV H b vb) (cols : List Col) (B : Option Addr) (d : Nat) (hC : SLC H 3 B cols.length d (cols3 cols)) (hcl : cols.length ≤ 9223372036854775807) (hc1 : (takeC cols (putC a).1).2.1 = 0) (hc2 : (takeC cols (putC b).1).2.1 = 0) (hc3 : eqB (takeC cols (putC a).1).1 (plainC a) = false) : ACalls Tryd.prog 3 6 [va, vb, .slice B cols.length d] H k (fun v _ _ => v = .bool true) := by
  have ha0 := ha
  have hb0 := hb
  obtain ⟨xs, xn, xw, xwn, xws, xo, xc, xA, xl, xcc, xB, xm, xd, rfl, x1, x2, x3, x4⟩ := ha
  obtain ⟨ys, yn, yw, ywn, yws, yo, yc, yA, yl, ycc, yB, ym, yd, rfl, y1, y2, y3, y4⟩ := hb
  refine ACalls.fresh fun hf => ?_
  refine ACalls.body Tryd.func6 rfl (Nat.le_of_ble_eq_true rfl) ?_
  have h2k := old_lt hf h2
  refine ACode.seq ?_
  refine ACode.region' [0, 1, 2] (by kernel_rfl) rfl ?_
  refine aOps_1 rfl rfl rfl (AOp.boxV rfl rfl ?_)
  refine aOps_1 rfl rfl rfl (AOp.boxV rfl rfl ?_)
  refine aOps_1 rfl rfl rfl (AOp.move' (.inr rfl) rfl ?_)
  refine aOps_end ?_
  show ACode _ _ _ _ _ _
  refine ACode.seq ?_
  refine ACode.seq ?_
  refine ACode.region' [0, 1, 2, 3, 4, 5, 6, 7, 8, 9, 10, 11, 12, 13, 14, 15] (by kernel_rfl) rfl ?_
  refine aOps_1 rfl rfl rfl ?_
  refine AOp.loadAll (b := ?b13) (v := cmv a.kind (.slice xs a.sch.length xn) a.most (.slice xw xws.length xwn) xo xc (.slice xA xl xcc) (.slice xB xm xd) a.fr a.to) rfl rfl ?hn13 ?hv13 ?hw13 ?hz13 ?hR13
  (case hn13 => exact hpA)
  (case hv13 => rfl)
  (case hw13 => rfl)
  (case hz13 => first | rfl | (simp; done))
  refine aOps_q rfl rfl rfl (AOp.call' rfl rfl rfl (great25 _ _ a hao _ (CmV.sub subA ha0)) (fun _ _ _ h => h)) (fun kq hkq => ?_)
  refine aOps_1 rfl rfl rfl (AOp.move' (.inl rfl) rfl ?_)
  refine aOps_gd0 rfl rfl (wantF rfl rfl rfl) (fun hc => AOp.slots [(4, _)] (.cons rfl .nil) ((by refine AOp.loadAll (b := ?b14) (v := cmv b.kind (.slice ys b.sch.length yn) b.most (.slice yw yws.length ywn) yo yc (.slice yA yl ycc) (.slice yB ym yd) b.fr b.to) rfl rfl ?hn14 ?hv14 ?hw14 ?hz14 ?hR14; (case hn14 => exact hpA); (case hv14 => rfl); (case hw14 => rfl); (case hz14 => first | rfl | (simp; done)); exact ⟨rfl, rfl, rfl⟩))) ?_
  refine aOps_gd rfl rfl (wantF rfl rfl rfl) (fun hc => AOp.slots [(20, _)] (.cons (gvT rfl hc) .nil) (AOp.call' rfl rfl rfl (great25 _ _ b hbo _ (CmV.sub subA hb0)) (fun _ _ _ h => h))) (fun kq hkq => ?_)
  refine aOps_1 rfl rfl rfl (AOp.pickOr rfl rfl rfl (fun hb => gvE rfl (t_not hb)) ?_)
  refine aOps_1 rfl rfl rfl (AOp.move' (.inl rfl) rfl ?_)
  refine aOps_gd0 rfl rfl (wantF rfl rfl rfl) (fun hc => AOp.slots [(2, _)] (.cons rfl .nil) (AOp.move' (.inl rfl) rfl ⟨rfl, rfl, rfl⟩)) ?_
  refine aOps_gd0 rfl rfl (wantF rfl rfl rfl) (fun hc => AOp.slots [(24, _)] (.cons (gvT rfl hc) .nil) (AOp.len' rfl rfl ⟨rfl, rfl, rfl⟩)) ?_
  refine aOps_gd0 rfl rfl (wantF rfl rfl rfl) (fun hc => AOp.slots [(25, _)] (.cons (gvT rfl hc) .nil) (AOp.bin' rfl rfl rfl rfl ⟨rfl, rfl, rfl⟩)) ?_
  refine aOps_1 rfl rfl rfl (AOp.pickOr rfl rfl rfl (fun hb => gvE rfl (t_not hb)) ?_)
  refine aOps_1 rfl rfl rfl (AOp.move' (.inl rfl) rfl ?_)
  refine aOps_gd0 rfl rfl (wantF rfl rfl rfl) (fun hc => AOp.slots [(2, _)] (.cons rfl .nil) (AOp.move' (.inl rfl) rfl ⟨rfl, rfl, rfl⟩)) ?_
  refine aOps_gd0 rfl rfl (wantF rfl rfl rfl) (fun hc => AOp.slots [(29, _)] (.cons (gvT rfl hc) .nil) (AOp.len' rfl rfl ⟨rfl, rfl, rfl⟩)) ?_
  refine aOps_gd0 rfl rfl (wantF rfl rfl rfl) (fun hc => AOp.slots [(30, _)] (.cons (gvT rfl hc) .nil) (AOp.bin' rfl rfl rfl rfl ⟨rfl, rfl, rfl⟩)) ?_
  refine aOps_1 rfl rfl rfl (AOp.pickOr rfl rfl rfl (fun hb => gvE rfl (t_not hb)) ?_)
  refine aOps_end ?_
  show ACode _ _ _ _ _ _
  refine ACode.cond rfl (fun c0 => ?_) (fun c0 => ?_)
  · skip
    refine ACode.seq ?_
    refine ACode.region' [0, 1] (by kernel_rfl) rfl ?_
    refine aOps_q rfl rfl rfl (AOp.call' rfl rfl rfl (awake25 _ _ hpA) (fun _ _ _ h => h)) (fun kq hkq => ?_)
    refine aOps_1 rfl rfl rfl (AOp.move' (.inr rfl) rfl ?_)
    refine aOps_end ?_
    show ACode _ _ _ _ _ _
    refine ACode.ret ?_
    try simp only [thenA, blockA, if_true]
    exact RetQ.one rfl rfl (sub_refl _) (fun m b h => ⟨b, (show Ab.Sub H _ from by exact subA) m b h⟩) (fun hk => rfl)
  · skip
    simp only [Bool.or_eq_false_iff, decide_eq_false_iff_not, beq_eq_false_iff_ne] at c0
    obtain ⟨⟨⟨g1, g2⟩, g3⟩, g4⟩ := c0
    have hla := great_lean hao x4.okS g1
    have hlb := great_lean hbo y4.okS g2
    have hlx := putC_len hla x4.fine
    have hly := putC_len hlb y4.fine
    refine ACode.skip ?_
    show ACode _ _ _ _ _ _
    refine ACode.seq ?_
    refine ACode.region' [0, 1, 2, 3, 4, 5, 6] (by kernel_rfl) rfl ?_
    refine aOps_1 rfl rfl rfl ?_
    refine AOp.loadAll (b := ?b15) (v := cmv a.kind (.slice xs a.sch.length xn) a.most (.slice xw xws.length xwn) xo xc (.slice xA xl xcc) (.slice xB xm xd) a.fr a.to) rfl rfl ?hn15 ?hv15 ?hw15 ?hz15 ?hR15
    (case hn15 => exact hpA)
    (case hv15 => rfl)
    (case hw15 => rfl)
    (case hz15 => first | rfl | (simp; done))
    refine aOps_1 rfl rfl rfl ?_
    refine AOp.call' rfl rfl rfl (put_c _ _ a hao xs xn xw xwn xws xo xc xA xl xcc xB xm xd (x1.sub subA) (x2.sub subA) (x3.sub subA) (x4.sub subA) hla) ?_
    rintro _ HLx kx ⟨vx, rfl, hNx, hkx, hfLx, hsLx⟩
    have thsLx := SubS.of hsLx
    obtain ⟨Ax, cx, rfl, hSx, hAx⟩ := hNx
    refine aOps_1 rfl rfl rfl (AOp.move' (.inl rfl) rfl ?_)
    refine aOps_1 rfl rfl rfl (AOp.extract' rfl rfl rfl ?_)
    refine aOps_1 rfl rfl rfl (AOp.extract' rfl rfl rfl ?_)
    refine aOps_1 rfl rfl rfl (AOp.move' (.inr rfl) rfl ?_)
    refine aOps_1 rfl rfl rfl (AOp.move' (.inr rfl) rfl ?_)
    refine aOps_end ?_
    show ACode _ _ _ _ _ _
    refine ACode.seq ?_
    refine ACode.region' [0, 1, 2, 3, 4, 5, 6] (by kernel_rfl) rfl ?_
    refine aOps_1 rfl rfl rfl ?_
    refine AOp.loadAll (b := ?b16) (v := cmv b.kind (.slice ys b.sch.length yn) b.most (.slice yw yws.length ywn) yo yc (.slice yA yl ycc) (.slice yB ym yd) b.fr b.to) rfl rfl ?hn16 ?hv16 ?hw16 ?hz16 ?hR16
    (case hn16 => exact hpA)
    (case hv16 => rfl)
    (case hw16 => rfl)
    (case hz16 => first | rfl | (simp; done))
    refine aOps_1 rfl rfl rfl ?_
    refine AOp.call' rfl rfl rfl (put_c _ _ b hbo ys yn yw ywn yws yo yc yA yl ycc yB ym yd (y1.sub subA) (y2.sub subA) (y3.sub subA) (y4.sub subA) hlb) ?_
    rintro _ HLy ky ⟨vy, rfl, hNy, hky, hfLy, hsLy⟩
    have thsLy := SubS.of hsLy
    obtain ⟨Ay, cy, rfl, hSy, hAy⟩ := hNy
    refine aOps_1 rfl rfl rfl (AOp.move' (.inl rfl) rfl ?_)
    refine aOps_1 rfl rfl rfl (AOp.extract' rfl rfl rfl ?_)
    refine aOps_1 rfl rfl rfl (AOp.extract' rfl rfl rfl ?_)
    refine aOps_1 rfl rfl rfl (AOp.move' (.inr rfl) rfl ?_)
    refine aOps_1 rfl rfl rfl (AOp.move' (.inr rfl) rfl ?_)
    refine aOps_end ?_
    show ACode _ _ _ _ _ _
    refine ACode.seq ?_
    refine ACode.seq ?_
    refine ACode.region' [0, 1, 2, 3, 4, 5] (by kernel_rfl) rfl ?_
    refine aOps_1 rfl rfl rfl (AOp.move' (.inl rfl) rfl ?_)
    refine aOps_1 rfl rfl rfl (AOp.bin' rfl rfl rfl rfl ?_)
    refine aOps_1 rfl rfl rfl (AOp.move' (.inl rfl) rfl ?_)
    refine aOps_gd0 rfl rfl (wantF rfl rfl rfl) (fun hc => AOp.slots [(10, _)] (.cons rfl .nil) (AOp.move' (.inl rfl) rfl ⟨rfl, rfl, rfl⟩)) ?_
    refine aOps_gd0 rfl rfl (wantF rfl rfl rfl) (fun hc => AOp.slots [(47, _)] (.cons (gvT rfl hc) .nil) (AOp.bin' rfl rfl rfl rfl ⟨rfl, rfl, rfl⟩)) ?_
    refine aOps_1 rfl rfl rfl (AOp.pickOr rfl rfl rfl (fun hb => gvE rfl (t_not hb)) ?_)
    refine aOps_end ?_
    show ACode _ _ _ _ _ _
    refine ACode.cond rfl (fun c1 => ?_) (fun c1 => ?_)
    · skip
      refine ACode.seq ?_
      refine ACode.region' [0, 1] (by kernel_rfl) rfl ?_
      refine aOps_q rfl rfl rfl (AOp.call' rfl rfl rfl (awake25 _ _ hpA) (fun _ _ _ h => h)) (fun kq hkq => ?_)
      refine aOps_1 rfl rfl rfl (AOp.move' (.inr rfl) rfl ?_)
      refine aOps_end ?_
      show ACode _ _ _ _ _ _
      refine ACode.ret ?_
      try simp only [thenA, blockA, if_true]
      exact RetQ.one rfl rfl (sub_refl _) (fun m b h => ⟨b, (show Ab.Sub H _ from by exact subA) m b h⟩) (fun hk => rfl)
    · skip
      refine ACode.skip ?_
      show ACode _ _ _ _ _ _
      refine ACode.seq ?_
      refine ACode.region' [0, 1, 2, 3, 4, 5, 6, 7, 8, 9, 10] (by kernel_rfl) rfl ?_
      refine aOps_1 rfl rfl rfl (AOp.move' (.inl rfl) rfl ?_)
      refine aOps_1 rfl rfl rfl (AOp.move' (.inl rfl) rfl ?_)
      refine aOps_1 rfl rfl rfl ?_
      refine AOp.call' rfl rfl rfl (nlogTake _ _ hpA (putC a).1 Ax cx (hSx.sub subA) (by omega) cols B d (hC.sub subA) (by omega)) ?_
      rw [hc1]
      rintro _ HLc kc ⟨ccv, rfl, hcv, hkc, hfLc, hsLc⟩
      have thsLc := SubS.of hsLc
      have hcv2 := hcv
      obtain ⟨us, un, uw, uwn, uws, uo, uc, uA, ul, ucc, uB, um, ud, rfl, u1, u2, u3, u4⟩ := hcv2
      refine aOps_1 rfl rfl rfl (AOp.move' (.inl rfl) rfl ?_)
      refine aOps_1 rfl rfl rfl (AOp.extract' rfl rfl rfl ?_)
      refine aOps_1 rfl rfl rfl (AOp.extract' rfl rfl rfl ?_)
      refine aOps_1 rfl rfl rfl (AOp.extract' rfl rfl rfl ?_)
      refine aOps_1 rfl rfl rfl (AOp.alloc' rfl ?_)
      refine aOps_0 rfl rfl rfl ?_
      refine AOp.storeAll (b := ?b17) rfl rfl rfl ?hn17 ?hk17 rfl ?hw17 ?ho17 ?hl17 ?hR17
      (case hn17 => exact hpA)
      (case hk17 => rfl)
      (case hw17 => first | rfl | (simp; done))
      (case ho17 => first | rfl | decide | (simp; done))
      (case hl17 => first | rfl | (simp; done))
      refine aOps_1 rfl rfl rfl (AOp.move' (.inr rfl) rfl ?_)
      refine aOps_1 rfl rfl rfl (AOp.move' (.inr rfl) rfl ?_)
      rw [rd_upd2]
      refine aOps_end ?_
      show ACode _ _ _ _ _ _
      refine ACode.seq ?_
      refine ACode.region' [0, 1, 2, 3, 4, 5, 6, 7, 8, 9, 10] (by kernel_rfl) rfl ?_
      refine aOps_1 rfl rfl rfl (AOp.move' (.inl rfl) rfl ?_)
      refine aOps_1 rfl rfl rfl (AOp.move' (.inl rfl) rfl ?_)
      refine aOps_1 rfl rfl rfl ?_
      refine AOp.call' rfl rfl rfl (nlogTake _ _ hpA (putC b).1 Ay cy (hSy.sub subA) (by omega) cols B d (hC.sub subA) (by omega)) ?_
      rw [hc2]
      rintro _ HLd kd ⟨cdv, rfl, hdv, hkd, hfLd, hsLd⟩
      have thsLd := SubS.of hsLd
      have hdv2 := hdv
      obtain ⟨ws, wn, ww, wwn, wws, wo, wc, wA, wl, wcc, wB, wm, wd, rfl, w1, w2, w3, w4⟩ := hdv2
      refine aOps_1 rfl rfl rfl (AOp.move' (.inl rfl) rfl ?_)
      refine aOps_1 rfl rfl rfl (AOp.extract' rfl rfl rfl ?_)
      refine aOps_1 rfl rfl rfl (AOp.extract' rfl rfl rfl ?_)
      refine aOps_1 rfl rfl rfl (AOp.extract' rfl rfl rfl ?_)
      refine aOps_1 rfl rfl rfl (AOp.alloc' rfl ?_)
      refine aOps_0 rfl rfl rfl ?_
      refine AOp.storeAll (b := ?b18) rfl rfl rfl ?hn18 ?hk18 rfl ?hw18 ?ho18 ?hl18 ?hR18
      (case hn18 => exact hpA)
      (case hk18 => rfl)
      (case hw18 => first | rfl | (simp; done))
      (case ho18 => first | rfl | decide | (simp; done))
      (case hl18 => first | rfl | (simp; done))
      refine aOps_1 rfl rfl rfl (AOp.move' (.inr rfl) rfl ?_)
      refine aOps_1 rfl rfl rfl (AOp.move' (.inr rfl) rfl ?_)
      rw [rd_upd2]
      refine aOps_end ?_
      show ACode _ _ _ _ _ _
      refine ACode.seq ?_
      refine ACode.seq ?_
      refine ACode.any mixed (by kernel_rfl) ?_
      refine AnyA.split 14 (by kernel_rfl) (by kernel_rfl) (by decide) (by decide) (Nat.le_of_ble_eq_true rfl) ?_
      refine AnyA.float (Hq := (upd (upd (fun _ => none) k (some (cmblk a.kind (.slice xs a.sch.length xn) a.most (.slice xw xws.length xwn) xo xc (.slice xA xl xcc) (.slice xB xm xd) a.fr a.to))) kc (some (cmblk (takeC cols (putC a).1).1.kind (.slice us (takeC cols (putC a).1).1.sch.length un) (takeC cols (putC a).1).1.most (.slice uw uws.length uwn) uo uc (.slice uA ul ucc) (.slice uB um ud) (takeC cols (putC a).1).1.fr (takeC cols (putC a).1).1.to)))) [(0, 65), (1, 66), (2, 67), (3, 68), (4, 69), (5, 70), (6, 71), (7, 72), (8, 73)] [9, 10, 11, 12, 13] (by kernel_rfl) (Nat.le_of_ble_eq_true rfl) (by kernel_rfl) subA ?_
      refine DrawF.q 0 65 [(12, none)] rfl (by kernel_rfl) rfl (fun Hc kq hSb => AOp.move' (.inl rfl) rfl ⟨rfl, rfl, rfl⟩) ?_
      refine DrawF.q 1 66 [(65, some 0)] rfl (by kernel_rfl) rfl (fun Hc kq hSb => AOp.bin' rfl rfl rfl rfl ⟨rfl, rfl, rfl⟩) ?_
      refine DrawF.q 2 67 [(66, some 1)] rfl (by kernel_rfl) rfl (fun Hc kq hSb => AOp.move' (.inl rfl) rfl ⟨rfl, rfl, rfl⟩) ?_
      refine DrawF.q 3 68 [(15, none), (67, some 2)] rfl (by kernel_rfl) rfl (fun Hc kq hSb => AOp.move' (.inl rfl) rfl ⟨rfl, rfl, rfl⟩) ?_
      refine DrawF.q 4 69 [(68, some 3), (67, some 2)] rfl (by kernel_rfl) rfl (fun Hc kq hSb => AOp.bin' rfl rfl rfl rfl ⟨rfl, rfl, rfl⟩) ?_
      refine DrawF.q 5 70 [(67, some 2), (69, some 4)] rfl (by kernel_rfl) rfl (fun Hc kq hSb => AOp.pickB rfl rfl rfl ⟨rfl, rfl, rfl⟩) ?_
      refine DrawF.q 6 71 [(70, some 5)] rfl (by kernel_rfl) rfl (fun Hc kq hSb => AOp.move' (.inl rfl) rfl ⟨rfl, rfl, rfl⟩) ?_
      refine DrawF.q 7 72 [(11, none), (71, some 6)] rfl (by kernel_rfl) rfl (fun Hc kq hSb => have tSb := SubS.of hSb; (by refine AOp.loadAll (b := ?b19) (v := cmv (takeC cols (putC a).1).1.kind (.slice us (takeC cols (putC a).1).1.sch.length un) (takeC cols (putC a).1).1.most (.slice uw uws.length uwn) uo uc (.slice uA ul ucc) (.slice uB um ud) (takeC cols (putC a).1).1.fr (takeC cols (putC a).1).1.to) rfl rfl ?hn19 ?hv19 ?hw19 ?hz19 ?hR19; (case hn19 => exact hpA); (case hv19 => rfl); (case hw19 => rfl); (case hz19 => first | rfl | (simp; done)); exact ⟨rfl, rfl, rfl⟩)) ?_
      refine DrawF.q 8 73 [(3, none), (71, some 6)] rfl (by kernel_rfl) rfl (fun Hc kq hSb => have tSb := SubS.of hSb; (by refine AOp.loadAll (b := ?b20) (v := cmv a.kind (.slice xs a.sch.length xn) a.most (.slice xw xws.length xwn) xo xc (.slice xA xl xcc) (.slice xB xm xd) a.fr a.to) rfl rfl ?hn20 ?hv20 ?hw20 ?hz20 ?hR20; (case hn20 => exact hpA); (case hv20 => rfl); (case hw20 => rfl); (case hz20 => first | rfl | (simp; done)); exact ⟨rfl, rfl, rfl⟩)) ?_
      refine DrawF.done ?_
      show aOpsF _ _ _ _ _ _ [9, 10, 11, 12, 13] ⟨_, _, _⟩
      refine aOpsF_1 [73, 71] rfl rfl (by kernel_rfl) rfl ?_
      refine AOp.call' rfl rfl rfl (plain_c _ _ a hao xs xn xw xwn xws xo xc xA xl xcc xB xm xd (x1.sub subA) (x2.sub subA) (x3.sub subA) (x4.sub subA) ⟨by have := hla.sch; omega, by have := hla.small.n; omega, fun r hr => by have := hla.small.w r hr; omega, hla.tiny⟩) ?_
      rintro _ HLp kp ⟨⟨sp, wp, opp, cop, vp, op, rfl, hPp⟩, hkp, hfLp, hsLp⟩
      have thsLp := SubS.of hsLp
      refine ⟨by exact subA, ?_⟩
      refine aOpsF_1 [72, 74, 71] rfl rfl (by kernel_rfl) rfl ?_
      refine AOp.call' rfl rfl rfl (lsame _ _ (takeC cols (putC a).1).1 (plainC a) (takeC_ok (by omega) (by omega)) (plain_ok hao) _ _ (CmV.sub (sub_trans cutH_sub subA) hcv) (CmV.sub (sub_trans cutH_sub subA) hPp.cm)) ?_
      rw [hc3]
      rintro _ _ ka ⟨rfl, rfl, hka⟩
      refine ⟨by exact subA, ?_⟩
      refine aOpsF_1 [75, 71] rfl rfl (by kernel_rfl) rfl (AOp.un' rfl rfl rfl ?_)
      refine ⟨by exact subA, ?_⟩
      refine aOpsF_1 [71, 76] rfl rfl (by kernel_rfl) rfl (AOp.pickOr rfl rfl rfl (fun hb => gvE rfl (t_not hb)) ?_)
      refine ⟨by exact subA, ?_⟩
      refine aOpsF_1 [77] rfl rfl (by kernel_rfl) rfl (AOp.move' (.inl rfl) rfl ?_)
      refine ⟨by exact subA, ?_⟩
      refine aOpsF_end ?_
      refine AnyA.float [(14, 79), (15, 80), (16, 81), (17, 82), (18, 83), (19, 84)] [] (by kernel_rfl) (Nat.le_of_ble_eq_true rfl) (by kernel_rfl) (sub_refl _) ?_
      refine DrawF.skip 14 79 [(14, none), (78, none)] rfl (by kernel_rfl) rfl ?_
      refine DrawF.skip 15 80 [(4, none), (78, none)] rfl (by kernel_rfl) rfl ?_
      refine DrawF.skip 16 81 [(80, some 15), (78, none)] rfl (by kernel_rfl) rfl ?_
      refine DrawF.skip 17 82 [(79, some 14), (81, some 16), (78, none)] rfl (by kernel_rfl) rfl ?_
      refine DrawF.skip 18 83 [(82, some 17), (78, none)] rfl (by kernel_rfl) rfl ?_
      refine DrawF.q 19 84 [(78, none), (83, some 18)] rfl (by kernel_rfl) rfl (fun Hc kq hSb => AOp.pickB rfl rfl rfl ⟨rfl, rfl, rfl⟩) ?_
      refine DrawF.done ?_
      show aOpsF _ _ _ _ _ _ [] ⟨_, _, _⟩
      refine aOpsF_end ?_
      show ACode _ _ _ _ _ _
      refine ACode.cond rfl (fun c2 => ?_) (fun c2 => absurd c2 (by decide))
      refine ACode.seq ?_
      refine ACode.region' [0, 1] (by kernel_rfl) rfl ?_
      refine aOps_q rfl rfl rfl (AOp.call' rfl rfl rfl (awake25 _ _ hpA) (fun _ _ _ h => h)) (fun kq hkq => ?_)
      refine aOps_1 rfl rfl rfl (AOp.move' (.inr rfl) rfl ?_)
      refine aOps_end ?_
      show ACode _ _ _ _ _ _
      refine ACode.ret ?_
      try simp only [thenA, blockA, if_true]
      exact RetQ.one rfl rfl (sub_refl _) (fun m b h => ⟨b, (show Ab.Sub H _ from by exact subA) m b h⟩) (fun hk => rfl)

set_option maxHeartbeats 2000000 in
theorem logTells4 (h2 : H 1 = some hBlk) (a b : Cm) (hao : a.ok) (hbo : b.ok) (va vb : Value) (ha : CmV H a va) (hb : CmV H b vb) (cols : List Col) (B : Option Addr) (d : Nat) (hC : SLC H 3 B cols.length d (cols3 cols)) (hcl : cols.length ≤ 9223372036854775807) (hc1 : (takeC cols (putC a).1).2.1 = 0) (hc2 : (takeC cols (putC b).1).2.1 = 0) (hc3 : eqB (takeC cols (putC a).1).1 (plainC a) = true) : ACalls Tryd.prog 3 6 [va, vb, .slice B cols.length d] H k (fun v _ _ => v = .bool true) := by
  have ha0 := ha
  have hb0 := hb
  obtain ⟨xs, xn, xw, xwn, xws, xo, xc, xA, xl, xcc, xB, xm, xd, rfl, x1, x2, x3, x4⟩ := ha
  obtain ⟨ys, yn, yw, ywn, yws, yo, yc, yA, yl, ycc, yB, ym, yd, rfl, y1, y2, y3, y4⟩ := hb
  refine ACalls.fresh fun hf => ?_
  refine ACalls.body Tryd.func6 rfl (Nat.le_of_ble_eq_true rfl) ?_
  have h2k := old_lt hf h2
  refine ACode.seq ?_
  refine ACode.region' [0, 1, 2] (by kernel_rfl) rfl ?_
  refine aOps_1 rfl rfl rfl (AOp.boxV rfl rfl ?_)
  refine aOps_1 rfl rfl rfl (AOp.boxV rfl rfl ?_)
  refine aOps_1 rfl rfl rfl (AOp.move' (.inr rfl) rfl ?_)
  refine aOps_end ?_
  show ACode _ _ _ _ _ _
  refine ACode.seq ?_
  refine ACode.seq ?_
  refine ACode.region' [0, 1, 2, 3, 4, 5, 6, 7, 8, 9, 10, 11, 12, 13, 14, 15] (by kernel_rfl) rfl ?_
  refine aOps_1 rfl rfl rfl ?_
  refine AOp.loadAll (b := ?b21) (v := cmv a.kind (.slice xs a.sch.length xn) a.most (.slice xw xws.length xwn) xo xc (.slice xA xl xcc) (.slice xB xm xd) a.fr a.to) rfl rfl ?hn21 ?hv21 ?hw21 ?hz21 ?hR21
  (case hn21 => exact hpA)
  (case hv21 => rfl)
  (case hw21 => rfl)
  (case hz21 => first | rfl | (simp; done))
  refine aOps_q rfl rfl rfl (AOp.call' rfl rfl rfl (great25 _ _ a hao _ (CmV.sub subA ha0)) (fun _ _ _ h => h)) (fun kq hkq => ?_)
  refine aOps_1 rfl rfl rfl (AOp.move' (.inl rfl) rfl ?_)
  refine aOps_gd0 rfl rfl (wantF rfl rfl rfl) (fun hc => AOp.slots [(4, _)] (.cons rfl .nil) ((by refine AOp.loadAll (b := ?b22) (v := cmv b.kind (.slice ys b.sch.length yn) b.most (.slice yw yws.length ywn) yo yc (.slice yA yl ycc) (.slice yB ym yd) b.fr b.to) rfl rfl ?hn22 ?hv22 ?hw22 ?hz22 ?hR22; (case hn22 => exact hpA); (case hv22 => rfl); (case hw22 => rfl); (case hz22 => first | rfl | (simp; done)); exact ⟨rfl, rfl, rfl⟩))) ?_
  refine aOps_gd rfl rfl (wantF rfl rfl rfl) (fun hc => AOp.slots [(20, _)] (.cons (gvT rfl hc) .nil) (AOp.call' rfl rfl rfl (great25 _ _ b hbo _ (CmV.sub subA hb0)) (fun _ _ _ h => h))) (fun kq hkq => ?_)
  refine aOps_1 rfl rfl rfl (AOp.pickOr rfl rfl rfl (fun hb => gvE rfl (t_not hb)) ?_)
  refine aOps_1 rfl rfl rfl (AOp.move' (.inl rfl) rfl ?_)
  refine aOps_gd0 rfl rfl (wantF rfl rfl rfl) (fun hc => AOp.slots [(2, _)] (.cons rfl .nil) (AOp.move' (.inl rfl) rfl ⟨rfl, rfl, rfl⟩)) ?_
  refine aOps_gd0 rfl rfl (wantF rfl rfl rfl) (fun hc => AOp.slots [(24, _)] (.cons (gvT rfl hc) .nil) (AOp.len' rfl rfl ⟨rfl, rfl, rfl⟩)) ?_
  refine aOps_gd0 rfl rfl (wantF rfl rfl rfl) (fun hc => AOp.slots [(25, _)] (.cons (gvT rfl hc) .nil) (AOp.bin' rfl rfl rfl rfl ⟨rfl, rfl, rfl⟩)) ?_
  refine aOps_1 rfl rfl rfl (AOp.pickOr rfl rfl rfl (fun hb => gvE rfl (t_not hb)) ?_)
  refine aOps_1 rfl rfl rfl (AOp.move' (.inl rfl) rfl ?_)
  refine aOps_gd0 rfl rfl (wantF rfl rfl rfl) (fun hc => AOp.slots [(2, _)] (.cons rfl .nil) (AOp.move' (.inl rfl) rfl ⟨rfl, rfl, rfl⟩)) ?_
  refine aOps_gd0 rfl rfl (wantF rfl rfl rfl) (fun hc => AOp.slots [(29, _)] (.cons (gvT rfl hc) .nil) (AOp.len' rfl rfl ⟨rfl, rfl, rfl⟩)) ?_
  refine aOps_gd0 rfl rfl (wantF rfl rfl rfl) (fun hc => AOp.slots [(30, _)] (.cons (gvT rfl hc) .nil) (AOp.bin' rfl rfl rfl rfl ⟨rfl, rfl, rfl⟩)) ?_
  refine aOps_1 rfl rfl rfl (AOp.pickOr rfl rfl rfl (fun hb => gvE rfl (t_not hb)) ?_)
  refine aOps_end ?_
  show ACode _ _ _ _ _ _
  refine ACode.cond rfl (fun c0 => ?_) (fun c0 => ?_)
  · skip
    refine ACode.seq ?_
    refine ACode.region' [0, 1] (by kernel_rfl) rfl ?_
    refine aOps_q rfl rfl rfl (AOp.call' rfl rfl rfl (awake25 _ _ hpA) (fun _ _ _ h => h)) (fun kq hkq => ?_)
    refine aOps_1 rfl rfl rfl (AOp.move' (.inr rfl) rfl ?_)
    refine aOps_end ?_
    show ACode _ _ _ _ _ _
    refine ACode.ret ?_
    try simp only [thenA, blockA, if_true]
    exact RetQ.one rfl rfl (sub_refl _) (fun m b h => ⟨b, (show Ab.Sub H _ from by exact subA) m b h⟩) (fun hk => rfl)
  · skip
    simp only [Bool.or_eq_false_iff, decide_eq_false_iff_not, beq_eq_false_iff_ne] at c0
    obtain ⟨⟨⟨g1, g2⟩, g3⟩, g4⟩ := c0
    have hla := great_lean hao x4.okS g1
    have hlb := great_lean hbo y4.okS g2
    have hlx := putC_len hla x4.fine
    have hly := putC_len hlb y4.fine
    refine ACode.skip ?_
    show ACode _ _ _ _ _ _
    refine ACode.seq ?_
    refine ACode.region' [0, 1, 2, 3, 4, 5, 6] (by kernel_rfl) rfl ?_
    refine aOps_1 rfl rfl rfl ?_
    refine AOp.loadAll (b := ?b23) (v := cmv a.kind (.slice xs a.sch.length xn) a.most (.slice xw xws.length xwn) xo xc (.slice xA xl xcc) (.slice xB xm xd) a.fr a.to) rfl rfl ?hn23 ?hv23 ?hw23 ?hz23 ?hR23
    (case hn23 => exact hpA)
    (case hv23 => rfl)
    (case hw23 => rfl)
    (case hz23 => first | rfl | (simp; done))
    refine aOps_1 rfl rfl rfl ?_
    refine AOp.call' rfl rfl rfl (put_c _ _ a hao xs xn xw xwn xws xo xc xA xl xcc xB xm xd (x1.sub subA) (x2.sub subA) (x3.sub subA) (x4.sub subA) hla) ?_
    rintro _ HLx kx ⟨vx, rfl, hNx, hkx, hfLx, hsLx⟩
    have thsLx := SubS.of hsLx
    obtain ⟨Ax, cx, rfl, hSx, hAx⟩ := hNx
    refine aOps_1 rfl rfl rfl (AOp.move' (.inl rfl) rfl ?_)
    refine aOps_1 rfl rfl rfl (AOp.extract' rfl rfl rfl ?_)
    refine aOps_1 rfl rfl rfl (AOp.extract' rfl rfl rfl ?_)
    refine aOps_1 rfl rfl rfl (AOp.move' (.inr rfl) rfl ?_)
    refine aOps_1 rfl rfl rfl (AOp.move' (.inr rfl) rfl ?_)
    refine aOps_end ?_
    show ACode _ _ _ _ _ _
    refine ACode.seq ?_
    refine ACode.region' [0, 1, 2, 3, 4, 5, 6] (by kernel_rfl) rfl ?_
    refine aOps_1 rfl rfl rfl ?_
    refine AOp.loadAll (b := ?b24) (v := cmv b.kind (.slice ys b.sch.length yn) b.most (.slice yw yws.length ywn) yo yc (.slice yA yl ycc) (.slice yB ym yd) b.fr b.to) rfl rfl ?hn24 ?hv24 ?hw24 ?hz24 ?hR24
    (case hn24 => exact hpA)
    (case hv24 => rfl)
    (case hw24 => rfl)
    (case hz24 => first | rfl | (simp; done))
    refine aOps_1 rfl rfl rfl ?_
    refine AOp.call' rfl rfl rfl (put_c _ _ b hbo ys yn yw ywn yws yo yc yA yl ycc yB ym yd (y1.sub subA) (y2.sub subA) (y3.sub subA) (y4.sub subA) hlb) ?_
    rintro _ HLy ky ⟨vy, rfl, hNy, hky, hfLy, hsLy⟩
    have thsLy := SubS.of hsLy
    obtain ⟨Ay, cy, rfl, hSy, hAy⟩ := hNy
    refine aOps_1 rfl rfl rfl (AOp.move' (.inl rfl) rfl ?_)
    refine aOps_1 rfl rfl rfl (AOp.extract' rfl rfl rfl ?_)
    refine aOps_1 rfl rfl rfl (AOp.extract' rfl rfl rfl ?_)
    refine aOps_1 rfl rfl rfl (AOp.move' (.inr rfl) rfl ?_)
    refine aOps_1 rfl rfl rfl (AOp.move' (.inr rfl) rfl ?_)
    refine aOps_end ?_
    show ACode _ _ _ _ _ _
    refine ACode.seq ?_
    refine ACode.seq ?_
    refine ACode.region' [0, 1, 2, 3, 4, 5] (by kernel_rfl) rfl ?_
    refine aOps_1 rfl rfl rfl (AOp.move' (.inl rfl) rfl ?_)
    refine aOps_1 rfl rfl rfl (AOp.bin' rfl rfl rfl rfl ?_)
    refine aOps_1 rfl rfl rfl (AOp.move' (.inl rfl) rfl ?_)
    refine aOps_gd0 rfl rfl (wantF rfl rfl rfl) (fun hc => AOp.slots [(10, _)] (.cons rfl .nil) (AOp.move' (.inl rfl) rfl ⟨rfl, rfl, rfl⟩)) ?_
    refine aOps_gd0 rfl rfl (wantF rfl rfl rfl) (fun hc => AOp.slots [(47, _)] (.cons (gvT rfl hc) .nil) (AOp.bin' rfl rfl rfl rfl ⟨rfl, rfl, rfl⟩)) ?_
    refine aOps_1 rfl rfl rfl (AOp.pickOr rfl rfl rfl (fun hb => gvE rfl (t_not hb)) ?_)
    refine aOps_end ?_
    show ACode _ _ _ _ _ _
    refine ACode.cond rfl (fun c1 => ?_) (fun c1 => ?_)
    · skip
      refine ACode.seq ?_
      refine ACode.region' [0, 1] (by kernel_rfl) rfl ?_
      refine aOps_q rfl rfl rfl (AOp.call' rfl rfl rfl (awake25 _ _ hpA) (fun _ _ _ h => h)) (fun kq hkq => ?_)
      refine aOps_1 rfl rfl rfl (AOp.move' (.inr rfl) rfl ?_)
      refine aOps_end ?_
      show ACode _ _ _ _ _ _
      refine ACode.ret ?_
      try simp only [thenA, blockA, if_true]
      exact RetQ.one rfl rfl (sub_refl _) (fun m b h => ⟨b, (show Ab.Sub H _ from by exact subA) m b h⟩) (fun hk => rfl)
    · skip
      refine ACode.skip ?_
      show ACode _ _ _ _ _ _
      refine ACode.seq ?_
      refine ACode.region' [0, 1, 2, 3, 4, 5, 6, 7, 8, 9, 10] (by kernel_rfl) rfl ?_
      refine aOps_1 rfl rfl rfl (AOp.move' (.inl rfl) rfl ?_)
      refine aOps_1 rfl rfl rfl (AOp.move' (.inl rfl) rfl ?_)
      refine aOps_1 rfl rfl rfl ?_
      refine AOp.call' rfl rfl rfl (nlogTake _ _ hpA (putC a).1 Ax cx (hSx.sub subA) (by omega) cols B d (hC.sub subA) (by omega)) ?_
      rw [hc1]
      rintro _ HLc kc ⟨ccv, rfl, hcv, hkc, hfLc, hsLc⟩
      have thsLc := SubS.of hsLc
      have hcv2 := hcv
      obtain ⟨us, un, uw, uwn, uws, uo, uc, uA, ul, ucc, uB, um, ud, rfl, u1, u2, u3, u4⟩ := hcv2
      refine aOps_1 rfl rfl rfl (AOp.move' (.inl rfl) rfl ?_)
      refine aOps_1 rfl rfl rfl (AOp.extract' rfl rfl rfl ?_)
      refine aOps_1 rfl rfl rfl (AOp.extract' rfl rfl rfl ?_)
      refine aOps_1 rfl rfl rfl (AOp.extract' rfl rfl rfl ?_)
      refine aOps_1 rfl rfl rfl (AOp.alloc' rfl ?_)
      refine aOps_0 rfl rfl rfl ?_
      refine AOp.storeAll (b := ?b25) rfl rfl rfl ?hn25 ?hk25 rfl ?hw25 ?ho25 ?hl25 ?hR25
      (case hn25 => exact hpA)
      (case hk25 => rfl)
      (case hw25 => first | rfl | (simp; done))
      (case ho25 => first | rfl | decide | (simp; done))
      (case hl25 => first | rfl | (simp; done))
      refine aOps_1 rfl rfl rfl (AOp.move' (.inr rfl) rfl ?_)
      refine aOps_1 rfl rfl rfl (AOp.move' (.inr rfl) rfl ?_)
      rw [rd_upd2]
      refine aOps_end ?_
      show ACode _ _ _ _ _ _
      refine ACode.seq ?_
      refine ACode.region' [0, 1, 2, 3, 4, 5, 6, 7, 8, 9, 10] (by kernel_rfl) rfl ?_
      refine aOps_1 rfl rfl rfl (AOp.move' (.inl rfl) rfl ?_)
      refine aOps_1 rfl rfl rfl (AOp.move' (.inl rfl) rfl ?_)
      refine aOps_1 rfl rfl rfl ?_
      refine AOp.call' rfl rfl rfl (nlogTake _ _ hpA (putC b).1 Ay cy (hSy.sub subA) (by omega) cols B d (hC.sub subA) (by omega)) ?_
      rw [hc2]
      rintro _ HLd kd ⟨cdv, rfl, hdv, hkd, hfLd, hsLd⟩
      have thsLd := SubS.of hsLd
      have hdv2 := hdv
      obtain ⟨ws, wn, ww, wwn, wws, wo, wc, wA, wl, wcc, wB, wm, wd, rfl, w1, w2, w3, w4⟩ := hdv2
      refine aOps_1 rfl rfl rfl (AOp.move' (.inl rfl) rfl ?_)
      refine aOps_1 rfl rfl rfl (AOp.extract' rfl rfl rfl ?_)
      refine aOps_1 rfl rfl rfl (AOp.extract' rfl rfl rfl ?_)
      refine aOps_1 rfl rfl rfl (AOp.extract' rfl rfl rfl ?_)
      refine aOps_1 rfl rfl rfl (AOp.alloc' rfl ?_)
      refine aOps_0 rfl rfl rfl ?_
      refine AOp.storeAll (b := ?b26) rfl rfl rfl ?hn26 ?hk26 rfl ?hw26 ?ho26 ?hl26 ?hR26
      (case hn26 => exact hpA)
      (case hk26 => rfl)
      (case hw26 => first | rfl | (simp; done))
      (case ho26 => first | rfl | decide | (simp; done))
      (case hl26 => first | rfl | (simp; done))
      refine aOps_1 rfl rfl rfl (AOp.move' (.inr rfl) rfl ?_)
      refine aOps_1 rfl rfl rfl (AOp.move' (.inr rfl) rfl ?_)
      rw [rd_upd2]
      refine aOps_end ?_
      show ACode _ _ _ _ _ _
      refine ACode.seq ?_
      refine ACode.seq ?_
      refine ACode.any mixed (by kernel_rfl) ?_
      refine AnyA.split 14 (by kernel_rfl) (by kernel_rfl) (by decide) (by decide) (Nat.le_of_ble_eq_true rfl) ?_
      refine AnyA.float (Hq := (upd (upd (fun _ => none) k (some (cmblk a.kind (.slice xs a.sch.length xn) a.most (.slice xw xws.length xwn) xo xc (.slice xA xl xcc) (.slice xB xm xd) a.fr a.to))) kc (some (cmblk (takeC cols (putC a).1).1.kind (.slice us (takeC cols (putC a).1).1.sch.length un) (takeC cols (putC a).1).1.most (.slice uw uws.length uwn) uo uc (.slice uA ul ucc) (.slice uB um ud) (takeC cols (putC a).1).1.fr (takeC cols (putC a).1).1.to)))) [(0, 65), (1, 66), (2, 67), (3, 68), (4, 69), (5, 70), (6, 71), (7, 72), (8, 73)] [9, 10, 11, 12, 13] (by kernel_rfl) (Nat.le_of_ble_eq_true rfl) (by kernel_rfl) subA ?_
      refine DrawF.q 0 65 [(12, none)] rfl (by kernel_rfl) rfl (fun Hc kq hSb => AOp.move' (.inl rfl) rfl ⟨rfl, rfl, rfl⟩) ?_
      refine DrawF.q 1 66 [(65, some 0)] rfl (by kernel_rfl) rfl (fun Hc kq hSb => AOp.bin' rfl rfl rfl rfl ⟨rfl, rfl, rfl⟩) ?_
      refine DrawF.q 2 67 [(66, some 1)] rfl (by kernel_rfl) rfl (fun Hc kq hSb => AOp.move' (.inl rfl) rfl ⟨rfl, rfl, rfl⟩) ?_
      refine DrawF.q 3 68 [(15, none), (67, some 2)] rfl (by kernel_rfl) rfl (fun Hc kq hSb => AOp.move' (.inl rfl) rfl ⟨rfl, rfl, rfl⟩) ?_
      refine DrawF.q 4 69 [(68, some 3), (67, some 2)] rfl (by kernel_rfl) rfl (fun Hc kq hSb => AOp.bin' rfl rfl rfl rfl ⟨rfl, rfl, rfl⟩) ?_
      refine DrawF.q 5 70 [(67, some 2), (69, some 4)] rfl (by kernel_rfl) rfl (fun Hc kq hSb => AOp.pickB rfl rfl rfl ⟨rfl, rfl, rfl⟩) ?_
      refine DrawF.q 6 71 [(70, some 5)] rfl (by kernel_rfl) rfl (fun Hc kq hSb => AOp.move' (.inl rfl) rfl ⟨rfl, rfl, rfl⟩) ?_
      refine DrawF.q 7 72 [(11, none), (71, some 6)] rfl (by kernel_rfl) rfl (fun Hc kq hSb => have tSb := SubS.of hSb; (by refine AOp.loadAll (b := ?b27) (v := cmv (takeC cols (putC a).1).1.kind (.slice us (takeC cols (putC a).1).1.sch.length un) (takeC cols (putC a).1).1.most (.slice uw uws.length uwn) uo uc (.slice uA ul ucc) (.slice uB um ud) (takeC cols (putC a).1).1.fr (takeC cols (putC a).1).1.to) rfl rfl ?hn27 ?hv27 ?hw27 ?hz27 ?hR27; (case hn27 => exact hpA); (case hv27 => rfl); (case hw27 => rfl); (case hz27 => first | rfl | (simp; done)); exact ⟨rfl, rfl, rfl⟩)) ?_
      refine DrawF.q 8 73 [(3, none), (71, some 6)] rfl (by kernel_rfl) rfl (fun Hc kq hSb => have tSb := SubS.of hSb; (by refine AOp.loadAll (b := ?b28) (v := cmv a.kind (.slice xs a.sch.length xn) a.most (.slice xw xws.length xwn) xo xc (.slice xA xl xcc) (.slice xB xm xd) a.fr a.to) rfl rfl ?hn28 ?hv28 ?hw28 ?hz28 ?hR28; (case hn28 => exact hpA); (case hv28 => rfl); (case hw28 => rfl); (case hz28 => first | rfl | (simp; done)); exact ⟨rfl, rfl, rfl⟩)) ?_
      refine DrawF.done ?_
      show aOpsF _ _ _ _ _ _ [9, 10, 11, 12, 13] ⟨_, _, _⟩
      refine aOpsF_1 [73, 71] rfl rfl (by kernel_rfl) rfl ?_
      refine AOp.call' rfl rfl rfl (plain_c _ _ a hao xs xn xw xwn xws xo xc xA xl xcc xB xm xd (x1.sub subA) (x2.sub subA) (x3.sub subA) (x4.sub subA) ⟨by have := hla.sch; omega, by have := hla.small.n; omega, fun r hr => by have := hla.small.w r hr; omega, hla.tiny⟩) ?_
      rintro _ HLp kp ⟨⟨sp, wp, opp, cop, vp, op, rfl, hPp⟩, hkp, hfLp, hsLp⟩
      have thsLp := SubS.of hsLp
      refine ⟨by exact subA, ?_⟩
      refine aOpsF_1 [72, 74, 71] rfl rfl (by kernel_rfl) rfl ?_
      refine AOp.call' rfl rfl rfl (lsame _ _ (takeC cols (putC a).1).1 (plainC a) (takeC_ok (by omega) (by omega)) (plain_ok hao) _ _ (CmV.sub (sub_trans cutH_sub subA) hcv) (CmV.sub (sub_trans cutH_sub subA) hPp.cm)) ?_
      rw [hc3]
      rintro _ _ ka ⟨rfl, rfl, hka⟩
      refine ⟨by exact subA, ?_⟩
      refine aOpsF_1 [75, 71] rfl rfl (by kernel_rfl) rfl (AOp.un' rfl rfl rfl ?_)
      refine ⟨by exact subA, ?_⟩
      refine aOpsF_1 [71, 76] rfl rfl (by kernel_rfl) rfl (AOp.pickOr rfl rfl rfl (fun hb => gvE rfl (t_not hb)) ?_)
      refine ⟨by exact subA, ?_⟩
      refine aOpsF_1 [77] rfl rfl (by kernel_rfl) rfl (AOp.move' (.inl rfl) rfl ?_)
      refine ⟨by exact subA, ?_⟩
      refine aOpsF_end ?_
      refine AnyA.float (Hq := (upd (upd (fun _ => none) (k + 1) (some (cmblk b.kind (.slice ys b.sch.length yn) b.most (.slice yw yws.length ywn) yo yc (.slice yA yl ycc) (.slice yB ym yd) b.fr b.to))) kd (some (cmblk (takeC cols (putC b).1).1.kind (.slice ws (takeC cols (putC b).1).1.sch.length wn) (takeC cols (putC b).1).1.most (.slice ww wws.length wwn) wo wc (.slice wA wl wcc) (.slice wB wm wd) (takeC cols (putC b).1).1.fr (takeC cols (putC b).1).1.to)))) [(14, 79), (15, 80)] [16, 17, 18, 19] (by kernel_rfl) (Nat.le_of_ble_eq_true rfl) (by kernel_rfl) subA ?_
      refine DrawF.q 14 79 [(14, none), (78, none)] rfl (by kernel_rfl) rfl (fun Hc kq hSb => have tSb := SubS.of hSb; (by refine AOp.loadAll (b := ?b29) (v := cmv (takeC cols (putC b).1).1.kind (.slice ws (takeC cols (putC b).1).1.sch.length wn) (takeC cols (putC b).1).1.most (.slice ww wws.length wwn) wo wc (.slice wA wl wcc) (.slice wB wm wd) (takeC cols (putC b).1).1.fr (takeC cols (putC b).1).1.to) rfl rfl ?hn29 ?hv29 ?hw29 ?hz29 ?hR29; (case hn29 => exact hpA); (case hv29 => rfl); (case hw29 => rfl); (case hz29 => first | rfl | (simp; done)); exact ⟨rfl, rfl, rfl⟩)) ?_
      refine DrawF.q 15 80 [(4, none), (78, none)] rfl (by kernel_rfl) rfl (fun Hc kq hSb => have tSb := SubS.of hSb; (by refine AOp.loadAll (b := ?b30) (v := cmv b.kind (.slice ys b.sch.length yn) b.most (.slice yw yws.length ywn) yo yc (.slice yA yl ycc) (.slice yB ym yd) b.fr b.to) rfl rfl ?hn30 ?hv30 ?hw30 ?hz30 ?hR30; (case hn30 => exact hpA); (case hv30 => rfl); (case hw30 => rfl); (case hz30 => first | rfl | (simp; done)); exact ⟨rfl, rfl, rfl⟩)) ?_
      refine DrawF.done ?_
      show aOpsF _ _ _ _ _ _ [16, 17, 18, 19] ⟨_, _, _⟩
      refine aOpsF_1 [80, 78] rfl rfl (by kernel_rfl) rfl ?_
      refine AOp.call' rfl rfl rfl (plain_c _ _ b hbo ys yn yw ywn yws yo yc yA yl ycc yB ym yd (y1.sub subA) (y2.sub subA) (y3.sub subA) (y4.sub subA) ⟨by have := hlb.sch; omega, by have := hlb.small.n; omega, fun r hr => by have := hlb.small.w r hr; omega, hlb.tiny⟩) ?_
      rintro _ HLq kq ⟨⟨sq, wq, opq, coq, vq, oq, rfl, hPq⟩, hkq, hfLq, hsLq⟩
      have thsLq := SubS.of hsLq
      refine ⟨by exact subA, ?_⟩
      refine aOpsF_1 [79, 81, 78] rfl rfl (by kernel_rfl) rfl ?_
      refine AOp.call' rfl rfl rfl (lsame _ _ (takeC cols (putC b).1).1 (plainC b) (takeC_ok (by omega) (by omega)) (plain_ok hbo) _ _ (CmV.sub (sub_trans cutH_sub subA) hdv) (CmV.sub (sub_trans cutH_sub subA) hPq.cm)) ?_
      rintro _ _ kb ⟨rfl, rfl, hkb⟩
      refine ⟨by exact subA, ?_⟩
      refine aOpsF_1 [82, 78] rfl rfl (by kernel_rfl) rfl (AOp.un' rfl rfl rfl ?_)
      refine ⟨by exact subA, ?_⟩
      refine aOpsF_1 [78, 83] rfl rfl (by kernel_rfl) rfl (AOp.pickOr rfl rfl rfl (fun hb => gvE rfl (t_not hb)) ?_)
      refine ⟨by exact subA, ?_⟩
      refine aOpsF_end ?_
      show ACode _ _ _ _ _ _
      refine ACode.cond rfl (fun c2 => ?_) (fun c2 => ?_)
      · skip
        refine ACode.seq ?_
        refine ACode.region' [0, 1] (by kernel_rfl) rfl ?_
        refine aOps_q rfl rfl rfl (AOp.call' rfl rfl rfl (awake25 _ _ hpA) (fun _ _ _ h => h)) (fun kq hkq => ?_)
        refine aOps_1 rfl rfl rfl (AOp.move' (.inr rfl) rfl ?_)
        refine aOps_end ?_
        show ACode _ _ _ _ _ _
        refine ACode.ret ?_
        try simp only [thenA, blockA, if_true]
        exact RetQ.one rfl rfl (sub_refl _) (fun m b h => ⟨b, (show Ab.Sub H _ from by exact subA) m b h⟩) (fun hk => rfl)
      · skip
        have hc4 : eqB (takeC cols (putC b).1).1 (plainC b) = true := by simpa using c2
        have hkey := tells_key hc3 hc4
        refine ACode.skip ?_
        show ACode _ _ _ _ _ _
        refine ACode.seq ?_
        refine ACode.draw' 11 [(0, 86), (1, 87), (2, 88), (3, 89), (4, 90), (5, 91), (6, 92), (7, 93), (8, 94), (9, 95), (10, 6)] mixed (by kernel_rfl) ?_
        refine Draw.step [(7, none)] rfl (by kernel_rfl) rfl (fun kq hkq => AOp.move' (.inl rfl) rfl ⟨rfl, rfl, Nat.le_refl _⟩) ?_
        refine Draw.step [(9, none)] rfl (by kernel_rfl) rfl (fun kq hkq => AOp.move' (.inl rfl) rfl ⟨rfl, rfl, Nat.le_refl _⟩) ?_
        refine Draw.step [(86, some 0), (87, some 1)] rfl (by kernel_rfl) rfl (fun kq hkq => AOp.call' rfl rfl rfl (same_b 3 _ _ (putC a).1 (putC b).1 _ _ _ _ (hSx.sub subA) (hSy.sub subA) (by omega)) (fun _ _ _ h => h)) ?_
        refine Draw.step [(11, none)] rfl (by kernel_rfl) rfl (fun kq hkq => (by refine AOp.loadAll (b := ?b31) (v := cmv (takeC cols (putC a).1).1.kind (.slice us (takeC cols (putC a).1).1.sch.length un) (takeC cols (putC a).1).1.most (.slice uw uws.length uwn) uo uc (.slice uA ul ucc) (.slice uB um ud) (takeC cols (putC a).1).1.fr (takeC cols (putC a).1).1.to) rfl rfl ?hn31 ?hv31 ?hw31 ?hz31 ?hR31; (case hn31 => exact hpA); (case hv31 => rfl); (case hw31 => rfl); (case hz31 => first | rfl | (simp; done)); exact ⟨rfl, rfl, Nat.le_refl _⟩)) ?_
        refine Draw.step [(14, none)] rfl (by kernel_rfl) rfl (fun kq hkq => (by refine AOp.loadAll (b := ?b32) (v := cmv (takeC cols (putC b).1).1.kind (.slice ws (takeC cols (putC b).1).1.sch.length wn) (takeC cols (putC b).1).1.most (.slice ww wws.length wwn) wo wc (.slice wA wl wcc) (.slice wB wm wd) (takeC cols (putC b).1).1.fr (takeC cols (putC b).1).1.to) rfl rfl ?hn32 ?hv32 ?hw32 ?hz32 ?hR32; (case hn32 => exact hpA); (case hv32 => rfl); (case hw32 => rfl); (case hz32 => first | rfl | (simp; done)); exact ⟨rfl, rfl, Nat.le_refl _⟩)) ?_
        refine Draw.step [(89, some 3), (90, some 4)] rfl (by kernel_rfl) rfl (fun kq hkq => AOp.call' rfl rfl rfl (lsame _ _ (takeC cols (putC a).1).1 (takeC cols (putC b).1).1 (takeC_ok (by omega) (by omega)) (takeC_ok (by omega) (by omega)) _ _ (CmV.sub (sub_trans cutH_sub subA) hcv) (CmV.sub (sub_trans cutH_sub subA) hdv)) (fun _ _ _ h => h)) ?_
        refine Draw.step [(88, some 2), (91, some 5)] rfl (by kernel_rfl) rfl (fun kq hkq => AOp.eqBool rfl rfl rfl ⟨rfl, rfl, Nat.le_refl _⟩) ?_
        rw [hkey]
        refine Draw.step [(92, some 6)] rfl (by kernel_rfl) rfl (fun kq hkq => AOp.move' (.inl rfl) rfl ⟨rfl, rfl, Nat.le_refl _⟩) ?_
        refine Draw.gd [(93, some 7)] rfl (by kernel_rfl) (wantT rfl rfl rfl) (fun kq hkq hc => AOp.slots [] .nil (AOp.call' rfl rfl rfl (awake25 _ _ hpA) (fun _ _ _ h => h))) ?_
        refine Draw.step [(93, some 7), (94, some 8)] rfl (by kernel_rfl) rfl (fun kq hkq => AOp.pickAnd rfl rfl rfl (fun hb => gvE rfl hb) ⟨rfl, rfl, Nat.le_refl _⟩) ?_
        refine Draw.step [(95, some 9)] rfl (by kernel_rfl) rfl (fun kq hkq => AOp.move' (.inr rfl) rfl ⟨rfl, rfl, Nat.le_refl _⟩) ?_
        refine Draw.done fun kq hkq => ?_
        show aOps _ _ _ _ [] ⟨_, _, _⟩
        refine aOps_end ?_
        show ACode _ _ _ _ _ _
        refine ACode.ret ?_
        try simp only [thenA, blockA, if_true]
        exact RetQ.one rfl rfl (sub_refl _) (fun m b h => ⟨b, (show Ab.Sub H _ from by exact subA) m b h⟩) (fun hk => by first | rfl | simp)

theorem logTells (h2 : H 1 = some hBlk) (a b : Cm) (hao : a.ok) (hbo : b.ok) (va vb : Value) (ha : CmV H a va) (hb : CmV H b vb) (cols : List Col) (B : Option Addr) (d : Nat) (hC : SLC H 3 B cols.length d (cols3 cols)) (hcl : cols.length ≤ 9223372036854775807) : ACalls Tryd.prog 3 6 [va, vb, .slice B cols.length d] H k (fun v _ _ => v = .bool true) := by
  by_cases hc1 : (takeC cols (putC a).1).2.1 = 0
  · by_cases hc2 : (takeC cols (putC b).1).2.1 = 0
    · cases hc3 : eqB (takeC cols (putC a).1).1 (plainC a) with
      | false => exact logTells3 H k h2 a b hao hbo va vb ha hb cols B d hC hcl hc1 hc2 hc3
      | true => exact logTells4 H k h2 a b hao hbo va vb ha hb cols B d hC hcl hc1 hc2 hc3
    · exact logTells2 H k h2 a b hao hbo va vb ha hb cols B d hC hcl hc1 hc2
  · exact logTells1 H k h2 a b hao hbo va vb ha hb cols B d hC hcl hc1
end

end Go.Proofs.YteoofihjmldllaaDoor
