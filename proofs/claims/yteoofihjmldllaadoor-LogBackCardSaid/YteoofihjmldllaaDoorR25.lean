/- Contracts over the abstract states: LogBack. -/
import Derived.Test.YteoofihjmldllaaDoorR24
import Derived.Test.YteoofihjmldllaaDoorP7
set_option linter.unusedVariables false
set_option linter.unusedSimpArgs false
set_option maxRecDepth 100000
namespace Go.Proofs.YteoofihjmldllaaDoor
open Go Go.Ab

theorem putC_pos {c : Cm} (h : (putC c).2 = 0) : 0 < (putC c).1.length := by
  unfold putC at h ⊢
  split
  · exact Nat.succ_pos _
  · rename_i h1
    rw [if_neg h1] at h
    exact absurd h h1
theorem and_snoc {R : Bool} {l : List (List Val)} {f : List Val → Bool} {i : Nat} (h : i < l.length) : (R && (l.take i).all f && f (l.getD i [])) = (R && (l.take (i + 1)).all f) := by
  rw [take_snoc [] h, List.all_append, List.all_cons, List.all_nil, Bool.and_true, Bool.and_assoc]
theorem plainC_rows {c : Cm} (h : c.kind = 2) : (plainC c).rows = c.rows := by
  unfold plainC
  rw [if_neg (by omega), if_pos h]
theorem plainC_most {c : Cm} (h : c.kind = 1) : (plainC c).most = c.most := by
  unfold plainC
  rw [if_pos h]
theorem plainC_fr {c : Cm} (h : c.kind = 5) : (plainC c).fr = c.fr ∧ (plainC c).to = c.to := by
  unfold plainC
  rw [if_neg (by omega), if_neg (by omega), if_neg (by omega), if_pos h]
  exact ⟨rfl, rfl⟩
theorem right_of {cols : List Col} {c : Cm} (ho : c.ok) (hl : c.lean_) (hf : c.pred.fine) (r1 : (c.kind == 3 && (rchk cols c.pred 0 != 0)) = false) (r2 : ((schemaR c.sch == 0 || c.kind != 1) && ((plainC c).rows.all fun r => rowI wrongR cols r == 0)) = true) (r3 : max (max (plainC c).most (plainC c).fr) (plainC c).to ≤ 1099511627776) : c.right cols := by
  rw [Bool.and_eq_true] at r2
  obtain ⟨r4, r5⟩ := r2
  refine ⟨fun h => ?_, fun h => ?_, fun h => ?_, fun h => ?_, fun h => ?_⟩
  · rw [schema_same]
    rw [h] at r4
    simpa using r4
  · rw [plainC_rows h] at r5
    refine ⟨by have := hl.small.n; omega, fun row hr => ?_⟩
    have h1 : rowI wrongR cols row = 0 := by simpa using List.all_eq_true.1 r5 row hr
    obtain ⟨h2, h3⟩ := rowI_tidy h1 (ho.ro row hr)
    exact ⟨h2, h1, h3⟩
  · refine rchk_can cols 32 0 c.pred rfl hf ?_
    rw [h] at r1
    simpa using r1
  · have := plainC_most h
    omega
  · have := plainC_fr h
    omega
theorem SLC.cutP {H : Hp} {c0 : Nat} {A0 : Option Addr} {bs ys t : List UInt8} (hS : SLC H 1 A0 bs.length c0 (bs.map bv)) (h : bs = ys ++ t) :
    ∃ A c, aslice H 1 0 ys.length none (.slice A0 bs.length c0) = some (.slice A ys.length c) ∧ SLC H 1 A ys.length c (ys.map bv) := by
  obtain ⟨A, c, h3, h4⟩ := SLC.cutB hS 0 ys.length (Nat.zero_le _) (by rw [h, List.length_append]; omega)
  have e : (bs.drop 0).take (ys.length - 0) = ys := by rw [h, List.drop_zero, Nat.sub_zero, List.take_left']; rfl
  rw [e] at h3 h4
  exact ⟨A, c, h3, h4⟩
theorem part_of {bs : List UInt8} {x : Int} (h : 0 < bs.length) : ∃ ys t : List UInt8, bs = ys ++ t ∧ t ≠ [] ∧ x % (bs.length : Int) = (ys.length : Int) := by
  have h1 := Int.emod_nonneg x (show (bs.length : Int) ≠ 0 by omega)
  have h2 := Int.emod_lt_of_pos x (show (0 : Int) < bs.length by omega)
  refine ⟨bs.take (x % (bs.length : Int)).toNat, bs.drop (x % (bs.length : Int)).toNat, (List.take_append_drop _ _).symm, fun e => ?_, ?_⟩
  · have := congrArg List.length e
    rw [List.length_drop, List.length_nil] at this
    omega
  · rw [List.length_take]
    omega
section
variable (H : Hp) (k : Nat)

set_option maxHeartbeats 2000000 in
theorem logBack (h2 : H 1 = some hBlk) (c : Cm) (hco : c.ok) (vc : Value) (hc : CmV H c vc) (cols : List Col) (B : Option Addr) (d : Nat) (hC : SLC H 3 B cols.length d (cols3 cols)) (hcl : cols.length ≤ 9223372036854775807) (x : Int) (hx1 : -9223372036854775808 ≤ x) (hx2 : x ≤ 9223372036854775807) : ACalls Tryd.prog 3 5 [vc, .slice B cols.length d, .int .i64 x] H k (fun v _ _ => v = .bool true) := by
  have hc0 := hc
  obtain ⟨xs, xn, xw, xwn, xws, xo, xc, xA, xl, xcc, xB, xm, xd, rfl, x1, x2, x3, x4⟩ := hc
  have hpo := plain_ok hco
  have hprl := hpo.rl
  refine ACalls.fresh fun hf => ?_
  refine ACalls.body Tryd.func5 rfl (Nat.le_of_ble_eq_true rfl) ?_
  have h2k := old_lt hf h2
  have hHk := hf k (Nat.le_refl k)
  refine ACode.seq ?_
  refine ACode.region' [0, 1] (by kernel_rfl) rfl ?_
  refine aOps_1 rfl rfl rfl (AOp.boxV rfl rfl ?_)
  refine aOps_1 rfl rfl rfl (AOp.move' (.inr rfl) rfl ?_)
  refine aOps_end ?_
  show ACode _ _ _ _ _ _
  refine ACode.seq ?_
  refine ACode.seq ?_
  refine ACode.region' [0, 1, 2, 3, 4, 5, 6, 7, 8, 9, 10, 11] (by kernel_rfl) rfl ?_
  refine aOps_1 rfl rfl rfl ?_
  refine AOp.loadAll (b := ?b1) (v := cmv c.kind (.slice xs c.sch.length xn) c.most (.slice xw xws.length xwn) xo xc (.slice xA xl xcc) (.slice xB xm xd) c.fr c.to) rfl rfl ?hn1 ?hv1 ?hw1 ?hz1 ?hR1
  (case hn1 => exact hpA)
  (case hv1 => rfl)
  (case hw1 => rfl)
  (case hz1 => first | rfl | (simp; done))
  refine aOps_q rfl rfl rfl (AOp.call' rfl rfl rfl (great25 _ _ c hco _ (CmV.sub subA hc0)) (fun _ _ _ h => h)) (fun kq hkq => ?_)
  refine aOps_1 rfl rfl rfl (AOp.move' (.inl rfl) rfl ?_)
  refine aOps_gd0 rfl rfl (wantF rfl rfl rfl) (fun hc => AOp.slots [(1, _)] (.cons rfl .nil) (AOp.move' (.inl rfl) rfl ⟨rfl, rfl, rfl⟩)) ?_
  refine aOps_gd0 rfl rfl (wantF rfl rfl rfl) (fun hc => AOp.slots [(23, _)] (.cons (gvT rfl hc) .nil) (AOp.len' rfl rfl ⟨rfl, rfl, rfl⟩)) ?_
  refine aOps_gd0 rfl rfl (wantF rfl rfl rfl) (fun hc => AOp.slots [(24, _)] (.cons (gvT rfl hc) .nil) (AOp.bin' rfl rfl rfl rfl ⟨rfl, rfl, rfl⟩)) ?_
  refine aOps_1 rfl rfl rfl (AOp.pickOr rfl rfl rfl (fun hb => gvE rfl (t_not hb)) ?_)
  refine aOps_1 rfl rfl rfl (AOp.move' (.inl rfl) rfl ?_)
  refine aOps_gd0 rfl rfl (wantF rfl rfl rfl) (fun hc => AOp.slots [(1, _)] (.cons rfl .nil) (AOp.move' (.inl rfl) rfl ⟨rfl, rfl, rfl⟩)) ?_
  refine aOps_gd0 rfl rfl (wantF rfl rfl rfl) (fun hc => AOp.slots [(28, _)] (.cons (gvT rfl hc) .nil) (AOp.len' rfl rfl ⟨rfl, rfl, rfl⟩)) ?_
  refine aOps_gd0 rfl rfl (wantF rfl rfl rfl) (fun hc => AOp.slots [(29, _)] (.cons (gvT rfl hc) .nil) (AOp.bin' rfl rfl rfl rfl ⟨rfl, rfl, rfl⟩)) ?_
  refine aOps_1 rfl rfl rfl (AOp.pickOr rfl rfl rfl (fun hb => gvE rfl (t_not hb)) ?_)
  refine aOps_end ?_
  show ACode _ _ _ _ _ _
  refine ACode.cond rfl (fun c0 => ?_) (fun c0 => ?_)
  · skip
    refine ACode.seq ?_
    refine ACode.region' [0, 1] (by kernel_rfl) rfl ?_
    refine aOps_q rfl rfl rfl (AOp.call' rfl rfl rfl (awake25 _ _ hpA) (fun _ _ _ h => h)) (fun kq hkq => ?_)
    refine aOps_1 rfl rfl rfl (AOp.move' (.inr rfl) rfl ?_)
    refine aOps_end ?_
    show ACode _ _ _ _ _ _
    refine ACode.ret ?_
    try simp only [thenA, blockA, if_true]
    exact RetQ.one rfl rfl (sub_refl _) (fun m b h => ⟨b, (show Ab.Sub H _ from by exact subA) m b h⟩) (fun hk => rfl)
  · skip
    simp only [Bool.or_eq_false_iff, decide_eq_false_iff_not, beq_eq_false_iff_ne] at c0
    obtain ⟨⟨g1, g2⟩, g3⟩ := c0
    have hla := great_lean hco x4.okS g1
    have hlx := putC_len hla x4.fine
    refine ACode.skip ?_
    show ACode _ _ _ _ _ _
    refine ACode.seq ?_
    refine ACode.region' [0, 1, 2, 3] (by kernel_rfl) rfl ?_
    refine aOps_1 rfl rfl rfl ?_
    refine AOp.loadAll (b := ?b2) (v := cmv c.kind (.slice xs c.sch.length xn) c.most (.slice xw xws.length xwn) xo xc (.slice xA xl xcc) (.slice xB xm xd) c.fr c.to) rfl rfl ?hn2 ?hv2 ?hw2 ?hz2 ?hR2
    (case hn2 => exact hpA)
    (case hv2 => rfl)
    (case hw2 => rfl)
    (case hz2 => first | rfl | (simp; done))
    refine aOps_1 rfl rfl rfl ?_
    refine AOp.call' rfl rfl rfl (plain_c _ _ c hco xs xn xw xwn xws xo xc xA xl xcc xB xm xd (x1.sub subA) (x2.sub subA) (x3.sub subA) (x4.sub subA) ⟨by have := hla.sch; omega, by have := hla.small.n; omega, fun r hr => by have := hla.small.w r hr; omega, hla.tiny⟩) ?_
    rintro _ HLp kp ⟨⟨_, _, po, pc, _, _, rfl, hPp⟩, hkp, hfLp, hsLp⟩
    have thsLp := SubS.of hsLp
    have hPq := hPp
    obtain ⟨⟨ps, pn, rfl, p1⟩, pw0, pA, pl, pcc, pB, pm, pd, rfl, rfl, p4⟩ := hPq
    obtain ⟨pw, pwn, pws, rfl, p2, p3, p5, nR, oR, sR, QR, A0, d0, hrow⟩ := pw0.first
    refine aOps_1 rfl rfl rfl (AOp.alloc' rfl ?_)
    refine aOps_0 rfl rfl rfl ?_
    refine AOp.storeAll (b := ?b3) rfl rfl rfl ?hn3 ?hk3 rfl ?hw3 ?ho3 ?hl3 ?hR3
    (case hn3 => exact hpA)
    (case hk3 => rfl)
    (case hw3 => first | rfl | (simp; done))
    (case ho3 => first | rfl | decide | (simp; done))
    (case hl3 => first | rfl | (simp; done))
    rw [rd_upd2]
    refine aOps_end ?_
    show ACode _ _ _ _ _ _
    refine ACode.seq ?_
    refine ACode.region' [0, 1, 2, 3, 4, 5, 6, 7, 8, 9] (by kernel_rfl) rfl ?_
    refine aOps_1 rfl rfl rfl (AOp.fieldAddr' rfl (by decide) rfl ?_)
    refine aOps_1 rfl rfl rfl ?_
    refine AOp.load1 (b := ?b4) (v := ?v4) rfl rfl ?hn4 ?hv4 ?hR4
    (case hn4 => exact hpA)
    (case hv4 => rfl)
    refine aOps_q rfl rfl rfl (AOp.call' rfl rfl rfl (refschema_cols 3 _ _ c.sch xs xn (x1.sub subA).cells hco.sl) (fun _ _ _ h => h)) (fun kq hkq => ?_)
    refine aOps_1 rfl rfl rfl (AOp.bin' rfl rfl rfl rfl ?_)
    refine aOps_1 rfl rfl rfl (AOp.move' (.inl rfl) rfl ?_)
    refine aOps_gd0 rfl rfl (wantF rfl rfl rfl) (fun hc => AOp.slots [(3, _)] (.cons rfl .nil) (AOp.fieldAddr' rfl (by decide) rfl ⟨rfl, rfl, rfl⟩)) ?_
    refine aOps_gd0 rfl rfl (wantF rfl rfl rfl) (fun hc => AOp.slots [(40, _)] (.cons (gvT rfl hc) .nil) ((by refine AOp.load1 (b := ?b5) (v := ?v5) rfl rfl ?hn5 ?hv5 ?hR5; (case hn5 => exact hpA); (case hv5 => rfl); exact ⟨rfl, rfl, rfl⟩))) ?_
    refine aOps_gd0 rfl rfl (wantF rfl rfl rfl) (fun hc => AOp.slots [(41, _)] (.cons (gvT rfl hc) .nil) (AOp.bin' rfl rfl rfl rfl ⟨rfl, rfl, rfl⟩)) ?_
    refine aOps_1 rfl rfl rfl (AOp.pickOr rfl rfl rfl (fun hb => gvE rfl (t_not hb)) ?_)
    refine aOps_1 rfl rfl rfl (AOp.move' (.inr rfl) rfl ?_)
    refine aOps_end ?_
    show ACode _ _ _ _ _ _
    refine ACode.seq ?_
    refine ACode.seq ?_
    refine ACode.region' [0] (by kernel_rfl) rfl ?_
    refine aOps_1 rfl rfl rfl (AOp.move' (.inr rfl) rfl ?_)
    refine aOps_end ?_
    show ACode _ _ _ _ _ _
    refine ACode.block ?_
    refine ACode.count0 (fun i => [(8, .bool ((schemaR c.sch == 0 || c.kind != 1) && ((plainC c).rows.take i).all (fun r => rowI wrongR cols r == 0))), (9, .int .i64 (i : Int))]) [(1, _), (2, _), (3, _), (6, _), (7, _)] (pws.length) (fun _ => True) (.cons (congrArg (fun b => some (Value.bool b)) (by simp)) (.cons rfl .nil)) (.cons rfl (.cons rfl (.cons rfl (.cons rfl (.cons rfl .nil))))) trivial (fun i0 kL0 HL0 hiL0 hkL0 hsL0 hfL0 hxL0 => ?_)
    show ACode _ _ _ _ _ ⟨_, _, _⟩
    have tsL0 := SubS.of hsL0
    refine ACode.seq ?_
    refine ACode.seq ?_
    refine ACode.region' [0, 1, 2, 3, 4] (by kernel_rfl) rfl ?_
    refine aOps_1 rfl rfl rfl (AOp.move' (.inl rfl) rfl ?_)
    refine aOps_1 rfl rfl rfl (AOp.fieldAddr' rfl (by decide) rfl ?_)
    refine aOps_1 rfl rfl rfl ?_
    refine AOp.load1 (b := ?b6) (v := ?v6) rfl rfl ?hn6 ?hv6 ?hR6
    (case hn6 => exact hpA)
    (case hv6 => rfl)
    refine aOps_1 rfl rfl rfl (AOp.len' rfl rfl ?_)
    refine aOps_1 rfl rfl rfl (AOp.bin' rfl rfl rfl rfl ?_)
    refine aOps_end ?_
    show ACode _ _ _ _ _ _
    refine ACode.cond rfl (fun c1 => ?_) (fun c1 => ?_)
    · try simp only [decide_eq_true_eq, decide_eq_false_iff_not, beq_iff_eq, beq_eq_false_iff_ne, ne_eq, bne_iff_ne, Bool.not_eq_true', Bool.not_eq_false', Int.not_lt, Int.not_le, gt_iff_lt, ge_iff_le, bne_eq_false_iff_eq, Bool.not_eq_eq_eq_not, Bool.not_true, Bool.not_false] at c1
      refine ACode.skip ?_
      show ACode _ _ _ _ _ _
      refine ACode.seq ?_
      refine ACode.block ?_
      obtain ⟨A1, d1, e1, hc1⟩ := p3.at_ i0 (by omega)
      have hm : ((plainC c).rows.getD i0 []) ∈ (plainC c).rows := getD_mem (by omega)
      obtain ⟨nE, oE, sE, hqE, hpE⟩ := e1 ▸ slcElV (slcCells_sub cutH_sub p2.cells) (show i0 < pws.length by omega)
      refine ACode.region' [0, 1, 2, 3, 4, 5, 6, 7, 8, 9, 10, 11] (by kernel_rfl) rfl ?_
      refine aOps_1 rfl rfl rfl (AOp.move' (.inl rfl) rfl ?_)
      refine aOps_1 rfl rfl rfl (AOp.move' (.inl rfl) rfl ?_)
      refine aOps_gd0 rfl rfl (wantT rfl rfl rfl) (fun hc => AOp.slots [(1, _)] (.cons rfl .nil) (AOp.move' (.inl rfl) rfl ⟨rfl, rfl, rfl⟩)) ?_
      refine aOps_gd0 rfl rfl (wantT rfl rfl rfl) (fun hc => AOp.slots [(7, _)] (.cons rfl .nil) (AOp.fieldAddr' rfl (by decide) rfl ⟨rfl, rfl, rfl⟩)) ?_
      refine aOps_gd0 rfl rfl (wantT rfl rfl rfl) (fun hc => AOp.slots [(54, _)] (.cons (gvT rfl hc) .nil) ((by refine AOp.load1 (b := ?b7) (v := ?v7) rfl rfl ?hn7 ?hv7 ?hR7; (case hn7 => exact hpA); (case hv7 => rfl); exact ⟨rfl, rfl, rfl⟩))) ?_
      refine aOps_gd0 rfl rfl (wantT rfl rfl rfl) (fun hc => AOp.slots [(9, _)] (.cons rfl .nil) (AOp.move' (.inl rfl) rfl ⟨rfl, rfl, rfl⟩)) ?_
      refine aOps_gd0 rfl rfl (wantT rfl rfl rfl) (fun hc => AOp.slots [(55, _), (56, _)] (.cons (gvT rfl hc) (.cons (gvT rfl hc) .nil)) (AOp.indexP (aslcAt_sub subA hqE) rfl rfl rfl ⟨rfl, rfl, rfl⟩)) ?_
      refine aOps_gd0 rfl rfl (wantT rfl rfl rfl) (fun hc => AOp.slots [(57, _)] (.cons (gvT rfl hc) .nil) (AOp.loadP0 (hpE.sub subA) rfl rfl rfl ⟨rfl, rfl, rfl⟩)) ?_
      refine aOps_gd rfl rfl (wantT rfl rfl rfl) (fun hc => AOp.slots [(53, _), (58, _)] (.cons (gvT rfl hc) (.cons (gvT rfl hc) .nil)) (AOp.call' rfl rfl rfl (refrow_vals 3 _ _ cols ((plainC c).rows.getD i0 []) B d (hC.sub subA).cells A1 d1 (hc1.sub (sub_trans cutH_sub subA)).cells (hpo.rr _ hm)) (fun _ _ _ h => h))) (fun kq hkq => ?_)
      refine aOps_gd0 rfl rfl (wantT rfl rfl rfl) (fun hc => AOp.slots [(59, _)] (.cons (gvT rfl hc) .nil) (AOp.bin' rfl rfl rfl rfl ⟨rfl, rfl, rfl⟩)) ?_
      refine aOps_1 rfl rfl rfl (AOp.pickAnd rfl rfl rfl (fun hb => gvE rfl hb) ?_)
      refine aOps_1 rfl rfl rfl (AOp.move' (.inr rfl) rfl ?_)
      refine aOps_end ?_
      show ACode _ _ _ _ _ _
      refine ACode.region' [0, 1, 2] (by kernel_rfl) rfl ?_
      refine aOps_1 rfl rfl rfl (AOp.move' (.inl rfl) rfl ?_)
      refine aOps_1 rfl rfl rfl (AOp.add rfl rfl rfl (i64_wrap (by omega) (by omega)) ?_)
      refine aOps_1 rfl rfl rfl (AOp.move' (.inr rfl) rfl ?_)
      refine aOps_end ?_
      first | refine thenA_n ?_ | simp only [thenA, blockA, if_true]
      exact NextR.mk (by omega) (by omega) (.cons (congrArg (fun b => some (Value.bool b)) (and_snoc (f := (fun r => rowI wrongR cols r == 0)) (by omega))) (.cons rfl .nil)) (.cons rfl (.cons rfl (.cons rfl (.cons rfl (.cons rfl .nil))))) subA trivial
    · try simp only [decide_eq_true_eq, decide_eq_false_iff_not, beq_iff_eq, beq_eq_false_iff_ne, ne_eq, bne_iff_ne, Bool.not_eq_true', Bool.not_eq_false', Int.not_lt, Int.not_le, gt_iff_lt, ge_iff_le, bne_eq_false_iff_eq, Bool.not_eq_eq_eq_not, Bool.not_true, Bool.not_false] at c1
      refine ACode.exit ?_
      show ACode _ _ _ _ _ _
      refine ACode.seq ?_
      refine ACode.seq ?_
      refine ACode.region' [0, 1, 2, 3, 4, 5, 6, 7, 8, 9, 10, 11, 12, 13, 14, 15, 16, 17, 18, 19, 20, 21, 22, 23] (by kernel_rfl) rfl ?_
      refine aOps_1 rfl rfl rfl (AOp.fieldAddr' rfl (by decide) rfl ?_)
      refine aOps_1 rfl rfl rfl ?_
      refine AOp.load1 (b := ?b8) (v := ?v8) rfl rfl ?hn8 ?hv8 ?hR8
      (case hn8 => exact hpA)
      (case hv8 => rfl)
      refine aOps_1 rfl rfl rfl (AOp.bin' rfl rfl rfl rfl ?_)
      refine aOps_1 rfl rfl rfl (AOp.move' (.inl rfl) rfl ?_)
      refine aOps_gd0 rfl rfl (wantT rfl rfl rfl) (fun hc => AOp.slots [(1, _)] (.cons rfl .nil) (AOp.move' (.inl rfl) rfl ⟨rfl, rfl, rfl⟩)) ?_
      refine aOps_gd0 rfl rfl (wantT rfl rfl rfl) (fun hc => AOp.slots [(3, _)] (.cons rfl .nil) (AOp.fieldAddr' rfl (by decide) rfl ⟨rfl, rfl, rfl⟩)) ?_
      refine aOps_gd0 rfl rfl (wantT rfl rfl rfl) (fun hc => AOp.slots [(67, _)] (.cons (gvT rfl hc) .nil) (AOp.loadN (b := cmblk c.kind (.slice xs c.sch.length xn) c.most (.slice xw xws.length xwn) xo xc (.slice xA xl xcc) (.slice xB xm xd) c.fr c.to) (cs := [.int .i64 xo, .int .i64 xc, .slice xA xl xcc, .slice xB xm xd]) rfl rfl hpA (by show 4 + 4 ≤ 10; decide) rfl ⟨rfl, rfl, rfl⟩)) ?_
      refine aOps_gd rfl rfl (wantT rfl rfl rfl) (fun hc => AOp.slots [(66, _), (68, _)] (.cons (gvT rfl hc) (.cons (gvT rfl hc) .nil)) (AOp.call' rfl rfl rfl (rCheck _ _ c.pred _ (x4.sub subA) cols B d (hC.sub subA).cells hcl) (fun _ _ _ h => h))) (fun kq hkq => ?_)
      refine aOps_gd0 rfl rfl (wantT rfl rfl rfl) (fun hc => AOp.slots [(69, _)] (.cons (gvT rfl hc) .nil) (AOp.bin' rfl rfl rfl rfl ⟨rfl, rfl, rfl⟩)) ?_
      refine aOps_1 rfl rfl rfl (AOp.pickAnd rfl rfl rfl (fun hb => gvE rfl hb) ?_)
      refine aOps_1 rfl rfl rfl (AOp.move' (.inl rfl) rfl ?_)
      refine aOps_gd0 rfl rfl (wantF rfl rfl rfl) (fun hc => AOp.slots [(8, _)] (.cons rfl .nil) (AOp.move' (.inl rfl) rfl ⟨rfl, rfl, rfl⟩)) ?_
      refine aOps_gd0 rfl rfl (wantF rfl rfl rfl) (fun hc => AOp.slots [(73, _)] (.cons (gvT rfl hc) .nil) (AOp.un' rfl rfl rfl ⟨rfl, rfl, rfl⟩)) ?_
      refine aOps_1 rfl rfl rfl (AOp.pickOr rfl rfl rfl (fun hb => gvE rfl (t_not hb)) ?_)
      refine aOps_1 rfl rfl rfl (AOp.move' (.inl rfl) rfl ?_)
      refine aOps_gd0 rfl rfl (wantF rfl rfl rfl) (fun hc => AOp.slots [(7, _)] (.cons rfl .nil) (AOp.fieldAddr' rfl (by decide) rfl ⟨rfl, rfl, rfl⟩)) ?_
      refine aOps_gd0 rfl rfl (wantF rfl rfl rfl) (fun hc => AOp.slots [(77, _)] (.cons (gvT rfl hc) .nil) ((by refine AOp.load1 (b := ?b9) (v := ?v9) rfl rfl ?hn9 ?hv9 ?hR9; (case hn9 => exact hpA); (case hv9 => rfl); exact ⟨rfl, rfl, rfl⟩))) ?_
      refine aOps_gd0 rfl rfl (wantF rfl rfl rfl) (fun hc => AOp.slots [(7, _)] (.cons rfl .nil) (AOp.fieldAddr' rfl (by decide) rfl ⟨rfl, rfl, rfl⟩)) ?_
      refine aOps_gd0 rfl rfl (wantF rfl rfl rfl) (fun hc => AOp.slots [(79, _)] (.cons (gvT rfl hc) .nil) ((by refine AOp.load1 (b := ?b10) (v := ?v10) rfl rfl ?hn10 ?hv10 ?hR10; (case hn10 => exact hpA); (case hv10 => rfl); exact ⟨rfl, rfl, rfl⟩))) ?_
      refine aOps_gd0 rfl rfl (wantF rfl rfl rfl) (fun hc => AOp.slots [(7, _)] (.cons rfl .nil) (AOp.fieldAddr' rfl (by decide) rfl ⟨rfl, rfl, rfl⟩)) ?_
      refine aOps_gd0 rfl rfl (wantF rfl rfl rfl) (fun hc => AOp.slots [(81, _)] (.cons (gvT rfl hc) .nil) ((by refine AOp.load1 (b := ?b11) (v := ?v11) rfl rfl ?hn11 ?hv11 ?hR11; (case hn11 => exact hpA); (case hv11 => rfl); exact ⟨rfl, rfl, rfl⟩))) ?_
      refine aOps_gd0 rfl rfl (wantF rfl rfl rfl) (fun hc => AOp.slots [(78, _), (80, _), (82, _)] (.cons (gvT rfl hc) (.cons (gvT rfl hc) (.cons (gvT rfl hc) .nil))) (AOp.max3 rfl rfl rfl rfl ⟨rfl, rfl, rfl⟩)) ?_
      refine aOps_gd0 rfl rfl (wantF rfl rfl rfl) (fun hc => AOp.slots [(83, _)] (.cons (gvT rfl hc) .nil) (AOp.bin' rfl rfl rfl rfl ⟨rfl, rfl, rfl⟩)) ?_
      refine aOps_1 rfl rfl rfl (AOp.pickOr rfl rfl rfl (fun hb => gvE rfl (t_not hb)) ?_)
      refine aOps_end ?_
      show ACode _ _ _ _ _ _
      refine ACode.cond rfl (fun c2 => ?_) (fun c2 => ?_)
      · skip
        refine ACode.seq ?_
        refine ACode.region' [0, 1] (by kernel_rfl) rfl ?_
        refine aOps_q rfl rfl rfl (AOp.call' rfl rfl rfl (awake25 _ _ hpA) (fun _ _ _ h => h)) (fun kq hkq => ?_)
        refine aOps_1 rfl rfl rfl (AOp.move' (.inr rfl) rfl ?_)
        refine aOps_end ?_
        show ACode _ _ _ _ _ _
        refine ACode.ret ?_
        try simp only [thenA, blockA, if_true]
        exact RetQ.one rfl rfl (sub_refl _) (fun m b h => ⟨b, (show Ab.Sub H _ from by exact subA) m b h⟩) (fun hk => rfl)
      · skip
        have hright : c.right cols := by
          have hi : i0 = (plainC c).rows.length := by omega
          subst hi
          rw [List.take_length] at c2
          simp only [Bool.or_eq_false_iff, decide_eq_false_iff_not] at c2
          obtain ⟨⟨r1, r2⟩, r3⟩ := c2
          exact right_of hco hla x4.fine r1 (by simpa only [Bool.not_eq_false'] using r2) (by omega)
        refine ACode.skip ?_
        show ACode _ _ _ _ _ _
        refine ACode.seq ?_
        refine ACode.region' [0, 1, 2, 3, 4, 5, 6] (by kernel_rfl) rfl ?_
        refine aOps_1 rfl rfl rfl ?_
        refine AOp.loadAll (b := ?b12) (v := cmv c.kind (.slice xs c.sch.length xn) c.most (.slice xw xws.length xwn) xo xc (.slice xA xl xcc) (.slice xB xm xd) c.fr c.to) rfl rfl ?hn12 ?hv12 ?hw12 ?hz12 ?hR12
        (case hn12 => exact hpA)
        (case hv12 => rfl)
        (case hw12 => rfl)
        (case hz12 => first | rfl | (simp; done))
        refine aOps_1 rfl rfl rfl ?_
        refine AOp.call' rfl rfl rfl (put_c _ _ c hco xs xn xw xwn xws xo xc xA xl xcc xB xm xd (x1.sub subA) (x2.sub subA) (x3.sub subA) (x4.sub subA) hla) ?_
        rintro _ HLe ke ⟨ve, rfl, hNe, hke, hfLe, hsLe⟩
        have thsLe := SubS.of hsLe
        obtain ⟨Ae, ce, rfl, hSe, hAe⟩ := hNe
        refine aOps_1 rfl rfl rfl (AOp.move' (.inl rfl) rfl ?_)
        refine aOps_1 rfl rfl rfl (AOp.extract' rfl rfl rfl ?_)
        refine aOps_1 rfl rfl rfl (AOp.extract' rfl rfl rfl ?_)
        refine aOps_1 rfl rfl rfl (AOp.move' (.inr rfl) rfl ?_)
        refine aOps_1 rfl rfl rfl (AOp.move' (.inr rfl) rfl ?_)
        refine aOps_end ?_
        show ACode _ _ _ _ _ _
        refine ACode.seq ?_
        refine ACode.seq ?_
        refine ACode.region' [0, 1] (by kernel_rfl) rfl ?_
        refine aOps_1 rfl rfl rfl (AOp.move' (.inl rfl) rfl ?_)
        refine aOps_1 rfl rfl rfl (AOp.bin' rfl rfl rfl rfl ?_)
        refine aOps_end ?_
        show ACode _ _ _ _ _ _
        refine ACode.cond rfl (fun c3 => ?_) (fun c3 => ?_)
        · skip
          refine ACode.seq ?_
          refine ACode.region' [0, 1] (by kernel_rfl) rfl ?_
          refine aOps_q rfl rfl rfl (AOp.call' rfl rfl rfl (awake25 _ _ hpA) (fun _ _ _ h => h)) (fun kq hkq => ?_)
          refine aOps_1 rfl rfl rfl (AOp.move' (.inr rfl) rfl ?_)
          refine aOps_end ?_
          show ACode _ _ _ _ _ _
          refine ACode.ret ?_
          try simp only [thenA, blockA, if_true]
          exact RetQ.one rfl rfl (sub_refl _) (fun m b h => ⟨b, (show Ab.Sub H _ from by exact subA) m b h⟩) (fun hk => rfl)
        · skip
          have hp0 : (putC c).2 = 0 := by simpa using c3
          have htk := takeC_put hright hp0
          have hpos := putC_pos hp0
          refine ACode.skip ?_
          show ACode _ _ _ _ _ _
          refine ACode.seq ?_
          refine ACode.region' [0, 1, 2, 3, 4, 5, 6, 7, 8, 9, 10] (by kernel_rfl) rfl ?_
          refine aOps_1 rfl rfl rfl (AOp.move' (.inl rfl) rfl ?_)
          refine aOps_1 rfl rfl rfl (AOp.move' (.inl rfl) rfl ?_)
          refine aOps_1 rfl rfl rfl ?_
          refine AOp.call' rfl rfl rfl (nlogTake _ _ hpA (putC c).1 Ae ce (hSe.sub subA) (by omega) cols B d (hC.sub subA) (by omega)) ?_
          rw [htk]
          rintro _ HLt kt ⟨ctv, rfl, htv, hkt, hfLt, hsLt⟩
          have thsLt := SubS.of hsLt
          have htv : CmV (cutH HLt _) (plainC c) ctv := htv
          have htv2 := htv
          obtain ⟨us, un, uw, uwn, uws, uo, uc, uA, ul, ucc, uB, um, ud, rfl, u1, u2, u3, u4⟩ := htv2
          refine aOps_1 rfl rfl rfl (AOp.move' (.inl rfl) rfl ?_)
          refine aOps_1 rfl rfl rfl (AOp.extract' rfl rfl rfl ?_)
          refine aOps_1 rfl rfl rfl (AOp.extract' rfl rfl rfl ?_)
          refine aOps_1 rfl rfl rfl (AOp.extract' rfl rfl rfl ?_)
          refine aOps_1 rfl rfl rfl (AOp.alloc' rfl ?_)
          refine aOps_0 rfl rfl rfl ?_
          refine AOp.storeAll (b := ?b13) rfl rfl rfl ?hn13 ?hk13 rfl ?hw13 ?ho13 ?hl13 ?hR13
          (case hn13 => exact hpA)
          (case hk13 => rfl)
          (case hw13 => first | rfl | (simp; done))
          (case ho13 => first | rfl | decide | (simp; done))
          (case hl13 => first | rfl | (simp; done))
          refine aOps_1 rfl rfl rfl (AOp.move' (.inr rfl) rfl ?_)
          refine aOps_1 rfl rfl rfl (AOp.move' (.inr rfl) rfl ?_)
          rw [rd_upd2]
          refine aOps_end ?_
          show ACode _ _ _ _ _ _
          refine ACode.seq ?_
          refine ACode.seq ?_
          refine ACode.region' [0, 1, 2, 3, 4, 5, 6, 7] (by kernel_rfl) rfl ?_
          refine aOps_1 rfl rfl rfl (AOp.move' (.inl rfl) rfl ?_)
          refine aOps_1 rfl rfl rfl (AOp.bin' rfl rfl rfl rfl ?_)
          refine aOps_1 rfl rfl rfl (AOp.move' (.inl rfl) rfl ?_)
          refine aOps_gd0 rfl rfl (wantF rfl rfl rfl) (fun hc => AOp.slots [(12, _)] (.cons rfl .nil) ((by refine AOp.loadAll (b := ?b14) (v := cmv (plainC c).kind (.slice us (plainC c).sch.length un) (plainC c).most (.slice uw uws.length uwn) uo uc (.slice uA ul ucc) (.slice uB um ud) (plainC c).fr (plainC c).to) rfl rfl ?hn14 ?hv14 ?hw14 ?hz14 ?hR14; (case hn14 => exact hpA); (case hv14 => rfl); (case hw14 => rfl); (case hz14 => first | rfl | (simp; done)); exact ⟨rfl, rfl, rfl⟩))) ?_
          refine aOps_gd0 rfl rfl (wantF rfl rfl rfl) (fun hc => AOp.slots [(7, _)] (.cons rfl .nil) ((by refine AOp.loadAll (b := ?b15) (v := cmv (plainC c).kind (.slice ps (plainC c).sch.length pn) (plainC c).most (.slice pw pws.length pwn) po pc (.slice pA pl pcc) (.slice pB pm pd) (plainC c).fr (plainC c).to) rfl rfl ?hn15 ?hv15 ?hw15 ?hz15 ?hR15; (case hn15 => exact hpA); (case hv15 => rfl); (case hw15 => rfl); (case hz15 => first | rfl | (simp; done)); exact ⟨rfl, rfl, rfl⟩))) ?_
          refine aOps_gd rfl rfl (wantF rfl rfl rfl) (fun hc => AOp.slots [(105, _), (106, _)] (.cons (gvT rfl hc) (.cons (gvT rfl hc) .nil)) (AOp.call' rfl rfl rfl (lsame _ _ (plainC c) (plainC c) hpo hpo _ _ (CmV.sub (sub_trans cutH_sub subA) htv) (CmV.sub (sub_trans cutH_sub subA) hPp.cm)) (fun _ _ _ h => h))) (fun kq hkq => ?_)
          refine aOps_gd0 rfl rfl (wantF rfl rfl rfl) (fun hc => AOp.slots [(107, _)] (.cons (gvT rfl hc) .nil) (AOp.un' rfl rfl rfl ⟨rfl, rfl, rfl⟩)) ?_
          refine aOps_1 rfl rfl rfl (AOp.pickOr rfl rfl rfl (fun hb => gvE rfl (t_not hb)) ?_)
          refine aOps_end ?_
          show ACode _ _ _ _ _ _
          refine ACode.cond rfl (fun c4 => absurd c4 (by rw [show eqB (plainC c) (plainC c) = true from eqB_t rfl]; simp)) (fun c4 => ?_)
          refine ACode.skip ?_
          show ACode _ _ _ _ _ _
          refine ACode.meet (γ := Unit) (fun g => []) [(1, _), (2, _), (3, _), (6, _), (7, _), (8, _), (9, _), (10, _), (11, _), (12, _), (13, _), (44, _), (45, _), (46, _), (47, _), (48, _), (62, _), (63, _), (64, _), (65, _), (66, _), (67, _), (68, _), (69, _), (70, _), (71, _), (72, _), (73, _), (74, _), (75, _), (76, _), (77, _), (78, _), (79, _), (80, _), (81, _), (82, _), (83, _), (84, _), (85, _), (87, _), (88, _), (89, _), (90, _), (91, _), (92, _), (93, _), (95, _), (96, _), (97, _), (98, _), (99, _), (100, _), (101, _), (102, _), (103, _), (104, _), (105, _), (106, _), (107, _), (108, _), (109, _)] (.cons rfl (.cons rfl (.cons rfl (.cons rfl (.cons rfl (.cons rfl (.cons rfl (.cons rfl (.cons rfl (.cons rfl (.cons rfl (.cons rfl (.cons rfl (.cons rfl (.cons rfl (.cons rfl (.cons rfl (.cons rfl (.cons rfl (.cons rfl (.cons rfl (.cons rfl (.cons rfl (.cons rfl (.cons rfl (.cons rfl (.cons rfl (.cons rfl (.cons rfl (.cons rfl (.cons rfl (.cons rfl (.cons rfl (.cons rfl (.cons rfl (.cons rfl (.cons rfl (.cons rfl (.cons rfl (.cons rfl (.cons rfl (.cons rfl (.cons rfl (.cons rfl (.cons rfl (.cons rfl (.cons rfl (.cons rfl (.cons rfl (.cons rfl (.cons rfl (.cons rfl (.cons rfl (.cons rfl (.cons rfl (.cons rfl (.cons rfl (.cons rfl (.cons rfl (.cons rfl (.cons rfl (.cons rfl .nil)))))))))))))))))))))))))))))))))))))))))))))))))))))))))))))) (fun g H' k' => Ab.Sub H H' ∧ H' k = some (cmblk c.kind (.slice xs c.sch.length xn) c.most (.slice xw xws.length xwn) xo xc (.slice xA xl xcc) (.slice xB xm xd) c.fr c.to) ∧ SLC H' 1 Ae (putC c).1.length ce ((putC c).1.map bv)) ?_ (fun g HLm km hfLm hXm => ?_)
          · show ACode _ _ _ _ _ _
            refine ACode.seq ?_
            refine ACode.region' [0, 1, 2, 3, 4, 5, 6, 7, 8, 9, 10, 11] (by kernel_rfl) rfl ?_
            refine aOps_1 rfl rfl rfl (AOp.fieldAddr' rfl (by decide) rfl ?_)
            refine aOps_1 rfl rfl rfl ?_
            refine AOp.load1 (b := ?b16) (v := ?v16) rfl rfl ?hn16 ?hv16 ?hR16
            (case hn16 => exact hpA)
            (case hv16 => rfl)
            refine aOps_1 rfl rfl rfl (AOp.len' rfl rfl ?_)
            refine aOps_1 rfl rfl rfl (AOp.bin' rfl rfl rfl rfl ?_)
            refine aOps_1 rfl rfl rfl (AOp.move' (.inl rfl) rfl ?_)
            refine aOps_gd0 rfl rfl (wantT rfl rfl rfl) (fun hc => AOp.slots [(7, _)] (.cons rfl .nil) (AOp.fieldAddr' rfl (by decide) rfl ⟨rfl, rfl, rfl⟩)) ?_
            refine aOps_gd0 rfl rfl (wantT rfl rfl rfl) (fun hc => AOp.slots [(115, _)] (.cons (gvT rfl hc) .nil) ((by refine AOp.load1 (b := ?b17) (v := ?v17) rfl rfl ?hn17 ?hv17 ?hR17; (case hn17 => exact hpA); (case hv17 => rfl); exact ⟨rfl, rfl, rfl⟩))) ?_
            refine aOps_gd0 rfl rfl (wantT rfl rfl rfl) (fun hc => AOp.slots [(116, _)] (.cons (gvT rfl hc) .nil) (AOp.indexP (aslcAt_sub subA (hrow (by simpa using hc)).1.1) rfl rfl rfl ⟨rfl, rfl, rfl⟩)) ?_
            refine aOps_gd0 rfl rfl (wantT rfl rfl rfl) (fun hc => AOp.slots [(117, _)] (.cons (gvT rfl hc) .nil) (AOp.loadP0 ((hrow (by simpa using hc)).1.2.sub subA) rfl rfl rfl ⟨rfl, rfl, rfl⟩)) ?_
            refine aOps_gd0 rfl rfl (wantT rfl rfl rfl) (fun hc => AOp.slots [(118, _)] (.cons (gvT rfl hc) .nil) (AOp.len' rfl rfl ⟨rfl, rfl, rfl⟩)) ?_
            refine aOps_gd0 rfl rfl (wantT rfl rfl rfl) (fun hc => AOp.slots [(119, _)] (.cons (gvT rfl hc) .nil) (AOp.bin' rfl rfl rfl rfl ⟨rfl, rfl, rfl⟩)) ?_
            refine aOps_1 rfl rfl rfl (AOp.pickAnd rfl rfl rfl (fun hb => gvE rfl hb) ?_)
            refine aOps_end ?_
            show ACode _ _ _ _ _ _
            refine ACode.cond rfl (fun c5 => ?_) (fun c5 => ?_)
            · skip
              simp only [Bool.and_eq_true, decide_eq_true_eq] at c5
              have hw1 : 0 < pws.length := by omega
              obtain ⟨⟨ha1, ha2⟩, hfr⟩ := hrow hw1
              obtain ⟨a0, r0, hr0⟩ : ∃ a0 r0, (plainC c).rows.getD 0 [] = a0 :: r0 := by
                cases h : (plainC c).rows.getD 0 [] with
                | nil => rw [h] at c5; simp at c5
                | cons a0 r0 => exact ⟨a0, r0, rfl⟩
              rw [hr0] at hfr ha2
              obtain ⟨q0, hq1, hq3, rfl, rfl⟩ : ∃ q0, k + 1 ≤ q0 ∧ HLp q0 = some (flblk (a0 :: r0)) ∧ A0 = some ⟨q0, 0, some 0⟩ ∧ d0 = (a0 :: r0).length := by
                rcases hfr with ⟨e1, _⟩ | ⟨q, sp, bb, e1, e2, _, e3, e4⟩
                · cases e1
                · rcases e4 with ⟨e5, _⟩ | ⟨_, rfl, rfl⟩
                  · cases e5
                  · injection e1 with e6 e7 e8
                    exact ⟨q, by omega, e3, e6, e8⟩
              have ha3 : aslcAt HLp 3 0 (.slice (some ⟨q0, 0, some 0⟩) (a0 :: r0).length (a0 :: r0).length) = some (.pointer (some ⟨q0, 0, none⟩)) := by simp [aslcAt]
              have hq0 : H q0 = none := hf q0 (by omega)
              have hq0p : q0 < kp := old_lt hfLp hq3
              refine ACode.draw' 14 [(0, 122), (1, 123), (2, 124), (3, 125), (4, 126), (5, 127), (6, 128), (7, 129), (8, 130), (9, 131), (10, 132), (11, 133), (12, 134), (13, 135)] mixed (by kernel_rfl) ?_
              refine Draw.step [(7, none)] rfl (by kernel_rfl) rfl (fun kq hkq => AOp.fieldAddr' rfl (by decide) rfl ⟨rfl, rfl, Nat.le_refl _⟩) ?_
              refine Draw.step [(122, some 0)] rfl (by kernel_rfl) rfl (fun kq hkq => (by refine AOp.load1 (b := ?b18) (v := ?v18) rfl rfl ?hn18 ?hv18 ?hR18; (case hn18 => exact hpA); (case hv18 => rfl); exact ⟨rfl, rfl, Nat.le_refl _⟩)) ?_
              refine Draw.step [(123, some 1)] rfl (by kernel_rfl) rfl (fun kq hkq => AOp.indexP (aslcAt_sub subA ha1) rfl rfl rfl ⟨rfl, rfl, Nat.le_refl _⟩) ?_
              refine Draw.step [(124, some 2)] rfl (by kernel_rfl) rfl (fun kq hkq => AOp.loadP0 (ha2.sub subA) rfl rfl rfl ⟨rfl, rfl, Nat.le_refl _⟩) ?_
              refine Draw.step [(7, none)] rfl (by kernel_rfl) rfl (fun kq hkq => AOp.fieldAddr' rfl (by decide) rfl ⟨rfl, rfl, Nat.le_refl _⟩) ?_
              refine Draw.step [(126, some 4)] rfl (by kernel_rfl) rfl (fun kq hkq => (by refine AOp.load1 (b := ?b19) (v := ?v19) rfl rfl ?hn19 ?hv19 ?hR19; (case hn19 => exact hpA); (case hv19 => rfl); exact ⟨rfl, rfl, Nat.le_refl _⟩)) ?_
              refine Draw.step [(127, some 5)] rfl (by kernel_rfl) rfl (fun kq hkq => AOp.indexP (aslcAt_sub subA ha1) rfl rfl rfl ⟨rfl, rfl, Nat.le_refl _⟩) ?_
              refine Draw.step [(128, some 6)] rfl (by kernel_rfl) rfl (fun kq hkq => AOp.loadP0 (ha2.sub subA) rfl rfl rfl ⟨rfl, rfl, Nat.le_refl _⟩) ?_
              refine Draw.step [(129, some 7)] rfl (by kernel_rfl) rfl (fun kq hkq => AOp.indexP (aslcAt_sub subA ha3) rfl rfl rfl ⟨rfl, rfl, Nat.le_refl _⟩) ?_
              refine Draw.step [(130, some 8)] rfl (by kernel_rfl) rfl (fun kq hkq => AOp.fieldAddr' rfl (by decide) rfl ⟨rfl, rfl, Nat.le_refl _⟩) ?_
              refine Draw.step [(131, some 9)] rfl (by kernel_rfl) rfl (fun kq hkq => AOp.load1 (b := flblk (a0 :: r0)) (v := .int .i64 a0.n) rfl rfl hpA rfl ⟨rfl, rfl, Nat.le_refl _⟩) ?_
              refine Draw.step [(132, some 10)] rfl (by kernel_rfl) rfl (fun kq hkq => AOp.bin' rfl rfl rfl rfl ⟨rfl, rfl, Nat.le_refl _⟩) ?_
              refine Draw.step [(125, some 3)] rfl (by kernel_rfl) rfl (fun kq hkq => AOp.indexP (aslcAt_sub subA ha3) rfl rfl rfl ⟨rfl, rfl, Nat.le_refl _⟩) ?_
              refine Draw.step [(134, some 12)] rfl (by kernel_rfl) rfl (fun kq hkq => AOp.fieldAddr' rfl (by decide) rfl ⟨rfl, rfl, Nat.le_refl _⟩) ?_
              refine Draw.done fun kq hkq => ?_
              show aOps _ _ _ _ [14] ⟨_, _, _⟩
              refine aOps_0 rfl rfl rfl ?_
              refine AOp.store1 (b := ?b20) rfl rfl rfl ?hn20 ?hk20 rfl rfl ?hl20 ?hR20
              (case hn20 => exact hpA)
              (case hk20 => rfl)
              (case hl20 => first | (simp; done) | exact Nat.le_of_ble_eq_true rfl)
              refine aOps_end ?_
              first | refine thenA_n ?_ | simp only [thenA, blockA, if_true]
              exact ⟨(), has_append .nil (.cons rfl (.cons rfl (.cons rfl (.cons rfl (.cons rfl (.cons rfl (.cons rfl (.cons rfl (.cons rfl (.cons rfl (.cons rfl (.cons rfl (.cons rfl (.cons rfl (.cons rfl (.cons rfl (.cons rfl (.cons rfl (.cons rfl (.cons rfl (.cons rfl (.cons rfl (.cons rfl (.cons rfl (.cons rfl (.cons rfl (.cons rfl (.cons rfl (.cons rfl (.cons rfl (.cons rfl (.cons rfl (.cons rfl (.cons rfl (.cons rfl (.cons rfl (.cons rfl (.cons rfl (.cons rfl (.cons rfl (.cons rfl (.cons rfl (.cons rfl (.cons rfl (.cons rfl (.cons rfl (.cons rfl (.cons rfl (.cons rfl (.cons rfl (.cons rfl (.cons rfl (.cons rfl (.cons rfl (.cons rfl (.cons rfl (.cons rfl (.cons rfl (.cons rfl (.cons rfl (.cons rfl (.cons rfl .nil)))))))))))))))))))))))))))))))))))))))))))))))))))))))))))))), (by (try dsimp only); exact ⟨subA, hpA, SLC.re (hSe.sub subA) (fun a ha => upd_other _ _ (by have := hAe a ha; omega))⟩)⟩
            · skip
              refine ACode.skip ?_
              first | refine thenA_n ?_ | simp only [thenA, blockA, if_true]
              exact ⟨(), has_append .nil (.cons rfl (.cons rfl (.cons rfl (.cons rfl (.cons rfl (.cons rfl (.cons rfl (.cons rfl (.cons rfl (.cons rfl (.cons rfl (.cons rfl (.cons rfl (.cons rfl (.cons rfl (.cons rfl (.cons rfl (.cons rfl (.cons rfl (.cons rfl (.cons rfl (.cons rfl (.cons rfl (.cons rfl (.cons rfl (.cons rfl (.cons rfl (.cons rfl (.cons rfl (.cons rfl (.cons rfl (.cons rfl (.cons rfl (.cons rfl (.cons rfl (.cons rfl (.cons rfl (.cons rfl (.cons rfl (.cons rfl (.cons rfl (.cons rfl (.cons rfl (.cons rfl (.cons rfl (.cons rfl (.cons rfl (.cons rfl (.cons rfl (.cons rfl (.cons rfl (.cons rfl (.cons rfl (.cons rfl (.cons rfl (.cons rfl (.cons rfl (.cons rfl (.cons rfl (.cons rfl (.cons rfl (.cons rfl .nil)))))))))))))))))))))))))))))))))))))))))))))))))))))))))))))), (by (try dsimp only); exact ⟨subA, hpA, hSe.sub subA⟩)⟩
          · show ACode _ _ _ _ _ ⟨_, _, _⟩
            obtain ⟨hsLm, hbm, hse⟩ := hXm
            have thsLm := SubS.of hsLm
            have hkm : k < km := old_lt hfLm hbm
            have h2m : HLm 1 = some hBlk := hsLm _ _ h2
            refine ACode.seq ?_
            obtain ⟨ys, tl, hyt, htl, hyx⟩ := part_of (x := x) hpos
            have hyl : ys.length ≤ (putC c).1.length := by rw [hyt, List.length_append]; omega
            have hgn : (takeC cols ys).2.1 ≠ 0 := takeC_cut htl (by rw [← hyt, htk])
            obtain ⟨A19_5, c19_5, hq19_5, hs19_5⟩ := SLC.cutP hse hyt
            refine ACode.region' [0, 1, 2, 3, 4, 5, 6, 7, 8, 9, 10, 11, 12, 13, 14, 15] (by kernel_rfl) rfl ?_
            refine aOps_1 rfl rfl rfl (AOp.move' (.inl rfl) rfl ?_)
            refine aOps_1 rfl rfl rfl (AOp.move' (.inl rfl) rfl ?_)
            refine aOps_1 rfl rfl rfl (AOp.move' (.inl rfl) rfl ?_)
            refine aOps_1 rfl rfl rfl (AOp.len' rfl rfl ?_)
            refine aOps_q rfl rfl rfl (AOp.call' rfl rfl rfl (pick_b _ _ x ((putC c).1.length : Int) (by omega) (by omega) hx1 hx2) (fun _ _ _ h => h)) (fun kq hkq => ?_)
            rw [hyx]
            refine aOps_1 rfl rfl rfl (AOp.cutQ (aslice_sub subA hq19_5) rfl rfl (bnd_no rfl) (bnd_at rfl rfl) mx_no ?_)
            refine aOps_1 rfl rfl rfl (AOp.move' (.inl rfl) rfl ?_)
            refine aOps_1 rfl rfl rfl ?_
            refine AOp.call' rfl rfl rfl (nlogTake _ _ hpA ys A19_5 c19_5 (hs19_5.sub subA) (by omega) cols B d (hC.sub subA) (by omega)) ?_
            rintro _ HLn kn ⟨cnv, rfl, hnv, hkn, hfLn, hsLn⟩
            have thsLn := SubS.of hsLn
            obtain ⟨zs, zn, zw, zwn, zws, zo, zc, zA, zl, zcc, zB, zm, zd, rfl, z1, z2, z3, z4⟩ := hnv
            refine aOps_1 rfl rfl rfl (AOp.move' (.inl rfl) rfl ?_)
            refine aOps_1 rfl rfl rfl (AOp.extract' rfl rfl rfl ?_)
            refine aOps_1 rfl rfl rfl (AOp.extract' rfl rfl rfl ?_)
            refine aOps_1 rfl rfl rfl (AOp.extract' rfl rfl rfl ?_)
            refine aOps_1 rfl rfl rfl (AOp.alloc' rfl ?_)
            refine aOps_0 rfl rfl rfl ?_
            refine AOp.storeAll (b := ?b21) rfl rfl rfl ?hn21 ?hk21 rfl ?hw21 ?ho21 ?hl21 ?hR21
            (case hn21 => exact hpA)
            (case hk21 => rfl)
            (case hw21 => first | rfl | (simp; done))
            (case ho21 => first | rfl | decide | (simp; done))
            (case hl21 => first | rfl | (simp; done))
            refine aOps_1 rfl rfl rfl (AOp.move' (.inr rfl) rfl ?_)
            refine aOps_1 rfl rfl rfl (AOp.move' (.inr rfl) rfl ?_)
            rw [rd_upd2]
            refine aOps_end ?_
            show ACode _ _ _ _ _ _
            refine ACode.seq ?_
            refine ACode.region' [0, 1, 2, 3, 4, 5, 6] (by kernel_rfl) rfl ?_
            refine aOps_1 rfl rfl rfl ?_
            refine AOp.loadAll (b := ?b22) (v := cmv c.kind (.slice xs c.sch.length xn) c.most (.slice xw xws.length xwn) xo xc (.slice xA xl xcc) (.slice xB xm xd) c.fr c.to) rfl rfl ?hn22 ?hv22 ?hw22 ?hz22 ?hR22
            (case hn22 => exact hpA)
            (case hv22 => rfl)
            (case hw22 => rfl)
            (case hz22 => first | rfl | (simp; done))
            refine aOps_1 rfl rfl rfl ?_
            refine AOp.call' rfl rfl rfl (put_c _ _ c hco xs xn xw xwn xws xo xc xA xl xcc xB xm xd (x1.sub subA) (x2.sub subA) (x3.sub subA) (x4.sub subA) hla) ?_
            rintro _ HLy ky ⟨vy, rfl, hNy, hky, hfLy, hsLy⟩
            have thsLy := SubS.of hsLy
            obtain ⟨Ay, cy, rfl, hSy, hAy⟩ := hNy
            refine aOps_1 rfl rfl rfl (AOp.move' (.inl rfl) rfl ?_)
            refine aOps_1 rfl rfl rfl (AOp.extract' rfl rfl rfl ?_)
            refine aOps_1 rfl rfl rfl (AOp.extract' rfl rfl rfl ?_)
            refine aOps_1 rfl rfl rfl (AOp.move' (.inr rfl) rfl ?_)
            refine aOps_1 rfl rfl rfl (AOp.move' (.inr rfl) rfl ?_)
            refine aOps_end ?_
            show ACode _ _ _ _ _ _
            refine ACode.seq ?_
            refine ACode.region' [0, 1, 2, 3, 4, 5, 6, 7, 8, 9, 10] (by kernel_rfl) rfl ?_
            refine aOps_1 rfl rfl rfl (AOp.move' (.inl rfl) rfl ?_)
            refine aOps_1 rfl rfl rfl (AOp.bin' rfl rfl rfl rfl ?_)
            refine aOps_1 rfl rfl rfl (AOp.move' (.inl rfl) rfl ?_)
            refine aOps_gd0 rfl rfl (wantT rfl rfl rfl) (fun hc => AOp.slots [(18, _)] (.cons rfl .nil) (AOp.move' (.inl rfl) rfl ⟨rfl, rfl, rfl⟩)) ?_
            refine aOps_gd0 rfl rfl (wantT rfl rfl rfl) (fun hc => AOp.slots [(10, _)] (.cons rfl .nil) (AOp.move' (.inl rfl) rfl ⟨rfl, rfl, rfl⟩)) ?_
            refine aOps_gd rfl rfl (wantT rfl rfl rfl) (fun hc => AOp.slots [(156, _), (157, _)] (.cons (gvT rfl hc) (.cons (gvT rfl hc) .nil)) (AOp.call' rfl rfl rfl (same_b 3 _ _ (putC c).1 (putC c).1 _ _ _ _ (hSy.sub subA) (hse.sub subA) (by omega)) (fun _ _ _ h => h))) (fun kq hkq => ?_)
            refine aOps_1 rfl rfl rfl (AOp.pickAnd rfl rfl rfl (fun hb => gvE rfl hb) ?_)
            refine aOps_1 rfl rfl rfl (AOp.move' (.inl rfl) rfl ?_)
            refine aOps_gd rfl rfl (wantT rfl rfl rfl) (fun hc => AOp.slots [] .nil (AOp.call' rfl rfl rfl (awake25 _ _ hpA) (fun _ _ _ h => h))) (fun kq hkq => ?_)
            refine aOps_1 rfl rfl rfl (AOp.pickAnd rfl rfl rfl (fun hb => gvE rfl hb) ?_)
            refine aOps_1 rfl rfl rfl (AOp.move' (.inr rfl) rfl ?_)
            refine aOps_end ?_
            show ACode _ _ _ _ _ _
            refine ACode.ret ?_
            try simp only [thenA, blockA, if_true]
            exact RetQ.one rfl rfl (sub_refl _) (fun m b h => ⟨b, (show Ab.Sub H _ from by exact subA) m b h⟩) (fun hk => by simp [hgn])
end

end Go.Proofs.YteoofihjmldllaaDoor
