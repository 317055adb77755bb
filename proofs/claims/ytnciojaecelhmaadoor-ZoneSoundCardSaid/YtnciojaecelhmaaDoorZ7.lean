/- Contracts over the abstract states: the zone of values; whether a zone is sound; the example of zones. -/
import Derived.Test.YtnciojaecelhmaaDoorZH
set_option linter.unusedVariables false
set_option linter.unusedSimpArgs false
set_option maxRecDepth 100000
namespace Go.Proofs.YtnciojaecelhmaaDoor
open Go Go.Ab

theorem zfirst_T {z : Zn} {v : Val} (h : z.some = false) : zfirst z v = ⟨z.nulls, true, v, v⟩ := if_neg (by rw [h]; decide)
theorem zfirst_F {z : Zn} {v : Val} (h : z.some = true) : zfirst z v = z := if_pos h
theorem zlow_T {z : Zn} {v : Val} (h : cmpV v z.min < 0) : zlow z v = { z with min := v } := if_pos h
theorem zlow_F {z : Zn} {v : Val} (h : 0 ≤ cmpV v z.min) : zlow z v = z := if_neg (by omega)
theorem zhigh_T {z : Zn} {v : Val} (h : 0 < cmpV v z.max) : zhigh z v = { z with max := v } := if_pos h
theorem zhigh_F {z : Zn} {v : Val} (h : cmpV v z.max ≤ 0) : zhigh z v = z := if_neg (by omega)
theorem zone_nulls (l : List Val) (i : Nat) (h : i ≤ l.length) : 0 ≤ (zoneOf (l.take i)).nulls ∧ (zoneOf (l.take i)).nulls ≤ i := by
  have h1 := (zoneOf_is (l.take i)).nulls
  have h2 := nulls_le (l.take i)
  rw [List.length_take] at h2
  omega
def rightP (kind : Int) (v : Val) : Bool := v.kind == kind && errV kind v == 0
def znEq (z : Zn) : Bool := !z.some && (valEq z.min vD && valEq z.max vD)
def Zn.ok (z : Zn) : Prop := (Lit.int .i64 z.nulls).wf = true ∧ z.min.ok ∧ z.max.ok
abbrev dsZ : List TypeDesc := [.int .i64, .bool, .int .i64, .int .i64, .string, .int .i64, .int .i64, .string]
theorem vD_ok : vD.ok := ⟨by decide, by decide, by decide⟩
theorem zn_sc {z : Zn} (h : z.ok) : (scals dsZ (zv z).cells.toList).isSome = true := by
  obtain ⟨h0, ⟨h1, h2, h3⟩, ⟨h4, h5, h6⟩⟩ := h
  have h3 : z.min.s.size ≤ maxLen := Nat.le_trans h3 (by decide)
  have h6 : z.max.s.size ≤ maxLen := Nat.le_trans h6 (by decide)
  show (scals dsZ (znc z)).isSome = true
  simp [scals, scal, h0, h1, h2, h3, h4, h5, h6]
theorem zn_iff (z : Zn) : znEq z = true ↔ (zv z).cells = (zv ⟨z.nulls, false, vD, vD⟩).cells := by
  have h1 := valEq_iff z.min vD
  have h2 := valEq_iff z.max vD
  show znEq z = true ↔ (#[Value.int .i64 z.nulls, .bool z.some, .int .i64 z.min.kind, .int .i64 z.min.n, .string z.min.s, .int .i64 z.max.kind, .int .i64 z.max.n, .string z.max.s] : Array Value) = #[.int .i64 z.nulls, .bool false, .int .i64 vD.kind, .int .i64 vD.n, .string vD.s, .int .i64 vD.kind, .int .i64 vD.n, .string vD.s]
  unfold znEq
  rw [Bool.and_eq_true, Bool.and_eq_true, h1, h2]
  simp [and_assoc]
def soundP (z : Zn) (rows kind : Int) : Bool :=
  if ((decide (z.nulls < 0) || decide (z.nulls > rows)) || !(z.some == decide (z.nulls < rows))) = true then false else if z.some = true then
    ((((kind == 1 || kind == 2) && rightP kind z.min) && rightP kind z.max) && decide (cmpV z.min z.max ≤ 0)) else znEq z
abbrev kblk1 (kind : Int) : Blk := { cells := [.int .i64 kind], elem := 3, kind := .fix }
abbrev sblk1 (q : Nat) : Blk := { cells := [.slice (some ⟨q, 0, some 1⟩) 1 1], elem := 22, kind := .fix }
abbrev cblk1 (kind : Int) : Blk := { cells := cols3 [⟨kind, false, 0⟩], elem := 49, kind := .grow, esz := 3 }
abbrev pLt (n : Int) : Pd := .mk 3 0 [⟨1, n, ⟨#[]⟩⟩] []
abbrev vN (n : Int) : Val := ⟨1, n, ⟨#[]⟩⟩
abbrev zA : Zn := zoneOf [vN 7, vN 5, vN 9]
theorem awkZ1 : (!(mayR 3 [zA] (pLt 5)).t) = true := by decide +kernel
theorem awkZ2 : (!(mayR 3 [zA] (pLt 6)).t) = false := by decide +kernel
theorem awkZ3 : soundP zA 3 1 = true := by decide +kernel
/-- A new predicate with a slice of its own. -/
def NewPd (H : Hp) (k : Nat) (n : Int) (v : Value) (H' : Hp) (k' : Nat) : Prop := ∃ q, k ≤ q ∧ q < k' ∧ v = pv 3 0 (some ⟨q, 0, some 1⟩) 1 1 none 0 0 ∧ H' = upd H q (some { cells := vals3 [vN n], elem := 43, kind := .grow, esz := 3 })
section
variable (H : Hp) (k : Nat)

theorem Of_b (vals : List Val) (A : Option Addr) (c : Nat) (hA : slcCells H 3 (.slice A vals.length c) = some (vals3 vals)) (hl : vals.length ≤ 9223372036854775807) : ACalls Tryd.prog 3 22 [.slice A vals.length c] H k (Same H k (zv (zoneOf vals))) := by
  refine ACalls.fresh fun hf => ?_
  refine ACalls.body Tryd.func22 rfl (Nat.le_of_ble_eq_true rfl) ?_
  refine ACode.seq ?_
  refine ACode.region' [0] (by kernel_rfl) rfl ?_
  refine aOps_1 rfl rfl rfl (AOp.alloc' rfl ?_)
  refine aOps_end ?_
  show ACode _ _ _ _ _ _
  refine ACode.seq ?_
  refine ACode.seq ?_
  refine ACode.region' [0, 1, 2] (by kernel_rfl) rfl ?_
  refine aOps_1 rfl rfl rfl (AOp.move' (.inl rfl) rfl ?_)
  refine aOps_1 rfl rfl rfl (AOp.len' rfl rfl ?_)
  refine aOps_1 rfl rfl rfl (AOp.move' (.inl rfl) rfl ?_)
  refine aOps_end ?_
  show ACode _ _ _ _ _ _
  refine ACode.block ?_
  refine ACode.count (fun i => [(7, .int .i64 (i : Int))]) [(2, _), (5, _), (6, _)] (fun i => upd H k (some (zblk (zoneOf (vals.take i))))) (vals.length) (fun _ => True) (.cons rfl .nil) (.cons rfl (.cons rfl (.cons rfl .nil))) (by (repeat (first | exact sub_refl _ | assumption | refine sub_upd' ?_ (by ((repeat refine (upd_other _ _ (by omega)).trans ?_); first | exact hf _ (by omega))) | refine sub_over (by assumption) | refine sub_over0 ?_ | refine sub_trans (sub_same (by assumption)) ?_ | refine sub_dropu ?_ | refine sub_drop ?_ | refine sub_put ?_ (by repeat (first | assumption | exact upd_same _ _ _ | refine (upd_other _ _ (by omega)).trans ?_))))) trivial (fun i0 kL0 HL0 hiL0 hkL0 hsL0 hfL0 hxL0 => ?_)
  show ACode _ _ _ _ _ ⟨_, _, _⟩
  refine ACode.seq ?_
  refine ACode.region' [0] (by kernel_rfl) rfl ?_
  refine aOps_1 rfl rfl rfl (AOp.bin' rfl rfl rfl rfl ?_)
  refine aOps_end ?_
  show ACode _ _ _ _ _ _
  refine ACode.seq ?_
  refine ACode.cond rfl (fun c0 => ?_) (fun c0 => ?_)
  · try simp only [decide_eq_true_eq, decide_eq_false_iff_not, beq_iff_eq, beq_eq_false_iff_ne, ne_eq, bne_iff_ne, Bool.not_eq_true', Bool.not_eq_false', Int.not_lt, Int.not_le, gt_iff_lt, ge_iff_le, bne_eq_false_iff_eq, Bool.not_eq_eq_eq_not, Bool.not_true, Bool.not_false] at c0
    refine ACode.skip ?_
    show ACode _ _ _ _ _ _
    refine ACode.seq ?_
    refine ACode.block ?_
    refine ACode.seq ?_
    have hk0 : HL0 k = some (zblk (zoneOf (vals.take i0))) := hsL0 _ _ (upd_same _ _ _)
    have hzn := zone_nulls vals i0 (by omega)
    have hkk : k < kL0 + 1 := by omega
    obtain ⟨n3_0, o3_0, s3_0, hq3_0, hp3_0⟩ := slcV hA (show i0 < vals.length by omega)
    refine ACode.region' [0, 1, 2, 3] (by kernel_rfl) rfl ?_
    refine aOps_1 rfl rfl rfl (AOp.indexP (aslcAt_sub (by (repeat (first | exact sub_refl _ | assumption | refine sub_upd' ?_ (by ((repeat refine (upd_other _ _ (by omega)).trans ?_); first | exact hf _ (by omega) | exact hfL0 _ (by omega))) | refine sub_trans ?_ hsL0 | refine sub_over (by assumption) | refine sub_over0 ?_ | refine sub_trans (sub_same (by assumption)) ?_ | refine sub_dropu ?_ | refine sub_drop ?_ | refine sub_put ?_ (by repeat (first | assumption | exact upd_same _ _ _ | refine (upd_other _ _ (by omega)).trans ?_ | refine hsL0 _ _ ?_))))) hq3_0) rfl rfl rfl ?_)
    refine aOps_1 rfl rfl rfl (AOp.loadPA (v := vv (vals.getD i0 vD)) (hp3_0.sub (by (repeat (first | exact sub_refl _ | assumption | refine sub_upd' ?_ (by ((repeat refine (upd_other _ _ (by omega)).trans ?_); first | exact hf _ (by omega) | exact hfL0 _ (by omega))) | refine sub_trans ?_ hsL0 | refine sub_over (by assumption) | refine sub_over0 ?_ | refine sub_trans (sub_same (by assumption)) ?_ | refine sub_dropu ?_ | refine sub_drop ?_ | refine sub_put ?_ (by repeat (first | assumption | exact upd_same _ _ _ | refine (upd_other _ _ (by omega)).trans ?_ | refine hsL0 _ _ ?_)))))) rfl rfl rfl rfl (by first | rfl | (simp; done)) (by decide) ?_)
    refine aOps_1 rfl rfl rfl (AOp.alloc' rfl ?_)
    refine aOps_0 rfl rfl rfl ?_
    refine AOp.storeAll (b := ?b1) rfl rfl rfl ?hn1 ?hk1 rfl ?hw1 ?ho1 ?hl1 ?hR1
    (case hn1 => repeat (first | assumption | exact upd_same _ _ _ | refine (upd_other _ _ (by omega)).trans ?_ | refine hsL0 _ _ ?_))
    (case hk1 => rfl)
    (case hw1 => first | rfl | (simp; done))
    (case ho1 => first | rfl | decide | (simp; done))
    (case hl1 => first | rfl | (simp; done))
    refine aOps_end ?_
    show ACode _ _ _ _ _ _
    refine ACode.seq ?_
    refine ACode.block ?_
    refine ACode.seq ?_
    refine ACode.region' [0, 1, 2, 3] (by kernel_rfl) rfl ?_
    refine aOps_1 rfl rfl rfl (AOp.fieldAddr' rfl (by decide) rfl ?_)
    refine aOps_1 rfl rfl rfl ?_
    refine AOp.load1 (b := ?b2) (v := ?v2) rfl rfl ?hn2 ?hv2 ?hR2
    (case hn2 => repeat (first | assumption | exact upd_same _ _ _ | refine (upd_other _ _ (by omega)).trans ?_ | refine hsL0 _ _ ?_))
    (case hv2 => rfl)
    refine aOps_1 rfl rfl rfl (AOp.bin' rfl rfl rfl rfl ?_)
    refine aOps_1 rfl rfl rfl (AOp.move' (.inr rfl) rfl ?_)
    refine aOps_end ?_
    show ACode _ _ _ _ _ _
    refine ACode.cond rfl (fun c1 => ?_) (fun c1 => ?_)
    · try simp only [decide_eq_true_eq, decide_eq_false_iff_not, beq_iff_eq, beq_eq_false_iff_ne, ne_eq, bne_iff_ne, Bool.not_eq_true', Bool.not_eq_false', Int.not_lt, Int.not_le, gt_iff_lt, ge_iff_le, bne_eq_false_iff_eq, Bool.not_eq_eq_eq_not, Bool.not_true, Bool.not_false] at c1
      refine ACode.seq ?_
      refine ACode.region' [0, 1, 2, 3, 4] (by kernel_rfl) rfl ?_
      refine aOps_1 rfl rfl rfl (AOp.fieldAddr' rfl (by decide) rfl ?_)
      refine aOps_1 rfl rfl rfl ?_
      refine AOp.load1 (b := ?b3) (v := ?v3) rfl rfl ?hn3 ?hv3 ?hR3
      (case hn3 => repeat (first | assumption | exact upd_same _ _ _ | refine (upd_other _ _ (by omega)).trans ?_ | refine hsL0 _ _ ?_))
      (case hv3 => rfl)
      refine aOps_1 rfl rfl rfl (AOp.add rfl rfl rfl (i64_wrap (by omega) (by omega)) ?_)
      refine aOps_1 rfl rfl rfl (AOp.fieldAddr' rfl (by decide) rfl ?_)
      refine aOps_0 rfl rfl rfl ?_
      refine AOp.store1 (b := ?b4) rfl rfl rfl ?hn4 ?hk4 rfl rfl ?hl4 ?hR4
      (case hn4 => repeat (first | assumption | exact upd_same _ _ _ | refine (upd_other _ _ (by omega)).trans ?_ | refine hsL0 _ _ ?_))
      (case hk4 => rfl)
      (case hl4 => first | (simp; done) | exact Nat.le_of_ble_eq_true rfl)
      refine aOps_end ?_
      show ACode _ _ _ _ _ _
      refine ACode.exit ?_
      show ACode _ _ _ _ _ _
      refine ACode.region' [0, 1] (by kernel_rfl) rfl ?_
      refine aOps_1 rfl rfl rfl (AOp.add rfl rfl rfl (i64_wrap (by omega) (by omega)) ?_)
      refine aOps_1 rfl rfl rfl (AOp.move' (.inl rfl) rfl ?_)
      refine aOps_end ?_
      have htk : vals.take (i0 + 1) = vals.take i0 ++ [(vals.getD i0 vD)] := by rw [List.take_succ_eq_append_getElem (by omega), getD_i (by omega)]
      have hzz : zoneOf (vals.take (i0 + 1)) = { (zoneOf (vals.take i0)) with nulls := (zoneOf (vals.take i0)).nulls + 1 } := by rw [htk, zoneOf_snoc, zstep, if_pos c1]
      first | refine thenA_n ?_ | simp only [thenA, blockA, if_true]
      exact NextR.mk (by omega) (by omega) (.cons rfl .nil) (.cons rfl (.cons rfl (.cons rfl .nil))) (by show Ab.Sub (upd _ _ (some (zblk (zoneOf (vals.take (i0 + 1)))))) _; rw [hzz]; (repeat (first | exact sub_refl _ | assumption | refine sub_upd' ?_ (by ((repeat refine (upd_other _ _ (by omega)).trans ?_); first | exact hf _ (by omega) | exact hfL0 _ (by omega))) | refine sub_trans ?_ hsL0 | refine sub_over (by assumption) | refine sub_over0 ?_ | refine sub_trans (sub_same (by assumption)) ?_ | refine sub_dropu ?_ | refine sub_drop ?_ | refine sub_put ?_ (by repeat (first | assumption | exact upd_same _ _ _ | refine (upd_other _ _ (by omega)).trans ?_ | refine hsL0 _ _ ?_))))) trivial
    · try simp only [decide_eq_true_eq, decide_eq_false_iff_not, beq_iff_eq, beq_eq_false_iff_ne, ne_eq, bne_iff_ne, Bool.not_eq_true', Bool.not_eq_false', Int.not_lt, Int.not_le, gt_iff_lt, ge_iff_le, bne_eq_false_iff_eq, Bool.not_eq_eq_eq_not, Bool.not_true, Bool.not_false] at c1
      refine ACode.seq ?_
      refine ACode.region' [0, 1, 2, 3] (by kernel_rfl) rfl ?_
      refine aOps_1 rfl rfl rfl (AOp.fieldAddr' rfl (by decide) rfl ?_)
      refine aOps_1 rfl rfl rfl ?_
      refine AOp.load1 (b := ?b5) (v := ?v5) rfl rfl ?hn5 ?hv5 ?hR5
      (case hn5 => repeat (first | assumption | exact upd_same _ _ _ | refine (upd_other _ _ (by omega)).trans ?_ | refine hsL0 _ _ ?_))
      (case hv5 => rfl)
      refine aOps_1 rfl rfl rfl (AOp.un' rfl rfl rfl ?_)
      refine aOps_1 rfl rfl rfl (AOp.move' (.inr rfl) rfl ?_)
      refine aOps_end ?_
      show ACode _ _ _ _ _ _
      refine ACode.cond rfl (fun c2 => ?_) (fun c2 => ?_)
      · try simp only [decide_eq_true_eq, decide_eq_false_iff_not, beq_iff_eq, beq_eq_false_iff_ne, ne_eq, bne_iff_ne, Bool.not_eq_true', Bool.not_eq_false', Int.not_lt, Int.not_le, gt_iff_lt, ge_iff_le, bne_eq_false_iff_eq, Bool.not_eq_eq_eq_not, Bool.not_true, Bool.not_false] at c2
        refine ACode.drawM 8 [(0, 23), (1, 24), (2, 25), (4, 26), (6, 27)] [k] [8] [([], []), ([], []), ([], []), ([8], []), ([], []), ([8], []), ([], []), ([8], [])] (upd (fun _ => none) 8 (some (zblk (zoneOf (vals.take i0))))) (upd _ k none) mixed (by kernel_rfl) (by kernel_rfl) (by simp) (fun b hb => by rw [List.mem_singleton.1 hb]; exact hkk) (fun c hc => by rw [List.mem_singleton.1 hc]; exact at_bs (by repeat (first | assumption | exact upd_same _ _ _ | refine (upd_other _ _ (by omega)).trans ?_ | refine hsL0 _ _ ?_))) old_only1 ?_
        refine DrawM.q 0 [(4, none)] rfl rfl (by kernel_rfl) rfl rfl (fun Hc kq hkq hF hSb hfr => (by refine AOp.loadAll (b := ?b6) (v := vv (vals.getD i0 vD)) rfl rfl ?hn6 ?hv6 ?hw6 ?hz6 ?hR6; (case hn6 => repeat (first | assumption | exact upd_same _ _ _ | refine (upd_other _ _ (by omega)).trans ?_ | refine hSb _ _ ?_ | refine hsL0 _ _ ?_)); (case hv6 => rfl); (case hw6 => rfl); (case hz6 => first | rfl | (simp; done)); exact ⟨rfl, rfl, Nat.le_refl _⟩)) ?_
        refine DrawM.q 1 [(4, none)] rfl rfl (by kernel_rfl) rfl rfl (fun Hc kq hkq hF hSb hfr => (by refine AOp.loadAll (b := ?b7) (v := vv (vals.getD i0 vD)) rfl rfl ?hn7 ?hv7 ?hw7 ?hz7 ?hR7; (case hn7 => repeat (first | assumption | exact upd_same _ _ _ | refine (upd_other _ _ (by omega)).trans ?_ | refine hSb _ _ ?_ | refine hsL0 _ _ ?_)); (case hv7 => rfl); (case hw7 => rfl); (case hz7 => first | rfl | (simp; done)); exact ⟨rfl, rfl, Nat.le_refl _⟩)) ?_
        refine DrawM.q 2 [(2, none)] rfl rfl (by kernel_rfl) rfl rfl (fun Hc kq hkq hF hSb hfr => AOp.fieldAddr' rfl (by decide) rfl ⟨rfl, rfl, Nat.le_refl _⟩) ?_
        refine DrawM.wr 3 8 _ [(25, some 2)] rfl rfl (by kernel_rfl) rfl rfl (fun Hc kq hkq hF hSb hfr => (by refine AOp.store1 (b := ?b8) rfl rfl rfl ?hn8 ?hk8 rfl rfl ?hl8 ?hR8; (case hn8 => repeat (first | assumption | exact upd_same _ _ _ | refine (upd_other _ _ (by omega)).trans ?_ | exact hF 8 (by decide) | refine hSb _ _ ?_ | refine hsL0 _ _ ?_)); (case hk8 => rfl); (case hl8 => first | (simp; done) | exact Nat.le_of_ble_eq_true rfl); exact ⟨rfl, rfl, Nat.le_refl _⟩)) ?_
        refine DrawM.q 4 [(2, none)] rfl rfl (by kernel_rfl) rfl rfl (fun Hc kq hkq hF hSb hfr => AOp.fieldAddr' rfl (by decide) rfl ⟨rfl, rfl, Nat.le_refl _⟩) ?_
        refine DrawM.wr 5 8 _ [(26, some 4), (23, some 0)] rfl rfl (by kernel_rfl) rfl rfl (fun Hc kq hkq hF hSb hfr => AOp.storeN (z := 3) (cs := (vv (vals.getD i0 vD)).cells) (b := zblk (⟨(zoneOf (vals.take i0)).nulls, true, (zoneOf (vals.take i0)).min, (zoneOf (vals.take i0)).max⟩ : Zn)) rfl rfl rfl (by repeat (first | assumption | exact upd_same _ _ _ | refine (upd_other _ _ (by omega)).trans ?_ | exact hF 8 (by decide) | refine hSb _ _ ?_ | refine hsL0 _ _ ?_)) rfl rfl (vv_one _) (by show 2 + 3 ≤ 8; decide) ⟨rfl, rfl, Nat.le_refl _⟩) ?_
        refine DrawM.q 6 [(2, none)] rfl rfl (by kernel_rfl) rfl rfl (fun Hc kq hkq hF hSb hfr => AOp.fieldAddr' rfl (by decide) rfl ⟨rfl, rfl, Nat.le_refl _⟩) ?_
        refine DrawM.wr 7 8 _ [(27, some 6), (24, some 1)] rfl rfl (by kernel_rfl) rfl rfl (fun Hc kq hkq hF hSb hfr => AOp.storeN (z := 3) (cs := (vv (vals.getD i0 vD)).cells) (b := zblk (⟨(zoneOf (vals.take i0)).nulls, true, (vals.getD i0 vD), (zoneOf (vals.take i0)).max⟩ : Zn)) rfl rfl rfl (by repeat (first | assumption | exact upd_same _ _ _ | refine (upd_other _ _ (by omega)).trans ?_ | exact hF 8 (by decide) | refine hSb _ _ ?_ | refine hsL0 _ _ ?_)) rfl rfl (vv_one _) (by show 5 + 3 ≤ 8; decide) ⟨rfl, rfl, Nat.le_refl _⟩) ?_
        refine DrawM.done fun kq hkq => ?_
        show aOps _ _ _ _ [] ⟨_, (upd _ k _), _⟩
        refine aOps_end ?_
        show ACode _ _ _ _ _ _
        refine ACode.seq ?_
        refine ACode.seq ?_
        refine ACode.region' [0, 1, 2, 3, 4] (by kernel_rfl) rfl ?_
        refine aOps_1 rfl rfl rfl ?_
        refine AOp.loadAll (b := ?b9) (v := vv (vals.getD i0 vD)) rfl rfl ?hn9 ?hv9 ?hw9 ?hz9 ?hR9
        (case hn9 => repeat (first | assumption | exact upd_same _ _ _ | refine (upd_other _ _ (by omega)).trans ?_ | refine hsL0 _ _ ?_))
        (case hv9 => rfl)
        (case hw9 => rfl)
        (case hz9 => first | rfl | (simp; done))
        refine aOps_1 rfl rfl rfl (AOp.fieldAddr' rfl (by decide) rfl ?_)
        refine aOps_1 rfl rfl rfl (AOp.loadN (b := zblk (⟨(zoneOf (vals.take i0)).nulls, true, (vals.getD i0 vD), (vals.getD i0 vD)⟩ : Zn)) (cs := [.int .i64 (⟨(zoneOf (vals.take i0)).nulls, true, (vals.getD i0 vD), (vals.getD i0 vD)⟩ : Zn).min.kind, .int .i64 (⟨(zoneOf (vals.take i0)).nulls, true, (vals.getD i0 vD), (vals.getD i0 vD)⟩ : Zn).min.n, .string (⟨(zoneOf (vals.take i0)).nulls, true, (vals.getD i0 vD), (vals.getD i0 vD)⟩ : Zn).min.s]) rfl rfl (by repeat (first | assumption | exact upd_same _ _ _ | refine (upd_other _ _ (by omega)).trans ?_ | refine hsL0 _ _ ?_)) (by show 2 + 3 ≤ 8; decide) rfl ?_)
        refine aOps_q rfl rfl rfl (AOp.call' rfl rfl rfl (cmp_val 3 _ _ (vals.getD i0 vD) (⟨(zoneOf (vals.take i0)).nulls, true, (vals.getD i0 vD), (vals.getD i0 vD)⟩ : Zn).min) (fun _ _ _ h => h)) (fun kq hkq => ?_)
        refine aOps_1 rfl rfl rfl (AOp.bin' rfl rfl rfl rfl ?_)
        refine aOps_end ?_
        show ACode _ _ _ _ _ _
        refine ACode.cond rfl (fun c3 => absurd c3 (by show ¬ decide (cmpV (vals.getD i0 vD) (vals.getD i0 vD) < 0) = true; rw [cmpV_self]; decide)) (fun c3 => ?_)
        refine ACode.skip ?_
        show ACode _ _ _ _ _ _
        refine ACode.seq ?_
        refine ACode.region' [0, 1, 2, 3, 4] (by kernel_rfl) rfl ?_
        refine aOps_1 rfl rfl rfl ?_
        refine AOp.loadAll (b := ?b10) (v := vv (vals.getD i0 vD)) rfl rfl ?hn10 ?hv10 ?hw10 ?hz10 ?hR10
        (case hn10 => repeat (first | assumption | exact upd_same _ _ _ | refine (upd_other _ _ (by omega)).trans ?_ | refine hsL0 _ _ ?_))
        (case hv10 => rfl)
        (case hw10 => rfl)
        (case hz10 => first | rfl | (simp; done))
        refine aOps_1 rfl rfl rfl (AOp.fieldAddr' rfl (by decide) rfl ?_)
        refine aOps_1 rfl rfl rfl (AOp.loadN (b := zblk (⟨(zoneOf (vals.take i0)).nulls, true, (vals.getD i0 vD), (vals.getD i0 vD)⟩ : Zn)) (cs := [.int .i64 (⟨(zoneOf (vals.take i0)).nulls, true, (vals.getD i0 vD), (vals.getD i0 vD)⟩ : Zn).max.kind, .int .i64 (⟨(zoneOf (vals.take i0)).nulls, true, (vals.getD i0 vD), (vals.getD i0 vD)⟩ : Zn).max.n, .string (⟨(zoneOf (vals.take i0)).nulls, true, (vals.getD i0 vD), (vals.getD i0 vD)⟩ : Zn).max.s]) rfl rfl (by repeat (first | assumption | exact upd_same _ _ _ | refine (upd_other _ _ (by omega)).trans ?_ | refine hsL0 _ _ ?_)) (by show 5 + 3 ≤ 8; decide) rfl ?_)
        refine aOps_q rfl rfl rfl (AOp.call' rfl rfl rfl (cmp_val 3 _ _ (vals.getD i0 vD) (⟨(zoneOf (vals.take i0)).nulls, true, (vals.getD i0 vD), (vals.getD i0 vD)⟩ : Zn).max) (fun _ _ _ h => h)) (fun kq hkq => ?_)
        refine aOps_1 rfl rfl rfl (AOp.bin' rfl rfl rfl rfl ?_)
        refine aOps_end ?_
        show ACode _ _ _ _ _ _
        refine ACode.cond rfl (fun c4 => absurd c4 (by show ¬ decide (cmpV (vals.getD i0 vD) (vals.getD i0 vD) > 0) = true; rw [cmpV_self]; decide)) (fun c4 => ?_)
        refine ACode.skip ?_
        show ACode _ _ _ _ _ _
        refine ACode.region' [0, 1] (by kernel_rfl) rfl ?_
        refine aOps_1 rfl rfl rfl (AOp.add rfl rfl rfl (i64_wrap (by omega) (by omega)) ?_)
        refine aOps_1 rfl rfl rfl (AOp.move' (.inl rfl) rfl ?_)
        refine aOps_end ?_
        have htk : vals.take (i0 + 1) = vals.take i0 ++ [(vals.getD i0 vD)] := by rw [List.take_succ_eq_append_getElem (by omega), getD_i (by omega)]
        have hzz : zoneOf (vals.take (i0 + 1)) = (⟨(zoneOf (vals.take i0)).nulls, true, (vals.getD i0 vD), (vals.getD i0 vD)⟩ : Zn) := by rw [htk, zoneOf_snoc, zstep, if_neg c1, zfirst_T c2, zlow_F (z := (⟨(zoneOf (vals.take i0)).nulls, true, (vals.getD i0 vD), (vals.getD i0 vD)⟩ : Zn)) (by show 0 ≤ cmpV (vals.getD i0 vD) (vals.getD i0 vD); rw [cmpV_self]; decide), zhigh_F (z := (⟨(zoneOf (vals.take i0)).nulls, true, (vals.getD i0 vD), (vals.getD i0 vD)⟩ : Zn)) (by show cmpV (vals.getD i0 vD) (vals.getD i0 vD) ≤ 0; rw [cmpV_self]; decide)]
        first | refine thenA_n ?_ | simp only [thenA, blockA, if_true]
        exact NextR.mk (by omega) (by omega) (.cons rfl .nil) (.cons rfl (.cons rfl (.cons rfl .nil))) (by show Ab.Sub (upd _ _ (some (zblk (zoneOf (vals.take (i0 + 1)))))) _; rw [hzz]; (repeat (first | exact sub_refl _ | assumption | refine sub_upd' ?_ (by ((repeat refine (upd_other _ _ (by omega)).trans ?_); first | exact hf _ (by omega) | exact hfL0 _ (by omega))) | refine sub_trans ?_ hsL0 | refine sub_over (by assumption) | refine sub_over0 ?_ | refine sub_trans (sub_same (by assumption)) ?_ | refine sub_dropu ?_ | refine sub_drop ?_ | refine sub_put ?_ (by repeat (first | assumption | exact upd_same _ _ _ | refine (upd_other _ _ (by omega)).trans ?_ | refine hsL0 _ _ ?_))))) trivial
      · try simp only [decide_eq_true_eq, decide_eq_false_iff_not, beq_iff_eq, beq_eq_false_iff_ne, ne_eq, bne_iff_ne, Bool.not_eq_true', Bool.not_eq_false', Int.not_lt, Int.not_le, gt_iff_lt, ge_iff_le, bne_eq_false_iff_eq, Bool.not_eq_eq_eq_not, Bool.not_true, Bool.not_false] at c2
        refine ACode.skip ?_
        show ACode _ _ _ _ _ _
        refine ACode.seq ?_
        refine ACode.seq ?_
        refine ACode.region' [0, 1, 2, 3, 4] (by kernel_rfl) rfl ?_
        refine aOps_1 rfl rfl rfl ?_
        refine AOp.loadAll (b := ?b11) (v := vv (vals.getD i0 vD)) rfl rfl ?hn11 ?hv11 ?hw11 ?hz11 ?hR11
        (case hn11 => repeat (first | assumption | exact upd_same _ _ _ | refine (upd_other _ _ (by omega)).trans ?_ | refine hsL0 _ _ ?_))
        (case hv11 => rfl)
        (case hw11 => rfl)
        (case hz11 => first | rfl | (simp; done))
        refine aOps_1 rfl rfl rfl (AOp.fieldAddr' rfl (by decide) rfl ?_)
        refine aOps_1 rfl rfl rfl (AOp.loadN (b := zblk (zoneOf (vals.take i0))) (cs := [.int .i64 (zoneOf (vals.take i0)).min.kind, .int .i64 (zoneOf (vals.take i0)).min.n, .string (zoneOf (vals.take i0)).min.s]) rfl rfl (by repeat (first | assumption | exact upd_same _ _ _ | refine (upd_other _ _ (by omega)).trans ?_ | refine hsL0 _ _ ?_)) (by show 2 + 3 ≤ 8; decide) rfl ?_)
        refine aOps_q rfl rfl rfl (AOp.call' rfl rfl rfl (cmp_val 3 _ _ (vals.getD i0 vD) (zoneOf (vals.take i0)).min) (fun _ _ _ h => h)) (fun kq hkq => ?_)
        refine aOps_1 rfl rfl rfl (AOp.bin' rfl rfl rfl rfl ?_)
        refine aOps_end ?_
        show ACode _ _ _ _ _ _
        refine ACode.cond rfl (fun c3 => ?_) (fun c3 => ?_)
        · try simp only [decide_eq_true_eq, decide_eq_false_iff_not, beq_iff_eq, beq_eq_false_iff_ne, ne_eq, bne_iff_ne, Bool.not_eq_true', Bool.not_eq_false', Int.not_lt, Int.not_le, gt_iff_lt, ge_iff_le, bne_eq_false_iff_eq, Bool.not_eq_eq_eq_not, Bool.not_true, Bool.not_false] at c3
          refine ACode.region' [0, 1, 2] (by kernel_rfl) rfl ?_
          refine aOps_1 rfl rfl rfl ?_
          refine AOp.loadAll (b := ?b12) (v := vv (vals.getD i0 vD)) rfl rfl ?hn12 ?hv12 ?hw12 ?hz12 ?hR12
          (case hn12 => repeat (first | assumption | exact upd_same _ _ _ | refine (upd_other _ _ (by omega)).trans ?_ | refine hsL0 _ _ ?_))
          (case hv12 => rfl)
          (case hw12 => rfl)
          (case hz12 => first | rfl | (simp; done))
          refine aOps_1 rfl rfl rfl (AOp.fieldAddr' rfl (by decide) rfl ?_)
          refine aOps_0 rfl rfl rfl (AOp.storeN (z := 3) (cs := (vv (vals.getD i0 vD)).cells) (b := zblk (zoneOf (vals.take i0))) rfl rfl rfl (by repeat (first | assumption | exact upd_same _ _ _ | refine (upd_other _ _ (by omega)).trans ?_ | refine hsL0 _ _ ?_)) rfl rfl (vv_one _) (by show 2 + 3 ≤ 8; decide) ?_)
          refine aOps_end ?_
          show ACode _ _ _ _ _ _
          refine ACode.seq ?_
          refine ACode.region' [0, 1, 2, 3, 4] (by kernel_rfl) rfl ?_
          refine aOps_1 rfl rfl rfl ?_
          refine AOp.loadAll (b := ?b13) (v := vv (vals.getD i0 vD)) rfl rfl ?hn13 ?hv13 ?hw13 ?hz13 ?hR13
          (case hn13 => repeat (first | assumption | exact upd_same _ _ _ | refine (upd_other _ _ (by omega)).trans ?_ | refine hsL0 _ _ ?_))
          (case hv13 => rfl)
          (case hw13 => rfl)
          (case hz13 => first | rfl | (simp; done))
          refine aOps_1 rfl rfl rfl (AOp.fieldAddr' rfl (by decide) rfl ?_)
          refine aOps_1 rfl rfl rfl (AOp.loadN (b := zblk (⟨(zoneOf (vals.take i0)).nulls, (zoneOf (vals.take i0)).some, (vals.getD i0 vD), (zoneOf (vals.take i0)).max⟩ : Zn)) (cs := [.int .i64 (⟨(zoneOf (vals.take i0)).nulls, (zoneOf (vals.take i0)).some, (vals.getD i0 vD), (zoneOf (vals.take i0)).max⟩ : Zn).max.kind, .int .i64 (⟨(zoneOf (vals.take i0)).nulls, (zoneOf (vals.take i0)).some, (vals.getD i0 vD), (zoneOf (vals.take i0)).max⟩ : Zn).max.n, .string (⟨(zoneOf (vals.take i0)).nulls, (zoneOf (vals.take i0)).some, (vals.getD i0 vD), (zoneOf (vals.take i0)).max⟩ : Zn).max.s]) rfl rfl (by repeat (first | assumption | exact upd_same _ _ _ | refine (upd_other _ _ (by omega)).trans ?_ | refine hsL0 _ _ ?_)) (by show 5 + 3 ≤ 8; decide) rfl ?_)
          refine aOps_q rfl rfl rfl (AOp.call' rfl rfl rfl (cmp_val 3 _ _ (vals.getD i0 vD) (⟨(zoneOf (vals.take i0)).nulls, (zoneOf (vals.take i0)).some, (vals.getD i0 vD), (zoneOf (vals.take i0)).max⟩ : Zn).max) (fun _ _ _ h => h)) (fun kq hkq => ?_)
          refine aOps_1 rfl rfl rfl (AOp.bin' rfl rfl rfl rfl ?_)
          refine aOps_end ?_
          show ACode _ _ _ _ _ _
          refine ACode.cond rfl (fun c4 => ?_) (fun c4 => ?_)
          · try simp only [decide_eq_true_eq, decide_eq_false_iff_not, beq_iff_eq, beq_eq_false_iff_ne, ne_eq, bne_iff_ne, Bool.not_eq_true', Bool.not_eq_false', Int.not_lt, Int.not_le, gt_iff_lt, ge_iff_le, bne_eq_false_iff_eq, Bool.not_eq_eq_eq_not, Bool.not_true, Bool.not_false] at c4
            refine ACode.region' [0, 1, 2] (by kernel_rfl) rfl ?_
            refine aOps_1 rfl rfl rfl ?_
            refine AOp.loadAll (b := ?b14) (v := vv (vals.getD i0 vD)) rfl rfl ?hn14 ?hv14 ?hw14 ?hz14 ?hR14
            (case hn14 => repeat (first | assumption | exact upd_same _ _ _ | refine (upd_other _ _ (by omega)).trans ?_ | refine hsL0 _ _ ?_))
            (case hv14 => rfl)
            (case hw14 => rfl)
            (case hz14 => first | rfl | (simp; done))
            refine aOps_1 rfl rfl rfl (AOp.fieldAddr' rfl (by decide) rfl ?_)
            refine aOps_0 rfl rfl rfl (AOp.storeN (z := 3) (cs := (vv (vals.getD i0 vD)).cells) (b := zblk (⟨(zoneOf (vals.take i0)).nulls, (zoneOf (vals.take i0)).some, (vals.getD i0 vD), (zoneOf (vals.take i0)).max⟩ : Zn)) rfl rfl rfl (by repeat (first | assumption | exact upd_same _ _ _ | refine (upd_other _ _ (by omega)).trans ?_ | refine hsL0 _ _ ?_)) rfl rfl (vv_one _) (by show 5 + 3 ≤ 8; decide) ?_)
            refine aOps_end ?_
            show ACode _ _ _ _ _ _
            refine ACode.region' [0, 1] (by kernel_rfl) rfl ?_
            refine aOps_1 rfl rfl rfl (AOp.add rfl rfl rfl (i64_wrap (by omega) (by omega)) ?_)
            refine aOps_1 rfl rfl rfl (AOp.move' (.inl rfl) rfl ?_)
            refine aOps_end ?_
            have htk : vals.take (i0 + 1) = vals.take i0 ++ [(vals.getD i0 vD)] := by rw [List.take_succ_eq_append_getElem (by omega), getD_i (by omega)]
            have hzz : zoneOf (vals.take (i0 + 1)) = (⟨(⟨(zoneOf (vals.take i0)).nulls, (zoneOf (vals.take i0)).some, (vals.getD i0 vD), (zoneOf (vals.take i0)).max⟩ : Zn).nulls, (⟨(zoneOf (vals.take i0)).nulls, (zoneOf (vals.take i0)).some, (vals.getD i0 vD), (zoneOf (vals.take i0)).max⟩ : Zn).some, (⟨(zoneOf (vals.take i0)).nulls, (zoneOf (vals.take i0)).some, (vals.getD i0 vD), (zoneOf (vals.take i0)).max⟩ : Zn).min, (vals.getD i0 vD)⟩ : Zn) := by rw [htk, zoneOf_snoc, zstep, if_neg c1, zfirst_F c2, zlow_T (z := (zoneOf (vals.take i0))) c3, zhigh_T (z := (⟨(zoneOf (vals.take i0)).nulls, (zoneOf (vals.take i0)).some, (vals.getD i0 vD), (zoneOf (vals.take i0)).max⟩ : Zn)) c4]
            first | refine thenA_n ?_ | simp only [thenA, blockA, if_true]
            exact NextR.mk (by omega) (by omega) (.cons rfl .nil) (.cons rfl (.cons rfl (.cons rfl .nil))) (by show Ab.Sub (upd _ _ (some (zblk (zoneOf (vals.take (i0 + 1)))))) _; rw [hzz]; (repeat (first | exact sub_refl _ | assumption | refine sub_upd' ?_ (by ((repeat refine (upd_other _ _ (by omega)).trans ?_); first | exact hf _ (by omega) | exact hfL0 _ (by omega))) | refine sub_trans ?_ hsL0 | refine sub_over (by assumption) | refine sub_over0 ?_ | refine sub_trans (sub_same (by assumption)) ?_ | refine sub_dropu ?_ | refine sub_drop ?_ | refine sub_put ?_ (by repeat (first | assumption | exact upd_same _ _ _ | refine (upd_other _ _ (by omega)).trans ?_ | refine hsL0 _ _ ?_))))) trivial
          · try simp only [decide_eq_true_eq, decide_eq_false_iff_not, beq_iff_eq, beq_eq_false_iff_ne, ne_eq, bne_iff_ne, Bool.not_eq_true', Bool.not_eq_false', Int.not_lt, Int.not_le, gt_iff_lt, ge_iff_le, bne_eq_false_iff_eq, Bool.not_eq_eq_eq_not, Bool.not_true, Bool.not_false] at c4
            refine ACode.skip ?_
            show ACode _ _ _ _ _ _
            refine ACode.region' [0, 1] (by kernel_rfl) rfl ?_
            refine aOps_1 rfl rfl rfl (AOp.add rfl rfl rfl (i64_wrap (by omega) (by omega)) ?_)
            refine aOps_1 rfl rfl rfl (AOp.move' (.inl rfl) rfl ?_)
            refine aOps_end ?_
            have htk : vals.take (i0 + 1) = vals.take i0 ++ [(vals.getD i0 vD)] := by rw [List.take_succ_eq_append_getElem (by omega), getD_i (by omega)]
            have hzz : zoneOf (vals.take (i0 + 1)) = (⟨(zoneOf (vals.take i0)).nulls, (zoneOf (vals.take i0)).some, (vals.getD i0 vD), (zoneOf (vals.take i0)).max⟩ : Zn) := by rw [htk, zoneOf_snoc, zstep, if_neg c1, zfirst_F c2, zlow_T (z := (zoneOf (vals.take i0))) c3, zhigh_F (z := (⟨(zoneOf (vals.take i0)).nulls, (zoneOf (vals.take i0)).some, (vals.getD i0 vD), (zoneOf (vals.take i0)).max⟩ : Zn)) c4]
            first | refine thenA_n ?_ | simp only [thenA, blockA, if_true]
            exact NextR.mk (by omega) (by omega) (.cons rfl .nil) (.cons rfl (.cons rfl (.cons rfl .nil))) (by show Ab.Sub (upd _ _ (some (zblk (zoneOf (vals.take (i0 + 1)))))) _; rw [hzz]; (repeat (first | exact sub_refl _ | assumption | refine sub_upd' ?_ (by ((repeat refine (upd_other _ _ (by omega)).trans ?_); first | exact hf _ (by omega) | exact hfL0 _ (by omega))) | refine sub_trans ?_ hsL0 | refine sub_over (by assumption) | refine sub_over0 ?_ | refine sub_trans (sub_same (by assumption)) ?_ | refine sub_dropu ?_ | refine sub_drop ?_ | refine sub_put ?_ (by repeat (first | assumption | exact upd_same _ _ _ | refine (upd_other _ _ (by omega)).trans ?_ | refine hsL0 _ _ ?_))))) trivial
        · try simp only [decide_eq_true_eq, decide_eq_false_iff_not, beq_iff_eq, beq_eq_false_iff_ne, ne_eq, bne_iff_ne, Bool.not_eq_true', Bool.not_eq_false', Int.not_lt, Int.not_le, gt_iff_lt, ge_iff_le, bne_eq_false_iff_eq, Bool.not_eq_eq_eq_not, Bool.not_true, Bool.not_false] at c3
          refine ACode.skip ?_
          show ACode _ _ _ _ _ _
          refine ACode.seq ?_
          refine ACode.region' [0, 1, 2, 3, 4] (by kernel_rfl) rfl ?_
          refine aOps_1 rfl rfl rfl ?_
          refine AOp.loadAll (b := ?b15) (v := vv (vals.getD i0 vD)) rfl rfl ?hn15 ?hv15 ?hw15 ?hz15 ?hR15
          (case hn15 => repeat (first | assumption | exact upd_same _ _ _ | refine (upd_other _ _ (by omega)).trans ?_ | refine hsL0 _ _ ?_))
          (case hv15 => rfl)
          (case hw15 => rfl)
          (case hz15 => first | rfl | (simp; done))
          refine aOps_1 rfl rfl rfl (AOp.fieldAddr' rfl (by decide) rfl ?_)
          refine aOps_1 rfl rfl rfl (AOp.loadN (b := zblk (zoneOf (vals.take i0))) (cs := [.int .i64 (zoneOf (vals.take i0)).max.kind, .int .i64 (zoneOf (vals.take i0)).max.n, .string (zoneOf (vals.take i0)).max.s]) rfl rfl (by repeat (first | assumption | exact upd_same _ _ _ | refine (upd_other _ _ (by omega)).trans ?_ | refine hsL0 _ _ ?_)) (by show 5 + 3 ≤ 8; decide) rfl ?_)
          refine aOps_q rfl rfl rfl (AOp.call' rfl rfl rfl (cmp_val 3 _ _ (vals.getD i0 vD) (zoneOf (vals.take i0)).max) (fun _ _ _ h => h)) (fun kq hkq => ?_)
          refine aOps_1 rfl rfl rfl (AOp.bin' rfl rfl rfl rfl ?_)
          refine aOps_end ?_
          show ACode _ _ _ _ _ _
          refine ACode.cond rfl (fun c4 => ?_) (fun c4 => ?_)
          · try simp only [decide_eq_true_eq, decide_eq_false_iff_not, beq_iff_eq, beq_eq_false_iff_ne, ne_eq, bne_iff_ne, Bool.not_eq_true', Bool.not_eq_false', Int.not_lt, Int.not_le, gt_iff_lt, ge_iff_le, bne_eq_false_iff_eq, Bool.not_eq_eq_eq_not, Bool.not_true, Bool.not_false] at c4
            refine ACode.region' [0, 1, 2] (by kernel_rfl) rfl ?_
            refine aOps_1 rfl rfl rfl ?_
            refine AOp.loadAll (b := ?b16) (v := vv (vals.getD i0 vD)) rfl rfl ?hn16 ?hv16 ?hw16 ?hz16 ?hR16
            (case hn16 => repeat (first | assumption | exact upd_same _ _ _ | refine (upd_other _ _ (by omega)).trans ?_ | refine hsL0 _ _ ?_))
            (case hv16 => rfl)
            (case hw16 => rfl)
            (case hz16 => first | rfl | (simp; done))
            refine aOps_1 rfl rfl rfl (AOp.fieldAddr' rfl (by decide) rfl ?_)
            refine aOps_0 rfl rfl rfl (AOp.storeN (z := 3) (cs := (vv (vals.getD i0 vD)).cells) (b := zblk (zoneOf (vals.take i0))) rfl rfl rfl (by repeat (first | assumption | exact upd_same _ _ _ | refine (upd_other _ _ (by omega)).trans ?_ | refine hsL0 _ _ ?_)) rfl rfl (vv_one _) (by show 5 + 3 ≤ 8; decide) ?_)
            refine aOps_end ?_
            show ACode _ _ _ _ _ _
            refine ACode.region' [0, 1] (by kernel_rfl) rfl ?_
            refine aOps_1 rfl rfl rfl (AOp.add rfl rfl rfl (i64_wrap (by omega) (by omega)) ?_)
            refine aOps_1 rfl rfl rfl (AOp.move' (.inl rfl) rfl ?_)
            refine aOps_end ?_
            have htk : vals.take (i0 + 1) = vals.take i0 ++ [(vals.getD i0 vD)] := by rw [List.take_succ_eq_append_getElem (by omega), getD_i (by omega)]
            have hzz : zoneOf (vals.take (i0 + 1)) = (⟨(zoneOf (vals.take i0)).nulls, (zoneOf (vals.take i0)).some, (zoneOf (vals.take i0)).min, (vals.getD i0 vD)⟩ : Zn) := by rw [htk, zoneOf_snoc, zstep, if_neg c1, zfirst_F c2, zlow_F (z := (zoneOf (vals.take i0))) c3, zhigh_T (z := (zoneOf (vals.take i0))) c4]
            first | refine thenA_n ?_ | simp only [thenA, blockA, if_true]
            exact NextR.mk (by omega) (by omega) (.cons rfl .nil) (.cons rfl (.cons rfl (.cons rfl .nil))) (by show Ab.Sub (upd _ _ (some (zblk (zoneOf (vals.take (i0 + 1)))))) _; rw [hzz]; (repeat (first | exact sub_refl _ | assumption | refine sub_upd' ?_ (by ((repeat refine (upd_other _ _ (by omega)).trans ?_); first | exact hf _ (by omega) | exact hfL0 _ (by omega))) | refine sub_trans ?_ hsL0 | refine sub_over (by assumption) | refine sub_over0 ?_ | refine sub_trans (sub_same (by assumption)) ?_ | refine sub_dropu ?_ | refine sub_drop ?_ | refine sub_put ?_ (by repeat (first | assumption | exact upd_same _ _ _ | refine (upd_other _ _ (by omega)).trans ?_ | refine hsL0 _ _ ?_))))) trivial
          · try simp only [decide_eq_true_eq, decide_eq_false_iff_not, beq_iff_eq, beq_eq_false_iff_ne, ne_eq, bne_iff_ne, Bool.not_eq_true', Bool.not_eq_false', Int.not_lt, Int.not_le, gt_iff_lt, ge_iff_le, bne_eq_false_iff_eq, Bool.not_eq_eq_eq_not, Bool.not_true, Bool.not_false] at c4
            refine ACode.skip ?_
            show ACode _ _ _ _ _ _
            refine ACode.region' [0, 1] (by kernel_rfl) rfl ?_
            refine aOps_1 rfl rfl rfl (AOp.add rfl rfl rfl (i64_wrap (by omega) (by omega)) ?_)
            refine aOps_1 rfl rfl rfl (AOp.move' (.inl rfl) rfl ?_)
            refine aOps_end ?_
            have htk : vals.take (i0 + 1) = vals.take i0 ++ [(vals.getD i0 vD)] := by rw [List.take_succ_eq_append_getElem (by omega), getD_i (by omega)]
            have hzz : zoneOf (vals.take (i0 + 1)) = (zoneOf (vals.take i0)) := by rw [htk, zoneOf_snoc, zstep, if_neg c1, zfirst_F c2, zlow_F (z := (zoneOf (vals.take i0))) c3, zhigh_F (z := (zoneOf (vals.take i0))) c4]
            first | refine thenA_n ?_ | simp only [thenA, blockA, if_true]
            exact NextR.mk (by omega) (by omega) (.cons rfl .nil) (.cons rfl (.cons rfl (.cons rfl .nil))) (by show Ab.Sub (upd _ _ (some (zblk (zoneOf (vals.take (i0 + 1)))))) _; rw [hzz]; (repeat (first | exact sub_refl _ | assumption | refine sub_upd' ?_ (by ((repeat refine (upd_other _ _ (by omega)).trans ?_); first | exact hf _ (by omega) | exact hfL0 _ (by omega))) | refine sub_trans ?_ hsL0 | refine sub_over (by assumption) | refine sub_over0 ?_ | refine sub_trans (sub_same (by assumption)) ?_ | refine sub_dropu ?_ | refine sub_drop ?_ | refine sub_put ?_ (by repeat (first | assumption | exact upd_same _ _ _ | refine (upd_other _ _ (by omega)).trans ?_ | refine hsL0 _ _ ?_))))) trivial
  · try simp only [decide_eq_true_eq, decide_eq_false_iff_not, beq_iff_eq, beq_eq_false_iff_ne, ne_eq, bne_iff_ne, Bool.not_eq_true', Bool.not_eq_false', Int.not_lt, Int.not_le, gt_iff_lt, ge_iff_le, bne_eq_false_iff_eq, Bool.not_eq_eq_eq_not, Bool.not_true, Bool.not_false] at c0
    refine ACode.exit ?_
    show ACode _ _ _ _ _ _
    refine ACode.seq ?_
    refine ACode.region' [0, 1] (by kernel_rfl) rfl ?_
    refine aOps_1 rfl rfl rfl ?_
    refine AOp.loadAll (b := ?b17) (v := zv (zoneOf (vals.take i0))) rfl rfl ?hn17 ?hv17 ?hw17 ?hz17 ?hR17
    (case hn17 => repeat (first | assumption | exact upd_same _ _ _ | refine (upd_other _ _ (by omega)).trans ?_ | refine hsL0 _ _ ?_))
    (case hv17 => rfl)
    (case hw17 => rfl)
    (case hz17 => first | rfl | (simp; done))
    refine aOps_0 rfl rfl rfl ?_
    refine AOp.storeAll (b := ?b18) rfl rfl rfl ?hn18 ?hk18 rfl ?hw18 ?ho18 ?hl18 ?hR18
    (case hn18 => repeat (first | assumption | exact upd_same _ _ _ | refine (upd_other _ _ (by omega)).trans ?_ | refine hsL0 _ _ ?_))
    (case hk18 => rfl)
    (case hw18 => first | rfl | (simp; done))
    (case ho18 => first | rfl | decide | (simp; done))
    (case hl18 => first | rfl | (simp; done))
    refine aOps_end ?_
    show ACode _ _ _ _ _ _
    refine ACode.ret ?_
    exact RetQ.cell rfl rfl (aloadAll (b := zblk (zoneOf (vals.take i0))) (v := zv (zoneOf (vals.take i0))) (upd_same _ _ _) rfl rfl rfl) (by (repeat (first | exact sub_refl _ | assumption | refine sub_upd' ?_ (by ((repeat refine (upd_other _ _ (by omega)).trans ?_); first | exact hf _ (by omega) | exact hfL0 _ (by omega))) | refine sub_trans ?_ hsL0 | refine sub_over (by assumption) | refine sub_over0 ?_ | refine sub_trans (sub_same (by assumption)) ?_ | refine sub_dropu ?_ | refine sub_drop ?_ | refine sub_put ?_ (by repeat (first | assumption | exact upd_same _ _ _ | refine (upd_other _ _ (by omega)).trans ?_ | refine hsL0 _ _ ?_))))) stays (fun hk => ⟨by rw [List.take_of_length_le (by omega)], rfl, by omega⟩)

theorem sound1T_b (v : Val) (hv : v.ok) (kind : Int) (hkd : (v.kind == kind) = true) (q1 q2 q3 : Nat) (hq1 : H q1 = some (kblk1 kind)) (hq2 : H q2 = some (sblk1 q3)) (hq3 : H q3 = some (cblk1 kind)) : ACalls Tryd.prog 3 58 [vv v, .pointer (some ⟨q1, 0, none⟩), .pointer (some ⟨q2, 0, none⟩)] H k (Same H k (.bool (rightP kind v))) := by
  refine ACalls.fresh fun hf => ?_
  refine ACalls.body Tryd.func58 rfl (Nat.le_of_ble_eq_true rfl) ?_
  have h1k := old_lt hf hq1
  have h2k := old_lt hf hq2
  have h3k := old_lt hf hq3
  refine ACode.seq ?_
  refine ACode.region' [0, 1] (by kernel_rfl) rfl ?_
  refine aOps_1 rfl rfl rfl (AOp.boxV rfl rfl ?_)
  refine aOps_1 rfl rfl rfl (AOp.move' (.inr rfl) rfl ?_)
  refine aOps_end ?_
  show ACode _ _ _ _ _ _
  refine ACode.seq ?_
  refine ACode.region' [0, 1, 2, 3, 4, 5, 6, 7, 8, 9, 10, 11] (by kernel_rfl) rfl ?_
  refine aOps_1 rfl rfl rfl (AOp.fieldAddr' rfl (by decide) rfl ?_)
  refine aOps_1 rfl rfl rfl ?_
  refine AOp.load1 (b := ?b19) (v := ?v19) rfl rfl ?hn19 ?hv19 ?hR19
  (case hn19 => repeat (first | assumption | exact upd_same _ _ _ | refine (upd_other _ _ (by omega)).trans ?_))
  (case hv19 => rfl)
  refine aOps_1 rfl rfl rfl ?_
  refine AOp.load1 (b := ?b20) (v := ?v20) rfl rfl ?hn20 ?hv20 ?hR20
  (case hn20 => repeat (first | assumption | exact upd_same _ _ _ | refine (upd_other _ _ (by omega)).trans ?_))
  (case hv20 => rfl)
  refine aOps_1 rfl rfl rfl (AOp.bin' rfl rfl rfl rfl ?_)
  rw [hkd]
  refine aOps_1 rfl rfl rfl (AOp.move' (.inl rfl) rfl ?_)
  refine aOps_w rfl rfl rfl ?_
  refine AOp.load1 (b := ?b21) (v := ?v21) rfl rfl ?hn21 ?hv21 ?hR21
  (case hn21 => repeat (first | assumption | exact upd_same _ _ _ | refine (upd_other _ _ (by omega)).trans ?_))
  (case hv21 => rfl)
  refine aOps_w rfl rfl rfl ?_
  refine AOp.loadAll (b := ?b22) (v := vv v) rfl rfl ?hn22 ?hv22 ?hw22 ?hz22 ?hR22
  (case hn22 => repeat (first | assumption | exact upd_same _ _ _ | refine (upd_other _ _ (by omega)).trans ?_))
  (case hv22 => rfl)
  (case hw22 => rfl)
  (case hz22 => first | rfl | (simp; done))
  refine aOps_w rfl rfl rfl (AOp.buildH (vals3 [v]) rfl rfl (by show 0 < 3; decide) (by show 3 ≤ 16777216; decide) rfl rfl ?_)
  refine aOps_wq rfl rfl rfl (AOp.call' rfl rfl rfl (row_vals 3 _ _ [⟨kind, false, 0⟩] [v] (some ⟨q3, 0, some 1⟩) 1 (slcCells_grow (n := q3) (b := cblk1 kind) (by repeat (first | assumption | exact upd_same _ _ _ | refine (upd_other _ _ (by omega)).trans ?_)) rfl rfl) (some ⟨_, 0, some 1⟩) 1 (slcCells_grow (n := _) (b := { cells := vals3 [v], elem := 43, kind := .grow, esz := 3 }) (by repeat (first | assumption | exact upd_same _ _ _ | refine (upd_other _ _ (by omega)).trans ?_)) rfl rfl) (by show 1 ≤ 9223372036854775807; decide) (by intro u hu; rw [List.mem_singleton.1 hu]; exact hv)) (fun _ _ _ h => h)) (fun kq hkq => ?_)
  refine aOps_w rfl rfl rfl (AOp.bin' rfl rfl rfl rfl ?_)
  refine aOps_1 rfl rfl rfl (AOp.pickB rfl rfl rfl ?_)
  refine aOps_1 rfl rfl rfl (AOp.move' (.inr rfl) rfl ?_)
  refine aOps_end ?_
  show ACode _ _ _ _ _ _
  refine ACode.ret ?_
  exact RetQ.one rfl rfl (by (repeat (first | exact sub_refl _ | assumption | refine sub_upd' ?_ (by ((repeat refine (upd_other _ _ (by omega)).trans ?_); first | exact hf _ (by omega))) | refine sub_over (by assumption) | refine sub_over0 ?_ | refine sub_trans (sub_same (by assumption)) ?_ | refine sub_dropu ?_ | refine sub_drop ?_ | refine sub_put ?_ (by repeat (first | assumption | exact upd_same _ _ _ | refine (upd_other _ _ (by omega)).trans ?_))))) stays (fun hk => ⟨(by rw [rightP, hkd]; rfl), rfl, by omega⟩)

theorem sound1F_b (v : Val) (hv : v.ok) (kind : Int) (hkd : (v.kind == kind) = false) (q1 q2 q3 : Nat) (hq1 : H q1 = some (kblk1 kind)) (hq2 : H q2 = some (sblk1 q3)) (hq3 : H q3 = some (cblk1 kind)) : ACalls Tryd.prog 3 58 [vv v, .pointer (some ⟨q1, 0, none⟩), .pointer (some ⟨q2, 0, none⟩)] H k (Same H k (.bool (rightP kind v))) := by
  refine ACalls.fresh fun hf => ?_
  refine ACalls.body Tryd.func58 rfl (Nat.le_of_ble_eq_true rfl) ?_
  have h1k := old_lt hf hq1
  have h2k := old_lt hf hq2
  have h3k := old_lt hf hq3
  refine ACode.seq ?_
  refine ACode.region' [0, 1] (by kernel_rfl) rfl ?_
  refine aOps_1 rfl rfl rfl (AOp.boxV rfl rfl ?_)
  refine aOps_1 rfl rfl rfl (AOp.move' (.inr rfl) rfl ?_)
  refine aOps_end ?_
  show ACode _ _ _ _ _ _
  refine ACode.seq ?_
  refine ACode.region' [0, 1, 2, 3, 4, 5, 6, 7, 8, 9, 10, 11] (by kernel_rfl) rfl ?_
  refine aOps_1 rfl rfl rfl (AOp.fieldAddr' rfl (by decide) rfl ?_)
  refine aOps_1 rfl rfl rfl ?_
  refine AOp.load1 (b := ?b23) (v := ?v23) rfl rfl ?hn23 ?hv23 ?hR23
  (case hn23 => repeat (first | assumption | exact upd_same _ _ _ | refine (upd_other _ _ (by omega)).trans ?_))
  (case hv23 => rfl)
  refine aOps_1 rfl rfl rfl ?_
  refine AOp.load1 (b := ?b24) (v := ?v24) rfl rfl ?hn24 ?hv24 ?hR24
  (case hn24 => repeat (first | assumption | exact upd_same _ _ _ | refine (upd_other _ _ (by omega)).trans ?_))
  (case hv24 => rfl)
  refine aOps_1 rfl rfl rfl (AOp.bin' rfl rfl rfl rfl ?_)
  rw [hkd]
  refine aOps_1 rfl rfl rfl (AOp.move' (.inl rfl) rfl ?_)
  refine aOps_wno rfl rfl rfl ?_
  refine aOps_wno rfl rfl rfl ?_
  refine aOps_wno rfl rfl rfl ?_
  refine aOps_wno rfl rfl rfl ?_
  refine aOps_wno rfl rfl rfl ?_
  refine aOps_1 rfl rfl rfl (AOp.pickB rfl rfl rfl ?_)
  refine aOps_1 rfl rfl rfl (AOp.move' (.inr rfl) rfl ?_)
  refine aOps_end ?_
  show ACode _ _ _ _ _ _
  refine ACode.ret ?_
  exact RetQ.one rfl rfl (by (repeat (first | exact sub_refl _ | assumption | refine sub_upd' ?_ (by ((repeat refine (upd_other _ _ (by omega)).trans ?_); first | exact hf _ (by omega))) | refine sub_over (by assumption) | refine sub_over0 ?_ | refine sub_trans (sub_same (by assumption)) ?_ | refine sub_dropu ?_ | refine sub_drop ?_ | refine sub_put ?_ (by repeat (first | assumption | exact upd_same _ _ _ | refine (upd_other _ _ (by omega)).trans ?_))))) stays (fun hk => ⟨(by rw [rightP, hkd]; rfl), rfl, by omega⟩)

theorem sound1_b (v : Val) (hv : v.ok) (kind : Int) (q1 q2 q3 : Nat) (hq1 : H q1 = some (kblk1 kind)) (hq2 : H q2 = some (sblk1 q3)) (hq3 : H q3 = some (cblk1 kind)) : ACalls Tryd.prog 3 58 [vv v, .pointer (some ⟨q1, 0, none⟩), .pointer (some ⟨q2, 0, none⟩)] H k (Same H k (.bool (rightP kind v))) := by
  cases hk : (v.kind == kind) with
  | true => exact sound1T_b H k v hv kind hk q1 q2 q3 hq1 hq2 hq3
  | false => exact sound1F_b H k v hv kind hk q1 q2 q3 hq1 hq2 hq3

theorem Sound_b (z : Zn) (hz : z.ok) (rows kind : Int) : ACalls Tryd.prog 3 23 [zv z, .int .i64 rows, .int .i64 kind] H k (Same H k (.bool (soundP z rows kind))) := by
  refine ACalls.fresh fun hf => ?_
  refine ACalls.body Tryd.func23 rfl (Nat.le_of_ble_eq_true rfl) ?_
  refine ACode.seq ?_
  refine ACode.region' [0, 1, 2] (by kernel_rfl) rfl ?_
  refine aOps_1 rfl rfl rfl (AOp.boxV rfl rfl ?_)
  refine aOps_1 rfl rfl rfl (AOp.boxV rfl rfl ?_)
  refine aOps_1 rfl rfl rfl (AOp.move' (.inr rfl) rfl ?_)
  refine aOps_end ?_
  show ACode _ _ _ _ _ _
  refine ACode.seq ?_
  refine ACode.block ?_
  refine ACode.seq ?_
  refine ACode.region' [0, 1, 2, 3, 4, 5, 6, 7, 8, 9, 10, 11, 12, 13, 14, 15, 16, 17, 18] (by kernel_rfl) rfl ?_
  refine aOps_1 rfl rfl rfl (AOp.fieldAddr' rfl (by decide) rfl ?_)
  refine aOps_1 rfl rfl rfl ?_
  refine AOp.load1 (b := ?b25) (v := ?v25) rfl rfl ?hn25 ?hv25 ?hR25
  (case hn25 => repeat (first | assumption | exact upd_same _ _ _ | refine (upd_other _ _ (by omega)).trans ?_))
  (case hv25 => rfl)
  refine aOps_1 rfl rfl rfl (AOp.bin' rfl rfl rfl rfl ?_)
  refine aOps_1 rfl rfl rfl (AOp.move' (.inl rfl) rfl ?_)
  refine aOps_gd0 rfl rfl (wantF rfl rfl rfl) (fun hc => AOp.slots [(3, _)] (.cons rfl .nil) (AOp.fieldAddr' rfl (by decide) rfl ⟨rfl, rfl, rfl⟩)) ?_
  refine aOps_gd0 rfl rfl (wantF rfl rfl rfl) (fun hc => AOp.slots [(14, _)] (.cons (gvT rfl hc) .nil) ((by refine AOp.load1 (b := ?b26) (v := ?v26) rfl rfl ?hn26 ?hv26 ?hR26; (case hn26 => repeat (first | assumption | exact upd_same _ _ _ | refine (upd_other _ _ (by omega)).trans ?_)); (case hv26 => rfl); exact ⟨rfl, rfl, rfl⟩))) ?_
  refine aOps_gd0 rfl rfl (wantF rfl rfl rfl) (fun hc => AOp.slots [(1, _)] (.cons rfl .nil) (AOp.move' (.inl rfl) rfl ⟨rfl, rfl, rfl⟩)) ?_
  refine aOps_gd0 rfl rfl (wantF rfl rfl rfl) (fun hc => AOp.slots [(15, _), (16, _)] (.cons (gvT rfl hc) (.cons (gvT rfl hc) .nil)) (AOp.bin' rfl rfl rfl rfl ⟨rfl, rfl, rfl⟩)) ?_
  refine aOps_1 rfl rfl rfl (AOp.pickOr rfl rfl rfl (fun hb => gvE rfl (t_not hb)) ?_)
  refine aOps_1 rfl rfl rfl (AOp.move' (.inl rfl) rfl ?_)
  refine aOps_gd0 rfl rfl (wantF rfl rfl rfl) (fun hc => AOp.slots [(3, _)] (.cons rfl .nil) (AOp.fieldAddr' rfl (by decide) rfl ⟨rfl, rfl, rfl⟩)) ?_
  refine aOps_gd0 rfl rfl (wantF rfl rfl rfl) (fun hc => AOp.slots [(20, _)] (.cons (gvT rfl hc) .nil) ((by refine AOp.load1 (b := ?b27) (v := ?v27) rfl rfl ?hn27 ?hv27 ?hR27; (case hn27 => repeat (first | assumption | exact upd_same _ _ _ | refine (upd_other _ _ (by omega)).trans ?_)); (case hv27 => rfl); exact ⟨rfl, rfl, rfl⟩))) ?_
  refine aOps_gd0 rfl rfl (wantF rfl rfl rfl) (fun hc => AOp.slots [(3, _)] (.cons rfl .nil) (AOp.fieldAddr' rfl (by decide) rfl ⟨rfl, rfl, rfl⟩)) ?_
  refine aOps_gd0 rfl rfl (wantF rfl rfl rfl) (fun hc => AOp.slots [(22, _)] (.cons (gvT rfl hc) .nil) ((by refine AOp.load1 (b := ?b28) (v := ?v28) rfl rfl ?hn28 ?hv28 ?hR28; (case hn28 => repeat (first | assumption | exact upd_same _ _ _ | refine (upd_other _ _ (by omega)).trans ?_)); (case hv28 => rfl); exact ⟨rfl, rfl, rfl⟩))) ?_
  refine aOps_gd0 rfl rfl (wantF rfl rfl rfl) (fun hc => AOp.slots [(1, _)] (.cons rfl .nil) (AOp.move' (.inl rfl) rfl ⟨rfl, rfl, rfl⟩)) ?_
  refine aOps_gd0 rfl rfl (wantF rfl rfl rfl) (fun hc => AOp.slots [(23, _), (24, _)] (.cons (gvT rfl hc) (.cons (gvT rfl hc) .nil)) (AOp.bin' rfl rfl rfl rfl ⟨rfl, rfl, rfl⟩)) ?_
  refine aOps_gd0 rfl rfl (wantF rfl rfl rfl) (fun hc => AOp.slots [(21, _), (25, _)] (.cons (gvT rfl hc) (.cons (gvT rfl hc) .nil)) (AOp.neBool rfl rfl rfl ⟨rfl, rfl, rfl⟩)) ?_
  refine aOps_1 rfl rfl rfl (AOp.pickOr rfl rfl rfl (fun hb => gvE rfl (t_not hb)) ?_)
  refine aOps_1 rfl rfl rfl (AOp.move' (.inr rfl) rfl ?_)
  refine aOps_end ?_
  show ACode _ _ _ _ _ _
  refine ACode.cond rfl (fun c0 => ?_) (fun c0 => ?_)
  · skip
    refine ACode.seq ?_
    refine ACode.region' [0] (by kernel_rfl) rfl ?_
    refine aOps_1 rfl rfl rfl (AOp.move' (.inr rfl) rfl ?_)
    refine aOps_end ?_
    show ACode _ _ _ _ _ _
    refine ACode.ret ?_
    exact RetQ.one rfl rfl (by (repeat (first | exact sub_refl _ | assumption | refine sub_upd' ?_ (by ((repeat refine (upd_other _ _ (by omega)).trans ?_); first | exact hf _ (by omega))) | refine sub_over (by assumption) | refine sub_over0 ?_ | refine sub_trans (sub_same (by assumption)) ?_ | refine sub_dropu ?_ | refine sub_drop ?_ | refine sub_put ?_ (by repeat (first | assumption | exact upd_same _ _ _ | refine (upd_other _ _ (by omega)).trans ?_))))) stays (fun hk => ⟨(by rw [soundP, if_pos c0]), rfl, by omega⟩)
  · skip
    have hn0 : ¬ ((decide (z.nulls < 0) || decide (z.nulls > rows)) || !(z.some == decide (z.nulls < rows))) = true := by rw [c0]; decide
    refine ACode.seq ?_
    refine ACode.region' [0, 1, 2, 3] (by kernel_rfl) rfl ?_
    refine aOps_1 rfl rfl rfl (AOp.fieldAddr' rfl (by decide) rfl ?_)
    refine aOps_1 rfl rfl rfl ?_
    refine AOp.load1 (b := ?b29) (v := ?v29) rfl rfl ?hn29 ?hv29 ?hR29
    (case hn29 => repeat (first | assumption | exact upd_same _ _ _ | refine (upd_other _ _ (by omega)).trans ?_))
    (case hv29 => rfl)
    refine aOps_1 rfl rfl rfl (AOp.un' rfl rfl rfl ?_)
    refine aOps_1 rfl rfl rfl (AOp.move' (.inr rfl) rfl ?_)
    refine aOps_end ?_
    show ACode _ _ _ _ _ _
    refine ACode.cond rfl (fun c1 => ?_) (fun c1 => ?_)
    · try simp only [decide_eq_true_eq, decide_eq_false_iff_not, beq_iff_eq, beq_eq_false_iff_ne, ne_eq, bne_iff_ne, Bool.not_eq_true', Bool.not_eq_false', Int.not_lt, Int.not_le, gt_iff_lt, ge_iff_le, bne_eq_false_iff_eq, Bool.not_eq_eq_eq_not, Bool.not_true, Bool.not_false] at c1
      refine ACode.seq ?_
      refine ACode.region' [0, 1, 2, 3, 4, 5] (by kernel_rfl) rfl ?_
      refine aOps_1 rfl rfl rfl ?_
      refine AOp.loadAll (b := ?b30) (v := zv z) rfl rfl ?hn30 ?hv30 ?hw30 ?hz30 ?hR30
      (case hn30 => repeat (first | assumption | exact upd_same _ _ _ | refine (upd_other _ _ (by omega)).trans ?_))
      (case hv30 => rfl)
      (case hw30 => rfl)
      (case hz30 => first | rfl | (simp; done))
      refine aOps_1 rfl rfl rfl (AOp.fieldAddr' rfl (by decide) rfl ?_)
      refine aOps_1 rfl rfl rfl ?_
      refine AOp.load1 (b := ?b31) (v := ?v31) rfl rfl ?hn31 ?hv31 ?hR31
      (case hn31 => repeat (first | assumption | exact upd_same _ _ _ | refine (upd_other _ _ (by omega)).trans ?_))
      (case hv31 => rfl)
      refine aOps_1 rfl rfl rfl (AOp.buildS (cells := (zv ⟨z.nulls, false, vD, vD⟩).cells) rfl rfl rfl ?_)
      refine aOps_1 rfl rfl rfl (AOp.eqAgg (znEq z) rfl rfl rfl (zn_sc hz) (zn_sc (z := ⟨z.nulls, false, vD, vD⟩) ⟨hz.1, vD_ok, vD_ok⟩) (zn_iff z) ?_)
      refine aOps_1 rfl rfl rfl (AOp.move' (.inr rfl) rfl ?_)
      refine aOps_end ?_
      show ACode _ _ _ _ _ _
      refine ACode.ret ?_
      exact RetQ.one rfl rfl (by (repeat (first | exact sub_refl _ | assumption | refine sub_upd' ?_ (by ((repeat refine (upd_other _ _ (by omega)).trans ?_); first | exact hf _ (by omega))) | refine sub_over (by assumption) | refine sub_over0 ?_ | refine sub_trans (sub_same (by assumption)) ?_ | refine sub_dropu ?_ | refine sub_drop ?_ | refine sub_put ?_ (by repeat (first | assumption | exact upd_same _ _ _ | refine (upd_other _ _ (by omega)).trans ?_))))) stays (fun hk => ⟨(by rw [soundP, if_neg hn0, if_neg (by simp [c1])]), rfl, by omega⟩)
    · try simp only [decide_eq_true_eq, decide_eq_false_iff_not, beq_iff_eq, beq_eq_false_iff_ne, ne_eq, bne_iff_ne, Bool.not_eq_true', Bool.not_eq_false', Int.not_lt, Int.not_le, gt_iff_lt, ge_iff_le, bne_eq_false_iff_eq, Bool.not_eq_eq_eq_not, Bool.not_true, Bool.not_false] at c1
      refine ACode.skip ?_
      show ACode _ _ _ _ _ _
      refine ACode.seq ?_
      refine ACode.region' [0, 1, 2, 3, 4] (by kernel_rfl) rfl ?_
      refine aOps_1 rfl rfl rfl ?_
      refine AOp.load1 (b := ?b32) (v := ?v32) rfl rfl ?hn32 ?hv32 ?hR32
      (case hn32 => repeat (first | assumption | exact upd_same _ _ _ | refine (upd_other _ _ (by omega)).trans ?_))
      (case hv32 => rfl)
      refine aOps_1 rfl rfl rfl (AOp.buildS (cells := #[.int .i64 kind, .bool false, .int .i64 0]) rfl rfl rfl ?_)
      refine aOps_1 rfl rfl rfl (AOp.buildH (cols3 [⟨kind, false, 0⟩]) rfl rfl (by show 0 < 3; decide) (by show 3 ≤ 16777216; decide) rfl rfl ?_)
      refine aOps_1 rfl rfl rfl (AOp.alloc' rfl ?_)
      refine aOps_0 rfl rfl rfl ?_
      refine AOp.store1 (b := ?b33) rfl rfl rfl ?hn33 ?hk33 rfl rfl ?hl33 ?hR33
      (case hn33 => repeat (first | assumption | exact upd_same _ _ _ | refine (upd_other _ _ (by omega)).trans ?_))
      (case hk33 => rfl)
      (case hl33 => first | (simp; done) | exact Nat.le_of_ble_eq_true rfl)
      refine aOps_end ?_
      show ACode _ _ _ _ _ _
      refine ACode.seq ?_
      refine ACode.region' [0, 1] (by kernel_rfl) rfl ?_
      refine aOps_1 rfl rfl rfl (AOp.makeFunc' rfl rfl ?_)
      refine aOps_1 rfl rfl rfl (AOp.move' (.inr rfl) rfl ?_)
      refine aOps_end ?_
      show ACode _ _ _ _ _ _
      refine ACode.seq ?_
      refine ACode.region' [0, 1, 2, 3, 4, 5, 6, 7, 8, 9, 10, 11, 12, 13, 14, 15, 16, 17, 18, 19, 20, 21, 22, 23, 24, 25, 26] (by kernel_rfl) rfl ?_
      refine aOps_1 rfl rfl rfl ?_
      refine AOp.load1 (b := ?b34) (v := ?v34) rfl rfl ?hn34 ?hv34 ?hR34
      (case hn34 => repeat (first | assumption | exact upd_same _ _ _ | refine (upd_other _ _ (by omega)).trans ?_))
      (case hv34 => rfl)
      refine aOps_1 rfl rfl rfl (AOp.bin' rfl rfl rfl rfl ?_)
      refine aOps_1 rfl rfl rfl (AOp.move' (.inl rfl) rfl ?_)
      refine aOps_gd0 rfl rfl (wantF rfl rfl rfl) (fun hc => AOp.slots [(5, _)] (.cons rfl .nil) ((by refine AOp.load1 (b := ?b35) (v := ?v35) rfl rfl ?hn35 ?hv35 ?hR35; (case hn35 => repeat (first | assumption | exact upd_same _ _ _ | refine (upd_other _ _ (by omega)).trans ?_)); (case hv35 => rfl); exact ⟨rfl, rfl, rfl⟩))) ?_
      refine aOps_gd0 rfl rfl (wantF rfl rfl rfl) (fun hc => AOp.slots [(44, _)] (.cons (gvT rfl hc) .nil) (AOp.bin' rfl rfl rfl rfl ⟨rfl, rfl, rfl⟩)) ?_
      refine aOps_1 rfl rfl rfl (AOp.pickOr rfl rfl rfl (fun hb => gvE rfl (t_not hb)) ?_)
      refine aOps_1 rfl rfl rfl (AOp.move' (.inl rfl) rfl ?_)
      refine aOps_gd0 rfl rfl (wantT rfl rfl rfl) (fun hc => AOp.slots [(8, _)] (.cons rfl .nil) (AOp.move' (.inl rfl) rfl ⟨rfl, rfl, rfl⟩)) ?_
      refine aOps_gd0 rfl rfl (wantT rfl rfl rfl) (fun hc => AOp.slots [(3, _)] (.cons rfl .nil) (AOp.fieldAddr' rfl (by decide) rfl ⟨rfl, rfl, rfl⟩)) ?_
      refine aOps_gd0 rfl rfl (wantT rfl rfl rfl) (fun hc => AOp.slots [(49, _)] (.cons (gvT rfl hc) .nil) (AOp.loadN (b := zblk z) (cs := [.int .i64 z.min.kind, .int .i64 z.min.n, .string z.min.s]) rfl rfl (by repeat (first | assumption | exact upd_same _ _ _ | refine (upd_other _ _ (by omega)).trans ?_)) (by show 2 + 3 ≤ 8; decide) rfl ⟨rfl, rfl, rfl⟩)) ?_
      refine aOps_gd rfl rfl (wantT rfl rfl rfl) (fun hc => AOp.slots [(48, _), (50, _)] (.cons (gvT rfl hc) (.cons (gvT rfl hc) .nil)) (AOp.call' rfl rfl rfl (sound1_b _ _ z.min hz.2.1 kind (k + 1) (k + 2 + 1) (k + 2) (by repeat (first | assumption | exact upd_same _ _ _ | refine (upd_other _ _ (by omega)).trans ?_)) (by repeat (first | assumption | exact upd_same _ _ _ | refine (upd_other _ _ (by omega)).trans ?_)) (by repeat (first | assumption | exact upd_same _ _ _ | refine (upd_other _ _ (by omega)).trans ?_))) (fun _ _ _ h => h))) (fun kq hkq => ?_)
      refine aOps_1 rfl rfl rfl (AOp.pickAnd rfl rfl rfl (fun hb => gvE rfl hb) ?_)
      refine aOps_1 rfl rfl rfl (AOp.move' (.inl rfl) rfl ?_)
      refine aOps_gd0 rfl rfl (wantT rfl rfl rfl) (fun hc => AOp.slots [(8, _)] (.cons rfl .nil) (AOp.move' (.inl rfl) rfl ⟨rfl, rfl, rfl⟩)) ?_
      refine aOps_gd0 rfl rfl (wantT rfl rfl rfl) (fun hc => AOp.slots [(3, _)] (.cons rfl .nil) (AOp.fieldAddr' rfl (by decide) rfl ⟨rfl, rfl, rfl⟩)) ?_
      refine aOps_gd0 rfl rfl (wantT rfl rfl rfl) (fun hc => AOp.slots [(55, _)] (.cons (gvT rfl hc) .nil) (AOp.loadN (b := zblk z) (cs := [.int .i64 z.max.kind, .int .i64 z.max.n, .string z.max.s]) rfl rfl (by repeat (first | assumption | exact upd_same _ _ _ | refine (upd_other _ _ (by omega)).trans ?_)) (by show 5 + 3 ≤ 8; decide) rfl ⟨rfl, rfl, rfl⟩)) ?_
      refine aOps_gd rfl rfl (wantT rfl rfl rfl) (fun hc => AOp.slots [(54, _), (56, _)] (.cons (gvT rfl hc) (.cons (gvT rfl hc) .nil)) (AOp.call' rfl rfl rfl (sound1_b _ _ z.max hz.2.2 kind (k + 1) (k + 2 + 1) (k + 2) (by repeat (first | assumption | exact upd_same _ _ _ | refine (upd_other _ _ (by omega)).trans ?_)) (by repeat (first | assumption | exact upd_same _ _ _ | refine (upd_other _ _ (by omega)).trans ?_)) (by repeat (first | assumption | exact upd_same _ _ _ | refine (upd_other _ _ (by omega)).trans ?_))) (fun _ _ _ h => h))) (fun kq hkq => ?_)
      refine aOps_1 rfl rfl rfl (AOp.pickAnd rfl rfl rfl (fun hb => gvE rfl hb) ?_)
      refine aOps_1 rfl rfl rfl (AOp.move' (.inl rfl) rfl ?_)
      refine aOps_gd0 rfl rfl (wantT rfl rfl rfl) (fun hc => AOp.slots [(3, _)] (.cons rfl .nil) (AOp.fieldAddr' rfl (by decide) rfl ⟨rfl, rfl, rfl⟩)) ?_
      refine aOps_gd0 rfl rfl (wantT rfl rfl rfl) (fun hc => AOp.slots [(60, _)] (.cons (gvT rfl hc) .nil) (AOp.loadN (b := zblk z) (cs := [.int .i64 z.min.kind, .int .i64 z.min.n, .string z.min.s]) rfl rfl (by repeat (first | assumption | exact upd_same _ _ _ | refine (upd_other _ _ (by omega)).trans ?_)) (by show 2 + 3 ≤ 8; decide) rfl ⟨rfl, rfl, rfl⟩)) ?_
      refine aOps_gd0 rfl rfl (wantT rfl rfl rfl) (fun hc => AOp.slots [(3, _)] (.cons rfl .nil) (AOp.fieldAddr' rfl (by decide) rfl ⟨rfl, rfl, rfl⟩)) ?_
      refine aOps_gd0 rfl rfl (wantT rfl rfl rfl) (fun hc => AOp.slots [(62, _)] (.cons (gvT rfl hc) .nil) (AOp.loadN (b := zblk z) (cs := [.int .i64 z.max.kind, .int .i64 z.max.n, .string z.max.s]) rfl rfl (by repeat (first | assumption | exact upd_same _ _ _ | refine (upd_other _ _ (by omega)).trans ?_)) (by show 5 + 3 ≤ 8; decide) rfl ⟨rfl, rfl, rfl⟩)) ?_
      refine aOps_gd rfl rfl (wantT rfl rfl rfl) (fun hc => AOp.slots [(61, _), (63, _)] (.cons (gvT rfl hc) (.cons (gvT rfl hc) .nil)) (AOp.call' rfl rfl rfl (cmp_val 3 _ _ z.min z.max) (fun _ _ _ h => h))) (fun kq hkq => ?_)
      refine aOps_gd0 rfl rfl (wantT rfl rfl rfl) (fun hc => AOp.slots [(64, _)] (.cons (gvT rfl hc) .nil) (AOp.bin' rfl rfl rfl rfl ⟨rfl, rfl, rfl⟩)) ?_
      refine aOps_1 rfl rfl rfl (AOp.pickAnd rfl rfl rfl (fun hb => gvE rfl hb) ?_)
      refine aOps_1 rfl rfl rfl (AOp.move' (.inr rfl) rfl ?_)
      refine aOps_end ?_
      show ACode _ _ _ _ _ _
      refine ACode.ret ?_
      exact RetQ.one rfl rfl (by (repeat (first | exact sub_refl _ | assumption | refine sub_upd' ?_ (by ((repeat refine (upd_other _ _ (by omega)).trans ?_); first | exact hf _ (by omega))) | refine sub_over (by assumption) | refine sub_over0 ?_ | refine sub_trans (sub_same (by assumption)) ?_ | refine sub_dropu ?_ | refine sub_drop ?_ | refine sub_put ?_ (by repeat (first | assumption | exact upd_same _ _ _ | refine (upd_other _ _ (by omega)).trans ?_))))) stays (fun hk => ⟨(by rw [soundP, if_neg hn0, if_pos c1]), rfl, by omega⟩)
end

end Go.Proofs.YtnciojaecelhmaaDoor
