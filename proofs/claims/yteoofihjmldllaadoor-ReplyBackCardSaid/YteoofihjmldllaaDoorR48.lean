/- What a reply's reader takes of a form, and of more than it, in plain Lean. No condition. -/
import Derived.Test.YteoofihjmldllaaDoorRPb
import Derived.Test.YteoofihjmldllaaDoorR47
import Derived.Test.YteoofihjmldllaaDoorR43
import Derived.Test.YteoofihjmldllaaDoorR35
set_option linter.unusedVariables false
set_option linter.unusedSimpArgs false
set_option maxRecDepth 100000
namespace Go.Proofs.YteoofihjmldllaaDoor
open Go Go.Ab
theorem rd0_has (x : List UInt8) : (rd0 x).has x := ⟨rfl, Nat.zero_le _, List.drop_zero⟩
section
variable {r : Rp} (hf : formedR soundR r = true) (ho : r.ok)
include hf ho
theorem take_put : takeRp (rpB r) = (r, 0, 0) := by
 have h := rp_put (y := []) hf ho (rd := rd0 (rpB r)) (by rw [List.append_nil]; exact rd0_has _)
 have e : (rp8 (rd0 (rpB r))).2.end_ = (0, 0) := by
  rw [h.2]
  show (if (0 : Int) = 0 ∧ 0 + (rpB r).length < (rpB r).length then _ else _) = _
  rw [if_neg Wz]
  rfl
 unfold takeRp
 rw [e, if_neg (fun x => x rfl), h.1]
theorem take_more : (takeRp (rpB r ++ [0])).2.1 = 3 := by
 have h := rp_put (y := [0]) hf ho (rd := rd0 (rpB r ++ [0])) (rd0_has _)
 have e : (rp8 (rd0 (rpB r ++ [0]))).2.end_.1 = 3 := by
  rw [h.2]
  show (if (0 : Int) = 0 ∧ 0 + (rpB r).length < (rpB r ++ [0]).length then _ else _ : Int × Int).1 = 3
  rw [if_pos ⟨rfl, by rw [List.length_append, List.length_singleton]; omega⟩]
 unfold takeRp
 rw [if_pos (by rw [e]; decide)]
 exact e
end
end Go.Proofs.YteoofihjmldllaaDoor

/- Contracts over the abstract states: the document's example of replies; sizes of replies. -/
set_option linter.unusedVariables false
set_option linter.unusedSimpArgs false
set_option maxRecDepth 100000
namespace Go.Proofs.YteoofihjmldllaaDoor
open Go Go.Ab

def r00 : Rp := ⟨1, zeroD, zeroE, [], [⟨1, false, -1⟩], []⟩
theorem r00_formed : formedR soundR r00 = true := by decide +kernel
theorem r00_put : putRp r00 = (rpB r00, 0) := if_pos r00_formed
theorem r00_last : ∃ pre, rpB r00 = pre ++ [0] := by
 refine ⟨varB 1 ++ (zeroD.l ++ (schB [⟨1, false, -1⟩] ++ (formB zeroE ++ (varB 0 ++ [])))), ?_⟩
 have e : varB 0 = [0] := varB_small Dz
 show varB 1 ++ (zeroD.l ++ (schB [⟨1, false, -1⟩] ++ (formB zeroE ++ (varB 0 ++ ([] ++ (varB 0 ++ [])))))) = _
 rw [e]
 simp only [List.append_assoc, List.nil_append, List.append_nil]
theorem r00_ok : r00.ok := ⟨rfl, by decide, by decide, fun a ha => by rw [List.mem_singleton.1 ha]; exact ⟨rfl, rfl⟩, by decide, fun x hx => (nomatch hx)⟩
theorem r00_sm : r00.sm := ⟨by decide, by decide, by decide, fun x hx => (nomatch hx)⟩
theorem r00_take : takeRp (rpB r00) = (r00, 0, 0) := take_put r00_formed r00_ok
theorem r00_len : (rpB r00).length ≤ 1000000000 := by decide +kernel
section
variable (H : Hp) (k : Nat)

set_option maxHeartbeats 1000000 in
theorem awake29 (h2 : H 1 = some hBlk) : ACalls Tryd.prog 3 29 [] H k (Same H k (.bool true)) := by
 refine ACalls.fresh fun hf => ?_
 refine ACalls.body Tryd.func29 rfl (Nat.le_of_ble_eq_true rfl) ?_
 have h2k := old_lt hf h2
 obtain ⟨pre, hpre⟩ := r00_last
 have ht := r00_take
 have hl := r00_len
 have hp := r00_put
 rw [hpre] at ht hl hp
 have hlen : (pre ++ [(0 : UInt8)]).length = pre.length + 1 := List.length_append
 refine Sz ?_
 refine Rz [0] Kz rfl ?_
 refine Nz ?_
 refine Ez (Sz (Rz [0, 1, 2, 3, 4] Kz rfl ?_))
 refine Oz rfl rfl rfl (AOp.buildS (cells := (cc ⟨1, false, -1⟩).cells) rfl rfl rfl ?_)
 refine Oz rfl rfl rfl (AOp.buildH (cols3 [⟨1, false, -1⟩]) rfl rfl (by show 0 < 3; decide) (by show 3 ≤ 16777216; decide) rfl rfl ?_)
 refine Oz rfl rfl rfl (AOp.buildS (cells := (rpc r00 NIL (.slice (some ⟨k, 0, some 1⟩) 1 1) NIL).toArray) rfl rfl rfl ?_)
 refine Oz rfl rfl rfl (AOp.alloc' rfl ?_)
 refine aOps_0 rfl rfl rfl ?_
 refine AOp.storeAll (b := ?b1) rfl rfl rfl ?hn1 ?hk1 rfl ?hw1 ?ho1 ?hl1 ?hR1
 (case hn1 => exact hpB)
 (case hk1 => rfl)
 (case hw1 => first | rfl | exact hv_size _ | exact one_bv _ | exact rpv_size _ _ _ _ | exact rp_one _ _ _ _ rfl rfl rfl | (simp; done))
 (case ho1 => first | rfl | exact hv_size _ | exact one_bv _ | exact rpv_size _ _ _ _ | exact rp_one _ _ _ _ rfl rfl rfl | decide | (simp; done))
 (case hl1 => first | rfl | exact hv_size _ | exact one_bv _ | exact rpv_size _ _ _ _ | exact rp_one _ _ _ _ rfl rfl rfl | (simp; done))
 rw [rd_upd2]
 refine Ez ?_
 refine Sz ?_
 have hv1 : RpV (upd (upd H k (some (cblk [⟨1, false, -1⟩]))) (k + 1) (some (rpblk r00 NIL (.slice (some ⟨k, 0, some 1⟩) 1 1) NIL))) r00 (rpv r00 NIL (.slice (some ⟨k, 0, some 1⟩) 1 1) NIL) := ⟨none, 0, _, _, none, 0, [], rfl, SLC.nil, SLC.cblk (Uz (upd_same _ _ _)), SLC.nil, Sps.nil⟩
 refine Rz [0, 1, 2, 3, 4, 5, 6] Kz rfl ?_
 refine Oz rfl rfl rfl ?_
 refine AOp.loadAll (b := ?b2) (v := rpv r00 NIL (.slice (some ⟨k, 0, some 1⟩) 1 1) NIL) rfl rfl ?hn2 ?hv2 ?hw2 ?hz2 ?hR2
 (case hn2 => exact hpB)
 (case hv2 => rfl)
 (case hw2 => rfl)
 (case hz2 => first | rfl | exact hv_size _ | exact one_bv _ | exact rpv_size _ _ _ _ | exact rp_one _ _ _ _ rfl rfl rfl | (simp; done))
 refine Oz rfl rfl rfl ?_
 refine AOp.call' rfl rfl rfl (putN _ _ r00 r00_ok r00_sm _ hv1) ?_
 rw [hp]
 dsimp only
 rintro _ HLp kp ⟨w, rfl, ⟨Aw, cw, rfl, hw1, hw1a⟩, hkp, hfLp, hsLp⟩
 have thsLp := SubS.of hsLp
 have hGp : HLp 1 = some hBlk := hsLp _ _ (Uz (Uz h2))
 refine Mz ?_
 refine Oz rfl rfl rfl (AOp.extract' rfl rfl rfl ?_)
 refine Oz rfl rfl rfl (AOp.extract' rfl rfl rfl ?_)
 refine Nz ?_
 refine Nz ?_
 refine Ez (Sz (Rz [0, 1, 2, 3, 4, 5, 6, 7, 8, 9] Kz rfl ?_))
 refine Mz ?_
 refine Oz rfl rfl rfl ?_
 refine AOp.call' rfl rfl rfl (takeN _ _ hGp (pre ++ [0]) Aw cw hw1 hl) ?_
 rw [ht]
 dsimp only
 rintro _ HLt kt ⟨u, rfl, hu, hkt, hfLt, hsLt⟩
 have thsLt := SubS.of hsLt
 have hu2 := hu
 obtain ⟨yA, ya, yB, yb, yC, yc, ys, rfl, _⟩ := hu2
 refine Mz ?_
 refine Oz rfl rfl rfl (AOp.extract' rfl rfl rfl ?_)
 refine Oz rfl rfl rfl (AOp.extract' rfl rfl rfl ?_)
 refine Oz rfl rfl rfl (AOp.extract' rfl rfl rfl ?_)
 refine Oz rfl rfl rfl (AOp.alloc' rfl ?_)
 refine aOps_0 rfl rfl rfl ?_
 refine AOp.storeAll (b := ?b3) rfl rfl rfl ?hn3 ?hk3 rfl ?hw3 ?ho3 ?hl3 ?hR3
 (case hn3 => exact hpB)
 (case hk3 => rfl)
 (case hw3 => first | rfl | exact hv_size _ | exact one_bv _ | exact rpv_size _ _ _ _ | exact rp_one _ _ _ _ rfl rfl rfl | (simp; done))
 (case ho3 => first | rfl | exact hv_size _ | exact one_bv _ | exact rpv_size _ _ _ _ | exact rp_one _ _ _ _ rfl rfl rfl | decide | (simp; done))
 (case hl3 => first | rfl | exact hv_size _ | exact one_bv _ | exact rpv_size _ _ _ _ | exact rp_one _ _ _ _ rfl rfl rfl | (simp; done))
 refine Nz ?_
 refine Nz ?_
 rw [rd_upd2]
 refine Ez ?_
 refine Sz ?_
 obtain ⟨ne, oe, pe, qe, le⟩ := slcElD bv (i := (pre ++ [(0 : UInt8)]).length - 1) 0 (hw1.sub hsLt).cells Wz
 have hls : ((pre ++ [0]).getD ((pre ++ [0]).length - 1) 0) = 0 := by rw [hlen, Nat.add_sub_cancel]; simp
 refine Rz [0, 1, 2, 3, 4, 5, 6, 7, 8, 9, 10, 11, 12, 13, 14, 15, 16, 17, 18, 19, 20, 21, 22, 23, 24, 25] Kz rfl ?_
 refine Mz ?_
 refine Oz rfl rfl rfl (AOp.bin' rfl rfl rfl rfl ?_)
 refine Mz ?_
 refine aOps_gd0 rfl rfl (wantT rfl rfl rfl) (fun hc => AOp.slots [(5, _)] (.cons rfl .nil) (AOp.move' (.inl rfl) rfl Tz)) ?_
 refine aOps_gd0 rfl rfl (wantT rfl rfl rfl) (fun hc => AOp.slots [(24, _)] (.cons (gvT rfl hc) .nil) (AOp.bin' rfl rfl rfl rfl Tz)) ?_
 refine Oz rfl rfl rfl (AOp.pickAnd rfl rfl rfl (fun hb => gvE rfl hb) ?_)
 refine Mz ?_
 refine aOps_gd0 rfl rfl (wantT rfl rfl rfl) (fun hc => AOp.slots [(2, _)] (.cons rfl .nil) (AOp.move' (.inl rfl) rfl Tz)) ?_
 refine aOps_gd0 rfl rfl (wantT rfl rfl rfl) (fun hc => AOp.slots [(28, _)] (.cons (gvT rfl hc) .nil) (AOp.len' rfl rfl Tz)) ?_
 refine aOps_gd0 rfl rfl (wantT rfl rfl rfl) (fun hc => AOp.slots [(29, _)] (.cons (gvT rfl hc) .nil) (AOp.bin' rfl rfl rfl rfl Tz)) ?_
 refine Oz rfl rfl rfl (AOp.pickAnd rfl rfl rfl (fun hb => gvE rfl hb) ?_)
 refine Mz ?_
 refine aOps_gd0 rfl rfl (wantT rfl rfl rfl) (fun hc => AOp.slots [(2, _)] (.cons rfl .nil) (AOp.move' (.inl rfl) rfl Tz)) ?_
 refine aOps_gd0 rfl rfl (wantT rfl rfl rfl) (fun hc => AOp.slots [(2, _)] (.cons rfl .nil) (AOp.move' (.inl rfl) rfl Tz)) ?_
 refine aOps_gd0 rfl rfl (wantT rfl rfl rfl) (fun hc => AOp.slots [(34, _)] (.cons (gvT rfl hc) .nil) (AOp.len' rfl rfl Tz)) ?_
 refine aOps_gd0 rfl rfl (wantT rfl rfl rfl) (fun hc => AOp.slots [(35, _)] (.cons (gvT rfl hc) .nil) (AOp.bin' (z := .int .i64 (((pre ++ [(0 : UInt8)]).length - 1 : Nat) : Int)) rfl rfl rfl (congrArg (fun z => some (Value.int .i64 z)) (by show IntKind.i64.wrap _ = _; rw [i64_wrap Wz Wz]; omega)) Tz)) ?_
 refine aOps_gd0 rfl rfl (wantT rfl rfl rfl) (fun hc => AOp.slots [(33, _), (36, _)] (.cons (gvT rfl hc) (.cons (gvT rfl hc) .nil)) (AOp.indexP (aslcAt_sub subB qe) rfl rfl rfl Tz)) ?_
 refine aOps_gd0 rfl rfl (wantT rfl rfl rfl) (fun hc => AOp.slots [(37, _)] (.cons (gvT rfl hc) .nil) (AOp.loadP0 (PAt.sub le subB) rfl rfl rfl Tz)) ?_
 refine aOps_gd0 rfl rfl (wantT rfl rfl rfl) (fun hc => AOp.slots [(38, _)] (.cons (gvT rfl hc) .nil) (AOp.bin' rfl rfl rfl rfl Tz)) ?_
 refine Oz rfl rfl rfl (AOp.pickAnd rfl rfl rfl (fun hb => gvE rfl hb) ?_)
 refine Mz ?_
 refine aOps_gd0 rfl rfl (wantT rfl rfl rfl) (fun hc => AOp.slots [(1, _)] (.cons rfl .nil) ((by refine AOp.loadAll (b := ?b4) (v := rpv r00 NIL (.slice (some ⟨k, 0, some 1⟩) 1 1) NIL) rfl rfl ?hn4 ?hv4 ?hw4 ?hz4 ?hR4; (case hn4 => exact hpB); (case hv4 => rfl); (case hw4 => rfl); (case hz4 => first | rfl | exact hv_size _ | exact one_bv _ | exact rpv_size _ _ _ _ | exact rp_one _ _ _ _ rfl rfl rfl | (simp; done)); exact Tz))) ?_
 refine aOps_gd0 rfl rfl (wantT rfl rfl rfl) (fun hc => AOp.slots [(4, _)] (.cons rfl .nil) ((by refine AOp.loadAll (b := ?b5) (v := rpv r00 (.slice yA r00.path.length ya) (.slice yB r00.sch.length yb) (.slice yC r00.blocks.length yc)) rfl rfl ?hn5 ?hv5 ?hw5 ?hz5 ?hR5; (case hn5 => exact hpB); (case hv5 => rfl); (case hw5 => rfl); (case hz5 => first | rfl | exact hv_size _ | exact one_bv _ | exact rpv_size _ _ _ _ | exact rp_one _ _ _ _ rfl rfl rfl | (simp; done)); exact Tz))) ?_
 refine aOps_gd rfl rfl (wantT rfl rfl rfl) (fun hc => AOp.slots [(42, _), (43, _)] (.cons (gvT rfl hc) (.cons (gvT rfl hc) .nil)) (AOp.call' rfl rfl rfl (sameRp _ _ r00 r00_ok _ _ ((hv1.sub (sub_trans hsLp hsLt)).sub subB) (hu.sub subB)) Iz)) (fun kq hkq => ?_)
 refine Oz rfl rfl rfl (AOp.pickAnd rfl rfl rfl (fun hb => gvE rfl hb) ?_)
 refine Nz ?_
 refine Ez ?_
 refine ACode.ret ?_
 exact RetQ.one rfl rfl subB stays (fun hk => ⟨(by simp [hls]), rfl, by omega⟩)
end

end Go.Proofs.YteoofihjmldllaaDoor
