/- Contracts over the abstract states: ReplyTakes. -/
import Derived.Test.YteoofihjmldllaaGreatDoorR48
import Derived.Test.YteoofihjmldllaaGreatDoorR44
set_option linter.unusedVariables false
set_option linter.unusedSimpArgs false
set_option maxRecDepth 100000
namespace Go.Proofs.YteoofihjmldllaaGreatDoor
open Go Go.Ab

theorem takeRp_ok {bs : List UInt8} (hl : bs.length ≤ 1000000000) : (takeRp bs).1.ok ∧ (takeRp bs).2.1 ≤ 100 ∧ 0 ≤ (takeRp bs).2.1 := by
 have h0 : (rd0 bs).ok := ⟨Nat.zero_le _, hl, Int.le_refl 0, (by decide : (0 : Int) ≤ 100), Int.le_refl 0, (by decide : (0 : Int) ≤ 1000000000), fun _ => rfl⟩
 have h8 := (rp8_all h0).1
 unfold takeRp
 split
 ·refine ⟨⟨rfl, Nat.zero_le _, Nat.zero_le _, fun a ha => (nomatch ha), Nat.zero_le _, fun x hx => (nomatch hx)⟩, ?_⟩
  show (rp8 (rd0 bs)).2.end_.1 ≤ 100 ∧ 0 ≤ (rp8 (rd0 bs)).2.end_.1
  generalize (rp8 (rd0 bs)).2 = r at h8
  unfold Rd.end_
  split
  ·exact ⟨(by decide : (3 : Int) ≤ 100), (by decide : (0 : Int) ≤ 3)⟩
  ·exact ⟨h8.e1, h8.e0⟩
 ·exact ⟨rpOf_ok h0, (by decide : (0 : Int) ≤ 100), Int.le_refl 0⟩
section
variable (H : Hp) (k : Nat)

set_option maxHeartbeats 1000000 in
theorem replyTakes (h2 : H 0 = some hBlk) (bs : List UInt8) (A : Option Addr) (c : Nat) (hD : SLC H 1 A bs.length c (bs.map bv)) (hbl : bs.length ≤ 9223372036854775807) : ACalls Tryz.prog 2 4 [.slice A bs.length c] H k (fun v _ _ => v = .bool true) := by
 refine ACalls.fresh fun hf => ?_
 refine ACalls.body Tryz.func4 rfl (Nat.le_of_ble_eq_true rfl) ?_
 have h2k := old_lt hf h2
 refine Sz ?_
 refine Rz [0] Kz rfl ?_
 refine Nz ?_
 refine Ez ?_
 refine Sz ?_
 refine Sz ?_
 refine Rz [0, 1, 2] Kz rfl ?_
 refine Mz ?_
 refine Oz rfl rfl rfl (AOp.len' rfl rfl ?_)
 refine Oz rfl rfl rfl (AOp.bin' rfl rfl rfl rfl ?_)
 refine Ez ?_
 refine ACode.cond rfl (fun c0 => ?_) (fun c0 => ?_)
 ·skip
  refine Sz ?_
  refine Rz [0, 1] Kz rfl ?_
  refine aOps_q rfl rfl rfl (AOp.call' rfl rfl rfl (awake29 _ _ hpB) Iz) (fun kq hkq => ?_)
  refine Nz ?_
  refine Ez ?_
  refine ACode.ret ?_
  try simp only [thenA, blockA, if_true]
  exact RetQ.one rfl rfl subB stays (fun hk => rfl)
 ·skip
  have c0b : bs.length ≤ 6000 := by simp at c0; omega
  have hto := takeRp_ok (bs := bs) Wz
  obtain ⟨T, hT⟩ : ∃ T, T = takeRp bs := ⟨_, rfl⟩
  rw [← hT] at hto
  refine ACode.skip ?_
  refine Sz ?_
  refine Rz [0, 1, 2, 3, 4, 5, 6, 7, 8, 9] Kz rfl ?_
  refine Mz ?_
  refine Oz rfl rfl rfl ?_
  refine AOp.call' rfl rfl rfl (takeN _ _ hpB bs A c (hD.sub subB) Wz) ?_
  rw [← hT]
  rintro _ HLx kx ⟨cx, rfl, hx_, hkx, hfLx, hsLx⟩
  have thsLx := SubS.of hsLx
  have hx2 := hx_
  obtain ⟨xA, xa, xB, xb, xC, xc, xs, rfl, _⟩ := hx2
  refine Mz ?_
  refine Oz rfl rfl rfl (AOp.extract' rfl rfl rfl ?_)
  refine Oz rfl rfl rfl (AOp.extract' rfl rfl rfl ?_)
  refine Oz rfl rfl rfl (AOp.extract' rfl rfl rfl ?_)
  refine Oz rfl rfl rfl (AOp.alloc' rfl ?_)
  refine aOps_0 rfl rfl rfl ?_
  refine AOp.storeAll (b := ?b1) rfl rfl rfl ?hn1 ?hk1 rfl ?hw1 ?ho1 ?hl1 ?hR1
  (case hn1 => exact hpB)
  (case hk1 => rfl)
  (case hw1 => first | rfl | exact rpv_size _ _ _ _ | exact rp_one _ _ _ _ rfl rfl rfl | (simp; done))
  (case ho1 => first | rfl | exact rpv_size _ _ _ _ | exact rp_one _ _ _ _ rfl rfl rfl | decide | (simp; done))
  (case hl1 => first | rfl | exact rpv_size _ _ _ _ | exact rp_one _ _ _ _ rfl rfl rfl | (simp; done))
  refine Nz ?_
  refine Nz ?_
  rw [rd_upd2]
  refine Ez (Sz (Rz [0, 1, 2, 3, 4, 5, 6, 7, 8, 9] Kz rfl ?_))
  refine Mz ?_
  refine Oz rfl rfl rfl ?_
  refine AOp.call' rfl rfl rfl (takeF _ _ bs A c (hD.sub subB) Wz) ?_
  rw [← hT]
  rintro _ HLy ky ⟨cy, rfl, hy_, hky, hfLy, hsLy⟩
  have thsLy := SubS.of hsLy
  have hy2 := hy_
  obtain ⟨yA, ya, yB, yb, yC, yc, ys, rfl, _⟩ := hy2
  refine Mz ?_
  refine Oz rfl rfl rfl (AOp.extract' rfl rfl rfl ?_)
  refine Oz rfl rfl rfl (AOp.extract' rfl rfl rfl ?_)
  refine Oz rfl rfl rfl (AOp.extract' rfl rfl rfl ?_)
  refine Oz rfl rfl rfl (AOp.alloc' rfl ?_)
  refine aOps_0 rfl rfl rfl ?_
  refine AOp.storeAll (b := ?b2) rfl rfl rfl ?hn2 ?hk2 rfl ?hw2 ?ho2 ?hl2 ?hR2
  (case hn2 => exact hpB)
  (case hk2 => rfl)
  (case hw2 => first | rfl | exact rpv_size _ _ _ _ | exact rp_one _ _ _ _ rfl rfl rfl | (simp; done))
  (case ho2 => first | rfl | exact rpv_size _ _ _ _ | exact rp_one _ _ _ _ rfl rfl rfl | decide | (simp; done))
  (case hl2 => first | rfl | exact rpv_size _ _ _ _ | exact rp_one _ _ _ _ rfl rfl rfl | (simp; done))
  refine Nz ?_
  refine Nz ?_
  rw [rd_upd2]
  refine Ez (Sz (Rz [0, 1, 2, 3, 4, 5, 6, 7, 8, 9, 10, 11, 12, 13, 14, 15, 16] Kz rfl ?_))
  refine Oz rfl rfl rfl ?_
  refine AOp.loadAll (b := ?b3) (v := rpv T.1 (.slice xA T.1.path.length xa) (.slice xB T.1.sch.length xb) (.slice xC T.1.blocks.length xc)) rfl rfl ?hn3 ?hv3 ?hw3 ?hz3 ?hR3
  (case hn3 => exact hpB)
  (case hv3 => rfl)
  (case hw3 => rfl)
  (case hz3 => first | rfl | exact rpv_size _ _ _ _ | exact rp_one _ _ _ _ rfl rfl rfl | (simp; done))
  refine Oz rfl rfl rfl ?_
  refine AOp.loadAll (b := ?b4) (v := rpv T.1 (.slice yA T.1.path.length ya) (.slice yB T.1.sch.length yb) (.slice yC T.1.blocks.length yc)) rfl rfl ?hn4 ?hv4 ?hw4 ?hz4 ?hR4
  (case hn4 => exact hpB)
  (case hv4 => rfl)
  (case hw4 => rfl)
  (case hz4 => first | rfl | exact rpv_size _ _ _ _ | exact rp_one _ _ _ _ rfl rfl rfl | (simp; done))
  refine aOps_q rfl rfl rfl (AOp.call' rfl rfl rfl (sameRp _ _ T.1 hto.1 _ _ (hx_.sub subB) (hy_.sub subB)) Iz) (fun kq hkq => ?_)
  refine Mz ?_
  refine aOps_gd0 rfl rfl (wantT rfl rfl rfl) (fun hc => AOp.slots [(4, _)] (.cons rfl .nil) (AOp.move' (.inl rfl) rfl Tz)) ?_
  refine aOps_gd0 rfl rfl (wantT rfl rfl rfl) (fun hc => AOp.slots [(7, _)] (.cons rfl .nil) (AOp.move' (.inl rfl) rfl Tz)) ?_
  refine aOps_gd0 rfl rfl (wantT rfl rfl rfl) (fun hc => AOp.slots [(29, _), (30, _)] (.cons (gvT rfl hc) (.cons (gvT rfl hc) .nil)) (AOp.bin' rfl rfl rfl rfl Tz)) ?_
  refine Oz rfl rfl rfl (AOp.pickAnd rfl rfl rfl (fun hb => gvE rfl hb) ?_)
  refine Mz ?_
  refine aOps_gd0 rfl rfl (wantT rfl rfl rfl) (fun hc => AOp.slots [(5, _)] (.cons rfl .nil) (AOp.move' (.inl rfl) rfl Tz)) ?_
  refine aOps_gd0 rfl rfl (wantT rfl rfl rfl) (fun hc => AOp.slots [(8, _)] (.cons rfl .nil) (AOp.move' (.inl rfl) rfl Tz)) ?_
  refine aOps_gd0 rfl rfl (wantT rfl rfl rfl) (fun hc => AOp.slots [(34, _), (35, _)] (.cons (gvT rfl hc) (.cons (gvT rfl hc) .nil)) (AOp.bin' rfl rfl rfl rfl Tz)) ?_
  refine Oz rfl rfl rfl (AOp.pickAnd rfl rfl rfl (fun hb => gvE rfl hb) ?_)
  refine Mz ?_
  refine aOps_gd rfl rfl (wantT rfl rfl rfl) (fun hc => AOp.slots [] .nil (AOp.call' rfl rfl rfl (awake29 _ _ hpB) Iz)) (fun kq hkq => ?_)
  refine Oz rfl rfl rfl (AOp.pickAnd rfl rfl rfl (fun hb => gvE rfl hb) ?_)
  refine Nz ?_
  refine Ez ?_
  refine ACode.ret ?_
  try simp only [thenA, blockA, if_true]
  exact RetQ.one rfl rfl subB stays (fun hk => by simp)
end

end Go.Proofs.YteoofihjmldllaaGreatDoor

/- ReplyTakes over whatever abstract arguments. No condition. -/
set_option linter.unusedVariables false
set_option maxRecDepth 100000
namespace Go.Proofs.YteoofihjmldllaaGreatDoor
open Go Go.Ab
theorem bytes_argR {H : Hp} {u : Value} (h : AV Tryz.prog H 33 u) : ∃ (bs : List UInt8) (A : Option Addr) (c : Nat), u = .slice A bs.length c ∧ SLC H 1 A bs.length c (bs.map bv) ∧ bs.length ≤ 9223372036854775807 := by
 obtain ⟨A, l, c, cells, e, h1, h2, h3, h4⟩ := (h.plain plain_slc).SLC_inv
 injection e with e
 subst e
 obtain ⟨bs, rfl, rfl⟩ := AD.bytes_inv h4
 exact ⟨bs, A, c, rfl, h1, h3⟩
theorem replyTakes_any (H : Hp) (k : Nat) (us : List Value) (ht : H 0 = some hBlk) (h : AVs Tryz.prog H Tryz.f4.params.toList us) : ACalls Tryz.prog 2 4 us H k fun v _ _ => v = .bool true := by
 rw [Tryz.params4] at h
 obtain ⟨u1, r1, rfl, h1, h⟩ := AVs.cons_inv h
 cases AVs.nil_inv h
 obtain ⟨bs, A, c, rfl, g1, g2⟩ := bytes_argR h1
 exact replyTakes H k ht bs A c g1 g2
end Go.Proofs.YteoofihjmldllaaGreatDoor
