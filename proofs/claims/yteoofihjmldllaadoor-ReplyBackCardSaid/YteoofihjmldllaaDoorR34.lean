/- Contracts over the abstract states: slices of slices of bytes are the same. -/
import Derived.Test.YteoofihjmldllaaDoorR33
set_option linter.unusedVariables false
set_option linter.unusedSimpArgs false
set_option maxRecDepth 100000
namespace Go.Proofs.YteoofihjmldllaaDoor
open Go Go.Ab

/-- Slices of bytes in memory. -/
structure Bws (H : Hp) (vs : List Value) (ls : List (List UInt8)) : Prop where
 len : vs.length = ls.length
 at_ : ∀ i, i < ls.length → ∃ A c, vs.getD i undef = .slice A (ls.getD i []).length c ∧ SLC H 1 A (ls.getD i []).length c ((ls.getD i []).map bv)
theorem Bws.nil {H : Hp} : Bws H [] [] := ⟨rfl, fun i h => absurd h (Nat.not_lt_zero i)⟩
theorem Bws.sub {H H' : Hp} {vs : List Value} {ls : List (List UInt8)} (h : Bws H vs ls) (hs : Ab.Sub H H') : Bws H' vs ls := ⟨h.len, fun i hi => by
 obtain ⟨A, c, h1, h2⟩ := h.at_ i hi
 exact ⟨A, c, h1, h2.sub hs⟩⟩
section
variable (H : Hp) (k : Nat)

theorem sameAll (ls : List (List UInt8)) (vs ws : List Value) (A B : Option Addr) (c d : Nat) (hx : SLC H 1 A vs.length c vs) (hy : SLC H 1 B ws.length d ws) (hv : Bws H vs ls) (hw : Bws H ws ls) (hl : vs.length ≤ 9223372036854775807) (hb : ∀ x ∈ ls, x.length ≤ 9223372036854775807) : ACalls Tryd.prog 3 85 [.slice A vs.length c, .slice B ws.length d] H k (Same H k (.bool true)) := by
 refine ACalls.fresh fun hf => ?_
 refine ACalls.body Tryd.func85 rfl (Nat.le_of_ble_eq_true rfl) ?_
 have hlv := hv.len
 have hlw := hw.len
 refine Sz ?_
 refine Rz [0] Kz rfl ?_
 refine Nz ?_
 refine Ez ?_
 refine Sz ?_
 refine Sz ?_
 refine Rz [0, 1, 2, 3, 4] Kz rfl ?_
 refine Mz ?_
 refine Oz rfl rfl rfl (AOp.len' rfl rfl ?_)
 refine Mz ?_
 refine Oz rfl rfl rfl (AOp.len' rfl rfl ?_)
 refine Oz rfl rfl rfl (AOp.bin' rfl rfl rfl rfl ?_)
 refine Ez ?_
 refine ACode.cond rfl (fun c0 => absurd c0 (by simp; omega)) (fun c0 => ?_)
 refine ACode.skip ?_
 refine Sz ?_
 refine Sz ?_
 refine Rz [0] Kz rfl ?_
 refine Nz ?_
 refine Ez ?_
 refine ACode.block ?_
 refine ACode.count0 (fun i => [(5, .int .i64 (i : Int))]) [(0, _), (1, _)] (vs.length) (fun _ => True) (.cons rfl .nil) (.cons rfl (.cons rfl .nil)) trivial (fun i0 kL0 HL0 hiL0 hkL0 hsL0 hfL0 hxL0 => ?_)
 show ACode _ _ _ _ _ ⟨_, _, _⟩
 have tsL0 := SubS.of hsL0
 refine Sz ?_
 refine Sz ?_
 refine Rz [0, 1, 2, 3] Kz rfl ?_
 refine Mz ?_
 refine Mz ?_
 refine Oz rfl rfl rfl (AOp.len' rfl rfl ?_)
 refine Oz rfl rfl rfl (AOp.bin' rfl rfl rfl rfl ?_)
 refine Ez ?_
 refine ACode.cond rfl (fun c1 => ?_) (fun c1 => ?_)
 ·try simp only [Cz] at c1
  refine ACode.skip ?_
  refine Sz ?_
  refine ACode.block ?_
  refine Sz ?_
  obtain ⟨A1, d1, e1, hc1⟩ := hv.at_ i0 Wz
  obtain ⟨A2, d2, e2, hc2⟩ := hw.at_ i0 Wz
  obtain ⟨nE, oE, sE, hqE, hpE⟩ := e1 ▸ slcElV hx.cells (show i0 < vs.length by omega)
  obtain ⟨nF, oF, sF, hqF, hpF⟩ := e2 ▸ slcElV hy.cells (show i0 < ws.length by omega)
  have hm : (ls.getD i0 []) ∈ ls := getD_mem Wz
  refine ACode.draw' 10 [(0, 17), (1, 18), (2, 19), (3, 20), (4, 21), (5, 22), (6, 23), (7, 24), (8, 25), (9, 26)] mixed Kz ?_
  refine Draw.step [(0, none)] rfl Kz rfl (fun kq hkq => AOp.move' (.inl rfl) rfl Vz) ?_
  refine Draw.step [(5, none)] rfl Kz rfl (fun kq hkq => AOp.move' (.inl rfl) rfl Vz) ?_
  refine Draw.step [(17, some 0), (18, some 1)] rfl Kz rfl (fun kq hkq => AOp.indexP (aslcAt_sub subB hqE) rfl rfl rfl Vz) ?_
  refine Draw.step [(19, some 2)] rfl Kz rfl (fun kq hkq => AOp.loadP0 (hpE.sub subB) rfl rfl rfl Vz) ?_
  refine Draw.step [(1, none)] rfl Kz rfl (fun kq hkq => AOp.move' (.inl rfl) rfl Vz) ?_
  refine Draw.step [(5, none)] rfl Kz rfl (fun kq hkq => AOp.move' (.inl rfl) rfl Vz) ?_
  refine Draw.step [(21, some 4), (22, some 5)] rfl Kz rfl (fun kq hkq => AOp.indexP (aslcAt_sub subB hqF) rfl rfl rfl Vz) ?_
  refine Draw.step [(23, some 6)] rfl Kz rfl (fun kq hkq => AOp.loadP0 (hpF.sub subB) rfl rfl rfl Vz) ?_
  refine Draw.step [(20, some 3), (24, some 7)] rfl Kz rfl (fun kq hkq => AOp.call' rfl rfl rfl (same_b 3 _ _ (ls.getD i0 []) (ls.getD i0 []) _ _ _ _ (hc1.sub subB) (hc2.sub subB) (hb _ hm)) Iz) ?_
  refine Draw.step [(25, some 8)] rfl Kz rfl (fun kq hkq => AOp.un' rfl rfl rfl Vz) ?_
  refine Draw.done fun kq hkq => ?_
  show aOps _ _ _ _ [] ⟨_, _, _⟩
  refine Ez ?_
  refine ACode.cond rfl (fun c2 => absurd c2 (by simp)) (fun c2 => ?_)
  refine ACode.skip ?_
  refine Rz [0, 1, 2] Kz rfl ?_
  refine Mz ?_
  refine Oz rfl rfl rfl (AOp.add rfl rfl rfl (i64_wrap Wz Wz) ?_)
  refine Nz ?_
  refine Ez ?_
  first | refine thenA_n ?_ | simp only [thenA, blockA, if_true]
  exact NextR.mk Wz Wz (.cons rfl .nil) (.cons rfl (.cons rfl .nil)) subB trivial
 ·try simp only [Cz] at c1
  refine ACode.exit ?_
  refine Sz ?_
  refine Rz [0] Kz rfl ?_
  refine Nz ?_
  refine Ez ?_
  refine ACode.ret ?_
  exact RetQ.one rfl rfl subB stays (fun hk => ⟨rfl, rfl, by omega⟩)
end

end Go.Proofs.YteoofihjmldllaaDoor
