/- Replies whose headers' slices begin at their blocks. No condition. -/
import Derived.Test.YteoofihjmldllaaGreatDoorR46
import Derived.Test.YteoofihjmldllaaGreatDoorR47
set_option linter.unusedVariables false
set_option linter.unusedSimpArgs false
set_option maxRecDepth 100000
namespace Go.Proofs.YteoofihjmldllaaGreatDoor
open Go Go.Ab
def SpE (H : Hp) (x : Sp) (cs : List Value) : Prop := ∃ (A1 : Option Addr) (c1 : Nat) (A2 : Option Addr) (c2 : Nat) (A3 : Option Addr) (c3 : Nat) (vs : List Value), Exa A1 ∧ cs = spc x (.slice A1 x.h.cols.length c1) (.slice A2 x.dead.length c2) (.slice A3 vs.length c3) ∧ SLC H 40 A1 x.h.cols.length c1 (chs x.h.cols) ∧ SLC H 1 A2 x.dead.length c2 (x.dead.map bv) ∧ SLC H 1 A3 vs.length c3 vs ∧ Bws H vs x.chunks
theorem SpE.spc_ {H : Hp} {x : Sp} {cs : List Value} (h : SpE H x cs) : SpC H x cs := by
 obtain ⟨A1, c1, A2, c2, A3, c3, vs, _, h1⟩ := h
 exact ⟨A1, c1, A2, c2, A3, c3, vs, h1⟩
structure SpsE (H : Hp) (bs : List Value) (l : List Sp) : Prop where
 len : bs.length = l.length * 38
 at_ : ∀ i, i < l.length → SpE H (l.getD i spD) ((bs.drop (i * 38)).take 38)
theorem SpsE.sps {H : Hp} {bs : List Value} {l : List Sp} (h : SpsE H bs l) : Sps H bs l := ⟨h.len, fun i hi => (h.at_ i hi).spc_⟩
def RpE (H : Hp) (r : Rp) (v : Value) : Prop := ∃ (A1 : Option Addr) (c1 : Nat) (A2 : Option Addr) (c2 : Nat) (A3 : Option Addr) (c3 : Nat) (bs : List Value), v = rpv r (.slice A1 r.path.length c1) (.slice A2 r.sch.length c2) (.slice A3 r.blocks.length c3) ∧ SLC H 32 A1 r.path.length c1 (hcs r.path) ∧ SLC H 3 A2 r.sch.length c2 (cols3 r.sch) ∧ SLC H 38 A3 r.blocks.length c3 bs ∧ SpsE H bs r.blocks
theorem RpE.rpv_ {H : Hp} {r : Rp} {v : Value} (h : RpE H r v) : RpV H r v := by
 obtain ⟨A1, c1, A2, c2, A3, c3, bs, h1, h2, h3, h4, h5⟩ := h
 exact ⟨A1, c1, A2, c2, A3, c3, bs, h1, h2, h3, h4, h5.sps⟩
theorem SpsE.el {H : Hp} {A : Option Addr} {c i : Nat} {bs : List Value} {l : List Sp} (hS : SLC H 38 A l.length c bs) (hl : SpsE H bs l) (hi : i < l.length) :
  ∃ (n off : Nat) (sp : Option Nat) (A1 : Option Addr) (c1 : Nat) (A2 : Option Addr) (c2 : Nat) (A3 : Option Addr) (c3 : Nat) (vs : List Value), Exa A1 ∧ aslcAt H 38 i (.slice A l.length c) = some (ptr n off sp) ∧ PAt H n off sp (spc (l.getD i spD) (.slice A1 (l.getD i spD).h.cols.length c1) (.slice A2 (l.getD i spD).dead.length c2) (.slice A3 vs.length c3)) ∧ SLC H 40 A1 (l.getD i spD).h.cols.length c1 (chs (l.getD i spD).h.cols) ∧ SLC H 1 A2 (l.getD i spD).dead.length c2 ((l.getD i spD).dead.map bv) ∧ SLC H 1 A3 vs.length c3 vs ∧ Bws H vs (l.getD i spD).chunks := by
 have h38 : (i + 1) * 38 ≤ bs.length := by rw [hl.len]; omega
 obtain ⟨n, off, sp, h1, h2⟩ := slcPt hS.cells h38 Dz
 obtain ⟨A1, c1, A2, c2, A3, c3, vs, h0, h3, h4, h5, h6, h7⟩ := hl.at_ i hi
 rw [h3] at h2
 exact ⟨n, off, sp, A1, c1, A2, c2, A3, c3, vs, h0, h1, h2, h4, h5, h6, h7⟩
theorem SpE.sub {H H' : Hp} {x : Sp} {cs : List Value} (h : SpE H x cs) (hs : Ab.Sub H H') : SpE H' x cs := by
 obtain ⟨A1, c1, A2, c2, A3, c3, vs, h0, h1, h2, h3, h4, h5⟩ := h
 exact ⟨A1, c1, A2, c2, A3, c3, vs, h0, h1, h2.sub hs, h3.sub hs, h4.sub hs, h5.sub hs⟩
theorem SpsE.sub {H H' : Hp} {bs : List Value} {l : List Sp} (h : SpsE H bs l) (hs : Ab.Sub H H') : SpsE H' bs l := ⟨h.len, fun i hi => (h.at_ i hi).sub hs⟩
theorem RpE.sub {H H' : Hp} {r : Rp} {v : Value} (h : RpE H r v) (hs : Ab.Sub H H') : RpE H' r v := by
 obtain ⟨A1, c1, A2, c2, A3, c3, bs, h1, h2, h3, h4, h5⟩ := h
 exact ⟨A1, c1, A2, c2, A3, c3, bs, h1, h2.sub hs, h3.sub hs, h4.sub hs, h5.sub hs⟩
end Go.Proofs.YteoofihjmldllaaGreatDoor
