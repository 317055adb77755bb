/- Replies whose headers' slices begin at their blocks. No condition. -/
import Derived.Test.YteoofihjmldllaaDoorR46
import Derived.Test.YteoofihjmldllaaDoorR47
import Derived.Test.YteoofihjmldllaaDoorR49
import Derived.Test.YteoofihjmldllaaDoorRPb
set_option linter.unusedVariables false
set_option linter.unusedSimpArgs false
set_option maxRecDepth 100000
namespace Go.Proofs.YteoofihjmldllaaDoor
open Go Go.Ab
def SpE (H : Hp) (x : Sp) (cs : List Value) : Prop := ∃ (A1 : Option Addr) (c1 : Nat) (A2 : Option Addr) (c2 : Nat) (A3 : Option Addr) (c3 : Nat) (vs : List Value), Exa A1 ∧ cs = spc x (.slice A1 x.h.cols.length c1) (.slice A2 x.dead.length c2) (.slice A3 vs.length c3) ∧ SLC H 40 A1 x.h.cols.length c1 (chs x.h.cols) ∧ SLC H 1 A2 x.dead.length c2 (x.dead.map bv) ∧ SLC H 1 A3 vs.length c3 vs ∧ Bws H vs x.chunks
theorem SpE.spc_ {H : Hp} {x : Sp} {cs : List Value} (h : SpE H x cs) : SpC H x cs := by
 obtain ⟨A1, c1, A2, c2, A3, c3, vs, _, h1⟩ := h
 exact ⟨A1, c1, A2, c2, A3, c3, vs, h1⟩
structure SpsE (H : Hp) (bs : List Value) (l : List Sp) : Prop where
 len : bs.length = l.length * 38
 at_ : ∀ i, i < l.length → SpE H (l.getD i spD) ((bs.drop (i * 38)).take 38)
theorem SpsE.sps {H : Hp} {bs : List Value} {l : List Sp} (h : SpsE H bs l) : Sps H bs l := ⟨h.len, fun i hi => (h.at_ i hi).spc_⟩
def RpE (H : Hp) (r : Rp) (v : Value) : Prop := ∃ (A1 : Option Addr) (c1 : Nat) (A2 : Option Addr) (c2 : Nat) (A3 : Option Addr) (c3 : Nat) (bs : List Value), v = rpv r (.slice A1 r.path.length c1) (.slice A2 r.sch.length c2) (.slice A3 r.blocks.length c3) ∧ SLC H 32 A1 r.path.length c1 (hcs r.path) ∧ SLC H 3 A2 r.sch.length c2 (cols3 r.sch) ∧ SLC H 38 A3 r.blocks.length c3 bs ∧ SpsE H bs r.blocks
theorem RpE.rpv_ {H : Hp} {r : Rp} {v : Value} (h : RpE H r v) : RpV H r v := by
 obtain ⟨A1, c1, A2, c2, A3, c3, bs, h1, h2, h3, h4, h5⟩ := h
 exact ⟨A1, c1, A2, c2, A3, c3, bs, h1, h2, h3, h4, h5.sps⟩
theorem SpsE.el {H : Hp} {A : Option Addr} {c i : Nat} {bs : List Value} {l : List Sp} (hS : SLC H 38 A l.length c bs) (hl : SpsE H bs l) (hi : i < l.length) :
  ∃ (n off : Nat) (sp : Option Nat) (A1 : Option Addr) (c1 : Nat) (A2 : Option Addr) (c2 : Nat) (A3 : Option Addr) (c3 : Nat) (vs : List Value), Exa A1 ∧ aslcAt H 38 i (.slice A l.length c) = some (ptr n off sp) ∧ PAt H n off sp (spc (l.getD i spD) (.slice A1 (l.getD i spD).h.cols.length c1) (.slice A2 (l.getD i spD).dead.length c2) (.slice A3 vs.length c3)) ∧ SLC H 40 A1 (l.getD i spD).h.cols.length c1 (chs (l.getD i spD).h.cols) ∧ SLC H 1 A2 (l.getD i spD).dead.length c2 ((l.getD i spD).dead.map bv) ∧ SLC H 1 A3 vs.length c3 vs ∧ Bws H vs (l.getD i spD).chunks := by
 have h38 : (i + 1) * 38 ≤ bs.length := by rw [hl.len]; omega
 obtain ⟨n, off, sp, h1, h2⟩ := slcPt hS.cells h38 Dz
 obtain ⟨A1, c1, A2, c2, A3, c3, vs, h0, h3, h4, h5, h6, h7⟩ := hl.at_ i hi
 rw [h3] at h2
 exact ⟨n, off, sp, A1, c1, A2, c2, A3, c3, vs, h0, h1, h2, h4, h5, h6, h7⟩
end Go.Proofs.YteoofihjmldllaaDoor

/- How long a reply's form is at most, in plain Lean. No condition. -/
set_option linter.unusedVariables false
set_option maxRecDepth 100000
namespace Go.Proofs.YteoofihjmldllaaDoor
open Go Go.Ab
def byS (x : Sp) : Nat := x.dead.length + ckS x.chunks
def byR (l : List Sp) : Nat := (l.map byS).sum
def moS (x : Sp) : Nat := (hdB x.h).length + 6 + 6 * x.chunks.length
def moR (l : List Sp) : Nat := (l.map moS).sum
def most0 (r : Rp) : Nat := 200 + 3 * r.sch.length + 32 * r.path.length + byR r.blocks
theorem varB3 {v : Nat} (h : v < 2097152) : (varB v).length ≤ 3 := by
 by_cases h1 : v < 128
 ·rw [varB_small h1, List.length_singleton]; omega
 ·rw [varB_big h1, List.length_cons]
  by_cases h2 : v / 128 < 128
  ·rw [varB_small h2, List.length_singleton]; omega
  ·rw [varB_big h2, List.length_cons, varB_small Wz, List.length_singleton]; omega
theorem ksB_le : ∀ (l : List (List UInt8)), (∀ y ∈ l, y.length ≤ 20000) → (ksB l).length ≤ ckS l + 6 * l.length
 | [], h => Nat.zero_le _
 | y :: l, h => by
  have h1 := h y (List.mem_cons_self ..)
  have h2 := ksB_le l fun z hz => h z (List.mem_cons_of_mem _ hz)
  have h3 := varB3 (v := y.length) Wz
  have e : ckS (y :: l) = y.length + ckS l := by rw [ckS, List.map_cons, List.sum_cons]; rfl
  rw [e, ksB, List.flatMap_cons, List.length_append, blB, List.length_append, List.length_cons]
  have h4 : (l.flatMap blB).length ≤ ckS l + 6 * l.length := h2
  omega
theorem spB_le {cols : List Col} (x : Sp) (hx : blockB soundR cols x = true) (hs : x.sm) : (spB x).length ≤ byS x + moS x := by
 obtain ⟨_, _, h3, h4, _⟩ := blockB_is hx
 have h5 := ksB_le x.chunks hs.k
 have h6 := varB3 (v := x.dead.length) Wz
 have h7 : (varB x.chunks.length).length = 1 := by rw [varB_small Wz]; rfl
 rw [byS, moS, spB, List.length_cons, List.length_append]
 split
 ·rw [List.length_append, blB, List.length_append, List.length_append]; omega
 ·rw [List.length_nil]; omega
theorem bsB_le {cols : List Col} : ∀ (l : List Sp), (∀ x ∈ l, blockB soundR cols x = true) → (∀ x ∈ l, x.sm) → (bsB l).length ≤ byR l + moR l
 | [], _, _ => Nat.zero_le _
 | x :: l, h, hs => by
  have h1 := spB_le x (h x (List.mem_cons_self ..)) (hs x (List.mem_cons_self ..))
  have h2 : (l.flatMap spB).length ≤ byR l + moR l := bsB_le l (fun z hz => h z (List.mem_cons_of_mem _ hz)) fun z hz => hs z (List.mem_cons_of_mem _ hz)
  rw [bsB, List.flatMap_cons, List.length_append, byR, moR, List.map_cons, List.map_cons, List.sum_cons, List.sum_cons]
  unfold byR moR at h2
  omega
theorem rpB_le {r : Rp} (hf : formedR soundR r = true) (ho : r.ok) (hs : r.sm) : (rpB r).length ≤ most0 r + moR r.blocks := by
 obtain ⟨ft, _, hb⟩ := formed_fit hf
 have h1 := bsB_le r.blocks hb hs.b
 have h2 := varB_len r.size.toNat (by have := ft.s1; omega)
 have h3 := varB_len r.path.length (by have := hs.pl; omega)
 have h4 := varB_len r.blocks.length (by have := hs.bl; omega)
 have h5 := formB_len r.ent ft.e
 have h6 := dsB_len r.path
 have h7 : (schB r.sch).length = 1 + r.sch.length * 3 := by rw [schB, List.length_cons, colB_len]; omega
 have h8 := r.root.h
 rw [most0, rpB]
 simp only [List.length_append]
 omega
theorem byS_le {x : Sp} (hs : x.sm) : byS x ≤ 1620000 := by
 have h1 := hs.dl
 have h2 := sum_le (f := List.length) (m := 20000) (l := x.chunks) hs.k
 have h3 := hs.kl
 unfold byS ckS
 omega
theorem byR_le {l : List Sp} (hs : ∀ x ∈ l, x.sm) : byR l ≤ l.length * 1620000 := sum_le fun x hx => byS_le (hs x hx)
theorem moS_le {x : Sp} (ho : x.ok) (hs : x.sm) (hf : x.h.fit) : moS x ≤ 3001000 := by
 have h1 := hdB_len x.h ho.z hf hs.h
 have h2 := hs.kl
 unfold moS
 omega
theorem moR_le {l : List Sp} (ho : ∀ x ∈ l, x.ok) (hs : ∀ x ∈ l, x.sm) (hf : ∀ x ∈ l, x.h.fit) : moR l ≤ l.length * 3001000 := sum_le fun x hx => moS_le (ho x hx) (hs x hx) (hf x hx)
theorem by_next (l : List Sp) (i : Nat) (h : i < l.length) : byR (l.take (i + 1)) = byR (l.take i) + ((l.getD i spD).dead.length + ckS (l.getD i spD).chunks) := sum_next byS spD h
theorem mo_next (l : List Sp) (i : Nat) (h : i < l.length) : moR (l.take (i + 1)) = moR (l.take i) + moS (l.getD i spD) := sum_next moS spD h
theorem by_all {l : List Sp} (i : Nat) (hs : ∀ x ∈ l, x.sm) (h : l.length ≤ 60) : byR (l.take i) ≤ 97200000 := by
 have h1 := byR_le (l := l.take i) fun x hx => hs x (List.mem_of_mem_take hx)
 have h2 : (l.take i).length ≤ 60 := by rw [List.length_take]; omega
 omega
theorem mo_all {l : List Sp} (i : Nat) (ho : ∀ x ∈ l, x.ok) (hs : ∀ x ∈ l, x.sm) (hf : ∀ x ∈ l, x.h.fit) (h : l.length ≤ 60) : moR (l.take i) ≤ 180060000 := by
 have h1 := moR_le (l := l.take i) (fun x hx => ho x (List.mem_of_mem_take hx)) (fun x hx => hs x (List.mem_of_mem_take hx)) fun x hx => hf x (List.mem_of_mem_take hx)
 have h2 : (l.take i).length ≤ 60 := by rw [List.length_take]; omega
 omega
theorem ck_sm {x : Sp} (i : Nat) (hs : x.sm) : ckS (x.chunks.take i) ≤ 1600000 := by
 have h1 := sum_le (f := List.length) (m := 20000) (l := x.chunks.take i) fun y hy => hs.k y (List.mem_of_mem_take hy)
 have h2 : (x.chunks.take i).length ≤ 80 := by have := hs.kl; rw [List.length_take]; omega
 unfold ckS
 omega
theorem rpB_pos (r : Rp) : 0 < (rpB r).length := by
 unfold rpB
 rw [List.length_append]
 have := varB_pos r.size.toNat
 omega
end Go.Proofs.YteoofihjmldllaaDoor
