/- Forms of replies, in plain Lean. No condition. -/
import Derived.Test.YteoofihjmldllaaDoorR36
import Derived.Test.YteoofihjmldllaaDoorR39
import Derived.Test.YteoofihjmldllaaDoorV10
import Derived.Test.YteoofihjmldllaaDoorP5
import Derived.Test.YteoofihjmldllaaDoorR8
set_option linter.unusedVariables false
set_option linter.unusedSimpArgs false
set_option maxRecDepth 100000
namespace Go.Proofs.YteoofihjmldllaaDoor
open Go Go.Ab
def zB (z : Zn) : List UInt8 := varB z.nulls.toNat ++ (if z.some = true then 1 :: (putB z.min ++ putB z.max) else [0])
def chB (c : Ch) : List UInt8 := zB c.z ++ c.d.l
def csB (l : List Ch) : List UInt8 := l.flatMap chB
def hdB (h : Hd) : List UInt8 := varB h.rows.toNat ++ (varB h.live.toNat ++ (h.dead.l ++ csB h.cols))
def blB (l : List UInt8) : List UInt8 := varB l.length ++ l
def ksB (l : List (List UInt8)) : List UInt8 := l.flatMap blB
def spB (x : Sp) : List UInt8 := (if x.opn = true then 1 else 0) :: (hdB x.h ++ (if x.opn = true then blB x.dead ++ (varB x.chunks.length ++ ksB x.chunks) else []))
def bsB (l : List Sp) : List UInt8 := l.flatMap spB
def dsB (l : List Dg) : List UInt8 := l.flatMap fun d => d.l
def rpB (r : Rp) : List UInt8 := varB r.size.toNat ++ (r.root.l ++ (schB r.sch ++ (formB r.ent ++ (varB r.path.length ++ (dsB r.path ++ (varB r.blocks.length ++ bsB r.blocks))))))
theorem flat_le {α : Type} {f : α → List UInt8} {m : Nat} : ∀ {l : List α}, (∀ x ∈ l, (f x).length ≤ m) → (l.flatMap f).length ≤ l.length * m
 | [], h => Nat.zero_le _
 | x :: l, h => by
  have h1 := h x (List.mem_cons_self ..)
  have h2 := flat_le (l := l) fun y hy => h y (List.mem_cons_of_mem _ hy)
  rw [List.flatMap_cons, List.length_append, List.length_cons, Nat.succ_mul]
  omega
theorem flat_next {α : Type} (f : α → List UInt8) (d : α) {l : List α} {i : Nat} (h : i < l.length) : (l.take (i + 1)).flatMap f = (l.take i).flatMap f ++ f (l.getD i d) := by
 rw [List.take_succ_eq_append_getElem h, List.flatMap_append, List.flatMap_singleton, getD_el h]
/-- A reply that is not great. -/
structure Hd.sm (h : Hd) : Prop where
 cl : h.cols.length ≤ 70
 s : ∀ c ∈ h.cols, c.z.min.s.size ≤ 20000 ∧ c.z.max.s.size ≤ 20000
structure Sp.sm (x : Sp) : Prop where
 h : x.h.sm
 dl : x.dead.length ≤ 20000
 kl : x.chunks.length ≤ 80
 k : ∀ y ∈ x.chunks, y.length ≤ 20000
structure Rp.sm (r : Rp) : Prop where
 sl : r.sch.length ≤ 70
 pl : r.path.length ≤ 80
 bl : r.blocks.length ≤ 60
 b : ∀ x ∈ r.blocks, x.sm
theorem putB_len (a : Val) (ha : a.ok) (h : a.s.size ≤ 20000) : (putB a).length ≤ 20012 := by
 have hb := ha.2.1
 simp only [Lit.wf, Bool.and_eq_true, decide_eq_true_eq] at hb
 have h1 := varB_len (zigN a.n) (zigN_lt hb.1 hb.2)
 have hz : a.s.data.toList.length = a.s.size := rfl
 have h2 := varB_len a.s.size Wz
 unfold putB
 split
 ·rw [List.length_cons]; omega
 ·split
  ·rw [List.length_cons, List.length_append]; omega
  ·rw [List.length_singleton]; omega
/-- Numbers of zones and of headers that are right. -/
def Zn.fit (z : Zn) : Prop := 0 ≤ z.nulls ∧ z.nulls ≤ 65536
theorem zB_len (z : Zn) (hz : z.ok) (hf : z.fit) (h1 : z.min.s.size ≤ 20000) (h2 : z.max.s.size ≤ 20000) : (zB z).length ≤ 40100 := by
 have a := varB_len z.nulls.toNat (by have := hf.2; omega)
 have b := putB_len z.min hz.2.1 h1
 have c := putB_len z.max hz.2.2 h2
 unfold zB
 rw [List.length_append]
 split
 ·rw [List.length_cons, List.length_append]; omega
 ·rw [List.length_singleton]; omega
theorem chB_len (c : Ch) (hz : c.z.ok) (hf : c.z.fit) (h1 : c.z.min.s.size ≤ 20000 ∧ c.z.max.s.size ≤ 20000) : (chB c).length ≤ 40200 := by
 have := zB_len c.z hz hf h1.1 h1.2
 rw [chB, List.length_append, c.d.h]
 omega
structure Hd.fit (h : Hd) : Prop where
 r0 : 0 ≤ h.rows
 r1 : h.rows ≤ 65536
 l0 : 0 ≤ h.live
 l1 : h.live ≤ 65536
 z : ∀ c ∈ h.cols, c.z.fit
theorem csB_len (l : List Ch) (hz : ∀ c ∈ l, c.z.ok) (hf : ∀ c ∈ l, c.z.fit) (hs : ∀ c ∈ l, c.z.min.s.size ≤ 20000 ∧ c.z.max.s.size ≤ 20000) : (csB l).length ≤ l.length * 40200 :=
 flat_le fun c hc => chB_len c (hz c hc) (hf c hc) (hs c hc)
theorem hdB_len (h : Hd) (hz : ∀ c ∈ h.cols, c.z.ok) (hf : h.fit) (hs : h.sm) : (hdB h).length ≤ 3000000 := by
 have a := varB_len h.rows.toNat (by have := hf.r1; omega)
 have b := varB_len h.live.toNat (by have := hf.l1; omega)
 have c := csB_len h.cols hz hf.z hs.s
 have d := hs.cl
 rw [hdB, List.length_append, List.length_append, List.length_append, h.dead.h]
 omega
theorem blB_len (l : List UInt8) (h : l.length ≤ 20000) : (blB l).length ≤ 20010 := by
 have a := varB_len l.length Wz
 rw [blB, List.length_append]
 omega
theorem ksB_len (l : List (List UInt8)) (h : ∀ y ∈ l, y.length ≤ 20000) : (ksB l).length ≤ l.length * 20010 := flat_le fun y hy => blB_len y (h y hy)
theorem spB_len (x : Sp) (hok : x.ok) (hf : x.h.fit) (hs : x.sm) : (spB x).length ≤ 5000000 := by
 have a := hdB_len x.h hok.z hf hs.h
 have b := blB_len x.dead hs.dl
 have c := varB_len x.chunks.length (by have := hs.kl; omega)
 have d := ksB_len x.chunks hs.k
 have e := hs.kl
 rw [spB, List.length_cons, List.length_append]
 split
 ·rw [List.length_append, List.length_append]; omega
 ·rw [List.length_nil]; omega
theorem bsB_len (l : List Sp) (hok : ∀ x ∈ l, x.ok) (hf : ∀ x ∈ l, x.h.fit) (hs : ∀ x ∈ l, x.sm) : (bsB l).length ≤ l.length * 5000000 := flat_le fun x hx => spB_len x (hok x hx) (hf x hx) (hs x hx)
theorem dsB_len (l : List Dg) : (dsB l).length ≤ l.length * 32 := flat_le fun d _ => by rw [d.h]; exact Nat.le_refl _
/-! ### What is formed -/
theorem soundH_fit {h : Hd} {cols : List Col} (hs : soundH soundR h cols = true) : h.fit ∧ h.cols.length = cols.length := by
 unfold soundH at hs
 split at hs
 ·cases hs
 ·rename_i hf
  have hl := front_len hf
  have hb := List.all_eq_true.1 hs
  unfold frontH at hf
  simp only [Bool.or_eq_true, not_or, decide_eq_true_eq] at hf
  obtain ⟨⟨⟨⟨h1, h2⟩, h3⟩, h4⟩, h5⟩ := hf
  refine ⟨⟨by omega, by omega, by omega, by omega, fun c hc => ?_⟩, hl⟩
  obtain ⟨i, hi, rfl⟩ := List.mem_iff_getElem.1 hc
  have h6 := hb i (List.mem_range.2 Wz)
  rw [Bool.not_eq_true'] at h6
  unfold colH at h6
  rw [Bool.or_eq_false_iff, Bool.not_eq_false', getD_el hi] at h6
  have h7 := h6.1
  have h8 : 0 ≤ h.cols[i].z.nulls ∧ h.cols[i].z.nulls ≤ h.rows := by
   unfold soundR at h7
   split at h7
   ·cases h7
   ·rename_i h9
    simp only [Bool.or_eq_true, not_or, decide_eq_true_eq] at h9
    omega
  exact ⟨h8.1, by omega⟩
structure Rp.fit (r : Rp) : Prop where
 s0 : 0 ≤ r.size
 s1 : r.size ≤ 1099511627776
 e : good r.ent = true
 pl : r.path.length ≤ 64
 b : ∀ x ∈ r.blocks, x.h.fit
theorem formed_same (r : Rp) : formedR soundP r = formedR soundR r := by
 rw [show soundP = soundR from funext fun z => funext fun a => funext fun b => sound_same z a b]
theorem formed_fit {r : Rp} (h : formedR soundR r = true) : r.fit ∧ schemaI r.sch = 0 ∧ ∀ x ∈ r.blocks, blockB soundR r.sch x = true := by
 unfold formedR at h
 split at h
 ·cases h
 ·rename_i hf
  have hb := List.all_eq_true.1 h
  unfold frontR at hf
  simp only [Bool.or_eq_true, not_or, decide_eq_true_eq, bne_iff_ne, ne_eq, Classical.not_not] at hf
  obtain ⟨⟨⟨⟨⟨⟨h1, h2⟩, h3⟩, h4⟩, h5⟩, h6⟩, h7⟩ := hf
  refine ⟨⟨by omega, by omega, ?_, by omega, fun x hx => ?_⟩, h3, hb⟩
  ·unfold good
   rw [Bool.and_eq_true, decide_eq_true_eq, decide_eq_true_eq]
   omega
  ·have h8 := hb x hx
   unfold blockB at h8
   split at h8
   ·cases h8
   ·rename_i h9
    exact (soundH_fit (by simpa using h9)).1
end Go.Proofs.YteoofihjmldllaaDoor

/- Contracts over the abstract states: the example of predicates; the statement that one of several is the one or the other. -/
set_option linter.unusedVariables false
set_option linter.unusedSimpArgs false
set_option maxRecDepth 100000
namespace Go.Proofs.YteoofihjmldllaaDoor
open Go Go.Ab

theorem pick_mod (x n : Int) (h : 0 < n) : (x.tmod n < 0 → x.tmod n + n = x % n) ∧ (0 ≤ x.tmod n → x.tmod n = x % n) ∧ -n < x.tmod n ∧ x.tmod n < n := by
 have e := @Int.tmod_eq_emod x n
 have r1 := Int.emod_nonneg x (show n ≠ 0 by omega)
 have r2 := Int.emod_lt_of_pos x h
 split at e
 ·omega
 ·rename_i hc
  have r3 : x % n ≠ 0 := fun h0 => hc (.inr (Int.dvd_of_emod_eq_zero h0))
  omega
/-! ### One of several -/
section
variable (H : Hp) (k : Nat)

theorem pick_b (x n : Int) (h1 : 1 ≤ n) (h2 : n ≤ 9223372036854775807) (hx1 : -9223372036854775808 ≤ x) (hx2 : x ≤ 9223372036854775807) : ACalls Tryd.prog 3 26 [.int .i64 x, .int .i64 n] H k (Same H k (.int .i64 (x % n))) := by
 refine ACalls.fresh fun hf => ?_
 refine ACalls.body Tryd.func26 rfl (Nat.le_of_ble_eq_true rfl) ?_
 refine Sz ?_
 refine Rz [0] Kz rfl ?_
 refine Nz ?_
 refine Ez ?_
 refine Sz ?_
 refine Sz ?_
 refine Rz [0, 1] Kz rfl ?_
 refine Mz ?_
 refine Oz rfl rfl rfl (AOp.bin' rfl rfl rfl rfl ?_)
 refine Ez ?_
 refine ACode.cond rfl (fun c0 => absurd c0 (by simp; omega)) (fun c0 => ?_)
 refine ACode.skip ?_
 refine Sz ?_
 refine Rz [0, 1, 2, 3] Kz rfl ?_
 refine Mz ?_
 refine Mz ?_
 refine Oz rfl rfl rfl (AOp.bin' rfl rfl rfl (if_neg (by first | decide | omega)) ?_)
 refine Nz ?_
 refine Ez ?_
 refine Sz ?_
 refine Sz ?_
 obtain ⟨ht1, ht2, ht3, ht4⟩ := pick_mod x n Wz
 refine Rz [0, 1] Kz rfl ?_
 refine Mz ?_
 refine Oz rfl rfl rfl (AOp.bin' rfl rfl rfl rfl ?_)
 refine Ez ?_
 refine ACode.cond rfl (fun c1 => ?_) (fun c1 => ?_)
 ·try simp only [Cz] at c1
  refine Rz [0, 1, 2, 3] Kz rfl ?_
  refine Mz ?_
  refine Mz ?_
  refine Oz rfl rfl rfl (AOp.add rfl rfl rfl (i64_wrap Wz Wz) ?_)
  refine Nz ?_
  refine Ez (Sz (Rz [0, 1] Kz rfl ?_))
  refine Mz ?_
  refine Nz ?_
  refine Ez ?_
  refine ACode.ret ?_
  exact RetQ.one rfl rfl subA stays (fun hk => ⟨(by rw [ht1 c1]), rfl, by omega⟩)
 ·try simp only [Cz] at c1
  refine ACode.skip ?_
  refine Sz ?_
  refine Rz [0, 1] Kz rfl ?_
  refine Mz ?_
  refine Nz ?_
  refine Ez ?_
  refine ACode.ret ?_
  exact RetQ.one rfl rfl subA stays (fun hk => ⟨(by rw [ht2 c1]), rfl, by omega⟩)

end

end Go.Proofs.YteoofihjmldllaaDoor

/- Contracts over the abstract states: the statement that one of several is the one or the other. -/
set_option linter.unusedVariables false
set_option linter.unusedSimpArgs false
set_option maxRecDepth 100000
namespace Go.Proofs.YteoofihjmldllaaDoor
open Go Go.Ab

section
variable (H : Hp) (k : Nat)


end

end Go.Proofs.YteoofihjmldllaaDoor

/- A nil slice in a cell of a block as one that grows; predicates out of readers, in plain Lean. No condition. -/
set_option linter.unusedVariables false
set_option linter.unusedSimpArgs false
set_option maxRecDepth 100000
namespace Go.Ab
open Go.RowKit
theorem SRel.recell {NG B : Nat} {w0 w : World} {G : GMap} {H : Hp} {k : Nat} (h : SRel NG B w0 G H k w) {n q sz : Nat} {b : Blk} {j : Nat} (hn : H n = some b) (hk : b.kind = .fix) (hj : b.cells[j]? = some (.slice none 0 0)) (hG : G q = .rows sz []) :
  SRel NG B w0 G (upd H n (some { b with cells := b.cells.set j (.slice (some ⟨q, 0, some 1⟩) 0 0) })) k w ∧ Keep H k G w (upd H n (some { b with cells := b.cells.set j (.slice (some ⟨q, 0, some 1⟩) 0 0) })) k G w := by
 have hlt : n < k := name_lt h hn
 have hown : b.own = true := by unfold Blk.own; rw [hk]; rfl
 have key : ∀ m c, upd H n (some { b with cells := b.cells.set j (.slice (some ⟨q, 0, some 1⟩) 0 0) }) m = some c → c.own = true → ∃ c0, H m = some c0 ∧ c0.own = true := fun m c hm ho => by
  by_cases e : m = n
  ·subst e; exact ⟨b, hn, hown⟩
  ·rw [upd_other _ _ e] at hm; exact ⟨c, hm, ho⟩
 refine ⟨⟨h.below, h.base, h.glob, h.le, fun m c hm => ?_, fun m l c d hm hl ho ho' hne x hx => ?_, fun m hm => ⟨Uz (h.fresh m hm).1, (h.fresh m hm).2⟩⟩, GLe.refl _, Nat.le_refl _, Nat.le_refl _, fun _ _ _ => rfl, fun _ _ _ => rfl, fun m _ h0 => ?_, fun _ _ hx _ => hx, fun m c hm => ?_⟩
 ·by_cases e : m = n
  ·subst e
   rw [upd_same] at hm
   injection hm with hm
   subst hm
   have hb := h.blk _ _ hn
   unfold BRel at hb ⊢
   simp only [hk] at hb ⊢
   obtain ⟨blk, cs, h1, h2, h3, h4, h5⟩ := hb
   refine ⟨blk, cs, h1, h2, h3, by rw [List.length_set]; exact h4, fun i u hi hu => ?_⟩
   rw [List.length_set] at hi
   by_cases e : i = j
   ·subst e
    rw [List.getElem?_set_self hi] at hu
    injection hu with hu
    subst hu
    obtain ⟨v', g1, g2⟩ := h5 i _ hi hj
    rw [g2.plain_ rfl] at g1
    exact ⟨_, g1, .grow hG (.inl ⟨rfl, rfl⟩)⟩
   ·rw [List.getElem?_set_ne (Ne.symm e)] at hu
    exact h5 i u hi hu
  ·rw [upd_other _ _ e] at hm
   exact h.blk m c hm
 ·obtain ⟨c0, hm0, ho0⟩ := key m c hm ho
  obtain ⟨d0, hl0, hd0⟩ := key l d hl ho'
  exact h.sep m l c0 d0 hm0 hl0 ho0 hd0 hne x hx
 ·by_cases e : m = n
  ·subst e; rw [hn] at h0; cases h0
  ·exact (upd_other _ _ e).trans h0
 ·by_cases e : m = n
  ·subst e
   rw [hn] at hm
   injection hm with hm
   subst hm
   exact ⟨_, upd_same _ _ _, rfl⟩
  ·exact ⟨c, (upd_other _ _ e).trans hm, rfl⟩
/-- Nil in a cell as a slice that grows. -/
theorem ACode.adoptC {P : Program} {NG N : Nat} {fr : Fr} {H : Hp} {nk : Nat} {Q : Exit → St → Prop} {c : Code} (e : TypeId) (sz : Nat) (hsz : 0 < sz) {n j : Nat} {b : Blk} (hn : H n = some b) (hk : b.kind = .fix) (hj : b.cells[j]? = some (.slice none 0 0))
  (h : ACode P NG N c Q ⟨fr, upd (upd H nk (some { cells := [], elem := e, kind := .grow, esz := sz })) n (some { b with cells := b.cells.set j (.slice (some ⟨nk, 0, some 1⟩) 0 0) }), nk + 1⟩) :
  ACode P NG N c Q ⟨fr, H, nk⟩ := by
 intro B w0 G a w hs hd
 obtain ⟨hS1, hK1⟩ := hs.S.adopt e sz hsz
 have hlt : n < nk := name_lt hs.S hn
 obtain ⟨hS2, hK2⟩ := hS1.recell (n := n) ((upd_other _ _ (Nat.ne_of_lt hlt)).trans hn) hk hj (upd_same _ _ _)
 have hF : FRel (upd G nk (.rows sz [])) N fr a.tmps := ⟨hs.F.1, fun u v hu => (hs.F.2 u v hu).mono hK1.le⟩
 refine wp_mono (h B w0 _ a w ⟨hS2, hF⟩ hd) ?_
 rintro e' a' w' ⟨s', G', h1, h2, h3, h4⟩
 exact ⟨s', G', h1, h2, (hK1.trans (fun m hm => (hs.S.fresh m hm).2) hK2).trans (fun m hm => (hs.S.fresh m hm).2) h3, h4⟩
end Go.Ab
namespace Go.Proofs.YteoofihjmldllaaDoor
open Go Go.Ab
end Go.Proofs.YteoofihjmldllaaDoor
