/- Digests, entries, and parts of blocks, for replies. No condition. -/
import Derived.Test.YteoofihjmldllaaDoorRE
set_option linter.unusedVariables false
set_option linter.unusedSimpArgs false
set_option maxRecDepth 100000
namespace Go.Proofs.YteoofihjmldllaaDoor
open Go Go.Ab
structure Dg where
 l : List UInt8
 h : l.length = 32
theorem Dg.ext_ {a b : Dg} (h : a.l = b.l) : a = b := by
 cases a; cases b; cases h; rfl
abbrev hv (d : Dg) : Value := .agg (d.l.map bv).toArray
theorem hv_size (d : Dg) : (hv d).cells.size = 32 := by show (d.l.map bv).toArray.size = 32; simp [d.h]
theorem hv_sc (d : Dg) : (scals (List.replicate 32 (.int .u8)) (d.l.map bv).toArray.toList).isSome = true := by
 have := scals_bytes d.l
 rw [d.h] at this
 show (scals (List.replicate 32 (.int .u8)) (d.l.map bv)).isSome = true
 rw [this]
 rfl
/-- The cells of digests behind each other. -/
abbrev hcs (l : List Dg) : List Value := l.flatMap fun d => d.l.map bv
theorem hcs_one (d : Dg) : (d.l.map bv).length = 32 := by rw [List.length_map, d.h]
theorem hcs_len (l : List Dg) : (hcs l).length = l.length * 32 := flatMap_len hcs_one l
theorem SLC.elH {H : Hp} {c0 i : Nat} {A0 : Option Addr} {l : List Dg} (hS : SLC H 32 A0 l.length c0 (hcs l)) (d : Dg) (hi : i < l.length) :
  ∃ n off sp, aslcAt H 32 i (.slice A0 l.length c0) = some (ptr n off sp) ∧ PAt H n off sp ((l.getD i d).l.map bv) := by
 rw [getD_el hi]
 exact slcEl hS.cells hcs_one Dz hi

def zeroD : Dg := ⟨List.replicate 32 0, rfl⟩
structure Ent where
 s : Dg
 g : Int
 r : Dg
abbrev entc (e : Ent) : List Value := e.s.l.map bv ++ (.int .i64 e.g :: e.r.l.map bv)
abbrev entv (e : Ent) : Value := .agg (entc e).toArray
theorem entc_len (e : Ent) : (entc e).length = 65 := by rw [entc, List.length_append, List.length_cons, hcs_one, hcs_one]
theorem entv_size (e : Ent) : (entv e).cells.size = 65 := by show (entc e).toArray.size = 65; rw [List.size_toArray, entc_len]
def good (e : Ent) : Bool := decide (0 ≤ e.g) && decide (e.g ≤ 1048576)
def formB (e : Ent) : List UInt8 := e.s.l ++ (varB e.g.toNat ++ e.r.l)
theorem good_le {e : Ent} (h : good e = true) : 0 ≤ e.g ∧ e.g ≤ 1048576 := by
 unfold good at h
 rw [Bool.and_eq_true, decide_eq_true_eq, decide_eq_true_eq] at h
 exact h
theorem formB_len (e : Ent) (h : good e = true) : (formB e).length ≤ 74 := by
 have h1 := good_le h
 have h2 := varB_len e.g.toNat Wz
 rw [formB, List.length_append, List.length_append, e.s.h, e.r.h]
 omega
theorem entc_one (e : Ent) : (entc e).all (·.oneCell') = true := by
 rw [List.all_eq_true]
 intro x hx
 simp only [entc, List.mem_append, List.mem_cons, List.mem_map] at hx
 rcases hx with ⟨a, _, rfl⟩ | rfl | ⟨a, _, rfl⟩ <;> rfl

/-! ### Parts -/
section
variable {P : Program} {NG : Nat} {fr : Fr} {H : Hp} {nk : Nat} {R : Value → Hp → Nat → Prop} {o : Oper}
/-- A part of a block, a slice. -/
theorem SLC.part {n sz off l c : Nat} {b : Blk} {cs : List Value} (hn : H n = some b) (hc : l ≤ c) (hl : off + l * sz ≤ b.cells.length) (he : (b.cells.drop off).take (l * sz) = cs) : SLC H sz (some ⟨n, off, none⟩) l c cs := by
 refine ⟨?_, hc⟩
 simp only [slcCells]
 by_cases h0 : l = 0
 ·rw [if_pos h0, ← he, h0, Nat.zero_mul, List.take_zero]
 ·rw [if_neg h0]
  simp only [hn]
  rw [if_pos hl, he]
/-- An array in memory as a slice. -/
theorem AOp.sliceP {t : TypeId} {x : Operand} {n0 z n off : Nat} {agg : Bool} (ho : o.op = .slice t x none none none) [hf : ArrInfo P t n0 agg z] (hx : aeval NG fr x = some (.pointer (some ⟨n, off, none⟩)))
  (hR : R (.slice (some ⟨n, off, none⟩) n0 n0) H nk) : AOp P NG o ⟨fr, H, nk⟩ R :=
 AOp.slice_arr (l := 0) (h := n0) ho hf.h hx (bnd_no rfl) (bnd_no rfl) (Nat.zero_le _) (Nat.le_refl _) (by rw [Nat.zero_mul, Nat.sub_zero, Nat.add_zero, ite_self]; exact hR)
theorem mid_take (a m r : List Value) (off z : Nat) (ha : a.length = off) (hm : m.length = z) : ((a ++ (m ++ r)).drop off).take z = m := by
 subst ha; subst hm
 rw [List.drop_left, List.take_left]
/-- The first cells of an element. -/
theorem AOp.loadPre {t : TypeId} {x : Operand} {n off z : Nat} {sp : Option Nat} {cs : List Value} (a : List Value) (v : Value) (hp : PAt H n off sp cs) (hv : v = .agg a.toArray) (hc : cs.take z = a) (hz : z ≤ cs.length) (h0 : 0 < z) (ho : o.op = .load t x) [ht : TyInfo P t true z] (hx : aeval NG fr x = some (ptr n off sp)) (hR : R v H nk) : AOp P NG o ⟨fr, H, nk⟩ R := by
 subst hv
 refine AOp.load ho hx ?_ hR
 have h1 := hp.ld 0 z Wz h0
 rw [Nat.add_zero, List.drop_zero, hc] at h1
 simp only [aloadVar, ht.a, ht.s, h1, Option.map_some]
/-- copy into a block of the call's own. -/
theorem AOp.copyD {x y : Operand} {t tx e : TypeId} {n off l c m : Nat} {b : Blk} {A : Option Addr} {d : Nat} {news : List Value} (ho : o.op = .call { callee := .builtin .copy, args := #[x, y], argTypes := #[t, tx] }) [hf : SlInfo P t e 1]
  (hx : aeval NG fr x = some (.slice (some ⟨n, off, none⟩) l c)) (hn : H n = some b) (hk : b.kind = .fix) (hfit : off + l ≤ b.cells.length) (hy : aeval NG fr y = some (.slice A m d)) (hsrc : slcCells H 1 (.slice A m d) = some news) (h1 : ∀ u ∈ news, u.oneCell' = true) {cs' : List Value} (he : putL b.cells off (news.take (min m l)) = cs')
  (hR : R (.int .i64 ((min m l : Nat) : Int)) (upd H n (some { b with cells := cs' })) nk) : AOp P NG o ⟨fr, H, nk⟩ R :=
 by
 subst he
 exact AOp.copy (m := m) ho hf.h hx hn hk (by rw [Nat.mul_one]; exact hfit) hy (by intro b h; cases h) (srcOf_slc hsrc) h1 (by rw [Nat.mul_one]; exact hR)
end
/-- A slice whose block is the same elsewhere. -/
theorem SLC.reb {H H' : Hp} {z l c : Nat} {A : Option Addr} {cs : List Value} (h : SLC H z A l c cs) (hA : ∀ a, A = some a → H' a.block = H a.block) : SLC H' z A l c cs := by
 cases A with
 | none =>
  obtain ⟨h1, h2⟩ := h
  cases l with
  | zero => cases c with
   | zero => exact ⟨h1, trivial⟩
   | succ c => exact absurd h2 (by simp [SlcWf])
  | succ l => exact absurd h2 (by simp [SlcWf])
 | some a =>
  obtain ⟨n, off, sp⟩ := a
  have e : H' n = H n := hA _ rfl
  obtain ⟨h1, h2⟩ := h
  refine ⟨?_, ?_⟩
  ·unfold slcCells at h1 ⊢
   split at h1 <;> simp_all
  ·unfold SlcWf at h2 ⊢
   split at h2 <;> simp_all
/-! ### Literals with great parts -/
theorem putL_next {L l : List Value} {p : Nat} {c : Value} (h : p < L.length) : putL (L.set p c) (p + 1) l = putL L p (c :: l) := by
 unfold putL
 rw [List.length_cons, show p + (l.length + 1) = p + 1 + l.length by omega, List.take_set, List.drop_set_of_lt Wz, List.take_succ_eq_append_getElem h, List.set_append_right _ _ (by rw [List.length_take]; omega), List.length_take, Nat.min_eq_left Wz, Nat.sub_self, List.set_cons_zero]
 simp [List.append_assoc]
theorem setAll (off : Nat) : ∀ (l : List Value) (i : Nat) (cs : Array Value), off + i + l.length ≤ cs.size → ((l.zipIdx i).foldl (fun (cs : Array Value) (p : Value × Nat) => cs.setIfInBounds (off + p.2) p.1) cs).toList = putL cs.toList (off + i) l
 | [], i, cs, h => by
  rw [List.zipIdx_nil, List.foldl_nil, putL, List.length_nil, Nat.add_zero, List.append_nil, List.take_append_drop]
 | c :: l, i, cs, h => by
  rw [List.length_cons] at h
  rw [List.zipIdx_cons, List.foldl_cons, setAll off l (i + 1) _ (by rw [Array.size_setIfInBounds]; omega), Array.toList_setIfInBounds, ← Nat.add_assoc, putL_next (by rw [Array.length_toList]; omega)]
theorem fill_cons {place : Nat → Option (Nat × Nat)} {i off size : Nat} {v : Value} {cells : Array Value} {rest : List (Nat × Value)} (l : List Value) (hp : place i = some (off, size)) (hv : v.cells.toList = l) (hs : l.length = size) (hb : off + size ≤ cells.size) :
  Instr.fill place cells ((i, v) :: rest) = Instr.fill place (putL cells.toList off l).toArray rest := by
 have hz : v.cells.size = size := by rw [← Array.length_toList, hv, hs]
 have e : v.cells.zipIdx.foldl (fun (cs : Array Value) (p : Value × Nat) => cs.setIfInBounds (off + p.2) p.1) cells = (putL cells.toList off l).toArray := by
  apply Array.toList_inj.1
  rw [← Array.foldl_toList, Array.toList_zipIdx, hv, setAll off l 0 cells Wz]
  rfl
 rw [Instr.fill, hp]
 simp only
 rw [if_neg (by simp [hz]; omega)]
 exact congrArg (fun c => Instr.fill place c rest) e
/-! ### Digests that are taken -/
theorem one_bvA (l : List UInt8) : (l.map bv).toArray.all (·.oneCell') = true := by rw [← Array.all_toList]; simp [bv, Value.oneCell']
def pad32 (l : List UInt8) : List UInt8 := (l ++ List.replicate 32 0).take 32
theorem pad32_len (l : List UInt8) : (pad32 l).length = 32 := by rw [pad32, List.length_take, List.length_append, List.length_replicate]; omega
def Rd.hash (r : Rd) : Dg × Rd := (⟨pad32 (r.take 32).1, pad32_len _⟩, (r.take 32).2)
theorem Rd.take_all (r : Rd) (n : Nat) : (r.take n).1 = [] ∨ (r.take n).1.length = n := by
 unfold Rd.take
 split
 ·exact .inl rfl
 ·split
  ·exact .inl rfl
  ·rename_i h
   refine .inr ?_
   show (r.rest.take n).length = n
   rw [List.length_take, Rd.rest_len]
   unfold Rd.left at h
   omega
theorem pad32_nil : pad32 [] = List.replicate 32 0 := rfl
theorem pad32_full {l : List UInt8} (h : l.length = 32) : pad32 l = l := by
 rw [pad32, ← h, List.take_left']
 rfl
/-- A digest's cells are copied over cells of as many. -/
theorem copy32 {x : List UInt8} {cs a r : List Value} (off : Nat) (hc : cs = a ++ (List.replicate 32 (.int .u8 0) ++ r)) (ha : a.length = off) (hx : x = [] ∨ x.length = 32) : putL cs off ((x.map bv).take (min x.length 32)) = a ++ ((pad32 x).map bv ++ r) := by
 subst hc; subst ha
 rcases hx with rfl | hx
 ·rw [pad32_nil, List.map_nil, List.take_nil, putL, List.length_nil, Nat.add_zero, List.append_nil, List.take_append_drop]
  rfl
 ·have h1 : (x.map bv).take (min x.length 32) = x.map bv := List.take_of_length_le (by rw [List.length_map, hx]; exact Nat.le_refl _)
  have h2 : (x.map bv).length = 32 := by rw [List.length_map, hx]
  rw [h1, pad32_full hx, putL, List.take_left, h2, List.append_assoc, List.append_right_inj, List.append_right_inj, ← List.append_assoc, List.drop_left']
  rw [List.length_append, List.length_replicate]
abbrev dblk (d : List UInt8) : Blk := { cells := d.map bv, elem := 65, kind := .fix }
end Go.Proofs.YteoofihjmldllaaDoor
