/- Replies as they grow in memory: lists of digests, of blocks, of slices of bytes. No condition. -/
import Derived.Test.YteoofihjmldllaaDoorRR
set_option linter.unusedVariables false
set_option linter.unusedSimpArgs false
set_option maxRecDepth 100000
namespace Go.Ab
open Go.RowKit
theorem RetQ.cell2 {P : Program} {fn : Func} {H H'' : Hp} {k t ty t' t2 : Nat} {R : Value → Hp → Nat → Prop} {fr : Fr} {H' : Hp} {k' : Nat} {p v v' v2 : Value} (hr : fn.results = #[.cell t ty, .tmp t', .tmp t2]) (hp : fr t = some p) (hv : aloadVar P H' ty p = some v) (hv' : fr t' = some v') (hv2 : fr t2 = some v2) (hs : Sub H'' H') (hst : ∀ n b, H n = some b → ∃ b', H'' n = some b') (hR : k ≤ k' → R (.tuple #[v, v', v2]) H'' k') :
  RetQ P fn H k R .ret ⟨fr, H', k'⟩ := by
 intro hk
 refine ⟨[v, v', v2], H'', ?_, hs, hst, hR hk⟩
 rw [hr]
 simp [aresults, aresult, hp, hv, hv', hv2]
end Go.Ab
namespace Go.Proofs.YteoofihjmldllaaDoor
open Go Go.Ab
theorem sub_thru {Z X Y : Hp} {n : Nat} (h : Ab.Sub Z X) (hz : Z n = none) (h2 : Ab.Sub (upd X n none) Y) : Ab.Sub Z Y := fun m b hm => by
 by_cases e : m = n
 ·subst e; rw [hz] at hm; cases hm
 ·exact h2 m b ((upd_other _ _ e).trans (h m b hm))
/-- A heap's blocks of some names. -/
def cutR (H : Hp) (a b : Nat) : Hp := fun m => if a ≤ m ∧ m < b then H m else none
theorem cutR_at {H : Hp} {a b m : Nat} (h1 : a ≤ m) (h2 : m < b) : cutR H a b m = H m := if_pos ⟨h1, h2⟩
theorem cutR_no {H : Hp} {a b m : Nat} (h : m < a ∨ b ≤ m) : cutR H a b m = none := if_neg Wz
theorem cutR_sub {H : Hp} {a b : Nat} : Ab.Sub (cutR H a b) H := fun m x hm => by
 unfold cutR at hm
 split at hm
 ·exact hm
 ·cases hm
theorem cutH_upd {H : Hp} {w m : Nat} {x : Option Blk} (h : m < w) : cutH (upd H m x) w = cutH H w := by
 funext j
 unfold cutH
 split
 ·exact upd_other _ _ Wz
 ·rfl
/-- A heap's blocks from a name on, without one. -/
def cutK (H : Hp) (q w : Nat) : Hp := cutH (upd H q none) w
theorem cutK_by {X Y : Hp} {n q w : Nat} (h : Ab.Sub (upd X n none) Y) (hn : n < w) : Ab.Sub (cutK X q w) (cutK Y q w) := by
 refine cutH_by (n := n) (fun m b hm => ?_) hn
 by_cases e : m = n
 ·subst e; rw [upd_same] at hm; cases hm
 ·rw [upd_other _ _ e] at hm
  by_cases e2 : m = q
  ·subst e2; rw [upd_same] at hm; cases hm
  ·rw [upd_other _ _ e2] at hm ⊢
   exact h m b ((upd_other _ _ e).trans hm)
theorem cutK_set {X : Hp} {q w : Nat} {b : Option Blk} : cutK (upd X q b) q w = cutK X q w := by unfold cutK; rw [rd_upd2]
theorem cutK_sub {X : Hp} {q w : Nat} : Ab.Sub (cutK X q w) (cutH X w) := cutH_mono (sub_drop (sub_refl X))
theorem cutK_in {X : Hp} {q w : Nat} (h : X q = none) : Ab.Sub (cutH X w) (cutK X q w) := cutH_mono (sub_new (sub_refl X) h)
theorem cutK_lt {X : Hp} {q w m : Nat} (h : m < w) : cutK X q w m = none := if_neg Wz
theorem cutK_at {X : Hp} {q w : Nat} : cutK X q w q = none := by
 unfold cutK cutH
 split
 ·exact upd_same _ _ _
 ·rfl
theorem cutK_no {X : Hp} {q w m : Nat} (h : X m = none) : cutK X q w m = none := by
 unfold cutK cutH
 split
 ·exact none_n h
 ·rfl
theorem cut_lift {X Y : Hp} {q w : Nat} (h : Ab.Sub (cutK X q w) Y) : Ab.Sub (cutK X q w) (cutH Y w) := fun m b hm => by
 rcases Nat.lt_or_ge m w with hc | hc
 ·rw [cutK_lt hc] at hm; cases hm
 ·rw [cutH_at hc]
  exact h m b hm
theorem cutH_less {X : Hp} {a b : Nat} (h : b ≤ a) : Ab.Sub (cutH X a) (cutH X b) := fun m x hm => by
 rcases Nat.lt_or_ge m a with hc | hc
 ·rw [show cutH X a m = none from if_neg Wz] at hm; cases hm
 ·rw [cutH_at Wz]
  rw [cutH_at hc] at hm
  exact hm
theorem sub_eq {X Y : Hp} (h : X = Y) : Ab.Sub X Y := by rw [h]; exact sub_refl _
theorem cutH_K {X : Hp} {q w : Nat} (h : w ≤ q) : Ab.Sub (cutH X (q + 1)) (cutK X q w) := fun m b hm => by
 rcases Nat.lt_or_ge m (q + 1) with hc | hc
 ·rw [show cutH X (q + 1) m = none from if_neg Wz] at hm; cases hm
 ·rw [cutH_at hc] at hm
  unfold cutK
  rw [cutH_at Wz]
  exact Uz hm
abbrev dob (d : Dg) : Blk := { cells := d.l.map bv, elem := 65, kind := .grow, esz := 32 }
abbrev dwb (l : List Dg) : Blk := { cells := hcs l, elem := 65, kind := .grow, esz := 32 }
abbrev swb (cs : List Value) : Blk := { cells := cs, elem := 84, kind := .grow, esz := 38 }
abbrev kwb (vs : List Value) : Blk := { cells := vs, elem := 22, kind := .grow }
theorem hcs_snoc (l : List Dg) (c : Dg) : hcs (l ++ [c]) = hcs l ++ c.l.map bv := by rw [hcs, List.flatMap_append, List.flatMap_singleton]
theorem SLC.dwb {H : Hp} {q : Nat} {l : List Dg} (h : H q = some (dwb l)) : SLC H 32 (some ⟨q, 0, some 1⟩) l.length l.length (hcs l) := SLC.grow h rfl (hcs_len l).symm
theorem SLC.swb {H : Hp} {q : Nat} {bs : List Value} {n : Nat} (h : H q = some (swb bs)) (hn : bs.length = n * 38) : SLC H 38 (some ⟨q, 0, some 1⟩) n n bs := SLC.grow h rfl hn.symm
theorem SLC.kwb {H : Hp} {q : Nat} {vs : List Value} (h : H q = some (kwb vs)) : SLC H 1 (some ⟨q, 0, some 1⟩) vs.length vs.length vs := SLC.grow h rfl (Nat.mul_one _)
theorem Sps.snoc {H : Hp} {bs cs : List Value} {l : List Sp} {x : Sp} (h : Sps H bs l) (hx : SpC H x cs) : Sps H (bs ++ cs) (l ++ [x]) := by
 have hl := h.len
 have hc := hx.len
 refine ⟨by rw [List.length_append, List.length_append, hl, hc]; show _ = (l.length + 1) * 38; omega, fun i hi => ?_⟩
 rw [List.length_append, List.length_singleton] at hi
 by_cases hi2 : i < l.length
 ·have e1 : (l ++ [x]).getD i spD = l.getD i spD := by rw [List.getD_eq_getElem?_getD, List.getD_eq_getElem?_getD, List.getElem?_append_left hi2]
  have e2 : ((bs ++ cs).drop (i * 38)).take 38 = (bs.drop (i * 38)).take 38 := by
   rw [List.drop_append_of_le_length Wz, List.take_append_of_le_length (by rw [List.length_drop]; omega)]
  rw [e1, e2]
  exact h.at_ i hi2
 ·have e0 : i = l.length := by omega
  subst e0
  have e1 : (l ++ [x]).getD l.length spD = x := by rw [List.getD_eq_getElem?_getD, List.getElem?_append_right (Nat.le_refl _), Nat.sub_self]; rfl
  have e2 : ((bs ++ cs).drop (l.length * 38)).take 38 = cs := by rw [← hl, List.drop_left, List.take_of_length_le Wz]
  rw [e1, e2]
  exact hx
theorem Bws.snoc {H : Hp} {vs : List Value} {ls : List (List UInt8)} {x : List UInt8} {A : Option Addr} {c : Nat} (h : Bws H vs ls) (hs : SLC H 1 A x.length c (x.map bv)) : Bws H (vs ++ [.slice A x.length c]) (ls ++ [x]) := by
 have hl := h.len
 refine ⟨by rw [List.length_append, List.length_append, hl]; rfl, fun i hi => ?_⟩
 rw [List.length_append, List.length_singleton] at hi
 by_cases hi2 : i < ls.length
 ·obtain ⟨B, d, h1, h2⟩ := h.at_ i hi2
  have e1 : (vs ++ [Value.slice A x.length c]).getD i undef = vs.getD i undef := by
   rw [List.getD_eq_getElem?_getD, List.getD_eq_getElem?_getD, List.getElem?_append_left Wz]
  have e2 : (ls ++ [x]).getD i [] = ls.getD i [] := by
   rw [List.getD_eq_getElem?_getD, List.getD_eq_getElem?_getD, List.getElem?_append_left hi2]
  rw [e1, e2]
  exact ⟨B, d, h1, h2⟩
 ·have e0 : i = ls.length := by omega
  subst e0
  have e1 : (vs ++ [Value.slice A x.length c]).getD ls.length undef = .slice A x.length c := by
   rw [List.getD_eq_getElem?_getD, List.getElem?_append_right Wz, hl, Nat.sub_self]; rfl
  have e2 : (ls ++ [x]).getD ls.length [] = x := by
   rw [List.getD_eq_getElem?_getD, List.getElem?_append_right (Nat.le_refl _), Nat.sub_self]; rfl
  rw [e1, e2]
  exact ⟨A, c, rfl, hs⟩
/-- New slices lie among the blocks of later names. -/
theorem SLC.newH {H : Hp} {z l c w k k' : Nat} {A : Option Addr} {cs : List Value} (h : SLC H z A l c cs) (hA : ∀ a, A = some a → k ≤ a.block ∧ a.block < k') (hw : w ≤ k) : SLC (Go.Proofs.YteoofihjmldllaaDoor.cutH H w) z A l c cs :=
 SLC.reb h fun a ha => cutH_at (by have := (hA a ha).1; omega)
theorem SLC.newR {H : Hp} {z l c k k' : Nat} {A : Option Addr} {cs : List Value} (h : SLC H z A l c cs) (hA : ∀ a, A = some a → k ≤ a.block ∧ a.block < k') : SLC (cutR H k k') z A l c cs :=
 SLC.reb h fun a ha => cutR_at (hA a ha).1 (hA a ha).2
/-! ### Cells of replies and blocks -/
theorem rpc_set (r : Rp) (a b c x : Value) : (rpc r a b c).set 98 x = rpc r x b c ∧ (rpc r a b c).set 99 x = rpc r a x c ∧ (rpc r a b c).set 100 x = rpc r a b x := by
 have h : ∀ j, (rpc r a b c).set (98 + j) x = .int .i64 r.size :: (r.root.l.map bv ++ (entc r.ent ++ [a, b, c].set j x)) := fun j => by
  rw [rpc, show 98 + j = (97 + j) + 1 by omega, List.set_cons_succ, List.set_append_right _ _ (by rw [hcs_one]; omega), List.set_append_right _ _ (by rw [hcs_one, entc_len]; omega), hcs_one, entc_len]
  congr 4
  omega
 exact ⟨h 0, h 1, h 2⟩
theorem rpc_root1 (s : Int) (d e : Dg) (x : Ent) (p : List Dg) (q : List Col) (o : List Sp) (a b c : Value) : putL (rpc ⟨s, d, x, p, q, o⟩ a b c) 1 (e.l.map bv) = rpc ⟨s, e, x, p, q, o⟩ a b c := by
 unfold putL
 rw [hcs_one]
 show Value.int .i64 s :: (List.take 0 (d.l.map bv ++ (entc x ++ [a, b, c])) ++ (e.l.map bv) ++ List.drop 32 (d.l.map bv ++ (entc x ++ [a, b, c]))) = _
 rw [List.take_zero, List.nil_append, List.drop_left' (hcs_one d)]
theorem rpc_ent33 (s : Int) (d : Dg) (x y : Ent) (p : List Dg) (q : List Col) (o : List Sp) (a b c : Value) : putL (rpc ⟨s, d, x, p, q, o⟩ a b c) 33 (entc y) = rpc ⟨s, d, y, p, q, o⟩ a b c := by
 unfold putL
 rw [entc_len]
 have e : rpc ⟨s, d, x, p, q, o⟩ a b c = (Value.int .i64 s :: d.l.map bv) ++ (entc x ++ [a, b, c]) := rfl
 have h : (Value.int .i64 s :: d.l.map bv).length = 33 := by rw [List.length_cons, hcs_one]
 rw [e, List.take_left' h, ← List.drop_drop, List.drop_left' h, List.drop_left' (entc_len x), List.append_assoc]
 rfl
theorem spc_set (x : Sp) (a b c y : Value) : (spc x a b c).set 36 y = spc x a y c ∧ (spc x a b c).set 37 y = spc x a b y := by
 have h : ∀ j, (spc x a b c).set (35 + j) y = hdc x.h a ++ [Value.bool x.opn, b, c].set j y := fun j => by
  rw [spc, List.set_append_right _ _ (by rw [hdc_len]; omega), hdc_len, Nat.add_sub_cancel_left]
 exact ⟨h 1, h 2⟩
theorem sp_put0 (Z : List Value) (o : Bool) (hZ : Z = hdc hdD (.slice none 0 0) ++ [.bool o, .slice none 0 0, .slice none 0 0]) (h : Hd) (s : Value) : (putL Z 0 (hdc h s)).length = 38 := by
 subst hZ
 unfold putL
 rw [List.take_zero, List.nil_append, Nat.zero_add, hdc_len, List.drop_left' (hdc_len _ _), List.length_append, hdc_len]
 rfl
theorem sp_fill (Z : List Value) (o : Bool) (hZ : Z = hdc hdD (.slice none 0 0) ++ [.bool o, .slice none 0 0, .slice none 0 0]) (h : Hd) (s : Value) (p : Bool) : putL (putL Z 0 (hdc h s)) 35 [.bool p] = spc ⟨h, p, [], []⟩ s (.slice none 0 0) (.slice none 0 0) := by
 subst hZ
 have e : putL (hdc hdD (.slice none 0 0) ++ [Value.bool o, .slice none 0 0, .slice none 0 0]) 0 (hdc h s) = hdc h s ++ [Value.bool o, .slice none 0 0, .slice none 0 0] := by
  unfold putL
  rw [List.take_zero, List.nil_append, Nat.zero_add, hdc_len, List.drop_left' (hdc_len _ _)]
 rw [e]
 unfold putL
 rw [List.take_left' (hdc_len _ _), List.drop_append, hdc_len, List.drop_of_length_le (by rw [hdc_len]; exact Nat.le_of_ble_eq_true rfl), List.append_assoc]
 rfl
theorem rp_one (r : Rp) (a b c : Value) (h1 : a.oneCell' = true) (h2 : b.oneCell' = true) (h3 : c.oneCell' = true) : ((rpv r a b c).cells.toList.all fun x => x.oneCell') = true := by
 show ((rpc r a b c).all fun x => x.oneCell') = true
 rw [List.all_eq_true]
 intro v hv
 simp only [rpc, entc, List.mem_append, List.mem_cons, List.mem_map, List.not_mem_nil, or_false] at hv
 rcases hv with rfl | ⟨a, _, rfl⟩ | (⟨a, _, rfl⟩ | rfl | ⟨a, _, rfl⟩) | rfl | rfl | rfl
 all_goals first | rfl | assumption
/-! ### Rounds -/
def rpI6 (r : Rd) (i : Nat) : List Dg × Rd := itR phStep ([], (rp5 r).2) i
def rpI8 (r : Rd) (i : Nat) : List Sp × Rd := itR (spStep (rp3 r).1) ([], (rp7 r).2) i
def shI (cols : List Col) (r : Rd) (i : Nat) : List (List UInt8) × Rd := itR ckStep ([], (shC cols r).2) i
theorem rpI6_len (r : Rd) (i : Nat) : (rpI6 r i).1.length = i := (itR_len (f := phStep) (fun p => snoc_len _ _) _ i).trans (Nat.zero_add i)
theorem rpI8_len (r : Rd) (i : Nat) : (rpI8 r i).1.length = i := (itR_len (f := spStep (rp3 r).1) (fun p => snoc_len _ _) _ i).trans (Nat.zero_add i)
theorem shI_len (cols : List Col) (r : Rd) (i : Nat) : (shI cols r i).1.length = i := (itR_len (f := ckStep) (fun p => snoc_len _ _) _ i).trans (Nat.zero_add i)
theorem rpI8_end {r : Rd} {n i : Nat} (hn : n = (rp7 r).1) (h : rp8 r = runR (spStep (rp3 r).1) (n - i) (rpI8 r i)) (hi : i = n ∨ (rpI8 r i).2.e ≠ 0) : rp8 r = rpI8 r i := by
 rcases hi with hi | hi
 ·rw [h, hi, Nat.sub_self]; rfl
 ·rw [h, runR_err hi]
theorem rpI8_next {r : Rd} {n i : Nat} (h : rp8 r = runR (spStep (rp3 r).1) (n - i) (rpI8 r i)) (hi : i < n) (he : (rpI8 r i).2.e = 0) : rp8 r = runR (spStep (rp3 r).1) (n - (i + 1)) (rpI8 r (i + 1)) := by
 rw [h, show n - i = n - (i + 1) + 1 by omega, runR, if_neg (fun x => x he)]
 rfl
theorem ship_t {cols : List Col} {r : Rd} (h : r.fix1.1 = 1) : r.ship cols = (⟨(shA cols r).1, true, (shB cols r).1, (shI cols r (shC cols r).1).1⟩, (shI cols r (shC cols r).1).2) := if_pos h
theorem ship_f {cols : List Col} {r : Rd} (h : ¬ r.fix1.1 = 1) : r.ship cols = (⟨(shA cols r).1, false, [], []⟩, (shA cols r).2) := if_neg h
theorem Rd.opn_t {r : Rd} (h : r.fix1.1 > 1) : r.opn = r.fix1.2.fail 4 := if_pos h
theorem Rd.opn_f {r : Rd} (h : ¬ r.fix1.1 > 1) : r.opn = r.fix1.2 := if_neg h
abbrev Pz (R : Rd) (i : Nat) : Rd := (rpI8 R i).2
abbrev Az (R : Rd) (i : Nat) : Hd × Rd := shA (rp3 R).1 (rpI8 R i).2
abbrev Bz (R : Rd) (i : Nat) : List UInt8 × Rd := shB (rp3 R).1 (rpI8 R i).2
abbrev Gz (R : Rd) (i : Nat) : Nat × Rd := shC (rp3 R).1 (rpI8 R i).2
abbrev Lz (R : Rd) (i j : Nat) : List UInt8 × Rd := (shI (rp3 R).1 (rpI8 R i).2 j).2.blob 16777216
abbrev Qz (R : Rd) (a b c : Value) : Blk := rpblk ⟨((rp1 R).1 : Nat), (rp2 R).1, (rp4 R).1, [], [], []⟩ a b c
abbrev Yz (R : Rd) (i : Nat) (A1 : Option Addr) (d1 : Nat) (b c : Value) : Blk := spblk ⟨(shA (rp3 R).1 (rpI8 R i).2).1, decide ((rpI8 R i).2.fix1.1 = 1), [], []⟩ (.slice A1 (shA (rp3 R).1 (rpI8 R i).2).1.cols.length d1) b c
end Go.Proofs.YteoofihjmldllaaDoor
