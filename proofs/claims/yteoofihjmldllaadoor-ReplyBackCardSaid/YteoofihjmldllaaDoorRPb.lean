/- A reply's form reads back, in plain Lean. No condition. -/
import Derived.Test.YteoofihjmldllaaDoorRW
import Derived.Test.YteoofihjmldllaaDoorRR
import Derived.Test.YteoofihjmldllaaDoorRU
set_option linter.unusedVariables false
set_option linter.unusedSimpArgs false
set_option maxRecDepth 100000
namespace Go.Proofs.YteoofihjmldllaaDoor
open Go Go.Ab
theorem Rd.has.count {r : Rd} {v m : Nat} {y : List UInt8} (h : r.has (varB v ++ y)) (hv : v < 18446744073709551616) (hm : v ≤ m) : r.count m = (v, r.adv (varB v).length) ∧ (r.adv (varB v).length).has y := by
 obtain ⟨h1, h2⟩ := h.var hv
 refine ⟨?_, h2⟩
 have e : r.countR m = r.adv (varB v).length := by rw [Rd.countR_f (by rw [h1]; show ¬ v > m; omega), h1]
 rw [Rd.count, e, if_neg (fun x => x h2.e0), h1]
theorem Rd.has.num {r : Rd} {v : Nat} {y : List UInt8} (h : r.has (varB v ++ y)) (hv : v ≤ 65536) : r.num = ((v : Int), r.adv (varB v).length) ∧ (r.adv (varB v).length).has y := by
 obtain ⟨h1, h2⟩ := h.var Wz
 refine ⟨?_, h2⟩
 rw [Rd.num, h1]
 exact congrArg (·, _) (by show Min.min (v : Int) 65537 = v; omega)
theorem Rd.has.hash {r : Rd} {d : Dg} {y : List UInt8} (h : r.has (d.l ++ y)) : r.hash = (d, r.adv 32) ∧ (r.adv 32).has y := by
 have h1 := h.take
 have h2 := h.adv
 rw [d.h] at h1 h2
 refine ⟨?_, h2⟩
 exact Prod.ext (Dg.ext_ (show pad32 (r.take 32).1 = d.l by rw [h1]; exact pad32_full d.h)) (show (r.take 32).2 = r.adv 32 by rw [h1])
theorem valEq_eq {a b : Val} (h : valEq a b = true) : a = b := by
 have := (valEq_iff a b).1 h
 obtain ⟨k1, n1, s1⟩ := a
 obtain ⟨k2, n2, s2⟩ := b
 have h2 : (#[Value.int .i64 k1, .int .i64 n1, .string s1] : Array Value) = #[.int .i64 k2, .int .i64 n2, .string s2] := this
 simp at h2
 obtain ⟨rfl, rfl, rfl⟩ := h2
 rfl
/-- A zone that reads back. -/
def ZTidy (z : Zn) : Prop := z.fit ∧ (if z.some = true then Tidy z.min ∧ Tidy z.max else z.min = vD ∧ z.max = vD)
theorem sound_tidy {z : Zn} {rows kind : Int} (h : soundR z rows kind = true) (hr : rows ≤ 65536) (ho : z.ok) : ZTidy z := by
 unfold soundR at h
 split at h
 ·cases h
 ·rename_i h1
  simp only [Bool.or_eq_true, not_or, decide_eq_true_eq] at h1
  refine ⟨⟨by omega, by omega⟩, ?_⟩
  split at h
  ·rename_i h2
   rw [if_pos h2]
   simp only [Bool.and_eq_true, decide_eq_true_eq] at h
   obtain ⟨⟨⟨⟨⟨_, h3⟩, h4⟩, h5⟩, h6⟩, _⟩ := h
   exact ⟨right_tidy h3 Wz ho.2.1, right_tidy h4 Wz ho.2.2⟩
  ·rename_i h2
   rw [if_neg h2]
   simp only [Bool.and_eq_true] at h
   exact ⟨valEq_eq h.1, valEq_eq h.2⟩
theorem Rd.has.zone {r : Rd} {z : Zn} {y : List UInt8} (hz : ZTidy z) (h : r.has (zB z ++ y)) : r.zone = (z, r.adv (zB z).length) ∧ (r.adv (zB z).length).has y := by
 refine ⟨?_, h.adv⟩
 obtain ⟨⟨z0, z1⟩, hz⟩ := hz
 obtain ⟨nulls, some, mn, mx⟩ := z
 simp only at z0 z1 hz
 obtain ⟨v, rfl⟩ : ∃ v : Nat, nulls = v := ⟨nulls.toNat, by omega⟩
 have hv : v ≤ 65536 := by omega
 cases some
 ·rw [if_neg Dz] at hz
  obtain ⟨rfl, rfl⟩ := hz
  have h0 : r.has (varB v ++ (0 :: y)) := by
   have : zB ⟨(v : Int), false, vD, vD⟩ = varB v ++ [0] := rfl
   rw [this, List.append_assoc] at h
   exact h
  obtain ⟨n1, n2⟩ := h0.num hv
  obtain ⟨f1, f2⟩ := n2.fix1
  have e : r.num.2.fix1 = ((0 : UInt8).toNat, r.adv ((varB v).length + 1)) := by rw [n1]; show (r.adv (varB v).length).fix1 = _; rw [f1, Rd.adv_adv]
  rw [Rd.zone0 (by rw [e]; rfl), e, n1]
  show _ = (_, r.adv (varB v ++ [0]).length)
  rw [List.length_append]
  rfl
 ·rw [if_pos rfl] at hz
  have h0 : r.has (varB v ++ (1 :: (putB mn ++ (putB mx ++ y)))) := by
   have : zB ⟨(v : Int), true, mn, mx⟩ = varB v ++ (1 :: (putB mn ++ putB mx)) := rfl
   rw [this, List.append_assoc, List.cons_append, List.append_assoc] at h
   exact h
  obtain ⟨n1, n2⟩ := h0.num hv
  obtain ⟨f1, f2⟩ := n2.fix1
  obtain ⟨v1, v2⟩ := takeV_put hz.1 f2
  obtain ⟨w1, w2⟩ := takeV_put hz.2 v2
  have e : r.num.2.fix1 = ((1 : UInt8).toNat, r.adv ((varB v).length + 1)) := by rw [n1]; show (r.adv (varB v).length).fix1 = _; rw [f1, Rd.adv_adv]
  simp only [Rd.adv_adv] at v1 w1
  rw [Rd.zone1 (by rw [e]; rfl), e, n1]
  simp only
  rw [v1]
  simp only
  rw [w1]
  show _ = (_, r.adv (varB v ++ (1 :: (putB mn ++ putB mx))).length)
  rw [List.length_append, List.length_cons, List.length_append]
  congr 2
  ac_rfl
theorem chRun_put : ∀ (l : List Ch) (pre : List Ch) (r : Rd) (y : List UInt8), (∀ c ∈ l, ZTidy c.z) → r.has (csB l ++ y) → runR chStep l.length (pre, r) = (pre ++ l, r.adv (csB l).length) ∧ (r.adv (csB l).length).has y
 | [], pre, r, y, _, h => by
  refine ⟨?_, h.adv⟩
  rw [List.append_nil]
  rfl
 | c :: l, pre, r, y, ht, h => by
  have h0 : r.has (zB c.z ++ (c.d.l ++ (csB l ++ y))) := by
   rw [csB, List.flatMap_cons, chB, List.append_assoc, List.append_assoc] at h
   exact h
  obtain ⟨z1, z2⟩ := h0.zone (ht c (by simp))
  obtain ⟨d1, d2⟩ := z2.hash
  rw [Rd.adv_adv] at d1 d2
  obtain ⟨h3, h4⟩ := chRun_put l (pre ++ [c]) _ y (fun b hb => ht b (by simp [hb])) d2
  have e : (csB (c :: l)).length = (zB c.z).length + 32 + (csB l).length := by rw [csB, List.flatMap_cons, List.length_append, chB, List.length_append, c.d.h]; rfl
  rw [Rd.adv_adv, ← e] at h3 h4
  refine ⟨?_, h4⟩
  have es : chStep (pre, r) = (pre ++ [c], r.adv ((zB c.z).length + 32)) := by
   unfold chStep
   simp only
   rw [z1]
   simp only
   rw [d1]
  rw [List.length_cons, runR, if_neg (fun he => he h.e0), es, h3, List.append_assoc]
  rfl
/-- A header that reads back with a schema. -/
theorem sound_zones {h : Hd} {cols : List Col} (hs : soundH soundR h cols = true) (ho : ∀ c ∈ h.cols, c.z.ok) : ∀ c ∈ h.cols, ZTidy c.z := by
 obtain ⟨hf, hl⟩ := soundH_fit hs
 unfold soundH at hs
 split at hs
 ·cases hs
 ·have hb := List.all_eq_true.1 hs
  intro c hc
  obtain ⟨i, hi, rfl⟩ := List.mem_iff_getElem.1 hc
  have h6 := hb i (List.mem_range.2 Wz)
  rw [Bool.not_eq_true'] at h6
  unfold colH at h6
  rw [Bool.or_eq_false_iff, Bool.not_eq_false', getD_el hi] at h6
  exact sound_tidy h6.1 hf.r1 (ho _ hc)
theorem Rd.has.head {r : Rd} {h : Hd} {cols : List Col} {y : List UInt8} (hs : soundH soundR h cols = true) (ho : ∀ c ∈ h.cols, c.z.ok) (hh : r.has (hdB h ++ y)) : r.head cols = (h, r.adv (hdB h).length) ∧ (r.adv (hdB h).length).has y := by
 refine ⟨?_, hh.adv⟩
 have ht := sound_zones hs ho
 obtain ⟨hf, hl⟩ := soundH_fit hs
 obtain ⟨rows, live, dead, cs⟩ := h
 obtain ⟨f1, f2, f3, f4, f5⟩ := hf
 simp only at f1 f2 f3 f4 hl ht
 obtain ⟨a, rfl⟩ : ∃ v : Nat, rows = v := ⟨rows.toNat, by omega⟩
 obtain ⟨b, rfl⟩ : ∃ v : Nat, live = v := ⟨live.toNat, by omega⟩
 have eB : hdB ⟨(a : Int), (b : Int), dead, cs⟩ = varB a ++ (varB b ++ (dead.l ++ csB cs)) := rfl
 have h0 : r.has (varB a ++ (varB b ++ (dead.l ++ (csB cs ++ y)))) := by
  rw [eB, List.append_assoc, List.append_assoc, List.append_assoc] at hh
  exact hh
 obtain ⟨a1, a2⟩ := h0.num Wz
 obtain ⟨b1, b2⟩ := a2.num Wz
 obtain ⟨d1, d2⟩ := b2.hash
 obtain ⟨c1, c2⟩ := chRun_put cs [] _ y ht d2
 simp only [Rd.adv_adv] at b1 d1 c1
 have n2 : r.num.2.num = ((b : Int), r.adv ((varB a).length + (varB b).length)) := by rw [a1]; exact b1
 have n3 : r.num.2.num.2.hash = (dead, r.adv ((varB a).length + (varB b).length + 32)) := by rw [n2]; exact d1
 have hrun : hdRun r cs.length = (cs, r.adv (hdB ⟨(a : Int), (b : Int), dead, cs⟩).length) := by
  rw [hdRun, n3]
  simp only
  rw [c1, List.nil_append, eB, List.length_append, List.length_append, List.length_append, dead.h]
  congr 2
  omega
 have hof : hdOf r cs.length = ⟨(a : Int), (b : Int), dead, cs⟩ := by rw [hdOf, hrun, n3, n2, a1]
 have hend : hdEnd r cols = r.adv (hdB ⟨(a : Int), (b : Int), dead, cs⟩).length := by
  unfold hdEnd
  rw [← hl, hrun, hof, if_neg (by rw [hs]; simp)]
 rw [Rd.head, hend, if_neg (fun x => x hh.adv.e0), ← hl, hof]
theorem dsRun_put : ∀ (l : List Dg) (pre : List Dg) (r : Rd) (y : List UInt8), r.has (dsB l ++ y) → itR phStep (pre, r) l.length = (pre ++ l, r.adv (dsB l).length) ∧ (r.adv (dsB l).length).has y
 | [], pre, r, y, h => by
  refine ⟨?_, h.adv⟩
  rw [List.append_nil]
  rfl
 | d :: l, pre, r, y, h => by
  have h0 : r.has (d.l ++ (dsB l ++ y)) := by
   rw [dsB, List.flatMap_cons, List.append_assoc] at h
   exact h
  obtain ⟨d1, d2⟩ := h0.hash
  obtain ⟨h3, h4⟩ := dsRun_put l (pre ++ [d]) _ y d2
  have e : (dsB (d :: l)).length = 32 + (dsB l).length := by rw [dsB, List.flatMap_cons, List.length_append, d.h]; rfl
  rw [Rd.adv_adv, ← e] at h3 h4
  refine ⟨?_, h4⟩
  rw [List.length_cons, itR_front, show phStep (pre, r) = (pre ++ [d], r.adv 32) by unfold phStep; rw [d1], h3, List.append_assoc]
  rfl
theorem ksRun_put : ∀ (l : List (List UInt8)) (pre : List (List UInt8)) (r : Rd) (y : List UInt8), (∀ x ∈ l, x.length ≤ 16777216) → r.has (ksB l ++ y) → itR ckStep (pre, r) l.length = (pre ++ l, r.adv (ksB l).length) ∧ (r.adv (ksB l).length).has y
 | [], pre, r, y, _, h => by
  refine ⟨?_, h.adv⟩
  rw [List.append_nil]
  rfl
 | d :: l, pre, r, y, hl, h => by
  have h0 : r.has (varB d.length ++ (d ++ (ksB l ++ y))) := by
   rw [ksB, List.flatMap_cons, blB, List.append_assoc, List.append_assoc] at h
   exact h
  have hd := hl d (by simp)
  obtain ⟨d1, d2⟩ := h0.blob (most := 16777216) hd Wz
  obtain ⟨h3, h4⟩ := ksRun_put l (pre ++ [d]) _ y (fun x hx => hl x (by simp [hx])) d2
  have e : (ksB (d :: l)).length = (varB d.length).length + d.length + (ksB l).length := by rw [ksB, List.flatMap_cons, List.length_append, blB, List.length_append]; rfl
  rw [Rd.adv_adv, ← e] at h3 h4
  refine ⟨?_, h4⟩
  rw [List.length_cons, itR_front, show ckStep (pre, r) = (pre ++ [d], r.adv ((varB d.length).length + d.length)) by unfold ckStep; rw [d1], h3, List.append_assoc]
  rfl
theorem blockB_is {cols : List Col} {x : Sp} (h : blockB soundR cols x = true) : soundH soundR x.h cols = true ∧ (x.opn = false → x.dead = [] ∧ x.chunks = []) ∧ x.dead.length ≤ 65536 ∧ x.chunks.length ≤ 64 ∧ ∀ y ∈ x.chunks, y.length ≤ 16777216 := by
 unfold blockB at h
 split at h
 ·cases h
 ·rename_i h1
  have h1 : soundH soundR x.h cols = true := by simpa using h1
  split at h
  ·rename_i h2
   simp only [Bool.and_eq_true, beq_iff_eq] at h
   have a : x.dead = [] := List.eq_nil_of_length_eq_zero Wz
   have b : x.chunks = [] := List.eq_nil_of_length_eq_zero Wz
   exact ⟨h1, fun _ => ⟨a, b⟩, by rw [a]; exact Nat.zero_le _, by rw [b]; exact Nat.zero_le _, fun y hy => by rw [b] at hy; cases hy⟩
  ·rename_i h2
   simp only [Bool.and_eq_true, decide_eq_true_eq, Bool.not_eq_true'] at h
   refine ⟨h1, fun e => absurd e h2, by omega, by omega, fun y hy => ?_⟩
   have h4 := List.any_eq_false.1 h.2 y hy
   unfold longB at h4
   simp at h4
   omega
theorem Rd.has.ship {r : Rd} {x : Sp} {cols : List Col} {y : List UInt8} (hx : blockB soundR cols x = true) (ho : x.ok) (hh : r.has (spB x ++ y)) : r.ship cols = (x, r.adv (spB x).length) ∧ (r.adv (spB x).length).has y := by
 refine ⟨?_, hh.adv⟩
 obtain ⟨h1, h2, h3, h4, h5⟩ := blockB_is hx
 obtain ⟨h, opn, dead, chunks⟩ := x
 cases opn
 ·obtain ⟨rfl, rfl⟩ := h2 rfl
  have eB : spB ⟨h, false, [], []⟩ = 0 :: (hdB h ++ []) := rfl
  rw [List.append_nil] at eB
  have h0 : r.has (0 :: (hdB h ++ y)) := by rw [eB] at hh; exact hh
  obtain ⟨f1, f2⟩ := h0.fix1
  obtain ⟨g1, g2⟩ := f2.head (cols := cols) h1 ho.z
  have eo : r.opn = r.adv 1 := by unfold Rd.opn; rw [f1, if_neg (show ¬ (UInt8.toNat 0) > 1 by decide)]
  have ea : shA cols r = (h, r.adv (1 + (hdB h).length)) := by unfold shA; rw [eo, g1, Rd.adv_adv]
  rw [Rd.ship, f1, if_neg (show ¬ (UInt8.toNat 0) = 1 by decide), ea, eB, List.length_cons, Nat.add_comm]
 ·have eB : spB ⟨h, true, dead, chunks⟩ = 1 :: (hdB h ++ (blB dead ++ (varB chunks.length ++ ksB chunks))) := rfl
  have h0 : r.has (1 :: (hdB h ++ (varB dead.length ++ (dead ++ (varB chunks.length ++ (ksB chunks ++ y)))))) := by
   rw [eB, blB, List.cons_append, List.append_assoc, List.append_assoc, List.append_assoc, List.append_assoc] at hh
   exact hh
  obtain ⟨f1, f2⟩ := h0.fix1
  obtain ⟨g1, g2⟩ := f2.head (cols := cols) h1 ho.z
  obtain ⟨b1, b2⟩ := g2.blob (most := 65536) h3 (by simp only at h3; omega)
  obtain ⟨n1, n2⟩ := b2.count (m := 64) (by simp only at h4; omega) h4
  obtain ⟨k1, k2⟩ := ksRun_put chunks [] _ y h5 n2
  have eo : r.opn = r.adv 1 := by unfold Rd.opn; rw [f1, if_neg (show ¬ (UInt8.toNat 1) > 1 by decide)]
  have ea : shA cols r = (h, (r.adv 1).adv (hdB h).length) := by unfold shA; rw [eo, g1]
  have eb : shB cols r = (dead, ((r.adv 1).adv (hdB h).length).adv ((varB dead.length).length + dead.length)) := by unfold shB; rw [ea]; exact b1
  have ec : shC cols r = (chunks.length, (((r.adv 1).adv (hdB h).length).adv ((varB dead.length).length + dead.length)).adv (varB chunks.length).length) := by unfold shC; rw [eb]; exact n1
  have ed : shD cols r = (chunks, ((((r.adv 1).adv (hdB h).length).adv ((varB dead.length).length + dead.length)).adv (varB chunks.length).length).adv (ksB chunks).length) := by unfold shD; rw [ec]; exact k1
  rw [Rd.ship, f1, if_pos (show (UInt8.toNat 1) = 1 by decide), ed, eb, ea]
  simp only [Rd.adv_adv]
  rw [eB, List.length_cons, List.length_append, List.length_append, List.length_append, blB, List.length_append]
  congr 2
  omega
theorem spRun_put (cols : List Col) : ∀ (l : List Sp) (pre : List Sp) (r : Rd) (y : List UInt8), (∀ x ∈ l, blockB soundR cols x = true ∧ x.ok) → r.has (bsB l ++ y) → runR (spStep cols) l.length (pre, r) = (pre ++ l, r.adv (bsB l).length) ∧ (r.adv (bsB l).length).has y
 | [], pre, r, y, _, h => by
  refine ⟨?_, h.adv⟩
  rw [List.append_nil]
  rfl
 | c :: l, pre, r, y, ht, h => by
  have h0 : r.has (spB c ++ (bsB l ++ y)) := by
   rw [bsB, List.flatMap_cons, List.append_assoc] at h
   exact h
  obtain ⟨t1, t2⟩ := ht c (by simp)
  obtain ⟨h1, h2⟩ := h0.ship t1 t2
  obtain ⟨h3, h4⟩ := spRun_put cols l (pre ++ [c]) _ y (fun b hb => ht b (by simp [hb])) h2
  have e : (bsB (c :: l)).length = (spB c).length + (bsB l).length := by rw [bsB, List.flatMap_cons, List.length_append]; rfl
  rw [Rd.adv_adv, ← e] at h3 h4
  refine ⟨?_, h4⟩
  rw [List.length_cons, runR, if_neg (fun he => he h.e0), show spStep cols (pre, r) = (pre ++ [c], r.adv (spB c).length) by unfold spStep; rw [h1], h3, List.append_assoc]
  rfl
theorem Rd.has.ent {r : Rd} {e : Ent} {y : List UInt8} (hg : good e = true) (h : r.has (formB e ++ y)) : r.ent = (e, r.adv (formB e).length) ∧ (r.adv (formB e).length).has y := by
 refine ⟨?_, h.adv⟩
 have hg2 := good_le hg
 obtain ⟨s, g, d⟩ := e
 simp only at hg2
 obtain ⟨v, rfl⟩ : ∃ v : Nat, g = v := ⟨g.toNat, by omega⟩
 have eB : formB ⟨s, (v : Int), d⟩ = s.l ++ (varB v ++ d.l) := rfl
 have h0 : r.has (s.l ++ (varB v ++ (d.l ++ y))) := by rw [eB, List.append_assoc, List.append_assoc] at h; exact h
 obtain ⟨s1, s2⟩ := h0.hash
 obtain ⟨v1, v2⟩ := s2.var Wz
 obtain ⟨d1, d2⟩ := v2.hash
 rw [Rd.adv_adv] at v1 v2 d1
 rw [Rd.adv_adv] at d1
 have e1 : r.entV = (v, r.adv (32 + (varB v).length)) := by rw [Rd.entV, s1]; exact v1
 have e2 : r.entD = (d, r.adv (32 + (varB v).length + 32)) := by rw [Rd.entD, e1]; exact d1
 have e3 : r.entR = r.adv (32 + (varB v).length + 32) := by rw [Rd.entR_f (by rw [e1]; show ¬ v > 1048576; omega), e2]
 rw [Rd.ent, e3, if_neg (fun x => x h.e0), s1, e1, e2, eB, List.length_append, List.length_append, s.h, d.h, Nat.add_assoc]
/-- The form of a reply that is formed reads back, whatever comes behind it. -/
theorem rp_put {r : Rp} {rd : Rd} {y : List UInt8} (hf : formedR soundR r = true) (ho : r.ok) (h : rd.has (rpB r ++ y)) : rpOf rd = r ∧ (rp8 rd).2 = rd.adv (rpB r).length := by
 obtain ⟨ft, hs, hb⟩ := formed_fit hf
 obtain ⟨size, root, ent, path, sch, blocks⟩ := r
 obtain ⟨f1, f2, f3, f4, f5⟩ := ft
 simp only at f1 f2 f3 f4 f5 hs hb
 obtain ⟨v, rfl⟩ : ∃ v : Nat, size = v := ⟨size.toNat, by omega⟩
 have eB : rpB ⟨(v : Int), root, ent, path, sch, blocks⟩ = varB v ++ (root.l ++ (schB sch ++ (formB ent ++ (varB path.length ++ (dsB path ++ (varB blocks.length ++ bsB blocks)))))) := rfl
 have h0 : rd.has (varB v ++ (root.l ++ (schB sch ++ (formB ent ++ (varB path.length ++ (dsB path ++ (varB blocks.length ++ (bsB blocks ++ y)))))))) := by
  rw [eB] at h
  simpa only [List.append_assoc] using h
 have hbl : blocks.length ≤ 1048576 := by
  unfold formedR at hf
  split at hf
  ·cases hf
  ·rename_i hx
   unfold frontR at hx
   simp only [Bool.or_eq_true, not_or, decide_eq_true_eq] at hx
   omega
 obtain ⟨a1, a2⟩ := h0.count (m := 1099511627776) Wz Wz
 obtain ⟨b1, b2⟩ := a2.hash
 obtain ⟨c1, c2⟩ := takeSch_put hs b2
 obtain ⟨d1, d2⟩ := c2.ent f3
 obtain ⟨e1, e2⟩ := d2.count (m := 64) Wz f4
 obtain ⟨g1, g2⟩ := dsRun_put path [] _ _ e2
 obtain ⟨i1, i2⟩ := g2.count (m := 1048576) Wz hbl
 obtain ⟨j1, j2⟩ := spRun_put sch blocks [] _ y (fun x hx => ⟨hb x hx, ho.b x hx⟩) i2
 have q1 : rp1 rd = (v, rd.adv (varB v).length) := a1
 have q2 : rp2 rd = (root, (rd.adv (varB v).length).adv 32) := by unfold rp2; rw [q1]; exact b1
 have q3 : rp3 rd = (sch, ((rd.adv (varB v).length).adv 32).adv (schB sch).length) := by unfold rp3; rw [q2]; exact c1
 have q4 : rp4 rd = (ent, (((rd.adv (varB v).length).adv 32).adv (schB sch).length).adv (formB ent).length) := by unfold rp4; rw [q3]; exact d1
 have q5 : rp5 rd = (path.length, ((((rd.adv (varB v).length).adv 32).adv (schB sch).length).adv (formB ent).length).adv (varB path.length).length) := by unfold rp5; rw [q4]; exact e1
 have q6 : rp6 rd = (path, (((((rd.adv (varB v).length).adv 32).adv (schB sch).length).adv (formB ent).length).adv (varB path.length).length).adv (dsB path).length) := by unfold rp6; rw [q5]; exact g1
 have q7 : rp7 rd = (blocks.length, ((((((rd.adv (varB v).length).adv 32).adv (schB sch).length).adv (formB ent).length).adv (varB path.length).length).adv (dsB path).length).adv (varB blocks.length).length) := by unfold rp7; rw [q6]; exact i1
 have q8 : rp8 rd = (blocks, (((((((rd.adv (varB v).length).adv 32).adv (schB sch).length).adv (formB ent).length).adv (varB path.length).length).adv (dsB path).length).adv (varB blocks.length).length).adv (bsB blocks).length) := by unfold rp8; rw [q7, q3]; exact j1
 refine ⟨by unfold rpOf; rw [q1, q2, q3, q4, q6, q8], ?_⟩
 rw [q8]
 simp only [Rd.adv_adv]
 rw [eB]
 simp only [List.length_append, root.h]
 congr 1
 omega
end Go.Proofs.YteoofihjmldllaaDoor
