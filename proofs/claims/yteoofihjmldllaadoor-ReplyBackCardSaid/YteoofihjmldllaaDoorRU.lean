/- What is put reads back, in plain Lean: short numbers, values, rows, schemas. No condition. -/
import Derived.Test.YteoofihjmldllaaDoorR8
set_option linter.unusedVariables false
set_option linter.unusedSimpArgs false
set_option maxRecDepth 100000
namespace Go.Proofs.YteoofihjmldllaaDoor
open Go Go.Ab
theorem ofNat_u8 {w : Nat} (h : w < 256) : (UInt8.ofNat w).toNat = w := by
 rw [UInt8.toNat_ofNat']
 omega
theorem lookGo_varB (w : Nat) : ∀ (n a : Nat) (y : List UInt8), w * 128 ^ n < 18446744073709551616 → (n = 0 ∨ 0 < w) → lookGo n a (varB w ++ y) = (a + w * 128 ^ n, n + (varB w).length, 0) := by
 induction w using Nat.strongRecOn with
 | _ w ih =>
  intro n a y h1 h2
  have hn : n ≤ 9 := by
   rcases h2 with h2 | h2
   ·omega
   ·rcases Nat.lt_or_ge 9 n with h3 | h3
    ·have h4 : 128 ^ 10 ≤ 128 ^ n := Nat.pow_le_pow_right Dz h3
     have h5 : 1 * 128 ^ n ≤ w * 128 ^ n := Nat.mul_le_mul_right _ h2
     have e10 : 128 ^ 10 = 1180591620717411303424 := by decide
     omega
    ·exact h3
  have e9 : 128 ^ 9 = 9223372036854775808 := by decide
  by_cases h : w < 128
  ·have hc := ofNat_u8 (show w < 256 by omega)
   rw [varB_small h, List.singleton_append, lookGo, hc, if_neg, if_pos h, Nat.mod_eq_of_lt h]
   ·rfl
   ·rintro ((h3 | ⟨h3, h4⟩) | ⟨h3, h4⟩)
    ·omega
    ·subst h3
     rw [e9] at h1
     omega
    ·omega
  ·have hc := ofNat_u8 (show w % 128 + 128 < 256 by omega)
   have hn8 : n ≤ 8 := by
    rcases Nat.lt_or_ge n 9 with h3 | h3
    ·omega
    ·have : n = 9 := by omega
     subst this
     rw [e9] at h1
     omega
   rw [varB_big h, List.cons_append, lookGo, hc, if_neg Wz, if_neg Wz]
   have e1 : w / 128 * 128 ^ (n + 1) = (128 * (w / 128)) * 128 ^ n := by rw [Nat.pow_succ, Nat.mul_comm (128 ^ n) 128, ← Nat.mul_assoc, Nat.mul_comm (w / 128) 128]
   have e2 : w * 128 ^ n = (128 * (w / 128)) * 128 ^ n + (w % 128) * 128 ^ n := by rw [← Nat.add_mul]; congr 1; omega
   have e3 : (w % 128 + 128) % 128 = w % 128 := by omega
   rw [e3, ih (w / 128) Wz (n + 1) _ y Wz (.inr Wz), e1, e2, List.length_cons]
   congr 1
   ·omega
   ·congr 1
    omega
theorem look_varB {w : Nat} (y : List UInt8) (h : w < 18446744073709551616) : look (varB w ++ y) = (w, (varB w).length, 0) := by
 have := lookGo_varB w 0 0 y (by rw [Nat.pow_zero, Nat.mul_one]; exact h) (.inl rfl)
 rw [Nat.pow_zero, Nat.mul_one, Nat.zero_add, Nat.zero_add] at this
 exact this
theorem zag_zig (n : Int) : zagN (zigN n) = n := by
 unfold zagN zigN
 split <;> split <;> omega
/-! ### A reader that has something ahead -/
def Rd.adv (r : Rd) (n : Nat) : Rd := { r with at_ := r.at_ + n }
theorem Rd.adv_adv (r : Rd) (a b : Nat) : (r.adv a).adv b = r.adv (a + b) := by unfold Rd.adv; rw [Nat.add_assoc]
structure Rd.has (r : Rd) (x : List UInt8) : Prop where
 e0 : r.e = 0
 le : r.at_ ≤ r.bs.length
 eq : r.rest = x
theorem Rd.has.left {r : Rd} {x y : List UInt8} (h : r.has (x ++ y)) : ¬ ((x.length : Int) > r.left) := by
 have h1 := r.rest_len
 rw [h.eq, List.length_append] at h1
 have h2 := h.le
 unfold Rd.left
 omega
theorem Rd.has.adv {r : Rd} {x y : List UInt8} (h : r.has (x ++ y)) : (r.adv x.length).has y := by
 refine ⟨h.e0, ?_, ?_⟩
 ·have := h.left
  have h2 := h.le
  unfold Rd.left at this
  show r.at_ + x.length ≤ r.bs.length
  omega
 ·show r.bs.drop (r.at_ + x.length) = y
  rw [← List.drop_drop, show r.bs.drop r.at_ = x ++ y from h.eq, List.drop_left]
theorem Rd.has.take {r : Rd} {x y : List UInt8} (h : r.has (x ++ y)) : r.take x.length = (x, r.adv x.length) := by
 rw [Rd.take, if_neg (fun he => he h.e0), if_neg h.left, h.eq, List.take_left]
 rfl
theorem Rd.has.fix1 {r : Rd} {b : UInt8} {y : List UInt8} (h : r.has (b :: y)) : r.fix1 = (b.toNat, r.adv 1) ∧ (r.adv 1).has y := by
 have h1 : r.has ([b] ++ y) := h
 refine ⟨?_, h1.adv⟩
 unfold Rd.fix1
 rw [show r.take 1 = ([b], r.adv 1) from h1.take]
 rfl
theorem Rd.fail0 (r : Rd) : r.fail 0 = r := if_neg (fun h => h.2 rfl)
theorem Rd.has.var {r : Rd} {v : Nat} {y : List UInt8} (h : r.has (varB v ++ y)) (hv : v < 18446744073709551616) : r.var = (v, r.adv (varB v).length) ∧ (r.adv (varB v).length).has y := by
 refine ⟨?_, h.adv⟩
 rw [Rd.var, if_neg (fun he => he h.e0), h.eq, look_varB y hv, Rd.fail0]
 rfl
theorem Rd.has.blob {r : Rd} {ps y : List UInt8} (h : r.has (varB ps.length ++ (ps ++ y))) {most : Nat} (hm : ps.length ≤ most) (hv : ps.length < 18446744073709551616) : r.blob most = (ps, r.adv ((varB ps.length).length + ps.length)) ∧ (r.adv ((varB ps.length).length + ps.length)).has y := by
 have h1 := h.adv
 have h2 := h1.take
 have h3 := h1.adv
 rw [Rd.adv_adv] at h2 h3
 refine ⟨?_, h3⟩
 have hb : blobE r most = 0 := by
  unfold blobE
  rw [h.eq, look_varB _ hv, if_neg (fun h => h rfl), if_neg Wz, if_neg]
  have := h1.left
  unfold Rd.left at this ⊢
  show ¬ (((ps.length : Nat) : Int) > (r.bs.length : Int) - (r.at_ : Int) - (((varB ps.length).length : Nat) : Int))
  have e : ((r.adv (varB ps.length).length).at_ : Int) = (r.at_ : Int) + ((varB ps.length).length : Int) := rfl
  rw [e] at this
  have e2 : (r.adv (varB ps.length).length).bs = r.bs := rfl
  rw [e2] at this
  omega
 rw [Rd.blob, if_neg (fun he => he h.e0), if_neg (fun he => he hb), h.eq, look_varB _ hv]
 exact h2
/-! ### Values -/
def Tidy (a : Val) : Prop := ((a.kind = 0 ∧ a.n = 0 ∧ a.s = ⟨#[]⟩) ∨ (a.kind = 1 ∧ a.s = ⟨#[]⟩) ∨ (a.kind = 2 ∧ a.n = 0)) ∧ a.s.size ≤ 65536 ∧ a.ok
theorem takeV_put {r : Rd} {a : Val} {y : List UInt8} (ht : Tidy a) (h : r.has (putB a ++ y)) : takeV r = (a, r.adv (putB a).length) ∧ (r.adv (putB a).length).has y := by
 obtain ⟨hk, hs, hok⟩ := ht
 refine ⟨?_, h.adv⟩
 have hadv := h.adv
 have he : ∀ (p : Val × Rd), takeK r = p → p.2.e = 0 → takeV r = p := fun p h1 h2 => by
  rw [takeV, h1, if_neg (fun h => h h2)]
 obtain ⟨kind, n, s⟩ := a
 simp only at hk hs
 rcases hk with ⟨rfl, rfl, rfl⟩ | ⟨rfl, rfl⟩ | ⟨rfl, rfl⟩
 ·have hf := Rd.has.fix1 (b := byteI 0) (y := y) h
  refine he _ ?_ hadv.e0
  rw [takeK, hf.1]
  rfl
 ·have hb := hok.2.1
  simp only [Lit.wf, Bool.and_eq_true, decide_eq_true_eq] at hb
  have hf := Rd.has.fix1 (b := byteI 1) (y := varB (zigN n) ++ y) h
  have hv := hf.2.var (zigN_lt hb.1 hb.2)
  refine he _ ?_ hadv.e0
  rw [takeK, hf.1, if_neg (show ¬ (byteI 1).toNat = 0 by decide), if_pos (show (byteI 1).toNat = 1 by decide), hv.1, zag_zig, Rd.adv_adv]
  show _ = (_, r.adv (putB ⟨1, n, ⟨#[]⟩⟩).length)
  rw [show (putB ⟨1, n, ⟨#[]⟩⟩).length = 1 + (varB (zigN n)).length by rw [putB, if_pos rfl, List.length_cons, Nat.add_comm]]
 ·have hf := Rd.has.fix1 (b := byteI 2) (y := varB s.data.toList.length ++ (s.data.toList ++ y)) (by
   rw [← List.append_assoc]
   exact h)
  have hv := hf.2.blob (most := 65536) (by show s.size ≤ 65536; exact hs) (by show s.size < _; omega)
  refine he _ ?_ hadv.e0
  rw [takeK, hf.1, if_neg (show ¬ (byteI 2).toNat = 0 by decide), if_neg (show ¬ (byteI 2).toNat = 1 by decide), if_pos (show (byteI 2).toNat = 2 by decide), hv.1, Rd.adv_adv]
  show (_, _) = (_, r.adv (putB ⟨2, 0, s⟩).length)
  rw [show (putB ⟨2, 0, s⟩).length = 1 + ((varB s.data.toList.length).length + s.data.toList.length) by
   rw [putB, if_neg (show ¬ (2 : Int) = 1 by decide), if_pos rfl, List.length_cons, List.length_append, Nat.add_comm]; rfl]
theorem itR_front {α : Type} (f : α × Rd → α × Rd) (s : α × Rd) (n : Nat) : itR f s (n + 1) = itR f (f s) n := by
 induction n with
 | zero => rfl
 | succ n ih => exact congrArg f ih
/-! ### Schemas -/
theorem byteI_of {n : Int} (h0 : 0 ≤ n) (h : n < 256) : ((byteI n).toNat : Int) = n := by
 obtain ⟨m, rfl⟩ : ∃ m : Nat, n = m := ⟨n.toNat, by omega⟩
 rw [byteI_nat, ofNat_u8 Wz]
def colRight (c : Col) : Prop := badKind c = false ∧ wayB c = true
theorem colStep_put {c : Col} {r : Rd} {y : List UInt8} (hc : colRight c) (h : r.has (colB c ++ y)) : colStep r = (c, r.adv 3) ∧ (r.adv 3).has y := by
 obtain ⟨kind, null, way⟩ := c
 obtain ⟨h1, h2⟩ := hc
 have hk : kind = 1 ∨ kind = 2 := by
  unfold badKind at h1
  simp at h1
  omega
 have hw : -1 ≤ way ∧ way ≤ 5 := by
  unfold wayB at h2
  simp only at h2
  split at h2 <;> simp at h2 <;> omega
 have hwr : IntKind.i64.wrap (way + 1) = way + 1 := i64_wrap Wz Wz
 have g0 : r.has (byteI kind :: ((if null then 1 else 0) :: (byteI (way + 1) :: y))) := by
  rw [colB, hwr] at h
  exact h
 obtain ⟨f1, g1⟩ := g0.fix1
 obtain ⟨f2, g2⟩ := g1.fix1
 obtain ⟨f3, g3⟩ := g2.fix1
 rw [Rd.adv_adv, Rd.adv_adv] at g3
 refine ⟨?_, g3⟩
 have b1 := byteI_of (n := kind) Wz Wz
 have b3 := byteI_of (n := way + 1) Wz Wz
 unfold colStep
 rw [f1]
 simp only
 rw [f2]
 simp only
 rw [f3]
 simp only
 have e1 : way + 1 - 1 = way := by omega
 cases null
 ·show ((⟨((byteI kind).toNat : Int), decide (UInt8.toNat 0 = 1), ((byteI (way + 1)).toNat : Int) - 1⟩ : Col), if UInt8.toNat 0 > 1 then _ else _) = _
  rw [if_neg Dz, b1, b3, Rd.adv_adv, Rd.adv_adv, e1]
  rfl
 ·show ((⟨((byteI kind).toNat : Int), decide (UInt8.toNat 1 = 1), ((byteI (way + 1)).toNat : Int) - 1⟩ : Col), if UInt8.toNat 1 > 1 then _ else _) = _
  rw [if_neg Dz, b1, b3, Rd.adv_adv, Rd.adv_adv, e1]
  rfl
theorem runS_put : ∀ (cols : List Col) (pre : List Col) (r : Rd) (y : List UInt8), (∀ c ∈ cols, colRight c) → r.has (cols.flatMap colB ++ y) → runR sStep cols.length (pre, r) = (pre ++ cols, r.adv (cols.flatMap colB).length) ∧ (r.adv (cols.flatMap colB).length).has y
 | [], pre, r, y, _, h => by
  refine ⟨?_, h.adv⟩
  rw [List.append_nil]
  rfl
 | c :: cols, pre, r, y, ht, h => by
  have h0 : r.has (colB c ++ (cols.flatMap colB ++ y)) := by
   rw [List.flatMap_cons, List.append_assoc] at h
   exact h
  obtain ⟨h1, h2⟩ := colStep_put (ht c (by simp)) h0
  obtain ⟨h3, h4⟩ := runS_put cols (pre ++ [c]) _ y (fun b hb => ht b (by simp [hb])) h2
  have e : ((c :: cols).flatMap colB).length = 3 + (cols.flatMap colB).length := by rw [List.flatMap_cons, List.length_append]; rfl
  rw [Rd.adv_adv, ← e] at h3 h4
  refine ⟨?_, h4⟩
  rw [List.length_cons, runR, if_neg (fun he => he h.e0), show sStep (pre, r) = (pre ++ [c], r.adv 3) by unfold sStep; rw [h1], h3, List.append_assoc]
  rfl
theorem schemaI_right {cols : List Col} (h : schemaI cols = 0) : cols.length ≤ 64 ∧ ∀ c ∈ cols, colRight c := by
 unfold schemaI at h
 split at h
 ·cases h
 ·rename_i h1
  split at h
  ·cases h
  ·rename_i h2
   split at h
   ·cases h
   ·rename_i h3
    rw [Bool.not_eq_true, List.any_eq_false] at h2 h3
    refine ⟨by omega, fun c hc => ⟨by simpa using h2 c hc, by simpa using h3 c hc⟩⟩
theorem takeSch_put {cols : List Col} {r : Rd} {y : List UInt8} (hs : schemaI cols = 0) (h : r.has (schB cols ++ y)) : takeSch r = (cols, r.adv (schB cols).length) ∧ (r.adv (schB cols).length).has y := by
 obtain ⟨hl, hr⟩ := schemaI_right hs
 refine ⟨?_, h.adv⟩
 have h0 : r.has (byteI (cols.length : Int) :: (cols.flatMap colB ++ y)) := h
 obtain ⟨h1, h2⟩ := h0.fix1
 obtain ⟨h3, h4⟩ := runS_put cols [] _ y hr h2
 have hb : (byteI (cols.length : Int)).toNat = cols.length := by have := byteI_of (n := (cols.length : Int)) Wz Wz; omega
 have hrun : schRun r = (cols, r.adv (schB cols).length) := by
  rw [schRun, h1]
  show runR sStep (byteI (cols.length : Int)).toNat ([], r.adv 1) = _
  rw [hb, h3, Rd.adv_adv, List.nil_append, schB, List.length_cons, Nat.add_comm]
 rw [takeSch, hrun]
 show ((if ((r.adv (schB cols).length).fail (schemaI cols)).e ≠ 0 then [] else cols), (r.adv (schB cols).length).fail (schemaI cols)) = _
 rw [hs, Rd.fail0, if_neg (fun he => he h.adv.e0)]
/-! ### Rows that stand are tidy -/
theorem right_tidy {a : Val} {k : Int} (h : right a k = true) (hs : a.s.size ≤ 65536) (ho : a.ok) : Tidy a := by
 refine ⟨?_, hs, ho⟩
 unfold right at h
 split at h
 ·rename_i h0
  simp only [Bool.and_eq_true, beq_iff_eq] at h
  exact .inl ⟨h0, h.1, (isEmp_iff _).1 h.2⟩
 ·simp only [Bool.and_eq_true, Bool.or_eq_true, beq_iff_eq] at h
  rcases h.2 with ⟨h1, h2⟩ | ⟨h1, h2⟩
  ·exact .inr (.inl ⟨h.1.trans h1, (isEmp_iff _).1 h2⟩)
  ·exact .inr (.inr ⟨h.1.trans h1, h2⟩)
end Go.Proofs.YteoofihjmldllaaDoor
