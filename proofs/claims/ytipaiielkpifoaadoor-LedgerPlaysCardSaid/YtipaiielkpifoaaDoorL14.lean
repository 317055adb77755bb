/- Entries of a ledger: their cells, their forms; a ledger in memory; parts of a block that are loaded or cut. No condition. -/
import Derived.Test.YtipaiielkpifoaaDoorL13
import Derived.Test.YtipaiielkpifoaaDoorS25
set_option linter.unusedVariables false
set_option linter.unusedSimpArgs false
set_option maxRecDepth 100000
namespace Go.Proofs.YtipaiielkpifoaaDoor
open Go Go.Ab

structure Ent where
  s : Dg
  g : Int
  r : Dg
abbrev entc (e : Ent) : List Value := e.s.l.map bv ++ (.int .i64 e.g :: e.r.l.map bv)
abbrev entv (e : Ent) : Value := .agg (entc e).toArray
theorem entc_len (e : Ent) : (entc e).length = 65 := by rw [entc, List.length_append, List.length_cons, hcs_one, hcs_one]
theorem entv_size (e : Ent) : (entv e).cells.size = 65 := by show (entc e).toArray.size = 65; rw [List.size_toArray, entc_len]
def Ent.ok (e : Ent) : Prop := -9223372036854775808 ≤ e.g ∧ e.g ≤ 9223372036854775807
def good (e : Ent) : Bool := decide (0 ≤ e.g) && decide (e.g ≤ 1048576)
def formB (e : Ent) : List UInt8 := e.s.l ++ (varB e.g.toNat ++ e.r.l)
theorem good_le {e : Ent} (h : good e = true) : 0 ≤ e.g ∧ e.g ≤ 1048576 := by
  unfold good at h
  rw [Bool.and_eq_true, decide_eq_true_eq, decide_eq_true_eq] at h
  exact h
theorem formB_len (e : Ent) (h : good e = true) : (formB e).length ≤ 74 := by
  have h1 := good_le h
  have h2 := varB_len e.g.toNat (by omega)
  rw [formB, List.length_append, List.length_append, e.s.h, e.r.h]
  omega
theorem entc_one (e : Ent) : (entc e).all (·.oneCell') = true := by
  rw [List.all_eq_true]
  intro x hx
  simp only [entc, List.mem_append, List.mem_cons, List.mem_map] at hx
  rcases hx with ⟨a, _, rfl⟩ | rfl | ⟨a, _, rfl⟩ <;> rfl

/-! ### Parts -/
section
variable {P : Program} {NG : Nat} {fr : Fr} {H : Hp} {nk : Nat} {R : Value → Hp → Nat → Prop} {o : Oper}
/-- A part of a block, a slice. -/
theorem SLC.part {n sz off l c : Nat} {b : Blk} {cs : List Value} (hn : H n = some b) (hc : l ≤ c) (hl : off + l * sz ≤ b.cells.length) (he : (b.cells.drop off).take (l * sz) = cs) : SLC H sz (some ⟨n, off, none⟩) l c cs := by
  refine ⟨?_, hc⟩
  simp only [slcCells]
  by_cases h0 : l = 0
  · rw [if_pos h0, ← he, h0, Nat.zero_mul, List.take_zero]
  · rw [if_neg h0]
    simp only [hn]
    rw [if_pos hl, he]
/-- An array in memory as a slice. -/
theorem AOp.sliceP {t : TypeId} {x : Operand} {n0 z n off : Nat} {agg : Bool} (ho : o.op = .slice t x none none none) [hf : ArrInfo P t n0 agg z] (hx : aeval NG fr x = some (.pointer (some ⟨n, off, none⟩)))
    (hR : R (.slice (some ⟨n, off, none⟩) n0 n0) H nk) : AOp P NG o ⟨fr, H, nk⟩ R :=
  AOp.slice_arr (l := 0) (h := n0) ho hf.h hx (bnd_no rfl) (bnd_no rfl) (Nat.zero_le _) (Nat.le_refl _) (by rw [Nat.zero_mul, Nat.sub_zero, Nat.add_zero, ite_self]; exact hR)
theorem mid_take (a m r : List Value) (off z : Nat) (ha : a.length = off) (hm : m.length = z) : ((a ++ (m ++ r)).drop off).take z = m := by
  subst ha; subst hm
  rw [List.drop_left, List.take_left]
/-- A part of a block that is a digest. -/
theorem AOp.loadPart {t : TypeId} {x : Operand} {n off : Nat} {b : Blk} (D : Dg) (a r : List Value) (hn : H n = some b) (hb : b.cells = a ++ (D.l.map bv ++ r)) (ha : a.length = off) (ho : o.op = .load t x) [ht : TyInfo P t true 32] (hx : aeval NG fr x = some (.pointer (some ⟨n, off, none⟩))) (hR : R (hv D) H nk) : AOp P NG o ⟨fr, H, nk⟩ R :=
  AOp.loadN (cs := D.l.map bv) ho hx hn (by rw [hb, List.length_append, List.length_append, hcs_one]; omega) (by rw [hb]; exact mid_take _ _ _ _ _ ha (hcs_one D)) hR
/-- The first cells of an element. -/
theorem AOp.loadPre {t : TypeId} {x : Operand} {n off z : Nat} {sp : Option Nat} {cs : List Value} (a : List Value) (v : Value) (hp : PAt H n off sp cs) (hv : v = .agg a.toArray) (hc : cs.take z = a) (hz : z ≤ cs.length) (h0 : 0 < z) (ho : o.op = .load t x) [ht : TyInfo P t true z] (hx : aeval NG fr x = some (ptr n off sp)) (hR : R v H nk) : AOp P NG o ⟨fr, H, nk⟩ R := by
  subst hv
  refine AOp.load ho hx ?_ hR
  have h1 := hp.ld 0 z (by omega) h0
  rw [Nat.add_zero, List.drop_zero, hc] at h1
  simp only [aloadVar, ht.a, ht.s, h1, Option.map_some]
theorem eqNilS_run {w : World} {t e : TypeId} {ad : Addr} {l c : Nat} (d : Nat) (hu : P.underlying t = some (.slice e)) : (Op.equalIn (d + 1) t (.slice (some ad) l c) (.slice none 0 0)).run P w = .ok false w := by
  rw [Op.equalIn, Sem.run_bind, run_underlying hu]
  rfl
theorem eqNilP_run {w : World} {t e : TypeId} {ad : Addr} (d : Nat) (hu : P.underlying t = some (.pointer e)) : (Op.equalIn (d + 1) t (.pointer (some ad)) (.pointer none)).run P w = .ok false w := by
  rw [Op.equalIn, Sem.run_bind, run_underlying hu]
  rfl
/-- A slice that is there is not nil. -/
theorem AOp.eqNilS {t t' e : TypeId} {z : Nat} {x y : Operand} {n off l c : Nat} {sp : Option Nat} (ho : o.op = .binOp .eql t x y t') [hd : SlInfo P t e z] (hx : aeval NG fr x = some (.slice (some ⟨n, off, sp⟩) l c)) (hy : aeval NG fr y = some (.slice none 0 0)) (hs : sp = none ∨ 0 < l)
    (hR : R (.bool false) H nk) : AOp P NG o ⟨fr, H, nk⟩ R := by
  refine AOp.quiet _ hR fun N B w0 G a w hs1 => ⟨.bool false, ?_, .plain rfl⟩
  have hp := aeval_rel hs1 hx
  have hq := (aeval_rel hs1 hy).plain_ rfl
  have hu := (slB_inv hd.h).1
  obtain ⟨ad, c', hA⟩ : ∃ ad c', a.eval x = .slice (some ad) l c' := by
    generalize a.eval x = p at hp
    cases hp with
    | plain h => simp [isPlain] at h
    | exact hg => exact ⟨_, _, rfl⟩
    | loose hg hc hA => rcases hs with hs | hs; · cases hs
                        · exact ⟨_, _, by rw [hA hs]⟩
    | grow hg hl =>
      rcases hs with hs | hs
      · cases hs
      · rcases hl with ⟨h0, _⟩ | ⟨r, _, hA, _⟩
        · omega
        · exact ⟨_, _, by rw [hA]⟩
    | gcut hg hl =>
      rcases hs with hs | hs
      · cases hs
      · obtain ⟨r, _, hA, _⟩ := hl.2 hs
        exact ⟨_, _, by rw [hA]⟩
  have h1 := eqNilS_run (P := P) (w := w) (t := t) (ad := ad) (l := l) (c := c') 9999 hu
  have h2 : (eqGuard .eql t x y (.slice (some ad) l c') (.slice none 0 0)).run P w = .ok () w := by simp [eqGuard]
  have h3 : (binOp .eql t (.slice (some ad) l c') (.slice none 0 0)).run P w = .ok (.bool false) w := by
    simp only [binOp]
    simp [Op.equal, Op.maxDepth, h1]
  simp only [execOp, ho, hA, hq]
  rw [Sem.run_bind, Sem.run_bind, h2]
  simp only [Result.andThen_ok, h3]
  rfl
/-- A pointer that is there is not nil. -/
theorem AOp.eqNilP {t t' e : TypeId} {x y : Operand} {n off : Nat} {sp : Option Nat} (ho : o.op = .binOp .eql t x y t') [hd : DescInfo P t (.pointer e)] (hx : aeval NG fr x = some (.pointer (some ⟨n, off, sp⟩))) (hy : aeval NG fr y = some (.pointer none))
    (hR : R (.bool false) H nk) : AOp P NG o ⟨fr, H, nk⟩ R := by
  refine AOp.quiet _ hR fun N B w0 G a w hs1 => ⟨.bool false, ?_, .plain rfl⟩
  have hp := aeval_rel hs1 hx
  have hq := (aeval_rel hs1 hy).plain_ rfl
  obtain ⟨ad, hA⟩ : ∃ ad, a.eval x = .pointer (some ad) := by
    generalize a.eval x = p at hp
    cases hp with
    | plain h => simp [isPlain] at h
    | ptr hg => exact ⟨_, rfl⟩
    | gptr hg h1 h2 => exact ⟨_, rfl⟩
  have h1 := eqNilP_run (P := P) (w := w) (t := t) (ad := ad) 9999 hd.h
  have h2 : (eqGuard .eql t x y (.pointer (some ad)) (.pointer none)).run P w = .ok () w := by simp [eqGuard]
  have h3 : (binOp .eql t (.pointer (some ad)) (.pointer none)).run P w = .ok (.bool false) w := by
    simp only [binOp]
    simp [Op.equal, Op.maxDepth, h1]
  simp only [execOp, ho, hA, hq]
  rw [Sem.run_bind, Sem.run_bind, h2]
  simp only [Result.andThen_ok, h3]
  rfl
end
theorem entc_g (e : Ent) : (entc e)[32]? = some (.int .i64 e.g) := by
  rw [entc, List.getElem?_append_right (by rw [hcs_one]; omega), hcs_one]
  rfl

/-! ### A ledger in memory -/
abbrev lblk (t q l : Nat) : Blk := { cells := [.slice (some ⟨q, 0, some 1⟩) l l], elem := t, kind := .fix }
/-- The cells of entries with their forms. -/
def kcs : List Ent → List Value → List Value
  | e :: es, v :: vs => (entc e ++ [v]) ++ kcs es vs
  | _, _ => []
abbrev kblk (t : Nat) (es : List Ent) (vs : List Value) : Blk := { cells := kcs es vs, elem := t, kind := .grow, esz := 66 }
theorem kcs_len : ∀ (es : List Ent) (vs : List Value), es.length = vs.length → (kcs es vs).length = es.length * 66
  | [], [], _ => rfl
  | e :: es, v :: vs, h => by
    have := kcs_len es vs (by simpa using h)
    rw [kcs, List.length_append, List.length_append, entc_len, this, List.length_cons, List.length_cons]
    simp
    omega
theorem kcs_snoc : ∀ (es : List Ent) (vs : List Value) (e : Ent) (v : Value), es.length = vs.length → kcs (es ++ [e]) (vs ++ [v]) = kcs es vs ++ (entc e ++ [v])
  | [], [], e, v, _ => by simp [kcs]
  | a :: es, b :: vs, e, v, h => by
    have := kcs_snoc es vs e v (by simpa using h)
    simp only [List.cons_append, kcs, this, List.append_assoc]
theorem kcs_at (d : Ent) : ∀ (es : List Ent) (vs : List Value) (i : Nat), es.length = vs.length → i < es.length → ((kcs es vs).drop (i * 66)).take 66 = entc (es.getD i d) ++ [vs.getD i undef]
  | e :: es, v :: vs, 0, h, hi => by
    rw [kcs, Nat.zero_mul, List.drop_zero, List.take_left' (by rw [List.length_append, entc_len]; rfl)]
    rfl
  | e :: es, v :: vs, i + 1, h, hi => by
    have := kcs_at d es vs i (by simpa using h) (by simpa using hi)
    rw [kcs, Nat.succ_mul, Nat.add_comm, ← List.drop_drop, List.drop_left' (by rw [List.length_append, entc_len]; rfl), this]
    rfl
theorem SLC.kblk {H : Hp} {q t : Nat} {es : List Ent} {vs : List Value} (hq : H q = some (kblk t es vs)) (hl : es.length = vs.length) : SLC H 66 (some ⟨q, 0, some 1⟩) es.length es.length (kcs es vs) := SLC.grow hq rfl (by rw [kcs_len es vs hl])
theorem kel {H : Hp} {q t i : Nat} {es : List Ent} {vs : List Value} (d : Ent) (hq : H q = some (kblk t es vs)) (hl : es.length = vs.length) (hi : i < es.length) : ∃ n off sp, aslcAt H 66 i (.slice (some ⟨q, 0, some 1⟩) es.length es.length) = some (ptr n off sp) ∧ PAt H n off sp (entc (es.getD i d) ++ [vs.getD i undef]) := by
  have h := slcPt (i := i) (SLC.kblk hq hl).cells (by rw [kcs_len es vs hl]; exact Nat.mul_le_mul_right _ hi) (by decide)
  rwa [kcs_at d es vs i hl hi] at h
/-- A struct of an entry and its form. -/
theorem AOp.buildK {P : Program} {NG : Nat} {fr : Fr} {H : Hp} {nk : Nat} {R : Value → Hp → Nat → Prop} {o : Oper} {t : TypeId} {ps : Array (Nat × Operand)} {cs0 : Array Value} (e : Ent) (v : Value) (hv : v.cells = #[v]) (ho : o.op = .build t ps) [hz : ZeroInfo P t (.agg cs0)] [hp : PlInfo P t [(0, 65), (65, 1)]] (hs : cs0.size = 66)
    (hx : aparts NG fr ps = some [(0, entv e), (1, v)]) (hR : R (.agg (entc e ++ [v]).toArray) H nk) : AOp P NG o ⟨fr, H, nk⟩ R := by
  obtain ⟨z1, h1, h2⟩ := fill_put (place := fun i => ([(0, 65), (65, 1)] : List (Nat × Nat))[i]?) (i := 0) (A := entc e) (z0 := cs0) (rest := [(1, v)]) (v := entv e) rfl rfl (entc_len e) (by omega)
  have hz1 : z1.size = 66 := by rw [← Array.length_toList, h2, List.take_zero, List.nil_append, List.length_append, entc_len, List.length_drop, Array.length_toList, hs]
  obtain ⟨z2, h3, h4⟩ := fill_put (place := fun i => ([(0, 65), (65, 1)] : List (Nat × Nat))[i]?) (i := 1) (A := [v]) (z0 := z1) (rest := []) (v := v) (by rw [hv]) rfl rfl (by omega)
  have e4 : z2 = (entc e ++ [v]).toArray := by
    apply Array.toList_inj.1
    rw [h4, h2, List.take_zero, List.nil_append, List.take_append, List.take_of_length_le (by rw [entc_len]; exact Nat.le_refl _), entc_len, Nat.sub_self, List.take_zero, List.append_nil, List.drop_of_length_le (by rw [List.length_append, List.length_drop]; show (entc e).length + _ ≤ _; rw [entc_len, show cs0.toList.length = 66 by rw [Array.length_toList, hs]]; omega), List.append_nil]
  refine AOp.buildS (cells := (entc e ++ [v]).toArray) (pl := [(0, 65), (65, 1)]) ho hx ?_ hR
  show Instr.fill _ cs0 _ = _
  rw [h1, h3, e4]
  rfl

/-! ### Nil in a variable, taken up as a slice that grows -/
section
variable {P : Program} {NG B : Nat} {w0 w : World} {G : GMap} {H : Hp} {k : Nat}
theorem recell {n : Nat} {b : Blk} {cells : List Value} (h : SRel NG B w0 G H k w) (hn : H n = some b) (hk : b.kind = .fix) (hl : cells.length = b.cells.length)
    (hc : ∀ (j : Nat) (v u v' : Value), cells[j]? = some v → b.cells[j]? = some u → VRel G u v' → VRel G v v') : SRel NG B w0 G (upd H n (some { b with cells := cells })) k w ∧ Keep H k G w (upd H n (some { b with cells := cells })) k G w := by
  have hlt := name_lt h hn
  have own : ∀ m c, upd H n (some { b with cells := cells }) m = some c → ∃ c', H m = some c' ∧ c'.own = c.own := by
    intro m c hm
    by_cases e : m = n
    · subst e
      rw [upd_same] at hm
      injection hm with hm
      subst hm
      exact ⟨b, hn, rfl⟩
    · rw [upd_other _ _ e] at hm
      exact ⟨c, hm, rfl⟩
  refine ⟨⟨h.below, h.base, h.glob, h.le, fun m c hm => ?_, fun m m' c c' hm hm' ho ho' hne x hx => ?_, fun m hm => ?_⟩, ⟨GLe.refl _, Nat.le_refl _, Nat.le_refl _, fun _ _ _ => rfl, fun _ _ _ => rfl, fun m hm hm' => ?_, fun _ _ hx _ => hx, fun m c hm => ?_⟩⟩
  · by_cases e : m = n
    · subst e
      rw [upd_same] at hm
      injection hm with hm
      subst hm
      have hb := h.blk m b hn
      unfold BRel at hb ⊢
      simp only [hk] at hb ⊢
      obtain ⟨blk, cs, h1, h2, h3, h4, h5⟩ := hb
      refine ⟨blk, cs, h1, h2, h3, by rw [hl]; exact h4, fun j v hj hv => ?_⟩
      have hj' : j < b.cells.length := by rw [← hl]; exact hj
      obtain ⟨v', g1, g2⟩ := h5 j _ hj' (List.getElem?_eq_getElem hj')
      exact ⟨v', g1, hc j v _ v' hv (List.getElem?_eq_getElem hj') g2⟩
    · rw [upd_other _ _ e] at hm
      exact h.blk m c hm
  · obtain ⟨d, hd, e1⟩ := own m c hm
    obtain ⟨d', hd', e2⟩ := own m' c' hm'
    exact h.sep m m' d d' hd hd' (e1.trans ho) (e2.trans ho') hne x hx
  · rw [upd_other _ _ (by omega)]
    exact h.fresh m hm
  · by_cases e : m = n
    · subst e; rw [hn] at hm'; cases hm'
    · rw [upd_other _ _ e]; exact hm'
  · by_cases e : m = n
    · subst e
      rw [hn] at hm
      injection hm with hm
      subst hm
      exact ⟨_, upd_same _ _ _, rfl⟩
    · exact ⟨c, by rw [upd_other _ _ e]; exact hm, rfl⟩
theorem ACode.adoptCell {Nt : Nat} {Q : Exit → St → Prop} {fr : Fr} {nk n : Nat} {ty : TypeId} {c : Code} (e : TypeId) (sz : Nat) (hsz : 0 < sz) (hn : H n = some { cells := [.slice none 0 0], elem := ty, kind := .fix })
    (h : ACode P NG Nt c Q ⟨fr, upd (upd H nk (some { cells := [], elem := e, kind := .grow, esz := sz })) n (some (lblk ty nk 0)), nk + 1⟩) : ACode P NG Nt c Q ⟨fr, H, nk⟩ := by
  intro B w0 G a w hs hd
  have hlt := name_lt hs.S hn
  obtain ⟨hS1, hK1⟩ := hs.S.adopt e sz hsz
  obtain ⟨hS2, hK2⟩ := recell hS1 (n := n) (b := { cells := [.slice none 0 0], elem := ty, kind := .fix }) (cells := [.slice (some ⟨nk, 0, some 1⟩) 0 0]) (by rw [upd_other _ _ (show n ≠ nk from Nat.ne_of_lt hlt)]; exact hn) rfl rfl (fun j v u v' hv hu hr => by
    cases j with
    | zero =>
      have hv1 : Value.slice (some ⟨nk, 0, some 1⟩) 0 0 = v := by simpa using hv
      have hu1 : Value.slice none 0 0 = u := by simpa using hu
      subst hv1; subst hu1
      rw [hr.plain_ rfl]
      exact .grow (upd_same _ _ _) (.inl ⟨rfl, rfl⟩)
    | succ j => simp at hv)
  have hF : FRel (upd G nk (.rows sz [])) Nt fr a.tmps := ⟨hs.F.1, fun u v hu => (hs.F.2 u v hu).mono hK1.le⟩
  refine wp_mono (h B w0 _ a w ⟨hS2, hF⟩ hd) ?_
  rintro e' a' w' ⟨s', G', h1, h2, h3, h4⟩
  have hfr : ∀ m, nk ≤ m → G m = .free := fun m hm => (hs.S.fresh m hm).2
  exact ⟨s', G', h1, h2, (hK1.trans hfr hK2).trans hfr h3, h4⟩
end
end Go.Proofs.YtipaiielkpifoaaDoor
