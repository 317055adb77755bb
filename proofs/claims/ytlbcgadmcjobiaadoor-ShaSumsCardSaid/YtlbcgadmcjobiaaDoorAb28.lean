/- Abstract states over the model, part 28: make, min and max, bytes to text; what a slice shows and its cuts; slices that grow, taken up anew. No condition; over any program. -/
import Derived.Test.YtlbcgadmcjobiaaDoorAb27
import Derived.Laws.MakeOwn
import Derived.Laws.BytesArg
set_option linter.unusedVariables false
set_option linter.unusedSimpArgs false
namespace Go.Ab
open Go.RowKit

/-! ### What a slice shows, and that it can be cut -/
def SlcWf (H : Hp) (sz : Nat) : Value → Prop
  | .slice none 0 0 => True
  | .slice (some ⟨n, off, none⟩) l c => l ≤ c
  | .slice (some ⟨n, off, some 0⟩) l c => True
  | .slice (some ⟨n, off, some 1⟩) l c => ∃ b, H n = some b ∧ b.esz = sz
  | .slice (some ⟨n, off, some 2⟩) l c => ∃ b, H n = some b ∧ b.esz = sz
  | _ => False
/-- The slice shows just these cells. -/
structure SLC (H : Hp) (sz : Nat) (A : Option Addr) (l c : Nat) (cs : List Value) : Prop where
  cells : slcCells H sz (.slice A l c) = some cs
  wf : SlcWf H sz (.slice A l c)
theorem SlcWf.sub {H H' : Hp} {sz : Nat} {v : Value} (h : SlcWf H sz v) (hs : Sub H H') : SlcWf H' sz v := by
  unfold SlcWf at h ⊢
  split <;> simp_all
  · obtain ⟨b, h1, h2⟩ := h
    exact ⟨b, hs _ _ h1, h2⟩
  · obtain ⟨b, h1, h2⟩ := h
    exact ⟨b, hs _ _ h1, h2⟩
theorem SLC.sub {H H' : Hp} {sz l c : Nat} {A : Option Addr} {cs : List Value} (h : SLC H sz A l c cs) (hs : Sub H H') : SLC H' sz A l c cs := ⟨slcCells_sub hs h.cells, h.wf.sub hs⟩
theorem SLC.nil {H : Hp} {sz : Nat} : SLC H sz none 0 0 [] := ⟨rfl, trivial⟩

theorem take_drop_part {α : Type} (l : List α) (off len a b : Nat) (h : a + b ≤ len) : ((l.drop (off + a)).take b) = ((((l.drop off).take len).drop a).take b) := by
  rw [List.drop_take, List.drop_drop, List.take_take, Nat.min_eq_left (by omega)]

theorem SLC.cut {H : Hp} {sz len c0 : Nat} {A0 : Option Addr} {cs : List Value} (hS : SLC H sz A0 len c0 cs) (l h : Nat) (m : Option Nat) (h1 : l ≤ h) (h2 : h ≤ len) (hm : ∀ x, m = some x → h ≤ x ∧ x ≤ len) :
    ∃ A c, aslice H sz l h m (.slice A0 len c0) = some (.slice A (h - l) c) ∧ SLC H sz A (h - l) c ((cs.drop (l * sz)).take ((h - l) * sz)) := by
  obtain ⟨hc, hw⟩ := hS
  have e0 : l * sz + (h - l) * sz = h * sz := by rw [← Nat.add_mul]; congr 1; omega
  have e1 : h * sz ≤ len * sz := Nat.mul_le_mul_right _ h2
  have nilc : h - l = 0 → ((cs.drop (l * sz)).take ((h - l) * sz)) = [] := fun e => by rw [e, Nat.zero_mul, List.take_zero]
  unfold SlcWf at hw
  split at hw
  · rename_i he
    injection he with ha hb hd
    subst ha; subst hb; subst hd
    have : l = 0 := by omega
    subst this
    have : h = 0 := by omega
    subst this
    refine ⟨none, 0, ?_, ?_⟩
    · cases m with
      | none => simp [aslice]
      | some x =>
        have := hm x rfl
        simp [aslice]
        omega
    · rw [nilc rfl]
      exact SLC.nil
  · rename_i n off l' c' he
    injection he with ha hb hd
    subst ha; subst hb; subst hd
    have hmc : h ≤ m.getD c0 ∧ m.getD c0 ≤ c0 := by
      cases m with
      | none => simp; omega
      | some x => have := hm x rfl; simp; omega
    refine ⟨some ⟨n, if m.getD c0 = l then off else off + l * sz, none⟩, m.getD c0 - l, by simp only [aslice]; rw [if_pos ⟨h1, hmc.1, hmc.2⟩], ?_, by show h - l ≤ _; omega⟩
    by_cases hz : h - l = 0
    · rw [nilc hz]
      simp only [slcCells]
      rw [if_pos hz]
    · simp only [slcCells] at hc ⊢
      rw [if_neg (by omega)] at hc
      rw [if_neg hz, if_neg (by omega)]
      cases hn : H n with
      | none => simp [hn] at hc
      | some b =>
        simp only [hn] at hc ⊢
        split at hc
        · rename_i hle
          injection hc with hc
          subst hc
          rw [if_pos (by omega), take_drop_part _ _ (len * sz) _ _ (by omega)]
        · cases hc
  · rename_i n off l' c' he
    injection he with ha hb hd
    subst ha; subst hb; subst hd
    have key : ∀ (sp : Option Nat) (c : Nat), sp = none ∨ sp = some 0 → ¬ h - l = 0 → slcCells H sz (.slice (some ⟨n, off + l * sz, sp⟩) (h - l) c) = some ((cs.drop (l * sz)).take ((h - l) * sz)) := by
      intro sp c hsp hz
      simp only [slcCells] at hc
      rw [if_neg (by omega)] at hc
      cases hn : H n with
      | none => simp [hn] at hc
      | some b =>
        simp only [hn] at hc
        split at hc
        · rename_i hle
          injection hc with hc
          subst hc
          rcases hsp with rfl | rfl
          · simp only [slcCells]
            rw [if_neg hz, hn]
            simp only
            rw [if_pos (by omega), take_drop_part _ _ (len * sz) _ _ (by omega)]
          · simp only [slcCells]
            rw [if_neg hz, hn]
            simp only
            rw [if_pos (by omega), take_drop_part _ _ (len * sz) _ _ (by omega)]
        · cases hc
    cases m with
    | none =>
      refine ⟨some ⟨n, off + l * sz, some 0⟩, h - l, by simp only [aslice]; rw [if_pos ⟨h1, h2⟩], ?_, trivial⟩
      by_cases hz : h - l = 0
      · rw [nilc hz]
        simp only [slcCells]
        rw [if_pos hz]
      · exact key _ _ (.inr rfl) hz
    | some x =>
      obtain ⟨hx1, hx2⟩ := hm x rfl
      by_cases hlx : l < x
      · refine ⟨some ⟨n, off + l * sz, none⟩, x - l, by simp only [aslice]; rw [if_pos ⟨h1, hx1, hx2⟩, if_pos hlx], ?_, by show h - l ≤ _; omega⟩
        by_cases hz : h - l = 0
        · rw [nilc hz]
          simp only [slcCells]
          rw [if_pos hz]
        · exact key _ _ (.inl rfl) hz
      · have hz : h - l = 0 := by omega
        by_cases h0 : 0 < len
        · refine ⟨some ⟨n, off, none⟩, 0, by simp only [aslice]; rw [if_pos ⟨h1, hx1, hx2⟩, if_neg hlx, if_pos h0, hz], ?_, by show h - l ≤ _; omega⟩
          rw [nilc hz, hz]
          rfl
        · refine ⟨some ⟨n, off, some 0⟩, 0, by simp only [aslice]; rw [if_pos ⟨h1, hx1, hx2⟩, if_neg hlx, if_neg h0, hz], ?_, trivial⟩
          rw [nilc hz, hz]
          rfl
  all_goals first | exact hw.elim | skip
  all_goals
    rename_i n off l' c' he
    injection he with ha hb hd
    subst ha; subst hb; subst hd
    obtain ⟨b, hn, hz0⟩ := hw
    have hmc : h ≤ m.getD len ∧ m.getD len ≤ len := by
      cases m with
      | none => simp; omega
      | some x => have := hm x rfl; simp; omega
    refine ⟨some ⟨n, off + l * sz, some 2⟩, h - l, by simp only [aslice, hn]; rw [if_pos ⟨hz0, h1, hmc.1, hmc.2⟩], ?_, ⟨b, hn, hz0⟩⟩
    by_cases hz : h - l = 0
    · rw [nilc hz]
      simp only [slcCells]
      rw [if_pos hz]
    · simp only [slcCells] at hc ⊢
      rw [if_neg (by omega)] at hc
      rw [if_neg hz]
      simp only [hn] at hc ⊢
      split at hc
      · rename_i hle
        injection hc with hc
        subst hc
        rw [if_pos ⟨⟨hz0, by rw [Nat.add_mul_mod_self_right]; exact hle.1.2⟩, by omega⟩, take_drop_part _ _ (len * sz) _ _ (by omega)]
      · cases hc

theorem aslice_sub {H H' : Hp} (hs : Sub H H') {z l h : Nat} {m : Option Nat} {v q : Value} (hq : aslice H z l h m v = some q) : aslice H' z l h m v = some q := by
  unfold aslice at hq ⊢
  split <;> simp_all
  all_goals
    split at hq
    · rename_i b hn
      rw [hs _ _ hn]
      exact hq
    · cases hq

section
variable {P : Program} {NG : Nat} {fr : Fr} {H : Hp} {nk : Nat} {R : Value → Hp → Nat → Prop} {o : Oper}

def MxB (NG : Nat) (fr : Fr) (hi mx : Option Operand) (m : Option Nat) : Prop :=
  match mx, m with
  | none, none => True
  | some y, some n => hi ≠ none ∧ ∃ k, aeval NG fr y = some (.int k (n : Int))
  | _, _ => False
theorem mx_no {hi : Option Operand} : MxB NG fr hi none none := trivial
theorem mx_at {hi y : Operand} {n : Nat} {k : IntKind} (hy : aeval NG fr y = some (.int k (n : Int))) : MxB NG fr (some hi) (some y) (some n) := ⟨fun h => (by cases h), k, hy⟩
/-- A cut whose outcome is known. -/
theorem AOp.cutQ {t e : TypeId} {x : Operand} {lo hi mx : Option Operand} {z l h len c0 : Nat} {m : Option Nat} {A0 : Option Addr} {q : Value} (hq : aslice H z l h m (.slice A0 len c0) = some q) (ho : o.op = .slice t x lo hi mx) [hf : SlInfo P t e z] (hx : aeval NG fr x = some (.slice A0 len c0))
    (hlo : bnd NG fr lo 0 l) (hhi : bnd NG fr hi len h) (hmx : MxB NG fr hi mx m)
    (hR : R q H nk) : AOp P NG o ⟨fr, H, nk⟩ R :=
  AOp.slice ho hf.h hx hlo hhi (by cases mx <;> cases m <;> exact hmx) hq hR
theorem bnd_no {x : Option Operand} {d : Nat} (h : x = none) : bnd NG fr x d d := by subst h; rfl
theorem bnd_at {x : Option Operand} {y : Operand} {d n : Nat} {k : IntKind} (h : x = some y) (hy : aeval NG fr y = some (.int k (n : Int))) : bnd NG fr x d n := by subst h; exact ⟨k, _, hy, rfl⟩

/-- 'x[:0:0]': nothing, without room. -/
theorem AOp.slice00 {t e : TypeId} {x : Operand} {lo : Option Operand} {y w : Operand} {z len c0 : Nat} {A0 : Option Addr} {k1 k2 : IntKind} (hz0 : 0 < z) (ho : o.op = .slice t x lo (some y) (some w)) [hf : SlInfo P t e z] (hx : aeval NG fr x = some (.slice A0 len c0))
    (hlo : bnd NG fr lo 0 0) (hy : aeval NG fr y = some (.int k1 0)) (hw : aeval NG fr w = some (.int k2 0))
    (hR : R (.slice (some ⟨nk, 0, some 1⟩) 0 0) (upd H nk (some { cells := [], elem := e, kind := .grow, esz := z })) (nk + 1)) : AOp P NG o ⟨fr, H, nk⟩ R := by
  intro N B w0 G a W hs next Q hn
  obtain ⟨hu, hz⟩ := slB_inv hf.h
  obtain ⟨A', c', e1⟩ := vrel_slice (aeval_rel hs hx)
  have hy' := (aeval_rel hs hy).int_
  have hw' := (aeval_rel hs hw).int_
  obtain ⟨h4, h5⟩ := hs.S.adopt e z hz0
  refine Oper.wp_val (w' := W) (v := .slice A' 0 0) ?_ (hn _ _ _ _ _ _ hR (.grow (upd_same _ _ _) (.inl ⟨rfl, rfl⟩)) h4 h5)
  simp only [execOp, ho, e1]
  rw [Sem.run_bind]
  have hb : (Instr.sliceBounds true len c' (lo.map a.eval) ((some y).map a.eval) ((some w).map a.eval)).run P W = .ok (0, 0, 0) W := by
    refine run_bounds (Nat.le_refl _) (Nat.le_refl _) (Nat.zero_le _) ?_ (.inr ⟨k1, by simp [hy']⟩) (.inr ⟨k2, by simp [hw']⟩)
    rcases bnd_rel hs hlo with ⟨_, e3, e4⟩ | ⟨_, _, k, e3⟩
    · exact .inl ⟨e3, e4⟩
    · exact .inr ⟨k, e3⟩
  have : (Instr.sliceAt t (.slice A' len c') (lo.map a.eval) ((some y).map a.eval) ((some w).map a.eval)).run P W = .ok (.slice A' 0 0) W := by
    unfold Instr.sliceAt
    rw [Sem.run_bind, run_underlying hu]
    simp only [Result.andThen_ok]
    unfold Instr.slice
    rw [Sem.run_bind, run_underlying hu]
    simp only [Result.andThen_ok]
    rw [Sem.run_bind, hb]
    simp only [Result.andThen_ok]
    rw [Sem.run_bind, run_sizeOf hz]
    rfl
  rw [this]
  rfl

/-- The first elements of a slice that grows. -/
theorem AOp.slicePre {t e : TypeId} {x y : Operand} {z n l h : Nat} {b : Blk} {k1 : IntKind} (ho : o.op = .slice t x none (some y) none) [hf : SlInfo P t e z] (hx : aeval NG fr x = some (.slice (some ⟨n, 0, some 1⟩) l l))
    (hy : aeval NG fr y = some (.int k1 (h : Int))) (hn : H n = some b) (hbz : b.esz = z) (hle : h ≤ l)
    (hR : R (.slice (some ⟨n, 0, some 1⟩) h h) H nk) : AOp P NG o ⟨fr, H, nk⟩ R := by
  refine AOp.quiet _ hR fun N B w0 G a w hs => ?_
  obtain ⟨hu, hz⟩ := slB_inv hf.h
  have hv := aeval_rel hs hx
  have hy' := (aeval_rel hs hy).int_
  generalize hp : a.eval x = p at hv
  cases hv with
  | plain hpl => simp [isPlain] at hpl
  | @grow _ z' _ c rows A hg hl =>
    obtain ⟨e0, h0, _, _⟩ := row_facts hs.S hn hg
    have hzz : z' = z := e0.trans hbz
    subst hzz
    have hlc : l ≤ c := by rcases hl with h3 | ⟨r, _, _, _, h3, _⟩ <;> omega
    refine ⟨.slice A h c, ?_, .grow hg ?_⟩
    · simp only [execOp, ho, hp]
      rw [Sem.run_bind]
      have hb : (Instr.sliceBounds true l c ((none : Option Operand).map a.eval) ((some y).map a.eval) ((none : Option Operand).map a.eval)).run P w = .ok (0, h, c) w :=
        run_bounds (Nat.zero_le _) (by omega) (Nat.le_refl _) (.inl ⟨rfl, rfl⟩) (.inr ⟨k1, by simp [hy']⟩) (.inl ⟨rfl, rfl⟩)
      have : (Instr.sliceAt t (.slice A l c) ((none : Option Operand).map a.eval) ((some y).map a.eval) ((none : Option Operand).map a.eval)).run P w = .ok (.slice A h c) w := by
        unfold Instr.sliceAt
        rw [Sem.run_bind, run_underlying hu]
        simp only [Result.andThen_ok]
        unfold Instr.slice
        rw [Sem.run_bind, run_underlying hu]
        simp only [Result.andThen_ok]
        rw [Sem.run_bind, hb]
        simp only [Result.andThen_ok]
        rw [Sem.run_bind, run_sizeOf hz]
        have e1 : ∀ A : Option Addr, A.map (·.add 0) = A := by
          intro A
          cases A <;> simp [Addr.add]
        simp [e1]
      rw [this]
      rfl
    · rcases hl with ⟨h3, h4⟩ | ⟨r, hr, hA, hk, hc, hcap⟩
      · exact .inl ⟨by omega, h4⟩
      · exact .inr ⟨r, hr, hA, Nat.le_trans (Nat.mul_le_mul_right _ hle) hk, by omega, hcap⟩

/-- 'make([]T, n)'. -/
theorem AOp.makeSl {t e : TypeId} {x y : Operand} {n sz bytes : Nat} {z : Value} {kl kc : IntKind} (ho : o.op = .makeSlice t x y) [he : ElemInfo P t e sz bytes] [hz : ZeroInfo P e z] (hx : aeval NG fr x = some (.int kl (n : Int))) (hy : aeval NG fr y = some (.int kc (n : Int)))
    (hb : n * bytes ≤ 140737488355328) (h63 : n ≤ 9223372036854775807)
    (hR : R (.slice (some ⟨nk, 0, none⟩) n n) (upd H nk (some { cells := (madeCells z.cells (n * sz)).toList, elem := e, kind := .fix })) (nk + 1)) : AOp P NG o ⟨fr, H, nk⟩ R := by
  intro N B w0 G a w hs next Q hn
  obtain ⟨z', ⟨hsl, ⟨i, hi, hz', hsz, hby⟩, hpos, hzsz, hzpl⟩⟩ := elemB_ok he.h
  have hzz : z' = z := by
    have := hz.h
    unfold zeroB at this
    rw [hi] at this
    simp [hz'] at this
    exact this
  subst hzz
  subst hsz
  subst hby
  have hx' := (aeval_rel hs hx).int_
  have hy' := (aeval_rel hs hy).int_
  have hrun := run_make (P := P) w t e i z' hsl hi hz' kl kc (n : Int) (n : Int) (by omega) (Int.le_refl _) (by
    have : ((i.bytes * n : Nat) : Int) ≤ 281474976710656 := by rw [Nat.mul_comm]; omega
    simpa using this) (by omega)
  have hpl : (madeCells z'.cells (n * i.size)).all isPlain = true := by
    rw [Array.all_eq_true]
    intro j hj
    simp only [madeCells, Array.getElem_map, Array.getElem_range]
    have hpos' : 0 < z'.cells.size := by omega
    have hm : j % z'.cells.size < z'.cells.size := Nat.mod_lt _ hpos'
    rw [getElem!_pos z'.cells (j % z'.cells.size) hm]
    exact (Array.all_eq_true.1 hzpl) _ hm
  obtain ⟨h3, h4⟩ := hs.S.newFix (madeCells z'.cells (n * i.size)).toList (madeCells z'.cells (n * i.size)) e (0, 0) (thawed_zero _) (by simp) (fun j u _ hu => by
    have hu' : (madeCells z'.cells (n * i.size))[j]? = some u := by simpa using hu
    exact ⟨u, hu', .plain (all_at hpl hu')⟩)
  refine Oper.wp_val (w' := w.alloc (.cells (madeCells z'.cells (n * i.size)) e (0, 0))) (v := .slice (some ⟨w.heap.size, 0, none⟩) n n) ?_ (hn _ _ _ _ _ _ hR ?_ h3 h4)
  · simp only [execOp, ho, hx', hy']
    rw [Sem.run_bind, hrun]
    rfl
  · exact VRel.exact (G := upd G nk (.at ⟨w.heap.size, 0, none⟩)) (n := nk) (off := 0) (upd_same _ _ _)

theorem madeCells_one (v : Value) (n : Nat) : (madeCells #[v] n).toList = List.replicate n v := by
  apply List.ext_getElem
  · simp [madeCells]
  · intro i h1 h2
    simp [madeCells, Nat.mod_one]

/-- Two or three whole numbers: the least, the greatest. -/
theorem AOp.min2 {x y : Operand} {ts : Array TypeId} {k k' : IntKind} {a b : Int} (ho : o.op = .call { callee := .builtin .min, args := #[x, y], argTypes := ts }) (hx : aeval NG fr x = some (.int k a)) (hy : aeval NG fr y = some (.int k' b))
    (hR : R (.int k (min a b)) H nk) : AOp P NG o ⟨fr, H, nk⟩ R := by
  refine AOp.quiet _ hR fun N B w0 G ac w hs => ⟨_, ?_, .plain rfl⟩
  have hx' := (aeval_rel hs hx).int_
  have hy' := (aeval_rel hs hy).int_
  refine run_builtin ho ?_
  have e : (if b < a then b else a) = min a b := by
    split <;> omega
  simp [builtin, Builtin.min_, Builtin.min2, hx', hy', e]
theorem AOp.max2 {x y : Operand} {ts : Array TypeId} {k k' : IntKind} {a b : Int} (ho : o.op = .call { callee := .builtin .max, args := #[x, y], argTypes := ts }) (hx : aeval NG fr x = some (.int k a)) (hy : aeval NG fr y = some (.int k' b))
    (hR : R (.int k (max a b)) H nk) : AOp P NG o ⟨fr, H, nk⟩ R := by
  refine AOp.quiet _ hR fun N B w0 G ac w hs => ⟨_, ?_, .plain rfl⟩
  have hx' := (aeval_rel hs hx).int_
  have hy' := (aeval_rel hs hy).int_
  refine run_builtin ho ?_
  have e : (if a < b then b else a) = max a b := by
    split <;> omega
  simp [builtin, Builtin.max_, Builtin.max2, hx', hy', e]
theorem AOp.min3 {x y z : Operand} {ts : Array TypeId} {k k' k'' : IntKind} {a b c : Int} (ho : o.op = .call { callee := .builtin .min, args := #[x, y, z], argTypes := ts }) (hx : aeval NG fr x = some (.int k a)) (hy : aeval NG fr y = some (.int k' b)) (hz : aeval NG fr z = some (.int k'' c))
    (hR : R (.int k (min (min a b) c)) H nk) : AOp P NG o ⟨fr, H, nk⟩ R := by
  refine AOp.quiet _ hR fun N B w0 G ac w hs => ⟨_, ?_, .plain rfl⟩
  have hx' := (aeval_rel hs hx).int_
  have hy' := (aeval_rel hs hy).int_
  have hz' := (aeval_rel hs hz).int_
  refine run_builtin ho ?_
  have e : (if b < a then b else a) = min a b := by
    split <;> omega
  have e2 : (if c < min a b then c else min a b) = min (min a b) c := by
    split <;> omega
  simp [builtin, Builtin.min_, Builtin.min2, hx', hy', hz', e, e2]
theorem AOp.max3 {x y z : Operand} {ts : Array TypeId} {k k' k'' : IntKind} {a b c : Int} (ho : o.op = .call { callee := .builtin .max, args := #[x, y, z], argTypes := ts }) (hx : aeval NG fr x = some (.int k a)) (hy : aeval NG fr y = some (.int k' b)) (hz : aeval NG fr z = some (.int k'' c))
    (hR : R (.int k (max (max a b) c)) H nk) : AOp P NG o ⟨fr, H, nk⟩ R := by
  refine AOp.quiet _ hR fun N B w0 G ac w hs => ⟨_, ?_, .plain rfl⟩
  have hx' := (aeval_rel hs hx).int_
  have hy' := (aeval_rel hs hy).int_
  have hz' := (aeval_rel hs hz).int_
  refine run_builtin ho ?_
  have e : (if a < b then b else a) = max a b := by
    split <;> omega
  have e2 : (if max a b < c then c else max a b) = max (max a b) c := by
    split <;> omega
  simp [builtin, Builtin.max_, Builtin.max2, hx', hy', hz', e, e2]

/-- 'string(bytes)'. -/
theorem AOp.toStr {x : Operand} {t t' e : TypeId} {bs : List UInt8} {A : Option Addr} {l c : Nat} (hc : slcCells H 1 (.slice A l c) = some (bs.map bv)) (ho : o.op = .convert t t' x) [hf : SlInfo P t e 1] [he : DescInfo P e (.int .u8)] [hd : DescInfo P t' .string] (hx : aeval NG fr x = some (.slice A l c))
    (hR : R (.string ⟨bs.toArray⟩) H nk) : AOp P NG o ⟨fr, H, nk⟩ R := by
  refine AOp.quiet _ hR fun N B w0 G a w hs => ⟨_, ?_, .plain rfl⟩
  obtain ⟨hu, hz⟩ := slB_inv hf.h
  obtain ⟨A', l2, c2, e1, ⟨_, _, e2⟩, hl, hxx⟩ := slcCells_rel hs.S hc (aeval_rel hs hx)
  injection e2 with _ e2 _
  subst e2
  simp only [execOp, ho, e1]
  rw [Sem.run_bind, run_convert_bytes_string w t t' e A' l c2 hu he.h hd.h]
  have hlen : bs.length = l := by simpa using hl
  have hload : ∀ ad : Addr, A' = some ad → (∀ (j : Nat) (u : Value), (bs.map bv)[j]? = some u → w.cell? (ad.add j) = some u) → (Conv.bytesToString (.slice (some ad) l c2)).run P w = .ok (.string ⟨bs.toArray⟩) w := by
    intro ad _ hcell
    have h1 : (loadCells ad l).run P w = .ok ((bs.map fun b => (b.toNat : Int)).map (Value.int .u8)).toArray w := by
      have := run_loadCells_list (P := P) w ad (bs.map bv) hcell
      rw [List.length_map, hlen] at this
      rw [this, List.map_map]
      rfl
    rw [run_bytesToString w ad l c2 _ h1, foldl_push_bytes]
    have e : (bs.map fun b => (b.toNat : Int)).map (fun n => UInt8.ofNat n.toNat) = bs := by
      rw [List.map_map]
      conv => rhs; rw [← List.map_id bs]
      exact List.map_congr_left fun b _ => by simp
    rw [e]
    simp [ByteArray.empty, ByteArray.emptyWithCapacity]
    rfl
  rcases hxx with ⟨h0, h1⟩ | ⟨ad, cs', rfl, hpos, hl', hcell, hrel⟩
  · have : bs = [] := by simpa using h1
    subst this
    cases A' with
    | none => rfl
    | some ad =>
      rw [hload ad rfl (fun j u hu => by simp at hu)]
      rfl
  · rw [hload ad rfl (fun j u hu => by
      obtain ⟨u', h2, h3⟩ := hrel j u hu
      have hp : isPlain u = true := by
        obtain ⟨x, _, rfl⟩ := List.mem_map.1 (List.mem_of_getElem? hu)
        rfl
      rw [h3.plain_ hp] at h2
      exact hcell j u h2)]
    rfl
end

/-! ### 'append(x, make([]T, n)...)': the translation hands on the number -/
theorem plain_one {v : Value} (h : isPlain v = true) : v.oneCell' = true := by
  unfold isPlain at h
  split at h <;> first | rfl | cases h
theorem zeroCells_plain {z : Array Value} (hz : z.all isPlain = true) (n : Nat) : (Builtin.zeroCells z n).all isPlain = true := by
  rw [Array.all_eq_true]
  intro j hj
  simp only [Builtin.zeroCells, Array.size_map, Array.size_range] at hj
  simp only [Builtin.zeroCells, Array.getElem_map, Array.getElem_range]
  have hpos : 0 < z.size := Nat.pos_of_ne_zero fun e => by rw [e, Nat.mul_zero] at hj; omega
  have hm : j % z.size < z.size := Nat.mod_lt _ hpos
  rw [getElem!_pos z (j % z.size) hm]
  exact (Array.all_eq_true.1 hz) _ hm
theorem App.ofZeros {P : Program} {t tx ty e : TypeId} {sz bytes : Nat} {z : Value} {m : Nat} {k kn : IntKind} {w : World} (he : ElemOk P t e sz z bytes) (htx : P.underlying tx = some (.int kn)) (hm : m ≤ 9223372036854775807) (hb : m * bytes ≤ 140737488355328) :
    App P t tx ty e sz z bytes (.int k m) m (Builtin.zeroCells z.cells m).toList w := by
  obtain ⟨i, hi, hz, rfl, rfl⟩ := he.info
  have hw : IntKind.i64.wrap (m : Int) = m := by rw [IntKind.wrap_i64]; omega
  have hw0 : IntKind.i64.wrap 0 = 0 := by decide
  have hneg : ¬ ((m : Int) < 0) := by omega
  have h48i : ¬ (281474976710656 < (m : Int) * (i.bytes : Int)) := by
    rw [← Int.natCast_mul]
    omega
  have hpos := he.pos
  have hone : ∀ u ∈ (Builtin.zeroCells z.cells m).toList, u.oneCell' = true := fun u hu => by
    obtain ⟨j, hj⟩ := List.mem_iff_getElem?.1 hu
    exact plain_one (all_at (zeroCells_plain he.zpl m) (by simpa using hj))
  have hlen : (Builtin.zeroCells z.cells m).toList.length = m * i.size := by rw [Array.length_toList, size_zeroCells, he.zsz]
  refine ⟨hlen, hone, ?_, ?_, ?_⟩
  · intro h0 base sLen sCap hle
    subst h0
    cases base <;> simp [Builtin.append_, run_underlying he.sl, run_underlying htx, sizeOf, typeInfo, hi, asInt, asIntOf, hw0, hle, storeCells]
  · intro b sLen sCap hroom hc hf
    have hst := run_storeCells_cells (P := P) b (sLen * i.size) (Builtin.zeroCells z.cells m).toList 0 w (by simpa using hc) (by simpa using hf) hone
    simp only [Nat.add_zero] at hst
    by_cases hm0 : m * i.size = 0
    · have hm00 : m = 0 := by
        rcases Nat.mul_eq_zero.1 hm0 with h | h <;> omega
      subst hm00
      have hnil : (Builtin.zeroCells z.cells 0).toList = [] := List.eq_nil_of_length_eq_zero (by rw [hlen, Nat.zero_mul])
      rw [hnil] at hst ⊢
      simp [Builtin.append_, run_underlying he.sl, run_underlying htx, sizeOf, typeInfo, hi, asInt, asIntOf, hw0, show sLen ≤ sCap from hroom, Addr.add_lit, storeCells, World.setCells]
    · simp [Builtin.append_, run_underlying he.sl, run_underlying htx, sizeOf, typeInfo, zeroValue, hi, hz, asInt, asIntOf, hw, hneg, h48i, hroom, Addr.add_lit, hst, hm0]
  · intro base sLen sCap olds hold hg hbb h63
    have hn : ¬ (sLen + m ≤ sCap) := by omega
    have h63' : ¬ (9223372036854775807 < ((sLen : Int) + (m : Int))) := by omega
    have hfit := growslice_fits (bytes := i.bytes) hg hbb
    have h48' : ¬ (281474976710656 < Builtin.nextslicecap (sLen + m) sCap * i.bytes) := by omega
    by_cases hm0 : m * i.size = 0
    · have hm00 : m = 0 := by
        rcases Nat.mul_eq_zero.1 hm0 with h | h <;> omega
      subst hm00
      have hnil : (Builtin.zeroCells z.cells 0).toList = [] := List.eq_nil_of_length_eq_zero (by rw [hlen, Nat.zero_mul])
      rw [hnil]
      simp only [Nat.add_zero] at hn h48' hg
      simp [Builtin.append_, run_underlying he.sl, run_underlying htx, sizeOf, typeInfo, zeroValue, hi, hz, asInt, asIntOf, hw0, hn, h63', h48', Question.forced, hold, newRow, grownCap]
      intro h9
      omega
    · simp [Builtin.append_, run_underlying he.sl, run_underlying htx, sizeOf, typeInfo, zeroValue, hi, hz, asInt, asIntOf, hw, hneg, h48i, hn, h63', h48', Question.forced, hold, newRow, grownCap, hm0]
      congr 2
      apply Array.ext'
      simp [List.append_assoc]
section
variable {P : Program} {NG : Nat} {fr : Fr} {H : Hp} {nk : Nat} {R : Value → Hp → Nat → Prop} {o : Oper}
theorem AOp.appendZ {x y : Operand} {t tx e : TypeId} {sz bytes n len m : Nat} {b : Blk} {z : Value} {k kn : IntKind} (ho : o.op = .call { callee := .builtin .append, args := #[x, y], argTypes := #[t, tx] }) [he : ElemInfo P t e sz bytes] [hz : ZeroInfo P e z] [htx : DescInfo P tx (.int kn)]
    (hx : aeval NG fr x = some (.slice (some ⟨n, 0, some 1⟩) len len)) (hy : aeval NG fr y = some (.int k (m : Int))) (hn : H n = some b) (hk : b.kind = .grow) (hbe : b.elem = e) (hbz : b.esz = sz) (hlen : len * sz = b.cells.length)
    (hb : (len + m) * bytes ≤ 140737488355328) (h63 : len + m ≤ 9223372036854775807)
    (hR : R (.slice (some ⟨n, 0, some 1⟩) (len + m) (len + m)) (upd H n (some { b with cells := b.cells ++ (Builtin.zeroCells z.cells m).toList })) nk) : AOp P NG o ⟨fr, H, nk⟩ R := by
  intro N B w0 G a w hs next Q hnx
  obtain ⟨z', hel⟩ := elemB_ok he.h
  have hzz : z' = z := by
    obtain ⟨i, hi, hz', _⟩ := hel.info
    have := hz.h
    unfold zeroB at this
    rw [hi] at this
    simp [hz'] at this
    exact this
  subst hzz
  have hv := aeval_rel hs hx
  obtain ⟨A, c, hA⟩ := vrel_slice hv
  rw [hA] at hv
  have hy' := (aeval_rel hs hy).int_
  have hmb : m * bytes ≤ 140737488355328 := Nat.le_trans (Nat.mul_le_mul_right _ (Nat.le_add_left _ _)) hb
  obtain ⟨v', w', G', hrun, hv', hS', hK⟩ := append_core (ty := o.type) (news := (Builtin.zeroCells z'.cells m).toList) hel hs.S hn hk hbe hbz hlen hv (App.ofZeros hel htx.h (by omega) hmb) rfl (fun j u hu => ⟨u, hu, .plain (all_at (zeroCells_plain hel.zpl m) (by simpa using hu))⟩) hb h63
  refine Oper.wp_val (run_builtin ho ?_) (hnx _ _ _ _ _ _ hR hv' hS' hK)
  simp only [builtin, List.map_toArray, List.map_cons, List.map_nil, hA, hy']
  rw [Sem.run_bind, hrun]
  rfl
theorem AOp.append0Z {x y : Operand} {t tx e : TypeId} {sz bytes m : Nat} {A0 : Option Addr} {z : Value} {k kn : IntKind} (ho : o.op = .call { callee := .builtin .append, args := #[x, y], argTypes := #[t, tx] }) [he : ElemInfo P t e sz bytes] [hz : ZeroInfo P e z] [htx : DescInfo P tx (.int kn)]
    (hx : aeval NG fr x = some (.slice A0 0 0)) (hA0 : ∀ ad, A0 = some ad → ad.spot = none) (hy : aeval NG fr y = some (.int k (m : Int)))
    (hb : m * bytes ≤ 140737488355328) (h63 : m ≤ 9223372036854775807)
    (hR : R (.slice (some ⟨nk, 0, some 1⟩) m m) (upd H nk (some { cells := (Builtin.zeroCells z.cells m).toList, elem := e, kind := .grow, esz := sz })) (nk + 1)) : AOp P NG o ⟨fr, H, nk⟩ R := by
  intro N B w0 G a w hs next Q hnx
  obtain ⟨z', hel⟩ := elemB_ok he.h
  have hzz : z' = z := by
    obtain ⟨i, hi, hz', _⟩ := hel.info
    have := hz.h
    unfold zeroB at this
    rw [hi] at this
    simp [hz'] at this
    exact this
  subst hzz
  have hv := aeval_rel hs hx
  have hA : ∃ A, a.eval x = .slice A 0 0 := by
    generalize hp : a.eval x = p at hv
    cases hv with
    | plain h => exact ⟨_, rfl⟩
    | exact _ => exact ⟨_, rfl⟩
    | loose _ _ _ => have := hA0 _ rfl; simp at this
    | grow _ _ => have := hA0 _ rfl; simp at this
    | gcut _ _ => have := hA0 _ rfl; simp at this
  obtain ⟨A, hA⟩ := hA
  obtain ⟨hS1, hK1⟩ := hs.S.adopt e sz hel.pos
  have hy' := (aeval_rel hs hy).int_
  have hv0 : VRel (upd G nk (.rows sz [])) (.slice (some ⟨nk, 0, some 1⟩) 0 0) (.slice A 0 0) := .grow (upd_same _ _ _) (.inl ⟨rfl, rfl⟩)
  obtain ⟨v', w', G', hrun, hv', hS', hK⟩ := append_core (ty := o.type) (len := 0) (news := (Builtin.zeroCells z'.cells m).toList) hel hS1 (upd_same _ _ _) rfl rfl rfl (by simp) hv0 (App.ofZeros (k := k) hel htx.h h63 hb) rfl (fun j u hu => ⟨u, hu, .plain (all_at (zeroCells_plain hel.zpl m) (by simpa using hu))⟩) (by simpa using hb) (by simpa using h63)
  have hup : upd (upd H nk (some { cells := [], elem := e, kind := .grow, esz := sz })) nk (some { cells := [] ++ (Builtin.zeroCells z'.cells m).toList, elem := e, kind := .grow, esz := sz }) = upd H nk (some { cells := (Builtin.zeroCells z'.cells m).toList, elem := e, kind := .grow, esz := sz }) := by
    funext q
    by_cases hq : q = nk
    · subst hq; simp
    · simp [upd, hq]
  rw [Nat.zero_add] at hv'
  rw [hup] at hS' hK
  refine Oper.wp_val (run_builtin ho ?_) (hnx _ _ _ _ _ _ hR hv' hS' (hK1.trans (fun n hn => (hs.S.fresh n hn).2) hK))
  simp only [builtin, List.map_toArray, List.map_cons, List.map_nil, hA, hy']
  rw [Sem.run_bind, hrun]
  rfl
theorem zeroCells_one (v : Value) (n : Nat) : (Builtin.zeroCells #[v] n).toList = List.replicate n v := by
  apply List.ext_getElem
  · simp [Builtin.zeroCells]
  · intro i h1 h2
    simp [Builtin.zeroCells, Nat.mod_one]
/-- The room of nil, or of an exact slice. -/
theorem AOp.capE {x : Operand} {t e : TypeId} {z : Nat} {A : Option Addr} {l c : Nat} (ho : o.op = .call { callee := .builtin .cap, args := #[x], argTypes := #[t] }) [hf : SlInfo P t e z] (hA : A = none ∨ ∃ n off, A = some ⟨n, off, none⟩)
    (hx : aeval NG fr x = some (.slice A l c)) (hR : R (.int .i64 c) H nk) : AOp P NG o ⟨fr, H, nk⟩ R := by
  refine AOp.quiet _ hR fun N B w0 G a w hs => ⟨.int .i64 c, ?_, .plain rfl⟩
  obtain ⟨hu, hz⟩ := slB_inv hf.h
  have hv := aeval_rel hs hx
  have e' : ∃ A', a.eval x = .slice A' l c := by
    generalize a.eval x = p at hv
    rcases hA with rfl | ⟨n, off, rfl⟩
    · cases hv with
      | plain _ => exact ⟨_, rfl⟩
    · cases hv with
      | plain h => simp [isPlain] at h
      | exact _ => exact ⟨_, rfl⟩
  obtain ⟨A', e'⟩ := e'
  refine run_builtin ho ?_
  simp [builtin, Builtin.cap_, e', run_underlying hu, goInt]
end

/-- A contract that answers a beginning of a slice of its own: a slice that may grow from there. -/
theorem ACalls.retake {P : Program} {NG : Nat} {f : FuncId} {vs : List Value} {H : Hp} {k : Nat} {e : TypeId} {sz l : Nat} {cells : List Value} (hl : l * sz ≤ cells.length)
    (h : ACalls P NG f vs H k fun v H' k' => ∃ q, k ≤ q ∧ q < k' ∧ v = .slice (some ⟨q, 0, some 1⟩) l l ∧ H' = upd H q (some { cells := cells, elem := e, kind := .grow, esz := sz })) :
    ACalls P NG f vs H k (NewS H k e sz l (cells.take (l * sz))) := by
  intro B w0 G vs' w hS hv
  refine (h B w0 G vs' w hS hv).mono ?_
  rintro ex w' ⟨v, v', H', k', G', rfl, ⟨q, hq1, hq2, rfl, rfl⟩, hvv, hS', hK⟩
  have hHq : H q = none := (hS.fresh q hq1).1
  have hsub : Sub H (upd H q (some { cells := cells, elem := e, kind := .grow, esz := sz })) := sub_upd hHq
  have hSl := hS'.less hsub
  have hb := hS'.blk q _ (upd_same _ _ _)
  unfold BRel at hb
  simp only at hb
  obtain ⟨h0, rows, hg, hr0, hrr, hrh, hnd⟩ := hb
  cases hvv with
  | plain hpl => simp [isPlain] at hpl
  | @grow _ z' _ c rows' A hg' hgl =>
    rw [hg] at hg'
    injection hg' with e1 e2
    subst e1
    subst e2
    -- the rows that the new name has
    have hrow : ∃ rows2 : List Row, GSlc sz rows2 l A c ∧ (rows2 = [] → cells.take (l * sz) = []) ∧ (∀ r ∈ rows2, ∃ r0 ∈ rows, r.block = r0.block ∧ r.k = l * sz ∧ r.cap = r0.cap ∧ l * sz ≤ r0.k) ∧ (∀ r rest, rows2 = r :: rest → rest = []) := by
      rcases hgl with ⟨h3, h4⟩ | ⟨r, hr, hA, hk, hc, hcap⟩
      · exact ⟨[], .inl ⟨h3, h4⟩, (fun _ => by rw [h3, Nat.zero_mul, List.take_zero]), (fun r hr => by cases hr), (fun r rest he => by cases he)⟩
      · refine ⟨[⟨r.block, l * sz, r.cap⟩], .inr ⟨_, List.mem_singleton.2 rfl, hA, Nat.le_refl _, hc, hcap⟩, (fun he => by cases he), fun r' hr' => ?_, (fun r' rest he => by injection he with _ he; exact he.symm)⟩
        rw [List.mem_singleton] at hr'
        subst hr'
        exact ⟨r, hr, rfl, rfl, rfl, hk⟩
    obtain ⟨rows2, hgs, hr2, hrr2, hsing⟩ := hrow
    have hfresh := hS'.fresh k' (Nat.le_refl _)
    have hGle : GLe G' (upd G' k' (.rows sz rows2)) := gle_upd hS'
    have hblk : ∀ x, x ∈ (upd G' k' (.rows sz rows2) k').blocks → x ∈ (G' q).blocks := by
      intro x hx
      rw [upd_same] at hx
      rw [hg]
      simp only [GB.blocks, List.mem_map] at hx ⊢
      obtain ⟨r, hr, rfl⟩ := hx
      obtain ⟨r0, h1, h2, _⟩ := hrr2 r hr
      exact ⟨r0, h1, h2.symm⟩
    have hkk : k ≤ k' := by omega
    refine ⟨_, _, upd H k' (some { cells := cells.take (l * sz), elem := e, kind := .grow, esz := sz }), k' + 1, upd G' k' (.rows sz rows2), rfl, ⟨k', by omega, by omega, rfl, rfl⟩, .grow (upd_same _ _ _) hgs, ?_, ?_⟩
    · refine hSl.update hSl.below hSl.base hGle (Nat.le_succ _) (· = k') ?_ ?_ ?_ ?_
      · intro n hn
        exact ⟨upd_other _ _ hn, fun _ => ⟨upd_other _ _ hn, fun _ _ => rfl⟩⟩
      · rintro n c' rfl hc'
        rw [upd_same] at hc' ⊢
        injection hc' with hc'
        subst hc'
        unfold BRel
        simp only
        refine ⟨h0, rows2, rfl, hr2, fun r hr => ?_, fun r rest he => ?_, ?_⟩
        · obtain ⟨r0, hm, e1, e2, e3, e4⟩ := hrr2 r hr
          obtain ⟨a1, a2, a3, cs, a4, a5, a6, a7⟩ := hrr r0 hm
          refine ⟨by rw [e1]; exact a1, by rw [e2, List.length_take]; exact Nat.le_min.2 ⟨Nat.le_refl _, hl⟩, by rw [e2]; exact Nat.mul_mod_left _ _, cs, by rw [e1]; exact a4, by rw [e3]; exact a5, by omega, fun j v hj hvj => ?_⟩
          rw [e2] at hj
          rw [List.getElem?_take, if_pos hj] at hvj
          obtain ⟨v', h1, h2⟩ := a7 j v (by omega) hvj
          exact ⟨v', h1, h2.mono hGle⟩
        · have := hsing r rest he
          subst this
          obtain ⟨r0, hm, e1, e2, e3, e4⟩ := hrr2 r (by rw [he]; exact List.mem_singleton.2 rfl)
          exact ⟨by rw [e2, List.length_take]; omega, (fun q hq => by cases hq)⟩
        · match rows2, hsing with
          | [], _ => simp
          | r :: rest, hsing => rw [hsing r rest rfl]; simp
      · rintro n c' rfl hc' ho m d hm hd ho' x hx hx'
        rw [upd_other _ _ hm] at hd hx'
        have hmq : q ≠ m := by rintro rfl; rw [hHq] at hd; cases hd
        exact hS'.sep q m _ d (upd_same _ _ _) (by rw [upd_other _ _ (Ne.symm hmq)]; exact hd) rfl ho' hmq x (hblk x hx) hx'
      · intro n hn
        rw [upd_other _ _ (by omega), upd_other _ _ (by omega)]
        exact hSl.fresh n (by omega)
    · refine ⟨hK.le.trans hGle, by omega, hK.size, hK.others, fun n hn h0 => ?_, fun n hn h0 => ?_, fun n x hx hlt => ?_, fun n b hb => ?_⟩
      · rw [upd_other _ _ (by omega)]
        exact hK.same n hn h0
      · rw [upd_other _ _ (by omega)]
        exact h0
      · by_cases hn : n = k'
        · subst hn
          have h1 := hK.newer q x (hblk x hx) hlt
          rw [(hS.fresh q hq1).2] at h1
          simp [GB.blocks] at h1
        · rw [upd_other _ _ hn] at hx
          exact hK.newer n x hx hlt
      · have := name_lt hS hb
        exact ⟨b, by rw [upd_other _ _ (by omega)]; exact hb, rfl⟩
end Go.Ab
