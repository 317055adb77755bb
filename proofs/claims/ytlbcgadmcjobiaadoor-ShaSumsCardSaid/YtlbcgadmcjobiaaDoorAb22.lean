/- Abstract states over the model, part 22: pointers to an element's cells; a loop that counts. No condition; over any program. -/
import Derived.Test.YtlbcgadmcjobiaaDoorAb21
set_option linter.unusedVariables false
set_option linter.unusedSimpArgs false
namespace Go.Ab
open Go.RowKit

abbrev ptr (n off : Nat) (sp : Option Nat) : Value := .pointer (some ⟨n, off, sp⟩)

/-- Where cells lie that can be read, whole and in parts. -/
structure PAt (H : Hp) (n off : Nat) (sp : Option Nat) (cs : List Value) : Prop where
  add : ∀ d, d < cs.length → aptrAdd H d (ptr n off sp) = some (ptr n (off + d) sp)
  ld : ∀ d m, d + m ≤ cs.length → 0 < m → aload H m (ptr n (off + d) sp) = some ((cs.drop d).take m)

theorem aptrAdd_sub {H H' : Hp} (hs : Sub H H') {d : Nat} {v q : Value} (h : aptrAdd H d v = some q) : aptrAdd H' d v = some q := by
  unfold aptrAdd at h ⊢
  split at h
  · exact h
  · rename_i n off
    cases hn : H n with
    | none => simp [hn] at h
    | some b =>
      simp only [hn] at h
      simp only [hs n b hn]
      exact h
  · cases h
theorem hcells_sub {H H' : Hp} (hs : Sub H H') {n off z : Nat} {cs : List Value} (h : hcells H n off z = some cs) : hcells H' n off z = some cs := by
  unfold hcells at h ⊢
  cases hn : H n with
  | none => simp [hn] at h
  | some b =>
    simp only [hn] at h
    simp only [hs n b hn]
    exact h
theorem aload_sub {H H' : Hp} (hs : Sub H H') {z : Nat} {v : Value} {cs : List Value} (h : aload H z v = some cs) : aload H' z v = some cs := by
  unfold aload at h ⊢
  split at h
  · exact hcells_sub hs h
  · rename_i n off
    cases hn : H n with
    | none => simp [hn] at h
    | some b =>
      simp only [hn] at h
      simp only [hs n b hn]
      split at h
      · rename_i hc
        rw [if_pos hc]
        exact hcells_sub hs h
      · cases h
  · cases h
theorem PAt.sub {H H' : Hp} {n off : Nat} {sp : Option Nat} {cs : List Value} (h : PAt H n off sp cs) (hs : Sub H H') : PAt H' n off sp cs :=
  ⟨fun d hd => aptrAdd_sub hs (h.add d hd), fun d m hd hm => aload_sub hs (h.ld d m hd hm)⟩
theorem aslcAt_sub {H H' : Hp} (hs : Sub H H') {z i : Nat} {v q : Value} (h : aslcAt H z i v = some q) : aslcAt H' z i v = some q := by
  unfold aslcAt at h ⊢
  split at h
  · exact h
  · exact h
  · rename_i n off l c
    cases hn : H n with
    | none => simp [hn] at h
    | some b => simp only [hn] at h; simp only [hs n b hn]; exact h
  · rename_i n off l c
    cases hn : H n with
    | none => simp [hn] at h
    | some b => simp only [hn] at h; simp only [hs n b hn]; exact h
  · cases h
theorem slcCells_sub {H H' : Hp} (hs : Sub H H') {z : Nat} {v : Value} {cs : List Value} (h : slcCells H z v = some cs) : slcCells H' z v = some cs := by
  unfold slcCells at h ⊢
  split at h <;> first
    | exact h
    | (split at h
       · rename_i h0
         rw [if_pos h0]
         exact h
       · rename_i h0
         rw [if_neg h0]
         split at h
         · rename_i b hn
           simp only [hs _ b hn]
           exact h
         · cases h)
    | cases h

/-- An element of a slice: where it lies, its cells. -/
theorem slcPt {H : Hp} {sz i : Nat} {v : Value} {cs : List Value} (h : slcCells H sz v = some cs) (hi : (i + 1) * sz ≤ cs.length) (h0 : 0 < sz) :
    ∃ n off sp, aslcAt H sz i v = some (ptr n off sp) ∧ PAt H n off sp ((cs.drop (i * sz)).take sz) := by
  have hpos : 0 < cs.length := by
    have : 0 < (i + 1) * sz := Nat.mul_pos (by omega) h0
    omega
  have e1 : (i + 1) * sz = i * sz + sz := by rw [Nat.add_mul, Nat.one_mul]
  have hlen : ((cs.drop (i * sz)).take sz).length = sz := by rw [List.length_take, List.length_drop]; omega
  have main : ∀ (n off l : Nat) (b : Blk), H n = some b → off + l * sz ≤ b.cells.length → cs = (b.cells.drop off).take (l * sz) →
      i < l ∧ ∀ d m, d + m ≤ sz → hcells H n (off + i * sz + d) m = some ((((cs.drop (i * sz)).take sz).drop d).take m) := by
    intro n off l b hn hle hcs
    have hl : cs.length = l * sz := by rw [hcs, List.length_take, List.length_drop]; omega
    have hlt : i < l := by
      rcases Nat.lt_or_ge i l with h' | h'
      · exact h'
      · have := Nat.mul_le_mul_right sz h'
        omega
    refine ⟨hlt, fun d m hdm => ?_⟩
    have h2 : i * sz + sz ≤ l * sz := by omega
    simp only [hcells, hn]
    rw [if_pos (by omega), hcs]
    congr 1
    rw [List.drop_take, List.take_take, Nat.min_eq_left (show m ≤ sz - d by omega), List.drop_take, List.drop_take, List.take_take, Nat.min_eq_left (by omega), List.drop_drop, List.drop_drop]
    congr 2
    omega
  unfold slcCells at h
  split at h
  · injection h with h
    subst h
    simp at hpos
  · rename_i n off l c
    split at h
    · injection h with h
      subst h
      simp at hpos
    · cases hn : H n with
      | none => simp [hn] at h
      | some b =>
        simp only [hn] at h
        split at h
        · rename_i hle
          injection h with h
          obtain ⟨h1, h2⟩ := main n off l b hn hle h.symm
          refine ⟨n, off + i * sz, none, by simp only [aslcAt]; rw [if_pos h1], fun d hd => rfl, fun d m hd hm => ?_⟩
          rw [hlen] at hd
          exact h2 d m hd
        · cases h
  · rename_i n off l c
    split at h
    · injection h with h
      subst h
      simp at hpos
    · cases hn : H n with
      | none => simp [hn] at h
      | some b =>
        simp only [hn] at h
        split at h
        · rename_i hle
          injection h with h
          obtain ⟨h1, h2⟩ := main n off l b hn hle h.symm
          refine ⟨n, off + i * sz, none, by simp only [aslcAt]; rw [if_pos h1], fun d hd => rfl, fun d m hd hm => ?_⟩
          rw [hlen] at hd
          exact h2 d m hd
        · cases h
  · rename_i n off l c
    split at h
    · injection h with h
      subst h
      simp at hpos
    · cases hn : H n with
      | none => simp [hn] at h
      | some b =>
        simp only [hn] at h
        split at h
        · rename_i hle
          injection h with h
          obtain ⟨h1, h2⟩ := main n off l b hn hle.2 h.symm
          have hm : (off + i * sz) % b.esz = 0 := by rw [hle.1.1, Nat.add_mul_mod_self_right, hle.1.2]
          refine ⟨n, off + i * sz, some 1, by simp only [aslcAt, hn]; rw [if_pos ⟨h1, hle.1.1⟩], fun d hd => ?_, fun d m hd hm' => ?_⟩
          · rw [hlen] at hd
            simp only [aptrAdd, hn]
            rw [if_pos (by omega)]
          · rw [hlen] at hd
            simp only [aload, hn]
            have e : (off + i * sz + d) % b.esz = d := by
              rw [Nat.add_mod, hm, Nat.zero_add, Nat.mod_mod, Nat.mod_eq_of_lt (by omega)]
            rw [if_pos (by omega)]
            exact h2 d m hd
        · cases h
  · rename_i n off l c
    split at h
    · injection h with h
      subst h
      simp at hpos
    · cases hn : H n with
      | none => simp [hn] at h
      | some b =>
        simp only [hn] at h
        split at h
        · rename_i hle
          injection h with h
          obtain ⟨h1, h2⟩ := main n off l b hn hle.2 h.symm
          have hm : (off + i * sz) % b.esz = 0 := by rw [hle.1.1, Nat.add_mul_mod_self_right, hle.1.2]
          refine ⟨n, off + i * sz, some 1, by simp only [aslcAt, hn]; rw [if_pos ⟨h1, hle.1.1⟩], fun d hd => ?_, fun d m hd hm' => ?_⟩
          · rw [hlen] at hd
            simp only [aptrAdd, hn]
            rw [if_pos (by omega)]
          · rw [hlen] at hd
            simp only [aload, hn]
            have e : (off + i * sz + d) % b.esz = d := by
              rw [Nat.add_mod, hm, Nat.zero_add, Nat.mod_mod, Nat.mod_eq_of_lt (by omega)]
            rw [if_pos (by omega)]
            exact h2 d m hd
        · cases h
  · cases h

theorem flatMap_len {α : Type} {f : α → List Value} {z : Nat} (hz : ∀ a, (f a).length = z) (l : List α) : (l.flatMap f).length = l.length * z := by
  induction l with
  | nil => simp
  | cons a l ih => rw [List.flatMap_cons, List.length_append, hz, ih, List.length_cons, Nat.add_mul, Nat.one_mul, Nat.add_comm]
theorem flatMap_piece {α : Type} {f : α → List Value} {z : Nat} (hz : ∀ a, (f a).length = z) : ∀ (l : List α) (i : Nat) (hi : i < l.length), ((l.flatMap f).drop (i * z)).take z = f l[i]
  | a :: l, 0, _ => by
    rw [List.flatMap_cons, Nat.zero_mul, List.drop_zero, ← hz a]
    exact List.take_left
  | a :: l, i + 1, hi => by
    rw [List.flatMap_cons, Nat.add_mul, Nat.one_mul, Nat.add_comm, ← List.drop_drop]
    have : (f a ++ l.flatMap f).drop z = l.flatMap f := by rw [← hz a]; exact List.drop_left
    rw [this]
    exact flatMap_piece hz l i (by simpa using hi)

theorem slcEl {H : Hp} {z i : Nat} {v : Value} {α : Type} {f : α → List Value} {l : List α} (h : slcCells H z v = some (l.flatMap f)) (hz : ∀ a, (f a).length = z) (h0 : 0 < z) (hi : i < l.length) :
    ∃ n off sp, aslcAt H z i v = some (ptr n off sp) ∧ PAt H n off sp (f l[i]) := by
  obtain ⟨n, off, sp, h1, h2⟩ := slcPt h (i := i) (by rw [flatMap_len hz]; exact Nat.mul_le_mul_right z hi) h0
  rw [flatMap_piece hz l i hi] at h2
  exact ⟨n, off, sp, h1, h2⟩
/-- Of slices of one cell an element. -/
theorem slcEl1 {H : Hp} {i : Nat} {v : Value} {α : Type} {f : α → Value} {l : List α} (h : slcCells H 1 v = some (l.map f)) (hi : i < l.length) :
    ∃ n off sp, aslcAt H 1 i v = some (ptr n off sp) ∧ PAt H n off sp [f l[i]] := by
  obtain ⟨n, off, sp, h1, h2⟩ := slcPt h (i := i) (by simp; omega) (by decide)
  have : (((l.map f).drop (i * 1)).take 1) = [f l[i]] := by
    rw [Nat.mul_one, List.drop_eq_getElem_cons (by simpa using hi), List.take_succ_cons, List.take_zero]
    simp
  rw [this] at h2
  exact ⟨n, off, sp, h1, h2⟩

section
variable {P : Program} {NG : Nat} {fr : Fr} {H : Hp} {nk : Nat} {R : Value → Hp → Nat → Prop} {o : Oper}

theorem AOp.indexP {t e : TypeId} {x y : Operand} {z : Nat} {p q : Value} {i : Nat} {ik : IntKind} (hq : aslcAt H z i p = some q) (ho : o.op = .indexAddr t x y) [hf : SlInfo P t e z]
    (hx : aeval NG fr x = some p) (hy : aeval NG fr y = some (.int ik (i : Int))) (hR : R q H nk) : AOp P NG o ⟨fr, H, nk⟩ R :=
  AOp.indexAddr_slc' ho hx hy (Int.natCast_nonneg i) (by rw [Int.toNat_natCast]; exact hq) hR
theorem AOp.fieldP {t : TypeId} {x : Operand} {f off z n d : Nat} {sp : Option Nat} {agg : Bool} {cs : List Value} (hp : PAt H n d sp cs) (ho : o.op = .fieldAddr t x f) [hf : FieldInfo P t f off agg z] (hz0 : 0 < z) (hd : off < cs.length)
    (hx : aeval NG fr x = some (ptr n d sp)) (hR : R (ptr n (d + off) sp) H nk) : AOp P NG o ⟨fr, H, nk⟩ R :=
  AOp.fieldAddr ho hf.h hz0 hx (hp.add off hd) hR
theorem AOp.loadP1 {t : TypeId} {x : Operand} {n off d z : Nat} {sp : Option Nat} {cs : List Value} {v : Value} (hp : PAt H n off sp cs) (ho : o.op = .load t x) [ht : TyInfo P t false z] (hx : aeval NG fr x = some (ptr n (off + d) sp)) (hv : cs[d]? = some v) (hR : R v H nk) : AOp P NG o ⟨fr, H, nk⟩ R := by
  refine AOp.load ho hx ?_ hR
  have hlt := (List.getElem?_eq_some_iff.1 hv).1
  have : (cs.drop d).take 1 = [v] := by
    rw [List.drop_eq_getElem_cons hlt, List.take_succ_cons, List.take_zero]
    rw [List.getElem?_eq_getElem hlt] at hv
    injection hv with hv
    rw [hv]
  simp only [aloadVar, ht.a, hp.ld d 1 (by omega) (by omega), this]
theorem AOp.loadP0 {t : TypeId} {x : Operand} {n off z : Nat} {sp : Option Nat} {cs : List Value} {v : Value} (hp : PAt H n off sp cs) (ho : o.op = .load t x) [ht : TyInfo P t false z] (hx : aeval NG fr x = some (ptr n off sp)) (hv : cs[0]? = some v) (hR : R v H nk) : AOp P NG o ⟨fr, H, nk⟩ R :=
  AOp.loadP1 (d := 0) hp ho hx hv hR
theorem AOp.loadPA {t : TypeId} {x : Operand} {n off z : Nat} {sp : Option Nat} {cs : List Value} {v : Value} (hp : PAt H n off sp cs) (ho : o.op = .load t x) [ht : TyInfo P t true z] (hx : aeval NG fr x = some (ptr n off sp)) (hv : cs = v.cells.toList) (ha : v = .agg v.cells) (hz : cs.length = z) (h0 : 0 < z) (hR : R v H nk) : AOp P NG o ⟨fr, H, nk⟩ R := by
  refine AOp.load ho hx ?_ hR
  have h1 := hp.ld 0 cs.length (by omega) (by omega)
  rw [List.drop_zero, List.take_length] at h1
  have h2 : aload H z (ptr n off sp) = some cs := by rw [← hz]; exact h1
  simp only [aloadVar, ht.a, ht.s, h2, Option.map_some, hv, Array.toArray_toList, ← ha]

/-! ### A loop that counts -/
theorem has_append {fr : Fr} {l l' : List (Nat × Value)} (h : Has fr l) (h' : Has fr l') : Has fr (l ++ l') := fun p hp => by
  rcases List.mem_append.1 hp with hp | hp
  · exact h p hp
  · exact h' p hp
theorem ACode.fresh {Nt : Nat} {Q : Exit → St → Prop} {c : Code} (h : (∀ m, nk ≤ m → H m = none) → ACode P NG Nt c Q ⟨fr, H, nk⟩) : ACode P NG Nt c Q ⟨fr, H, nk⟩ :=
  fun B w0 G a w hs hd => h (fun n hn => (hs.S.fresh n hn).1) B w0 G a w hs hd
/-- A round's end: what the next one begins with. -/
def NextR (i n nk : Nat) (lv : Nat → List (Nat × Value)) (lc : List (Nat × Value)) (Hi : Nat → Hp) (X : Nat → Prop) : St → Prop :=
  fun s' => i < n ∧ nk ≤ s'.k ∧ Has s'.fr (lv (i + 1)) ∧ Has s'.fr lc ∧ Sub (Hi (i + 1)) s'.H ∧ X (i + 1)
theorem thenA_n {K : St → Prop} {Q : Exit → St → Prop} {s : St} (h : K s) : thenA K Q .normal s := h
theorem NextR.mk {i n nk k' : Nat} {lv : Nat → List (Nat × Value)} {lc : List (Nat × Value)} {Hi : Nat → Hp} {X : Nat → Prop} {fr : Fr} {H' : Hp} (h1 : i < n) (h2 : nk ≤ k') (h3 : Has fr (lv (i + 1))) (h4 : Has fr lc) (h5 : Sub (Hi (i + 1)) H') (h6 : X (i + 1)) : NextR i n nk lv lc Hi X ⟨fr, H', k'⟩ :=
  ⟨h1, h2, h3, h4, h5, h6⟩
theorem ACode.count {Nt : Nat} {Q : Exit → St → Prop} {c : Code} (lv : Nat → List (Nat × Value)) (lc : List (Nat × Value)) (Hi : Nat → Hp) (n : Nat) (X : Nat → Prop) (h1 : Has fr (lv 0)) (h2 : Has fr lc) (hs : Sub (Hi 0) H) (hx : X 0)
    (h : ∀ i k' Hc, i ≤ n → nk ≤ k' → Sub (Hi i) Hc → (∀ m, k' ≤ m → Hc m = none) → X i → ACode P NG Nt c (thenA (NextR i n nk lv lc Hi X) Q) ⟨frL (lv i ++ lc), Hc, k'⟩) :
    ACode P NG Nt (.loop c) Q ⟨fr, H, nk⟩ := by
  refine ACode.loop (fun m s => ∃ i, i ≤ n ∧ m = n - i ∧ nk ≤ s.k ∧ Has s.fr (lv i ++ lc) ∧ Sub (Hi i) s.H ∧ X i) n ⟨0, Nat.zero_le _, rfl, Nat.le_refl _, has_append h1 h2, hs, hx⟩ ?_
  rintro m ⟨fr', Hc, k'⟩ ⟨i, hi, rfl, hk, hh, hsub, hx'⟩
  have := ACode.has hh (ACode.fresh fun hf => h i k' Hc hi hk hsub hf hx')
  refine this.mono ?_
  intro e s hq
  cases e with
  | normal =>
    obtain ⟨a1, a2, a3, a4, a5, a6⟩ := hq
    exact ⟨n - (i + 1), by omega, i + 1, a1, rfl, a2, has_append a3 a4, a5, a6⟩
  | _ => exact hq
/-- The heap of ahead of the loop stays. -/
theorem ACode.count0 {Nt : Nat} {Q : Exit → St → Prop} {c : Code} (lv : Nat → List (Nat × Value)) (lc : List (Nat × Value)) (n : Nat) (X : Nat → Prop) (h1 : Has fr (lv 0)) (h2 : Has fr lc) (hx : X 0)
    (h : ∀ i k' Hc, i ≤ n → nk ≤ k' → Sub H Hc → (∀ m, k' ≤ m → Hc m = none) → X i → ACode P NG Nt c (thenA (NextR i n nk lv lc (fun _ => H) X) Q) ⟨frL (lv i ++ lc), Hc, k'⟩) :
    ACode P NG Nt (.loop c) Q ⟨fr, H, nk⟩ :=
  ACode.count lv lc (fun _ => H) n X h1 h2 (sub_refl _) hx h
end
end Go.Ab
