/- Abstract states over the model, parts 21 to 30: a logic of contracts over abstract heaps. No condition; over any program. -/
import Derived.Test.YteoofihjmldllaaDoorAb20
import Derived.Laws.MakeOwn
import Derived.Laws.BytesArg
import Derived.Lib.LaidTab
set_option linter.unusedVariables false
set_option linter.unusedSimpArgs false
namespace Go.Ab
open Go.RowKit

/-- A struct's fields' types. -/
class FieldTys (P : Program) (t : TypeId) (ts : outParam (List TypeId)) : Prop where
  h : (match P.underlying t with | some (.struct fs) => some (fs.toList.map (·.type)) | _ => none) = some ts
/-- An array's length and its elements' type. -/
class ArrTy (P : Program) (t : TypeId) (n : outParam Nat) (e : outParam TypeId) : Prop where
  h : P.underlying t = some (.array n e)

section
variable {P : Program} {H : Hp} {t : TypeId} {cs : List Value} {u : Value}

theorem AD.int_inv {k : IntKind} [ht : DescInfo P t (.int k)] (h : AD P H (.one t) cs) : ∃ n, cs = [.int k n] ∧ k.min ≤ n ∧ n ≤ k.max := by
  have hu := ht.h
  cases h with
  | @int _ k' n ht' hw =>
    rw [hu] at ht'
    injection ht' with e
    injection e with e
    subst e
    simp only [Lit.wf, Bool.and_eq_true, decide_eq_true_eq] at hw
    exact ⟨n, rfl, hw⟩
  | _ => simp_all
theorem AD.bool_inv [ht : DescInfo P t .bool] (h : AD P H (.one t) cs) : ∃ b, cs = [.bool b] := by
  have hu := ht.h
  cases h with
  | @bool _ b ht' => exact ⟨b, rfl⟩
  | _ => simp_all
theorem AD.str_invR [ht : DescInfo P t .string] (h : AD P H (.one t) cs) : ∃ s, cs = [.string s] ∧ s.size ≤ reachBytes := by
  have hu := ht.h
  cases h with
  | @str _ s ht' hw => exact ⟨s, rfl, hw⟩
  | _ => simp_all
theorem AD.struct_inv {ts : List TypeId} [ht : FieldTys P t ts] (h : AD P H (.one t) cs) : AD P H (.many ts) cs := by
  have hu := ht.h
  cases h with
  | struct ht' hl h' =>
    rw [ht'] at hu
    injection hu with hu
    rw [← hu]
    exact h'
  | _ => simp_all
theorem AD.nil_inv (h : AD P H (.many []) cs) : cs = [] := by
  cases h
  rfl
theorem AD.cons_inv {ts : List TypeId} (h : AD P H (.many (t :: ts)) cs) : ∃ a b, cs = a ++ b ∧ AD P H (.one t) a ∧ a.length = P.cellsOf t ∧ AD P H (.many ts) b := by
  cases h with
  | cons ha hl hb => exact ⟨_, _, rfl, ha, hl, hb⟩

theorem litwf {k : IntKind} {n : Int} (h1 : k.min ≤ n) (h2 : n ≤ k.max) : (Lit.int k n).wf = true := by
  simp only [Lit.wf, Bool.and_eq_true, decide_eq_true_eq]
  exact ⟨h1, h2⟩
theorem cellsOf_size {e : TypeId} {z : Nat} (h : sizeB P e = some z) : P.cellsOf e = z := by
  unfold sizeB at h
  unfold Program.cellsOf
  cases hi : P.info? e with
  | none => simp [hi] at h
  | some i =>
    simp [hi] at h
    simp [h]

/-! ### Arguments -/
theorem AVs.cons_inv {ts : List TypeId} {us : List Value} (h : AVs P H (t :: ts) us) : ∃ u r, us = u :: r ∧ AV P H t u ∧ AVs P H ts r := h
theorem AVs.nil_inv {us : List Value} (h : AVs P H [] us) : us = [] := h
theorem AV.plain {d : TypeDesc} [ht : DescInfo P t d] (hd : (∀ fs, d ≠ .struct fs) ∧ ∀ n e, d ≠ .array n e) (h : AV P H t u) : AD P H (.one t) [u] := by
  unfold AV at h
  rw [ht.h] at h
  split at h
  · rename_i fs hf
    exact absurd (Option.some.inj hf) (hd.1 _)
  · rename_i n e hf
    exact absurd (Option.some.inj hf) (hd.2 _ _)
  · exact h
theorem AV.struct {ts : List TypeId} [ht : FieldTys P t ts] (h : AV P H t u) : ∃ cs, u = .agg cs ∧ AD P H (.one t) cs.toList := by
  have hu := ht.h
  unfold AV at h
  split at h
  · exact h
  · rename_i hf
    simp [hf] at hu
  · split at hu
    · simp_all
    · cases hu
end
end Go.Ab

set_option linter.unusedVariables false
set_option linter.unusedSimpArgs false
namespace Go.Ab
open Go.RowKit

abbrev ptr (n off : Nat) (sp : Option Nat) : Value := .pointer (some ⟨n, off, sp⟩)

/-- Where cells lie that can be read, whole and in parts. -/
structure PAt (H : Hp) (n off : Nat) (sp : Option Nat) (cs : List Value) : Prop where
  add : ∀ d, d < cs.length → aptrAdd H d (ptr n off sp) = some (ptr n (off + d) sp)
  ld : ∀ d m, d + m ≤ cs.length → 0 < m → aload H m (ptr n (off + d) sp) = some ((cs.drop d).take m)

theorem aptrAdd_sub {H H' : Hp} (hs : Sub H H') {d : Nat} {v q : Value} (h : aptrAdd H d v = some q) : aptrAdd H' d v = some q := by
  unfold aptrAdd at h ⊢
  split at h
  · exact h
  · rename_i n off
    cases hn : H n with
    | none => simp [hn] at h
    | some b =>
      simp only [hn] at h
      simp only [hs n b hn]
      exact h
  · cases h
theorem hcells_sub {H H' : Hp} (hs : Sub H H') {n off z : Nat} {cs : List Value} (h : hcells H n off z = some cs) : hcells H' n off z = some cs := by
  unfold hcells at h ⊢
  cases hn : H n with
  | none => simp [hn] at h
  | some b =>
    simp only [hn] at h
    simp only [hs n b hn]
    exact h
theorem aload_sub {H H' : Hp} (hs : Sub H H') {z : Nat} {v : Value} {cs : List Value} (h : aload H z v = some cs) : aload H' z v = some cs := by
  unfold aload at h ⊢
  split at h
  · exact hcells_sub hs h
  · rename_i n off
    cases hn : H n with
    | none => simp [hn] at h
    | some b =>
      simp only [hn] at h
      simp only [hs n b hn]
      split at h
      · rename_i hc
        rw [if_pos hc]
        exact hcells_sub hs h
      · cases h
  · cases h
theorem PAt.sub {H H' : Hp} {n off : Nat} {sp : Option Nat} {cs : List Value} (h : PAt H n off sp cs) (hs : Sub H H') : PAt H' n off sp cs :=
  ⟨fun d hd => aptrAdd_sub hs (h.add d hd), fun d m hd hm => aload_sub hs (h.ld d m hd hm)⟩
theorem aslcAt_sub {H H' : Hp} (hs : Sub H H') {z i : Nat} {v q : Value} (h : aslcAt H z i v = some q) : aslcAt H' z i v = some q := by
  unfold aslcAt at h ⊢
  split at h
  · exact h
  · exact h
  · rename_i n off l c
    cases hn : H n with
    | none => simp [hn] at h
    | some b => simp only [hn] at h; simp only [hs n b hn]; exact h
  · rename_i n off l c
    cases hn : H n with
    | none => simp [hn] at h
    | some b => simp only [hn] at h; simp only [hs n b hn]; exact h
  · cases h
theorem slcCells_sub {H H' : Hp} (hs : Sub H H') {z : Nat} {v : Value} {cs : List Value} (h : slcCells H z v = some cs) : slcCells H' z v = some cs := by
  unfold slcCells at h ⊢
  split at h <;> first
    | exact h
    | (split at h
       · rename_i h0
         rw [if_pos h0]
         exact h
       · rename_i h0
         rw [if_neg h0]
         split at h
         · rename_i b hn
           simp only [hs _ b hn]
           exact h
         · cases h)
    | cases h

/-- An element of a slice: where it lies, its cells. -/
theorem slcPt {H : Hp} {sz i : Nat} {v : Value} {cs : List Value} (h : slcCells H sz v = some cs) (hi : (i + 1) * sz ≤ cs.length) (h0 : 0 < sz) :
    ∃ n off sp, aslcAt H sz i v = some (ptr n off sp) ∧ PAt H n off sp ((cs.drop (i * sz)).take sz) := by
  have hpos : 0 < cs.length := by
    have : 0 < (i + 1) * sz := Nat.mul_pos (by omega) h0
    omega
  have e1 : (i + 1) * sz = i * sz + sz := by rw [Nat.add_mul, Nat.one_mul]
  have hlen : ((cs.drop (i * sz)).take sz).length = sz := by rw [List.length_take, List.length_drop]; omega
  have main : ∀ (n off l : Nat) (b : Blk), H n = some b → off + l * sz ≤ b.cells.length → cs = (b.cells.drop off).take (l * sz) →
      i < l ∧ ∀ d m, d + m ≤ sz → hcells H n (off + i * sz + d) m = some ((((cs.drop (i * sz)).take sz).drop d).take m) := by
    intro n off l b hn hle hcs
    have hl : cs.length = l * sz := by rw [hcs, List.length_take, List.length_drop]; omega
    have hlt : i < l := by
      rcases Nat.lt_or_ge i l with h' | h'
      · exact h'
      · have := Nat.mul_le_mul_right sz h'
        omega
    refine ⟨hlt, fun d m hdm => ?_⟩
    have h2 : i * sz + sz ≤ l * sz := by omega
    simp only [hcells, hn]
    rw [if_pos (by omega), hcs]
    congr 1
    rw [List.drop_take, List.take_take, Nat.min_eq_left (show m ≤ sz - d by omega), List.drop_take, List.drop_take, List.take_take, Nat.min_eq_left (by omega), List.drop_drop, List.drop_drop]
    congr 2
    omega
  unfold slcCells at h
  split at h
  · injection h with h
    subst h
    simp at hpos
  · rename_i n off l c
    split at h
    · injection h with h
      subst h
      simp at hpos
    · cases hn : H n with
      | none => simp [hn] at h
      | some b =>
        simp only [hn] at h
        split at h
        · rename_i hle
          injection h with h
          obtain ⟨h1, h2⟩ := main n off l b hn hle h.symm
          refine ⟨n, off + i * sz, none, by simp only [aslcAt]; rw [if_pos h1], fun d hd => rfl, fun d m hd hm => ?_⟩
          rw [hlen] at hd
          exact h2 d m hd
        · cases h
  · rename_i n off l c
    split at h
    · injection h with h
      subst h
      simp at hpos
    · cases hn : H n with
      | none => simp [hn] at h
      | some b =>
        simp only [hn] at h
        split at h
        · rename_i hle
          injection h with h
          obtain ⟨h1, h2⟩ := main n off l b hn hle h.symm
          refine ⟨n, off + i * sz, none, by simp only [aslcAt]; rw [if_pos h1], fun d hd => rfl, fun d m hd hm => ?_⟩
          rw [hlen] at hd
          exact h2 d m hd
        · cases h
  · rename_i n off l c
    split at h
    · injection h with h
      subst h
      simp at hpos
    · cases hn : H n with
      | none => simp [hn] at h
      | some b =>
        simp only [hn] at h
        split at h
        · rename_i hle
          injection h with h
          obtain ⟨h1, h2⟩ := main n off l b hn hle.2 h.symm
          have hm : (off + i * sz) % b.esz = 0 := by rw [hle.1.1, Nat.add_mul_mod_self_right, hle.1.2]
          refine ⟨n, off + i * sz, some 1, by simp only [aslcAt, hn]; rw [if_pos ⟨h1, hle.1.1⟩], fun d hd => ?_, fun d m hd hm' => ?_⟩
          · rw [hlen] at hd
            simp only [aptrAdd, hn]
            rw [if_pos (by omega)]
          · rw [hlen] at hd
            simp only [aload, hn]
            have e : (off + i * sz + d) % b.esz = d := by
              rw [Nat.add_mod, hm, Nat.zero_add, Nat.mod_mod, Nat.mod_eq_of_lt (by omega)]
            rw [if_pos (by omega)]
            exact h2 d m hd
        · cases h
  · rename_i n off l c
    split at h
    · injection h with h
      subst h
      simp at hpos
    · cases hn : H n with
      | none => simp [hn] at h
      | some b =>
        simp only [hn] at h
        split at h
        · rename_i hle
          injection h with h
          obtain ⟨h1, h2⟩ := main n off l b hn hle.2 h.symm
          have hm : (off + i * sz) % b.esz = 0 := by rw [hle.1.1, Nat.add_mul_mod_self_right, hle.1.2]
          refine ⟨n, off + i * sz, some 1, by simp only [aslcAt, hn]; rw [if_pos ⟨h1, hle.1.1⟩], fun d hd => ?_, fun d m hd hm' => ?_⟩
          · rw [hlen] at hd
            simp only [aptrAdd, hn]
            rw [if_pos (by omega)]
          · rw [hlen] at hd
            simp only [aload, hn]
            have e : (off + i * sz + d) % b.esz = d := by
              rw [Nat.add_mod, hm, Nat.zero_add, Nat.mod_mod, Nat.mod_eq_of_lt (by omega)]
            rw [if_pos (by omega)]
            exact h2 d m hd
        · cases h
  · cases h

theorem flatMap_len {α : Type} {f : α → List Value} {z : Nat} (hz : ∀ a, (f a).length = z) (l : List α) : (l.flatMap f).length = l.length * z := by
  induction l with
  | nil => simp
  | cons a l ih => rw [List.flatMap_cons, List.length_append, hz, ih, List.length_cons, Nat.add_mul, Nat.one_mul, Nat.add_comm]
theorem flatMap_piece {α : Type} {f : α → List Value} {z : Nat} (hz : ∀ a, (f a).length = z) : ∀ (l : List α) (i : Nat) (hi : i < l.length), ((l.flatMap f).drop (i * z)).take z = f l[i]
  | a :: l, 0, _ => by
    rw [List.flatMap_cons, Nat.zero_mul, List.drop_zero, ← hz a]
    exact List.take_left
  | a :: l, i + 1, hi => by
    rw [List.flatMap_cons, Nat.add_mul, Nat.one_mul, Nat.add_comm, ← List.drop_drop]
    have : (f a ++ l.flatMap f).drop z = l.flatMap f := by rw [← hz a]; exact List.drop_left
    rw [this]
    exact flatMap_piece hz l i (by simpa using hi)

theorem slcEl {H : Hp} {z i : Nat} {v : Value} {α : Type} {f : α → List Value} {l : List α} (h : slcCells H z v = some (l.flatMap f)) (hz : ∀ a, (f a).length = z) (h0 : 0 < z) (hi : i < l.length) :
    ∃ n off sp, aslcAt H z i v = some (ptr n off sp) ∧ PAt H n off sp (f l[i]) := by
  obtain ⟨n, off, sp, h1, h2⟩ := slcPt h (i := i) (by rw [flatMap_len hz]; exact Nat.mul_le_mul_right z hi) h0
  rw [flatMap_piece hz l i hi] at h2
  exact ⟨n, off, sp, h1, h2⟩
/-- Of slices of one cell an element. -/
theorem slcEl1 {H : Hp} {i : Nat} {v : Value} {α : Type} {f : α → Value} {l : List α} (h : slcCells H 1 v = some (l.map f)) (hi : i < l.length) :
    ∃ n off sp, aslcAt H 1 i v = some (ptr n off sp) ∧ PAt H n off sp [f l[i]] := by
  obtain ⟨n, off, sp, h1, h2⟩ := slcPt h (i := i) (by simp; omega) (by decide)
  have : (((l.map f).drop (i * 1)).take 1) = [f l[i]] := by
    rw [Nat.mul_one, List.drop_eq_getElem_cons (by simpa using hi), List.take_succ_cons, List.take_zero]
    simp
  rw [this] at h2
  exact ⟨n, off, sp, h1, h2⟩

section
variable {P : Program} {NG : Nat} {fr : Fr} {H : Hp} {nk : Nat} {R : Value → Hp → Nat → Prop} {o : Oper}

theorem AOp.indexP {t e : TypeId} {x y : Operand} {z : Nat} {p q : Value} {i : Nat} {ik : IntKind} (hq : aslcAt H z i p = some q) (ho : o.op = .indexAddr t x y) [hf : SlInfo P t e z]
    (hx : aeval NG fr x = some p) (hy : aeval NG fr y = some (.int ik (i : Int))) (hR : R q H nk) : AOp P NG o ⟨fr, H, nk⟩ R :=
  AOp.indexAddr_slc' ho hx hy (Int.natCast_nonneg i) (by rw [Int.toNat_natCast]; exact hq) hR
theorem AOp.fieldP {t : TypeId} {x : Operand} {f off z n d : Nat} {sp : Option Nat} {agg : Bool} {cs : List Value} (hp : PAt H n d sp cs) (ho : o.op = .fieldAddr t x f) [hf : FieldInfo P t f off agg z] (hz0 : 0 < z) (hd : off < cs.length)
    (hx : aeval NG fr x = some (ptr n d sp)) (hR : R (ptr n (d + off) sp) H nk) : AOp P NG o ⟨fr, H, nk⟩ R :=
  AOp.fieldAddr ho hf.h hz0 hx (hp.add off hd) hR
theorem AOp.loadP1 {t : TypeId} {x : Operand} {n off d z : Nat} {sp : Option Nat} {cs : List Value} {v : Value} (hp : PAt H n off sp cs) (ho : o.op = .load t x) [ht : TyInfo P t false z] (hx : aeval NG fr x = some (ptr n (off + d) sp)) (hv : cs[d]? = some v) (hR : R v H nk) : AOp P NG o ⟨fr, H, nk⟩ R := by
  refine AOp.load ho hx ?_ hR
  have hlt := (List.getElem?_eq_some_iff.1 hv).1
  have : (cs.drop d).take 1 = [v] := by
    rw [List.drop_eq_getElem_cons hlt, List.take_succ_cons, List.take_zero]
    rw [List.getElem?_eq_getElem hlt] at hv
    injection hv with hv
    rw [hv]
  simp only [aloadVar, ht.a, hp.ld d 1 (by omega) (by omega), this]
theorem AOp.loadP0 {t : TypeId} {x : Operand} {n off z : Nat} {sp : Option Nat} {cs : List Value} {v : Value} (hp : PAt H n off sp cs) (ho : o.op = .load t x) [ht : TyInfo P t false z] (hx : aeval NG fr x = some (ptr n off sp)) (hv : cs[0]? = some v) (hR : R v H nk) : AOp P NG o ⟨fr, H, nk⟩ R :=
  AOp.loadP1 (d := 0) hp ho hx hv hR
theorem AOp.loadPA {t : TypeId} {x : Operand} {n off z : Nat} {sp : Option Nat} {cs : List Value} {v : Value} (hp : PAt H n off sp cs) (ho : o.op = .load t x) [ht : TyInfo P t true z] (hx : aeval NG fr x = some (ptr n off sp)) (hv : cs = v.cells.toList) (ha : v = .agg v.cells) (hz : cs.length = z) (h0 : 0 < z) (hR : R v H nk) : AOp P NG o ⟨fr, H, nk⟩ R := by
  refine AOp.load ho hx ?_ hR
  have h1 := hp.ld 0 cs.length (by omega) (by omega)
  rw [List.drop_zero, List.take_length] at h1
  have h2 : aload H z (ptr n off sp) = some cs := by rw [← hz]; exact h1
  simp only [aloadVar, ht.a, ht.s, h2, Option.map_some, hv, Array.toArray_toList, ← ha]

/-! ### A loop that counts -/
theorem has_append {fr : Fr} {l l' : List (Nat × Value)} (h : Has fr l) (h' : Has fr l') : Has fr (l ++ l') := fun p hp => by
  rcases List.mem_append.1 hp with hp | hp
  · exact h p hp
  · exact h' p hp
theorem ACode.fresh {Nt : Nat} {Q : Exit → St → Prop} {c : Code} (h : (∀ m, nk ≤ m → H m = none) → ACode P NG Nt c Q ⟨fr, H, nk⟩) : ACode P NG Nt c Q ⟨fr, H, nk⟩ :=
  fun B w0 G a w hs hd => h (fun n hn => (hs.S.fresh n hn).1) B w0 G a w hs hd
/-- A round's end: what the next one begins with. -/
def NextR (i n nk : Nat) (lv : Nat → List (Nat × Value)) (lc : List (Nat × Value)) (Hi : Nat → Hp) (X : Nat → Prop) : St → Prop :=
  fun s' => i < n ∧ nk ≤ s'.k ∧ Has s'.fr (lv (i + 1)) ∧ Has s'.fr lc ∧ Sub (Hi (i + 1)) s'.H ∧ X (i + 1)
theorem thenA_n {K : St → Prop} {Q : Exit → St → Prop} {s : St} (h : K s) : thenA K Q .normal s := h
theorem NextR.mk {i n nk k' : Nat} {lv : Nat → List (Nat × Value)} {lc : List (Nat × Value)} {Hi : Nat → Hp} {X : Nat → Prop} {fr : Fr} {H' : Hp} (h1 : i < n) (h2 : nk ≤ k') (h3 : Has fr (lv (i + 1))) (h4 : Has fr lc) (h5 : Sub (Hi (i + 1)) H') (h6 : X (i + 1)) : NextR i n nk lv lc Hi X ⟨fr, H', k'⟩ :=
  ⟨h1, h2, h3, h4, h5, h6⟩
theorem ACode.count {Nt : Nat} {Q : Exit → St → Prop} {c : Code} (lv : Nat → List (Nat × Value)) (lc : List (Nat × Value)) (Hi : Nat → Hp) (n : Nat) (X : Nat → Prop) (h1 : Has fr (lv 0)) (h2 : Has fr lc) (hs : Sub (Hi 0) H) (hx : X 0)
    (h : ∀ i k' Hc, i ≤ n → nk ≤ k' → Sub (Hi i) Hc → (∀ m, k' ≤ m → Hc m = none) → X i → ACode P NG Nt c (thenA (NextR i n nk lv lc Hi X) Q) ⟨frL (lv i ++ lc), Hc, k'⟩) :
    ACode P NG Nt (.loop c) Q ⟨fr, H, nk⟩ := by
  refine ACode.loop (fun m s => ∃ i, i ≤ n ∧ m = n - i ∧ nk ≤ s.k ∧ Has s.fr (lv i ++ lc) ∧ Sub (Hi i) s.H ∧ X i) n ⟨0, Nat.zero_le _, rfl, Nat.le_refl _, has_append h1 h2, hs, hx⟩ ?_
  rintro m ⟨fr', Hc, k'⟩ ⟨i, hi, rfl, hk, hh, hsub, hx'⟩
  have := ACode.has hh (ACode.fresh fun hf => h i k' Hc hi hk hsub hf hx')
  refine this.mono ?_
  intro e s hq
  cases e with
  | normal =>
    obtain ⟨a1, a2, a3, a4, a5, a6⟩ := hq
    exact ⟨n - (i + 1), by omega, i + 1, a1, rfl, a2, has_append a3 a4, a5, a6⟩
  | _ => exact hq
/-- The heap of ahead of the loop stays. -/
theorem ACode.count0 {Nt : Nat} {Q : Exit → St → Prop} {c : Code} (lv : Nat → List (Nat × Value)) (lc : List (Nat × Value)) (n : Nat) (X : Nat → Prop) (h1 : Has fr (lv 0)) (h2 : Has fr lc) (hx : X 0)
    (h : ∀ i k' Hc, i ≤ n → nk ≤ k' → Sub H Hc → (∀ m, k' ≤ m → Hc m = none) → X i → ACode P NG Nt c (thenA (NextR i n nk lv lc (fun _ => H) X) Q) ⟨frL (lv i ++ lc), Hc, k'⟩) :
    ACode P NG Nt (.loop c) Q ⟨fr, H, nk⟩ :=
  ACode.count lv lc (fun _ => H) n X h1 h2 (sub_refl _) hx h
end
end Go.Ab

set_option linter.unusedVariables false
set_option linter.unusedSimpArgs false
namespace Go.Ab
open Go.RowKit

section
variable {NG B : Nat} {w0 w : World} {G : GMap} {H : Hp} {k : Nat}

end

section
variable {P : Program} {NG N B : Nat} {w0 : World} {s : St} {Q : Exit → St → Prop} {ops : Array Oper}

end
end Go.Ab

set_option linter.unusedVariables false
set_option linter.unusedSimpArgs false
namespace Go.Ab
open Go.RowKit

end Go.Ab

set_option linter.unusedVariables false
set_option linter.unusedSimpArgs false
namespace Go.Ab
open Go.RowKit

section
variable {P : Program} {NG N : Nat} {Q : Exit → St → Prop} {ops : Array Oper} {fr : Fr} {H : Hp} {nk : Nat}

end
end Go.Ab

set_option linter.unusedVariables false
set_option linter.unusedSimpArgs false
namespace Go.Ab
open Go.RowKit

section
variable {P : Program} {NG N : Nat} {Q : Exit → St → Prop} {ops : Array Oper} {fr : Fr} {H : Hp} {nk m : Nat} {nm : Nat → Nat} {W : List (List Nat × List Nat)} {Hb : Hp} {K : Fr → (Nat → Option Blk) → Nat → Prop} {n : Nat} {env : Fr} {ct : Nat → Option Blk} {o : Oper} {v : Value}

/-- Nil as a slice that grows. -/
theorem ACode.adopt {t : Nat} {c : Code} (e : TypeId) (sz : Nat) (hsz : 0 < sz) (ht : fr t = some (.slice none 0 0)) (h : ACode P NG N c Q ⟨upd fr t (some (.slice (some ⟨nk, 0, some 1⟩) 0 0)), upd H nk (some { cells := [], elem := e, kind := .grow, esz := sz }), nk + 1⟩) :
    ACode P NG N c Q ⟨fr, H, nk⟩ := by
  intro B w0 G a w hs hd
  obtain ⟨hS1, hK1⟩ := hs.S.adopt e sz hsz
  have hF : FRel (upd G nk (.rows sz [])) N (upd fr t (some (.slice (some ⟨nk, 0, some 1⟩) 0 0))) a.tmps := by
    refine ⟨hs.F.1, fun u v hu => ?_⟩
    by_cases hut : u = t
    · subst hut
      rw [upd_same] at hu
      injection hu with hu
      subst hu
      have := hs.F.2 u _ ht
      rw [this.plain_ rfl]
      exact .grow (upd_same _ _ _) (.inl ⟨rfl, rfl⟩)
    · rw [upd_other _ _ hut] at hu
      exact (hs.F.2 u v hu).mono hK1.le
  refine wp_mono (h B w0 _ a w ⟨hS1, hF⟩ hd) ?_
  rintro e' a' w' ⟨s', G', h1, h2, h3, h4⟩
  exact ⟨s', G', h1, h2, hK1.trans (fun n hn => (hs.S.fresh n hn).2) h3, h4⟩
end

theorem AOp.convU64 {P : Program} {NG : Nat} {fr : Fr} {H : Hp} {nk : Nat} {R : Value → Hp → Nat → Prop} {o : Oper} {t t' : TypeId} {x : Operand} {k : IntKind} {a : Nat} {d : TypeDesc} (ho : o.op = .convert t t' x) [DescInfo P t d] [hd : DescInfo P t' (.int .u64)] (hx : aeval NG fr x = some (.int k (a : Int))) (ha : a < 18446744073709551616) (hR : R (.int .u64 (a : Int)) H nk) : AOp P NG o ⟨fr, H, nk⟩ R :=
  AOp.convInt ho hx (by rw [show IntKind.u64.wrap (a : Int) = (a : Int) by rw [IntKind.wrap_u64]; omega]; exact hR)
theorem srcOf_grow {H : Hp} {n sz l : Nat} {b : Blk} (hn : H n = some b) (hz : b.esz = sz) (hl : l * sz = b.cells.length) : srcOf H sz (.slice (some ⟨n, 0, some 1⟩) l l) = some (l, b.cells) := by
  simp only [srcOf, slcCells]
  by_cases h0 : l = 0
  · rw [if_pos h0]
    subst h0
    have : b.cells = [] := List.length_eq_zero_iff.1 (by omega)
    rw [this]
    rfl
  · rw [if_neg h0]
    simp only [hn]
    rw [if_pos ⟨⟨hz, Nat.zero_mod _⟩, by omega⟩, List.drop_zero, hl, List.take_length]
    rfl
theorem srcOf_slc {H : Hp} {sz l c : Nat} {A : Option Addr} {cs : List Value} (h : slcCells H sz (.slice A l c) = some cs) : srcOf H sz (.slice A l c) = some (l, cs) := by
  simp only [srcOf, h]
  rfl
theorem slcCells_grow {H : Hp} {n sz l : Nat} {b : Blk} (hn : H n = some b) (hz : b.esz = sz) (hl : l * sz = b.cells.length) : slcCells H sz (.slice (some ⟨n, 0, some 1⟩) l l) = some b.cells := by
  have := srcOf_grow hn hz hl
  simp only [srcOf] at this
  obtain ⟨cs, h1, h2⟩ := Option.map_eq_some_iff.1 this
  injection h2 with _ h2
  rw [h1, h2]
theorem fill_ones : ∀ (vals : List Value) (k : Nat) (z0 : Array Value), (∀ v ∈ vals, v.cells = #[v]) → k + vals.length = z0.size →
    ∃ r, Instr.fill (fun i => some (i * 1, 1)) z0 ((vals.zipIdx k).map fun p => (p.2, p.1)) = some r ∧ r.toList = z0.toList.take k ++ vals
  | [], k, z0, _, hk => ⟨z0, rfl, by
      simp at hk
      rw [List.append_nil, hk, ← Array.length_toList, List.take_length]⟩
  | v :: vals, k, z0, h1, hk => by
    simp only [List.length_cons] at hk
    obtain ⟨r, h2, h3⟩ := fill_ones vals (k + 1) (z0.setIfInBounds k v) (fun u hu => h1 u (by simp [hu])) (by simp; omega)
    refine ⟨r, ?_, ?_⟩
    · rw [List.zipIdx_cons, List.map_cons, Instr.fill]
      simp only [h1 v (by simp)]
      rw [if_neg (by simp; omega)]
      simpa using h2
    · rw [h3]
      have hlt : k < z0.size := by omega
      have hl : k < z0.toList.length := by rw [Array.length_toList]; exact hlt
      have e : (z0.setIfInBounds k v).toList = z0.toList.take k ++ v :: z0.toList.drop (k + 1) := by
        rw [Array.toList_setIfInBounds, List.set_eq_take_append_cons_drop, if_pos hl]
      rw [e, List.take_append, List.take_take, Nat.min_eq_right (by omega), List.length_take, Nat.min_eq_left (by omega), show k + 1 - k = 1 by omega]
      simp
theorem AOp.buildG1 {P : Program} {NG : Nat} {fr : Fr} {H : Hp} {nk : Nat} {R : Value → Hp → Nat → Prop} {o : Oper} {t e : TypeId} {len : Nat} {ps : Array (Nat × Operand)} {z : Value} {vals : List Value} (ho : o.op = .buildSlice t len ps) [hf : SlInfo P t e 1] [hz : ZeroInfo P e z] (hb : len ≤ 16777216)
    (hx : aparts NG fr ps = some (vals.zipIdx.map fun p => (p.2, p.1))) (hl : vals.length = len) (h1 : ∀ v ∈ vals, v.cells = #[v])
    (hR : R (.slice (some ⟨nk, 0, some 1⟩) len len) (upd H nk (some { cells := vals, elem := e, kind := .grow, esz := 1 })) (nk + 1)) : AOp P NG o ⟨fr, H, nk⟩ R := by
  have hsz : (litZ z (len * 1)).size = len := by
    unfold litZ
    by_cases h0 : len * 1 = 0
    · rw [if_pos h0]; simp; omega
    · rw [if_neg h0]; simp
  obtain ⟨r, h2, h3⟩ := fill_ones vals 0 (litZ z (len * 1)) h1 (by rw [hsz]; omega)
  rw [List.take_zero, List.nil_append] at h3
  refine AOp.buildGr ho (by decide) (by omega) hx h2 (by rw [← Array.length_toList, h3]; omega) ?_
  rw [h3]
  exact hR
theorem byteCells_eq (s : ByteArray) : byteCells s = s.data.toList.map bv := rfl
theorem AOp.toBytes' {P : Program} {NG : Nat} {fr : Fr} {H : Hp} {nk : Nat} {R : Value → Hp → Nat → Prop} {o : Oper} {x : Operand} {t t' e : TypeId} {bs : ByteArray} (ho : o.op = .convert t t' x) [hd : DescInfo P t .string] [hs : SlInfo P t' e 1] [he : DescInfo P e (.int .u8)] (hx : aeval NG fr x = some (.string bs))
    (hR : R (.slice (some ⟨nk, 0, some 0⟩) bs.size bs.size) (upd H nk (some { cells := bs.data.toList.map bv, elem := e, kind := .fix })) (nk + 1)) : AOp P NG o ⟨fr, H, nk⟩ R :=
  AOp.toBytes ho hd.h (slB_inv hs.h).1 he.h hx (by rw [byteCells_eq]; exact hR)
/-- A whole number's lowest byte. -/
def byteI (x : Int) : UInt8 := UInt8.ofNat (x % 256).toNat
theorem bv_byteI (x : Int) : Value.int .u8 (IntKind.u8.wrap x) = bv (byteI x) := by
  have : ((byteI x).toNat : Int) = IntKind.u8.wrap x := by
    unfold byteI
    rw [UInt8.toNat_ofNat', IntKind.wrap_u8]
    omega
  simp only [bv, this]
theorem byteI_nat (v : Nat) : byteI (v : Int) = UInt8.ofNat v := by
  unfold byteI
  rw [← UInt8.toNat_inj, UInt8.toNat_ofNat', UInt8.toNat_ofNat']
  omega
theorem AOp.toU8 {P : Program} {NG : Nat} {fr : Fr} {H : Hp} {nk : Nat} {R : Value → Hp → Nat → Prop} {o : Oper} {t t' : TypeId} {x : Operand} {k : IntKind} {a : Int} {d : TypeDesc} (ho : o.op = .convert t t' x) [DescInfo P t d] [hd : DescInfo P t' (.int .u8)] (hx : aeval NG fr x = some (.int k a)) (hR : R (bv (byteI a)) H nk) : AOp P NG o ⟨fr, H, nk⟩ R :=
  AOp.convInt ho hx (by rw [bv_byteI]; exact hR)
theorem sub_same {A : Hp} {n : Nat} {x : Option Blk} (h : A n = x) : Sub (upd A n x) A := fun q b hq => by
  by_cases e : q = n
  · subst e
    rw [upd_same] at hq
    rw [h, hq]
  · rw [upd_other _ _ e] at hq
    exact hq
theorem sub_over {A B : Hp} {n : Nat} {x y : Option Blk} (h : Sub (upd A n y) B) : Sub (upd A n x) (upd B n x) := fun q b hq => by
  by_cases e : q = n
  · subst e
    rw [upd_same] at hq ⊢
    exact hq
  · rw [upd_other _ _ e] at hq ⊢
    exact h q b (by rw [upd_other _ _ e]; exact hq)
theorem sub_over_eq {A B : Hp} {n : Nat} {x x' y : Option Blk} (h : Sub (upd A n y) B) (e : x = x') : Sub (upd A n x) (upd B n x') := by
  subst e
  exact sub_over h
theorem stays_upd {A : Hp} {n : Nat} {b : Blk} : ∀ q c, A q = some c → ∃ c', upd A n (some b) q = some c' := fun q c hq => by
  by_cases e : q = n
  · subst e; exact ⟨b, upd_same _ _ _⟩
  · exact ⟨c, by rw [upd_other _ _ e]; exact hq⟩
theorem sub_drop {A B : Hp} {n : Nat} (h : Sub A B) : Sub (upd A n none) B := fun q b hq => by
  by_cases e : q = n
  · subst e; rw [upd_same] at hq; cases hq
  · rw [upd_other _ _ e] at hq; exact h q b hq
theorem sub_dropu {A B : Hp} {n : Nat} {x : Option Blk} (h : Sub A B) : Sub (upd A n none) (upd B n x) := fun q b hq => by
  by_cases e : q = n
  · subst e; rw [upd_same] at hq; cases hq
  · rw [upd_other _ _ e] at hq ⊢; exact h q b hq
theorem sub_over0 {A B : Hp} {n : Nat} {x : Option Blk} (h : Sub A B) : Sub (upd A n x) (upd B n x) := fun q b hq => by
  by_cases e : q = n
  · subst e
    rw [upd_same] at hq ⊢
    exact hq
  · rw [upd_other _ _ e] at hq ⊢
    exact h q b hq

/-- A contract's answer: a new slice that may grow. -/
def NewS (H : Hp) (k : Nat) (e : TypeId) (sz l : Nat) (cells : List Value) (v : Value) (H' : Hp) (k' : Nat) : Prop :=
  ∃ q, k ≤ q ∧ q < k' ∧ v = .slice (some ⟨q, 0, some 1⟩) l l ∧ H' = upd H q (some { cells := cells, elem := e, kind := .grow, esz := sz })
abbrev NewB (H : Hp) (k : Nat) (e : TypeId) (bs : List UInt8) : Value → Hp → Nat → Prop := NewS H k e 1 bs.length (bs.map bv)
end Go.Ab

set_option linter.unusedVariables false
set_option linter.unusedSimpArgs false
namespace Go.Ab
open Go.RowKit

/-- A block of bytes that may grow. -/
abbrev gbk (e : TypeId) (bs : List UInt8) : Blk := { cells := bs.map bv, elem := e, kind := .grow, esz := 1 }
abbrev gsl (n l : Nat) : Value := .slice (some ⟨n, 0, some 1⟩) l l

theorem slcCells_loose {H : Hp} {n sz l : Nat} {b : Blk} (hn : H n = some b) (hl : l * sz = b.cells.length) : slcCells H sz (.slice (some ⟨n, 0, some 0⟩) l l) = some b.cells := by
  simp only [slcCells]
  by_cases h0 : l = 0
  · rw [if_pos h0]
    subst h0
    rw [List.length_eq_zero_iff.1 (show b.cells.length = 0 by omega)]
  · rw [if_neg h0]
    simp only [hn]
    rw [if_pos (by omega), List.drop_zero, hl, List.take_length]
section
variable {P : Program} {NG : Nat} {fr : Fr} {H : Hp} {nk : Nat} {R : Value → Hp → Nat → Prop} {o : Oper}

theorem AOp.appendB {x y : Operand} {t tx e : TypeId} {bytes n : Nat} {bs ps : List UInt8} {yv : Value} (ho : o.op = .call { callee := .builtin .append, args := #[x, y], argTypes := #[t, tx] }) [he : ElemInfo P t e 1 bytes]
    (hx : aeval NG fr x = some (gsl n bs.length)) (hy : aeval NG fr y = some yv) (hn : H n = some (gbk e bs)) (hsrc : srcOf H 1 yv = some (ps.length, ps.map bv)) (ht : srcOk P tx yv = true)
    (hb : (bs.length + ps.length) * bytes ≤ 140737488355328) (h63 : bs.length + ps.length ≤ 9223372036854775807)
    (hR : R (gsl n (bs ++ ps).length) (upd H n (some (gbk e (bs ++ ps)))) nk) : AOp P NG o ⟨fr, H, nk⟩ R := by
  refine AOp.append' (b := gbk e bs) ho hx hy hn hsrc rfl rfl rfl (by simp) ht (bv_one ps) hb h63 ?_
  have e1 : ({ gbk e bs with cells := (gbk e bs).cells ++ ps.map bv } : Blk) = gbk e (bs ++ ps) := by simp
  rw [e1, ← List.length_append]
  exact hR

theorem AOp.buildB {t e : TypeId} {len : Nat} {ps : Array (Nat × Operand)} {z : Value} (bs : List UInt8) (ho : o.op = .buildSlice t len ps) [hf : SlInfo P t e 1] [hz : ZeroInfo P e z] (hb : len ≤ 16777216)
    (hx : aparts NG fr ps = some ((bs.map bv).zipIdx.map fun p => (p.2, p.1))) (hl : bs.length = len)
    (hR : R (gsl nk bs.length) (upd H nk (some (gbk e bs))) (nk + 1)) : AOp P NG o ⟨fr, H, nk⟩ R := by
  refine AOp.buildG1 (vals := bs.map bv) ho hb hx (by simpa using hl) (fun v hv => ?_) ?_
  · obtain ⟨c, _, rfl⟩ := List.mem_map.1 hv
    rfl
  · rw [← hl]
    exact hR
theorem srcOf_gb {n : Nat} {e : TypeId} {bs : List UInt8} (hn : H n = some (gbk e bs)) : srcOf H 1 (gsl n bs.length) = some (bs.length, bs.map bv) :=
  srcOf_grow hn rfl (by simp)
end
end Go.Ab

set_option linter.unusedVariables false
set_option linter.unusedSimpArgs false
namespace Go.Ab
open Go.RowKit

/-! ### What a slice shows, and that it can be cut -/
def SlcWf (H : Hp) (sz : Nat) : Value → Prop
  | .slice none 0 0 => True
  | .slice (some ⟨n, off, none⟩) l c => l ≤ c
  | .slice (some ⟨n, off, some 0⟩) l c => True
  | .slice (some ⟨n, off, some 1⟩) l c => ∃ b, H n = some b ∧ b.esz = sz
  | .slice (some ⟨n, off, some 2⟩) l c => ∃ b, H n = some b ∧ b.esz = sz
  | _ => False
/-- The slice shows just these cells. -/
structure SLC (H : Hp) (sz : Nat) (A : Option Addr) (l c : Nat) (cs : List Value) : Prop where
  cells : slcCells H sz (.slice A l c) = some cs
  wf : SlcWf H sz (.slice A l c)
theorem SlcWf.sub {H H' : Hp} {sz : Nat} {v : Value} (h : SlcWf H sz v) (hs : Sub H H') : SlcWf H' sz v := by
  unfold SlcWf at h ⊢
  split <;> simp_all
  · obtain ⟨b, h1, h2⟩ := h
    exact ⟨b, hs _ _ h1, h2⟩
  · obtain ⟨b, h1, h2⟩ := h
    exact ⟨b, hs _ _ h1, h2⟩
theorem SLC.sub {H H' : Hp} {sz l c : Nat} {A : Option Addr} {cs : List Value} (h : SLC H sz A l c cs) (hs : Sub H H') : SLC H' sz A l c cs := ⟨slcCells_sub hs h.cells, h.wf.sub hs⟩
theorem SLC.nil {H : Hp} {sz : Nat} : SLC H sz none 0 0 [] := ⟨rfl, trivial⟩

theorem take_drop_part {α : Type} (l : List α) (off len a b : Nat) (h : a + b ≤ len) : ((l.drop (off + a)).take b) = ((((l.drop off).take len).drop a).take b) := by
  rw [List.drop_take, List.drop_drop, List.take_take, Nat.min_eq_left (by omega)]

theorem SLC.cut {H : Hp} {sz len c0 : Nat} {A0 : Option Addr} {cs : List Value} (hS : SLC H sz A0 len c0 cs) (l h : Nat) (m : Option Nat) (h1 : l ≤ h) (h2 : h ≤ len) (hm : ∀ x, m = some x → h ≤ x ∧ x ≤ len) :
    ∃ A c, aslice H sz l h m (.slice A0 len c0) = some (.slice A (h - l) c) ∧ SLC H sz A (h - l) c ((cs.drop (l * sz)).take ((h - l) * sz)) := by
  obtain ⟨hc, hw⟩ := hS
  have e0 : l * sz + (h - l) * sz = h * sz := by rw [← Nat.add_mul]; congr 1; omega
  have e1 : h * sz ≤ len * sz := Nat.mul_le_mul_right _ h2
  have nilc : h - l = 0 → ((cs.drop (l * sz)).take ((h - l) * sz)) = [] := fun e => by rw [e, Nat.zero_mul, List.take_zero]
  unfold SlcWf at hw
  split at hw
  · rename_i he
    injection he with ha hb hd
    subst ha; subst hb; subst hd
    have : l = 0 := by omega
    subst this
    have : h = 0 := by omega
    subst this
    refine ⟨none, 0, ?_, ?_⟩
    · cases m with
      | none => simp [aslice]
      | some x =>
        have := hm x rfl
        simp [aslice]
        omega
    · rw [nilc rfl]
      exact SLC.nil
  · rename_i n off l' c' he
    injection he with ha hb hd
    subst ha; subst hb; subst hd
    have hmc : h ≤ m.getD c0 ∧ m.getD c0 ≤ c0 := by
      cases m with
      | none => simp; omega
      | some x => have := hm x rfl; simp; omega
    refine ⟨some ⟨n, if m.getD c0 = l then off else off + l * sz, none⟩, m.getD c0 - l, by simp only [aslice]; rw [if_pos ⟨h1, hmc.1, hmc.2⟩], ?_, by show h - l ≤ _; omega⟩
    by_cases hz : h - l = 0
    · rw [nilc hz]
      simp only [slcCells]
      rw [if_pos hz]
    · simp only [slcCells] at hc ⊢
      rw [if_neg (by omega)] at hc
      rw [if_neg hz, if_neg (by omega)]
      cases hn : H n with
      | none => simp [hn] at hc
      | some b =>
        simp only [hn] at hc ⊢
        split at hc
        · rename_i hle
          injection hc with hc
          subst hc
          rw [if_pos (by omega), take_drop_part _ _ (len * sz) _ _ (by omega)]
        · cases hc
  · rename_i n off l' c' he
    injection he with ha hb hd
    subst ha; subst hb; subst hd
    have key : ∀ (sp : Option Nat) (c : Nat), sp = none ∨ sp = some 0 → ¬ h - l = 0 → slcCells H sz (.slice (some ⟨n, off + l * sz, sp⟩) (h - l) c) = some ((cs.drop (l * sz)).take ((h - l) * sz)) := by
      intro sp c hsp hz
      simp only [slcCells] at hc
      rw [if_neg (by omega)] at hc
      cases hn : H n with
      | none => simp [hn] at hc
      | some b =>
        simp only [hn] at hc
        split at hc
        · rename_i hle
          injection hc with hc
          subst hc
          rcases hsp with rfl | rfl
          · simp only [slcCells]
            rw [if_neg hz, hn]
            simp only
            rw [if_pos (by omega), take_drop_part _ _ (len * sz) _ _ (by omega)]
          · simp only [slcCells]
            rw [if_neg hz, hn]
            simp only
            rw [if_pos (by omega), take_drop_part _ _ (len * sz) _ _ (by omega)]
        · cases hc
    cases m with
    | none =>
      refine ⟨some ⟨n, off + l * sz, some 0⟩, h - l, by simp only [aslice]; rw [if_pos ⟨h1, h2⟩], ?_, trivial⟩
      by_cases hz : h - l = 0
      · rw [nilc hz]
        simp only [slcCells]
        rw [if_pos hz]
      · exact key _ _ (.inr rfl) hz
    | some x =>
      obtain ⟨hx1, hx2⟩ := hm x rfl
      by_cases hlx : l < x
      · refine ⟨some ⟨n, off + l * sz, none⟩, x - l, by simp only [aslice]; rw [if_pos ⟨h1, hx1, hx2⟩, if_pos hlx], ?_, by show h - l ≤ _; omega⟩
        by_cases hz : h - l = 0
        · rw [nilc hz]
          simp only [slcCells]
          rw [if_pos hz]
        · exact key _ _ (.inl rfl) hz
      · have hz : h - l = 0 := by omega
        by_cases h0 : 0 < len
        · refine ⟨some ⟨n, off, none⟩, 0, by simp only [aslice]; rw [if_pos ⟨h1, hx1, hx2⟩, if_neg hlx, if_pos h0, hz], ?_, by show h - l ≤ _; omega⟩
          rw [nilc hz, hz]
          rfl
        · refine ⟨some ⟨n, off, some 0⟩, 0, by simp only [aslice]; rw [if_pos ⟨h1, hx1, hx2⟩, if_neg hlx, if_neg h0, hz], ?_, trivial⟩
          rw [nilc hz, hz]
          rfl
  all_goals first | exact hw.elim | skip
  all_goals
    rename_i n off l' c' he
    injection he with ha hb hd
    subst ha; subst hb; subst hd
    obtain ⟨b, hn, hz0⟩ := hw
    have hmc : h ≤ m.getD len ∧ m.getD len ≤ len := by
      cases m with
      | none => simp; omega
      | some x => have := hm x rfl; simp; omega
    refine ⟨some ⟨n, off + l * sz, some 2⟩, h - l, by simp only [aslice, hn]; rw [if_pos ⟨hz0, h1, hmc.1, hmc.2⟩], ?_, ⟨b, hn, hz0⟩⟩
    by_cases hz : h - l = 0
    · rw [nilc hz]
      simp only [slcCells]
      rw [if_pos hz]
    · simp only [slcCells] at hc ⊢
      rw [if_neg (by omega)] at hc
      rw [if_neg hz]
      simp only [hn] at hc ⊢
      split at hc
      · rename_i hle
        injection hc with hc
        subst hc
        rw [if_pos ⟨⟨hz0, by rw [Nat.add_mul_mod_self_right]; exact hle.1.2⟩, by omega⟩, take_drop_part _ _ (len * sz) _ _ (by omega)]
      · cases hc

theorem aslice_sub {H H' : Hp} (hs : Sub H H') {z l h : Nat} {m : Option Nat} {v q : Value} (hq : aslice H z l h m v = some q) : aslice H' z l h m v = some q := by
  unfold aslice at hq ⊢
  split <;> simp_all
  all_goals
    split at hq
    · rename_i b hn
      rw [hs _ _ hn]
      exact hq
    · cases hq

section
variable {P : Program} {NG : Nat} {fr : Fr} {H : Hp} {nk : Nat} {R : Value → Hp → Nat → Prop} {o : Oper}

def MxB (NG : Nat) (fr : Fr) (hi mx : Option Operand) (m : Option Nat) : Prop :=
  match mx, m with
  | none, none => True
  | some y, some n => hi ≠ none ∧ ∃ k, aeval NG fr y = some (.int k (n : Int))
  | _, _ => False
theorem mx_no {hi : Option Operand} : MxB NG fr hi none none := trivial
/-- A cut whose outcome is known. -/
theorem AOp.cutQ {t e : TypeId} {x : Operand} {lo hi mx : Option Operand} {z l h len c0 : Nat} {m : Option Nat} {A0 : Option Addr} {q : Value} (hq : aslice H z l h m (.slice A0 len c0) = some q) (ho : o.op = .slice t x lo hi mx) [hf : SlInfo P t e z] (hx : aeval NG fr x = some (.slice A0 len c0))
    (hlo : bnd NG fr lo 0 l) (hhi : bnd NG fr hi len h) (hmx : MxB NG fr hi mx m)
    (hR : R q H nk) : AOp P NG o ⟨fr, H, nk⟩ R :=
  AOp.slice ho hf.h hx hlo hhi (by cases mx <;> cases m <;> exact hmx) hq hR
theorem bnd_no {x : Option Operand} {d : Nat} (h : x = none) : bnd NG fr x d d := by subst h; rfl
theorem bnd_at {x : Option Operand} {y : Operand} {d n : Nat} {k : IntKind} (h : x = some y) (hy : aeval NG fr y = some (.int k (n : Int))) : bnd NG fr x d n := by subst h; exact ⟨k, _, hy, rfl⟩

/-- Two or three whole numbers: the least, the greatest. -/
theorem AOp.min2 {x y : Operand} {ts : Array TypeId} {k k' : IntKind} {a b : Int} (ho : o.op = .call { callee := .builtin .min, args := #[x, y], argTypes := ts }) (hx : aeval NG fr x = some (.int k a)) (hy : aeval NG fr y = some (.int k' b))
    (hR : R (.int k (min a b)) H nk) : AOp P NG o ⟨fr, H, nk⟩ R := by
  refine AOp.quiet _ hR fun N B w0 G ac w hs => ⟨_, ?_, .plain rfl⟩
  have hx' := (aeval_rel hs hx).int_
  have hy' := (aeval_rel hs hy).int_
  refine run_builtin ho ?_
  have e : (if b < a then b else a) = min a b := by
    split <;> omega
  simp [builtin, Builtin.min_, Builtin.min2, hx', hy', e]
theorem AOp.min3 {x y z : Operand} {ts : Array TypeId} {k k' k'' : IntKind} {a b c : Int} (ho : o.op = .call { callee := .builtin .min, args := #[x, y, z], argTypes := ts }) (hx : aeval NG fr x = some (.int k a)) (hy : aeval NG fr y = some (.int k' b)) (hz : aeval NG fr z = some (.int k'' c))
    (hR : R (.int k (min (min a b) c)) H nk) : AOp P NG o ⟨fr, H, nk⟩ R := by
  refine AOp.quiet _ hR fun N B w0 G ac w hs => ⟨_, ?_, .plain rfl⟩
  have hx' := (aeval_rel hs hx).int_
  have hy' := (aeval_rel hs hy).int_
  have hz' := (aeval_rel hs hz).int_
  refine run_builtin ho ?_
  have e : (if b < a then b else a) = min a b := by
    split <;> omega
  have e2 : (if c < min a b then c else min a b) = min (min a b) c := by
    split <;> omega
  simp [builtin, Builtin.min_, Builtin.min2, hx', hy', hz', e, e2]
theorem AOp.max3 {x y z : Operand} {ts : Array TypeId} {k k' k'' : IntKind} {a b c : Int} (ho : o.op = .call { callee := .builtin .max, args := #[x, y, z], argTypes := ts }) (hx : aeval NG fr x = some (.int k a)) (hy : aeval NG fr y = some (.int k' b)) (hz : aeval NG fr z = some (.int k'' c))
    (hR : R (.int k (max (max a b) c)) H nk) : AOp P NG o ⟨fr, H, nk⟩ R := by
  refine AOp.quiet _ hR fun N B w0 G ac w hs => ⟨_, ?_, .plain rfl⟩
  have hx' := (aeval_rel hs hx).int_
  have hy' := (aeval_rel hs hy).int_
  have hz' := (aeval_rel hs hz).int_
  refine run_builtin ho ?_
  have e : (if a < b then b else a) = max a b := by
    split <;> omega
  have e2 : (if max a b < c then c else max a b) = max (max a b) c := by
    split <;> omega
  simp [builtin, Builtin.max_, Builtin.max2, hx', hy', hz', e, e2]

/-- 'string(bytes)'. -/
theorem AOp.toStr {x : Operand} {t t' e : TypeId} {bs : List UInt8} {A : Option Addr} {l c : Nat} (hc : slcCells H 1 (.slice A l c) = some (bs.map bv)) (ho : o.op = .convert t t' x) [hf : SlInfo P t e 1] [he : DescInfo P e (.int .u8)] [hd : DescInfo P t' .string] (hx : aeval NG fr x = some (.slice A l c))
    (hR : R (.string ⟨bs.toArray⟩) H nk) : AOp P NG o ⟨fr, H, nk⟩ R := by
  refine AOp.quiet _ hR fun N B w0 G a w hs => ⟨_, ?_, .plain rfl⟩
  obtain ⟨hu, hz⟩ := slB_inv hf.h
  obtain ⟨A', l2, c2, e1, ⟨_, _, e2⟩, hl, hxx⟩ := slcCells_rel hs.S hc (aeval_rel hs hx)
  injection e2 with _ e2 _
  subst e2
  simp only [execOp, ho, e1]
  rw [Sem.run_bind, run_convert_bytes_string w t t' e A' l c2 hu he.h hd.h]
  have hlen : bs.length = l := by simpa using hl
  have hload : ∀ ad : Addr, A' = some ad → (∀ (j : Nat) (u : Value), (bs.map bv)[j]? = some u → w.cell? (ad.add j) = some u) → (Conv.bytesToString (.slice (some ad) l c2)).run P w = .ok (.string ⟨bs.toArray⟩) w := by
    intro ad _ hcell
    have h1 : (loadCells ad l).run P w = .ok ((bs.map fun b => (b.toNat : Int)).map (Value.int .u8)).toArray w := by
      have := run_loadCells_list (P := P) w ad (bs.map bv) hcell
      rw [List.length_map, hlen] at this
      rw [this, List.map_map]
      rfl
    rw [run_bytesToString w ad l c2 _ h1, foldl_push_bytes]
    have e : (bs.map fun b => (b.toNat : Int)).map (fun n => UInt8.ofNat n.toNat) = bs := by
      rw [List.map_map]
      conv => rhs; rw [← List.map_id bs]
      exact List.map_congr_left fun b _ => by simp
    rw [e]
    simp [ByteArray.empty, ByteArray.emptyWithCapacity]
    rfl
  rcases hxx with ⟨h0, h1⟩ | ⟨ad, cs', rfl, hpos, hl', hcell, hrel⟩
  · have : bs = [] := by simpa using h1
    subst this
    cases A' with
    | none => rfl
    | some ad =>
      rw [hload ad rfl (fun j u hu => by simp at hu)]
      rfl
  · rw [hload ad rfl (fun j u hu => by
      obtain ⟨u', h2, h3⟩ := hrel j u hu
      have hp : isPlain u = true := by
        obtain ⟨x, _, rfl⟩ := List.mem_map.1 (List.mem_of_getElem? hu)
        rfl
      rw [h3.plain_ hp] at h2
      exact hcell j u h2)]
    rfl
end

/-! ### 'append(x, make([]T, n)...)': the translation hands on the number -/
section
variable {P : Program} {NG : Nat} {fr : Fr} {H : Hp} {nk : Nat} {R : Value → Hp → Nat → Prop} {o : Oper}
end

end Go.Ab

set_option linter.unusedVariables false
set_option linter.unusedSimpArgs false
namespace Go.Ab
open Go.RowKit

section
variable {P : Program} {NG : Nat} {fr : Fr} {H : Hp} {nk : Nat} {R : Value → Hp → Nat → Prop} {o : Oper}

theorem sub_put {A B : Hp} {n : Nat} {x : Option Blk} (h : Sub A B) (hb : B n = x) : Sub (upd A n x) B := sub_trans (sub_over0 h) (sub_same hb)
/-! ### A loop that counts, whose rounds pick names -/
def NextG {γ : Type} (i n nk : Nat) (lv : Nat → γ → List (Nat × Value)) (lc : List (Nat × Value)) (Hi : Nat → γ → Hp) (X : Nat → γ → Prop) : St → Prop :=
  fun s' => i < n ∧ nk ≤ s'.k ∧ ∃ g, Has s'.fr (lv (i + 1) g) ∧ Has s'.fr lc ∧ Sub (Hi (i + 1) g) s'.H ∧ X (i + 1) g
theorem NextG.mk {γ : Type} {i n nk k' : Nat} {lv : Nat → γ → List (Nat × Value)} {lc : List (Nat × Value)} {Hi : Nat → γ → Hp} {X : Nat → γ → Prop} {fr : Fr} {H' : Hp} (h1 : i < n) (h2 : nk ≤ k') (g : γ) (h3 : Has fr (lv (i + 1) g)) (h4 : Has fr lc) (h5 : Sub (Hi (i + 1) g) H') (h6 : X (i + 1) g) : NextG i n nk lv lc Hi X ⟨fr, H', k'⟩ :=
  ⟨h1, h2, g, h3, h4, h5, h6⟩
theorem ACode.countG {γ : Type} {Nt : Nat} {Q : Exit → St → Prop} {c : Code} (lv : Nat → γ → List (Nat × Value)) (lc : List (Nat × Value)) (Hi : Nat → γ → Hp) (n : Nat) (X : Nat → γ → Prop) (g0 : γ) (h1 : Has fr (lv 0 g0)) (h2 : Has fr lc) (hs : Sub (Hi 0 g0) H) (hx : X 0 g0)
    (h : ∀ i g k' Hc, i ≤ n → nk ≤ k' → Sub (Hi i g) Hc → (∀ m, k' ≤ m → Hc m = none) → X i g → ACode P NG Nt c (thenA (NextG i n nk lv lc Hi X) Q) ⟨frL (lv i g ++ lc), Hc, k'⟩) :
    ACode P NG Nt (.loop c) Q ⟨fr, H, nk⟩ := by
  refine ACode.loop (fun m s => ∃ i g, i ≤ n ∧ m = n - i ∧ nk ≤ s.k ∧ Has s.fr (lv i g ++ lc) ∧ Sub (Hi i g) s.H ∧ X i g) n ⟨0, g0, Nat.zero_le _, rfl, Nat.le_refl _, has_append h1 h2, hs, hx⟩ ?_
  rintro m ⟨fr', Hc, k'⟩ ⟨i, g, hi, rfl, hk, hh, hsub, hx'⟩
  have := ACode.has hh (ACode.fresh fun hf => h i g k' Hc hi hk hsub hf hx')
  refine this.mono ?_
  intro e s hq
  cases e with
  | normal =>
    obtain ⟨a1, a2, g', a3, a4, a5, a6⟩ := hq
    exact ⟨n - (i + 1), by omega, i + 1, g', a1, rfl, a2, has_append a3 a4, a5, a6⟩
  | _ => exact hq

/-! ### Results -/
/-- A struct or an array, the whole of its block. -/
theorem aloadAll {t : TypeId} {n z : Nat} {b : Blk} {v : Value} [ht : TyInfo P t true z] (hn : H n = some b) (hb : b.cells = v.cells.toList) (hv : v = .agg v.cells) (hz : v.cells.size = z) : aloadVar P H t (ptr n 0 none) = some v := by
  have hl : b.cells.length = z := by rw [hb, Array.length_toList, hz]
  have h2 : aload H z (ptr n 0 none) = some b.cells := by
    simp only [aload, hcells, hn]
    rw [if_pos (by omega), List.drop_zero, ← hl, List.take_length]
  simp only [aloadVar, ht.a, ht.s, h2, Option.map_some]
  rw [hb, Array.toArray_toList, ← hv]
/-- One cell. -/
theorem aload1 {t : TypeId} {n z : Nat} {b : Blk} {v : Value} [ht : TyInfo P t false z] (hn : H n = some b) (hb : b.cells = [v]) : aloadVar P H t (ptr n 0 none) = some v := by
  have h2 : aload H 1 (ptr n 0 none) = some [v] := by
    simp only [aload, hcells, hn, hb]
    rfl
  simp only [aloadVar, ht.a, h2]
theorem RetQ.cell {fn : Func} {H H'' : Hp} {k t ty : Nat} {R : Value → Hp → Nat → Prop} {fr : Fr} {H' : Hp} {k' : Nat} {p v : Value} (hr : fn.results = #[.cell t ty]) (hp : fr t = some p) (hv : aloadVar P H' ty p = some v) (hs : Sub H'' H') (hst : ∀ n b, H n = some b → ∃ b', H'' n = some b') (hR : k ≤ k' → R v H'' k') :
    RetQ P fn H k R .ret ⟨fr, H', k'⟩ := by
  intro hk
  refine ⟨[v], H'', ?_, hs, hst, hR hk⟩
  rw [hr]
  simp [aresults, aresult, hp, hv]

/-! ### Cells that are a list's -/
theorem AOp.shrN {t t' : TypeId} {x y : Operand} {k k' : IntKind} {a : Int} {n : Nat} (ho : o.op = .binOp .shr t x y t') (hx : aeval NG fr x = some (.int k a)) (hy : aeval NG fr y = some (.int k' (n : Int))) (hR : R (.int k (a.fdiv (2 ^ (min ((n : Int)).toNat k.bits)))) H nk) : AOp P NG o ⟨fr, H, nk⟩ R :=
  AOp.bin' ho hx hy (by show (if (n : Int) < 0 then none else some _) = _; exact if_neg (by omega)) hR
theorem AOp.shlN {t t' : TypeId} {x y : Operand} {k k' : IntKind} {a : Int} {n : Nat} (ho : o.op = .binOp .shl t x y t') (hx : aeval NG fr x = some (.int k a)) (hy : aeval NG fr y = some (.int k' (n : Int))) (hR : R (.int k (k.wrap (a * 2 ^ (min ((n : Int)).toNat k.bits)))) H nk) : AOp P NG o ⟨fr, H, nk⟩ R :=
  AOp.bin' ho hx hy (by show (if (n : Int) < 0 then none else some _) = _; exact if_neg (by omega)) hR
theorem bv_ones (l : List UInt8) : ∀ v ∈ l.map bv, v.cells = #[v] := fun v hv => by
  obtain ⟨a, _, rfl⟩ := List.mem_map.1 hv
  rfl
/-- Where element i of a slice lies. -/
theorem slcElV {H : Hp} {i : Nat} {v : Value} {l : List Value} (h : slcCells H 1 v = some l) (hi : i < l.length) : ∃ n off sp, aslcAt H 1 i v = some (ptr n off sp) ∧ PAt H n off sp [l.getD i undef] := by
  obtain ⟨n, off, sp, h1, h2⟩ := slcEl1 (f := fun v => v) (l := l) (by rw [h, List.map_id']) hi
  refine ⟨n, off, sp, h1, ?_⟩
  rw [show l.getD i undef = l[i] by rw [List.getD_eq_getElem?_getD, List.getElem?_eq_getElem hi]; rfl]
  exact h2
/-- Where element i of a slice lies whose cells are a list's. -/
theorem slcElD {H : Hp} {i : Nat} {v : Value} {α : Type} (f : α → Value) {l : List α} (d : α) (h : slcCells H 1 v = some (l.map f)) (hi : i < l.length) :
    ∃ n off sp, aslcAt H 1 i v = some (ptr n off sp) ∧ PAt H n off sp [f (l.getD i d)] := by
  obtain ⟨n, off, sp, h1, h2⟩ := slcEl1 h hi
  refine ⟨n, off, sp, h1, ?_⟩
  rw [show l.getD i d = l[i] by rw [List.getD_eq_getElem?_getD, List.getElem?_eq_getElem hi]; rfl]
  exact h2
end

/-! ### Among arguments -/
section
variable {P : Program} {H : Hp} {t : TypeId} {cs : List Value}
theorem AD.SLC_invR {e : TypeId} {z : Nat} [ht : SlInfo P t e z] (h : AD P H (.one t) cs) : ∃ A l c cells, cs = [.slice A l c] ∧ SLC H z A l c cells ∧ cells.length = l * z ∧ l ≤ maxLen ∧ l * P.bytesOf e ≤ reachBytes ∧ AD P H (.many (List.replicate l e)) cells := by
  obtain ⟨hu, hs⟩ := slB_inv ht.h
  have hz := cellsOf_size hs
  cases h with
  | nilSlc ht' => exact ⟨none, 0, 0, [], rfl, SLC.nil, by simp, by simp, by simp, .nil⟩
  | @slc0 _ e' n c ht' hm => exact ⟨some ⟨n, 0, none⟩, 0, c, [], rfl, ⟨rfl, Nat.zero_le _⟩, by simp, by simp, by simp, .nil⟩
  | @slc _ e' n l c cells ht' hn hl h0 hc hm hr h' =>
    rw [hu] at ht'
    injection ht' with ht'
    injection ht' with ht'
    subst ht'
    rw [hz] at hl
    refine ⟨some ⟨n, 0, none⟩, l, c, cells, rfl, ⟨?_, hc⟩, hl, Nat.le_trans hc hm, hr, h'⟩
    simp only [slcCells, hn]
    rw [if_neg (by omega), if_pos (by omega), List.drop_zero, ← hl, List.take_length]
  | _ => simp_all
theorem AD.SLC_inv {e : TypeId} {z : Nat} [ht : SlInfo P t e z] (h : AD P H (.one t) cs) : ∃ A l c cells, cs = [.slice A l c] ∧ SLC H z A l c cells ∧ cells.length = l * z ∧ l ≤ maxLen ∧ AD P H (.many (List.replicate l e)) cells := by
  obtain ⟨A, l, c, cells, h1, h2, h3, h4, _, h5⟩ := h.SLC_invR
  exact ⟨A, l, c, cells, h1, h2, h3, h4, h5⟩
end
end Go.Ab

set_option linter.unusedVariables false
set_option linter.unusedSimpArgs false
namespace Go.Ab
open Go.RowKit

section
variable {P : Program} {NG : Nat} {fr : Fr} {H : Hp} {nk : Nat} {R : Value → Hp → Nat → Prop} {o : Oper} {ops : Array Oper}
/-! ### Guards whose outcome is known -/
theorem aOps_w {Q : St → Prop} {i t : Nat} {rest : List Nat} (ho : ops[i]? = some o) (hd : o.dst = some t) (hw : wantedA ops fr o = some true)
    (h : AOp P NG o ⟨fr, H, nk⟩ fun v H' k' => aOps P NG ops Q rest ⟨upd fr t (some v), H', k'⟩) : aOps P NG ops Q (i :: rest) ⟨fr, H, nk⟩ := by
  refine aOps_step ho hw ?_
  rw [hd]
  exact h
theorem aOps_wno {Q : St → Prop} {i t : Nat} {rest : List Nat} (ho : ops[i]? = some o) (hd : o.dst = some t) (hw : wantedA ops fr o = some false)
    (h : aOps P NG ops Q rest ⟨upd fr t (some undef), H, nk⟩) : aOps P NG ops Q (i :: rest) ⟨fr, H, nk⟩ := by
  refine aOps_skip ho hw ?_
  rw [hd]
  exact h

/-! ### Texts -/
/-- A slice's literal of elements of one cell, as a block of its own. -/
theorem AOp.buildF1 {t e : TypeId} {len : Nat} {ps : Array (Nat × Operand)} {z : Value} {vals : List Value} (ho : o.op = .buildSlice t len ps) [hf : SlInfo P t e 1] [hz : ZeroInfo P e z] (hb : len ≤ 16777216)
    (hx : aparts NG fr ps = some (vals.zipIdx.map fun p => (p.2, p.1))) (hl : vals.length = len) (h1 : ∀ v ∈ vals, v.cells = #[v])
    (hR : R (.slice (some ⟨nk, 0, none⟩) len len) (upd H nk (some { cells := vals, elem := e, kind := .fix })) (nk + 1)) : AOp P NG o ⟨fr, H, nk⟩ R := by
  have hz0 : (litZ z (len * 1)).size = len := by
    unfold litZ
    split
    · simp; omega
    · simp
  obtain ⟨r, h2, h3⟩ := fill_ones vals 0 (litZ z (len * 1)) h1 (by omega)
  refine AOp.buildSl (sz := 1) (cells := r) ho (by omega) hx h2 ?_
  rw [h3]
  exact hR
/-- A slice of the call's own. -/
theorem SLC.grow {H : Hp} {n sz l : Nat} {b : Blk} (hn : H n = some b) (hz : b.esz = sz) (hl : l * sz = b.cells.length) : SLC H sz (some ⟨n, 0, some 1⟩) l l b.cells := ⟨slcCells_grow hn hz hl, ⟨b, hn, hz⟩⟩
theorem SLC.gb {H : Hp} {n e : Nat} {bs : List UInt8} (hn : H n = some (gbk e bs)) : SLC H 1 (some ⟨n, 0, some 1⟩) bs.length bs.length (bs.map bv) := SLC.grow hn rfl (by simp)
/-! ### The bytes of a constant text -/
/-! ### Variables that hold tables -/
theorem sub_none (X : Hp) : Sub (fun _ => none) X := fun _ _ h => by cases h
end
end Go.Ab
