/- Abstract states over the model, parts 21 to 30: a logic of contracts over abstract heaps. No condition; over any program. -/
import Derived.Test.YteoofihjmldllaaDoorAb20
import Derived.Laws.MakeOwn
import Derived.Laws.BytesArg
import Derived.Lib.LaidTab
set_option linter.unusedVariables false
set_option linter.unusedSimpArgs false
namespace Go.Ab
open Go.RowKit

/-- A struct's fields' types. -/
class FieldTys (P : Program) (t : TypeId) (ts : outParam (List TypeId)) : Prop where
  h : (match P.underlying t with | some (.struct fs) => some (fs.toList.map (·.type)) | _ => none) = some ts
/-- An array's length and its elements' type. -/
class ArrTy (P : Program) (t : TypeId) (n : outParam Nat) (e : outParam TypeId) : Prop where
  h : P.underlying t = some (.array n e)

section
variable {P : Program} {H : Hp} {t : TypeId} {cs : List Value} {u : Value}

theorem AD.int_inv {k : IntKind} [ht : DescInfo P t (.int k)] (h : AD P H (.one t) cs) : ∃ n, cs = [.int k n] ∧ k.min ≤ n ∧ n ≤ k.max := by
  have hu := ht.h
  cases h with
  | @int _ k' n ht' hw =>
    rw [hu] at ht'
    injection ht' with e
    injection e with e
    subst e
    simp only [Lit.wf, Bool.and_eq_true, decide_eq_true_eq] at hw
    exact ⟨n, rfl, hw⟩
  | _ => simp_all
theorem AD.bool_inv [ht : DescInfo P t .bool] (h : AD P H (.one t) cs) : ∃ b, cs = [.bool b] := by
  have hu := ht.h
  cases h with
  | @bool _ b ht' => exact ⟨b, rfl⟩
  | _ => simp_all
theorem AD.str_invR [ht : DescInfo P t .string] (h : AD P H (.one t) cs) : ∃ s, cs = [.string s] ∧ s.size ≤ reachBytes := by
  have hu := ht.h
  cases h with
  | @str _ s ht' hw => exact ⟨s, rfl, hw⟩
  | _ => simp_all
theorem AD.struct_inv {ts : List TypeId} [ht : FieldTys P t ts] (h : AD P H (.one t) cs) : AD P H (.many ts) cs := by
  have hu := ht.h
  cases h with
  | struct ht' hl h' =>
    rw [ht'] at hu
    injection hu with hu
    rw [← hu]
    exact h'
  | _ => simp_all
theorem AD.array_inv {n : Nat} {e : TypeId} [ht : ArrTy P t n e] (h : AD P H (.one t) cs) : AD P H (.many (List.replicate n e)) cs := by
  have hu := ht.h
  cases h with
  | array ht' hl h' =>
    rw [ht'] at hu
    injection hu with hu
    injection hu with e1 e2
    subst e1; subst e2
    exact h'
  | _ => simp_all
theorem AD.nil_inv (h : AD P H (.many []) cs) : cs = [] := by
  cases h
  rfl
theorem AD.cons_inv {ts : List TypeId} (h : AD P H (.many (t :: ts)) cs) : ∃ a b, cs = a ++ b ∧ AD P H (.one t) a ∧ a.length = P.cellsOf t ∧ AD P H (.many ts) b := by
  cases h with
  | cons ha hl hb => exact ⟨_, _, rfl, ha, hl, hb⟩

theorem cellsOf_size {e : TypeId} {z : Nat} (h : sizeB P e = some z) : P.cellsOf e = z := by
  unfold sizeB at h
  unfold Program.cellsOf
  cases hi : P.info? e with
  | none => simp [hi] at h
  | some i =>
    simp [hi] at h
    simp [h]

theorem AD.byte_inv [ht : DescInfo P t (.int .u8)] (h : AD P H (.one t) cs) : ∃ c : UInt8, cs = [bv c] := by
  obtain ⟨n, rfl, h1, h2⟩ := h.int_inv
  have h1' : 0 ≤ n := h1
  have h2' : n ≤ 255 := h2
  refine ⟨UInt8.ofNat n.toNat, ?_⟩
  have : ((UInt8.ofNat n.toNat).toNat : Int) = n := by
    rw [UInt8.toNat_ofNat']
    omega
  simp only [bv]
  rw [this]
/-- Bytes. -/
theorem AD.bytes_inv [ht : DescInfo P t (.int .u8)] : ∀ {l : Nat} {cs : List Value}, AD P H (.many (List.replicate l t)) cs → ∃ bs : List UInt8, bs.length = l ∧ cs = bs.map bv
  | 0, cs, h => ⟨[], rfl, by rw [h.nil_inv]; rfl⟩
  | l + 1, cs, h => by
    rw [List.replicate_succ] at h
    obtain ⟨a, b, rfl, ha, hl, hb⟩ := h.cons_inv
    obtain ⟨c, rfl⟩ := ha.byte_inv
    obtain ⟨bs, h1, rfl⟩ := AD.bytes_inv hb
    exact ⟨c :: bs, by simp [h1], rfl⟩

/-! ### Arguments -/
theorem AVs.cons_inv {ts : List TypeId} {us : List Value} (h : AVs P H (t :: ts) us) : ∃ u r, us = u :: r ∧ AV P H t u ∧ AVs P H ts r := h
theorem AVs.nil_inv {us : List Value} (h : AVs P H [] us) : us = [] := h
theorem AV.plain {d : TypeDesc} [ht : DescInfo P t d] (hd : (∀ fs, d ≠ .struct fs) ∧ ∀ n e, d ≠ .array n e) (h : AV P H t u) : AD P H (.one t) [u] := by
  unfold AV at h
  rw [ht.h] at h
  split at h
  · rename_i fs hf
    exact absurd (Option.some.inj hf) (hd.1 _)
  · rename_i n e hf
    exact absurd (Option.some.inj hf) (hd.2 _ _)
  · exact h
theorem AV.struct {ts : List TypeId} [ht : FieldTys P t ts] (h : AV P H t u) : ∃ cs, u = .agg cs ∧ AD P H (.one t) cs.toList := by
  have hu := ht.h
  unfold AV at h
  split at h
  · exact h
  · rename_i hf
    simp [hf] at hu
  · split at hu
    · simp_all
    · cases hu
end
end Go.Ab

set_option linter.unusedVariables false
set_option linter.unusedSimpArgs false
namespace Go.Ab
open Go.RowKit

abbrev ptr (n off : Nat) (sp : Option Nat) : Value := .pointer (some ⟨n, off, sp⟩)

/-- Where cells lie that can be read, whole and in parts. -/
structure PAt (H : Hp) (n off : Nat) (sp : Option Nat) (cs : List Value) : Prop where
  add : ∀ d, d < cs.length → aptrAdd H d (ptr n off sp) = some (ptr n (off + d) sp)
  ld : ∀ d m, d + m ≤ cs.length → 0 < m → aload H m (ptr n (off + d) sp) = some ((cs.drop d).take m)

theorem aptrAdd_sub {H H' : Hp} (hs : Sub H H') {d : Nat} {v q : Value} (h : aptrAdd H d v = some q) : aptrAdd H' d v = some q := by
  unfold aptrAdd at h ⊢
  split at h
  · exact h
  · rename_i n off
    cases hn : H n with
    | none => simp [hn] at h
    | some b =>
      simp only [hn] at h
      simp only [hs n b hn]
      exact h
  · cases h
theorem hcells_sub {H H' : Hp} (hs : Sub H H') {n off z : Nat} {cs : List Value} (h : hcells H n off z = some cs) : hcells H' n off z = some cs := by
  unfold hcells at h ⊢
  cases hn : H n with
  | none => simp [hn] at h
  | some b =>
    simp only [hn] at h
    simp only [hs n b hn]
    exact h
theorem aload_sub {H H' : Hp} (hs : Sub H H') {z : Nat} {v : Value} {cs : List Value} (h : aload H z v = some cs) : aload H' z v = some cs := by
  unfold aload at h ⊢
  split at h
  · exact hcells_sub hs h
  · rename_i n off
    cases hn : H n with
    | none => simp [hn] at h
    | some b =>
      simp only [hn] at h
      simp only [hs n b hn]
      split at h
      · rename_i hc
        rw [if_pos hc]
        exact hcells_sub hs h
      · cases h
  · cases h
theorem PAt.sub {H H' : Hp} {n off : Nat} {sp : Option Nat} {cs : List Value} (h : PAt H n off sp cs) (hs : Sub H H') : PAt H' n off sp cs :=
  ⟨fun d hd => aptrAdd_sub hs (h.add d hd), fun d m hd hm => aload_sub hs (h.ld d m hd hm)⟩
theorem aslcAt_sub {H H' : Hp} (hs : Sub H H') {z i : Nat} {v q : Value} (h : aslcAt H z i v = some q) : aslcAt H' z i v = some q := by
  unfold aslcAt at h ⊢
  split at h
  · exact h
  · exact h
  · rename_i n off l c
    cases hn : H n with
    | none => simp [hn] at h
    | some b => simp only [hn] at h; simp only [hs n b hn]; exact h
  · rename_i n off l c
    cases hn : H n with
    | none => simp [hn] at h
    | some b => simp only [hn] at h; simp only [hs n b hn]; exact h
  · cases h
theorem slcCells_sub {H H' : Hp} (hs : Sub H H') {z : Nat} {v : Value} {cs : List Value} (h : slcCells H z v = some cs) : slcCells H' z v = some cs := by
  unfold slcCells at h ⊢
  split at h <;> first
    | exact h
    | (split at h
       · rename_i h0
         rw [if_pos h0]
         exact h
       · rename_i h0
         rw [if_neg h0]
         split at h
         · rename_i b hn
           simp only [hs _ b hn]
           exact h
         · cases h)
    | cases h

/-- An element of a slice: where it lies, its cells. -/
theorem slcPt {H : Hp} {sz i : Nat} {v : Value} {cs : List Value} (h : slcCells H sz v = some cs) (hi : (i + 1) * sz ≤ cs.length) (h0 : 0 < sz) :
    ∃ n off sp, aslcAt H sz i v = some (ptr n off sp) ∧ PAt H n off sp ((cs.drop (i * sz)).take sz) := by
  have hpos : 0 < cs.length := by
    have : 0 < (i + 1) * sz := Nat.mul_pos (by omega) h0
    omega
  have e1 : (i + 1) * sz = i * sz + sz := by rw [Nat.add_mul, Nat.one_mul]
  have hlen : ((cs.drop (i * sz)).take sz).length = sz := by rw [List.length_take, List.length_drop]; omega
  have main : ∀ (n off l : Nat) (b : Blk), H n = some b → off + l * sz ≤ b.cells.length → cs = (b.cells.drop off).take (l * sz) →
      i < l ∧ ∀ d m, d + m ≤ sz → hcells H n (off + i * sz + d) m = some ((((cs.drop (i * sz)).take sz).drop d).take m) := by
    intro n off l b hn hle hcs
    have hl : cs.length = l * sz := by rw [hcs, List.length_take, List.length_drop]; omega
    have hlt : i < l := by
      rcases Nat.lt_or_ge i l with h' | h'
      · exact h'
      · have := Nat.mul_le_mul_right sz h'
        omega
    refine ⟨hlt, fun d m hdm => ?_⟩
    have h2 : i * sz + sz ≤ l * sz := by omega
    simp only [hcells, hn]
    rw [if_pos (by omega), hcs]
    congr 1
    rw [List.drop_take, List.take_take, Nat.min_eq_left (show m ≤ sz - d by omega), List.drop_take, List.drop_take, List.take_take, Nat.min_eq_left (by omega), List.drop_drop, List.drop_drop]
    congr 2
    omega
  unfold slcCells at h
  split at h
  · injection h with h
    subst h
    simp at hpos
  · rename_i n off l c
    split at h
    · injection h with h
      subst h
      simp at hpos
    · cases hn : H n with
      | none => simp [hn] at h
      | some b =>
        simp only [hn] at h
        split at h
        · rename_i hle
          injection h with h
          obtain ⟨h1, h2⟩ := main n off l b hn hle h.symm
          refine ⟨n, off + i * sz, none, by simp only [aslcAt]; rw [if_pos h1], fun d hd => rfl, fun d m hd hm => ?_⟩
          rw [hlen] at hd
          exact h2 d m hd
        · cases h
  · rename_i n off l c
    split at h
    · injection h with h
      subst h
      simp at hpos
    · cases hn : H n with
      | none => simp [hn] at h
      | some b =>
        simp only [hn] at h
        split at h
        · rename_i hle
          injection h with h
          obtain ⟨h1, h2⟩ := main n off l b hn hle h.symm
          refine ⟨n, off + i * sz, none, by simp only [aslcAt]; rw [if_pos h1], fun d hd => rfl, fun d m hd hm => ?_⟩
          rw [hlen] at hd
          exact h2 d m hd
        · cases h
  · rename_i n off l c
    split at h
    · injection h with h
      subst h
      simp at hpos
    · cases hn : H n with
      | none => simp [hn] at h
      | some b =>
        simp only [hn] at h
        split at h
        · rename_i hle
          injection h with h
          obtain ⟨h1, h2⟩ := main n off l b hn hle.2 h.symm
          have hm : (off + i * sz) % b.esz = 0 := by rw [hle.1.1, Nat.add_mul_mod_self_right, hle.1.2]
          refine ⟨n, off + i * sz, some 1, by simp only [aslcAt, hn]; rw [if_pos ⟨h1, hle.1.1⟩], fun d hd => ?_, fun d m hd hm' => ?_⟩
          · rw [hlen] at hd
            simp only [aptrAdd, hn]
            rw [if_pos (by omega)]
          · rw [hlen] at hd
            simp only [aload, hn]
            have e : (off + i * sz + d) % b.esz = d := by
              rw [Nat.add_mod, hm, Nat.zero_add, Nat.mod_mod, Nat.mod_eq_of_lt (by omega)]
            rw [if_pos (by omega)]
            exact h2 d m hd
        · cases h
  · rename_i n off l c
    split at h
    · injection h with h
      subst h
      simp at hpos
    · cases hn : H n with
      | none => simp [hn] at h
      | some b =>
        simp only [hn] at h
        split at h
        · rename_i hle
          injection h with h
          obtain ⟨h1, h2⟩ := main n off l b hn hle.2 h.symm
          have hm : (off + i * sz) % b.esz = 0 := by rw [hle.1.1, Nat.add_mul_mod_self_right, hle.1.2]
          refine ⟨n, off + i * sz, some 1, by simp only [aslcAt, hn]; rw [if_pos ⟨h1, hle.1.1⟩], fun d hd => ?_, fun d m hd hm' => ?_⟩
          · rw [hlen] at hd
            simp only [aptrAdd, hn]
            rw [if_pos (by omega)]
          · rw [hlen] at hd
            simp only [aload, hn]
            have e : (off + i * sz + d) % b.esz = d := by
              rw [Nat.add_mod, hm, Nat.zero_add, Nat.mod_mod, Nat.mod_eq_of_lt (by omega)]
            rw [if_pos (by omega)]
            exact h2 d m hd
        · cases h
  · cases h

theorem flatMap_len {α : Type} {f : α → List Value} {z : Nat} (hz : ∀ a, (f a).length = z) (l : List α) : (l.flatMap f).length = l.length * z := by
  induction l with
  | nil => simp
  | cons a l ih => rw [List.flatMap_cons, List.length_append, hz, ih, List.length_cons, Nat.add_mul, Nat.one_mul, Nat.add_comm]
theorem flatMap_piece {α : Type} {f : α → List Value} {z : Nat} (hz : ∀ a, (f a).length = z) : ∀ (l : List α) (i : Nat) (hi : i < l.length), ((l.flatMap f).drop (i * z)).take z = f l[i]
  | a :: l, 0, _ => by
    rw [List.flatMap_cons, Nat.zero_mul, List.drop_zero, ← hz a]
    exact List.take_left
  | a :: l, i + 1, hi => by
    rw [List.flatMap_cons, Nat.add_mul, Nat.one_mul, Nat.add_comm, ← List.drop_drop]
    have : (f a ++ l.flatMap f).drop z = l.flatMap f := by rw [← hz a]; exact List.drop_left
    rw [this]
    exact flatMap_piece hz l i (by simpa using hi)

theorem slcEl {H : Hp} {z i : Nat} {v : Value} {α : Type} {f : α → List Value} {l : List α} (h : slcCells H z v = some (l.flatMap f)) (hz : ∀ a, (f a).length = z) (h0 : 0 < z) (hi : i < l.length) :
    ∃ n off sp, aslcAt H z i v = some (ptr n off sp) ∧ PAt H n off sp (f l[i]) := by
  obtain ⟨n, off, sp, h1, h2⟩ := slcPt h (i := i) (by rw [flatMap_len hz]; exact Nat.mul_le_mul_right z hi) h0
  rw [flatMap_piece hz l i hi] at h2
  exact ⟨n, off, sp, h1, h2⟩
/-- Of slices of one cell an element. -/
theorem slcEl1 {H : Hp} {i : Nat} {v : Value} {α : Type} {f : α → Value} {l : List α} (h : slcCells H 1 v = some (l.map f)) (hi : i < l.length) :
    ∃ n off sp, aslcAt H 1 i v = some (ptr n off sp) ∧ PAt H n off sp [f l[i]] := by
  obtain ⟨n, off, sp, h1, h2⟩ := slcPt h (i := i) (by simp; omega) (by decide)
  have : (((l.map f).drop (i * 1)).take 1) = [f l[i]] := by
    rw [Nat.mul_one, List.drop_eq_getElem_cons (by simpa using hi), List.take_succ_cons, List.take_zero]
    simp
  rw [this] at h2
  exact ⟨n, off, sp, h1, h2⟩

section
variable {P : Program} {NG : Nat} {fr : Fr} {H : Hp} {nk : Nat} {R : Value → Hp → Nat → Prop} {o : Oper}

theorem AOp.indexP {t e : TypeId} {x y : Operand} {z : Nat} {p q : Value} {i : Nat} {ik : IntKind} (hq : aslcAt H z i p = some q) (ho : o.op = .indexAddr t x y) [hf : SlInfo P t e z]
    (hx : aeval NG fr x = some p) (hy : aeval NG fr y = some (.int ik (i : Int))) (hR : R q H nk) : AOp P NG o ⟨fr, H, nk⟩ R :=
  AOp.indexAddr_slc' ho hx hy (Int.natCast_nonneg i) (by rw [Int.toNat_natCast]; exact hq) hR
theorem AOp.fieldP {t : TypeId} {x : Operand} {f off z n d : Nat} {sp : Option Nat} {agg : Bool} {cs : List Value} (hp : PAt H n d sp cs) (ho : o.op = .fieldAddr t x f) [hf : FieldInfo P t f off agg z] (hz0 : 0 < z) (hd : off < cs.length)
    (hx : aeval NG fr x = some (ptr n d sp)) (hR : R (ptr n (d + off) sp) H nk) : AOp P NG o ⟨fr, H, nk⟩ R :=
  AOp.fieldAddr ho hf.h hz0 hx (hp.add off hd) hR
theorem AOp.loadP1 {t : TypeId} {x : Operand} {n off d z : Nat} {sp : Option Nat} {cs : List Value} {v : Value} (hp : PAt H n off sp cs) (ho : o.op = .load t x) [ht : TyInfo P t false z] (hx : aeval NG fr x = some (ptr n (off + d) sp)) (hv : cs[d]? = some v) (hR : R v H nk) : AOp P NG o ⟨fr, H, nk⟩ R := by
  refine AOp.load ho hx ?_ hR
  have hlt := (List.getElem?_eq_some_iff.1 hv).1
  have : (cs.drop d).take 1 = [v] := by
    rw [List.drop_eq_getElem_cons hlt, List.take_succ_cons, List.take_zero]
    rw [List.getElem?_eq_getElem hlt] at hv
    injection hv with hv
    rw [hv]
  simp only [aloadVar, ht.a, hp.ld d 1 (by omega) (by omega), this]
theorem AOp.loadP0 {t : TypeId} {x : Operand} {n off z : Nat} {sp : Option Nat} {cs : List Value} {v : Value} (hp : PAt H n off sp cs) (ho : o.op = .load t x) [ht : TyInfo P t false z] (hx : aeval NG fr x = some (ptr n off sp)) (hv : cs[0]? = some v) (hR : R v H nk) : AOp P NG o ⟨fr, H, nk⟩ R :=
  AOp.loadP1 (d := 0) hp ho hx hv hR
theorem AOp.loadPA {t : TypeId} {x : Operand} {n off z : Nat} {sp : Option Nat} {cs : List Value} {v : Value} (hp : PAt H n off sp cs) (ho : o.op = .load t x) [ht : TyInfo P t true z] (hx : aeval NG fr x = some (ptr n off sp)) (hv : cs = v.cells.toList) (ha : v = .agg v.cells) (hz : cs.length = z) (h0 : 0 < z) (hR : R v H nk) : AOp P NG o ⟨fr, H, nk⟩ R := by
  refine AOp.load ho hx ?_ hR
  have h1 := hp.ld 0 cs.length (by omega) (by omega)
  rw [List.drop_zero, List.take_length] at h1
  have h2 : aload H z (ptr n off sp) = some cs := by rw [← hz]; exact h1
  simp only [aloadVar, ht.a, ht.s, h2, Option.map_some, hv, Array.toArray_toList, ← ha]

/-! ### A loop that counts -/
theorem has_append {fr : Fr} {l l' : List (Nat × Value)} (h : Has fr l) (h' : Has fr l') : Has fr (l ++ l') := fun p hp => by
  rcases List.mem_append.1 hp with hp | hp
  · exact h p hp
  · exact h' p hp
theorem ACode.fresh {Nt : Nat} {Q : Exit → St → Prop} {c : Code} (h : (∀ m, nk ≤ m → H m = none) → ACode P NG Nt c Q ⟨fr, H, nk⟩) : ACode P NG Nt c Q ⟨fr, H, nk⟩ :=
  fun B w0 G a w hs hd => h (fun n hn => (hs.S.fresh n hn).1) B w0 G a w hs hd
/-- A round's end: what the next one begins with. -/
def NextR (i n nk : Nat) (lv : Nat → List (Nat × Value)) (lc : List (Nat × Value)) (Hi : Nat → Hp) (X : Nat → Prop) : St → Prop :=
  fun s' => i < n ∧ nk ≤ s'.k ∧ Has s'.fr (lv (i + 1)) ∧ Has s'.fr lc ∧ Sub (Hi (i + 1)) s'.H ∧ X (i + 1)
theorem thenA_n {K : St → Prop} {Q : Exit → St → Prop} {s : St} (h : K s) : thenA K Q .normal s := h
theorem NextR.mk {i n nk k' : Nat} {lv : Nat → List (Nat × Value)} {lc : List (Nat × Value)} {Hi : Nat → Hp} {X : Nat → Prop} {fr : Fr} {H' : Hp} (h1 : i < n) (h2 : nk ≤ k') (h3 : Has fr (lv (i + 1))) (h4 : Has fr lc) (h5 : Sub (Hi (i + 1)) H') (h6 : X (i + 1)) : NextR i n nk lv lc Hi X ⟨fr, H', k'⟩ :=
  ⟨h1, h2, h3, h4, h5, h6⟩
theorem ACode.count {Nt : Nat} {Q : Exit → St → Prop} {c : Code} (lv : Nat → List (Nat × Value)) (lc : List (Nat × Value)) (Hi : Nat → Hp) (n : Nat) (X : Nat → Prop) (h1 : Has fr (lv 0)) (h2 : Has fr lc) (hs : Sub (Hi 0) H) (hx : X 0)
    (h : ∀ i k' Hc, i ≤ n → nk ≤ k' → Sub (Hi i) Hc → (∀ m, k' ≤ m → Hc m = none) → X i → ACode P NG Nt c (thenA (NextR i n nk lv lc Hi X) Q) ⟨frL (lv i ++ lc), Hc, k'⟩) :
    ACode P NG Nt (.loop c) Q ⟨fr, H, nk⟩ := by
  refine ACode.loop (fun m s => ∃ i, i ≤ n ∧ m = n - i ∧ nk ≤ s.k ∧ Has s.fr (lv i ++ lc) ∧ Sub (Hi i) s.H ∧ X i) n ⟨0, Nat.zero_le _, rfl, Nat.le_refl _, has_append h1 h2, hs, hx⟩ ?_
  rintro m ⟨fr', Hc, k'⟩ ⟨i, hi, rfl, hk, hh, hsub, hx'⟩
  have := ACode.has hh (ACode.fresh fun hf => h i k' Hc hi hk hsub hf hx')
  refine this.mono ?_
  intro e s hq
  cases e with
  | normal =>
    obtain ⟨a1, a2, a3, a4, a5, a6⟩ := hq
    exact ⟨n - (i + 1), by omega, i + 1, a1, rfl, a2, has_append a3 a4, a5, a6⟩
  | _ => exact hq
/-- The heap of ahead of the loop stays. -/
theorem ACode.count0 {Nt : Nat} {Q : Exit → St → Prop} {c : Code} (lv : Nat → List (Nat × Value)) (lc : List (Nat × Value)) (n : Nat) (X : Nat → Prop) (h1 : Has fr (lv 0)) (h2 : Has fr lc) (hx : X 0)
    (h : ∀ i k' Hc, i ≤ n → nk ≤ k' → Sub H Hc → (∀ m, k' ≤ m → Hc m = none) → X i → ACode P NG Nt c (thenA (NextR i n nk lv lc (fun _ => H) X) Q) ⟨frL (lv i ++ lc), Hc, k'⟩) :
    ACode P NG Nt (.loop c) Q ⟨fr, H, nk⟩ :=
  ACode.count lv lc (fun _ => H) n X h1 h2 (sub_refl _) hx h
end
end Go.Ab

set_option linter.unusedVariables false
set_option linter.unusedSimpArgs false
namespace Go.Ab
open Go.RowKit

section
variable {NG B : Nat} {w0 w : World} {G : GMap} {H : Hp} {k : Nat}

theorem SRel.raise {k2 : Nat} (h : SRel NG B w0 G H k w) (hk : k ≤ k2) : SRel NG B w0 G H k2 w :=
  ⟨h.below, h.base, h.glob, Nat.le_trans h.le hk, h.blk, h.sep, fun n hn => h.fresh n (Nat.le_trans hk hn)⟩
theorem SRel.free_none {n : Nat} (h : SRel NG B w0 G H k w) (hg : G n = .free) : H n = none := by
  cases hn : H n with
  | none => rfl
  | some b =>
    have hb := h.blk n b hn
    unfold BRel at hb
    rw [hg] at hb
    split at hb
    · obtain ⟨_, e, _⟩ := hb; cases e
    · obtain ⟨_, _, e, _⟩ := hb; cases e
    · obtain ⟨_, _, e, _⟩ := hb; cases e

/-- A block under another name. -/
theorem SRel.rename {n r : Nat} {b : Blk} (h : SRel NG B w0 G H k w) (hn : H n = some b) (hr : H r = none) (hg : G r = .free) (h1 : NG ≤ r) (h2 : r < k) :
    SRel NG B w0 (upd G r (G n)) (upd (upd H n none) r (some b)) k w := by
  have hnr : n ≠ r := fun e => by subst e; rw [hn] at hr; cases hr
  have hG : GLe G (upd G r (G n)) := fun q => by
    by_cases hq : q = r
    · subst hq; rw [hg]; trivial
    · rw [upd_other _ _ hq]; exact GB.le_refl _
  have at_ : ∀ q c, (upd (upd H n none) r (some b)) q = some c → (q = r ∧ c = b) ∨ (q ≠ r ∧ q ≠ n ∧ H q = some c) := by
    intro q c hq
    by_cases e : q = r
    · subst e; rw [upd_same] at hq; injection hq with hq; exact .inl ⟨rfl, hq.symm⟩
    · rw [upd_other _ _ e] at hq
      by_cases e' : q = n
      · subst e'; rw [upd_same] at hq; cases hq
      · rw [upd_other _ _ e'] at hq; exact .inr ⟨e, e', hq⟩
  refine ⟨h.below, h.base, fun g hg' => by rw [upd_other _ _ (by omega)]; exact h.glob g hg', h.le, ?_, ?_, ?_⟩
  · intro q c hq
    rcases at_ q c hq with ⟨rfl, rfl⟩ | ⟨e1, e2, e3⟩
    · rw [upd_same]
      exact (h.blk n c hn).keep hG (fun _ _ => rfl)
    · rw [upd_other _ _ e1]
      exact (h.blk q c e3).keep hG (fun _ _ => rfl)
  · intro q q' c c' hq hq' ho ho' hne x hx hx'
    rcases at_ q c hq with ⟨rfl, rfl⟩ | ⟨e1, e2, e3⟩
    · rcases at_ q' c' hq' with ⟨rfl, rfl⟩ | ⟨f1, f2, f3⟩
      · exact hne rfl
      · rw [upd_same] at hx
        rw [upd_other _ _ f1] at hx'
        exact h.sep n q' c c' hn f3 ho ho' (Ne.symm f2) x hx hx'
    · rcases at_ q' c' hq' with ⟨rfl, rfl⟩ | ⟨f1, f2, f3⟩
      · rw [upd_other _ _ e1] at hx
        rw [upd_same] at hx'
        exact h.sep q n c c' e3 hn ho ho' e2 x hx hx'
      · rw [upd_other _ _ e1] at hx
        rw [upd_other _ _ f1] at hx'
        exact h.sep q q' c c' e3 f3 ho ho' hne x hx hx'
  · intro q hq
    have hn' := name_lt h hn
    rw [upd_other _ _ (by omega), upd_other _ _ (by omega), upd_other _ _ (by omega)]
    exact h.fresh q hq

theorem Keep.rename {n r k0 : Nat} {b : Blk} {H0 : Hp} {G0 : GMap} {ws : World} (h : Keep H0 k0 G0 ws H k G w) (hn : H n = some b) (hr : H r = none) (hg : G r = .free) (h1 : k0 ≤ n) (h2 : k0 ≤ r) (hf : ∀ q, k0 ≤ q → H0 q = none ∧ G0 q = .free) :
    Keep H0 k0 G0 ws (upd (upd H n none) r (some b)) k (upd G r (G n)) w := by
  have old : ∀ q c, H0 q = some c → q < k0 := fun q c hq => by
    rcases Nat.lt_or_ge q k0 with hl | hl
    · exact hl
    · rw [(hf q hl).1] at hq; cases hq
  refine ⟨fun q => ?_, h.names, h.size, h.others, fun q hq hq0 => ?_, fun q hq hq0 => ?_, fun q x hx hlt => ?_, fun q c hq => ?_⟩
  · by_cases hqr : q = r
    · subst hqr
      rw [(hf q h2).2]
      trivial
    · rw [upd_other _ _ hqr]; exact h.le q
  · rw [upd_other _ _ (by omega)]; exact h.same q hq hq0
  · rw [upd_other _ _ (by omega), upd_other _ _ (by omega)]; exact h.dom q hq hq0
  · by_cases hqr : q = r
    · subst hqr
      rw [upd_same] at hx
      have := h.newer n x hx hlt
      rw [(hf n h1).2] at this
      cases this
    · rw [upd_other _ _ hqr] at hx; exact h.newer q x hx hlt
  · have := old q c hq
    rw [upd_other _ _ (by omega), upd_other _ _ (by omega)]
    exact h.stay q c hq
end

section
variable {P : Program} {NG N B : Nat} {w0 : World} {s : St} {Q : Exit → St → Prop} {ops : Array Oper}

/-- A region whose order is open; the invariant sees where the names lie; behind each operation the abstract state may be given another form that fits the world. -/
theorem ACode.region_drawG {id : Nat} (hm : P.follows .mixedOrders = true) (hd : dstsOk N ops = true) (kk : Nat) (hkk : s.k ≤ kk) (I : (Nat → Bool) → Fr → Hp → Nat → GMap → Prop)
    (h0 : ∀ G : GMap, (∀ n, s.k ≤ n → G n = .free ∧ s.H n = none) → I (fun _ => false) s.fr s.H kk G)
    (hstep : ∀ (i : Nat) (o : Oper) (X : Nat → Bool) (fr : Fr) (H : Hp) (k : Nat) (G : GMap), ops[i]? = some o → X i = false → (∀ e ∈ o.after, Region.binds .any e = true → X e.on = true) → I X fr H k G →
      stepA P NG ops o ⟨fr, H, k⟩ fun v H' k' => ∀ (B : Nat) (w0 w w' ws : World) (G' Gs : GMap) (v' : Value), VRel G' v v' → SRel NG B w0 G' H' k' w' → SRel NG B w0 G H k w → NG ≤ s.k → Keep H k G w H' k' G' w' → Keep s.H s.k Gs ws H k G w → (∀ n, s.k ≤ n → s.H n = none ∧ Gs n = .free) →
        ∃ v2 H2 G2, VRel G2 v2 v' ∧ SRel NG B w0 G2 H2 k' w' ∧ Keep s.H s.k Gs ws H2 k' G2 w' ∧ GLe G G2 ∧ I (upd X i true) (putA fr o.dst v2) H2 k' G2)
    (hend : ∀ (X : Nat → Bool) (fr : Fr) (H : Hp) (k : Nat) (G : GMap), (∀ i o, ops[i]? = some o → X i = false → ∃ e ∈ o.after, Region.binds .any e = true ∧ X e.on = false) → I X fr H k G → Q .normal ⟨fr, H, k⟩) : ACode P NG N (.region id ops true) Q s := by
  intro B w0 G a w hs hdf
  refine wp_region_any hm ?_
  have key : ∀ (fuel : Nat) (listed : Array Bool) (X : Nat → Bool) (s1 : St) (G1 : GMap) (a1 : Act) (w1 : World), listed.size = ops.size → (∀ i, i < ops.size → listed[i]? = some (X i)) → (∀ i, ops.size ≤ i → X i = false) → (List.range ops.size).countP (fun i => !X i) ≤ fuel →
      I X s1.fr s1.H s1.k G1 → StRel NG N B w0 G1 s1 a1 w1 → a1.defers = [] → Keep s.H s.k G w s1.H s1.k G1 w1 → wpAny P .any ops (Post NG N B w0 G s w Q) fuel listed a1 w1 := by
    intro fuel
    induction fuel with
    | zero =>
      intro listed X s1 G1 a1 w1 hsz hX hX0 hc hI hs1 hd1 hk
      have hall : ∀ i, i < ops.size → X i = true := by
        intro i hi
        have hz : (List.range ops.size).countP (fun i => !X i) = 0 := by omega
        rw [List.countP_eq_zero] at hz
        have := hz i (List.mem_range.2 hi)
        simpa using this
      refine ⟨?_, s1, G1, hend X s1.fr s1.H s1.k G1 (fun i o ho hx => ?_) hI, hs1, hk, hd1⟩
      · rw [List.eq_nil_iff_forall_not_mem]
        intro i hi
        rw [mem_ready] at hi
        obtain ⟨h1, o, ho, _⟩ := hi
        have hlt := (Array.getElem?_eq_some_iff.1 ho).1
        simp [Array.getD_eq_getD_getElem?, hX i hlt, hall i hlt] at h1
      · have hlt := (Array.getElem?_eq_some_iff.1 ho).1
        rw [hall i hlt] at hx
        cases hx
    | succ fuel ih =>
      intro listed X s1 G1 a1 w1 hsz hX hX0 hc hI hs1 hd1 hk
      refine ⟨fun hr => ⟨s1, G1, hend X s1.fr s1.H s1.k G1 (fun i o ho hx => ?_) hI, hs1, hk, hd1⟩, fun i hi => ?_⟩
      · -- nothing is ready
        apply Classical.byContradiction
        intro hno
        have hlt := (Array.getElem?_eq_some_iff.1 ho).1
        have : i ∈ Region.ready .any ops listed := by
          rw [mem_ready]
          refine ⟨by simp [Array.getD_eq_getD_getElem?, hX i hlt, hx], o, ho, fun e he hb => ?_⟩
          apply Classical.byContradiction
          intro hne
          refine hno ⟨e, he, hb, ?_⟩
          rcases Nat.lt_or_ge e.on ops.size with hl | hl
          · have h2 := hX e.on hl
            simp only [Array.getD_eq_getD_getElem?, h2, Option.getD_some] at hne
            simpa using hne
          · exact hX0 _ hl
        rw [hr] at this
        cases this
      · rw [mem_ready] at hi
        obtain ⟨h1, o, ho, hedges⟩ := hi
        have hlt := (Array.getElem?_eq_some_iff.1 ho).1
        have hxi : X i = false := by simpa [Array.getD_eq_getD_getElem?, hX i hlt] using h1
        have hst := hstep i o X s1.fr s1.H s1.k G1 ho hxi (fun e he hb => by
          have h2 := hedges e he hb
          rcases Nat.lt_or_ge e.on ops.size with hl | hl
          · simpa [Array.getD_eq_getD_getElem?, hX e.on hl] using h2
          · simp [Array.getD_eq_getD_getElem?, Array.getElem?_eq_none (show listed.size ≤ e.on by omega)] at h2) hI
        have hX' : ∀ j, j < ops.size → (listed.setIfInBounds i true)[j]? = some (upd X i true j) := by
          intro j hj
          by_cases hji : j = i
          · subst hji
            rw [upd_same, Array.getElem?_setIfInBounds_self, if_pos (by omega)]
          · rw [upd_other _ _ hji, Array.getElem?_setIfInBounds_ne (Ne.symm hji)]
            exact hX j hj
        have hc' : (List.range ops.size).countP (fun j => !(upd X i true j)) ≤ fuel := by
          have : (List.range ops.size).countP (fun j => !(upd X i true j)) < (List.range ops.size).countP (fun j => !X j) := by
            have hmem : i ∈ List.range ops.size := List.mem_range.2 hlt
            have gen : ∀ l : List Nat, i ∈ l → l.countP (fun j => !(upd X i true j)) < l.countP (fun j => !X j) := by
              intro l
              have le : ∀ l : List Nat, l.countP (fun j => !(upd X i true j)) ≤ l.countP (fun j => !X j) := by
                intro l
                apply List.countP_mono_left
                intro j _ hj
                by_cases hji : j = i
                · subst hji; simp at hj
                · rw [upd_other _ _ hji] at hj; exact hj
              induction l with
              | nil => intro h; cases h
              | cons q l ihl =>
                intro hq
                by_cases hqi : q = i
                · subst hqi
                  have := le l
                  simp only [List.countP_cons, upd_same, hxi]
                  simp
                  omega
                · have hl : i ∈ l := by
                    rcases List.mem_cons.1 hq with h | h
                    · exact absurd h.symm hqi
                    · exact h
                  have := ihl hl
                  simp only [List.countP_cons, upd_other _ _ hqi]
                  omega
            exact gen _ hmem
          omega
        have hX0' : ∀ j, ops.size ≤ j → upd X i true j = false := fun j hj => by rw [upd_other _ _ (by omega)]; exact hX0 j hj
        have hdo : ∀ t, o.dst = some t → t < N := by
          intro t ht
          have := (Array.all_eq_true_iff_forall_mem.1 hd) o (Array.mem_of_getElem? ho)
          rw [ht] at this
          simpa using this
        unfold wpOp
        simp only [ho]
        unfold stepA at hst
        cases hw : wantedA ops s1.fr o with
        | none => simp [hw] at hst
        | some b =>
          rw [wanted_rel hs1.F hw]
          cases b with
          | true =>
            simp only [hw] at hst
            simp only [if_true]
            refine .inl (hst N B w0 G1 a1 w1 hs1 _ _ fun v v' H' k' G' w' hR hv hS hK => ?_)
            obtain ⟨v2, H2, G2, e1, e2, e3, e4, e5⟩ := hR B w0 w1 w' _ G' G v' hv hS hs1.S hs.S.le hK hk (fun n hn => hs.S.fresh n hn)
            exact ih _ (upd X i true) ⟨putA s1.fr o.dst v2, H2, k'⟩ G2 _ w' (by simpa using hsz) hX' hX0' hc' e5 ⟨e2, put_rel (hs1.F.mono e4) hdo e1⟩ (by rw [put_defers]; exact hd1) e3
          | false =>
            simp only [hw] at hst
            simp only [Bool.false_eq_true, if_false]
            obtain ⟨v2, H2, G2, e1, e2, e3, e4, e5⟩ := hst B w0 w1 w1 _ G1 G undef undef_rel hs1.S hs1.S hs.S.le (Keep.refl _ _ _ _) hk (fun n hn => hs.S.fresh n hn)
            exact ih _ (upd X i true) ⟨putA s1.fr o.dst v2, H2, s1.k⟩ G2 _ w1 (by simpa using hsz) hX' hX0' hc' e5 ⟨e2, put_rel (hs1.F.mono e4) hdo e1⟩ (by rw [put_defers]; exact hd1) e3
  refine key ops.size (Array.replicate ops.size false) (fun _ => false) ⟨s.fr, s.H, kk⟩ G a { w with drawn := w.drawn + 1 } (by simp) (fun i hi => by simp [hi]) (fun _ _ => rfl) (by
    have := List.countP_le_length (p := fun i : Nat => !((fun _ : Nat => false) i)) (l := List.range ops.size)
    simp) (h0 G fun n hn => ⟨(hs.S.fresh n hn).2, (hs.S.fresh n hn).1⟩) ⟨hs.S.drew.raise hkk, hs.F⟩ hdf ⟨GLe.refl _, hkk, Nat.le_refl _, fun _ _ _ => rfl, fun _ _ _ => rfl, fun _ _ h => h, fun _ _ h _ => h, fun _ b h => ⟨b, h, rfl⟩⟩
end
end Go.Ab

set_option linter.unusedVariables false
set_option linter.unusedSimpArgs false
namespace Go.Ab
open Go.RowKit

/-- A code's name: the block that operation c makes; the old names behind. -/
def nmC (nk m : Nat) (bs : List Nat) (c : Nat) : Nat := if c < m then nk + c else bs.getD (c - m) 0

def setM (nm : Nat → Nat) : Hp → List (Nat × Option Blk) → Hp
  | H, [] => H
  | H, (c, b) :: l => setM nm (upd H (nm c) b) l
def setC : (Nat → Option Blk) → List (Nat × Option Blk) → (Nat → Option Blk)
  | ct, [] => ct
  | ct, (c, b) :: l => setC (upd ct c b) l

def Hof (nm : Nat → Nat) (C : List Nat) (H : Hp) (ct : Nat → Option Blk) : Hp := C.foldr (fun c X => upd X (nm c) (ct c)) H

theorem Hof_at {nm : Nat → Nat} {H : Hp} {ct : Nat → Option Blk} : ∀ {C : List Nat}, (C.map nm).Nodup → ∀ {c : Nat}, c ∈ C → Hof nm C H ct (nm c) = ct c
  | d :: C, hn, c, hc => by
    simp only [List.map_cons, List.nodup_cons] at hn
    show upd (Hof nm C H ct) (nm d) (ct d) (nm c) = ct c
    rcases List.mem_cons.1 hc with rfl | hc
    · exact upd_same _ _ _
    · rw [upd_other]
      · exact Hof_at hn.2 hc
      · exact fun e => hn.1 (by rw [← e]; exact List.mem_map.2 ⟨c, hc, rfl⟩)
theorem Hof_out {nm : Nat → Nat} {H : Hp} {ct : Nat → Option Blk} {n : Nat} : ∀ {C : List Nat}, n ∉ C.map nm → Hof nm C H ct n = H n
  | [], _ => rfl
  | d :: C, h => by
    simp only [List.map_cons, List.mem_cons, not_or] at h
    show upd (Hof nm C H ct) (nm d) (ct d) n = H n
    rw [upd_other _ _ h.1]
    exact Hof_out h.2
theorem Hof_set {nm : Nat → Nat} {H : Hp} {ct : Nat → Option Blk} {C : List Nat} (hn : (C.map nm).Nodup) {c : Nat} (hc : c ∈ C) (b : Option Blk) : Hof nm C H (upd ct c b) = upd (Hof nm C H ct) (nm c) b := by
  funext n
  by_cases h : n ∈ C.map nm
  · obtain ⟨d, hd, rfl⟩ := List.mem_map.1 h
    rw [Hof_at hn hd]
    by_cases e : d = c
    · subst e; rw [upd_same, upd_same]
    · rw [upd_other _ _ e, upd_other, Hof_at hn hd]
      intro e'
      have key : ∀ l : List Nat, (l.map nm).Nodup → d ∈ l → c ∈ l → d = c := by
        intro l
        induction l with
        | nil => intro _ h; cases h
        | cons q l ih =>
          intro hq h1 h2
          simp only [List.map_cons, List.nodup_cons] at hq
          rcases List.mem_cons.1 h1 with g1 | g1
          · rcases List.mem_cons.1 h2 with g2 | g2
            · rw [g1, g2]
            · exact absurd (List.mem_map.2 ⟨c, g2, by rw [← g1]; exact e'.symm⟩) hq.1
          · rcases List.mem_cons.1 h2 with g2 | g2
            · exact absurd (List.mem_map.2 ⟨d, g1, by rw [← g2]; exact e'⟩) hq.1
            · exact ih hq.2 g1 g2
      exact e (key C hn hd hc)
  · rw [Hof_out h, upd_other, Hof_out h]
    rintro rfl
    exact h (List.mem_map.2 ⟨c, hc, rfl⟩)
theorem Hof_setC {nm : Nat → Nat} {H : Hp} {C : List Nat} (hn : (C.map nm).Nodup) : ∀ (M : List (Nat × Option Blk)) (ct : Nat → Option Blk), (∀ p ∈ M, p.1 ∈ C) → Hof nm C H (setC ct M) = setM nm (Hof nm C H ct) M
  | [], ct, _ => rfl
  | (c, b) :: M, ct, h => by
    rw [setC, setM, Hof_setC hn M _ (fun p hp => h p (by simp [hp])), Hof_set hn (h (c, b) (by simp))]
theorem Hof_start {nm : Nat → Nat} {H : Hp} {C : List Nat} {ct : Nat → Option Blk} (hn : (C.map nm).Nodup) (h : ∀ c ∈ C, H (nm c) = ct c) : Hof nm C H ct = H := by
  funext n
  by_cases hx : n ∈ C.map nm
  · obtain ⟨d, hd, rfl⟩ := List.mem_map.1 hx
    rw [Hof_at hn hd, h d hd]
  · exact Hof_out hx

theorem setC_other {c : Nat} : ∀ (M : List (Nat × Option Blk)) (ct : Nat → Option Blk), (∀ p ∈ M, p.1 ≠ c) → setC ct M c = ct c
  | [], ct, _ => rfl
  | (d, b) :: M, ct, h => by
    rw [setC, setC_other M _ (fun p hp => h p (by simp [hp])), upd_other _ _ (Ne.symm (h (d, b) (by simp)))]
theorem setC_in {c : Nat} : ∀ (M : List (Nat × Option Blk)) (ct ct' : Nat → Option Blk), (∃ p ∈ M, p.1 = c) → setC ct M c = setC ct' M c
  | (d, b) :: M, ct, ct', h => by
    rw [setC, setC]
    by_cases hx : ∃ p ∈ M, p.1 = c
    · exact setC_in M _ _ hx
    · have hx' : ∀ p ∈ M, p.1 ≠ c := fun p hp e => hx ⟨p, hp, e⟩
      rw [setC_other M _ hx', setC_other M _ hx']
      obtain ⟨p, hp, rfl⟩ := h
      rcases List.mem_cons.1 hp with rfl | hp
      · rw [upd_same, upd_same]
      · exact absurd rfl (hx' p hp)

/-- The codes' contents with the operations of X done, the text's order. -/
def ctX (ct0 : Nat → Option Blk) (M : Nat → List (Nat × Option Blk)) (X : Nat → Bool) : Nat → Nat → Option Blk
  | 0 => ct0
  | i + 1 => if X i then setC (ctX ct0 M X i) (M i) else ctX ct0 M X i

theorem ctX_upto {ct0 : Nat → Option Blk} {M : Nat → List (Nat × Option Blk)} {X Y : Nat → Bool} {c : Nat} : ∀ (p : Nat), (∀ j, j < p → (∃ q ∈ M j, q.1 = c) → X j = Y j) → ctX ct0 M X p c = ctX ct0 M Y p c
  | 0, _ => rfl
  | p + 1, h => by
    have ih := ctX_upto (ct0 := ct0) (M := M) (X := X) (Y := Y) (c := c) p (fun j hj => h j (by omega))
    by_cases hx : ∃ q ∈ M p, q.1 = c
    · have e := h p (by omega) hx
      simp only [ctX, e]
      cases Y p with
      | true => exact setC_in _ _ _ hx
      | false => exact ih
    · have hx' : ∀ q ∈ M p, q.1 ≠ c := fun q hq e => hx ⟨q, hq, e⟩
      have a1 : ∀ Z : Nat → Bool, ctX ct0 M Z (p + 1) c = ctX ct0 M Z p c := by
        intro Z
        simp only [ctX]
        split
        · exact setC_other _ _ hx'
        · rfl
      rw [a1, a1, ih]
/-- From i on nothing of X touches c. -/
theorem ctX_from {ct0 : Nat → Option Blk} {M : Nat → List (Nat × Option Blk)} {X : Nat → Bool} {c i : Nat} : ∀ (p : Nat), (∀ j, i ≤ j → j < i + p → (∃ q ∈ M j, q.1 = c) → X j = false) → ctX ct0 M X (i + p) c = ctX ct0 M X i c
  | 0, _ => rfl
  | p + 1, h => by
    have ih := ctX_from (ct0 := ct0) (M := M) (X := X) (c := c) (i := i) p (fun j h1 h2 => h j h1 (by omega))
    show (if X (i + p) then setC (ctX ct0 M X (i + p)) (M (i + p)) else ctX ct0 M X (i + p)) c = _
    by_cases hx : ∃ q ∈ M (i + p), q.1 = c
    · rw [h (i + p) (by omega) (by omega) hx]
      exact ih
    · have hx' : ∀ q ∈ M (i + p), q.1 ≠ c := fun q hq e => hx ⟨q, hq, e⟩
      split
      · rw [setC_other _ _ hx', ih]
      · exact ih

/-- Operations that touch one code, one of them writing, are ordered. -/
def modsOk (ops : Array Oper) (m : Nat) (W : List (List Nat × List Nat)) (C : List Nat) : Bool :=
  let ms := ancMask ops ops.size
  (List.range m).all fun i => ((W.getD i ([], [])).1 ++ (W.getD i ([], [])).2).all (fun c => C.contains c) && (List.range i).all fun j =>
    let wi := W.getD i ([], []); let wj := W.getD j ([], [])
    !(wj.1.any (fun c => wi.1.contains c || wi.2.contains c) || wi.1.any (fun c => wj.2.contains c)) || anc ms i j

end Go.Ab

set_option linter.unusedVariables false
set_option linter.unusedSimpArgs false
namespace Go.Ab
open Go.RowKit

def RenOk (f : Nat → Value) : Prop := ∀ (G G2 : GMap) (n r : Nat) (x : Value), VRel G (f n) x → G2 r = G n → (∀ q, q ≠ r → G2 q = G q) → VRel G2 (f r) x

/-- What operation i leaves: its value, codes with new contents; or a block under a new name, as the code i will have it. -/
def OutM (nm : Nat → Nat) (i : Nat) (v : Value) (M : List (Nat × Option Blk)) (Hc : Hp) (k : Nat) (v' : Value) (H' : Hp) (k' : Nat) : Prop :=
  k ≤ k' ∧ ((v' = v ∧ H' = setM nm Hc M) ∨ ∃ (n : Nat) (f : Nat → Value) (b : Blk) (M' : List (Nat × Option Blk)), k ≤ n ∧ n < k' ∧ RenOk f ∧ v' = f n ∧ v = f (nm i) ∧ M = M' ++ [(i, some b)] ∧ H' = upd (setM nm Hc M') n (some b))

section
variable {P : Program} {NG N : Nat} {Q : Exit → St → Prop} {ops : Array Oper} {fr : Fr} {H : Hp} {nk : Nat}

def DrawM (P : Program) (NG : Nat) (ops : Array Oper) (fr : Fr) (nk m : Nat) (nm : Nat → Nat) (W : List (List Nat × List Nat)) (Hb : Hp) (K : Fr → (Nat → Option Blk) → Nat → Prop) : Nat → Fr → (Nat → Option Blk) → Prop
  | 0, env, ct => ∀ k, nk + m ≤ k → K env ct k
  | n + 1, env, ct => ∃ (o : Oper) (v : Value) (M : List (Nat × Option Blk)), ops[m - (n + 1)]? = some o ∧ M.map (·.1) = (W.getD (m - (n + 1)) ([], [])).1 ∧
      (∃ U, useOk ops (m - (n + 1)) U = true ∧ ∀ (Hc : Hp) (k : Nat), nk + m ≤ k → (∀ c, c ∈ (W.getD (m - (n + 1)) ([], [])).1 ++ (W.getD (m - (n + 1)) ([], [])).2 → Hc (nm c) = ct c) → Sub Hb Hc → (∀ q, k ≤ q → Hc q = none) →
        stepA P NG ops o ⟨useFr env fr U, Hc, k⟩ (OutM nm (m - (n + 1)) v M Hc k)) ∧
      DrawM P NG ops fr nk m nm W Hb K n (upd env (m - (n + 1)) (some v)) (setC ct M)

theorem ctX_congr {ct0 : Nat → Option Blk} {M M' : Nat → List (Nat × Option Blk)} {X : Nat → Bool} : ∀ (p : Nat), (∀ i, i < p → M i = M' i) → ctX ct0 M X p = ctX ct0 M' X p
  | 0, _ => rfl
  | p + 1, h => by
    simp only [ctX, ctX_congr p (fun i hi => h i (by omega)), h p (by omega)]

theorem drawM_values {m : Nat} {nm : Nat → Nat} {W : List (List Nat × List Nat)} {Hb : Hp} {K : Fr → (Nat → Option Blk) → Nat → Prop} {ct0 : Nat → Option Blk} : ∀ (n : Nat) (env : Fr) (ct : Nat → Option Blk) (M0 : Nat → List (Nat × Option Blk)), n ≤ m → (∀ j, m - n ≤ j → env j = none) → ct = ctX ct0 M0 (fun _ => true) (m - n) →
    DrawM P NG ops fr nk m nm W Hb K n env ct →
    ∃ (all : Fr) (M : Nat → List (Nat × Option Blk)), (∀ i, i < m - n → all i = env i ∧ M i = M0 i) ∧ (∀ k, nk + m ≤ k → K all (ctX ct0 M (fun _ => true) m) k) ∧
      ∀ i, m - n ≤ i → i < m → ∃ o v, ops[i]? = some o ∧ all i = some v ∧ (M i).map (·.1) = (W.getD i ([], [])).1 ∧ ∃ U, useOk ops i U = true ∧ ∀ (Hc : Hp) (k : Nat), nk + m ≤ k →
        (∀ c, c ∈ (W.getD i ([], [])).1 ++ (W.getD i ([], [])).2 → Hc (nm c) = ctX ct0 M (fun _ => true) i c) → Sub Hb Hc → (∀ q, k ≤ q → Hc q = none) →
        stepA P NG ops o ⟨useFr (fun j => if j < i then all j else none) fr U, Hc, k⟩ (OutM nm i v (M i) Hc k)
  | 0, env, ct, M0, _, hl, hct, h => ⟨env, M0, fun _ _ => ⟨rfl, rfl⟩, fun k hk => by
      have := h k hk
      rw [hct] at this
      exact this, fun i h1 h2 => by omega⟩
  | n + 1, env, ct, M0, hn, hl, hct, h => by
    obtain ⟨o, v, M1, ho, hM1, ⟨U, hU, hst⟩, hr⟩ := h
    have e1 : ctX ct0 (fun j => if j = m - (n + 1) then M1 else M0 j) (fun _ => true) (m - (n + 1)) = ct := by
      rw [hct]
      exact ctX_congr _ (fun i hi => if_neg (show ¬ i = m - (n + 1) by omega))
    obtain ⟨all, M, h2, h3, h4⟩ := drawM_values n (upd env (m - (n + 1)) (some v)) (setC ct M1) (fun j => if j = m - (n + 1) then M1 else M0 j) (by omega) (fun j hj => by
      rw [upd_other _ _ (by omega)]
      exact hl j (by omega)) (by
        rw [show m - n = (m - (n + 1)) + 1 by omega]
        show setC ct M1 = if true = true then setC (ctX ct0 (fun j => if j = m - (n + 1) then M1 else M0 j) (fun _ => true) (m - (n + 1))) (if m - (n + 1) = m - (n + 1) then M1 else M0 (m - (n + 1))) else _
        rw [if_pos rfl, if_pos rfl, e1]) hr
    have hMi : ∀ i, i < m - (n + 1) → M i = M0 i := fun i hi => by
      rw [(h2 i (by omega)).2]
      exact if_neg (show ¬ i = m - (n + 1) by omega)
    have hMm : M (m - (n + 1)) = M1 := by
      rw [(h2 _ (by omega)).2]
      exact if_pos rfl
    refine ⟨all, M, fun i hi => ⟨?_, hMi i hi⟩, h3, fun i hi1 hi2 => ?_⟩
    · rw [(h2 i (by omega)).1, upd_other _ _ (by omega)]
    · rcases Nat.lt_or_ge i (m - n) with hlt | hge
      · have e : i = m - (n + 1) := by omega
        subst e
        refine ⟨o, v, ho, ?_, by rw [hMm]; exact hM1, U, hU, fun Hc k hk hc hs hf => ?_⟩
        · rw [(h2 _ (by omega)).1, upd_same]
        · have e2 : (fun j => if j < m - (n + 1) then all j else none) = env := by
            funext j
            by_cases hj : j < m - (n + 1)
            · rw [if_pos hj, (h2 j (by omega)).1, upd_other _ _ (by omega)]
            · rw [if_neg hj, hl j (by omega)]
          rw [e2, hMm]
          refine hst Hc k hk (fun c hc' => ?_) hs hf
          rw [hc c hc', hct, ctX_congr (m - (n + 1)) hMi]
      · exact h4 i hge hi2

theorem setM_append {nm : Nat → Nat} : ∀ (M M' : List (Nat × Option Blk)) (X : Hp), setM nm X (M ++ M') = setM nm (setM nm X M) M'
  | [], _, _ => rfl
  | (c, b) :: M, M', X => by
    rw [List.cons_append, setM, setM, setM_append M M']
theorem setM_out {nm : Nat → Nat} {n : Nat} : ∀ (M : List (Nat × Option Blk)) (X : Hp), (∀ p ∈ M, nm p.1 ≠ n) → setM nm X M n = X n
  | [], _, _ => rfl
  | (c, b) :: M, X, h => by
    rw [setM, setM_out M _ (fun p hp => h p (by simp [hp])), upd_other _ _ (Ne.symm (h (c, b) (by simp)))]

theorem ACode.drawM {id : Nat} (m : Nat) (L : List (Nat × Nat)) (bs C : List Nat) (W : List (List Nat × List Nat)) (ct0 : Nat → Option Blk) (Hb : Hp) (hm : P.follows .mixedOrders = true) (hok : drawOk N ops m L = true) (hW : modsOk ops m W C = true)
    (hnd : (C.map (nmC nk m bs)).Nodup) (hbs : ∀ b ∈ bs, b < nk) (hct : ∀ c ∈ C, H (nmC nk m bs c) = ct0 c) (hHb : ∀ n b, Hb n = some b → H n = some b ∧ n ∉ C.map (nmC nk m bs))
    (h : DrawM P NG ops fr nk m (nmC nk m bs) W Hb (fun env ct k => aOps P NG ops (Q .normal) (List.range' m (ops.size - m)) ⟨puts fr (L.map fun p => (p.2, (env p.1).getD undef)), Hof (nmC nk m bs) C H ct, k⟩) m (fun _ => none) ct0) :
    ACode P NG N (.region id ops true) Q ⟨fr, H, nk⟩ := by
  unfold drawOk at hok
  simp only [Bool.and_eq_true, decide_eq_true_eq] at hok
  obtain ⟨⟨⟨⟨⟨hd, hmn⟩, ht⟩, hbk⟩, hL⟩, hnd2⟩ := hok
  obtain ⟨all, M, _, hK, hall⟩ := drawM_values (ct0 := ct0) m (fun _ => none) ct0 (fun _ => []) (Nat.le_refl _) (fun _ _ => rfl) (by rw [Nat.sub_self]; rfl) h
  have hms : ∀ i j, i < m → j < i → (∃ c, (c ∈ (W.getD j ([], [])).1 ∧ (c ∈ (W.getD i ([], [])).1 ∨ c ∈ (W.getD i ([], [])).2)) ∨ (c ∈ (W.getD i ([], [])).1 ∧ c ∈ (W.getD j ([], [])).2)) → anc (ancMask ops ops.size) i j = true := by
    intro i j hi hj hc
    unfold modsOk at hW
    simp only [List.all_eq_true, Bool.and_eq_true] at hW
    have h1 := (hW i (List.mem_range.2 hi)).2 j (List.mem_range.2 hj)
    rw [Bool.or_eq_true] at h1
    rcases h1 with h1 | h1
    · exfalso
      rw [Bool.not_eq_true', Bool.or_eq_false_iff] at h1
      obtain ⟨c, hc | hc⟩ := hc
      · have := List.any_eq_false.1 h1.1 c hc.1
        simp only [Bool.or_eq_true, List.contains_iff_mem, not_or] at this
        exact hc.2.elim this.1 this.2
      · have := List.any_eq_false.1 h1.2 c hc.1
        simp only [List.contains_iff_mem] at this
        exact this hc.2
    · exact h1
  have hCW : ∀ i, i < m → ∀ c, c ∈ (W.getD i ([], [])).1 ++ (W.getD i ([], [])).2 → c ∈ C := by
    intro i hi c hc
    unfold modsOk at hW
    simp only [List.all_eq_true, Bool.and_eq_true] at hW
    have h1 := (hW i (List.mem_range.2 hi)).1 c hc
    simpa using h1
  have hMW : ∀ i, i < m → (M i).map (·.1) = (W.getD i ([], [])).1 := fun i hi => by
    obtain ⟨_, _, _, _, e, _⟩ := hall i (by omega) hi
    exact e
  have hMc : ∀ i, i < m → ∀ c, (∃ q ∈ M i, q.1 = c) → c ∈ (W.getD i ([], [])).1 := fun i hi c ⟨q, hq, e⟩ => by
    rw [← hMW i hi]
    exact List.mem_map.2 ⟨q, hq, e⟩
  have hnm : ∀ c, 0 < m → nmC nk m bs c < nk + m := by
    intro c h0
    unfold nmC
    split
    · omega
    · rw [List.getD_eq_getElem?_getD]
      cases hg : bs[c - m]? with
      | none => simp; omega
      | some b =>
        have := hbs b (List.mem_of_getElem? hg)
        simp
        omega
  have hX1 : ∀ (X : Nat → Bool) (i : Nat), Closed ops X → i < m → X i = false → (∀ q, edgeOn ops i q = true → X q = true) → ∀ c, c ∈ (W.getD i ([], [])).1 ++ (W.getD i ([], [])).2 → ctX ct0 M X m c = ctX ct0 M (fun _ => true) i c := by
    intro X i hcl hi hxi hed c hc
    have hlater : ∀ j, i ≤ j → j < m → (∃ q ∈ M j, q.1 = c) → X j = false := by
      intro j h1 h2 hj
      rcases Nat.lt_or_ge i j with hlt | hge
      · cases hxj : X j with
        | false => rfl
        | true =>
          have := anc_sound hcl hbk j j i (Nat.le_refl _) (by omega) (hms j i h2 hlt (by
            have hcj := hMc j h2 c hj
            rcases List.mem_append.1 hc with hc | hc
            · exact ⟨c, .inl ⟨hc, .inl hcj⟩⟩
            · exact ⟨c, .inr ⟨hcj, hc⟩⟩)) (fun q hq => hcl j q hxj hq)
          rw [this] at hxi
          cases hxi
      · have : j = i := by omega
        subst this
        exact hxi
    have e1 := ctX_from (ct0 := ct0) (M := M) (X := X) (c := c) (i := i) (m - i) (fun j h1 h2 h3 => hlater j h1 (by omega) h3)
    rw [show i + (m - i) = m by omega] at e1
    rw [e1]
    refine ctX_upto i fun j hj hq => ?_
    refine anc_sound hcl hbk i i j (Nat.le_refl _) (by omega) (hms i j hi hj ⟨c, .inl ⟨hMc j (by omega) c hq, by
      rcases List.mem_append.1 hc with hc | hc
      · exact .inl hc
      · exact .inr hc⟩⟩) hed
  have hX2 : ∀ (X : Nat → Bool) (i : Nat), Closed ops X → i < m → X i = false → ctX ct0 M (upd X i true) m = setC (ctX ct0 M X m) (M i) := by
    intro X i hcl hi hxi
    funext c
    by_cases hc : ∃ q ∈ M i, q.1 = c
    · have hlater : ∀ Y : Nat → Bool, (∀ j, j ≠ i → Y j = X j) → ∀ j, i + 1 ≤ j → j < (i + 1) + (m - (i + 1)) → (∃ q ∈ M j, q.1 = c) → Y j = false := by
        intro Y hY j h1 h2 hj
        rw [hY j (by omega)]
        cases hxj : X j with
        | false => rfl
        | true =>
          have := anc_sound hcl hbk j j i (Nat.le_refl _) (by omega) (hms j i (by omega) (by omega) ⟨c, .inl ⟨hMc i hi c hc, .inl (hMc j (by omega) c hj)⟩⟩) (fun q hq => hcl j q hxj hq)
          rw [this] at hxi
          cases hxi
      have e1 := ctX_from (ct0 := ct0) (M := M) (X := upd X i true) (c := c) (i := i + 1) (m - (i + 1)) (hlater _ fun j hj => upd_other _ _ hj)
      rw [show i + 1 + (m - (i + 1)) = m by omega] at e1
      rw [e1]
      show (if upd X i true i then setC (ctX ct0 M (upd X i true) i) (M i) else _) c = _
      rw [upd_same, if_pos rfl]
      exact setC_in _ _ _ hc
    · have hc' : ∀ q ∈ M i, q.1 ≠ c := fun q hq e => hc ⟨q, hq, e⟩
      rw [setC_other _ _ hc']
      refine ctX_upto m fun j hj hq => ?_
      by_cases hji : j = i
      · subst hji; exact absurd hq hc
      · exact upd_other _ _ hji
  have htail : ∀ i j, m ≤ i → i < ops.size → j < i → anc (ancMask ops ops.size) i j = true := by
    intro i j h1 h2 h3
    unfold tailOk at ht
    rw [List.all_eq_true] at ht
    have := ht i (List.mem_range.2 h2)
    simp only [Bool.or_eq_true, decide_eq_true_eq, List.all_eq_true] at this
    rcases this with h | h
    · omega
    · exact h j (List.mem_range.2 h3)
  have frame : ∀ (X : Nat → Bool) (fr' : Fr), (∀ i, i < m → X i = true) → (∀ i, m ≤ i → X i = false) →
      (∀ i o t, ops[i]? = some o → o.dst = some t → X i = true → fr' t = all i) → (∀ t, (∀ j oj, ops[j]? = some oj → oj.dst = some t → X j = false) → fr' t = fr t) →
      fr' = puts fr (L.map fun p => (p.2, (all p.1).getD undef)) := by
    intro X fr' h1 h2 h3 h4
    funext t
    by_cases hex : ∃ i, (i, t) ∈ L
    · obtain ⟨i, hp⟩ := hex
      have hp' := hp
      rw [← hL, mem_dstList] at hp
      obtain ⟨hi, o, ho, hdst⟩ := hp
      obtain ⟨o', v, _, hv, _⟩ := hall i (by omega) hi
      rw [h3 i o t ho hdst (h1 i hi), hv]
      refine (puts_at _ _ (by simpa [List.map_map, Function.comp_def] using hnd2) (List.mem_map.2 ⟨(i, t), hp', ?_⟩)).symm
      simp [hv]
    · rw [puts_other]
      · refine h4 t fun j oj hj hdj => ?_
        rcases Nat.lt_or_ge j m with hlt | hge
        · exact absurd ⟨j, by rw [← hL, mem_dstList]; exact ⟨hlt, oj, hj, hdj⟩⟩ hex
        · exact h2 j hge
      · intro p hp e
        obtain ⟨q, hq, rfl⟩ := List.mem_map.1 hp
        exact hex ⟨q.1, by simpa [← e] using hq⟩
  refine ACode.region_drawG hm hd (nk + m) (Nat.le_add_right _ _) (fun X fr' Hc k G => Closed ops X ∧ (∀ i, ops.size ≤ i → X i = false) ∧
      (((∀ i, m ≤ i → X i = false) ∧ nk + m ≤ k ∧ Hc = Hof (nmC nk m bs) C H (ctX ct0 M X m) ∧ (∀ i, i < m → X i = false → G (nk + i) = .free) ∧ (∀ q, k ≤ q → Hc q = none) ∧
          (∀ i o t, ops[i]? = some o → o.dst = some t → X i = true → fr' t = all i) ∧ (∀ t, (∀ j oj, ops[j]? = some oj → oj.dst = some t → X j = false) → fr' t = fr t)) ∨
       ∃ p, m < p ∧ p ≤ ops.size ∧ (∀ i, i < p → X i = true) ∧ (∀ i, p ≤ i → X i = false) ∧ aOps P NG ops (Q .normal) (List.range' p (ops.size - p)) ⟨fr', Hc, k⟩)) ?_ ?_ ?_
  · intro G hG
    have e0 : ∀ p, ctX ct0 M (fun _ => false) p = ct0 := by
      intro p
      induction p with
      | zero => rfl
      | succ p ih => exact ih
    exact ⟨fun i j h => by simp at h, fun _ _ => rfl, .inl ⟨fun _ _ => rfl, Nat.le_refl _, by rw [e0]; exact (Hof_start hnd hct).symm, fun i _ _ => (hG _ (Nat.le_add_right _ _)).1, fun q hq => (hG q (Nat.le_trans (Nat.le_add_right _ _) hq)).2, fun i o t _ _ h => by simp at h, fun _ _ => rfl⟩⟩
  · rintro i o X fr' Hc k G ho hxi hedge ⟨hcl, hbig, hst⟩
    have hlt := (Array.getElem?_eq_some_iff.1 ho).1
    have hed : ∀ q, edgeOn ops i q = true → X q = true := by
      intro q hq
      obtain ⟨o', ho', e, he, hb, rfl⟩ := edge_mem.1 hq
      rw [ho] at ho'
      injection ho' with ho'
      subst ho'
      exact hedge e he hb
    have hcl' : Closed ops (upd X i true) := by
      intro a b ha hab
      by_cases hb : b = i
      · subst hb; exact upd_same _ _ _
      · rw [upd_other _ _ hb]
        by_cases hai : a = i
        · subst hai; exact hed b hab
        · rw [upd_other _ _ hai] at ha; exact hcl a b ha hab
    have hbig' : ∀ j, ops.size ≤ j → upd X i true j = false := fun j hj => by rw [upd_other _ _ (by omega)]; exact hbig j hj
    -- the tail's next operation
    have tailStep : ∀ p, m ≤ p → p < ops.size → (∀ j, j < p → X j = true) → (∀ j, p ≤ j → X j = false) → i = p → aOps P NG ops (Q .normal) (List.range' p (ops.size - p)) ⟨fr', Hc, k⟩ →
        stepA P NG ops o ⟨fr', Hc, k⟩ fun v H' k' => ∃ p, m < p ∧ p ≤ ops.size ∧ (∀ j, j < p → upd X i true j = true) ∧ (∀ j, p ≤ j → upd X i true j = false) ∧ aOps P NG ops (Q .normal) (List.range' p (ops.size - p)) ⟨putA fr' o.dst v, H', k'⟩ := by
      intro p hp hps hlo hhi hip ha
      subst hip
      rw [show ops.size - i = (ops.size - (i + 1)) + 1 by omega, List.range'_succ, aOps_cons ho] at ha
      refine ha.mono fun v H' k' h => ⟨i + 1, by omega, by omega, fun j hj => ?_, fun j hj => ?_, h⟩
      · by_cases hji : j = i
        · subst hji; exact upd_same _ _ _
        · rw [upd_other _ _ hji]; exact hlo j (by omega)
      · rw [upd_other _ _ (by omega)]
        exact hhi j (by omega)
    have done : ∀ {R : Value → Hp → Nat → Prop}, stepA P NG ops o ⟨fr', Hc, k⟩ R → (∀ v H' k', R v H' k' → ∃ p, m < p ∧ p ≤ ops.size ∧ (∀ j, j < p → upd X i true j = true) ∧ (∀ j, p ≤ j → upd X i true j = false) ∧ aOps P NG ops (Q .normal) (List.range' p (ops.size - p)) ⟨putA fr' o.dst v, H', k'⟩) →
        stepA P NG ops o ⟨fr', Hc, k⟩ fun v H' k' => ∀ (B : Nat) (w0 w w' ws : World) (G' Gs : GMap) (v' : Value), VRel G' v v' → SRel NG B w0 G' H' k' w' → SRel NG B w0 G Hc k w → NG ≤ nk → Keep Hc k G w H' k' G' w' → Keep H nk Gs ws Hc k G w → (∀ n, nk ≤ n → H n = none ∧ Gs n = .free) →
          ∃ v2 H2 G2, VRel G2 v2 v' ∧ SRel NG B w0 G2 H2 k' w' ∧ Keep H nk Gs ws H2 k' G2 w' ∧ GLe G G2 ∧ (Closed ops (upd X i true) ∧ (∀ j, ops.size ≤ j → upd X i true j = false) ∧
      (((∀ j, m ≤ j → upd X i true j = false) ∧ nk + m ≤ k' ∧ H2 = Hof (nmC nk m bs) C H (ctX ct0 M (upd X i true) m) ∧ (∀ j, j < m → upd X i true j = false → G2 (nk + j) = .free) ∧ (∀ q, k' ≤ q → H2 q = none) ∧
          (∀ j oj t, ops[j]? = some oj → oj.dst = some t → upd X i true j = true → putA fr' o.dst v2 t = all j) ∧ (∀ t, (∀ j oj, ops[j]? = some oj → oj.dst = some t → upd X i true j = false) → putA fr' o.dst v2 t = fr t)) ∨
       ∃ p, m < p ∧ p ≤ ops.size ∧ (∀ j, j < p → upd X i true j = true) ∧ (∀ j, p ≤ j → upd X i true j = false) ∧ aOps P NG ops (Q .normal) (List.range' p (ops.size - p)) ⟨putA fr' o.dst v2, H2, k'⟩)) := by
      intro R hR hI
      exact hR.mono fun v H' k' hr B w0 w w' ws G' Gs v' hv hS hS0 hle hK hKs hf => ⟨v, H', G', hv, hS, hKs.trans (fun n hn => (hf n hn).2) hK, hK.le, hcl', hbig', .inr (hI v H' k' hr)⟩
    rcases hst with ⟨hno, hk, hHc, hfree, hfresh, hvals, holds⟩ | ⟨p, hp, hps, hlo, hhi, ha⟩
    · by_cases him : i < m
      · obtain ⟨o', v, ho', hv, hMi, U, hU, hstep⟩ := hall i (by omega) him
        rw [ho] at ho'
        injection ho' with ho'
        subst ho'
        have h1 := hstep Hc k hk (fun c hc => by
          rw [hHc, Hof_at hnd (hCW i him c hc)]
          exact hX1 X i hcl him hxi hed c hc) (fun n b hn => by
          obtain ⟨e1, e2⟩ := hHb n b hn
          rw [hHc, Hof_out e2]
          exact e1) hfresh
        have hMC : ∀ q ∈ M i, q.1 ∈ C := fun q hq => hCW i him q.1 (List.mem_append_left _ (hMc i him q.1 ⟨q, hq, rfl⟩))
        have hheap : setM (nmC nk m bs) Hc (M i) = Hof (nmC nk m bs) C H (ctX ct0 M (upd X i true) m) := by
          rw [hX2 X i hcl him hxi, Hof_setC hnd (M i) _ hMC, ← hHc]
        have hno' : ∀ j, m ≤ j → upd X i true j = false := fun j hj => by rw [upd_other _ _ (by omega)]; exact hno j hj
        have inj : ∀ t j, (i, t) ∈ L → (j, t) ∈ L → j = i := by
          intro t j
          have key : ∀ l : List (Nat × Nat), (l.map (·.2)).Nodup → (i, t) ∈ l → (j, t) ∈ l → j = i := by
            intro l
            induction l with
            | nil => intro _ h; cases h
            | cons q l ih =>
              intro hn ha hb
              simp only [List.map_cons, List.nodup_cons] at hn
              rcases List.mem_cons.1 ha with ha | ha
              · rcases List.mem_cons.1 hb with hb | hb
                · rw [← ha] at hb; injection hb
                · exact absurd (List.mem_map.2 ⟨(j, t), hb, by rw [← ha]⟩) hn.1
              · rcases List.mem_cons.1 hb with hb | hb
                · exact absurd (List.mem_map.2 ⟨(i, t), ha, by rw [← hb]⟩) hn.1
                · exact ih hn.2 ha hb
          exact key L hnd2
        have hv1 : ∀ j oj t, ops[j]? = some oj → oj.dst = some t → upd X i true j = true → putA fr' o.dst v t = all j := by
          intro j oj t hj hdj hx
          by_cases hji : j = i
          · subst hji
            rw [ho] at hj
            injection hj with hj
            subst hj
            rw [hdj, hv]
            exact upd_same _ _ _
          · rw [upd_other _ _ hji] at hx
            have h2 := hvals j oj t hj hdj hx
            cases hdo : o.dst with
            | none => exact h2
            | some u =>
              show upd fr' u (some v) t = _
              by_cases htu : t = u
              · subst htu
                have hjm : j < m := by
                  rcases Nat.lt_or_ge j m with hl | hl
                  · exact hl
                  · rw [hno j hl] at hx; cases hx
                have e1 : (i, t) ∈ L := by rw [← hL, mem_dstList]; exact ⟨him, o, ho, hdo⟩
                have e2 : (j, t) ∈ L := by rw [← hL, mem_dstList]; exact ⟨hjm, oj, hj, hdj⟩
                exact absurd (inj t j e1 e2) hji
              · rw [upd_other _ _ htu]; exact h2
        have hv2 : ∀ t, (∀ j oj, ops[j]? = some oj → oj.dst = some t → upd X i true j = false) → putA fr' o.dst v t = fr t := by
          intro t hw
          have h2 : fr' t = fr t := holds t fun j oj hj hdj => by
            have := hw j oj hj hdj
            by_cases hji : j = i
            · subst hji; rw [upd_same] at this; cases this
            · rwa [upd_other _ _ hji] at this
          cases hdo : o.dst with
          | none => exact h2
          | some u =>
            show upd fr' u (some v) t = _
            by_cases htu : t = u
            · subst htu
              have := hw i o ho hdo
              rw [upd_same] at this
              cases this
            · rw [upd_other _ _ htu]; exact h2
        refine (stepA_less h1 fun t u hu => ?_).mono ?_
        · unfold useOk at hU
          rw [List.all_eq_true] at hU
          rcases useFr_get U hu with ⟨j, hj, hu2⟩ | ⟨hj, hu2⟩
          · have := hU _ hj
            simp only [Bool.and_eq_true] at this
            obtain ⟨he, hd'⟩ := this
            cases hoj : ops[j]? with
            | none => simp [hoj] at hd'
            | some oj =>
              simp only [hoj, beq_iff_eq] at hd'
              rw [hvals j oj t hoj hd' (hed j he)]
              split at hu2
              · exact hu2
              · cases hu2
          · have := hU _ hj
            simp only [List.all_eq_true] at this
            rw [holds t fun j oj hoj hdj => ?_]
            · exact hu2
            · have hlt2 := (Array.getElem?_eq_some_iff.1 hoj).1
              have h5 := this j (List.mem_range.2 hlt2)
              simp only [hoj, hdj, beq_self_eq_true, Bool.not_true, Bool.false_or, Bool.or_eq_true, beq_iff_eq] at h5
              rcases h5 with rfl | he
              · exact hxi
              · cases hxj : X j with
                | false => rfl
                | true => rw [hcl j i hxj he] at hxi; cases hxi
        · rintro v' H' k' ⟨hkk, hout⟩ B w0 w w' ws G' Gs x hvx hS hS0 hle hK hKs hf
          have frees : ∀ j, j < m → X j = false → G' (nk + j) = .free := fun j hj hx =>
            (hK.same (nk + j) (by omega) (hS0.free_none (hfree j hj hx))).trans (hfree j hj hx)
          have hKs' := hKs.trans (fun n hn => (hf n hn).2) hK
          rcases hout with ⟨rfl, hH⟩ | ⟨n, f, b, M', hn1, hn2, hren, rfl, hvf, hM, hH⟩
          · refine ⟨v', H', G', hvx, hS, hKs', hK.le, hcl', hbig', .inl ⟨hno', by omega, hH.trans hheap, fun j hj hx => ?_, fun q hq => (hS.fresh q hq).1, hv1, hv2⟩⟩
            by_cases hji : j = i
            · subst hji; rw [upd_same] at hx; cases hx
            · rw [upd_other _ _ hji] at hx
              exact frees j hj hx
          · have hr := frees i him hxi
            have hHn : H' n = some b := by rw [hH, upd_same]
            have hHr : H' (nk + i) = none := hS.free_none hr
            have hmi : nmC nk m bs i = nk + i := if_pos him
            have hMout : ∀ p ∈ M', nmC nk m bs p.1 ≠ n := fun p hp e => by
              have := hnm p.1 (by omega)
              omega
            have hdrop : upd H' n none = setM (nmC nk m bs) Hc M' := by
              rw [hH]
              funext q
              by_cases hq : q = n
              · subst hq
                rw [upd_same, setM_out M' _ hMout]
                exact (hfresh q hn1).symm
              · rw [upd_other _ _ hq, upd_other _ _ hq]
            have hH2 : upd (upd H' n none) (nk + i) (some b) = setM (nmC nk m bs) Hc (M i) := by
              rw [hdrop, hM, setM_append]
              show _ = upd (setM (nmC nk m bs) Hc M') (nmC nk m bs i) (some b)
              rw [hmi]
            have hle' : NG ≤ nk := hle
            have hSr := hS.rename hHn hHr hr (by omega) (by omega)
            have hKr := Keep.rename (k0 := nk) hKs' hHn hHr hr (by omega) (by omega) hf
            refine ⟨v, upd (upd H' n none) (nk + i) (some b), upd G' (nk + i) (G' n), ?_, hSr, hKr, ?_, hcl', hbig', .inl ⟨hno', by omega, hH2.trans hheap, fun j hj hx => ?_, fun q hq => (hSr.fresh q hq).1, hv1, hv2⟩⟩
            · rw [hvf, hmi]
              exact hren G' _ n (nk + i) x hvx (upd_same _ _ _) (fun q hq => upd_other _ _ hq)
            · refine hK.le.trans fun q => ?_
              by_cases hq : q = nk + i
              · subst hq; rw [hr]; trivial
              · rw [upd_other _ _ hq]; exact GB.le_refl _
            · by_cases hji : j = i
              · subst hji; rw [upd_same] at hx; cases hx
              · rw [upd_other _ _ hji] at hx
                rw [upd_other _ _ (by omega)]
                exact frees j hj hx
      · have hallX : ∀ j, j < i → X j = true := fun j hj => anc_sound hcl hbk i i j (Nat.le_refl _) hlt (htail i j (by omega) hlt hj) hed
        have him' : i = m := by
          rcases Nat.lt_or_ge m i with h | h
          · have := hallX m h
            rw [hno m (Nat.le_refl _)] at this
            cases this
          · omega
        have hfr := frame X fr' (fun j hj => hallX j (by omega)) hno hvals holds
        have hK' := hK k hk
        have hXt : ctX ct0 M X m = ctX ct0 M (fun _ => true) m := by
          funext c
          exact ctX_upto m fun j hj _ => hallX j (by omega)
        rw [← hfr, ← hXt, ← hHc] at hK'
        exact done (tailStep m (Nat.le_refl _) (by omega) (fun j hj => hallX j (by omega)) hno him' hK') fun v H' k' h => h
    · have hip : i = p := by
        have hpi : p ≤ i := by
          rcases Nat.lt_or_ge i p with h | h
          · rw [hlo i h] at hxi; cases hxi
          · exact h
        rcases Nat.lt_or_ge p i with h | h
        · have := anc_sound hcl hbk i i p (Nat.le_refl _) hlt (htail i p (by omega) hlt h) hed
          rw [hhi p (Nat.le_refl _)] at this
          cases this
        · omega
      exact done (tailStep p (by omega) (by omega) hlo hhi hip ha) fun v H' k' h => h
  · rintro X fr' Hc k G hdone ⟨hcl, hbig, hst⟩
    have hallX : ∀ i, i < ops.size → X i = true := by
      intro i
      induction i using Nat.strongRecOn with
      | _ i ih =>
        intro hi
        cases hx : X i with
        | true => rfl
        | false =>
          obtain ⟨e, he, hb, hxe⟩ := hdone i _ (Array.getElem?_eq_getElem hi) hx
          unfold backOk at hbk
          rw [List.all_eq_true] at hbk
          have h1 := hbk i (List.mem_range.2 hi)
          rw [Array.getElem?_eq_getElem hi] at h1
          simp only [Array.all_eq_true_iff_forall_mem] at h1
          have h2 := h1 e he
          rw [hb] at h2
          simp only [Bool.not_true, Bool.false_or, decide_eq_true_eq] at h2
          rw [ih e.on h2 (by omega)] at hxe
          cases hxe
    rcases hst with ⟨hno, hk, hHc, hfree, hfresh, hvals, holds⟩ | ⟨p, hp, hps, hlo, hhi, ha⟩
    · have hsz : m = ops.size := by
        rcases Nat.lt_or_ge m ops.size with h | h
        · have := hallX m h
          rw [hno m (Nat.le_refl _)] at this
          cases this
        · omega
      have hfr := frame X fr' (fun j hj => hallX j (by omega)) hno hvals holds
      have hK' := hK k hk
      have hXt : ctX ct0 M X m = ctX ct0 M (fun _ => true) m := by
        funext c
        exact ctX_upto m fun j hj _ => hallX j (by omega)
      rw [← hfr, ← hXt, ← hHc, show ops.size - m = 0 by omega] at hK'
      exact hK'
    · have hsz : p = ops.size := by
        rcases Nat.lt_or_ge p ops.size with h | h
        · have := hallX p h
          rw [hhi p (Nat.le_refl _)] at this
          cases this
        · omega
      rw [show ops.size - p = 0 by omega] at ha
      exact ha
end
end Go.Ab

set_option linter.unusedVariables false
set_option linter.unusedSimpArgs false
namespace Go.Ab
open Go.RowKit

theorem RenOk.grow {l : Nat} : RenOk fun n => .slice (some ⟨n, 0, some 1⟩) l l := fun G G2 n r x h e _ => by
  cases h with
  | plain h0 => cases h0
  | grow h h1 => exact .grow (e.trans h) h1
theorem RenOk.ptr {off : Nat} : RenOk fun n => .pointer (some ⟨n, off, none⟩) := fun G G2 n r x h e _ => by
  cases h with
  | plain h0 => cases h0
  | ptr h => exact .ptr (e.trans h)

section
variable {P : Program} {NG N : Nat} {Q : Exit → St → Prop} {ops : Array Oper} {fr : Fr} {H : Hp} {nk m : Nat} {nm : Nat → Nat} {W : List (List Nat × List Nat)} {Hb : Hp} {K : Fr → (Nat → Option Blk) → Nat → Prop} {n : Nat} {env : Fr} {ct : Nat → Option Blk} {o : Oper} {v : Value}

/-- An operation that leaves the heap as it was. -/
theorem DrawM.q (i : Nat) (U : List (Nat × Option Nat)) (hi : m - (n + 1) = i) (ho : ops[i]? = some o) (hU : useOk ops i U = true) (hg : o.guard = none) (hW : (W.getD i ([], [])).1 = [])
    (h : ∀ (Hc : Hp) (k : Nat), nk + m ≤ k → (∀ c, c ∈ (W.getD i ([], [])).1 ++ (W.getD i ([], [])).2 → Hc (nm c) = ct c) → Sub Hb Hc → (∀ q, k ≤ q → Hc q = none) → AOp P NG o ⟨useFr env fr U, Hc, k⟩ fun v' H' k' => v' = v ∧ H' = Hc ∧ k ≤ k')
    (hr : DrawM P NG ops fr nk m nm W Hb K n (upd env i (some v)) ct) : DrawM P NG ops fr nk m nm W Hb K (n + 1) env ct := by
  subst hi
  refine ⟨o, v, [], ho, hW.symm, ⟨U, hU, fun Hc k hk hc hs hf => ?_⟩, hr⟩
  unfold stepA
  rw [show wantedA ops (useFr env fr U) o = some true by simp [wantedA, hg]]
  exact (h Hc k hk hc hs hf).mono fun v' H' k' ⟨e1, e2, e3⟩ => ⟨e3, .inl ⟨e1, e2⟩⟩
/-- An operation that gives a code new contents. -/
theorem DrawM.wr (i c : Nat) (b : Option Blk) (U : List (Nat × Option Nat)) (hi : m - (n + 1) = i) (ho : ops[i]? = some o) (hU : useOk ops i U = true) (hg : o.guard = none) (hW : (W.getD i ([], [])).1 = [c])
    (h : ∀ (Hc : Hp) (k : Nat), nk + m ≤ k → (∀ c, c ∈ (W.getD i ([], [])).1 ++ (W.getD i ([], [])).2 → Hc (nm c) = ct c) → Sub Hb Hc → (∀ q, k ≤ q → Hc q = none) → AOp P NG o ⟨useFr env fr U, Hc, k⟩ fun v' H' k' => v' = v ∧ H' = upd Hc (nm c) b ∧ k ≤ k')
    (hr : DrawM P NG ops fr nk m nm W Hb K n (upd env i (some v)) (upd ct c b)) : DrawM P NG ops fr nk m nm W Hb K (n + 1) env ct := by
  subst hi
  refine ⟨o, v, [(c, b)], ho, hW.symm, ⟨U, hU, fun Hc k hk hc hs hf => ?_⟩, hr⟩
  unfold stepA
  rw [show wantedA ops (useFr env fr U) o = some true by simp [wantedA, hg]]
  exact (h Hc k hk hc hs hf).mono fun v' H' k' ⟨e1, e2, e3⟩ => ⟨e3, .inl ⟨e1, e2⟩⟩
/-- An operation that makes a block. -/
theorem DrawM.new {bs : List Nat} (i : Nat) (f : Nat → Value) (b : Blk) (U : List (Nat × Option Nat)) (hi : m - (n + 1) = i) (him : i < m) (ho : ops[i]? = some o) (hU : useOk ops i U = true) (hg : o.guard = none) (hW : (W.getD i ([], [])).1 = [i]) (hf : RenOk f)
    (h : ∀ (Hc : Hp) (k : Nat), nk + m ≤ k → (∀ c, c ∈ (W.getD i ([], [])).1 ++ (W.getD i ([], [])).2 → Hc (nmC nk m bs c) = ct c) → Sub Hb Hc → (∀ q, k ≤ q → Hc q = none) → AOp P NG o ⟨useFr env fr U, Hc, k⟩ fun v' H' k' => ∃ q, k ≤ q ∧ q < k' ∧ v' = f q ∧ H' = upd Hc q (some b))
    (hr : DrawM P NG ops fr nk m (nmC nk m bs) W Hb K n (upd env i (some (f (nk + i)))) (upd ct i (some b))) : DrawM P NG ops fr nk m (nmC nk m bs) W Hb K (n + 1) env ct := by
  subst hi
  refine ⟨o, f (nk + (m - (n + 1))), [(m - (n + 1), some b)], ho, hW.symm, ⟨U, hU, fun Hc k hk hc hs hfr => ?_⟩, hr⟩
  unfold stepA
  rw [show wantedA ops (useFr env fr U) o = some true by simp [wantedA, hg]]
  refine (h Hc k hk hc hs hfr).mono fun v' H' k' ⟨q, e1, e2, e3, e4⟩ => ⟨by omega, .inr ⟨q, f, b, [], e1, e2, hf, e3, ?_, rfl, e4⟩⟩
  rw [show nmC nk m bs (m - (n + 1)) = nk + (m - (n + 1)) from if_pos him]
theorem DrawM.done (h : ∀ k, nk + m ≤ k → K env ct k) : DrawM P NG ops fr nk m nm W Hb K 0 env ct := h

/-- Where only new blocks are touched. -/
theorem ACode.drawM0 {id : Nat} (m : Nat) (L : List (Nat × Nat)) (C : List Nat) (W : List (List Nat × List Nat)) (hm : P.follows .mixedOrders = true) (hok : drawOk N ops m L = true) (hW : modsOk ops m W C = true)
    (hC : (decide C.Nodup && C.all (fun c => decide (c < m))) = true)
    (h : DrawM P NG ops fr nk m (nmC nk m []) W H (fun env ct k => aOps P NG ops (Q .normal) (List.range' m (ops.size - m)) ⟨puts fr (L.map fun p => (p.2, (env p.1).getD undef)), Hof (nmC nk m []) C H ct, k⟩) m (fun _ => none) (fun _ => none)) :
    ACode P NG N (.region id ops true) Q ⟨fr, H, nk⟩ := by
  refine ACode.fresh fun hf => ?_
  simp only [Bool.and_eq_true, decide_eq_true_eq, List.all_eq_true] at hC
  have hnm : ∀ c ∈ C, nmC nk m [] c = nk + c := fun c hc => if_pos (hC.2 c hc)
  refine ACode.drawM m L [] C W (fun _ => none) H hm hok hW ?_ (fun b hb => by cases hb) (fun c hc => by rw [hnm c hc]; exact hf _ (Nat.le_add_right _ _)) (fun n b hn => ⟨hn, fun hx => ?_⟩) h
  · have : C.map (nmC nk m []) = C.map (nk + ·) := List.map_congr_left hnm
    rw [this]
    rw [List.nodup_iff_pairwise_ne] at hC ⊢
    refine List.pairwise_map.2 (hC.1.imp fun hne e => hne (by omega))
  · obtain ⟨c, hc, rfl⟩ := List.mem_map.1 hx
    rw [hnm c hc, hf _ (Nat.le_add_right _ _)] at hn
    cases hn

/-- Nil as a slice that grows. -/
theorem ACode.adopt {t : Nat} {c : Code} (e : TypeId) (sz : Nat) (hsz : 0 < sz) (ht : fr t = some (.slice none 0 0)) (h : ACode P NG N c Q ⟨upd fr t (some (.slice (some ⟨nk, 0, some 1⟩) 0 0)), upd H nk (some { cells := [], elem := e, kind := .grow, esz := sz }), nk + 1⟩) :
    ACode P NG N c Q ⟨fr, H, nk⟩ := by
  intro B w0 G a w hs hd
  obtain ⟨hS1, hK1⟩ := hs.S.adopt e sz hsz
  have hF : FRel (upd G nk (.rows sz [])) N (upd fr t (some (.slice (some ⟨nk, 0, some 1⟩) 0 0))) a.tmps := by
    refine ⟨hs.F.1, fun u v hu => ?_⟩
    by_cases hut : u = t
    · subst hut
      rw [upd_same] at hu
      injection hu with hu
      subst hu
      have := hs.F.2 u _ ht
      rw [this.plain_ rfl]
      exact .grow (upd_same _ _ _) (.inl ⟨rfl, rfl⟩)
    · rw [upd_other _ _ hut] at hu
      exact (hs.F.2 u v hu).mono hK1.le
  refine wp_mono (h B w0 _ a w ⟨hS1, hF⟩ hd) ?_
  rintro e' a' w' ⟨s', G', h1, h2, h3, h4⟩
  exact ⟨s', G', h1, h2, hK1.trans (fun n hn => (hs.S.fresh n hn).2) h3, h4⟩
end

theorem AOp.convU64 {P : Program} {NG : Nat} {fr : Fr} {H : Hp} {nk : Nat} {R : Value → Hp → Nat → Prop} {o : Oper} {t t' : TypeId} {x : Operand} {k : IntKind} {a : Nat} {d : TypeDesc} (ho : o.op = .convert t t' x) [DescInfo P t d] [hd : DescInfo P t' (.int .u64)] (hx : aeval NG fr x = some (.int k (a : Int))) (ha : a < 18446744073709551616) (hR : R (.int .u64 (a : Int)) H nk) : AOp P NG o ⟨fr, H, nk⟩ R :=
  AOp.convInt ho hx (by rw [show IntKind.u64.wrap (a : Int) = (a : Int) by rw [IntKind.wrap_u64]; omega]; exact hR)
theorem srcOf_grow {H : Hp} {n sz l : Nat} {b : Blk} (hn : H n = some b) (hz : b.esz = sz) (hl : l * sz = b.cells.length) : srcOf H sz (.slice (some ⟨n, 0, some 1⟩) l l) = some (l, b.cells) := by
  simp only [srcOf, slcCells]
  by_cases h0 : l = 0
  · rw [if_pos h0]
    subst h0
    have : b.cells = [] := List.length_eq_zero_iff.1 (by omega)
    rw [this]
    rfl
  · rw [if_neg h0]
    simp only [hn]
    rw [if_pos ⟨⟨hz, Nat.zero_mod _⟩, by omega⟩, List.drop_zero, hl, List.take_length]
    rfl
theorem srcOf_slc {H : Hp} {sz l c : Nat} {A : Option Addr} {cs : List Value} (h : slcCells H sz (.slice A l c) = some cs) : srcOf H sz (.slice A l c) = some (l, cs) := by
  simp only [srcOf, h]
  rfl
theorem slcCells_grow {H : Hp} {n sz l : Nat} {b : Blk} (hn : H n = some b) (hz : b.esz = sz) (hl : l * sz = b.cells.length) : slcCells H sz (.slice (some ⟨n, 0, some 1⟩) l l) = some b.cells := by
  have := srcOf_grow hn hz hl
  simp only [srcOf] at this
  obtain ⟨cs, h1, h2⟩ := Option.map_eq_some_iff.1 this
  injection h2 with _ h2
  rw [h1, h2]
theorem fill_ones : ∀ (vals : List Value) (k : Nat) (z0 : Array Value), (∀ v ∈ vals, v.cells = #[v]) → k + vals.length = z0.size →
    ∃ r, Instr.fill (fun i => some (i * 1, 1)) z0 ((vals.zipIdx k).map fun p => (p.2, p.1)) = some r ∧ r.toList = z0.toList.take k ++ vals
  | [], k, z0, _, hk => ⟨z0, rfl, by
      simp at hk
      rw [List.append_nil, hk, ← Array.length_toList, List.take_length]⟩
  | v :: vals, k, z0, h1, hk => by
    simp only [List.length_cons] at hk
    obtain ⟨r, h2, h3⟩ := fill_ones vals (k + 1) (z0.setIfInBounds k v) (fun u hu => h1 u (by simp [hu])) (by simp; omega)
    refine ⟨r, ?_, ?_⟩
    · rw [List.zipIdx_cons, List.map_cons, Instr.fill]
      simp only [h1 v (by simp)]
      rw [if_neg (by simp; omega)]
      simpa using h2
    · rw [h3]
      have hlt : k < z0.size := by omega
      have hl : k < z0.toList.length := by rw [Array.length_toList]; exact hlt
      have e : (z0.setIfInBounds k v).toList = z0.toList.take k ++ v :: z0.toList.drop (k + 1) := by
        rw [Array.toList_setIfInBounds, List.set_eq_take_append_cons_drop, if_pos hl]
      rw [e, List.take_append, List.take_take, Nat.min_eq_right (by omega), List.length_take, Nat.min_eq_left (by omega), show k + 1 - k = 1 by omega]
      simp
theorem AOp.buildG1 {P : Program} {NG : Nat} {fr : Fr} {H : Hp} {nk : Nat} {R : Value → Hp → Nat → Prop} {o : Oper} {t e : TypeId} {len : Nat} {ps : Array (Nat × Operand)} {z : Value} {vals : List Value} (ho : o.op = .buildSlice t len ps) [hf : SlInfo P t e 1] [hz : ZeroInfo P e z] (hb : len ≤ 16777216)
    (hx : aparts NG fr ps = some (vals.zipIdx.map fun p => (p.2, p.1))) (hl : vals.length = len) (h1 : ∀ v ∈ vals, v.cells = #[v])
    (hR : R (.slice (some ⟨nk, 0, some 1⟩) len len) (upd H nk (some { cells := vals, elem := e, kind := .grow, esz := 1 })) (nk + 1)) : AOp P NG o ⟨fr, H, nk⟩ R := by
  have hsz : (litZ z (len * 1)).size = len := by
    unfold litZ
    by_cases h0 : len * 1 = 0
    · rw [if_pos h0]; simp; omega
    · rw [if_neg h0]; simp
  obtain ⟨r, h2, h3⟩ := fill_ones vals 0 (litZ z (len * 1)) h1 (by rw [hsz]; omega)
  rw [List.take_zero, List.nil_append] at h3
  refine AOp.buildGr ho (by decide) (by omega) hx h2 (by rw [← Array.length_toList, h3]; omega) ?_
  rw [h3]
  exact hR
theorem byteCells_eq (s : ByteArray) : byteCells s = s.data.toList.map bv := rfl
theorem AOp.toBytes' {P : Program} {NG : Nat} {fr : Fr} {H : Hp} {nk : Nat} {R : Value → Hp → Nat → Prop} {o : Oper} {x : Operand} {t t' e : TypeId} {bs : ByteArray} (ho : o.op = .convert t t' x) [hd : DescInfo P t .string] [hs : SlInfo P t' e 1] [he : DescInfo P e (.int .u8)] (hx : aeval NG fr x = some (.string bs))
    (hR : R (.slice (some ⟨nk, 0, some 0⟩) bs.size bs.size) (upd H nk (some { cells := bs.data.toList.map bv, elem := e, kind := .fix })) (nk + 1)) : AOp P NG o ⟨fr, H, nk⟩ R :=
  AOp.toBytes ho hd.h (slB_inv hs.h).1 he.h hx (by rw [byteCells_eq]; exact hR)
/-- A whole number's lowest byte. -/
def byteI (x : Int) : UInt8 := UInt8.ofNat (x % 256).toNat
theorem bv_byteI (x : Int) : Value.int .u8 (IntKind.u8.wrap x) = bv (byteI x) := by
  have : ((byteI x).toNat : Int) = IntKind.u8.wrap x := by
    unfold byteI
    rw [UInt8.toNat_ofNat', IntKind.wrap_u8]
    omega
  simp only [bv, this]
theorem byteI_nat (v : Nat) : byteI (v : Int) = UInt8.ofNat v := by
  unfold byteI
  rw [← UInt8.toNat_inj, UInt8.toNat_ofNat', UInt8.toNat_ofNat']
  omega
theorem AOp.toU8 {P : Program} {NG : Nat} {fr : Fr} {H : Hp} {nk : Nat} {R : Value → Hp → Nat → Prop} {o : Oper} {t t' : TypeId} {x : Operand} {k : IntKind} {a : Int} {d : TypeDesc} (ho : o.op = .convert t t' x) [DescInfo P t d] [hd : DescInfo P t' (.int .u8)] (hx : aeval NG fr x = some (.int k a)) (hR : R (bv (byteI a)) H nk) : AOp P NG o ⟨fr, H, nk⟩ R :=
  AOp.convInt ho hx (by rw [bv_byteI]; exact hR)
theorem sub_same {A : Hp} {n : Nat} {x : Option Blk} (h : A n = x) : Sub (upd A n x) A := fun q b hq => by
  by_cases e : q = n
  · subst e
    rw [upd_same] at hq
    rw [h, hq]
  · rw [upd_other _ _ e] at hq
    exact hq
theorem sub_over {A B : Hp} {n : Nat} {x y : Option Blk} (h : Sub (upd A n y) B) : Sub (upd A n x) (upd B n x) := fun q b hq => by
  by_cases e : q = n
  · subst e
    rw [upd_same] at hq ⊢
    exact hq
  · rw [upd_other _ _ e] at hq ⊢
    exact h q b (by rw [upd_other _ _ e]; exact hq)
theorem sub_over_eq {A B : Hp} {n : Nat} {x x' y : Option Blk} (h : Sub (upd A n y) B) (e : x = x') : Sub (upd A n x) (upd B n x') := by
  subst e
  exact sub_over h
theorem stays_upd {A : Hp} {n : Nat} {b : Blk} : ∀ q c, A q = some c → ∃ c', upd A n (some b) q = some c' := fun q c hq => by
  by_cases e : q = n
  · subst e; exact ⟨b, upd_same _ _ _⟩
  · exact ⟨c, by rw [upd_other _ _ e]; exact hq⟩
theorem sub_drop {A B : Hp} {n : Nat} (h : Sub A B) : Sub (upd A n none) B := fun q b hq => by
  by_cases e : q = n
  · subst e; rw [upd_same] at hq; cases hq
  · rw [upd_other _ _ e] at hq; exact h q b hq
theorem sub_dropu {A B : Hp} {n : Nat} {x : Option Blk} (h : Sub A B) : Sub (upd A n none) (upd B n x) := fun q b hq => by
  by_cases e : q = n
  · subst e; rw [upd_same] at hq; cases hq
  · rw [upd_other _ _ e] at hq ⊢; exact h q b hq
theorem sub_over0 {A B : Hp} {n : Nat} {x : Option Blk} (h : Sub A B) : Sub (upd A n x) (upd B n x) := fun q b hq => by
  by_cases e : q = n
  · subst e
    rw [upd_same] at hq ⊢
    exact hq
  · rw [upd_other _ _ e] at hq ⊢
    exact h q b hq

/-- A contract's answer: a new slice that may grow. -/
def NewS (H : Hp) (k : Nat) (e : TypeId) (sz l : Nat) (cells : List Value) (v : Value) (H' : Hp) (k' : Nat) : Prop :=
  ∃ q, k ≤ q ∧ q < k' ∧ v = .slice (some ⟨q, 0, some 1⟩) l l ∧ H' = upd H q (some { cells := cells, elem := e, kind := .grow, esz := sz })
abbrev NewB (H : Hp) (k : Nat) (e : TypeId) (bs : List UInt8) : Value → Hp → Nat → Prop := NewS H k e 1 bs.length (bs.map bv)
end Go.Ab

set_option linter.unusedVariables false
set_option linter.unusedSimpArgs false
namespace Go.Ab
open Go.RowKit

/-- A block of bytes that may grow. -/
abbrev gbk (e : TypeId) (bs : List UInt8) : Blk := { cells := bs.map bv, elem := e, kind := .grow, esz := 1 }
abbrev gsl (n l : Nat) : Value := .slice (some ⟨n, 0, some 1⟩) l l

theorem slcCells_loose {H : Hp} {n sz l : Nat} {b : Blk} (hn : H n = some b) (hl : l * sz = b.cells.length) : slcCells H sz (.slice (some ⟨n, 0, some 0⟩) l l) = some b.cells := by
  simp only [slcCells]
  by_cases h0 : l = 0
  · rw [if_pos h0]
    subst h0
    rw [List.length_eq_zero_iff.1 (show b.cells.length = 0 by omega)]
  · rw [if_neg h0]
    simp only [hn]
    rw [if_pos (by omega), List.drop_zero, hl, List.take_length]
section
variable {P : Program} {NG : Nat} {fr : Fr} {H : Hp} {nk : Nat} {R : Value → Hp → Nat → Prop} {o : Oper}

theorem AOp.appendB {x y : Operand} {t tx e : TypeId} {bytes n : Nat} {bs ps : List UInt8} {yv : Value} (ho : o.op = .call { callee := .builtin .append, args := #[x, y], argTypes := #[t, tx] }) [he : ElemInfo P t e 1 bytes]
    (hx : aeval NG fr x = some (gsl n bs.length)) (hy : aeval NG fr y = some yv) (hn : H n = some (gbk e bs)) (hsrc : srcOf H 1 yv = some (ps.length, ps.map bv)) (ht : srcOk P tx yv = true)
    (hb : (bs.length + ps.length) * bytes ≤ 140737488355328) (h63 : bs.length + ps.length ≤ 9223372036854775807)
    (hR : R (gsl n (bs ++ ps).length) (upd H n (some (gbk e (bs ++ ps)))) nk) : AOp P NG o ⟨fr, H, nk⟩ R := by
  refine AOp.append' (b := gbk e bs) ho hx hy hn hsrc rfl rfl rfl (by simp) ht (bv_one ps) hb h63 ?_
  have e1 : ({ gbk e bs with cells := (gbk e bs).cells ++ ps.map bv } : Blk) = gbk e (bs ++ ps) := by simp
  rw [e1, ← List.length_append]
  exact hR

theorem AOp.buildB {t e : TypeId} {len : Nat} {ps : Array (Nat × Operand)} {z : Value} (bs : List UInt8) (ho : o.op = .buildSlice t len ps) [hf : SlInfo P t e 1] [hz : ZeroInfo P e z] (hb : len ≤ 16777216)
    (hx : aparts NG fr ps = some ((bs.map bv).zipIdx.map fun p => (p.2, p.1))) (hl : bs.length = len)
    (hR : R (gsl nk bs.length) (upd H nk (some (gbk e bs))) (nk + 1)) : AOp P NG o ⟨fr, H, nk⟩ R := by
  refine AOp.buildG1 (vals := bs.map bv) ho hb hx (by simpa using hl) (fun v hv => ?_) ?_
  · obtain ⟨c, _, rfl⟩ := List.mem_map.1 hv
    rfl
  · rw [← hl]
    exact hR
theorem srcOf_gb {n : Nat} {e : TypeId} {bs : List UInt8} (hn : H n = some (gbk e bs)) : srcOf H 1 (gsl n bs.length) = some (bs.length, bs.map bv) :=
  srcOf_grow hn rfl (by simp)
end
end Go.Ab

set_option linter.unusedVariables false
set_option linter.unusedSimpArgs false
namespace Go.Ab
open Go.RowKit

/-! ### What a slice shows, and that it can be cut -/
def SlcWf (H : Hp) (sz : Nat) : Value → Prop
  | .slice none 0 0 => True
  | .slice (some ⟨n, off, none⟩) l c => l ≤ c
  | .slice (some ⟨n, off, some 0⟩) l c => True
  | .slice (some ⟨n, off, some 1⟩) l c => ∃ b, H n = some b ∧ b.esz = sz
  | .slice (some ⟨n, off, some 2⟩) l c => ∃ b, H n = some b ∧ b.esz = sz
  | _ => False
/-- The slice shows just these cells. -/
structure SLC (H : Hp) (sz : Nat) (A : Option Addr) (l c : Nat) (cs : List Value) : Prop where
  cells : slcCells H sz (.slice A l c) = some cs
  wf : SlcWf H sz (.slice A l c)
theorem SlcWf.sub {H H' : Hp} {sz : Nat} {v : Value} (h : SlcWf H sz v) (hs : Sub H H') : SlcWf H' sz v := by
  unfold SlcWf at h ⊢
  split <;> simp_all
  · obtain ⟨b, h1, h2⟩ := h
    exact ⟨b, hs _ _ h1, h2⟩
  · obtain ⟨b, h1, h2⟩ := h
    exact ⟨b, hs _ _ h1, h2⟩
theorem SLC.sub {H H' : Hp} {sz l c : Nat} {A : Option Addr} {cs : List Value} (h : SLC H sz A l c cs) (hs : Sub H H') : SLC H' sz A l c cs := ⟨slcCells_sub hs h.cells, h.wf.sub hs⟩
theorem SLC.nil {H : Hp} {sz : Nat} : SLC H sz none 0 0 [] := ⟨rfl, trivial⟩

theorem take_drop_part {α : Type} (l : List α) (off len a b : Nat) (h : a + b ≤ len) : ((l.drop (off + a)).take b) = ((((l.drop off).take len).drop a).take b) := by
  rw [List.drop_take, List.drop_drop, List.take_take, Nat.min_eq_left (by omega)]

theorem SLC.cut {H : Hp} {sz len c0 : Nat} {A0 : Option Addr} {cs : List Value} (hS : SLC H sz A0 len c0 cs) (l h : Nat) (m : Option Nat) (h1 : l ≤ h) (h2 : h ≤ len) (hm : ∀ x, m = some x → h ≤ x ∧ x ≤ len) :
    ∃ A c, aslice H sz l h m (.slice A0 len c0) = some (.slice A (h - l) c) ∧ SLC H sz A (h - l) c ((cs.drop (l * sz)).take ((h - l) * sz)) := by
  obtain ⟨hc, hw⟩ := hS
  have e0 : l * sz + (h - l) * sz = h * sz := by rw [← Nat.add_mul]; congr 1; omega
  have e1 : h * sz ≤ len * sz := Nat.mul_le_mul_right _ h2
  have nilc : h - l = 0 → ((cs.drop (l * sz)).take ((h - l) * sz)) = [] := fun e => by rw [e, Nat.zero_mul, List.take_zero]
  unfold SlcWf at hw
  split at hw
  · rename_i he
    injection he with ha hb hd
    subst ha; subst hb; subst hd
    have : l = 0 := by omega
    subst this
    have : h = 0 := by omega
    subst this
    refine ⟨none, 0, ?_, ?_⟩
    · cases m with
      | none => simp [aslice]
      | some x =>
        have := hm x rfl
        simp [aslice]
        omega
    · rw [nilc rfl]
      exact SLC.nil
  · rename_i n off l' c' he
    injection he with ha hb hd
    subst ha; subst hb; subst hd
    have hmc : h ≤ m.getD c0 ∧ m.getD c0 ≤ c0 := by
      cases m with
      | none => simp; omega
      | some x => have := hm x rfl; simp; omega
    refine ⟨some ⟨n, if m.getD c0 = l then off else off + l * sz, none⟩, m.getD c0 - l, by simp only [aslice]; rw [if_pos ⟨h1, hmc.1, hmc.2⟩], ?_, by show h - l ≤ _; omega⟩
    by_cases hz : h - l = 0
    · rw [nilc hz]
      simp only [slcCells]
      rw [if_pos hz]
    · simp only [slcCells] at hc ⊢
      rw [if_neg (by omega)] at hc
      rw [if_neg hz, if_neg (by omega)]
      cases hn : H n with
      | none => simp [hn] at hc
      | some b =>
        simp only [hn] at hc ⊢
        split at hc
        · rename_i hle
          injection hc with hc
          subst hc
          rw [if_pos (by omega), take_drop_part _ _ (len * sz) _ _ (by omega)]
        · cases hc
  · rename_i n off l' c' he
    injection he with ha hb hd
    subst ha; subst hb; subst hd
    have key : ∀ (sp : Option Nat) (c : Nat), sp = none ∨ sp = some 0 → ¬ h - l = 0 → slcCells H sz (.slice (some ⟨n, off + l * sz, sp⟩) (h - l) c) = some ((cs.drop (l * sz)).take ((h - l) * sz)) := by
      intro sp c hsp hz
      simp only [slcCells] at hc
      rw [if_neg (by omega)] at hc
      cases hn : H n with
      | none => simp [hn] at hc
      | some b =>
        simp only [hn] at hc
        split at hc
        · rename_i hle
          injection hc with hc
          subst hc
          rcases hsp with rfl | rfl
          · simp only [slcCells]
            rw [if_neg hz, hn]
            simp only
            rw [if_pos (by omega), take_drop_part _ _ (len * sz) _ _ (by omega)]
          · simp only [slcCells]
            rw [if_neg hz, hn]
            simp only
            rw [if_pos (by omega), take_drop_part _ _ (len * sz) _ _ (by omega)]
        · cases hc
    cases m with
    | none =>
      refine ⟨some ⟨n, off + l * sz, some 0⟩, h - l, by simp only [aslice]; rw [if_pos ⟨h1, h2⟩], ?_, trivial⟩
      by_cases hz : h - l = 0
      · rw [nilc hz]
        simp only [slcCells]
        rw [if_pos hz]
      · exact key _ _ (.inr rfl) hz
    | some x =>
      obtain ⟨hx1, hx2⟩ := hm x rfl
      by_cases hlx : l < x
      · refine ⟨some ⟨n, off + l * sz, none⟩, x - l, by simp only [aslice]; rw [if_pos ⟨h1, hx1, hx2⟩, if_pos hlx], ?_, by show h - l ≤ _; omega⟩
        by_cases hz : h - l = 0
        · rw [nilc hz]
          simp only [slcCells]
          rw [if_pos hz]
        · exact key _ _ (.inl rfl) hz
      · have hz : h - l = 0 := by omega
        by_cases h0 : 0 < len
        · refine ⟨some ⟨n, off, none⟩, 0, by simp only [aslice]; rw [if_pos ⟨h1, hx1, hx2⟩, if_neg hlx, if_pos h0, hz], ?_, by show h - l ≤ _; omega⟩
          rw [nilc hz, hz]
          rfl
        · refine ⟨some ⟨n, off, some 0⟩, 0, by simp only [aslice]; rw [if_pos ⟨h1, hx1, hx2⟩, if_neg hlx, if_neg h0, hz], ?_, trivial⟩
          rw [nilc hz, hz]
          rfl
  all_goals first | exact hw.elim | skip
  all_goals
    rename_i n off l' c' he
    injection he with ha hb hd
    subst ha; subst hb; subst hd
    obtain ⟨b, hn, hz0⟩ := hw
    have hmc : h ≤ m.getD len ∧ m.getD len ≤ len := by
      cases m with
      | none => simp; omega
      | some x => have := hm x rfl; simp; omega
    refine ⟨some ⟨n, off + l * sz, some 2⟩, h - l, by simp only [aslice, hn]; rw [if_pos ⟨hz0, h1, hmc.1, hmc.2⟩], ?_, ⟨b, hn, hz0⟩⟩
    by_cases hz : h - l = 0
    · rw [nilc hz]
      simp only [slcCells]
      rw [if_pos hz]
    · simp only [slcCells] at hc ⊢
      rw [if_neg (by omega)] at hc
      rw [if_neg hz]
      simp only [hn] at hc ⊢
      split at hc
      · rename_i hle
        injection hc with hc
        subst hc
        rw [if_pos ⟨⟨hz0, by rw [Nat.add_mul_mod_self_right]; exact hle.1.2⟩, by omega⟩, take_drop_part _ _ (len * sz) _ _ (by omega)]
      · cases hc

theorem aslice_sub {H H' : Hp} (hs : Sub H H') {z l h : Nat} {m : Option Nat} {v q : Value} (hq : aslice H z l h m v = some q) : aslice H' z l h m v = some q := by
  unfold aslice at hq ⊢
  split <;> simp_all
  all_goals
    split at hq
    · rename_i b hn
      rw [hs _ _ hn]
      exact hq
    · cases hq

section
variable {P : Program} {NG : Nat} {fr : Fr} {H : Hp} {nk : Nat} {R : Value → Hp → Nat → Prop} {o : Oper}

def MxB (NG : Nat) (fr : Fr) (hi mx : Option Operand) (m : Option Nat) : Prop :=
  match mx, m with
  | none, none => True
  | some y, some n => hi ≠ none ∧ ∃ k, aeval NG fr y = some (.int k (n : Int))
  | _, _ => False
theorem mx_no {hi : Option Operand} : MxB NG fr hi none none := trivial
/-- A cut whose outcome is known. -/
theorem AOp.cutQ {t e : TypeId} {x : Operand} {lo hi mx : Option Operand} {z l h len c0 : Nat} {m : Option Nat} {A0 : Option Addr} {q : Value} (hq : aslice H z l h m (.slice A0 len c0) = some q) (ho : o.op = .slice t x lo hi mx) [hf : SlInfo P t e z] (hx : aeval NG fr x = some (.slice A0 len c0))
    (hlo : bnd NG fr lo 0 l) (hhi : bnd NG fr hi len h) (hmx : MxB NG fr hi mx m)
    (hR : R q H nk) : AOp P NG o ⟨fr, H, nk⟩ R :=
  AOp.slice ho hf.h hx hlo hhi (by cases mx <;> cases m <;> exact hmx) hq hR
theorem bnd_no {x : Option Operand} {d : Nat} (h : x = none) : bnd NG fr x d d := by subst h; rfl
theorem bnd_at {x : Option Operand} {y : Operand} {d n : Nat} {k : IntKind} (h : x = some y) (hy : aeval NG fr y = some (.int k (n : Int))) : bnd NG fr x d n := by subst h; exact ⟨k, _, hy, rfl⟩

/-- Two or three whole numbers: the least, the greatest. -/
theorem AOp.min2 {x y : Operand} {ts : Array TypeId} {k k' : IntKind} {a b : Int} (ho : o.op = .call { callee := .builtin .min, args := #[x, y], argTypes := ts }) (hx : aeval NG fr x = some (.int k a)) (hy : aeval NG fr y = some (.int k' b))
    (hR : R (.int k (min a b)) H nk) : AOp P NG o ⟨fr, H, nk⟩ R := by
  refine AOp.quiet _ hR fun N B w0 G ac w hs => ⟨_, ?_, .plain rfl⟩
  have hx' := (aeval_rel hs hx).int_
  have hy' := (aeval_rel hs hy).int_
  refine run_builtin ho ?_
  have e : (if b < a then b else a) = min a b := by
    split <;> omega
  simp [builtin, Builtin.min_, Builtin.min2, hx', hy', e]
/-- 'string(bytes)'. -/
theorem AOp.toStr {x : Operand} {t t' e : TypeId} {bs : List UInt8} {A : Option Addr} {l c : Nat} (hc : slcCells H 1 (.slice A l c) = some (bs.map bv)) (ho : o.op = .convert t t' x) [hf : SlInfo P t e 1] [he : DescInfo P e (.int .u8)] [hd : DescInfo P t' .string] (hx : aeval NG fr x = some (.slice A l c))
    (hR : R (.string ⟨bs.toArray⟩) H nk) : AOp P NG o ⟨fr, H, nk⟩ R := by
  refine AOp.quiet _ hR fun N B w0 G a w hs => ⟨_, ?_, .plain rfl⟩
  obtain ⟨hu, hz⟩ := slB_inv hf.h
  obtain ⟨A', l2, c2, e1, ⟨_, _, e2⟩, hl, hxx⟩ := slcCells_rel hs.S hc (aeval_rel hs hx)
  injection e2 with _ e2 _
  subst e2
  simp only [execOp, ho, e1]
  rw [Sem.run_bind, run_convert_bytes_string w t t' e A' l c2 hu he.h hd.h]
  have hlen : bs.length = l := by simpa using hl
  have hload : ∀ ad : Addr, A' = some ad → (∀ (j : Nat) (u : Value), (bs.map bv)[j]? = some u → w.cell? (ad.add j) = some u) → (Conv.bytesToString (.slice (some ad) l c2)).run P w = .ok (.string ⟨bs.toArray⟩) w := by
    intro ad _ hcell
    have h1 : (loadCells ad l).run P w = .ok ((bs.map fun b => (b.toNat : Int)).map (Value.int .u8)).toArray w := by
      have := run_loadCells_list (P := P) w ad (bs.map bv) hcell
      rw [List.length_map, hlen] at this
      rw [this, List.map_map]
      rfl
    rw [run_bytesToString w ad l c2 _ h1, foldl_push_bytes]
    have e : (bs.map fun b => (b.toNat : Int)).map (fun n => UInt8.ofNat n.toNat) = bs := by
      rw [List.map_map]
      conv => rhs; rw [← List.map_id bs]
      exact List.map_congr_left fun b _ => by simp
    rw [e]
    simp [ByteArray.empty, ByteArray.emptyWithCapacity]
    rfl
  rcases hxx with ⟨h0, h1⟩ | ⟨ad, cs', rfl, hpos, hl', hcell, hrel⟩
  · have : bs = [] := by simpa using h1
    subst this
    cases A' with
    | none => rfl
    | some ad =>
      rw [hload ad rfl (fun j u hu => by simp at hu)]
      rfl
  · rw [hload ad rfl (fun j u hu => by
      obtain ⟨u', h2, h3⟩ := hrel j u hu
      have hp : isPlain u = true := by
        obtain ⟨x, _, rfl⟩ := List.mem_map.1 (List.mem_of_getElem? hu)
        rfl
      rw [h3.plain_ hp] at h2
      exact hcell j u h2)]
    rfl
end

/-! ### 'append(x, make([]T, n)...)': the translation hands on the number -/
section
variable {P : Program} {NG : Nat} {fr : Fr} {H : Hp} {nk : Nat} {R : Value → Hp → Nat → Prop} {o : Oper}
end

end Go.Ab

set_option linter.unusedVariables false
set_option linter.unusedSimpArgs false
namespace Go.Ab
open Go.RowKit

section
variable {P : Program} {NG : Nat} {fr : Fr} {H : Hp} {nk : Nat} {R : Value → Hp → Nat → Prop} {o : Oper}

theorem sub_put {A B : Hp} {n : Nat} {x : Option Blk} (h : Sub A B) (hb : B n = x) : Sub (upd A n x) B := sub_trans (sub_over0 h) (sub_same hb)
/-! ### A loop that counts, whose rounds pick names -/
def NextG {γ : Type} (i n nk : Nat) (lv : Nat → γ → List (Nat × Value)) (lc : List (Nat × Value)) (Hi : Nat → γ → Hp) (X : Nat → γ → Prop) : St → Prop :=
  fun s' => i < n ∧ nk ≤ s'.k ∧ ∃ g, Has s'.fr (lv (i + 1) g) ∧ Has s'.fr lc ∧ Sub (Hi (i + 1) g) s'.H ∧ X (i + 1) g
theorem NextG.mk {γ : Type} {i n nk k' : Nat} {lv : Nat → γ → List (Nat × Value)} {lc : List (Nat × Value)} {Hi : Nat → γ → Hp} {X : Nat → γ → Prop} {fr : Fr} {H' : Hp} (h1 : i < n) (h2 : nk ≤ k') (g : γ) (h3 : Has fr (lv (i + 1) g)) (h4 : Has fr lc) (h5 : Sub (Hi (i + 1) g) H') (h6 : X (i + 1) g) : NextG i n nk lv lc Hi X ⟨fr, H', k'⟩ :=
  ⟨h1, h2, g, h3, h4, h5, h6⟩
theorem ACode.countG {γ : Type} {Nt : Nat} {Q : Exit → St → Prop} {c : Code} (lv : Nat → γ → List (Nat × Value)) (lc : List (Nat × Value)) (Hi : Nat → γ → Hp) (n : Nat) (X : Nat → γ → Prop) (g0 : γ) (h1 : Has fr (lv 0 g0)) (h2 : Has fr lc) (hs : Sub (Hi 0 g0) H) (hx : X 0 g0)
    (h : ∀ i g k' Hc, i ≤ n → nk ≤ k' → Sub (Hi i g) Hc → (∀ m, k' ≤ m → Hc m = none) → X i g → ACode P NG Nt c (thenA (NextG i n nk lv lc Hi X) Q) ⟨frL (lv i g ++ lc), Hc, k'⟩) :
    ACode P NG Nt (.loop c) Q ⟨fr, H, nk⟩ := by
  refine ACode.loop (fun m s => ∃ i g, i ≤ n ∧ m = n - i ∧ nk ≤ s.k ∧ Has s.fr (lv i g ++ lc) ∧ Sub (Hi i g) s.H ∧ X i g) n ⟨0, g0, Nat.zero_le _, rfl, Nat.le_refl _, has_append h1 h2, hs, hx⟩ ?_
  rintro m ⟨fr', Hc, k'⟩ ⟨i, g, hi, rfl, hk, hh, hsub, hx'⟩
  have := ACode.has hh (ACode.fresh fun hf => h i g k' Hc hi hk hsub hf hx')
  refine this.mono ?_
  intro e s hq
  cases e with
  | normal =>
    obtain ⟨a1, a2, g', a3, a4, a5, a6⟩ := hq
    exact ⟨n - (i + 1), by omega, i + 1, g', a1, rfl, a2, has_append a3 a4, a5, a6⟩
  | _ => exact hq

/-! ### Results -/
/-- A struct or an array, the whole of its block. -/
theorem aloadAll {t : TypeId} {n z : Nat} {b : Blk} {v : Value} [ht : TyInfo P t true z] (hn : H n = some b) (hb : b.cells = v.cells.toList) (hv : v = .agg v.cells) (hz : v.cells.size = z) : aloadVar P H t (ptr n 0 none) = some v := by
  have hl : b.cells.length = z := by rw [hb, Array.length_toList, hz]
  have h2 : aload H z (ptr n 0 none) = some b.cells := by
    simp only [aload, hcells, hn]
    rw [if_pos (by omega), List.drop_zero, ← hl, List.take_length]
  simp only [aloadVar, ht.a, ht.s, h2, Option.map_some]
  rw [hb, Array.toArray_toList, ← hv]
/-- One cell. -/
theorem aload1 {t : TypeId} {n z : Nat} {b : Blk} {v : Value} [ht : TyInfo P t false z] (hn : H n = some b) (hb : b.cells = [v]) : aloadVar P H t (ptr n 0 none) = some v := by
  have h2 : aload H 1 (ptr n 0 none) = some [v] := by
    simp only [aload, hcells, hn, hb]
    rfl
  simp only [aloadVar, ht.a, h2]
theorem RetQ.cell {fn : Func} {H H'' : Hp} {k t ty : Nat} {R : Value → Hp → Nat → Prop} {fr : Fr} {H' : Hp} {k' : Nat} {p v : Value} (hr : fn.results = #[.cell t ty]) (hp : fr t = some p) (hv : aloadVar P H' ty p = some v) (hs : Sub H'' H') (hst : ∀ n b, H n = some b → ∃ b', H'' n = some b') (hR : k ≤ k' → R v H'' k') :
    RetQ P fn H k R .ret ⟨fr, H', k'⟩ := by
  intro hk
  refine ⟨[v], H'', ?_, hs, hst, hR hk⟩
  rw [hr]
  simp [aresults, aresult, hp, hv]

/-! ### Cells that are a list's -/
theorem AOp.shrN {t t' : TypeId} {x y : Operand} {k k' : IntKind} {a : Int} {n : Nat} (ho : o.op = .binOp .shr t x y t') (hx : aeval NG fr x = some (.int k a)) (hy : aeval NG fr y = some (.int k' (n : Int))) (hR : R (.int k (a.fdiv (2 ^ (min ((n : Int)).toNat k.bits)))) H nk) : AOp P NG o ⟨fr, H, nk⟩ R :=
  AOp.bin' ho hx hy (by show (if (n : Int) < 0 then none else some _) = _; exact if_neg (by omega)) hR
theorem AOp.shlN {t t' : TypeId} {x y : Operand} {k k' : IntKind} {a : Int} {n : Nat} (ho : o.op = .binOp .shl t x y t') (hx : aeval NG fr x = some (.int k a)) (hy : aeval NG fr y = some (.int k' (n : Int))) (hR : R (.int k (k.wrap (a * 2 ^ (min ((n : Int)).toNat k.bits)))) H nk) : AOp P NG o ⟨fr, H, nk⟩ R :=
  AOp.bin' ho hx hy (by show (if (n : Int) < 0 then none else some _) = _; exact if_neg (by omega)) hR
theorem bv_ones (l : List UInt8) : ∀ v ∈ l.map bv, v.cells = #[v] := fun v hv => by
  obtain ⟨a, _, rfl⟩ := List.mem_map.1 hv
  rfl
/-- Where element i of a slice lies. -/
theorem slcElV {H : Hp} {i : Nat} {v : Value} {l : List Value} (h : slcCells H 1 v = some l) (hi : i < l.length) : ∃ n off sp, aslcAt H 1 i v = some (ptr n off sp) ∧ PAt H n off sp [l.getD i undef] := by
  obtain ⟨n, off, sp, h1, h2⟩ := slcEl1 (f := fun v => v) (l := l) (by rw [h, List.map_id']) hi
  refine ⟨n, off, sp, h1, ?_⟩
  rw [show l.getD i undef = l[i] by rw [List.getD_eq_getElem?_getD, List.getElem?_eq_getElem hi]; rfl]
  exact h2
/-- Where element i of a slice lies whose cells are a list's. -/
theorem slcElD {H : Hp} {i : Nat} {v : Value} {α : Type} (f : α → Value) {l : List α} (d : α) (h : slcCells H 1 v = some (l.map f)) (hi : i < l.length) :
    ∃ n off sp, aslcAt H 1 i v = some (ptr n off sp) ∧ PAt H n off sp [f (l.getD i d)] := by
  obtain ⟨n, off, sp, h1, h2⟩ := slcEl1 h hi
  refine ⟨n, off, sp, h1, ?_⟩
  rw [show l.getD i d = l[i] by rw [List.getD_eq_getElem?_getD, List.getElem?_eq_getElem hi]; rfl]
  exact h2
end

/-! ### Among arguments -/
section
variable {P : Program} {H : Hp} {t : TypeId} {cs : List Value}
end
end Go.Ab

set_option linter.unusedVariables false
set_option linter.unusedSimpArgs false
namespace Go.Ab
open Go.RowKit

section
variable {P : Program} {NG : Nat} {fr : Fr} {H : Hp} {nk : Nat} {R : Value → Hp → Nat → Prop} {o : Oper} {ops : Array Oper}
/-! ### Guards whose outcome is known -/
theorem aOps_w {Q : St → Prop} {i t : Nat} {rest : List Nat} (ho : ops[i]? = some o) (hd : o.dst = some t) (hw : wantedA ops fr o = some true)
    (h : AOp P NG o ⟨fr, H, nk⟩ fun v H' k' => aOps P NG ops Q rest ⟨upd fr t (some v), H', k'⟩) : aOps P NG ops Q (i :: rest) ⟨fr, H, nk⟩ := by
  refine aOps_step ho hw ?_
  rw [hd]
  exact h
theorem aOps_wq {Q : St → Prop} {i t : Nat} {rest : List Nat} {v : Value} (ho : ops[i]? = some o) (hd : o.dst = some t) (hw : wantedA ops fr o = some true)
    (h : AOp P NG o ⟨fr, H, nk⟩ fun v' H' k' => v' = v ∧ H' = H ∧ nk ≤ k') (hn : ∀ k', nk ≤ k' → aOps P NG ops Q rest ⟨upd fr t (some v), H, k'⟩) : aOps P NG ops Q (i :: rest) ⟨fr, H, nk⟩ := by
  refine aOps_w ho hd hw (h.mono ?_)
  rintro v' H' k' ⟨rfl, rfl, hk⟩
  exact hn k' hk
theorem aOps_wno {Q : St → Prop} {i t : Nat} {rest : List Nat} (ho : ops[i]? = some o) (hd : o.dst = some t) (hw : wantedA ops fr o = some false)
    (h : aOps P NG ops Q rest ⟨upd fr t (some undef), H, nk⟩) : aOps P NG ops Q (i :: rest) ⟨fr, H, nk⟩ := by
  refine aOps_skip ho hw ?_
  rw [hd]
  exact h

/-! ### Texts -/
/-- A slice's literal of elements of one cell, as a block of its own. -/
theorem AOp.buildF1 {t e : TypeId} {len : Nat} {ps : Array (Nat × Operand)} {z : Value} {vals : List Value} (ho : o.op = .buildSlice t len ps) [hf : SlInfo P t e 1] [hz : ZeroInfo P e z] (hb : len ≤ 16777216)
    (hx : aparts NG fr ps = some (vals.zipIdx.map fun p => (p.2, p.1))) (hl : vals.length = len) (h1 : ∀ v ∈ vals, v.cells = #[v])
    (hR : R (.slice (some ⟨nk, 0, none⟩) len len) (upd H nk (some { cells := vals, elem := e, kind := .fix })) (nk + 1)) : AOp P NG o ⟨fr, H, nk⟩ R := by
  have hz0 : (litZ z (len * 1)).size = len := by
    unfold litZ
    split
    · simp; omega
    · simp
  obtain ⟨r, h2, h3⟩ := fill_ones vals 0 (litZ z (len * 1)) h1 (by omega)
  refine AOp.buildSl (sz := 1) (cells := r) ho (by omega) hx h2 ?_
  rw [h3]
  exact hR
/-- A slice of the call's own. -/
theorem SLC.grow {H : Hp} {n sz l : Nat} {b : Blk} (hn : H n = some b) (hz : b.esz = sz) (hl : l * sz = b.cells.length) : SLC H sz (some ⟨n, 0, some 1⟩) l l b.cells := ⟨slcCells_grow hn hz hl, ⟨b, hn, hz⟩⟩
theorem SLC.gb {H : Hp} {n e : Nat} {bs : List UInt8} (hn : H n = some (gbk e bs)) : SLC H 1 (some ⟨n, 0, some 1⟩) bs.length bs.length (bs.map bv) := SLC.grow hn rfl (by simp)
/-! ### The bytes of a constant text -/
/-! ### Variables that hold tables -/
theorem sub_none (X : Hp) : Sub (fun _ => none) X := fun _ _ h => by cases h
end
end Go.Ab
namespace Go.Ab
theorem Cz : (∀ (p : Prop) [Decidable p], (decide p = true) = p) ∧ (∀ (p : Prop) [Decidable p], (decide p = false) ↔ ¬p) ∧ (∀ (α : Type) [BEq α] [LawfulBEq α] (a b : α), ((a == b) = true) ↔ a = b) ∧ (∀ (α : Type) [BEq α] [LawfulBEq α] (a b : α), ((a == b) = false) ↔ a ≠ b) ∧ (∀ (α : Type) (a b : α), (a ≠ b) = ¬(a = b)) ∧ (∀ (α : Type) [BEq α] [LawfulBEq α] (a b : α), ((a != b) = true) ↔ a ≠ b) ∧ (∀ b : Bool, ((!b) = true) = (b = false)) ∧ (∀ b : Bool, ((!b) = false) = (b = true)) ∧ (∀ a b : Int, ¬a < b ↔ b ≤ a) ∧ (∀ a b : Int, ¬a ≤ b ↔ b < a) ∧ (∀ (α : Type) [LT α] (a b : α), a > b ↔ b < a) ∧ (∀ (α : Type) [LE α] (a b : α), a ≥ b ↔ b ≤ a) ∧ (∀ (α : Type) [BEq α] [LawfulBEq α] (a b : α), ((a != b) = false) ↔ a = b) ∧ (∀ a b : Bool, ((!a) = b) = (a = !b)) ∧ ((!true) = false) ∧ ((!false) = true) :=
  ⟨fun p _ => decide_eq_true_eq, fun p _ => decide_eq_false_iff_not, fun α _ _ a b => beq_iff_eq, fun α _ _ a b => beq_eq_false_iff_ne, fun α a b => ne_eq a b, fun α _ _ a b => bne_iff_ne, fun b => Bool.not_eq_true' b, fun b => Bool.not_eq_false' b, fun a b => Int.not_lt, fun a b => Int.not_le, fun α _ a b => gt_iff_lt, fun α _ a b => ge_iff_le, fun α _ _ a b => bne_eq_false_iff_eq, fun a b => propext Bool.not_eq_eq_eq_not, rfl, rfl⟩
section
variable {P : Program} {NG : Nat} {fr : Fr} {H : Hp} {nk : Nat} {o : Oper} {ops : Array Oper} {Q : St → Prop} {i t : Nat} {rest : List Nat} {x : Operand} {v : Value}
theorem Mz (hk : aOps P NG ops Q rest ⟨upd fr t (some v), H, nk⟩) (ho : ops[i]? = some o := by rfl) (hd : o.dst = some t := by rfl) (hg : o.guard = none := by rfl) (hm : o.op = .move x := by rfl) (hx : aeval NG fr x = some v := by rfl) : aOps P NG ops Q (i :: rest) ⟨fr, H, nk⟩ := aOps_1 ho hd hg (AOp.move' (.inl hm) hx hk)
theorem Nz (hk : aOps P NG ops Q rest ⟨upd fr t (some v), H, nk⟩) (ho : ops[i]? = some o := by rfl) (hd : o.dst = some t := by rfl) (hg : o.guard = none := by rfl) (hm : o.op = .assign x := by rfl) (hx : aeval NG fr x = some v := by rfl) : aOps P NG ops Q (i :: rest) ⟨fr, H, nk⟩ := aOps_1 ho hd hg (AOp.move' (.inr hm) hx hk)
theorem Fz {tt : TypeId} {f off z n d : Nat} {agg : Bool} (hk : aOps P NG ops Q rest ⟨upd fr t (some (.pointer (some ⟨n, d + off, none⟩))), H, nk⟩) (ho : ops[i]? = some o := by rfl) (hd : o.dst = some t := by rfl) (hg : o.guard = none := by rfl) (hm : o.op = .fieldAddr tt x f := by rfl) (hf : FieldInfo P tt f off agg z := by infer_instance) (hz : 0 < z := by decide) (hx : aeval NG fr x = some (.pointer (some ⟨n, d, none⟩)) := by rfl) : aOps P NG ops Q (i :: rest) ⟨fr, H, nk⟩ := aOps_1 ho hd hg (AOp.fieldAddr' hm hz hx hk)
end
theorem Rz {P : Program} {NG N : Nat} {Q : Exit → St → Prop} {fr : Fr} {H : Hp} {nk : Nat} {id : Nat} {ops : Array Oper} (l : List Nat) (hd : dstsOk N ops = true) (hl : List.range ops.size = l) (h : aOps P NG ops (Q .normal) l ⟨fr, H, nk⟩) : ACode P NG N (.region id ops false) Q ⟨fr, H, nk⟩ := ACode.region' l hd hl h
theorem Sz {P : Program} {NG N : Nat} {Q : Exit → St → Prop} {s : St} {x y : Code} (h : ACode P NG N x (thenA (ACode P NG N y Q) Q) s) : ACode P NG N (.seq x y) Q s := ACode.seq h
section
variable {P : Program} {NG : Nat} {fr : Fr} {H : Hp} {nk : Nat} {o : Oper} {ops : Array Oper} {Q : St → Prop} {i t : Nat} {rest : List Nat}
theorem Ez (h : Q ⟨fr, H, nk⟩) : aOps P NG ops Q [] ⟨fr, H, nk⟩ := h
theorem Oz (ho : ops[i]? = some o) (hd : o.dst = some t) (hg : o.guard = none) (h : AOp P NG o ⟨fr, H, nk⟩ fun v H' k' => aOps P NG ops Q rest ⟨upd fr t (some v), H', k'⟩) : aOps P NG ops Q (i :: rest) ⟨fr, H, nk⟩ := aOps_1 ho hd hg h
end
theorem Wz {p : Prop} (h : p := by omega) : p := h
theorem Dz {p : Prop} (h : p := by decide) : p := h
theorem Kz {p : Prop} (h : p := by kernel_rfl) : p := h
theorem Uz {X : Hp} {n m : Nat} {b c : Option Blk} (h : X m = c) (hn : m ≠ n := by omega) : upd X n b m = c := (upd_other _ _ hn).trans h
theorem Xz {fr : Fr} {l : List (Nat × Value)} (h : Has fr l := by repeat (first | exact Has.nil | refine Has.cons rfl ?_)) : Has fr l := h
theorem Vz {α β : Type} {a : α} {b : β} {n : Nat} : a = a ∧ b = b ∧ n ≤ n := ⟨rfl, rfl, Nat.le_refl _⟩
theorem Iz {R : Value → Hp → Nat → Prop} : ∀ v H' k', R v H' k' → R v H' k' := fun _ _ _ h => h
theorem Tz {α β γ : Type} {a : α} {b : β} {c : γ} : a = a ∧ b = b ∧ c = c := ⟨rfl, rfl, rfl⟩
end Go.Ab
