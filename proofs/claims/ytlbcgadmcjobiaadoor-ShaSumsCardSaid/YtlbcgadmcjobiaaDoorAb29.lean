/- Abstract states over the model, part 29: loops whose rounds make new blocks; results that lie in a variable; cells that are a list's; a slice among arguments. No condition; over any program. -/
import Derived.Test.YtlbcgadmcjobiaaDoorAb28
set_option linter.unusedVariables false
set_option linter.unusedSimpArgs false
namespace Go.Ab
open Go.RowKit

section
variable {P : Program} {NG : Nat} {fr : Fr} {H : Hp} {nk : Nat} {R : Value → Hp → Nat → Prop} {o : Oper}

theorem sub_put {A B : Hp} {n : Nat} {x : Option Blk} (h : Sub A B) (hb : B n = x) : Sub (upd A n x) B := sub_trans (sub_over0 h) (sub_same hb)
/-! ### A loop that counts, whose rounds pick names -/
def NextG {γ : Type} (i n nk : Nat) (lv : Nat → γ → List (Nat × Value)) (lc : List (Nat × Value)) (Hi : Nat → γ → Hp) (X : Nat → γ → Prop) : St → Prop :=
  fun s' => i < n ∧ nk ≤ s'.k ∧ ∃ g, Has s'.fr (lv (i + 1) g) ∧ Has s'.fr lc ∧ Sub (Hi (i + 1) g) s'.H ∧ X (i + 1) g
theorem NextG.mk {γ : Type} {i n nk k' : Nat} {lv : Nat → γ → List (Nat × Value)} {lc : List (Nat × Value)} {Hi : Nat → γ → Hp} {X : Nat → γ → Prop} {fr : Fr} {H' : Hp} (h1 : i < n) (h2 : nk ≤ k') (g : γ) (h3 : Has fr (lv (i + 1) g)) (h4 : Has fr lc) (h5 : Sub (Hi (i + 1) g) H') (h6 : X (i + 1) g) : NextG i n nk lv lc Hi X ⟨fr, H', k'⟩ :=
  ⟨h1, h2, g, h3, h4, h5, h6⟩
theorem ACode.countG {γ : Type} {Nt : Nat} {Q : Exit → St → Prop} {c : Code} (lv : Nat → γ → List (Nat × Value)) (lc : List (Nat × Value)) (Hi : Nat → γ → Hp) (n : Nat) (X : Nat → γ → Prop) (g0 : γ) (h1 : Has fr (lv 0 g0)) (h2 : Has fr lc) (hs : Sub (Hi 0 g0) H) (hx : X 0 g0)
    (h : ∀ i g k' Hc, i ≤ n → nk ≤ k' → Sub (Hi i g) Hc → (∀ m, k' ≤ m → Hc m = none) → X i g → ACode P NG Nt c (thenA (NextG i n nk lv lc Hi X) Q) ⟨frL (lv i g ++ lc), Hc, k'⟩) :
    ACode P NG Nt (.loop c) Q ⟨fr, H, nk⟩ := by
  refine ACode.loop (fun m s => ∃ i g, i ≤ n ∧ m = n - i ∧ nk ≤ s.k ∧ Has s.fr (lv i g ++ lc) ∧ Sub (Hi i g) s.H ∧ X i g) n ⟨0, g0, Nat.zero_le _, rfl, Nat.le_refl _, has_append h1 h2, hs, hx⟩ ?_
  rintro m ⟨fr', Hc, k'⟩ ⟨i, g, hi, rfl, hk, hh, hsub, hx'⟩
  have := ACode.has hh (ACode.fresh fun hf => h i g k' Hc hi hk hsub hf hx')
  refine this.mono ?_
  intro e s hq
  cases e with
  | normal =>
    obtain ⟨a1, a2, g', a3, a4, a5, a6⟩ := hq
    exact ⟨n - (i + 1), by omega, i + 1, g', a1, rfl, a2, has_append a3 a4, a5, a6⟩
  | _ => exact hq

/-! ### Results -/
/-- A struct or an array, the whole of its block. -/
theorem aloadAll {t : TypeId} {n z : Nat} {b : Blk} {v : Value} [ht : TyInfo P t true z] (hn : H n = some b) (hb : b.cells = v.cells.toList) (hv : v = .agg v.cells) (hz : v.cells.size = z) : aloadVar P H t (ptr n 0 none) = some v := by
  have hl : b.cells.length = z := by rw [hb, Array.length_toList, hz]
  have h2 : aload H z (ptr n 0 none) = some b.cells := by
    simp only [aload, hcells, hn]
    rw [if_pos (by omega), List.drop_zero, ← hl, List.take_length]
  simp only [aloadVar, ht.a, ht.s, h2, Option.map_some]
  rw [hb, Array.toArray_toList, ← hv]
/-- One cell. -/
theorem aload1 {t : TypeId} {n z : Nat} {b : Blk} {v : Value} [ht : TyInfo P t false z] (hn : H n = some b) (hb : b.cells = [v]) : aloadVar P H t (ptr n 0 none) = some v := by
  have h2 : aload H 1 (ptr n 0 none) = some [v] := by
    simp only [aload, hcells, hn, hb]
    rfl
  simp only [aloadVar, ht.a, h2]
/-- Results, by what each is. -/
theorem RetQ.res {fn : Func} {H H'' : Hp} {k : Nat} {R : Value → Hp → Nat → Prop} {fr : Fr} {H' : Hp} {k' : Nat} {xs : List Value} (hx : aresults P fn.results.toList fr H' = some xs) (hs : Sub H'' H') (hst : ∀ n b, H n = some b → ∃ b', H'' n = some b') (hR : k ≤ k' → R (packA xs) H'' k') :
    RetQ P fn H k R .ret ⟨fr, H', k'⟩ :=
  fun hk => ⟨xs, H'', hx, hs, hst, hR hk⟩
theorem RetQ.cell {fn : Func} {H H'' : Hp} {k t ty : Nat} {R : Value → Hp → Nat → Prop} {fr : Fr} {H' : Hp} {k' : Nat} {p v : Value} (hr : fn.results = #[.cell t ty]) (hp : fr t = some p) (hv : aloadVar P H' ty p = some v) (hs : Sub H'' H') (hst : ∀ n b, H n = some b → ∃ b', H'' n = some b') (hR : k ≤ k' → R v H'' k') :
    RetQ P fn H k R .ret ⟨fr, H', k'⟩ := by
  intro hk
  refine ⟨[v], H'', ?_, hs, hst, hR hk⟩
  rw [hr]
  simp [aresults, aresult, hp, hv]

/-! ### Cells that are a list's -/
theorem map_getD {α : Type} (f : α → Value) (l : List α) (d : α) {i : Nat} (hi : i < l.length) : (l.map f)[i]? = some (f (l.getD i d)) := by
  rw [List.getElem?_map, List.getElem?_eq_getElem hi, List.getD_eq_getElem?_getD, List.getElem?_eq_getElem hi]
  rfl
theorem AOp.loadM {α : Type} (f : α → Value) (l : List α) (d : α) {t : TypeId} {x : Operand} {n off z : Nat} {b : Blk} (hn : H n = some b) (hb : b.cells = l.map f) (hi : off < l.length) (ho : o.op = .load t x) [ht : TyInfo P t false z] (hx : aeval NG fr x = some (.pointer (some ⟨n, off, none⟩))) (hR : R (f (l.getD off d)) H nk) : AOp P NG o ⟨fr, H, nk⟩ R :=
  AOp.load1 ho hx hn (by rw [hb]; exact map_getD f l d hi) hR
theorem AOp.storeM {α : Type} (f : α → Value) (l : List α) (v : α) {t : TypeId} {x y : Operand} {n off : Nat} {b : Blk} (hn : H n = some b) (hb : b = { cells := l.map f, elem := b.elem, kind := .fix }) (hi : off < l.length) (hc : (f v).cells = #[f v]) (h1 : (f v).oneCell' = true) (ho : o.op = .store t x y) [ht : TyInfo P t false 1] (hx : aeval NG fr x = some (.pointer (some ⟨n, off, none⟩)))
    (hy : aeval NG fr y = some (f v)) (hR : R undef (upd H n (some { cells := (l.set off v).map f, elem := b.elem, kind := .fix })) nk) : AOp P NG o ⟨fr, H, nk⟩ R := by
  have hbc : b.cells = l.map f := by rw [hb]
  have hbk : b.kind = .fix := by rw [hb]
  have hbe : b.esz = 1 := by rw [hb]
  refine AOp.store1 ho hx hy hn hbk hc h1 (by rw [hbc, List.length_map]; exact hi) ?_
  rw [hbc, ← List.map_set, show ({ b with cells := (l.set off v).map f } : Blk) = { cells := (l.set off v).map f, elem := b.elem, kind := .fix } by rw [← hbk, ← hbe]]
  exact hR
theorem AOp.indexM {α : Type} (f : α → Value) (l : List α) (d : α) {t : TypeId} {x y : Operand} {n i : Nat} {ik : IntKind} (hi : i < l.length) (hn : l.length = n) (ho : o.op = .index t x y) [hf : ArrInfo P t n false 1] (hx : aeval NG fr x = some (.agg (l.map f).toArray)) (hy : aeval NG fr y = some (.int ik (i : Int)))
    (hR : R (f (l.getD i d)) H nk) : AOp P NG o ⟨fr, H, nk⟩ R :=
  AOp.index_arr' ho hx hy (by omega) (by omega) (by
    show (if false = true then _ else (l.map f).toArray[(i : Int).toNat * 1]?) = _
    rw [if_neg (by decide), Int.toNat_natCast, Nat.mul_one]
    simpa using map_getD f l d hi) hR
theorem AOp.shrN {t t' : TypeId} {x y : Operand} {k k' : IntKind} {a : Int} {n : Nat} (ho : o.op = .binOp .shr t x y t') (hx : aeval NG fr x = some (.int k a)) (hy : aeval NG fr y = some (.int k' (n : Int))) (hR : R (.int k (a.fdiv (2 ^ (min ((n : Int)).toNat k.bits)))) H nk) : AOp P NG o ⟨fr, H, nk⟩ R :=
  AOp.bin' ho hx hy (by show (if (n : Int) < 0 then none else some _) = _; exact if_neg (by omega)) hR
theorem AOp.shlN {t t' : TypeId} {x y : Operand} {k k' : IntKind} {a : Int} {n : Nat} (ho : o.op = .binOp .shl t x y t') (hx : aeval NG fr x = some (.int k a)) (hy : aeval NG fr y = some (.int k' (n : Int))) (hR : R (.int k (k.wrap (a * 2 ^ (min ((n : Int)).toNat k.bits)))) H nk) : AOp P NG o ⟨fr, H, nk⟩ R :=
  AOp.bin' ho hx hy (by show (if (n : Int) < 0 then none else some _) = _; exact if_neg (by omega)) hR
/-- An array of elements of one cell. -/
theorem AOp.buildA1 {t : TypeId} {ps : Array (Nat × Operand)} {z : Value} {n : Nat} {agg : Bool} {vals : List Value} (ho : o.op = .build t ps) [hz : ZeroInfo P t z] [ha : ArrInfo P t n agg 1]
    (hx : aparts NG fr ps = some (vals.zipIdx.map fun p => (p.2, p.1))) (hl : vals.length = z.cells.size) (h1 : ∀ v ∈ vals, v.cells = #[v]) (hR : R (.agg vals.toArray) H nk) : AOp P NG o ⟨fr, H, nk⟩ R := by
  obtain ⟨r, h2, h3⟩ := fill_ones vals 0 z.cells h1 (by omega)
  refine AOp.buildA (cells := r) ho hx h2 ?_
  have : r = vals.toArray := Array.toList_inj.1 (by rw [h3]; simp)
  rw [this]
  exact hR
theorem wv_one {a : W32} : (wv a).cells = #[wv a] := rfl
theorem wv_ones (l : List W32) : ∀ v ∈ l.map wv, v.cells = #[v] := fun v hv => by
  obtain ⟨a, _, rfl⟩ := List.mem_map.1 hv
  rfl
theorem wv_oneC (l : List W32) : ∀ u ∈ l.map wv, u.oneCell' = true := fun u hu => by
  obtain ⟨a, _, rfl⟩ := List.mem_map.1 hu
  rfl
theorem bv_ones (l : List UInt8) : ∀ v ∈ l.map bv, v.cells = #[v] := fun v hv => by
  obtain ⟨a, _, rfl⟩ := List.mem_map.1 hv
  rfl
/-- Where element i of an array lies. -/
theorem AOp.indexA {t : TypeId} {x y : Operand} {n m i : Nat} {agg : Bool} {ik : IntKind} (hi : i < n) (ho : o.op = .indexAddr t x y) [hf : ArrInfo P t n agg 1] (hx : aeval NG fr x = some (.pointer (some ⟨m, 0, none⟩))) (hy : aeval NG fr y = some (.int ik (i : Int)))
    (hR : R (.pointer (some ⟨m, i, none⟩)) H nk) : AOp P NG o ⟨fr, H, nk⟩ R :=
  AOp.indexAddr_arr' ho hx hy (by omega) (by omega) (by rw [Int.toNat_natCast, Nat.mul_one, Nat.zero_add]; exact hR)
/-- Where element i of a slice lies. -/
theorem slcElV {H : Hp} {i : Nat} {v : Value} {l : List Value} (h : slcCells H 1 v = some l) (hi : i < l.length) : ∃ n off sp, aslcAt H 1 i v = some (ptr n off sp) ∧ PAt H n off sp [l.getD i undef] := by
  obtain ⟨n, off, sp, h1, h2⟩ := slcEl1 (f := fun v => v) (l := l) (by rw [h, List.map_id']) hi
  refine ⟨n, off, sp, h1, ?_⟩
  rw [show l.getD i undef = l[i] by rw [List.getD_eq_getElem?_getD, List.getElem?_eq_getElem hi]; rfl]
  exact h2
/-- Zeros behind bytes. -/
theorem AOp.appendZB {x y : Operand} {t tx e : TypeId} {bytes n m : Nat} {bs : List UInt8} {k kn : IntKind} (ho : o.op = .call { callee := .builtin .append, args := #[x, y], argTypes := #[t, tx] }) [he : ElemInfo P t e 1 bytes] [hz : ZeroInfo P e (.int .u8 0)] [htx : DescInfo P tx (.int kn)]
    (hx : aeval NG fr x = some (gsl n bs.length)) (hy : aeval NG fr y = some (.int k (m : Int))) (hn : H n = some (gbk e bs)) (hb : (bs.length + m) * bytes ≤ 140737488355328) (h63 : bs.length + m ≤ 9223372036854775807)
    (hR : R (gsl n (bs ++ List.replicate m 0).length) (upd H n (some (gbk e (bs ++ List.replicate m 0)))) nk) : AOp P NG o ⟨fr, H, nk⟩ R := by
  refine AOp.appendZ (z := .int .u8 0) (m := m) ho hx hy hn rfl rfl rfl (by simp) hb h63 ?_
  have e1 : (gbk e bs).cells ++ (Builtin.zeroCells (Value.int .u8 0).cells m).toList = (bs ++ List.replicate m 0).map bv := by
    rw [show (Value.int .u8 0).cells = #[.int .u8 0] from rfl, zeroCells_one]
    simp [bv]
  have e2 : bs.length + m = (bs ++ List.replicate m (0 : UInt8)).length := by simp
  rw [e1, e2]
  exact hR
/-- Where element i of a slice lies whose cells are a list's. -/
theorem slcElD {H : Hp} {i : Nat} {v : Value} {α : Type} (f : α → Value) {l : List α} (d : α) (h : slcCells H 1 v = some (l.map f)) (hi : i < l.length) :
    ∃ n off sp, aslcAt H 1 i v = some (ptr n off sp) ∧ PAt H n off sp [f (l.getD i d)] := by
  obtain ⟨n, off, sp, h1, h2⟩ := slcEl1 h hi
  refine ⟨n, off, sp, h1, ?_⟩
  rw [show l.getD i d = l[i] by rw [List.getD_eq_getElem?_getD, List.getElem?_eq_getElem hi]; rfl]
  exact h2
/-- A string's byte. -/
theorem AOp.indexS {t : TypeId} {x y : Operand} {b : ByteArray} {i : Nat} {ik : IntKind} (hi : i < b.size) (ho : o.op = .index t x y) [hf : DescInfo P t .string]
    (hx : aeval NG fr x = some (.string b)) (hy : aeval NG fr y = some (.int ik (i : Int))) (hR : R (bv (b.data.toList.getD i 0)) H nk) : AOp P NG o ⟨fr, H, nk⟩ R := by
  refine AOp.index_str ho hf.h hx hy (by omega) (by rw [Int.toNat_natCast]; exact hi) ?_
  have e : (b[(i : Int).toNat]'(by rw [Int.toNat_natCast]; exact hi)) = b.data.toList.getD i 0 := by
    have hi' : i < b.data.toList.length := by simpa using hi
    rw [List.getD_eq_getElem?_getD, List.getElem?_eq_getElem hi']
    simp [ByteArray.getElem_eq_getElem_data]
  rw [e]
  exact hR
end

/-! ### Among arguments -/
section
variable {P : Program} {H : Hp} {t : TypeId} {cs : List Value}
theorem AD.SLC_inv {e : TypeId} {z : Nat} [ht : SlInfo P t e z] (h : AD P H (.one t) cs) : ∃ A l c cells, cs = [.slice A l c] ∧ SLC H z A l c cells ∧ cells.length = l * z ∧ l ≤ maxLen ∧ AD P H (.many (List.replicate l e)) cells := by
  obtain ⟨hu, hs⟩ := slB_inv ht.h
  have hz := cellsOf_size hs
  cases h with
  | nilSlc ht' => exact ⟨none, 0, 0, [], rfl, SLC.nil, by simp, by simp, .nil⟩
  | @slc0 _ e' n c ht' hm => exact ⟨some ⟨n, 0, none⟩, 0, c, [], rfl, ⟨rfl, Nat.zero_le _⟩, by simp, by simp, .nil⟩
  | @slc _ e' n l c cells ht' hn hl h0 hc hm h' =>
    rw [hu] at ht'
    injection ht' with ht'
    injection ht' with ht'
    subst ht'
    rw [hz] at hl
    refine ⟨some ⟨n, 0, none⟩, l, c, cells, rfl, ⟨?_, hc⟩, hl, Nat.le_trans hc hm, h'⟩
    simp only [slcCells, hn]
    rw [if_neg (by omega), if_pos (by omega), List.drop_zero, ← hl, List.take_length]
  | _ => simp_all
end
end Go.Ab
