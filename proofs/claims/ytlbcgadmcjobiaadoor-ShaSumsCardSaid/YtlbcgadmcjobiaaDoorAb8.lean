/- Abstract states over the model, part 8: what a slice holds; append, copy, make, conversions as operations. No condition; over any program. -/
import Derived.Test.YtlbcgadmcjobiaaDoorAb7
import Derived.Lib.ConvBytes
set_option linter.unusedVariables false
set_option linter.unusedSimpArgs false
namespace Go.Ab
open Go.RowKit

/-- The cells that a slice shows. -/
def slcCells (H : Hp) (sz : Nat) : Value → Option (List Value)
  | .slice none 0 0 => some []
  | .slice (some ⟨n, off, none⟩) l _ => if l = 0 then some [] else match H n with
    | some b => if off + l * sz ≤ b.cells.length then some ((b.cells.drop off).take (l * sz)) else none
    | none => none
  | .slice (some ⟨n, off, some 0⟩) l _ => if l = 0 then some [] else match H n with
    | some b => if off + l * sz ≤ b.cells.length then some ((b.cells.drop off).take (l * sz)) else none
    | none => none
  | .slice (some ⟨n, off, some 1⟩) l _ => if l = 0 then some [] else match H n with
    | some b => if (b.esz = sz ∧ off % sz = 0) ∧ off + l * sz ≤ b.cells.length then some ((b.cells.drop off).take (l * sz)) else none
    | none => none
  | .slice (some ⟨n, off, some 2⟩) l _ => if l = 0 then some [] else match H n with
    | some b => if (b.esz = sz ∧ off % sz = 0) ∧ off + l * sz ≤ b.cells.length then some ((b.cells.drop off).take (l * sz)) else none
    | none => none
  | _ => none

section
variable {P : Program} {NG N B : Nat} {w0 w : World} {G : GMap} {H : Hp} {k : Nat}

theorem slcCells_rel {sz : Nat} {v v' : Value} {cs : List Value} (hS : SRel NG B w0 G H k w) (h : slcCells H sz v = some cs) (hv : VRel G v v') :
    ∃ A l c, v' = .slice A l c ∧ (∃ A0 c0, v = .slice A0 l c0) ∧ cs.length = l * sz ∧ ((l = 0 ∧ cs = []) ∨ ∃ (ad : Addr) (cs' : List Value), A = some ad ∧ 0 < l ∧ cs'.length = l * sz ∧ (∀ (j : Nat) (u : Value), cs'[j]? = some u → w.cell? (ad.add j) = some u) ∧
      ∀ (j : Nat) (u : Value), cs[j]? = some u → ∃ u', cs'[j]? = some u' ∧ VRel G u u') := by
  have main : ∀ (n off l : Nat) (b : Blk) (ad : Addr), H n = some b → off + l * sz ≤ b.cells.length → cs = (b.cells.drop off).take (l * sz) → (∀ j u, j < l * sz → b.cells[off + j]? = some u → ∃ u', w.cell? (ad.add j) = some u' ∧ VRel G u u') →
      cs.length = l * sz ∧ ∃ cs' : List Value, cs'.length = l * sz ∧ (∀ (j : Nat) (u : Value), cs'[j]? = some u → w.cell? (ad.add j) = some u) ∧ ∀ (j : Nat) (u : Value), cs[j]? = some u → ∃ u', cs'[j]? = some u' ∧ VRel G u u' := by
    intro n off l b ad hn hle hcs hat
    subst hcs
    have hlen : ((b.cells.drop off).take (l * sz)).length = l * sz := by rw [List.length_take, List.length_drop]; omega
    refine ⟨hlen, (List.range (l * sz)).map (fun j => (w.cell? (ad.add j)).getD undef), by simp, ?_, ?_⟩
    · intro j u hu
      rw [List.getElem?_map] at hu
      rcases Nat.lt_or_ge j (l * sz) with hj | hj
      · rw [List.getElem?_range hj] at hu
        simp only [Option.map_some, Option.some.injEq] at hu
        obtain ⟨u', h1, _⟩ := hat j (b.cells[off + j]'(by omega)) hj (List.getElem?_eq_getElem (by omega))
        rw [h1] at hu ⊢
        simpa using hu
      · rw [List.getElem?_eq_none (by simpa using hj)] at hu
        cases hu
    · intro j u hu
      have hj : j < l * sz := by have := (List.getElem?_eq_some_iff.1 hu).1; omega
      rw [List.getElem?_take, if_pos hj, List.getElem?_drop] at hu
      obtain ⟨u', h1, h2⟩ := hat j u hj hu
      refine ⟨u', ?_, h2⟩
      rw [List.getElem?_map, List.getElem?_range hj]
      simp [h1]
  cases hv with
  | plain hp =>
    unfold slcCells at h
    split at h
    · injection h with h
      subst h
      exact ⟨none, 0, 0, rfl, ⟨_, _, rfl⟩, by simp, .inl ⟨rfl, rfl⟩⟩
    all_goals simp_all [isPlain]
  | @exact n off l c base hg =>
    simp only [slcCells] at h
    by_cases h0 : l = 0
    · rw [if_pos h0] at h
      injection h with h
      subst h
      exact ⟨_, l, c, rfl, ⟨_, _, rfl⟩, by simp [h0], .inl ⟨h0, rfl⟩⟩
    · rw [if_neg h0] at h
      cases hn : H n with
      | none => simp [hn] at h
      | some b =>
        simp only [hn] at h
        split at h
        · rename_i hle
          injection h with h
          obtain ⟨e1, cs', e2, e3, e4⟩ := main n off l b (base.add off) hn hle h.symm (fun j u hj hu => by rw [add_add]; exact load_at hS hn hg hu)
          exact ⟨_, l, c, rfl, ⟨_, _, rfl⟩, e1, .inr ⟨_, cs', rfl, by omega, e2, e3, e4⟩⟩
        · cases h
  | @loose n off l c base A hg hc hA =>
    simp only [slcCells] at h
    by_cases h0 : l = 0
    · rw [if_pos h0] at h
      injection h with h
      subst h
      exact ⟨_, l, c, rfl, ⟨_, _, rfl⟩, by simp [h0], .inl ⟨h0, rfl⟩⟩
    · rw [if_neg h0] at h
      cases hn : H n with
      | none => simp [hn] at h
      | some b =>
        simp only [hn] at h
        split at h
        · rename_i hle
          injection h with h
          obtain ⟨e1, cs', e2, e3, e4⟩ := main n off l b (base.add off) hn hle h.symm (fun j u hj hu => by rw [add_add]; exact load_at hS hn hg hu)
          exact ⟨_, l, c, rfl, ⟨_, _, rfl⟩, e1, .inr ⟨_, cs', hA (by omega), by omega, e2, e3, e4⟩⟩
        · cases h
  | @grow n z' l c rows A hg hl =>
    simp only [slcCells] at h
    by_cases h0 : l = 0
    · rw [if_pos h0] at h
      injection h with h
      subst h
      exact ⟨_, l, c, rfl, ⟨_, _, rfl⟩, by simp [h0], .inl ⟨h0, rfl⟩⟩
    · rw [if_neg h0] at h
      cases hn : H n with
      | none => simp [hn] at h
      | some b =>
        simp only [hn] at h
        split at h
        · rename_i hle
          injection h with h
          obtain ⟨e, hz0, _, _⟩ := row_facts hS hn hg
          have hz : z' = sz := e.trans hle.1.1
          subst hz
          rcases hl with h3 | ⟨r, hr, rfl, hk, hlc, _⟩
          · omega
          · obtain ⟨e1, cs', e2, e3, e4⟩ := main n 0 l b ⟨r.block, 0, none⟩ hn hle.2 h.symm (fun j u hj hu => by rw [add_plain]; exact load_row hS hn hg hr hu (by omega))
            exact ⟨_, l, c, rfl, ⟨_, _, rfl⟩, e1, .inr ⟨_, cs', rfl, by omega, e2, e3, e4⟩⟩
        · cases h
  | @gcut n off z' l c rows A hg hl =>
    simp only [slcCells] at h
    by_cases h0 : l = 0
    · rw [if_pos h0] at h
      injection h with h
      subst h
      exact ⟨_, l, c, rfl, ⟨_, _, rfl⟩, by simp [h0], .inl ⟨h0, rfl⟩⟩
    · rw [if_neg h0] at h
      cases hn : H n with
      | none => simp [hn] at h
      | some b =>
        simp only [hn] at h
        split at h
        · rename_i hle
          injection h with h
          obtain ⟨e, hz0, _, _⟩ := row_facts hS hn hg
          have hz : z' = sz := e.trans hle.1.1
          subst hz
          obtain ⟨r, hr, rfl, hk⟩ := hl.2 (by omega)
          obtain ⟨e1, cs', e2, e3, e4⟩ := main n off l b ⟨r.block, off, none⟩ hn hle.2 h.symm (fun j u hj hu => by rw [add_plain]; exact load_row hS hn hg hr hu (by omega))
          exact ⟨_, l, c, rfl, ⟨_, _, rfl⟩, e1, .inr ⟨_, cs', rfl, by omega, e2, e3, e4⟩⟩
        · cases h
  | _ => simp [slcCells] at h

/-- What is appended: a slice's elements, or a string's bytes. -/
def srcOf (H : Hp) (sz : Nat) : Value → Option (Nat × List Value)
  | .slice A l c => (slcCells H sz (.slice A l c)).map fun cs => (l, cs)
  | .string s => if sz = 1 then some (s.size, byteCells s) else none
  | _ => none

/-- The second argument's type is a slice's or a string's, as the value is. -/
def srcOk (P : Program) (tx : TypeId) (y : Value) : Bool :=
  match P.underlying tx, y with
  | some (.slice _), .slice _ _ _ => true
  | some .string, .string _ => true
  | _, _ => false

theorem srcOk_slice {P : Program} {tx : TypeId} {A : Option Addr} {l c : Nat} (h : srcOk P tx (.slice A l c) = true) : ∃ e', P.underlying tx = some (.slice e') := by
  unfold srcOk at h
  split at h
  · exact ⟨_, by assumption⟩
  · simp_all
  · cases h
theorem srcOk_string {P : Program} {tx : TypeId} {b : ByteArray} (h : srcOk P tx (.string b) = true) : P.underlying tx = some .string := by
  unfold srcOk at h
  split at h
  · simp_all
  · assumption
  · cases h

theorem srcOf_rel {sz m : Nat} {tx : TypeId} {y y' : Value} {news : List Value} (hS : SRel NG B w0 G H k w) (h : srcOf H sz y = some (m, news)) (hv : VRel G y y') (ht : srcOk P tx y = true)
    (h1 : ∀ u ∈ news, u.oneCell' = true) : ∃ news', Src P sz tx y' m news' w ∧ news.length = news'.length ∧ ∀ (j : Nat) (u : Value), news[j]? = some u → ∃ u', news'[j]? = some u' ∧ VRel G u u' := by
  cases y with
  | slice A l c =>
    simp only [srcOf] at h
    cases hc : slcCells H sz (.slice A l c) with
    | none => simp [hc] at h
    | some cs =>
      simp [hc] at h
      obtain ⟨rfl, rfl⟩ := h
      obtain ⟨e', hk⟩ := srcOk_slice ht
      obtain ⟨A', l', c', e1, ⟨_, _, e2⟩, hl, hx⟩ := slcCells_rel hS hc hv
      injection e2 with _ e2 _
      subst e2
      subst e1
      rcases hx with ⟨h0, rfl⟩ | ⟨ad, cs', rfl, hpos, hl', hcell, hrel⟩
      · subst h0
        refine ⟨[], ?_, rfl, fun j u hu => by simp at hu⟩
        cases A' with
        | none => exact Src.ofNil w hk c'
        | some ad => exact Src.ofSlice w hk ad 0 c' [] (by simp) (fun j u hu => by simp at hu) (fun u hu => by simp at hu)
      · refine ⟨cs', Src.ofSlice w hk ad l c' cs' hl' hcell (fun u hu => ?_), by omega, hrel⟩
        obtain ⟨i, hi⟩ := List.mem_iff_getElem?.1 hu
        have hlt : i < cs.length := by have := (List.getElem?_eq_some_iff.1 hi).1; omega
        obtain ⟨u', h2, h3⟩ := hrel i _ (List.getElem?_eq_getElem hlt)
        rw [hi] at h2
        injection h2 with h2
        subst h2
        rw [h3.oneCell]
        exact h1 _ (List.getElem_mem hlt)
  | string s =>
    simp only [srcOf] at h
    split at h
    · rename_i hz
      subst hz
      injection h with h
      simp only [Prod.mk.injEq] at h
      obtain ⟨rfl, rfl⟩ := h
      have := hv.string_
      subst this
      refine ⟨byteCells s, Src.ofString w (srcOk_string ht) s, rfl, fun j u hu => ⟨u, hu, .plain ?_⟩⟩
      obtain ⟨x, _, rfl⟩ := List.mem_map.1 (List.mem_of_getElem? hu)
      rfl
    · cases h
  | _ => simp [srcOf] at h
end

theorem Keep.of_drew {H H' : Hp} {k k' : Nat} {G G' : GMap} {w w' : World} (h : Keep H k G w.drew H' k' G' w') : Keep H k G w H' k' G' w' :=
  ⟨h.le, h.names, h.size, h.others, h.same, h.dom, h.newer, h.stay⟩

theorem freeze_new (w : World) (C : Array Value) (e : TypeId) (n : Nat) : (w.alloc (.cells C e)).freeze ⟨w.heap.size, n, none⟩ 1 = w.alloc (.cells C e (n, n + 1)) := by
  have hm : ∀ (a : Array Obj) (x : Obj) (f : Obj → Obj), (a.push x).modify a.size f = a.push (f x) := by
    intro a x f
    apply Array.ext
    · simp
    · intro i h1 h2
      simp only [Array.getElem_modify, Array.getElem_push]
      by_cases h : a.size = i
      · subst h
        simp
      · have hi : i < a.size := by simp at h1; omega
        simp [h, hi]
  unfold World.freeze
  rw [if_neg (by decide)]
  show ({ w.alloc (.cells C e) with heap := (w.heap.push (.cells C e)).modify w.heap.size _ } : World) = _
  rw [hm]
  rfl

section
variable {P : Program} {NG : Nat} {s : St} {R : Value → Hp → Nat → Prop} {o : Oper}

/-- append onto a grown slice. -/
theorem AOp.append {x y : Operand} {t tx e : TypeId} {sz bytes n len m : Nat} {b : Blk} {yv : Value} {news : List Value} (ho : o.op = .call { callee := .builtin .append, args := #[x, y], argTypes := #[t, tx] }) (he : elemB P t e sz bytes = true)
    (hx : aeval NG s.fr x = some (.slice (some ⟨n, 0, some 1⟩) len len)) (hn : s.H n = some b) (hk : b.kind = .grow) (hbe : b.elem = e) (hbz : b.esz = sz) (hlen : len * sz = b.cells.length)
    (hy : aeval NG s.fr y = some yv) (hsrc : srcOf s.H sz yv = some (m, news)) (ht : srcOk P tx yv = true)
    (h1 : ∀ u ∈ news, u.oneCell' = true) (hb : (len + m) * bytes ≤ 140737488355328) (h63 : len + m ≤ 9223372036854775807)
    (hR : R (.slice (some ⟨n, 0, some 1⟩) (len + m) (len + m)) (upd s.H n (some { b with cells := b.cells ++ news })) s.k) : AOp P NG o s R := by
  intro N B w0 G a w hs next Q hnx
  obtain ⟨z, hel⟩ := elemB_ok he
  have hv := aeval_rel hs hx
  obtain ⟨A, c, hA⟩ := vrel_slice hv
  rw [hA] at hv
  obtain ⟨news', hS, hl, hr⟩ := srcOf_rel hs.S hsrc (aeval_rel hs hy) ht h1
  obtain ⟨v', w', G', hrun, hv', hS', hK⟩ := append_core (ty := o.type) hel hs.S hn hk hbe hbz hlen hv (App.ofSrc hel hS) hl hr hb h63
  refine Oper.wp_val (run_builtin ho ?_) (hnx _ _ _ _ _ _ hR hv' hS' hK)
  simp only [builtin, List.map_toArray, List.map_cons, List.map_nil, hA]
  rw [Sem.run_bind, hrun]
  rfl

/-- append onto nil (or a slice that has no room and holds nothing). -/
theorem AOp.append0 {x y : Operand} {t tx e : TypeId} {sz bytes m : Nat} {A0 : Option Addr} {yv : Value} {news : List Value} (ho : o.op = .call { callee := .builtin .append, args := #[x, y], argTypes := #[t, tx] }) (he : elemB P t e sz bytes = true)
    (hx : aeval NG s.fr x = some (.slice A0 0 0)) (hA0 : ∀ ad, A0 = some ad → ad.spot = none)
    (hy : aeval NG s.fr y = some yv) (hsrc : srcOf s.H sz yv = some (m, news)) (ht : srcOk P tx yv = true)
    (h1 : ∀ u ∈ news, u.oneCell' = true) (hb : m * bytes ≤ 140737488355328) (h63 : m ≤ 9223372036854775807)
    (hR : R (.slice (some ⟨s.k, 0, some 1⟩) m m) (upd s.H s.k (some { cells := news, elem := e, kind := .grow, esz := sz })) (s.k + 1)) : AOp P NG o s R := by
  intro N B w0 G a w hs next Q hnx
  obtain ⟨z, hel⟩ := elemB_ok he
  have hv := aeval_rel hs hx
  have hA : ∃ A, a.eval x = .slice A 0 0 := by
    generalize hp : a.eval x = p at hv
    cases hv with
    | plain h => exact ⟨_, rfl⟩
    | exact _ => exact ⟨_, rfl⟩
    | loose _ _ _ => have := hA0 _ rfl; simp at this
    | grow _ _ => have := hA0 _ rfl; simp at this
    | gcut _ _ => have := hA0 _ rfl; simp at this
  obtain ⟨A, hA⟩ := hA
  obtain ⟨hS1, hK1⟩ := hs.S.adopt e sz hel.pos
  have hs1 : StRel NG N B w0 (upd G s.k (.rows sz [])) ⟨s.fr, _, s.k + 1⟩ a w := ⟨hS1, hs.F.mono hK1.le⟩
  obtain ⟨news', hS, hl, hr⟩ := srcOf_rel hs.S hsrc (aeval_rel hs hy) ht h1
  have hv0 : VRel (upd G s.k (.rows sz [])) (.slice (some ⟨s.k, 0, some 1⟩) 0 0) (.slice A 0 0) := .grow (upd_same _ _ _) (.inl ⟨rfl, rfl⟩)
  obtain ⟨v', w', G', hrun, hv', hS', hK⟩ := append_core (ty := o.type) (len := 0) hel hS1 (upd_same _ _ _) rfl rfl rfl (by simp) hv0 (App.ofSrc hel hS) hl (fun j u hu => by
    obtain ⟨u', e1, e2⟩ := hr j u hu
    exact ⟨u', e1, e2.mono hK1.le⟩) (by simpa using hb) (by simpa using h63)
  have hup : upd (upd s.H s.k (some { cells := [], elem := e, kind := .grow, esz := sz })) s.k (some { cells := [] ++ news, elem := e, kind := .grow, esz := sz }) = upd s.H s.k (some { cells := news, elem := e, kind := .grow, esz := sz }) := by
    funext q
    by_cases hq : q = s.k
    · subst hq; simp
    · simp [upd, hq]
  rw [Nat.zero_add] at hv'
  rw [hup] at hS' hK
  refine Oper.wp_val (run_builtin ho ?_) (hnx _ _ _ _ _ _ hR hv' hS' (hK1.trans (fun n hn => (hs.S.fresh n hn).2) hK))
  simp only [builtin, List.map_toArray, List.map_cons, List.map_nil, hA]
  rw [Sem.run_bind, hrun]
  rfl

/-- append onto nil (or a slice that has no room and holds nothing) of at least one element: a block of its own. -/
theorem AOp.append_new {x y : Operand} {t tx e : TypeId} {sz bytes m : Nat} {A0 : Option Addr} {yv : Value} {news : List Value} (ho : o.op = .call { callee := .builtin .append, args := #[x, y], argTypes := #[t, tx] }) (he : elemB P t e sz bytes = true)
    (hx : aeval NG s.fr x = some (.slice A0 0 0)) (hA0 : ∀ ad, A0 = some ad → ad.spot = none) (hm : 0 < m)
    (hy : aeval NG s.fr y = some yv) (hsrc : srcOf s.H sz yv = some (m, news)) (ht : srcOk P tx yv = true)
    (h1 : ∀ u ∈ news, u.oneCell' = true) (hb : m * bytes ≤ 140737488355328) (h63 : m ≤ 9223372036854775807)
    (hR : R (.slice (some ⟨s.k, 0, some 0⟩) m m) (upd s.H s.k (some { cells := news, elem := e, kind := .fix })) (s.k + 1)) : AOp P NG o s R := by
  intro N B w0 G a w hs next Q hnx
  obtain ⟨z, hel⟩ := elemB_ok he
  have hv := aeval_rel hs hx
  have hA : ∃ A, a.eval x = .slice A 0 0 := by
    generalize hp : a.eval x = p at hv
    cases hv with
    | plain h => exact ⟨_, rfl⟩
    | exact _ => exact ⟨_, rfl⟩
    | loose _ _ _ => have := hA0 _ rfl; simp at this
    | grow _ _ => have := hA0 _ rfl; simp at this
    | gcut _ _ => have := hA0 _ rfl; simp at this
  obtain ⟨A, hA⟩ := hA
  obtain ⟨news', hS, hl, hr⟩ := srcOf_rel hs.S hsrc (aeval_rel hs hy) ht h1
  have ha := App.ofSrc (ty := o.type) hel hS
  have hfc : (Builtin.firstCells sz 0 (.slice A 0 0)).run P w.drew = .ok ([] : List Value).toArray w.drew := by
    cases A with
    | none => exact run_firstCells_none w.drew sz 0 0 0
    | some ad => exact run_firstCells_some w.drew sz 0 ad 0 0 [] (by simp) (fun j v hv => by simp at hv)
  have hrun := ha.grow A 0 0 [] hfc (by omega) (by simpa using hb) (by simpa using h63)
  rw [Nat.zero_add, List.nil_append] at hrun
  have hge := grownCap_ge' w m 0 e
  generalize grownCap w m 0 e = cap at hrun hge
  obtain ⟨h4, h5⟩ := hs.S.drew.newFix news (news'.toArray ++ Builtin.zeroCells z.cells (cap - m)) e (0, 0) (thawed_zero _) (by simp; omega) (fun j u hj hu => by
    obtain ⟨u', e1, e2⟩ := hr j u hu
    refine ⟨u', ?_, e2⟩
    show (news'.toArray ++ _)[j]? = _
    rw [Array.getElem?_append_left (by simp; omega)]
    simpa using e1)
  refine Oper.wp_val (v := .slice (some ⟨w.heap.size, 0, none⟩) m cap) (run_builtin ho ?_) (hnx _ _ _ _ _ _ hR ?_ h4 h5.of_drew)
  · simp only [builtin, List.map_toArray, List.map_cons, List.map_nil, hA]
    rw [Sem.run_bind, hrun]
    rfl
  · refine VRel.loose (G := upd G s.k (.at ⟨w.heap.size, 0, none⟩)) (n := s.k) (off := 0) (upd_same _ _ _) hge fun _ => rfl

/-- copy into a block of the call's own. -/
theorem AOp.copy {x y : Operand} {t tx e : TypeId} {sz n off l c m : Nat} {b : Blk} {yv : Value} {news : List Value} (ho : o.op = .call { callee := .builtin .copy, args := #[x, y], argTypes := #[t, tx] }) (hf : slB P t = some (e, sz))
    (hx : aeval NG s.fr x = some (.slice (some ⟨n, off, none⟩) l c)) (hn : s.H n = some b) (hk : b.kind = .fix) (hfit : off + l * sz ≤ b.cells.length)
    (hy : aeval NG s.fr y = some yv) (hns : ∀ b, yv ≠ .string b) (hsrc : srcOf s.H sz yv = some (m, news)) (h1 : ∀ u ∈ news, u.oneCell' = true)
    (hR : R (.int .i64 (min m l : Nat)) (upd s.H n (some { b with cells := putL b.cells off (news.take (min m l * sz)) })) s.k) : AOp P NG o s R := by
  intro N B w0 G a w hs next Q hnx
  obtain ⟨hu, hz⟩ := slB_inv hf
  have hp := aeval_rel hs hx
  have hyv := aeval_rel hs hy
  generalize hpv : a.eval x = p at hp
  generalize hqv : a.eval y = q at hyv
  cases hp with
  | plain h => simp [isPlain] at h
  | @exact _ _ _ _ base hg =>
    have hsrc' : ∃ news' : List Value, news.length = m * sz ∧ (Builtin.lenOf q).run P w = .ok m w ∧ (Builtin.firstCells sz (min m l) q).run P w = .ok (news'.take (min m l * sz)).toArray w ∧ news'.length = news.length ∧
        (∀ (j : Nat) (u : Value), news[j]? = some u → ∃ u', news'[j]? = some u' ∧ VRel G u u') := by
      cases yv with
      | slice A l' c' =>
        simp only [srcOf] at hsrc
        cases hc : slcCells s.H sz (.slice A l' c') with
        | none => simp [hc] at hsrc
        | some cs =>
          simp [hc] at hsrc
          obtain ⟨rfl, rfl⟩ := hsrc
          obtain ⟨A', l2, c2, e1, ⟨_, _, e2⟩, hl, hxx⟩ := slcCells_rel hs.S hc hyv
          injection e2 with _ e2 _
          subst e2
          subst e1
          rcases hxx with ⟨h0, rfl⟩ | ⟨ad, cs', rfl, hpos, hl', hcell, hrel⟩
          · subst h0
            refine ⟨[], by simp, rfl, ?_, rfl, fun j u hu => by simp at hu⟩
            rw [Nat.zero_min, Nat.zero_mul]
            cases A' with
            | none => exact run_firstCells_none w sz 0 0 c2
            | some ad => exact run_firstCells_some w sz 0 ad 0 c2 _ (by simp) (fun j v hv => by simp at hv)
          · refine ⟨cs', hl, rfl, ?_, by omega, hrel⟩
            refine run_firstCells_some w sz (min l' l) ad l' c2 _ ?_ fun j v hv => ?_
            · rw [List.length_take, hl']
              exact Nat.min_eq_left (Nat.mul_le_mul_right _ (Nat.min_le_left _ _))
            · rw [List.getElem?_take] at hv
              split at hv
              · exact hcell j v hv
              · cases hv
      | string bs => exact absurd rfl (hns bs)
      | _ => simp [srcOf] at hsrc
    obtain ⟨news', hml, hlen, hfc, hnl, hrel⟩ := hsrc'
    have hmin : min m l * sz ≤ m * sz := Nat.mul_le_mul_right _ (Nat.min_le_left _ _)
    have hmin' : min m l * sz ≤ l * sz := Nat.mul_le_mul_right _ (Nat.min_le_right _ _)
    obtain ⟨w', hr, hS', hK⟩ := hs.S.put (P := P) (vs := news.take (min m l * sz)) (vs' := news'.take (min m l * sz)) (off := off) hn hk hg (by rw [List.length_take]; omega) (by simp [hnl]) (by
      intro j v hv
      rw [List.getElem?_take] at hv
      split at hv
      · rename_i hj
        obtain ⟨u', e1, e2⟩ := hrel j v hv
        exact ⟨u', by rw [List.getElem?_take, if_pos hj]; exact e1, e2⟩
      · cases hv) (by
      intro u hu
      have hu2 := List.mem_of_mem_take hu
      obtain ⟨i, hi⟩ := List.mem_iff_getElem?.1 hu2
      have hlt : i < news.length := by have := (List.getElem?_eq_some_iff.1 hi).1; omega
      obtain ⟨u', h2, h3⟩ := hrel i _ (List.getElem?_eq_getElem hlt)
      rw [hi] at h2
      injection h2 with h2
      subst h2
      rw [h3.oneCell]
      exact h1 _ (List.getElem_mem hlt))
    refine Oper.wp_val (run_builtin ho ?_) (hnx _ (.int .i64 (min m l : Nat)) _ _ _ _ hR (.plain rfl) hS' hK)
    simp only [builtin, List.map_toArray, List.map_cons, List.map_nil, hpv, hqv]
    rw [Sem.run_bind]
    have : (Builtin.copy_ #[t, tx] o.type #[.slice (some (base.add off)) l c, q]).run P w = .ok (.int .i64 (min m l : Nat)) w' := by
      simp only [Builtin.copy_, List.getElem?_toArray, List.getElem?_cons_zero, List.getElem?_cons_succ]
      rw [Sem.run_bind, run_underlying hu]
      simp only [Result.andThen_ok]
      rw [Sem.run_bind, hlen]
      simp only [Result.andThen_ok]
      rw [Sem.run_bind, run_sizeOf hz]
      simp only [Result.andThen_ok]
      rw [Sem.run_bind]
      rw [show Nat.min m l = min m l from rfl, hfc]
      simp only [Result.andThen_ok]
      rw [Sem.run_bind, hr]
      rfl
    rw [this]
    rfl
  | _ => simp at *

/-- '[]byte(s)'. -/
theorem AOp.toBytes {x : Operand} {t t' e : TypeId} {bs : ByteArray} {d : TypeDesc} (ho : o.op = .convert t t' x) (hu : P.underlying t = some d) (hu' : P.underlying t' = some (.slice e)) (he : P.underlying e = some (.int .u8)) (hx : aeval NG s.fr x = some (.string bs))
    (hR : R (.slice (some ⟨s.k, 0, some 0⟩) bs.size bs.size) (upd s.H s.k (some { cells := byteCells bs, elem := e, kind := .fix })) (s.k + 1)) : AOp P NG o s R := by
  intro N B w0 G a w hs next Q hnx
  have hv := (aeval_rel hs hx).string_
  have hge := grownCap_ge' w bs.size 0 e
  have hrun := Lib.run_convert_string_bytes (P := P) w t t' e bs hu hu' he
  have hw : Lib.bytesWorld w e bs = w.drew.alloc (.cells (Lib.bytesCells w e bs) e ((Lib.bytesCells w e bs).size, (Lib.bytesCells w e bs).size + 1)) := freeze_new w.drew _ e _
  rw [hw] at hrun
  unfold Lib.bytesCells at hrun
  generalize grownCap w bs.size 0 e = cap at hrun hge
  generalize hcs : (bs.data.map (fun b => Value.int .u8 b.toNat) ++ Array.replicate (cap - bs.size) (.int .u8 0) : Array Value) = cs at hrun
  have hcz : cs.size = bs.size + (cap - bs.size) := by rw [← hcs]; simp
  obtain ⟨h4, h5⟩ := hs.S.drew.newFix (byteCells bs) cs e (cs.size, cs.size + 1) ⟨Nat.le_succ _, fun j hj => by simp; omega⟩ (by rw [byteCells_length]; omega) (fun j u hj hu => by
    refine ⟨u, ?_, .plain ?_⟩
    · show cs[j]? = _
      rw [← hcs, Array.getElem?_append_left (by rw [byteCells_length] at hj; simpa using hj)]
      simpa [byteCells] using hu
    · obtain ⟨x, _, rfl⟩ := List.mem_map.1 (List.mem_of_getElem? hu)
      rfl)
  refine Oper.wp_val (v := .slice (some ⟨w.heap.size, 0, none⟩) bs.size cap) ?_ (hnx _ _ _ _ _ _ hR ?_ h4 h5.of_drew)
  · simp only [execOp, ho, hv]
    rw [Sem.run_bind, hrun]
    rfl
  · exact VRel.loose (G := upd G s.k (.at ⟨w.heap.size, 0, none⟩)) (n := s.k) (off := 0) (upd_same _ _ _) hge fun _ => rfl
end
end Go.Ab
