/- Abstract states over the model, parts 1 to 10: a logic of contracts over abstract heaps. No condition; over any program. -/
import Derived.WalkKit
import Derived.Below
import Derived.Deep.Draws
import Derived.LoopN
import Derived.Deep.AppendSrc
import Derived.Laws.IdiomCopy
import Derived.Deep.Upon
import Derived.Lib.ConvBytes
import Derived.Orders
set_option linter.unusedVariables false
set_option linter.unusedSimpArgs false
namespace Go.Ab
open Go.RowKit

/-- An array that a grown slice has lived in: its block, how many cells hold what the slice holds, its capacity in elements. -/
structure Row where
  block : Nat
  k : Nat
  cap : Nat

/-- Where an abstract block lies: nowhere yet; at an address; in arrays (elements of s cells), the current one first. -/
inductive GB where
  | free
  | at (a : Addr)
  | rows (s : Nat) (l : List Row)

abbrev GMap := Nat → GB

def GB.le : GB → GB → Prop
  | .free, _ => True
  | .at a, g => g = .at a
  | .rows s l, g => ∃ l', g = .rows s l' ∧ ∀ r ∈ l, ∃ r' ∈ l', r'.block = r.block ∧ r.k ≤ r'.k ∧ r'.cap = r.cap

theorem GB.le_refl (g : GB) : g.le g := by
  cases g with
  | free => trivial
  | «at» a => rfl
  | rows s l => exact ⟨l, rfl, fun r hr => ⟨r, hr, rfl, Nat.le_refl _, rfl⟩⟩

theorem GB.le_trans {a b c : GB} (h : a.le b) (k : b.le c) : a.le c := by
  cases a with
  | free => trivial
  | «at» x =>
    have hb : b = .at x := h
    subst hb
    exact k
  | rows s l =>
    obtain ⟨l', rfl, hl⟩ := h
    obtain ⟨l'', rfl, hl'⟩ := k
    refine ⟨l'', rfl, fun r hr => ?_⟩
    obtain ⟨r', hr', e1, e2, e3⟩ := hl r hr
    obtain ⟨r'', hr'', f1, f2, f3⟩ := hl' r' hr'
    exact ⟨r'', hr'', f1.trans e1, Nat.le_trans e2 f2, f3.trans e3⟩

def GLe (G G' : GMap) : Prop := ∀ n, (G n).le (G' n)
theorem GLe.refl (G : GMap) : GLe G G := fun n => GB.le_refl _
theorem GLe.trans {a b c : GMap} (h : GLe a b) (k : GLe b c) : GLe a c := fun n => GB.le_trans (h n) (k n)

def GB.blocks : GB → List Nat
  | .free => []
  | .at a => [a.block]
  | .rows _ l => l.map (·.block)

/-- A grown slice of l elements: where it really is. -/
def GSlc (s : Nat) (rows : List Row) (l : Nat) (A : Option Addr) (c : Nat) : Prop :=
  (l = 0 ∧ c = 0) ∨ ∃ r ∈ rows, A = some ⟨r.block, 0, none⟩ ∧ l * s ≤ r.k ∧ l ≤ c ∧ c = r.cap
/-- A cut of a grown slice, from cell off on. -/
def GCut (s : Nat) (rows : List Row) (off l : Nat) (A : Option Addr) (c : Nat) : Prop :=
  l ≤ c ∧ (0 < l → ∃ r ∈ rows, A = some ⟨r.block, off, none⟩ ∧ off + l * s ≤ r.k)

def isPlain : Value → Bool
  | .bool _ | .int _ _ | .string _ | .pointer none | .slice none 0 0 | .nilFunc | .nilIface | .map none | .float _ _ => true
  | _ => false

inductive VRel (G : GMap) : Value → Value → Prop
  | plain {v : Value} (h : isPlain v = true) : VRel G v v
  | ptr {n off : Nat} {base : Addr} (h : G n = .at base) : VRel G (.pointer (some ⟨n, off, none⟩)) (.pointer (some (base.add off)))
  | gptr {n off s : Nat} {rows : List Row} {r : Row} (h : G n = .rows s rows) (hr : r ∈ rows) (hk : off < r.k) :
      VRel G (.pointer (some ⟨n, off, some 1⟩)) (.pointer (some ⟨r.block, off, none⟩))
  | exact {n off l c : Nat} {base : Addr} (h : G n = .at base) : VRel G (.slice (some ⟨n, off, none⟩) l c) (.slice (some (base.add off)) l c)
  | loose {n off l c : Nat} {base : Addr} {A : Option Addr} (h : G n = .at base) (hc : l ≤ c) (hA : 0 < l → A = some (base.add off)) :
      VRel G (.slice (some ⟨n, off, some 0⟩) l l) (.slice A l c)
  | grow {n s l c : Nat} {rows : List Row} {A : Option Addr} (h : G n = .rows s rows) (hl : GSlc s rows l A c) :
      VRel G (.slice (some ⟨n, 0, some 1⟩) l l) (.slice A l c)
  | gcut {n off s l c : Nat} {rows : List Row} {A : Option Addr} (h : G n = .rows s rows) (hl : GCut s rows off l A c) :
      VRel G (.slice (some ⟨n, off, some 2⟩) l l) (.slice A l c)
  | agg {cs cs' : Array Value} (hs : cs.size = cs'.size) (h : ∀ (i : Nat) (v v' : Value), cs[i]? = some v → cs'[i]? = some v' → VRel G v v') : VRel G (.agg cs) (.agg cs')
  | tuple {cs cs' : Array Value} (hs : cs.size = cs'.size) (h : ∀ (i : Nat) (v v' : Value), cs[i]? = some v → cs'[i]? = some v' → VRel G v v') : VRel G (.tuple cs) (.tuple cs')
  | iface {t : TypeId} {v v' : Value} (h : VRel G v v') : VRel G (.iface t v) (.iface t v')
  | func {fn : Fn} {cs cs' : Array Value} (hs : cs.size = cs'.size) (h : ∀ (i : Nat) (v v' : Value), cs[i]? = some v → cs'[i]? = some v' → VRel G v v') :
      VRel G (.func fn #[] cs) (.func fn #[] cs')

theorem GSlc.mono {s l c : Nat} {rows rows' : List Row} {A : Option Addr} (h : GSlc s rows l A c)
    (hr : ∀ r ∈ rows, ∃ r' ∈ rows', r'.block = r.block ∧ r.k ≤ r'.k ∧ r'.cap = r.cap) : GSlc s rows' l A c := by
  rcases h with h | ⟨r, hm, hA, hk, hc, hcap⟩
  · exact .inl h
  · obtain ⟨r', hm', e1, e2, e3⟩ := hr r hm
    exact .inr ⟨r', hm', by rw [e1]; exact hA, Nat.le_trans hk e2, hc, by rw [e3]; exact hcap⟩
theorem GCut.mono {s off l c : Nat} {rows rows' : List Row} {A : Option Addr} (h : GCut s rows off l A c)
    (hr : ∀ r ∈ rows, ∃ r' ∈ rows', r'.block = r.block ∧ r.k ≤ r'.k ∧ r'.cap = r.cap) : GCut s rows' off l A c := by
  refine ⟨h.1, fun hl => ?_⟩
  obtain ⟨r, hm, hA, hk⟩ := h.2 hl
  obtain ⟨r', hm', e1, e2, e3⟩ := hr r hm
  exact ⟨r', hm', by rw [e1]; exact hA, Nat.le_trans hk e2⟩

theorem VRel.mono {G G' : GMap} (hG : GLe G G') {v v' : Value} (h : VRel G v v') : VRel G' v v' := by
  induction h with
  | plain h => exact .plain h
  | @ptr n off base h =>
    have := hG n
    rw [h] at this
    exact .ptr this
  | @gptr n off s rows r h hr hk =>
    have := hG n
    rw [h] at this
    obtain ⟨l', e, hl⟩ := this
    obtain ⟨r', hr', e1, e2, _⟩ := hl r hr
    rw [← e1]
    exact .gptr e hr' (by omega)
  | @exact n off l c base h =>
    have := hG n
    rw [h] at this
    exact .exact this
  | @loose n off l c base A h hc hA =>
    have := hG n
    rw [h] at this
    exact .loose this hc hA
  | @grow n s l c rows A h hl =>
    have := hG n
    rw [h] at this
    obtain ⟨l', e, hl'⟩ := this
    exact .grow e (hl.mono hl')
  | @gcut n off s l c rows A h hl =>
    have := hG n
    rw [h] at this
    obtain ⟨l', e, hl'⟩ := this
    exact .gcut e (hl.mono hl')
  | agg hs _ ih => exact .agg hs ih
  | tuple hs _ ih => exact .tuple hs ih
  | iface _ ih => exact .iface ih
  | func hs _ ih => exact .func hs ih

/-- The number of cells and 'one cell' are as the abstract value has them. -/
theorem VRel.oneCell {G : GMap} {v v' : Value} (h : VRel G v v') : v'.oneCell' = v.oneCell' := by
  cases h <;> rfl

theorem VRel.cells {G : GMap} {v v' : Value} (h : VRel G v v') :
    v.cells.size = v'.cells.size ∧ ∀ (i : Nat) (u : Value), v.cells[i]? = some u → ∃ u', v'.cells[i]? = some u' ∧ VRel G u u' := by
  have one : ∀ {v v' : Value}, VRel G v v' → v.cells = #[v] → v'.cells = #[v'] →
      v.cells.size = v'.cells.size ∧ ∀ (i : Nat) (u : Value), v.cells[i]? = some u → ∃ u', v'.cells[i]? = some u' ∧ VRel G u u' := by
    intro v v' h e e'
    rw [e, e']
    refine ⟨rfl, fun i u hu => ?_⟩
    cases i with
    | zero => simp at hu; subst hu; exact ⟨v', by simp, h⟩
    | succ i => simp at hu
  cases h with
  | @agg cs cs' hs h =>
    refine ⟨hs, fun i u hu => ?_⟩
    have hi : i < cs.size := (Array.getElem?_eq_some_iff.1 hu).1
    have h' : cs'[i]? = some (cs'[i]'(by omega)) := Array.getElem?_eq_getElem (by omega)
    exact ⟨_, h', h i u _ hu h'⟩
  | plain h' => exact one (.plain h') (by unfold Value.cells; split <;> simp_all [isPlain]) (by unfold Value.cells; split <;> simp_all [isPlain])
  | ptr h' => exact one (.ptr h') rfl rfl
  | gptr a b c => exact one (.gptr a b c) rfl rfl
  | exact h' => exact one (.exact h') rfl rfl
  | loose a b c => exact one (.loose a b c) rfl rfl
  | grow a b => exact one (.grow a b) rfl rfl
  | gcut a b => exact one (.gcut a b) rfl rfl
  | tuple a b => exact one (.tuple a b) rfl rfl
  | iface a => exact one (.iface a) rfl rfl
  | func a b => exact one (.func a b) rfl rfl

theorem VRel.int_ {G : GMap} {k : IntKind} {n : Int} {v' : Value} (h : VRel G (.int k n) v') : v' = .int k n := by cases h; rfl
theorem VRel.bool_ {G : GMap} {b : Bool} {v' : Value} (h : VRel G (.bool b) v') : v' = .bool b := by cases h; rfl
theorem VRel.string_ {G : GMap} {s : ByteArray} {v' : Value} (h : VRel G (.string s) v') : v' = .string s := by cases h; rfl
theorem VRel.plain_ {G : GMap} {v v' : Value} (hp : isPlain v = true) (h : VRel G v v') : v' = v := by
  cases h <;> first | rfl | (simp [isPlain] at hp)

/-! ### Blocks and heaps -/
inductive Kind where
  | fix | ro | grow
  deriving DecidableEq

/-- An abstract block: its cells, their element's type, how it may be used; of a grown one: how many cells an element has. -/
structure Blk where
  cells : List Value
  elem : TypeId
  kind : Kind
  esz : Nat := 1

abbrev Hp := Nat → Option Blk

/-- Cells that stand for cells. -/
def CRel (G : GMap) (cs : List Value) (f : Nat → Option Value) (k : Nat) : Prop :=
  ∀ (j : Nat) (v : Value), j < k → cs[j]? = some v → ∃ v', f j = some v' ∧ VRel G v v'

theorem CRel.mono {G G' : GMap} (hG : GLe G G') {cs : List Value} {f : Nat → Option Value} {k : Nat} (h : CRel G cs f k) : CRel G' cs f k := by
  intro j v hj hv
  obtain ⟨v', h1, h2⟩ := h j v hj hv
  exact ⟨v', h1, h2.mono hG⟩

def thawed (fz : Nat × Nat) (n : Nat) : Prop := fz.1 ≤ fz.2 ∧ ∀ j, j < n → (fz.1 ≤ j && j < fz.2) = false

/-- A real block: its cells, none of the first n frozen. -/
def RBlk (w : World) (g : Nat) (cs : Array Value) (e : TypeId) : Prop := ∃ fz, w.heap[g]? = some (.cells cs e fz) ∧ thawed fz cs.size

theorem RBlk.lt {w : World} {g : Nat} {cs : Array Value} {e : TypeId} (h : RBlk w g cs e) : g < w.heap.size := by
  obtain ⟨fz, h, _⟩ := h
  rcases Nat.lt_or_ge g w.heap.size with hlt | hge
  · exact hlt
  · rw [Array.getElem?_eq_none hge] at h; cases h
theorem RBlk.cell {w : World} {g : Nat} {cs : Array Value} {e : TypeId} (h : RBlk w g cs e) (i : Nat) : w.cell? ⟨g, i, none⟩ = cs[i]? := by
  obtain ⟨fz, h, _⟩ := h
  simp [World.cell?, h]
theorem RBlk.thaw {w : World} {g : Nat} {cs : Array Value} {e : TypeId} (h : RBlk w g cs e) (i : Nat) (hi : i < cs.size) : w.frozen? ⟨g, i, none⟩ = false := by
  obtain ⟨fz, h, ht⟩ := h
  obtain ⟨lo, hi'⟩ := fz
  have := ht.2 i hi
  simp only [World.frozen?, h]
  exact this
theorem RBlk.same {w w' : World} {g : Nat} {cs : Array Value} {e : TypeId} (h : RBlk w g cs e) (hb : w'.heap[g]? = w.heap[g]?) : RBlk w' g cs e := by
  obtain ⟨fz, h, ht⟩ := h
  exact ⟨fz, hb.trans h, ht⟩

/-- A row of a grown block. -/
def RowRel (G : GMap) (w : World) (B : Nat) (b : Blk) (r : Row) : Prop :=
  B ≤ r.block ∧ r.k ≤ b.cells.length ∧ r.k % b.esz = 0 ∧ ∃ cs, RBlk w r.block cs b.elem ∧ cs.size = r.cap * b.esz ∧ r.k ≤ cs.size ∧ CRel G b.cells (fun j => cs[j]?) r.k

def BRel (B : Nat) (G : GMap) (w : World) (g : GB) (b : Blk) : Prop :=
  match b.kind with
  | .ro => ∃ base, g = .at base ∧ base.block < B ∧ CRel G b.cells (fun j => w.cell? (base.add j)) b.cells.length
  | .fix => ∃ blk cs, g = .at ⟨blk, 0, none⟩ ∧ B ≤ blk ∧ RBlk w blk cs b.elem ∧ b.cells.length ≤ cs.size ∧ CRel G b.cells (fun j => cs[j]?) b.cells.length
  | .grow => 0 < b.esz ∧ ∃ rows, g = .rows b.esz rows ∧ (rows = [] → b.cells = []) ∧ (∀ r ∈ rows, RowRel G w B b r) ∧
      (∀ r rest, rows = r :: rest → r.k = b.cells.length ∧ ∀ q ∈ rest, q.k < b.cells.length) ∧ (rows.map (·.block)).Nodup

def Blk.own (b : Blk) : Bool := b.kind != .ro

/-- The abstract heap H (all names below k, the first NG of them the program's variables) stands for the world w; below block B the world is as w0 is. -/
structure SRel (NG B : Nat) (w0 : World) (G : GMap) (H : Hp) (k : Nat) (w : World) : Prop where
  below : Below B w0 w
  base : B ≤ w.heap.size
  glob : ∀ g, g < NG → G g = .at ⟨g, 0, none⟩
  le : NG ≤ k
  blk : ∀ n b, H n = some b → BRel B G w (G n) b
  sep : ∀ n m b c, H n = some b → H m = some c → b.own = true → c.own = true → n ≠ m → ∀ x, x ∈ (G n).blocks → x ∉ (G m).blocks
  fresh : ∀ n, k ≤ n → H n = none ∧ G n = .free

/-- What a step leaves as it was, seen from (H, k, G, w). -/
structure Keep (H : Hp) (k : Nat) (G : GMap) (w : World) (H' : Hp) (k' : Nat) (G' : GMap) (w' : World) : Prop where
  le : GLe G G'
  names : k ≤ k'
  size : w.heap.size ≤ w'.heap.size
  others : ∀ x, x < w.heap.size → (∀ n b, H n = some b → b.own = true → x ∉ (G n).blocks) → w'.heap[x]? = w.heap[x]?
  same : ∀ n, n < k → H n = none → G' n = G n
  dom : ∀ n, n < k → H n = none → H' n = none
  newer : ∀ n x, x ∈ (G' n).blocks → x < w.heap.size → x ∈ (G n).blocks
  stay : ∀ n b, H n = some b → ∃ b', H' n = some b' ∧ b'.kind = b.kind

theorem Keep.refl (H : Hp) (k : Nat) (G : GMap) (w : World) : Keep H k G w H k G w :=
  ⟨GLe.refl _, Nat.le_refl _, Nat.le_refl _, fun _ _ _ => rfl, fun _ _ _ => rfl, fun _ _ h => h, fun _ _ h _ => h, fun _ b h => ⟨b, h, rfl⟩⟩

end Go.Ab

set_option linter.unusedVariables false
set_option linter.unusedSimpArgs false
namespace Go.Ab
open Go.RowKit

def upd {α : Type} (f : Nat → α) (n : Nat) (a : α) : Nat → α := fun m => if m = n then a else f m
@[simp] theorem upd_same {α : Type} (f : Nat → α) (n : Nat) (a : α) : upd f n a n = a := by simp [upd]
theorem upd_other {α : Type} (f : Nat → α) {n m : Nat} (a : α) (h : m ≠ n) : upd f n a m = f m := by simp [upd, h]

/-! ### What stays -/
theorem CRel.ext {G : GMap} {cs : List Value} {f f' : Nat → Option Value} {k : Nat} (h : CRel G cs f k) (hf : ∀ j, j < k → f' j = f j) : CRel G cs f' k := by
  intro j v hj hv
  rw [hf j hj]
  exact h j v hj hv

theorem BRel.keep {B : Nat} {G G' : GMap} {w w' : World} {g : GB} {b : Blk} (h : BRel B G w g b) (hG : GLe G G')
    (hb : ∀ x, x ∈ g.blocks → w'.heap[x]? = w.heap[x]?) : BRel B G' w' g b := by
  unfold BRel at h ⊢
  cases hk : b.kind with
  | ro =>
    simp only [hk] at h ⊢
    obtain ⟨base, rfl, hB, hc⟩ := h
    refine ⟨base, rfl, hB, (hc.mono hG).ext fun j _ => ?_⟩
    have := hb base.block (by simp [GB.blocks])
    refine World.cell?_of_block ?_
    rw [show (base.add j).block = base.block by unfold Addr.add; split <;> rfl]
    exact this
  | fix =>
    simp only [hk] at h ⊢
    obtain ⟨blk, cs, rfl, hB, hr, hl, hc⟩ := h
    exact ⟨blk, cs, rfl, hB, hr.same (hb blk (by simp [GB.blocks])), hl, hc.mono hG⟩
  | grow =>
    simp only [hk] at h ⊢
    obtain ⟨h0, rows, rfl, h1, h2, h3, h4⟩ := h
    refine ⟨h0, rows, rfl, h1, fun r hr => ?_, h3, h4⟩
    obtain ⟨a1, a2, a3, cs, a4, a5, a6, a7⟩ := h2 r hr
    exact ⟨a1, a2, a3, cs, a4.same (hb r.block (by simp only [GB.blocks, List.mem_map]; exact ⟨r, hr, rfl⟩)), a5, a6, a7.mono hG⟩

/-- The own blocks of a name lie in the heap, from B on. -/
theorem BRel.own_lt {B : Nat} {G : GMap} {w : World} {g : GB} {b : Blk} (h : BRel B G w g b) (ho : b.own = true) {x : Nat} (hx : x ∈ g.blocks) : B ≤ x ∧ x < w.heap.size := by
  unfold BRel at h
  cases hk : b.kind with
  | ro => simp [Blk.own, hk] at ho
  | fix =>
    simp only [hk] at h
    obtain ⟨blk, cs, rfl, hB, hr, hl, hc⟩ := h
    simp [GB.blocks] at hx
    subst hx
    exact ⟨hB, hr.lt⟩
  | grow =>
    simp only [hk] at h
    obtain ⟨h0, rows, rfl, h1, h2, h3, h4⟩ := h
    simp only [GB.blocks, List.mem_map] at hx
    obtain ⟨r, hr, rfl⟩ := hx
    obtain ⟨a1, a2, a3, cs, a4, a5, a6, a7⟩ := h2 r hr
    exact ⟨a1, a4.lt⟩

theorem BRel.ro_lt {B : Nat} {G : GMap} {w : World} {g : GB} {b : Blk} (h : BRel B G w g b) (ho : b.own = false) {x : Nat} (hx : x ∈ g.blocks) : x < B := by
  have hk : b.kind = .ro := by simpa [Blk.own] using ho
  unfold BRel at h
  simp only [hk] at h
  obtain ⟨base, rfl, hB, hc⟩ := h
  simp [GB.blocks] at hx
  subst hx
  exact hB

section
variable {NG B : Nat} {w0 w w' : World} {G G' : GMap} {H H' : Hp} {k k' : Nat}

theorem SRel.update (h : SRel NG B w0 G H k w) (hb : Below B w0 w') (hs : B ≤ w'.heap.size) (hG : GLe G G') (hk : k ≤ k')
    (S : Nat → Prop)
    (hst : ∀ n, ¬ S n → H' n = H n ∧ (H n ≠ none → G' n = G n ∧ ∀ x, x ∈ (G n).blocks → w'.heap[x]? = w.heap[x]?))
    (ht : ∀ n b, S n → H' n = some b → BRel B G' w' (G' n) b)
    (hsep : ∀ n b, S n → H' n = some b → b.own = true → ∀ m c, m ≠ n → H' m = some c → c.own = true → ∀ x, x ∈ (G' n).blocks → x ∉ (G' m).blocks)
    (hf : ∀ n, k' ≤ n → H' n = none ∧ G' n = .free) : SRel NG B w0 G' H' k' w' where
  below := hb
  base := hs
  glob := fun g hg => by
    have := hG g
    rw [h.glob g hg] at this
    exact this
  le := Nat.le_trans h.le hk
  blk := fun n b hn => by
    by_cases hS : S n
    · exact ht n b hS hn
    · obtain ⟨e, h2⟩ := hst n hS
      rw [e] at hn
      obtain ⟨e2, h3⟩ := h2 (by rw [hn]; simp)
      rw [e2]
      exact (h.blk n b hn).keep hG h3
  sep := fun n m b c hn hm ho ho' hne x hx hx' => by
    by_cases hS : S n
    · exact hsep n b hS hn ho m c (Ne.symm hne) hm ho' x hx hx'
    · by_cases hS' : S m
      · exact hsep m c hS' hm ho' n b hne hn ho x hx' hx
      · obtain ⟨e, h2⟩ := hst n hS
        obtain ⟨e', h2'⟩ := hst m hS'
        rw [e] at hn
        rw [e'] at hm
        rw [(h2 (by rw [hn]; simp)).1] at hx
        rw [(h2' (by rw [hm]; simp)).1] at hx'
        exact h.sep n m b c hn hm ho ho' hne x hx hx'
  fresh := hf

theorem SRel.drew (h : SRel NG B w0 G H k w) : SRel NG B w0 G H k w.drew :=
  ⟨h.below.drew, h.base, h.glob, h.le, fun n b hn => (h.blk n b hn).keep (GLe.refl _) (fun _ _ => rfl), h.sep, h.fresh⟩

/-- A real block of which the abstract heap does not speak. -/
theorem SRel.alloc_other (h : SRel NG B w0 G H k w) (o : Obj) : SRel NG B w0 G H k (w.alloc o) := by
  refine h.update (h.below.alloc h.base o) (Nat.le_trans h.base (by simp)) (GLe.refl _) (Nat.le_refl _) (fun _ => False) (fun n _ => ⟨rfl, fun hn => ⟨rfl, fun x hx => ?_⟩⟩) (fun _ _ hS => hS.elim) (fun _ _ hS => hS.elim) h.fresh
  cases hb : H n with
  | none => exact absurd hb hn
  | some b =>
    have hB := h.base
    by_cases ho : b.own = true
    · exact Below.heap_alloc _ _ _ ((h.blk n b hb).own_lt ho hx).2
    · have := (h.blk n b hb).ro_lt (by simpa using ho) hx
      exact Below.heap_alloc _ _ _ (by omega)

theorem Keep.trans {k1 k2 : Nat} {H1 H2 : Hp} {G1 G2 : GMap} {w1 w2 : World} (hf : ∀ n, k ≤ n → G n = .free)
    (h : Keep H k G w H1 k1 G1 w1) (h' : Keep H1 k1 G1 w1 H2 k2 G2 w2) : Keep H k G w H2 k2 G2 w2 where
  le := h.le.trans h'.le
  names := Nat.le_trans h.names h'.names
  size := Nat.le_trans h.size h'.size
  others := fun x hx ho => by
    rw [← h.others x hx ho]
    refine h'.others x (Nat.lt_of_lt_of_le hx h.size) fun n b hn hown hmem => ?_
    have hm := h.newer n x hmem hx
    cases hb : H n with
    | some b0 =>
      obtain ⟨b', e1, e2⟩ := h.stay n b0 hb
      rw [hn] at e1
      injection e1 with e1
      refine ho n b0 hb ?_ hm
      simpa [Blk.own, ← e2, ← e1] using hown
    | none =>
      rcases Nat.lt_or_ge n k with hlt | hge
      · rw [h.dom n hlt hb] at hn
        cases hn
      · rw [hf n hge] at hm
        simp [GB.blocks] at hm
  same := fun n hn hb => (h'.same n (Nat.lt_of_lt_of_le hn h.names) (h.dom n hn hb)).trans (h.same n hn hb)
  dom := fun n hn hb => h'.dom n (Nat.lt_of_lt_of_le hn h.names) (h.dom n hn hb)
  newer := fun n x hx hs => h.newer n x (h'.newer n x hx (Nat.lt_of_lt_of_le hs h.size)) hs
  stay := fun n b hn => by
    obtain ⟨b', e1, e2⟩ := h.stay n b hn
    obtain ⟨b'', e3, e4⟩ := h'.stay n b' e1
    exact ⟨b'', e3, e4.trans e2⟩

/-! ### Frames -/
abbrev Fr := Nat → Option Value
def FRel (G : GMap) (N : Nat) (fr : Fr) (tmps : Array Value) : Prop := tmps.size = N ∧ ∀ t v, fr t = some v → VRel G v (tmps.getD t undef)
theorem FRel.mono {N : Nat} {fr : Fr} {tmps : Array Value} (hG : GLe G G') (h : FRel G N fr tmps) : FRel G' N fr tmps := ⟨h.1, fun t v hv => (h.2 t v hv).mono hG⟩
theorem FRel.less {N : Nat} {fr fr' : Fr} {tmps : Array Value} (h : FRel G N fr tmps) (hl : ∀ t v, fr' t = some v → fr t = some v) : FRel G N fr' tmps := ⟨h.1, fun t v hv => h.2 t v (hl t v hv)⟩
def putA (fr : Fr) (d : Option Tmp) (v : Value) : Fr := match d with | some t => upd fr t (some v) | none => fr

theorem FRel.put {N : Nat} {fr : Fr} {tmps : Array Value} {d : Nat} {v v' : Value} (h : FRel G N fr tmps) (hd : d < N) (hv : VRel G v v') : FRel G N (upd fr d (some v)) (tmps.setIfInBounds d v') := by
  refine ⟨by simpa using h.1, fun t u hu => ?_⟩
  by_cases ht : t = d
  · subst ht
    rw [upd_same] at hu
    injection hu with hu
    subst hu
    have h1 := h.1
    simpa [Array.getD, h1, hd] using hv
  · rw [upd_other _ _ ht] at hu
    have := h.2 t u hu
    have e : (tmps.setIfInBounds d v').getD t undef = tmps.getD t undef := by
      simp only [Array.getD_eq_getD_getElem?, Array.getElem?_setIfInBounds_ne (Ne.symm ht)]
    rw [e]
    exact this

def selfRel : Value → Bool
  | .agg cs => cs.all isPlain
  | .tuple cs => cs.all isPlain
  | .iface _ v => isPlain v
  | .func _ first cs => first.size == 0 && cs.all isPlain
  | v => isPlain v

theorem all_at {p : Value → Bool} {cs : Array Value} (h : cs.all p = true) {i : Nat} {v : Value} (hv : cs[i]? = some v) : p v = true := by
  rw [Array.all_eq_true_iff_forall_mem] at h
  exact h v (Array.mem_of_getElem? hv)

theorem selfRel_rel {v : Value} (h : selfRel v = true) : VRel G v v := by
  have arr : ∀ cs : Array Value, cs.all isPlain = true → ∀ (i : Nat) (x x' : Value), cs[i]? = some x → cs[i]? = some x' → VRel G x x' := by
    intro cs hc i x x' hx hx'
    rw [hx] at hx'
    injection hx' with hx'
    subst hx'
    exact .plain (all_at hc hx)
  cases v with
  | agg cs => exact .agg rfl (arr cs h)
  | tuple cs => exact .tuple rfl (arr cs h)
  | iface t v => exact .iface (.plain h)
  | func fn first cs =>
    simp only [selfRel, Bool.and_eq_true, beq_iff_eq, Array.size_eq_zero_iff] at h
    obtain ⟨rfl, h⟩ := h
    exact .func rfl (arr cs h)
  | _ => exact .plain h

def aeval (NG : Nat) (fr : Fr) : Operand → Option Value
  | .tmp t => fr t
  | .const v => if selfRel v then some v else none
  | .global g => if g < NG then some (.pointer (some ⟨g, 0, none⟩)) else none
  | .func f => some (.func (.func f) #[] #[])

/-! ### States -/
structure St where
  fr : Fr
  H : Hp
  k : Nat

structure StRel (NG N B : Nat) (w0 : World) (G : GMap) (s : St) (a : Act) (w : World) : Prop where
  S : SRel NG B w0 G s.H s.k w
  F : FRel G N s.fr a.tmps

theorem aeval_rel {N : Nat} {s : St} {a : Act} (h : StRel NG N B w0 G s a w) {x : Operand} {v : Value} (hx : aeval NG s.fr x = some v) : VRel G v (a.eval x) := by
  cases x with
  | tmp t => exact h.F.2 t v hx
  | const c =>
    simp only [aeval] at hx
    split at hx
    · rename_i hc
      injection hx with hx
      subst hx
      exact selfRel_rel hc
    · cases hx
  | global g =>
    simp only [aeval] at hx
    split at hx
    · rename_i hg
      injection hx with hx
      subst hx
      have := VRel.ptr (G := G) (n := g) (off := 0) (h.S.glob g hg)
      rw [show (⟨g, 0, none⟩ : Addr).add 0 = ⟨g, 0, none⟩ from rfl] at this
      exact this
    · cases hx
  | func f =>
    injection hx with hx
    subst hx
    exact .func rfl (fun i v v' hv => by simp at hv)

/-! ### One operation -/
/-- The operation comes to a value and a heap of which R holds, whatever real world the state stands for. -/
def AOp (P : Program) (NG : Nat) (o : Oper) (s : St) (R : Value → Hp → Nat → Prop) : Prop :=
  ∀ (N B : Nat) (w0 : World) (G : GMap) (a : Act) (w : World), StRel NG N B w0 G s a w → ∀ (next : Act → World → Prop) (Q : Exit → Act → World → Prop),
    (∀ v v' H' k' G' w', R v H' k' → VRel G' v v' → SRel NG B w0 G' H' k' w' → Keep s.H s.k G w H' k' G' w' → next (a.put o.dst v') w') → o.wp P a w next Q

theorem AOp.mono {P : Program} {o : Oper} {s : St} {R R' : Value → Hp → Nat → Prop} (h : AOp P NG o s R) (hr : ∀ v H k, R v H k → R' v H k) : AOp P NG o s R' :=
  fun N B w0 G a w hs next Q hn => h N B w0 G a w hs next Q fun v v' H' k' G' w' hR => hn v v' H' k' G' w' (hr _ _ _ hR)

/-- What an operation's guard says, as far as the frame tells. -/
def wantedA (ops : Array Oper) (fr : Fr) (o : Oper) : Option Bool :=
  match o.guard with
  | none => some true
  | some (j, want) => match (ops[j]?).bind (·.dst) with
    | some t => match fr t with
      | some (.bool b) => some (b == want)
      | some (.tuple _) => some false
      | _ => none
    | none => none

def aOps (P : Program) (NG : Nat) (ops : Array Oper) (Q : St → Prop) : List Nat → St → Prop
  | [], s => Q s
  | i :: rest, s => match ops[i]? with
    | none => aOps P NG ops Q rest s
    | some o => match wantedA ops s.fr o with
      | some true => AOp P NG o s fun v H' k' => aOps P NG ops Q rest ⟨putA s.fr o.dst v, H', k'⟩
      | some false => aOps P NG ops Q rest ⟨putA s.fr o.dst undef, s.H, s.k⟩
      | none => False

/-- All destinations lie in the frame. -/
def dstsOk (N : Nat) (ops : Array Oper) : Bool := ops.all fun o => match o.dst with | some t => decide (t < N) | none => true

theorem wanted_rel {N : Nat} {ops : Array Oper} {s : St} {a : Act} (h : FRel G N s.fr a.tmps) {o : Oper} {b : Bool} (hw : wantedA ops s.fr o = some b) : Region.wanted o (yielded ops a.tmps) = b := by
  unfold wantedA at hw
  unfold Region.wanted
  cases hg : o.guard with
  | none => simp only [hg] at hw; injection hw
  | some p =>
    obtain ⟨j, want⟩ := p
    simp only [hg] at hw ⊢
    cases hd : (ops[j]?).bind (·.dst) with
    | none => simp [hd] at hw
    | some t =>
      simp only [hd] at hw
      cases hf : s.fr t with
      | none => simp [hf] at hw
      | some v =>
        simp only [hf] at hw
        have hv := h.2 t v hf
        cases v with
        | bool c =>
          simp only at hw
          injection hw with hw
          have e := hv.bool_
          have ht : t < a.tmps.size := by
            rcases Nat.lt_or_ge t a.tmps.size with hlt | hge
            · exact hlt
            · simp [Array.getD, Nat.not_lt.2 hge, undef] at e
          have e2 : a.tmps[t]? = some (.bool c) := by
            rw [Array.getElem?_eq_getElem ht]
            simpa [Array.getD, ht] using e
          have hy : yielded ops a.tmps j = some c := by
            unfold yielded
            rw [hd]
            simp [e2]
          rw [hy]
          simpa using hw
        | tuple cs =>
          simp only at hw
          injection hw with hw
          subst hw
          have e : ∀ c, a.tmps[t]? ≠ some (.bool c) := by
            intro c hc
            have hg : a.tmps.getD t undef = .bool c := by
              rw [Array.getD_eq_getD_getElem?, hc]
              rfl
            rw [hg] at hv
            cases hv
          have hy : yielded ops a.tmps j = none := by
            unfold yielded
            rw [hd]
            simp only [Option.bind_some]
          rw [hy]
          cases want <;> rfl
        | _ => simp at hw

theorem put_rel {N : Nat} {fr : Fr} {a : Act} {d : Option Tmp} {v v' : Value} (h : FRel G N fr a.tmps) (hd : ∀ t, d = some t → t < N) (hv : VRel G v v') : FRel G N (putA fr d v) (a.put d v').tmps := by
  cases d with
  | none => exact h
  | some t => exact h.put (hd t rfl) hv

theorem put_defers {a : Act} {d : Option Tmp} {v : Value} : (a.put d v).defers = a.defers := by cases d <;> rfl

theorem undef_rel : VRel G undef undef := .tuple rfl (fun i v v' hv => by simp at hv)

/-- What a piece of code comes to, from a state on. -/
def Post (NG N B : Nat) (w0 : World) (G : GMap) (s : St) (w : World) (Q : Exit → St → Prop) (e : Exit) (a' : Act) (w' : World) : Prop :=
  ∃ s' G', Q e s' ∧ StRel NG N B w0 G' s' a' w' ∧ Keep s.H s.k G w s'.H s'.k G' w' ∧ a'.defers = []

theorem Post.back {N : Nat} {s s1 : St} {w1 : World} {G1 : GMap} {Q : Exit → St → Prop} {e : Exit} {a' : Act} {w' : World} (hf : ∀ n, s.k ≤ n → G n = .free)
    (hk : Keep s.H s.k G w s1.H s1.k G1 w1) (h : Post NG N B w0 G1 s1 w1 Q e a' w') : Post NG N B w0 G s w Q e a' w' := by
  obtain ⟨s', G', h1, h2, h3, h4⟩ := h
  exact ⟨s', G', h1, h2, hk.trans hf h3, h4⟩

theorem wpQ_mono {P : Program} {o : Oper} {a : Act} {w : World} {K K' : Act → World → Prop} {Q Q' : Exit → Act → World → Prop} (h : ∀ a w, K a w → K' a w) (hq : ∀ e a w, Q e a w → Q' e a w)
    (hh : o.wp P a w K Q) : o.wp P a w K' Q' := by
  unfold Oper.wp at *
  generalize (execOp a.eval o).run P w = r at *
  cases r with
  | ok n w' =>
    cases n <;> simp only [Oper.upon] at hh ⊢ <;>
      first
        | exact h _ _ hh
        | exact Calls.mono hh (fun e w'' he => by
            cases e with
            | returned v => exact h _ _ he
            | panicked c => exact hq _ _ _ he
            | outgrown => obtain ⟨a, w, he⟩ := he; exact ⟨a, w, hq _ _ _ he⟩)
        | exact Rows.mono hh (fun _ _ he => h _ _ he)
  | halt x w' => cases x <;> simp only [Oper.upon] at hh ⊢ <;> first | exact hq _ _ _ hh | exact hh

theorem wpOps_mono {P : Program} {ops : Array Oper} {Q Q' : Exit → Act → World → Prop} (hq : ∀ e a w, Q e a w → Q' e a w) (l : List Nat) :
    ∀ {a : Act} {w : World}, wpOps P ops Q l a w → wpOps P ops Q' l a w := by
  induction l with
  | nil => intro a w h; exact hq _ _ _ h
  | cons i rest ih =>
    intro a w h
    simp only [wpOps] at h ⊢
    cases ho : ops[i]? with
    | none => simp only [ho] at h ⊢; exact ih h
    | some o =>
      simp only [ho] at h ⊢
      split
      · rename_i hw
        simp only [hw, if_true] at h
        rcases h with h | ⟨h1, a0, w0, h2⟩
        · exact .inl (wpQ_mono (fun _ _ h => ih h) hq h)
        · exact .inr ⟨h1, a0, w0, hq _ _ _ h2⟩
      · rename_i hw
        simp only [hw] at h
        exact ih h

theorem aOps_sound {P : Program} {N : Nat} {ops : Array Oper} (hd : dstsOk N ops = true) {Q : Exit → St → Prop} (l : List Nat) :
    ∀ (s : St) (G : GMap) (a : Act) (w : World), aOps P NG ops (Q .normal) l s → StRel NG N B w0 G s a w → a.defers = [] → wpOps P ops (Post NG N B w0 G s w Q) l a w := by
  induction l with
  | nil => exact fun s G a w h hs hdf => ⟨s, G, h, hs, Keep.refl _ _ _ _, hdf⟩
  | cons i rest ih =>
    intro s G a w h hs hdf
    simp only [aOps] at h
    simp only [wpOps]
    have back : ∀ {s1 : St} {G1 : GMap} {w1 : World} {a1 : Act}, Keep s.H s.k G w s1.H s1.k G1 w1 → wpOps P ops (Post NG N B w0 G1 s1 w1 Q) rest a1 w1 → wpOps P ops (Post NG N B w0 G s w Q) rest a1 w1 := by
      intro s1 G1 w1 a1 hk hw
      exact wpOps_mono (fun e a' w' hp => hp.back (fun n hn => (hs.S.fresh n hn).2) hk) rest hw
    cases ho : ops[i]? with
    | none =>
      simp only [ho] at h ⊢
      exact ih s G a w h hs hdf
    | some o =>
      simp only [ho] at h ⊢
      have hdo : ∀ t, o.dst = some t → t < N := by
        intro t ht
        have := (Array.all_eq_true_iff_forall_mem.1 hd) o (Array.mem_of_getElem? ho)
        rw [ht] at this
        simpa using this
      cases hw : wantedA ops s.fr o with
      | none => simp [hw] at h
      | some b =>
        rw [wanted_rel hs.F hw]
        cases b with
        | true =>
          simp only [hw] at h
          simp only [if_true]
          refine .inl (h N B w0 G a w hs _ _ fun v v' H' k' G' w' hR hv hS hk => ?_)
          refine back (s1 := ⟨putA s.fr o.dst v, H', k'⟩) hk (ih _ G' _ w' hR ⟨hS, put_rel (hs.F.mono hk.le) hdo hv⟩ ?_)
          rw [put_defers]; exact hdf
        | false =>
          simp only [hw] at h
          simp only [Bool.false_eq_true, if_false]
          refine back (s1 := ⟨putA s.fr o.dst undef, s.H, s.k⟩) (Keep.refl _ _ _ _) (ih _ G _ w h ⟨hs.S, put_rel hs.F hdo undef_rel⟩ ?_)
          rw [put_defers]; exact hdf
end
end Go.Ab

set_option linter.unusedVariables false
set_option linter.unusedSimpArgs false
namespace Go.Ab
open Go.RowKit

/-- From the state s on the code c ends as Q says, whatever real world the state stands for. -/
def ACode (P : Program) (NG N : Nat) (c : Code) (Q : Exit → St → Prop) (s : St) : Prop :=
  ∀ (B : Nat) (w0 : World) (G : GMap) (a : Act) (w : World), StRel NG N B w0 G s a w → a.defers = [] → c.wp P (Post NG N B w0 G s w Q) a w

def thenA (K : St → Prop) (Q : Exit → St → Prop) : Exit → St → Prop
  | .normal, s => K s
  | e, s => Q e s

def blockA (id : Nat) (Q : Exit → St → Prop) : Exit → St → Prop
  | .exit id', s => if id' = id then Q .normal s else Q (.exit id') s
  | e, s => Q e s

section
variable {P : Program} {NG N : Nat} {Q Q' : Exit → St → Prop} {s : St}

theorem ACode.mono {c : Code} (h : ACode P NG N c Q s) (hq : ∀ e s, Q e s → Q' e s) : ACode P NG N c Q' s :=
  fun B w0 G a w hs hd => wp_mono (h B w0 G a w hs hd) fun e a' w' ⟨s', G', h1, h2⟩ => ⟨s', G', hq _ _ h1, h2⟩

/-- Fewer slots, the same heap. -/
theorem ACode.less {c : Code} {fr : Fr} (h : ACode P NG N c Q ⟨fr, s.H, s.k⟩) (hl : ∀ t v, fr t = some v → s.fr t = some v) : ACode P NG N c Q s :=
  fun B w0 G a w hs hd => h B w0 G a w ⟨hs.S, hs.F.less hl⟩ hd

theorem ACode.skip (h : Q .normal s) : ACode P NG N .skip Q s := fun B w0 G a w hs hd => wp_skip ⟨s, G, h, hs, Keep.refl _ _ _ _, hd⟩
theorem ACode.exit {id : Nat} (h : Q (.exit id) s) : ACode P NG N (.exit id) Q s := fun B w0 G a w hs hd => wp_exit ⟨s, G, h, hs, Keep.refl _ _ _ _, hd⟩
theorem ACode.ret (h : Q .ret s) : ACode P NG N .ret Q s := fun B w0 G a w hs hd => wp_ret ⟨s, G, h, hs, Keep.refl _ _ _ _, hd⟩

theorem ACode.seq {x y : Code} (h : ACode P NG N x (thenA (ACode P NG N y Q) Q) s) : ACode P NG N (.seq x y) Q s := by
  intro B w0 G a w hs hd
  refine wp_seq (wp_mono (h B w0 G a w hs hd) ?_)
  rintro e a' w' ⟨s', G', h1, h2, h3, h4⟩
  cases e with
  | normal =>
    refine wp_mono (h1 B w0 G' a' w' h2 h4) ?_
    intro e2 a2 w2 hp
    exact hp.back (fun n hn => (hs.S.fresh n hn).2) h3
  | _ => exact ⟨s', G', h1, h2, h3, h4⟩

theorem ACode.cond {c : Operand} {x y : Code} {t : Bool} (hc : aeval NG s.fr c = some (.bool t)) (ht : t = true → ACode P NG N x Q s) (hf : t = false → ACode P NG N y Q s) :
    ACode P NG N (.cond c x y) Q s := by
  intro B w0 G a w hs hd
  refine wp_cond_split (t := t) (aeval_rel hs hc).bool_ (fun h => ht h B w0 G a w hs hd) (fun h => hf h B w0 G a w hs hd)

theorem ACode.block {id : Nat} {c : Code} (h : ACode P NG N c (blockA id Q) s) : ACode P NG N (.block id c) Q s := by
  intro B w0 G a w hs hd
  refine wp_block (wp_mono (h B w0 G a w hs hd) ?_)
  rintro e a' w' ⟨s', G', h1, h2⟩
  cases e with
  | exit id' =>
    simp only [blockA] at h1
    simp only [Exit.inBlock]
    split
    · rename_i e
      rw [if_pos e] at h1
      exact ⟨s', G', h1, h2⟩
    · rename_i e
      rw [if_neg e] at h1
      exact ⟨s', G', h1, h2⟩
  | _ => exact ⟨s', G', h1, h2⟩

theorem ACode.region {id : Nat} {ops : Array Oper} (hd : dstsOk N ops = true) (h : aOps P NG ops (Q .normal) (List.range ops.size) s) : ACode P NG N (.region id ops false) Q s :=
  fun B w0 G a w hs hdf => wp_region (aOps_sound hd _ s G a w h hs hdf)

theorem rounds_mono {c : Code} {R : Exit → Act → World → Prop} : ∀ (n m : Nat), n ≤ m → ∀ (a : Act) (w : World), Code.rounds P c R n a w → Code.rounds P c R m a w
  | 0, _, _, _, _, h => h.elim
  | n + 1, 0, hle, _, _, _ => by omega
  | n + 1, m + 1, hle, a, w, h => by
    rw [rounds_succ] at h ⊢
    refine wp_mono h ?_
    intro e a' w' he
    cases e with
    | normal => exact rounds_mono n m (by omega) a' w' he
    | _ => exact he

/-- A loop: I n holds at each round's head, n falls. -/
theorem ACode.loop {c : Code} (I : Nat → St → Prop) (n : Nat) (h0 : I n s) (h : ∀ n s, I n s → ACode P NG N c (thenA (fun s' => ∃ m, m < n ∧ I m s') Q) s) : ACode P NG N (.loop c) Q s := by
  intro B w0 G a w hs hd
  have key : ∀ n s1 G1 a1 w1, I n s1 → StRel NG N B w0 G1 s1 a1 w1 → a1.defers = [] → Keep s.H s.k G w s1.H s1.k G1 w1 → Code.rounds P c (Post NG N B w0 G s w Q) (n + 1) a1 w1 := by
    intro n
    induction n using Nat.strongRecOn with
    | _ n ih =>
      intro s1 G1 a1 w1 hI hs1 hd1 hk
      rw [rounds_succ]
      refine wp_mono (h n s1 hI B w0 G1 a1 w1 hs1 hd1) ?_
      rintro e a' w' ⟨s', G', h1, h2, h3, h4⟩
      have hk' := hk.trans (fun n hn => (hs.S.fresh n hn).2) h3
      cases e with
      | normal =>
        obtain ⟨m, hm, hI'⟩ := h1
        exact rounds_mono (m + 1) n (by omega) a' w' (ih m hm s' G' a' w' hI' h2 h4 hk')
      | _ => exact ⟨s', G', h1, h2, hk', h4⟩
  exact wp_loop_rounds _ (key n s G a w h0 hs hd (Keep.refl _ _ _ _))
end

/-! ### Calls -/
def ARel (G : GMap) (vs : List Value) (vs' : Array Value) : Prop := vs.length = vs'.size ∧ ∀ (i : Nat) (v : Value), vs[i]? = some v → ∃ v', vs'[i]? = some v' ∧ VRel G v v'

/-- Called with values that vs stand for, in whatever world that H stands for, f returns; R tells the value, the heap, the names. -/
def ACalls (P : Program) (NG : Nat) (f : FuncId) (vs : List Value) (H : Hp) (k : Nat) (R : Value → Hp → Nat → Prop) : Prop :=
  ∀ (B : Nat) (w0 : World) (G : GMap) (vs' : Array Value) (w : World), SRel NG B w0 G H k w → ARel G vs vs' →
    Calls P f vs' w fun e w' => ∃ v v' H' k' G', e = .returned v' ∧ R v H' k' ∧ VRel G' v v' ∧ SRel NG B w0 G' H' k' w' ∧ Keep H k G w H' k' G' w'

theorem ACalls.mono {P : Program} {NG : Nat} {f : FuncId} {vs : List Value} {H : Hp} {k : Nat} {R R' : Value → Hp → Nat → Prop} (h : ACalls P NG f vs H k R)
    (hr : ∀ v H k, R v H k → R' v H k) : ACalls P NG f vs H k R' :=
  fun B w0 G vs' w hS hv => (h B w0 G vs' w hS hv).mono fun e w' ⟨v, v', H', k', G', h1, h2, h3⟩ => ⟨v, v', H', k', G', h1, hr _ _ _ h2, h3⟩

/-! ### Types, as the rules ask of them -/
def isAggB (P : Program) (t : TypeId) : Option Bool :=
  match P.underlying t with
  | some (.struct _) | some (.array _ _) => some true
  | some _ => some false
  | none => none
def sizeB (P : Program) (t : TypeId) : Option Nat := (P.info? t).map (·.size)

section
variable {P : Program} {w : World}
theorem run_isAgg {t : TypeId} {b : Bool} (h : isAggB P t = some b) : (isAgg t).run P w = .ok b w := by
  unfold isAggB at h
  cases hu : P.underlying t with
  | none => simp [hu] at h
  | some d =>
    rw [hu] at h
    unfold isAgg
    rw [Sem.run_bind, run_underlying hu]
    cases d <;> simp_all
theorem run_sizeOf {t : TypeId} {z : Nat} (h : sizeB P t = some z) : (sizeOf t).run P w = .ok z w := by
  unfold sizeB at h
  cases hi : P.info? t with
  | none => simp [hi] at h
  | some i =>
    simp [hi] at h
    simp [sizeOf, typeInfo, hi, h]
end

/-! ### Loads -/
/-- The cells of a name. -/
def hcells (H : Hp) (n off z : Nat) : Option (List Value) :=
  match H n with
  | some b => if off + z ≤ b.cells.length then some ((b.cells.drop off).take z) else none
  | none => none

/-- z cells at an abstract address. -/
def aload (H : Hp) (z : Nat) : Value → Option (List Value)
  | .pointer (some ⟨n, off, none⟩) => hcells H n off z
  | .pointer (some ⟨n, off, some 1⟩) => match H n with
    | some b => if off % b.esz + z ≤ b.esz then hcells H n off z else none
    | none => none
  | _ => none

theorem add_block (a : Addr) (n : Nat) : (a.add n).block = a.block := by unfold Addr.add; split <;> rfl
theorem add_add (a : Addr) (i j : Nat) : (a.add i).add j = a.add (i + j) := by
  unfold Addr.add
  by_cases hi : i = 0 <;> by_cases hj : j = 0 <;> simp [hi, hj, Nat.add_assoc]
theorem add_plain (g i j : Nat) : (⟨g, i, none⟩ : Addr).add j = ⟨g, i + j, none⟩ := by unfold Addr.add; split <;> simp_all

section
variable {NG B : Nat} {w0 w : World} {G : GMap} {H : Hp} {k : Nat}

/-- What stands at the real address. -/
theorem load_at {b : Blk} {n : Nat} {base : Addr} (hS : SRel NG B w0 G H k w) (hn : H n = some b) (hg : G n = .at base) {j : Nat} {v : Value} (hv : b.cells[j]? = some v) :
    ∃ v', w.cell? (base.add j) = some v' ∧ VRel G v v' := by
  have hb := hS.blk n b hn
  have hj : j < b.cells.length := (List.getElem?_eq_some_iff.1 hv).1
  unfold BRel at hb
  cases hk : b.kind with
  | ro =>
    simp only [hk] at hb
    obtain ⟨base', e, _, hc⟩ := hb
    rw [hg] at e
    injection e with e
    subst e
    exact hc j v hj hv
  | fix =>
    simp only [hk] at hb
    obtain ⟨blk, cs, e, _, hr, _, hc⟩ := hb
    rw [hg] at e
    injection e with e
    subst e
    obtain ⟨v', h1, h2⟩ := hc j v hj hv
    refine ⟨v', ?_, h2⟩
    rw [add_plain, hr.cell, Nat.zero_add]
    exact h1
  | grow =>
    simp only [hk] at hb
    obtain ⟨_, rows, e, _⟩ := hb
    rw [hg] at e
    cases e

theorem load_row {b : Blk} {n s : Nat} {rows : List Row} {r : Row} (hS : SRel NG B w0 G H k w) (hn : H n = some b) (hg : G n = .rows s rows) (hr : r ∈ rows) {j : Nat} {v : Value} (hv : b.cells[j]? = some v) (hj : j < r.k) :
    ∃ v', w.cell? ⟨r.block, j, none⟩ = some v' ∧ VRel G v v' := by
  have hb := hS.blk n b hn
  unfold BRel at hb
  cases hk : b.kind with
  | ro =>
    simp only [hk] at hb
    obtain ⟨base', e, _, hc⟩ := hb
    rw [hg] at e
    cases e
  | fix =>
    simp only [hk] at hb
    obtain ⟨blk, cs, e, _, hr, _, hc⟩ := hb
    rw [hg] at e
    cases e
  | grow =>
    simp only [hk] at hb
    obtain ⟨_, rows', e, _, h2, _⟩ := hb
    rw [hg] at e
    injection e with e1 e2
    subst e2
    obtain ⟨_, _, _, cs, h3, _, _, h4⟩ := h2 r hr
    obtain ⟨v', h5, h6⟩ := h4 j v hj hv
    exact ⟨v', by rw [h3.cell]; exact h5, h6⟩

/-- The real cells behind an abstract address, a list. -/
theorem aload_rel {z : Nat} {v v' : Value} {cs : List Value} (hS : SRel NG B w0 G H k w) (hl : aload H z v = some cs) (hv : VRel G v v') :
    ∃ a, v' = .pointer (some a) ∧ cs.length = z ∧ ∃ cs' : List Value, cs'.length = z ∧ (∀ j u, cs'[j]? = some u → w.cell? (a.add j) = some u) ∧ ∀ (j : Nat) (u : Value), cs[j]? = some u → ∃ u', cs'[j]? = some u' ∧ VRel G u u' := by
  have main : ∀ (n off : Nat) (a : Addr), hcells H n off z = some cs → (∀ b, H n = some b → ∀ j u, j < z → b.cells[off + j]? = some u → ∃ u', w.cell? (a.add j) = some u' ∧ VRel G u u') →
      cs.length = z ∧ ∃ cs' : List Value, cs'.length = z ∧ (∀ j u, cs'[j]? = some u → w.cell? (a.add j) = some u) ∧ ∀ (j : Nat) (u : Value), cs[j]? = some u → ∃ u', cs'[j]? = some u' ∧ VRel G u u' := by
    intro n off a hc hat
    unfold hcells at hc
    cases hn : H n with
    | none => simp [hn] at hc
    | some b =>
      simp only [hn] at hc
      split at hc
      · rename_i hle
        injection hc with hc
        have hlen : cs.length = z := by rw [← hc, List.length_take, List.length_drop]; omega
        refine ⟨hlen, (List.range z).map (fun j => (w.cell? (a.add j)).getD undef), by simp, ?_, ?_⟩
        · intro j u hu
          rw [List.getElem?_map] at hu
          rcases Nat.lt_or_ge j z with hj | hj
          · rw [List.getElem?_range hj] at hu
            simp only [Option.map_some, Option.some.injEq] at hu
            obtain ⟨u', h1, _⟩ := hat b hn j (b.cells[off + j]'(by omega)) hj (List.getElem?_eq_getElem (by omega))
            rw [h1] at hu ⊢
            simpa using hu
          · rw [List.getElem?_eq_none (by simpa using hj)] at hu
            cases hu
        · intro j u hu
          have hj : j < z := by have := (List.getElem?_eq_some_iff.1 hu).1; omega
          have hu' : b.cells[off + j]? = some u := by
            rw [← hc, List.getElem?_take, if_pos hj, List.getElem?_drop] at hu
            exact hu
          obtain ⟨u', h1, h2⟩ := hat b hn j u hj hu'
          refine ⟨u', ?_, h2⟩
          rw [List.getElem?_map, List.getElem?_range hj]
          simp [h1]
      · cases hc
  cases hv with
  | @ptr n off base hg =>
    refine ⟨_, rfl, main n off _ hl fun b hn j u hj hu => ?_⟩
    rw [add_add]
    exact load_at hS hn hg hu
  | @gptr n off s rows r hg hr hk =>
    simp only [aload] at hl
    cases hn : H n with
    | none => simp [hn] at hl
    | some b =>
      simp only [hn] at hl
      split at hl
      · rename_i hmod
        refine ⟨_, rfl, main n off _ hl fun b' hn' j u hj hu => ?_⟩
        rw [hn] at hn'
        injection hn' with hn'
        subst hn'
        rw [add_plain]
        refine load_row hS hn hg hr hu ?_
        have hb := hS.blk n b hn
        unfold BRel at hb
        cases hkd : b.kind with
        | ro => simp only [hkd] at hb; obtain ⟨base', e, _⟩ := hb; rw [hg] at e; cases e
        | fix => simp only [hkd] at hb; obtain ⟨blk, cs, e, _⟩ := hb; rw [hg] at e; cases e
        | grow =>
          simp only [hkd] at hb
          obtain ⟨h0, rows', e, _, h2, _⟩ := hb
          rw [hg] at e
          injection e with e1 e2
          subst e2
          obtain ⟨_, _, h3, _⟩ := h2 r hr
          have d1 := Nat.div_add_mod off b.esz
          have d2 := Nat.div_add_mod r.k b.esz
          rw [h3] at d2
          have hq : off / b.esz < r.k / b.esz := by
            rw [Nat.div_lt_iff_lt_mul h0]
            rw [Nat.mul_comm, show b.esz * (r.k / b.esz) = r.k by omega]
            exact hk
          have : b.esz * (off / b.esz) + b.esz ≤ r.k := by
            rw [← Nat.mul_succ, show r.k = b.esz * (r.k / b.esz) by omega]
            exact Nat.mul_le_mul_left _ hq
          omega
      · cases hl
  | plain hp =>
    unfold aload at hl
    split at hl <;> simp_all [isPlain]
  | _ => simp [aload] at hl
end

/-- The value of a variable of type t. -/
def aloadVar (P : Program) (H : Hp) (t : TypeId) (v : Value) : Option Value :=
  match isAggB P t, sizeB P t with
  | some true, some z => (aload H z v).map fun cs => .agg cs.toArray
  | some false, _ => match aload H 1 v with
    | some [x] => some x
    | _ => none
  | _, _ => none

theorem loadVar_rel {P : Program} {NG B : Nat} {w0 w : World} {G : GMap} {H : Hp} {k : Nat} {t : TypeId} {v v' x : Value} (hS : SRel NG B w0 G H k w) (hl : aloadVar P H t v = some x) (hv : VRel G v v') :
    ∃ a x', v' = .pointer (some a) ∧ (loadVar t a).run P w = .ok x' w ∧ VRel G x x' := by
  unfold aloadVar at hl
  cases ha : isAggB P t with
  | none => simp [ha] at hl
  | some b =>
    cases b with
    | true =>
      cases hz : sizeB P t with
      | none => simp [ha, hz] at hl
      | some z =>
        simp only [ha, hz] at hl
        cases hc : aload H z v with
        | none => simp [hc] at hl
        | some cs =>
          simp only [hc, Option.map_some, Option.some.injEq] at hl
          subst hl
          obtain ⟨a, rfl, hlen, cs', hlen', h1, h2⟩ := aload_rel hS hc hv
          refine ⟨a, .agg cs'.toArray, rfl, ?_, ?_⟩
          · unfold loadVar
            rw [Sem.run_bind, run_isAgg ha]
            simp only [Result.andThen_ok, if_true]
            rw [Sem.run_bind, run_sizeOf hz]
            simp only [Result.andThen_ok]
            have h3 := run_loadCells_list (P := P) w a cs' h1
            rw [hlen'] at h3
            rw [Sem.run_bind, h3]
            rfl
          · refine .agg (by simp [hlen, hlen']) fun i u u' hu hu' => ?_
            obtain ⟨u'', h4, h5⟩ := h2 i u (by simpa using hu)
            have : cs'[i]? = some u' := by simpa using hu'
            rw [h4] at this
            injection this with this
            subst this
            exact h5
    | false =>
      simp only [ha] at hl
      cases hc : aload H 1 v with
      | none => simp [hc] at hl
      | some cs =>
        simp only [hc] at hl
        match cs, hc, hl with
        | [y], hc, hl =>
          injection hl with hl
          subst hl
          obtain ⟨a, rfl, hlen, cs', hlen', h1, h2⟩ := aload_rel hS hc hv
          obtain ⟨u', h4, h5⟩ := h2 0 y rfl
          refine ⟨a, u', rfl, ?_, h5⟩
          unfold loadVar
          rw [Sem.run_bind, run_isAgg ha]
          simp only [Result.andThen_ok, Bool.false_eq_true, if_false]
          have h6 := h1 0 u' h4
          rw [show a.add 0 = a from rfl] at h6
          simp [load, Sem.run, h6]

/-! ### A function's body -/
def aresult (P : Program) (fr : Fr) (H : Hp) : ResultVar → Option Value
  | .tmp t => fr t
  | .cell a t => match fr a with
    | some p => aloadVar P H t p
    | none => none

def aresults (P : Program) (rs : List ResultVar) (fr : Fr) (H : Hp) : Option (List Value) := rs.mapM (aresult P fr H)

def packA : List Value → Value
  | [v] => v
  | vs => .tuple vs.toArray

def frOf (vs : List Value) : Fr := fun t => vs[t]?

end Go.Ab

set_option linter.unusedVariables false
set_option linter.unusedSimpArgs false
namespace Go.Ab
open Go.RowKit

section
variable {P : Program} {NG N B : Nat} {w0 w : World} {G : GMap} {s : St} {a : Act}

def resSem (tmps : Array Value) : ResultVar → Sem Value
  | .tmp t => pure (tmps.getD t undef)
  | .cell a t => do loadVar t (← asAddr (tmps.getD a undef))

theorem aresult_rel {H : Hp} {k : Nat} {fr : Fr} {tmps : Array Value} {r : ResultVar} {x : Value} (hS : SRel NG B w0 G H k w) (hF : FRel G N fr tmps) (h : aresult P fr H r = some x) :
    ∃ x', (resSem tmps r).run P w = .ok x' w ∧ VRel G x x' := by
  cases r with
  | tmp t => exact ⟨_, rfl, hF.2 t x h⟩
  | cell t ty =>
    simp only [aresult] at h
    cases hp : fr t with
    | none => simp [hp] at h
    | some p =>
      simp only [hp] at h
      obtain ⟨ad, x', e, hr, hv⟩ := loadVar_rel hS h (hF.2 t p hp)
      refine ⟨x', ?_, hv⟩
      simp only [resSem]
      rw [e, Sem.run_bind]
      exact hr

theorem mapM_run {H : Hp} {k : Nat} {fr : Fr} {tmps : Array Value} (hS : SRel NG B w0 G H k w) (hF : FRel G N fr tmps) :
    ∀ (rs : List ResultVar) (xs : List Value), aresults P rs fr H = some xs →
      ∃ xs' : List Value, (rs.mapM (resSem tmps) : Sem (List Value)).run P w = .ok xs' w ∧ ARel G xs xs'.toArray
  | [], xs, h => by
    injection h with h
    subst h
    exact ⟨[], by simp, rfl, fun i v hv => by simp at hv⟩
  | r :: rs, xs, h => by
    simp only [aresults, List.mapM_cons] at h
    cases h1 : aresult P fr H r with
    | none => simp [h1] at h
    | some x =>
      cases h2 : rs.mapM (aresult P fr H) with
      | none => simp [h1, h2] at h
      | some ys =>
        simp [h1, h2] at h
        subst h
        obtain ⟨x', e1, v1⟩ := aresult_rel (P := P) hS hF h1
        obtain ⟨ys', e2, v2, v3⟩ := mapM_run hS hF rs ys h2
        refine ⟨x' :: ys', ?_, by simpa using v2, fun i v hv => ?_⟩
        · rw [List.mapM_cons, Sem.run_bind, e1]
          simp only [Result.andThen_ok]
          rw [Sem.run_bind, e2]
          rfl
        · cases i with
          | zero => simp at hv; subst hv; exact ⟨x', by simp, v1⟩
          | succ i => simpa using v3 i v (by simpa using hv)

theorem results_rel {fn : Func} {H : Hp} {k : Nat} {fr : Fr} {tmps : Array Value} {xs : List Value} (hS : SRel NG B w0 G H k w) (hF : FRel G N fr tmps) (h : aresults P fn.results.toList fr H = some xs) :
    ∃ x', (results fn tmps).run P w = .ok x' w ∧ VRel G (packA xs) x' := by
  obtain ⟨xs', e, hl, hv⟩ := mapM_run (P := P) hS hF _ _ h
  refine ⟨if h : xs'.toArray.size = 1 then xs'.toArray[0] else .tuple xs'.toArray, ?_, ?_⟩
  · have : results fn tmps = (fn.results.mapM (resSem tmps) >>= fun vs => pure (if h : vs.size = 1 then vs[0] else .tuple vs)) := by
      unfold results
      congr 2
    rw [this, Sem.run_bind, Array.mapM_eq_mapM_toList, Sem.run_map, e]
    rfl
  · match xs, hl, hv with
    | [], hl, hv =>
      have : xs' = [] := by simpa using hl.symm
      subst this
      exact .tuple rfl fun i v v' hv => by simp at hv
    | [x], hl, hv =>
      match xs', hl with
      | [x'], _ =>
        obtain ⟨x'', h1, h2⟩ := hv 0 x rfl
        simp at h1
        subst h1
        exact h2
    | x :: y :: r, hl, hv =>
      have h1 : ¬ xs'.toArray.size = 1 := by simp at hl ⊢; omega
      rw [dif_neg h1]
      refine .tuple (by simpa using hl) fun i v v' h2 h3 => ?_
      obtain ⟨v'', h4, h5⟩ := hv i v (by simpa using h2)
      rw [h3] at h4
      injection h4 with h4
      subst h4
      exact h5

/-! ### Operations that make no memory -/
theorem AOp.quiet {o : Oper} {R : Value → Hp → Nat → Prop} (v : Value) (hR : R v s.H s.k)
    (h : ∀ (N B : Nat) (w0 : World) (G : GMap) (a : Act) (w : World), StRel NG N B w0 G s a w → ∃ v', (execOp a.eval o).run P w = .ok (.value v') w ∧ VRel G v v') : AOp P NG o s R := by
  intro N B w0 G a w hs next Q hn
  obtain ⟨v', hr, hv⟩ := h N B w0 G a w hs
  unfold Oper.wp
  rw [hr]
  exact hn v v' s.H s.k G w hR hv hs.S (Keep.refl _ _ _ _)

theorem VRel.self_ {v v' : Value} (hp : selfRel v = true) (h : VRel G v v') : v' = v := by
  have arr : ∀ cs cs' : Array Value, cs.all isPlain = true → cs.size = cs'.size → (∀ (i : Nat) (x x' : Value), cs[i]? = some x → cs'[i]? = some x' → VRel G x x') → cs' = cs := by
    intro cs cs' hc hs hh
    apply Array.ext_getElem?
    intro i
    rcases Nat.lt_or_ge i cs.size with hi | hi
    · have h1 : cs[i]? = some cs[i] := Array.getElem?_eq_getElem hi
      have h2 : cs'[i]? = some (cs'[i]'(by omega)) := Array.getElem?_eq_getElem (by omega)
      have := hh i _ _ h1 h2
      rw [h1, h2, this.plain_ (all_at hc h1)]
    · rw [Array.getElem?_eq_none hi, Array.getElem?_eq_none (by omega)]
  cases h with
  | plain h => rfl
  | agg hs h => rw [arr _ _ hp hs h]
  | tuple hs h => rw [arr _ _ hp hs h]
  | iface h => rw [h.plain_ hp]
  | func hs h =>
    simp only [selfRel, Bool.and_eq_true] at hp
    rw [arr _ _ hp.2 hs h]
  | _ => simp [selfRel, isPlain] at hp

theorem AOp.move {o : Oper} {R : Value → Hp → Nat → Prop} {x : Operand} {v : Value} (ho : o.op = .move x ∨ o.op = .assign x) (hx : aeval NG s.fr x = some v) (hR : R v s.H s.k) : AOp P NG o s R := by
  refine AOp.quiet v hR fun N B w0 G a w hs => ⟨a.eval x, ?_, aeval_rel hs hx⟩
  rcases ho with ho | ho <;> simp [execOp, ho]

theorem AOp.pick {o : Oper} {R : Value → Hp → Nat → Prop} {c x y : Operand} {t : Bool} {v : Value} (ho : o.op = .pick c x y) (hc : aeval NG s.fr c = some (.bool t)) (hx : aeval NG s.fr (if t then x else y) = some v)
    (hR : R v s.H s.k) : AOp P NG o s R := by
  refine AOp.quiet v hR fun N B w0 G a w hs => ?_
  have h1 := (aeval_rel hs hc).bool_
  refine ⟨_, ?_, aeval_rel hs hx⟩
  simp only [execOp, ho, h1]
  cases t <;> simp [asBool]

/-- Two operands that are scalars (or structs, arrays of these): what the model's operation comes to in every world. -/
theorem AOp.bin {o : Oper} {R : Value → Hp → Nat → Prop} {op : BinOp} {t t' : TypeId} {x y : Operand} {u v z : Value} (ho : o.op = .binOp op t x y t') (hx : aeval NG s.fr x = some u) (hy : aeval NG s.fr y = some v)
    (hu : selfRel u = true) (hv : selfRel v = true) (hz : selfRel z = true) (hrun : ∀ w : World, (do eqGuard op t x y u v; binOp op t u v : Sem Value).run P w = .ok z w) (hR : R z s.H s.k) : AOp P NG o s R := by
  refine AOp.quiet z hR fun N B w0 G a w hs => ⟨z, ?_, selfRel_rel hz⟩
  have h1 := (aeval_rel hs hx).self_ hu
  have h2 := (aeval_rel hs hy).self_ hv
  simp only [execOp, ho, h1, h2]
  rw [Sem.run_bind, hrun w]
  rfl

theorem AOp.un {o : Oper} {R : Value → Hp → Nat → Prop} {op : UnOp} {t : TypeId} {x : Operand} {u z : Value} (ho : o.op = .unOp op t x) (hx : aeval NG s.fr x = some u)
    (hu : selfRel u = true) (hz : selfRel z = true) (hrun : ∀ w : World, (Op.unary op u).run P w = .ok z w) (hR : R z s.H s.k) : AOp P NG o s R := by
  refine AOp.quiet z hR fun N B w0 G a w hs => ⟨z, ?_, selfRel_rel hz⟩
  have h1 := (aeval_rel hs hx).self_ hu
  simp only [execOp, ho, h1]
  rw [Sem.run_bind, hrun w]
  rfl

theorem AOp.conv {o : Oper} {R : Value → Hp → Nat → Prop} {t t' : TypeId} {x : Operand} {u z : Value} (ho : o.op = .convert t t' x) (hx : aeval NG s.fr x = some u)
    (hu : selfRel u = true) (hz : selfRel z = true) (hrun : ∀ w : World, (convert t t' u).run P w = .ok z w) (hR : R z s.H s.k) : AOp P NG o s R := by
  refine AOp.quiet z hR fun N B w0 G a w hs => ⟨z, ?_, selfRel_rel hz⟩
  have h1 := (aeval_rel hs hx).self_ hu
  simp only [execOp, ho, h1]
  rw [Sem.run_bind, hrun w]
  rfl

/-- A struct type's field: its offset, whether it is a struct or an array, its size. -/
def fieldB (P : Program) (t : TypeId) (f : Nat) : Option (Nat × Bool × Nat) :=
  match P.underlying t with
  | some (.struct fs) => match fs[f]? with
    | some fd => match isAggB P fd.type, sizeB P fd.type with
      | some a, some z => some (fd.offset, a, z)
      | _, _ => none
    | none => none
  | _ => none

/-- An array type: its length, whether its elements are structs or arrays, their size. -/
def arrB (P : Program) (t : TypeId) : Option (Nat × Bool × Nat) :=
  match P.underlying t with
  | some (.array n e) => match isAggB P e, sizeB P e with
    | some a, some z => some (n, a, z)
    | _, _ => none
  | _ => none

/-- A slice type: its element's type and size. -/
def slB (P : Program) (t : TypeId) : Option (TypeId × Nat) :=
  match P.underlying t with
  | some (.slice e) => (sizeB P e).map fun z => (e, z)
  | _ => none

theorem fieldB_inv {t : TypeId} {f off z : Nat} {agg : Bool} (h : fieldB P t f = some (off, agg, z)) : ∃ fs fd, P.underlying t = some (.struct fs) ∧ fs[f]? = some fd ∧ fd.offset = off ∧ isAggB P fd.type = some agg ∧ sizeB P fd.type = some z := by
  unfold fieldB at h
  split at h
  · rename_i fs hu
    split at h
    · rename_i fd hf
      split at h
      · rename_i a z' h1 h2
        simp only [Option.some.injEq, Prod.mk.injEq] at h
        obtain ⟨rfl, rfl, rfl⟩ := h
        exact ⟨fs, fd, hu, hf, rfl, h1, h2⟩
      · cases h
    · cases h
  · cases h
theorem arrB_inv {t : TypeId} {n z : Nat} {agg : Bool} (h : arrB P t = some (n, agg, z)) : ∃ e, P.underlying t = some (.array n e) ∧ isAggB P e = some agg ∧ sizeB P e = some z := by
  unfold arrB at h
  split at h
  · rename_i m e hu
    split at h
    · rename_i a z' h1 h2
      simp only [Option.some.injEq, Prod.mk.injEq] at h
      obtain ⟨rfl, rfl, rfl⟩ := h
      exact ⟨e, hu, h1, h2⟩
    · cases h
  · cases h
theorem slB_inv {t e : TypeId} {z : Nat} (h : slB P t = some (e, z)) : P.underlying t = some (.slice e) ∧ sizeB P e = some z := by
  unfold slB at h
  split at h
  · rename_i e' hu
    cases h1 : sizeB P e' with
    | none => simp [h1] at h
    | some z' =>
      simp [h1] at h
      obtain ⟨rfl, rfl⟩ := h
      exact ⟨hu, h1⟩
  · cases h

theorem AOp.extract {o : Oper} {R : Value → Hp → Nat → Prop} {x : Operand} {i : Nat} {cs : Array Value} {v : Value} (ho : o.op = .extract x i) (hx : aeval NG s.fr x = some (.tuple cs)) (hp : cs[i]? = some v) (hR : R v s.H s.k) : AOp P NG o s R := by
  refine AOp.quiet v hR fun N B w0 G a w hs => ?_
  have h1 := aeval_rel hs hx
  generalize hy : a.eval x = y at h1
  cases h1 with
  | plain h => simp [isPlain] at h
  | @tuple _ cs' hsz hc =>
    have hi : i < cs.size := (Array.getElem?_eq_some_iff.1 hp).1
    have h2 : cs'[i]? = some (cs'[i]'(by omega)) := Array.getElem?_eq_getElem (by omega)
    refine ⟨_, ?_, hc i v _ hp h2⟩
    simp [execOp, ho, hy, Instr.extract, h2]

theorem AOp.makeIface {o : Oper} {R : Value → Hp → Nat → Prop} {t : TypeId} {x : Operand} {v : Value} {d : TypeDesc} (ho : o.op = .makeInterface t x) (hu : P.underlying t = some d) (hd : ∀ ms, d ≠ .interface ms) (hx : aeval NG s.fr x = some v)
    (hR : R (.iface t v) s.H s.k) : AOp P NG o s R := by
  refine AOp.quiet _ hR fun N B w0 G a w hs => ⟨.iface t (a.eval x), ?_, .iface (aeval_rel hs hx)⟩
  simp only [execOp, ho]
  rw [Sem.run_bind]
  have : (Instr.makeInterface t (a.eval x)).run P w = .ok (.iface t (a.eval x)) w := by
    unfold Instr.makeInterface
    rw [Sem.run_bind, run_underlying hu]
    cases d <;> first | rfl | (exact absurd rfl (hd _))
  rw [this]
  rfl

theorem mapM_aeval {l : List Operand} {vs : List Value} (hs : StRel NG N B w0 G s a w) (h : l.mapM (aeval NG s.fr) = some vs) : ARel G vs (l.map a.eval).toArray := by
  induction l generalizing vs with
  | nil => injection h with h; subst h; exact ⟨rfl, fun i v hv => by simp at hv⟩
  | cons x l ih =>
    simp only [List.mapM_cons] at h
    cases h1 : aeval NG s.fr x with
    | none => simp [h1] at h
    | some v =>
      cases h2 : l.mapM (aeval NG s.fr) with
      | none => simp [h1, h2] at h
      | some ys =>
        simp [h1, h2] at h
        subst h
        obtain ⟨e1, e2⟩ := ih h2
        refine ⟨by simpa using e1, fun i u hu => ?_⟩
        cases i with
        | zero => simp at hu; subst hu; exact ⟨a.eval x, by simp, aeval_rel hs h1⟩
        | succ i => simpa using e2 i u (by simpa using hu)

theorem AOp.makeFunc {o : Oper} {R : Value → Hp → Nat → Prop} {fn : Fn} {cap : Array Operand} {vs : List Value} (ho : o.op = .makeFunc fn #[] cap) (hx : cap.toList.mapM (aeval NG s.fr) = some vs)
    (hR : R (.func fn #[] vs.toArray) s.H s.k) : AOp P NG o s R := by
  refine AOp.quiet _ hR fun N B w0 G a w hs => ?_
  obtain ⟨e1, e2⟩ := mapM_aeval hs hx
  refine ⟨.func fn #[] (cap.map a.eval), ?_, .func (by simpa using e1) fun i v v' hv hv' => ?_⟩
  · simp [execOp, ho, Instr.makeFunc]
  · obtain ⟨v'', h1, h2⟩ := e2 i v (by simpa using hv)
    have : (cap.map a.eval)[i]? = some v'' := by simpa using h1
    rw [hv'] at this
    injection this with this
    subst this
    exact h2

/-! ### Addresses -/
def aptrAdd (H : Hp) (d : Nat) : Value → Option Value
  | .pointer (some ⟨n, off, none⟩) => some (.pointer (some ⟨n, off + d, none⟩))
  | .pointer (some ⟨n, off, some 1⟩) => match H n with
    | some b => if off % b.esz + d < b.esz then some (.pointer (some ⟨n, off + d, some 1⟩)) else none
    | none => none
  | _ => none

theorem row_facts {H : Hp} {k : Nat} {b : Blk} {n z : Nat} {rows : List Row} (hS : SRel NG B w0 G H k w) (hn : H n = some b) (hg : G n = .rows z rows) : z = b.esz ∧ 0 < b.esz ∧ b.kind = .grow ∧ ∀ r ∈ rows, RowRel G w B b r := by
  have hb := hS.blk n b hn
  unfold BRel at hb
  cases hkd : b.kind with
  | ro => simp only [hkd] at hb; obtain ⟨base', e, _⟩ := hb; rw [hg] at e; cases e
  | fix => simp only [hkd] at hb; obtain ⟨blk, cs, e, _⟩ := hb; rw [hg] at e; cases e
  | grow =>
    simp only [hkd] at hb
    obtain ⟨h0, rows', e, _, h2, _⟩ := hb
    rw [hg] at e
    injection e with e1 e2
    subst e2
    exact ⟨e1, h0, rfl, h2⟩

theorem aptrAdd_rel {H : Hp} {k d : Nat} {p q p' : Value} (hS : SRel NG B w0 G H k w) (h : aptrAdd H d p = some q) (hp : VRel G p p') : ∃ ad, p' = .pointer (some ad) ∧ VRel G q (.pointer (some (ad.add d))) := by
  cases hp with
  | @ptr n off base hg =>
    injection h with h
    subst h
    exact ⟨_, rfl, by rw [add_add]; exact .ptr hg⟩
  | @gptr n off z rows r hg hr hk =>
    simp only [aptrAdd] at h
    cases hn : H n with
    | none => simp [hn] at h
    | some b =>
      simp only [hn] at h
      split at h
      · rename_i hlt
        injection h with h
        subst h
        obtain ⟨rfl, h0, _, h2⟩ := row_facts hS hn hg
        obtain ⟨_, _, h3, _⟩ := h2 r hr
        refine ⟨_, rfl, ?_⟩
        rw [add_plain]
        refine .gptr hg hr ?_
        have d1 := Nat.div_add_mod off b.esz
        have d2 := Nat.div_add_mod r.k b.esz
        rw [h3] at d2
        have hq : off / b.esz < r.k / b.esz := by
          rw [Nat.div_lt_iff_lt_mul h0, Nat.mul_comm, show b.esz * (r.k / b.esz) = r.k by omega]
          exact hk
        have : b.esz * (off / b.esz) + b.esz ≤ r.k := by
          rw [← Nat.mul_succ, show r.k = b.esz * (r.k / b.esz) by omega]
          exact Nat.mul_le_mul_left _ hq
        omega
      · cases h
  | plain hpl =>
    unfold aptrAdd at h
    split at h <;> simp_all [isPlain]
  | _ => simp [aptrAdd] at h

theorem AOp.fieldAddr {o : Oper} {R : Value → Hp → Nat → Prop} {t : TypeId} {x : Operand} {f off z : Nat} {agg : Bool} {p q : Value} (ho : o.op = .fieldAddr t x f) (hf : fieldB P t f = some (off, agg, z)) (hz0 : 0 < z)
    (hx : aeval NG s.fr x = some p) (hq : aptrAdd s.H off p = some q) (hR : R q s.H s.k) : AOp P NG o s R := by
  refine AOp.quiet q hR fun N B w0 G a w hs => ?_
  obtain ⟨fs, fd, hu, hfd, rfl, ha, hz⟩ := fieldB_inv hf
  obtain ⟨ad, e, hv⟩ := aptrAdd_rel hs.S hq (aeval_rel hs hx)
  refine ⟨_, ?_, hv⟩
  simp only [execOp, ho, e]
  rw [Sem.run_bind]
  have : (Instr.fieldAt t (.pointer (some ad)) f).run P w = .ok (.pointer (some (ad.add fd.offset))) w := by
    unfold Instr.fieldAt
    rw [Sem.run_bind, run_underlying hu]
    simp only [Result.andThen_ok, hfd, Instr.sureAddr]
    rw [Sem.run_bind]
    simp only [Sem.run_pure, Result.andThen_ok]
    unfold fieldPlace
    rw [Sem.run_bind, Sem.run_bind, run_sizeOf hz]
    simp only [Result.andThen_ok]
    rw [if_neg (by omega)]
    rfl
  rw [this]
  rfl

/-- Element i of an abstract slice: where it lies. -/
def aslcAt (H : Hp) (z : Nat) (i : Nat) : Value → Option Value
  | .slice (some ⟨n, off, none⟩) l _ => if i < l then some (.pointer (some ⟨n, off + i * z, none⟩)) else none
  | .slice (some ⟨n, off, some 0⟩) l _ => if i < l then some (.pointer (some ⟨n, off + i * z, none⟩)) else none
  | .slice (some ⟨n, off, some 1⟩) l _ => match H n with
    | some b => if i < l ∧ b.esz = z then some (.pointer (some ⟨n, off + i * z, some 1⟩)) else none
    | none => none
  | .slice (some ⟨n, off, some 2⟩) l _ => match H n with
    | some b => if i < l ∧ b.esz = z then some (.pointer (some ⟨n, off + i * z, some 1⟩)) else none
    | none => none
  | _ => none

theorem aslcAt_rel {H : Hp} {k z i : Nat} {p q p' : Value} (hS : SRel NG B w0 G H k w) (h : aslcAt H z i p = some q) (hp : VRel G p p') :
    ∃ ad l c, p' = .slice (some ad) l c ∧ i < l ∧ VRel G q (.pointer (some (ad.add (i * z)))) := by
  cases hp with
  | @exact n off l c base hg =>
    simp only [aslcAt] at h
    split at h
    · injection h with h
      subst h
      exact ⟨_, _, _, rfl, by assumption, by rw [add_add]; exact .ptr hg⟩
    · cases h
  | @loose n off l c base A hg hc hA =>
    simp only [aslcAt] at h
    split at h
    · rename_i hlt
      injection h with h
      subst h
      refine ⟨base.add off, l, c, by rw [hA (by omega)], hlt, by rw [add_add]; exact .ptr hg⟩
    · cases h
  | @grow n z' l c rows A hg hl =>
    simp only [aslcAt] at h
    cases hn : H n with
    | none => simp [hn] at h
    | some b =>
      simp only [hn] at h
      split at h
      · rename_i hlt
        obtain ⟨hlt, hz⟩ := hlt
        injection h with h
        subst h
        obtain ⟨e, h0, _, h2⟩ := row_facts hS hn hg
        have hzz : z' = z := e.trans hz
        subst hzz
        rcases hl with h3 | ⟨r, hr, rfl, hk, hlc, _⟩
        · omega
        · refine ⟨_, _, _, rfl, hlt, ?_⟩
          rw [add_plain]
          refine .gptr hg hr ?_
          have : i * z' + z' ≤ l * z' := by rw [← Nat.succ_mul]; exact Nat.mul_le_mul_right _ hlt
          omega
      · cases h
  | @gcut n off z' l c rows A hg hl =>
    simp only [aslcAt] at h
    cases hn : H n with
    | none => simp [hn] at h
    | some b =>
      simp only [hn] at h
      split at h
      · rename_i hlt
        obtain ⟨hlt, hz⟩ := hlt
        injection h with h
        subst h
        obtain ⟨e, h0, _, h2⟩ := row_facts hS hn hg
        have hzz : z' = z := e.trans hz
        subst hzz
        obtain ⟨r, hr, rfl, hk⟩ := hl.2 (by omega)
        refine ⟨_, _, _, rfl, hlt, ?_⟩
        rw [add_plain]
        refine .gptr hg hr ?_
        have : i * z' + z' ≤ l * z' := by rw [← Nat.succ_mul]; exact Nat.mul_le_mul_right _ hlt
        omega
      · cases h
  | plain hpl =>
    unfold aslcAt at h
    split at h <;> simp_all [isPlain]
  | _ => simp [aslcAt] at h

theorem AOp.indexAddr_slc {o : Oper} {R : Value → Hp → Nat → Prop} {t e : TypeId} {x y : Operand} {z : Nat} {p q : Value} {i : Int} {ik : IntKind} (ho : o.op = .indexAddr t x y) (hf : slB P t = some (e, z))
    (hx : aeval NG s.fr x = some p) (hy : aeval NG s.fr y = some (.int ik i)) (h0 : 0 ≤ i) (hq : aslcAt s.H z i.toNat p = some q) (hR : R q s.H s.k) : AOp P NG o s R := by
  refine AOp.quiet q hR fun N B w0 G a w hs => ?_
  obtain ⟨hu, hz⟩ := slB_inv hf
  obtain ⟨ad, l, c, e1, hi, hv⟩ := aslcAt_rel hs.S hq (aeval_rel hs hx)
  have h2 := (aeval_rel hs hy).int_
  refine ⟨_, ?_, hv⟩
  simp only [execOp, ho, e1, h2]
  rw [Sem.run_bind]
  have hil : i < (l : Int) := by omega
  have : (Instr.indexAt t (.slice (some ad) l c) (.int ik i)).run P w = .ok (.pointer (some (ad.add (i.toNat * z)))) w := by
    simp [Instr.indexAt, asIntOf, run_underlying hu, h0, hil, run_sizeOf hz]
  rw [this]
  rfl

theorem AOp.load {o : Oper} {R : Value → Hp → Nat → Prop} {t : TypeId} {x : Operand} {p v : Value} (ho : o.op = .load t x) (hx : aeval NG s.fr x = some p) (hl : aloadVar P s.H t p = some v) (hR : R v s.H s.k) : AOp P NG o s R := by
  refine AOp.quiet v hR fun N B w0 G a w hs => ?_
  obtain ⟨ad, x', e, hr, hv⟩ := loadVar_rel hs.S hl (aeval_rel hs hx)
  refine ⟨x', ?_, hv⟩
  simp only [execOp, ho, e, Instr.loadAt, Instr.sureAddr]
  rw [Sem.run_bind, Sem.run_bind]
  simp only [Sem.run_pure, Result.andThen_ok]
  rw [hr]
  rfl

theorem AOp.nilCheck {o : Oper} {R : Value → Hp → Nat → Prop} {x : Operand} {n off : Nat} {sp : Option Nat} (ho : o.op = .nilCheck x) (hx : aeval NG s.fr x = some (.pointer (some ⟨n, off, sp⟩))) (hR : R (.pointer (some ⟨n, off, sp⟩)) s.H s.k) : AOp P NG o s R := by
  refine AOp.quiet _ hR fun N B w0 G a w hs => ⟨a.eval x, ?_, aeval_rel hs hx⟩
  have h1 := aeval_rel hs hx
  generalize hy : a.eval x = y at h1
  simp only [execOp, ho, hy]
  cases h1 <;> first | rfl | (simp [isPlain] at *)

end
end Go.Ab

set_option linter.unusedVariables false
set_option linter.unusedSimpArgs false
namespace Go.Ab
open Go.RowKit

section
variable {P : Program} {NG N B : Nat} {w0 w : World} {G : GMap} {H : Hp} {k : Nat}

theorem gle_upd {x : GB} (h : SRel NG B w0 G H k w) : GLe G (upd G k x) := by
  intro n
  by_cases hn : n = k
  · subst hn
    rw [(h.fresh n (Nat.le_refl _)).2]
    trivial
  · rw [upd_other _ _ hn]
    exact GB.le_refl _

theorem name_lt {n : Nat} {b : Blk} (h : SRel NG B w0 G H k w) (hn : H n = some b) : n < k := by
  rcases Nat.lt_or_ge n k with hlt | hge
  · exact hlt
  · rw [(h.fresh n hge).1] at hn; cases hn

/-- The blocks of a name lie in the heap. -/
theorem blocks_lt {n x : Nat} {b : Blk} (h : SRel NG B w0 G H k w) (hn : H n = some b) (hx : x ∈ (G n).blocks) : x < w.heap.size := by
  by_cases ho : b.own = true
  · exact ((h.blk n b hn).own_lt ho hx).2
  · exact Nat.lt_of_lt_of_le ((h.blk n b hn).ro_lt (by simpa using ho) hx) h.base

/-- A new block under a new name. -/
theorem SRel.new (h : SRel NG B w0 G H k w) (b : Blk) (x : GB) (o : Obj) (hb : BRel B (upd G k x) (w.alloc o) x b) (hx : ∀ y, y ∈ x.blocks → y = w.heap.size) :
    SRel NG B w0 (upd G k x) (upd H k (some b)) (k + 1) (w.alloc o) ∧ Keep H k G w (upd H k (some b)) (k + 1) (upd G k x) (w.alloc o) := by
  have hG := gle_upd (x := x) h
  refine ⟨h.update (h.below.alloc h.base o) (Nat.le_trans h.base (by simp)) hG (Nat.le_succ _) (· = k) ?_ ?_ ?_ ?_, hG, Nat.le_succ _, by simp, ?_, ?_, ?_, ?_, ?_⟩
  · intro n hn
    refine ⟨upd_other _ _ hn, fun h0 => ⟨upd_other _ _ hn, fun y hy => ?_⟩⟩
    cases hbn : H n with
    | none => exact absurd hbn h0
    | some c => exact Below.heap_alloc _ _ _ (blocks_lt h hbn hy)
  · rintro n c rfl hc
    rw [upd_same] at hc ⊢
    injection hc with hc
    subst hc
    exact hb
  · rintro n c rfl hc ho m d hm hd ho' y hy hy'
    rw [upd_same] at hy
    rw [upd_other _ _ hm] at hd hy'
    have h1 := blocks_lt h hd hy'
    have h2 := hx y hy
    omega
  · intro n hn
    rw [upd_other _ _ (by omega), upd_other _ _ (by omega)]
    exact h.fresh n (by omega)
  · intro y hy _
    exact Below.heap_alloc _ _ _ hy
  · intro n hn _
    exact upd_other _ _ (by omega)
  · intro n hn h0
    rw [upd_other _ _ (by omega)]
    exact h0
  · intro n y hy hlt
    by_cases hn : n = k
    · subst hn
      rw [upd_same] at hy
      have := hx y hy
      omega
    · rw [upd_other _ _ hn] at hy
      exact hy
  · intro n c hc
    have := name_lt h hc
    exact ⟨c, by rw [upd_other _ _ (by omega)]; exact hc, rfl⟩

theorem rblk_new (w : World) (cs : Array Value) (e : TypeId) (fz : Nat × Nat) (hf : thawed fz cs.size) : RBlk (w.alloc (.cells cs e fz)) w.heap.size cs e :=
  ⟨fz, by show (w.heap.push _)[w.heap.size]? = _; simp, hf⟩

theorem thawed_zero (n : Nat) : thawed (0, 0) n := ⟨Nat.le_refl _, fun j hj => by simp⟩

theorem SRel.newFix (h : SRel NG B w0 G H k w) (cells : List Value) (cs : Array Value) (e : TypeId) (fz : Nat × Nat) (hf : thawed fz cs.size) (hl : cells.length ≤ cs.size) (hc : CRel G cells (fun j => cs[j]?) cells.length) :
    SRel NG B w0 (upd G k (.at ⟨w.heap.size, 0, none⟩)) (upd H k (some { cells := cells, elem := e, kind := .fix })) (k + 1) (w.alloc (.cells cs e fz)) ∧
    Keep H k G w (upd H k (some { cells := cells, elem := e, kind := .fix })) (k + 1) (upd G k (.at ⟨w.heap.size, 0, none⟩)) (w.alloc (.cells cs e fz)) :=
  h.new _ _ _ (by
    unfold BRel
    exact ⟨w.heap.size, cs, rfl, h.base, rblk_new w cs e fz hf, hl, hc.mono (gle_upd h)⟩) (by simp [GB.blocks])

/-! ### Stores -/
def putL (cs : List Value) (off : Nat) (xs : List Value) : List Value := cs.take off ++ xs ++ cs.drop (off + xs.length)

theorem putL_length {cs xs : List Value} {off : Nat} (h : off + xs.length ≤ cs.length) : (putL cs off xs).length = cs.length := by
  simp [putL]; omega
theorem putL_get {cs xs : List Value} {off : Nat} (h : off + xs.length ≤ cs.length) (j : Nat) : (putL cs off xs)[j]? = if off ≤ j ∧ j < off + xs.length then xs[j - off]? else cs[j]? := by
  unfold putL
  by_cases h1 : j < off
  · rw [if_neg (by omega), List.append_assoc, List.getElem?_append_left (by simp; omega), List.getElem?_take, if_pos h1]
  · by_cases h2 : j < off + xs.length
    · rw [if_pos ⟨by omega, h2⟩, List.getElem?_append_left (by simp; omega), List.getElem?_append_right (by simp; omega)]
      congr 1
      simp
      omega
    · rw [if_neg (by omega), List.getElem?_append_right (by simp; omega), List.getElem?_drop]
      congr 1
      simp
      omega

theorem setCells_facts (g : Nat) (e : TypeId) : ∀ (vs : List Value) (off : Nat) (w : World) (cs : Array Value), RBlk w g cs e → off + vs.length ≤ cs.size →
    ∃ cs2, RBlk (w.setCells g off vs) g cs2 e ∧ cs2.size = cs.size ∧ (∀ j : Nat, cs2[j]? = if off ≤ j ∧ j < off + vs.length then vs[j - off]? else cs[j]?)
  | [], off, w, cs, h, _ => ⟨cs, h, rfl, fun j => by rw [if_neg (by simp)]⟩
  | v :: r, off, w, cs, h, hl => by
    have h1 : RBlk (w.setCell ⟨g, off, none⟩ v) g (cs.setIfInBounds off v) e := by
      obtain ⟨fz, h, ht⟩ := h
      refine ⟨fz, ?_, by simpa using ht⟩
      simp [World.setCell, Array.getElem?_modify, h]
    obtain ⟨cs2, h2, h3, h4⟩ := setCells_facts g e r (off + 1) (w.setCell ⟨g, off, none⟩ v) (cs.setIfInBounds off v) h1 (by simp at hl ⊢; omega)
    refine ⟨cs2, h2, by simpa using h3, fun j => ?_⟩
    rw [h4]
    simp only [List.length_cons] at hl ⊢
    by_cases hj : off + 1 ≤ j ∧ j < off + 1 + r.length
    · rw [if_pos hj, if_pos (by omega), show j - off = (j - (off + 1)) + 1 by omega, List.getElem?_cons_succ]
    · rw [if_neg hj]
      by_cases he : j = off
      · subst he
        have hj0 : j < cs.size := by omega
        rw [if_pos (by omega), Nat.sub_self]
        simp [hj0]
      · rw [if_neg (by omega), Array.getElem?_setIfInBounds_ne (by omega)]

theorem setCells_other (g : Nat) : ∀ (vs : List Value) (off : Nat) (w : World) (x : Nat), x ≠ g → (w.setCells g off vs).heap[x]? = w.heap[x]?
  | [], _, _, _, _ => rfl
  | v :: r, off, w, x, h => by rw [World.setCells, setCells_other g r (off + 1) _ x h, Below.heap_setCell _ _ _ _ h]

theorem setCells_size (g : Nat) : ∀ (vs : List Value) (off : Nat) (w : World), (w.setCells g off vs).heap.size = w.heap.size
  | [], _, _ => rfl
  | v :: r, off, w => by rw [World.setCells, setCells_size g r]; simp [World.setCell]

theorem setCells_below (g : Nat) (hg : B ≤ g) : ∀ (vs : List Value) (off : Nat) (w : World), Below B w0 w → Below B w0 (w.setCells g off vs)
  | [], _, _, h => h
  | v :: r, off, w, h => setCells_below g hg r (off + 1) _ (h.setCell (p := ⟨g, off, none⟩) hg v)

theorem run_storeCells_rblk {e : TypeId} {cs : Array Value} {g off : Nat} (h : RBlk w g cs e) (vs : List Value) (hl : off + vs.length ≤ cs.size) (h1 : ∀ v ∈ vs, v.oneCell' = true) :
    (storeCells ⟨g, off, none⟩ vs).run P w = .ok () (w.setCells g off vs) := by
  have := run_storeCells_cells (P := P) g off vs 0 w (fun j hj => by rw [h.cell]; simp; omega) (fun j hj => h.thaw _ (by omega)) h1
  simpa using this

/-- A store into a block of the call's own. -/
theorem SRel.put (h : SRel NG B w0 G H k w) {n off : Nat} {b : Blk} {base : Addr} (hn : H n = some b) (hk : b.kind = .fix) (hg : G n = .at base) {vs vs' : List Value} (hl : off + vs.length ≤ b.cells.length)
    (hlen : vs.length = vs'.length) (hv : ∀ (j : Nat) (v : Value), vs[j]? = some v → ∃ v', vs'[j]? = some v' ∧ VRel G v v') (h1 : ∀ v ∈ vs', v.oneCell' = true) :
    ∃ w', (storeCells (base.add off) vs').run P w = .ok () w' ∧ SRel NG B w0 G (upd H n (some { b with cells := putL b.cells off vs })) k w' ∧ Keep H k G w (upd H n (some { b with cells := putL b.cells off vs })) k G w' := by
  have hb := h.blk n b hn
  unfold BRel at hb
  simp only [hk] at hb
  obtain ⟨blk, cs, e, hB, hr, hcl, hc⟩ := hb
  rw [hg] at e
  injection e with e
  subst e
  refine ⟨w.setCells blk off vs', ?_, ?_, ?_⟩
  · rw [add_plain, Nat.zero_add]
    exact run_storeCells_rblk hr vs' (by omega) h1
  · refine h.update (setCells_below blk hB vs' off w h.below) (by rw [setCells_size]; exact h.base) (GLe.refl _) (Nat.le_refl _) (· = n) ?_ ?_ ?_ ?_
    · intro m hm
      refine ⟨upd_other _ _ hm, fun h0 => ⟨rfl, fun x hx => ?_⟩⟩
      refine setCells_other blk _ _ _ _ ?_
      rintro rfl
      cases hbm : H m with
      | none => exact h0 hbm
      | some c =>
        by_cases ho : c.own = true
        · exact h.sep m n c b hbm hn ho (by simp [Blk.own, hk]) hm x hx (by rw [hg]; simp [GB.blocks])
        · have := (h.blk m c hbm).ro_lt (by simpa using ho) hx
          omega
    · rintro m c rfl hc'
      rw [upd_same] at hc'
      injection hc' with hc'
      subst hc'
      obtain ⟨cs2, h2, h3, h4⟩ := setCells_facts blk b.elem vs' off w cs hr (by omega)
      unfold BRel
      simp only [hk]
      refine ⟨blk, cs2, hg, hB, h2, by rw [putL_length hl]; omega, fun j v hj hvj => ?_⟩
      rw [putL_get hl] at hvj
      show ∃ v', cs2[j]? = some v' ∧ _
      rw [h4]
      by_cases hin : off ≤ j ∧ j < off + vs.length
      · rw [if_pos hin] at hvj
        rw [if_pos (by omega)]
        exact hv _ _ hvj
      · rw [if_neg hin] at hvj
        rw [if_neg (by omega)]
        rw [putL_length hl] at hj
        exact hc j v hj hvj
    · rintro m c rfl hc' ho q d hq hd ho' x hx
      rw [upd_other _ _ hq] at hd
      exact h.sep m q b d hn hd (by simp [Blk.own, hk]) ho' (Ne.symm hq) x hx
    · intro m hm
      have := name_lt h hn
      rw [upd_other _ _ (by omega)]
      exact h.fresh m hm
  · have hlt := name_lt h hn
    refine ⟨GLe.refl _, Nat.le_refl _, by rw [setCells_size]; exact Nat.le_refl _, fun x hx ho => ?_, fun _ _ _ => rfl, fun m hm h0 => ?_, fun _ _ hx _ => hx, fun m c hc' => ?_⟩
    · refine setCells_other blk _ _ _ _ ?_
      rintro rfl
      exact ho n b hn (by simp [Blk.own, hk]) (by rw [hg]; simp [GB.blocks])
    · have hne : m ≠ n := by rintro rfl; rw [hn] at h0; cases h0
      rw [upd_other _ _ hne]
      exact h0
    · by_cases hm : m = n
      · subst hm
        rw [hn] at hc'
        injection hc' with hc'
        subst hc'
        exact ⟨_, upd_same _ _ _, rfl⟩
      · exact ⟨c, by rw [upd_other _ _ hm]; exact hc', rfl⟩
end

section
variable {P : Program} {NG : Nat} {s : St} {R : Value → Hp → Nat → Prop} {o : Oper}

theorem Oper.wp_val {a : Act} {w w' : World} {v : Value} {next : Act → World → Prop} {Q : Exit → Act → World → Prop} (hr : (execOp a.eval o).run P w = .ok (.value v) w') (h : next (a.put o.dst v) w') : o.wp P a w next Q := by
  unfold Oper.wp
  rw [hr]
  exact h

theorem AOp.store {t : TypeId} {x y : Operand} {n off z : Nat} {b : Blk} {v : Value} (ho : o.op = .store t x y) (hz : sizeB P t = some z) (hx : aeval NG s.fr x = some (.pointer (some ⟨n, off, none⟩)))
    (hy : aeval NG s.fr y = some v) (hn : s.H n = some b) (hk : b.kind = .fix) (hvz : v.cells.size = z) (h1 : v.cells.all (·.oneCell') = true) (hl : off + z ≤ b.cells.length)
    (hR : R undef (upd s.H n (some { b with cells := putL b.cells off v.cells.toList })) s.k) : AOp P NG o s R := by
  intro N B w0 G a w hs next Q hn'
  have hp := aeval_rel hs hx
  have hv := aeval_rel hs hy
  obtain ⟨hc1, hc2⟩ := hv.cells
  generalize hpv : a.eval x = p at hp
  cases hp with
  | plain h => simp [isPlain] at h
  | @ptr _ _ base hg =>
    obtain ⟨w', hr, hS', hK⟩ := hs.S.put (P := P) (vs := v.cells.toList) (vs' := (a.eval y).cells.toList) hn hk hg (by simpa [hvz] using hl) (by simpa using hc1) (by simpa using hc2) (by
      intro u hu
      obtain ⟨i, hi⟩ := List.mem_iff_getElem?.1 hu
      have hi' : (a.eval y).cells[i]? = some u := by simpa using hi
      have hlt : i < v.cells.size := by rw [hc1]; exact (Array.getElem?_eq_some_iff.1 hi').1
      obtain ⟨u', h2, h3⟩ := hc2 i _ (Array.getElem?_eq_getElem hlt)
      rw [hi'] at h2
      injection h2 with h2
      subst h2
      rw [h3.oneCell]
      exact all_at h1 (Array.getElem?_eq_getElem hlt))
    unfold Oper.wp
    have hrun : (execOp a.eval o).run P w = .ok .skip w' := by
      simp only [execOp, ho, hpv]
      rw [Sem.run_bind]
      have : (Instr.storeAt t (.pointer (some (base.add off))) (a.eval y)).run P w = .ok () w' := by
        unfold Instr.storeAt Instr.sureAddr
        rw [Sem.run_bind]
        simp only [Sem.run_pure, Result.andThen_ok]
        unfold storeVar
        rw [Sem.run_bind, run_sizeOf hz]
        simp only [Result.andThen_ok]
        rw [← hc1, hvz, if_neg (by simp)]
        simpa using hr
      rw [this]
      rfl
    rw [hrun]
    exact hn' undef undef _ _ G w' hR undef_rel hS' hK

theorem crel_cells {G : GMap} {v v' : Value} (hv : VRel G v v') : v.cells.toList.length ≤ v'.cells.size ∧ CRel G v.cells.toList (fun j => v'.cells[j]?) v.cells.toList.length := by
  obtain ⟨hc1, hc2⟩ := hv.cells
  exact ⟨by simp [hc1], fun j u _ hu => hc2 j u (by simpa using hu)⟩

theorem AOp.box {e : TypeId} {x : Operand} {v : Value} (ho : o.op = .box e x) (hx : aeval NG s.fr x = some v)
    (hR : R (.pointer (some ⟨s.k, 0, none⟩)) (upd s.H s.k (some { cells := v.cells.toList, elem := e, kind := .fix })) (s.k + 1)) : AOp P NG o s R := by
  intro N B w0 G a w hs next Q hn
  obtain ⟨h1, h2⟩ := crel_cells (aeval_rel hs hx)
  obtain ⟨h3, h4⟩ := hs.S.newFix v.cells.toList (a.eval x).cells e (0, 0) (thawed_zero _) h1 h2
  refine Oper.wp_val (w' := w.alloc (.cells (a.eval x).cells e (0, 0))) (v := .pointer (some ⟨w.heap.size, 0, none⟩)) ?_ (hn _ _ _ _ _ _ hR ?_ h3 h4)
  · simp only [execOp, ho]
    rfl
  · have := VRel.ptr (G := upd G s.k (.at ⟨w.heap.size, 0, none⟩)) (n := s.k) (off := 0) (upd_same _ _ _)
    exact this

def zeroB (P : Program) (e : TypeId) : Option Value := (P.info? e).bind (·.zero)
theorem run_zeroValue {w : World} {e : TypeId} {z : Value} (h : zeroB P e = some z) : (zeroValue e).run P w = .ok z w := by
  unfold zeroB at h
  cases hi : P.info? e with
  | none => simp [hi] at h
  | some i =>
    simp [hi] at h
    simp [zeroValue, typeInfo, hi, h]

theorem selfRel_cells {v : Value} (h : v.cells.all isPlain = true) (G : GMap) : CRel G v.cells.toList (fun j => v.cells[j]?) v.cells.toList.length :=
  fun j u _ hu => by
    have hu' : v.cells[j]? = some u := by simpa using hu
    exact ⟨u, hu', .plain (all_at h hu')⟩

theorem AOp.alloc {e : TypeId} {z : Value} (ho : o.op = .alloc e) (hz : zeroB P e = some z) (hp : z.cells.all isPlain = true)
    (hR : R (.pointer (some ⟨s.k, 0, none⟩)) (upd s.H s.k (some { cells := z.cells.toList, elem := e, kind := .fix })) (s.k + 1)) : AOp P NG o s R := by
  intro N B w0 G a w hs next Q hn
  obtain ⟨h3, h4⟩ := hs.S.newFix z.cells.toList z.cells e (0, 0) (thawed_zero _) (by simp) (selfRel_cells hp G)
  refine Oper.wp_val (w' := w.alloc (.cells z.cells e (0, 0))) (v := .pointer (some ⟨w.heap.size, 0, none⟩)) ?_ (hn _ _ _ _ _ _ hR ?_ h3 h4)
  · simp only [execOp, ho]
    rw [Sem.run_bind]
    have : (Instr.alloc e true (.tuple #[])).run P w = .ok (.pointer (some ⟨w.heap.size, 0, none⟩)) (w.alloc (.cells z.cells e (0, 0))) := by
      unfold Instr.alloc
      rw [Sem.run_bind, run_zeroValue hz]
      rfl
    rw [this]
    rfl
  · have := VRel.ptr (G := upd G s.k (.at ⟨w.heap.size, 0, none⟩)) (n := s.k) (off := 0) (upd_same _ _ _)
    exact this

/-! ### Literals -/
theorem foldl_rel {G : GMap} (off : Nat) : ∀ (l l' : List (Value × Nat)) (cs cs' : Array Value), l.length = l'.length → (∀ (i : Nat) (p p' : Value × Nat), l[i]? = some p → l'[i]? = some p' → p.2 = p'.2 ∧ VRel G p.1 p'.1) → cs.size = cs'.size →
    (∀ (i : Nat) (x x' : Value), cs[i]? = some x → cs'[i]? = some x' → VRel G x x') →
    (l.foldl (fun cs (c, j) => cs.setIfInBounds (off + j) c) cs).size = (l'.foldl (fun cs (c, j) => cs.setIfInBounds (off + j) c) cs').size ∧
    (l.foldl (fun cs (c, j) => cs.setIfInBounds (off + j) c) cs).size = cs.size ∧
    ∀ (i : Nat) (x x' : Value), (l.foldl (fun cs (c, j) => cs.setIfInBounds (off + j) c) cs)[i]? = some x → (l'.foldl (fun cs (c, j) => cs.setIfInBounds (off + j) c) cs')[i]? = some x' → VRel G x x'
  | [], [], cs, cs', _, _, hs, hc => ⟨hs, rfl, hc⟩
  | p :: l, p' :: l', cs, cs', hl, h, hs, hc => by
    obtain ⟨e1, e2⟩ := h 0 p p' rfl rfl
    obtain ⟨c, j⟩ := p
    obtain ⟨c', j'⟩ := p'
    simp only at e1 e2
    subst e1
    have := foldl_rel off l l' (cs.setIfInBounds (off + j) c) (cs'.setIfInBounds (off + j) c') (by simpa using hl) (fun i q q' hq hq' => h (i + 1) q q' (by simpa using hq) (by simpa using hq')) (by simpa using hs) (by
      intro i x x' hx hx'
      by_cases hi : off + j = i
      · subst hi
        rw [Array.getElem?_setIfInBounds_self] at hx hx'
        split at hx
        · split at hx'
          · injection hx with hx
            injection hx' with hx'
            subst hx
            subst hx'
            exact e2
          · cases hx'
        · cases hx
      · rw [Array.getElem?_setIfInBounds_ne hi] at hx hx'
        exact hc i x x' hx hx')
    obtain ⟨r1, r2, r3⟩ := this
    exact ⟨r1, by rw [List.foldl_cons, r2]; simp, r3⟩

theorem fill_rel {G : GMap} (place : Nat → Option (Nat × Nat)) : ∀ (ps ps' : List (Nat × Value)) (cs cs' : Array Value), ps.length = ps'.length → (∀ (i : Nat) (p p' : Nat × Value), ps[i]? = some p → ps'[i]? = some p' → p.1 = p'.1 ∧ VRel G p.2 p'.2) → cs.size = cs'.size →
    (∀ (i : Nat) (x x' : Value), cs[i]? = some x → cs'[i]? = some x' → VRel G x x') → ∀ r, Instr.fill place cs ps = some r →
    ∃ r', Instr.fill place cs' ps' = some r' ∧ r.size = r'.size ∧ ∀ (i : Nat) (x x' : Value), r[i]? = some x → r'[i]? = some x' → VRel G x x'
  | [], [], cs, cs', _, _, hs, hc, r, hr => by
    injection hr with hr
    subst hr
    exact ⟨cs', rfl, hs, hc⟩
  | (i, v) :: ps, (i', v') :: ps', cs, cs', hl, h, hs, hc, r, hr => by
    obtain ⟨e1, e2⟩ := h 0 _ _ rfl rfl
    simp only at e1 e2
    subst e1
    simp only [Instr.fill] at hr ⊢
    cases hp : place i with
    | none => simp [hp] at hr
    | some q =>
      obtain ⟨off, size⟩ := q
      simp only [hp] at hr ⊢
      obtain ⟨c1, c2⟩ := e2.cells
      rw [← c1, ← hs]
      split at hr
      · cases hr
      · rename_i hok
        rw [if_neg hok]
        rw [← Array.foldl_toList] at hr ⊢
        obtain ⟨f1, f2, f3⟩ := foldl_rel (G := G) off v.cells.zipIdx.toList v'.cells.zipIdx.toList cs cs' (by simp [c1]) (by
          intro j p p' hp1 hp2
          have g1 : v.cells.zipIdx[j]? = some p := by simpa using hp1
          have g2 : v'.cells.zipIdx[j]? = some p' := by simpa using hp2
          rw [Array.getElem?_zipIdx] at g1 g2
          cases k1 : v.cells[j]? with
          | none => simp [k1] at g1
          | some u =>
            obtain ⟨u', k2, k3⟩ := c2 j u k1
            simp [k1] at g1
            simp [k2] at g2
            subst g1
            subst g2
            exact ⟨rfl, k3⟩) hs hc
        exact fill_rel place ps ps' _ _ (by simpa using hl) (fun j p p' h1 h2 => h (j + 1) p p' (by simpa using h1) (by simpa using h2)) f1 f3 r hr

def aparts (NG : Nat) (fr : Fr) (ps : Array (Nat × Operand)) : Option (List (Nat × Value)) := ps.toList.mapM fun p => (aeval NG fr p.2).map fun v => (p.1, v)

theorem aparts_rel {N B : Nat} {w0 w : World} {G : GMap} {a : Act} (hs : StRel NG N B w0 G s a w) : ∀ (l : List (Nat × Operand)) (vs : List (Nat × Value)), (l.mapM fun p => (aeval NG s.fr p.2).map fun v => (p.1, v)) = some vs →
    vs.length = (l.map fun p => (p.1, a.eval p.2)).length ∧ ∀ (i : Nat) (p p' : Nat × Value), vs[i]? = some p → (l.map fun p => (p.1, a.eval p.2))[i]? = some p' → p.1 = p'.1 ∧ VRel G p.2 p'.2
  | [], vs, h => by injection h with h; subst h; exact ⟨rfl, fun i p p' hp => by simp at hp⟩
  | q :: l, vs, h => by
    simp only [List.mapM_cons] at h
    cases h1 : aeval NG s.fr q.2 with
    | none => simp [h1] at h
    | some v =>
      cases h2 : (l.mapM fun p => (aeval NG s.fr p.2).map fun v => (p.1, v)) with
      | none => simp [h1, h2] at h
      | some ys =>
        simp [h1, h2] at h
        subst h
        obtain ⟨e1, e2⟩ := aparts_rel hs l ys h2
        refine ⟨by simpa using e1, fun i p p' hp hp' => ?_⟩
        cases i with
        | zero => simp at hp hp'; subst hp; subst hp'; exact ⟨rfl, aeval_rel hs h1⟩
        | succ i => exact e2 i p p' (by simpa using hp) (by simpa using hp')

/-- A struct or an array out of its parts. -/
theorem AOp.build {t : TypeId} {ps : Array (Nat × Operand)} {zero cells : Array Value} {z : Value} {place : Nat → Option (Nat × Nat)} {vs : List (Nat × Value)} (ho : o.op = .build t ps) (hz : zeroB P t = some z) (hzp : z.cells.all isPlain = true)
    (hrun : ∀ (w : World) (ps' : Array (Nat × Value)) (r : Array Value), Instr.fill place z.cells ps'.toList = some r → (Instr.build t ps').run P w = .ok (.agg r) w)
    (hx : aparts NG s.fr ps = some vs) (hf : Instr.fill place z.cells vs = some cells) (hR : R (.agg cells) s.H s.k) : AOp P NG o s R := by
  refine AOp.quiet _ hR fun N B w0 G a w hs => ?_
  obtain ⟨e1, e2⟩ := aparts_rel hs _ _ hx
  obtain ⟨r', h1, h2, h3⟩ := fill_rel (G := G) place vs _ z.cells z.cells e1 e2 rfl (fun i x x' hx hx' => by
    rw [hx] at hx'
    injection hx' with hx'
    subst hx'
    exact .plain (all_at hzp hx)) cells hf
  refine ⟨.agg r', ?_, .agg h2 h3⟩
  simp only [execOp, ho]
  rw [Sem.run_bind, hrun w (ps.map fun p => (p.1, a.eval p.2)) r' (by simpa using h1)]
  rfl

theorem run_build_struct {t : TypeId} {fs : Array Field} {pl : Array (Nat × Nat)} {z : Value} (hu : P.underlying t = some (.struct fs)) (hz : zeroB P t = some z) (hp : fs.toList.mapM (fun f => (sizeB P f.type).map fun n => (f.offset, n)) = some pl.toList)
    (w : World) (ps : Array (Nat × Value)) (r : Array Value) (hf : Instr.fill (pl[·]?) z.cells ps.toList = some r) : (Instr.build t ps).run P w = .ok (.agg r) w := by
  have hm : ∀ (l : List Field) (q : List (Nat × Nat)), l.mapM (fun f => (sizeB P f.type).map fun n => (f.offset, n)) = some q → (l.mapM (fun f => do pure (f.offset, ← sizeOf f.type) : Field → Sem (Nat × Nat))).run P w = .ok q w := by
    intro l
    induction l with
    | nil => intro q h; injection h with h; subst h; simp
    | cons f l ih =>
      intro q h
      simp only [List.mapM_cons] at h
      cases h1 : sizeB P f.type with
      | none => simp [h1] at h
      | some n =>
        cases h2 : (l.mapM (fun f => (sizeB P f.type).map fun n => (f.offset, n))) with
        | none => simp [h1, h2] at h
        | some ys =>
          simp [h1, h2] at h
          subst h
          rw [List.mapM_cons, Sem.run_bind, Sem.run_bind, run_sizeOf h1]
          simp only [Result.andThen_ok, Sem.run_pure]
          rw [Sem.run_bind, ih ys h2]
          rfl
  unfold Instr.build
  rw [Sem.run_bind, run_zeroValue hz]
  simp only [Result.andThen_ok]
  rw [Sem.run_bind, run_underlying hu]
  simp only [Result.andThen_ok]
  rw [Sem.run_bind, Array.mapM_eq_mapM_toList, Sem.run_map, hm fs.toList pl.toList hp]
  simp only [Result.andThen_ok, Array.toArray_toList]
  rw [hf]
  rfl

/-- The cells that a slice's literal begins with. -/
def litZero (P : Program) (e : TypeId) (n : Nat) : Option (Array Value) :=
  if n = 0 then some #[] else (zeroB P e).map fun z => (Array.range n).map fun i => z.cells[i % z.cells.size]!

theorem run_buildSlice {t e : TypeId} {len sz : Nat} {z0 : Array Value} (hf : slB P t = some (e, sz)) (hb : len * sz ≤ 2 ^ 24) (hz : litZero P e (len * sz) = some z0) (w : World) (ps : Array (Nat × Value)) (r : Array Value)
    (hfill : Instr.fill (fun i => some (i * sz, sz)) z0 ps.toList = some r) :
    (Instr.buildSlice t len ps).run P w = .ok (.slice (some ⟨w.heap.size, 0, none⟩) len len) (w.alloc (.cells r e (0, 0))) := by
  obtain ⟨hu, hs⟩ := slB_inv hf
  unfold Instr.buildSlice
  rw [Sem.run_bind, run_underlying hu]
  simp only [Result.andThen_ok]
  rw [Sem.run_bind, run_sizeOf hs]
  simp only [Result.andThen_ok]
  rw [if_neg (by omega)]
  unfold litZero at hz
  by_cases h0 : len * sz = 0
  · rw [if_pos h0] at hz
    injection hz with hz
    subst hz
    rw [if_pos h0, Sem.run_bind]
    simp only [Sem.run_pure, Result.andThen_ok]
    rw [h0]
    have : ((Array.range 0).map fun i => (#[] : Array Value)[i % (#[] : Array Value).size]!) = #[] := by simp
    rw [this, hfill]
    rfl
  · rw [if_neg h0] at hz
    cases h1 : zeroB P e with
    | none => simp [h1] at hz
    | some z =>
      simp [h1] at hz
      subst hz
      rw [if_neg h0, Sem.run_bind, run_zeroValue h1]
      simp only [Result.andThen_ok]
      rw [Sem.run_bind]
      simp only [Sem.run_pure, Result.andThen_ok]
      rw [hfill]
      rfl

theorem lit_rel {N B : Nat} {w0 w : World} {G : GMap} {a : Act} (hs : StRel NG N B w0 G s a w) {ps : Array (Nat × Operand)} {vs : List (Nat × Value)} {z0 cells : Array Value} {place : Nat → Option (Nat × Nat)} (hp : z0.all isPlain = true)
    (hx : aparts NG s.fr ps = some vs) (hf : Instr.fill place z0 vs = some cells) : ∃ r', Instr.fill place z0 (ps.map fun p => (p.1, a.eval p.2)).toList = some r' ∧ cells.size = r'.size ∧ CRel G cells.toList (fun j => r'[j]?) cells.toList.length := by
  obtain ⟨e1, e2⟩ := aparts_rel hs _ _ hx
  obtain ⟨r', h1, h2, h3⟩ := fill_rel (G := G) place vs _ z0 z0 e1 e2 rfl (fun i x x' hx hx' => by
    rw [hx] at hx'
    injection hx' with hx'
    subst hx'
    exact .plain (all_at hp hx)) cells hf
  refine ⟨r', by simpa using h1, h2, fun j v hj hv => ?_⟩
  have hj' : j < r'.size := by simp at hj; omega
  exact ⟨_, Array.getElem?_eq_getElem hj', h3 j v _ (by simpa using hv) (Array.getElem?_eq_getElem hj')⟩

/-- A slice's literal, as a block of its own. -/
theorem AOp.buildSlice {t e : TypeId} {len sz : Nat} {ps : Array (Nat × Operand)} {z0 cells : Array Value} {vs : List (Nat × Value)} (ho : o.op = .buildSlice t len ps) (hf : slB P t = some (e, sz)) (hb : len * sz ≤ 2 ^ 24) (hz : litZero P e (len * sz) = some z0)
    (hzp : z0.all isPlain = true) (hx : aparts NG s.fr ps = some vs) (hfill : Instr.fill (fun i => some (i * sz, sz)) z0 vs = some cells)
    (hR : R (.slice (some ⟨s.k, 0, none⟩) len len) (upd s.H s.k (some { cells := cells.toList, elem := e, kind := .fix })) (s.k + 1)) : AOp P NG o s R := by
  intro N B w0 G a w hs next Q hn
  obtain ⟨r', h1, h2, h3⟩ := lit_rel hs hzp hx hfill
  obtain ⟨h4, h5⟩ := hs.S.newFix cells.toList r' e (0, 0) (thawed_zero _) (by simp [h2]) h3
  refine Oper.wp_val (w' := w.alloc (.cells r' e (0, 0))) (v := .slice (some ⟨w.heap.size, 0, none⟩) len len) ?_ (hn _ _ _ _ _ _ hR ?_ h4 h5)
  · simp only [execOp, ho]
    rw [Sem.run_bind, run_buildSlice hf hb hz w _ r' h1]
    rfl
  · exact VRel.exact (G := upd G s.k (.at ⟨w.heap.size, 0, none⟩)) (n := s.k) (off := 0) (upd_same _ _ _)

/-- A slice's literal that will be appended to. -/
theorem AOp.buildGrow {t e : TypeId} {len sz : Nat} {ps : Array (Nat × Operand)} {z0 cells : Array Value} {vs : List (Nat × Value)} (ho : o.op = .buildSlice t len ps) (hf : slB P t = some (e, sz)) (hsz : 0 < sz) (hb : len * sz ≤ 2 ^ 24) (hz : litZero P e (len * sz) = some z0)
    (hzp : z0.all isPlain = true) (hx : aparts NG s.fr ps = some vs) (hfill : Instr.fill (fun i => some (i * sz, sz)) z0 vs = some cells) (hcs : cells.size = len * sz)
    (hR : R (.slice (some ⟨s.k, 0, some 1⟩) len len) (upd s.H s.k (some { cells := cells.toList, elem := e, kind := .grow, esz := sz })) (s.k + 1)) : AOp P NG o s R := by
  intro N B w0 G a w hs next Q hn
  obtain ⟨r', h1, h2, h3⟩ := lit_rel hs hzp hx hfill
  have hnew := hs.S.new { cells := cells.toList, elem := e, kind := .grow, esz := sz } (.rows sz [⟨w.heap.size, len * sz, len⟩]) (.cells r' e (0, 0)) (by
    unfold BRel
    refine ⟨hsz, _, rfl, by simp, ?_, ?_, by simp⟩
    · intro r hr
      simp only [List.mem_singleton] at hr
      subst hr
      exact ⟨hs.S.base, by simp [hcs], by simp, r', rblk_new w r' e (0, 0) (thawed_zero _), by show r'.size = len * sz; omega, by show len * sz ≤ r'.size; omega, by
        have := h3.mono (gle_upd (x := .rows sz [⟨w.heap.size, len * sz, len⟩]) hs.S)
        simpa [hcs] using this⟩
    · intro r rest hr
      injection hr with e1 e2
      subst e1
      subst e2
      exact ⟨by simp [hcs], by simp⟩) (by simp [GB.blocks])
  obtain ⟨h4, h5⟩ := hnew
  refine Oper.wp_val (w' := w.alloc (.cells r' e (0, 0))) (v := .slice (some ⟨w.heap.size, 0, none⟩) len len) ?_ (hn _ _ _ _ _ _ hR ?_ h4 h5)
  · simp only [execOp, ho]
    rw [Sem.run_bind, run_buildSlice hf hb hz w _ r' h1]
    rfl
  · exact VRel.grow (G := upd G s.k (.rows sz [⟨w.heap.size, len * sz, len⟩])) (n := s.k) (upd_same _ _ _) (.inr ⟨_, List.mem_singleton.2 rfl, rfl, Nat.le_refl _, Nat.le_refl _, rfl⟩)
end
end Go.Ab

set_option linter.unusedVariables false
set_option linter.unusedSimpArgs false
namespace Go.Ab
open Go.RowKit

section
variable {P : Program} {NG : Nat} {s : St} {R : Value → Hp → Nat → Prop} {o : Oper}

/-- A call of a function with a body, or of a closure. -/
theorem AOp.call {x : Operand} {args : Array Operand} {ts : Array TypeId} {f : FuncId} {cap : Array Value} {vs : List Value} {fn : Func} (ho : o.op = .call { callee := .value x, args := args, argTypes := ts })
    (hf : P.funcs[f]? = some fn) (hb : fn.body.isSome = true) (hnm : (fn.name == "runtime.NumGoroutine") = false) (hx : aeval NG s.fr x = some (.func (.func f) #[] cap))
    (hv : args.toList.mapM (aeval NG s.fr) = some vs) (h : ACalls P NG f (vs ++ cap.toList) s.H s.k R) : AOp P NG o s R := by
  intro N B w0 G a w hs next Q hn
  have h1 := aeval_rel hs hx
  obtain ⟨e1, e2⟩ := mapM_aeval hs hv
  generalize hy : a.eval x = y at h1
  cases h1 with
  | plain h => simp [isPlain] at h
  | @func _ _ cap' hsz hc =>
    have hrun : (execOp a.eval o).run P w = .ok (.enter f (args.map a.eval ++ cap')) w := by
      simp only [execOp, ho]
      rw [Sem.run_bind]
      have : (resolve a.eval { callee := .value x, args := args, argTypes := ts } o.type).run P w = .ok { target := .fn (.func f) cap', args := args.map a.eval } w := by
        simp [resolve, hy, Deferred.ofValue]
      rw [this]
      simp only [Result.andThen_ok]
      have hbn : ¬ fn.body = none := by
        intro h0
        rw [h0] at hb
        cases hb
      have hnm' : ¬ fn.name = "runtime.NumGoroutine" := by simpa using hnm
      simp [invoke, callFunc, hf, hnm', hbn]
    unfold Oper.wp
    rw [hrun]
    simp only [Oper.upon]
    refine (h B w0 G _ w hs.S ⟨by simp [← hsz]; simpa using e1, fun i v hiv => ?_⟩).mono ?_
    · rcases Nat.lt_or_ge i vs.length with hlt | hge
      · rw [List.getElem?_append_left hlt] at hiv
        obtain ⟨v', h2, h3⟩ := e2 i v hiv
        refine ⟨v', ?_, h3⟩
        have e1' : vs.length = args.size := by simpa using e1
        rw [Array.getElem?_append_left (by simp; omega)]
        simp at h2 ⊢
        exact h2
      · rw [List.getElem?_append_right hge] at hiv
        have e1' : vs.length = args.size := by simpa using e1
        have hi : i - vs.length < cap.size := by have := (List.getElem?_eq_some_iff.1 hiv).1; simpa using this
        have h4 : cap'[i - vs.length]? = some (cap'[i - vs.length]'(by omega)) := Array.getElem?_eq_getElem (by omega)
        refine ⟨_, ?_, hc _ v _ (by simpa using hiv) h4⟩
        rw [Array.getElem?_append_right (by simp; omega)]
        simp [e1', h4]
    · rintro e w' ⟨v, v', H', k', G', rfl, hR, hvv, hS', hK⟩
      exact hn v v' H' k' G' w' hR hvv hS' hK

theorem run_builtin {ρ : Operand → Value} {b : Builtin} {args : Array Operand} {ts : Array TypeId} {w w' : World} {v : Value} (ho : o.op = .call { callee := .builtin b, args := args, argTypes := ts })
    (h : (builtin b ts o.type (args.map fun | .const _ => true | _ => false) (args.map ρ)).run P w = .ok (.value v) w') : (execOp ρ o).run P w = .ok (.value v) w' := by
  simp only [execOp, ho]
  rw [Sem.run_bind]
  simp only [resolve, Sem.run_pure, Result.andThen_ok]
  exact h

theorem vrel_slice {G : GMap} {A : Option Addr} {l c : Nat} {v' : Value} (h : VRel G (.slice A l c) v') : ∃ A' c', v' = .slice A' l c' := by
  cases h with
  | plain h =>
    exact ⟨_, _, rfl⟩
  | exact _ => exact ⟨_, _, rfl⟩
  | loose _ _ _ => exact ⟨_, _, rfl⟩
  | grow _ _ => exact ⟨_, _, rfl⟩
  | gcut _ _ => exact ⟨_, _, rfl⟩

theorem AOp.len_slc {x : Operand} {t e : TypeId} {A : Option Addr} {l c : Nat} (ho : o.op = .call { callee := .builtin .len, args := #[x], argTypes := #[t] }) (hu : P.underlying t = some (.slice e))
    (hx : aeval NG s.fr x = some (.slice A l c)) (hR : R (.int .i64 l) s.H s.k) : AOp P NG o s R := by
  refine AOp.quiet _ hR fun N B w0 G a w hs => ⟨.int .i64 l, ?_, .plain rfl⟩
  obtain ⟨A', c', e'⟩ := vrel_slice (aeval_rel hs hx)
  refine run_builtin ho ?_
  simp [builtin, Builtin.len_, e', run_underlying hu, goInt]

theorem AOp.len_str {x : Operand} {t : TypeId} {b : ByteArray} (ho : o.op = .call { callee := .builtin .len, args := #[x], argTypes := #[t] }) (hu : P.underlying t = some .string)
    (hx : aeval NG s.fr x = some (.string b)) (hR : R (.int .i64 b.size) s.H s.k) : AOp P NG o s R := by
  refine AOp.quiet _ hR fun N B w0 G a w hs => ⟨.int .i64 b.size, ?_, .plain rfl⟩
  have e' := (aeval_rel hs hx).string_
  refine run_builtin ho ?_
  simp [builtin, Builtin.len_, e', run_underlying hu, goInt]

/-! ### Cuts -/
def aslice (H : Hp) (z l h : Nat) (m : Option Nat) : Value → Option Value
  | .slice none 0 0 => if l = 0 ∧ h = 0 ∧ m.getD 0 = 0 then some (.slice none 0 0) else none
  | .slice (some ⟨n, off, none⟩) len cap => if l ≤ h ∧ h ≤ m.getD cap ∧ m.getD cap ≤ cap then some (.slice (some ⟨n, if m.getD cap = l then off else off + l * z, none⟩) (h - l) (m.getD cap - l)) else none
  | .slice (some ⟨n, off, some 0⟩) len _ => match m with
    | none => if l ≤ h ∧ h ≤ len then some (.slice (some ⟨n, off + l * z, some 0⟩) (h - l) (h - l)) else none
    | some m => if l ≤ h ∧ h ≤ m ∧ m ≤ len then (if l < m then some (.slice (some ⟨n, off + l * z, none⟩) (h - l) (m - l)) else if 0 < len then some (.slice (some ⟨n, off, none⟩) 0 0) else some (.slice (some ⟨n, off, some 0⟩) 0 0)) else none
  | .slice (some ⟨n, off, some 1⟩) len _ => match H n with
    | some b => if b.esz = z ∧ l ≤ h ∧ h ≤ m.getD len ∧ m.getD len ≤ len then some (.slice (some ⟨n, off + l * z, some 2⟩) (h - l) (h - l)) else none
    | none => none
  | .slice (some ⟨n, off, some 2⟩) len _ => match H n with
    | some b => if b.esz = z ∧ l ≤ h ∧ h ≤ m.getD len ∧ m.getD len ≤ len then some (.slice (some ⟨n, off + l * z, some 2⟩) (h - l) (h - l)) else none
    | none => none
  | _ => none

theorem aslice_rel {B : Nat} {w0 w : World} {G : GMap} {H : Hp} {k z l h : Nat} {m : Option Nat} {p q p' : Value} (hS : SRel NG B w0 G H k w) (hq : aslice H z l h m p = some q) (hp : VRel G p p') :
    ∃ A len c, p' = .slice A len c ∧ (∃ A0 c0, p = .slice A0 len c0) ∧ l ≤ h ∧ h ≤ m.getD c ∧ m.getD c ≤ c ∧ VRel G q (.slice (if m.getD c = l then A else A.map (·.add (l * z))) (h - l) (m.getD c - l)) := by
  cases hp with
  | plain hpl =>
    unfold aslice at hq
    split at hq
    · split at hq
      · rename_i hc
        injection hq with hq
        subst hq
        obtain ⟨rfl, rfl, h3⟩ := hc
        refine ⟨none, 0, 0, rfl, ⟨none, 0, rfl⟩, Nat.le_refl _, by omega, by omega, ?_⟩
        rw [h3]
        exact .plain rfl
      · cases hq
    all_goals simp_all [isPlain]
  | @exact n off len cap base hg =>
    simp only [aslice] at hq
    split at hq
    · rename_i hc
      injection hq with hq
      subst hq
      refine ⟨_, len, cap, rfl, ⟨_, _, rfl⟩, hc.1, hc.2.1, hc.2.2, ?_⟩
      by_cases he : m.getD cap = l
      · rw [if_pos he, if_pos he]
        exact .exact hg
      · rw [if_neg he, if_neg he]
        simp only [Option.map_some, add_add]
        exact .exact hg
    · cases hq
  | @loose n off len c base A hg hc hA =>
    simp only [aslice] at hq
    cases m with
    | none =>
      simp only at hq
      split at hq
      · rename_i hh
        injection hq with hq
        subst hq
        refine ⟨_, len, c, rfl, ⟨_, _, rfl⟩, hh.1, by simp; omega, by simp, ?_⟩
        simp only [Option.getD_none]
        refine .loose hg (by omega) fun h0 => ?_
        rw [if_neg (by omega), hA (by omega)]
        simp [add_add]
      · cases hq
    | some m =>
      simp only at hq
      split at hq
      · rename_i hh
        refine ⟨_, len, c, rfl, ⟨_, _, rfl⟩, hh.1, by simp; omega, by simp; omega, ?_⟩
        simp only [Option.getD_some]
        split at hq
        · rename_i hlm
          injection hq with hq
          subst hq
          rw [if_neg (by omega), hA (by omega)]
          simp only [Option.map_some, add_add]
          exact .exact hg
        · rename_i hlm
          have e1 : m = l := by omega
          have e2 : h = l := by omega
          subst e1
          subst e2
          rw [if_pos rfl, Nat.sub_self]
          split at hq
          · rename_i h0
            injection hq with hq
            subst hq
            rw [hA h0]
            exact .exact hg
          · injection hq with hq
            subst hq
            exact .loose hg (Nat.le_refl _) (by omega)
      · cases hq
  | @grow n z' len c rows A hg hl =>
    simp only [aslice] at hq
    cases hn : H n with
    | none => simp [hn] at hq
    | some b =>
      simp only [hn] at hq
      split at hq
      · rename_i hh
        injection hq with hq
        subst hq
        obtain ⟨e, h0, _, _⟩ := row_facts hS hn hg
        have hz : z' = z := e.trans hh.1
        subst hz
        have hlc : len ≤ c := by rcases hl with h3 | ⟨r, _, _, _, h3, _⟩ <;> omega
        have hm : m.getD len ≤ m.getD c ∧ m.getD c ≤ c := by cases m <;> simp at hh ⊢ <;> omega
        refine ⟨A, len, c, rfl, ⟨_, _, rfl⟩, hh.2.1, by omega, hm.2, ?_⟩
        refine .gcut hg ⟨by omega, fun h1 => ?_⟩
        rcases hl with h3 | ⟨r, hr, rfl, hk, hlc, hcap⟩
        · omega
        · refine ⟨r, hr, ?_, ?_⟩
          · rw [if_neg (by omega)]
            simp [add_plain]
          · have : l * z' + (h - l) * z' = h * z' := by rw [← Nat.add_mul]; congr 1; omega
            have h2 : h * z' ≤ len * z' := Nat.mul_le_mul_right _ (by omega)
            omega
      · cases hq
  | @gcut n off z' len c rows A hg hl =>
    simp only [aslice] at hq
    cases hn : H n with
    | none => simp [hn] at hq
    | some b =>
      simp only [hn] at hq
      split at hq
      · rename_i hh
        injection hq with hq
        subst hq
        obtain ⟨e, h0, _, _⟩ := row_facts hS hn hg
        have hz : z' = z := e.trans hh.1
        subst hz
        have hlc := hl.1
        have hm : m.getD len ≤ m.getD c ∧ m.getD c ≤ c := by cases m <;> simp at hh ⊢ <;> omega
        refine ⟨A, len, c, rfl, ⟨_, _, rfl⟩, hh.2.1, by omega, hm.2, ?_⟩
        refine .gcut hg ⟨by omega, fun h1 => ?_⟩
        obtain ⟨r, hr, rfl, hk⟩ := hl.2 (by omega)
        refine ⟨r, hr, ?_, ?_⟩
        · rw [if_neg (by omega)]
          simp [add_plain]
        · have : l * z' + (h - l) * z' = h * z' := by rw [← Nat.add_mul]; congr 1; omega
          have h2 : h * z' ≤ len * z' := Nat.mul_le_mul_right _ (by omega)
          omega
      · cases hq
  | _ => simp [aslice] at hq

/-- A bound of a cut: what is written, or what stands where nothing is written. -/
def bnd (NG : Nat) (fr : Fr) (x : Option Operand) (d n : Nat) : Prop :=
  match x with
  | none => n = d
  | some y => ∃ k i, aeval NG fr y = some (.int k i) ∧ i = (n : Int)

theorem bnd_rel {N B d n : Nat} {w0 w : World} {G : GMap} {a : Act} (hs : StRel NG N B w0 G s a w) {x : Option Operand} (h : bnd NG s.fr x d n) : (x = none ∧ x.map a.eval = none ∧ n = d) ∨ (∃ y, x = some y ∧ ∃ k, x.map a.eval = some (.int k n)) := by
  cases x with
  | none => exact .inl ⟨rfl, rfl, h⟩
  | some y =>
    obtain ⟨k, i, h1, rfl⟩ := h
    exact .inr ⟨y, rfl, k, by simp [(aeval_rel hs h1).int_]⟩

theorem run_bound {w : World} {kk : IntKind} {n y : Nat} {code : BoundsCode} (h : n ≤ y) : (Instr.sliceBound (.int kk n) y code).run P w = .ok n w := by
  unfold Instr.sliceBound
  simp only [asIntOf]
  rw [Sem.run_bind]
  simp only [Sem.run_pure, Result.andThen_ok]
  rw [if_pos ⟨by omega, by omega⟩]
  simp

theorem run_bounds {w : World} {isS : Bool} {len cap l h m : Nat} {lo hi mx : Option Value} (hl : l ≤ h) (hh : h ≤ m) (hm : m ≤ cap)
    (elo : (lo = none ∧ l = 0) ∨ ∃ k, lo = some (.int k l)) (ehi : (hi = none ∧ h = len ∧ mx = none) ∨ ∃ k, hi = some (.int k h)) (emx : (mx = none ∧ m = cap) ∨ ∃ k, mx = some (.int k m)) :
    (Instr.sliceBounds isS len cap lo hi mx).run P w = .ok (l, h, m) w := by
  unfold Instr.sliceBounds
  rcases emx with ⟨rfl, rfl⟩ | ⟨k1, rfl⟩
  · rcases ehi with ⟨rfl, rfl, _⟩ | ⟨k2, rfl⟩
    · rcases elo with ⟨rfl, rfl⟩ | ⟨k3, rfl⟩
      · simp
      · simp [run_bound hl]
    · rcases elo with ⟨rfl, rfl⟩ | ⟨k3, rfl⟩
      · simp [run_bound hh]
      · simp [run_bound hh, run_bound hl]
  · rcases ehi with ⟨_, _, h0⟩ | ⟨k2, rfl⟩
    · cases h0
    · rcases elo with ⟨rfl, rfl⟩ | ⟨k3, rfl⟩
      · simp [run_bound hh, run_bound hm]
      · simp [run_bound hh, run_bound hl, run_bound hm]

theorem AOp.slice {t e : TypeId} {x : Operand} {lo hi mx : Option Operand} {z l h len c0 : Nat} {m : Option Nat} {A0 : Option Addr} {q : Value} (ho : o.op = .slice t x lo hi mx) (hf : slB P t = some (e, z)) (hx : aeval NG s.fr x = some (.slice A0 len c0))
    (hlo : bnd NG s.fr lo 0 l) (hhi : bnd NG s.fr hi len h) (hmx : match mx, m with | none, none => True | some y, some n => hi ≠ none ∧ ∃ k, aeval NG s.fr y = some (.int k (n : Int)) | _, _ => False)
    (hq : aslice s.H z l h m (.slice A0 len c0) = some q) (hR : R q s.H s.k) : AOp P NG o s R := by
  refine AOp.quiet q hR fun N B w0 G a w hs => ?_
  obtain ⟨hu, hz⟩ := slB_inv hf
  obtain ⟨A, len', c, e1, ⟨A1, c1, e2⟩, h1, h2, h3, hv⟩ := aslice_rel hs.S hq (aeval_rel hs hx)
  injection e2 with _ e2 _
  subst e2
  refine ⟨_, ?_, hv⟩
  simp only [execOp, ho, e1]
  rw [Sem.run_bind]
  have hb : (Instr.sliceBounds true len c (lo.map a.eval) (hi.map a.eval) (mx.map a.eval)).run P w = .ok (l, h, m.getD c) w := by
    refine run_bounds h1 h2 h3 ?_ ?_ ?_
    · rcases bnd_rel hs hlo with ⟨_, e3, e4⟩ | ⟨_, _, k, e3⟩
      · exact .inl ⟨e3, e4⟩
      · exact .inr ⟨k, e3⟩
    · rcases bnd_rel hs hhi with ⟨e0, e3, e4⟩ | ⟨_, _, k, e3⟩
      · refine .inl ⟨e3, e4, ?_⟩
        cases mx with
        | none => rfl
        | some y =>
          cases m with
          | none => exact hmx.elim
          | some n => exact absurd e0 hmx.1
      · exact .inr ⟨k, e3⟩
    · cases mx with
      | none =>
        cases m with
        | none => exact .inl ⟨rfl, rfl⟩
        | some n => exact hmx.elim
      | some y =>
        cases m with
        | none => exact hmx.elim
        | some n =>
          obtain ⟨_, k, e3⟩ := hmx
          exact .inr ⟨k, by simp [(aeval_rel hs e3).int_]⟩
  have : (Instr.sliceAt t (.slice A len c) (lo.map a.eval) (hi.map a.eval) (mx.map a.eval)).run P w = .ok (.slice (if m.getD c = l then A else A.map (·.add (l * z))) (h - l) (m.getD c - l)) w := by
    unfold Instr.sliceAt
    rw [Sem.run_bind, run_underlying hu]
    simp only [Result.andThen_ok]
    unfold Instr.slice
    rw [Sem.run_bind, run_underlying hu]
    simp only [Result.andThen_ok]
    rw [Sem.run_bind, hb]
    simp only [Result.andThen_ok]
    rw [Sem.run_bind, run_sizeOf hz]
    rfl
  rw [this]
  rfl

/-- A cut of an array that lies in memory. -/
theorem AOp.slice_arr {t : TypeId} {x : Operand} {lo hi : Option Operand} {n0 z l h n off : Nat} {agg : Bool} (ho : o.op = .slice t x lo hi none) (hf : arrB P t = some (n0, agg, z)) (hx : aeval NG s.fr x = some (.pointer (some ⟨n, off, none⟩)))
    (hlo : bnd NG s.fr lo 0 l) (hhi : bnd NG s.fr hi n0 h) (h1 : l ≤ h) (h2 : h ≤ n0) (hR : R (.slice (some ⟨n, if n0 = l then off else off + l * z, none⟩) (h - l) (n0 - l)) s.H s.k) : AOp P NG o s R := by
  refine AOp.quiet _ hR fun N B w0 G a w hs => ?_
  obtain ⟨e, hu, ha, hz⟩ := arrB_inv hf
  have hp := aeval_rel hs hx
  generalize hpv : a.eval x = p at hp
  cases hp with
  | plain h => simp [isPlain] at h
  | @ptr _ _ base hg =>
    refine ⟨.slice (some (if n0 = l then base.add off else (base.add off).add (l * z))) (h - l) (n0 - l), ?_, ?_⟩
    · simp only [execOp, ho, hpv]
      rw [Sem.run_bind]
      have hb : (Instr.sliceBounds false n0 n0 (lo.map a.eval) (hi.map a.eval) none).run P w = .ok (l, h, n0) w := by
        refine run_bounds h1 h2 (Nat.le_refl _) ?_ ?_ (.inl ⟨rfl, rfl⟩)
        · rcases bnd_rel hs hlo with ⟨_, e3, e4⟩ | ⟨_, _, k, e3⟩
          · exact .inl ⟨e3, e4⟩
          · exact .inr ⟨k, e3⟩
        · rcases bnd_rel hs hhi with ⟨e0, e3, e4⟩ | ⟨_, _, k, e3⟩
          · exact .inl ⟨e3, e4, rfl⟩
          · exact .inr ⟨k, e3⟩
      have : (Instr.sliceAt t (.pointer (some (base.add off))) (lo.map a.eval) (hi.map a.eval) none).run P w = .ok (.slice (some (if n0 = l then base.add off else (base.add off).add (l * z))) (h - l) (n0 - l)) w := by
        unfold Instr.sliceAt
        rw [Sem.run_bind, run_underlying hu]
        simp only [Result.andThen_ok, Instr.sureAddr]
        rw [Sem.run_bind]
        simp only [Sem.run_pure, Result.andThen_ok]
        rw [Sem.run_bind, hb]
        simp only [Result.andThen_ok]
        rw [Sem.run_bind, run_sizeOf hz]
        rfl
      simp only [Option.map_none]
      rw [this]
      rfl
    · by_cases he : n0 = l
      · rw [if_pos he, if_pos he]
        exact .exact hg
      · rw [if_neg he, if_neg he, add_add]
        exact .exact hg

end
end Go.Ab

set_option linter.unusedVariables false
set_option linter.unusedSimpArgs false
namespace Go.Ab
open Go.RowKit

/-- What an append of m elements, the cells news, comes to, at whatever first argument: the three ways. -/
structure App (P : Program) (t tx ty e : TypeId) (sz : Nat) (z : Value) (bytes : Nat) (y : Value) (m : Nat) (news : List Value) (w : World) : Prop where
  len : news.length = m * sz
  one : ∀ u ∈ news, u.oneCell' = true
  idle : m = 0 → ∀ (base : Option Addr) (sLen sCap : Nat), sLen ≤ sCap → (Builtin.append_ #[t, tx] ty #[.slice base sLen sCap, y]).run P w = .ok (.slice base sLen sCap) w
  room : ∀ (b sLen sCap : Nat), sLen + m ≤ sCap → (∀ j, j < news.length → (w.cell? ⟨b, sLen * sz + j, none⟩).isSome = true) → (∀ j, j < news.length → w.frozen? ⟨b, sLen * sz + j, none⟩ = false) →
    (Builtin.append_ #[t, tx] ty #[.slice (some ⟨b, 0, none⟩) sLen sCap, y]).run P w = .ok (.slice (some ⟨b, 0, none⟩) (sLen + m) sCap) (w.setCells b (sLen * sz) news)
  grow : ∀ (base : Option Addr) (sLen sCap : Nat) (olds : List Value), (Builtin.firstCells sz sLen (.slice base sLen sCap)).run P w.drew = .ok olds.toArray w.drew → sCap < sLen + m → (sLen + m) * bytes ≤ 140737488355328 → sLen + m ≤ 9223372036854775807 →
    (Builtin.append_ #[t, tx] ty #[.slice base sLen sCap, y]).run P w =
      .ok (.slice (some ⟨w.heap.size, 0, none⟩) (sLen + m) (grownCap w (sLen + m) sCap e)) (w.drew.alloc (.cells ((olds ++ news).toArray ++ Builtin.zeroCells z.cells (grownCap w (sLen + m) sCap e - (sLen + m))) e))

/-- A slice's elements: their type, their cells, the cells of their zero, their bytes. -/
structure ElemOk (P : Program) (t e : TypeId) (sz : Nat) (z : Value) (bytes : Nat) : Prop where
  sl : P.underlying t = some (.slice e)
  info : ∃ i, P.info? e = some i ∧ i.zero = some z ∧ i.size = sz ∧ i.bytes = bytes
  pos : 0 < sz
  zsz : z.cells.size = sz
  zpl : z.cells.all isPlain = true

def elemB (P : Program) (t e : TypeId) (sz : Nat) (bytes : Nat) : Bool :=
  (match P.underlying t with | some (.slice e') => e' == e | _ => false) &&
  (match P.info? e with | some i => i.size == sz && i.bytes == bytes && (match i.zero with | some z => z.cells.size == sz && z.cells.all isPlain | none => false) | none => false) && decide (0 < sz)

theorem elemB_ok {P : Program} {t e : TypeId} {sz bytes : Nat} (h : elemB P t e sz bytes = true) : ∃ z, ElemOk P t e sz z bytes := by
  unfold elemB at h
  simp only [Bool.and_eq_true, decide_eq_true_eq] at h
  obtain ⟨⟨h1, h2⟩, h3⟩ := h
  split at h1
  · rename_i e' hu
    simp only [beq_iff_eq] at h1
    subst h1
    split at h2
    · rename_i i hi
      simp only [Bool.and_eq_true, beq_iff_eq] at h2
      obtain ⟨⟨a1, a2⟩, a3⟩ := h2
      split at a3
      · rename_i z hz
        simp only [Bool.and_eq_true, beq_iff_eq] at a3
        exact ⟨z, hu, ⟨i, hi, hz, a1, a2⟩, h3, a3.1, a3.2⟩
      · cases a3
    · cases h2
  · cases h1

section
variable {P : Program}

theorem App.ofSrc {t tx ty e : TypeId} {sz bytes : Nat} {z y : Value} {m : Nat} {news : List Value} {w : World} (he : ElemOk P t e sz z bytes) (hs : Src P sz tx y m news w) : App P t tx ty e sz z bytes y m news w := by
  obtain ⟨i, hi, hz, rfl, rfl⟩ := he.info
  refine ⟨hs.newsLen, hs.one, ?_, ?_, ?_⟩
  · intro h0 base sLen sCap hle
    subst h0
    have : news = [] := List.eq_nil_of_length_eq_zero (by rw [hs.newsLen, Nat.zero_mul])
    subst this
    exact run_append_nothing w t tx ty e i he.sl hi base sLen sCap hle y hs
  · intro b sLen sCap hroom hc hf
    have := run_append_room_src (P := P) w t tx ty e i he.sl hi b 0 sLen sCap y m news hs hroom (by simpa using hc) (by simpa using hf)
    simpa using this
  · intro base sLen sCap olds hold hg hb h63
    exact run_append_grow_src (P := P) w t tx ty e i z he.sl hi hz base sLen sCap olds hold y m news hs hg (by omega) (growslice_fits hg hb)

theorem grownCap_ge' (w : World) (need old : Nat) (e : TypeId) : need ≤ grownCap w need old e := by
  unfold grownCap Question.cut
  exact Nat.le_add_right _ _

variable {NG B : Nat} {w0 w : World} {G : GMap} {H : Hp} {k : Nat}

/-- Nothing is grown yet: a name for it. -/
theorem SRel.adopt (h : SRel NG B w0 G H k w) (e : TypeId) (sz : Nat) (hsz : 0 < sz) :
    SRel NG B w0 (upd G k (.rows sz [])) (upd H k (some { cells := [], elem := e, kind := .grow, esz := sz })) (k + 1) w ∧
    Keep H k G w (upd H k (some { cells := [], elem := e, kind := .grow, esz := sz })) (k + 1) (upd G k (.rows sz [])) w := by
  have hG := gle_upd (x := .rows sz []) h
  refine ⟨h.update h.below h.base hG (Nat.le_succ _) (· = k) ?_ ?_ ?_ ?_, hG, Nat.le_succ _, Nat.le_refl _, fun _ _ _ => rfl, ?_, ?_, ?_, ?_⟩
  · intro n hn
    exact ⟨upd_other _ _ hn, fun h0 => ⟨upd_other _ _ hn, fun y hy => rfl⟩⟩
  · rintro n c rfl hc
    rw [upd_same] at hc ⊢
    injection hc with hc
    subst hc
    unfold BRel
    exact ⟨hsz, [], rfl, fun _ => rfl, by simp, by simp, by simp⟩
  · rintro n c rfl hc ho m d hm hd ho' y hy hy'
    rw [upd_same] at hy
    simp [GB.blocks] at hy
  · intro n hn
    rw [upd_other _ _ (by omega), upd_other _ _ (by omega)]
    exact h.fresh n (by omega)
  · intro n hn _
    exact upd_other _ _ (by omega)
  · intro n hn h0
    rw [upd_other _ _ (by omega)]
    exact h0
  · intro n y hy hlt
    by_cases hn : n = k
    · subst hn
      rw [upd_same] at hy
      simp [GB.blocks] at hy
    · rw [upd_other _ _ hn] at hy
      exact hy
  · intro n c hc
    have := name_lt h hc
    exact ⟨c, by rw [upd_other _ _ (by omega)]; exact hc, rfl⟩

theorem append_core {t tx ty e : TypeId} {sz bytes : Nat} {z y : Value} {m len c n : Nat} {news news' : List Value} {b : Blk} {A : Option Addr} (he : ElemOk P t e sz z bytes) (h : SRel NG B w0 G H k w) (hn : H n = some b) (hk : b.kind = .grow)
    (hbe : b.elem = e) (hbz : b.esz = sz) (hlen : len * sz = b.cells.length) (hv : VRel G (.slice (some ⟨n, 0, some 1⟩) len len) (.slice A len c)) (ha : App P t tx ty e sz z bytes y m news' w)
    (hnl : news.length = news'.length) (hnr : ∀ (j : Nat) (u : Value), news[j]? = some u → ∃ u', news'[j]? = some u' ∧ VRel G u u') (hb : (len + m) * bytes ≤ 140737488355328) (h63 : len + m ≤ 9223372036854775807) :
    ∃ v' w' G', (Builtin.append_ #[t, tx] ty #[.slice A len c, y]).run P w = .ok v' w' ∧ VRel G' (.slice (some ⟨n, 0, some 1⟩) (len + m) (len + m)) v' ∧
      SRel NG B w0 G' (upd H n (some { b with cells := b.cells ++ news })) k w' ∧ Keep H k G w (upd H n (some { b with cells := b.cells ++ news })) k G' w' := by
  have hbr := h.blk n b hn
  unfold BRel at hbr
  simp only [hk] at hbr
  obtain ⟨hez, rows, hg, hr0, hrr, hrh, hnd⟩ := hbr
  subst hbz
  have hlt := name_lt h hn
  have hgs : GSlc b.esz rows len A c := by
    cases hv with
    | plain hp => simp [isPlain] at hp
    | grow hg' hl' =>
      rw [hg] at hg'
      injection hg' with e1 e2
      rw [e1, e2]
      exact hl'
  have hlc : len ≤ c := by rcases hgs with h3 | ⟨r, _, _, _, h3, _⟩ <;> omega
  have hnews : news.length = m * b.esz := by rw [hnl, ha.len]
  -- the row is the current one
  have hhead : ∀ r ∈ rows, len * b.esz ≤ r.k → ∃ rest, rows = r :: rest ∧ r.k = b.cells.length := by
    intro r hr hle
    match rows, hr, hrh with
    | q :: rest, hr, hrh =>
      obtain ⟨h1, h2⟩ := hrh q rest rfl
      rcases List.mem_cons.1 hr with rfl | hr'
      · exact ⟨rest, rfl, h1⟩
      · have := h2 r hr'
        omega
  by_cases hm0 : m = 0
  · -- nothing is appended
    subst hm0
    have hnn : news = [] := List.eq_nil_of_length_eq_zero (by rw [hnews, Nat.zero_mul])
    subst hnn
    have hb' : ({ b with cells := b.cells ++ [] } : Blk) = b := by simp
    rw [hb']
    have hH : upd H n (some b) = H := by
      funext x
      by_cases hx : x = n
      · subst hx; rw [upd_same, hn]
      · rw [upd_other _ _ hx]
    rw [hH]
    exact ⟨_, w, G, ha.idle rfl A len c hlc, hv, h, Keep.refl _ _ _ _⟩
  · by_cases hroom : len + m ≤ c
    · -- there is room
      rcases hgs with ⟨_, h0⟩ | ⟨r, hr, rfl, hk', _, hcap⟩
      · omega
      obtain ⟨rest, rfl, hrk⟩ := hhead r hr hk'
      obtain ⟨hB, _, hmod, cs, hrb, hcs, hrks, hcr⟩ := hrr r hr
      have hfit : len * b.esz + news'.length ≤ cs.size := by
        rw [hcs, ← hnl, hnews, ← Nat.add_mul, ← hcap]
        exact Nat.mul_le_mul_right _ hroom
      have hrun := ha.room r.block len c hroom (fun j hj => by rw [hrb.cell]; simp; omega) (fun j hj => hrb.thaw _ (by omega))
      obtain ⟨cs2, h2, h3, h4⟩ := setCells_facts r.block b.elem news' (len * b.esz) w cs hrb hfit
      let r' : Row := ⟨r.block, (len + m) * b.esz, r.cap⟩
      have hk2 : (len + m) * b.esz = b.cells.length + news.length := by rw [Nat.add_mul, hlen, hnews]
      have hGle : GLe G (upd G n (.rows b.esz (r' :: rest))) := by
        intro x
        by_cases hx : x = n
        · subst hx
          rw [upd_same, hg]
          refine ⟨_, rfl, fun q hq => ?_⟩
          rcases List.mem_cons.1 hq with rfl | hq'
          · exact ⟨r', List.mem_cons_self, rfl, by show _ ≤ (len + m) * b.esz; omega, rfl⟩
          · exact ⟨q, List.mem_cons_of_mem _ hq', rfl, Nat.le_refl _, rfl⟩
        · rw [upd_other _ _ hx]
          exact GB.le_refl _
      have hblocks : ∀ x, x ∈ (upd G n (.rows b.esz (r' :: rest)) n).blocks → x ∈ (G n).blocks := by
        intro x hx
        rw [upd_same] at hx
        rw [hg]
        simpa [GB.blocks] using hx
      refine ⟨_, _, upd G n (.rows b.esz (r' :: rest)), hrun, ?_, ?_, ?_⟩
      · exact .grow (upd_same _ _ _) (.inr ⟨r', List.mem_cons_self, rfl, Nat.le_refl _, hroom, hcap⟩)
      · refine h.update (setCells_below r.block hB news' _ w h.below) (by rw [setCells_size]; exact h.base) hGle (Nat.le_refl _) (· = n) ?_ ?_ ?_ ?_
        · intro x hx
          refine ⟨upd_other _ _ hx, fun h0 => ⟨upd_other _ _ hx, fun y hy => ?_⟩⟩
          refine setCells_other r.block _ _ _ _ ?_
          rintro rfl
          cases hbm : H x with
          | none => exact h0 hbm
          | some d =>
            by_cases ho : d.own = true
            · exact h.sep x n d b hbm hn ho (by simp [Blk.own, hk]) hx _ hy (by rw [hg]; simp [GB.blocks])
            · have := (h.blk x d hbm).ro_lt (by simpa using ho) hy
              omega
        · rintro x d rfl hd
          rw [upd_same] at hd ⊢
          injection hd with hd
          subst hd
          unfold BRel
          simp only [hk]
          refine ⟨hez, _, rfl, by simp, ?_, ?_, by simpa using hnd⟩
          · intro q hq
            rcases List.mem_cons.1 hq with rfl | hq'
            · refine ⟨hB, by simp [r', hk2], by simp [r'], cs2, h2, by simpa [h3] using hcs, ?_, ?_⟩
              · show (len + m) * b.esz ≤ cs2.size
                omega
              · intro j v hj hvj
                show ∃ v', cs2[j]? = some v' ∧ _
                rw [h4]
                rcases Nat.lt_or_ge j b.cells.length with hjl | hjl
                · rw [List.getElem?_append_left hjl] at hvj
                  rw [if_neg (by omega)]
                  obtain ⟨v', e1, e2⟩ := hcr j v (by omega) hvj
                  exact ⟨v', e1, e2.mono hGle⟩
                · rw [List.getElem?_append_right hjl] at hvj
                  have hjn := (List.getElem?_eq_some_iff.1 hvj).1
                  rw [if_pos (by omega), hlen]
                  obtain ⟨v', e1, e2⟩ := hnr _ v hvj
                  exact ⟨v', e1, e2.mono hGle⟩
            · obtain ⟨a1, a2, a3, ds, a4, a5, a6, a7⟩ := hrr q (List.mem_cons_of_mem _ hq')
              have hqb : q.block ≠ r.block := by
                intro e0
                have hnd' := hnd
                simp only [List.map_cons, List.nodup_cons] at hnd'
                exact hnd'.1 (by rw [← e0]; exact List.mem_map.2 ⟨q, hq', rfl⟩)
              refine ⟨a1, by simp; omega, a3, ds, a4.same (setCells_other _ _ _ _ _ hqb), a5, a6, fun j v hj hvj => ?_⟩
              rw [List.getElem?_append_left (by omega)] at hvj
              obtain ⟨v', e1, e2⟩ := a7 j v hj hvj
              exact ⟨v', e1, e2.mono hGle⟩
          · intro q rest' hq
            injection hq with e1 e2
            subst e1
            subst e2
            refine ⟨by simp [r', hk2], fun p hp => ?_⟩
            have := (hrh r rest rfl).2 p hp
            simp
            omega
        · rintro x d rfl hd ho q d' hq hd' ho' y hy hy'
          rw [upd_other _ _ hq] at hd' hy'
          exact h.sep x q b d' hn hd' (by simp [Blk.own, hk]) ho' (Ne.symm hq) y (hblocks y hy) hy'
        · intro x hx
          rw [upd_other _ _ (by omega), upd_other _ _ (by omega)]
          exact h.fresh x hx
      · refine ⟨hGle, Nat.le_refl _, by rw [setCells_size]; exact Nat.le_refl _, fun x hx ho => ?_, fun x hx h0 => ?_, fun x hx h0 => ?_, fun x y hy _ => ?_, fun x d hd => ?_⟩
        · refine setCells_other r.block _ _ _ _ ?_
          rintro rfl
          exact ho n b hn (by simp [Blk.own, hk]) (by rw [hg]; simp [GB.blocks])
        · have hne : x ≠ n := by rintro rfl; rw [hn] at h0; cases h0
          exact upd_other _ _ hne
        · have hne : x ≠ n := by rintro rfl; rw [hn] at h0; cases h0
          rw [upd_other _ _ hne]
          exact h0
        · by_cases hx : x = n
          · subst hx; exact hblocks y hy
          · rw [upd_other _ _ hx] at hy; exact hy
        · by_cases hx : x = n
          · subst hx
            rw [hn] at hd
            injection hd with hd
            subst hd
            exact ⟨_, upd_same _ _ _, rfl⟩
          · exact ⟨d, by rw [upd_other _ _ hx]; exact hd, rfl⟩
    · -- a new array
      have holds : ∃ olds : List Value, (Builtin.firstCells b.esz len (.slice A len c)).run P w.drew = .ok olds.toArray w.drew ∧ olds.length = b.cells.length ∧ ∀ (j : Nat) (u : Value), b.cells[j]? = some u → ∃ u', olds[j]? = some u' ∧ VRel G u u' := by
        rcases hgs with ⟨h0, h1⟩ | ⟨r, hr, rfl, hk', _, hcap⟩
        · subst h0
          have hbc : b.cells = [] := List.eq_nil_of_length_eq_zero (by omega)
          refine ⟨[], ?_, by simp [hbc], fun j u hu => by simp [hbc] at hu⟩
          cases A with
          | none => exact run_firstCells_none w.drew b.esz 0 0 c
          | some ad => exact run_firstCells_some w.drew b.esz 0 ad 0 c [] (by simp) (fun j v hv => by simp at hv)
        · obtain ⟨rest, rfl, hrk⟩ := hhead r hr hk'
          obtain ⟨hB, _, hmod, cs, hrb, hcs, hrks, hcr⟩ := hrr r hr
          refine ⟨cs.toList.take b.cells.length, ?_, by simp; omega, fun j u hu => ?_⟩
          · refine run_firstCells_some w.drew b.esz len ⟨r.block, 0, none⟩ len c _ (by simp; omega) fun j v hv => ?_
            show w.cell? _ = _
            rw [add_plain, Nat.zero_add, hrb.cell]
            rw [List.getElem?_take] at hv
            split at hv
            · simpa using hv
            · cases hv
          · have hj := (List.getElem?_eq_some_iff.1 hu).1
            obtain ⟨u', e1, e2⟩ := hcr j u (by omega) hu
            refine ⟨u', ?_, e2⟩
            rw [List.getElem?_take, if_pos hj]
            simpa using e1
      obtain ⟨olds, hold, hol, hor⟩ := holds
      have hrun := ha.grow A len c olds hold (by omega) hb h63
      have hge := grownCap_ge' w (len + m) c e
      generalize grownCap w (len + m) c e = cap at hrun hge
      have hk2 : (len + m) * b.esz = b.cells.length + news.length := by rw [Nat.add_mul, hlen, hnews]
      let cs2 : Array Value := (olds ++ news').toArray ++ Builtin.zeroCells z.cells (cap - (len + m))
      have hcs2 : cs2.size = cap * b.esz := by
        simp only [cs2, Array.size_append, List.size_toArray, List.length_append, size_zeroCells, he.zsz]
        rw [hol, ← hnl, ← hk2, ← Nat.add_mul]
        congr 1
        omega
      let r' : Row := ⟨w.heap.size, (len + m) * b.esz, cap⟩
      have hmpos : 0 < m * b.esz := Nat.mul_pos (by omega) hez
      have hGle : GLe G (upd G n (.rows b.esz (r' :: rows))) := by
        intro x
        by_cases hx : x = n
        · subst hx
          rw [upd_same, hg]
          exact ⟨_, rfl, fun q hq => ⟨q, List.mem_cons_of_mem _ hq, rfl, Nat.le_refl _, rfl⟩⟩
        · rw [upd_other _ _ hx]
          exact GB.le_refl _
      have hblocks : ∀ x, x ∈ (upd G n (.rows b.esz (r' :: rows)) n).blocks → x = w.heap.size ∨ x ∈ (G n).blocks := by
        intro x hx
        rw [upd_same] at hx
        rw [hg]
        simpa [GB.blocks, r'] using hx
      have hold' : ∀ x, x < w.heap.size → (w.drew.alloc (.cells cs2 e)).heap[x]? = w.heap[x]? := fun x hx => Below.heap_alloc w.drew _ x hx
      refine ⟨_, _, upd G n (.rows b.esz (r' :: rows)), hrun, ?_, ?_, ?_⟩
      · exact .grow (upd_same _ _ _) (.inr ⟨r', List.mem_cons_self, rfl, Nat.le_refl _, hge, rfl⟩)
      · refine h.update (h.below.drew.alloc h.base _) (Nat.le_trans h.base (by simp)) hGle (Nat.le_refl _) (· = n) ?_ ?_ ?_ ?_
        · intro x hx
          refine ⟨upd_other _ _ hx, fun h0 => ⟨upd_other _ _ hx, fun y hy => ?_⟩⟩
          cases hbm : H x with
          | none => exact absurd hbm h0
          | some d => exact hold' y (blocks_lt h hbm hy)
        · rintro x d rfl hd
          rw [upd_same] at hd ⊢
          injection hd with hd
          subst hd
          unfold BRel
          simp only [hk]
          refine ⟨hez, _, rfl, by simp, ?_, ?_, ?_⟩
          · intro q hq
            rcases List.mem_cons.1 hq with rfl | hq'
            · refine ⟨h.base, by simp [r', hk2], by simp [r'], cs2, ?_, hcs2, ?_, ?_⟩
              · rw [hbe]
                exact rblk_new w.drew cs2 e (0, 0) (thawed_zero _)
              · rw [hcs2]
                exact Nat.mul_le_mul_right _ hge
              · intro j v hj hvj
                show ∃ v', cs2[j]? = some v' ∧ _
                have hj' : j < olds.length + news'.length := by
                  have : j < (len + m) * b.esz := hj
                  omega
                have e0 : cs2[j]? = (olds ++ news')[j]? := by
                  simp only [cs2]
                  rw [Array.getElem?_append_left (by simpa using hj')]
                  simp
                rw [e0]
                rcases Nat.lt_or_ge j b.cells.length with hjl | hjl
                · rw [List.getElem?_append_left hjl] at hvj
                  rw [List.getElem?_append_left (by omega)]
                  obtain ⟨v', e1, e2⟩ := hor j v hvj
                  exact ⟨v', e1, e2.mono hGle⟩
                · rw [List.getElem?_append_right hjl] at hvj
                  rw [List.getElem?_append_right (by omega), hol]
                  obtain ⟨v', e1, e2⟩ := hnr _ v hvj
                  exact ⟨v', e1, e2.mono hGle⟩
            · obtain ⟨a1, a2, a3, ds, a4, a5, a6, a7⟩ := hrr q hq'
              refine ⟨a1, by simp; omega, a3, ds, a4.same (hold' _ a4.lt), a5, a6, fun j v hj hvj => ?_⟩
              rw [List.getElem?_append_left (by omega)] at hvj
              obtain ⟨v', e1, e2⟩ := a7 j v hj hvj
              exact ⟨v', e1, e2.mono hGle⟩
          · intro q rest' hq
            injection hq with e1 e2
            subst e1
            subst e2
            refine ⟨by simp [r', hk2], fun p hp => ?_⟩
            obtain ⟨_, a2, _⟩ := hrr p hp
            simp
            omega
          · simp only [List.map_cons, List.nodup_cons]
            refine ⟨fun hmem => ?_, hnd⟩
            obtain ⟨q, hq, e0⟩ := List.mem_map.1 hmem
            obtain ⟨_, _, _, ds, a4, _⟩ := hrr q hq
            have := a4.lt
            have e1 : q.block = w.heap.size := e0
            omega
        · rintro x d rfl hd ho q d' hq hd' ho' y hy hy'
          rw [upd_other _ _ hq] at hd' hy'
          rcases hblocks y hy with rfl | hy2
          · have := blocks_lt h hd' hy'
            omega
          · exact h.sep x q b d' hn hd' (by simp [Blk.own, hk]) ho' (Ne.symm hq) y hy2 hy'
        · intro x hx
          rw [upd_other _ _ (by omega), upd_other _ _ (by omega)]
          exact h.fresh x hx
      · refine ⟨hGle, Nat.le_refl _, by simp, fun x hx ho => hold' x hx, fun x hx h0 => ?_, fun x hx h0 => ?_, fun x y hy hyl => ?_, fun x d hd => ?_⟩
        · have hne : x ≠ n := by rintro rfl; rw [hn] at h0; cases h0
          exact upd_other _ _ hne
        · have hne : x ≠ n := by rintro rfl; rw [hn] at h0; cases h0
          rw [upd_other _ _ hne]
          exact h0
        · by_cases hx : x = n
          · subst hx
            rcases hblocks y hy with rfl | hy2
            · omega
            · exact hy2
          · rw [upd_other _ _ hx] at hy; exact hy
        · by_cases hx : x = n
          · subst hx
            rw [hn] at hd
            injection hd with hd
            subst hd
            exact ⟨_, upd_same _ _ _, rfl⟩
          · exact ⟨d, by rw [upd_other _ _ hx]; exact hd, rfl⟩
end
end Go.Ab

set_option linter.unusedVariables false
set_option linter.unusedSimpArgs false
namespace Go.Ab
open Go.RowKit

/-- The cells that a slice shows. -/
def slcCells (H : Hp) (sz : Nat) : Value → Option (List Value)
  | .slice none 0 0 => some []
  | .slice (some ⟨n, off, none⟩) l _ => if l = 0 then some [] else match H n with
    | some b => if off + l * sz ≤ b.cells.length then some ((b.cells.drop off).take (l * sz)) else none
    | none => none
  | .slice (some ⟨n, off, some 0⟩) l _ => if l = 0 then some [] else match H n with
    | some b => if off + l * sz ≤ b.cells.length then some ((b.cells.drop off).take (l * sz)) else none
    | none => none
  | .slice (some ⟨n, off, some 1⟩) l _ => if l = 0 then some [] else match H n with
    | some b => if (b.esz = sz ∧ off % sz = 0) ∧ off + l * sz ≤ b.cells.length then some ((b.cells.drop off).take (l * sz)) else none
    | none => none
  | .slice (some ⟨n, off, some 2⟩) l _ => if l = 0 then some [] else match H n with
    | some b => if (b.esz = sz ∧ off % sz = 0) ∧ off + l * sz ≤ b.cells.length then some ((b.cells.drop off).take (l * sz)) else none
    | none => none
  | _ => none

section
variable {P : Program} {NG N B : Nat} {w0 w : World} {G : GMap} {H : Hp} {k : Nat}

theorem slcCells_rel {sz : Nat} {v v' : Value} {cs : List Value} (hS : SRel NG B w0 G H k w) (h : slcCells H sz v = some cs) (hv : VRel G v v') :
    ∃ A l c, v' = .slice A l c ∧ (∃ A0 c0, v = .slice A0 l c0) ∧ cs.length = l * sz ∧ ((l = 0 ∧ cs = []) ∨ ∃ (ad : Addr) (cs' : List Value), A = some ad ∧ 0 < l ∧ cs'.length = l * sz ∧ (∀ (j : Nat) (u : Value), cs'[j]? = some u → w.cell? (ad.add j) = some u) ∧
      ∀ (j : Nat) (u : Value), cs[j]? = some u → ∃ u', cs'[j]? = some u' ∧ VRel G u u') := by
  have main : ∀ (n off l : Nat) (b : Blk) (ad : Addr), H n = some b → off + l * sz ≤ b.cells.length → cs = (b.cells.drop off).take (l * sz) → (∀ j u, j < l * sz → b.cells[off + j]? = some u → ∃ u', w.cell? (ad.add j) = some u' ∧ VRel G u u') →
      cs.length = l * sz ∧ ∃ cs' : List Value, cs'.length = l * sz ∧ (∀ (j : Nat) (u : Value), cs'[j]? = some u → w.cell? (ad.add j) = some u) ∧ ∀ (j : Nat) (u : Value), cs[j]? = some u → ∃ u', cs'[j]? = some u' ∧ VRel G u u' := by
    intro n off l b ad hn hle hcs hat
    subst hcs
    have hlen : ((b.cells.drop off).take (l * sz)).length = l * sz := by rw [List.length_take, List.length_drop]; omega
    refine ⟨hlen, (List.range (l * sz)).map (fun j => (w.cell? (ad.add j)).getD undef), by simp, ?_, ?_⟩
    · intro j u hu
      rw [List.getElem?_map] at hu
      rcases Nat.lt_or_ge j (l * sz) with hj | hj
      · rw [List.getElem?_range hj] at hu
        simp only [Option.map_some, Option.some.injEq] at hu
        obtain ⟨u', h1, _⟩ := hat j (b.cells[off + j]'(by omega)) hj (List.getElem?_eq_getElem (by omega))
        rw [h1] at hu ⊢
        simpa using hu
      · rw [List.getElem?_eq_none (by simpa using hj)] at hu
        cases hu
    · intro j u hu
      have hj : j < l * sz := by have := (List.getElem?_eq_some_iff.1 hu).1; omega
      rw [List.getElem?_take, if_pos hj, List.getElem?_drop] at hu
      obtain ⟨u', h1, h2⟩ := hat j u hj hu
      refine ⟨u', ?_, h2⟩
      rw [List.getElem?_map, List.getElem?_range hj]
      simp [h1]
  cases hv with
  | plain hp =>
    unfold slcCells at h
    split at h
    · injection h with h
      subst h
      exact ⟨none, 0, 0, rfl, ⟨_, _, rfl⟩, by simp, .inl ⟨rfl, rfl⟩⟩
    all_goals simp_all [isPlain]
  | @exact n off l c base hg =>
    simp only [slcCells] at h
    by_cases h0 : l = 0
    · rw [if_pos h0] at h
      injection h with h
      subst h
      exact ⟨_, l, c, rfl, ⟨_, _, rfl⟩, by simp [h0], .inl ⟨h0, rfl⟩⟩
    · rw [if_neg h0] at h
      cases hn : H n with
      | none => simp [hn] at h
      | some b =>
        simp only [hn] at h
        split at h
        · rename_i hle
          injection h with h
          obtain ⟨e1, cs', e2, e3, e4⟩ := main n off l b (base.add off) hn hle h.symm (fun j u hj hu => by rw [add_add]; exact load_at hS hn hg hu)
          exact ⟨_, l, c, rfl, ⟨_, _, rfl⟩, e1, .inr ⟨_, cs', rfl, by omega, e2, e3, e4⟩⟩
        · cases h
  | @loose n off l c base A hg hc hA =>
    simp only [slcCells] at h
    by_cases h0 : l = 0
    · rw [if_pos h0] at h
      injection h with h
      subst h
      exact ⟨_, l, c, rfl, ⟨_, _, rfl⟩, by simp [h0], .inl ⟨h0, rfl⟩⟩
    · rw [if_neg h0] at h
      cases hn : H n with
      | none => simp [hn] at h
      | some b =>
        simp only [hn] at h
        split at h
        · rename_i hle
          injection h with h
          obtain ⟨e1, cs', e2, e3, e4⟩ := main n off l b (base.add off) hn hle h.symm (fun j u hj hu => by rw [add_add]; exact load_at hS hn hg hu)
          exact ⟨_, l, c, rfl, ⟨_, _, rfl⟩, e1, .inr ⟨_, cs', hA (by omega), by omega, e2, e3, e4⟩⟩
        · cases h
  | @grow n z' l c rows A hg hl =>
    simp only [slcCells] at h
    by_cases h0 : l = 0
    · rw [if_pos h0] at h
      injection h with h
      subst h
      exact ⟨_, l, c, rfl, ⟨_, _, rfl⟩, by simp [h0], .inl ⟨h0, rfl⟩⟩
    · rw [if_neg h0] at h
      cases hn : H n with
      | none => simp [hn] at h
      | some b =>
        simp only [hn] at h
        split at h
        · rename_i hle
          injection h with h
          obtain ⟨e, hz0, _, _⟩ := row_facts hS hn hg
          have hz : z' = sz := e.trans hle.1.1
          subst hz
          rcases hl with h3 | ⟨r, hr, rfl, hk, hlc, _⟩
          · omega
          · obtain ⟨e1, cs', e2, e3, e4⟩ := main n 0 l b ⟨r.block, 0, none⟩ hn hle.2 h.symm (fun j u hj hu => by rw [add_plain]; exact load_row hS hn hg hr hu (by omega))
            exact ⟨_, l, c, rfl, ⟨_, _, rfl⟩, e1, .inr ⟨_, cs', rfl, by omega, e2, e3, e4⟩⟩
        · cases h
  | @gcut n off z' l c rows A hg hl =>
    simp only [slcCells] at h
    by_cases h0 : l = 0
    · rw [if_pos h0] at h
      injection h with h
      subst h
      exact ⟨_, l, c, rfl, ⟨_, _, rfl⟩, by simp [h0], .inl ⟨h0, rfl⟩⟩
    · rw [if_neg h0] at h
      cases hn : H n with
      | none => simp [hn] at h
      | some b =>
        simp only [hn] at h
        split at h
        · rename_i hle
          injection h with h
          obtain ⟨e, hz0, _, _⟩ := row_facts hS hn hg
          have hz : z' = sz := e.trans hle.1.1
          subst hz
          obtain ⟨r, hr, rfl, hk⟩ := hl.2 (by omega)
          obtain ⟨e1, cs', e2, e3, e4⟩ := main n off l b ⟨r.block, off, none⟩ hn hle.2 h.symm (fun j u hj hu => by rw [add_plain]; exact load_row hS hn hg hr hu (by omega))
          exact ⟨_, l, c, rfl, ⟨_, _, rfl⟩, e1, .inr ⟨_, cs', rfl, by omega, e2, e3, e4⟩⟩
        · cases h
  | _ => simp [slcCells] at h

/-- What is appended: a slice's elements, or a string's bytes. -/
def srcOf (H : Hp) (sz : Nat) : Value → Option (Nat × List Value)
  | .slice A l c => (slcCells H sz (.slice A l c)).map fun cs => (l, cs)
  | .string s => if sz = 1 then some (s.size, byteCells s) else none
  | _ => none

/-- The second argument's type is a slice's or a string's, as the value is. -/
def srcOk (P : Program) (tx : TypeId) (y : Value) : Bool :=
  match P.underlying tx, y with
  | some (.slice _), .slice _ _ _ => true
  | some .string, .string _ => true
  | _, _ => false

theorem srcOk_slice {P : Program} {tx : TypeId} {A : Option Addr} {l c : Nat} (h : srcOk P tx (.slice A l c) = true) : ∃ e', P.underlying tx = some (.slice e') := by
  unfold srcOk at h
  split at h
  · exact ⟨_, by assumption⟩
  · simp_all
  · cases h
theorem srcOk_string {P : Program} {tx : TypeId} {b : ByteArray} (h : srcOk P tx (.string b) = true) : P.underlying tx = some .string := by
  unfold srcOk at h
  split at h
  · simp_all
  · assumption
  · cases h

theorem srcOf_rel {sz m : Nat} {tx : TypeId} {y y' : Value} {news : List Value} (hS : SRel NG B w0 G H k w) (h : srcOf H sz y = some (m, news)) (hv : VRel G y y') (ht : srcOk P tx y = true)
    (h1 : ∀ u ∈ news, u.oneCell' = true) : ∃ news', Src P sz tx y' m news' w ∧ news.length = news'.length ∧ ∀ (j : Nat) (u : Value), news[j]? = some u → ∃ u', news'[j]? = some u' ∧ VRel G u u' := by
  cases y with
  | slice A l c =>
    simp only [srcOf] at h
    cases hc : slcCells H sz (.slice A l c) with
    | none => simp [hc] at h
    | some cs =>
      simp [hc] at h
      obtain ⟨rfl, rfl⟩ := h
      obtain ⟨e', hk⟩ := srcOk_slice ht
      obtain ⟨A', l', c', e1, ⟨_, _, e2⟩, hl, hx⟩ := slcCells_rel hS hc hv
      injection e2 with _ e2 _
      subst e2
      subst e1
      rcases hx with ⟨h0, rfl⟩ | ⟨ad, cs', rfl, hpos, hl', hcell, hrel⟩
      · subst h0
        refine ⟨[], ?_, rfl, fun j u hu => by simp at hu⟩
        cases A' with
        | none => exact Src.ofNil w hk c'
        | some ad => exact Src.ofSlice w hk ad 0 c' [] (by simp) (fun j u hu => by simp at hu) (fun u hu => by simp at hu)
      · refine ⟨cs', Src.ofSlice w hk ad l c' cs' hl' hcell (fun u hu => ?_), by omega, hrel⟩
        obtain ⟨i, hi⟩ := List.mem_iff_getElem?.1 hu
        have hlt : i < cs.length := by have := (List.getElem?_eq_some_iff.1 hi).1; omega
        obtain ⟨u', h2, h3⟩ := hrel i _ (List.getElem?_eq_getElem hlt)
        rw [hi] at h2
        injection h2 with h2
        subst h2
        rw [h3.oneCell]
        exact h1 _ (List.getElem_mem hlt)
  | string s =>
    simp only [srcOf] at h
    split at h
    · rename_i hz
      subst hz
      injection h with h
      simp only [Prod.mk.injEq] at h
      obtain ⟨rfl, rfl⟩ := h
      have := hv.string_
      subst this
      refine ⟨byteCells s, Src.ofString w (srcOk_string ht) s, rfl, fun j u hu => ⟨u, hu, .plain ?_⟩⟩
      obtain ⟨x, _, rfl⟩ := List.mem_map.1 (List.mem_of_getElem? hu)
      rfl
    · cases h
  | _ => simp [srcOf] at h
end

theorem Keep.of_drew {H H' : Hp} {k k' : Nat} {G G' : GMap} {w w' : World} (h : Keep H k G w.drew H' k' G' w') : Keep H k G w H' k' G' w' :=
  ⟨h.le, h.names, h.size, h.others, h.same, h.dom, h.newer, h.stay⟩

theorem freeze_new (w : World) (C : Array Value) (e : TypeId) (n : Nat) : (w.alloc (.cells C e)).freeze ⟨w.heap.size, n, none⟩ 1 = w.alloc (.cells C e (n, n + 1)) := by
  have hm : ∀ (a : Array Obj) (x : Obj) (f : Obj → Obj), (a.push x).modify a.size f = a.push (f x) := by
    intro a x f
    apply Array.ext
    · simp
    · intro i h1 h2
      simp only [Array.getElem_modify, Array.getElem_push]
      by_cases h : a.size = i
      · subst h
        simp
      · have hi : i < a.size := by simp at h1; omega
        simp [h, hi]
  unfold World.freeze
  rw [if_neg (by decide)]
  show ({ w.alloc (.cells C e) with heap := (w.heap.push (.cells C e)).modify w.heap.size _ } : World) = _
  rw [hm]
  rfl

section
variable {P : Program} {NG : Nat} {s : St} {R : Value → Hp → Nat → Prop} {o : Oper}

/-- append onto a grown slice. -/
theorem AOp.append {x y : Operand} {t tx e : TypeId} {sz bytes n len m : Nat} {b : Blk} {yv : Value} {news : List Value} (ho : o.op = .call { callee := .builtin .append, args := #[x, y], argTypes := #[t, tx] }) (he : elemB P t e sz bytes = true)
    (hx : aeval NG s.fr x = some (.slice (some ⟨n, 0, some 1⟩) len len)) (hn : s.H n = some b) (hk : b.kind = .grow) (hbe : b.elem = e) (hbz : b.esz = sz) (hlen : len * sz = b.cells.length)
    (hy : aeval NG s.fr y = some yv) (hsrc : srcOf s.H sz yv = some (m, news)) (ht : srcOk P tx yv = true)
    (h1 : ∀ u ∈ news, u.oneCell' = true) (hb : (len + m) * bytes ≤ 140737488355328) (h63 : len + m ≤ 9223372036854775807)
    (hR : R (.slice (some ⟨n, 0, some 1⟩) (len + m) (len + m)) (upd s.H n (some { b with cells := b.cells ++ news })) s.k) : AOp P NG o s R := by
  intro N B w0 G a w hs next Q hnx
  obtain ⟨z, hel⟩ := elemB_ok he
  have hv := aeval_rel hs hx
  obtain ⟨A, c, hA⟩ := vrel_slice hv
  rw [hA] at hv
  obtain ⟨news', hS, hl, hr⟩ := srcOf_rel hs.S hsrc (aeval_rel hs hy) ht h1
  obtain ⟨v', w', G', hrun, hv', hS', hK⟩ := append_core (ty := o.type) hel hs.S hn hk hbe hbz hlen hv (App.ofSrc hel hS) hl hr hb h63
  refine Oper.wp_val (run_builtin ho ?_) (hnx _ _ _ _ _ _ hR hv' hS' hK)
  simp only [builtin, List.map_toArray, List.map_cons, List.map_nil, hA]
  rw [Sem.run_bind, hrun]
  rfl

/-- append onto nil (or a slice that has no room and holds nothing). -/
theorem AOp.append0 {x y : Operand} {t tx e : TypeId} {sz bytes m : Nat} {A0 : Option Addr} {yv : Value} {news : List Value} (ho : o.op = .call { callee := .builtin .append, args := #[x, y], argTypes := #[t, tx] }) (he : elemB P t e sz bytes = true)
    (hx : aeval NG s.fr x = some (.slice A0 0 0)) (hA0 : ∀ ad, A0 = some ad → ad.spot = none)
    (hy : aeval NG s.fr y = some yv) (hsrc : srcOf s.H sz yv = some (m, news)) (ht : srcOk P tx yv = true)
    (h1 : ∀ u ∈ news, u.oneCell' = true) (hb : m * bytes ≤ 140737488355328) (h63 : m ≤ 9223372036854775807)
    (hR : R (.slice (some ⟨s.k, 0, some 1⟩) m m) (upd s.H s.k (some { cells := news, elem := e, kind := .grow, esz := sz })) (s.k + 1)) : AOp P NG o s R := by
  intro N B w0 G a w hs next Q hnx
  obtain ⟨z, hel⟩ := elemB_ok he
  have hv := aeval_rel hs hx
  have hA : ∃ A, a.eval x = .slice A 0 0 := by
    generalize hp : a.eval x = p at hv
    cases hv with
    | plain h => exact ⟨_, rfl⟩
    | exact _ => exact ⟨_, rfl⟩
    | loose _ _ _ => have := hA0 _ rfl; simp at this
    | grow _ _ => have := hA0 _ rfl; simp at this
    | gcut _ _ => have := hA0 _ rfl; simp at this
  obtain ⟨A, hA⟩ := hA
  obtain ⟨hS1, hK1⟩ := hs.S.adopt e sz hel.pos
  have hs1 : StRel NG N B w0 (upd G s.k (.rows sz [])) ⟨s.fr, _, s.k + 1⟩ a w := ⟨hS1, hs.F.mono hK1.le⟩
  obtain ⟨news', hS, hl, hr⟩ := srcOf_rel hs.S hsrc (aeval_rel hs hy) ht h1
  have hv0 : VRel (upd G s.k (.rows sz [])) (.slice (some ⟨s.k, 0, some 1⟩) 0 0) (.slice A 0 0) := .grow (upd_same _ _ _) (.inl ⟨rfl, rfl⟩)
  obtain ⟨v', w', G', hrun, hv', hS', hK⟩ := append_core (ty := o.type) (len := 0) hel hS1 (upd_same _ _ _) rfl rfl rfl (by simp) hv0 (App.ofSrc hel hS) hl (fun j u hu => by
    obtain ⟨u', e1, e2⟩ := hr j u hu
    exact ⟨u', e1, e2.mono hK1.le⟩) (by simpa using hb) (by simpa using h63)
  have hup : upd (upd s.H s.k (some { cells := [], elem := e, kind := .grow, esz := sz })) s.k (some { cells := [] ++ news, elem := e, kind := .grow, esz := sz }) = upd s.H s.k (some { cells := news, elem := e, kind := .grow, esz := sz }) := by
    funext q
    by_cases hq : q = s.k
    · subst hq; simp
    · simp [upd, hq]
  rw [Nat.zero_add] at hv'
  rw [hup] at hS' hK
  refine Oper.wp_val (run_builtin ho ?_) (hnx _ _ _ _ _ _ hR hv' hS' (hK1.trans (fun n hn => (hs.S.fresh n hn).2) hK))
  simp only [builtin, List.map_toArray, List.map_cons, List.map_nil, hA]
  rw [Sem.run_bind, hrun]
  rfl

/-- copy into a block of the call's own. -/
theorem AOp.copy {x y : Operand} {t tx e : TypeId} {sz n off l c m : Nat} {b : Blk} {yv : Value} {news : List Value} (ho : o.op = .call { callee := .builtin .copy, args := #[x, y], argTypes := #[t, tx] }) (hf : slB P t = some (e, sz))
    (hx : aeval NG s.fr x = some (.slice (some ⟨n, off, none⟩) l c)) (hn : s.H n = some b) (hk : b.kind = .fix) (hfit : off + l * sz ≤ b.cells.length)
    (hy : aeval NG s.fr y = some yv) (hns : ∀ b, yv ≠ .string b) (hsrc : srcOf s.H sz yv = some (m, news)) (h1 : ∀ u ∈ news, u.oneCell' = true)
    (hR : R (.int .i64 (min m l : Nat)) (upd s.H n (some { b with cells := putL b.cells off (news.take (min m l * sz)) })) s.k) : AOp P NG o s R := by
  intro N B w0 G a w hs next Q hnx
  obtain ⟨hu, hz⟩ := slB_inv hf
  have hp := aeval_rel hs hx
  have hyv := aeval_rel hs hy
  generalize hpv : a.eval x = p at hp
  generalize hqv : a.eval y = q at hyv
  cases hp with
  | plain h => simp [isPlain] at h
  | @exact _ _ _ _ base hg =>
    have hsrc' : ∃ news' : List Value, news.length = m * sz ∧ (Builtin.lenOf q).run P w = .ok m w ∧ (Builtin.firstCells sz (min m l) q).run P w = .ok (news'.take (min m l * sz)).toArray w ∧ news'.length = news.length ∧
        (∀ (j : Nat) (u : Value), news[j]? = some u → ∃ u', news'[j]? = some u' ∧ VRel G u u') := by
      cases yv with
      | slice A l' c' =>
        simp only [srcOf] at hsrc
        cases hc : slcCells s.H sz (.slice A l' c') with
        | none => simp [hc] at hsrc
        | some cs =>
          simp [hc] at hsrc
          obtain ⟨rfl, rfl⟩ := hsrc
          obtain ⟨A', l2, c2, e1, ⟨_, _, e2⟩, hl, hxx⟩ := slcCells_rel hs.S hc hyv
          injection e2 with _ e2 _
          subst e2
          subst e1
          rcases hxx with ⟨h0, rfl⟩ | ⟨ad, cs', rfl, hpos, hl', hcell, hrel⟩
          · subst h0
            refine ⟨[], by simp, rfl, ?_, rfl, fun j u hu => by simp at hu⟩
            rw [Nat.zero_min, Nat.zero_mul]
            cases A' with
            | none => exact run_firstCells_none w sz 0 0 c2
            | some ad => exact run_firstCells_some w sz 0 ad 0 c2 _ (by simp) (fun j v hv => by simp at hv)
          · refine ⟨cs', hl, rfl, ?_, by omega, hrel⟩
            refine run_firstCells_some w sz (min l' l) ad l' c2 _ ?_ fun j v hv => ?_
            · rw [List.length_take, hl']
              exact Nat.min_eq_left (Nat.mul_le_mul_right _ (Nat.min_le_left _ _))
            · rw [List.getElem?_take] at hv
              split at hv
              · exact hcell j v hv
              · cases hv
      | string bs => exact absurd rfl (hns bs)
      | _ => simp [srcOf] at hsrc
    obtain ⟨news', hml, hlen, hfc, hnl, hrel⟩ := hsrc'
    have hmin : min m l * sz ≤ m * sz := Nat.mul_le_mul_right _ (Nat.min_le_left _ _)
    have hmin' : min m l * sz ≤ l * sz := Nat.mul_le_mul_right _ (Nat.min_le_right _ _)
    obtain ⟨w', hr, hS', hK⟩ := hs.S.put (P := P) (vs := news.take (min m l * sz)) (vs' := news'.take (min m l * sz)) (off := off) hn hk hg (by rw [List.length_take]; omega) (by simp [hnl]) (by
      intro j v hv
      rw [List.getElem?_take] at hv
      split at hv
      · rename_i hj
        obtain ⟨u', e1, e2⟩ := hrel j v hv
        exact ⟨u', by rw [List.getElem?_take, if_pos hj]; exact e1, e2⟩
      · cases hv) (by
      intro u hu
      have hu2 := List.mem_of_mem_take hu
      obtain ⟨i, hi⟩ := List.mem_iff_getElem?.1 hu2
      have hlt : i < news.length := by have := (List.getElem?_eq_some_iff.1 hi).1; omega
      obtain ⟨u', h2, h3⟩ := hrel i _ (List.getElem?_eq_getElem hlt)
      rw [hi] at h2
      injection h2 with h2
      subst h2
      rw [h3.oneCell]
      exact h1 _ (List.getElem_mem hlt))
    refine Oper.wp_val (run_builtin ho ?_) (hnx _ (.int .i64 (min m l : Nat)) _ _ _ _ hR (.plain rfl) hS' hK)
    simp only [builtin, List.map_toArray, List.map_cons, List.map_nil, hpv, hqv]
    rw [Sem.run_bind]
    have : (Builtin.copy_ #[t, tx] o.type #[.slice (some (base.add off)) l c, q]).run P w = .ok (.int .i64 (min m l : Nat)) w' := by
      simp only [Builtin.copy_, List.getElem?_toArray, List.getElem?_cons_zero, List.getElem?_cons_succ]
      rw [Sem.run_bind, run_underlying hu]
      simp only [Result.andThen_ok]
      rw [Sem.run_bind, hlen]
      simp only [Result.andThen_ok]
      rw [Sem.run_bind, run_sizeOf hz]
      simp only [Result.andThen_ok]
      rw [Sem.run_bind]
      rw [show Nat.min m l = min m l from rfl, hfc]
      simp only [Result.andThen_ok]
      rw [Sem.run_bind, hr]
      rfl
    rw [this]
    rfl
  | _ => simp at *

/-- '[]byte(s)'. -/
theorem AOp.toBytes {x : Operand} {t t' e : TypeId} {bs : ByteArray} {d : TypeDesc} (ho : o.op = .convert t t' x) (hu : P.underlying t = some d) (hu' : P.underlying t' = some (.slice e)) (he : P.underlying e = some (.int .u8)) (hx : aeval NG s.fr x = some (.string bs))
    (hR : R (.slice (some ⟨s.k, 0, some 0⟩) bs.size bs.size) (upd s.H s.k (some { cells := byteCells bs, elem := e, kind := .fix })) (s.k + 1)) : AOp P NG o s R := by
  intro N B w0 G a w hs next Q hnx
  have hv := (aeval_rel hs hx).string_
  have hge := grownCap_ge' w bs.size 0 e
  have hrun := Lib.run_convert_string_bytes (P := P) w t t' e bs hu hu' he
  have hw : Lib.bytesWorld w e bs = w.drew.alloc (.cells (Lib.bytesCells w e bs) e ((Lib.bytesCells w e bs).size, (Lib.bytesCells w e bs).size + 1)) := freeze_new w.drew _ e _
  rw [hw] at hrun
  unfold Lib.bytesCells at hrun
  generalize grownCap w bs.size 0 e = cap at hrun hge
  generalize hcs : (bs.data.map (fun b => Value.int .u8 b.toNat) ++ Array.replicate (cap - bs.size) (.int .u8 0) : Array Value) = cs at hrun
  have hcz : cs.size = bs.size + (cap - bs.size) := by rw [← hcs]; simp
  obtain ⟨h4, h5⟩ := hs.S.drew.newFix (byteCells bs) cs e (cs.size, cs.size + 1) ⟨Nat.le_succ _, fun j hj => by simp; omega⟩ (by rw [byteCells_length]; omega) (fun j u hj hu => by
    refine ⟨u, ?_, .plain ?_⟩
    · show cs[j]? = _
      rw [← hcs, Array.getElem?_append_left (by rw [byteCells_length] at hj; simpa using hj)]
      simpa [byteCells] using hu
    · obtain ⟨x, _, rfl⟩ := List.mem_map.1 (List.mem_of_getElem? hu)
      rfl)
  refine Oper.wp_val (v := .slice (some ⟨w.heap.size, 0, none⟩) bs.size cap) ?_ (hnx _ _ _ _ _ _ hR ?_ h4 h5.of_drew)
  · simp only [execOp, ho, hv]
    rw [Sem.run_bind, hrun]
    rfl
  · exact VRel.loose (G := upd G s.k (.at ⟨w.heap.size, 0, none⟩)) (n := s.k) (off := 0) (upd_same _ _ _) hge fun _ => rfl
end
end Go.Ab

set_option linter.unusedVariables false
set_option linter.unusedSimpArgs false
namespace Go.Ab
open Go.RowKit

def Sub (H H' : Hp) : Prop := ∀ n b, H n = some b → H' n = some b
/-- H2 where H said nothing, else H'. -/
def over (k : Nat) (H H2 H' : Hp) : Hp := fun n => if n < k ∧ H n = none then H2 n else H' n

section
variable {P : Program} {NG B : Nat} {w0 w : World} {G : GMap} {H H2 : Hp} {k : Nat}

theorem SRel.less (h : SRel NG B w0 G H2 k w) (hs : Sub H H2) : SRel NG B w0 G H k w :=
  ⟨h.below, h.base, h.glob, h.le, fun n b hn => h.blk n b (hs n b hn), fun n m b c hn hm => h.sep n m b c (hs n b hn) (hs m c hm), fun n hn => by
    refine ⟨?_, (h.fresh n hn).2⟩
    cases hh : H n with
    | none => rfl
    | some b =>
      have := hs n b hh
      rw [(h.fresh n hn).1] at this
      cases this⟩

end

/-! ### A region whose order is open -/
section
variable {P : Program} {NG N B : Nat} {w0 : World} {s : St} {Q : Exit → St → Prop} {ops : Array Oper}

def stepA (P : Program) (NG : Nat) (ops : Array Oper) (o : Oper) (s : St) (K : Value → Hp → Nat → Prop) : Prop :=
  match wantedA ops s.fr o with
  | some true => AOp P NG o s K
  | some false => K undef s.H s.k
  | none => False

theorem ACode.region_draw {id : Nat} (hm : P.follows .mixedOrders = true) (hd : dstsOk N ops = true) (I : (Nat → Bool) → Fr → Hp → Nat → Prop) (h0 : I (fun _ => false) s.fr s.H s.k)
    (hstep : ∀ (i : Nat) (o : Oper) (X : Nat → Bool) (fr : Fr) (H : Hp) (k : Nat), ops[i]? = some o → X i = false → (∀ e ∈ o.after, Region.binds .any e = true → X e.on = true) → I X fr H k →
      stepA P NG ops o ⟨fr, H, k⟩ fun v H' k' => I (upd X i true) (putA fr o.dst v) H' k')
    (hend : ∀ (X : Nat → Bool) (fr : Fr) (H : Hp) (k : Nat), (∀ i o, ops[i]? = some o → X i = false → ∃ e ∈ o.after, Region.binds .any e = true ∧ X e.on = false) → I X fr H k → Q .normal ⟨fr, H, k⟩) : ACode P NG N (.region id ops true) Q s := by
  intro B w0 G a w hs hdf
  refine wp_region_any hm ?_
  have key : ∀ (fuel : Nat) (listed : Array Bool) (X : Nat → Bool) (s1 : St) (G1 : GMap) (a1 : Act) (w1 : World), listed.size = ops.size → (∀ i, i < ops.size → listed[i]? = some (X i)) → (∀ i, ops.size ≤ i → X i = false) → (List.range ops.size).countP (fun i => !X i) ≤ fuel →
      I X s1.fr s1.H s1.k → StRel NG N B w0 G1 s1 a1 w1 → a1.defers = [] → Keep s.H s.k G w s1.H s1.k G1 w1 → wpAny P .any ops (Post NG N B w0 G s w Q) fuel listed a1 w1 := by
    intro fuel
    induction fuel with
    | zero =>
      intro listed X s1 G1 a1 w1 hsz hX hX0 hc hI hs1 hd1 hk
      have hall : ∀ i, i < ops.size → X i = true := by
        intro i hi
        have hz : (List.range ops.size).countP (fun i => !X i) = 0 := by omega
        rw [List.countP_eq_zero] at hz
        have := hz i (List.mem_range.2 hi)
        simpa using this
      refine ⟨?_, s1, G1, hend X s1.fr s1.H s1.k (fun i o ho hx => ?_) hI, hs1, hk, hd1⟩
      · rw [List.eq_nil_iff_forall_not_mem]
        intro i hi
        rw [mem_ready] at hi
        obtain ⟨h1, o, ho, _⟩ := hi
        have hlt := (Array.getElem?_eq_some_iff.1 ho).1
        simp [Array.getD_eq_getD_getElem?, hX i hlt, hall i hlt] at h1
      · have hlt := (Array.getElem?_eq_some_iff.1 ho).1
        rw [hall i hlt] at hx
        cases hx
    | succ fuel ih =>
      intro listed X s1 G1 a1 w1 hsz hX hX0 hc hI hs1 hd1 hk
      refine ⟨fun hr => ⟨s1, G1, hend X s1.fr s1.H s1.k (fun i o ho hx => ?_) hI, hs1, hk, hd1⟩, fun i hi => ?_⟩
      · -- nothing is ready
        apply Classical.byContradiction
        intro hno
        have hlt := (Array.getElem?_eq_some_iff.1 ho).1
        have : i ∈ Region.ready .any ops listed := by
          rw [mem_ready]
          refine ⟨by simp [Array.getD_eq_getD_getElem?, hX i hlt, hx], o, ho, fun e he hb => ?_⟩
          apply Classical.byContradiction
          intro hne
          refine hno ⟨e, he, hb, ?_⟩
          rcases Nat.lt_or_ge e.on ops.size with hl | hl
          · have h2 := hX e.on hl
            simp only [Array.getD_eq_getD_getElem?, h2, Option.getD_some] at hne
            simpa using hne
          · exact hX0 _ hl
        rw [hr] at this
        cases this
      · rw [mem_ready] at hi
        obtain ⟨h1, o, ho, hedges⟩ := hi
        have hlt := (Array.getElem?_eq_some_iff.1 ho).1
        have hxi : X i = false := by simpa [Array.getD_eq_getD_getElem?, hX i hlt] using h1
        have hst := hstep i o X s1.fr s1.H s1.k ho hxi (fun e he hb => by
          have h2 := hedges e he hb
          rcases Nat.lt_or_ge e.on ops.size with hl | hl
          · simpa [Array.getD_eq_getD_getElem?, hX e.on hl] using h2
          · simp [Array.getD_eq_getD_getElem?, Array.getElem?_eq_none (show listed.size ≤ e.on by omega)] at h2) hI
        have hX' : ∀ j, j < ops.size → (listed.setIfInBounds i true)[j]? = some (upd X i true j) := by
          intro j hj
          by_cases hji : j = i
          · subst hji
            rw [upd_same, Array.getElem?_setIfInBounds_self, if_pos (by omega)]
          · rw [upd_other _ _ hji, Array.getElem?_setIfInBounds_ne (Ne.symm hji)]
            exact hX j hj
        have hc' : (List.range ops.size).countP (fun j => !(upd X i true j)) ≤ fuel := by
          have : (List.range ops.size).countP (fun j => !(upd X i true j)) < (List.range ops.size).countP (fun j => !X j) := by
            have hmem : i ∈ List.range ops.size := List.mem_range.2 hlt
            have gen : ∀ l : List Nat, i ∈ l → l.countP (fun j => !(upd X i true j)) < l.countP (fun j => !X j) := by
              intro l
              have le : ∀ l : List Nat, l.countP (fun j => !(upd X i true j)) ≤ l.countP (fun j => !X j) := by
                intro l
                apply List.countP_mono_left
                intro j _ hj
                by_cases hji : j = i
                · subst hji; simp at hj
                · rw [upd_other _ _ hji] at hj; exact hj
              induction l with
              | nil => intro h; cases h
              | cons q l ihl =>
                intro hq
                by_cases hqi : q = i
                · subst hqi
                  have := le l
                  simp only [List.countP_cons, upd_same, hxi]
                  simp
                  omega
                · have hl : i ∈ l := by
                    rcases List.mem_cons.1 hq with h | h
                    · exact absurd h.symm hqi
                    · exact h
                  have := ihl hl
                  simp only [List.countP_cons, upd_other _ _ hqi]
                  omega
            exact gen _ hmem
          omega
        have hX0' : ∀ j, ops.size ≤ j → upd X i true j = false := fun j hj => by rw [upd_other _ _ (by omega)]; exact hX0 j hj
        have hdo : ∀ t, o.dst = some t → t < N := by
          intro t ht
          have := (Array.all_eq_true_iff_forall_mem.1 hd) o (Array.mem_of_getElem? ho)
          rw [ht] at this
          simpa using this
        unfold wpOp
        simp only [ho]
        unfold stepA at hst
        cases hw : wantedA ops s1.fr o with
        | none => simp [hw] at hst
        | some b =>
          rw [wanted_rel hs1.F hw]
          cases b with
          | true =>
            simp only [hw] at hst
            simp only [if_true]
            refine .inl (hst N B w0 G1 a1 w1 hs1 _ _ fun v v' H' k' G' w' hR hv hS hK => ?_)
            exact ih _ (upd X i true) ⟨putA s1.fr o.dst v, H', k'⟩ G' _ w' (by simpa using hsz) hX' hX0' hc' hR ⟨hS, put_rel (hs1.F.mono hK.le) hdo hv⟩ (by rw [put_defers]; exact hd1) (hk.trans (fun n hn => (hs.S.fresh n hn).2) hK)
          | false =>
            simp only [hw] at hst
            simp only [Bool.false_eq_true, if_false]
            exact ih _ (upd X i true) ⟨putA s1.fr o.dst undef, s1.H, s1.k⟩ G1 _ w1 (by simpa using hsz) hX' hX0' hc' hst ⟨hs1.S, put_rel hs1.F hdo undef_rel⟩ (by rw [put_defers]; exact hd1) hk
  refine key ops.size (Array.replicate ops.size false) (fun _ => false) s G a { w with drawn := w.drawn + 1 } (by simp) (fun i hi => by simp [hi]) (fun _ _ => rfl) (by
    have := List.countP_le_length (p := fun i : Nat => !((fun _ : Nat => false) i)) (l := List.range ops.size)
    simp) h0 ⟨hs.S.drew, hs.F⟩ hdf ⟨GLe.refl _, Nat.le_refl _, Nat.le_refl _, fun _ _ _ => rfl, fun _ _ _ => rfl, fun _ _ h => h, fun _ _ h _ => h, fun _ b h => ⟨b, h, rfl⟩⟩
end
end Go.Ab

set_option linter.unusedVariables false
set_option linter.unusedSimpArgs false
namespace Go.Ab
open Go.RowKit

def edgeOn (ops : Array Oper) (i j : Nat) : Bool :=
  match ops[i]? with
  | some o => o.after.any fun e => Region.binds .any e && e.on == j
  | none => false

/-- Bit masks of what operations wait for, directly or not. -/
def ancMask (ops : Array Oper) : Nat → List Nat
  | 0 => []
  | n + 1 =>
    let l := ancMask ops n
    l ++ [match ops[n]? with
      | some o => o.after.toList.foldl (fun a e => if Region.binds .any e then a ||| (1 <<< e.on) ||| l.getD e.on 0 else a) 0
      | none => 0]
def anc (ms : List Nat) (i j : Nat) : Bool := (ms.getD i 0).testBit j

/-- From operation m on each waits for all that stand ahead of it. -/
def tailOk (ops : Array Oper) (m : Nat) : Bool :=
  let ms := ancMask ops ops.size
  (List.range ops.size).all fun i => decide (i < m) || (List.range i).all fun j => anc ms i j

/-- Each waits for operations ahead of it alone. -/
def backOk (ops : Array Oper) : Bool := (List.range ops.size).all fun i => match ops[i]? with
  | some o => o.after.all fun e => !Region.binds .any e || decide (e.on < i)
  | none => true

def dstList (ops : Array Oper) (m : Nat) : List (Nat × Nat) := (List.range m).filterMap fun i => ((ops[i]?).bind (·.dst)).map fun t => (i, t)

def puts (fr : Fr) : List (Nat × Value) → Fr
  | [] => fr
  | (t, v) :: l => puts (upd fr t (some v)) l

theorem puts_other {t : Nat} : ∀ (l : List (Nat × Value)) (fr : Fr), (∀ p ∈ l, p.1 ≠ t) → puts fr l t = fr t
  | [], fr, _ => rfl
  | (u, v) :: l, fr, h => by
    rw [puts, puts_other l _ (fun p hp => h p (List.mem_cons_of_mem _ hp))]
    exact upd_other _ _ (fun e => h (u, v) List.mem_cons_self e.symm)

theorem puts_at {t : Nat} {v : Value} : ∀ (l : List (Nat × Value)) (fr : Fr), (l.map (·.1)).Nodup → (t, v) ∈ l → puts fr l t = some v
  | (u, x) :: l, fr, hn, h => by
    simp only [List.map_cons, List.nodup_cons] at hn
    rw [puts]
    rcases List.mem_cons.1 h with e | h
    · injection e with e1 e2
      subst e1
      subst e2
      rw [puts_other l _ (fun p hp e => hn.1 (by rw [← e]; exact List.mem_map.2 ⟨p, hp, rfl⟩)), upd_same]
    · exact puts_at l _ hn.2 h

theorem mem_dstList {ops : Array Oper} {m i t : Nat} : (i, t) ∈ dstList ops m ↔ i < m ∧ ∃ o, ops[i]? = some o ∧ o.dst = some t := by
  unfold dstList
  rw [List.mem_filterMap]
  constructor
  · rintro ⟨j, hj, h⟩
    rw [List.mem_range] at hj
    cases ho : ops[j]? with
    | none => simp [ho] at h
    | some o =>
      cases hd : o.dst with
      | none => simp [ho, hd] at h
      | some u =>
        simp [ho, hd] at h
        obtain ⟨rfl, rfl⟩ := h
        exact ⟨hj, o, ho, hd⟩
  · rintro ⟨hi, o, ho, hd⟩
    exact ⟨i, List.mem_range.2 hi, by simp [ho, hd]⟩

theorem edge_mem {ops : Array Oper} {i j : Nat} : edgeOn ops i j = true ↔ ∃ o, ops[i]? = some o ∧ ∃ e ∈ o.after, Region.binds .any e = true ∧ e.on = j := by
  unfold edgeOn
  cases ho : ops[i]? with
  | none => simp
  | some o =>
    simp only [Array.any_eq_true', Bool.and_eq_true, beq_iff_eq, Option.some.injEq, exists_eq_left']

/-- What a set of operations that is closed under 'waits for' holds. -/
def Closed (ops : Array Oper) (X : Nat → Bool) : Prop := ∀ i j, X i = true → edgeOn ops i j = true → X j = true

theorem testBit_fold {l : List Nat} {f : Oper → Bool} (es : List Edge) (b : Edge → Bool) (j : Nat) : ∀ a : Nat, (es.foldl (fun a e => if b e then a ||| (1 <<< e.on) ||| l.getD e.on 0 else a) a).testBit j = true →
    a.testBit j = true ∨ ∃ e ∈ es, b e = true ∧ (e.on = j ∨ (l.getD e.on 0).testBit j = true) := by
  induction es with
  | nil => intro a h; exact .inl h
  | cons e es ih =>
    intro a h
    rw [List.foldl_cons] at h
    rcases ih _ h with h | ⟨e', h1, h2⟩
    · split at h
      · rename_i hb
        rw [Nat.testBit_or, Nat.testBit_or, Bool.or_eq_true, Bool.or_eq_true] at h
        rcases h with (h | h) | h
        · exact .inl h
        · refine .inr ⟨e, by simp, hb, .inl ?_⟩
          rw [Nat.one_shiftLeft, Nat.testBit_two_pow] at h
          simpa using h
        · exact .inr ⟨e, by simp, hb, .inr h⟩
      · exact .inl h
    · exact .inr ⟨e', by simp [h1], h2⟩

theorem ancMask_length (ops : Array Oper) : ∀ n, (ancMask ops n).length = n
  | 0 => rfl
  | n + 1 => by simp [ancMask, ancMask_length ops n]
theorem ancMask_get (ops : Array Oper) : ∀ n i, i < n → (ancMask ops n).getD i 0 = (match ops[i]? with
      | some o => o.after.toList.foldl (fun a e => if Region.binds .any e then a ||| (1 <<< e.on) ||| (ancMask ops i).getD e.on 0 else a) 0
      | none => 0)
  | n + 1, i, h => by
    rcases Nat.lt_or_ge i n with hl | hl
    · rw [ancMask, List.getD_eq_getElem?_getD, List.getElem?_append_left (by rw [ancMask_length]; exact hl), ← List.getD_eq_getElem?_getD, ancMask_get ops n i hl]
    · have : i = n := by omega
      subst this
      rw [ancMask, List.getD_eq_getElem?_getD, List.getElem?_append_right (by rw [ancMask_length]; exact Nat.le_refl _), ancMask_length, Nat.sub_self]
      rfl

theorem anc_sound {ops : Array Oper} {X : Nat → Bool} (hX : Closed ops X) (hb : backOk ops = true) : ∀ (n i j : Nat), i ≤ n → i < ops.size → anc (ancMask ops ops.size) i j = true → (∀ q, edgeOn ops i q = true → X q = true) → X j = true
  | n, i, j, hin, hi, h, he => by
    unfold anc at h
    rw [ancMask_get ops ops.size i hi, Array.getElem?_eq_getElem hi] at h
    rcases testBit_fold (f := fun _ => true) _ _ j 0 h with h | ⟨e, hm, hbd, h⟩
    · simp at h
    · have hedge : edgeOn ops i e.on = true := edge_mem.2 ⟨_, Array.getElem?_eq_getElem hi, e, Array.mem_toList_iff.1 hm, hbd, rfl⟩
      have hxe := he e.on hedge
      rcases h with rfl | h
      · exact hxe
      · have hlt : e.on < i := by
          unfold backOk at hb
          rw [List.all_eq_true] at hb
          have h1 := hb i (List.mem_range.2 hi)
          rw [Array.getElem?_eq_getElem hi] at h1
          simp only [Array.all_eq_true_iff_forall_mem] at h1
          have h2 := h1 e (Array.mem_toList_iff.1 hm)
          rw [hbd] at h2
          simpa using h2
        match n, hin with
        | 0, hin => omega
        | n + 1, hin =>
          refine anc_sound hX hb n e.on j (by omega) (by omega) ?_ (fun q hq => hX e.on q hxe hq)
          unfold anc
          rw [ancMask_get ops ops.size e.on (by omega)]
          rw [ancMask_get ops i e.on hlt] at h
          exact h

section
variable {P : Program} {NG N : Nat} {s : St} {Q : Exit → St → Prop} {ops : Array Oper}

theorem stepA.mono {o : Oper} {s : St} {K K' : Value → Hp → Nat → Prop} (h : stepA P NG ops o s K) (hk : ∀ v H k, K v H k → K' v H k) : stepA P NG ops o s K' := by
  unfold stepA at h ⊢
  split at h
  · exact h.mono hk
  · exact hk _ _ _ h
  · exact h.elim

theorem aOps_cons {i : Nat} {o : Oper} {rest : List Nat} {K : St → Prop} {s : St} (ho : ops[i]? = some o) : aOps P NG ops K (i :: rest) s ↔ stepA P NG ops o s fun v H' k' => aOps P NG ops K rest ⟨putA s.fr o.dst v, H', k'⟩ := by
  simp only [aOps, ho, stepA]
  all_goals
    cases wantedA ops s.fr o with
    | none => exact Iff.rfl
    | some b => cases b <;> exact Iff.rfl

/-- What the operations ahead have given, as far as this one waits for them. -/
def Deps (ops : Array Oper) (Φ : Nat → Value → Hp → Prop) (i : Nat) (fr : Fr) (H : Hp) : Prop :=
  ∀ j oj t, ops[j]? = some oj → edgeOn ops i j = true → oj.dst = some t → ∃ v, fr t = some v ∧ Φ j v H
/-- The slots that only operations behind this one write. -/
def Olds (ops : Array Oper) (i : Nat) (fr0 fr : Fr) : Prop :=
  ∀ t, (∀ j oj, ops[j]? = some oj → oj.dst = some t → j = i ∨ edgeOn ops j i = true) → fr t = fr0 t

/-- All that the rule below asks of the region's text: N slots, the first m operations quiet, L: their places and slots. -/
def drawOk (N : Nat) (ops : Array Oper) (m : Nat) (L : List (Nat × Nat)) : Bool :=
  dstsOk N ops && decide (m ≤ ops.size) && tailOk ops m && backOk ops && decide (dstList ops m = L) && decide ((L.map (·.2)).Nodup)

theorem ACode.region_tail {id : Nat} (m : Nat) (L : List (Nat × Nat)) (hm : P.follows .mixedOrders = true) (hok : drawOk N ops m L = true)
    (S : Hp → Hp → Prop) (hS0 : ∀ H, S H H) (hS1 : ∀ {a b c}, S a b → S b c → S a c) (Φ : Nat → Value → Hp → Prop) (hΦ : ∀ i v H H', Φ i v H → S H H' → Φ i v H')
    (hstep : ∀ i o, ops[i]? = some o → i < m → ∀ fr H k, S s.H H → s.k ≤ k → Deps ops Φ i fr H → Olds ops i s.fr fr → stepA P NG ops o ⟨fr, H, k⟩ fun v H' k' => Φ i v H' ∧ S H H' ∧ k ≤ k')
    (hend : ∀ (vs : Nat → Value) H k, S s.H H → s.k ≤ k → (∀ p ∈ L, Φ p.1 (vs p.1) H) → aOps P NG ops (Q .normal) (List.range' m (ops.size - m)) ⟨puts s.fr (L.map fun p => (p.2, vs p.1)), H, k⟩) :
    ACode P NG N (.region id ops true) Q s := by
  unfold drawOk at hok
  simp only [Bool.and_eq_true, decide_eq_true_eq] at hok
  obtain ⟨⟨⟨⟨⟨hd, hmn⟩, ht⟩, hbk⟩, hL⟩, hnd⟩ := hok
  have htail : ∀ i j, m ≤ i → i < ops.size → j < i → anc (ancMask ops ops.size) i j = true := by
    intro i j h1 h2 h3
    unfold tailOk at ht
    rw [List.all_eq_true] at ht
    have := ht i (List.mem_range.2 h2)
    simp only [Bool.or_eq_true, decide_eq_true_eq, List.all_eq_true] at this
    rcases this with h | h
    · omega
    · exact h j (List.mem_range.2 h3)
  -- with all quiet operations done, the state is hend's
  have frame : ∀ (X : Nat → Bool) (fr : Fr) (H : Hp), (∀ i, i < m → X i = true) → (∀ i, m ≤ i → X i = false) →
      (∀ i o t, ops[i]? = some o → o.dst = some t → X i = true → ∃ v, fr t = some v ∧ Φ i v H) → (∀ t, (∀ j oj, ops[j]? = some oj → oj.dst = some t → X j = false) → fr t = s.fr t) →
      ∃ vs : Nat → Value, (∀ p ∈ L, Φ p.1 (vs p.1) H) ∧ fr = puts s.fr (L.map fun p => (p.2, vs p.1)) := by
    intro X fr H h1 h2 h3 h4
    refine ⟨fun i => match (ops[i]?).bind (·.dst) with | some t => (fr t).getD undef | none => undef, ?_, ?_⟩
    · rintro ⟨i, t⟩ hp
      rw [← hL, mem_dstList] at hp
      obtain ⟨hi, o, ho, hdst⟩ := hp
      obtain ⟨v, hv, hφ⟩ := h3 i o t ho hdst (h1 i hi)
      simpa [ho, hdst, hv] using hφ
    · funext t
      by_cases hex : ∃ i, (i, t) ∈ L
      · obtain ⟨i, hp⟩ := hex
        have hp' := hp
        rw [← hL, mem_dstList] at hp
        obtain ⟨hi, o, ho, hdst⟩ := hp
        obtain ⟨v, hv, _⟩ := h3 i o t ho hdst (h1 i hi)
        rw [hv]
        refine (puts_at _ _ (by simpa [List.map_map, Function.comp_def] using hnd) (List.mem_map.2 ⟨(i, t), hp', ?_⟩)).symm
        simp [ho, hdst, hv]
      · rw [puts_other]
        · refine h4 t fun j oj hj hdj => ?_
          rcases Nat.lt_or_ge j m with hlt | hge
          · exact absurd ⟨j, by rw [← hL, mem_dstList]; exact ⟨hlt, oj, hj, hdj⟩⟩ hex
          · exact h2 j hge
        · intro p hp e
          obtain ⟨q, hq, rfl⟩ := List.mem_map.1 hp
          exact hex ⟨q.1, by simpa [← e] using hq⟩
  refine ACode.region_draw hm hd (fun X fr H k => Closed ops X ∧ (∀ i, ops.size ≤ i → X i = false) ∧
      (((∀ i, m ≤ i → X i = false) ∧ S s.H H ∧ s.k ≤ k ∧ (∀ i o t, ops[i]? = some o → o.dst = some t → X i = true → ∃ v, fr t = some v ∧ Φ i v H) ∧ (∀ t, (∀ j oj, ops[j]? = some oj → oj.dst = some t → X j = false) → fr t = s.fr t)) ∨
       ∃ p, m < p ∧ p ≤ ops.size ∧ (∀ i, i < p → X i = true) ∧ (∀ i, p ≤ i → X i = false) ∧ aOps P NG ops (Q .normal) (List.range' p (ops.size - p)) ⟨fr, H, k⟩)) ?_ ?_ ?_
  · exact ⟨fun i j h => by simp at h, fun _ _ => rfl, .inl ⟨fun _ _ => rfl, hS0 _, Nat.le_refl _, fun i o t _ _ h => by simp at h, fun _ _ => rfl⟩⟩
  · rintro i o X fr H k ho hxi hedge ⟨hcl, hbig, hst⟩
    have hlt := (Array.getElem?_eq_some_iff.1 ho).1
    have hed : ∀ q, edgeOn ops i q = true → X q = true := by
      intro q hq
      obtain ⟨o', ho', e, he, hb, rfl⟩ := edge_mem.1 hq
      rw [ho] at ho'
      injection ho' with ho'
      subst ho'
      exact hedge e he hb
    have hcl' : Closed ops (upd X i true) := by
      intro a b ha hab
      by_cases hb : b = i
      · subst hb; exact upd_same _ _ _
      · rw [upd_other _ _ hb]
        by_cases hai : a = i
        · subst hai; exact hed b hab
        · rw [upd_other _ _ hai] at ha; exact hcl a b ha hab
    have hbig' : ∀ j, ops.size ≤ j → upd X i true j = false := fun j hj => by rw [upd_other _ _ (by omega)]; exact hbig j hj
    -- the tail's next operation
    have tailStep : ∀ p, m ≤ p → p < ops.size → (∀ j, j < p → X j = true) → (∀ j, p ≤ j → X j = false) → i = p → aOps P NG ops (Q .normal) (List.range' p (ops.size - p)) ⟨fr, H, k⟩ →
        stepA P NG ops o ⟨fr, H, k⟩ fun v H' k' => Closed ops (upd X i true) ∧ (∀ j, ops.size ≤ j → upd X i true j = false) ∧
          (((∀ j, m ≤ j → upd X i true j = false) ∧ S s.H H' ∧ s.k ≤ k' ∧ (∀ j oj t, ops[j]? = some oj → oj.dst = some t → upd X i true j = true → ∃ v', putA fr o.dst v t = some v' ∧ Φ j v' H') ∧ (∀ t, (∀ j oj, ops[j]? = some oj → oj.dst = some t → upd X i true j = false) → putA fr o.dst v t = s.fr t)) ∨
           ∃ p, m < p ∧ p ≤ ops.size ∧ (∀ j, j < p → upd X i true j = true) ∧ (∀ j, p ≤ j → upd X i true j = false) ∧ aOps P NG ops (Q .normal) (List.range' p (ops.size - p)) ⟨putA fr o.dst v, H', k'⟩) := by
      intro p hp hps hlo hhi hip ha
      subst hip
      rw [show ops.size - i = (ops.size - (i + 1)) + 1 by omega, List.range'_succ, aOps_cons ho] at ha
      refine ha.mono fun v H' k' h => ⟨hcl', hbig', .inr ⟨i + 1, by omega, by omega, fun j hj => ?_, fun j hj => ?_, h⟩⟩
      · by_cases hji : j = i
        · subst hji; exact upd_same _ _ _
        · rw [upd_other _ _ hji]; exact hlo j (by omega)
      · rw [upd_other _ _ (by omega)]
        exact hhi j (by omega)
    rcases hst with ⟨hno, hsub, hk, hvals, holds⟩ | ⟨p, hp, hps, hlo, hhi, ha⟩
    · by_cases him : i < m
      · -- a quiet one
        refine (hstep i o ho him fr H k hsub hk (fun j oj t hj he hdj => hvals j oj t hj hdj (hed j he)) (fun t hw => holds t fun j oj hj hdj => ?_)).mono fun v H' k' h => ?_
        · rcases hw j oj hj hdj with rfl | he
          · exact hxi
          · cases hxj : X j with
            | false => rfl
            | true => rw [hcl j i hxj he] at hxi; cases hxi
        · refine ⟨hcl', hbig', .inl ⟨fun j hj => by rw [upd_other _ _ (by omega)]; exact hno j hj, hS1 hsub h.2.1, Nat.le_trans hk h.2.2, fun j oj t hj hdj hx => ?_, fun t hw => ?_⟩⟩
          · by_cases hji : j = i
            · subst hji
              rw [ho] at hj
              injection hj with hj
              subst hj
              rw [hdj]
              exact ⟨v, upd_same _ _ _, h.1⟩
            · rw [upd_other _ _ hji] at hx
              obtain ⟨v', h1, h2⟩ := hvals j oj t hj hdj hx
              refine ⟨v', ?_, hΦ _ _ _ _ h2 h.2.1⟩
              cases hdo : o.dst with
              | none => exact h1
              | some u =>
                show upd fr u (some v) t = _
                by_cases htu : t = u
                · subst htu
                  have hjm : j < m := by
                    rcases Nat.lt_or_ge j m with hl | hl
                    · exact hl
                    · rw [hno j hl] at hx; cases hx
                  have e1 : (i, t) ∈ L := by rw [← hL, mem_dstList]; exact ⟨him, o, ho, hdo⟩
                  have e2 : (j, t) ∈ L := by rw [← hL, mem_dstList]; exact ⟨hjm, oj, hj, hdj⟩
                  have inj : ∀ l : List (Nat × Nat), (l.map (·.2)).Nodup → (i, t) ∈ l → (j, t) ∈ l → j = i := by
                    intro l
                    induction l with
                    | nil => intro _ h; cases h
                    | cons q l ih =>
                      intro hn ha hb
                      simp only [List.map_cons, List.nodup_cons] at hn
                      rcases List.mem_cons.1 ha with ha | ha
                      · rcases List.mem_cons.1 hb with hb | hb
                        · rw [← ha] at hb; injection hb
                        · exact absurd (List.mem_map.2 ⟨(j, t), hb, by rw [← ha]⟩) hn.1
                      · rcases List.mem_cons.1 hb with hb | hb
                        · exact absurd (List.mem_map.2 ⟨(i, t), ha, by rw [← hb]⟩) hn.1
                        · exact ih hn.2 ha hb
                  exact absurd (inj L hnd e1 e2) hji
                · rw [upd_other _ _ htu]; exact h1
          · have h1 : fr t = s.fr t := holds t fun j oj hj hdj => by
              have := hw j oj hj hdj
              by_cases hji : j = i
              · subst hji; rw [upd_same] at this; cases this
              · rwa [upd_other _ _ hji] at this
            cases hdo : o.dst with
            | none => exact h1
            | some u =>
              show upd fr u (some v) t = _
              by_cases htu : t = u
              · subst htu
                have := hw i o ho hdo
                rw [upd_same] at this
                cases this
              · rw [upd_other _ _ htu]; exact h1
      · -- the tail begins
        have hall : ∀ j, j < i → X j = true := fun j hj => anc_sound hcl hbk i i j (Nat.le_refl _) hlt (htail i j (by omega) hlt hj) hed
        have him' : i = m := by
          rcases Nat.lt_or_ge m i with h | h
          · have := hall m h
            rw [hno m (Nat.le_refl _)] at this
            cases this
          · omega
        obtain ⟨vs, hv1, hv2⟩ := frame X fr H (fun j hj => hall j (by omega)) hno hvals holds
        have := hend vs H k hsub hk hv1
        rw [← hv2] at this
        exact tailStep m (Nat.le_refl _) (by omega) (fun j hj => hall j (by omega)) hno him' this
    · have hip : i = p := by
        have hpi : p ≤ i := by
          rcases Nat.lt_or_ge i p with h | h
          · rw [hlo i h] at hxi; cases hxi
          · exact h
        rcases Nat.lt_or_ge p i with h | h
        · have := anc_sound hcl hbk i i p (Nat.le_refl _) hlt (htail i p (by omega) hlt h) hed
          rw [hhi p (Nat.le_refl _)] at this
          cases this
        · omega
      exact tailStep p (by omega) (by omega) hlo hhi hip ha
  · rintro X fr H k hdone ⟨hcl, hbig, hst⟩
    have hall : ∀ i, i < ops.size → X i = true := by
      intro i
      induction i using Nat.strongRecOn with
      | _ i ih =>
        intro hi
        cases hx : X i with
        | true => rfl
        | false =>
          obtain ⟨e, he, hb, hxe⟩ := hdone i _ (Array.getElem?_eq_getElem hi) hx
          unfold backOk at hbk
          rw [List.all_eq_true] at hbk
          have h1 := hbk i (List.mem_range.2 hi)
          rw [Array.getElem?_eq_getElem hi] at h1
          simp only [Array.all_eq_true_iff_forall_mem] at h1
          have h2 := h1 e he
          rw [hb] at h2
          simp only [Bool.not_true, Bool.false_or, decide_eq_true_eq] at h2
          rw [ih e.on h2 (by omega)] at hxe
          cases hxe
    rcases hst with ⟨hno, hsub, hk, hvals, holds⟩ | ⟨p, hp, hps, hlo, hhi, ha⟩
    · have hsz : m = ops.size := by
        rcases Nat.lt_or_ge m ops.size with h | h
        · have := hall m h
          rw [hno m (Nat.le_refl _)] at this
          cases this
        · omega
      obtain ⟨vs, hv1, hv2⟩ := frame X fr H (fun j hj => hall j (by omega)) hno hvals holds
      have := hend vs H k hsub hk hv1
      rw [← hv2, show ops.size - m = 0 by omega] at this
      exact this
    · have hsz : p = ops.size := by
        rcases Nat.lt_or_ge p ops.size with h | h
        · have := hall p h
          rw [hhi p (Nat.le_refl _)] at this
          cases this
        · omega
      rw [show ops.size - p = 0 by omega] at ha
      exact ha
end
end Go.Ab
