/- Abstract states over the model, part 1: when an abstract value, block, heap stands for a real one. No condition; plain definitions and theorems, over any program. -/
import Derived.WalkKit
import Derived.Below
import Derived.Deep.Draws
import Derived.LoopN
set_option linter.unusedVariables false
set_option linter.unusedSimpArgs false
namespace Go.Ab
open Go.RowKit

/-- An array that a grown slice has lived in: its block, how many cells hold what the slice holds, its capacity in elements. -/
structure Row where
  block : Nat
  k : Nat
  cap : Nat

/-- Where an abstract block lies: nowhere yet; at an address; in arrays (elements of s cells), the current one first. -/
inductive GB where
  | free
  | at (a : Addr)
  | rows (s : Nat) (l : List Row)

abbrev GMap := Nat → GB

def GB.le : GB → GB → Prop
  | .free, _ => True
  | .at a, g => g = .at a
  | .rows s l, g => ∃ l', g = .rows s l' ∧ ∀ r ∈ l, ∃ r' ∈ l', r'.block = r.block ∧ r.k ≤ r'.k ∧ r'.cap = r.cap

theorem GB.le_refl (g : GB) : g.le g := by
  cases g with
  | free => trivial
  | «at» a => rfl
  | rows s l => exact ⟨l, rfl, fun r hr => ⟨r, hr, rfl, Nat.le_refl _, rfl⟩⟩

theorem GB.le_trans {a b c : GB} (h : a.le b) (k : b.le c) : a.le c := by
  cases a with
  | free => trivial
  | «at» x =>
    have hb : b = .at x := h
    subst hb
    exact k
  | rows s l =>
    obtain ⟨l', rfl, hl⟩ := h
    obtain ⟨l'', rfl, hl'⟩ := k
    refine ⟨l'', rfl, fun r hr => ?_⟩
    obtain ⟨r', hr', e1, e2, e3⟩ := hl r hr
    obtain ⟨r'', hr'', f1, f2, f3⟩ := hl' r' hr'
    exact ⟨r'', hr'', f1.trans e1, Nat.le_trans e2 f2, f3.trans e3⟩

def GLe (G G' : GMap) : Prop := ∀ n, (G n).le (G' n)
theorem GLe.refl (G : GMap) : GLe G G := fun n => GB.le_refl _
theorem GLe.trans {a b c : GMap} (h : GLe a b) (k : GLe b c) : GLe a c := fun n => GB.le_trans (h n) (k n)

def GB.blocks : GB → List Nat
  | .free => []
  | .at a => [a.block]
  | .rows _ l => l.map (·.block)

/-- A grown slice of l elements: where it really is. -/
def GSlc (s : Nat) (rows : List Row) (l : Nat) (A : Option Addr) (c : Nat) : Prop :=
  (l = 0 ∧ c = 0) ∨ ∃ r ∈ rows, A = some ⟨r.block, 0, none⟩ ∧ l * s ≤ r.k ∧ l ≤ c ∧ c = r.cap
/-- A cut of a grown slice, from cell off on. -/
def GCut (s : Nat) (rows : List Row) (off l : Nat) (A : Option Addr) (c : Nat) : Prop :=
  l ≤ c ∧ (0 < l → ∃ r ∈ rows, A = some ⟨r.block, off, none⟩ ∧ off + l * s ≤ r.k)

def isPlain : Value → Bool
  | .bool _ | .int _ _ | .string _ | .pointer none | .slice none 0 0 | .nilFunc | .nilIface | .map none | .float _ _ => true
  | _ => false

inductive VRel (G : GMap) : Value → Value → Prop
  | plain {v : Value} (h : isPlain v = true) : VRel G v v
  | ptr {n off : Nat} {base : Addr} (h : G n = .at base) : VRel G (.pointer (some ⟨n, off, none⟩)) (.pointer (some (base.add off)))
  | gptr {n off s : Nat} {rows : List Row} {r : Row} (h : G n = .rows s rows) (hr : r ∈ rows) (hk : off < r.k) :
      VRel G (.pointer (some ⟨n, off, some 1⟩)) (.pointer (some ⟨r.block, off, none⟩))
  | exact {n off l c : Nat} {base : Addr} (h : G n = .at base) : VRel G (.slice (some ⟨n, off, none⟩) l c) (.slice (some (base.add off)) l c)
  | loose {n off l c : Nat} {base : Addr} {A : Option Addr} (h : G n = .at base) (hc : l ≤ c) (hA : 0 < l → A = some (base.add off)) :
      VRel G (.slice (some ⟨n, off, some 0⟩) l l) (.slice A l c)
  | grow {n s l c : Nat} {rows : List Row} {A : Option Addr} (h : G n = .rows s rows) (hl : GSlc s rows l A c) :
      VRel G (.slice (some ⟨n, 0, some 1⟩) l l) (.slice A l c)
  | gcut {n off s l c : Nat} {rows : List Row} {A : Option Addr} (h : G n = .rows s rows) (hl : GCut s rows off l A c) :
      VRel G (.slice (some ⟨n, off, some 2⟩) l l) (.slice A l c)
  | agg {cs cs' : Array Value} (hs : cs.size = cs'.size) (h : ∀ (i : Nat) (v v' : Value), cs[i]? = some v → cs'[i]? = some v' → VRel G v v') : VRel G (.agg cs) (.agg cs')
  | tuple {cs cs' : Array Value} (hs : cs.size = cs'.size) (h : ∀ (i : Nat) (v v' : Value), cs[i]? = some v → cs'[i]? = some v' → VRel G v v') : VRel G (.tuple cs) (.tuple cs')
  | iface {t : TypeId} {v v' : Value} (h : VRel G v v') : VRel G (.iface t v) (.iface t v')
  | func {fn : Fn} {cs cs' : Array Value} (hs : cs.size = cs'.size) (h : ∀ (i : Nat) (v v' : Value), cs[i]? = some v → cs'[i]? = some v' → VRel G v v') :
      VRel G (.func fn #[] cs) (.func fn #[] cs')

theorem GSlc.mono {s l c : Nat} {rows rows' : List Row} {A : Option Addr} (h : GSlc s rows l A c)
    (hr : ∀ r ∈ rows, ∃ r' ∈ rows', r'.block = r.block ∧ r.k ≤ r'.k ∧ r'.cap = r.cap) : GSlc s rows' l A c := by
  rcases h with h | ⟨r, hm, hA, hk, hc, hcap⟩
  · exact .inl h
  · obtain ⟨r', hm', e1, e2, e3⟩ := hr r hm
    exact .inr ⟨r', hm', by rw [e1]; exact hA, Nat.le_trans hk e2, hc, by rw [e3]; exact hcap⟩
theorem GCut.mono {s off l c : Nat} {rows rows' : List Row} {A : Option Addr} (h : GCut s rows off l A c)
    (hr : ∀ r ∈ rows, ∃ r' ∈ rows', r'.block = r.block ∧ r.k ≤ r'.k ∧ r'.cap = r.cap) : GCut s rows' off l A c := by
  refine ⟨h.1, fun hl => ?_⟩
  obtain ⟨r, hm, hA, hk⟩ := h.2 hl
  obtain ⟨r', hm', e1, e2, e3⟩ := hr r hm
  exact ⟨r', hm', by rw [e1]; exact hA, Nat.le_trans hk e2⟩

theorem VRel.mono {G G' : GMap} (hG : GLe G G') {v v' : Value} (h : VRel G v v') : VRel G' v v' := by
  induction h with
  | plain h => exact .plain h
  | @ptr n off base h =>
    have := hG n
    rw [h] at this
    exact .ptr this
  | @gptr n off s rows r h hr hk =>
    have := hG n
    rw [h] at this
    obtain ⟨l', e, hl⟩ := this
    obtain ⟨r', hr', e1, e2, _⟩ := hl r hr
    rw [← e1]
    exact .gptr e hr' (by omega)
  | @exact n off l c base h =>
    have := hG n
    rw [h] at this
    exact .exact this
  | @loose n off l c base A h hc hA =>
    have := hG n
    rw [h] at this
    exact .loose this hc hA
  | @grow n s l c rows A h hl =>
    have := hG n
    rw [h] at this
    obtain ⟨l', e, hl'⟩ := this
    exact .grow e (hl.mono hl')
  | @gcut n off s l c rows A h hl =>
    have := hG n
    rw [h] at this
    obtain ⟨l', e, hl'⟩ := this
    exact .gcut e (hl.mono hl')
  | agg hs _ ih => exact .agg hs ih
  | tuple hs _ ih => exact .tuple hs ih
  | iface _ ih => exact .iface ih
  | func hs _ ih => exact .func hs ih

/-- The number of cells and 'one cell' are as the abstract value has them. -/
theorem VRel.oneCell {G : GMap} {v v' : Value} (h : VRel G v v') : v'.oneCell' = v.oneCell' := by
  cases h <;> rfl

theorem VRel.cells {G : GMap} {v v' : Value} (h : VRel G v v') :
    v.cells.size = v'.cells.size ∧ ∀ (i : Nat) (u : Value), v.cells[i]? = some u → ∃ u', v'.cells[i]? = some u' ∧ VRel G u u' := by
  have one : ∀ {v v' : Value}, VRel G v v' → v.cells = #[v] → v'.cells = #[v'] →
      v.cells.size = v'.cells.size ∧ ∀ (i : Nat) (u : Value), v.cells[i]? = some u → ∃ u', v'.cells[i]? = some u' ∧ VRel G u u' := by
    intro v v' h e e'
    rw [e, e']
    refine ⟨rfl, fun i u hu => ?_⟩
    cases i with
    | zero => simp at hu; subst hu; exact ⟨v', by simp, h⟩
    | succ i => simp at hu
  cases h with
  | @agg cs cs' hs h =>
    refine ⟨hs, fun i u hu => ?_⟩
    have hi : i < cs.size := (Array.getElem?_eq_some_iff.1 hu).1
    have h' : cs'[i]? = some (cs'[i]'(by omega)) := Array.getElem?_eq_getElem (by omega)
    exact ⟨_, h', h i u _ hu h'⟩
  | plain h' => exact one (.plain h') (by unfold Value.cells; split <;> simp_all [isPlain]) (by unfold Value.cells; split <;> simp_all [isPlain])
  | ptr h' => exact one (.ptr h') rfl rfl
  | gptr a b c => exact one (.gptr a b c) rfl rfl
  | exact h' => exact one (.exact h') rfl rfl
  | loose a b c => exact one (.loose a b c) rfl rfl
  | grow a b => exact one (.grow a b) rfl rfl
  | gcut a b => exact one (.gcut a b) rfl rfl
  | tuple a b => exact one (.tuple a b) rfl rfl
  | iface a => exact one (.iface a) rfl rfl
  | func a b => exact one (.func a b) rfl rfl

theorem VRel.int_ {G : GMap} {k : IntKind} {n : Int} {v' : Value} (h : VRel G (.int k n) v') : v' = .int k n := by cases h; rfl
theorem VRel.bool_ {G : GMap} {b : Bool} {v' : Value} (h : VRel G (.bool b) v') : v' = .bool b := by cases h; rfl
theorem VRel.string_ {G : GMap} {s : ByteArray} {v' : Value} (h : VRel G (.string s) v') : v' = .string s := by cases h; rfl
theorem VRel.plain_ {G : GMap} {v v' : Value} (hp : isPlain v = true) (h : VRel G v v') : v' = v := by
  cases h <;> first | rfl | (simp [isPlain] at hp)

/-! ### Blocks and heaps -/
inductive Kind where
  | fix | ro | grow
  deriving DecidableEq

/-- An abstract block: its cells, their element's type, how it may be used; of a grown one: how many cells an element has. -/
structure Blk where
  cells : List Value
  elem : TypeId
  kind : Kind
  esz : Nat := 1

abbrev Hp := Nat → Option Blk

/-- Cells that stand for cells. -/
def CRel (G : GMap) (cs : List Value) (f : Nat → Option Value) (k : Nat) : Prop :=
  ∀ (j : Nat) (v : Value), j < k → cs[j]? = some v → ∃ v', f j = some v' ∧ VRel G v v'

theorem CRel.mono {G G' : GMap} (hG : GLe G G') {cs : List Value} {f : Nat → Option Value} {k : Nat} (h : CRel G cs f k) : CRel G' cs f k := by
  intro j v hj hv
  obtain ⟨v', h1, h2⟩ := h j v hj hv
  exact ⟨v', h1, h2.mono hG⟩

def thawed (fz : Nat × Nat) (n : Nat) : Prop := fz.1 ≤ fz.2 ∧ ∀ j, j < n → (fz.1 ≤ j && j < fz.2) = false

/-- A real block: its cells, none of the first n frozen. -/
def RBlk (w : World) (g : Nat) (cs : Array Value) (e : TypeId) : Prop := ∃ fz, w.heap[g]? = some (.cells cs e fz) ∧ thawed fz cs.size

theorem RBlk.lt {w : World} {g : Nat} {cs : Array Value} {e : TypeId} (h : RBlk w g cs e) : g < w.heap.size := by
  obtain ⟨fz, h, _⟩ := h
  rcases Nat.lt_or_ge g w.heap.size with hlt | hge
  · exact hlt
  · rw [Array.getElem?_eq_none hge] at h; cases h
theorem RBlk.cell {w : World} {g : Nat} {cs : Array Value} {e : TypeId} (h : RBlk w g cs e) (i : Nat) : w.cell? ⟨g, i, none⟩ = cs[i]? := by
  obtain ⟨fz, h, _⟩ := h
  simp [World.cell?, h]
theorem RBlk.thaw {w : World} {g : Nat} {cs : Array Value} {e : TypeId} (h : RBlk w g cs e) (i : Nat) (hi : i < cs.size) : w.frozen? ⟨g, i, none⟩ = false := by
  obtain ⟨fz, h, ht⟩ := h
  obtain ⟨lo, hi'⟩ := fz
  have := ht.2 i hi
  simp only [World.frozen?, h]
  exact this
theorem RBlk.same {w w' : World} {g : Nat} {cs : Array Value} {e : TypeId} (h : RBlk w g cs e) (hb : w'.heap[g]? = w.heap[g]?) : RBlk w' g cs e := by
  obtain ⟨fz, h, ht⟩ := h
  exact ⟨fz, hb.trans h, ht⟩

/-- A row of a grown block. -/
def RowRel (G : GMap) (w : World) (B : Nat) (b : Blk) (r : Row) : Prop :=
  B ≤ r.block ∧ r.k ≤ b.cells.length ∧ r.k % b.esz = 0 ∧ ∃ cs, RBlk w r.block cs b.elem ∧ cs.size = r.cap * b.esz ∧ r.k ≤ cs.size ∧ CRel G b.cells (fun j => cs[j]?) r.k

def BRel (B : Nat) (G : GMap) (w : World) (g : GB) (b : Blk) : Prop :=
  match b.kind with
  | .ro => ∃ base, g = .at base ∧ base.block < B ∧ CRel G b.cells (fun j => w.cell? (base.add j)) b.cells.length
  | .fix => ∃ blk cs, g = .at ⟨blk, 0, none⟩ ∧ B ≤ blk ∧ RBlk w blk cs b.elem ∧ b.cells.length ≤ cs.size ∧ CRel G b.cells (fun j => cs[j]?) b.cells.length
  | .grow => 0 < b.esz ∧ ∃ rows, g = .rows b.esz rows ∧ (rows = [] → b.cells = []) ∧ (∀ r ∈ rows, RowRel G w B b r) ∧
      (∀ r rest, rows = r :: rest → r.k = b.cells.length ∧ ∀ q ∈ rest, q.k < b.cells.length) ∧ (rows.map (·.block)).Nodup

def Blk.own (b : Blk) : Bool := b.kind != .ro

/-- The abstract heap H (all names below k, the first NG of them the program's variables) stands for the world w; below block B the world is as w0 is. -/
structure SRel (NG B : Nat) (w0 : World) (G : GMap) (H : Hp) (k : Nat) (w : World) : Prop where
  below : Below B w0 w
  base : B ≤ w.heap.size
  glob : ∀ g, g < NG → G g = .at ⟨g, 0, none⟩
  le : NG ≤ k
  blk : ∀ n b, H n = some b → BRel B G w (G n) b
  sep : ∀ n m b c, H n = some b → H m = some c → b.own = true → c.own = true → n ≠ m → ∀ x, x ∈ (G n).blocks → x ∉ (G m).blocks
  fresh : ∀ n, k ≤ n → H n = none ∧ G n = .free

/-- What a step leaves as it was, seen from (H, k, G, w). -/
structure Keep (H : Hp) (k : Nat) (G : GMap) (w : World) (H' : Hp) (k' : Nat) (G' : GMap) (w' : World) : Prop where
  le : GLe G G'
  names : k ≤ k'
  size : w.heap.size ≤ w'.heap.size
  others : ∀ x, x < w.heap.size → (∀ n b, H n = some b → b.own = true → x ∉ (G n).blocks) → w'.heap[x]? = w.heap[x]?
  same : ∀ n, n < k → H n = none → G' n = G n
  dom : ∀ n, n < k → H n = none → H' n = none
  newer : ∀ n x, x ∈ (G' n).blocks → x < w.heap.size → x ∈ (G n).blocks
  stay : ∀ n b, H n = some b → ∃ b', H' n = some b' ∧ b'.kind = b.kind

theorem Keep.refl (H : Hp) (k : Nat) (G : GMap) (w : World) : Keep H k G w H k G w :=
  ⟨GLe.refl _, Nat.le_refl _, Nat.le_refl _, fun _ _ _ => rfl, fun _ _ _ => rfl, fun _ _ h => h, fun _ _ h _ => h, fun _ b h => ⟨b, h, rfl⟩⟩

end Go.Ab
