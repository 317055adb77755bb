/- Abstract states over the model, part 15: what a row's arguments hold, taken up as abstract values and blocks that are only read. No condition but that the types are plain; over any program. -/
import Derived.Test.YtlbcgadmcjobiaaDoorAb14
import Derived.OpenShut
import Derived.DataReads
set_option linter.unusedVariables false
set_option linter.unusedSimpArgs false
namespace Go.Ab
open Go.RowKit

/-- One type's cells, or several types' cells, one behind the other. -/
inductive Kd where
  | one (t : TypeId)
  | many (ts : List TypeId)

/-- Cells of a type (or of types) over an abstract heap: what is pointed at is only read. -/
inductive AD (P : Program) (H : Hp) : Kd → List Value → Prop
  | bool {t : TypeId} {b : Bool} (ht : P.underlying t = some .bool) : AD P H (.one t) [.bool b]
  | int {t : TypeId} {k : IntKind} {n : Int} (ht : P.underlying t = some (.int k)) (hw : (Lit.int k n).wf = true) : AD P H (.one t) [.int k n]
  | str {t : TypeId} {s : ByteArray} (ht : P.underlying t = some .string) (hs : s.size ≤ maxLen) : AD P H (.one t) [.string s]
  | nilPtr {t e : TypeId} (ht : P.underlying t = some (.pointer e)) : AD P H (.one t) [.pointer none]
  | ptr {t e : TypeId} {n : Nat} {cs : List Value} (ht : P.underlying t = some (.pointer e)) (hn : H n = some ⟨cs, e, .ro, 1⟩) (hl : cs.length = P.cellsOf e) (h : AD P H (.one e) cs) :
      AD P H (.one t) [.pointer (some ⟨n, 0, none⟩)]
  | nilSlc {t e : TypeId} (ht : P.underlying t = some (.slice e)) : AD P H (.one t) [.slice none 0 0]
  | slc0 {t e : TypeId} {n c : Nat} (ht : P.underlying t = some (.slice e)) (hm : c ≤ maxLen) : AD P H (.one t) [.slice (some ⟨n, 0, none⟩) 0 c]
  | slc {t e : TypeId} {n l c : Nat} {cs : List Value} (ht : P.underlying t = some (.slice e)) (hn : H n = some ⟨cs, e, .ro, 1⟩) (hl : cs.length = l * P.cellsOf e) (h0 : 0 < l) (hc : l ≤ c) (hm : c ≤ maxLen)
      (h : AD P H (.many (List.replicate l e)) cs) : AD P H (.one t) [.slice (some ⟨n, 0, none⟩) l c]
  | struct {t : TypeId} {fs : Array Field} {cs : List Value} (ht : P.underlying t = some (.struct fs)) (hl : cs.length = P.cellsOf t) (h : AD P H (.many (fs.toList.map (·.type))) cs) : AD P H (.one t) cs
  | array {t e : TypeId} {n : Nat} {cs : List Value} (ht : P.underlying t = some (.array n e)) (hl : cs.length = P.cellsOf t) (h : AD P H (.many (List.replicate n e)) cs) : AD P H (.one t) cs
  | nil : AD P H (.many []) []
  | cons {t : TypeId} {ts : List TypeId} {a b : List Value} (ha : AD P H (.one t) a) (hl : a.length = P.cellsOf t) (hb : AD P H (.many ts) b) : AD P H (.many (t :: ts)) (a ++ b)

theorem AD.mono {P : Program} {H H' : Hp} (hs : Sub H H') {kd : Kd} {cs : List Value} (h : AD P H kd cs) : AD P H' kd cs := by
  induction h with
  | bool ht => exact .bool ht
  | int ht hw => exact .int ht hw
  | str ht hw => exact .str ht hw
  | nilPtr ht => exact .nilPtr ht
  | ptr ht hn hl _ ih => exact .ptr ht (hs _ _ hn) hl ih
  | nilSlc ht => exact .nilSlc ht
  | slc0 ht hm => exact .slc0 ht hm
  | slc ht hn hl h0 hc hm _ ih => exact .slc ht (hs _ _ hn) hl h0 hc hm ih
  | struct ht hl _ ih => exact .struct ht hl ih
  | array ht hl _ ih => exact .array ht hl ih
  | nil => exact .nil
  | cons _ hl _ iha ihb => exact .cons iha hl ihb

theorem AD.snoc {P : Program} {H : Hp} {t : TypeId} {a : List Value} (ha : AD P H (.one t) a) (hl : a.length = P.cellsOf t) : ∀ {ts : List TypeId} {b : List Value}, AD P H (.many ts) b → AD P H (.many (ts ++ [t])) (b ++ a)
  | [], _, h => by
    cases h
    have := AD.cons ha hl AD.nil
    simpa using this
  | t' :: ts, _, h => by
    cases h with
    | @cons _ _ a' b' ha' hl' hb' =>
      rw [List.append_assoc]
      exact .cons ha' hl' (AD.snoc ha hl hb')

/-- Cells, one by one. -/
def LRel (G : GMap) (cs cs' : List Value) : Prop := cs.length = cs'.length ∧ ∀ (i : Nat) (v v' : Value), cs[i]? = some v → cs'[i]? = some v' → VRel G v v'

theorem LRel.mono {G G' : GMap} (hG : GLe G G') {cs cs' : List Value} (h : LRel G cs cs') : LRel G' cs cs' := ⟨h.1, fun i v v' h1 h2 => (h.2 i v v' h1 h2).mono hG⟩
theorem LRel.nil {G : GMap} : LRel G [] [] := ⟨rfl, fun i v v' h => by simp at h⟩
theorem LRel.single {G : GMap} {v v' : Value} (h : VRel G v v') : LRel G [v] [v'] := ⟨rfl, fun i u u' h1 h2 => by
  cases i with
  | zero => simp at h1 h2; subst h1; subst h2; exact h
  | succ i => simp at h1⟩
theorem LRel.append {G : GMap} {a a' b b' : List Value} (h : LRel G a a') (h' : LRel G b b') : LRel G (a ++ b) (a' ++ b') := by
  refine ⟨by simp [h.1, h'.1], fun i v v' h1 h2 => ?_⟩
  rcases Nat.lt_or_ge i a.length with hlt | hge
  · rw [List.getElem?_append_left hlt] at h1
    rw [List.getElem?_append_left (by rw [← h.1]; exact hlt)] at h2
    exact h.2 i v v' h1 h2
  · rw [List.getElem?_append_right hge] at h1
    rw [List.getElem?_append_right (by rw [← h.1]; exact hge), ← h.1] at h2
    exact h'.2 _ v v' h1 h2

theorem cell_lt {w : World} {a : Addr} {v : Value} (h : w.cell? a = some v) : a.block < w.heap.size := by
  rcases Nat.lt_or_ge a.block w.heap.size with hlt | hge
  · exact hlt
  · have h0 : w.heap[a.block]? = none := Array.getElem?_eq_none hge
    simp [World.cell?, h0] at h

section
variable {P : Program} {NG B : Nat} {w0 w : World} {G : GMap} {H : Hp} {k : Nat}

/-- A new name for an address of old, that nothing is known of, or a block that is only read. -/
theorem SRel.look (h : SRel NG B w0 G H k w) (a : Addr) (ob : Option Blk) (hb : ∀ b, ob = some b → b.kind = .ro ∧ a.block < B ∧ CRel (upd G k (.at a)) b.cells (fun j => w.cell? (a.add j)) b.cells.length) :
    SRel NG B w0 (upd G k (.at a)) (upd H k ob) (k + 1) w := by
  have hG := gle_upd (x := .at a) h
  refine h.update h.below h.base hG (Nat.le_succ _) (· = k) ?_ ?_ ?_ ?_
  · intro n hn
    exact ⟨upd_other _ _ hn, fun h0 => ⟨upd_other _ _ hn, fun y hy => rfl⟩⟩
  · rintro n c rfl hc
    rw [upd_same] at hc ⊢
    obtain ⟨h1, h2, h3⟩ := hb c hc
    unfold BRel
    rw [h1]
    exact ⟨a, rfl, h2, h3⟩
  · rintro n c rfl hc ho
    rw [upd_same] at hc
    have h1 := (hb c hc).1
    unfold Blk.own at ho
    rw [h1] at ho
    cases ho
  · intro n hn
    rw [upd_other _ _ (by omega), upd_other _ _ (by omega)]
    exact h.fresh n (by omega)

/-- The types that are taken up: plain ones, whose parts tile them. -/
def tiles (P : Program) : Nat → List Field → Nat → Bool
  | off, [], n => off == n
  | off, f :: fs, n => f.offset == off && tiles P (off + P.cellsOf f.type) fs n
def plainAt (P : Program) (T : List TypeId) (t : TypeId) : Bool :=
  match P.underlying t with
  | some .bool | some (.int _) | some .string => P.cellsOf t == 1
  | some (.pointer e) => P.cellsOf t == 1 && T.contains e && decide (0 < P.cellsOf e)
  | some (.slice e) => P.cellsOf t == 1 && T.contains e && decide (0 < P.cellsOf e)
  | some (.struct fs) => fs.toList.all (fun f => T.contains f.type) && tiles P 0 fs.toList (P.cellsOf t)
  | some (.array n e) => T.contains e && P.cellsOf t == n * P.cellsOf e
  | _ => false
def plains (P : Program) (T : List TypeId) : Bool := T.all (plainAt P T)

/-- Taken up: new names, the rest as it was. -/
def Took (P : Program) (NG B : Nat) (w0 w : World) (G : GMap) (H : Hp) (k : Nat) (kd : Kd) (cs : List Value) : Prop :=
  ∃ G' H' k' cs', SRel NG B w0 G' H' k' w ∧ GLe G G' ∧ Sub H H' ∧ k ≤ k' ∧ LRel G' cs' cs ∧ AD P H' kd cs'

theorem sub_look {ob : Option Blk} (h : SRel NG B w0 G H k w) : Sub H (upd H k ob) := fun n b hn => by
  have := name_lt h hn
  rw [upd_other _ _ (by omega)]
  exact hn
theorem sub_refl (H : Hp) : Sub H H := fun _ _ h => h
theorem sub_trans {a b c : Hp} (h : Sub a b) (k : Sub b c) : Sub a c := fun n x hn => k n x (h n x hn)

/-- Several, one behind the other, whose cells lie where f says. -/
theorem took_row {e : TypeId} {z : Nat} {f : Nat → Option Value} (hz : P.cellsOf e = z) : ∀ (l : Nat) (css : Nat → List Value),
    (∀ i, i < l → (css i).length = z ∧ (∀ j, j < z → f (i * z + j) = (css i)[j]?) ∧ ∀ G H k, SRel NG B w0 G H k w → Took P NG B w0 w G H k (.one e) (css i)) →
    ∀ G H k, SRel NG B w0 G H k w → ∃ G' H' k' cs', SRel NG B w0 G' H' k' w ∧ GLe G G' ∧ Sub H H' ∧ k ≤ k' ∧ cs'.length = l * z ∧ CRel G' cs' f cs'.length ∧ AD P H' (.many (List.replicate l e)) cs'
  | 0, css, h, G, H, k, hS => ⟨G, H, k, [], hS, GLe.refl _, sub_refl _, Nat.le_refl _, by simp, fun j v hj => by simp at hj, .nil⟩
  | l + 1, css, h, G, H, k, hS => by
    obtain ⟨G1, H1, k1, b, hS1, hG1, hH1, hk1, hl1, hc1, hA1⟩ := took_row hz l css (fun i hi => h i (by omega)) G H k hS
    obtain ⟨hlen, hf, ht⟩ := h l (by omega)
    obtain ⟨G2, H2, k2, a, hS2, hG2, hH2, hk2, hl2, hA2⟩ := ht G1 H1 k1 hS1
    have hal : a.length = z := by rw [hl2.1]; exact hlen
    refine ⟨G2, H2, k2, b ++ a, hS2, hG1.trans hG2, sub_trans hH1 hH2, Nat.le_trans hk1 hk2, by simp [hl1, hal, Nat.add_mul], ?_, ?_⟩
    · intro j v hj hv
      rcases Nat.lt_or_ge j b.length with hlt | hge
      · rw [List.getElem?_append_left hlt] at hv
        exact (hc1.mono hG2) j v hlt hv
      · rw [List.getElem?_append_right hge] at hv
        have hlt : j - b.length < a.length := (List.getElem?_eq_some_iff.1 hv).1
        have hjz : j - b.length < z := by omega
        have h' : (css l)[j - b.length]? = some ((css l)[j - b.length]'(by omega)) := List.getElem?_eq_getElem (by omega)
        refine ⟨_, ?_, hl2.2 _ v _ hv h'⟩
        rw [← h', ← hf _ hjz]
        congr 1
        omega
    · rw [List.replicate_succ']
      exact .snoc hA2 (by rw [hz]; exact hal) (hA1.mono hH2)

/-- Several pieces, one behind the other. -/
theorem took_many : ∀ (ps : List (TypeId × List Value)), (∀ p ∈ ps, p.2.length = P.cellsOf p.1 ∧ ∀ G H k, SRel NG B w0 G H k w → Took P NG B w0 w G H k (.one p.1) p.2) →
    ∀ G H k, SRel NG B w0 G H k w → Took P NG B w0 w G H k (.many (ps.map (·.1))) (ps.flatMap (·.2))
  | [], _, G, H, k, hS => ⟨G, H, k, [], hS, GLe.refl _, sub_refl _, Nat.le_refl _, LRel.nil, .nil⟩
  | p :: ps, h, G, H, k, hS => by
    obtain ⟨hlen, hp⟩ := h p (by simp)
    obtain ⟨G1, H1, k1, a, hS1, hG1, hH1, hk1, hl1, hA1⟩ := hp G H k hS
    obtain ⟨G2, H2, k2, b, hS2, hG2, hH2, hk2, hl2, hA2⟩ := took_many ps (fun q hq => h q (by simp [hq])) G1 H1 k1 hS1
    refine ⟨G2, H2, k2, a ++ b, hS2, hG1.trans hG2, sub_trans hH1 hH2, Nat.le_trans hk1 hk2, ?_, ?_⟩
    · rw [List.flatMap_cons]
      exact (hl1.mono hG2).append hl2
    · exact .cons (hA1.mono hH2) (by rw [hl1.1]; exact hlen) hA2

theorem tiles_flat (cs : List Value) : ∀ (fs : List Field) (off : Nat), tiles P off fs cs.length = true →
    (fs.map fun f => (f.type, (cs.drop f.offset).take (P.cellsOf f.type))).flatMap (·.2) = cs.drop off ∧ (∀ f ∈ fs, ((cs.drop f.offset).take (P.cellsOf f.type)).length = P.cellsOf f.type) ∧ off ≤ cs.length
  | [], off, h => by
    simp only [tiles, beq_iff_eq] at h
    subst h
    simp
  | f :: fs, off, h => by
    simp only [tiles, Bool.and_eq_true, beq_iff_eq] at h
    obtain ⟨ho, hr⟩ := h
    obtain ⟨h1, h2, h3⟩ := tiles_flat cs fs _ hr
    subst ho
    refine ⟨?_, ?_, by omega⟩
    · rw [List.map_cons, List.flatMap_cons, h1, ← List.drop_drop]
      exact List.take_append_drop _ _
    · intro g hg
      rcases List.mem_cons.1 hg with rfl | hg
      · rw [List.length_take, List.length_drop]
        omega
      · exact h2 g hg

theorem flat_replicate (cs : List Value) (e : TypeId) (z : Nat) : ∀ (n : Nat), n * z ≤ cs.length →
    ((List.range n).map fun i => (e, (cs.drop (i * z)).take z)).flatMap (·.2) = cs.take (n * z)
  | 0, _ => by simp
  | n + 1, h => by
    have hn : n * z + z ≤ cs.length := by rw [Nat.add_mul] at h; omega
    rw [List.range_succ, List.map_append, List.flatMap_append, flat_replicate cs e z n (by omega)]
    simp only [List.map_cons, List.map_nil, List.flatMap_cons, List.flatMap_nil, List.append_nil]
    rw [Nat.add_mul, Nat.one_mul, List.take_add]

variable {Hh : Type} {enc : TypeId × Value → Hh} {spare : Nat → Bool} {held : Bool}

theorem plainAt_of {T : List TypeId} (hT : plains P T = true) {t : TypeId} (h : T.contains t = true) : plainAt P T t = true :=
  List.all_eq_true.1 hT t (by simpa using h)

theorem took_trod {T : List TypeId} (hT : plains P T = true) (hB : w.heap.size ≤ B) : ∀ (fuel : Nat) (t : TypeId) (cs : List Value) (x : DataW Hh × List MemPlace), T.contains t = true → DataW.trod enc P w 0 spare held fuel t cs = some x →
    cs.length = P.cellsOf t ∧ ∀ G H k, SRel NG B w0 G H k w → Took P NG B w0 w G H k (.one t) cs
  | 0, t, cs, x, hc, h => by simp [DataW.trod] at h
  | fuel + 1, t, cs, x, hc, h => by
    have hp := plainAt_of hT hc
    unfold plainAt at hp
    split at hp
    · rename_i hu
      obtain ⟨b, rfl, _⟩ := DataW.trod_bool hu h
      refine ⟨by simpa using (beq_iff_eq.1 hp).symm, fun G H k hS => ?_⟩
      exact ⟨G, H, k, _, hS, GLe.refl _, sub_refl _, Nat.le_refl _, LRel.single (.plain rfl), .bool hu⟩
    · rename_i kk hu
      obtain ⟨n, rfl, _, hw⟩ := DataW.trod_int hu h
      refine ⟨by simpa using (beq_iff_eq.1 hp).symm, fun G H k hS => ?_⟩
      exact ⟨G, H, k, _, hS, GLe.refl _, sub_refl _, Nat.le_refl _, LRel.single (.plain rfl), .int hu hw⟩
    · rename_i hu
      obtain ⟨s, rfl, _, hw⟩ := DataW.trod_string hu h
      refine ⟨by simpa using (beq_iff_eq.1 hp).symm, fun G H k hS => ?_⟩
      exact ⟨G, H, k, _, hS, GLe.refl _, sub_refl _, Nat.le_refl _, LRel.single (.plain rfl), .str hu hw⟩
    · rename_i e hu
      simp only [Bool.and_eq_true, beq_iff_eq, decide_eq_true_eq] at hp
      obtain ⟨⟨hp1, hpe⟩, hpos⟩ := hp
      rcases DataW.trod_pointer hu h with ⟨rfl, _⟩ | ⟨a, cs', y, n, hf, rfl, _, hcells, hy⟩
      · refine ⟨by simpa using hp1.symm, fun G H k hS => ?_⟩
        exact ⟨G, H, k, _, hS, GLe.refl _, sub_refl _, Nat.le_refl _, LRel.single (.plain rfl), .nilPtr hu⟩
      · refine ⟨by simpa using hp1.symm, fun G H k hS => ?_⟩
        obtain rfl : fuel = n := by omega
        obtain ⟨hlen, ht⟩ := took_trod hT hB fuel e cs' y hpe hy
        obtain ⟨G1, H1, k1, c1, hS1, hG1, hH1, hk1, hl1, hA1⟩ := ht G H k hS
        obtain ⟨_, _, hcell⟩ := World.cells?_some hcells
        have hlt : a.block < B := by
          have h0 := hcell 0 hpos
          rw [List.getElem?_eq_getElem (by omega)] at h0
          have h1 := cell_lt h0
          rw [add_block] at h1
          omega
        have hG2 := gle_upd (x := .at a) hS1
        have hS2 := hS1.look a (some ⟨c1, e, .ro, 1⟩) (fun b hb => by
          injection hb with hb
          subst hb
          refine ⟨rfl, hlt, fun j v hj hv => ?_⟩
          have hj' : j < c1.length := hj
          have hj2 : j < cs'.length := by rw [← hl1.1]; exact hj'
          have h' : cs'[j]? = some cs'[j] := List.getElem?_eq_getElem hj2
          exact ⟨_, (hcell j (by omega)).trans h', (hl1.2 j v _ hv h').mono hG2⟩)
        refine ⟨_, _, _, [.pointer (some ⟨k1, 0, none⟩)], hS2, hG1.trans hG2, sub_trans hH1 (sub_look hS1), by omega, LRel.single ?_, ?_⟩
        · have := VRel.ptr (G := upd G1 k1 (.at a)) (n := k1) (off := 0) (base := a) (upd_same _ _ _)
          simpa [Addr.add] using this
        · exact .ptr hu (upd_same _ _ _) (by rw [hl1.1]; exact hlen) (hA1.mono (sub_look hS1))
    · rename_i e hu
      simp only [Bool.and_eq_true, beq_iff_eq, decide_eq_true_eq] at hp
      obtain ⟨⟨hp1, hpe⟩, hpos⟩ := hp
      rcases DataW.trod_slice hu h with ⟨rfl, _⟩ | ⟨a, len, cap, elems, rest, n, hf, rfl, _, _, hlc, hcm, hel, hcells, _⟩
      · refine ⟨by simpa using hp1.symm, fun G H k hS => ?_⟩
        exact ⟨G, H, k, _, hS, GLe.refl _, sub_refl _, Nat.le_refl _, LRel.single (.plain rfl), .nilSlc hu⟩
      · refine ⟨by simpa using hp1.symm, fun G H k hS => ?_⟩
        obtain rfl : fuel = n := by omega
        rcases Nat.eq_zero_or_pos len with h0 | h0
        · subst h0
          have hS2 := hS.look a none (fun b hb => by cases hb)
          refine ⟨_, _, _, [.slice (some ⟨k, 0, none⟩) 0 cap], hS2, gle_upd hS, sub_look hS, by omega, LRel.single ?_, .slc0 hu hcm⟩
          have := VRel.exact (G := upd G k (.at a)) (n := k) (off := 0) (l := 0) (c := cap) (base := a) (upd_same _ _ _)
          simpa [Addr.add] using this
        · have hi : ∀ i, i < len → ∃ cs, w.cells? 0 (a.add (i * P.cellsOf e)) (P.cellsOf e) = some cs ∧ ∃ y, DataW.trod enc P w 0 spare held fuel e cs = some y := by
            intro i hi
            have h1 := hcells i hi
            rw [List.getElem?_eq_getElem (by omega)] at h1
            obtain ⟨cs, h2, h3⟩ := Option.bind_eq_some_iff.1 h1
            exact ⟨cs, h2, _, h3⟩
          let css : Nat → List Value := fun i => (w.cells? 0 (a.add (i * P.cellsOf e)) (P.cellsOf e)).getD []
          have hall : ∀ i, i < len → (css i).length = P.cellsOf e ∧ (∀ j, j < P.cellsOf e → (fun j => w.cell? (a.add j)) (i * P.cellsOf e + j) = (css i)[j]?) ∧ ∀ G H k, SRel NG B w0 G H k w → Took P NG B w0 w G H k (.one e) (css i) := by
            intro i hi'
            obtain ⟨cs, h2, y, h3⟩ := hi i hi'
            have hcs : css i = cs := by show (w.cells? 0 (a.add (i * P.cellsOf e)) (P.cellsOf e)).getD [] = cs; rw [h2]; rfl
            rw [hcs]
            obtain ⟨_, hl', hcell⟩ := World.cells?_some h2
            refine ⟨hl', fun j hj => ?_, (took_trod hT hB fuel e cs y hpe h3).2⟩
            rw [← hcell j hj, add_add]
          obtain ⟨G1, H1, k1, c1, hS1, hG1, hH1, hk1, hl1, hc1, hA1⟩ := took_row (P := P) (e := e) (z := P.cellsOf e) (f := fun j => w.cell? (a.add j)) rfl len css hall G H k hS
          have hlt : a.block < B := by
            obtain ⟨h1, h2, _⟩ := hall 0 h0
            have h3 := h2 0 hpos
            rw [List.getElem?_eq_getElem (by omega)] at h3
            have h4 := cell_lt h3
            rw [add_block] at h4
            omega
          have hG2 := gle_upd (x := .at a) hS1
          have hS2 := hS1.look a (some ⟨c1, e, .ro, 1⟩) (fun b hb => by
            injection hb with hb
            subst hb
            exact ⟨rfl, hlt, hc1.mono hG2⟩)
          refine ⟨_, _, _, [.slice (some ⟨k1, 0, none⟩) len cap], hS2, hG1.trans hG2, sub_trans hH1 (sub_look hS1), by omega, LRel.single ?_, ?_⟩
          · have := VRel.exact (G := upd G1 k1 (.at a)) (n := k1) (off := 0) (l := len) (c := cap) (base := a) (upd_same _ _ _)
            simpa [Addr.add] using this
          · exact .slc hu (upd_same _ _ _) hl1 h0 hlc hcm (hA1.mono (sub_look hS1))
    · rename_i fs hu
      simp only [Bool.and_eq_true, List.all_eq_true] at hp
      obtain ⟨xs, n, hf, _, hlen, hxl, hx⟩ := DataW.trod_struct hu h
      obtain rfl : fuel = n := by omega
      refine ⟨hlen, fun G H k hS => ?_⟩
      have htl := hp.2
      rw [← hlen] at htl
      obtain ⟨h1, h2, _⟩ := tiles_flat cs fs.toList 0 htl
      have := took_many (P := P) (NG := NG) (B := B) (w0 := w0) (w := w) (fs.toList.map fun f => (f.type, (cs.drop f.offset).take (P.cellsOf f.type))) (fun p hp' => by
        obtain ⟨f, hf', rfl⟩ := List.mem_map.1 hp'
        obtain ⟨i, hi⟩ := List.getElem?_of_mem hf'
        have hxi := hx i f (by simpa using hi)
        have hil : i < xs.length := by
          have := (List.getElem?_eq_some_iff.1 hi).1
          rw [hxl]
          simpa using this
        rw [List.getElem?_eq_getElem hil] at hxi
        exact took_trod hT hB fuel f.type _ _ (hp.1 f hf') hxi) G H k hS
      rw [h1, List.drop_zero, List.map_map] at this
      obtain ⟨G1, H1, k1, c1, a1, a2, a3, a4, a5, a6⟩ := this
      exact ⟨G1, H1, k1, c1, a1, a2, a3, a4, a5, .struct hu (by rw [a5.1]; exact hlen) a6⟩
    · rename_i m e hu
      simp only [Bool.and_eq_true, beq_iff_eq] at hp
      obtain ⟨xs, n, hf, _, hlen, hxl, hx⟩ := DataW.trod_array hu h
      obtain rfl : fuel = n := by omega
      refine ⟨hlen, fun G H k hS => ?_⟩
      have hfl := flat_replicate cs e (P.cellsOf e) m (by rw [hlen, hp.2]; exact Nat.le_refl _)
      have hlm : m * P.cellsOf e = cs.length := by rw [hlen, hp.2]
      have := took_many (P := P) (NG := NG) (B := B) (w0 := w0) (w := w) ((List.range m).map fun i => (e, (cs.drop (i * P.cellsOf e)).take (P.cellsOf e))) (fun p hp' => by
        obtain ⟨i, hi, rfl⟩ := List.mem_map.1 hp'
        have him : i < m := by simpa using hi
        have hxi := hx i him
        rw [List.getElem?_eq_getElem (by omega)] at hxi
        exact took_trod hT hB fuel e _ _ hp.1 hxi) G H k hS
      rw [hfl, hlm, List.take_length, List.map_map] at this
      have hr : (List.range m).map ((fun x : TypeId × List Value => x.1) ∘ fun i => (e, (cs.drop (i * P.cellsOf e)).take (P.cellsOf e))) = List.replicate m e := by
        rw [show ((fun x : TypeId × List Value => x.1) ∘ fun i => (e, (cs.drop (i * P.cellsOf e)).take (P.cellsOf e))) = fun _ => e from rfl]
        simp [List.map_const']
      rw [hr] at this
      obtain ⟨G1, H1, k1, c1, a1, a2, a3, a4, a5, a6⟩ := this
      exact ⟨G1, H1, k1, c1, a1, a2, a3, a4, a5, .array hu (by rw [a5.1]; exact hlen) a6⟩
    · cases hp
end
end Go.Ab
