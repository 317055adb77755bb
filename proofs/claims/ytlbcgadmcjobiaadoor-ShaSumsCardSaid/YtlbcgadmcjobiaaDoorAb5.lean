/- Abstract states over the model, part 5: operations that make or write memory; calls. No condition; over any program. -/
import Derived.Test.YtlbcgadmcjobiaaDoorAb4
import Derived.Deep.AppendSrc
import Derived.Laws.IdiomCopy
set_option linter.unusedVariables false
set_option linter.unusedSimpArgs false
namespace Go.Ab
open Go.RowKit

section
variable {P : Program} {NG N B : Nat} {w0 w : World} {G : GMap} {H : Hp} {k : Nat}

theorem gle_upd {x : GB} (h : SRel NG B w0 G H k w) : GLe G (upd G k x) := by
  intro n
  by_cases hn : n = k
  · subst hn
    rw [(h.fresh n (Nat.le_refl _)).2]
    trivial
  · rw [upd_other _ _ hn]
    exact GB.le_refl _

theorem name_lt {n : Nat} {b : Blk} (h : SRel NG B w0 G H k w) (hn : H n = some b) : n < k := by
  rcases Nat.lt_or_ge n k with hlt | hge
  · exact hlt
  · rw [(h.fresh n hge).1] at hn; cases hn

/-- The blocks of a name lie in the heap. -/
theorem blocks_lt {n x : Nat} {b : Blk} (h : SRel NG B w0 G H k w) (hn : H n = some b) (hx : x ∈ (G n).blocks) : x < w.heap.size := by
  by_cases ho : b.own = true
  · exact ((h.blk n b hn).own_lt ho hx).2
  · exact Nat.lt_of_lt_of_le ((h.blk n b hn).ro_lt (by simpa using ho) hx) h.base

/-- A new block under a new name. -/
theorem SRel.new (h : SRel NG B w0 G H k w) (b : Blk) (x : GB) (o : Obj) (hb : BRel B (upd G k x) (w.alloc o) x b) (hx : ∀ y, y ∈ x.blocks → y = w.heap.size) :
    SRel NG B w0 (upd G k x) (upd H k (some b)) (k + 1) (w.alloc o) ∧ Keep H k G w (upd H k (some b)) (k + 1) (upd G k x) (w.alloc o) := by
  have hG := gle_upd (x := x) h
  refine ⟨h.update (h.below.alloc h.base o) (Nat.le_trans h.base (by simp)) hG (Nat.le_succ _) (· = k) ?_ ?_ ?_ ?_, hG, Nat.le_succ _, by simp, ?_, ?_, ?_, ?_, ?_⟩
  · intro n hn
    refine ⟨upd_other _ _ hn, fun h0 => ⟨upd_other _ _ hn, fun y hy => ?_⟩⟩
    cases hbn : H n with
    | none => exact absurd hbn h0
    | some c => exact Below.heap_alloc _ _ _ (blocks_lt h hbn hy)
  · rintro n c rfl hc
    rw [upd_same] at hc ⊢
    injection hc with hc
    subst hc
    exact hb
  · rintro n c rfl hc ho m d hm hd ho' y hy hy'
    rw [upd_same] at hy
    rw [upd_other _ _ hm] at hd hy'
    have h1 := blocks_lt h hd hy'
    have h2 := hx y hy
    omega
  · intro n hn
    rw [upd_other _ _ (by omega), upd_other _ _ (by omega)]
    exact h.fresh n (by omega)
  · intro y hy _
    exact Below.heap_alloc _ _ _ hy
  · intro n hn _
    exact upd_other _ _ (by omega)
  · intro n hn h0
    rw [upd_other _ _ (by omega)]
    exact h0
  · intro n y hy hlt
    by_cases hn : n = k
    · subst hn
      rw [upd_same] at hy
      have := hx y hy
      omega
    · rw [upd_other _ _ hn] at hy
      exact hy
  · intro n c hc
    have := name_lt h hc
    exact ⟨c, by rw [upd_other _ _ (by omega)]; exact hc, rfl⟩

theorem rblk_new (w : World) (cs : Array Value) (e : TypeId) (fz : Nat × Nat) (hf : thawed fz cs.size) : RBlk (w.alloc (.cells cs e fz)) w.heap.size cs e :=
  ⟨fz, by show (w.heap.push _)[w.heap.size]? = _; simp, hf⟩

theorem thawed_zero (n : Nat) : thawed (0, 0) n := ⟨Nat.le_refl _, fun j hj => by simp⟩

theorem SRel.newFix (h : SRel NG B w0 G H k w) (cells : List Value) (cs : Array Value) (e : TypeId) (fz : Nat × Nat) (hf : thawed fz cs.size) (hl : cells.length ≤ cs.size) (hc : CRel G cells (fun j => cs[j]?) cells.length) :
    SRel NG B w0 (upd G k (.at ⟨w.heap.size, 0, none⟩)) (upd H k (some { cells := cells, elem := e, kind := .fix })) (k + 1) (w.alloc (.cells cs e fz)) ∧
    Keep H k G w (upd H k (some { cells := cells, elem := e, kind := .fix })) (k + 1) (upd G k (.at ⟨w.heap.size, 0, none⟩)) (w.alloc (.cells cs e fz)) :=
  h.new _ _ _ (by
    unfold BRel
    exact ⟨w.heap.size, cs, rfl, h.base, rblk_new w cs e fz hf, hl, hc.mono (gle_upd h)⟩) (by simp [GB.blocks])

/-! ### Stores -/
def putL (cs : List Value) (off : Nat) (xs : List Value) : List Value := cs.take off ++ xs ++ cs.drop (off + xs.length)

theorem putL_length {cs xs : List Value} {off : Nat} (h : off + xs.length ≤ cs.length) : (putL cs off xs).length = cs.length := by
  simp [putL]; omega
theorem putL_get {cs xs : List Value} {off : Nat} (h : off + xs.length ≤ cs.length) (j : Nat) : (putL cs off xs)[j]? = if off ≤ j ∧ j < off + xs.length then xs[j - off]? else cs[j]? := by
  unfold putL
  by_cases h1 : j < off
  · rw [if_neg (by omega), List.append_assoc, List.getElem?_append_left (by simp; omega), List.getElem?_take, if_pos h1]
  · by_cases h2 : j < off + xs.length
    · rw [if_pos ⟨by omega, h2⟩, List.getElem?_append_left (by simp; omega), List.getElem?_append_right (by simp; omega)]
      congr 1
      simp
      omega
    · rw [if_neg (by omega), List.getElem?_append_right (by simp; omega), List.getElem?_drop]
      congr 1
      simp
      omega

theorem setCells_facts (g : Nat) (e : TypeId) : ∀ (vs : List Value) (off : Nat) (w : World) (cs : Array Value), RBlk w g cs e → off + vs.length ≤ cs.size →
    ∃ cs2, RBlk (w.setCells g off vs) g cs2 e ∧ cs2.size = cs.size ∧ (∀ j : Nat, cs2[j]? = if off ≤ j ∧ j < off + vs.length then vs[j - off]? else cs[j]?)
  | [], off, w, cs, h, _ => ⟨cs, h, rfl, fun j => by rw [if_neg (by simp)]⟩
  | v :: r, off, w, cs, h, hl => by
    have h1 : RBlk (w.setCell ⟨g, off, none⟩ v) g (cs.setIfInBounds off v) e := by
      obtain ⟨fz, h, ht⟩ := h
      refine ⟨fz, ?_, by simpa using ht⟩
      simp [World.setCell, Array.getElem?_modify, h]
    obtain ⟨cs2, h2, h3, h4⟩ := setCells_facts g e r (off + 1) (w.setCell ⟨g, off, none⟩ v) (cs.setIfInBounds off v) h1 (by simp at hl ⊢; omega)
    refine ⟨cs2, h2, by simpa using h3, fun j => ?_⟩
    rw [h4]
    simp only [List.length_cons] at hl ⊢
    by_cases hj : off + 1 ≤ j ∧ j < off + 1 + r.length
    · rw [if_pos hj, if_pos (by omega), show j - off = (j - (off + 1)) + 1 by omega, List.getElem?_cons_succ]
    · rw [if_neg hj]
      by_cases he : j = off
      · subst he
        have hj0 : j < cs.size := by omega
        rw [if_pos (by omega), Nat.sub_self]
        simp [hj0]
      · rw [if_neg (by omega), Array.getElem?_setIfInBounds_ne (by omega)]

theorem setCells_other (g : Nat) : ∀ (vs : List Value) (off : Nat) (w : World) (x : Nat), x ≠ g → (w.setCells g off vs).heap[x]? = w.heap[x]?
  | [], _, _, _, _ => rfl
  | v :: r, off, w, x, h => by rw [World.setCells, setCells_other g r (off + 1) _ x h, Below.heap_setCell _ _ _ _ h]

theorem setCells_size (g : Nat) : ∀ (vs : List Value) (off : Nat) (w : World), (w.setCells g off vs).heap.size = w.heap.size
  | [], _, _ => rfl
  | v :: r, off, w => by rw [World.setCells, setCells_size g r]; simp [World.setCell]

theorem setCells_below (g : Nat) (hg : B ≤ g) : ∀ (vs : List Value) (off : Nat) (w : World), Below B w0 w → Below B w0 (w.setCells g off vs)
  | [], _, _, h => h
  | v :: r, off, w, h => setCells_below g hg r (off + 1) _ (h.setCell (p := ⟨g, off, none⟩) hg v)

theorem run_storeCells_rblk {e : TypeId} {cs : Array Value} {g off : Nat} (h : RBlk w g cs e) (vs : List Value) (hl : off + vs.length ≤ cs.size) (h1 : ∀ v ∈ vs, v.oneCell' = true) :
    (storeCells ⟨g, off, none⟩ vs).run P w = .ok () (w.setCells g off vs) := by
  have := run_storeCells_cells (P := P) g off vs 0 w (fun j hj => by rw [h.cell]; simp; omega) (fun j hj => h.thaw _ (by omega)) h1
  simpa using this

/-- A store into a block of the call's own. -/
theorem SRel.put (h : SRel NG B w0 G H k w) {n off : Nat} {b : Blk} {base : Addr} (hn : H n = some b) (hk : b.kind = .fix) (hg : G n = .at base) {vs vs' : List Value} (hl : off + vs.length ≤ b.cells.length)
    (hlen : vs.length = vs'.length) (hv : ∀ (j : Nat) (v : Value), vs[j]? = some v → ∃ v', vs'[j]? = some v' ∧ VRel G v v') (h1 : ∀ v ∈ vs', v.oneCell' = true) :
    ∃ w', (storeCells (base.add off) vs').run P w = .ok () w' ∧ SRel NG B w0 G (upd H n (some { b with cells := putL b.cells off vs })) k w' ∧ Keep H k G w (upd H n (some { b with cells := putL b.cells off vs })) k G w' := by
  have hb := h.blk n b hn
  unfold BRel at hb
  simp only [hk] at hb
  obtain ⟨blk, cs, e, hB, hr, hcl, hc⟩ := hb
  rw [hg] at e
  injection e with e
  subst e
  refine ⟨w.setCells blk off vs', ?_, ?_, ?_⟩
  · rw [add_plain, Nat.zero_add]
    exact run_storeCells_rblk hr vs' (by omega) h1
  · refine h.update (setCells_below blk hB vs' off w h.below) (by rw [setCells_size]; exact h.base) (GLe.refl _) (Nat.le_refl _) (· = n) ?_ ?_ ?_ ?_
    · intro m hm
      refine ⟨upd_other _ _ hm, fun h0 => ⟨rfl, fun x hx => ?_⟩⟩
      refine setCells_other blk _ _ _ _ ?_
      rintro rfl
      cases hbm : H m with
      | none => exact h0 hbm
      | some c =>
        by_cases ho : c.own = true
        · exact h.sep m n c b hbm hn ho (by simp [Blk.own, hk]) hm x hx (by rw [hg]; simp [GB.blocks])
        · have := (h.blk m c hbm).ro_lt (by simpa using ho) hx
          omega
    · rintro m c rfl hc'
      rw [upd_same] at hc'
      injection hc' with hc'
      subst hc'
      obtain ⟨cs2, h2, h3, h4⟩ := setCells_facts blk b.elem vs' off w cs hr (by omega)
      unfold BRel
      simp only [hk]
      refine ⟨blk, cs2, hg, hB, h2, by rw [putL_length hl]; omega, fun j v hj hvj => ?_⟩
      rw [putL_get hl] at hvj
      show ∃ v', cs2[j]? = some v' ∧ _
      rw [h4]
      by_cases hin : off ≤ j ∧ j < off + vs.length
      · rw [if_pos hin] at hvj
        rw [if_pos (by omega)]
        exact hv _ _ hvj
      · rw [if_neg hin] at hvj
        rw [if_neg (by omega)]
        rw [putL_length hl] at hj
        exact hc j v hj hvj
    · rintro m c rfl hc' ho q d hq hd ho' x hx
      rw [upd_other _ _ hq] at hd
      exact h.sep m q b d hn hd (by simp [Blk.own, hk]) ho' (Ne.symm hq) x hx
    · intro m hm
      have := name_lt h hn
      rw [upd_other _ _ (by omega)]
      exact h.fresh m hm
  · have hlt := name_lt h hn
    refine ⟨GLe.refl _, Nat.le_refl _, by rw [setCells_size]; exact Nat.le_refl _, fun x hx ho => ?_, fun _ _ _ => rfl, fun m hm h0 => ?_, fun _ _ hx _ => hx, fun m c hc' => ?_⟩
    · refine setCells_other blk _ _ _ _ ?_
      rintro rfl
      exact ho n b hn (by simp [Blk.own, hk]) (by rw [hg]; simp [GB.blocks])
    · have hne : m ≠ n := by rintro rfl; rw [hn] at h0; cases h0
      rw [upd_other _ _ hne]
      exact h0
    · by_cases hm : m = n
      · subst hm
        rw [hn] at hc'
        injection hc' with hc'
        subst hc'
        exact ⟨_, upd_same _ _ _, rfl⟩
      · exact ⟨c, by rw [upd_other _ _ hm]; exact hc', rfl⟩
end

section
variable {P : Program} {NG : Nat} {s : St} {R : Value → Hp → Nat → Prop} {o : Oper}

theorem Oper.wp_val {a : Act} {w w' : World} {v : Value} {next : Act → World → Prop} {Q : Exit → Act → World → Prop} (hr : (execOp a.eval o).run P w = .ok (.value v) w') (h : next (a.put o.dst v) w') : o.wp P a w next Q := by
  unfold Oper.wp
  rw [hr]
  exact h

theorem AOp.store {t : TypeId} {x y : Operand} {n off z : Nat} {b : Blk} {v : Value} (ho : o.op = .store t x y) (hz : sizeB P t = some z) (hx : aeval NG s.fr x = some (.pointer (some ⟨n, off, none⟩)))
    (hy : aeval NG s.fr y = some v) (hn : s.H n = some b) (hk : b.kind = .fix) (hvz : v.cells.size = z) (h1 : v.cells.all (·.oneCell') = true) (hl : off + z ≤ b.cells.length)
    (hR : R undef (upd s.H n (some { b with cells := putL b.cells off v.cells.toList })) s.k) : AOp P NG o s R := by
  intro N B w0 G a w hs next Q hn'
  have hp := aeval_rel hs hx
  have hv := aeval_rel hs hy
  obtain ⟨hc1, hc2⟩ := hv.cells
  generalize hpv : a.eval x = p at hp
  cases hp with
  | plain h => simp [isPlain] at h
  | @ptr _ _ base hg =>
    obtain ⟨w', hr, hS', hK⟩ := hs.S.put (P := P) (vs := v.cells.toList) (vs' := (a.eval y).cells.toList) hn hk hg (by simpa [hvz] using hl) (by simpa using hc1) (by simpa using hc2) (by
      intro u hu
      obtain ⟨i, hi⟩ := List.mem_iff_getElem?.1 hu
      have hi' : (a.eval y).cells[i]? = some u := by simpa using hi
      have hlt : i < v.cells.size := by rw [hc1]; exact (Array.getElem?_eq_some_iff.1 hi').1
      obtain ⟨u', h2, h3⟩ := hc2 i _ (Array.getElem?_eq_getElem hlt)
      rw [hi'] at h2
      injection h2 with h2
      subst h2
      rw [h3.oneCell]
      exact all_at h1 (Array.getElem?_eq_getElem hlt))
    unfold Oper.wp
    have hrun : (execOp a.eval o).run P w = .ok .skip w' := by
      simp only [execOp, ho, hpv]
      rw [Sem.run_bind]
      have : (Instr.storeAt t (.pointer (some (base.add off))) (a.eval y)).run P w = .ok () w' := by
        unfold Instr.storeAt Instr.sureAddr
        rw [Sem.run_bind]
        simp only [Sem.run_pure, Result.andThen_ok]
        unfold storeVar
        rw [Sem.run_bind, run_sizeOf hz]
        simp only [Result.andThen_ok]
        rw [← hc1, hvz, if_neg (by simp)]
        simpa using hr
      rw [this]
      rfl
    rw [hrun]
    exact hn' undef undef _ _ G w' hR undef_rel hS' hK

theorem crel_cells {G : GMap} {v v' : Value} (hv : VRel G v v') : v.cells.toList.length ≤ v'.cells.size ∧ CRel G v.cells.toList (fun j => v'.cells[j]?) v.cells.toList.length := by
  obtain ⟨hc1, hc2⟩ := hv.cells
  exact ⟨by simp [hc1], fun j u _ hu => hc2 j u (by simpa using hu)⟩

theorem AOp.box {e : TypeId} {x : Operand} {v : Value} (ho : o.op = .box e x) (hx : aeval NG s.fr x = some v)
    (hR : R (.pointer (some ⟨s.k, 0, none⟩)) (upd s.H s.k (some { cells := v.cells.toList, elem := e, kind := .fix })) (s.k + 1)) : AOp P NG o s R := by
  intro N B w0 G a w hs next Q hn
  obtain ⟨h1, h2⟩ := crel_cells (aeval_rel hs hx)
  obtain ⟨h3, h4⟩ := hs.S.newFix v.cells.toList (a.eval x).cells e (0, 0) (thawed_zero _) h1 h2
  refine Oper.wp_val (w' := w.alloc (.cells (a.eval x).cells e (0, 0))) (v := .pointer (some ⟨w.heap.size, 0, none⟩)) ?_ (hn _ _ _ _ _ _ hR ?_ h3 h4)
  · simp only [execOp, ho]
    rfl
  · have := VRel.ptr (G := upd G s.k (.at ⟨w.heap.size, 0, none⟩)) (n := s.k) (off := 0) (upd_same _ _ _)
    exact this

def zeroB (P : Program) (e : TypeId) : Option Value := (P.info? e).bind (·.zero)
theorem run_zeroValue {w : World} {e : TypeId} {z : Value} (h : zeroB P e = some z) : (zeroValue e).run P w = .ok z w := by
  unfold zeroB at h
  cases hi : P.info? e with
  | none => simp [hi] at h
  | some i =>
    simp [hi] at h
    simp [zeroValue, typeInfo, hi, h]

theorem selfRel_cells {v : Value} (h : v.cells.all isPlain = true) (G : GMap) : CRel G v.cells.toList (fun j => v.cells[j]?) v.cells.toList.length :=
  fun j u _ hu => by
    have hu' : v.cells[j]? = some u := by simpa using hu
    exact ⟨u, hu', .plain (all_at h hu')⟩

theorem AOp.alloc {e : TypeId} {z : Value} (ho : o.op = .alloc e) (hz : zeroB P e = some z) (hp : z.cells.all isPlain = true)
    (hR : R (.pointer (some ⟨s.k, 0, none⟩)) (upd s.H s.k (some { cells := z.cells.toList, elem := e, kind := .fix })) (s.k + 1)) : AOp P NG o s R := by
  intro N B w0 G a w hs next Q hn
  obtain ⟨h3, h4⟩ := hs.S.newFix z.cells.toList z.cells e (0, 0) (thawed_zero _) (by simp) (selfRel_cells hp G)
  refine Oper.wp_val (w' := w.alloc (.cells z.cells e (0, 0))) (v := .pointer (some ⟨w.heap.size, 0, none⟩)) ?_ (hn _ _ _ _ _ _ hR ?_ h3 h4)
  · simp only [execOp, ho]
    rw [Sem.run_bind]
    have : (Instr.alloc e true (.tuple #[])).run P w = .ok (.pointer (some ⟨w.heap.size, 0, none⟩)) (w.alloc (.cells z.cells e (0, 0))) := by
      unfold Instr.alloc
      rw [Sem.run_bind, run_zeroValue hz]
      rfl
    rw [this]
    rfl
  · have := VRel.ptr (G := upd G s.k (.at ⟨w.heap.size, 0, none⟩)) (n := s.k) (off := 0) (upd_same _ _ _)
    exact this

/-! ### Literals -/
theorem foldl_rel {G : GMap} (off : Nat) : ∀ (l l' : List (Value × Nat)) (cs cs' : Array Value), l.length = l'.length → (∀ (i : Nat) (p p' : Value × Nat), l[i]? = some p → l'[i]? = some p' → p.2 = p'.2 ∧ VRel G p.1 p'.1) → cs.size = cs'.size →
    (∀ (i : Nat) (x x' : Value), cs[i]? = some x → cs'[i]? = some x' → VRel G x x') →
    (l.foldl (fun cs (c, j) => cs.setIfInBounds (off + j) c) cs).size = (l'.foldl (fun cs (c, j) => cs.setIfInBounds (off + j) c) cs').size ∧
    (l.foldl (fun cs (c, j) => cs.setIfInBounds (off + j) c) cs).size = cs.size ∧
    ∀ (i : Nat) (x x' : Value), (l.foldl (fun cs (c, j) => cs.setIfInBounds (off + j) c) cs)[i]? = some x → (l'.foldl (fun cs (c, j) => cs.setIfInBounds (off + j) c) cs')[i]? = some x' → VRel G x x'
  | [], [], cs, cs', _, _, hs, hc => ⟨hs, rfl, hc⟩
  | p :: l, p' :: l', cs, cs', hl, h, hs, hc => by
    obtain ⟨e1, e2⟩ := h 0 p p' rfl rfl
    obtain ⟨c, j⟩ := p
    obtain ⟨c', j'⟩ := p'
    simp only at e1 e2
    subst e1
    have := foldl_rel off l l' (cs.setIfInBounds (off + j) c) (cs'.setIfInBounds (off + j) c') (by simpa using hl) (fun i q q' hq hq' => h (i + 1) q q' (by simpa using hq) (by simpa using hq')) (by simpa using hs) (by
      intro i x x' hx hx'
      by_cases hi : off + j = i
      · subst hi
        rw [Array.getElem?_setIfInBounds_self] at hx hx'
        split at hx
        · split at hx'
          · injection hx with hx
            injection hx' with hx'
            subst hx
            subst hx'
            exact e2
          · cases hx'
        · cases hx
      · rw [Array.getElem?_setIfInBounds_ne hi] at hx hx'
        exact hc i x x' hx hx')
    obtain ⟨r1, r2, r3⟩ := this
    exact ⟨r1, by rw [List.foldl_cons, r2]; simp, r3⟩

theorem fill_rel {G : GMap} (place : Nat → Option (Nat × Nat)) : ∀ (ps ps' : List (Nat × Value)) (cs cs' : Array Value), ps.length = ps'.length → (∀ (i : Nat) (p p' : Nat × Value), ps[i]? = some p → ps'[i]? = some p' → p.1 = p'.1 ∧ VRel G p.2 p'.2) → cs.size = cs'.size →
    (∀ (i : Nat) (x x' : Value), cs[i]? = some x → cs'[i]? = some x' → VRel G x x') → ∀ r, Instr.fill place cs ps = some r →
    ∃ r', Instr.fill place cs' ps' = some r' ∧ r.size = r'.size ∧ ∀ (i : Nat) (x x' : Value), r[i]? = some x → r'[i]? = some x' → VRel G x x'
  | [], [], cs, cs', _, _, hs, hc, r, hr => by
    injection hr with hr
    subst hr
    exact ⟨cs', rfl, hs, hc⟩
  | (i, v) :: ps, (i', v') :: ps', cs, cs', hl, h, hs, hc, r, hr => by
    obtain ⟨e1, e2⟩ := h 0 _ _ rfl rfl
    simp only at e1 e2
    subst e1
    simp only [Instr.fill] at hr ⊢
    cases hp : place i with
    | none => simp [hp] at hr
    | some q =>
      obtain ⟨off, size⟩ := q
      simp only [hp] at hr ⊢
      obtain ⟨c1, c2⟩ := e2.cells
      rw [← c1, ← hs]
      split at hr
      · cases hr
      · rename_i hok
        rw [if_neg hok]
        rw [← Array.foldl_toList] at hr ⊢
        obtain ⟨f1, f2, f3⟩ := foldl_rel (G := G) off v.cells.zipIdx.toList v'.cells.zipIdx.toList cs cs' (by simp [c1]) (by
          intro j p p' hp1 hp2
          have g1 : v.cells.zipIdx[j]? = some p := by simpa using hp1
          have g2 : v'.cells.zipIdx[j]? = some p' := by simpa using hp2
          rw [Array.getElem?_zipIdx] at g1 g2
          cases k1 : v.cells[j]? with
          | none => simp [k1] at g1
          | some u =>
            obtain ⟨u', k2, k3⟩ := c2 j u k1
            simp [k1] at g1
            simp [k2] at g2
            subst g1
            subst g2
            exact ⟨rfl, k3⟩) hs hc
        exact fill_rel place ps ps' _ _ (by simpa using hl) (fun j p p' h1 h2 => h (j + 1) p p' (by simpa using h1) (by simpa using h2)) f1 f3 r hr

def aparts (NG : Nat) (fr : Fr) (ps : Array (Nat × Operand)) : Option (List (Nat × Value)) := ps.toList.mapM fun p => (aeval NG fr p.2).map fun v => (p.1, v)

theorem aparts_rel {N B : Nat} {w0 w : World} {G : GMap} {a : Act} (hs : StRel NG N B w0 G s a w) : ∀ (l : List (Nat × Operand)) (vs : List (Nat × Value)), (l.mapM fun p => (aeval NG s.fr p.2).map fun v => (p.1, v)) = some vs →
    vs.length = (l.map fun p => (p.1, a.eval p.2)).length ∧ ∀ (i : Nat) (p p' : Nat × Value), vs[i]? = some p → (l.map fun p => (p.1, a.eval p.2))[i]? = some p' → p.1 = p'.1 ∧ VRel G p.2 p'.2
  | [], vs, h => by injection h with h; subst h; exact ⟨rfl, fun i p p' hp => by simp at hp⟩
  | q :: l, vs, h => by
    simp only [List.mapM_cons] at h
    cases h1 : aeval NG s.fr q.2 with
    | none => simp [h1] at h
    | some v =>
      cases h2 : (l.mapM fun p => (aeval NG s.fr p.2).map fun v => (p.1, v)) with
      | none => simp [h1, h2] at h
      | some ys =>
        simp [h1, h2] at h
        subst h
        obtain ⟨e1, e2⟩ := aparts_rel hs l ys h2
        refine ⟨by simpa using e1, fun i p p' hp hp' => ?_⟩
        cases i with
        | zero => simp at hp hp'; subst hp; subst hp'; exact ⟨rfl, aeval_rel hs h1⟩
        | succ i => exact e2 i p p' (by simpa using hp) (by simpa using hp')

/-- A struct or an array out of its parts. -/
theorem AOp.build {t : TypeId} {ps : Array (Nat × Operand)} {zero cells : Array Value} {z : Value} {place : Nat → Option (Nat × Nat)} {vs : List (Nat × Value)} (ho : o.op = .build t ps) (hz : zeroB P t = some z) (hzp : z.cells.all isPlain = true)
    (hrun : ∀ (w : World) (ps' : Array (Nat × Value)) (r : Array Value), Instr.fill place z.cells ps'.toList = some r → (Instr.build t ps').run P w = .ok (.agg r) w)
    (hx : aparts NG s.fr ps = some vs) (hf : Instr.fill place z.cells vs = some cells) (hR : R (.agg cells) s.H s.k) : AOp P NG o s R := by
  refine AOp.quiet _ hR fun N B w0 G a w hs => ?_
  obtain ⟨e1, e2⟩ := aparts_rel hs _ _ hx
  obtain ⟨r', h1, h2, h3⟩ := fill_rel (G := G) place vs _ z.cells z.cells e1 e2 rfl (fun i x x' hx hx' => by
    rw [hx] at hx'
    injection hx' with hx'
    subst hx'
    exact .plain (all_at hzp hx)) cells hf
  refine ⟨.agg r', ?_, .agg h2 h3⟩
  simp only [execOp, ho]
  rw [Sem.run_bind, hrun w (ps.map fun p => (p.1, a.eval p.2)) r' (by simpa using h1)]
  rfl

theorem run_build_struct {t : TypeId} {fs : Array Field} {pl : Array (Nat × Nat)} {z : Value} (hu : P.underlying t = some (.struct fs)) (hz : zeroB P t = some z) (hp : fs.toList.mapM (fun f => (sizeB P f.type).map fun n => (f.offset, n)) = some pl.toList)
    (w : World) (ps : Array (Nat × Value)) (r : Array Value) (hf : Instr.fill (pl[·]?) z.cells ps.toList = some r) : (Instr.build t ps).run P w = .ok (.agg r) w := by
  have hm : ∀ (l : List Field) (q : List (Nat × Nat)), l.mapM (fun f => (sizeB P f.type).map fun n => (f.offset, n)) = some q → (l.mapM (fun f => do pure (f.offset, ← sizeOf f.type) : Field → Sem (Nat × Nat))).run P w = .ok q w := by
    intro l
    induction l with
    | nil => intro q h; injection h with h; subst h; simp
    | cons f l ih =>
      intro q h
      simp only [List.mapM_cons] at h
      cases h1 : sizeB P f.type with
      | none => simp [h1] at h
      | some n =>
        cases h2 : (l.mapM (fun f => (sizeB P f.type).map fun n => (f.offset, n))) with
        | none => simp [h1, h2] at h
        | some ys =>
          simp [h1, h2] at h
          subst h
          rw [List.mapM_cons, Sem.run_bind, Sem.run_bind, run_sizeOf h1]
          simp only [Result.andThen_ok, Sem.run_pure]
          rw [Sem.run_bind, ih ys h2]
          rfl
  unfold Instr.build
  rw [Sem.run_bind, run_zeroValue hz]
  simp only [Result.andThen_ok]
  rw [Sem.run_bind, run_underlying hu]
  simp only [Result.andThen_ok]
  rw [Sem.run_bind, Array.mapM_eq_mapM_toList, Sem.run_map, hm fs.toList pl.toList hp]
  simp only [Result.andThen_ok, Array.toArray_toList]
  rw [hf]
  rfl

theorem run_build_arr {t e : TypeId} {n sz : Nat} {z : Value} (hu : P.underlying t = some (.array n e)) (hz : zeroB P t = some z) (hs : sizeB P e = some sz)
    (w : World) (ps : Array (Nat × Value)) (r : Array Value) (hf : Instr.fill (fun i => some (i * sz, sz)) z.cells ps.toList = some r) : (Instr.build t ps).run P w = .ok (.agg r) w := by
  unfold Instr.build
  rw [Sem.run_bind, run_zeroValue hz]
  simp only [Result.andThen_ok]
  rw [Sem.run_bind, run_underlying hu]
  simp only [Result.andThen_ok]
  rw [Sem.run_bind, run_sizeOf hs]
  simp only [Result.andThen_ok]
  rw [hf]
  rfl

/-- The cells that a slice's literal begins with. -/
def litZero (P : Program) (e : TypeId) (n : Nat) : Option (Array Value) :=
  if n = 0 then some #[] else (zeroB P e).map fun z => (Array.range n).map fun i => z.cells[i % z.cells.size]!

theorem run_buildSlice {t e : TypeId} {len sz : Nat} {z0 : Array Value} (hf : slB P t = some (e, sz)) (hb : len * sz ≤ 2 ^ 24) (hz : litZero P e (len * sz) = some z0) (w : World) (ps : Array (Nat × Value)) (r : Array Value)
    (hfill : Instr.fill (fun i => some (i * sz, sz)) z0 ps.toList = some r) :
    (Instr.buildSlice t len ps).run P w = .ok (.slice (some ⟨w.heap.size, 0, none⟩) len len) (w.alloc (.cells r e (0, 0))) := by
  obtain ⟨hu, hs⟩ := slB_inv hf
  unfold Instr.buildSlice
  rw [Sem.run_bind, run_underlying hu]
  simp only [Result.andThen_ok]
  rw [Sem.run_bind, run_sizeOf hs]
  simp only [Result.andThen_ok]
  rw [if_neg (by omega)]
  unfold litZero at hz
  by_cases h0 : len * sz = 0
  · rw [if_pos h0] at hz
    injection hz with hz
    subst hz
    rw [if_pos h0, Sem.run_bind]
    simp only [Sem.run_pure, Result.andThen_ok]
    rw [h0]
    have : ((Array.range 0).map fun i => (#[] : Array Value)[i % (#[] : Array Value).size]!) = #[] := by simp
    rw [this, hfill]
    rfl
  · rw [if_neg h0] at hz
    cases h1 : zeroB P e with
    | none => simp [h1] at hz
    | some z =>
      simp [h1] at hz
      subst hz
      rw [if_neg h0, Sem.run_bind, run_zeroValue h1]
      simp only [Result.andThen_ok]
      rw [Sem.run_bind]
      simp only [Sem.run_pure, Result.andThen_ok]
      rw [hfill]
      rfl

theorem lit_rel {N B : Nat} {w0 w : World} {G : GMap} {a : Act} (hs : StRel NG N B w0 G s a w) {ps : Array (Nat × Operand)} {vs : List (Nat × Value)} {z0 cells : Array Value} {place : Nat → Option (Nat × Nat)} (hp : z0.all isPlain = true)
    (hx : aparts NG s.fr ps = some vs) (hf : Instr.fill place z0 vs = some cells) : ∃ r', Instr.fill place z0 (ps.map fun p => (p.1, a.eval p.2)).toList = some r' ∧ cells.size = r'.size ∧ CRel G cells.toList (fun j => r'[j]?) cells.toList.length := by
  obtain ⟨e1, e2⟩ := aparts_rel hs _ _ hx
  obtain ⟨r', h1, h2, h3⟩ := fill_rel (G := G) place vs _ z0 z0 e1 e2 rfl (fun i x x' hx hx' => by
    rw [hx] at hx'
    injection hx' with hx'
    subst hx'
    exact .plain (all_at hp hx)) cells hf
  refine ⟨r', by simpa using h1, h2, fun j v hj hv => ?_⟩
  have hj' : j < r'.size := by simp at hj; omega
  exact ⟨_, Array.getElem?_eq_getElem hj', h3 j v _ (by simpa using hv) (Array.getElem?_eq_getElem hj')⟩

/-- A slice's literal, as a block of its own. -/
theorem AOp.buildSlice {t e : TypeId} {len sz : Nat} {ps : Array (Nat × Operand)} {z0 cells : Array Value} {vs : List (Nat × Value)} (ho : o.op = .buildSlice t len ps) (hf : slB P t = some (e, sz)) (hb : len * sz ≤ 2 ^ 24) (hz : litZero P e (len * sz) = some z0)
    (hzp : z0.all isPlain = true) (hx : aparts NG s.fr ps = some vs) (hfill : Instr.fill (fun i => some (i * sz, sz)) z0 vs = some cells)
    (hR : R (.slice (some ⟨s.k, 0, none⟩) len len) (upd s.H s.k (some { cells := cells.toList, elem := e, kind := .fix })) (s.k + 1)) : AOp P NG o s R := by
  intro N B w0 G a w hs next Q hn
  obtain ⟨r', h1, h2, h3⟩ := lit_rel hs hzp hx hfill
  obtain ⟨h4, h5⟩ := hs.S.newFix cells.toList r' e (0, 0) (thawed_zero _) (by simp [h2]) h3
  refine Oper.wp_val (w' := w.alloc (.cells r' e (0, 0))) (v := .slice (some ⟨w.heap.size, 0, none⟩) len len) ?_ (hn _ _ _ _ _ _ hR ?_ h4 h5)
  · simp only [execOp, ho]
    rw [Sem.run_bind, run_buildSlice hf hb hz w _ r' h1]
    rfl
  · exact VRel.exact (G := upd G s.k (.at ⟨w.heap.size, 0, none⟩)) (n := s.k) (off := 0) (upd_same _ _ _)

/-- A slice's literal that will be appended to. -/
theorem AOp.buildGrow {t e : TypeId} {len sz : Nat} {ps : Array (Nat × Operand)} {z0 cells : Array Value} {vs : List (Nat × Value)} (ho : o.op = .buildSlice t len ps) (hf : slB P t = some (e, sz)) (hsz : 0 < sz) (hb : len * sz ≤ 2 ^ 24) (hz : litZero P e (len * sz) = some z0)
    (hzp : z0.all isPlain = true) (hx : aparts NG s.fr ps = some vs) (hfill : Instr.fill (fun i => some (i * sz, sz)) z0 vs = some cells) (hcs : cells.size = len * sz)
    (hR : R (.slice (some ⟨s.k, 0, some 1⟩) len len) (upd s.H s.k (some { cells := cells.toList, elem := e, kind := .grow, esz := sz })) (s.k + 1)) : AOp P NG o s R := by
  intro N B w0 G a w hs next Q hn
  obtain ⟨r', h1, h2, h3⟩ := lit_rel hs hzp hx hfill
  have hnew := hs.S.new { cells := cells.toList, elem := e, kind := .grow, esz := sz } (.rows sz [⟨w.heap.size, len * sz, len⟩]) (.cells r' e (0, 0)) (by
    unfold BRel
    refine ⟨hsz, _, rfl, by simp, ?_, ?_, by simp⟩
    · intro r hr
      simp only [List.mem_singleton] at hr
      subst hr
      exact ⟨hs.S.base, by simp [hcs], by simp, r', rblk_new w r' e (0, 0) (thawed_zero _), by show r'.size = len * sz; omega, by show len * sz ≤ r'.size; omega, by
        have := h3.mono (gle_upd (x := .rows sz [⟨w.heap.size, len * sz, len⟩]) hs.S)
        simpa [hcs] using this⟩
    · intro r rest hr
      injection hr with e1 e2
      subst e1
      subst e2
      exact ⟨by simp [hcs], by simp⟩) (by simp [GB.blocks])
  obtain ⟨h4, h5⟩ := hnew
  refine Oper.wp_val (w' := w.alloc (.cells r' e (0, 0))) (v := .slice (some ⟨w.heap.size, 0, none⟩) len len) ?_ (hn _ _ _ _ _ _ hR ?_ h4 h5)
  · simp only [execOp, ho]
    rw [Sem.run_bind, run_buildSlice hf hb hz w _ r' h1]
    rfl
  · exact VRel.grow (G := upd G s.k (.rows sz [⟨w.heap.size, len * sz, len⟩])) (n := s.k) (upd_same _ _ _) (.inr ⟨_, List.mem_singleton.2 rfl, rfl, Nat.le_refl _, Nat.le_refl _, rfl⟩)
end
end Go.Ab
