/- Abstract states over the model, part 2: how a step turns them; operations, regions, code, calls. No condition; over any program. -/
import Derived.Test.YtlbcgadmcjobiaaDoorAb1
set_option linter.unusedVariables false
set_option linter.unusedSimpArgs false
namespace Go.Ab
open Go.RowKit

def upd {α : Type} (f : Nat → α) (n : Nat) (a : α) : Nat → α := fun m => if m = n then a else f m
@[simp] theorem upd_same {α : Type} (f : Nat → α) (n : Nat) (a : α) : upd f n a n = a := by simp [upd]
theorem upd_other {α : Type} (f : Nat → α) {n m : Nat} (a : α) (h : m ≠ n) : upd f n a m = f m := by simp [upd, h]

/-! ### What stays -/
theorem CRel.ext {G : GMap} {cs : List Value} {f f' : Nat → Option Value} {k : Nat} (h : CRel G cs f k) (hf : ∀ j, j < k → f' j = f j) : CRel G cs f' k := by
  intro j v hj hv
  rw [hf j hj]
  exact h j v hj hv

theorem BRel.keep {B : Nat} {G G' : GMap} {w w' : World} {g : GB} {b : Blk} (h : BRel B G w g b) (hG : GLe G G')
    (hb : ∀ x, x ∈ g.blocks → w'.heap[x]? = w.heap[x]?) : BRel B G' w' g b := by
  unfold BRel at h ⊢
  cases hk : b.kind with
  | ro =>
    simp only [hk] at h ⊢
    obtain ⟨base, rfl, hB, hc⟩ := h
    refine ⟨base, rfl, hB, (hc.mono hG).ext fun j _ => ?_⟩
    have := hb base.block (by simp [GB.blocks])
    refine World.cell?_of_block ?_
    rw [show (base.add j).block = base.block by unfold Addr.add; split <;> rfl]
    exact this
  | fix =>
    simp only [hk] at h ⊢
    obtain ⟨blk, cs, rfl, hB, hr, hl, hc⟩ := h
    exact ⟨blk, cs, rfl, hB, hr.same (hb blk (by simp [GB.blocks])), hl, hc.mono hG⟩
  | grow =>
    simp only [hk] at h ⊢
    obtain ⟨h0, rows, rfl, h1, h2, h3, h4⟩ := h
    refine ⟨h0, rows, rfl, h1, fun r hr => ?_, h3, h4⟩
    obtain ⟨a1, a2, a3, cs, a4, a5, a6, a7⟩ := h2 r hr
    exact ⟨a1, a2, a3, cs, a4.same (hb r.block (by simp only [GB.blocks, List.mem_map]; exact ⟨r, hr, rfl⟩)), a5, a6, a7.mono hG⟩

/-- The own blocks of a name lie in the heap, from B on. -/
theorem BRel.own_lt {B : Nat} {G : GMap} {w : World} {g : GB} {b : Blk} (h : BRel B G w g b) (ho : b.own = true) {x : Nat} (hx : x ∈ g.blocks) : B ≤ x ∧ x < w.heap.size := by
  unfold BRel at h
  cases hk : b.kind with
  | ro => simp [Blk.own, hk] at ho
  | fix =>
    simp only [hk] at h
    obtain ⟨blk, cs, rfl, hB, hr, hl, hc⟩ := h
    simp [GB.blocks] at hx
    subst hx
    exact ⟨hB, hr.lt⟩
  | grow =>
    simp only [hk] at h
    obtain ⟨h0, rows, rfl, h1, h2, h3, h4⟩ := h
    simp only [GB.blocks, List.mem_map] at hx
    obtain ⟨r, hr, rfl⟩ := hx
    obtain ⟨a1, a2, a3, cs, a4, a5, a6, a7⟩ := h2 r hr
    exact ⟨a1, a4.lt⟩

theorem BRel.ro_lt {B : Nat} {G : GMap} {w : World} {g : GB} {b : Blk} (h : BRel B G w g b) (ho : b.own = false) {x : Nat} (hx : x ∈ g.blocks) : x < B := by
  have hk : b.kind = .ro := by simpa [Blk.own] using ho
  unfold BRel at h
  simp only [hk] at h
  obtain ⟨base, rfl, hB, hc⟩ := h
  simp [GB.blocks] at hx
  subst hx
  exact hB

section
variable {NG B : Nat} {w0 w w' : World} {G G' : GMap} {H H' : Hp} {k k' : Nat}

theorem SRel.update (h : SRel NG B w0 G H k w) (hb : Below B w0 w') (hs : B ≤ w'.heap.size) (hG : GLe G G') (hk : k ≤ k')
    (S : Nat → Prop)
    (hst : ∀ n, ¬ S n → H' n = H n ∧ (H n ≠ none → G' n = G n ∧ ∀ x, x ∈ (G n).blocks → w'.heap[x]? = w.heap[x]?))
    (ht : ∀ n b, S n → H' n = some b → BRel B G' w' (G' n) b)
    (hsep : ∀ n b, S n → H' n = some b → b.own = true → ∀ m c, m ≠ n → H' m = some c → c.own = true → ∀ x, x ∈ (G' n).blocks → x ∉ (G' m).blocks)
    (hf : ∀ n, k' ≤ n → H' n = none ∧ G' n = .free) : SRel NG B w0 G' H' k' w' where
  below := hb
  base := hs
  glob := fun g hg => by
    have := hG g
    rw [h.glob g hg] at this
    exact this
  le := Nat.le_trans h.le hk
  blk := fun n b hn => by
    by_cases hS : S n
    · exact ht n b hS hn
    · obtain ⟨e, h2⟩ := hst n hS
      rw [e] at hn
      obtain ⟨e2, h3⟩ := h2 (by rw [hn]; simp)
      rw [e2]
      exact (h.blk n b hn).keep hG h3
  sep := fun n m b c hn hm ho ho' hne x hx hx' => by
    by_cases hS : S n
    · exact hsep n b hS hn ho m c (Ne.symm hne) hm ho' x hx hx'
    · by_cases hS' : S m
      · exact hsep m c hS' hm ho' n b hne hn ho x hx' hx
      · obtain ⟨e, h2⟩ := hst n hS
        obtain ⟨e', h2'⟩ := hst m hS'
        rw [e] at hn
        rw [e'] at hm
        rw [(h2 (by rw [hn]; simp)).1] at hx
        rw [(h2' (by rw [hm]; simp)).1] at hx'
        exact h.sep n m b c hn hm ho ho' hne x hx hx'
  fresh := hf

theorem SRel.drew (h : SRel NG B w0 G H k w) : SRel NG B w0 G H k w.drew :=
  ⟨h.below.drew, h.base, h.glob, h.le, fun n b hn => (h.blk n b hn).keep (GLe.refl _) (fun _ _ => rfl), h.sep, h.fresh⟩

/-- A real block of which the abstract heap does not speak. -/
theorem SRel.alloc_other (h : SRel NG B w0 G H k w) (o : Obj) : SRel NG B w0 G H k (w.alloc o) := by
  refine h.update (h.below.alloc h.base o) (Nat.le_trans h.base (by simp)) (GLe.refl _) (Nat.le_refl _) (fun _ => False) (fun n _ => ⟨rfl, fun hn => ⟨rfl, fun x hx => ?_⟩⟩) (fun _ _ hS => hS.elim) (fun _ _ hS => hS.elim) h.fresh
  cases hb : H n with
  | none => exact absurd hb hn
  | some b =>
    have hB := h.base
    by_cases ho : b.own = true
    · exact Below.heap_alloc _ _ _ ((h.blk n b hb).own_lt ho hx).2
    · have := (h.blk n b hb).ro_lt (by simpa using ho) hx
      exact Below.heap_alloc _ _ _ (by omega)

theorem Keep.trans {k1 k2 : Nat} {H1 H2 : Hp} {G1 G2 : GMap} {w1 w2 : World} (hf : ∀ n, k ≤ n → G n = .free)
    (h : Keep H k G w H1 k1 G1 w1) (h' : Keep H1 k1 G1 w1 H2 k2 G2 w2) : Keep H k G w H2 k2 G2 w2 where
  le := h.le.trans h'.le
  names := Nat.le_trans h.names h'.names
  size := Nat.le_trans h.size h'.size
  others := fun x hx ho => by
    rw [← h.others x hx ho]
    refine h'.others x (Nat.lt_of_lt_of_le hx h.size) fun n b hn hown hmem => ?_
    have hm := h.newer n x hmem hx
    cases hb : H n with
    | some b0 =>
      obtain ⟨b', e1, e2⟩ := h.stay n b0 hb
      rw [hn] at e1
      injection e1 with e1
      refine ho n b0 hb ?_ hm
      simpa [Blk.own, ← e2, ← e1] using hown
    | none =>
      rcases Nat.lt_or_ge n k with hlt | hge
      · rw [h.dom n hlt hb] at hn
        cases hn
      · rw [hf n hge] at hm
        simp [GB.blocks] at hm
  same := fun n hn hb => (h'.same n (Nat.lt_of_lt_of_le hn h.names) (h.dom n hn hb)).trans (h.same n hn hb)
  dom := fun n hn hb => h'.dom n (Nat.lt_of_lt_of_le hn h.names) (h.dom n hn hb)
  newer := fun n x hx hs => h.newer n x (h'.newer n x hx (Nat.lt_of_lt_of_le hs h.size)) hs
  stay := fun n b hn => by
    obtain ⟨b', e1, e2⟩ := h.stay n b hn
    obtain ⟨b'', e3, e4⟩ := h'.stay n b' e1
    exact ⟨b'', e3, e4.trans e2⟩

/-! ### Frames -/
abbrev Fr := Nat → Option Value
def FRel (G : GMap) (N : Nat) (fr : Fr) (tmps : Array Value) : Prop := tmps.size = N ∧ ∀ t v, fr t = some v → VRel G v (tmps.getD t undef)
theorem FRel.mono {N : Nat} {fr : Fr} {tmps : Array Value} (hG : GLe G G') (h : FRel G N fr tmps) : FRel G' N fr tmps := ⟨h.1, fun t v hv => (h.2 t v hv).mono hG⟩
theorem FRel.less {N : Nat} {fr fr' : Fr} {tmps : Array Value} (h : FRel G N fr tmps) (hl : ∀ t v, fr' t = some v → fr t = some v) : FRel G N fr' tmps := ⟨h.1, fun t v hv => h.2 t v (hl t v hv)⟩
def putA (fr : Fr) (d : Option Tmp) (v : Value) : Fr := match d with | some t => upd fr t (some v) | none => fr

theorem FRel.put {N : Nat} {fr : Fr} {tmps : Array Value} {d : Nat} {v v' : Value} (h : FRel G N fr tmps) (hd : d < N) (hv : VRel G v v') : FRel G N (upd fr d (some v)) (tmps.setIfInBounds d v') := by
  refine ⟨by simpa using h.1, fun t u hu => ?_⟩
  by_cases ht : t = d
  · subst ht
    rw [upd_same] at hu
    injection hu with hu
    subst hu
    have h1 := h.1
    simpa [Array.getD, h1, hd] using hv
  · rw [upd_other _ _ ht] at hu
    have := h.2 t u hu
    have e : (tmps.setIfInBounds d v').getD t undef = tmps.getD t undef := by
      simp only [Array.getD_eq_getD_getElem?, Array.getElem?_setIfInBounds_ne (Ne.symm ht)]
    rw [e]
    exact this

def selfRel : Value → Bool
  | .agg cs => cs.all isPlain
  | .tuple cs => cs.all isPlain
  | .iface _ v => isPlain v
  | .func _ first cs => first.size == 0 && cs.all isPlain
  | v => isPlain v

theorem all_at {p : Value → Bool} {cs : Array Value} (h : cs.all p = true) {i : Nat} {v : Value} (hv : cs[i]? = some v) : p v = true := by
  rw [Array.all_eq_true_iff_forall_mem] at h
  exact h v (Array.mem_of_getElem? hv)

theorem selfRel_rel {v : Value} (h : selfRel v = true) : VRel G v v := by
  have arr : ∀ cs : Array Value, cs.all isPlain = true → ∀ (i : Nat) (x x' : Value), cs[i]? = some x → cs[i]? = some x' → VRel G x x' := by
    intro cs hc i x x' hx hx'
    rw [hx] at hx'
    injection hx' with hx'
    subst hx'
    exact .plain (all_at hc hx)
  cases v with
  | agg cs => exact .agg rfl (arr cs h)
  | tuple cs => exact .tuple rfl (arr cs h)
  | iface t v => exact .iface (.plain h)
  | func fn first cs =>
    simp only [selfRel, Bool.and_eq_true, beq_iff_eq, Array.size_eq_zero_iff] at h
    obtain ⟨rfl, h⟩ := h
    exact .func rfl (arr cs h)
  | _ => exact .plain h

def aeval (NG : Nat) (fr : Fr) : Operand → Option Value
  | .tmp t => fr t
  | .const v => if selfRel v then some v else none
  | .global g => if g < NG then some (.pointer (some ⟨g, 0, none⟩)) else none
  | .func f => some (.func (.func f) #[] #[])

/-! ### States -/
structure St where
  fr : Fr
  H : Hp
  k : Nat

structure StRel (NG N B : Nat) (w0 : World) (G : GMap) (s : St) (a : Act) (w : World) : Prop where
  S : SRel NG B w0 G s.H s.k w
  F : FRel G N s.fr a.tmps

theorem aeval_rel {N : Nat} {s : St} {a : Act} (h : StRel NG N B w0 G s a w) {x : Operand} {v : Value} (hx : aeval NG s.fr x = some v) : VRel G v (a.eval x) := by
  cases x with
  | tmp t => exact h.F.2 t v hx
  | const c =>
    simp only [aeval] at hx
    split at hx
    · rename_i hc
      injection hx with hx
      subst hx
      exact selfRel_rel hc
    · cases hx
  | global g =>
    simp only [aeval] at hx
    split at hx
    · rename_i hg
      injection hx with hx
      subst hx
      have := VRel.ptr (G := G) (n := g) (off := 0) (h.S.glob g hg)
      rw [show (⟨g, 0, none⟩ : Addr).add 0 = ⟨g, 0, none⟩ from rfl] at this
      exact this
    · cases hx
  | func f =>
    injection hx with hx
    subst hx
    exact .func rfl (fun i v v' hv => by simp at hv)

/-! ### One operation -/
/-- The operation comes to a value and a heap of which R holds, whatever real world the state stands for. -/
def AOp (P : Program) (NG : Nat) (o : Oper) (s : St) (R : Value → Hp → Nat → Prop) : Prop :=
  ∀ (N B : Nat) (w0 : World) (G : GMap) (a : Act) (w : World), StRel NG N B w0 G s a w → ∀ (next : Act → World → Prop) (Q : Exit → Act → World → Prop),
    (∀ v v' H' k' G' w', R v H' k' → VRel G' v v' → SRel NG B w0 G' H' k' w' → Keep s.H s.k G w H' k' G' w' → next (a.put o.dst v') w') → o.wp P a w next Q

theorem AOp.mono {P : Program} {o : Oper} {s : St} {R R' : Value → Hp → Nat → Prop} (h : AOp P NG o s R) (hr : ∀ v H k, R v H k → R' v H k) : AOp P NG o s R' :=
  fun N B w0 G a w hs next Q hn => h N B w0 G a w hs next Q fun v v' H' k' G' w' hR => hn v v' H' k' G' w' (hr _ _ _ hR)

/-- What an operation's guard says, as far as the frame tells. -/
def wantedA (ops : Array Oper) (fr : Fr) (o : Oper) : Option Bool :=
  match o.guard with
  | none => some true
  | some (j, want) => match (ops[j]?).bind (·.dst) with
    | some t => match fr t with
      | some (.bool b) => some (b == want)
      | some (.tuple _) => some false
      | _ => none
    | none => none

def aOps (P : Program) (NG : Nat) (ops : Array Oper) (Q : St → Prop) : List Nat → St → Prop
  | [], s => Q s
  | i :: rest, s => match ops[i]? with
    | none => aOps P NG ops Q rest s
    | some o => match wantedA ops s.fr o with
      | some true => AOp P NG o s fun v H' k' => aOps P NG ops Q rest ⟨putA s.fr o.dst v, H', k'⟩
      | some false => aOps P NG ops Q rest ⟨putA s.fr o.dst undef, s.H, s.k⟩
      | none => False

/-- All destinations lie in the frame. -/
def dstsOk (N : Nat) (ops : Array Oper) : Bool := ops.all fun o => match o.dst with | some t => decide (t < N) | none => true

theorem wanted_rel {N : Nat} {ops : Array Oper} {s : St} {a : Act} (h : FRel G N s.fr a.tmps) {o : Oper} {b : Bool} (hw : wantedA ops s.fr o = some b) : Region.wanted o (yielded ops a.tmps) = b := by
  unfold wantedA at hw
  unfold Region.wanted
  cases hg : o.guard with
  | none => simp only [hg] at hw; injection hw
  | some p =>
    obtain ⟨j, want⟩ := p
    simp only [hg] at hw ⊢
    cases hd : (ops[j]?).bind (·.dst) with
    | none => simp [hd] at hw
    | some t =>
      simp only [hd] at hw
      cases hf : s.fr t with
      | none => simp [hf] at hw
      | some v =>
        simp only [hf] at hw
        have hv := h.2 t v hf
        cases v with
        | bool c =>
          simp only at hw
          injection hw with hw
          have e := hv.bool_
          have ht : t < a.tmps.size := by
            rcases Nat.lt_or_ge t a.tmps.size with hlt | hge
            · exact hlt
            · simp [Array.getD, Nat.not_lt.2 hge, undef] at e
          have e2 : a.tmps[t]? = some (.bool c) := by
            rw [Array.getElem?_eq_getElem ht]
            simpa [Array.getD, ht] using e
          have hy : yielded ops a.tmps j = some c := by
            unfold yielded
            rw [hd]
            simp [e2]
          rw [hy]
          simpa using hw
        | tuple cs =>
          simp only at hw
          injection hw with hw
          subst hw
          have e : ∀ c, a.tmps[t]? ≠ some (.bool c) := by
            intro c hc
            have hg : a.tmps.getD t undef = .bool c := by
              rw [Array.getD_eq_getD_getElem?, hc]
              rfl
            rw [hg] at hv
            cases hv
          have hy : yielded ops a.tmps j = none := by
            unfold yielded
            rw [hd]
            simp only [Option.bind_some]
          rw [hy]
          cases want <;> rfl
        | _ => simp at hw

theorem put_rel {N : Nat} {fr : Fr} {a : Act} {d : Option Tmp} {v v' : Value} (h : FRel G N fr a.tmps) (hd : ∀ t, d = some t → t < N) (hv : VRel G v v') : FRel G N (putA fr d v) (a.put d v').tmps := by
  cases d with
  | none => exact h
  | some t => exact h.put (hd t rfl) hv

theorem put_defers {a : Act} {d : Option Tmp} {v : Value} : (a.put d v).defers = a.defers := by cases d <;> rfl

theorem undef_rel : VRel G undef undef := .tuple rfl (fun i v v' hv => by simp at hv)

/-- What a piece of code comes to, from a state on. -/
def Post (NG N B : Nat) (w0 : World) (G : GMap) (s : St) (w : World) (Q : Exit → St → Prop) (e : Exit) (a' : Act) (w' : World) : Prop :=
  ∃ s' G', Q e s' ∧ StRel NG N B w0 G' s' a' w' ∧ Keep s.H s.k G w s'.H s'.k G' w' ∧ a'.defers = []

theorem Post.back {N : Nat} {s s1 : St} {w1 : World} {G1 : GMap} {Q : Exit → St → Prop} {e : Exit} {a' : Act} {w' : World} (hf : ∀ n, s.k ≤ n → G n = .free)
    (hk : Keep s.H s.k G w s1.H s1.k G1 w1) (h : Post NG N B w0 G1 s1 w1 Q e a' w') : Post NG N B w0 G s w Q e a' w' := by
  obtain ⟨s', G', h1, h2, h3, h4⟩ := h
  exact ⟨s', G', h1, h2, hk.trans hf h3, h4⟩

theorem wpQ_mono {P : Program} {o : Oper} {a : Act} {w : World} {K K' : Act → World → Prop} {Q Q' : Exit → Act → World → Prop} (h : ∀ a w, K a w → K' a w) (hq : ∀ e a w, Q e a w → Q' e a w)
    (hh : o.wp P a w K Q) : o.wp P a w K' Q' := by
  unfold Oper.wp at *
  generalize (execOp a.eval o).run P w = r at *
  cases r with
  | ok n w' =>
    cases n <;> simp only [Oper.upon] at hh ⊢ <;>
      first
        | exact h _ _ hh
        | exact Calls.mono hh (fun e w'' he => by
            cases e with
            | returned v => exact h _ _ he
            | panicked c => exact hq _ _ _ he
            | outgrown => obtain ⟨a, w, he⟩ := he; exact ⟨a, w, hq _ _ _ he⟩)
        | exact Rows.mono hh (fun _ _ he => h _ _ he)
  | halt x w' => cases x <;> simp only [Oper.upon] at hh ⊢ <;> first | exact hq _ _ _ hh | exact hh

theorem wpOps_mono {P : Program} {ops : Array Oper} {Q Q' : Exit → Act → World → Prop} (hq : ∀ e a w, Q e a w → Q' e a w) (l : List Nat) :
    ∀ {a : Act} {w : World}, wpOps P ops Q l a w → wpOps P ops Q' l a w := by
  induction l with
  | nil => intro a w h; exact hq _ _ _ h
  | cons i rest ih =>
    intro a w h
    simp only [wpOps] at h ⊢
    cases ho : ops[i]? with
    | none => simp only [ho] at h ⊢; exact ih h
    | some o =>
      simp only [ho] at h ⊢
      split
      · rename_i hw
        simp only [hw, if_true] at h
        rcases h with h | ⟨h1, a0, w0, h2⟩
        · exact .inl (wpQ_mono (fun _ _ h => ih h) hq h)
        · exact .inr ⟨h1, a0, w0, hq _ _ _ h2⟩
      · rename_i hw
        simp only [hw] at h
        exact ih h

theorem aOps_sound {P : Program} {N : Nat} {ops : Array Oper} (hd : dstsOk N ops = true) {Q : Exit → St → Prop} (l : List Nat) :
    ∀ (s : St) (G : GMap) (a : Act) (w : World), aOps P NG ops (Q .normal) l s → StRel NG N B w0 G s a w → a.defers = [] → wpOps P ops (Post NG N B w0 G s w Q) l a w := by
  induction l with
  | nil => exact fun s G a w h hs hdf => ⟨s, G, h, hs, Keep.refl _ _ _ _, hdf⟩
  | cons i rest ih =>
    intro s G a w h hs hdf
    simp only [aOps] at h
    simp only [wpOps]
    have back : ∀ {s1 : St} {G1 : GMap} {w1 : World} {a1 : Act}, Keep s.H s.k G w s1.H s1.k G1 w1 → wpOps P ops (Post NG N B w0 G1 s1 w1 Q) rest a1 w1 → wpOps P ops (Post NG N B w0 G s w Q) rest a1 w1 := by
      intro s1 G1 w1 a1 hk hw
      exact wpOps_mono (fun e a' w' hp => hp.back (fun n hn => (hs.S.fresh n hn).2) hk) rest hw
    cases ho : ops[i]? with
    | none =>
      simp only [ho] at h ⊢
      exact ih s G a w h hs hdf
    | some o =>
      simp only [ho] at h ⊢
      have hdo : ∀ t, o.dst = some t → t < N := by
        intro t ht
        have := (Array.all_eq_true_iff_forall_mem.1 hd) o (Array.mem_of_getElem? ho)
        rw [ht] at this
        simpa using this
      cases hw : wantedA ops s.fr o with
      | none => simp [hw] at h
      | some b =>
        rw [wanted_rel hs.F hw]
        cases b with
        | true =>
          simp only [hw] at h
          simp only [if_true]
          refine .inl (h N B w0 G a w hs _ _ fun v v' H' k' G' w' hR hv hS hk => ?_)
          refine back (s1 := ⟨putA s.fr o.dst v, H', k'⟩) hk (ih _ G' _ w' hR ⟨hS, put_rel (hs.F.mono hk.le) hdo hv⟩ ?_)
          rw [put_defers]; exact hdf
        | false =>
          simp only [hw] at h
          simp only [Bool.false_eq_true, if_false]
          refine back (s1 := ⟨putA s.fr o.dst undef, s.H, s.k⟩) (Keep.refl _ _ _ _) (ih _ G _ w h ⟨hs.S, put_rel hs.F hdo undef_rel⟩ ?_)
          rw [put_defers]; exact hdf
end
end Go.Ab
