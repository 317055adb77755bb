/- Abstract states over the model, part 30: guards whose outcome is known; texts; the bytes of a constant text; variables of the program that hold tables. No condition; over any program. -/
import Derived.Test.YtlbcgadmcjobiaaDoorAb29
import Derived.Lib.LaidTab
set_option linter.unusedVariables false
set_option linter.unusedSimpArgs false
namespace Go.Ab
open Go.RowKit

section
variable {P : Program} {NG : Nat} {fr : Fr} {H : Hp} {nk : Nat} {R : Value → Hp → Nat → Prop} {o : Oper} {ops : Array Oper}
/-! ### Guards whose outcome is known -/
theorem aOps_w {Q : St → Prop} {i t : Nat} {rest : List Nat} (ho : ops[i]? = some o) (hd : o.dst = some t) (hw : wantedA ops fr o = some true)
    (h : AOp P NG o ⟨fr, H, nk⟩ fun v H' k' => aOps P NG ops Q rest ⟨upd fr t (some v), H', k'⟩) : aOps P NG ops Q (i :: rest) ⟨fr, H, nk⟩ := by
  refine aOps_step ho hw ?_
  rw [hd]
  exact h
theorem aOps_wq {Q : St → Prop} {i t : Nat} {rest : List Nat} {v : Value} (ho : ops[i]? = some o) (hd : o.dst = some t) (hw : wantedA ops fr o = some true)
    (h : AOp P NG o ⟨fr, H, nk⟩ fun v' H' k' => v' = v ∧ H' = H ∧ nk ≤ k') (hn : ∀ k', nk ≤ k' → aOps P NG ops Q rest ⟨upd fr t (some v), H, k'⟩) : aOps P NG ops Q (i :: rest) ⟨fr, H, nk⟩ := by
  refine aOps_w ho hd hw (h.mono ?_)
  rintro v' H' k' ⟨rfl, rfl, hk⟩
  exact hn k' hk
theorem aOps_wno {Q : St → Prop} {i t : Nat} {rest : List Nat} (ho : ops[i]? = some o) (hd : o.dst = some t) (hw : wantedA ops fr o = some false)
    (h : aOps P NG ops Q rest ⟨upd fr t (some undef), H, nk⟩) : aOps P NG ops Q (i :: rest) ⟨fr, H, nk⟩ := by
  refine aOps_skip ho hw ?_
  rw [hd]
  exact h

/-! ### Texts -/
theorem str_toList (l : List UInt8) : ByteArray.toList ⟨l.toArray⟩ = l := by rw [ByteArray.toList_eq]
theorem str_eq (a b : List UInt8) : (ByteArray.toList ⟨a.toArray⟩ == ByteArray.toList ⟨b.toArray⟩) = decide (a = b) := by
  rw [str_toList, str_toList, Bool.eq_iff_iff]
  simp
theorem AOp.eqS {t t' : TypeId} {x y : Operand} (a b : List UInt8) (ho : o.op = .binOp .eql t x y t') (hx : aeval NG fr x = some (.string ⟨a.toArray⟩)) (hy : aeval NG fr y = some (.string ⟨b.toArray⟩)) (hR : R (.bool (decide (a = b))) H nk) : AOp P NG o ⟨fr, H, nk⟩ R :=
  AOp.bin' ho hx hy (by show some (Value.bool (ByteArray.toList ⟨a.toArray⟩ == ByteArray.toList ⟨b.toArray⟩)) = _; rw [str_eq]) hR
theorem AOp.neS {t t' : TypeId} {x y : Operand} (a b : List UInt8) (ho : o.op = .binOp .neq t x y t') (hx : aeval NG fr x = some (.string ⟨a.toArray⟩)) (hy : aeval NG fr y = some (.string ⟨b.toArray⟩)) (hR : R (.bool (!decide (a = b))) H nk) : AOp P NG o ⟨fr, H, nk⟩ R :=
  AOp.bin' ho hx hy (by show some (Value.bool (!(ByteArray.toList ⟨a.toArray⟩ == ByteArray.toList ⟨b.toArray⟩))) = _; rw [str_eq]) hR
theorem AOp.addS {t t' : TypeId} {x y : Operand} (a b : List UInt8) (ho : o.op = .binOp .add t x y t') (hx : aeval NG fr x = some (.string ⟨a.toArray⟩)) (hy : aeval NG fr y = some (.string ⟨b.toArray⟩)) (hs : a.length + b.length ≤ 9223372036854775807) (hR : R (.string ⟨(a ++ b).toArray⟩) H nk) : AOp P NG o ⟨fr, H, nk⟩ R := by
  refine AOp.bin' ho hx hy (z := .string ⟨(a ++ b).toArray⟩) ?_ hR
  have e : (⟨a.toArray⟩ : ByteArray) ++ ⟨b.toArray⟩ = ⟨(a ++ b).toArray⟩ := by
    apply ByteArray.ext
    rw [ByteArray.data_append]
    simp
  show (if (((⟨a.toArray⟩ : ByteArray).size + (⟨b.toArray⟩ : ByteArray).size : Nat) : Int) > 9223372036854775807 then none else some (Value.string (⟨a.toArray⟩ ++ ⟨b.toArray⟩))) = _
  rw [if_neg (by show ¬ (((a.toArray.size + b.toArray.size : Nat) : Int) > _); simp; omega), e]
/-- A part of a text. -/
theorem AOp.sliceS {t : TypeId} {x y z : Operand} {l h : Nat} {k1 k2 : IntKind} (s : List UInt8) (ho : o.op = .slice t x (some y) (some z) none) [hd : DescInfo P t .string] (hx : aeval NG fr x = some (.string ⟨s.toArray⟩))
    (hy : aeval NG fr y = some (.int k1 (l : Int))) (hz : aeval NG fr z = some (.int k2 (h : Int))) (h1 : l ≤ h) (h2 : h ≤ s.length) (hR : R (.string ⟨((s.drop l).take (h - l)).toArray⟩) H nk) : AOp P NG o ⟨fr, H, nk⟩ R := by
  refine AOp.quiet _ hR fun N B w0 G a w hs => ⟨_, ?_, .plain rfl⟩
  have hx' := (aeval_rel hs hx).string_
  have hy' := (aeval_rel hs hy).int_
  have hz' := (aeval_rel hs hz).int_
  simp only [execOp, ho, hx']
  rw [Sem.run_bind]
  have hb : (Instr.sliceBounds false s.length s.length ((some y).map a.eval) ((some z).map a.eval) ((none : Option Operand).map a.eval)).run P w = .ok (l, h, s.length) w :=
    run_bounds h1 h2 (Nat.le_refl _) (.inr ⟨k1, by simp [hy']⟩) (.inr ⟨k2, by simp [hz']⟩) (.inl ⟨rfl, rfl⟩)
  have e : (⟨s.toArray⟩ : ByteArray).extract l h = ⟨((s.drop l).take (h - l)).toArray⟩ := by
    apply ByteArray.ext
    rw [ByteArray.data_extract]
    apply Array.toList_inj.1
    simp [List.extract_eq_take_drop]
  have : (Instr.sliceAt t (.string ⟨s.toArray⟩) ((some y).map a.eval) ((some z).map a.eval) ((none : Option Operand).map a.eval)).run P w = .ok (.string ⟨((s.drop l).take (h - l)).toArray⟩) w := by
    unfold Instr.sliceAt
    rw [Sem.run_bind, run_underlying hd.h]
    simp only [Result.andThen_ok]
    unfold Instr.slice
    rw [Sem.run_bind, run_underlying hd.h]
    simp only [Result.andThen_ok]
    have hsz : (⟨s.toArray⟩ : ByteArray).size = s.length := by show s.toArray.size = _; simp
    simp only [hsz]
    rw [← e]
    have hb' := hb
    simp only [Option.map_some, Option.map_none] at hb' ⊢
    simp [hb']
  rw [this]
  rfl

/-- A slice's literal of elements of one cell, as a block of its own. -/
theorem AOp.buildF1 {t e : TypeId} {len : Nat} {ps : Array (Nat × Operand)} {z : Value} {vals : List Value} (ho : o.op = .buildSlice t len ps) [hf : SlInfo P t e 1] [hz : ZeroInfo P e z] (hb : len ≤ 16777216)
    (hx : aparts NG fr ps = some (vals.zipIdx.map fun p => (p.2, p.1))) (hl : vals.length = len) (h1 : ∀ v ∈ vals, v.cells = #[v])
    (hR : R (.slice (some ⟨nk, 0, none⟩) len len) (upd H nk (some { cells := vals, elem := e, kind := .fix })) (nk + 1)) : AOp P NG o ⟨fr, H, nk⟩ R := by
  have hz0 : (litZ z (len * 1)).size = len := by
    unfold litZ
    split
    · simp; omega
    · simp
  obtain ⟨r, h2, h3⟩ := fill_ones vals 0 (litZ z (len * 1)) h1 (by omega)
  refine AOp.buildSl (sz := 1) (cells := r) ho (by omega) hx h2 ?_
  rw [h3]
  exact hR
theorem SLC.fix {H : Hp} {n sz l : Nat} {b : Blk} (hn : H n = some b) (hl : l * sz = b.cells.length) : SLC H sz (some ⟨n, 0, none⟩) l l b.cells := by
  refine ⟨?_, Nat.le_refl l⟩
  simp only [slcCells]
  split
  · rename_i h0
    subst h0
    rw [Nat.zero_mul] at hl
    rw [List.eq_nil_of_length_eq_zero hl.symm]
  · simp only [hn]
    rw [if_pos (by omega), List.drop_zero, hl, List.take_length]
/-! ### The bytes of a constant text -/
theorem freeze_heap (w : World) (g n : Nat) (x : Nat) (hx : x ≠ g) : (w.freeze ⟨g, n, none⟩ 1).heap[x]? = w.heap[x]? := by
  unfold World.freeze
  rw [if_neg (by decide)]
  simp [Array.getElem?_modify, Ne.symm hx]
theorem freeze_size (w : World) (g n : Nat) : (w.freeze ⟨g, n, none⟩ 1).heap.size = w.heap.size := by
  unfold World.freeze
  rw [if_neg (by decide)]
  simp
theorem freeze_rblk {w : World} {g : Nat} {cs : Array Value} {e : TypeId} (h : RBlk w g cs e) : RBlk (w.freeze ⟨g, cs.size, none⟩ 1) g cs e := by
  obtain ⟨⟨lo, hi⟩, h, ht1, ht2⟩ := h
  refine ⟨if lo == hi then (cs.size, cs.size + 1) else (min lo cs.size, max hi (cs.size + 1)), ?_, ?_⟩
  · unfold World.freeze
    rw [if_neg (by decide)]
    simp [Array.getElem?_modify, h]
  · simp only at ht1 ht2
    by_cases he : lo = hi
    · subst he
      simp only [beq_self_eq_true, if_true]
      exact ⟨Nat.le_succ _, fun j hj => by simp; omega⟩
    · rw [if_neg (by simpa using he)]
      have hlo : 0 < cs.size → cs.size ≤ lo := fun h0 => by
        rcases Nat.lt_or_ge lo cs.size with h | h
        · have := ht2 lo h
          simp at this
          omega
        · exact h
      refine ⟨by simp only; omega, fun j hj => ?_⟩
      have := hlo (by omega)
      simp only [Bool.and_eq_false_iff, decide_eq_false_iff_not]
      left
      omega
theorem freeze_below {B : Nat} {w0 w : World} {g n : Nat} (hg : B ≤ g) (h : Below B w0 w) : Below B w0 (w.freeze ⟨g, n, none⟩ 1) := by
  refine h.trans ⟨?_, ?_, ?_, by rw [freeze_size]; exact Nat.le_refl _, fun x hx => freeze_heap w g n x (by omega)⟩
  all_goals
    unfold World.freeze
    rw [if_neg (by decide)]
/-- A block of the call's own is marked: it holds what it held. -/
theorem SRel.mark {B : Nat} {w0 w : World} {G : GMap} {k n g : Nat} {cs : Array Value} {b : Blk} (h : SRel NG B w0 G H k w) (hn : H n = some b) (hk : b.kind = .fix) (hg : G n = .at ⟨g, 0, none⟩) (hr : RBlk w g cs b.elem) :
    SRel NG B w0 G H k (w.freeze ⟨g, cs.size, none⟩ 1) ∧ Keep H k G w H k G (w.freeze ⟨g, cs.size, none⟩ 1) := by
  have hb := h.blk n b hn
  unfold BRel at hb
  simp only [hk] at hb
  obtain ⟨blk, cs0, e, hB, hr0, hcl, hc⟩ := hb
  rw [hg] at e
  injection e with e
  injection e with e
  subst e
  refine ⟨h.update (freeze_below hB h.below) (by rw [freeze_size]; exact h.base) (GLe.refl _) (Nat.le_refl _) (· = n) ?_ ?_ ?_ h.fresh, GLe.refl _, Nat.le_refl _, by rw [freeze_size]; exact Nat.le_refl _, fun x hx ho => ?_, fun _ _ _ => rfl, fun _ _ h0 => h0, fun _ _ hx _ => hx, fun m c hc' => ⟨c, hc', rfl⟩⟩
  · intro m hm
    refine ⟨rfl, fun h0 => ⟨rfl, fun x hx => freeze_heap _ _ _ _ ?_⟩⟩
    rintro rfl
    cases hbm : H m with
    | none => exact h0 hbm
    | some c =>
      by_cases ho : c.own = true
      · exact h.sep m n c b hbm hn ho (by simp [Blk.own, hk]) hm x hx (by rw [hg]; simp [GB.blocks])
      · have := (h.blk m c hbm).ro_lt (by simpa using ho) hx
        omega
  · rintro m c rfl hc'
    rw [hn] at hc'
    injection hc' with hc'
    subst hc'
    have hcs : cs0 = cs := by
      obtain ⟨_, a1, _⟩ := hr0
      obtain ⟨_, a2, _⟩ := hr
      rw [a1] at a2
      injection a2 with a2
      injection a2
    subst hcs
    unfold BRel
    simp only [hk]
    exact ⟨g, cs0, hg, hB, freeze_rblk hr0, hcl, hc⟩
  · rintro m c rfl hc' ho q d hq hd ho' x hx
    rw [hn] at hc'
    injection hc' with hc'
    subst hc'
    exact h.sep m q b d hn hd ho ho' (Ne.symm hq) x hx
  · refine freeze_heap _ _ _ _ ?_
    rintro rfl
    exact ho n b hn (by simp [Blk.own, hk]) (by rw [hg]; simp [GB.blocks])
/-- '[]byte("..")': the literal's slice, marked. -/
theorem AOp.convB {t e : TypeId} {x : Operand} {n l c : Nat} {b : Blk} (ho : o.op = .convert t t x) [hf : SlInfo P t e 1] [he : DescInfo P e (.int .u8)] (hx : aeval NG fr x = some (.slice (some ⟨n, 0, none⟩) l c)) (hn : H n = some b) (hk : b.kind = .fix)
    (hR : R (.slice (some ⟨n, 0, none⟩) l c) H nk) : AOp P NG o ⟨fr, H, nk⟩ R := by
  intro N B w0 G a w hs next Q hnx
  obtain ⟨hu, hz⟩ := slB_inv hf.h
  have hv := aeval_rel hs hx
  have hv' := hv
  generalize hp : a.eval x = p at hv
  cases hv with
  | plain hpl => simp [isPlain] at hpl
  | @exact _ _ _ _ base hg =>
    have hb := hs.S.blk n b hn
    unfold BRel at hb
    simp only [hk] at hb
    obtain ⟨blk, cs, e1, hB, hr, hcl, hc⟩ := hb
    rw [hg] at e1
    injection e1 with e1
    subst e1
    obtain ⟨hS', hK⟩ := hs.S.mark hn hk hg hr
    refine Oper.wp_val (v := .slice (some ((⟨blk, 0, none⟩ : Addr).add 0)) l c) ?_ (hnx _ _ _ _ _ _ hR (.exact hg) hS' hK)
    have hsh : w.shape? blk = some (b.elem, cs.size) := by
      obtain ⟨fz, h1, _⟩ := hr
      simp [World.shape?, h1]
    simp only [execOp, ho, hp]
    rw [Sem.run_bind]
    have : (convert t t (.slice (some ((⟨blk, 0, none⟩ : Addr).add 0)) l c)).run P w = .ok (.slice (some ((⟨blk, 0, none⟩ : Addr).add 0)) l c) (w.freeze ⟨blk, cs.size, none⟩ 1) := by
      have e0 : (⟨blk, 0, none⟩ : Addr).add 0 = ⟨blk, 0, none⟩ := rfl
      rw [e0]
      simp [convert, run_underlying hu, run_underlying he.h, markStringish, hsh]
    rw [this]
    rfl

/-! ### Variables that hold tables -/
/-- One variable's cells. -/
def tabH (g : Nat) (t : TypeId) (cells : List Value) (H : Hp) : Hp := upd H g (some { cells := cells, elem := t, kind := .ro })
theorem SRel.start_tab {w : World} {H : Hp} {g : Nat} (t : TypeId) {cells : List Value} (h : SRel NG w.heap.size w (startG NG) H NG w) (hg : g < NG) (hc : ∀ (j : Nat) (v : Value), cells[j]? = some v → w.cell? ⟨g, j, none⟩ = some v) (hp : cells.all isPlain = true) (h0 : 0 < cells.length) :
    SRel NG w.heap.size w (startG NG) (tabH g t cells H) NG w := by
  refine SRel.start NG w _ fun n b hn => ?_
  unfold tabH at hn
  by_cases e : n = g
  · subst e
    rw [upd_same] at hn
    injection hn with hn
    subst hn
    refine ⟨hg, rfl, ?_, fun j v hj hv => ⟨v, hc j v hv, .plain ?_⟩⟩
    · have := cell_lt (hc 0 cells[0] (List.getElem?_eq_getElem h0))
      exact this
    · exact (List.all_eq_true.1 hp) v (List.mem_of_getElem? hv)
  · rw [upd_other _ _ e] at hn
    have hlt : n < NG := by
      rcases Nat.lt_or_ge n NG with hl | hl
      · exact hl
      · rw [(h.fresh n hl).1] at hn; cases hn
    have hb := h.blk n b hn
    have hG : startG NG n = .at ⟨n, 0, none⟩ := by unfold startG; rw [if_pos hlt]
    rw [hG] at hb
    cases hk : b.kind with
    | ro =>
      unfold BRel at hb
      simp only [hk] at hb
      obtain ⟨base, e1, h1, h2⟩ := hb
      injection e1 with e1
      subst e1
      refine ⟨hlt, rfl, h1, h2.ext fun j _ => ?_⟩
      rw [add_plain, Nat.zero_add]
    | fix =>
      unfold BRel at hb
      simp only [hk] at hb
      obtain ⟨blk, cs, e1, h1, h2, _⟩ := hb
      exact absurd h2.lt (by omega)
    | grow =>
      unfold BRel at hb
      simp only [hk] at hb
      obtain ⟨_, rows, e1, _⟩ := hb
      cases e1
/-- An array of words. -/
theorem tab_words {w : World} {name : String} {g : Nat} {l : List W32} (h : Lib.TabIs P w name .u32 (l.map fun x => (x.toNat : Int))) (hg : P.globalNamed name = some g) : ∀ (j : Nat) (v : Value), (l.map wv)[j]? = some v → w.cell? ⟨g, j, none⟩ = some v := by
  intro j v hv
  have hj : j < l.length := by have := (List.getElem?_eq_some_iff.1 hv).1; simpa using this
  have := h.cell hg j (by simpa using hj)
  rw [this, ← hv, List.getElem?_map, List.getElem?_eq_getElem hj, List.getD_eq_getElem?_getD, List.getElem?_map, List.getElem?_eq_getElem hj]
  rfl
theorem wv_plain (l : List W32) : (l.map wv).all isPlain = true := by simp [wv, isPlain]
end
end Go.Ab
