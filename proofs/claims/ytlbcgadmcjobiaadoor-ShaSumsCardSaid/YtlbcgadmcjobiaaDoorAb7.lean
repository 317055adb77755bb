/- Abstract states over the model, part 7: append. No condition; over any program. -/
import Derived.Test.YtlbcgadmcjobiaaDoorAb6
set_option linter.unusedVariables false
set_option linter.unusedSimpArgs false
namespace Go.Ab
open Go.RowKit

/-- What an append of m elements, the cells news, comes to, at whatever first argument: the three ways. -/
structure App (P : Program) (t tx ty e : TypeId) (sz : Nat) (z : Value) (bytes : Nat) (y : Value) (m : Nat) (news : List Value) (w : World) : Prop where
  len : news.length = m * sz
  one : ∀ u ∈ news, u.oneCell' = true
  idle : m = 0 → ∀ (base : Option Addr) (sLen sCap : Nat), sLen ≤ sCap → (Builtin.append_ #[t, tx] ty #[.slice base sLen sCap, y]).run P w = .ok (.slice base sLen sCap) w
  room : ∀ (b sLen sCap : Nat), sLen + m ≤ sCap → (∀ j, j < news.length → (w.cell? ⟨b, sLen * sz + j, none⟩).isSome = true) → (∀ j, j < news.length → w.frozen? ⟨b, sLen * sz + j, none⟩ = false) →
    (Builtin.append_ #[t, tx] ty #[.slice (some ⟨b, 0, none⟩) sLen sCap, y]).run P w = .ok (.slice (some ⟨b, 0, none⟩) (sLen + m) sCap) (w.setCells b (sLen * sz) news)
  grow : ∀ (base : Option Addr) (sLen sCap : Nat) (olds : List Value), (Builtin.firstCells sz sLen (.slice base sLen sCap)).run P w.drew = .ok olds.toArray w.drew → sCap < sLen + m → (sLen + m) * bytes ≤ 140737488355328 → sLen + m ≤ 9223372036854775807 →
    (Builtin.append_ #[t, tx] ty #[.slice base sLen sCap, y]).run P w =
      .ok (.slice (some ⟨w.heap.size, 0, none⟩) (sLen + m) (grownCap w (sLen + m) sCap e)) (w.drew.alloc (.cells ((olds ++ news).toArray ++ Builtin.zeroCells z.cells (grownCap w (sLen + m) sCap e - (sLen + m))) e))

/-- A slice's elements: their type, their cells, the cells of their zero, their bytes. -/
structure ElemOk (P : Program) (t e : TypeId) (sz : Nat) (z : Value) (bytes : Nat) : Prop where
  sl : P.underlying t = some (.slice e)
  info : ∃ i, P.info? e = some i ∧ i.zero = some z ∧ i.size = sz ∧ i.bytes = bytes
  pos : 0 < sz
  zsz : z.cells.size = sz
  zpl : z.cells.all isPlain = true

def elemB (P : Program) (t e : TypeId) (sz : Nat) (bytes : Nat) : Bool :=
  (match P.underlying t with | some (.slice e') => e' == e | _ => false) &&
  (match P.info? e with | some i => i.size == sz && i.bytes == bytes && (match i.zero with | some z => z.cells.size == sz && z.cells.all isPlain | none => false) | none => false) && decide (0 < sz)

theorem elemB_ok {P : Program} {t e : TypeId} {sz bytes : Nat} (h : elemB P t e sz bytes = true) : ∃ z, ElemOk P t e sz z bytes := by
  unfold elemB at h
  simp only [Bool.and_eq_true, decide_eq_true_eq] at h
  obtain ⟨⟨h1, h2⟩, h3⟩ := h
  split at h1
  · rename_i e' hu
    simp only [beq_iff_eq] at h1
    subst h1
    split at h2
    · rename_i i hi
      simp only [Bool.and_eq_true, beq_iff_eq] at h2
      obtain ⟨⟨a1, a2⟩, a3⟩ := h2
      split at a3
      · rename_i z hz
        simp only [Bool.and_eq_true, beq_iff_eq] at a3
        exact ⟨z, hu, ⟨i, hi, hz, a1, a2⟩, h3, a3.1, a3.2⟩
      · cases a3
    · cases h2
  · cases h1

section
variable {P : Program}

theorem App.ofSrc {t tx ty e : TypeId} {sz bytes : Nat} {z y : Value} {m : Nat} {news : List Value} {w : World} (he : ElemOk P t e sz z bytes) (hs : Src P sz tx y m news w) : App P t tx ty e sz z bytes y m news w := by
  obtain ⟨i, hi, hz, rfl, rfl⟩ := he.info
  refine ⟨hs.newsLen, hs.one, ?_, ?_, ?_⟩
  · intro h0 base sLen sCap hle
    subst h0
    have : news = [] := List.eq_nil_of_length_eq_zero (by rw [hs.newsLen, Nat.zero_mul])
    subst this
    exact run_append_nothing w t tx ty e i he.sl hi base sLen sCap hle y hs
  · intro b sLen sCap hroom hc hf
    have := run_append_room_src (P := P) w t tx ty e i he.sl hi b 0 sLen sCap y m news hs hroom (by simpa using hc) (by simpa using hf)
    simpa using this
  · intro base sLen sCap olds hold hg hb h63
    exact run_append_grow_src (P := P) w t tx ty e i z he.sl hi hz base sLen sCap olds hold y m news hs hg (by omega) (growslice_fits hg hb)

theorem grownCap_ge' (w : World) (need old : Nat) (e : TypeId) : need ≤ grownCap w need old e := by
  unfold grownCap Question.cut
  exact Nat.le_add_right _ _

variable {NG B : Nat} {w0 w : World} {G : GMap} {H : Hp} {k : Nat}

/-- Nothing is grown yet: a name for it. -/
theorem SRel.adopt (h : SRel NG B w0 G H k w) (e : TypeId) (sz : Nat) (hsz : 0 < sz) :
    SRel NG B w0 (upd G k (.rows sz [])) (upd H k (some { cells := [], elem := e, kind := .grow, esz := sz })) (k + 1) w ∧
    Keep H k G w (upd H k (some { cells := [], elem := e, kind := .grow, esz := sz })) (k + 1) (upd G k (.rows sz [])) w := by
  have hG := gle_upd (x := .rows sz []) h
  refine ⟨h.update h.below h.base hG (Nat.le_succ _) (· = k) ?_ ?_ ?_ ?_, hG, Nat.le_succ _, Nat.le_refl _, fun _ _ _ => rfl, ?_, ?_, ?_, ?_⟩
  · intro n hn
    exact ⟨upd_other _ _ hn, fun h0 => ⟨upd_other _ _ hn, fun y hy => rfl⟩⟩
  · rintro n c rfl hc
    rw [upd_same] at hc ⊢
    injection hc with hc
    subst hc
    unfold BRel
    exact ⟨hsz, [], rfl, fun _ => rfl, by simp, by simp, by simp⟩
  · rintro n c rfl hc ho m d hm hd ho' y hy hy'
    rw [upd_same] at hy
    simp [GB.blocks] at hy
  · intro n hn
    rw [upd_other _ _ (by omega), upd_other _ _ (by omega)]
    exact h.fresh n (by omega)
  · intro n hn _
    exact upd_other _ _ (by omega)
  · intro n hn h0
    rw [upd_other _ _ (by omega)]
    exact h0
  · intro n y hy hlt
    by_cases hn : n = k
    · subst hn
      rw [upd_same] at hy
      simp [GB.blocks] at hy
    · rw [upd_other _ _ hn] at hy
      exact hy
  · intro n c hc
    have := name_lt h hc
    exact ⟨c, by rw [upd_other _ _ (by omega)]; exact hc, rfl⟩

theorem append_core {t tx ty e : TypeId} {sz bytes : Nat} {z y : Value} {m len c n : Nat} {news news' : List Value} {b : Blk} {A : Option Addr} (he : ElemOk P t e sz z bytes) (h : SRel NG B w0 G H k w) (hn : H n = some b) (hk : b.kind = .grow)
    (hbe : b.elem = e) (hbz : b.esz = sz) (hlen : len * sz = b.cells.length) (hv : VRel G (.slice (some ⟨n, 0, some 1⟩) len len) (.slice A len c)) (ha : App P t tx ty e sz z bytes y m news' w)
    (hnl : news.length = news'.length) (hnr : ∀ (j : Nat) (u : Value), news[j]? = some u → ∃ u', news'[j]? = some u' ∧ VRel G u u') (hb : (len + m) * bytes ≤ 140737488355328) (h63 : len + m ≤ 9223372036854775807) :
    ∃ v' w' G', (Builtin.append_ #[t, tx] ty #[.slice A len c, y]).run P w = .ok v' w' ∧ VRel G' (.slice (some ⟨n, 0, some 1⟩) (len + m) (len + m)) v' ∧
      SRel NG B w0 G' (upd H n (some { b with cells := b.cells ++ news })) k w' ∧ Keep H k G w (upd H n (some { b with cells := b.cells ++ news })) k G' w' := by
  have hbr := h.blk n b hn
  unfold BRel at hbr
  simp only [hk] at hbr
  obtain ⟨hez, rows, hg, hr0, hrr, hrh, hnd⟩ := hbr
  subst hbz
  have hlt := name_lt h hn
  have hgs : GSlc b.esz rows len A c := by
    cases hv with
    | plain hp => simp [isPlain] at hp
    | grow hg' hl' =>
      rw [hg] at hg'
      injection hg' with e1 e2
      rw [e1, e2]
      exact hl'
  have hlc : len ≤ c := by rcases hgs with h3 | ⟨r, _, _, _, h3, _⟩ <;> omega
  have hnews : news.length = m * b.esz := by rw [hnl, ha.len]
  -- the row is the current one
  have hhead : ∀ r ∈ rows, len * b.esz ≤ r.k → ∃ rest, rows = r :: rest ∧ r.k = b.cells.length := by
    intro r hr hle
    match rows, hr, hrh with
    | q :: rest, hr, hrh =>
      obtain ⟨h1, h2⟩ := hrh q rest rfl
      rcases List.mem_cons.1 hr with rfl | hr'
      · exact ⟨rest, rfl, h1⟩
      · have := h2 r hr'
        omega
  by_cases hm0 : m = 0
  · -- nothing is appended
    subst hm0
    have hnn : news = [] := List.eq_nil_of_length_eq_zero (by rw [hnews, Nat.zero_mul])
    subst hnn
    have hb' : ({ b with cells := b.cells ++ [] } : Blk) = b := by simp
    rw [hb']
    have hH : upd H n (some b) = H := by
      funext x
      by_cases hx : x = n
      · subst hx; rw [upd_same, hn]
      · rw [upd_other _ _ hx]
    rw [hH]
    exact ⟨_, w, G, ha.idle rfl A len c hlc, hv, h, Keep.refl _ _ _ _⟩
  · by_cases hroom : len + m ≤ c
    · -- there is room
      rcases hgs with ⟨_, h0⟩ | ⟨r, hr, rfl, hk', _, hcap⟩
      · omega
      obtain ⟨rest, rfl, hrk⟩ := hhead r hr hk'
      obtain ⟨hB, _, hmod, cs, hrb, hcs, hrks, hcr⟩ := hrr r hr
      have hfit : len * b.esz + news'.length ≤ cs.size := by
        rw [hcs, ← hnl, hnews, ← Nat.add_mul, ← hcap]
        exact Nat.mul_le_mul_right _ hroom
      have hrun := ha.room r.block len c hroom (fun j hj => by rw [hrb.cell]; simp; omega) (fun j hj => hrb.thaw _ (by omega))
      obtain ⟨cs2, h2, h3, h4⟩ := setCells_facts r.block b.elem news' (len * b.esz) w cs hrb hfit
      let r' : Row := ⟨r.block, (len + m) * b.esz, r.cap⟩
      have hk2 : (len + m) * b.esz = b.cells.length + news.length := by rw [Nat.add_mul, hlen, hnews]
      have hGle : GLe G (upd G n (.rows b.esz (r' :: rest))) := by
        intro x
        by_cases hx : x = n
        · subst hx
          rw [upd_same, hg]
          refine ⟨_, rfl, fun q hq => ?_⟩
          rcases List.mem_cons.1 hq with rfl | hq'
          · exact ⟨r', List.mem_cons_self, rfl, by show _ ≤ (len + m) * b.esz; omega, rfl⟩
          · exact ⟨q, List.mem_cons_of_mem _ hq', rfl, Nat.le_refl _, rfl⟩
        · rw [upd_other _ _ hx]
          exact GB.le_refl _
      have hblocks : ∀ x, x ∈ (upd G n (.rows b.esz (r' :: rest)) n).blocks → x ∈ (G n).blocks := by
        intro x hx
        rw [upd_same] at hx
        rw [hg]
        simpa [GB.blocks] using hx
      refine ⟨_, _, upd G n (.rows b.esz (r' :: rest)), hrun, ?_, ?_, ?_⟩
      · exact .grow (upd_same _ _ _) (.inr ⟨r', List.mem_cons_self, rfl, Nat.le_refl _, hroom, hcap⟩)
      · refine h.update (setCells_below r.block hB news' _ w h.below) (by rw [setCells_size]; exact h.base) hGle (Nat.le_refl _) (· = n) ?_ ?_ ?_ ?_
        · intro x hx
          refine ⟨upd_other _ _ hx, fun h0 => ⟨upd_other _ _ hx, fun y hy => ?_⟩⟩
          refine setCells_other r.block _ _ _ _ ?_
          rintro rfl
          cases hbm : H x with
          | none => exact h0 hbm
          | some d =>
            by_cases ho : d.own = true
            · exact h.sep x n d b hbm hn ho (by simp [Blk.own, hk]) hx _ hy (by rw [hg]; simp [GB.blocks])
            · have := (h.blk x d hbm).ro_lt (by simpa using ho) hy
              omega
        · rintro x d rfl hd
          rw [upd_same] at hd ⊢
          injection hd with hd
          subst hd
          unfold BRel
          simp only [hk]
          refine ⟨hez, _, rfl, by simp, ?_, ?_, by simpa using hnd⟩
          · intro q hq
            rcases List.mem_cons.1 hq with rfl | hq'
            · refine ⟨hB, by simp [r', hk2], by simp [r'], cs2, h2, by simpa [h3] using hcs, ?_, ?_⟩
              · show (len + m) * b.esz ≤ cs2.size
                omega
              · intro j v hj hvj
                show ∃ v', cs2[j]? = some v' ∧ _
                rw [h4]
                rcases Nat.lt_or_ge j b.cells.length with hjl | hjl
                · rw [List.getElem?_append_left hjl] at hvj
                  rw [if_neg (by omega)]
                  obtain ⟨v', e1, e2⟩ := hcr j v (by omega) hvj
                  exact ⟨v', e1, e2.mono hGle⟩
                · rw [List.getElem?_append_right hjl] at hvj
                  have hjn := (List.getElem?_eq_some_iff.1 hvj).1
                  rw [if_pos (by omega), hlen]
                  obtain ⟨v', e1, e2⟩ := hnr _ v hvj
                  exact ⟨v', e1, e2.mono hGle⟩
            · obtain ⟨a1, a2, a3, ds, a4, a5, a6, a7⟩ := hrr q (List.mem_cons_of_mem _ hq')
              have hqb : q.block ≠ r.block := by
                intro e0
                have hnd' := hnd
                simp only [List.map_cons, List.nodup_cons] at hnd'
                exact hnd'.1 (by rw [← e0]; exact List.mem_map.2 ⟨q, hq', rfl⟩)
              refine ⟨a1, by simp; omega, a3, ds, a4.same (setCells_other _ _ _ _ _ hqb), a5, a6, fun j v hj hvj => ?_⟩
              rw [List.getElem?_append_left (by omega)] at hvj
              obtain ⟨v', e1, e2⟩ := a7 j v hj hvj
              exact ⟨v', e1, e2.mono hGle⟩
          · intro q rest' hq
            injection hq with e1 e2
            subst e1
            subst e2
            refine ⟨by simp [r', hk2], fun p hp => ?_⟩
            have := (hrh r rest rfl).2 p hp
            simp
            omega
        · rintro x d rfl hd ho q d' hq hd' ho' y hy hy'
          rw [upd_other _ _ hq] at hd' hy'
          exact h.sep x q b d' hn hd' (by simp [Blk.own, hk]) ho' (Ne.symm hq) y (hblocks y hy) hy'
        · intro x hx
          rw [upd_other _ _ (by omega), upd_other _ _ (by omega)]
          exact h.fresh x hx
      · refine ⟨hGle, Nat.le_refl _, by rw [setCells_size]; exact Nat.le_refl _, fun x hx ho => ?_, fun x hx h0 => ?_, fun x hx h0 => ?_, fun x y hy _ => ?_, fun x d hd => ?_⟩
        · refine setCells_other r.block _ _ _ _ ?_
          rintro rfl
          exact ho n b hn (by simp [Blk.own, hk]) (by rw [hg]; simp [GB.blocks])
        · have hne : x ≠ n := by rintro rfl; rw [hn] at h0; cases h0
          exact upd_other _ _ hne
        · have hne : x ≠ n := by rintro rfl; rw [hn] at h0; cases h0
          rw [upd_other _ _ hne]
          exact h0
        · by_cases hx : x = n
          · subst hx; exact hblocks y hy
          · rw [upd_other _ _ hx] at hy; exact hy
        · by_cases hx : x = n
          · subst hx
            rw [hn] at hd
            injection hd with hd
            subst hd
            exact ⟨_, upd_same _ _ _, rfl⟩
          · exact ⟨d, by rw [upd_other _ _ hx]; exact hd, rfl⟩
    · -- a new array
      have holds : ∃ olds : List Value, (Builtin.firstCells b.esz len (.slice A len c)).run P w.drew = .ok olds.toArray w.drew ∧ olds.length = b.cells.length ∧ ∀ (j : Nat) (u : Value), b.cells[j]? = some u → ∃ u', olds[j]? = some u' ∧ VRel G u u' := by
        rcases hgs with ⟨h0, h1⟩ | ⟨r, hr, rfl, hk', _, hcap⟩
        · subst h0
          have hbc : b.cells = [] := List.eq_nil_of_length_eq_zero (by omega)
          refine ⟨[], ?_, by simp [hbc], fun j u hu => by simp [hbc] at hu⟩
          cases A with
          | none => exact run_firstCells_none w.drew b.esz 0 0 c
          | some ad => exact run_firstCells_some w.drew b.esz 0 ad 0 c [] (by simp) (fun j v hv => by simp at hv)
        · obtain ⟨rest, rfl, hrk⟩ := hhead r hr hk'
          obtain ⟨hB, _, hmod, cs, hrb, hcs, hrks, hcr⟩ := hrr r hr
          refine ⟨cs.toList.take b.cells.length, ?_, by simp; omega, fun j u hu => ?_⟩
          · refine run_firstCells_some w.drew b.esz len ⟨r.block, 0, none⟩ len c _ (by simp; omega) fun j v hv => ?_
            show w.cell? _ = _
            rw [add_plain, Nat.zero_add, hrb.cell]
            rw [List.getElem?_take] at hv
            split at hv
            · simpa using hv
            · cases hv
          · have hj := (List.getElem?_eq_some_iff.1 hu).1
            obtain ⟨u', e1, e2⟩ := hcr j u (by omega) hu
            refine ⟨u', ?_, e2⟩
            rw [List.getElem?_take, if_pos hj]
            simpa using e1
      obtain ⟨olds, hold, hol, hor⟩ := holds
      have hrun := ha.grow A len c olds hold (by omega) hb h63
      have hge := grownCap_ge' w (len + m) c e
      generalize grownCap w (len + m) c e = cap at hrun hge
      have hk2 : (len + m) * b.esz = b.cells.length + news.length := by rw [Nat.add_mul, hlen, hnews]
      let cs2 : Array Value := (olds ++ news').toArray ++ Builtin.zeroCells z.cells (cap - (len + m))
      have hcs2 : cs2.size = cap * b.esz := by
        simp only [cs2, Array.size_append, List.size_toArray, List.length_append, size_zeroCells, he.zsz]
        rw [hol, ← hnl, ← hk2, ← Nat.add_mul]
        congr 1
        omega
      let r' : Row := ⟨w.heap.size, (len + m) * b.esz, cap⟩
      have hmpos : 0 < m * b.esz := Nat.mul_pos (by omega) hez
      have hGle : GLe G (upd G n (.rows b.esz (r' :: rows))) := by
        intro x
        by_cases hx : x = n
        · subst hx
          rw [upd_same, hg]
          exact ⟨_, rfl, fun q hq => ⟨q, List.mem_cons_of_mem _ hq, rfl, Nat.le_refl _, rfl⟩⟩
        · rw [upd_other _ _ hx]
          exact GB.le_refl _
      have hblocks : ∀ x, x ∈ (upd G n (.rows b.esz (r' :: rows)) n).blocks → x = w.heap.size ∨ x ∈ (G n).blocks := by
        intro x hx
        rw [upd_same] at hx
        rw [hg]
        simpa [GB.blocks, r'] using hx
      have hold' : ∀ x, x < w.heap.size → (w.drew.alloc (.cells cs2 e)).heap[x]? = w.heap[x]? := fun x hx => Below.heap_alloc w.drew _ x hx
      refine ⟨_, _, upd G n (.rows b.esz (r' :: rows)), hrun, ?_, ?_, ?_⟩
      · exact .grow (upd_same _ _ _) (.inr ⟨r', List.mem_cons_self, rfl, Nat.le_refl _, hge, rfl⟩)
      · refine h.update (h.below.drew.alloc h.base _) (Nat.le_trans h.base (by simp)) hGle (Nat.le_refl _) (· = n) ?_ ?_ ?_ ?_
        · intro x hx
          refine ⟨upd_other _ _ hx, fun h0 => ⟨upd_other _ _ hx, fun y hy => ?_⟩⟩
          cases hbm : H x with
          | none => exact absurd hbm h0
          | some d => exact hold' y (blocks_lt h hbm hy)
        · rintro x d rfl hd
          rw [upd_same] at hd ⊢
          injection hd with hd
          subst hd
          unfold BRel
          simp only [hk]
          refine ⟨hez, _, rfl, by simp, ?_, ?_, ?_⟩
          · intro q hq
            rcases List.mem_cons.1 hq with rfl | hq'
            · refine ⟨h.base, by simp [r', hk2], by simp [r'], cs2, ?_, hcs2, ?_, ?_⟩
              · rw [hbe]
                exact rblk_new w.drew cs2 e (0, 0) (thawed_zero _)
              · rw [hcs2]
                exact Nat.mul_le_mul_right _ hge
              · intro j v hj hvj
                show ∃ v', cs2[j]? = some v' ∧ _
                have hj' : j < olds.length + news'.length := by
                  have : j < (len + m) * b.esz := hj
                  omega
                have e0 : cs2[j]? = (olds ++ news')[j]? := by
                  simp only [cs2]
                  rw [Array.getElem?_append_left (by simpa using hj')]
                  simp
                rw [e0]
                rcases Nat.lt_or_ge j b.cells.length with hjl | hjl
                · rw [List.getElem?_append_left hjl] at hvj
                  rw [List.getElem?_append_left (by omega)]
                  obtain ⟨v', e1, e2⟩ := hor j v hvj
                  exact ⟨v', e1, e2.mono hGle⟩
                · rw [List.getElem?_append_right hjl] at hvj
                  rw [List.getElem?_append_right (by omega), hol]
                  obtain ⟨v', e1, e2⟩ := hnr _ v hvj
                  exact ⟨v', e1, e2.mono hGle⟩
            · obtain ⟨a1, a2, a3, ds, a4, a5, a6, a7⟩ := hrr q hq'
              refine ⟨a1, by simp; omega, a3, ds, a4.same (hold' _ a4.lt), a5, a6, fun j v hj hvj => ?_⟩
              rw [List.getElem?_append_left (by omega)] at hvj
              obtain ⟨v', e1, e2⟩ := a7 j v hj hvj
              exact ⟨v', e1, e2.mono hGle⟩
          · intro q rest' hq
            injection hq with e1 e2
            subst e1
            subst e2
            refine ⟨by simp [r', hk2], fun p hp => ?_⟩
            obtain ⟨_, a2, _⟩ := hrr p hp
            simp
            omega
          · simp only [List.map_cons, List.nodup_cons]
            refine ⟨fun hmem => ?_, hnd⟩
            obtain ⟨q, hq, e0⟩ := List.mem_map.1 hmem
            obtain ⟨_, _, _, ds, a4, _⟩ := hrr q hq
            have := a4.lt
            have e1 : q.block = w.heap.size := e0
            omega
        · rintro x d rfl hd ho q d' hq hd' ho' y hy hy'
          rw [upd_other _ _ hq] at hd' hy'
          rcases hblocks y hy with rfl | hy2
          · have := blocks_lt h hd' hy'
            omega
          · exact h.sep x q b d' hn hd' (by simp [Blk.own, hk]) ho' (Ne.symm hq) y hy2 hy'
        · intro x hx
          rw [upd_other _ _ (by omega), upd_other _ _ (by omega)]
          exact h.fresh x hx
      · refine ⟨hGle, Nat.le_refl _, by simp, fun x hx ho => hold' x hx, fun x hx h0 => ?_, fun x hx h0 => ?_, fun x y hy hyl => ?_, fun x d hd => ?_⟩
        · have hne : x ≠ n := by rintro rfl; rw [hn] at h0; cases h0
          exact upd_other _ _ hne
        · have hne : x ≠ n := by rintro rfl; rw [hn] at h0; cases h0
          rw [upd_other _ _ hne]
          exact h0
        · by_cases hx : x = n
          · subst hx
            rcases hblocks y hy with rfl | hy2
            · omega
            · exact hy2
          · rw [upd_other _ _ hx] at hy; exact hy
        · by_cases hx : x = n
          · subst hx
            rw [hn] at hd
            injection hd with hd
            subst hd
            exact ⟨_, upd_same _ _ _, rfl⟩
          · exact ⟨d, by rw [upd_other _ _ hx]; exact hd, rfl⟩
end
end Go.Ab
