/- Abstract states over the model, part 26: the drawn region's rule as it is used; nil taken up as a slice that grows; contracts that answer a new slice. No condition; over any program. -/
import Derived.Test.YtlbcgadmcjobiaaDoorAb25
set_option linter.unusedVariables false
set_option linter.unusedSimpArgs false
namespace Go.Ab
open Go.RowKit

theorem RenOk.exact {off l c : Nat} : RenOk fun n => .slice (some ⟨n, off, none⟩) l c := fun G G2 n r x h e _ => by
  cases h with
  | plain h0 => cases h0
  | exact h => exact .exact (e.trans h)
theorem RenOk.loose {off l : Nat} : RenOk fun n => .slice (some ⟨n, off, some 0⟩) l l := fun G G2 n r x h e _ => by
  cases h with
  | plain h0 => cases h0
  | loose h h1 h2 => exact .loose (e.trans h) h1 h2
theorem RenOk.grow {l : Nat} : RenOk fun n => .slice (some ⟨n, 0, some 1⟩) l l := fun G G2 n r x h e _ => by
  cases h with
  | plain h0 => cases h0
  | grow h h1 => exact .grow (e.trans h) h1
theorem RenOk.ptr {off : Nat} : RenOk fun n => .pointer (some ⟨n, off, none⟩) := fun G G2 n r x h e _ => by
  cases h with
  | plain h0 => cases h0
  | ptr h => exact .ptr (e.trans h)

section
variable {P : Program} {NG N : Nat} {Q : Exit → St → Prop} {ops : Array Oper} {fr : Fr} {H : Hp} {nk m : Nat} {nm : Nat → Nat} {W : List (List Nat × List Nat)} {Hb : Hp} {K : Fr → (Nat → Option Blk) → Nat → Prop} {n : Nat} {env : Fr} {ct : Nat → Option Blk} {o : Oper} {v : Value}

/-- An operation that leaves the heap as it was. -/
theorem DrawM.q (i : Nat) (U : List (Nat × Option Nat)) (hi : m - (n + 1) = i) (ho : ops[i]? = some o) (hU : useOk ops i U = true) (hg : o.guard = none) (hW : (W.getD i ([], [])).1 = [])
    (h : ∀ (Hc : Hp) (k : Nat), nk + m ≤ k → (∀ c, c ∈ (W.getD i ([], [])).1 ++ (W.getD i ([], [])).2 → Hc (nm c) = ct c) → Sub Hb Hc → (∀ q, k ≤ q → Hc q = none) → AOp P NG o ⟨useFr env fr U, Hc, k⟩ fun v' H' k' => v' = v ∧ H' = Hc ∧ k ≤ k')
    (hr : DrawM P NG ops fr nk m nm W Hb K n (upd env i (some v)) ct) : DrawM P NG ops fr nk m nm W Hb K (n + 1) env ct := by
  subst hi
  refine ⟨o, v, [], ho, hW.symm, ⟨U, hU, fun Hc k hk hc hs hf => ?_⟩, hr⟩
  unfold stepA
  rw [show wantedA ops (useFr env fr U) o = some true by simp [wantedA, hg]]
  exact (h Hc k hk hc hs hf).mono fun v' H' k' ⟨e1, e2, e3⟩ => ⟨e3, .inl ⟨e1, e2⟩⟩
theorem DrawM.qg {cond : Bool} (i : Nat) (U : List (Nat × Option Nat)) (hi : m - (n + 1) = i) (ho : ops[i]? = some o) (hU : useOk ops i U = true) (hw : wantedA ops (useFr env fr U) o = some cond) (hW : (W.getD i ([], [])).1 = [])
    (h : ∀ (Hc : Hp) (k : Nat), nk + m ≤ k → (∀ c, c ∈ (W.getD i ([], [])).1 ++ (W.getD i ([], [])).2 → Hc (nm c) = ct c) → Sub Hb Hc → (∀ q, k ≤ q → Hc q = none) → cond = true → AOp P NG o ⟨useFr env fr U, Hc, k⟩ fun v' H' k' => v' = v ∧ H' = Hc ∧ k ≤ k')
    (hr : DrawM P NG ops fr nk m nm W Hb K n (upd env i (some (gv cond v))) ct) : DrawM P NG ops fr nk m nm W Hb K (n + 1) env ct := by
  subst hi
  refine ⟨o, gv cond v, [], ho, hW.symm, ⟨U, hU, fun Hc k hk hc hs hf => ?_⟩, hr⟩
  unfold stepA
  rw [hw]
  cases cond with
  | true => exact (h Hc k hk hc hs hf rfl).mono fun v' H' k' ⟨e1, e2, e3⟩ => ⟨e3, .inl ⟨e1, e2⟩⟩
  | false => exact ⟨Nat.le_refl _, .inl ⟨rfl, rfl⟩⟩

/-- An operation that gives a code new contents. -/
theorem DrawM.wr (i c : Nat) (b : Option Blk) (U : List (Nat × Option Nat)) (hi : m - (n + 1) = i) (ho : ops[i]? = some o) (hU : useOk ops i U = true) (hg : o.guard = none) (hW : (W.getD i ([], [])).1 = [c])
    (h : ∀ (Hc : Hp) (k : Nat), nk + m ≤ k → (∀ c, c ∈ (W.getD i ([], [])).1 ++ (W.getD i ([], [])).2 → Hc (nm c) = ct c) → Sub Hb Hc → (∀ q, k ≤ q → Hc q = none) → AOp P NG o ⟨useFr env fr U, Hc, k⟩ fun v' H' k' => v' = v ∧ H' = upd Hc (nm c) b ∧ k ≤ k')
    (hr : DrawM P NG ops fr nk m nm W Hb K n (upd env i (some v)) (upd ct c b)) : DrawM P NG ops fr nk m nm W Hb K (n + 1) env ct := by
  subst hi
  refine ⟨o, v, [(c, b)], ho, hW.symm, ⟨U, hU, fun Hc k hk hc hs hf => ?_⟩, hr⟩
  unfold stepA
  rw [show wantedA ops (useFr env fr U) o = some true by simp [wantedA, hg]]
  exact (h Hc k hk hc hs hf).mono fun v' H' k' ⟨e1, e2, e3⟩ => ⟨e3, .inl ⟨e1, e2⟩⟩
theorem DrawM.wrg {cond : Bool} (i c : Nat) (b : Option Blk) (U : List (Nat × Option Nat)) (hi : m - (n + 1) = i) (ho : ops[i]? = some o) (hU : useOk ops i U = true) (hw : wantedA ops (useFr env fr U) o = some cond) (hW : (W.getD i ([], [])).1 = [c])
    (h : ∀ (Hc : Hp) (k : Nat), nk + m ≤ k → (∀ c, c ∈ (W.getD i ([], [])).1 ++ (W.getD i ([], [])).2 → Hc (nm c) = ct c) → Sub Hb Hc → (∀ q, k ≤ q → Hc q = none) → cond = true → AOp P NG o ⟨useFr env fr U, Hc, k⟩ fun v' H' k' => v' = v ∧ H' = upd Hc (nm c) b ∧ k ≤ k')
    (hr : DrawM P NG ops fr nk m nm W Hb K n (upd env i (some (gv cond v))) (upd ct c (bif cond then b else ct c))) : DrawM P NG ops fr nk m nm W Hb K (n + 1) env ct := by
  subst hi
  refine ⟨o, gv cond v, [(c, bif cond then b else ct c)], ho, hW.symm, ⟨U, hU, fun Hc k hk hc hs hf => ?_⟩, hr⟩
  unfold stepA
  rw [hw]
  cases cond with
  | true => exact (h Hc k hk hc hs hf rfl).mono fun v' H' k' ⟨e1, e2, e3⟩ => ⟨e3, .inl ⟨e1, e2⟩⟩
  | false =>
    refine ⟨Nat.le_refl _, .inl ⟨rfl, ?_⟩⟩
    show Hc = upd Hc (nm c) (ct c)
    funext q
    by_cases hq : q = nm c
    · subst hq
      rw [upd_same]
      exact hc c (by rw [hW]; simp)
    · rw [upd_other _ _ hq]

/-- An operation that makes a block. -/
theorem DrawM.new {bs : List Nat} (i : Nat) (f : Nat → Value) (b : Blk) (U : List (Nat × Option Nat)) (hi : m - (n + 1) = i) (him : i < m) (ho : ops[i]? = some o) (hU : useOk ops i U = true) (hg : o.guard = none) (hW : (W.getD i ([], [])).1 = [i]) (hf : RenOk f)
    (h : ∀ (Hc : Hp) (k : Nat), nk + m ≤ k → (∀ c, c ∈ (W.getD i ([], [])).1 ++ (W.getD i ([], [])).2 → Hc (nmC nk m bs c) = ct c) → Sub Hb Hc → (∀ q, k ≤ q → Hc q = none) → AOp P NG o ⟨useFr env fr U, Hc, k⟩ fun v' H' k' => ∃ q, k ≤ q ∧ q < k' ∧ v' = f q ∧ H' = upd Hc q (some b))
    (hr : DrawM P NG ops fr nk m (nmC nk m bs) W Hb K n (upd env i (some (f (nk + i)))) (upd ct i (some b))) : DrawM P NG ops fr nk m (nmC nk m bs) W Hb K (n + 1) env ct := by
  subst hi
  refine ⟨o, f (nk + (m - (n + 1))), [(m - (n + 1), some b)], ho, hW.symm, ⟨U, hU, fun Hc k hk hc hs hfr => ?_⟩, hr⟩
  unfold stepA
  rw [show wantedA ops (useFr env fr U) o = some true by simp [wantedA, hg]]
  refine (h Hc k hk hc hs hfr).mono fun v' H' k' ⟨q, e1, e2, e3, e4⟩ => ⟨by omega, .inr ⟨q, f, b, [], e1, e2, hf, e3, ?_, rfl, e4⟩⟩
  rw [show nmC nk m bs (m - (n + 1)) = nk + (m - (n + 1)) from if_pos him]
theorem DrawM.newg {bs : List Nat} {cond : Bool} (i : Nat) (f : Nat → Value) (b : Blk) (U : List (Nat × Option Nat)) (hi : m - (n + 1) = i) (him : i < m) (ho : ops[i]? = some o) (hU : useOk ops i U = true) (hw : wantedA ops (useFr env fr U) o = some cond) (hW : (W.getD i ([], [])).1 = [i]) (hc0 : ct i = none) (hf : RenOk f)
    (h : ∀ (Hc : Hp) (k : Nat), nk + m ≤ k → (∀ c, c ∈ (W.getD i ([], [])).1 ++ (W.getD i ([], [])).2 → Hc (nmC nk m bs c) = ct c) → Sub Hb Hc → (∀ q, k ≤ q → Hc q = none) → cond = true → AOp P NG o ⟨useFr env fr U, Hc, k⟩ fun v' H' k' => ∃ q, k ≤ q ∧ q < k' ∧ v' = f q ∧ H' = upd Hc q (some b))
    (hr : DrawM P NG ops fr nk m (nmC nk m bs) W Hb K n (upd env i (some (gv cond (f (nk + i))))) (upd ct i (bif cond then some b else none))) : DrawM P NG ops fr nk m (nmC nk m bs) W Hb K (n + 1) env ct := by
  subst hi
  refine ⟨o, gv cond (f (nk + (m - (n + 1)))), [(m - (n + 1), bif cond then some b else none)], ho, hW.symm, ⟨U, hU, fun Hc k hk hc hs hfr => ?_⟩, hr⟩
  unfold stepA
  rw [hw]
  cases cond with
  | true =>
    refine (h Hc k hk hc hs hfr rfl).mono fun v' H' k' ⟨q, e1, e2, e3, e4⟩ => ⟨by omega, .inr ⟨q, f, b, [], e1, e2, hf, e3, ?_, rfl, e4⟩⟩
    rw [show nmC nk m bs (m - (n + 1)) = nk + (m - (n + 1)) from if_pos him]
    rfl
  | false =>
    refine ⟨Nat.le_refl _, .inl ⟨rfl, ?_⟩⟩
    show Hc = upd Hc (nmC nk m bs (m - (n + 1))) none
    funext q
    by_cases hq : q = nmC nk m bs (m - (n + 1))
    · subst hq
      rw [upd_same, hc (m - (n + 1)) (by rw [hW]; simp), hc0]
    · rw [upd_other _ _ hq]
theorem DrawM.done (h : ∀ k, nk + m ≤ k → K env ct k) : DrawM P NG ops fr nk m nm W Hb K 0 env ct := h

/-- Where only new blocks are touched. -/
theorem ACode.drawM0 {id : Nat} (m : Nat) (L : List (Nat × Nat)) (C : List Nat) (W : List (List Nat × List Nat)) (hm : P.follows .mixedOrders = true) (hok : drawOk N ops m L = true) (hW : modsOk ops m W C = true)
    (hC : (decide C.Nodup && C.all (fun c => decide (c < m))) = true)
    (h : DrawM P NG ops fr nk m (nmC nk m []) W H (fun env ct k => aOps P NG ops (Q .normal) (List.range' m (ops.size - m)) ⟨puts fr (L.map fun p => (p.2, (env p.1).getD undef)), Hof (nmC nk m []) C H ct, k⟩) m (fun _ => none) (fun _ => none)) :
    ACode P NG N (.region id ops true) Q ⟨fr, H, nk⟩ := by
  refine ACode.fresh fun hf => ?_
  simp only [Bool.and_eq_true, decide_eq_true_eq, List.all_eq_true] at hC
  have hnm : ∀ c ∈ C, nmC nk m [] c = nk + c := fun c hc => if_pos (hC.2 c hc)
  refine ACode.drawM m L [] C W (fun _ => none) H hm hok hW ?_ (fun b hb => by cases hb) (fun c hc => by rw [hnm c hc]; exact hf _ (Nat.le_add_right _ _)) (fun n b hn => ⟨hn, fun hx => ?_⟩) h
  · have : C.map (nmC nk m []) = C.map (nk + ·) := List.map_congr_left hnm
    rw [this]
    rw [List.nodup_iff_pairwise_ne] at hC ⊢
    refine List.pairwise_map.2 (hC.1.imp fun hne e => hne (by omega))
  · obtain ⟨c, hc, rfl⟩ := List.mem_map.1 hx
    rw [hnm c hc, hf _ (Nat.le_add_right _ _)] at hn
    cases hn

/-- Nil as a slice that grows. -/
theorem ACode.adopt {t : Nat} {c : Code} (e : TypeId) (sz : Nat) (hsz : 0 < sz) (ht : fr t = some (.slice none 0 0)) (h : ACode P NG N c Q ⟨upd fr t (some (.slice (some ⟨nk, 0, some 1⟩) 0 0)), upd H nk (some { cells := [], elem := e, kind := .grow, esz := sz }), nk + 1⟩) :
    ACode P NG N c Q ⟨fr, H, nk⟩ := by
  intro B w0 G a w hs hd
  obtain ⟨hS1, hK1⟩ := hs.S.adopt e sz hsz
  have hF : FRel (upd G nk (.rows sz [])) N (upd fr t (some (.slice (some ⟨nk, 0, some 1⟩) 0 0))) a.tmps := by
    refine ⟨hs.F.1, fun u v hu => ?_⟩
    by_cases hut : u = t
    · subst hut
      rw [upd_same] at hu
      injection hu with hu
      subst hu
      have := hs.F.2 u _ ht
      rw [this.plain_ rfl]
      exact .grow (upd_same _ _ _) (.inl ⟨rfl, rfl⟩)
    · rw [upd_other _ _ hut] at hu
      exact (hs.F.2 u v hu).mono hK1.le
  refine wp_mono (h B w0 _ a w ⟨hS1, hF⟩ hd) ?_
  rintro e' a' w' ⟨s', G', h1, h2, h3, h4⟩
  exact ⟨s', G', h1, h2, hK1.trans (fun n hn => (hs.S.fresh n hn).2) h3, h4⟩
end

theorem AOp.convU64 {P : Program} {NG : Nat} {fr : Fr} {H : Hp} {nk : Nat} {R : Value → Hp → Nat → Prop} {o : Oper} {t t' : TypeId} {x : Operand} {k : IntKind} {a : Nat} {d : TypeDesc} (ho : o.op = .convert t t' x) [DescInfo P t d] [hd : DescInfo P t' (.int .u64)] (hx : aeval NG fr x = some (.int k (a : Int))) (ha : a < 18446744073709551616) (hR : R (.int .u64 (a : Int)) H nk) : AOp P NG o ⟨fr, H, nk⟩ R :=
  AOp.convInt ho hx (by rw [show IntKind.u64.wrap (a : Int) = (a : Int) by rw [IntKind.wrap_u64]; omega]; exact hR)
theorem srcOf_grow {H : Hp} {n sz l : Nat} {b : Blk} (hn : H n = some b) (hz : b.esz = sz) (hl : l * sz = b.cells.length) : srcOf H sz (.slice (some ⟨n, 0, some 1⟩) l l) = some (l, b.cells) := by
  simp only [srcOf, slcCells]
  by_cases h0 : l = 0
  · rw [if_pos h0]
    subst h0
    have : b.cells = [] := List.length_eq_zero_iff.1 (by omega)
    rw [this]
    rfl
  · rw [if_neg h0]
    simp only [hn]
    rw [if_pos ⟨⟨hz, Nat.zero_mod _⟩, by omega⟩, List.drop_zero, hl, List.take_length]
    rfl
theorem srcOf_slc {H : Hp} {sz l c : Nat} {A : Option Addr} {cs : List Value} (h : slcCells H sz (.slice A l c) = some cs) : srcOf H sz (.slice A l c) = some (l, cs) := by
  simp only [srcOf, h]
  rfl
theorem slcCells_grow {H : Hp} {n sz l : Nat} {b : Blk} (hn : H n = some b) (hz : b.esz = sz) (hl : l * sz = b.cells.length) : slcCells H sz (.slice (some ⟨n, 0, some 1⟩) l l) = some b.cells := by
  have := srcOf_grow hn hz hl
  simp only [srcOf] at this
  obtain ⟨cs, h1, h2⟩ := Option.map_eq_some_iff.1 this
  injection h2 with _ h2
  rw [h1, h2]
theorem fill_ones : ∀ (vals : List Value) (k : Nat) (z0 : Array Value), (∀ v ∈ vals, v.cells = #[v]) → k + vals.length = z0.size →
    ∃ r, Instr.fill (fun i => some (i * 1, 1)) z0 ((vals.zipIdx k).map fun p => (p.2, p.1)) = some r ∧ r.toList = z0.toList.take k ++ vals
  | [], k, z0, _, hk => ⟨z0, rfl, by
      simp at hk
      rw [List.append_nil, hk, ← Array.length_toList, List.take_length]⟩
  | v :: vals, k, z0, h1, hk => by
    simp only [List.length_cons] at hk
    obtain ⟨r, h2, h3⟩ := fill_ones vals (k + 1) (z0.setIfInBounds k v) (fun u hu => h1 u (by simp [hu])) (by simp; omega)
    refine ⟨r, ?_, ?_⟩
    · rw [List.zipIdx_cons, List.map_cons, Instr.fill]
      simp only [h1 v (by simp)]
      rw [if_neg (by simp; omega)]
      simpa using h2
    · rw [h3]
      have hlt : k < z0.size := by omega
      have hl : k < z0.toList.length := by rw [Array.length_toList]; exact hlt
      have e : (z0.setIfInBounds k v).toList = z0.toList.take k ++ v :: z0.toList.drop (k + 1) := by
        rw [Array.toList_setIfInBounds, List.set_eq_take_append_cons_drop, if_pos hl]
      rw [e, List.take_append, List.take_take, Nat.min_eq_right (by omega), List.length_take, Nat.min_eq_left (by omega), show k + 1 - k = 1 by omega]
      simp
theorem AOp.buildG1 {P : Program} {NG : Nat} {fr : Fr} {H : Hp} {nk : Nat} {R : Value → Hp → Nat → Prop} {o : Oper} {t e : TypeId} {len : Nat} {ps : Array (Nat × Operand)} {z : Value} {vals : List Value} (ho : o.op = .buildSlice t len ps) [hf : SlInfo P t e 1] [hz : ZeroInfo P e z] (hb : len ≤ 16777216)
    (hx : aparts NG fr ps = some (vals.zipIdx.map fun p => (p.2, p.1))) (hl : vals.length = len) (h1 : ∀ v ∈ vals, v.cells = #[v])
    (hR : R (.slice (some ⟨nk, 0, some 1⟩) len len) (upd H nk (some { cells := vals, elem := e, kind := .grow, esz := 1 })) (nk + 1)) : AOp P NG o ⟨fr, H, nk⟩ R := by
  have hsz : (litZ z (len * 1)).size = len := by
    unfold litZ
    by_cases h0 : len * 1 = 0
    · rw [if_pos h0]; simp; omega
    · rw [if_neg h0]; simp
  obtain ⟨r, h2, h3⟩ := fill_ones vals 0 (litZ z (len * 1)) h1 (by rw [hsz]; omega)
  rw [List.take_zero, List.nil_append] at h3
  refine AOp.buildGr ho (by decide) (by omega) hx h2 (by rw [← Array.length_toList, h3]; omega) ?_
  rw [h3]
  exact hR
theorem byteCells_eq (s : ByteArray) : byteCells s = s.data.toList.map bv := rfl
theorem AOp.toBytes' {P : Program} {NG : Nat} {fr : Fr} {H : Hp} {nk : Nat} {R : Value → Hp → Nat → Prop} {o : Oper} {x : Operand} {t t' e : TypeId} {bs : ByteArray} (ho : o.op = .convert t t' x) [hd : DescInfo P t .string] [hs : SlInfo P t' e 1] [he : DescInfo P e (.int .u8)] (hx : aeval NG fr x = some (.string bs))
    (hR : R (.slice (some ⟨nk, 0, some 0⟩) bs.size bs.size) (upd H nk (some { cells := bs.data.toList.map bv, elem := e, kind := .fix })) (nk + 1)) : AOp P NG o ⟨fr, H, nk⟩ R :=
  AOp.toBytes ho hd.h (slB_inv hs.h).1 he.h hx (by rw [byteCells_eq]; exact hR)
/-- A whole number's lowest byte. -/
def byteI (x : Int) : UInt8 := UInt8.ofNat (x % 256).toNat
theorem bv_byteI (x : Int) : Value.int .u8 (IntKind.u8.wrap x) = bv (byteI x) := by
  have : ((byteI x).toNat : Int) = IntKind.u8.wrap x := by
    unfold byteI
    rw [UInt8.toNat_ofNat', IntKind.wrap_u8]
    omega
  simp only [bv, this]
theorem byteI_nat (v : Nat) : byteI (v : Int) = UInt8.ofNat v := by
  unfold byteI
  rw [← UInt8.toNat_inj, UInt8.toNat_ofNat', UInt8.toNat_ofNat']
  omega
theorem AOp.toU8 {P : Program} {NG : Nat} {fr : Fr} {H : Hp} {nk : Nat} {R : Value → Hp → Nat → Prop} {o : Oper} {t t' : TypeId} {x : Operand} {k : IntKind} {a : Int} {d : TypeDesc} (ho : o.op = .convert t t' x) [DescInfo P t d] [hd : DescInfo P t' (.int .u8)] (hx : aeval NG fr x = some (.int k a)) (hR : R (bv (byteI a)) H nk) : AOp P NG o ⟨fr, H, nk⟩ R :=
  AOp.convInt ho hx (by rw [bv_byteI]; exact hR)
theorem sub_same {A : Hp} {n : Nat} {x : Option Blk} (h : A n = x) : Sub (upd A n x) A := fun q b hq => by
  by_cases e : q = n
  · subst e
    rw [upd_same] at hq
    rw [h, hq]
  · rw [upd_other _ _ e] at hq
    exact hq
theorem sub_over {A B : Hp} {n : Nat} {x y : Option Blk} (h : Sub (upd A n y) B) : Sub (upd A n x) (upd B n x) := fun q b hq => by
  by_cases e : q = n
  · subst e
    rw [upd_same] at hq ⊢
    exact hq
  · rw [upd_other _ _ e] at hq ⊢
    exact h q b (by rw [upd_other _ _ e]; exact hq)
theorem sub_over_eq {A B : Hp} {n : Nat} {x x' y : Option Blk} (h : Sub (upd A n y) B) (e : x = x') : Sub (upd A n x) (upd B n x') := by
  subst e
  exact sub_over h
theorem stays_upd {A : Hp} {n : Nat} {b : Blk} : ∀ q c, A q = some c → ∃ c', upd A n (some b) q = some c' := fun q c hq => by
  by_cases e : q = n
  · subst e; exact ⟨b, upd_same _ _ _⟩
  · exact ⟨c, by rw [upd_other _ _ e]; exact hq⟩
theorem sub_drop {A B : Hp} {n : Nat} (h : Sub A B) : Sub (upd A n none) B := fun q b hq => by
  by_cases e : q = n
  · subst e; rw [upd_same] at hq; cases hq
  · rw [upd_other _ _ e] at hq; exact h q b hq
theorem sub_dropu {A B : Hp} {n : Nat} {x : Option Blk} (h : Sub A B) : Sub (upd A n none) (upd B n x) := fun q b hq => by
  by_cases e : q = n
  · subst e; rw [upd_same] at hq; cases hq
  · rw [upd_other _ _ e] at hq ⊢; exact h q b hq
theorem sub_over0 {A B : Hp} {n : Nat} {x : Option Blk} (h : Sub A B) : Sub (upd A n x) (upd B n x) := fun q b hq => by
  by_cases e : q = n
  · subst e
    rw [upd_same] at hq ⊢
    exact hq
  · rw [upd_other _ _ e] at hq ⊢
    exact h q b hq

/-- A contract's answer: a new slice that may grow. -/
def NewS (H : Hp) (k : Nat) (e : TypeId) (sz l : Nat) (cells : List Value) (v : Value) (H' : Hp) (k' : Nat) : Prop :=
  ∃ q, k ≤ q ∧ q < k' ∧ v = .slice (some ⟨q, 0, some 1⟩) l l ∧ H' = upd H q (some { cells := cells, elem := e, kind := .grow, esz := sz })
abbrev NewB (H : Hp) (k : Nat) (e : TypeId) (bs : List UInt8) : Value → Hp → Nat → Prop := NewS H k e 1 bs.length (bs.map bv)
end Go.Ab
