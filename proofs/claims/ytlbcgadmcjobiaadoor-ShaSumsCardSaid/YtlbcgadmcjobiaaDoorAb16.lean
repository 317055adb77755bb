/- Abstract states over the model, part 16: a law that answers true over abstract arguments meets its row's contract. No condition but that the parameters' types are plain; over any program. -/
import Derived.Test.YtlbcgadmcjobiaaDoorAb15
import Derived.Below
import Derived.Carry
import Derived.ChangeSame
import Derived.Handed
set_option linter.unusedVariables false
set_option linter.unusedSimpArgs false
namespace Go.Ab
open Go.RowKit Go.WideShapes Go.ChangeShapes

/-- An abstract value of a type. -/
def AV (P : Program) (H : Hp) (t : TypeId) (u : Value) : Prop :=
  match P.underlying t with
  | some (.struct _) | some (.array _ _) => ∃ cs, u = .agg cs ∧ AD P H (.one t) cs.toList
  | _ => AD P H (.one t) [u]

/-- Abstract values, one a type. -/
def AVs (P : Program) (H : Hp) : List TypeId → List Value → Prop
  | [], us => us = []
  | t :: ts, us => ∃ u r, us = u :: r ∧ AV P H t u ∧ AVs P H ts r

theorem AV.mono {P : Program} {H H' : Hp} (hs : Sub H H') {t : TypeId} {u : Value} (h : AV P H t u) : AV P H' t u := by
  unfold AV at h ⊢
  split at h
  · obtain ⟨cs, h1, h2⟩ := h
    exact ⟨cs, h1, h2.mono hs⟩
  · obtain ⟨cs, h1, h2⟩ := h
    exact ⟨cs, h1, h2.mono hs⟩
  · exact h.mono hs

section
variable {P : Program} {NG B : Nat} {w0 w : World} {Hh : Type} {enc : TypeId × Value → Hh} {spare : Nat → Bool} {held : Bool}

theorem took_arg {T : List TypeId} (hT : plains P T = true) (hB : w.heap.size ≤ B) {t : TypeId} (hc : T.contains t = true) {v : Value} {d : DataW Hh} {ps : List MemPlace} {r : Reach} {b0 : Nat} (hv : Value.okWide P w r b0 t v) (h : DataW.Trod enc P w 0 spare held t v d ps)
    {G : GMap} {H : Hp} {k : Nat} (hS : SRel NG B w0 G H k w) : ∃ G' H' k' u, SRel NG B w0 G' H' k' w ∧ GLe G G' ∧ Sub H H' ∧ k ≤ k' ∧ VRel G' u v ∧ AV P H' t u := by
  obtain ⟨fuel, hf⟩ := h
  obtain ⟨hlen, ht⟩ := took_trod hT hB fuel t _ _ hc hf
  obtain ⟨G1, H1, k1, c1, a1, a2, a3, a4, a5, a6⟩ := ht G H k hS
  have hp := plainAt_of hT hc
  have agg : (∃ cs, v = .agg cs) → VRel G1 (.agg c1.toArray) v := by
    rintro ⟨cs, rfl⟩
    refine .agg (by simpa [Value.cells] using a5.1) fun i x x' h1 h2 => a5.2 i x x' (by simpa using h1) (by simpa [Value.cells] using h2)
  have one : v.cells = #[v] → ∃ u, c1 = [u] ∧ VRel G1 u v := by
    intro hv1
    rw [hv1] at a5
    obtain ⟨u, rfl⟩ : ∃ u, c1 = [u] := by
      have := a5.1
      match c1, this with
      | [u], _ => exact ⟨u, rfl⟩
    exact ⟨u, rfl, a5.2 0 u v rfl rfl⟩
  unfold plainAt at hp
  split at hp
  · rename_i hu
    obtain ⟨b, rfl⟩ := okWide_bool hu hv
    obtain ⟨u, rfl, h1⟩ := one rfl
    exact ⟨G1, H1, k1, u, a1, a2, a3, a4, h1, by unfold AV; rw [hu]; exact a6⟩
  · rename_i hu
    obtain ⟨b, rfl⟩ := okWide_int hu hv
    obtain ⟨u, rfl, h1⟩ := one rfl
    exact ⟨G1, H1, k1, u, a1, a2, a3, a4, h1, by unfold AV; rw [hu]; exact a6⟩
  · rename_i hu
    obtain ⟨b, rfl⟩ := okWide_string hu hv
    obtain ⟨u, rfl, h1⟩ := one rfl
    exact ⟨G1, H1, k1, u, a1, a2, a3, a4, h1, by unfold AV; rw [hu]; exact a6⟩
  · rename_i hu
    obtain ⟨b, rfl⟩ := okWide_pointer hu hv
    obtain ⟨u, rfl, h1⟩ := one rfl
    exact ⟨G1, H1, k1, u, a1, a2, a3, a4, h1, by unfold AV; rw [hu]; exact a6⟩
  · rename_i hu
    obtain ⟨b, l, c, rfl⟩ := okWide_slice hu hv
    obtain ⟨u, rfl, h1⟩ := one rfl
    exact ⟨G1, H1, k1, u, a1, a2, a3, a4, h1, by unfold AV; rw [hu]; exact a6⟩
  · rename_i hu
    obtain ⟨cs, rfl, _⟩ := okWide_struct hu hv
    exact ⟨G1, H1, k1, _, a1, a2, a3, a4, agg ⟨_, rfl⟩, by unfold AV; rw [hu]; exact ⟨_, rfl, a6⟩⟩
  · rename_i hu
    have : ∃ cs, v = .agg cs := by
      simp only [Value.okWide, hu] at hv
      obtain ⟨cs, h1, _⟩ := hv
      exact ⟨cs, h1⟩
    exact ⟨G1, H1, k1, _, a1, a2, a3, a4, agg this, by unfold AV; rw [hu]; exact ⟨_, rfl, a6⟩⟩
  · cases hp

theorem took_args {T : List TypeId} (hT : plains P T = true) (hB : w.heap.size ≤ B) {r : Reach} {b0 : Nat} : ∀ (ts : List TypeId) (vs : List Value) (ds : List (DataW Hh)) (ps : List MemPlace), (∀ t ∈ ts, T.contains t = true) →
    (∀ (j : Nat) t v, ts[j]? = some t → vs[j]? = some v → Value.okWide P w r b0 t v) → DataW.TrodAll enc P w 0 spare held ts vs ds ps → ∀ G H k, SRel NG B w0 G H k w →
    ∃ G' H' k' us, SRel NG B w0 G' H' k' w ∧ GLe G G' ∧ Sub H H' ∧ k ≤ k' ∧ us.length = vs.length ∧ (∀ (i : Nat) (u : Value), us[i]? = some u → ∃ v, vs[i]? = some v ∧ VRel G' u v) ∧ AVs P H' ts us
  | [], vs, ds, ps, _, _, h, G, H, k, hS => by
    obtain ⟨h1, rfl, rfl⟩ := trodAll_nil h
    exact ⟨G, H, k, [], hS, GLe.refl _, sub_refl _, Nat.le_refl _, by simp [h1], fun i u hu => by simp at hu, rfl⟩
  | t :: ts, vs, ds, ps, ht, hv, h, G, H, k, hS => by
    obtain ⟨v, vs', d, ds', p, q, rfl, rfl, rfl, hd, hr⟩ := trodAll_cons h
    obtain ⟨G1, H1, k1, u, a1, a2, a3, a4, a5, a6⟩ := took_arg hT hB (ht t (by simp)) (hv 0 t v rfl rfl) hd hS
    obtain ⟨G2, H2, k2, us, b1, b2, b3, b4, b5, b6, b7⟩ := took_args hT hB ts vs' ds' q (fun x hx => ht x (by simp [hx])) (fun j x y h1 h2 => hv (j + 1) x y h1 h2) hr G1 H1 k1 a1
    refine ⟨G2, H2, k2, u :: us, b1, a2.trans b2, sub_trans a3 b3, Nat.le_trans a4 b4, by simp [b5], fun i x hx => ?_, ⟨u, us, rfl, a6.mono b3, b7⟩⟩
    cases i with
    | zero =>
      simp at hx
      subst hx
      exact ⟨v, by simp, a5.mono b2⟩
    | succ i =>
      simp at hx
      obtain ⟨y, h1, h2⟩ := b6 i x hx
      exact ⟨y, by simpa using h1, h2⟩

theorem trodAll_len {base : Nat} : ∀ {ts : List TypeId} {vs : List Value} {ds : List (DataW Hh)} {ps : List MemPlace}, DataW.TrodAll enc P w base spare held ts vs ds ps → ds.length = ts.length
  | [], vs, ds, ps, h => by
    obtain ⟨h1, rfl, rfl⟩ := trodAll_nil h
    rfl
  | t :: ts, vs, ds, ps, h => by
    obtain ⟨v, vs', d, ds', p, q, rfl, rfl, rfl, hd, hr⟩ := trodAll_cons h
    simp [trodAll_len hr]

/-- Where a call starts: the program's variables have their names, nothing else is named. -/
def startG (NG : Nat) : GMap := fun n => if n < NG then .at ⟨n, 0, none⟩ else .free
theorem SRel.start (NG : Nat) (w : World) (H : Hp) (hH : ∀ n b, H n = some b → n < NG ∧ b.kind = .ro ∧ n < w.heap.size ∧ CRel (startG NG) b.cells (fun j => w.cell? ⟨n, j, none⟩) b.cells.length) : SRel NG w.heap.size w (startG NG) H NG w where
  below := Below.refl _ _
  base := Nat.le_refl _
  glob := fun g hg => by simp [startG, hg]
  le := Nat.le_refl _
  blk := fun n b hn => by
    obtain ⟨h1, h2, h3, h4⟩ := hH n b hn
    unfold BRel
    rw [h2]
    refine ⟨⟨n, 0, none⟩, by simp [startG, h1], h3, h4.ext fun j _ => ?_⟩
    rw [add_plain, Nat.zero_add]
  sep := fun n m b c hn _ ho => by
    have := (hH n b hn).2.1
    unfold Blk.own at ho
    rw [this] at ho
    cases ho
  fresh := fun n hn => by
    refine ⟨?_, by simp [startG]; omega⟩
    cases h : H n with
    | none => rfl
    | some b =>
      have := (hH n b h).1
      omega

/-- A law that answers true over what it is given: so it does at the arguments that the world holds; what was there stays. -/
theorem law_calls {T : List TypeId} {f : FuncId} {fn : Func} {args : Array Value} {ds : List (DataW Hh)} {ps : List MemPlace} {r : Reach} {b0 : Nat} {H0 : Hp} (hT : plains P T = true) (hts : ∀ t ∈ fn.params.toList, T.contains t = true)
    (hval : ∀ (j : Nat) t v, fn.params[j]? = some t → args[j]? = some v → Value.okWide P w r b0 t v) (hA : DataW.TrodAll enc P w 0 spare held fn.params.toList args.toList ds ps)
    (hS : SRel NG w.heap.size w (startG NG) H0 NG w)
    (hc : ∀ H k us, Sub H0 H → NG ≤ k → AVs P H fn.params.toList us → ACalls P NG f us H k fun v _ _ => v = .bool true) :
    Calls P f args w fun e w' => e = .returned (.bool true) ∧ Below w.heap.size w w' := by
  obtain ⟨G1, H1, k1, us, a1, a2, a3, a4, a5, a6, a7⟩ := took_args hT (Nat.le_refl _) fn.params.toList args.toList ds ps hts (fun j t v h1 h2 => hval j t v (by simpa using h1) (by simpa using h2)) hA _ _ _ hS
  refine (hc H1 k1 us a3 a4 a7 _ _ _ args w a1 ⟨by simpa using a5, fun i u hu => ?_⟩).mono ?_
  · obtain ⟨v, h1, h2⟩ := a6 i u hu
    exact ⟨v, by simpa using h1, h2⟩
  · rintro e w' ⟨v, v', H', k', G', rfl, rfl, hv, hS', hK⟩
    rw [hv.bool_]
    exact ⟨rfl, hS'.below⟩

theorem trodAll_below (hl : laidOutB P = true) {W W' : World} (hb : Below W.heap.size W W') {sp : Nat → Bool} (hsp : ∀ b, b < W.heap.size → sp b = true) : ∀ {ts : List TypeId} {vs : List Value} {ds : List (DataW Hh)} {ps : List MemPlace},
    (∀ t ∈ ts, P.readableRec t = true ∧ t < P.types.size) → DataW.TrodAll enc P W 0 (fun _ => true) true ts vs ds ps → (∀ x ∈ ps, x.block < W.heap.size) → DataW.TrodAll enc P W' 0 sp true ts vs ds ps
  | [], vs, ds, ps, _, h, _ => by
    obtain ⟨h1, rfl, rfl⟩ := trodAll_nil h
    cases vs <;> simp_all [DataW.TrodAll]
  | t :: ts, vs, ds, ps, ht, h, hlt => by
    obtain ⟨v, vs', d, ds', p, q, rfl, rfl, rfl, hd, hr⟩ := trodAll_cons h
    exact ⟨p, q, WideElems.Trod_stays hl (ht t (by simp)).1 (ht t (by simp)).2 hd (fun x hx => hb.same (hlt x (by simp [hx]))) (fun x hx => hsp _ (hlt x (by simp [hx]))),
      trodAll_below hl hb hsp (fun x hx => ht x (by simp [hx])) hr (fun x hx => hlt x (by simp [hx])), rfl⟩

/-- The row's answer to 'true', what it was given as it was. -/
theorem law_post (hl : laidOutB P = true) {fn : Func} {s : ChangeSpec} {W W' : World} {args : Array Value} {ds gs : List (DataW Hh)} {before : List MemPlace} {tb : TypeId} (hvars : s.vars = []) (hfn : (s.fn Hh ds).results = [.lit (.bool true)] ∧ (s.fn Hh ds).args = ds ∧ (s.fn Hh ds).vars = [])
    (hread : ∀ t ∈ fn.params.toList, P.readableRec t = true ∧ t < P.types.size) (hres : fn.resultTypes = #[tb]) (hb : P.underlying tb = some .bool)
    (hW : DataW.Whole enc P fn.params.toList s.vars false W args.toList ds gs before) (hbel : Below W.heap.size W W') : s.post enc P fn false true false false W args (.bool true) W' := by
  have hW' := hW
  have hlt : ∀ p ∈ before, p.block < W.heap.size := fun p hp => hW.lt p hp
  obtain ⟨p, q, hA, hV, hpq, hfz, hnd⟩ := hW
  rw [hvars] at hV
  obtain ⟨rfl, rfl⟩ := trodVars_none hV
  simp only [List.append_nil] at hpq
  subst hpq
  have hargs : ∀ sp : Nat → Bool, (∀ b, b < W.heap.size → sp b = true) → DataW.TrodAll enc P W' 0 sp true fn.params.toList args.toList (s.fn Hh (ds ++ [])).args before := fun sp hsp => by
    rw [List.append_nil, hfn.2.1]
    exact trodAll_below hl hbel hsp hread hA hlt
  refine ⟨ds, [], before, [], before, [], hW', ?_, hargs _ (fun b hb' => by simpa using hb'), ?_, World.keptBut_mono (fun p hp => ⟨hp, .inr (.inl hp)⟩) (hbel.frame (· ∈ before)), fun h => by cases h⟩
  · rw [List.append_nil, hfn.1, hres]
    exact trodAll_mk1 (shut_bool hb _)
  · rw [List.append_nil, hfn.2.2, hvars]
    rfl
end
end Go.Ab
