/- A slice's literal of three elements of several cells; a predicate with a slice of its own may be named anew. No condition. -/
import Derived.Test.YtnciojaecelhmaaDoorZ6
set_option linter.unusedVariables false
set_option linter.unusedSimpArgs false
set_option maxRecDepth 100000
namespace Go.Proofs.YtnciojaecelhmaaDoor
open Go Go.Ab
theorem AOp.buildH3 {P : Program} {NG : Nat} {fr : Fr} {H : Hp} {nk : Nat} {R : Value → Hp → Nat → Prop} {o : Oper} {t e : TypeId} {ps : Array (Nat × Operand)} {z v u x : Value} {n : Nat} (cs ds es : List Value) (hv : v = .agg cs.toArray) (hu : u = .agg ds.toArray) (hw : x = .agg es.toArray) (hn : cs.length = n) (hm : ds.length = n) (hl : es.length = n) (h0 : 0 < n) (hb : n ≤ 1000000) (ho : o.op = .buildSlice t 3 ps) [hf : SlInfo P t e n] [hz : ZeroInfo P e z]
    (hx : aparts NG fr ps = some [(0, v), (1, u), (2, x)])
    (hR : R (.slice (some ⟨nk, 0, some 1⟩) 3 3) (upd H nk (some { cells := cs ++ ds ++ es, elem := e, kind := .grow, esz := n })) (nk + 1)) : AOp P NG o ⟨fr, H, nk⟩ R := by
  subst hv
  subst hu
  subst hw
  have hz : (litZ z (3 * n)).size = 3 * n := by
    unfold litZ
    rw [if_neg (by omega)]
    simp
  obtain ⟨z1, h1, h2⟩ := fill_put (place := fun i => some (i * n, n)) (i := 0) (off := 0) (n := n) (A := cs) (z0 := litZ z (3 * n)) (rest := [(1, .agg ds.toArray), (2, .agg es.toArray)]) (v := .agg cs.toArray) rfl (by rw [Nat.zero_mul]) hn (by omega)
  have hz1 : z1.size = 3 * n := by rw [← Array.length_toList, h2]; simp [hn, hz]; omega
  obtain ⟨z2, h3, h4⟩ := fill_put (place := fun i => some (i * n, n)) (i := 1) (off := n) (n := n) (A := ds) (z0 := z1) (rest := [(2, .agg es.toArray)]) (v := .agg ds.toArray) rfl (by rw [Nat.one_mul]) hm (by omega)
  have hz2 : z2.size = 3 * n := by rw [← Array.length_toList, h4]; simp [hm, hz1]; omega
  obtain ⟨z3, h5, h6⟩ := fill_put (place := fun i => some (i * n, n)) (i := 2) (off := 2 * n) (n := n) (A := es) (z0 := z2) (rest := []) (v := .agg es.toArray) rfl rfl hl (by omega)
  have e5 : z1.toList.take n = cs := by rw [h2, List.take_zero, List.nil_append, List.take_append, List.take_of_length_le (by omega), hn, Nat.sub_self, List.take_zero, List.append_nil]
  have e6 : z2.toList.take (2 * n) = cs ++ ds := by rw [h4, e5, List.take_append, List.take_of_length_le (by rw [List.length_append]; omega), List.length_append, hn, hm, show 2 * n - (n + n) = 0 by omega, List.take_zero, List.append_nil]
  have e7 : z3 = (cs ++ ds ++ es).toArray := by
    apply Array.toList_inj.1
    rw [h6, e6, List.drop_of_length_le (by rw [Array.length_toList, hz2]; omega), List.append_nil]
  refine AOp.buildGr (cells := (cs ++ ds ++ es).toArray) ho h0 (by omega) hx ?_ (by simp [hn, hm, hl]; omega) hR
  show Instr.fill _ _ _ = _
  rw [h1, h3, h5, e7]
  rfl
theorem RenOk.pd {op col : Int} {l : Nat} : RenOk fun n => pv op col (some ⟨n, 0, some 1⟩) l l none 0 0 := fun G G2 n r x h e _ => by
  cases h with
  | plain hp => simp [isPlain] at hp
  | @agg _ cs' hs h =>
    refine .agg hs fun i v v' hv hv' => ?_
    match i, hv with
    | 0, hv => injection hv with hv; subst hv; rw [(h 0 _ v' rfl hv').plain_ rfl]; exact .plain rfl
    | 1, hv => injection hv with hv; subst hv; rw [(h 1 _ v' rfl hv').plain_ rfl]; exact .plain rfl
    | 2, hv => injection hv with hv; subst hv; exact RenOk.grow G G2 n r v' (h 2 _ v' rfl hv') e (by assumption)
    | 3, hv => injection hv with hv; subst hv; rw [(h 3 _ v' rfl hv').plain_ rfl]; exact .plain rfl
    | i + 4, hv => simp at hv
end Go.Proofs.YtnciojaecelhmaaDoor
