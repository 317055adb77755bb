/- Pairs of digests in memory: made, loaded, compared. No condition. -/
import Derived.Test.YtipaiielkpifoaaDoorS24
set_option linter.unusedVariables false
set_option linter.unusedSimpArgs false
set_option maxRecDepth 100000
namespace Go.Proofs.YtipaiielkpifoaaDoor
open Go Go.Ab

abbrev rcs (a b : Dg) (rest : List Value) : List Value := a.l.map bv ++ (b.l.map bv ++ rest)
abbrev rv (x : Dg × Dg) : Value := .agg (rcs x.1 x.2 []).toArray
abbrev bvv (x : Dg × Dg × Bool) : Value := .agg (rcs x.1 x.2.1 [.bool x.2.2]).toArray
theorem rcs_len (a b : Dg) (r : List Value) : (rcs a b r).length = 64 + r.length := by simp [rcs, a.h, b.h]; omega
theorem rv_size (x : Dg × Dg) : (rv x).cells.size = 64 := by show (rcs x.1 x.2 []).toArray.size = 64; rw [List.size_toArray, rcs_len]; rfl
theorem bvv_size (x : Dg × Dg × Bool) : (bvv x).cells.size = 65 := by show (rcs x.1 x.2.1 [.bool x.2.2]).toArray.size = 65; rw [List.size_toArray, rcs_len]; rfl
theorem rcs_one (a b : Dg) (r : List Value) (hr : r.all (·.oneCell') = true) : (rcs a b r).toArray.toList.all (·.oneCell') = true := by
  simp only [rcs, List.all_append, Bool.and_eq_true]
  exact ⟨one_bv a.l, one_bv b.l, hr⟩
theorem rcs_arr (a b : Dg) (r : List Value) (hr : r.all (·.oneCell') = true) : (rcs a b r).toArray.all (·.oneCell') = true := by
  have h := rcs_one a b r hr
  rw [← Array.all_toList]
  exact h
theorem fold_at : ∀ (vals : List Value) (o k : Nat) (z0 : Array Value), o + k + vals.length ≤ z0.size →
    ((vals.zipIdx k).foldl (fun cs (p : Value × Nat) => cs.setIfInBounds (o + p.2) p.1) z0).toList = z0.toList.take (o + k) ++ vals ++ z0.toList.drop (o + k + vals.length)
  | [], o, k, z0, _ => by simp
  | v :: vals, o, k, z0, hk => by
    simp only [List.length_cons] at hk
    rw [List.zipIdx_cons, List.foldl_cons, fold_at vals o (k + 1) _ (by simp; omega)]
    have hl : o + k < z0.toList.length := by rw [Array.length_toList]; omega
    have e : (z0.setIfInBounds (o + k) v).toList = z0.toList.take (o + k) ++ v :: z0.toList.drop (o + k + 1) := by
      rw [Array.toList_setIfInBounds, List.set_eq_take_append_cons_drop, if_pos hl]
    have ht : (z0.toList.take (o + k) ++ v :: z0.toList.drop (o + k + 1)).take (o + (k + 1)) = z0.toList.take (o + k) ++ [v] := by
      rw [List.take_append, List.take_take, Nat.min_eq_right (by omega), List.length_take, Nat.min_eq_left (by omega), show o + (k + 1) - (o + k) = 1 by omega]
      simp
    have hd : (z0.toList.take (o + k) ++ v :: z0.toList.drop (o + k + 1)).drop (o + (k + 1) + vals.length) = z0.toList.drop (o + k + (vals.length + 1)) := by
      rw [List.drop_append, List.length_take, Nat.min_eq_left (by omega), List.drop_eq_nil_of_le (show (z0.toList.take (o + k)).length ≤ o + (k + 1) + vals.length by rw [List.length_take]; omega), show o + (k + 1) + vals.length - (o + k) = vals.length + 1 by omega, List.drop_succ_cons, List.drop_drop, List.nil_append]
      congr 1
      omega
    rw [e, ht, hd, List.length_cons]
    simp
/-- A part that is an aggregate is put at its place. -/
theorem fill_put {place : Nat → Option (Nat × Nat)} {i off n : Nat} {A : List Value} {z0 : Array Value} {rest : List (Nat × Value)} {v : Value} (hv : v.cells = A.toArray) (hp : place i = some (off, n)) (hA : A.length = n) (hz : off + n ≤ z0.size) :
    ∃ z1 : Array Value, Instr.fill place z0 ((i, v) :: rest) = Instr.fill place z1 rest ∧ z1.toList = z0.toList.take off ++ A ++ z0.toList.drop (off + n) := by
  have hfl := fold_at A off 0 z0 (by omega)
  refine ⟨(A.zipIdx 0).foldl (fun cs (p : Value × Nat) => cs.setIfInBounds (off + p.2) p.1) z0, ?_, by rw [hA, Nat.add_zero] at hfl; exact hfl⟩
  simp only [Instr.fill, hp, hv]
  rw [if_neg (by rw [List.size_toArray, hA]; simp; omega), ← Array.foldl_toList]
  simp
section
variable {P : Program} {NG : Nat} {fr : Fr} {H : Hp} {nk : Nat} {R : Value → Hp → Nat → Prop} {o : Oper}
theorem AOp.buildR {t : TypeId} {ps : Array (Nat × Operand)} {cs0 : Array Value} (a b : Dg) (ho : o.op = .build t ps) [hz : ZeroInfo P t (.agg cs0)] [hp : PlInfo P t [(0, 32), (32, 32)]] (hs : cs0.size = 64)
    (hx : aparts NG fr ps = some [(0, hv a), (1, hv b)]) (hR : R (rv (a, b)) H nk) : AOp P NG o ⟨fr, H, nk⟩ R := by
  obtain ⟨z1, h1, h2⟩ := fill_put (place := fun i => ([(0, 32), (32, 32)] : List (Nat × Nat))[i]?) (i := 0) (A := a.l.map bv) (z0 := cs0) (rest := [(1, hv b)]) (v := hv a) rfl rfl (hcs_one a) (by omega)
  have hz1 : z1.size = 64 := by rw [← Array.length_toList, h2]; simp [a.h, hs]
  obtain ⟨z2, h3, h4⟩ := fill_put (place := fun i => ([(0, 32), (32, 32)] : List (Nat × Nat))[i]?) (i := 1) (A := b.l.map bv) (z0 := z1) (rest := []) (v := hv b) rfl rfl (hcs_one b) (by omega)
  have e : z2 = (rcs a b []).toArray := by
    apply Array.toList_inj.1
    rw [h4, h2, List.take_zero, List.nil_append, List.take_append, List.take_of_length_le (show (a.l.map bv).length ≤ 32 by rw [hcs_one]; omega), hcs_one, Nat.sub_self, List.take_zero, List.append_nil,
      List.drop_of_length_le (by simp [a.h, hs]), List.append_nil, rcs, List.append_nil]
  refine AOp.buildS (cells := (rcs a b []).toArray) (pl := [(0, 32), (32, 32)]) ho hx ?_ hR
  show Instr.fill _ cs0 _ = _
  rw [h1, h3, e]
  rfl
theorem AOp.loadFst {t : TypeId} {x : Operand} {n : Nat} {b : Blk} (D : Dg) (rest : List Value) (hn : H n = some b) (hb : b.cells = D.l.map bv ++ rest) (ho : o.op = .load t x) [ht : TyInfo P t true 32] (hx : aeval NG fr x = some (.pointer (some ⟨n, 0, none⟩))) (hR : R (hv D) H nk) : AOp P NG o ⟨fr, H, nk⟩ R :=
  AOp.loadN (cs := D.l.map bv) ho hx hn (by rw [hb, List.length_append, hcs_one]; omega) (by rw [hb, List.drop_zero, List.take_append, List.take_of_length_le (show (D.l.map bv).length ≤ 32 by rw [hcs_one]; omega), hcs_one, Nat.sub_self, List.take_zero, List.append_nil]) hR
theorem AOp.loadSnd {t : TypeId} {x : Operand} {n : Nat} {b : Blk} (D E : Dg) (rest : List Value) (hn : H n = some b) (hb : b.cells = rcs D E rest) (ho : o.op = .load t x) [ht : TyInfo P t true 32] (hx : aeval NG fr x = some (.pointer (some ⟨n, 32, none⟩))) (hR : R (hv E) H nk) : AOp P NG o ⟨fr, H, nk⟩ R :=
  AOp.loadN (cs := E.l.map bv) ho hx hn (by rw [hb, rcs_len]; omega) (by rw [hb, rcs, List.drop_append, List.drop_of_length_le (show (D.l.map bv).length ≤ 32 by rw [hcs_one]; omega), hcs_one, Nat.sub_self, List.drop_zero, List.nil_append, List.take_append, List.take_of_length_le (show (E.l.map bv).length ≤ 32 by rw [hcs_one]; omega), hcs_one, Nat.sub_self, List.take_zero, List.append_nil]) hR
end
theorem rv_iff (x y : Dg × Dg) : decide (x = y) = true ↔ (rcs x.1 x.2 []).toArray = (rcs y.1 y.2 []).toArray := by
  rw [decide_eq_true_eq]
  constructor
  · rintro rfl; rfl
  · intro h
    have h2 : rcs x.1 x.2 [] = rcs y.1 y.2 [] := by simpa using congrArg Array.toList h
    obtain ⟨h3, h4⟩ := List.append_inj h2 (by rw [hcs_one, hcs_one])
    rw [List.append_nil, List.append_nil] at h4
    exact Prod.ext (Dg.ext_ (map_bv_inj h3)) (Dg.ext_ (map_bv_inj h4))
theorem rv_sc (x : Dg × Dg) : (scals (List.replicate 32 (.int .u8) ++ List.replicate 32 (.int .u8)) (rcs x.1 x.2 []).toArray.toList).isSome = true := by
  have h := scals_bytes (x.1.l ++ x.2.l)
  rw [List.length_append, x.1.h, x.2.h, List.map_append] at h
  show (scals (List.replicate (32 + 32) (.int .u8)) (rcs x.1 x.2 [])).isSome = true
  rw [rcs, List.append_nil, h]
  rfl
end Go.Proofs.YtipaiielkpifoaaDoor
