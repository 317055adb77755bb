/- Lists of digests that grow: a literal of one digest, a digest put behind; the answer of the functions that find a path. No condition. -/
import Derived.Test.YtipaiielkpifoaaDoorS16
set_option linter.unusedVariables false
set_option maxRecDepth 100000
namespace Go.Proofs.YtipaiielkpifoaaDoor
open Go Go.Ab
theorem fold_set : ∀ (vals : List Value) (k : Nat) (z0 : Array Value), k + vals.length ≤ z0.size →
    ((vals.zipIdx k).foldl (fun cs (p : Value × Nat) => cs.setIfInBounds (0 + p.2) p.1) z0).toList = z0.toList.take k ++ vals ++ z0.toList.drop (k + vals.length)
  | [], k, z0, _ => by simp
  | v :: vals, k, z0, hk => by
    simp only [List.length_cons] at hk
    rw [List.zipIdx_cons, List.foldl_cons, fold_set vals (k + 1) _ (by simp; omega)]
    have hl : k < z0.toList.length := by rw [Array.length_toList]; omega
    have e : (z0.setIfInBounds (0 + k) v).toList = z0.toList.take k ++ v :: z0.toList.drop (k + 1) := by
      rw [Nat.zero_add, Array.toList_setIfInBounds, List.set_eq_take_append_cons_drop, if_pos hl]
    have ht : (z0.toList.take k ++ v :: z0.toList.drop (k + 1)).take (k + 1) = z0.toList.take k ++ [v] := by
      rw [List.take_append, List.take_take, Nat.min_eq_right (by omega), List.length_take, Nat.min_eq_left (by omega), show k + 1 - k = 1 by omega]
      simp
    have hd : (z0.toList.take k ++ v :: z0.toList.drop (k + 1)).drop (k + 1 + vals.length) = z0.toList.drop (k + (vals.length + 1)) := by
      rw [List.drop_append, List.length_take, Nat.min_eq_left (by omega), List.drop_eq_nil_of_le (show (z0.toList.take k).length ≤ k + 1 + vals.length by rw [List.length_take]; omega), show k + 1 + vals.length - k = vals.length + 1 by omega, List.drop_succ_cons, List.drop_drop, List.nil_append]
      congr 1
      omega
    rw [e, ht, hd, List.length_cons]
    simp
theorem AOp.buildH {P : Program} {NG : Nat} {fr : Fr} {H : Hp} {nk : Nat} {R : Value → Hp → Nat → Prop} {o : Oper} {t e : TypeId} {ps : Array (Nat × Operand)} {z v : Value} {n : Nat} (cs : List Value) (hv : v = .agg cs.toArray) (hn : cs.length = n) (h0 : 0 < n) (hb : n ≤ 16777216) (ho : o.op = .buildSlice t 1 ps) [hf : SlInfo P t e n] [hz : ZeroInfo P e z]
    (hx : aparts NG fr ps = some [(0, v)])
    (hR : R (.slice (some ⟨nk, 0, some 1⟩) 1 1) (upd H nk (some { cells := cs, elem := e, kind := .grow, esz := n })) (nk + 1)) : AOp P NG o ⟨fr, H, nk⟩ R := by
  subst hv
  have hz : (litZ z (1 * n)).size = n := by
    unfold litZ
    rw [if_neg (by omega)]
    simp
  have hc : (Value.agg cs.toArray).cells = cs.toArray := rfl
  have hfl := fold_set cs 0 (litZ z (1 * n)) (by omega)
  rw [List.take_zero, List.nil_append, List.drop_eq_nil_of_le (by rw [Array.length_toList]; omega), List.append_nil] at hfl
  refine AOp.buildGr (cells := cs.toArray) ho h0 (by omega) hx ?_ (by simp; omega) hR
  simp only [Instr.fill, hc]
  rw [if_neg (by rw [List.size_toArray, hn, hz, Nat.zero_mul]; simp)]
  congr 1
  apply Array.toList_inj.1
  refine Eq.trans (congrArg Array.toList ?_) hfl
  rw [← Array.foldl_toList]
  simp
/-- A grown slice of digests as a block. -/
abbrev pbk (e : TypeId) (p : List Dg) : Blk := { cells := hcs p, elem := e, kind := .grow, esz := 32 }
abbrev psl (n : Nat) (p : List Dg) : Value := .slice (some ⟨n, 0, some 1⟩) p.length p.length
theorem hcs_cat (p r : List Dg) : hcs (p ++ r) = hcs p ++ hcs r := by simp [hcs, List.flatMap_append]
theorem AOp.buildD {P : Program} {NG : Nat} {fr : Fr} {H : Hp} {nk : Nat} {R : Value → Hp → Nat → Prop} {o : Oper} {t e : TypeId} {ps : Array (Nat × Operand)} {z : Value} (D : Dg) (ho : o.op = .buildSlice t 1 ps) [hf : SlInfo P t e 32] [hz : ZeroInfo P e z]
    (hx : aparts NG fr ps = some [(0, hv D)]) (hR : R (psl nk [D]) (upd H nk (some (pbk e [D]))) (nk + 1)) : AOp P NG o ⟨fr, H, nk⟩ R :=
  AOp.buildH (D.l.map bv) rfl (hcs_one D) (by decide) (by decide) ho hx (by
    have e1 : hcs [D] = D.l.map bv := by simp [hcs]
    rw [← e1]; exact hR)
theorem SLC.pbk {H : Hp} {n e : Nat} {p : List Dg} (hn : H n = some (pbk e p)) : SLC H 32 (some ⟨n, 0, some 1⟩) p.length p.length (hcs p) := SLC.grow hn rfl (by rw [hcs_len])
theorem AOp.appendP {P : Program} {NG : Nat} {fr : Fr} {H : Hp} {nk : Nat} {R : Value → Hp → Nat → Prop} {o : Oper} {x y : Operand} {t tx e e' e2 : TypeId} {bytes n n2 z2 : Nat} (p r : List Dg) (ho : o.op = .call { callee := .builtin .append, args := #[x, y], argTypes := #[t, tx] }) [he : ElemInfo P t e 32 bytes] [hs2 : SlInfo P tx e2 z2]
    (hx : aeval NG fr x = some (psl n p)) (hy : aeval NG fr y = some (psl n2 r)) (hn : H n = some (pbk e p)) (hn2 : H n2 = some (pbk e' r)) (hb : (p.length + r.length) * bytes ≤ 140737488355328) (h63 : p.length + r.length ≤ 9223372036854775807)
    (hR : R (psl n (p ++ r)) (upd H n (some (pbk e (p ++ r)))) nk) : AOp P NG o ⟨fr, H, nk⟩ R := by
  refine AOp.append' (b := pbk e p) (m := r.length) (news := hcs r) ho hx hy hn (srcOf_grow (b := pbk e' r) hn2 rfl (by rw [hcs_len])) rfl rfl rfl (by rw [hcs_len]) srcOk_sl ?_ hb h63 ?_
  · intro u hu
    obtain ⟨d, _, hd⟩ := List.mem_flatMap.1 hu
    obtain ⟨b, _, rfl⟩ := List.mem_map.1 hd
    rfl
  · rw [← List.length_append]
    show R _ (upd H n (some { cells := hcs p ++ hcs r, elem := e, kind := .grow, esz := 32 })) nk
    rw [← hcs_cat]
    exact hR
/-- A new list of digests, and whether there is one. -/
def NewP (H : Hp) (k : Nat) (e : TypeId) (p : List Dg) (is : Bool) (v : Value) (H' : Hp) (k' : Nat) : Prop := ∃ q, k ≤ q ∧ q < k' ∧ v = .tuple #[psl q p, .bool is] ∧ H' = upd H q (some (pbk e p))
def NewD (H : Hp) (k : Nat) (e : TypeId) (p : List Dg) (v : Value) (H' : Hp) (k' : Nat) : Prop := ∃ q, k ≤ q ∧ q < k' ∧ v = psl q p ∧ H' = upd H q (some (pbk e p))
theorem pathT_len (l : List (List UInt8)) : ∀ (N i : Nat) (l : List (List UInt8)), l.length < N → (pathT l i).length ≤ l.length
  | 0, i, l, h => by omega
  | N + 1, i, l, h => by
    by_cases h2 : 2 ≤ l.length
    · obtain ⟨s1, s2, s3⟩ := spN_spec h2
      by_cases hi : i < spN l.length
      · rw [pathT_l h2 hi, List.length_append]
        have := pathT_len l N i (l.take (spN l.length)) (by rw [List.length_take]; omega)
        rw [List.length_take] at this
        simp only [List.length_cons, List.length_nil]
        omega
      · rw [pathT_r h2 hi, List.length_append]
        have := pathT_len l N (i - spN l.length) (l.drop (spN l.length)) (by rw [List.length_drop]; omega)
        rw [List.length_drop] at this
        simp only [List.length_cons, List.length_nil]
        omega
    · rw [pathT, dif_neg h2]
      simp
theorem pathT_le (l : List (List UInt8)) (i : Nat) : (pathT l i).length ≤ l.length := pathT_len l (l.length + 1) i l (by omega)
end Go.Proofs.YtipaiielkpifoaaDoor
