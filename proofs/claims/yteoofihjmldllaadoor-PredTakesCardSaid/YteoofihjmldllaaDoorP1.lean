/- Laid variables of plain data: what their cells hold; a call starts with them. No condition but that the types are plain; over any program. -/
import Derived.Test.YteoofihjmldllaaDoorAb30
import Derived.Lib.LaidTab
set_option linter.unusedVariables false
set_option linter.unusedSimpArgs false
namespace Go.Ab
open Go.RowKit

mutual
/-- The cells of plain data. -/
def flatD : DataW Unit → Option (List Value)
  | .lit (.bool b) => some [.bool b]
  | .lit (.int k n) => some [.int k n]
  | .agg ds => flatDs ds
  | _ => none
def flatDs : List (DataW Unit) → Option (List Value)
  | [] => some []
  | d :: ds => (flatD d).bind fun a => (flatDs ds).map fun b => a ++ b
end
theorem flatDs_pieces : ∀ (ds : List (DataW Unit)) (ps : List (List Value)) (l : List Value), flatDs ds = some l → ps.length = ds.length → (∀ (i : Nat) (d : DataW Unit) (p a : List Value), ds[i]? = some d → ps[i]? = some p → flatD d = some a → p = a) → ps.flatten = l
  | [], [], l, h, _, _ => by
    injection h with h
  | d :: ds, p :: ps, l, h, hl, hp => by
    simp only [flatDs] at h
    cases h1 : flatD d with
    | none => rw [h1] at h; cases h
    | some a =>
      cases h2 : flatDs ds with
      | none => rw [h1, h2] at h; cases h
      | some b =>
        rw [h1, h2] at h
        injection h with h
        subst h
        have e1 := hp 0 d p a rfl rfl h1
        have e2 := flatDs_pieces ds ps b h2 (by simpa using hl) fun i d p a hd hp' ha => hp (i + 1) d p a hd hp' ha
        rw [List.flatten_cons, e1, e2]
  | [], _ :: _, _, _, h, _ => by simp at h
  | _ :: _, [], _, _, h, _ => by simp at h
theorem flat_trod {P : Program} {w : World} {enc : TypeId × Value → Unit} {spare : Nat → Bool} {held : Bool} {T : List TypeId} (hT : plains P T = true) : ∀ (fuel : Nat) (t : TypeId) (cs : List Value) (x : DataW Unit × List MemPlace) (l : List Value), T.contains t = true → DataW.trod enc P w 0 spare held fuel t cs = some x → flatD x.1 = some l → cs = l
  | 0, t, cs, x, l, hc, h, hl => by simp [DataW.trod] at h
  | fuel + 1, t, cs, x, l, hc, h, hl => by
    have hp := plainAt_of hT hc
    unfold plainAt at hp
    split at hp
    · rename_i hu
      obtain ⟨b, rfl, rfl⟩ := DataW.trod_bool hu h
      injection hl
    · rename_i kk hu
      obtain ⟨n, rfl, rfl, _⟩ := DataW.trod_int hu h
      injection hl
    · rename_i hu
      obtain ⟨s, rfl, rfl, _⟩ := DataW.trod_string hu h
      cases hl
    · rename_i e hu
      rcases DataW.trod_pointer hu h with ⟨rfl, rfl⟩ | ⟨a, cs', y, n, hf, rfl, rfl, hcells, hy⟩
      · cases hl
      · cases hl
    · rename_i e hu
      rcases DataW.trod_slice hu h with ⟨rfl, rfl⟩ | ⟨a, len, cap, elems, rest, n, hf, rfl, hx, _⟩
      · cases hl
      · rw [show x = (x.1, x.2) from rfl] at hx
        first
          | (rw [Prod.mk.injEq] at hx; rw [hx.1] at hl; cases hl)
          | (subst hx; cases hl)
    · rename_i fs hu
      simp only [Bool.and_eq_true, List.all_eq_true] at hp
      obtain ⟨xs, n, hf, rfl, hlen, hxl, hx⟩ := DataW.trod_struct hu h
      obtain rfl : fuel = n := by omega
      have htl := hp.2
      rw [← hlen] at htl
      obtain ⟨h1, h2, _⟩ := tiles_flat cs fs.toList 0 htl
      rw [List.drop_zero] at h1
      have hq := flatDs_pieces (xs.map (·.1)) (fs.toList.map fun f => (cs.drop f.offset).take (P.cellsOf f.type)) l (show flatDs (xs.map (·.1)) = some l from hl) (by simp [hxl]) (fun i d p a hd hp' ha => by
        rw [List.getElem?_map] at hp' hd
        cases hfi : fs.toList[i]? with
        | none => rw [hfi] at hp'; cases hp'
        | some f =>
          rw [hfi] at hp'
          injection hp' with hp'
          subst hp'
          have hxi := hx i f (by simpa using hfi)
          cases hxs : xs[i]? with
          | none => rw [hxs] at hd; cases hd
          | some y =>
            rw [hxs] at hd hxi
            injection hd with hd
            subst hd
            exact flat_trod hT fuel f.type _ y a (hp.1 f (List.mem_of_getElem? hfi)) hxi ha)
      exact (h1.symm.trans (by rw [List.flatMap_def, List.map_map]; rfl)).trans hq
    · rename_i n e hu
      simp only [Bool.and_eq_true, beq_iff_eq] at hp
      obtain ⟨xs, m, hf, rfl, hlen, hxl, hx⟩ := DataW.trod_array hu h
      obtain rfl : fuel = m := by omega
      have h1 := flat_replicate cs e (P.cellsOf e) n (by omega)
      rw [List.take_of_length_le (by omega)] at h1
      have hq := flatDs_pieces (xs.map (·.1)) ((List.range n).map fun i => (cs.drop (i * P.cellsOf e)).take (P.cellsOf e)) l (show flatDs (xs.map (·.1)) = some l from hl) (by simp [hxl]) (fun i d p a hd hp' ha => by
        rw [List.getElem?_map] at hp' hd
        rcases Nat.lt_or_ge i n with hi | hi
        · rw [List.getElem?_range hi] at hp'
          injection hp' with hp'
          subst hp'
          have hxi := hx i hi
          cases hxs : xs[i]? with
          | none => rw [hxs] at hd; cases hd
          | some y =>
            rw [hxs] at hd hxi
            injection hd with hd
            subst hd
            exact flat_trod hT fuel e _ y a hp.1 hxi ha
        · rw [List.getElem?_eq_none (by simpa using hi)] at hp'
          cases hp')
      exact (h1.symm.trans (by rw [List.flatMap_def, List.map_map]; rfl)).trans hq
    · cases hp
/-- The cells of a laid variable. -/
theorem laid_cells {P : Program} {w : World} {T : List TypeId} (hT : plains P T = true) : ∀ {laid : List (String × DataW Unit)} {ps : List MemPlace}, DataW.LaidVars P w laid ps → ∀ {name : String} {d : DataW Unit}, (name, d) ∈ laid → ∀ {g : Nat} {t : TypeId} {l : List Value}, P.globalNamed name = some g → (P.globals[g]?).map (·.type) = some t → T.contains t = true → flatD d = some l →
    ∀ (j : Nat) (v : Value), l[j]? = some v → w.cell? ⟨g, j, none⟩ = some v
  | [], ps, h, name, d, hm, _, _, _ => by cases hm
  | (n, d0) :: r, ps, h, name, d, hm, g, t, l => by
    intro hg ht hc hl j v hv
    obtain ⟨g', t', cs, fuel, p, q, h1, h2, h3, h4, h5, _⟩ := h
    rcases List.mem_cons.1 hm with e | hm
    · injection e with e1 e2
      subst e1; subst e2
      obtain rfl := Option.some.inj (hg.symm.trans h1)
      obtain rfl := Option.some.inj (ht.symm.trans h2)
      have e := flat_trod hT fuel _ _ _ l hc h4 hl
      rw [World.var?_cell hg h3 j, ← hv, ← e]
      simp
    · exact laid_cells hT h5 hm hg ht hc hl j v hv
end Go.Ab
namespace Go.Proofs.YteoofihjmldllaaDoor
open Go Go.Ab
/-! ### A slice's literal of one element of several cells -/
theorem fold_set : ∀ (vals : List Value) (k : Nat) (z0 : Array Value), k + vals.length ≤ z0.size →
    ((vals.zipIdx k).foldl (fun cs (p : Value × Nat) => cs.setIfInBounds (0 + p.2) p.1) z0).toList = z0.toList.take k ++ vals ++ z0.toList.drop (k + vals.length)
  | [], k, z0, _ => by simp
  | v :: vals, k, z0, hk => by
    simp only [List.length_cons] at hk
    rw [List.zipIdx_cons, List.foldl_cons, fold_set vals (k + 1) _ (by simp; omega)]
    have hl : k < z0.toList.length := by rw [Array.length_toList]; omega
    have e : (z0.setIfInBounds (0 + k) v).toList = z0.toList.take k ++ v :: z0.toList.drop (k + 1) := by
      rw [Nat.zero_add, Array.toList_setIfInBounds, List.set_eq_take_append_cons_drop, if_pos hl]
    have ht : (z0.toList.take k ++ v :: z0.toList.drop (k + 1)).take (k + 1) = z0.toList.take k ++ [v] := by
      rw [List.take_append, List.take_take, Nat.min_eq_right (by omega), List.length_take, Nat.min_eq_left (by omega), show k + 1 - k = 1 by omega]
      simp
    have hd : (z0.toList.take k ++ v :: z0.toList.drop (k + 1)).drop (k + 1 + vals.length) = z0.toList.drop (k + (vals.length + 1)) := by
      rw [List.drop_append, List.length_take, Nat.min_eq_left (by omega), List.drop_eq_nil_of_le (show (z0.toList.take k).length ≤ k + 1 + vals.length by rw [List.length_take]; omega), show k + 1 + vals.length - k = vals.length + 1 by omega, List.drop_succ_cons, List.drop_drop, List.nil_append]
      congr 1
      omega
    rw [e, ht, hd, List.length_cons]
    simp
theorem AOp.buildH {P : Program} {NG : Nat} {fr : Fr} {H : Hp} {nk : Nat} {R : Value → Hp → Nat → Prop} {o : Oper} {t e : TypeId} {ps : Array (Nat × Operand)} {z v : Value} {n : Nat} (cs : List Value) (hv : v = .agg cs.toArray) (hn : cs.length = n) (h0 : 0 < n) (hb : n ≤ 16777216) (ho : o.op = .buildSlice t 1 ps) [hf : SlInfo P t e n] [hz : ZeroInfo P e z]
    (hx : aparts NG fr ps = some [(0, v)])
    (hR : R (.slice (some ⟨nk, 0, some 1⟩) 1 1) (upd H nk (some { cells := cs, elem := e, kind := .grow, esz := n })) (nk + 1)) : AOp P NG o ⟨fr, H, nk⟩ R := by
  subst hv
  have hz : (litZ z (1 * n)).size = n := by
    unfold litZ
    rw [if_neg (by omega)]
    simp
  have hc : (Value.agg cs.toArray).cells = cs.toArray := rfl
  have hfl := fold_set cs 0 (litZ z (1 * n)) (by omega)
  rw [List.take_zero, List.nil_append, List.drop_eq_nil_of_le (by rw [Array.length_toList]; omega), List.append_nil] at hfl
  refine AOp.buildGr (cells := cs.toArray) ho h0 (by omega) hx ?_ (by simp; omega) hR
  simp only [Instr.fill, hc]
  rw [if_neg (by rw [List.size_toArray, hn, hz, Nat.zero_mul]; simp)]
  congr 1
  apply Array.toList_inj.1
  refine Eq.trans (congrArg Array.toList ?_) hfl
  rw [← Array.foldl_toList]
  simp
/-! ### Nil in a variable, taken up as a slice that grows -/
section
variable {P : Program} {NG B : Nat} {w0 w : World} {G : GMap} {H : Hp} {k : Nat}
end
end Go.Proofs.YteoofihjmldllaaDoor
