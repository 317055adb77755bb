/- More rules over the abstract states: a slice against nil, whatever it is; a copy of a slice; cells put into a list's. No condition; over any program. -/
import Derived.Test.YteoofihjmldllaaDoorF2
import Derived.Test.YteoofihjmldllaaDoorRB
import Derived.Test.YteoofihjmldllaaDoorAb30
import Derived.Lib.LaidTab
set_option linter.unusedVariables false
set_option linter.unusedSimpArgs false
namespace Go.Ab
open Go.RowKit
section
variable {P : Program} {NG : Nat} {o : Oper} {fr : Fr} {H : Hp} {nk : Nat} {R : Value → Hp → Nat → Prop}
theorem AOp.quietX (h : ∀ (N B : Nat) (w0 : World) (G : GMap) (a : Act) (w : World), StRel NG N B w0 G ⟨fr, H, nk⟩ a w → ∃ v v', R v H nk ∧ (execOp a.eval o).run P w = .ok (.value v') w ∧ VRel G v v') : AOp P NG o ⟨fr, H, nk⟩ R := by
  intro N B w0 G a w hs next Q hn
  obtain ⟨v, v', hR, hr, hv⟩ := h N B w0 G a w hs
  unfold Oper.wp
  rw [hr]
  exact hn v v' H nk G w hR hv hs.S (Keep.refl _ _ _ _)
/-- A slice against nil: what is not empty is not nil. -/
theorem AOp.eqNilX {t t' e : TypeId} {z : Nat} {x y : Operand} {l c : Nat} {A : Option Addr} (ho : o.op = .binOp .eql t x y t') [hd : SlInfo P t e z] (hx : aeval NG fr x = some (.slice A l c)) (hy : aeval NG fr y = some (.slice none 0 0))
    (hR : ∀ b : Bool, (0 < l → b = false) → R (.bool b) H nk) : AOp P NG o ⟨fr, H, nk⟩ R := by
  refine AOp.quietX fun N B w0 G a w hs1 => ?_
  have hp := aeval_rel hs1 hx
  have hq := (aeval_rel hs1 hy).plain_ rfl
  have hu := (slB_inv hd.h).1
  obtain ⟨A', c', hA, hl⟩ : ∃ A' c', a.eval x = .slice A' l c' ∧ (0 < l → A' ≠ none) := by
    generalize a.eval x = p at hp
    cases hp with
    | plain h =>
      cases A with
      | none =>
        refine ⟨none, c, rfl, fun h0 => ?_⟩
        cases l with
        | zero => omega
        | succ l => cases c <;> simp [isPlain] at h
      | some a => simp [isPlain] at h
    | exact hg => exact ⟨_, _, rfl, fun _ h => by cases h⟩
    | loose hg hc hA => exact ⟨_, _, rfl, fun h0 h => by rw [hA h0] at h; cases h⟩
    | grow hg hl =>
      refine ⟨_, _, rfl, fun h0 h => ?_⟩
      rcases hl with ⟨h1, _⟩ | ⟨r, _, hA, _⟩
      · omega
      · rw [hA] at h; cases h
    | gcut hg hl =>
      refine ⟨_, _, rfl, fun h0 h => ?_⟩
      obtain ⟨r, _, hA, _⟩ := hl.2 h0
      rw [hA] at h; cases h
  have h2 : (eqGuard .eql t x y (.slice A' l c') (.slice none 0 0)).run P w = .ok () w := by cases A' <;> simp [eqGuard]
  cases A' with
  | none =>
    have h1 : (Op.equalIn (9999 + 1) t (.slice none l c') (.slice none 0 0)).run P w = .ok true w := by
      rw [Op.equalIn, Sem.run_bind, run_underlying hu]
      rfl
    have h3 : (binOp .eql t (.slice none l c') (.slice none 0 0)).run P w = .ok (.bool true) w := by
      simp only [binOp]
      simp [Op.equal, Op.maxDepth, h1]
    refine ⟨.bool true, .bool true, hR true (fun h0 => absurd rfl (hl h0)), ?_, .plain rfl⟩
    simp only [execOp, ho, hA, hq]
    rw [Sem.run_bind, Sem.run_bind, h2]
    simp only [Result.andThen_ok, h3]
    rfl
  | some ad =>
    have h1 : (Op.equalIn (9999 + 1) t (.slice (some ad) l c') (.slice none 0 0)).run P w = .ok false w := by
      rw [Op.equalIn, Sem.run_bind, run_underlying hu]
      rfl
    have h3 : (binOp .eql t (.slice (some ad) l c') (.slice none 0 0)).run P w = .ok (.bool false) w := by
      simp only [binOp]
      simp [Op.equal, Op.maxDepth, h1]
    refine ⟨.bool false, .bool false, hR false (fun _ => rfl), ?_, .plain rfl⟩
    simp only [execOp, ho, hA, hq]
    rw [Sem.run_bind, Sem.run_bind, h2]
    simp only [Result.andThen_ok, h3]
    rfl
theorem AOp.sliceP {t : TypeId} {x : Operand} {n0 z n off : Nat} {agg : Bool} (ho : o.op = .slice t x none none none) [hf : ArrInfo P t n0 agg z] (hx : aeval NG fr x = some (.pointer (some ⟨n, off, none⟩)))
    (hR : R (.slice (some ⟨n, off, none⟩) n0 n0) H nk) : AOp P NG o ⟨fr, H, nk⟩ R :=
  AOp.slice_arr (l := 0) (h := n0) ho hf.h hx (bnd_no rfl) (bnd_no rfl) (Nat.zero_le _) (Nat.le_refl _) (by rw [Nat.zero_mul, Nat.sub_zero, Nat.add_zero, ite_self]; exact hR)
end
end Go.Ab

/- errors.As over abstract states: nil, the readers' error as itself, and as its number; more variables than a contract asks for. Condition: the abstract heap holds the errors' type. -/
set_option linter.unusedVariables false
set_option linter.unusedSimpArgs false
namespace Go.Ab
open Go.RowKit
theorem Keep.alloc {NG B : Nat} {w0 w : World} {G : GMap} {H : Hp} {k : Nat} (h : SRel NG B w0 G H k w) (o : Obj) : Keep H k G w H k G (w.alloc o) :=
  ⟨GLe.refl _, Nat.le_refl _, by simp, fun x hx _ => Below.heap_alloc _ _ _ hx, fun _ _ _ => rfl, fun _ _ hh => hh, fun _ _ hx _ => hx, fun _ b hb => ⟨b, hb, rfl⟩⟩
/-- What a value that is a part of the program's own text stands for: itself. -/
theorem handle_self {NG B : Nat} {w0 w : World} {G : GMap} {H : Hp} {k T t : Nat} {v' : Value} (hS : SRel NG B w0 G H k w) (h3 : 2 < NG) (h : VRel G (.iface t (.agg #[.pointer (some ⟨2, T, none⟩)])) v') : v' = .iface t (.agg #[.pointer (some ⟨2, T, none⟩)]) := by
  cases h with
  | plain hp => simp [isPlain] at hp
  | iface h =>
    cases h with
    | plain hp => simp [isPlain] at hp
    | @agg _ cs' hs h =>
      have hl : cs'.size = 1 := hs.symm
      obtain ⟨x, hx⟩ : ∃ x, cs' = #[x] := by
        obtain ⟨l⟩ := cs'
        match l, hl with
        | [x], _ => exact ⟨x, rfl⟩
      subst hx
      have h1 := h 0 _ x rfl rfl
      cases h1 with
      | plain hp => simp [isPlain] at hp
      | ptr hg =>
        rw [hS.glob 2 h3] at hg
        injection hg with hg
        subst hg
        rw [add_plain, Nat.zero_add]
/-- One cell of a block that is written: the world behind it. -/
theorem SRel.put1 {P : Program} {NG B : Nat} {w0 w : World} {G : GMap} {H : Hp} {k n blk : Nat} {b : Blk} {v v' : Value} (h : SRel NG B w0 G H k w) (hn : H n = some b) (hk : b.kind = .fix) (hg : G n = .at ⟨blk, 0, none⟩) (hl : b.cells.length = 1) (hv : VRel G v v') (h1 : v'.oneCell' = true) :
    SRel NG B w0 G (upd H n (some { b with cells := [v] })) k (w.setCell ⟨blk, 0, none⟩ v') ∧ Keep H k G w (upd H n (some { b with cells := [v] })) k G (w.setCell ⟨blk, 0, none⟩ v') := by
  obtain ⟨w', hr, hS, hK⟩ := h.put (P := P) (off := 0) (vs := [v]) (vs' := [v']) hn hk hg (by rw [hl]; exact Nat.le_refl _) rfl (by
    intro j u hu
    match j, hu with
    | 0, hu => injection hu with hu; subst hu; exact ⟨v', rfl, hv⟩
    | j + 1, hu => simp at hu) (by intro u hu; rw [List.mem_singleton.1 hu]; exact h1)
  have hb := h.blk n b hn
  unfold BRel at hb
  simp only [hk] at hb
  obtain ⟨blk', cs, e, hB, hrb, hcl, hc⟩ := hb
  rw [hg] at e
  injection e with e
  injection e with e
  subst e
  have hr2 := run_storeCells_rblk (P := P) (off := 0) hrb [v'] (by simp only [List.length_singleton]; omega) (by intro u hu; rw [List.mem_singleton.1 hu]; exact h1)
  have e0 : (⟨blk, 0, none⟩ : Addr).add 0 = ⟨blk, 0, none⟩ := by rw [add_plain]
  rw [e0] at hr
  rw [hr] at hr2
  injection hr2 with _ e2
  have e3 : w.setCells blk 0 [v'] = w.setCell ⟨blk, 0, none⟩ v' := rfl
  rw [e3] at e2
  subst e2
  have e4 : putL b.cells 0 [v] = [v] := by
    unfold putL
    rw [List.take_zero, List.nil_append, List.drop_of_length_le (by simp; omega), List.append_nil]
  rw [e4] at hS hK
  exact ⟨hS, hK⟩
end Go.Ab
namespace Go.Proofs.YteoofihjmldllaaDoor
open Go Go.Ab Go.RowKit
abbrev hV : Value := .iface 191 (.agg #[.pointer (some ⟨2, 90, none⟩)])
abbrev hBlk : Blk := { cells := [hV], elem := 163, kind := .ro }
abbrev fBlk (at_ e : Int) : Blk := { cells := [.int .i64 at_, .iface 35 (.int .i64 e)], elem := 101, kind := .fix }
theorem handle_at {B : Nat} {w0 w : World} {G : GMap} {H : Hp} {k : Nat} (hS : SRel 3 B w0 G H k w) (h2 : H 1 = some hBlk) : w.cell? ⟨1, 0, none⟩ = some hV := by
  have hb := hS.blk 1 _ h2
  unfold BRel at hb
  simp only at hb
  obtain ⟨base, e, _, hc⟩ := hb
  rw [hS.glob 1 Dz] at e
  injection e with e
  subst e
  obtain ⟨v', h3, h4⟩ := hc 0 hV Dz rfl
  simp only at h3
  rw [add_plain, Nat.zero_add] at h3
  rw [h3, handle_self hS Dz h4]
theorem arel2 {G : GMap} {a b : Value} {vs' : Array Value} (h : ARel G [a, b] vs') : ∃ a' b', vs' = #[a', b'] ∧ VRel G a a' ∧ VRel G b b' := by
  obtain ⟨h1, h2⟩ := h
  obtain ⟨l⟩ := vs'
  have hl : l.length = 2 := by simpa using h1.symm
  match l, hl with
  | [x, y], _ =>
    obtain ⟨x', e1, h3⟩ := h2 0 a rfl
    obtain ⟨y', e2, h4⟩ := h2 1 b rfl
    injection e1 with e1
    injection e2 with e2
    subst e1; subst e2
    exact ⟨x, y, rfl, h3, h4⟩
theorem as_nil_b (H : Hp) (k : Nat) (t : Value) : ACalls Tryd.prog 3 41 [.nilIface, t] H k (Same H k (.bool false)) := by
  intro B w0 G vs' w hS hv
  obtain ⟨a', b', rfl, h1, h2⟩ := arel2 hv
  rw [h1.plain_ rfl]
  refine (as_nil b' w).mono ?_
  rintro e w' ⟨rfl, rfl⟩
  exact ⟨_, _, H, k, G, rfl, ⟨rfl, rfl, Nat.le_refl _⟩, .plain rfl, hS, Keep.refl _ _ _ _⟩
theorem vrel_iface {G : GMap} {t : TypeId} {v x : Value} (h : VRel G (.iface t v) x) : ∃ v', x = .iface t v' ∧ VRel G v v' := by
  cases h with
  | plain hp => simp [isPlain] at hp
  | iface h => exact ⟨_, rfl, h⟩
theorem vrel_ptr {G : GMap} {n : Nat} {x : Value} (h : VRel G (.pointer (some ⟨n, 0, none⟩)) x) : ∃ base, G n = .at base ∧ x = .pointer (some base) := by
  cases h with
  | plain hp => simp [isPlain] at hp
  | @ptr _ _ base hg => exact ⟨base, hg, by congr 2⟩
theorem fix_real {B : Nat} {w0 w : World} {G : GMap} {H : Hp} {k n : Nat} {b : Blk} (hS : SRel 3 B w0 G H k w) (hn : H n = some b) (hk : b.kind = .fix) : ∃ blk cs, G n = .at ⟨blk, 0, none⟩ ∧ RBlk w blk cs b.elem ∧ b.cells.length ≤ cs.size ∧ CRel G b.cells (fun j => cs[j]?) b.cells.length := by
  have hb := hS.blk n b hn
  unfold BRel at hb
  simp only [hk] at hb
  obtain ⟨blk, cs, e, _, h1, h2, h3⟩ := hb
  exact ⟨blk, cs, e, h1, h2, h3⟩
theorem as_hit_b (H : Hp) (k f n : Nat) (old : Value) (h2 : H 1 = some hBlk) (hn : H n = some { cells := [old], elem := 96, kind := .fix }) : ACalls Tryd.prog 3 41 [.iface 96 (.pointer (some ⟨f, 0, none⟩)), .iface 98 (.pointer (some ⟨n, 0, none⟩))] H k (fun v H' k' => v = .bool true ∧ k ≤ k' ∧ H' = upd H n (some { cells := [.pointer (some ⟨f, 0, none⟩)], elem := 96, kind := .fix })) := by
  intro B w0 G vs' w hS hv
  obtain ⟨a', b', rfl, h3, h4⟩ := arel2 hv
  obtain ⟨p, rfl, h5⟩ := vrel_iface h3
  obtain ⟨q, rfl, h6⟩ := vrel_iface h4
  obtain ⟨base, h7, rfl⟩ := vrel_ptr h5
  obtain ⟨base2, h8, rfl⟩ := vrel_ptr h6
  obtain ⟨blk, cs, h9, hr, hl, hc⟩ := fix_real hS hn rfl
  rw [h8] at h9
  injection h9 with h9
  subst h9
  have h0 : 0 < cs.size := hl
  refine (as_hit base ⟨blk, 0, none⟩ cs[0] w (handle_at hS h2) (by rw [hr.cell 0]; exact Array.getElem?_eq_getElem h0) (hr.thaw 0 h0)).mono ?_
  rintro e w' ⟨rfl, rfl⟩
  have k1 := Keep.alloc hS (.cells #[.pointer (some ⟨blk, 0, none⟩)] 98)
  have s1 := hS.alloc_other (.cells #[.pointer (some ⟨blk, 0, none⟩)] 98)
  have k2 := Keep.alloc s1 (.cells #[.pointer (some ⟨2, 98, none⟩), .pointer (some ⟨w.heap.size, 0, none⟩), .int .u64 150] 160)
  have s2 := s1.alloc_other (.cells #[.pointer (some ⟨2, 98, none⟩), .pointer (some ⟨w.heap.size, 0, none⟩), .int .u64 150] 160)
  have k3 := Keep.alloc s2 (.cells #[.pointer (some ⟨2, 98, none⟩), .pointer (some ⟨w.heap.size, 0, none⟩), .int .u64 150] 160)
  have s3 := s2.alloc_other (.cells #[.pointer (some ⟨2, 98, none⟩), .pointer (some ⟨w.heap.size, 0, none⟩), .int .u64 150] 160)
  have k4 := Keep.alloc s3 (.cells #[.pointer (some base)] 96)
  have s4 := s3.alloc_other (.cells #[.pointer (some base)] 96)
  obtain ⟨s5, k5⟩ := s4.put1 (P := Tryd.prog) (v := .pointer (some ⟨f, 0, none⟩)) (v' := .pointer (some base)) hn rfl h8 rfl h5 rfl
  have hfr : ∀ m, k ≤ m → G m = .free := fun m hm => (hS.fresh m hm).2
  exact ⟨.bool true, .bool true, _, k, G, rfl, ⟨rfl, Nat.le_refl _, rfl⟩, .plain rfl, s5, (((k1.trans hfr k2).trans hfr k3).trans hfr k4).trans hfr k5⟩
theorem as_errno_b (H : Hp) (k f n : Nat) (at_ e : Int) (old : Value) (h2 : H 1 = some hBlk) (hf : H f = some (fBlk at_ e)) (hn : H n = some { cells := [old], elem := 35, kind := .fix }) : ACalls Tryd.prog 3 41 [.iface 96 (.pointer (some ⟨f, 0, none⟩)), .iface 99 (.pointer (some ⟨n, 0, none⟩))] H k (fun v H' k' => v = .bool true ∧ k ≤ k' ∧ H' = upd H n (some { cells := [.int .i64 e], elem := 35, kind := .fix })) := by
  intro B w0 G vs' w hS hv
  obtain ⟨a', b', rfl, h3, h4⟩ := arel2 hv
  obtain ⟨p, rfl, h5⟩ := vrel_iface h3
  obtain ⟨q, rfl, h6⟩ := vrel_iface h4
  obtain ⟨base, h7, rfl⟩ := vrel_ptr h5
  obtain ⟨base2, h8, rfl⟩ := vrel_ptr h6
  obtain ⟨blk, cs, h9, hr, hl, hc⟩ := fix_real hS hn rfl
  rw [h8] at h9
  injection h9 with h9
  subst h9
  obtain ⟨fb, cs2, h10, hr2, hl2, hc2⟩ := fix_real hS hf rfl
  rw [h7] at h10
  injection h10 with h10
  subst h10
  have h0 : 0 < cs.size := hl
  obtain ⟨x, h11, h12⟩ := hc2 1 (.iface 35 (.int .i64 e)) (Nat.le_of_ble_eq_true rfl) rfl
  have h13 : x = .iface 35 (.int .i64 e) := by
    obtain ⟨y, rfl, h14⟩ := vrel_iface h12
    rw [h14.int_]
  subst h13
  refine (as_errno fb e ⟨blk, 0, none⟩ cs[0] w (handle_at hS h2) (by rw [hr2.cell 1]; exact h11) (by rw [hr.cell 0]; exact Array.getElem?_eq_getElem h0) (hr.thaw 0 h0)).mono ?_
  rintro ev w' ⟨rfl, rfl⟩
  have k1 := Keep.alloc hS (.cells #[.pointer (some ⟨blk, 0, none⟩)] 99)
  have s1 := hS.alloc_other (.cells #[.pointer (some ⟨blk, 0, none⟩)] 99)
  have k2 := Keep.alloc s1 (.cells #[.pointer (some ⟨2, 99, none⟩), .pointer (some ⟨w.heap.size, 0, none⟩), .int .u64 150] 160)
  have s2 := s1.alloc_other (.cells #[.pointer (some ⟨2, 99, none⟩), .pointer (some ⟨w.heap.size, 0, none⟩), .int .u64 150] 160)
  have k3 := Keep.alloc s2 (.cells #[.pointer (some ⟨2, 99, none⟩), .pointer (some ⟨w.heap.size, 0, none⟩), .int .u64 150] 160)
  have s3 := s2.alloc_other (.cells #[.pointer (some ⟨2, 99, none⟩), .pointer (some ⟨w.heap.size, 0, none⟩), .int .u64 150] 160)
  have k4 := Keep.alloc s3 (.cells #[.int .i64 e] 35)
  have s4 := s3.alloc_other (.cells #[.int .i64 e] 35)
  obtain ⟨s5, k5⟩ := s4.put1 (P := Tryd.prog) (v := .int .i64 e) (v' := .int .i64 e) hn rfl h8 rfl (.plain rfl) rfl
  have hfr : ∀ m, k ≤ m → G m = .free := fun m hm => (hS.fresh m hm).2
  exact ⟨.bool true, .bool true, _, k, G, rfl, ⟨rfl, Nat.le_refl _, rfl⟩, .plain rfl, s5, (((k1.trans hfr k2).trans hfr k3).trans hfr k4).trans hfr k5⟩
end Go.Proofs.YteoofihjmldllaaDoor

/- Laid variables of plain data: what their cells hold; a call starts with them. No condition but that the types are plain; over any program. -/
set_option linter.unusedVariables false
set_option linter.unusedSimpArgs false
namespace Go.Ab
open Go.RowKit

end Go.Ab
namespace Go.Proofs.YteoofihjmldllaaDoor
open Go Go.Ab
/-! ### A slice's literal of one element of several cells -/
theorem fold_set : ∀ (vals : List Value) (k : Nat) (z0 : Array Value), k + vals.length ≤ z0.size →
    ((vals.zipIdx k).foldl (fun cs (p : Value × Nat) => cs.setIfInBounds (0 + p.2) p.1) z0).toList = z0.toList.take k ++ vals ++ z0.toList.drop (k + vals.length)
  | [], k, z0, _ => by simp
  | v :: vals, k, z0, hk => by
    simp only [List.length_cons] at hk
    rw [List.zipIdx_cons, List.foldl_cons, fold_set vals (k + 1) _ (by simp; omega)]
    have hl : k < z0.toList.length := by rw [Array.length_toList]; omega
    have e : (z0.setIfInBounds (0 + k) v).toList = z0.toList.take k ++ v :: z0.toList.drop (k + 1) := by
      rw [Nat.zero_add, Array.toList_setIfInBounds, List.set_eq_take_append_cons_drop, if_pos hl]
    have ht : (z0.toList.take k ++ v :: z0.toList.drop (k + 1)).take (k + 1) = z0.toList.take k ++ [v] := by
      rw [List.take_append, List.take_take, Nat.min_eq_right Wz, List.length_take, Nat.min_eq_left Wz, show k + 1 - k = 1 by omega]
      simp
    have hd : (z0.toList.take k ++ v :: z0.toList.drop (k + 1)).drop (k + 1 + vals.length) = z0.toList.drop (k + (vals.length + 1)) := by
      rw [List.drop_append, List.length_take, Nat.min_eq_left Wz, List.drop_eq_nil_of_le (show (z0.toList.take k).length ≤ k + 1 + vals.length by rw [List.length_take]; omega), show k + 1 + vals.length - k = vals.length + 1 by omega, List.drop_succ_cons, List.drop_drop, List.nil_append]
      congr 1
      omega
    rw [e, ht, hd, List.length_cons]
    simp
theorem AOp.buildH {P : Program} {NG : Nat} {fr : Fr} {H : Hp} {nk : Nat} {R : Value → Hp → Nat → Prop} {o : Oper} {t e : TypeId} {ps : Array (Nat × Operand)} {z v : Value} {n : Nat} (cs : List Value) (hv : v = .agg cs.toArray) (hn : cs.length = n) (h0 : 0 < n) (hb : n ≤ 16777216) (ho : o.op = .buildSlice t 1 ps) [hf : SlInfo P t e n] [hz : ZeroInfo P e z]
    (hx : aparts NG fr ps = some [(0, v)])
    (hR : R (.slice (some ⟨nk, 0, some 1⟩) 1 1) (upd H nk (some { cells := cs, elem := e, kind := .grow, esz := n })) (nk + 1)) : AOp P NG o ⟨fr, H, nk⟩ R := by
  subst hv
  have hz : (litZ z (1 * n)).size = n := by
    unfold litZ
    rw [if_neg Wz]
    simp
  have hc : (Value.agg cs.toArray).cells = cs.toArray := rfl
  have hfl := fold_set cs 0 (litZ z (1 * n)) Wz
  rw [List.take_zero, List.nil_append, List.drop_eq_nil_of_le (by rw [Array.length_toList]; omega), List.append_nil] at hfl
  refine AOp.buildGr (cells := cs.toArray) ho h0 Wz hx ?_ (by simp; omega) hR
  simp only [Instr.fill, hc]
  rw [if_neg (by rw [List.size_toArray, hn, hz, Nat.zero_mul]; simp)]
  congr 1
  apply Array.toList_inj.1
  refine Eq.trans (congrArg Array.toList ?_) hfl
  rw [← Array.foldl_toList]
  simp
/-! ### Nil in a variable, taken up as a slice that grows -/
section
variable {P : Program} {NG B : Nat} {w0 w : World} {G : GMap} {H : Hp} {k : Nat}
end
end Go.Proofs.YteoofihjmldllaaDoor

/- Short forms: what a heap keeps of another one, and what lies in a block, found by what is at hand. No condition. -/
namespace Go.Ab
/-- What a call's heap keeps, as found by its target. -/
structure SubS (X Y : Hp) : Prop where
  of ::
  s : Sub X Y
theorem SubS.at_ {X Y : Hp} (h : SubS X Y) {n : Nat} {b : Blk} (hn : X n = some b) : Y n = some b := h.s n b hn
theorem SubS.tr {X Y Z : Hp} (hs : Sub X Y) (h : SubS Y Z) : Sub X Z := sub_trans hs h.s
theorem hpA {X : Hp} {n : Nat} {b : Blk} (h : X n = some b := by repeat (first | assumption | exact upd_same _ _ _ | refine Uz ?_ | refine SubS.at_ (by assumption) ?_)) : X n = some b := h
theorem sub_one1 {X : Hp} {k : Nat} {b : Blk} (h : X k = some b) : Sub (upd (fun _ => none) k (some b)) X := fun m c hm => by
  by_cases e : m = k
  · subst e; rw [upd_same] at hm; injection hm with hm; subst hm; exact h
  · rw [upd_other _ _ e] at hm; cases hm
theorem sub_two1 {X : Hp} {k m : Nat} {b c : Blk} (h : X k = some b) (h2 : X m = some c) : Sub (upd (upd (fun _ => none) k (some b)) m (some c)) X := fun j d hm => by
  by_cases e : j = m
  · subst e; rw [upd_same] at hm; injection hm with hm; subst hm; exact h2
  · rw [upd_other _ _ e] at hm; exact sub_one1 h j d hm
theorem sub_newH {X Y : Hp} {q : Nat} {z : Option Blk} (h : Sub X Y) (hq : X q = none) : Sub X (upd Y q z) := fun m b hm => by
  by_cases e : m = q
  · subst e; rw [hq] at hm; cases hm
  · exact (upd_other _ _ e).trans (h m b hm)
theorem subA {X Y : Hp} (h : Sub X Y := by repeat (first | exact sub_refl _ | assumption | exact sub_one1 hpA | exact sub_two1 hpA hpA | refine sub_upd' ?_ (by ((repeat refine Uz ?_); first | (apply_assumption <;> omega) | fail)) | refine SubS.tr ?_ (by assumption) | refine sub_newH ?_ (by first | assumption | (apply_assumption <;> omega) | fail) | refine sub_over (by assumption) | refine sub_over0 ?_ | refine sub_trans (sub_same (by assumption)) ?_ | refine sub_dropu ?_ | refine sub_drop ?_ | refine sub_put ?_ (by repeat (first | assumption | exact upd_same _ _ _ | refine Uz ?_ | refine SubS.at_ (by assumption) ?_)))) : Sub X Y := h
/-! The same, that look first at what is written. -/
theorem upd_at {X : Hp} {n m : Nat} {b c : Option Blk} (hn : n = m) (hb : b = c) : upd X n b m = c := by
  subst hn
  rw [upd_same, hb]
theorem hpB {X : Hp} {n : Nat} {b : Blk} (h : X n = some b := by repeat (first | (with_reducible assumption) | exact upd_at (by with_reducible rfl) (by first | with_reducible rfl | rfl) | refine Uz ?_ | refine SubS.at_ (by with_reducible assumption) ?_ | assumption | exact upd_same _ _ _)) : X n = some b := h
theorem subB {X Y : Hp} (h : Sub X Y := by repeat (first | (with_reducible exact sub_refl _) | (with_reducible assumption) | ((with_reducible refine sub_one1 ?_); exact hpB) | ((with_reducible refine sub_two1 ?_ ?_) <;> exact hpB) | refine sub_upd' ?_ (by ((repeat refine Uz ?_); first | (apply_assumption <;> omega) | fail)) | refine SubS.tr ?_ (by with_reducible assumption) | refine sub_newH ?_ (by first | with_reducible assumption | (apply_assumption <;> omega) | fail) | refine sub_over (by with_reducible assumption) | refine sub_over0 ?_ | refine sub_trans (sub_same (by with_reducible assumption)) ?_ | refine sub_dropu ?_ | refine sub_drop ?_ | refine sub_put ?_ (by repeat (first | with_reducible assumption | exact upd_at (by with_reducible rfl) (by first | with_reducible rfl | rfl) | refine Uz ?_ | refine SubS.at_ (by with_reducible assumption) ?_ | assumption | exact upd_same _ _ _)) | exact sub_refl _ | assumption)) : Sub X Y := h
end Go.Ab
