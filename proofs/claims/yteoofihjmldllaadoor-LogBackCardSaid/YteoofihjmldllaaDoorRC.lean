/- errors.As over abstract states: nil, the readers' error as itself, and as its number; more variables than a contract asks for. Condition: the abstract heap holds the errors' type. -/
import Derived.Test.YteoofihjmldllaaDoorRB
import Derived.Test.YteoofihjmldllaaDoorZF
set_option linter.unusedVariables false
set_option linter.unusedSimpArgs false
namespace Go.Ab
open Go.RowKit
theorem SRel.fewer {NG NG2 B : Nat} {w0 w : World} {G : GMap} {H : Hp} {k : Nat} (hn : NG ≤ NG2) (h : SRel NG2 B w0 G H k w) : SRel NG B w0 G H k w :=
  ⟨h.below, h.base, fun g hg => h.glob g (by omega), Nat.le_trans hn h.le, h.blk, h.sep, h.fresh⟩
theorem SRel.more {NG NG2 B : Nat} {w0 w w' : World} {G G' : GMap} {H H' : Hp} {k k' : Nat} (h : SRel NG2 B w0 G H k w) (h' : SRel NG B w0 G' H' k' w') (hk : Keep H k G w H' k' G' w') : SRel NG2 B w0 G' H' k' w' :=
  ⟨h'.below, h'.base, fun g hg => by
    have h1 := hk.le g
    rw [h.glob g hg] at h1
    exact h1, Nat.le_trans h.le hk.names, h'.blk, h'.sep, h'.fresh⟩
/-- A contract over fewer variables is one over more. -/
theorem ACalls.lift {P : Program} {NG NG2 : Nat} (hn : NG ≤ NG2) {f : FuncId} {vs : List Value} {H : Hp} {k : Nat} {R : Value → Hp → Nat → Prop} (h : ACalls P NG f vs H k R) : ACalls P NG2 f vs H k R :=
  fun B w0 G vs' w hS hv => (h B w0 G vs' w (hS.fewer hn) hv).mono fun e w' ⟨v, v', H', k', G', h1, h2, h3, h4, h5⟩ => ⟨v, v', H', k', G', h1, h2, h3, hS.more h4 h5, h5⟩
theorem Keep.alloc {NG B : Nat} {w0 w : World} {G : GMap} {H : Hp} {k : Nat} (h : SRel NG B w0 G H k w) (o : Obj) : Keep H k G w H k G (w.alloc o) :=
  ⟨GLe.refl _, Nat.le_refl _, by simp, fun x hx _ => Below.heap_alloc _ _ _ hx, fun _ _ _ => rfl, fun _ _ hh => hh, fun _ _ hx _ => hx, fun _ b hb => ⟨b, hb, rfl⟩⟩
/-- What a value that is a part of the program's own text stands for: itself. -/
theorem handle_self {NG B : Nat} {w0 w : World} {G : GMap} {H : Hp} {k T t : Nat} {v' : Value} (hS : SRel NG B w0 G H k w) (h3 : 2 < NG) (h : VRel G (.iface t (.agg #[.pointer (some ⟨2, T, none⟩)])) v') : v' = .iface t (.agg #[.pointer (some ⟨2, T, none⟩)]) := by
  cases h with
  | plain hp => simp [isPlain] at hp
  | iface h =>
    cases h with
    | plain hp => simp [isPlain] at hp
    | @agg _ cs' hs h =>
      have hl : cs'.size = 1 := hs.symm
      obtain ⟨x, hx⟩ : ∃ x, cs' = #[x] := by
        obtain ⟨l⟩ := cs'
        match l, hl with
        | [x], _ => exact ⟨x, rfl⟩
      subst hx
      have h1 := h 0 _ x rfl rfl
      cases h1 with
      | plain hp => simp [isPlain] at hp
      | ptr hg =>
        rw [hS.glob 2 h3] at hg
        injection hg with hg
        subst hg
        rw [add_plain, Nat.zero_add]
/-- One cell of a block that is written: the world behind it. -/
theorem SRel.put1 {P : Program} {NG B : Nat} {w0 w : World} {G : GMap} {H : Hp} {k n blk : Nat} {b : Blk} {v v' : Value} (h : SRel NG B w0 G H k w) (hn : H n = some b) (hk : b.kind = .fix) (hg : G n = .at ⟨blk, 0, none⟩) (hl : b.cells.length = 1) (hv : VRel G v v') (h1 : v'.oneCell' = true) :
    SRel NG B w0 G (upd H n (some { b with cells := [v] })) k (w.setCell ⟨blk, 0, none⟩ v') ∧ Keep H k G w (upd H n (some { b with cells := [v] })) k G (w.setCell ⟨blk, 0, none⟩ v') := by
  obtain ⟨w', hr, hS, hK⟩ := h.put (P := P) (off := 0) (vs := [v]) (vs' := [v']) hn hk hg (by rw [hl]; exact Nat.le_refl _) rfl (by
    intro j u hu
    match j, hu with
    | 0, hu => injection hu with hu; subst hu; exact ⟨v', rfl, hv⟩
    | j + 1, hu => simp at hu) (by intro u hu; rw [List.mem_singleton.1 hu]; exact h1)
  have hb := h.blk n b hn
  unfold BRel at hb
  simp only [hk] at hb
  obtain ⟨blk', cs, e, hB, hrb, hcl, hc⟩ := hb
  rw [hg] at e
  injection e with e
  injection e with e
  subst e
  have hr2 := run_storeCells_rblk (P := P) (off := 0) hrb [v'] (by simp only [List.length_singleton]; omega) (by intro u hu; rw [List.mem_singleton.1 hu]; exact h1)
  have e0 : (⟨blk, 0, none⟩ : Addr).add 0 = ⟨blk, 0, none⟩ := by rw [add_plain]
  rw [e0] at hr
  rw [hr] at hr2
  injection hr2 with _ e2
  have e3 : w.setCells blk 0 [v'] = w.setCell ⟨blk, 0, none⟩ v' := rfl
  rw [e3] at e2
  subst e2
  have e4 : putL b.cells 0 [v] = [v] := by
    unfold putL
    rw [List.take_zero, List.nil_append, List.drop_of_length_le (by simp; omega), List.append_nil]
  rw [e4] at hS hK
  exact ⟨hS, hK⟩
end Go.Ab
namespace Go.Proofs.YteoofihjmldllaaDoor
open Go Go.Ab Go.RowKit
abbrev hV : Value := .iface 191 (.agg #[.pointer (some ⟨2, 90, none⟩)])
abbrev hBlk : Blk := { cells := [hV], elem := 163, kind := .ro }
abbrev fBlk (at_ e : Int) : Blk := { cells := [.int .i64 at_, .iface 35 (.int .i64 e)], elem := 101, kind := .fix }
theorem handle_at {B : Nat} {w0 w : World} {G : GMap} {H : Hp} {k : Nat} (hS : SRel 3 B w0 G H k w) (h2 : H 1 = some hBlk) : w.cell? ⟨1, 0, none⟩ = some hV := by
  have hb := hS.blk 1 _ h2
  unfold BRel at hb
  simp only at hb
  obtain ⟨base, e, _, hc⟩ := hb
  rw [hS.glob 1 (by decide)] at e
  injection e with e
  subst e
  obtain ⟨v', h3, h4⟩ := hc 0 hV (by decide) rfl
  simp only at h3
  rw [add_plain, Nat.zero_add] at h3
  rw [h3, handle_self hS (by decide) h4]
theorem arel2 {G : GMap} {a b : Value} {vs' : Array Value} (h : ARel G [a, b] vs') : ∃ a' b', vs' = #[a', b'] ∧ VRel G a a' ∧ VRel G b b' := by
  obtain ⟨h1, h2⟩ := h
  obtain ⟨l⟩ := vs'
  have hl : l.length = 2 := by simpa using h1.symm
  match l, hl with
  | [x, y], _ =>
    obtain ⟨x', e1, h3⟩ := h2 0 a rfl
    obtain ⟨y', e2, h4⟩ := h2 1 b rfl
    injection e1 with e1
    injection e2 with e2
    subst e1; subst e2
    exact ⟨x, y, rfl, h3, h4⟩
theorem as_nil_b (H : Hp) (k : Nat) (t : Value) : ACalls Tryd.prog 3 41 [.nilIface, t] H k (Same H k (.bool false)) := by
  intro B w0 G vs' w hS hv
  obtain ⟨a', b', rfl, h1, h2⟩ := arel2 hv
  rw [h1.plain_ rfl]
  refine (as_nil b' w).mono ?_
  rintro e w' ⟨rfl, rfl⟩
  exact ⟨_, _, H, k, G, rfl, ⟨rfl, rfl, Nat.le_refl _⟩, .plain rfl, hS, Keep.refl _ _ _ _⟩
theorem vrel_iface {G : GMap} {t : TypeId} {v x : Value} (h : VRel G (.iface t v) x) : ∃ v', x = .iface t v' ∧ VRel G v v' := by
  cases h with
  | plain hp => simp [isPlain] at hp
  | iface h => exact ⟨_, rfl, h⟩
theorem vrel_ptr {G : GMap} {n : Nat} {x : Value} (h : VRel G (.pointer (some ⟨n, 0, none⟩)) x) : ∃ base, G n = .at base ∧ x = .pointer (some base) := by
  cases h with
  | plain hp => simp [isPlain] at hp
  | @ptr _ _ base hg => exact ⟨base, hg, by congr 2⟩
theorem fix_real {B : Nat} {w0 w : World} {G : GMap} {H : Hp} {k n : Nat} {b : Blk} (hS : SRel 3 B w0 G H k w) (hn : H n = some b) (hk : b.kind = .fix) : ∃ blk cs, G n = .at ⟨blk, 0, none⟩ ∧ RBlk w blk cs b.elem ∧ b.cells.length ≤ cs.size ∧ CRel G b.cells (fun j => cs[j]?) b.cells.length := by
  have hb := hS.blk n b hn
  unfold BRel at hb
  simp only [hk] at hb
  obtain ⟨blk, cs, e, _, h1, h2, h3⟩ := hb
  exact ⟨blk, cs, e, h1, h2, h3⟩
theorem as_hit_b (H : Hp) (k f n : Nat) (old : Value) (h2 : H 1 = some hBlk) (hn : H n = some { cells := [old], elem := 96, kind := .fix }) : ACalls Tryd.prog 3 41 [.iface 96 (.pointer (some ⟨f, 0, none⟩)), .iface 98 (.pointer (some ⟨n, 0, none⟩))] H k (fun v H' k' => v = .bool true ∧ k ≤ k' ∧ H' = upd H n (some { cells := [.pointer (some ⟨f, 0, none⟩)], elem := 96, kind := .fix })) := by
  intro B w0 G vs' w hS hv
  obtain ⟨a', b', rfl, h3, h4⟩ := arel2 hv
  obtain ⟨p, rfl, h5⟩ := vrel_iface h3
  obtain ⟨q, rfl, h6⟩ := vrel_iface h4
  obtain ⟨base, h7, rfl⟩ := vrel_ptr h5
  obtain ⟨base2, h8, rfl⟩ := vrel_ptr h6
  obtain ⟨blk, cs, h9, hr, hl, hc⟩ := fix_real hS hn rfl
  rw [h8] at h9
  injection h9 with h9
  subst h9
  have h0 : 0 < cs.size := hl
  refine (as_hit base ⟨blk, 0, none⟩ cs[0] w (handle_at hS h2) (by rw [hr.cell 0]; exact Array.getElem?_eq_getElem h0) (hr.thaw 0 h0)).mono ?_
  rintro e w' ⟨rfl, rfl⟩
  have k1 := Keep.alloc hS (.cells #[.pointer (some ⟨blk, 0, none⟩)] 98)
  have s1 := hS.alloc_other (.cells #[.pointer (some ⟨blk, 0, none⟩)] 98)
  have k2 := Keep.alloc s1 (.cells #[.pointer (some ⟨2, 98, none⟩), .pointer (some ⟨w.heap.size, 0, none⟩), .int .u64 150] 160)
  have s2 := s1.alloc_other (.cells #[.pointer (some ⟨2, 98, none⟩), .pointer (some ⟨w.heap.size, 0, none⟩), .int .u64 150] 160)
  have k3 := Keep.alloc s2 (.cells #[.pointer (some ⟨2, 98, none⟩), .pointer (some ⟨w.heap.size, 0, none⟩), .int .u64 150] 160)
  have s3 := s2.alloc_other (.cells #[.pointer (some ⟨2, 98, none⟩), .pointer (some ⟨w.heap.size, 0, none⟩), .int .u64 150] 160)
  have k4 := Keep.alloc s3 (.cells #[.pointer (some base)] 96)
  have s4 := s3.alloc_other (.cells #[.pointer (some base)] 96)
  obtain ⟨s5, k5⟩ := s4.put1 (P := Tryd.prog) (v := .pointer (some ⟨f, 0, none⟩)) (v' := .pointer (some base)) hn rfl h8 rfl h5 rfl
  have hfr : ∀ m, k ≤ m → G m = .free := fun m hm => (hS.fresh m hm).2
  exact ⟨.bool true, .bool true, _, k, G, rfl, ⟨rfl, Nat.le_refl _, rfl⟩, .plain rfl, s5, (((k1.trans hfr k2).trans hfr k3).trans hfr k4).trans hfr k5⟩
theorem as_errno_b (H : Hp) (k f n : Nat) (at_ e : Int) (old : Value) (h2 : H 1 = some hBlk) (hf : H f = some (fBlk at_ e)) (hn : H n = some { cells := [old], elem := 35, kind := .fix }) : ACalls Tryd.prog 3 41 [.iface 96 (.pointer (some ⟨f, 0, none⟩)), .iface 99 (.pointer (some ⟨n, 0, none⟩))] H k (fun v H' k' => v = .bool true ∧ k ≤ k' ∧ H' = upd H n (some { cells := [.int .i64 e], elem := 35, kind := .fix })) := by
  intro B w0 G vs' w hS hv
  obtain ⟨a', b', rfl, h3, h4⟩ := arel2 hv
  obtain ⟨p, rfl, h5⟩ := vrel_iface h3
  obtain ⟨q, rfl, h6⟩ := vrel_iface h4
  obtain ⟨base, h7, rfl⟩ := vrel_ptr h5
  obtain ⟨base2, h8, rfl⟩ := vrel_ptr h6
  obtain ⟨blk, cs, h9, hr, hl, hc⟩ := fix_real hS hn rfl
  rw [h8] at h9
  injection h9 with h9
  subst h9
  obtain ⟨fb, cs2, h10, hr2, hl2, hc2⟩ := fix_real hS hf rfl
  rw [h7] at h10
  injection h10 with h10
  subst h10
  have h0 : 0 < cs.size := hl
  obtain ⟨x, h11, h12⟩ := hc2 1 (.iface 35 (.int .i64 e)) (Nat.le_of_ble_eq_true rfl) rfl
  have h13 : x = .iface 35 (.int .i64 e) := by
    obtain ⟨y, rfl, h14⟩ := vrel_iface h12
    rw [h14.int_]
  subst h13
  refine (as_errno fb e ⟨blk, 0, none⟩ cs[0] w (handle_at hS h2) (by rw [hr2.cell 1]; exact h11) (by rw [hr.cell 0]; exact Array.getElem?_eq_getElem h0) (hr.thaw 0 h0)).mono ?_
  rintro ev w' ⟨rfl, rfl⟩
  have k1 := Keep.alloc hS (.cells #[.pointer (some ⟨blk, 0, none⟩)] 99)
  have s1 := hS.alloc_other (.cells #[.pointer (some ⟨blk, 0, none⟩)] 99)
  have k2 := Keep.alloc s1 (.cells #[.pointer (some ⟨2, 99, none⟩), .pointer (some ⟨w.heap.size, 0, none⟩), .int .u64 150] 160)
  have s2 := s1.alloc_other (.cells #[.pointer (some ⟨2, 99, none⟩), .pointer (some ⟨w.heap.size, 0, none⟩), .int .u64 150] 160)
  have k3 := Keep.alloc s2 (.cells #[.pointer (some ⟨2, 99, none⟩), .pointer (some ⟨w.heap.size, 0, none⟩), .int .u64 150] 160)
  have s3 := s2.alloc_other (.cells #[.pointer (some ⟨2, 99, none⟩), .pointer (some ⟨w.heap.size, 0, none⟩), .int .u64 150] 160)
  have k4 := Keep.alloc s3 (.cells #[.int .i64 e] 35)
  have s4 := s3.alloc_other (.cells #[.int .i64 e] 35)
  obtain ⟨s5, k5⟩ := s4.put1 (P := Tryd.prog) (v := .int .i64 e) (v' := .int .i64 e) hn rfl h8 rfl (.plain rfl) rfl
  have hfr : ∀ m, k ≤ m → G m = .free := fun m hm => (hS.fresh m hm).2
  exact ⟨.bool true, .bool true, _, k, G, rfl, ⟨rfl, Nat.le_refl _, rfl⟩, .plain rfl, s5, (((k1.trans hfr k2).trans hfr k3).trans hfr k4).trans hfr k5⟩
end Go.Proofs.YteoofihjmldllaaDoor
