/- Contracts over the abstract states: whether a chunk is too long. -/
import Derived.Test.YteoofihjmldllaaDoorR34
import Derived.Test.YteoofihjmldllaaDoorR36
set_option linter.unusedVariables false
set_option linter.unusedSimpArgs false
set_option maxRecDepth 100000
namespace Go.Proofs.YteoofihjmldllaaDoor
open Go Go.Ab

def idxL {α : Type} (p : α → Bool) : List α → Int
 | [] => -1
 | x :: l => if p x = true then 0 else if idxL p l < 0 then -1 else idxL p l + 1
theorem idxL_no {α : Type} {p : α → Bool} : ∀ {l : List α}, l.any p = false → idxL p l = -1
 | [], _ => rfl
 | x :: l, h => by
  rw [List.any_cons, Bool.or_eq_false_iff] at h
  rw [idxL, h.1, idxL_no h.2]
  rfl
theorem idxL_at {α : Type} {p : α → Bool} (d : α) : ∀ {l : List α} {i : Nat}, (l.take i).any p = false → i < l.length → p (l.getD i d) = true → idxL p l = (i : Int)
 | [], _, _, h, _ => absurd h (Nat.not_lt_zero _)
 | x :: l, 0, _, _, h => by
  rw [List.getD_cons_zero] at h
  rw [idxL, if_pos h]
  rfl
 | x :: l, i + 1, h, h1, h2 => by
  rw [List.take_succ_cons, List.any_cons, Bool.or_eq_false_iff] at h
  rw [List.getD_cons_succ] at h2
  have ih := idxL_at d h.2 (Nat.lt_of_succ_lt_succ h1) h2
  rw [idxL, h.1, ih]
  rw [if_neg Dz, if_neg Wz]
  omega
theorem idxL_any {α : Type} {p : α → Bool} : ∀ (l : List α), decide (idxL p l ≥ 0) = l.any p
 | [] => rfl
 | x :: l => by
  have ih := idxL_any (p := p) l
  rw [List.any_cons, ← ih, idxL]
  cases hx : p x with
  | true => rfl
  | false =>
   rw [if_neg Dz, Bool.false_or]
   by_cases h : idxL p l < 0
   ·rw [if_pos h, decide_eq_false Wz, decide_eq_false Wz]
   ·rw [if_neg h, decide_eq_true Wz, decide_eq_true Wz]
theorem any_next {α : Type} {p : α → Bool} {l : List α} {i : Nat} (d : α) (h : (l.take i).any p = false) (hi : i < l.length) (hp : p (l.getD i d) = false) : (l.take (i + 1)).any p = false := by
 rw [List.take_succ_eq_append_getElem hi, List.any_append, h, ← getD_el (d := d) hi, List.any_cons, List.any_nil, hp]
 rfl
def longB (x : List UInt8) : Bool := decide ((x.length : Int) > 16777216)
section
variable (H : Hp) (k : Nat)

theorem long_b (x : List UInt8) (A : Option Addr) (c : Nat) : ACalls Tryd.prog 3 138 [.slice A x.length c] H k (Same H k (.bool (longB x))) := by
 refine ACalls.fresh fun hf => ?_
 refine ACalls.body Tryd.func138 rfl (Nat.le_of_ble_eq_true rfl) ?_
 refine Sz ?_
 refine Rz [0] Kz rfl ?_
 refine Nz ?_
 refine Ez (Sz (Rz [0, 1, 2, 3] Kz rfl ?_))
 refine Mz ?_
 refine Oz rfl rfl rfl (AOp.len' rfl rfl ?_)
 refine Oz rfl rfl rfl (AOp.bin' rfl rfl rfl rfl ?_)
 refine Nz ?_
 refine Ez ?_
 refine ACode.ret ?_
 exact RetQ.one rfl rfl subB stays (fun hk => ⟨rfl, rfl, by omega⟩)

theorem index_l (ls : List (List UInt8)) (vs : List Value) (A : Option Addr) (c : Nat) (hx : SLC H 1 A vs.length c vs) (hv : Bws H vs ls) (hl : vs.length ≤ 9223372036854775807) : ACalls Tryd.prog 3 145 [.slice A vs.length c, .func (.func 138) #[] #[]] H k (Same H k (.int .i64 (idxL longB ls))) := by
 refine ACalls.fresh fun hf => ?_
 refine ACalls.body Tryd.func145 rfl (Nat.le_of_ble_eq_true rfl) ?_
 have hlv := hv.len
 refine Sz ?_
 refine Rz [0] Kz rfl ?_
 refine Nz ?_
 refine Ez ?_
 refine Sz ?_
 refine Sz ?_
 refine Rz [0, 1, 2] Kz rfl ?_
 refine Mz ?_
 refine Oz rfl rfl rfl (AOp.len' rfl rfl ?_)
 refine Mz ?_
 refine Ez ?_
 refine ACode.block ?_
 refine ACode.count0 (fun i => [(8, .int .i64 (i : Int))]) [(0, _), (1, _), (7, _)] (vs.length) (fun i => (ls.take i).any longB = false) (.cons rfl .nil) Xz rfl (fun i0 kL0 HL0 hiL0 hkL0 hsL0 hfL0 hxL0 => ?_)
 show ACode _ _ _ _ _ ⟨_, _, _⟩
 have tsL0 := SubS.of hsL0
 refine Sz ?_
 refine Rz [0] Kz rfl ?_
 refine Oz rfl rfl rfl (AOp.bin' rfl rfl rfl rfl ?_)
 refine Ez ?_
 refine Sz ?_
 refine ACode.cond rfl (fun c0 => ?_) (fun c0 => ?_)
 ·try simp only [Cz] at c0
  refine ACode.skip ?_
  refine Sz ?_
  refine ACode.block ?_
  refine Sz ?_
  refine Rz [0, 1] Kz rfl ?_
  refine Mz ?_
  refine Nz ?_
  refine Ez ?_
  refine Sz ?_
  obtain ⟨A1, d1, e1, hc1⟩ := hv.at_ i0 Wz
  obtain ⟨nE, oE, sE, hqE, hpE⟩ := e1 ▸ slcElV hx.cells (show i0 < vs.length by omega)
  refine Rz [0, 1, 2, 3, 4, 5] Kz rfl ?_
  refine Mz ?_
  refine Mz ?_
  refine Mz ?_
  refine Oz rfl rfl rfl (AOp.indexP (aslcAt_sub subB hqE) rfl rfl rfl ?_)
  refine Oz rfl rfl rfl (AOp.loadP0 (hpE.sub subB) rfl rfl rfl ?_)
  refine aOps_q rfl rfl rfl (AOp.call' rfl rfl rfl (long_b _ _ (ls.getD i0 []) A1 d1) Iz) (fun kq hkq => ?_)
  refine Ez ?_
  refine ACode.cond rfl (fun c1 => ?_) (fun c1 => ?_)
  ·try simp only [Cz] at c1
   refine Sz ?_
   refine Rz [0, 1] Kz rfl ?_
   refine Mz ?_
   refine Nz ?_
   refine Ez ?_
   refine ACode.ret ?_
   exact RetQ.one rfl rfl subB stays (fun hk => ⟨(by rw [idxL_at [] hxL0 Wz c1]), rfl, by omega⟩)
  ·try simp only [Cz] at c1
   refine ACode.skip ?_
   refine Rz [0, 1] Kz rfl ?_
   refine Oz rfl rfl rfl (AOp.add rfl rfl rfl (i64_wrap Wz Wz) ?_)
   refine Mz ?_
   refine Ez ?_
   first | refine thenA_n ?_ | simp only [thenA, blockA, if_true]
   exact NextR.mk Wz Wz (.cons rfl .nil) Xz subB (any_next [] hxL0 Wz (by simpa using c1))
 ·try simp only [Cz] at c0
  refine ACode.exit ?_
  refine Sz ?_
  refine Rz [0] Kz rfl ?_
  refine Nz ?_
  refine Ez ?_
  refine ACode.ret ?_
  exact RetQ.one rfl rfl subB stays (fun hk => ⟨(by rw [idxL_no (p := longB) (l := ls) (by rw [← hxL0, List.take_of_length_le Wz])]), rfl, by omega⟩)

theorem contains_l (ls : List (List UInt8)) (vs : List Value) (A : Option Addr) (c : Nat) (hx : SLC H 1 A vs.length c vs) (hv : Bws H vs ls) (hl : vs.length ≤ 9223372036854775807) : ACalls Tryd.prog 3 139 [.slice A vs.length c, .func (.func 138) #[] #[]] H k (Same H k (.bool (ls.any longB))) := by
 refine ACalls.fresh fun hf => ?_
 refine ACalls.body Tryd.func139 rfl (Nat.le_of_ble_eq_true rfl) ?_
 refine Sz ?_
 refine Rz [0] Kz rfl ?_
 refine Nz ?_
 refine Ez (Sz (Rz [0, 1, 2, 3, 4] Kz rfl ?_))
 refine Mz ?_
 refine Mz ?_
 refine aOps_q rfl rfl rfl (AOp.call' rfl rfl rfl (index_l _ _ ls vs A c (hx.sub subB) (hv.sub subB) hl) Iz) (fun kq hkq => ?_)
 refine Oz rfl rfl rfl (AOp.bin' rfl rfl rfl rfl ?_)
 refine Nz ?_
 refine Ez ?_
 refine ACode.ret ?_
 exact RetQ.one rfl rfl subB stays (fun hk => ⟨(by rw [idxL_any]), rfl, by omega⟩)
end

end Go.Proofs.YteoofihjmldllaaDoor

/- Contracts over the abstract states: whether a shipped block is formed. -/
set_option linter.unusedVariables false
set_option linter.unusedSimpArgs false
set_option maxRecDepth 100000
namespace Go.Proofs.YteoofihjmldllaaDoor
open Go Go.Ab

def blockB (P : Zn → Int → Int → Bool) (cols : List Col) (x : Sp) : Bool :=
 if soundH P x.h cols = false then false else if x.opn = false then ((x.dead.length : Int) == 0 && (x.chunks.length : Int) == 0)
 else ((decide ((x.dead.length : Int) ≤ 65536) && decide ((x.chunks.length : Int) ≤ 64)) && !x.chunks.any longB)
section
variable (H : Hp) (k : Nat)

theorem blockN (x : Sp) (hok : x.ok) (hcl : x.h.cols.length ≤ 1000000) (cs : List Value) (hx : SpC H x cs) (cols : List Col) (B : Option Addr) (d : Nat) (hC : SLC H 3 B cols.length d (cols3 cols)) (hl : cols.length ≤ 1000000) : ACalls Tryd.prog 3 112 [.slice B cols.length d, .agg cs.toArray] H k (Same H k (.bool (blockB soundP cols x))) := by
 obtain ⟨A1, a1, A2, a2, A3, a3, vs, rfl, x1, x2, x3, x4⟩ := hx
 have hvl := x4.len
 have hkl := hok.kl
 refine ACalls.fresh fun hf => ?_
 refine ACalls.body Tryd.func112 rfl (Nat.le_of_ble_eq_true rfl) ?_
 refine Sz ?_
 refine Rz [0, 1] Kz rfl ?_
 refine Oz rfl rfl rfl (AOp.boxV rfl rfl ?_)
 refine Nz ?_
 refine Ez ?_
 refine Sz ?_
 refine Sz ?_
 refine Rz [0, 1, 2, 3, 4] Kz rfl ?_
 refine Fz ?_
 refine Oz rfl rfl rfl (AOp.loadN (b := (spblk x (.slice A1 x.h.cols.length a1) (.slice A2 x.dead.length a2) (.slice A3 vs.length a3))) (cs := hdc x.h (.slice A1 x.h.cols.length a1)) rfl rfl hpB (by show 0 + 35 ≤ (spc _ _ _ _).length; rw [spc_len]; decide) (spc_head _ _ _ _) ?_)
 refine Mz ?_
 refine aOps_q rfl rfl rfl (AOp.call' rfl rfl rfl (nHsound _ _ x.h A1 a1 (x1.sub subB) hok.z hcl cols B d (hC.sub subB) hl) Iz) (fun kq hkq => ?_)
 refine Oz rfl rfl rfl (AOp.un' rfl rfl rfl ?_)
 refine Ez ?_
 refine ACode.cond rfl (fun c0 => ?_) (fun c0 => ?_)
 ·skip
  have h0 : soundH soundP x.h cols = false := by simpa using c0
  refine Sz ?_
  refine Rz [0] Kz rfl ?_
  refine Nz ?_
  refine Ez ?_
  refine ACode.ret ?_
  exact RetQ.one rfl rfl subB stays (fun hk => ⟨(by rw [blockB, if_pos h0]), rfl, by omega⟩)
 ·skip
  have h0 : ¬ soundH soundP x.h cols = false := by simpa using c0
  refine ACode.skip ?_
  refine Sz ?_
  refine Sz ?_
  refine Rz [0, 1, 2] Kz rfl ?_
  refine Fz ?_
  refine Oz rfl rfl rfl (AOp.load1 (b := (spblk x (.slice A1 x.h.cols.length a1) (.slice A2 x.dead.length a2) (.slice A3 vs.length a3))) (v := .bool x.opn) rfl rfl hpB (spc_at _ _ _ _).1 ?_)
  refine Oz rfl rfl rfl (AOp.un' rfl rfl rfl ?_)
  refine Ez ?_
  refine ACode.cond rfl (fun c1 => ?_) (fun c1 => ?_)
  ·skip
   have h1 : x.opn = false := by simpa using c1
   refine Sz ?_
   refine Rz [0, 1, 2, 3, 4, 5, 6, 7, 8, 9, 10] Kz rfl ?_
   refine Fz ?_
   refine Oz rfl rfl rfl (AOp.load1 (b := (spblk x (.slice A1 x.h.cols.length a1) (.slice A2 x.dead.length a2) (.slice A3 vs.length a3))) (v := .slice A2 x.dead.length a2) rfl rfl hpB (spc_at _ _ _ _).2.1 ?_)
   refine Oz rfl rfl rfl (AOp.len' rfl rfl ?_)
   refine Oz rfl rfl rfl (AOp.bin' rfl rfl rfl rfl ?_)
   refine Mz ?_
   refine aOps_gd0 rfl rfl (wantT rfl rfl rfl) (fun hc => AOp.slots [(3, _)] (.cons rfl .nil) (AOp.fieldAddr' rfl Dz rfl Tz)) ?_
   refine aOps_gd0 rfl rfl (wantT rfl rfl rfl) (fun hc => AOp.slots [(19, _)] (.cons (gvT rfl hc) .nil) (AOp.load1 (b := (spblk x (.slice A1 x.h.cols.length a1) (.slice A2 x.dead.length a2) (.slice A3 vs.length a3))) (v := .slice A3 vs.length a3) rfl rfl hpB (spc_at _ _ _ _).2.2 Tz)) ?_
   refine aOps_gd0 rfl rfl (wantT rfl rfl rfl) (fun hc => AOp.slots [(20, _)] (.cons (gvT rfl hc) .nil) (AOp.len' rfl rfl Tz)) ?_
   refine aOps_gd0 rfl rfl (wantT rfl rfl rfl) (fun hc => AOp.slots [(21, _)] (.cons (gvT rfl hc) .nil) (AOp.bin' rfl rfl rfl rfl Tz)) ?_
   refine Oz rfl rfl rfl (AOp.pickAnd rfl rfl rfl (fun hb => gvE rfl hb) ?_)
   refine Nz ?_
   refine Ez ?_
   refine ACode.ret ?_
   exact RetQ.one rfl rfl subB stays (fun hk => ⟨(by rw [blockB, if_neg h0, if_pos h1, hvl]), rfl, by omega⟩)
  ·skip
   have h1 : ¬ x.opn = false := by simpa using c1
   refine ACode.skip ?_
   refine Sz ?_
   refine Rz [0] Kz rfl ?_
   refine Nz ?_
   refine Ez (Sz (Rz [0, 1, 2, 3, 4, 5, 6, 7, 8, 9, 10, 11, 12, 13, 14, 15, 16, 17] Kz rfl ?_))
   refine Fz ?_
   refine Oz rfl rfl rfl (AOp.load1 (b := (spblk x (.slice A1 x.h.cols.length a1) (.slice A2 x.dead.length a2) (.slice A3 vs.length a3))) (v := .slice A2 x.dead.length a2) rfl rfl hpB (spc_at _ _ _ _).2.1 ?_)
   refine Oz rfl rfl rfl (AOp.len' rfl rfl ?_)
   refine Oz rfl rfl rfl (AOp.bin' rfl rfl rfl rfl ?_)
   refine Mz ?_
   refine aOps_gd0 rfl rfl (wantT rfl rfl rfl) (fun hc => AOp.slots [(3, _)] (.cons rfl .nil) (AOp.fieldAddr' rfl Dz rfl Tz)) ?_
   refine aOps_gd0 rfl rfl (wantT rfl rfl rfl) (fun hc => AOp.slots [(29, _)] (.cons (gvT rfl hc) .nil) (AOp.load1 (b := (spblk x (.slice A1 x.h.cols.length a1) (.slice A2 x.dead.length a2) (.slice A3 vs.length a3))) (v := .slice A3 vs.length a3) rfl rfl hpB (spc_at _ _ _ _).2.2 Tz)) ?_
   refine aOps_gd0 rfl rfl (wantT rfl rfl rfl) (fun hc => AOp.slots [(30, _)] (.cons (gvT rfl hc) .nil) (AOp.len' rfl rfl Tz)) ?_
   refine aOps_gd0 rfl rfl (wantT rfl rfl rfl) (fun hc => AOp.slots [(31, _)] (.cons (gvT rfl hc) .nil) (AOp.bin' rfl rfl rfl rfl Tz)) ?_
   refine Oz rfl rfl rfl (AOp.pickAnd rfl rfl rfl (fun hb => gvE rfl hb) ?_)
   refine Mz ?_
   refine aOps_gd0 rfl rfl (wantT rfl rfl rfl) (fun hc => AOp.slots [(3, _)] (.cons rfl .nil) (AOp.fieldAddr' rfl Dz rfl Tz)) ?_
   refine aOps_gd0 rfl rfl (wantT rfl rfl rfl) (fun hc => AOp.slots [(35, _)] (.cons (gvT rfl hc) .nil) (AOp.load1 (b := (spblk x (.slice A1 x.h.cols.length a1) (.slice A2 x.dead.length a2) (.slice A3 vs.length a3))) (v := .slice A3 vs.length a3) rfl rfl hpB (spc_at _ _ _ _).2.2 Tz)) ?_
   refine aOps_gd0 rfl rfl (wantT rfl rfl rfl) (fun hc => AOp.slots [(5, _)] (.cons rfl .nil) (AOp.move' (.inl rfl) rfl Tz)) ?_
   refine aOps_gd rfl rfl (wantT rfl rfl rfl) (fun hc => AOp.slots [(36, _), (37, _)] (.cons (gvT rfl hc) (.cons (gvT rfl hc) .nil)) (AOp.call' rfl rfl rfl (contains_l _ _ x.chunks vs A3 a3 (x3.sub subB) (x4.sub subB) Wz) Iz)) (fun kq hkq => ?_)
   refine aOps_gd0 rfl rfl (wantT rfl rfl rfl) (fun hc => AOp.slots [(38, _)] (.cons (gvT rfl hc) .nil) (AOp.un' rfl rfl rfl Tz)) ?_
   refine Oz rfl rfl rfl (AOp.pickAnd rfl rfl rfl (fun hb => gvE rfl hb) ?_)
   refine Nz ?_
   refine Ez ?_
   refine ACode.ret ?_
   exact RetQ.one rfl rfl subB stays (fun hk => ⟨(by rw [blockB, if_neg h0, if_neg h1, hvl]), rfl, by omega⟩)
end

end Go.Proofs.YteoofihjmldllaaDoor
