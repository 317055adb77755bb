/- Contracts over the abstract states: how great replies are. -/
import Derived.Test.YteoofihjmldllaaDoorRW
import Derived.Test.YteoofihjmldllaaDoorR45
set_option linter.unusedVariables false
set_option linter.unusedSimpArgs false
set_option maxRecDepth 100000
namespace Go.Proofs.YteoofihjmldllaaDoor
open Go Go.Ab

theorem sum_next {α : Type} (f : α → Nat) (d : α) {l : List α} {i : Nat} (h : i < l.length) : ((l.take (i + 1)).map f).sum = ((l.take i).map f).sum + f (l.getD i d) := by
 rw [List.take_succ_eq_append_getElem h, List.map_append, List.sum_append, getD_el h]
 simp
theorem sum_le {α : Type} {f : α → Nat} {m : Nat} : ∀ {l : List α}, (∀ x ∈ l, f x ≤ m) → (l.map f).sum ≤ l.length * m
 | [], h => Nat.zero_le _
 | x :: l, h => by
  have h1 := h x (List.mem_cons_self ..)
  have h2 := sum_le (l := l) fun y hy => h y (List.mem_cons_of_mem _ hy)
  rw [List.map_cons, List.sum_cons, List.length_cons, Nat.succ_mul]
  omega
theorem sum_mem {α : Type} {f : α → Nat} : ∀ {l : List α} {x : α}, x ∈ l → f x ≤ (l.map f).sum
 | y :: l, x, h => by
  rw [List.map_cons, List.sum_cons]
  rcases List.mem_cons.1 h with rfl | h
  ·omega
  ·have := sum_mem (f := f) h
   omega
def chS (c : Ch) : Nat := c.z.min.s.size + c.z.max.s.size
def ckS (l : List (List UInt8)) : Nat := (l.map List.length).sum
def clS (l : List Ch) : Nat := (l.map chS).sum
def spS (x : Sp) : Nat := x.dead.length + ckS x.chunks + clS x.h.cols
def bkS (l : List Sp) : Nat := (l.map spS).sum
def wideB (x : Sp) : Bool := decide ((x.chunks.length : Int) > 80) || decide ((x.h.cols.length : Int) > 70)
def frontG (r : Rp) : Bool := (decide ((r.sch.length : Int) > 70) || decide ((r.path.length : Int) > 80)) || decide ((r.blocks.length : Int) > 60)
def greatR (r : Rp) : Bool := if frontG r = true then true else if r.blocks.any wideB = true then true else decide ((bkS r.blocks : Int) > 20000)
/-- What a law's arguments are bounded by. -/
structure Sp.lim (x : Sp) : Prop where
 d : x.dead.length ≤ 140737488351232
 k : ∀ y ∈ x.chunks, y.length ≤ 140737488351232
 s : ∀ c ∈ x.h.cols, c.z.min.s.size ≤ 140737488351232 ∧ c.z.max.s.size ≤ 140737488351232
theorem any_ex {α : Type} {f : α → Bool} {l : List α} {x : α} (h : x ∈ l) (hx : f x = true) : l.any f = true := List.any_eq_true.2 ⟨x, h, hx⟩
theorem any_none {α : Type} {f : α → Bool} {l : List α} (d : α) (h : ∀ j, j < l.length → f (l.getD j d) = false) : l.any f = false := by
 rw [List.any_eq_false]
 intro x hx
 obtain ⟨j, hj, rfl⟩ := List.mem_iff_getElem.1 hx
 rw [← getD_el (d := d) hj, h j hj]
 decide
theorem great_sm {r : Rp} (h : greatR r = false) : r.sm := by
 unfold greatR at h
 split at h
 ·cases h
 ·rename_i h1
  split at h
  ·cases h
  ·rename_i h2
   unfold frontG at h1
   simp only [Bool.or_eq_true, not_or, decide_eq_true_eq] at h1
   have h4 : bkS r.blocks ≤ 20000 := by simp at h; omega
   rw [Bool.not_eq_true, List.any_eq_false] at h2
   refine ⟨by omega, by omega, by omega, fun x hx => ?_⟩
   have h5 := h2 x hx
   unfold wideB at h5
   simp only [Bool.or_eq_true, not_or, decide_eq_true_eq] at h5
   have h6 : spS x ≤ 20000 := Nat.le_trans (sum_mem (f := spS) hx) h4
   unfold spS at h6
   refine ⟨⟨by omega, fun c hc => ?_⟩, by omega, by omega, fun y hy => ?_⟩
   ·have h7 : chS c ≤ clS x.h.cols := sum_mem (f := chS) hc
    unfold chS at h7
    omega
   ·have h7 : y.length ≤ ckS x.chunks := sum_mem (f := List.length) hy
    omega
theorem spc_hd (x : Sp) (s1 s2 s3 : Value) : (spc x s1 s2 s3)[34]? = some s1 := by
 rw [spc, List.getElem?_append_left (by rw [hdc_len]; decide)]
 exact hdc_s _ _
theorem add64 {a b c : Nat} (h : a + b = c) (hc : c ≤ 9223372036854775807) : IntKind.i64.wrap ((a : Int) + (b : Int)) = (c : Int) := by
 rw [i64_wrap Wz Wz]
 omega
theorem ck_next (l : List (List UInt8)) (i : Nat) (h : i < l.length) : ckS (l.take (i + 1)) = ckS (l.take i) + (l.getD i []).length := sum_next List.length [] h
theorem cl_next (l : List Ch) (i : Nat) (h : i < l.length) : clS (l.take (i + 1)) = clS (l.take i) + ((l.getD i chD).z.min.s.size + (l.getD i chD).z.max.s.size) := sum_next chS chD h
theorem ck_le {x : Sp} (hx : x.lim) (i : Nat) (h : x.chunks.length ≤ 80) : ckS (x.chunks.take i) ≤ 80 * 140737488351232 := by
 have h1 := sum_le (f := List.length) (l := x.chunks.take i) fun y hy => hx.k y (List.mem_of_mem_take hy)
 have h2 : (x.chunks.take i).length ≤ 80 := by rw [List.length_take]; omega
 exact Nat.le_trans h1 (Nat.mul_le_mul_right _ h2)
theorem ck_all {x : Sp} (hx : x.lim) (h : x.chunks.length ≤ 80) : ckS x.chunks ≤ 80 * 140737488351232 := by
 have := ck_le hx x.chunks.length h
 rw [List.take_length] at this
 exact this
theorem cl_le {x : Sp} (hx : x.lim) (i : Nat) (h : x.h.cols.length ≤ 70) : clS (x.h.cols.take i) ≤ 70 * 281474976702464 := by
 have h1 := sum_le (f := chS) (m := 281474976702464) (l := x.h.cols.take i) fun y hy => by have := hx.s y (List.mem_of_mem_take hy); unfold chS; omega
 have h2 : (x.h.cols.take i).length ≤ 70 := by rw [List.length_take]; omega
 exact Nat.le_trans h1 (Nat.mul_le_mul_right _ h2)
theorem bk_le {r : Rp} (hl : ∀ x ∈ r.blocks, x.lim) (i : Nat) (h : r.blocks.length ≤ 60 ∧ i ≤ r.blocks.length) (hw : ∀ j, j < i → wideB (r.blocks.getD j spD) = false) : bkS (r.blocks.take i) ≤ 60 * 31102985000000000 := by
 have h1 := sum_le (f := spS) (m := 31102985000000000) (l := r.blocks.take i) fun x hx => by
  obtain ⟨j, hj, rfl⟩ := List.mem_iff_getElem.1 hx
  rw [List.length_take] at hj
  rw [List.getElem_take]
  have hm : r.blocks[j]'Wz ∈ r.blocks := List.getElem_mem _
  have h3 := hl _ hm
  have h4 := hw j Wz
  rw [getD_el Wz] at h4
  unfold wideB at h4
  simp only [Bool.or_eq_false_iff, decide_eq_false_iff_not] at h4
  have h5 := ck_all h3 Wz
  have h6 := cl_le h3 (r.blocks[j]'Wz).h.cols.length Wz
  rw [List.take_length] at h6
  have h7 := h3.d
  unfold spS
  omega
 have h2 : (r.blocks.take i).length ≤ 60 := by rw [List.length_take]; omega
 exact Nat.le_trans h1 (Nat.mul_le_mul_right _ h2)
theorem aptrAdd_two {H : Hp} {n d d0 off : Nat} {sp : Option Nat} (h : aptrAdd H (d0 + off) (ptr n d sp) = some (ptr n (d + (d0 + off)) sp)) : aptrAdd H off (ptr n (d + d0) sp) = some (ptr n (d + d0 + off) sp) := by
 unfold aptrAdd at h ⊢
 split at h
 ·rename_i he
  injection he with he; injection he with he; injection he with h1 h2 h3
  subst h3
  rfl
 ·rename_i he
  injection he with he; injection he with he; injection he with h1 h2 h3
  subst h3
  subst h1
  subst h2
  split at h
  ·rename_i b hb
   split at h
   ·rename_i hlt
    have e : (d + d0) % b.esz = d % b.esz + d0 := by rw [Nat.add_mod, Nat.mod_eq_of_lt (show d0 < b.esz by omega), Nat.mod_eq_of_lt Wz]
    simp only
    rw [hb]
    simp only
    rw [if_pos (by rw [e]; omega)]
   ·cases h
  ·cases h
 ·cases h
theorem AOp.fieldP2 {P : Program} {NG : Nat} {fr : Fr} {H : Hp} {nk : Nat} {R : Value → Hp → Nat → Prop} {o : Oper} {t : TypeId} {x : Operand} {f off z n d d0 : Nat} {sp : Option Nat} {agg : Bool} {cs : List Value} (hp : PAt H n d sp cs) (ho : o.op = .fieldAddr t x f) [hf : FieldInfo P t f off agg z] (hz0 : 0 < z) (hd : d0 + off < cs.length)
  (hx : aeval NG fr x = some (ptr n (d + d0) sp)) (hR : R (ptr n (d + d0 + off) sp) H nk) : AOp P NG o ⟨fr, H, nk⟩ R :=
 AOp.fieldAddr ho hf.h hz0 hx (aptrAdd_two (hp.add _ hd)) hR
section
variable (H : Hp) (k : Nat)

set_option maxHeartbeats 1000000 in
theorem great29 (r : Rp) (hok : r.ok) (hlim : ∀ x ∈ r.blocks, x.lim) (v : Value) (hv : RpV H r v) : ACalls Tryd.prog 3 28 [v] H k (Same H k (.bool (greatR r))) := by
 obtain ⟨xA, xa, xB, xb, xC, xc, xs, rfl, x1, x2, x3, x4⟩ := hv
 have hbl := hok.bl
 have hsl := hok.sl
 have hpl := hok.pl
 refine ACalls.fresh fun hf => ?_
 refine ACalls.body Tryd.func28 rfl (Nat.le_of_ble_eq_true rfl) ?_
 refine Sz ?_
 refine Rz [0, 1] Kz rfl ?_
 refine Oz rfl rfl rfl (AOp.boxV rfl rfl ?_)
 refine Nz ?_
 refine Ez ?_
 refine Sz ?_
 refine Sz ?_
 refine Rz [0, 1, 2, 3, 4, 5, 6, 7, 8, 9, 10, 11, 12, 13, 14, 15] Kz rfl ?_
 refine Fz ?_
 refine Oz rfl rfl rfl (AOp.load1 (b := (rpblk r (.slice xA r.path.length xa) (.slice xB r.sch.length xb) (.slice xC r.blocks.length xc))) (v := .slice xB r.sch.length xb) rfl rfl hpB (rpc_at _ _ _ _).2.1 ?_)
 refine Oz rfl rfl rfl (AOp.len' rfl rfl ?_)
 refine Oz rfl rfl rfl (AOp.bin' rfl rfl rfl rfl ?_)
 refine Mz ?_
 refine aOps_gd0 rfl rfl (wantF rfl rfl rfl) (fun hc => AOp.slots [(1, _)] (.cons rfl .nil) (AOp.fieldAddr' rfl Dz rfl Tz)) ?_
 refine aOps_gd0 rfl rfl (wantF rfl rfl rfl) (fun hc => AOp.slots [(13, _)] (.cons (gvT rfl hc) .nil) (AOp.load1 (b := (rpblk r (.slice xA r.path.length xa) (.slice xB r.sch.length xb) (.slice xC r.blocks.length xc))) (v := .slice xA r.path.length xa) rfl rfl hpB (rpc_at _ _ _ _).1 Tz)) ?_
 refine aOps_gd0 rfl rfl (wantF rfl rfl rfl) (fun hc => AOp.slots [(14, _)] (.cons (gvT rfl hc) .nil) (AOp.len' rfl rfl Tz)) ?_
 refine aOps_gd0 rfl rfl (wantF rfl rfl rfl) (fun hc => AOp.slots [(15, _)] (.cons (gvT rfl hc) .nil) (AOp.bin' rfl rfl rfl rfl Tz)) ?_
 refine Oz rfl rfl rfl (AOp.pickOr rfl rfl rfl (fun hb => gvE rfl (t_not hb)) ?_)
 refine Mz ?_
 refine aOps_gd0 rfl rfl (wantF rfl rfl rfl) (fun hc => AOp.slots [(1, _)] (.cons rfl .nil) (AOp.fieldAddr' rfl Dz rfl Tz)) ?_
 refine aOps_gd0 rfl rfl (wantF rfl rfl rfl) (fun hc => AOp.slots [(19, _)] (.cons (gvT rfl hc) .nil) (AOp.load1 (b := (rpblk r (.slice xA r.path.length xa) (.slice xB r.sch.length xb) (.slice xC r.blocks.length xc))) (v := .slice xC r.blocks.length xc) rfl rfl hpB (rpc_at _ _ _ _).2.2 Tz)) ?_
 refine aOps_gd0 rfl rfl (wantF rfl rfl rfl) (fun hc => AOp.slots [(20, _)] (.cons (gvT rfl hc) .nil) (AOp.len' rfl rfl Tz)) ?_
 refine aOps_gd0 rfl rfl (wantF rfl rfl rfl) (fun hc => AOp.slots [(21, _)] (.cons (gvT rfl hc) .nil) (AOp.bin' rfl rfl rfl rfl Tz)) ?_
 refine Oz rfl rfl rfl (AOp.pickOr rfl rfl rfl (fun hb => gvE rfl (t_not hb)) ?_)
 refine Ez ?_
 refine ACode.cond rfl (fun c0 => ?_) (fun c0 => ?_)
 ·skip
  have hff : frontG r = true := c0
  refine Sz ?_
  refine Rz [0] Kz rfl ?_
  refine Nz ?_
  refine Ez ?_
  refine ACode.ret ?_
  exact RetQ.one rfl rfl subB stays (fun hk => ⟨(by rw [greatR, if_pos hff]), rfl, by omega⟩)
 ·skip
  have hff : ¬ frontG r = true := by rw [show frontG r = false from c0]; decide
  have hb60 : r.blocks.length ≤ 60 := by unfold frontG at hff; simp only [Bool.or_eq_true, not_or, decide_eq_true_eq] at hff; omega
  refine ACode.skip ?_
  refine Sz ?_
  refine Rz [0] Kz rfl ?_
  refine Nz ?_
  refine Ez ?_
  refine Sz ?_
  refine Sz ?_
  refine Rz [0] Kz rfl ?_
  refine Nz ?_
  refine Ez ?_
  refine ACode.block ?_
  refine ACode.count0 (fun i => [(4, .int .i64 (i : Int)), (3, .int .i64 ((bkS (r.blocks.take i) : Nat) : Int))]) [(1, _)] (r.blocks.length) (fun i => ∀ j, j < i → wideB (r.blocks.getD j spD) = false) (.cons rfl (.cons rfl .nil)) (.cons rfl .nil) (fun j hj => absurd hj (Nat.not_lt_zero j)) (fun i0 kL0 HL0 hiL0 hkL0 hsL0 hfL0 hxL0 => ?_)
  show ACode _ _ _ _ _ ⟨_, _, _⟩
  have tsL0 := SubS.of hsL0
  have hwx := hxL0
  refine Sz ?_
  refine Sz ?_
  refine Rz [0, 1, 2, 3, 4] Kz rfl ?_
  refine Mz ?_
  refine Fz ?_
  refine Oz rfl rfl rfl (AOp.load1 (b := (rpblk r (.slice xA r.path.length xa) (.slice xB r.sch.length xb) (.slice xC r.blocks.length xc))) (v := .slice xC r.blocks.length xc) rfl rfl hpB (rpc_at _ _ _ _).2.2 ?_)
  refine Oz rfl rfl rfl (AOp.len' rfl rfl ?_)
  refine Oz rfl rfl rfl (AOp.bin' rfl rfl rfl rfl ?_)
  refine Ez ?_
  refine ACode.cond rfl (fun c1 => ?_) (fun c1 => ?_)
  ·try simp only [Cz] at c1
   refine ACode.skip ?_
   refine Sz ?_
   refine ACode.block ?_
   refine Sz ?_
   obtain ⟨ne, oe, pe, eA1, ec1, eA2, ec2, eA3, ec3, evs, qe, le, eh1, eh2, eh3, eh4⟩ := Sps.el (i := i0) x3 x4 Wz
   have hm : (r.blocks.getD i0 spD) ∈ r.blocks := getD_mem Wz
   have hxo := hok.b _ hm
   have hxl := hlim _ hm
   have hel : evs.length = (r.blocks.getD i0 spD).chunks.length := eh4.len
   have hkl9 := hxo.kl
   have hcl9 := hxo.cl
   refine Rz [0, 1, 2, 3, 4, 5, 6] Kz rfl ?_
   refine Fz ?_
   refine Oz rfl rfl rfl (AOp.load1 (b := (rpblk r (.slice xA r.path.length xa) (.slice xB r.sch.length xb) (.slice xC r.blocks.length xc))) (v := .slice xC r.blocks.length xc) rfl rfl hpB (rpc_at _ _ _ _).2.2 ?_)
   refine Mz ?_
   refine Oz rfl rfl rfl (AOp.indexP (aslcAt_sub subB qe) rfl rfl rfl ?_)
   refine Oz rfl rfl rfl (AOp.loadPA (v := .agg (spc (r.blocks.getD i0 spD) (.slice eA1 (r.blocks.getD i0 spD).h.cols.length ec1) (.slice eA2 (r.blocks.getD i0 spD).dead.length ec2) (.slice eA3 evs.length ec3)).toArray) (PAt.sub le subB) rfl rfl rfl rfl (spc_len _ _ _ _) Dz ?_)
   refine Oz rfl rfl rfl (AOp.alloc' rfl ?_)
   refine aOps_0 rfl rfl rfl ?_
   refine AOp.storeAll (b := ?b1) rfl rfl rfl ?hn1 ?hk1 rfl ?hw1 ?ho1 ?hl1 ?hR1
   (case hn1 => exact hpB)
   (case hk1 => rfl)
   (case hw1 => first | rfl | exact hv_size _ | exact one_bv _ | exact rpv_size _ _ _ _ | exact spv_size _ _ _ _ | exact spc_one _ _ _ _ rfl rfl rfl | (simp; done))
   (case ho1 => first | rfl | exact hv_size _ | exact one_bv _ | exact rpv_size _ _ _ _ | exact spv_size _ _ _ _ | exact spc_one _ _ _ _ rfl rfl rfl | decide | (simp; done))
   (case hl1 => first | rfl | exact hv_size _ | exact one_bv _ | exact rpv_size _ _ _ _ | exact spv_size _ _ _ _ | exact spc_one _ _ _ _ rfl rfl rfl | (simp; done))
   rw [rd_upd2]
   refine Ez ?_
   refine Sz ?_
   refine Sz ?_
   refine Rz [0, 1, 2, 3, 4, 5, 6, 7, 8, 9, 10] Kz rfl ?_
   refine Fz ?_
   refine Oz rfl rfl rfl (AOp.load1 (b := (spblk (r.blocks.getD i0 spD) (.slice eA1 (r.blocks.getD i0 spD).h.cols.length ec1) (.slice eA2 (r.blocks.getD i0 spD).dead.length ec2) (.slice eA3 evs.length ec3))) (v := .slice eA3 evs.length ec3) rfl rfl hpB (spc_at _ _ _ _).2.2 ?_)
   refine Oz rfl rfl rfl (AOp.len' rfl rfl ?_)
   refine Oz rfl rfl rfl (AOp.bin' rfl rfl rfl rfl ?_)
   refine Mz ?_
   refine aOps_gd0 rfl rfl (wantF rfl rfl rfl) (fun hc => AOp.slots [(5, _)] (.cons rfl .nil) (AOp.fieldAddr' rfl Dz rfl Tz)) ?_
   refine aOps_gd0 rfl rfl (wantF rfl rfl rfl) (fun hc => AOp.slots [(41, _)] (.cons (gvT rfl hc) .nil) (AOp.fieldAddr' rfl Dz rfl Tz)) ?_
   refine aOps_gd0 rfl rfl (wantF rfl rfl rfl) (fun hc => AOp.slots [(42, _)] (.cons (gvT rfl hc) .nil) (AOp.load1 (b := (spblk (r.blocks.getD i0 spD) (.slice eA1 (r.blocks.getD i0 spD).h.cols.length ec1) (.slice eA2 (r.blocks.getD i0 spD).dead.length ec2) (.slice eA3 evs.length ec3))) (v := .slice eA1 (r.blocks.getD i0 spD).h.cols.length ec1) rfl rfl hpB (spc_hd _ _ _ _) Tz)) ?_
   refine aOps_gd0 rfl rfl (wantF rfl rfl rfl) (fun hc => AOp.slots [(43, _)] (.cons (gvT rfl hc) .nil) (AOp.len' rfl rfl Tz)) ?_
   refine aOps_gd0 rfl rfl (wantF rfl rfl rfl) (fun hc => AOp.slots [(44, _)] (.cons (gvT rfl hc) .nil) (AOp.bin' rfl rfl rfl rfl Tz)) ?_
   refine Oz rfl rfl rfl (AOp.pickOr rfl rfl rfl (fun hb => gvE rfl (t_not hb)) ?_)
   refine Ez ?_
   refine ACode.cond rfl (fun c2 => ?_) (fun c2 => ?_)
   ·skip
    rw [hel] at c2
    have hcc : wideB (r.blocks.getD i0 spD) = true := c2
    refine Sz ?_
    refine Rz [0] Kz rfl ?_
    refine Nz ?_
    refine Ez ?_
    refine ACode.ret ?_
    exact RetQ.one rfl rfl subB stays (fun hk => ⟨(by rw [greatR, if_neg hff, if_pos (any_ex hm hcc)]), rfl, by omega⟩)
   ·skip
    rw [hel] at c2
    have hcc : wideB (r.blocks.getD i0 spD) = false := c2
    have hk80 : (r.blocks.getD i0 spD).chunks.length ≤ 80 ∧ (r.blocks.getD i0 spD).h.cols.length ≤ 70 := by unfold wideB at hcc; simp only [Bool.or_eq_false_iff, decide_eq_false_iff_not] at hcc; omega
    refine ACode.skip ?_
    refine Sz ?_
    have hM : Nt (bkS (r.blocks.take i0) ≤ 60 * 31102985000000000 ∧ (r.blocks.getD i0 spD).dead.length ≤ 140737488351232) := ⟨bk_le hlim i0 Wz hwx, hxl.d⟩
    refine Rz [0, 1, 2, 3, 4, 5] Kz rfl ?_
    refine Mz ?_
    refine Fz ?_
    refine Oz rfl rfl rfl (AOp.load1 (b := (spblk (r.blocks.getD i0 spD) (.slice eA1 (r.blocks.getD i0 spD).h.cols.length ec1) (.slice eA2 (r.blocks.getD i0 spD).dead.length ec2) (.slice eA3 evs.length ec3))) (v := .slice eA2 (r.blocks.getD i0 spD).dead.length ec2) rfl rfl hpB (spc_at _ _ _ _).2.1 ?_)
    refine Oz rfl rfl rfl (AOp.len' rfl rfl ?_)
    refine Oz rfl rfl rfl (AOp.bin' (z := .int .i64 (((bkS (r.blocks.take i0) + (r.blocks.getD i0 spD).dead.length) : Nat) : Int)) rfl rfl rfl (congrArg (fun z => some (Value.int .i64 z)) (add64 (a := bkS (r.blocks.take i0)) (b := (r.blocks.getD i0 spD).dead.length) (c := (bkS (r.blocks.take i0) + (r.blocks.getD i0 spD).dead.length)) (by first | rfl | (have := hM.h; omega)) (by have := hM.h; omega))) ?_)
    refine Nz ?_
    refine Ez ?_
    refine Sz ?_
    refine Sz ?_
    refine Rz [0] Kz rfl ?_
    refine Nz ?_
    refine Ez ?_
    refine ACode.block ?_
    refine ACode.count0 (fun i => [(6, .int .i64 (i : Int)), (3, .int .i64 ((((bkS (r.blocks.take i0) + (r.blocks.getD i0 spD).dead.length) + ckS ((r.blocks.getD i0 spD).chunks.take i)) : Nat) : Int))]) [(1, _), (4, _), (5, _), (24, _), (25, _), (26, _), (27, _), (28, _), (31, _), (32, _), (33, _), (34, _), (35, _), (36, _), (37, _), (38, _), (39, _), (40, _), (41, _), (42, _), (43, _), (44, _), (45, _), (46, _), (47, _), (48, _), (49, _), (50, _), (51, _)] (evs.length) (fun _ => True) (.cons rfl (.cons (show _ = some (Value.int .i64 _) by rw [show ckS ((r.blocks.getD i0 spD).chunks.take 0) = 0 from rfl, Nat.add_zero]; rfl) .nil)) Xz trivial (fun i1 kL1 HL1 hiL1 hkL1 hsL1 hfL1 hxL1 => ?_)
    show ACode _ _ _ _ _ ⟨_, _, _⟩
    have tsL1 := SubS.of hsL1
    refine Sz ?_
    refine Sz ?_
    refine Rz [0, 1, 2, 3, 4] Kz rfl ?_
    refine Mz ?_
    refine Fz ?_
    refine Oz rfl rfl rfl (AOp.load1 (b := (spblk (r.blocks.getD i0 spD) (.slice eA1 (r.blocks.getD i0 spD).h.cols.length ec1) (.slice eA2 (r.blocks.getD i0 spD).dead.length ec2) (.slice eA3 evs.length ec3))) (v := .slice eA3 evs.length ec3) rfl rfl hpB (spc_at _ _ _ _).2.2 ?_)
    refine Oz rfl rfl rfl (AOp.len' rfl rfl ?_)
    refine Oz rfl rfl rfl (AOp.bin' rfl rfl rfl rfl ?_)
    refine Ez ?_
    refine ACode.cond rfl (fun c3 => ?_) (fun c3 => ?_)
    ·try simp only [Cz] at c3
     refine ACode.skip ?_
     refine Sz ?_
     refine ACode.block ?_
     obtain ⟨A9, d9, e9, hc9⟩ := eh4.at_ i1 Wz
     obtain ⟨nG, oG, sG, hqG, hpG⟩ := e9 ▸ slcElV eh3.cells (show i1 < evs.length by omega)
     have hM2 := hM
     have hM : Nt _ := ⟨And.intro hM2.h (And.intro (ck_next (r.blocks.getD i0 spD).chunks i1 Wz) (And.intro (ck_le hxl i1 Wz) (hxl.k _ (getD_mem (d := []) (show i1 < (r.blocks.getD i0 spD).chunks.length by omega)))))⟩
     refine Rz [0, 1, 2, 3, 4, 5, 6, 7, 8] Kz rfl ?_
     refine Mz ?_
     refine Fz ?_
     refine Oz rfl rfl rfl (AOp.load1 (b := (spblk (r.blocks.getD i0 spD) (.slice eA1 (r.blocks.getD i0 spD).h.cols.length ec1) (.slice eA2 (r.blocks.getD i0 spD).dead.length ec2) (.slice eA3 evs.length ec3))) (v := .slice eA3 evs.length ec3) rfl rfl hpB (spc_at _ _ _ _).2.2 ?_)
     refine Mz ?_
     refine Oz rfl rfl rfl (AOp.indexP (aslcAt_sub subB hqG) rfl rfl rfl ?_)
     refine Oz rfl rfl rfl (AOp.loadP0 (hpG.sub subB) rfl rfl rfl ?_)
     refine Oz rfl rfl rfl (AOp.len' rfl rfl ?_)
     refine Oz rfl rfl rfl (AOp.bin' (z := .int .i64 ((((bkS (r.blocks.take i0) + (r.blocks.getD i0 spD).dead.length) + ckS ((r.blocks.getD i0 spD).chunks.take (i1 + 1))) : Nat) : Int)) rfl rfl rfl (congrArg (fun z => some (Value.int .i64 z)) (add64 (a := ((bkS (r.blocks.take i0) + (r.blocks.getD i0 spD).dead.length) + ckS ((r.blocks.getD i0 spD).chunks.take i1))) (b := ((r.blocks.getD i0 spD).chunks.getD i1 []).length) (c := ((bkS (r.blocks.take i0) + (r.blocks.getD i0 spD).dead.length) + ckS ((r.blocks.getD i0 spD).chunks.take (i1 + 1)))) (by first | rfl | (have := hM.h; omega)) (by have := hM.h; omega))) ?_)
     refine Nz ?_
     refine Ez ?_
     refine Rz [0, 1, 2] Kz rfl ?_
     refine Mz ?_
     refine Oz rfl rfl rfl (AOp.add rfl rfl rfl (i64_wrap Wz Wz) ?_)
     refine Nz ?_
     refine Ez ?_
     first | refine thenA_n ?_ | simp only [thenA, blockA, if_true]
     exact NextR.mk Wz Wz (.cons rfl (.cons rfl .nil)) Xz subB trivial
    ·try simp only [Cz] at c3
     have e5 : ((bkS (r.blocks.take i0) + (r.blocks.getD i0 spD).dead.length) + ckS ((r.blocks.getD i0 spD).chunks.take i1)) = (bkS (r.blocks.take i0) + (r.blocks.getD i0 spD).dead.length) + ckS (r.blocks.getD i0 spD).chunks := by rw [show i1 = (r.blocks.getD i0 spD).chunks.length by omega, List.take_length]
     refine ACode.exit ?_
     refine Sz ?_
     refine Rz [0] Kz rfl ?_
     refine Nz ?_
     refine Ez ?_
     refine ACode.block ?_
     refine ACode.count0 (fun i => [(7, .int .i64 (i : Int)), (3, .int .i64 ((((bkS (r.blocks.take i0) + (r.blocks.getD i0 spD).dead.length) + ckS (r.blocks.getD i0 spD).chunks + clS ((r.blocks.getD i0 spD).h.cols.take i)) : Nat) : Int))]) [(1, _), (4, _), (5, _), (6, _), (24, _), (25, _), (26, _), (27, _), (28, _), (31, _), (32, _), (33, _), (34, _), (35, _), (36, _), (37, _), (38, _), (39, _), (40, _), (41, _), (42, _), (43, _), (44, _), (45, _), (46, _), (47, _), (48, _), (49, _), (50, _), (51, _), (52, _), (53, _), (54, _), (55, _), (56, _)] ((r.blocks.getD i0 spD).h.cols.length) (fun _ => True) (.cons rfl (.cons (show _ = some (Value.int .i64 _) by rw [show clS ((r.blocks.getD i0 spD).h.cols.take 0) = 0 from rfl, Nat.add_zero, ← e5]; rfl) .nil)) Xz trivial (fun i2 kL2 HL2 hiL2 hkL2 hsL2 hfL2 hxL2 => ?_)
     show ACode _ _ _ _ _ ⟨_, _, _⟩
     have tsL2 := SubS.of hsL2
     refine Sz ?_
     refine Sz ?_
     refine Rz [0, 1, 2, 3, 4, 5] Kz rfl ?_
     refine Mz ?_
     refine Fz ?_
     refine Fz ?_
     refine Oz rfl rfl rfl (AOp.load1 (b := (spblk (r.blocks.getD i0 spD) (.slice eA1 (r.blocks.getD i0 spD).h.cols.length ec1) (.slice eA2 (r.blocks.getD i0 spD).dead.length ec2) (.slice eA3 evs.length ec3))) (v := .slice eA1 (r.blocks.getD i0 spD).h.cols.length ec1) rfl rfl hpB (spc_hd _ _ _ _) ?_)
     refine Oz rfl rfl rfl (AOp.len' rfl rfl ?_)
     refine Oz rfl rfl rfl (AOp.bin' rfl rfl rfl rfl ?_)
     refine Ez ?_
     refine ACode.cond rfl (fun c4 => ?_) (fun c4 => ?_)
     ·try simp only [Cz] at c4
      refine ACode.skip ?_
      refine Sz ?_
      refine ACode.block ?_
      have hmc : ((r.blocks.getD i0 spD).h.cols.getD i2 chD) ∈ (r.blocks.getD i0 spD).h.cols := getD_mem Wz
      have hM2 := hM
      have hM : Nt _ := ⟨And.intro hM2.h (And.intro (cl_next (r.blocks.getD i0 spD).h.cols i2 Wz) (And.intro (ck_all hxl Wz) (And.intro (cl_le hxl i2 Wz) (hxl.s _ hmc))))⟩
      obtain ⟨n18_5, o18_5, s18_5, hq18_5, hp18_5⟩ := SLC.elC (i := i2) (SLC.sub eh1 subB) Wz
      obtain ⟨n18_16, o18_16, s18_16, hq18_16, hp18_16⟩ := SLC.elC (i := i2) (SLC.sub eh1 subB) Wz
      refine ACode.draw' 23 [(0, 75), (1, 76), (2, 77), (3, 78), (4, 79), (5, 80), (6, 81), (7, 82), (8, 83), (9, 84), (10, 85), (11, 86), (12, 87), (13, 88), (14, 89), (15, 90), (16, 91), (17, 92), (18, 93), (19, 94), (20, 95), (21, 96), (22, 97)] mixed Kz ?_
      refine Draw.step [(3, none)] rfl Kz rfl (fun kq hkq => AOp.move' (.inl rfl) rfl Vz) ?_
      refine Draw.step [(5, none)] rfl Kz rfl (fun kq hkq => AOp.fieldAddr' rfl Dz rfl Vz) ?_
      refine Draw.step [(76, some 1)] rfl Kz rfl (fun kq hkq => AOp.fieldAddr' rfl Dz rfl Vz) ?_
      refine Draw.step [(77, some 2)] rfl Kz rfl (fun kq hkq => AOp.load1 (b := (spblk (r.blocks.getD i0 spD) (.slice eA1 (r.blocks.getD i0 spD).h.cols.length ec1) (.slice eA2 (r.blocks.getD i0 spD).dead.length ec2) (.slice eA3 evs.length ec3))) (v := .slice eA1 (r.blocks.getD i0 spD).h.cols.length ec1) rfl rfl hpB (spc_hd _ _ _ _) Vz) ?_
      refine Draw.step [(7, none)] rfl Kz rfl (fun kq hkq => AOp.move' (.inl rfl) rfl Vz) ?_
      refine Draw.step [(78, some 3), (79, some 4)] rfl Kz rfl (fun kq hkq => AOp.indexP (aslcAt_sub subB hq18_5) rfl rfl rfl Vz) ?_
      refine Draw.step [(80, some 5)] rfl Kz rfl (fun kq hkq => AOp.fieldP (hp18_5.sub subB) rfl Dz (by rw [chc_len]; decide) rfl Vz) ?_
      refine Draw.step [(81, some 6)] rfl Kz rfl (fun kq hkq => AOp.fieldP2 (d0 := 0) (hp18_5.sub subB) rfl Dz (by rw [chc_len]; decide) rfl Vz) ?_
      refine Draw.step [(82, some 7)] rfl Kz rfl (fun kq hkq => AOp.fieldP2 (d0 := 2) (hp18_5.sub subB) rfl Dz (by rw [chc_len]; decide) rfl Vz) ?_
      refine Draw.step [(83, some 8)] rfl Kz rfl (fun kq hkq => AOp.loadP1 (d := 4) (v := .string ((r.blocks.getD i0 spD).h.cols.getD i2 chD).z.min.s) (hp18_5.sub subB) rfl rfl rfl Vz) ?_
      refine Draw.step [(84, some 9)] rfl Kz rfl (fun kq hkq => AOp.lenStr' rfl rfl Vz) ?_
      refine Draw.step [(75, some 0), (85, some 10)] rfl Kz rfl (fun kq hkq => AOp.bin' (z := .int .i64 (((((bkS (r.blocks.take i0) + (r.blocks.getD i0 spD).dead.length) + ckS (r.blocks.getD i0 spD).chunks + clS ((r.blocks.getD i0 spD).h.cols.take i2)) + ((r.blocks.getD i0 spD).h.cols.getD i2 chD).z.min.s.size) : Nat) : Int)) rfl rfl rfl (congrArg (fun z => some (Value.int .i64 z)) (add64 (a := ((bkS (r.blocks.take i0) + (r.blocks.getD i0 spD).dead.length) + ckS (r.blocks.getD i0 spD).chunks + clS ((r.blocks.getD i0 spD).h.cols.take i2))) (b := ((r.blocks.getD i0 spD).h.cols.getD i2 chD).z.min.s.size) (c := (((bkS (r.blocks.take i0) + (r.blocks.getD i0 spD).dead.length) + ckS (r.blocks.getD i0 spD).chunks + clS ((r.blocks.getD i0 spD).h.cols.take i2)) + ((r.blocks.getD i0 spD).h.cols.getD i2 chD).z.min.s.size)) (by first | rfl | (have := hM.h; omega)) (by have := hM.h; omega))) Vz) ?_
      refine Draw.step [(5, none)] rfl Kz rfl (fun kq hkq => AOp.fieldAddr' rfl Dz rfl Vz) ?_
      refine Draw.step [(87, some 12)] rfl Kz rfl (fun kq hkq => AOp.fieldAddr' rfl Dz rfl Vz) ?_
      refine Draw.step [(88, some 13)] rfl Kz rfl (fun kq hkq => AOp.load1 (b := (spblk (r.blocks.getD i0 spD) (.slice eA1 (r.blocks.getD i0 spD).h.cols.length ec1) (.slice eA2 (r.blocks.getD i0 spD).dead.length ec2) (.slice eA3 evs.length ec3))) (v := .slice eA1 (r.blocks.getD i0 spD).h.cols.length ec1) rfl rfl hpB (spc_hd _ _ _ _) Vz) ?_
      refine Draw.step [(7, none)] rfl Kz rfl (fun kq hkq => AOp.move' (.inl rfl) rfl Vz) ?_
      refine Draw.step [(89, some 14), (90, some 15)] rfl Kz rfl (fun kq hkq => AOp.indexP (aslcAt_sub subB hq18_16) rfl rfl rfl Vz) ?_
      refine Draw.step [(91, some 16)] rfl Kz rfl (fun kq hkq => AOp.fieldP (hp18_16.sub subB) rfl Dz (by rw [chc_len]; decide) rfl Vz) ?_
      refine Draw.step [(92, some 17)] rfl Kz rfl (fun kq hkq => AOp.fieldP2 (d0 := 0) (hp18_16.sub subB) rfl Dz (by rw [chc_len]; decide) rfl Vz) ?_
      refine Draw.step [(93, some 18)] rfl Kz rfl (fun kq hkq => AOp.fieldP2 (d0 := 5) (hp18_16.sub subB) rfl Dz (by rw [chc_len]; decide) rfl Vz) ?_
      refine Draw.step [(94, some 19)] rfl Kz rfl (fun kq hkq => AOp.loadP1 (d := 7) (v := .string ((r.blocks.getD i0 spD).h.cols.getD i2 chD).z.max.s) (hp18_16.sub subB) rfl rfl rfl Vz) ?_
      refine Draw.step [(95, some 20)] rfl Kz rfl (fun kq hkq => AOp.lenStr' rfl rfl Vz) ?_
      refine Draw.step [(86, some 11), (96, some 21)] rfl Kz rfl (fun kq hkq => AOp.bin' (z := .int .i64 ((((bkS (r.blocks.take i0) + (r.blocks.getD i0 spD).dead.length) + ckS (r.blocks.getD i0 spD).chunks + clS ((r.blocks.getD i0 spD).h.cols.take (i2 + 1))) : Nat) : Int)) rfl rfl rfl (congrArg (fun z => some (Value.int .i64 z)) (add64 (a := (((bkS (r.blocks.take i0) + (r.blocks.getD i0 spD).dead.length) + ckS (r.blocks.getD i0 spD).chunks + clS ((r.blocks.getD i0 spD).h.cols.take i2)) + ((r.blocks.getD i0 spD).h.cols.getD i2 chD).z.min.s.size)) (b := ((r.blocks.getD i0 spD).h.cols.getD i2 chD).z.max.s.size) (c := ((bkS (r.blocks.take i0) + (r.blocks.getD i0 spD).dead.length) + ckS (r.blocks.getD i0 spD).chunks + clS ((r.blocks.getD i0 spD).h.cols.take (i2 + 1)))) (by first | rfl | (have := hM.h; omega)) (by have := hM.h; omega))) Vz) ?_
      refine Draw.done fun kq hkq => ?_
      show aOps _ _ _ _ [23] ⟨_, _, _⟩
      refine Nz ?_
      refine Ez ?_
      refine Rz [0, 1, 2] Kz rfl ?_
      refine Mz ?_
      refine Oz rfl rfl rfl (AOp.add rfl rfl rfl (i64_wrap Wz Wz) ?_)
      refine Nz ?_
      refine Ez ?_
      first | refine thenA_n ?_ | simp only [thenA, blockA, if_true]
      exact NextR.mk Wz Wz (.cons rfl (.cons rfl .nil)) Xz subB trivial
     ·try simp only [Cz] at c4
      refine ACode.exit ?_
      refine Rz [0, 1, 2] Kz rfl ?_
      refine Mz ?_
      refine Oz rfl rfl rfl (AOp.add rfl rfl rfl (i64_wrap Wz Wz) ?_)
      refine Nz ?_
      refine Ez ?_
      have e4 : ((bkS (r.blocks.take i0) + (r.blocks.getD i0 spD).dead.length) + ckS (r.blocks.getD i0 spD).chunks + clS ((r.blocks.getD i0 spD).h.cols.take i2)) = bkS (r.blocks.take (i0 + 1)) := by rw [show i2 = (r.blocks.getD i0 spD).h.cols.length by omega, List.take_length, bkS, bkS, sum_next spS spD (show i0 < r.blocks.length by omega), spS, clS]; omega
      first | refine thenA_n ?_ | simp only [thenA, blockA, if_true]
      exact NextR.mk Wz Wz (.cons rfl (.cons (show _ = some (Value.int .i64 _) by rw [← e4]; rfl) .nil)) (.cons rfl .nil) subB (fun j hj => (Nat.lt_or_ge j i0).elim (fun h9 => hwx j h9) (fun h9 => by rw [show j = i0 by omega]; exact hcc))
  ·try simp only [Cz] at c1
   refine ACode.exit ?_
   refine Sz ?_
   refine Rz [0, 1, 2] Kz rfl ?_
   refine Mz ?_
   refine Oz rfl rfl rfl (AOp.bin' rfl rfl rfl rfl ?_)
   refine Nz ?_
   refine Ez ?_
   refine ACode.ret ?_
   exact RetQ.one rfl rfl subB stays (fun hk => ⟨(by rw [greatR, if_neg hff, if_neg (by rw [any_none spD (fun j hj => hxL0 j Wz)]; decide), show r.blocks.take i0 = r.blocks from List.take_of_length_le Wz]), rfl, by omega⟩)
end

end Go.Proofs.YteoofihjmldllaaDoor
