/- Contracts over the abstract states: the order of values, what is right of a value, the document's example. -/
import Derived.Test.YteoofihjmldllaaDoorAbF
import Derived.Test.YteoofihjmldllaaDoorV0
set_option linter.unusedVariables false
set_option linter.unusedSimpArgs false
set_option maxRecDepth 100000
namespace Go.Proofs.YteoofihjmldllaaDoor
open Go Go.Ab

section
variable (NG : Nat) (H : Hp) (k : Nat)

theorem isNaN_int (x : Int) : ACalls Tryd.prog NG 147 [.int .i64 x] H k (Same H k (.bool false)) := by
 refine ACalls.fresh fun hf => ?_
 refine ACalls.body Tryd.func147 rfl (Nat.le_of_ble_eq_true rfl) ?_
 refine Sz ?_
 refine Rz [0] Kz rfl ?_
 refine Nz ?_
 refine Ez (Sz (Rz [0, 1, 2, 3] Kz rfl ?_))
 refine Mz ?_
 refine Mz ?_
 refine Oz rfl rfl rfl (AOp.bin' rfl rfl rfl rfl ?_)
 refine Nz ?_
 refine Ez ?_
 refine ACode.ret ?_
 exact RetQ.one rfl rfl subA stays (fun hk => ⟨(by simp), rfl, by omega⟩)

theorem isNaN_i64 (x : Int) : ACalls Tryd.prog NG 148 [.int .i64 x] H k (Same H k (.bool false)) := by
 refine ACalls.fresh fun hf => ?_
 refine ACalls.body Tryd.func148 rfl (Nat.le_of_ble_eq_true rfl) ?_
 refine Sz ?_
 refine Rz [0] Kz rfl ?_
 refine Nz ?_
 refine Ez (Sz (Rz [0, 1, 2, 3] Kz rfl ?_))
 refine Mz ?_
 refine Mz ?_
 refine Oz rfl rfl rfl (AOp.bin' rfl rfl rfl rfl ?_)
 refine Nz ?_
 refine Ez ?_
 refine ACode.ret ?_
 exact RetQ.one rfl rfl subA stays (fun hk => ⟨(by simp), rfl, by omega⟩)

theorem isNaN_str (x : ByteArray) : ACalls Tryd.prog NG 149 [.string x] H k (Same H k (.bool false)) := by
 refine ACalls.fresh fun hf => ?_
 refine ACalls.body Tryd.func149 rfl (Nat.le_of_ble_eq_true rfl) ?_
 refine Sz ?_
 refine Rz [0] Kz rfl ?_
 refine Nz ?_
 refine Ez (Sz (Rz [0, 1, 2, 3] Kz rfl ?_))
 refine Mz ?_
 refine Mz ?_
 refine Oz rfl rfl rfl (AOp.bin' rfl rfl rfl rfl ?_)
 refine Nz ?_
 refine Ez ?_
 refine ACode.ret ?_
 exact RetQ.one rfl rfl subA stays (fun hk => ⟨(by simp), rfl, by omega⟩)

theorem cmp_int (x y : Int) : ACalls Tryd.prog NG 142 [.int .i64 x, .int .i64 y] H k (Same H k (.int .i64 (cmpI x y))) := by
 refine ACalls.fresh fun hf => ?_
 refine ACalls.body Tryd.func142 rfl (Nat.le_of_ble_eq_true rfl) ?_
 refine Sz ?_
 refine Rz [0] Kz rfl ?_
 refine Nz ?_
 refine Ez (Sz (Rz [0, 1, 2] Kz rfl ?_))
 refine Mz ?_
 refine aOps_q rfl rfl rfl (AOp.call' rfl rfl rfl (isNaN_int NG _ _ _) Iz) (fun kq hkq => ?_)
 refine Nz ?_
 refine Ez (Sz (Rz [0, 1, 2] Kz rfl ?_))
 refine Mz ?_
 refine aOps_q rfl rfl rfl (AOp.call' rfl rfl rfl (isNaN_int NG _ _ _) Iz) (fun kq hkq => ?_)
 refine Nz ?_
 refine Ez ?_
 refine Sz ?_
 refine Sz ?_
 refine Rz [0] Kz rfl ?_
 refine Mz ?_
 refine Ez ?_
 refine ACode.cond rfl (fun c0 => absurd c0 (Bool.false_ne_true)) (fun c0 => ?_)
 refine ACode.skip ?_
 refine Sz ?_
 refine Sz ?_
 refine Rz [0] Kz rfl ?_
 refine Mz ?_
 refine Ez ?_
 refine ACode.cond rfl (fun c2 => absurd c2 (Bool.false_ne_true)) (fun c2 => ?_)
 refine ACode.skip ?_
 refine Sz ?_
 refine Sz ?_
 refine Rz [0, 1, 2] Kz rfl ?_
 refine Mz ?_
 refine Mz ?_
 refine Oz rfl rfl rfl (AOp.bin' rfl rfl rfl rfl ?_)
 refine Ez ?_
 refine ACode.cond rfl (fun c3 => ?_) (fun c3 => ?_)
 ·try simp only [Cz] at c3
  refine Sz ?_
  refine Rz [0] Kz rfl ?_
  refine Nz ?_
  refine Ez ?_
  refine ACode.ret ?_
  exact RetQ.one rfl rfl subA stays (fun hk => ⟨(by rw [cmpI, if_pos c3]), rfl, by omega⟩)
 ·try simp only [Cz] at c3
  refine ACode.skip ?_
  refine Sz ?_
  refine Sz ?_
  refine Rz [0, 1, 2] Kz rfl ?_
  refine Mz ?_
  refine Mz ?_
  refine Oz rfl rfl rfl (AOp.bin' rfl rfl rfl rfl ?_)
  refine Ez ?_
  refine ACode.cond rfl (fun c4 => ?_) (fun c4 => ?_)
  ·try simp only [Cz] at c4
   refine Sz ?_
   refine Rz [0] Kz rfl ?_
   refine Nz ?_
   refine Ez ?_
   refine ACode.ret ?_
   exact RetQ.one rfl rfl subA stays (fun hk => ⟨(by rw [cmpI, if_neg Wz, if_pos c4]), rfl, by omega⟩)
  ·try simp only [Cz] at c4
   refine ACode.skip ?_
   refine Sz ?_
   refine Rz [0] Kz rfl ?_
   refine Nz ?_
   refine Ez ?_
   refine ACode.ret ?_
   exact RetQ.one rfl rfl subA stays (fun hk => ⟨(by rw [cmpI, if_neg Wz, if_neg Wz]), rfl, by omega⟩)

theorem cmp_i64 (x y : Int) : ACalls Tryd.prog NG 143 [.int .i64 x, .int .i64 y] H k (Same H k (.int .i64 (cmpI x y))) := by
 refine ACalls.fresh fun hf => ?_
 refine ACalls.body Tryd.func143 rfl (Nat.le_of_ble_eq_true rfl) ?_
 refine Sz ?_
 refine Rz [0] Kz rfl ?_
 refine Nz ?_
 refine Ez (Sz (Rz [0, 1, 2] Kz rfl ?_))
 refine Mz ?_
 refine aOps_q rfl rfl rfl (AOp.call' rfl rfl rfl (isNaN_i64 NG _ _ _) Iz) (fun kq hkq => ?_)
 refine Nz ?_
 refine Ez (Sz (Rz [0, 1, 2] Kz rfl ?_))
 refine Mz ?_
 refine aOps_q rfl rfl rfl (AOp.call' rfl rfl rfl (isNaN_i64 NG _ _ _) Iz) (fun kq hkq => ?_)
 refine Nz ?_
 refine Ez ?_
 refine Sz ?_
 refine Sz ?_
 refine Rz [0] Kz rfl ?_
 refine Mz ?_
 refine Ez ?_
 refine ACode.cond rfl (fun c0 => absurd c0 (Bool.false_ne_true)) (fun c0 => ?_)
 refine ACode.skip ?_
 refine Sz ?_
 refine Sz ?_
 refine Rz [0] Kz rfl ?_
 refine Mz ?_
 refine Ez ?_
 refine ACode.cond rfl (fun c2 => absurd c2 (Bool.false_ne_true)) (fun c2 => ?_)
 refine ACode.skip ?_
 refine Sz ?_
 refine Sz ?_
 refine Rz [0, 1, 2] Kz rfl ?_
 refine Mz ?_
 refine Mz ?_
 refine Oz rfl rfl rfl (AOp.bin' rfl rfl rfl rfl ?_)
 refine Ez ?_
 refine ACode.cond rfl (fun c3 => ?_) (fun c3 => ?_)
 ·try simp only [Cz] at c3
  refine Sz ?_
  refine Rz [0] Kz rfl ?_
  refine Nz ?_
  refine Ez ?_
  refine ACode.ret ?_
  exact RetQ.one rfl rfl subA stays (fun hk => ⟨(by rw [cmpI, if_pos c3]), rfl, by omega⟩)
 ·try simp only [Cz] at c3
  refine ACode.skip ?_
  refine Sz ?_
  refine Sz ?_
  refine Rz [0, 1, 2] Kz rfl ?_
  refine Mz ?_
  refine Mz ?_
  refine Oz rfl rfl rfl (AOp.bin' rfl rfl rfl rfl ?_)
  refine Ez ?_
  refine ACode.cond rfl (fun c4 => ?_) (fun c4 => ?_)
  ·try simp only [Cz] at c4
   refine Sz ?_
   refine Rz [0] Kz rfl ?_
   refine Nz ?_
   refine Ez ?_
   refine ACode.ret ?_
   exact RetQ.one rfl rfl subA stays (fun hk => ⟨(by rw [cmpI, if_neg Wz, if_pos c4]), rfl, by omega⟩)
  ·try simp only [Cz] at c4
   refine ACode.skip ?_
   refine Sz ?_
   refine Rz [0] Kz rfl ?_
   refine Nz ?_
   refine Ez ?_
   refine ACode.ret ?_
   exact RetQ.one rfl rfl subA stays (fun hk => ⟨(by rw [cmpI, if_neg Wz, if_neg Wz]), rfl, by omega⟩)

theorem cmp_str (x y : ByteArray) : ACalls Tryd.prog NG 144 [.string x, .string y] H k (Same H k (.int .i64 (cmpS x y))) := by
 refine ACalls.fresh fun hf => ?_
 refine ACalls.body Tryd.func144 rfl (Nat.le_of_ble_eq_true rfl) ?_
 refine Sz ?_
 refine Rz [0] Kz rfl ?_
 refine Nz ?_
 refine Ez (Sz (Rz [0, 1, 2] Kz rfl ?_))
 refine Mz ?_
 refine aOps_q rfl rfl rfl (AOp.call' rfl rfl rfl (isNaN_str NG _ _ _) Iz) (fun kq hkq => ?_)
 refine Nz ?_
 refine Ez (Sz (Rz [0, 1, 2] Kz rfl ?_))
 refine Mz ?_
 refine aOps_q rfl rfl rfl (AOp.call' rfl rfl rfl (isNaN_str NG _ _ _) Iz) (fun kq hkq => ?_)
 refine Nz ?_
 refine Ez ?_
 refine Sz ?_
 refine Sz ?_
 refine Rz [0] Kz rfl ?_
 refine Mz ?_
 refine Ez ?_
 refine ACode.cond rfl (fun c0 => absurd c0 (Bool.false_ne_true)) (fun c0 => ?_)
 refine ACode.skip ?_
 refine Sz ?_
 refine Sz ?_
 refine Rz [0] Kz rfl ?_
 refine Mz ?_
 refine Ez ?_
 refine ACode.cond rfl (fun c2 => absurd c2 (Bool.false_ne_true)) (fun c2 => ?_)
 refine ACode.skip ?_
 refine Sz ?_
 refine Sz ?_
 refine Rz [0, 1, 2] Kz rfl ?_
 refine Mz ?_
 refine Mz ?_
 refine Oz rfl rfl rfl (AOp.bin' rfl rfl rfl rfl ?_)
 refine Ez ?_
 refine ACode.cond rfl (fun c3 => ?_) (fun c3 => ?_)
 ·try simp only [Cz] at c3
  refine Sz ?_
  refine Rz [0] Kz rfl ?_
  refine Nz ?_
  refine Ez ?_
  refine ACode.ret ?_
  exact RetQ.one rfl rfl subA stays (fun hk => ⟨(by rw [cmpS, if_pos c3]), rfl, by omega⟩)
 ·try simp only [Cz] at c3
  refine ACode.skip ?_
  refine Sz ?_
  refine Sz ?_
  refine Rz [0, 1, 2] Kz rfl ?_
  refine Mz ?_
  refine Mz ?_
  refine Oz rfl rfl rfl (AOp.bin' rfl rfl rfl rfl ?_)
  refine Ez ?_
  refine ACode.cond rfl (fun c4 => ?_) (fun c4 => ?_)
  ·try simp only [Cz] at c4
   refine Sz ?_
   refine Rz [0] Kz rfl ?_
   refine Nz ?_
   refine Ez ?_
   refine ACode.ret ?_
   exact RetQ.one rfl rfl subA stays (fun hk => ⟨(by rw [cmpS, if_neg (by simp [c3]), if_pos (by simp_all)]), rfl, by omega⟩)
  ·try simp only [Cz] at c4
   refine ACode.skip ?_
   refine Sz ?_
   refine Rz [0] Kz rfl ?_
   refine Nz ?_
   refine Ez ?_
   refine ACode.ret ?_
   exact RetQ.one rfl rfl subA stays (fun hk => ⟨(by rw [cmpS, if_neg (by simp [c3]), if_neg (by simp_all)]), rfl, by omega⟩)

theorem cmp_val (a b : Val) : ACalls Tryd.prog NG 124 [vv a, vv b] H k (Same H k (.int .i64 (cmpV a b))) := by
 refine ACalls.fresh fun hf => ?_
 refine ACalls.body Tryd.func124 rfl (Nat.le_of_ble_eq_true rfl) ?_
 refine Sz ?_
 refine Rz [0, 1, 2] Kz rfl ?_
 refine Oz rfl rfl rfl (AOp.boxV rfl rfl ?_)
 refine Oz rfl rfl rfl (AOp.boxV rfl rfl ?_)
 refine Nz ?_
 refine Ez ?_
 refine Sz ?_
 refine ACode.block ?_
 refine Sz ?_
 refine Rz [0, 1, 2, 3, 4, 5] Kz rfl ?_
 refine Fz ?_
 refine Oz rfl rfl rfl ?_
 refine AOp.load1 (b := ?b1) (v := ?v1) rfl rfl ?hn1 ?hv1 ?hR1
 (case hn1 => exact hpA)
 (case hv1 => rfl)
 refine Fz ?_
 refine Oz rfl rfl rfl ?_
 refine AOp.load1 (b := ?b2) (v := ?v2) rfl rfl ?hn2 ?hv2 ?hR2
 (case hn2 => exact hpA)
 (case hv2 => rfl)
 refine Oz rfl rfl rfl (AOp.bin' rfl rfl rfl rfl ?_)
 refine Nz ?_
 refine Ez ?_
 refine ACode.cond rfl (fun c0 => ?_) (fun c0 => ?_)
 ·try simp only [Cz] at c0
  refine Sz ?_
  refine Rz [0, 1, 2, 3, 4, 5] Kz rfl ?_
  refine Fz ?_
  refine Oz rfl rfl rfl ?_
  refine AOp.load1 (b := ?b3) (v := ?v3) rfl rfl ?hn3 ?hv3 ?hR3
  (case hn3 => exact hpA)
  (case hv3 => rfl)
  refine Fz ?_
  refine Oz rfl rfl rfl ?_
  refine AOp.load1 (b := ?b4) (v := ?v4) rfl rfl ?hn4 ?hv4 ?hR4
  (case hn4 => exact hpA)
  (case hv4 => rfl)
  refine aOps_q rfl rfl rfl (AOp.call' rfl rfl rfl (cmp_int NG _ _ _ _) Iz) (fun kq hkq => ?_)
  refine Nz ?_
  refine Ez ?_
  refine ACode.ret ?_
  exact RetQ.one rfl rfl subA stays (fun hk => ⟨(by rw [cmpV, if_pos c0]), rfl, by omega⟩)
 ·try simp only [Cz] at c0
  refine Sz ?_
  refine Rz [0, 1, 2, 3] Kz rfl ?_
  refine Fz ?_
  refine Oz rfl rfl rfl ?_
  refine AOp.load1 (b := ?b5) (v := ?v5) rfl rfl ?hn5 ?hv5 ?hR5
  (case hn5 => exact hpA)
  (case hv5 => rfl)
  refine Oz rfl rfl rfl (AOp.bin' rfl rfl rfl rfl ?_)
  refine Nz ?_
  refine Ez ?_
  refine ACode.cond rfl (fun c1 => ?_) (fun c1 => ?_)
  ·try simp only [Cz] at c1
   refine Sz ?_
   refine Rz [0, 1, 2, 3, 4, 5] Kz rfl ?_
   refine Fz ?_
   refine Oz rfl rfl rfl ?_
   refine AOp.load1 (b := ?b6) (v := ?v6) rfl rfl ?hn6 ?hv6 ?hR6
   (case hn6 => exact hpA)
   (case hv6 => rfl)
   refine Fz ?_
   refine Oz rfl rfl rfl ?_
   refine AOp.load1 (b := ?b7) (v := ?v7) rfl rfl ?hn7 ?hv7 ?hR7
   (case hn7 => exact hpA)
   (case hv7 => rfl)
   refine aOps_q rfl rfl rfl (AOp.call' rfl rfl rfl (cmp_i64 NG _ _ _ _) Iz) (fun kq hkq => ?_)
   refine Nz ?_
   refine Ez ?_
   refine ACode.ret ?_
   exact RetQ.one rfl rfl subA stays (fun hk => ⟨(by rw [cmpV, if_neg (by simpa using c0), if_pos c1]), rfl, by omega⟩)
  ·try simp only [Cz] at c1
   refine Sz ?_
   refine Rz [0, 1, 2, 3] Kz rfl ?_
   refine Fz ?_
   refine Oz rfl rfl rfl ?_
   refine AOp.load1 (b := ?b8) (v := ?v8) rfl rfl ?hn8 ?hv8 ?hR8
   (case hn8 => exact hpA)
   (case hv8 => rfl)
   refine Oz rfl rfl rfl (AOp.bin' rfl rfl rfl rfl ?_)
   refine Nz ?_
   refine Ez ?_
   refine ACode.cond rfl (fun c2 => ?_) (fun c2 => ?_)
   ·try simp only [Cz] at c2
    refine Sz ?_
    refine Rz [0, 1, 2, 3, 4, 5] Kz rfl ?_
    refine Fz ?_
    refine Oz rfl rfl rfl ?_
    refine AOp.load1 (b := ?b9) (v := ?v9) rfl rfl ?hn9 ?hv9 ?hR9
    (case hn9 => exact hpA)
    (case hv9 => rfl)
    refine Fz ?_
    refine Oz rfl rfl rfl ?_
    refine AOp.load1 (b := ?b10) (v := ?v10) rfl rfl ?hn10 ?hv10 ?hR10
    (case hn10 => exact hpA)
    (case hv10 => rfl)
    refine aOps_q rfl rfl rfl (AOp.call' rfl rfl rfl (cmp_str NG _ _ _ _) Iz) (fun kq hkq => ?_)
    refine Nz ?_
    refine Ez ?_
    refine ACode.ret ?_
    exact RetQ.one rfl rfl subA stays (fun hk => ⟨(by rw [cmpV, if_neg (by simpa using c0), if_neg c1, if_pos c2]), rfl, by omega⟩)
   ·try simp only [Cz] at c2
    refine ACode.skip ?_
    refine Sz ?_
    refine Rz [0] Kz rfl ?_
    refine Nz ?_
    refine Ez ?_
    refine ACode.ret ?_
    exact RetQ.one rfl rfl subA stays (fun hk => ⟨(by rw [cmpV, if_neg (by simpa using c0), if_neg c1, if_neg c2]), rfl, by omega⟩)

theorem val_scals (a : Val) (h1 : (Lit.int .i64 a.kind).wf = true) (h2 : (Lit.int .i64 a.n).wf = true) (h3 : a.s.size ≤ maxLen) : (scals [.int .i64, .int .i64, .string] (vv a).cells.toList).isSome = true := by
 show (scals [.int .i64, .int .i64, .string] [.int .i64 a.kind, .int .i64 a.n, .string a.s]).isSome = true
 simp [scals, scal, h1, h2, h3]
def Val.ok (a : Val) : Prop := (Lit.int .i64 a.kind).wf = true ∧ (Lit.int .i64 a.n).wf = true ∧ a.s.size ≤ reachBytes
theorem Val.sc {a : Val} (h : a.ok) : (scals [.int .i64, .int .i64, .string] (vv a).cells.toList).isSome = true := val_scals a h.1 h.2.1 (Nat.le_trans h.2.2 Dz)
end

end Go.Proofs.YteoofihjmldllaaDoor
