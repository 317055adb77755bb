/- Contracts over the abstract states: numbers, values, schemas and rows as bytes; ValuePuts. -/
import Derived.Test.YteoofihjmldllaaDoorV5
import Derived.Test.YteoofihjmldllaaDoorV8
import Derived.Test.YteoofihjmldllaaDoorAb30
set_option linter.unusedVariables false
set_option linter.unusedSimpArgs false
set_option maxRecDepth 100000
namespace Go.Proofs.YteoofihjmldllaaDoor
open Go Go.Ab

section
variable (NG : Nat) (H : Hp) (k : Nat)
abbrev u64 (n : Nat) : Value := .int .u64 (n : Int)
abbrev gb (bs : List UInt8) : Blk := gbk 5 bs
abbrev sl (n l : Nat) : Value := gsl n l

theorem zig (n : Int) (h1 : -9223372036854775808 ≤ n) (h2 : n ≤ 9223372036854775807) : ACalls Tryd.prog NG 137 [.int .i64 n] H k (Same H k (u64 (zigN n))) := by
 refine ACalls.fresh fun hf => ?_
 refine ACalls.body Tryd.func137 rfl (Nat.le_of_ble_eq_true rfl) ?_
 refine Sz ?_
 refine Rz [0] Kz rfl ?_
 refine Nz ?_
 refine Ez (Sz (Rz [0, 1, 2, 3, 4, 5, 6, 7] Kz rfl ?_))
 refine Mz ?_
 refine Oz rfl rfl rfl (AOp.convInt rfl rfl ?_)
 refine Oz rfl rfl rfl (AOp.bin' rfl rfl rfl rfl ?_)
 refine Mz ?_
 refine Oz rfl rfl rfl (AOp.bin' rfl rfl rfl rfl ?_)
 refine Oz rfl rfl rfl (AOp.convInt rfl rfl ?_)
 refine Oz rfl rfl rfl (AOp.bin' rfl rfl rfl rfl ?_)
 refine Nz ?_
 refine Ez ?_
 refine ACode.ret ?_
 exact RetQ.one rfl rfl subA stays (fun hk => ⟨(congrArg (Value.int .u64) (zig_u64 n h1 h2)), rfl, by omega⟩)

theorem refzig (n : Int) (h1 : -9223372036854775808 ≤ n) (h2 : n ≤ 9223372036854775807) : ACalls Tryd.prog NG 118 [.int .i64 n] H k (Same H k (u64 (zigN n))) := by
 refine ACalls.fresh fun hf => ?_
 refine ACalls.body Tryd.func118 rfl (Nat.le_of_ble_eq_true rfl) ?_
 refine Sz ?_
 refine Rz [0] Kz rfl ?_
 refine Nz ?_
 refine Ez ?_
 refine Sz ?_
 refine Sz ?_
 refine Rz [0, 1] Kz rfl ?_
 refine Mz ?_
 refine Oz rfl rfl rfl (AOp.bin' rfl rfl rfl rfl ?_)
 refine Ez ?_
 refine ACode.cond rfl (fun c0 => ?_) (fun c0 => ?_)
 ·try simp only [Cz] at c0
  refine Sz ?_
  refine Rz [0, 1, 2, 3] Kz rfl ?_
  refine Mz ?_
  refine Oz rfl rfl rfl (AOp.convInt rfl rfl ?_)
  refine Oz rfl rfl rfl (AOp.bin' rfl rfl rfl rfl ?_)
  refine Nz ?_
  refine Ez ?_
  refine ACode.ret ?_
  exact RetQ.one rfl rfl subA stays (fun hk => ⟨(by rw [zigN, if_pos c0]; simp only [IntKind.wrap_u64]; congr 1; omega), rfl, by omega⟩)
 ·try simp only [Cz] at c0
  refine ACode.skip ?_
  refine Sz ?_
  refine Rz [0, 1, 2, 3, 4, 5, 6] Kz rfl ?_
  refine Mz ?_
  refine Oz rfl rfl rfl (AOp.add rfl rfl rfl (i64_wrap Wz Wz) ?_)
  refine Oz rfl rfl rfl (AOp.un' rfl rfl rfl ?_)
  refine Oz rfl rfl rfl (AOp.convInt rfl rfl ?_)
  refine Oz rfl rfl rfl (AOp.bin' rfl rfl rfl rfl ?_)
  refine Oz rfl rfl rfl (AOp.bin' rfl rfl rfl rfl ?_)
  refine Nz ?_
  refine Ez ?_
  refine ACode.ret ?_
  exact RetQ.one rfl rfl subA stays (fun hk => ⟨(by rw [zigN, if_neg Wz]; simp only [IntKind.wrap_u64, IntKind.wrap_i64]; congr 1; omega), rfl, by omega⟩)

theorem putVar (n : Nat) (bs : List UInt8) (v : Nat) (hn : H n = some (gb bs)) (hv : v < 18446744073709551616) (hl : bs.length ≤ 1099511627776) : ACalls Tryd.prog NG 64 [sl n bs.length, u64 v] H k (fun r H' k' => r = sl n (bs ++ varB v).length ∧ H' = upd H n (some (gb (bs ++ varB v))) ∧ k ≤ k') := by
 refine ACalls.fresh fun hf => ?_
 refine ACalls.body Tryd.func64 rfl (Nat.le_of_ble_eq_true rfl) ?_
 have hnk := old_lt hf hn
 have hvl := varB_len v hv
 refine Sz ?_
 refine Rz [0] Kz rfl ?_
 refine Nz ?_
 refine Ez ?_
 refine Sz ?_
 refine ACode.block ?_
 refine ACode.count (fun i => [(0, sl n (bs ++ (varB v).take i).length), (1, u64 (v / 128 ^ i))]) [(4, _)] (fun i => upd H n (some (gb (bs ++ (varB v).take i)))) ((varB v).length - 1) (fun _ => True) (.cons (show _ = some (sl n (bs ++ (varB v).take 0).length) by rw [List.take_zero, List.append_nil]; rfl) (.cons (show _ = some (u64 (v / 128 ^ 0)) by rw [Nat.pow_zero, Nat.div_one]; rfl) .nil)) (.cons rfl .nil) (by exact sub_same (by simpa using hn)) trivial (fun i0 kL0 HL0 hiL0 hkL0 hsL0 hfL0 hxL0 => ?_)
 show ACode _ _ _ _ _ ⟨_, _, _⟩
 have tsL0 := SubS.of hsL0
 refine Sz ?_
 refine Sz ?_
 refine Rz [0, 1] Kz rfl ?_
 refine Mz ?_
 refine Oz rfl rfl rfl (AOp.bin' rfl rfl rfl rfl ?_)
 refine Ez ?_
 refine ACode.cond rfl (fun c0 => ?_) (fun c0 => ?_)
 ·try simp only [Cz] at c0
  refine ACode.skip ?_
  refine Sz ?_
  refine ACode.block ?_
  refine Rz [0, 1, 2, 3, 4, 5, 6] Kz rfl ?_
  refine Mz ?_
  refine Mz ?_
  refine Oz rfl rfl rfl (AOp.toU8 rfl rfl ?_)
  refine Oz rfl rfl rfl (AOp.bin' (z := bv (UInt8.ofNat (v / 128 ^ i0 % 128 + 128))) rfl rfl rfl (congrArg (fun z => some (Value.int .u8 z)) (by rw [byteI_nat]; exact or128' _)) ?_)
  refine Oz rfl rfl rfl (AOp.buildB [_] rfl Dz rfl rfl ?_)
  refine Oz rfl rfl rfl ?_
  refine AOp.appendB (ps := ?ns1) rfl rfl rfl ?hn1 ?hsrc1 ?ht1 ?hw1 ?hz1 ?hR1
  (case hn1 => exact hpA)
  (case hsrc1 => refine srcOf_gb (e := 5) ?e11; (case e11 => exact hpA))
  (case ht1 => exact srcOk_sl)
  (case hw1 => (first | omega | (simp only [List.length_cons, List.length_nil]; omega) | (simp only [List.length_append, List.length_cons, List.length_nil]; omega) | (simp; omega)))
  (case hz1 => (first | omega | (simp only [List.length_cons, List.length_nil]; omega) | (simp only [List.length_append, List.length_cons, List.length_nil]; omega) | (simp; omega)))
  refine Nz ?_
  refine Ez ?_
  refine Rz [0, 1, 2] Kz rfl ?_
  refine Mz ?_
  refine Oz rfl rfl rfl (AOp.bin' rfl rfl rfl rfl ?_)
  refine Nz ?_
  refine Ez ?_
  obtain ⟨hb1, hb2⟩ := varB_at i0 v hiL0 (by exact_mod_cast c0)
  have hb3 : (bs ++ (varB v).take (i0 + 1)).length = (bs ++ (varB v).take i0).length + 1 := by rw [hb2, ← List.append_assoc, List.length_append]; rfl
  have hb4 : ((v / 128 ^ (i0 + 1) : Nat) : Int) = ((v / 128 ^ i0 : Nat) : Int).fdiv 128 := by rw [Int.fdiv_eq_ediv_of_nonneg _ Dz, Nat.pow_succ, ← Nat.div_div_eq_div_mul]; rfl
  first | refine thenA_n ?_ | simp only [thenA, blockA, if_true]
  exact NextR.mk Wz Wz (.cons (show _ = some (sl n _) by rw [hb2, ← List.append_assoc]; rfl) (.cons (show _ = some (Value.int .u64 _) by rw [hb4]; rfl) .nil)) (.cons rfl .nil) (by exact sub_over_eq (y := some (gb (bs ++ (varB v).take i0))) subA (by rw [hb2, List.append_assoc])) trivial
 ·try simp only [Cz] at c0
  refine ACode.exit ?_
  refine Sz ?_
  refine Rz [0, 1, 2, 3, 4, 5] Kz rfl ?_
  refine Mz ?_
  refine Mz ?_
  refine Oz rfl rfl rfl (AOp.toU8 rfl rfl ?_)
  refine Oz rfl rfl rfl (AOp.buildB [_] rfl Dz rfl rfl ?_)
  refine Oz rfl rfl rfl ?_
  refine AOp.appendB (ps := ?ns2) rfl rfl rfl ?hn2 ?hsrc2 ?ht2 ?hw2 ?hz2 ?hR2
  (case hn2 => exact hpA)
  (case hsrc2 => refine srcOf_gb (e := 5) ?e12; (case e12 => exact hpA))
  (case ht2 => exact srcOk_sl)
  (case hw2 => (first | omega | (simp only [List.length_cons, List.length_nil]; omega) | (simp only [List.length_append, List.length_cons, List.length_nil]; omega) | (simp; omega)))
  (case hz2 => (first | omega | (simp only [List.length_cons, List.length_nil]; omega) | (simp only [List.length_append, List.length_cons, List.length_nil]; omega) | (simp; omega)))
  refine Nz ?_
  refine Ez ?_
  refine ACode.ret ?_
  have hb := varB_last i0 v hiL0 (by exact_mod_cast c0)
  have hb3 : (bs ++ varB v).length = (bs ++ (varB v).take i0).length + 1 := by have := congrArg List.length hb; simp only [List.length_append, List.length_singleton] at this ⊢; omega
  exact RetQ.one rfl rfl (sub_over_eq (y := some (gb (bs ++ (varB v).take i0))) subA (by rw [byteI_nat, List.append_assoc, ← hb])) stays_upd (fun hk => ⟨by rw [byteI_nat, List.append_assoc, ← hb], rfl, by omega⟩)

theorem refVar (v : Nat) (hv : v < 18446744073709551616) (H : Hp) (k : Nat) : ACalls Tryd.prog NG 86 [u64 v] H k (NewB H k 5 (varB v)) := by
 induction v using Nat.strongRecOn generalizing H k
 rename_i v ih
 refine ACalls.fresh fun hf => ?_
 refine ACalls.body Tryd.func86 rfl (Nat.le_of_ble_eq_true rfl) ?_
 refine Sz ?_
 refine Rz [0] Kz rfl ?_
 refine Nz ?_
 refine Ez ?_
 refine Sz ?_
 refine Sz ?_
 refine Rz [0, 1] Kz rfl ?_
 refine Mz ?_
 refine Oz rfl rfl rfl (AOp.bin' rfl rfl rfl rfl ?_)
 refine Ez ?_
 refine ACode.cond rfl (fun c0 => ?_) (fun c0 => ?_)
 ·try simp only [Cz] at c0
  refine Sz ?_
  refine Rz [0, 1, 2, 3] Kz rfl ?_
  refine Mz ?_
  refine Oz rfl rfl rfl (AOp.toU8 rfl rfl ?_)
  refine Oz rfl rfl rfl (AOp.buildB [_] rfl Dz rfl rfl ?_)
  refine Nz ?_
  refine Ez ?_
  refine ACode.ret ?_
  exact RetQ.one (H'' := upd H k (some (gb (varB v)))) rfl rfl (sub_over_eq (y := none) (sub_drop (sub_refl _)) (by rw [varB_small Wz, byteI_nat])) stays_upd (fun hk => ⟨k, Nat.le_refl _, by omega, by rw [varB_small Wz, byteI_nat], rfl⟩)
 ·try simp only [Cz] at c0
  refine ACode.skip ?_
  refine Sz ?_
  refine Rz [0, 1, 2, 3, 4, 5, 6, 7, 8, 9] Kz rfl ?_
  refine Mz ?_
  refine Oz rfl rfl rfl (AOp.bin' rfl rfl rfl rfl ?_)
  refine Oz rfl rfl rfl (AOp.bin' rfl rfl rfl rfl ?_)
  refine Oz rfl rfl rfl (AOp.toU8 rfl rfl ?_)
  refine Oz rfl rfl rfl (AOp.buildB [_] rfl Dz rfl rfl ?_)
  refine Mz ?_
  refine Oz rfl rfl rfl (AOp.bin' (z := u64 (v / 128)) rfl rfl rfl (by show some (Value.int .u64 (IntKind.u64.wrap ((v : Int).tdiv 128))) = _; rw [IntKind.wrap_u64, Int.tdiv_eq_ediv_of_nonneg Wz]; congr 2; omega) ?_)
  refine Oz rfl rfl rfl ?_
  refine AOp.call' rfl rfl rfl (ih (v / 128) Wz Wz _ _) ?_
  rintro _ _ kq ⟨q, hq1, hq2, rfl, rfl⟩
  have hvl := varB_len (v / 128) Wz
  refine Oz rfl rfl rfl ?_
  refine AOp.appendB (ps := ?ns3) rfl rfl rfl ?hn3 ?hsrc3 ?ht3 ?hw3 ?hz3 ?hR3
  (case hn3 => exact hpA)
  (case hsrc3 => refine srcOf_gb (e := 5) ?e13; (case e13 => exact hpA))
  (case ht3 => exact srcOk_sl)
  (case hw3 => (first | omega | (simp only [List.length_cons, List.length_nil]; omega) | (simp only [List.length_append, List.length_cons, List.length_nil]; omega) | (simp; omega)))
  (case hz3 => (first | omega | (simp only [List.length_cons, List.length_nil]; omega) | (simp only [List.length_append, List.length_cons, List.length_nil]; omega) | (simp; omega)))
  refine Nz ?_
  refine Ez ?_
  refine ACode.ret ?_
  have hb : byteI (IntKind.u64.wrap (128 + (v : Int).tmod 128)) = UInt8.ofNat (v % 128 + 128) := by rw [← byteI_nat, IntKind.wrap_u64, Int.tmod_eq_emod_of_nonneg Wz]; congr 1; omega
  have hl : (varB v).length = 1 + (varB (v / 128)).length := by rw [varB_big Wz, List.length_cons, Nat.add_comm]
  exact RetQ.one (H'' := upd H k (some (gb (varB v)))) rfl rfl (sub_over_eq (y := none) (sub_drop subA) (by rw [varB_big (show ¬ v < 128 by omega), hb]; rfl)) stays_upd (fun hk => ⟨k, Nat.le_refl _, by omega, by rw [varB_big (show ¬ v < 128 by omega), hb]; rfl, rfl⟩)

theorem putBlob (n : Nat) (bs ps : List UInt8) (A : Option Addr) (c : Nat) (hn : H n = some (gb bs)) (hp : slcCells (upd H n none) 1 (.slice A ps.length c) = some (ps.map bv)) (hl : bs.length ≤ 549755813888) (hl2 : ps.length ≤ 549755813888) : ACalls Tryd.prog NG 75 [sl n bs.length, .slice A ps.length c] H k (fun r H' k' => r = sl n (bs ++ (varB ps.length ++ ps)).length ∧ H' = upd H n (some (gb (bs ++ (varB ps.length ++ ps)))) ∧ k ≤ k') := by
 refine ACalls.fresh fun hf => ?_
 refine ACalls.body Tryd.func75 rfl (Nat.le_of_ble_eq_true rfl) ?_
 have hnk := old_lt hf hn
 have hvl := varB_len ps.length Wz
 refine Sz ?_
 refine Rz [0] Kz rfl ?_
 refine Nz ?_
 refine Ez (Sz (Rz [0, 1, 2, 3, 4, 5, 6, 7] Kz rfl ?_))
 refine Mz ?_
 refine Mz ?_
 refine Oz rfl rfl rfl (AOp.len' rfl rfl ?_)
 refine Oz rfl rfl rfl (AOp.convU64 rfl rfl Wz ?_)
 refine Oz rfl rfl rfl ?_
 refine AOp.call' rfl rfl rfl (putVar NG _ _ n bs ps.length hn Wz Wz) ?_
 rintro _ _ kq ⟨rfl, rfl, hkq⟩
 refine Mz ?_
 refine Oz rfl rfl rfl ?_
 refine AOp.appendB (ps := ?ns4) rfl rfl rfl ?hn4 ?hsrc4 ?ht4 ?hw4 ?hz4 ?hR4
 (case hn4 => exact hpA)
 (case hsrc4 => exact srcOf_slc (slcCells_sub (sub_dropu (sub_refl H)) hp))
 (case ht4 => exact srcOk_sl)
 (case hw4 => (first | omega | (simp only [List.length_cons, List.length_nil]; omega) | (simp only [List.length_append, List.length_cons, List.length_nil]; omega) | (simp; omega)))
 (case hz4 => (first | omega | (simp only [List.length_cons, List.length_nil]; omega) | (simp only [List.length_append, List.length_cons, List.length_nil]; omega) | (simp; omega)))
 refine Nz ?_
 refine Ez ?_
 refine ACode.ret ?_
 have hb3 : (bs ++ (varB ps.length ++ ps)).length = (bs ++ varB ps.length).length + ps.length := by rw [← List.append_assoc, List.length_append]
 exact RetQ.one rfl rfl (sub_over_eq (y := some (gb (bs ++ varB ps.length))) subA (by rw [← List.append_assoc])) stays_upd (fun hk => ⟨by rw [← List.append_assoc], rfl, by omega⟩)

theorem refBlob (ps : List UInt8) (A : Option Addr) (c : Nat) (hp : slcCells H 1 (.slice A ps.length c) = some (ps.map bv)) (hl2 : ps.length ≤ 549755813888) : ACalls Tryd.prog NG 119 [.slice A ps.length c] H k (NewB H k 5 (varB ps.length ++ ps)) := by
 refine ACalls.fresh fun hf => ?_
 refine ACalls.body Tryd.func119 rfl (Nat.le_of_ble_eq_true rfl) ?_
 have hvl := varB_len ps.length Wz
 refine Sz ?_
 refine Rz [0] Kz rfl ?_
 refine Nz ?_
 refine Ez (Sz (Rz [0, 1, 2, 3, 4, 5, 6] Kz rfl ?_))
 refine Mz ?_
 refine Oz rfl rfl rfl (AOp.len' rfl rfl ?_)
 refine Oz rfl rfl rfl (AOp.convU64 rfl rfl Wz ?_)
 refine Oz rfl rfl rfl ?_
 refine AOp.call' rfl rfl rfl (refVar NG ps.length Wz _ _) ?_
 rintro _ _ kq ⟨q, hq1, hq2, rfl, rfl⟩
 refine Mz ?_
 refine Oz rfl rfl rfl ?_
 refine AOp.appendB (ps := ?ns5) rfl rfl rfl ?hn5 ?hsrc5 ?ht5 ?hw5 ?hz5 ?hR5
 (case hn5 => exact hpA)
 (case hsrc5 => exact srcOf_slc (slcCells_sub (sub_upd' (sub_refl H) (hf q hq1)) hp))
 (case ht5 => exact srcOk_sl)
 (case hw5 => (first | omega | (simp only [List.length_cons, List.length_nil]; omega) | (simp only [List.length_append, List.length_cons, List.length_nil]; omega) | (simp; omega)))
 (case hz5 => (first | omega | (simp only [List.length_cons, List.length_nil]; omega) | (simp only [List.length_append, List.length_cons, List.length_nil]; omega) | (simp; omega)))
 refine Nz ?_
 refine Ez ?_
 refine ACode.ret ?_
 exact RetQ.one (H'' := upd H q (some (gb (varB ps.length ++ ps)))) rfl rfl (sub_over_eq (y := none) (sub_drop subA) rfl) stays_upd (fun hk => ⟨q, hq1, by omega, rfl, rfl⟩)

theorem put_val (n : Nat) (bs : List UInt8) (a : Val) (ha : a.ok) (hs : a.s.size ≤ 274877906944) (hn : H n = some (gb bs)) (hl : bs.length ≤ 274877906944) : ACalls Tryd.prog NG 110 [sl n bs.length, vv a] H k (fun r H' k' => r = sl n (bs ++ putB a).length ∧ H' = upd H n (some (gb (bs ++ putB a))) ∧ k ≤ k') := by
 refine ACalls.fresh fun hf => ?_
 refine ACalls.body Tryd.func110 rfl (Nat.le_of_ble_eq_true rfl) ?_
 have hnk := old_lt hf hn
 have ha2 : -9223372036854775808 ≤ a.n ∧ a.n ≤ 9223372036854775807 := by have := ha.2.1; simp only [Lit.wf, Bool.and_eq_true, decide_eq_true_eq] at this; exact this
 have hsz : a.s.data.toList.length = a.s.size := rfl
 refine Sz ?_
 refine Rz [0, 1] Kz rfl ?_
 refine Oz rfl rfl rfl (AOp.boxV rfl rfl ?_)
 refine Nz ?_
 refine Ez (Sz (Rz [0, 1, 2, 3, 4, 5, 6] Kz rfl ?_))
 refine Mz ?_
 refine Fz ?_
 refine Oz rfl rfl rfl ?_
 refine AOp.load1 (b := ?b6) (v := ?v6) rfl rfl ?hn6 ?hv6 ?hR6
 (case hn6 => exact hpA)
 (case hv6 => rfl)
 refine Oz rfl rfl rfl (AOp.toU8 rfl rfl ?_)
 refine Oz rfl rfl rfl (AOp.buildB [_] rfl Dz rfl rfl ?_)
 refine Oz rfl rfl rfl ?_
 refine AOp.appendB (ps := ?ns7) rfl rfl rfl ?hn7 ?hsrc7 ?ht7 ?hw7 ?hz7 ?hR7
 (case hn7 => exact hpA)
 (case hsrc7 => refine srcOf_gb (e := 5) ?e17; (case e17 => exact hpA))
 (case ht7 => exact srcOk_sl)
 (case hw7 => (first | omega | (simp only [List.length_cons, List.length_nil]; omega) | (simp only [List.length_append, List.length_cons, List.length_nil]; omega) | (simp; omega)))
 (case hz7 => (first | omega | (simp only [List.length_cons, List.length_nil]; omega) | (simp only [List.length_append, List.length_cons, List.length_nil]; omega) | (simp; omega)))
 refine Nz ?_
 refine Ez ?_
 refine Sz ?_
 refine Sz ?_
 refine Rz [0, 1] Kz rfl ?_
 refine Fz ?_
 refine Oz rfl rfl rfl ?_
 refine AOp.load1 (b := ?b8) (v := ?v8) rfl rfl ?hn8 ?hv8 ?hR8
 (case hn8 => exact hpA)
 (case hv8 => rfl)
 refine Ez ?_
 refine ACode.block ?_
 refine Sz ?_
 refine Rz [0, 1] Kz rfl ?_
 refine Oz rfl rfl rfl (AOp.bin' rfl rfl rfl rfl ?_)
 refine Nz ?_
 refine Ez ?_
 refine ACode.cond rfl (fun c0 => ?_) (fun c0 => ?_)
 ·try simp only [Cz] at c0
  refine Rz [0, 1, 2, 3, 4, 5] Kz rfl ?_
  refine Mz ?_
  refine Fz ?_
  refine Oz rfl rfl rfl ?_
  refine AOp.load1 (b := ?b9) (v := ?v9) rfl rfl ?hn9 ?hv9 ?hR9
  (case hn9 => exact hpA)
  (case hv9 => rfl)
  refine aOps_q rfl rfl rfl (AOp.call' rfl rfl rfl (zig NG _ _ a.n ha2.1 ha2.2) Iz) (fun kq hkq => ?_)
  refine Oz rfl rfl rfl ?_
  refine AOp.call' rfl rfl rfl (putVar NG _ _ n (bs ++ [byteI a.kind]) (zigN a.n) hpA (zigN_lt ha2.1 ha2.2) (by simp; omega)) ?_
  rintro _ _ kq ⟨rfl, rfl, hkq⟩
  refine Nz ?_
  refine Ez (Sz (Rz [0, 1] Kz rfl ?_))
  refine Mz ?_
  refine Nz ?_
  refine Ez ?_
  refine ACode.ret ?_
  have e : bs ++ [byteI a.kind] ++ varB (zigN a.n) = bs ++ putB a := by rw [putB, if_pos c0, List.append_assoc]; rfl
  exact RetQ.one rfl rfl (sub_over_eq (y := some (gb (bs ++ [byteI a.kind]))) subA (by rw [e])) stays_upd (fun hk => ⟨by rw [e], rfl, by omega⟩)
 ·try simp only [Cz] at c0
  refine Sz ?_
  refine Rz [0, 1] Kz rfl ?_
  refine Oz rfl rfl rfl (AOp.bin' rfl rfl rfl rfl ?_)
  refine Nz ?_
  refine Ez ?_
  refine ACode.cond rfl (fun c1 => ?_) (fun c1 => ?_)
  ·try simp only [Cz] at c1
   refine Rz [0, 1, 2, 3, 4, 5] Kz rfl ?_
   refine Mz ?_
   refine Fz ?_
   refine Oz rfl rfl rfl ?_
   refine AOp.load1 (b := ?b10) (v := ?v10) rfl rfl ?hn10 ?hv10 ?hR10
   (case hn10 => exact hpA)
   (case hv10 => rfl)
   refine Oz rfl rfl rfl (AOp.toBytes' rfl rfl ?_)
   refine Oz rfl rfl rfl ?_
   refine AOp.call' rfl rfl rfl (putBlob NG _ _ n (bs ++ [byteI a.kind]) a.s.data.toList (some ⟨_, 0, some 0⟩) _ hpA (slcCells_loose (b := { cells := a.s.data.toList.map bv, elem := 5, kind := .fix }) hpA (by simp)) (by simp; omega) Wz) ?_
   rintro _ _ kq ⟨rfl, rfl, hkq⟩
   refine Nz ?_
   refine Ez (Sz (Rz [0, 1] Kz rfl ?_))
   refine Mz ?_
   refine Nz ?_
   refine Ez ?_
   refine ACode.ret ?_
   have e : bs ++ [byteI a.kind] ++ (varB a.s.data.toList.length ++ a.s.data.toList) = bs ++ putB a := by rw [putB, if_neg c0, if_pos c1, List.append_assoc]; rfl
   exact RetQ.one rfl rfl (sub_over_eq (y := some (gb (bs ++ [byteI a.kind]))) subA (by rw [e])) stays_upd (fun hk => ⟨by rw [e], rfl, by omega⟩)
  ·try simp only [Cz] at c1
   refine ACode.skip ?_
   refine Sz ?_
   refine Rz [0, 1] Kz rfl ?_
   refine Mz ?_
   refine Nz ?_
   refine Ez ?_
   refine ACode.ret ?_
   have e : bs ++ [byteI a.kind] = bs ++ putB a := by rw [putB, if_neg c0, if_neg c1]
   exact RetQ.one rfl rfl (sub_over_eq (y := some (gb bs)) subA (by rw [e])) stays_upd (fun hk => ⟨by rw [e], rfl, by omega⟩)

theorem refPut (a : Val) (ha : a.ok) (hs : a.s.size ≤ 274877906944) : ACalls Tryd.prog NG 87 [vv a] H k (NewB H k 5 (putB a)) := by
 refine ACalls.fresh fun hf => ?_
 refine ACalls.body Tryd.func87 rfl (Nat.le_of_ble_eq_true rfl) ?_
 have ha2 : -9223372036854775808 ≤ a.n ∧ a.n ≤ 9223372036854775807 := by have := ha.2.1; simp only [Lit.wf, Bool.and_eq_true, decide_eq_true_eq] at this; exact this
 have hsz : a.s.data.toList.length = a.s.size := rfl
 have hvl := varB_len (zigN a.n) (zigN_lt ha2.1 ha2.2)
 have hvl2 := varB_len a.s.data.toList.length Wz
 have hvl3 := varB_len a.s.size Wz
 refine Sz ?_
 refine Rz [0, 1] Kz rfl ?_
 refine Oz rfl rfl rfl (AOp.boxV rfl rfl ?_)
 refine Nz ?_
 refine Ez (Sz (Rz [0, 1, 2, 3, 4] Kz rfl ?_))
 refine Fz ?_
 refine Oz rfl rfl rfl ?_
 refine AOp.load1 (b := ?b11) (v := ?v11) rfl rfl ?hn11 ?hv11 ?hR11
 (case hn11 => exact hpA)
 (case hv11 => rfl)
 refine Oz rfl rfl rfl (AOp.toU8 rfl rfl ?_)
 refine Oz rfl rfl rfl (AOp.buildB [_] rfl Dz rfl rfl ?_)
 refine Nz ?_
 refine Ez ?_
 refine Sz ?_
 refine Sz ?_
 refine Rz [0, 1, 2] Kz rfl ?_
 refine Fz ?_
 refine Oz rfl rfl rfl ?_
 refine AOp.load1 (b := ?b12) (v := ?v12) rfl rfl ?hn12 ?hv12 ?hR12
 (case hn12 => exact hpA)
 (case hv12 => rfl)
 refine Oz rfl rfl rfl (AOp.bin' rfl rfl rfl rfl ?_)
 refine Ez ?_
 refine ACode.cond rfl (fun c0 => ?_) (fun c0 => ?_)
 ·try simp only [Cz] at c0
  refine Rz [0, 1, 2, 3, 4, 5, 6] Kz rfl ?_
  refine Mz ?_
  refine Fz ?_
  refine Oz rfl rfl rfl ?_
  refine AOp.load1 (b := ?b13) (v := ?v13) rfl rfl ?hn13 ?hv13 ?hR13
  (case hn13 => exact hpA)
  (case hv13 => rfl)
  refine aOps_q rfl rfl rfl (AOp.call' rfl rfl rfl (refzig NG _ _ a.n ha2.1 ha2.2) Iz) (fun kq hkq => ?_)
  refine Oz rfl rfl rfl ?_
  refine AOp.call' rfl rfl rfl (refVar NG (zigN a.n) (zigN_lt ha2.1 ha2.2) _ _) ?_
  rintro _ _ kq ⟨q, hq1, hq2, rfl, rfl⟩
  refine Oz rfl rfl rfl ?_
  refine AOp.appendB (ps := ?ns14) rfl rfl rfl ?hn14 ?hsrc14 ?ht14 ?hw14 ?hz14 ?hR14
  (case hn14 => exact hpA)
  (case hsrc14 => refine srcOf_gb (e := 5) ?e114; (case e114 => exact hpA))
  (case ht14 => exact srcOk_sl)
  (case hw14 => (first | omega | (simp only [List.length_cons, List.length_nil]; omega) | (simp only [List.length_append, List.length_cons, List.length_nil]; omega) | (simp; omega)))
  (case hz14 => (first | omega | (simp only [List.length_cons, List.length_nil]; omega) | (simp only [List.length_append, List.length_cons, List.length_nil]; omega) | (simp; omega)))
  refine Nz ?_
  refine Ez ?_
  refine Sz ?_
  refine Sz ?_
  refine Rz [0, 1, 2] Kz rfl ?_
  refine Fz ?_
  refine Oz rfl rfl rfl ?_
  refine AOp.load1 (b := ?b15) (v := ?v15) rfl rfl ?hn15 ?hv15 ?hR15
  (case hn15 => exact hpA)
  (case hv15 => rfl)
  refine Oz rfl rfl rfl (AOp.bin' rfl rfl rfl rfl ?_)
  refine Ez ?_
  refine ACode.cond rfl (fun c1 => absurd c1 (by rw [c0]; decide)) (fun c1 => ?_)
  refine ACode.skip ?_
  refine Sz ?_
  refine Rz [0, 1] Kz rfl ?_
  refine Mz ?_
  refine Nz ?_
  refine Ez ?_
  refine ACode.ret ?_
  have e : [byteI a.kind] ++ varB (zigN a.n) = putB a := by rw [putB, if_pos c0]; rfl
  exact RetQ.one (H'' := upd H (k + 1) (some (gb (putB a)))) rfl rfl (sub_over_eq (y := none) (sub_drop subA) (by rw [← e])) stays_upd (fun hk => ⟨k + 1, by omega, by omega, by rw [← e], rfl⟩)
 ·try simp only [Cz] at c0
  refine ACode.skip ?_
  refine Sz ?_
  refine Sz ?_
  refine Rz [0, 1, 2] Kz rfl ?_
  refine Fz ?_
  refine Oz rfl rfl rfl ?_
  refine AOp.load1 (b := ?b16) (v := ?v16) rfl rfl ?hn16 ?hv16 ?hR16
  (case hn16 => exact hpA)
  (case hv16 => rfl)
  refine Oz rfl rfl rfl (AOp.bin' rfl rfl rfl rfl ?_)
  refine Ez ?_
  refine ACode.cond rfl (fun c1 => ?_) (fun c1 => ?_)
  ·try simp only [Cz] at c1
   refine Rz [0, 1, 2, 3, 4, 5, 6] Kz rfl ?_
   refine Mz ?_
   refine Fz ?_
   refine Oz rfl rfl rfl ?_
   refine AOp.load1 (b := ?b17) (v := ?v17) rfl rfl ?hn17 ?hv17 ?hR17
   (case hn17 => exact hpA)
   (case hv17 => rfl)
   refine Oz rfl rfl rfl (AOp.toBytes' rfl rfl ?_)
   refine Oz rfl rfl rfl ?_
   refine AOp.call' rfl rfl rfl (refBlob NG _ _ a.s.data.toList (some ⟨_, 0, some 0⟩) _ (slcCells_loose (b := { cells := a.s.data.toList.map bv, elem := 5, kind := .fix }) hpA (by simp)) Wz) ?_
   rintro _ _ kq ⟨q, hq1, hq2, rfl, rfl⟩
   refine Oz rfl rfl rfl ?_
   refine AOp.appendB (ps := ?ns18) rfl rfl rfl ?hn18 ?hsrc18 ?ht18 ?hw18 ?hz18 ?hR18
   (case hn18 => exact hpA)
   (case hsrc18 => refine srcOf_gb (e := 5) ?e118; (case e118 => exact hpA))
   (case ht18 => exact srcOk_sl)
   (case hw18 => (first | omega | (simp only [List.length_cons, List.length_nil]; omega) | (simp only [List.length_append, List.length_cons, List.length_nil]; omega) | (simp; omega)))
   (case hz18 => (first | omega | (simp only [List.length_cons, List.length_nil]; omega) | (simp only [List.length_append, List.length_cons, List.length_nil]; omega) | (simp; omega)))
   refine Nz ?_
   refine Ez (Sz (Rz [0, 1] Kz rfl ?_))
   refine Mz ?_
   refine Nz ?_
   refine Ez ?_
   refine ACode.ret ?_
   have e : [byteI a.kind] ++ (varB a.s.data.toList.length ++ a.s.data.toList) = putB a := by rw [putB, if_neg c0, if_pos c1]; rfl
   exact RetQ.one (H'' := upd H (k + 1) (some (gb (putB a)))) rfl rfl (sub_over_eq (y := none) (sub_drop subA) (by rw [← e])) stays_upd (fun hk => ⟨k + 1, by omega, by omega, by rw [← e], rfl⟩)
  ·try simp only [Cz] at c1
   refine ACode.skip ?_
   refine Sz ?_
   refine Rz [0, 1] Kz rfl ?_
   refine Mz ?_
   refine Nz ?_
   refine Ez ?_
   refine ACode.ret ?_
   have e : [byteI a.kind] = putB a := by rw [putB, if_neg c0, if_neg c1]
   exact RetQ.one (H'' := upd H (k + 1) (some (gb (putB a)))) rfl rfl (sub_over_eq (y := none) (sub_drop subA) (by rw [← e])) stays_upd (fun hk => ⟨k + 1, by omega, by omega, by rw [← e], rfl⟩)
end

end Go.Proofs.YteoofihjmldllaaDoor
