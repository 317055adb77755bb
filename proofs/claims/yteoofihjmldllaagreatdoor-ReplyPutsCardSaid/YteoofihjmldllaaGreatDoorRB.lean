/- errors.As at a number: an error of the readers unwraps to its number. -/
import Derived.Test.YteoofihjmldllaaGreatDoorRA
import Derived.Deep.RegionWith
set_option linter.unusedVariables false
set_option linter.unusedSimpArgs false
namespace Go.Proofs.YteoofihjmldllaaGreatDoor
open Go.RowKit Go.Extern.Stop Go.Stop Go.Extern
set_option maxHeartbeats 4000000 in
theorem as_errno (fb : Nat) (n : Int) (t : Addr) (old : Value) (w : World) (hg : w.cell? ⟨0, 0, none⟩ = some (.iface 146 (.agg #[.pointer (some ⟨1, 107, none⟩)]))) (hfc : w.cell? ⟨fb, 1, none⟩ = some (.iface 34 (.int .i64 n))) (ht0 : w.cell? t = some old) (hf0 : w.frozen? t = false) :
    Calls Tryz.prog 63 #[.iface 110 (.pointer (some ⟨fb, 0, none⟩)), .iface 113 (.pointer (some t))] w fun ev w' => ev = .returned (.bool true) ∧ w' = ((((w.alloc (.cells #[.pointer (some t)] 113)).alloc (.cells #[.pointer (some ⟨1, 113, none⟩), .pointer (some ⟨w.heap.size, 0, none⟩), .int .u64 150] 133)).alloc (.cells #[.pointer (some ⟨1, 113, none⟩), .pointer (some ⟨w.heap.size, 0, none⟩), .int .u64 150] 133)).alloc (.cells #[.int .i64 n] 34)).setCell t (.int .i64 n) := by
  have h6 := @run_callFunc_extern Tryz.prog 87 _ (fun args => ReflectliteValue.unpack (args.getD 0 (.tuple #[]))) Tryz.func87 (by kernel_rfl) (by kernel_rfl) (by kernel_rfl) (by kernel_rfl)
  have h7 := @run_callFunc_extern Tryz.prog 88 _ (ReflectliteValue.methodAny (ReflectliteValue.valueError "reflectlite.Value.Type" 0) (fun t _ _ _ => ReflectliteType.toType t)) Tryz.func88 (by kernel_rfl) (by kernel_rfl) (by kernel_rfl) (by kernel_rfl)
  have h8 := @run_callFunc_extern Tryz.prog 89 _ (ReflectliteValue.method (ReflectliteValue.valueError "reflectlite.Value.IsNil" 0) ReflectliteValue.isNil) Tryz.func89 (by kernel_rfl) (by kernel_rfl) (by kernel_rfl) (by kernel_rfl)
  have h27 := @run_callFunc_extern Tryz.prog 124 _ (ReflectliteType.abiMethod fun t => do pure (.int .u8 (← Rtype.kind t))) Tryz.func124 (by kernel_rfl) (by kernel_rfl) (by kernel_rfl) (by kernel_rfl)
  have h37 := @run_callFunc_extern Tryz.prog 137 _ (ReflectliteType.method ReflectliteType.elem) Tryz.func137 (by kernel_rfl) (by kernel_rfl) (by kernel_rfl) (by kernel_rfl)
  have h38 := @run_callFunc_extern Tryz.prog 138 _ (ReflectliteType.relation "Implements" ReflectliteType.implements_) Tryz.func138 (by kernel_rfl) (by kernel_rfl) (by kernel_rfl) (by kernel_rfl)
  have h10 := @run_callFunc_extern Tryz.prog 96 _ ReflectliteType.typeOf Tryz.func96 (by kernel_rfl) (by kernel_rfl) (by kernel_rfl) (by kernel_rfl)
  have h35 := @run_callFunc_extern Tryz.prog 135 _ (ReflectliteType.relation "AssignableTo" ReflectliteType.assignableTo) Tryz.func135 (by kernel_rfl) (by kernel_rfl) (by kernel_rfl) (by kernel_rfl)
  have h11 := @run_callFunc_extern Tryz.prog 97 _ (ReflectliteValue.method (ReflectliteValue.valueError "reflectlite.Value.Elem" 0) ReflectliteValue.elem) Tryz.func97 (by kernel_rfl) (by kernel_rfl) (by kernel_rfl) (by kernel_rfl)
  have h12 := @run_callFunc_extern Tryz.prog 98 _ ReflectliteValue.set Tryz.func98 (by kernel_rfl) (by kernel_rfl) (by kernel_rfl) (by kernel_rfl)
  have tO := as_typeOf25
  have tN := ae_typeOf39
  have mA := as_methodAssignableTo
  have a0 := ae_assign0
  have a1 := ae_assign1
  have v39 := ae_valueOf39
  have f6 := ae_valueOf
  have f7 := ae_type
  have mK := as_methodKind
  have mE := as_methodElem
  have mI := as_methodImplements
  have k122 := ae_kind122
  have k39 := ae_kind39
  have e122 := ae_elem
  have i39 := ae_implements
  have nA := ae_noAs
  have hU := ae_unwraps
  have mU := ae_methodUnwrap
  have n8 := ae_isNil ⟨w.heap.size, 0, none⟩ t ((w.alloc (.cells #[.pointer (some t)] 113)).alloc (.cells #[.pointer (some ⟨1, 113, none⟩), .pointer (some ⟨w.heap.size, 0, none⟩), .int .u64 150] 133)) (by simp)
  have hlt : 0 < w.heap.size := by
    rcases Nat.lt_or_ge 0 w.heap.size with h | h
    · exact h
    · simp [World.cell?, Array.getElem?_eq_none h] at hg
  have hfl : fb < w.heap.size := by
    rcases Nat.lt_or_ge fb w.heap.size with h | h
    · exact h
    · simp [World.cell?, Array.getElem?_eq_none h] at hfc
  have hg2 : ((w.alloc (.cells #[.pointer (some t)] 113)).alloc (.cells #[.pointer (some ⟨1, 113, none⟩), .pointer (some ⟨w.heap.size, 0, none⟩), .int .u64 150] 133)).cell? ⟨0, 0, none⟩ = some (.iface 146 (.agg #[.pointer (some ⟨1, 107, none⟩)])) := by
    rw [World.cell?_alloc_lt _ _ ⟨0, 0, none⟩ (by first | (simp; done) | (simp; omega)), World.cell?_alloc_lt _ _ ⟨0, 0, none⟩ hlt]; exact hg
  have hfc3 : (((w.alloc (.cells #[.pointer (some t)] 113)).alloc (.cells #[.pointer (some ⟨1, 113, none⟩), .pointer (some ⟨w.heap.size, 0, none⟩), .int .u64 150] 133)).alloc (.cells #[.pointer (some ⟨1, 113, none⟩), .pointer (some ⟨w.heap.size, 0, none⟩), .int .u64 150] 133)).cell? ⟨fb, 1, none⟩ = some (.iface 34 (.int .i64 n)) := by
    rw [World.cell?_alloc_lt _ _ ⟨fb, 1, none⟩ (by first | (simp; done) | (simp; omega)), World.cell?_alloc_lt _ _ ⟨fb, 1, none⟩ (by first | (simp; done) | (simp; omega)), World.cell?_alloc_lt _ _ ⟨fb, 1, none⟩ hfl]; exact hfc
  have htl : t.block < w.heap.size := by
    rcases Nat.lt_or_ge t.block w.heap.size with h | h
    · exact h
    · simp [World.cell?, Array.getElem?_eq_none h] at ht0
  have el := ae_elemV ⟨w.heap.size, 0, none⟩ t (((w.alloc (.cells #[.pointer (some t)] 113)).alloc (.cells #[.pointer (some ⟨1, 113, none⟩), .pointer (some ⟨w.heap.size, 0, none⟩), .int .u64 150] 133)).alloc (.cells #[.pointer (some ⟨1, 113, none⟩), .pointer (some ⟨w.heap.size, 0, none⟩), .int .u64 150] 133)) (by rw [World.cell?_alloc_lt _ _ ⟨w.heap.size, 0, none⟩ (by first | (simp; done) | (simp; omega))]; simp)
  have st := ae_set t ⟨w.heap.size + 1 + 1 + 1, 0, none⟩ n old ((((w.alloc (.cells #[.pointer (some t)] 113)).alloc (.cells #[.pointer (some ⟨1, 113, none⟩), .pointer (some ⟨w.heap.size, 0, none⟩), .int .u64 150] 133)).alloc (.cells #[.pointer (some ⟨1, 113, none⟩), .pointer (some ⟨w.heap.size, 0, none⟩), .int .u64 150] 133)).alloc (.cells #[.int .i64 n] 34))
    (by rw [World.cell?_alloc_at _ _ _ _ (by simp)]; rfl)
    (by rw [World.cell?_alloc_lt _ _ t (by simp; omega), World.cell?_alloc_lt _ _ t (by simp; omega), World.cell?_alloc_lt _ _ t (by simp; omega), World.cell?_alloc_lt _ _ t htl]; exact ht0)
    (by rw [World.frozen?_alloc_old _ _ t (by simp; omega), World.frozen?_alloc_old _ _ t (by simp; omega), World.frozen?_alloc_old _ _ t (by simp; omega), World.frozen?_alloc_old _ _ t (Nat.ne_of_lt htl)]; exact hf0)
  go_enter Tryz.func63, Tryz.ntmps63
  go_wp2
  refine wp_loop_rounds 2 ?_
  rw [rounds_succ]
  go_wp2
  rw [rounds_succ]
  go_wp2
  go_ret
  exact ⟨rfl, rfl⟩
end Go.Proofs.YteoofihjmldllaaGreatDoor
