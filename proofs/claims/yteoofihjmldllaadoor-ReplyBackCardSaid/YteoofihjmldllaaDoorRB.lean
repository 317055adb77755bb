/- errors.As at a number: an error of the readers unwraps to its number. -/
import Derived.Test.YteoofihjmldllaaDoorRA
import Derived.Deep.RegionWith
set_option linter.unusedVariables false
set_option linter.unusedSimpArgs false
namespace Go.Proofs.YteoofihjmldllaaDoor
open Go.RowKit Go.Extern.Stop Go.Stop Go.Extern
set_option maxHeartbeats 4000000 in
theorem as_errno (fb : Nat) (n : Int) (t : Addr) (old : Value) (w : World) (hg : w.cell? ⟨1, 0, none⟩ = some (.iface 191 (.agg #[.pointer (some ⟨2, 90, none⟩)]))) (hfc : w.cell? ⟨fb, 1, none⟩ = some (.iface 35 (.int .i64 n))) (ht0 : w.cell? t = some old) (hf0 : w.frozen? t = false) :
    Calls Tryd.prog 41 #[.iface 96 (.pointer (some ⟨fb, 0, none⟩)), .iface 99 (.pointer (some t))] w fun ev w' => ev = .returned (.bool true) ∧ w' = ((((w.alloc (.cells #[.pointer (some t)] 99)).alloc (.cells #[.pointer (some ⟨2, 99, none⟩), .pointer (some ⟨w.heap.size, 0, none⟩), .int .u64 150] 160)).alloc (.cells #[.pointer (some ⟨2, 99, none⟩), .pointer (some ⟨w.heap.size, 0, none⟩), .int .u64 150] 160)).alloc (.cells #[.int .i64 n] 35)).setCell t (.int .i64 n) := by
  have h6 := @run_callFunc_extern Tryd.prog 95 _ (fun args => ReflectliteValue.unpack (args.getD 0 (.tuple #[]))) Tryd.func95 (by kernel_rfl) (by kernel_rfl) (by kernel_rfl) (by kernel_rfl)
  have h7 := @run_callFunc_extern Tryd.prog 96 _ (ReflectliteValue.methodAny (ReflectliteValue.valueError "reflectlite.Value.Type" 0) (fun t _ _ _ => ReflectliteType.toType t)) Tryd.func96 (by kernel_rfl) (by kernel_rfl) (by kernel_rfl) (by kernel_rfl)
  have h8 := @run_callFunc_extern Tryd.prog 97 _ (ReflectliteValue.method (ReflectliteValue.valueError "reflectlite.Value.IsNil" 0) ReflectliteValue.isNil) Tryd.func97 (by kernel_rfl) (by kernel_rfl) (by kernel_rfl) (by kernel_rfl)
  have h27 := @run_callFunc_extern Tryd.prog 164 _ (ReflectliteType.abiMethod fun t => do pure (.int .u8 (← Rtype.kind t))) Tryd.func164 (by kernel_rfl) (by kernel_rfl) (by kernel_rfl) (by kernel_rfl)
  have h37 := @run_callFunc_extern Tryd.prog 176 _ (ReflectliteType.method ReflectliteType.elem) Tryd.func176 (by kernel_rfl) (by kernel_rfl) (by kernel_rfl) (by kernel_rfl)
  have h38 := @run_callFunc_extern Tryd.prog 177 _ (ReflectliteType.relation "Implements" ReflectliteType.implements_) Tryd.func177 (by kernel_rfl) (by kernel_rfl) (by kernel_rfl) (by kernel_rfl)
  have h10 := @run_callFunc_extern Tryd.prog 131 _ ReflectliteType.typeOf Tryd.func131 (by kernel_rfl) (by kernel_rfl) (by kernel_rfl) (by kernel_rfl)
  have h35 := @run_callFunc_extern Tryd.prog 174 _ (ReflectliteType.relation "AssignableTo" ReflectliteType.assignableTo) Tryd.func174 (by kernel_rfl) (by kernel_rfl) (by kernel_rfl) (by kernel_rfl)
  have h11 := @run_callFunc_extern Tryd.prog 132 _ (ReflectliteValue.method (ReflectliteValue.valueError "reflectlite.Value.Elem" 0) ReflectliteValue.elem) Tryd.func132 (by kernel_rfl) (by kernel_rfl) (by kernel_rfl) (by kernel_rfl)
  have h12 := @run_callFunc_extern Tryd.prog 133 _ ReflectliteValue.set Tryd.func133 (by kernel_rfl) (by kernel_rfl) (by kernel_rfl) (by kernel_rfl)
  have tO := as_typeOf25
  have tN := ae_typeOf39
  have mA := as_methodAssignableTo
  have a0 := ae_assign0
  have a1 := ae_assign1
  have v39 := ae_valueOf39
  have f6 := ae_valueOf
  have f7 := ae_type
  have mK := as_methodKind
  have mE := as_methodElem
  have mI := as_methodImplements
  have k122 := ae_kind122
  have k39 := ae_kind39
  have e122 := ae_elem
  have i39 := ae_implements
  have nA := ae_noAs
  have hU := ae_unwraps
  have mU := ae_methodUnwrap
  have n8 := ae_isNil ⟨w.heap.size, 0, none⟩ t ((w.alloc (.cells #[.pointer (some t)] 99)).alloc (.cells #[.pointer (some ⟨2, 99, none⟩), .pointer (some ⟨w.heap.size, 0, none⟩), .int .u64 150] 160)) (by simp)
  have hlt : 1 < w.heap.size := by
    rcases Nat.lt_or_ge 1 w.heap.size with h | h
    · exact h
    · simp [World.cell?, Array.getElem?_eq_none h] at hg
  have hfl : fb < w.heap.size := by
    rcases Nat.lt_or_ge fb w.heap.size with h | h
    · exact h
    · simp [World.cell?, Array.getElem?_eq_none h] at hfc
  have hg2 : ((w.alloc (.cells #[.pointer (some t)] 99)).alloc (.cells #[.pointer (some ⟨2, 99, none⟩), .pointer (some ⟨w.heap.size, 0, none⟩), .int .u64 150] 160)).cell? ⟨1, 0, none⟩ = some (.iface 191 (.agg #[.pointer (some ⟨2, 90, none⟩)])) := by
    rw [World.cell?_alloc_lt _ _ ⟨1, 0, none⟩ (by first | (simp; done) | (simp; omega)), World.cell?_alloc_lt _ _ ⟨1, 0, none⟩ hlt]; exact hg
  have hfc3 : (((w.alloc (.cells #[.pointer (some t)] 99)).alloc (.cells #[.pointer (some ⟨2, 99, none⟩), .pointer (some ⟨w.heap.size, 0, none⟩), .int .u64 150] 160)).alloc (.cells #[.pointer (some ⟨2, 99, none⟩), .pointer (some ⟨w.heap.size, 0, none⟩), .int .u64 150] 160)).cell? ⟨fb, 1, none⟩ = some (.iface 35 (.int .i64 n)) := by
    rw [World.cell?_alloc_lt _ _ ⟨fb, 1, none⟩ (by first | (simp; done) | (simp; omega)), World.cell?_alloc_lt _ _ ⟨fb, 1, none⟩ (by first | (simp; done) | (simp; omega)), World.cell?_alloc_lt _ _ ⟨fb, 1, none⟩ hfl]; exact hfc
  have htl : t.block < w.heap.size := by
    rcases Nat.lt_or_ge t.block w.heap.size with h | h
    · exact h
    · simp [World.cell?, Array.getElem?_eq_none h] at ht0
  have el := ae_elemV ⟨w.heap.size, 0, none⟩ t (((w.alloc (.cells #[.pointer (some t)] 99)).alloc (.cells #[.pointer (some ⟨2, 99, none⟩), .pointer (some ⟨w.heap.size, 0, none⟩), .int .u64 150] 160)).alloc (.cells #[.pointer (some ⟨2, 99, none⟩), .pointer (some ⟨w.heap.size, 0, none⟩), .int .u64 150] 160)) (by rw [World.cell?_alloc_lt _ _ ⟨w.heap.size, 0, none⟩ (by first | (simp; done) | (simp; omega))]; simp)
  have st := ae_set t ⟨w.heap.size + 1 + 1 + 1, 0, none⟩ n old ((((w.alloc (.cells #[.pointer (some t)] 99)).alloc (.cells #[.pointer (some ⟨2, 99, none⟩), .pointer (some ⟨w.heap.size, 0, none⟩), .int .u64 150] 160)).alloc (.cells #[.pointer (some ⟨2, 99, none⟩), .pointer (some ⟨w.heap.size, 0, none⟩), .int .u64 150] 160)).alloc (.cells #[.int .i64 n] 35))
    (by rw [World.cell?_alloc_at _ _ _ _ (by simp)]; rfl)
    (by rw [World.cell?_alloc_lt _ _ t (by simp; omega), World.cell?_alloc_lt _ _ t (by simp; omega), World.cell?_alloc_lt _ _ t (by simp; omega), World.cell?_alloc_lt _ _ t htl]; exact ht0)
    (by rw [World.frozen?_alloc_old _ _ t (by simp; omega), World.frozen?_alloc_old _ _ t (by simp; omega), World.frozen?_alloc_old _ _ t (by simp; omega), World.frozen?_alloc_old _ _ t (Nat.ne_of_lt htl)]; exact hf0)
  go_enter Tryd.func41, Tryd.ntmps41
  go_wp2
  refine wp_loop_rounds 2 ?_
  rw [rounds_succ]
  go_wp2
  rw [rounds_succ]
  go_wp2
  go_ret
  exact ⟨rfl, rfl⟩
end Go.Proofs.YteoofihjmldllaaDoor
