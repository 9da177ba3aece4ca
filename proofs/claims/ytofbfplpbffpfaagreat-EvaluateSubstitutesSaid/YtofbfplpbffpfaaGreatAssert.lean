/- Type assertions to struct types. -/
import Derived.Test.YtofbfplpbffpfaaGreatBase

namespace Go.Proofs.YtofbfplpbffpfaaGreat
open Go.RowKit

def structT (P : Program) (T : TypeId) : Bool := match P.underlying T with
  | some (.struct _) => true
  | _ => false

/-- `x, ok := e.(T)`, T a struct type. -/
theorem run_assert_struct {P : Program} {T : TypeId} {z : Value} (h : structT P T = true) (hz : (P.info? T).map (·.zero) = some (some z)) (t : TypeId) (v : Value) (xT : TypeId) (w : World) :
    (Instr.typeAssert (.iface t v) xT T true).run P w = .ok (.tuple #[if t = T then v else z, .bool (decide (t = T))]) w := by
  obtain ⟨j, hj, hz'⟩ := Option.map_eq_some_iff.1 hz
  unfold structT at h
  split at h
  · rename_i fs hu
    by_cases ht : t = T
    · subst ht
      simp [Instr.typeAssert, run_underlying hu]
    · simp [Instr.typeAssert, run_underlying hu, ht, zeroValue, typeInfo, hj, hz']
  · cases h

theorem as_Num (t : TypeId) (v : Value) (xT : TypeId) (w : World) : (Instr.typeAssert (.iface t v) xT 63 true).run Tryz.prog w = .ok (.tuple #[if t = 63 then v else .agg #[.bool false, .slice none 0 0], .bool (decide (t = 63))]) w :=
  run_assert_struct (by kernel_rfl) (by kernel_rfl) t v xT w
theorem as_Name (t : TypeId) (v : Value) (xT : TypeId) (w : World) : (Instr.typeAssert (.iface t v) xT 60 true).run Tryz.prog w = .ok (.tuple #[if t = 60 then v else .agg #[.string ByteArray.empty], .bool (decide (t = 60))]) w :=
  run_assert_struct (by kernel_rfl) (by kernel_rfl) t v xT w
theorem as_Add (t : TypeId) (v : Value) (xT : TypeId) (w : World) : (Instr.typeAssert (.iface t v) xT 98 true).run Tryz.prog w = .ok (.tuple #[if t = 98 then v else .agg #[.nilIface, .nilIface], .bool (decide (t = 98))]) w :=
  run_assert_struct (by kernel_rfl) (by kernel_rfl) t v xT w
theorem as_Sub (t : TypeId) (v : Value) (xT : TypeId) (w : World) : (Instr.typeAssert (.iface t v) xT 99 true).run Tryz.prog w = .ok (.tuple #[if t = 99 then v else .agg #[.nilIface, .nilIface], .bool (decide (t = 99))]) w :=
  run_assert_struct (by kernel_rfl) (by kernel_rfl) t v xT w
theorem as_Mul (t : TypeId) (v : Value) (xT : TypeId) (w : World) : (Instr.typeAssert (.iface t v) xT 100 true).run Tryz.prog w = .ok (.tuple #[if t = 100 then v else .agg #[.nilIface, .nilIface], .bool (decide (t = 100))]) w :=
  run_assert_struct (by kernel_rfl) (by kernel_rfl) t v xT w
theorem as_Neg (t : TypeId) (v : Value) (xT : TypeId) (w : World) : (Instr.typeAssert (.iface t v) xT 94 true).run Tryz.prog w = .ok (.tuple #[if t = 94 then v else .agg #[.nilIface], .bool (decide (t = 94))]) w :=
  run_assert_struct (by kernel_rfl) (by kernel_rfl) t v xT w
theorem as_Pow (t : TypeId) (v : Value) (xT : TypeId) (w : World) : (Instr.typeAssert (.iface t v) xT 96 true).run Tryz.prog w = .ok (.tuple #[if t = 96 then v else .agg #[.nilIface, .int .i64 0], .bool (decide (t = 96))]) w :=
  run_assert_struct (by kernel_rfl) (by kernel_rfl) t v xT w
theorem as_Truth (t : TypeId) (v : Value) (xT : TypeId) (w : World) : (Instr.typeAssert (.iface t v) xT 73 true).run Tryz.prog w = .ok (.tuple #[if t = 73 then v else .agg #[.bool false], .bool (decide (t = 73))]) w :=
  run_assert_struct (by kernel_rfl) (by kernel_rfl) t v xT w
theorem as_Atom (t : TypeId) (v : Value) (xT : TypeId) (w : World) : (Instr.typeAssert (.iface t v) xT 65 true).run Tryz.prog w = .ok (.tuple #[if t = 65 then v else .agg #[.nilIface, .int .i64 0, .nilIface], .bool (decide (t = 65))]) w :=
  run_assert_struct (by kernel_rfl) (by kernel_rfl) t v xT w
theorem as_Not (t : TypeId) (v : Value) (xT : TypeId) (w : World) : (Instr.typeAssert (.iface t v) xT 117 true).run Tryz.prog w = .ok (.tuple #[if t = 117 then v else .agg #[.nilIface], .bool (decide (t = 117))]) w :=
  run_assert_struct (by kernel_rfl) (by kernel_rfl) t v xT w
theorem as_And (t : TypeId) (v : Value) (xT : TypeId) (w : World) : (Instr.typeAssert (.iface t v) xT 119 true).run Tryz.prog w = .ok (.tuple #[if t = 119 then v else .agg #[.nilIface, .nilIface], .bool (decide (t = 119))]) w :=
  run_assert_struct (by kernel_rfl) (by kernel_rfl) t v xT w
theorem as_Or (t : TypeId) (v : Value) (xT : TypeId) (w : World) : (Instr.typeAssert (.iface t v) xT 120 true).run Tryz.prog w = .ok (.tuple #[if t = 120 then v else .agg #[.nilIface, .nilIface], .bool (decide (t = 120))]) w :=
  run_assert_struct (by kernel_rfl) (by kernel_rfl) t v xT w
theorem as_Implies (t : TypeId) (v : Value) (xT : TypeId) (w : World) : (Instr.typeAssert (.iface t v) xT 121 true).run Tryz.prog w = .ok (.tuple #[if t = 121 then v else .agg #[.nilIface, .nilIface], .bool (decide (t = 121))]) w :=
  run_assert_struct (by kernel_rfl) (by kernel_rfl) t v xT w
theorem as_Iff (t : TypeId) (v : Value) (xT : TypeId) (w : World) : (Instr.typeAssert (.iface t v) xT 122 true).run Tryz.prog w = .ok (.tuple #[if t = 122 then v else .agg #[.nilIface, .nilIface], .bool (decide (t = 122))]) w :=
  run_assert_struct (by kernel_rfl) (by kernel_rfl) t v xT w
theorem as_Quant (t : TypeId) (v : Value) (xT : TypeId) (w : World) : (Instr.typeAssert (.iface t v) xT 124 true).run Tryz.prog w = .ok (.tuple #[if t = 124 then v else .agg #[.bool false, .string ByteArray.empty, .nilIface], .bool (decide (t = 124))]) w :=
  run_assert_struct (by kernel_rfl) (by kernel_rfl) t v xT w
end Go.Proofs.YtofbfplpbffpfaaGreat
