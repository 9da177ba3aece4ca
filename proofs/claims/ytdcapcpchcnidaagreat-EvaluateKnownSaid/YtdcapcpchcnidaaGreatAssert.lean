/- Type assertions to struct types. -/
import Derived.Test.YtdcapcpchcnidaaGreatBase

namespace Go.Proofs.YtdcapcpchcnidaaGreat
open Go.RowKit

def structT (P : Program) (T : TypeId) : Bool := match P.underlying T with
  | some (.struct _) => true
  | _ => false

/-- `x, ok := e.(T)`, T a struct type. -/
theorem run_assert_struct {P : Program} {T : TypeId} {z : Value} (h : structT P T = true) (hz : (P.info? T).map (·.zero) = some (some z)) (t : TypeId) (v : Value) (xT : TypeId) (w : World) :
    (Instr.typeAssert (.iface t v) xT T true).run P w = .ok (.tuple #[if t = T then v else z, .bool (decide (t = T))]) w := by
  obtain ⟨j, hj, hz'⟩ := Option.map_eq_some_iff.1 hz
  unfold structT at h
  split at h
  · rename_i fs hu
    by_cases ht : t = T
    · subst ht
      simp [Instr.typeAssert, run_underlying hu]
    · simp [Instr.typeAssert, run_underlying hu, ht, zeroValue, typeInfo, hj, hz']
  · cases h

theorem as_Num (t : TypeId) (v : Value) (xT : TypeId) (w : World) : (Instr.typeAssert (.iface t v) xT 59 true).run Tryz.prog w = .ok (.tuple #[if t = 59 then v else .agg #[.bool false, .slice none 0 0], .bool (decide (t = 59))]) w :=
  run_assert_struct (by kernel_rfl) (by kernel_rfl) t v xT w
theorem as_Name (t : TypeId) (v : Value) (xT : TypeId) (w : World) : (Instr.typeAssert (.iface t v) xT 56 true).run Tryz.prog w = .ok (.tuple #[if t = 56 then v else .agg #[.string ByteArray.empty], .bool (decide (t = 56))]) w :=
  run_assert_struct (by kernel_rfl) (by kernel_rfl) t v xT w
theorem as_Add (t : TypeId) (v : Value) (xT : TypeId) (w : World) : (Instr.typeAssert (.iface t v) xT 168 true).run Tryz.prog w = .ok (.tuple #[if t = 168 then v else .agg #[.nilIface, .nilIface], .bool (decide (t = 168))]) w :=
  run_assert_struct (by kernel_rfl) (by kernel_rfl) t v xT w
theorem as_Sub (t : TypeId) (v : Value) (xT : TypeId) (w : World) : (Instr.typeAssert (.iface t v) xT 169 true).run Tryz.prog w = .ok (.tuple #[if t = 169 then v else .agg #[.nilIface, .nilIface], .bool (decide (t = 169))]) w :=
  run_assert_struct (by kernel_rfl) (by kernel_rfl) t v xT w
theorem as_Mul (t : TypeId) (v : Value) (xT : TypeId) (w : World) : (Instr.typeAssert (.iface t v) xT 170 true).run Tryz.prog w = .ok (.tuple #[if t = 170 then v else .agg #[.nilIface, .nilIface], .bool (decide (t = 170))]) w :=
  run_assert_struct (by kernel_rfl) (by kernel_rfl) t v xT w
theorem as_Neg (t : TypeId) (v : Value) (xT : TypeId) (w : World) : (Instr.typeAssert (.iface t v) xT 166 true).run Tryz.prog w = .ok (.tuple #[if t = 166 then v else .agg #[.nilIface], .bool (decide (t = 166))]) w :=
  run_assert_struct (by kernel_rfl) (by kernel_rfl) t v xT w
theorem as_Pow (t : TypeId) (v : Value) (xT : TypeId) (w : World) : (Instr.typeAssert (.iface t v) xT 173 true).run Tryz.prog w = .ok (.tuple #[if t = 173 then v else .agg #[.nilIface, .int .i64 0], .bool (decide (t = 173))]) w :=
  run_assert_struct (by kernel_rfl) (by kernel_rfl) t v xT w
theorem as_Truth (t : TypeId) (v : Value) (xT : TypeId) (w : World) : (Instr.typeAssert (.iface t v) xT 125 true).run Tryz.prog w = .ok (.tuple #[if t = 125 then v else .agg #[.bool false], .bool (decide (t = 125))]) w :=
  run_assert_struct (by kernel_rfl) (by kernel_rfl) t v xT w
theorem as_Atom (t : TypeId) (v : Value) (xT : TypeId) (w : World) : (Instr.typeAssert (.iface t v) xT 63 true).run Tryz.prog w = .ok (.tuple #[if t = 63 then v else .agg #[.nilIface, .int .i64 0, .nilIface], .bool (decide (t = 63))]) w :=
  run_assert_struct (by kernel_rfl) (by kernel_rfl) t v xT w
theorem as_Not (t : TypeId) (v : Value) (xT : TypeId) (w : World) : (Instr.typeAssert (.iface t v) xT 128 true).run Tryz.prog w = .ok (.tuple #[if t = 128 then v else .agg #[.nilIface], .bool (decide (t = 128))]) w :=
  run_assert_struct (by kernel_rfl) (by kernel_rfl) t v xT w
theorem as_And (t : TypeId) (v : Value) (xT : TypeId) (w : World) : (Instr.typeAssert (.iface t v) xT 130 true).run Tryz.prog w = .ok (.tuple #[if t = 130 then v else .agg #[.nilIface, .nilIface], .bool (decide (t = 130))]) w :=
  run_assert_struct (by kernel_rfl) (by kernel_rfl) t v xT w
theorem as_Or (t : TypeId) (v : Value) (xT : TypeId) (w : World) : (Instr.typeAssert (.iface t v) xT 131 true).run Tryz.prog w = .ok (.tuple #[if t = 131 then v else .agg #[.nilIface, .nilIface], .bool (decide (t = 131))]) w :=
  run_assert_struct (by kernel_rfl) (by kernel_rfl) t v xT w
theorem as_Implies (t : TypeId) (v : Value) (xT : TypeId) (w : World) : (Instr.typeAssert (.iface t v) xT 132 true).run Tryz.prog w = .ok (.tuple #[if t = 132 then v else .agg #[.nilIface, .nilIface], .bool (decide (t = 132))]) w :=
  run_assert_struct (by kernel_rfl) (by kernel_rfl) t v xT w
theorem as_Iff (t : TypeId) (v : Value) (xT : TypeId) (w : World) : (Instr.typeAssert (.iface t v) xT 133 true).run Tryz.prog w = .ok (.tuple #[if t = 133 then v else .agg #[.nilIface, .nilIface], .bool (decide (t = 133))]) w :=
  run_assert_struct (by kernel_rfl) (by kernel_rfl) t v xT w
theorem as_Quant (t : TypeId) (v : Value) (xT : TypeId) (w : World) : (Instr.typeAssert (.iface t v) xT 154 true).run Tryz.prog w = .ok (.tuple #[if t = 154 then v else .agg #[.bool false, .string ByteArray.empty, .nilIface], .bool (decide (t = 154))]) w :=
  run_assert_struct (by kernel_rfl) (by kernel_rfl) t v xT w
end Go.Proofs.YtdcapcpchcnidaaGreat
