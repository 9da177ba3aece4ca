/- Type assertions to struct types. -/
import Derived.Test.YtaedbimbbeploaaGreatMz0
set_option linter.unusedSimpArgs false
set_option linter.unusedVariables false

namespace Go.Proofs.YtaedbimbbeploaaGreat
open Go.RowKit
def jbn (P:Program) (T:TypeId):Bool:=match P.underlying T with
 | some (.struct _)=>true
 | _=>false
theorem zh {P:Program} {T:TypeId} {z:Value} (h:jbn P T=true) (hz:(P.info? T).map (·.zero)=some (some z)) (t:TypeId) (v:Value) (xT:TypeId) (w:World) :
 (Instr.typeAssert (.iface t v) xT T true).run P w=.ok (.tuple #[if t=T then v else z,.bool (decide (t=T))]) w:=by
 obtain ⟨j,hj,hz'⟩:=Option.map_eq_some_iff.1 hz;unfold jbn at h
 split at h
 · rename_i fs hu
   by_cases ht:t=T
   · subst ht;simp [Instr.typeAssert,run_underlying hu]
   · simp [Instr.typeAssert,run_underlying hu,ht,zeroValue,typeInfo,hj,hz']
 · cases h
theorem kah (t:TypeId) (v:Value) (xT:TypeId) (w:World):(Instr.typeAssert (.iface t v) xT 64 true).run Tryz.prog w=.ok (.tuple #[if t=64 then v else .agg #[.bool false,.slice none 0 0],.bool (decide (t=64))]) w:=
 zh (by kernel_rfl) (by kernel_rfl) t v xT w
theorem kae (t:TypeId) (v:Value) (xT:TypeId) (w:World):(Instr.typeAssert (.iface t v) xT 61 true).run Tryz.prog w=.ok (.tuple #[if t=61 then v else .agg #[.string ByteArray.empty],.bool (decide (t=61))]) w:=
 zh (by kernel_rfl) (by kernel_rfl) t v xT w
theorem yai (t:TypeId) (v:Value) (xT:TypeId) (w:World):(Instr.typeAssert (.iface t v) xT 182 true).run Tryz.prog w=.ok (.tuple #[if t=182 then v else .agg #[.nilIface,.nilIface],.bool (decide (t=182))]) w:=
 zh (by kernel_rfl) (by kernel_rfl) t v xT w
theorem qah (t:TypeId) (v:Value) (xT:TypeId) (w:World):(Instr.typeAssert (.iface t v) xT 183 true).run Tryz.prog w=.ok (.tuple #[if t=183 then v else .agg #[.nilIface,.nilIface],.bool (decide (t=183))]) w:=
 zh (by kernel_rfl) (by kernel_rfl) t v xT w
theorem gah (t:TypeId) (v:Value) (xT:TypeId) (w:World):(Instr.typeAssert (.iface t v) xT 184 true).run Tryz.prog w=.ok (.tuple #[if t=184 then v else .agg #[.nilIface,.nilIface],.bool (decide (t=184))]) w:=
 zh (by kernel_rfl) (by kernel_rfl) t v xT w
theorem uah (t:TypeId) (v:Value) (xT:TypeId) (w:World):(Instr.typeAssert (.iface t v) xT 180 true).run Tryz.prog w=.ok (.tuple #[if t=180 then v else .agg #[.nilIface],.bool (decide (t=180))]) w:=
 zh (by kernel_rfl) (by kernel_rfl) t v xT w
theorem jah (t:TypeId) (v:Value) (xT:TypeId) (w:World):(Instr.typeAssert (.iface t v) xT 187 true).run Tryz.prog w=.ok (.tuple #[if t=187 then v else .agg #[.nilIface,.int .i64 0],.bool (decide (t=187))]) w:=
 zh (by kernel_rfl) (by kernel_rfl) t v xT w
theorem wac (t:TypeId) (v:Value) (xT:TypeId) (w:World):(Instr.typeAssert (.iface t v) xT 144 true).run Tryz.prog w=.ok (.tuple #[if t=144 then v else .agg #[.bool false],.bool (decide (t=144))]) w:=
 zh (by kernel_rfl) (by kernel_rfl) t v xT w
theorem vae (t:TypeId) (v:Value) (xT:TypeId) (w:World):(Instr.typeAssert (.iface t v) xT 68 true).run Tryz.prog w=.ok (.tuple #[if t=68 then v else .agg #[.nilIface,.int .i64 0,.nilIface],.bool (decide (t=68))]) w:=
 zh (by kernel_rfl) (by kernel_rfl) t v xT w
theorem vah (t:TypeId) (v:Value) (xT:TypeId) (w:World):(Instr.typeAssert (.iface t v) xT 148 true).run Tryz.prog w=.ok (.tuple #[if t=148 then v else .agg #[.nilIface],.bool (decide (t=148))]) w:=
 zh (by kernel_rfl) (by kernel_rfl) t v xT w
theorem zai (t:TypeId) (v:Value) (xT:TypeId) (w:World):(Instr.typeAssert (.iface t v) xT 150 true).run Tryz.prog w=.ok (.tuple #[if t=150 then v else .agg #[.nilIface,.nilIface],.bool (decide (t=150))]) w:=
 zh (by kernel_rfl) (by kernel_rfl) t v xT w
theorem gal (t:TypeId) (v:Value) (xT:TypeId) (w:World):(Instr.typeAssert (.iface t v) xT 151 true).run Tryz.prog w=.ok (.tuple #[if t=151 then v else .agg #[.nilIface,.nilIface],.bool (decide (t=151))]) w:=
 zh (by kernel_rfl) (by kernel_rfl) t v xT w
theorem kz (t:TypeId) (v:Value) (xT:TypeId) (w:World):(Instr.typeAssert (.iface t v) xT 152 true).run Tryz.prog w=.ok (.tuple #[if t=152 then v else .agg #[.nilIface,.nilIface],.bool (decide (t=152))]) w:=
 zh (by kernel_rfl) (by kernel_rfl) t v xT w
theorem wah (t:TypeId) (v:Value) (xT:TypeId) (w:World):(Instr.typeAssert (.iface t v) xT 153 true).run Tryz.prog w=.ok (.tuple #[if t=153 then v else .agg #[.nilIface,.nilIface],.bool (decide (t=153))]) w:=
 zh (by kernel_rfl) (by kernel_rfl) t v xT w
theorem zad (t:TypeId) (v:Value) (xT:TypeId) (w:World):(Instr.typeAssert (.iface t v) xT 168 true).run Tryz.prog w=.ok (.tuple #[if t=168 then v else .agg #[.bool false,.string ByteArray.empty,.nilIface],.bool (decide (t=168))]) w:=
 zh (by kernel_rfl) (by kernel_rfl) t v xT w
end Go.Proofs.YtaedbimbbeploaaGreat
