/- Type assertions to struct types. -/
import Derived.Test.YtcfcjabgkfehlaaGreatMf0
set_option linter.unusedSimpArgs false
set_option linter.unusedVariables false

namespace Go.Proofs.YtcfcjabgkfehlaaGreat
open Go.RowKit
def ubs (P:Program) (T:TypeId):Bool:=match P.underlying T with
 | some (.struct _)=>true
 | _=>false
theorem jh {P:Program} {T:TypeId} {z:Value} (h:ubs P T=true) (hz:(P.info? T).map (·.zero)=some (some z)) (t:TypeId) (v:Value) (xT:TypeId) (w:World) :
 (Instr.typeAssert (.iface t v) xT T true).run P w=.ok (.tuple #[if t=T then v else z,.bool (decide (t=T))]) w:=by
 obtain ⟨j,hj,hz'⟩:=Option.map_eq_some_iff.1 hz;unfold ubs at h
 split at h
 · rename_i fs hu
   by_cases ht:t=T
   · subst ht;simp [Instr.typeAssert,run_underlying hu]
   · simp [Instr.typeAssert,run_underlying hu,ht,zeroValue,typeInfo,hj,hz']
 · cases h
theorem xaj (t:TypeId) (v:Value) (xT:TypeId) (w:World):(Instr.typeAssert (.iface t v) xT 105 true).run Tryz.prog w=.ok (.tuple #[if t=105 then v else .agg #[.bool false,.slice none 0 0],.bool (decide (t=105))]) w:=
 jh (by kernel_rfl) (by kernel_rfl) t v xT w
theorem gaf (t:TypeId) (v:Value) (xT:TypeId) (w:World):(Instr.typeAssert (.iface t v) xT 102 true).run Tryz.prog w=.ok (.tuple #[if t=102 then v else .agg #[.string ByteArray.empty],.bool (decide (t=102))]) w:=
 jh (by kernel_rfl) (by kernel_rfl) t v xT w
theorem gaj (t:TypeId) (v:Value) (xT:TypeId) (w:World):(Instr.typeAssert (.iface t v) xT 259 true).run Tryz.prog w=.ok (.tuple #[if t=259 then v else .agg #[.nilIface,.nilIface],.bool (decide (t=259))]) w:=
 jh (by kernel_rfl) (by kernel_rfl) t v xT w
theorem zaj (t:TypeId) (v:Value) (xT:TypeId) (w:World):(Instr.typeAssert (.iface t v) xT 260 true).run Tryz.prog w=.ok (.tuple #[if t=260 then v else .agg #[.nilIface,.nilIface],.bool (decide (t=260))]) w:=
 jh (by kernel_rfl) (by kernel_rfl) t v xT w
theorem kaj (t:TypeId) (v:Value) (xT:TypeId) (w:World):(Instr.typeAssert (.iface t v) xT 261 true).run Tryz.prog w=.ok (.tuple #[if t=261 then v else .agg #[.nilIface,.nilIface],.bool (decide (t=261))]) w:=
 jh (by kernel_rfl) (by kernel_rfl) t v xT w
theorem jaj (t:TypeId) (v:Value) (xT:TypeId) (w:World):(Instr.typeAssert (.iface t v) xT 257 true).run Tryz.prog w=.ok (.tuple #[if t=257 then v else .agg #[.nilIface],.bool (decide (t=257))]) w:=
 jh (by kernel_rfl) (by kernel_rfl) t v xT w
theorem yaj (t:TypeId) (v:Value) (xT:TypeId) (w:World):(Instr.typeAssert (.iface t v) xT 264 true).run Tryz.prog w=.ok (.tuple #[if t=264 then v else .agg #[.nilIface,.int .i64 0],.bool (decide (t=264))]) w:=
 jh (by kernel_rfl) (by kernel_rfl) t v xT w
theorem wad (t:TypeId) (v:Value) (xT:TypeId) (w:World):(Instr.typeAssert (.iface t v) xT 217 true).run Tryz.prog w=.ok (.tuple #[if t=217 then v else .agg #[.bool false],.bool (decide (t=217))]) w:=
 jh (by kernel_rfl) (by kernel_rfl) t v xT w
theorem waf (t:TypeId) (v:Value) (xT:TypeId) (w:World):(Instr.typeAssert (.iface t v) xT 109 true).run Tryz.prog w=.ok (.tuple #[if t=109 then v else .agg #[.nilIface,.int .i64 0,.nilIface],.bool (decide (t=109))]) w:=
 jh (by kernel_rfl) (by kernel_rfl) t v xT w
theorem qaj (t:TypeId) (v:Value) (xT:TypeId) (w:World):(Instr.typeAssert (.iface t v) xT 221 true).run Tryz.prog w=.ok (.tuple #[if t=221 then v else .agg #[.nilIface],.bool (decide (t=221))]) w:=
 jh (by kernel_rfl) (by kernel_rfl) t v xT w
theorem uaj (t:TypeId) (v:Value) (xT:TypeId) (w:World):(Instr.typeAssert (.iface t v) xT 223 true).run Tryz.prog w=.ok (.tuple #[if t=223 then v else .agg #[.nilIface,.nilIface],.bool (decide (t=223))]) w:=
 jh (by kernel_rfl) (by kernel_rfl) t v xT w
theorem jao (t:TypeId) (v:Value) (xT:TypeId) (w:World):(Instr.typeAssert (.iface t v) xT 224 true).run Tryz.prog w=.ok (.tuple #[if t=224 then v else .agg #[.nilIface,.nilIface],.bool (decide (t=224))]) w:=
 jh (by kernel_rfl) (by kernel_rfl) t v xT w
theorem vaa (t:TypeId) (v:Value) (xT:TypeId) (w:World):(Instr.typeAssert (.iface t v) xT 225 true).run Tryz.prog w=.ok (.tuple #[if t=225 then v else .agg #[.nilIface,.nilIface],.bool (decide (t=225))]) w:=
 jh (by kernel_rfl) (by kernel_rfl) t v xT w
theorem vaj (t:TypeId) (v:Value) (xT:TypeId) (w:World):(Instr.typeAssert (.iface t v) xT 226 true).run Tryz.prog w=.ok (.tuple #[if t=226 then v else .agg #[.nilIface,.nilIface],.bool (decide (t=226))]) w:=
 jh (by kernel_rfl) (by kernel_rfl) t v xT w
theorem zae (t:TypeId) (v:Value) (xT:TypeId) (w:World):(Instr.typeAssert (.iface t v) xT 245 true).run Tryz.prog w=.ok (.tuple #[if t=245 then v else .agg #[.bool false,.string ByteArray.empty,.nilIface],.bool (decide (t=245))]) w:=
 jh (by kernel_rfl) (by kernel_rfl) t v xT w
end Go.Proofs.YtcfcjabgkfehlaaGreat
