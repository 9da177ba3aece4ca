/- Type assertions to struct types. -/
import Derived.Test.YtaedbimbbeploaaGreatDoorMk0
import Derived.Test.YtaedbimbbeploaaGreatDoorMk5
import Derived.Test.YtaedbimbbeploaaGreatDoorMk9
set_option linter.unusedSimpArgs false
set_option linter.unusedVariables false

namespace Go.Proofs.YtaedbimbbeploaaGreatDoor
open Go.RowKit
def ybr (P : Program) (T : TypeId) : Bool := match P.underlying T with
 | some (.struct _) => true
 | _ => false
theorem zg {P : Program} {T : TypeId} {z : Value} (h : ybr P T = true) (hz : (P.info? T).map (·.zero) = some (some z)) (t : TypeId) (v : Value) (xT : TypeId) (w : World) :
 (Instr.typeAssert (.iface t v) xT T true).run P w = .ok (.tuple #[if t = T then v else z, .bool (decide (t = T))]) w := by
 obtain ⟨j, hj, hz'⟩ := Option.map_eq_some_iff.1 hz;unfold ybr at h
 split at h
 · rename_i fs hu
   by_cases ht : t = T
   · subst ht;simp [Instr.typeAssert, run_underlying hu]
   · simp [Instr.typeAssert, run_underlying hu, ht, zeroValue, typeInfo, hj, hz']
 · cases h
theorem gac (t : TypeId) (v : Value) (xT : TypeId) (w : World) : (Instr.typeAssert (.iface t v) xT 120 true).run Tryz.prog w = .ok (.tuple #[if t = 120 then v else .agg #[.bool false, .slice none 0 0], .bool (decide (t = 120))]) w :=
 zg (by kernel_rfl) (by kernel_rfl) t v xT w
theorem qaa (t : TypeId) (v : Value) (xT : TypeId) (w : World) : (Instr.typeAssert (.iface t v) xT 91 true).run Tryz.prog w = .ok (.tuple #[if t = 91 then v else .agg #[.string ByteArray.empty], .bool (decide (t = 91))]) w :=
 zg (by kernel_rfl) (by kernel_rfl) t v xT w
theorem jad (t : TypeId) (v : Value) (xT : TypeId) (w : World) : (Instr.typeAssert (.iface t v) xT 126 true).run Tryz.prog w = .ok (.tuple #[if t = 126 then v else .agg #[.nilIface, .nilIface], .bool (decide (t = 126))]) w :=
 zg (by kernel_rfl) (by kernel_rfl) t v xT w
theorem vac (t : TypeId) (v : Value) (xT : TypeId) (w : World) : (Instr.typeAssert (.iface t v) xT 127 true).run Tryz.prog w = .ok (.tuple #[if t = 127 then v else .agg #[.nilIface, .nilIface], .bool (decide (t = 127))]) w :=
 zg (by kernel_rfl) (by kernel_rfl) t v xT w
theorem yad (t : TypeId) (v : Value) (xT : TypeId) (w : World) : (Instr.typeAssert (.iface t v) xT 128 true).run Tryz.prog w = .ok (.tuple #[if t = 128 then v else .agg #[.nilIface, .nilIface], .bool (decide (t = 128))]) w :=
 zg (by kernel_rfl) (by kernel_rfl) t v xT w
theorem zad (t : TypeId) (v : Value) (xT : TypeId) (w : World) : (Instr.typeAssert (.iface t v) xT 122 true).run Tryz.prog w = .ok (.tuple #[if t = 122 then v else .agg #[.nilIface], .bool (decide (t = 122))]) w :=
 zg (by kernel_rfl) (by kernel_rfl) t v xT w
theorem uac (t : TypeId) (v : Value) (xT : TypeId) (w : World) : (Instr.typeAssert (.iface t v) xT 124 true).run Tryz.prog w = .ok (.tuple #[if t = 124 then v else .agg #[.nilIface, .int .i64 0], .bool (decide (t = 124))]) w :=
 zg (by kernel_rfl) (by kernel_rfl) t v xT w
theorem yx (t : TypeId) (v : Value) (xT : TypeId) (w : World) : (Instr.typeAssert (.iface t v) xT 100 true).run Tryz.prog w = .ok (.tuple #[if t = 100 then v else .agg #[.bool false], .bool (decide (t = 100))]) w :=
 zg (by kernel_rfl) (by kernel_rfl) t v xT w
theorem jaa (t : TypeId) (v : Value) (xT : TypeId) (w : World) : (Instr.typeAssert (.iface t v) xT 93 true).run Tryz.prog w = .ok (.tuple #[if t = 93 then v else .agg #[.nilIface, .int .i64 0, .nilIface], .bool (decide (t = 93))]) w :=
 zg (by kernel_rfl) (by kernel_rfl) t v xT w
theorem wac (t : TypeId) (v : Value) (xT : TypeId) (w : World) : (Instr.typeAssert (.iface t v) xT 51 true).run Tryz.prog w = .ok (.tuple #[if t = 51 then v else .agg #[.nilIface], .bool (decide (t = 51))]) w :=
 zg (by kernel_rfl) (by kernel_rfl) t v xT w
theorem qad (t : TypeId) (v : Value) (xT : TypeId) (w : World) : (Instr.typeAssert (.iface t v) xT 158 true).run Tryz.prog w = .ok (.tuple #[if t = 158 then v else .agg #[.nilIface, .nilIface], .bool (decide (t = 158))]) w :=
 zg (by kernel_rfl) (by kernel_rfl) t v xT w
theorem yag (t : TypeId) (v : Value) (xT : TypeId) (w : World) : (Instr.typeAssert (.iface t v) xT 159 true).run Tryz.prog w = .ok (.tuple #[if t = 159 then v else .agg #[.nilIface, .nilIface], .bool (decide (t = 159))]) w :=
 zg (by kernel_rfl) (by kernel_rfl) t v xT w
theorem gq (t : TypeId) (v : Value) (xT : TypeId) (w : World) : (Instr.typeAssert (.iface t v) xT 160 true).run Tryz.prog w = .ok (.tuple #[if t = 160 then v else .agg #[.nilIface, .nilIface], .bool (decide (t = 160))]) w :=
 zg (by kernel_rfl) (by kernel_rfl) t v xT w
theorem xad (t : TypeId) (v : Value) (xT : TypeId) (w : World) : (Instr.typeAssert (.iface t v) xT 161 true).run Tryz.prog w = .ok (.tuple #[if t = 161 then v else .agg #[.nilIface, .nilIface], .bool (decide (t = 161))]) w :=
 zg (by kernel_rfl) (by kernel_rfl) t v xT w
theorem qx (t : TypeId) (v : Value) (xT : TypeId) (w : World) : (Instr.typeAssert (.iface t v) xT 95 true).run Tryz.prog w = .ok (.tuple #[if t = 95 then v else .agg #[.bool false, .string ByteArray.empty, .nilIface], .bool (decide (t = 95))]) w :=
 zg (by kernel_rfl) (by kernel_rfl) t v xT w
end Go.Proofs.YtaedbimbbeploaaGreatDoor

/- Layer 34: terms and formulas as values. -/
set_option maxRecDepth 100000
set_option maxHeartbeats 8000000
namespace Go.Proofs.YtaedbimbbeploaaGreatDoor
open Go.RowKit
attribute [local go_sem] gac qaa jad vac yad zad uac yx jaa wac qad yag gq xad qx
inductive Tm where
 | num (z : Int) | name (s : ByteArray) | add (a b : Tm) | sub (a b : Tm) | mul (a b : Tm) | neg (a : Tm) | pow (a : Tm) (e : Int)
inductive Fm where
 | truth (b : Bool) | atom (l : Tm) (r : Int) (k : Tm) | not (f : Fm) | and (f g : Fm) | or (f g : Fm) | imp (f g : Fm) | iff (f g : Fm) | quant (all : Bool) (s : ByteArray) (f : Fm)
def TmV (w : World) (L : Nat) : Tm -> Value -> Prop
 | .num z, v => ∃ x, v = .iface 120 x /\ zo w x z L
 | .name s, v => v = .iface 91 (.agg #[.string s])
 | .add a b, v => ∃ x y, v = .iface 126 (.agg #[x, y]) /\ TmV w L a x /\ TmV w L b y
 | .sub a b, v => ∃ x y, v = .iface 127 (.agg #[x, y]) /\ TmV w L a x /\ TmV w L b y
 | .mul a b, v => ∃ x y, v = .iface 128 (.agg #[x, y]) /\ TmV w L a x /\ TmV w L b y
 | .neg a, v => ∃ x, v = .iface 122 (.agg #[x]) /\ TmV w L a x
 | .pow a e, v => ∃ x, v = .iface 124 (.agg #[x, .int .i64 e]) /\ TmV w L a x
def FmV (w : World) (L : Nat) : Fm -> Value -> Prop
 | .truth b, v => v = .iface 100 (.agg #[.bool b])
 | .atom l r k, v => ∃ x y, v = .iface 93 (.agg #[x, .int .i64 r, y]) /\ TmV w L l x /\ TmV w L k y
 | .not f, v => ∃ x, v = .iface 51 (.agg #[x]) /\ FmV w L f x
 | .and f g, v => ∃ x y, v = .iface 158 (.agg #[x, y]) /\ FmV w L f x /\ FmV w L g y
 | .or f g, v => ∃ x y, v = .iface 159 (.agg #[x, y]) /\ FmV w L f x /\ FmV w L g y
 | .imp f g, v => ∃ x y, v = .iface 160 (.agg #[x, y]) /\ FmV w L f x /\ FmV w L g y
 | .iff f g, v => ∃ x y, v = .iface 161 (.agg #[x, y]) /\ FmV w L f x /\ FmV w L g y
 | .quant a s f, v => ∃ x, v = .iface 95 (.agg #[.bool a, .string s, x]) /\ FmV w L f x
theorem TmV.ext {w w' : World} {L : Nat} (hx : Ext w w') {t : Tm} {v : Value} (h : TmV w L t v) : TmV w' L t v := by
 induction t generalizing v with
 | num z => obtain ⟨x, e, h⟩ := h; exact ⟨x, e, h.ext hx⟩
 | name s => exact h
 | add a b iha ihb => obtain ⟨x, y, e, h, k⟩ := h; exact ⟨x, y, e, iha h, ihb k⟩
 | sub a b iha ihb => obtain ⟨x, y, e, h, k⟩ := h; exact ⟨x, y, e, iha h, ihb k⟩
 | mul a b iha ihb => obtain ⟨x, y, e, h, k⟩ := h; exact ⟨x, y, e, iha h, ihb k⟩
 | neg a iha => obtain ⟨x, e, h⟩ := h; exact ⟨x, e, iha h⟩
 | pow a n iha => obtain ⟨x, e, h⟩ := h; exact ⟨x, e, iha h⟩
theorem FmV.ext {w w' : World} {L : Nat} (hx : Ext w w') {f : Fm} {v : Value} (h : FmV w L f v) : FmV w' L f v := by
 induction f generalizing v with
 | truth b => exact h
 | atom l r k => obtain ⟨x, y, e, h, k⟩ := h; exact ⟨x, y, e, h.ext hx, k.ext hx⟩
 | not f ihf => obtain ⟨x, e, h⟩ := h; exact ⟨x, e, ihf h⟩
 | and f g ihf ihg => obtain ⟨x, y, e, h, k⟩ := h; exact ⟨x, y, e, ihf h, ihg k⟩
 | or f g ihf ihg => obtain ⟨x, y, e, h, k⟩ := h; exact ⟨x, y, e, ihf h, ihg k⟩
 | imp f g ihf ihg => obtain ⟨x, y, e, h, k⟩ := h; exact ⟨x, y, e, ihf h, ihg k⟩
 | iff f g ihf ihg => obtain ⟨x, y, e, h, k⟩ := h; exact ⟨x, y, e, ihf h, ihg k⟩
 | quant a s f ihf => obtain ⟨x, e, h⟩ := h; exact ⟨x, e, ihf h⟩
theorem TmV.iface {w : World} {L : Nat} {t : Tm} {v : Value} (h : TmV w L t v) : ∃ T x, v = .iface T x := by
 cases t <;> (simp only [TmV] at h) <;> first | exact ⟨_, _, h⟩ | (obtain ⟨_, e, _⟩ := h; exact ⟨_, _, e⟩) | (obtain ⟨_, _, e, _⟩ := h; exact ⟨_, _, e⟩)
theorem FmV.iface {w : World} {L : Nat} {f : Fm} {v : Value} (h : FmV w L f v) : ∃ T x, v = .iface T x := by
 cases f <;> (simp only [FmV] at h) <;> first | exact ⟨_, _, h⟩ | (obtain ⟨_, e, _⟩ := h; exact ⟨_, _, e⟩) | (obtain ⟨_, _, e, _⟩ := h; exact ⟨_, _, e⟩)
def Fm.kids : Fm -> List Fm
 | .truth _ => []
 | .atom _ _ _ => []
 | .not f => [f]
 | .and f g => [f, g]
 | .or f g => [f, g]
 | .imp f g => [f, g]
 | .iff f g => [f, g]
 | .quant _ _ f => [f]
def Tm.kids : Tm -> List Tm
 | .num _ => []
 | .name _ => []
 | .add a b => [a, b]
 | .sub a b => [a, b]
 | .mul a b => [a, b]
 | .neg a => [a]
 | .pow a _ => [a]
def SlR {α : Type} (P : World -> α -> Value -> Prop) (w : World) (v : Value) (l : List α) : Prop :=
 ∃ A c, v = .slice A l.length c /\ l.length <= c /\ c <= 9223372036854775807 /\ ∀ j (h : j < l.length), ∃ ad x, A = some ad /\ ad.block < w.heap.size /\ w.cell? (ad.add j) = some x /\ P w l[j] x
theorem SlR.ext {α : Type} {P : World -> α -> Value -> Prop} {w w' : World} {v : Value} {l : List α} (h : SlR P w v l) (hP : ∀ a x, P w a x -> P w' a x) (k : Ext w w') : SlR P w' v l := by
 obtain ⟨A, c, e, h1, h2, h3⟩ := h;refine ⟨A, c, e, h1, h2, fun j hj => ?_⟩;obtain ⟨ad, x, e, hb, hc, hp⟩ := h3 j hj;exact ⟨ad, x, e, Nat.lt_of_lt_of_le hb k.size, (k.cell (by rw [ja]; exact hb)).trans hc, hP _ _ hp⟩
theorem SlR.nil {α : Type} (P : World -> α -> Value -> Prop) (w : World) : SlR P w (.slice none 0 0) [] := ⟨none, 0, rfl, by simp, by simp, fun j h => absurd h (by simp)⟩
theorem SlR.one {α : Type} {P : World -> α -> Value -> Prop} {w : World} {g : Nat} {a : α} {x : Value} (hg : g < w.heap.size) (h0 : w.cell? ⟨g, 0, none⟩ = some x) (p0 : P w a x) : SlR P w (.slice (some ⟨g, 0, none⟩) 1 1) [a] := by
 refine ⟨_, 1, rfl, by simp, by simp, fun j hj => ?_⟩;have : j = 0 := by simp at hj; omega
 subst this;exact ⟨_, x, rfl, hg, by rw [jm]; exact h0, p0⟩
theorem SlR.two {α : Type} {P : World -> α -> Value -> Prop} {w : World} {g : Nat} {a b : α} {x y : Value} (hg : g < w.heap.size) (h0 : w.cell? ⟨g, 0, none⟩ = some x) (h1 : w.cell? ⟨g, 1, none⟩ = some y) (p0 : P w a x) (p1 : P w b y) : SlR P w (.slice (some ⟨g, 0, none⟩) 2 2) [a, b] := by
 refine ⟨_, 2, rfl, by simp, by simp, fun j hj => ?_⟩;rcases (show j = 0 \/ j = 1 by simp at hj; omega) with rfl | rfl
 · exact ⟨_, x, rfl, hg, by rw [jm]; exact h0, p0⟩
 · exact ⟨_, y, rfl, hg, by rw [jm]; exact h1, p1⟩
def kal (w0 : World) (L : Nat) (l : List Fm) (w : World) (e : Ending) (w' : World) : Prop := ∃ s, e = .returned s /\ SlR (fun _ f v => FmV w0 L f v) w' s l /\ uk w.heap.size s /\ Ext w w'
def xao (w0 : World) (L : Nat) (l : List Tm) (w : World) (e : Ending) (w' : World) : Prop := ∃ s, e = .returned s /\ SlR (fun _ f v => TmV w0 L f v) w' s l /\ uk w.heap.size s /\ Ext w w'
theorem vbo {w0 w : World} {L : Nat} {b : Bool} {v : Value} (h : FmV w0 L (Fm.truth b) v) : Calls Tryz.prog 134 #[v] w (kal w0 L [] w) := by
 obtain rfl := h;go_enter Tryz.func134, Tryz.ntmps134;go_wp2_with fail;go_ret;exact ⟨_, rfl, SlR.nil _ _, uk.nil _ _ _, Ext.refl _⟩
theorem kbv {w0 w : World} {L : Nat} {l k : Tm} {r : Int} {v : Value} (h : FmV w0 L (Fm.atom l r k) v) : Calls Tryz.prog 134 #[v] w (kal w0 L [] w) := by
 obtain ⟨x, y, rfl, hx, hy⟩ := h;go_enter Tryz.func134, Tryz.ntmps134;go_wp2_with fail;go_ret;exact ⟨_, rfl, SlR.nil _ _, uk.nil _ _ _, Ext.refl _⟩
theorem xb3 {w0 w : World} {L : Nat} {f : Fm} {v : Value} (h : FmV w0 L (Fm.not f) v) : Calls Tryz.prog 134 #[v] w (kal w0 L [f] w) := by
 obtain ⟨x, rfl, hx⟩ := h;obtain ⟨T, x, rfl⟩ := hx.iface;go_enter Tryz.func134, Tryz.ntmps134;go_wp2_with fail;go_ret;have hX : Ext w ((w.alloc (Obj.cells #[.iface T x] 51)).alloc (Obj.cells #[.iface T x] 34)) := ((Ext.refl w).alloc _).alloc _;exact ⟨_, rfl, SlR.one (by simp) (by simp [go_sem]) hx, uk.mk _ _ _ _ (by simp), hX⟩
theorem kb3 {w0 w : World} {L : Nat} {f g : Fm} {v : Value} (h : FmV w0 L (Fm.and f g) v) : Calls Tryz.prog 134 #[v] w (kal w0 L [f, g] w) := by
 obtain ⟨x, y, rfl, hx, hy⟩ := h;obtain ⟨T, x, rfl⟩ := hx.iface;obtain ⟨U, y, rfl⟩ := hy.iface;go_enter Tryz.func134, Tryz.ntmps134;go_wp2_with fail;go_ret;have hX : Ext w ((w.alloc (Obj.cells #[.iface T x, .iface U y] 158)).alloc (Obj.cells #[.iface T x, .iface U y] 34)) := ((Ext.refl w).alloc _).alloc _;exact ⟨_, rfl, SlR.two (by simp) (by simp [go_sem]) (by simp [go_sem]) hx hy, uk.mk _ _ _ _ (by simp), hX⟩
theorem gcb {w0 w : World} {L : Nat} {f g : Fm} {v : Value} (h : FmV w0 L (Fm.or f g) v) : Calls Tryz.prog 134 #[v] w (kal w0 L [f, g] w) := by
 obtain ⟨x, y, rfl, hx, hy⟩ := h;obtain ⟨T, x, rfl⟩ := hx.iface;obtain ⟨U, y, rfl⟩ := hy.iface;go_enter Tryz.func134, Tryz.ntmps134;go_wp2_with fail;go_ret;have hX : Ext w ((w.alloc (Obj.cells #[.iface T x, .iface U y] 159)).alloc (Obj.cells #[.iface T x, .iface U y] 34)) := ((Ext.refl w).alloc _).alloc _;exact ⟨_, rfl, SlR.two (by simp) (by simp [go_sem]) (by simp [go_sem]) hx hy, uk.mk _ _ _ _ (by simp), hX⟩
theorem qb3 {w0 w : World} {L : Nat} {f g : Fm} {v : Value} (h : FmV w0 L (Fm.imp f g) v) : Calls Tryz.prog 134 #[v] w (kal w0 L [f, g] w) := by
 obtain ⟨x, y, rfl, hx, hy⟩ := h;obtain ⟨T, x, rfl⟩ := hx.iface;obtain ⟨U, y, rfl⟩ := hy.iface;go_enter Tryz.func134, Tryz.ntmps134;go_wp2_with fail;go_ret;have hX : Ext w ((w.alloc (Obj.cells #[.iface T x, .iface U y] 160)).alloc (Obj.cells #[.iface T x, .iface U y] 34)) := ((Ext.refl w).alloc _).alloc _;exact ⟨_, rfl, SlR.two (by simp) (by simp [go_sem]) (by simp [go_sem]) hx hy, uk.mk _ _ _ _ (by simp), hX⟩
theorem jb3 {w0 w : World} {L : Nat} {f g : Fm} {v : Value} (h : FmV w0 L (Fm.iff f g) v) : Calls Tryz.prog 134 #[v] w (kal w0 L [f, g] w) := by
 obtain ⟨x, y, rfl, hx, hy⟩ := h;obtain ⟨T, x, rfl⟩ := hx.iface;obtain ⟨U, y, rfl⟩ := hy.iface;go_enter Tryz.func134, Tryz.ntmps134;go_wp2_with fail;go_ret;have hX : Ext w ((w.alloc (Obj.cells #[.iface T x, .iface U y] 161)).alloc (Obj.cells #[.iface T x, .iface U y] 34)) := ((Ext.refl w).alloc _).alloc _;exact ⟨_, rfl, SlR.two (by simp) (by simp [go_sem]) (by simp [go_sem]) hx hy, uk.mk _ _ _ _ (by simp), hX⟩
theorem ubo {w0 w : World} {L : Nat} {a : Bool} {s : ByteArray} {f : Fm} {v : Value} (h : FmV w0 L (Fm.quant a s f) v) : Calls Tryz.prog 134 #[v] w (kal w0 L [f] w) := by
 obtain ⟨x, rfl, hx⟩ := h;obtain ⟨T, x, rfl⟩ := hx.iface;go_enter Tryz.func134, Tryz.ntmps134;go_wp2_with fail;go_ret;have hX : Ext w ((w.alloc (Obj.cells #[.bool a, .string s, .iface T x] 95)).alloc (Obj.cells #[.iface T x] 34)) := ((Ext.refl w).alloc _).alloc _;exact ⟨_, rfl, SlR.one (by simp) (by simp [go_sem]) hx, uk.mk _ _ _ _ (by simp), hX⟩
theorem kbg {w0 w : World} {L : Nat} {z : Int} {v : Value} (h : TmV w0 L (Tm.num z) v) : Calls Tryz.prog 181 #[v] w (xao w0 L [] w) := by
 obtain ⟨x, rfl, hx⟩ := h;go_enter Tryz.func181, Tryz.ntmps181;go_wp2_with fail;go_ret;exact ⟨_, rfl, SlR.nil _ _, uk.nil _ _ _, Ext.refl _⟩
theorem jbe {w0 w : World} {L : Nat} {s : ByteArray} {v : Value} (h : TmV w0 L (Tm.name s) v) : Calls Tryz.prog 181 #[v] w (xao w0 L [] w) := by
 obtain rfl := h;go_enter Tryz.func181, Tryz.ntmps181;go_wp2_with fail;go_ret;exact ⟨_, rfl, SlR.nil _ _, uk.nil _ _ _, Ext.refl _⟩
theorem gbg {w0 w : World} {L : Nat} {a b : Tm} {v : Value} (h : TmV w0 L (Tm.add a b) v) : Calls Tryz.prog 181 #[v] w (xao w0 L [a, b] w) := by
 obtain ⟨x, y, rfl, hx, hy⟩ := h;obtain ⟨T, x, rfl⟩ := hx.iface;obtain ⟨U, y, rfl⟩ := hy.iface;go_enter Tryz.func181, Tryz.ntmps181;go_wp2_with fail;go_ret;have hX : Ext w ((w.alloc (Obj.cells #[.iface T x, .iface U y] 126)).alloc (Obj.cells #[.iface T x, .iface U y] 58)) := ((Ext.refl w).alloc _).alloc _;exact ⟨_, rfl, SlR.two (by simp) (by simp [go_sem]) (by simp [go_sem]) hx hy, uk.mk _ _ _ _ (by simp), hX⟩
theorem qbg {w0 w : World} {L : Nat} {a b : Tm} {v : Value} (h : TmV w0 L (Tm.sub a b) v) : Calls Tryz.prog 181 #[v] w (xao w0 L [a, b] w) := by
 obtain ⟨x, y, rfl, hx, hy⟩ := h;obtain ⟨T, x, rfl⟩ := hx.iface;obtain ⟨U, y, rfl⟩ := hy.iface;go_enter Tryz.func181, Tryz.ntmps181;go_wp2_with fail;go_ret;have hX : Ext w ((w.alloc (Obj.cells #[.iface T x, .iface U y] 127)).alloc (Obj.cells #[.iface T x, .iface U y] 58)) := ((Ext.refl w).alloc _).alloc _;exact ⟨_, rfl, SlR.two (by simp) (by simp [go_sem]) (by simp [go_sem]) hx hy, uk.mk _ _ _ _ (by simp), hX⟩
theorem ubg {w0 w : World} {L : Nat} {a b : Tm} {v : Value} (h : TmV w0 L (Tm.mul a b) v) : Calls Tryz.prog 181 #[v] w (xao w0 L [a, b] w) := by
 obtain ⟨x, y, rfl, hx, hy⟩ := h;obtain ⟨T, x, rfl⟩ := hx.iface;obtain ⟨U, y, rfl⟩ := hy.iface;go_enter Tryz.func181, Tryz.ntmps181;go_wp2_with fail;go_ret;have hX : Ext w ((w.alloc (Obj.cells #[.iface T x, .iface U y] 128)).alloc (Obj.cells #[.iface T x, .iface U y] 58)) := ((Ext.refl w).alloc _).alloc _;exact ⟨_, rfl, SlR.two (by simp) (by simp [go_sem]) (by simp [go_sem]) hx hy, uk.mk _ _ _ _ (by simp), hX⟩
theorem vbg {w0 w : World} {L : Nat} {a : Tm} {v : Value} (h : TmV w0 L (Tm.neg a) v) : Calls Tryz.prog 181 #[v] w (xao w0 L [a] w) := by
 obtain ⟨x, rfl, hx⟩ := h;obtain ⟨T, x, rfl⟩ := hx.iface;go_enter Tryz.func181, Tryz.ntmps181;go_wp2_with fail;go_ret;have hX : Ext w ((w.alloc (Obj.cells #[.iface T x] 122)).alloc (Obj.cells #[.iface T x] 58)) := ((Ext.refl w).alloc _).alloc _;exact ⟨_, rfl, SlR.one (by simp) (by simp [go_sem]) hx, uk.mk _ _ _ _ (by simp), hX⟩
theorem jbg {w0 w : World} {L : Nat} {a : Tm} {n : Int} {v : Value} (h : TmV w0 L (Tm.pow a n) v) : Calls Tryz.prog 181 #[v] w (xao w0 L [a] w) := by
 obtain ⟨x, rfl, hx⟩ := h;obtain ⟨T, x, rfl⟩ := hx.iface;go_enter Tryz.func181, Tryz.ntmps181;go_wp2_with fail;go_ret;have hX : Ext w ((w.alloc (Obj.cells #[.iface T x, .int .i64 n] 124)).alloc (Obj.cells #[.iface T x] 58)) := ((Ext.refl w).alloc _).alloc _;exact ⟨_, rfl, SlR.one (by simp) (by simp [go_sem]) hx, uk.mk _ _ _ _ (by simp), hX⟩
theorem xac {w0 w : World} {L : Nat} (f : Fm) {v : Value} (h : FmV w0 L f v) : Calls Tryz.prog 134 #[v] w (kal w0 L f.kids w) := by
 cases f
 · exact vbo h
 · exact kbv h
 · exact xb3 h
 · exact kb3 h
 · exact gcb h
 · exact qb3 h
 · exact jb3 h
 · exact ubo h
theorem kak {w0 w : World} {L : Nat} (t : Tm) {v : Value} (h : TmV w0 L t v) : Calls Tryz.prog 181 #[v] w (xao w0 L t.kids w) := by
 cases t
 · exact kbg h
 · exact jbe h
 · exact gbg h
 · exact qbg h
 · exact ubg h
 · exact vbg h
 · exact jbg h
end Go.Proofs.YtaedbimbbeploaaGreatDoor

/- Layer 34: trees as values. -/
namespace Go.Proofs.YtaedbimbbeploaaGreatDoor
open Go.RowKit
section
variable {w w' : World} {p q : Nat -> Prop}
end
end Go.Proofs.YtaedbimbbeploaaGreatDoor
