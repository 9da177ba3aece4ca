/- Layer 34: formula.fresh, formula.Parts. -/
import Derived.Test.YtofbfplpbffpfaaGreatVisit
import Derived.Test.YtofbfplpbffpfaaGreatBound
namespace Go.Proofs.YtofbfplpbffpfaaGreat
open Go.RowKit Go.Shelf

/-- What a term counts as. -/
def Tm.norm : Tm → Tm
  | .num z => .num z
  | .name s => .name s
  | .add a b => .add a.norm b.norm
  | .sub a b => .sub a.norm b.norm
  | .mul a b => .mul a.norm b.norm
  | .neg a => .neg a.norm
  | .pow a e => .pow a.norm (maxI e 0)
/-- What a formula counts as. -/
def Fm.norm : Fm → Fm
  | .truth b => .truth b
  | .atom l r k => .atom l.norm (relN r) k.norm
  | .not f => .not f.norm
  | .and f g => .and f.norm g.norm
  | .or f g => .or f.norm g.norm
  | .imp f g => .imp f.norm g.norm
  | .iff f g => .iff f.norm g.norm
  | .quant a s f => .quant a s f.norm

theorem TmV.isTm {w : World} {L : Nat} {t : Tm} {v : Value} (h : TmV w L t v) : IsTm L t.norm t.plain := by
  induction t generalizing v with
  | num z =>
    obtain ⟨x, e, h⟩ := h
    exact ⟨rfl, rfl, by show z = sgn (decide (z < 0)) (val (dg z.natAbs)); rw [val_dg, sgn_self], h.len⟩
  | name s => exact ⟨rfl, rfl, rfl⟩
  | add a b iha ihb => obtain ⟨x, y, e, h, k⟩ := h; exact ⟨rfl, _, _, rfl, iha h, ihb k⟩
  | sub a b iha ihb => obtain ⟨x, y, e, h, k⟩ := h; exact ⟨rfl, _, _, rfl, iha h, ihb k⟩
  | mul a b iha ihb => obtain ⟨x, y, e, h, k⟩ := h; exact ⟨rfl, _, _, rfl, iha h, ihb k⟩
  | neg a iha => obtain ⟨x, e, h⟩ := h; exact ⟨rfl, _, rfl, iha h⟩
  | pow a n iha => obtain ⟨x, e, h⟩ := h; exact ⟨rfl, rfl, by unfold maxI; split <;> omega, _, rfl, iha h⟩
theorem FmV.isFm {w : World} {L : Nat} {t : Fm} {v : Value} (h : FmV w L t v) : IsFm L t.norm t.plain := by
  induction t generalizing v with
  | truth b => exact ⟨rfl, rfl, rfl⟩
  | atom l r k => obtain ⟨x, y, e, h, k⟩ := h; exact ⟨rfl, rfl, by unfold relN; split <;> omega, by unfold relN; split <;> omega, _, _, rfl, h.isTm, k.isTm⟩
  | not f ihf => obtain ⟨x, e, h⟩ := h; exact ⟨rfl, _, rfl, ihf h⟩
  | and f g ihf ihg => obtain ⟨x, y, e, h, k⟩ := h; exact ⟨rfl, _, _, rfl, ihf h, ihg k⟩
  | or f g ihf ihg => obtain ⟨x, y, e, h, k⟩ := h; exact ⟨rfl, _, _, rfl, ihf h, ihg k⟩
  | imp f g ihf ihg => obtain ⟨x, y, e, h, k⟩ := h; exact ⟨rfl, _, _, rfl, ihf h, ihg k⟩
  | iff f g ihf ihg => obtain ⟨x, y, e, h, k⟩ := h; exact ⟨rfl, _, _, rfl, ihf h, ihg k⟩
  | quant a s f ihf => obtain ⟨x, e, h⟩ := h; exact ⟨rfl, rfl, rfl, _, rfl, ihf h⟩

theorem fresh_any {w : World} {L : Nat} (hL : L ≤ 35184372088000) (f : Fm) {v : Value} (h : FmV w L f v) : Calls Tryz.prog 65 #[v] w fun e w' => ∃ v', e = .returned v' ∧ FmV w' L f.norm v' ∧ Ext w w' := by
  have H := Lib.hid h
  obtain ⟨T, x, rfl⟩ := h.iface
  clear h
  go_enter Tryz.func65, Tryz.ntmps65
  go_wp2_with fail
  refine (plain_any hL f _ _ (Ext.refl w) H.out).mono ?_
  rintro e w1 ⟨z, rfl, m1, x1⟩
  have M1 := Lib.hid m1
  have X1 := Lib.hid x1
  obtain ⟨A0, n0, c0, A1, c1, rfl, -⟩ := m1.open_
  clear m1 x1
  go_wp2_with fail
  refine (of_any hL f.norm f.plain H.out.isFm _ _ M1.out).mono ?_
  rintro e w2 ⟨v2, rfl, f2, x2⟩
  have F2 := Lib.hid f2
  have X2 := Lib.hid (X1.out.trans x2)
  obtain ⟨T2, u2, rfl⟩ := f2.iface
  clear f2 x2
  go_wp2_with fail
  go_ret
  exact ⟨_, rfl, F2.out, X2.out⟩

/-- The call returns a function that visits the formulas. -/
def RetSeq (L : Nat) (f : Fm) (w : World) (e : Ending) (w' : World) : Prop := ∃ B v, e = .returned (.func (.func 66) #[] #[.pointer (some ⟨B, 0, none⟩)]) ∧ w'.cell? ⟨B, 0, none⟩ = some v ∧ B < w'.heap.size ∧ FmV w' L f v ∧ Ext w w'

theorem FmV.box {w : World} {L : Nat} {a : Addr} {u : Value} (ha : w.cell? a = some u) (hu : isDig u = false) (u' : Value) {t : Fm} {v : Value} (h : FmV w L t v) : FmV (w.setCell a u') L t v := by
  induction t generalizing v with
  | truth b => exact h
  | atom l r k => obtain ⟨x, y, e, h, k⟩ := h; exact ⟨x, y, e, h.box ha hu u', k.box ha hu u'⟩
  | not f ihf => obtain ⟨x, e, h⟩ := h; exact ⟨x, e, ihf h⟩
  | and f g ihf ihg => obtain ⟨x, y, e, h, k⟩ := h; exact ⟨x, y, e, ihf h, ihg k⟩
  | or f g ihf ihg => obtain ⟨x, y, e, h, k⟩ := h; exact ⟨x, y, e, ihf h, ihg k⟩
  | imp f g ihf ihg => obtain ⟨x, y, e, h, k⟩ := h; exact ⟨x, y, e, ihf h, ihg k⟩
  | iff f g ihf ihg => obtain ⟨x, y, e, h, k⟩ := h; exact ⟨x, y, e, ihf h, ihg k⟩
  | quant a s f ihf => obtain ⟨x, e, h⟩ := h; exact ⟨x, e, ihf h⟩

set_option maxRecDepth 100000 in
theorem parts_seq {w : World} {L : Nat} (hL : L ≤ 35184372088000) (f : Fm) {v : Value} (h : FmV w L f v) : Calls Tryz.prog 33 #[v] w (RetSeq L f.norm w) := by
  have H := Lib.hid h
  obtain ⟨T, x, rfl⟩ := h.iface
  clear h
  have hX : Ext w (w.alloc (.cells #[.iface T x] 34)) := (Ext.refl w).alloc _
  have HXA := Lib.hid hX
  have HC : Hid ((w.alloc (.cells #[.iface T x] 34)).cell? ⟨w.heap.size, 0, none⟩ = some (.iface T x) ∧ (w.alloc (.cells #[.iface T x] 34)).frozen? ⟨w.heap.size, 0, none⟩ = false ∧ w.heap.size < (w.alloc (.cells #[.iface T x] 34)).heap.size) := ⟨by simp [go_sem], by simp [go_sem], by simp⟩
  clear hX
  go_enter Tryz.func33, Tryz.ntmps33
  go_wp2_with fail
  refine (fresh_any hL f (H.out.ext HXA.out)).mono ?_
  rintro e w1 ⟨v1, rfl, f1, x1⟩
  obtain ⟨T1, u1, rfl⟩ := f1.iface
  have c1 : w1.cell? ⟨w.heap.size, 0, none⟩ = some (.iface T x) := (x1.cell (p := ⟨w.heap.size, 0, none⟩) HC.out.2.2).trans HC.out.1
  have c2 : w1.frozen? ⟨w.heap.size, 0, none⟩ = false := (x1.frozen (p := ⟨w.heap.size, 0, none⟩) HC.out.2.2).trans HC.out.2.1
  have HF : Hid (RetSeq L f.norm w (.returned (.func (.func 66) #[] #[.pointer (some ⟨w.heap.size, 0, none⟩)])) (w1.setCell ⟨w.heap.size, 0, none⟩ (.iface T1 u1))) :=
    ⟨_, _, rfl, World.cell?_setCell_same' _ _ _ (by rw [c1]; rfl), by have := x1.size; have := HC.out.2.2; simp; omega, f1.box c1 rfl _, (HXA.out.trans x1).setCell (Nat.le_refl _) _⟩
  clear f1 x1 HC HXA H
  go_wp2_with fail
  go_ret
  exact HF.out

set_option maxRecDepth 100000 in
set_option maxHeartbeats 1000000 in
theorem parts_stops {w : World} {L : Nat} (f : Fm) {v : Value} (hv : FmV w L f v) (B : Nat) (hB : B < w.heap.size) (hc : w.cell? ⟨B, 0, none⟩ = some v) (hs : f.sz ≤ 4611686018427387904) (n : Nat) :
    SeqStopsK Fence.wide n Tryz.prog 66 #[.pointer (some ⟨B, 0, none⟩)] (It.enc (w0 := w) (L := L)) KeepsCells (fun xs => xs.map It.f = f.pre) (fun xs => xs.map It.f <+: f.pre) f.pre.length w := by
  intro l J Jx W hW hJ hJx hY h0
  have hvis := visit_in l f.pre.length J Jx (fun pre W W' h hx => hJ pre W W' none h hx.grownN (fun r e => by cases e)) (fun m pre x W1 h1 h2 => YieldAt.anyDepth rfl m (hY pre x W1 h1 h2)) (f.sz + 1) f v
  have c0 : W.cell? ⟨B, 0, none⟩ = some v := (hW.cell (p := ⟨B, 0, none⟩) hB).trans hc
  obtain ⟨T, x, rfl⟩ := hv.iface
  have HV := Lib.hid hv
  have HVIS := Lib.hid hvis
  have H0 := Lib.hid h0
  clear hv hvis hY hJ hJx h0
  have hdd : ∀ k : Nat, (Fence.wide.depth.isSome = true → 1 ≤ k) := fun k h => by cases h
  refine callsIn_of_wp Tryz.func66 rfl trivial ?_ rfl
  simp only [Tryz.ntmps66, List.size_toArray, List.length_cons, List.length_nil, Nat.reduceAdd, Nat.reduceSub, Array.replicate_succ, Array.replicate_zero, List.push_toArray, List.append_toArray, List.nil_append, List.cons_append]
  gi_wp2_with fail
  refine ⟨trivial, hdd _, ?_⟩
  refine (HVIS.out _ 0 [] W (Nat.lt_succ_self _) HV.out H0.out (by simp) (by omega) (by omega)).mono ?_
  rintro e W1 (⟨rfl, q, hq, hJ1, -⟩ | ⟨rfl, q, hq, hx1⟩)
  · have HQ := Lib.hid hq
    have HJ1 := Lib.hid hJ1
    clear hq hJ1
    gi_wp2_with fail
    go_end0
    exact ⟨⟨_, rfl⟩, .inl ⟨q, HQ.out, HJ1.out⟩⟩
  · have HQ := Lib.hid hq
    have HX1 := Lib.hid hx1
    clear hq hx1
    gi_wp2_with fail
    go_end0
    exact ⟨⟨_, rfl⟩, .inr ⟨q, HQ.out, HX1.out⟩⟩
end Go.Proofs.YtofbfplpbffpfaaGreat
