/- Layer 34: formula.visit: the subformulas, passed to a function. -/
import Derived.Test.YtofbfplpbffpfaaGreatOfF
import Derived.RangeFuncNested
import Derived.RangeFuncBound
import Derived.RangeFuncCalls
import Derived.RangeFuncLeaves
import Derived.Shelf.Abstract
import Derived.Shelf.RegionOpen
import Derived.OwnWalkIn
import Derived.TacticsInMore
import Derived.LoopNIn
import Derived.LoopIn
import Derived.Test.YtofbfplpbffpfaaGreatMf31

namespace Go.Proofs.YtofbfplpbffpfaaGreat
open Go.RowKit Go.Shelf

theorem room_of_none {F : Fence} (hd : F.depth = none) (k : Nat) : F.room k := fun d h => by rw [hd] at h; cases h
theorem RoundIn.anyDepth {F : Fence} (hd : F.depth = none) {m m' : Nat} {P : Program} {l : Nat} {f : FuncId} {tmps : Array Value} {assign body : Code} {w : World} {R : Ending → World → Prop}
    (h : RoundIn F m P l f tmps assign body w R) : RoundIn F m' P l f tmps assign body w R := ⟨h.1, fun c cs _ => h.2 c cs (room_of_none hd _)⟩
theorem YieldAt.anyDepth {F : Fence} (hd : F.depth = none) {m : Nat} (m' : Nat) {P : Program} {l : Nat} {args : Array Value} {W : World} {R : Ending → World → Prop} (h : YieldAt F m P l args W R) : YieldAt F m' P l args W R := by
  obtain ⟨fn, tmps, assign, body, hy, hR⟩ := h
  exact ⟨fn, tmps, assign, body, hy, RoundIn.anyDepth hd hR⟩

/-- All blocks of cells stay as they are. -/
def KeepsCells (W W' : World) : Prop := W.heap.size ≤ W'.heap.size ∧ ∀ (i : Nat) (o : Obj), W.heap[i]? = some o → o.isCells = true → W'.heap[i]? = some o
theorem KeepsCells.refl (W : World) : KeepsCells W W := ⟨Nat.le_refl _, fun _ _ h _ => h⟩
theorem KeepsCells.trans {A B C : World} (h : KeepsCells A B) (k : KeepsCells B C) : KeepsCells A C := ⟨Nat.le_trans h.1 k.1, fun i o hi ho => k.2 i o (h.2 i o hi ho) ho⟩
theorem KeepsCells.of_ext {A B : World} (h : Ext A B) : KeepsCells A B := ⟨h.size, fun i o hi _ => (h.below.block i (Array.getElem?_eq_some_iff.1 hi).1).trans hi⟩
theorem KeepsCells.putObj (W : World) (l : Nat) (o o' : Obj) (h : W.heap[l]? = some o) (ho : o.isCells = false) : KeepsCells W (W.putObj l o') := by
  refine ⟨by simp [World.putObj], fun i x hi hx => ?_⟩
  have hne : i ≠ l := fun e => by subst e; rw [h] at hi; injection hi with hi; subst hi; rw [ho] at hx; cases hx
  rw [World.putObj_heap_other hne]; exact hi
theorem KeepsCells.cell {A B : World} (h : KeepsCells A B) {a : Addr} {v : Value} (hc : A.cell? a = some v) : B.cell? a = some v := by
  obtain ⟨o, ho, hoc⟩ := cells_of_cell hc
  rw [World.cell?_of_block ((h.2 _ _ ho hoc).trans ho.symm)]; exact hc
theorem SlR.keepsCells {α : Type} {P : α → Value → Prop} {w w' : World} {v : Value} {l : List α} (h : SlR (fun _ => P) w v l) (k : KeepsCells w w') : SlR (fun _ => P) w' v l := by
  obtain ⟨A, c, e, h1, h2, h3⟩ := h
  refine ⟨A, c, e, h1, h2, fun j hj => ?_⟩
  obtain ⟨ad, x, rfl, hb, hc, hp⟩ := h3 j hj
  exact ⟨ad, x, rfl, Nat.lt_of_lt_of_le hb k.1, k.cell hc, hp⟩

/-- A subformula with its depth, as it is passed on. -/
structure It (w0 : World) (L : Nat) where
  depth : Int
  f : Fm
  v : Value
  h : FmV w0 L f v
def It.enc {w0 : World} {L : Nat} (x : It w0 L) : Array Value := #[.int .i64 x.depth, x.v]

/-- A formula and all formulas in it, each before those in it. -/
def Fm.pre : Fm → List Fm
  | .truth b => [.truth b]
  | .atom l r k => [.atom l r k]
  | .not f => .not f :: f.pre
  | .and f g => .and f g :: (f.pre ++ g.pre)
  | .or f g => .or f g :: (f.pre ++ g.pre)
  | .imp f g => .imp f g :: (f.pre ++ g.pre)
  | .iff f g => .iff f g :: (f.pre ++ g.pre)
  | .quant a s f => .quant a s f :: f.pre
def fmsPre (l : List Fm) : List Fm := l.flatMap Fm.pre
theorem Fm.pre_kids (f : Fm) : f.pre = f :: fmsPre f.kids := by cases f <;> simp [Fm.pre, Fm.kids, fmsPre]
theorem fmsPre_take (l : List Fm) (k : Nat) (h : k < l.length) : fmsPre (l.take (k + 1)) = fmsPre (l.take k) ++ (l[k]).pre := by
  unfold fmsPre
  rw [List.take_succ_eq_append_getElem h, List.flatMap_append, List.flatMap_singleton]
theorem fmsPre_split (l : List Fm) (k : Nat) : fmsPre l = fmsPre (l.take k) ++ fmsPre (l.drop k) := by
  unfold fmsPre
  rw [← List.flatMap_append, List.take_append_drop]
theorem fmsPre_drop (l : List Fm) (k : Nat) (h : k < l.length) : fmsPre (l.drop k) = (l[k]).pre ++ fmsPre (l.drop (k + 1)) := by
  unfold fmsPre
  rw [List.drop_eq_getElem_cons h, List.flatMap_cons]

/-- What visit leaves. -/
def VisitPost {w0 : World} {L : Nat} (J Jx : List (It w0 L) → World → Prop) (pre : List (It w0 L)) (l : List Fm) (W : World) (e : Ending) (W' : World) : Prop :=
  (e = .returned (.bool true) ∧ ∃ q, q.map It.f = l ∧ J (pre ++ q) W' ∧ KeepsCells W W') ∨ (e = .returned (.bool false) ∧ ∃ q, q.map It.f <+: l ∧ Jx (pre ++ q) W')

set_option maxRecDepth 100000 in
set_option maxHeartbeats 2000000 in
theorem visit_in {w0 : World} {L : Nat} (l N : Nat) (J Jx : List (It w0 L) → World → Prop) (hJ : ∀ pre W W', J pre W → Ext W W' → J pre W')
    (hY : ∀ m pre x W, J pre W → pre.length < N → YieldAt Fence.wide m Tryz.prog l x.enc W fun e W' => (e = .returned (.bool true) ∧ J (pre ++ [x]) W' ∧ KeepsCells W W') ∨ (e = .returned (.bool false) ∧ Jx (pre ++ [x]) W')) (n : Nat) :
    ∀ (f : Fm) (v : Value) (m : Nat) (dep : Int) (pre : List (It w0 L)) (W : World), f.sz < n → FmV w0 L f v → J pre W → pre.length + f.pre.length ≤ N → 0 ≤ dep → dep + f.sz ≤ 4611686018427387904 →
      CallsIn Fence.wide m Tryz.prog 67 #[v, .int .i64 dep, .func (.yield l) #[] #[]] W (VisitPost J Jx pre f.pre W) := by
  induction n with
  | zero => intro f v m dep pre W h; omega
  | succ n ih =>
  intro f v m dep pre W hsz h hJ0 hN hd1 hd2
  have IH := Lib.hid ih
  have HJ := Lib.hid hJ
  have HY := Lib.hid hY
  have H := Lib.hid h
  clear ih hJ hY
  obtain ⟨T, x, rfl⟩ := h.iface
  clear h
  have hdd : ∀ k : Nat, (Fence.wide.depth.isSome = true → 1 ≤ k) := fun k h => by cases h
  obtain ⟨fn, tmps, assign, body, hy, hR⟩ := HY.out (m - 1) pre ⟨dep, f, .iface T x, H.out⟩ W hJ0 (by rw [Fm.pre_kids] at hN; simp at hN; omega)
  have HR := Lib.hid hR
  clear hR
  dsimp only [It.enc] at hy
  refine callsIn_of_wp Tryz.func67 rfl trivial ?_ rfl
  simp only [Tryz.ntmps67, List.size_toArray, List.length_cons, List.length_nil, Nat.reduceAdd, Nat.reduceSub, Array.replicate_succ, Array.replicate_zero, List.push_toArray, List.append_toArray, List.nil_append, List.cons_append]
  gi_wp2_with fail
  refine ⟨hdd _, ?_⟩
  refine HR.out.mono ?_
  rintro e W1 (⟨rfl, hJ1, hk1⟩ | ⟨rfl, hjx⟩)
  · have HJ1 := Lib.hid hJ1
    have HK1 := Lib.hid hk1
    clear hJ1 hk1 HR hy hJ0
    gi_wp2_with fail
    refine ⟨trivial, hdd _, ?_⟩
    refine (callsIn_wide.2 (parts_any f H.out)).mono ?_
    rintro e w2 ⟨s, rfl, hs, hf, hx⟩
    obtain ⟨A, c, rfl⟩ := hs.len
    have hlen := f.kids_len
    have HS := Lib.hid hs
    have HX := Lib.hid hx
    clear hs hf hx
    gi_wp2_with fail
    gi_loopw [17] (fun iv wr => ∃ k : Nat, k ≤ f.kids.length ∧ iv = .int .i64 k ∧ Hid (∃ q, q.map It.f = f :: fmsPre (f.kids.take k) ∧ J (pre ++ q) wr ∧ KeepsCells w2 wr)) (fun iv _ => f.kids.length - (intOf iv).toNat)
    case atStart =>
      exact ⟨0, Nat.zero_le _, rfl, ⟨[⟨dep, f, _, H.out⟩], by simp [fmsPre], HJ.out _ _ _ HJ1.out HX.out, KeepsCells.refl _⟩⟩
    case round =>
      obtain ⟨k, hk, rfl, ⟨q, hq, hJk, hkk⟩⟩ := hrel
      have HQ := Lib.hid hq
      have HJK := Lib.hid hJk
      have HKK := Lib.hid hkk
      clear hq hJk hkk
      by_cases hlt : k < f.kids.length
      · obtain ⟨ad, y, rfl, hc, hp⟩ := SlR.get_ (SlR.keepsCells HS.out HKK.out) k hlt
        have HP := Lib.hid hp
        obtain ⟨U, y, rfl⟩ := hp.iface
        clear hp
        have hkl := f.kids_lt _ (List.getElem_mem hlt)
        have HLEN : Hid ((pre ++ q).length + (f.kids[k]).pre.length ≤ N) := by
          have h1 : q.length = (f :: fmsPre (f.kids.take k)).length := by rw [← HQ.out, List.length_map]
          rw [Fm.pre_kids, fmsPre_split f.kids k, fmsPre_drop _ _ hlt] at hN
          simp only [List.length_cons, List.length_append] at hN h1
          have : (pre ++ q).length + (f.kids[k]).pre.length ≤ N := by rw [List.length_append]; omega
          exact this
        gi_wp2_with fail
        refine ⟨trivial, hdd _, ?_⟩
        refine (IH.out (f.kids[k]) _ _ (dep + 1) (pre ++ q) _ (by omega) HP.out HJK.out HLEN.out (by omega) (by omega)).mono ?_
        rintro e w3 (⟨rfl, q2, hq2, hJ2, hk2⟩ | ⟨rfl, q2, hq2, hx2⟩)
        · have HQ2 := Lib.hid hq2
          have HJ2 := Lib.hid hJ2
          have HK2 := Lib.hid hk2
          clear hq2 hJ2 hk2 hc
          gi_wp2_with fail
          go_roundw
          case rel => exact ⟨k + 1, by omega, by go_num, ⟨q ++ q2, by rw [List.map_append, HQ.out, HQ2.out, fmsPre_take _ _ hlt]; rfl, by rw [← List.append_assoc]; exact HJ2.out, HKK.out.trans HK2.out⟩⟩
          case measure => simp [intOf]; omega
        · have HQ2 := Lib.hid hq2
          have HX2 := Lib.hid hx2
          clear hq2 hx2 hc
          gi_wp2_with fail
          go_ret
          refine .inr ⟨rfl, q ++ q2, ?_, by rw [← List.append_assoc]; exact HX2.out⟩
          obtain ⟨r, hr⟩ := HQ2.out
          refine ⟨r ++ fmsPre (f.kids.drop (k + 1)), ?_⟩
          rw [List.map_append, HQ.out, Fm.pre_kids, fmsPre_split f.kids k, fmsPre_drop _ _ hlt, ← hr]
          simp
      · have hke : k = f.kids.length := by omega
        have HD : Hid (q.map It.f = f.pre) := by
          have := HQ.out
          rw [hke, List.take_length, ← Fm.pre_kids] at this
          exact this
        clear hke
        gi_wp2_with fail
        go_ret
        exact .inl ⟨rfl, q, HD.out, HJK.out, (HK1.out.trans (KeepsCells.of_ext HX.out)).trans HKK.out⟩
  · have HX1 := Lib.hid hjx
    clear hjx HR hy hJ0
    gi_wp2_with fail
    go_ret
    refine .inr ⟨rfl, [⟨dep, f, _, H.out⟩], ?_, HX1.out⟩
    rw [Fm.pre_kids]
    exact ⟨fmsPre f.kids, rfl⟩
end Go.Proofs.YtofbfplpbffpfaaGreat

/- Layer 34: formula.fresh, formula.Parts. -/
namespace Go.Proofs.YtofbfplpbffpfaaGreat
open Go.RowKit Go.Shelf

/-- What a term counts as. -/
def Tm.norm : Tm → Tm
  | .num z => .num z
  | .name s => .name s
  | .add a b => .add a.norm b.norm
  | .sub a b => .sub a.norm b.norm
  | .mul a b => .mul a.norm b.norm
  | .neg a => .neg a.norm
  | .pow a e => .pow a.norm (maxI e 0)
/-- What a formula counts as. -/
def Fm.norm : Fm → Fm
  | .truth b => .truth b
  | .atom l r k => .atom l.norm (relN r) k.norm
  | .not f => .not f.norm
  | .and f g => .and f.norm g.norm
  | .or f g => .or f.norm g.norm
  | .imp f g => .imp f.norm g.norm
  | .iff f g => .iff f.norm g.norm
  | .quant a s f => .quant a s f.norm

theorem TmV.isTm {w : World} {L : Nat} {t : Tm} {v : Value} (h : TmV w L t v) : IsTm L t.norm t.plain := by
  induction t generalizing v with
  | num z =>
    obtain ⟨x, e, h⟩ := h
    exact ⟨rfl, rfl, by show z = sgn (decide (z < 0)) (val (dg z.natAbs)); rw [val_dg, sgn_self], h.len⟩
  | name s => exact ⟨rfl, rfl, rfl⟩
  | add a b iha ihb => obtain ⟨x, y, e, h, k⟩ := h; exact ⟨rfl, _, _, rfl, iha h, ihb k⟩
  | sub a b iha ihb => obtain ⟨x, y, e, h, k⟩ := h; exact ⟨rfl, _, _, rfl, iha h, ihb k⟩
  | mul a b iha ihb => obtain ⟨x, y, e, h, k⟩ := h; exact ⟨rfl, _, _, rfl, iha h, ihb k⟩
  | neg a iha => obtain ⟨x, e, h⟩ := h; exact ⟨rfl, _, rfl, iha h⟩
  | pow a n iha => obtain ⟨x, e, h⟩ := h; exact ⟨rfl, rfl, by unfold maxI; split <;> omega, _, rfl, iha h⟩
theorem FmV.isFm {w : World} {L : Nat} {t : Fm} {v : Value} (h : FmV w L t v) : IsFm L t.norm t.plain := by
  induction t generalizing v with
  | truth b => exact ⟨rfl, rfl, rfl⟩
  | atom l r k => obtain ⟨x, y, e, h, k⟩ := h; exact ⟨rfl, rfl, by unfold relN; split <;> omega, by unfold relN; split <;> omega, _, _, rfl, h.isTm, k.isTm⟩
  | not f ihf => obtain ⟨x, e, h⟩ := h; exact ⟨rfl, _, rfl, ihf h⟩
  | and f g ihf ihg => obtain ⟨x, y, e, h, k⟩ := h; exact ⟨rfl, _, _, rfl, ihf h, ihg k⟩
  | or f g ihf ihg => obtain ⟨x, y, e, h, k⟩ := h; exact ⟨rfl, _, _, rfl, ihf h, ihg k⟩
  | imp f g ihf ihg => obtain ⟨x, y, e, h, k⟩ := h; exact ⟨rfl, _, _, rfl, ihf h, ihg k⟩
  | iff f g ihf ihg => obtain ⟨x, y, e, h, k⟩ := h; exact ⟨rfl, _, _, rfl, ihf h, ihg k⟩
  | quant a s f ihf => obtain ⟨x, e, h⟩ := h; exact ⟨rfl, rfl, rfl, _, rfl, ihf h⟩

theorem fresh_any {w : World} {L : Nat} (hL : L ≤ 35184372088000) (f : Fm) {v : Value} (h : FmV w L f v) : Calls Tryz.prog 65 #[v] w fun e w' => ∃ v', e = .returned v' ∧ FmV w' L f.norm v' ∧ Ext w w' := by
  have H := Lib.hid h
  obtain ⟨T, x, rfl⟩ := h.iface
  clear h
  go_enter Tryz.func65, Tryz.ntmps65
  go_wp2_with fail
  refine (plain_any hL f _ _ (Ext.refl w) H.out).mono ?_
  rintro e w1 ⟨z, rfl, m1, x1⟩
  have M1 := Lib.hid m1
  have X1 := Lib.hid x1
  obtain ⟨A0, n0, c0, A1, c1, rfl, -⟩ := m1.open_
  clear m1 x1
  go_wp2_with fail
  refine (of_any hL f.norm f.plain H.out.isFm _ _ M1.out.trV).mono ?_
  rintro e w2 ⟨v2, rfl, f2, x2⟩
  have F2 := Lib.hid f2
  have X2 := Lib.hid (X1.out.trans x2)
  obtain ⟨T2, u2, rfl⟩ := f2.iface
  clear f2 x2
  go_wp2_with fail
  go_ret
  exact ⟨_, rfl, F2.out, X2.out⟩

/-- The call returns a function that visits the formulas. -/
def RetSeq (L : Nat) (f : Fm) (w : World) (e : Ending) (w' : World) : Prop := ∃ B v, e = .returned (.func (.func 66) #[] #[.pointer (some ⟨B, 0, none⟩)]) ∧ w'.cell? ⟨B, 0, none⟩ = some v ∧ B < w'.heap.size ∧ FmV w' L f v ∧ Ext w w'

theorem FmV.box {w : World} {L : Nat} {a : Addr} {u : Value} (ha : w.cell? a = some u) (hu : isDig u = false) (u' : Value) {t : Fm} {v : Value} (h : FmV w L t v) : FmV (w.setCell a u') L t v := by
  induction t generalizing v with
  | truth b => exact h
  | atom l r k => obtain ⟨x, y, e, h, k⟩ := h; exact ⟨x, y, e, h.box ha hu u', k.box ha hu u'⟩
  | not f ihf => obtain ⟨x, e, h⟩ := h; exact ⟨x, e, ihf h⟩
  | and f g ihf ihg => obtain ⟨x, y, e, h, k⟩ := h; exact ⟨x, y, e, ihf h, ihg k⟩
  | or f g ihf ihg => obtain ⟨x, y, e, h, k⟩ := h; exact ⟨x, y, e, ihf h, ihg k⟩
  | imp f g ihf ihg => obtain ⟨x, y, e, h, k⟩ := h; exact ⟨x, y, e, ihf h, ihg k⟩
  | iff f g ihf ihg => obtain ⟨x, y, e, h, k⟩ := h; exact ⟨x, y, e, ihf h, ihg k⟩
  | quant a s f ihf => obtain ⟨x, e, h⟩ := h; exact ⟨x, e, ihf h⟩

set_option maxRecDepth 100000 in
theorem parts_seq {w : World} {L : Nat} (hL : L ≤ 35184372088000) (f : Fm) {v : Value} (h : FmV w L f v) : Calls Tryz.prog 33 #[v] w (RetSeq L f.norm w) := by
  have H := Lib.hid h
  obtain ⟨T, x, rfl⟩ := h.iface
  clear h
  have hX : Ext w (w.alloc (.cells #[.iface T x] 34)) := (Ext.refl w).alloc _
  have HXA := Lib.hid hX
  have HC : Hid ((w.alloc (.cells #[.iface T x] 34)).cell? ⟨w.heap.size, 0, none⟩ = some (.iface T x) ∧ (w.alloc (.cells #[.iface T x] 34)).frozen? ⟨w.heap.size, 0, none⟩ = false ∧ w.heap.size < (w.alloc (.cells #[.iface T x] 34)).heap.size) := ⟨by simp [go_sem], by simp [go_sem], by simp⟩
  clear hX
  go_enter Tryz.func33, Tryz.ntmps33
  go_wp2_with fail
  refine (fresh_any hL f (H.out.ext HXA.out)).mono ?_
  rintro e w1 ⟨v1, rfl, f1, x1⟩
  obtain ⟨T1, u1, rfl⟩ := f1.iface
  have c1 : w1.cell? ⟨w.heap.size, 0, none⟩ = some (.iface T x) := (x1.cell (p := ⟨w.heap.size, 0, none⟩) HC.out.2.2).trans HC.out.1
  have c2 : w1.frozen? ⟨w.heap.size, 0, none⟩ = false := (x1.frozen (p := ⟨w.heap.size, 0, none⟩) HC.out.2.2).trans HC.out.2.1
  have HF : Hid (RetSeq L f.norm w (.returned (.func (.func 66) #[] #[.pointer (some ⟨w.heap.size, 0, none⟩)])) (w1.setCell ⟨w.heap.size, 0, none⟩ (.iface T1 u1))) :=
    ⟨_, _, rfl, World.cell?_setCell_same' _ _ _ (by rw [c1]; rfl), by have := x1.size; have := HC.out.2.2; simp; omega, f1.box c1 rfl _, (HXA.out.trans x1).setCell (Nat.le_refl _) _⟩
  clear f1 x1 HC HXA H
  go_wp2_with fail
  go_ret
  exact HF.out

set_option maxRecDepth 100000 in
set_option maxHeartbeats 1000000 in
theorem parts_stops {w : World} {L : Nat} (f : Fm) {v : Value} (hv : FmV w L f v) (B : Nat) (hB : B < w.heap.size) (hc : w.cell? ⟨B, 0, none⟩ = some v) (hs : f.sz ≤ 4611686018427387904) (n : Nat) :
    SeqStopsK Fence.wide n Tryz.prog 66 #[.pointer (some ⟨B, 0, none⟩)] (It.enc (w0 := w) (L := L)) KeepsCells (fun xs => xs.map It.f = f.pre) (fun xs => xs.map It.f <+: f.pre) f.pre.length w := by
  intro l J Jx W hW hJ hJx hY h0
  have hvis := visit_in l f.pre.length J Jx (fun pre W W' h hx => hJ pre W W' none h hx.grownN (fun r e => by cases e)) (fun m pre x W1 h1 h2 => YieldAt.anyDepth rfl m (hY pre x W1 h1 h2)) (f.sz + 1) f v
  have c0 : W.cell? ⟨B, 0, none⟩ = some v := (hW.cell (p := ⟨B, 0, none⟩) hB).trans hc
  obtain ⟨T, x, rfl⟩ := hv.iface
  have HV := Lib.hid hv
  have HVIS := Lib.hid hvis
  have H0 := Lib.hid h0
  clear hv hvis hY hJ hJx h0
  have hdd : ∀ k : Nat, (Fence.wide.depth.isSome = true → 1 ≤ k) := fun k h => by cases h
  refine callsIn_of_wp Tryz.func66 rfl trivial ?_ rfl
  simp only [Tryz.ntmps66, List.size_toArray, List.length_cons, List.length_nil, Nat.reduceAdd, Nat.reduceSub, Array.replicate_succ, Array.replicate_zero, List.push_toArray, List.append_toArray, List.nil_append, List.cons_append]
  gi_wp2_with fail
  refine ⟨trivial, hdd _, ?_⟩
  refine (HVIS.out _ 0 [] W (Nat.lt_succ_self _) HV.out H0.out (by simp) (by omega) (by omega)).mono ?_
  rintro e W1 (⟨rfl, q, hq, hJ1, -⟩ | ⟨rfl, q, hq, hx1⟩)
  · have HQ := Lib.hid hq
    have HJ1 := Lib.hid hJ1
    clear hq hJ1
    gi_wp2_with fail
    go_end0
    exact ⟨⟨_, rfl⟩, .inl ⟨q, HQ.out, HJ1.out⟩⟩
  · have HQ := Lib.hid hq
    have HX1 := Lib.hid hx1
    clear hq hx1
    gi_wp2_with fail
    go_end0
    exact ⟨⟨_, rfl⟩, .inr ⟨q, HQ.out, HX1.out⟩⟩
end Go.Proofs.YtofbfplpbffpfaaGreat
