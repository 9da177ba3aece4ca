/- Layer 34: formula.Of: the formula of a tree. -/
import Derived.Test.YtkbpnppiadaibaaGreatDoorMg43
import Derived.Test.YtkbpnppiadaibaaGreatDoorMg27
set_option linter.unusedSimpArgs false
set_option linter.unusedVariables false

namespace Go.Proofs.YtkbpnppiadaibaaGreatDoor
open Go.RowKit

/-- The tree is a tree of this formula, with numbers of at most L words. -/
def IsFm (L : Nat) : Fm → Tr → Prop
  | .truth b, t => t.d.kind = 8 ∧ t.ks = [] ∧ t.d.truth = b
  | .atom l r k, t => t.d.kind = 9 ∧ t.d.rel = r ∧ 1 ≤ r ∧ r ≤ 6 ∧ ∃ x y, t.ks = [x, y] ∧ IsTm L l x ∧ IsTm L k y
  | .not f, t => t.d.kind = 10 ∧ ∃ x, t.ks = [x] ∧ IsFm L f x
  | .and f g, t => t.d.kind = 11 ∧ ∃ x y, t.ks = [x, y] ∧ IsFm L f x ∧ IsFm L g y
  | .or f g, t => t.d.kind = 12 ∧ ∃ x y, t.ks = [x, y] ∧ IsFm L f x ∧ IsFm L g y
  | .imp f g, t => t.d.kind = 13 ∧ ∃ x y, t.ks = [x, y] ∧ IsFm L f x ∧ IsFm L g y
  | .iff f g, t => t.d.kind = 14 ∧ ∃ x y, t.ks = [x, y] ∧ IsFm L f x ∧ IsFm L g y
  | .quant a s f, t => t.d.kind = 15 ∧ t.d.all = a ∧ t.d.name = s ∧ ∃ x, t.ks = [x] ∧ IsFm L f x

/-- A formula and no error. -/
def RetFm (L : Nat) (f : Fm) (w : World) (e : Ending) (w' : World) : Prop := ∃ v, e = .returned (.tuple #[v, .int .i64 0]) ∧ FmV w' L f v ∧ Ext w w'
def OfIH (L n : Nat) : Prop := ∀ (f : Fm) (t : Tr), f.sz < n → IsFm L f t → ∀ (v : Value) (w : World), TrV w (fun _ => True) t v → Calls Tryz.prog 12 #[v] w (RetFm L f w)

/-- The first kid and the second, cell by cell. -/
theorem TrsAt.kid0 {w : World} {p : Nat → Prop} {l : List Tr} {A : Option Addr} (h : TrsAt w p l A 0) (hk : 0 < l.length) : ∃ ad A0 n0 c0 A1 n1 c1, A = some ad ∧ ad.block < w.heap.size ∧ NdAt w ad l[0].d (.slice A0 n0 c0) (.slice A1 n1 c1) ∧ TrV w p l[0] (ndV l[0].d (.slice A0 n0 c0) (.slice A1 n1 c1)) := by
  obtain ⟨ad, A0, n0, c0, A1, n1, c1, e, hb, h1, h2⟩ := h.kid 0 hk
  exact ⟨ad, A0, n0, c0, A1, n1, c1, e, hb, h1, h2⟩
theorem NdAt.nine {w : World} {ad : Addr} {d : Nd} {s A : Value} (h : NdAt w (ad.add (1 * 9)) d s A) : w.cell? ⟨ad.block, ad.off + 9, none⟩ = some (.int .i64 d.kind) ∧ w.cell? ⟨ad.block, ad.off + 9 + 1, none⟩ = some (.bool d.neg) ∧ w.cell? ⟨ad.block, ad.off + 9 + 2, none⟩ = some s ∧ w.cell? ⟨ad.block, ad.off + 9 + 3, none⟩ = some (.string d.name) ∧ w.cell? ⟨ad.block, ad.off + 9 + 4, none⟩ = some (.int .i64 d.exp) ∧ w.cell? ⟨ad.block, ad.off + 9 + 5, none⟩ = some (.int .i64 d.rel) ∧ w.cell? ⟨ad.block, ad.off + 9 + 6, none⟩ = some (.bool d.truth) ∧ w.cell? ⟨ad.block, ad.off + 9 + 7, none⟩ = some (.bool d.all) ∧ w.cell? ⟨ad.block, ad.off + 9 + 8, none⟩ = some A := h

set_option maxRecDepth 100000 in
set_option maxHeartbeats 2000000 in
theorem off_and {L n : Nat} (ih : OfIH L n) {f g : Fm} (t : Tr) (hsz : (Fm.and f g).sz < n + 1) (h : IsFm L (.and f g) t) (v : Value) (w : World) (hv : TrV w (fun _ => True) t v) : Calls Tryz.prog 46 #[v] w (RetFm L (.and f g) w) := by
  have IH := Lib.hid ih
  clear ih
  obtain ⟨⟨kind, neg, ds, name, exp, rel, truth, all⟩, ks⟩ := t
  obtain ⟨hkind, t0, t1, hks, h0, h1⟩ := h
  simp only [Tr.d] at hkind
  simp only [Tr.ks] at hks
  subst hkind hks
  simp only [Fm.sz] at hsz
  obtain ⟨A0, n0, c0, A, c, rfl, hnat, hc1, hc2, hat⟩ := hv.open_
  change TrsAt w _ [t0, t1] A 0 at hat
  have HAT := Lib.hid hat
  clear hv hat hnat
  unfold ndV
  simp only [Tr.d, Tr.ks, List.length_cons, List.length_nil, Nat.zero_add, Nat.reduceAdd] at hc1 ⊢
  obtain ⟨W, hW⟩ : ∃ W, w.alloc (.cells #[.int .i64 11, .bool neg, .slice A0 n0 c0, .string name, .int .i64 exp, .int .i64 rel, .bool truth, .bool all, .slice A 2 c] 29) = W := ⟨_, rfl⟩
  have hWx : Ext w W := by rw [← hW]; exact (Ext.refl w).alloc _
  have hbx : W.heap[w.heap.size]? = some (.cells #[.int .i64 11, .bool neg, .slice A0 n0 c0, .string name, .int .i64 exp, .int .i64 rel, .bool truth, .bool all, .slice A 2 c] 29) := by rw [← hW]; exact heap_alloc_new w _
  have hws : w.heap.size < W.heap.size := by rw [← hW]; simp
  have b0W : W.cell? ⟨w.heap.size, 0, none⟩ = some (.int .i64 11) := by simp [World.cell?, hbx]
  have b3W : W.cell? ⟨w.heap.size, 3, none⟩ = some (.string name) := by simp [World.cell?, hbx]
  have b5W : W.cell? ⟨w.heap.size, 5, none⟩ = some (.int .i64 rel) := by simp [World.cell?, hbx]
  have b7W : W.cell? ⟨w.heap.size, 7, none⟩ = some (.bool all) := by simp [World.cell?, hbx]
  have b8W : W.cell? ⟨w.heap.size, 8, none⟩ = some (.slice A 2 c) := by simp [World.cell?, hbx]
  obtain ⟨ad, B0, m0, d0, B1, m1, d1', hA, hadb, ⟨e0, e1, e2, e3, e4, e5, e6, e7, e8⟩, hkt⟩ := (HAT.out.ext hWx).kid0 (by simp)
  subst hA
  have HKT := Lib.hid hkt
  have HWX := Lib.hid hWx
  have HBX := Lib.hid hbx
  clear hkt hWx hbx
  simp only [List.getElem_cons_zero] at e0 e1 e3 e4 e5 e6 e7
  go_enter Tryz.func46, Tryz.ntmps46
  go_wp2_with fail
  refine (IH.out f t0 (by omega) h0 _ _ HKT.out).mono ?_
  rintro e w1 ⟨v1, rfl, f1, x1⟩
  have F1 := Lib.hid f1
  obtain ⟨T1, u1, rfl⟩ := f1.iface
  clear f1 b0W b3W b5W b7W b8W e0 e1 e2 e3 e4 e5 e6 e7 e8
  have X1 := Lib.hid x1
  have hbx_w1 : w1.heap[w.heap.size]? = some (.cells #[.int .i64 11, .bool neg, .slice A0 n0 c0, .string name, .int .i64 exp, .int .i64 rel, .bool truth, .bool all, .slice (some ad) 2 c] 29) := (x1.below.block _ hws).trans HBX.out
  have b0w1 : w1.cell? ⟨w.heap.size, 0, none⟩ = some (.int .i64 11) := by simp [World.cell?, hbx_w1]
  have b3w1 : w1.cell? ⟨w.heap.size, 3, none⟩ = some (.string name) := by simp [World.cell?, hbx_w1]
  have b5w1 : w1.cell? ⟨w.heap.size, 5, none⟩ = some (.int .i64 rel) := by simp [World.cell?, hbx_w1]
  have b7w1 : w1.cell? ⟨w.heap.size, 7, none⟩ = some (.bool all) := by simp [World.cell?, hbx_w1]
  have b8w1 : w1.cell? ⟨w.heap.size, 8, none⟩ = some (.slice (some ad) 2 c) := by simp [World.cell?, hbx_w1]
  obtain ⟨ad', B0, m0, d0, B1, m1, d1', hA, hadb, hnd, hkt⟩ := (HAT.out.ext (HWX.out.trans X1.out)).kid 1 (by simp)
  obtain ⟨e0, e1, e2, e3, e4, e5, e6, e7, e8⟩ := hnd.nine
  clear hnd
  injection hA with hA
  subst hA
  have HKT2 := Lib.hid hkt
  simp only [List.getElem_cons_succ, List.getElem_cons_zero] at e0 e1 e3 e4 e5 e6 e7
  clear hkt x1 hbx_w1
  go_wp2_with fail
  refine (IH.out g t1 (by omega) h1 _ _ HKT2.out).mono ?_
  rintro e w2 ⟨v2, rfl, f2, x2⟩
  have F2 := Lib.hid f2
  obtain ⟨T2, u2, rfl⟩ := f2.iface
  clear f2 b0w1 b3w1 b5w1 b7w1 b8w1 e0 e1 e2 e3 e4 e5 e6 e7 e8
  have X2 := Lib.hid (X1.out.trans x2)
  have hbx_w2 : w2.heap[w.heap.size]? = some (.cells #[.int .i64 11, .bool neg, .slice A0 n0 c0, .string name, .int .i64 exp, .int .i64 rel, .bool truth, .bool all, .slice (some ad) 2 c] 29) := (X2.out.below.block _ hws).trans HBX.out
  have F1' := Lib.hid (F1.out.ext x2)
  have b0w2 : w2.cell? ⟨w.heap.size, 0, none⟩ = some (.int .i64 11) := by simp [World.cell?, hbx_w2]
  have b3w2 : w2.cell? ⟨w.heap.size, 3, none⟩ = some (.string name) := by simp [World.cell?, hbx_w2]
  have b5w2 : w2.cell? ⟨w.heap.size, 5, none⟩ = some (.int .i64 rel) := by simp [World.cell?, hbx_w2]
  have b7w2 : w2.cell? ⟨w.heap.size, 7, none⟩ = some (.bool all) := by simp [World.cell?, hbx_w2]
  have b8w2 : w2.cell? ⟨w.heap.size, 8, none⟩ = some (.slice (some ad) 2 c) := by simp [World.cell?, hbx_w2]
  clear x2 hbx_w2
  have HFIN : Hid (FmV w2 L (.and f g) (.iface 158 (.agg #[.iface T1 u1, .iface T2 u2]))) := ⟨_, _, rfl, F1'.out, F2.out⟩
  have HX := Lib.hid (HWX.out.trans X2.out)
  go_wp2_with fail
  go_ret2
  exact ⟨_, rfl, HFIN.out, HX.out⟩

set_option maxRecDepth 100000 in
theorem ofq_and {L n : Nat} (ih : OfIH L n) {f g : Fm} (t : Tr) (hsz : (Fm.and f g).sz < n + 1) (h : IsFm L (.and f g) t) (v : Value) (w : World) (hv : TrV w (fun _ => True) t v) : Calls Tryz.prog 12 #[v] w (RetFm L (.and f g) w) := by
  have H := Lib.hid (fun w' (hx : Ext w w') => off_and ih t hsz h v w' (hv.ext hx))
  have hkind : t.d.kind = 11 := h.1
  clear h ih hsz
  obtain ⟨⟨kind, neg, ds, name, exp, rel, truth, all⟩, ks⟩ := t
  simp only [Tr.d] at hkind
  subst hkind
  obtain ⟨A0, n0, c0, A, c, rfl, hnat, hc1, hc2, hat⟩ := hv.open_
  clear hv hat hnat hc1 hc2
  unfold ndV at H ⊢
  simp only [Tr.d, Tr.ks] at H ⊢
  go_enter Tryz.func12, Tryz.ntmps12
  go_wp2_with fail
  refine (H.out _ ((Ext.refl w).alloc _)).mono ?_
  rintro e w1 ⟨v1, rfl, f1, x1⟩
  have F1 := Lib.hid f1
  have X1 := Lib.hid (((Ext.refl w).alloc _).trans x1)
  obtain ⟨T1, u1, rfl⟩ := f1.iface
  clear f1 x1 H
  go_wp2_with fail
  go_ret2
  exact ⟨_, rfl, F1.out, X1.out⟩

set_option maxRecDepth 100000 in
set_option maxHeartbeats 2000000 in
theorem off_or {L n : Nat} (ih : OfIH L n) {f g : Fm} (t : Tr) (hsz : (Fm.or f g).sz < n + 1) (h : IsFm L (.or f g) t) (v : Value) (w : World) (hv : TrV w (fun _ => True) t v) : Calls Tryz.prog 46 #[v] w (RetFm L (.or f g) w) := by
  have IH := Lib.hid ih
  clear ih
  obtain ⟨⟨kind, neg, ds, name, exp, rel, truth, all⟩, ks⟩ := t
  obtain ⟨hkind, t0, t1, hks, h0, h1⟩ := h
  simp only [Tr.d] at hkind
  simp only [Tr.ks] at hks
  subst hkind hks
  simp only [Fm.sz] at hsz
  obtain ⟨A0, n0, c0, A, c, rfl, hnat, hc1, hc2, hat⟩ := hv.open_
  change TrsAt w _ [t0, t1] A 0 at hat
  have HAT := Lib.hid hat
  clear hv hat hnat
  unfold ndV
  simp only [Tr.d, Tr.ks, List.length_cons, List.length_nil, Nat.zero_add, Nat.reduceAdd] at hc1 ⊢
  obtain ⟨W, hW⟩ : ∃ W, w.alloc (.cells #[.int .i64 12, .bool neg, .slice A0 n0 c0, .string name, .int .i64 exp, .int .i64 rel, .bool truth, .bool all, .slice A 2 c] 29) = W := ⟨_, rfl⟩
  have hWx : Ext w W := by rw [← hW]; exact (Ext.refl w).alloc _
  have hbx : W.heap[w.heap.size]? = some (.cells #[.int .i64 12, .bool neg, .slice A0 n0 c0, .string name, .int .i64 exp, .int .i64 rel, .bool truth, .bool all, .slice A 2 c] 29) := by rw [← hW]; exact heap_alloc_new w _
  have hws : w.heap.size < W.heap.size := by rw [← hW]; simp
  have b0W : W.cell? ⟨w.heap.size, 0, none⟩ = some (.int .i64 12) := by simp [World.cell?, hbx]
  have b3W : W.cell? ⟨w.heap.size, 3, none⟩ = some (.string name) := by simp [World.cell?, hbx]
  have b5W : W.cell? ⟨w.heap.size, 5, none⟩ = some (.int .i64 rel) := by simp [World.cell?, hbx]
  have b7W : W.cell? ⟨w.heap.size, 7, none⟩ = some (.bool all) := by simp [World.cell?, hbx]
  have b8W : W.cell? ⟨w.heap.size, 8, none⟩ = some (.slice A 2 c) := by simp [World.cell?, hbx]
  obtain ⟨ad, B0, m0, d0, B1, m1, d1', hA, hadb, ⟨e0, e1, e2, e3, e4, e5, e6, e7, e8⟩, hkt⟩ := (HAT.out.ext hWx).kid0 (by simp)
  subst hA
  have HKT := Lib.hid hkt
  have HWX := Lib.hid hWx
  have HBX := Lib.hid hbx
  clear hkt hWx hbx
  simp only [List.getElem_cons_zero] at e0 e1 e3 e4 e5 e6 e7
  go_enter Tryz.func46, Tryz.ntmps46
  go_wp2_with fail
  refine (IH.out f t0 (by omega) h0 _ _ HKT.out).mono ?_
  rintro e w1 ⟨v1, rfl, f1, x1⟩
  have F1 := Lib.hid f1
  obtain ⟨T1, u1, rfl⟩ := f1.iface
  clear f1 b0W b3W b5W b7W b8W e0 e1 e2 e3 e4 e5 e6 e7 e8
  have X1 := Lib.hid x1
  have hbx_w1 : w1.heap[w.heap.size]? = some (.cells #[.int .i64 12, .bool neg, .slice A0 n0 c0, .string name, .int .i64 exp, .int .i64 rel, .bool truth, .bool all, .slice (some ad) 2 c] 29) := (x1.below.block _ hws).trans HBX.out
  have b0w1 : w1.cell? ⟨w.heap.size, 0, none⟩ = some (.int .i64 12) := by simp [World.cell?, hbx_w1]
  have b3w1 : w1.cell? ⟨w.heap.size, 3, none⟩ = some (.string name) := by simp [World.cell?, hbx_w1]
  have b5w1 : w1.cell? ⟨w.heap.size, 5, none⟩ = some (.int .i64 rel) := by simp [World.cell?, hbx_w1]
  have b7w1 : w1.cell? ⟨w.heap.size, 7, none⟩ = some (.bool all) := by simp [World.cell?, hbx_w1]
  have b8w1 : w1.cell? ⟨w.heap.size, 8, none⟩ = some (.slice (some ad) 2 c) := by simp [World.cell?, hbx_w1]
  obtain ⟨ad', B0, m0, d0, B1, m1, d1', hA, hadb, hnd, hkt⟩ := (HAT.out.ext (HWX.out.trans X1.out)).kid 1 (by simp)
  obtain ⟨e0, e1, e2, e3, e4, e5, e6, e7, e8⟩ := hnd.nine
  clear hnd
  injection hA with hA
  subst hA
  have HKT2 := Lib.hid hkt
  simp only [List.getElem_cons_succ, List.getElem_cons_zero] at e0 e1 e3 e4 e5 e6 e7
  clear hkt x1 hbx_w1
  go_wp2_with fail
  refine (IH.out g t1 (by omega) h1 _ _ HKT2.out).mono ?_
  rintro e w2 ⟨v2, rfl, f2, x2⟩
  have F2 := Lib.hid f2
  obtain ⟨T2, u2, rfl⟩ := f2.iface
  clear f2 b0w1 b3w1 b5w1 b7w1 b8w1 e0 e1 e2 e3 e4 e5 e6 e7 e8
  have X2 := Lib.hid (X1.out.trans x2)
  have hbx_w2 : w2.heap[w.heap.size]? = some (.cells #[.int .i64 12, .bool neg, .slice A0 n0 c0, .string name, .int .i64 exp, .int .i64 rel, .bool truth, .bool all, .slice (some ad) 2 c] 29) := (X2.out.below.block _ hws).trans HBX.out
  have F1' := Lib.hid (F1.out.ext x2)
  have b0w2 : w2.cell? ⟨w.heap.size, 0, none⟩ = some (.int .i64 12) := by simp [World.cell?, hbx_w2]
  have b3w2 : w2.cell? ⟨w.heap.size, 3, none⟩ = some (.string name) := by simp [World.cell?, hbx_w2]
  have b5w2 : w2.cell? ⟨w.heap.size, 5, none⟩ = some (.int .i64 rel) := by simp [World.cell?, hbx_w2]
  have b7w2 : w2.cell? ⟨w.heap.size, 7, none⟩ = some (.bool all) := by simp [World.cell?, hbx_w2]
  have b8w2 : w2.cell? ⟨w.heap.size, 8, none⟩ = some (.slice (some ad) 2 c) := by simp [World.cell?, hbx_w2]
  clear x2 hbx_w2
  have HFIN : Hid (FmV w2 L (.or f g) (.iface 159 (.agg #[.iface T1 u1, .iface T2 u2]))) := ⟨_, _, rfl, F1'.out, F2.out⟩
  have HX := Lib.hid (HWX.out.trans X2.out)
  go_wp2_with fail
  go_ret2
  exact ⟨_, rfl, HFIN.out, HX.out⟩

set_option maxRecDepth 100000 in
theorem ofq_or {L n : Nat} (ih : OfIH L n) {f g : Fm} (t : Tr) (hsz : (Fm.or f g).sz < n + 1) (h : IsFm L (.or f g) t) (v : Value) (w : World) (hv : TrV w (fun _ => True) t v) : Calls Tryz.prog 12 #[v] w (RetFm L (.or f g) w) := by
  have H := Lib.hid (fun w' (hx : Ext w w') => off_or ih t hsz h v w' (hv.ext hx))
  have hkind : t.d.kind = 12 := h.1
  clear h ih hsz
  obtain ⟨⟨kind, neg, ds, name, exp, rel, truth, all⟩, ks⟩ := t
  simp only [Tr.d] at hkind
  subst hkind
  obtain ⟨A0, n0, c0, A, c, rfl, hnat, hc1, hc2, hat⟩ := hv.open_
  clear hv hat hnat hc1 hc2
  unfold ndV at H ⊢
  simp only [Tr.d, Tr.ks] at H ⊢
  go_enter Tryz.func12, Tryz.ntmps12
  go_wp2_with fail
  refine (H.out _ ((Ext.refl w).alloc _)).mono ?_
  rintro e w1 ⟨v1, rfl, f1, x1⟩
  have F1 := Lib.hid f1
  have X1 := Lib.hid (((Ext.refl w).alloc _).trans x1)
  obtain ⟨T1, u1, rfl⟩ := f1.iface
  clear f1 x1 H
  go_wp2_with fail
  go_ret2
  exact ⟨_, rfl, F1.out, X1.out⟩

set_option maxRecDepth 100000 in
set_option maxHeartbeats 2000000 in
theorem off_imp {L n : Nat} (ih : OfIH L n) {f g : Fm} (t : Tr) (hsz : (Fm.imp f g).sz < n + 1) (h : IsFm L (.imp f g) t) (v : Value) (w : World) (hv : TrV w (fun _ => True) t v) : Calls Tryz.prog 46 #[v] w (RetFm L (.imp f g) w) := by
  have IH := Lib.hid ih
  clear ih
  obtain ⟨⟨kind, neg, ds, name, exp, rel, truth, all⟩, ks⟩ := t
  obtain ⟨hkind, t0, t1, hks, h0, h1⟩ := h
  simp only [Tr.d] at hkind
  simp only [Tr.ks] at hks
  subst hkind hks
  simp only [Fm.sz] at hsz
  obtain ⟨A0, n0, c0, A, c, rfl, hnat, hc1, hc2, hat⟩ := hv.open_
  change TrsAt w _ [t0, t1] A 0 at hat
  have HAT := Lib.hid hat
  clear hv hat hnat
  unfold ndV
  simp only [Tr.d, Tr.ks, List.length_cons, List.length_nil, Nat.zero_add, Nat.reduceAdd] at hc1 ⊢
  obtain ⟨W, hW⟩ : ∃ W, w.alloc (.cells #[.int .i64 13, .bool neg, .slice A0 n0 c0, .string name, .int .i64 exp, .int .i64 rel, .bool truth, .bool all, .slice A 2 c] 29) = W := ⟨_, rfl⟩
  have hWx : Ext w W := by rw [← hW]; exact (Ext.refl w).alloc _
  have hbx : W.heap[w.heap.size]? = some (.cells #[.int .i64 13, .bool neg, .slice A0 n0 c0, .string name, .int .i64 exp, .int .i64 rel, .bool truth, .bool all, .slice A 2 c] 29) := by rw [← hW]; exact heap_alloc_new w _
  have hws : w.heap.size < W.heap.size := by rw [← hW]; simp
  have b0W : W.cell? ⟨w.heap.size, 0, none⟩ = some (.int .i64 13) := by simp [World.cell?, hbx]
  have b3W : W.cell? ⟨w.heap.size, 3, none⟩ = some (.string name) := by simp [World.cell?, hbx]
  have b5W : W.cell? ⟨w.heap.size, 5, none⟩ = some (.int .i64 rel) := by simp [World.cell?, hbx]
  have b7W : W.cell? ⟨w.heap.size, 7, none⟩ = some (.bool all) := by simp [World.cell?, hbx]
  have b8W : W.cell? ⟨w.heap.size, 8, none⟩ = some (.slice A 2 c) := by simp [World.cell?, hbx]
  obtain ⟨ad, B0, m0, d0, B1, m1, d1', hA, hadb, ⟨e0, e1, e2, e3, e4, e5, e6, e7, e8⟩, hkt⟩ := (HAT.out.ext hWx).kid0 (by simp)
  subst hA
  have HKT := Lib.hid hkt
  have HWX := Lib.hid hWx
  have HBX := Lib.hid hbx
  clear hkt hWx hbx
  simp only [List.getElem_cons_zero] at e0 e1 e3 e4 e5 e6 e7
  go_enter Tryz.func46, Tryz.ntmps46
  go_wp2_with fail
  refine (IH.out f t0 (by omega) h0 _ _ HKT.out).mono ?_
  rintro e w1 ⟨v1, rfl, f1, x1⟩
  have F1 := Lib.hid f1
  obtain ⟨T1, u1, rfl⟩ := f1.iface
  clear f1 b0W b3W b5W b7W b8W e0 e1 e2 e3 e4 e5 e6 e7 e8
  have X1 := Lib.hid x1
  have hbx_w1 : w1.heap[w.heap.size]? = some (.cells #[.int .i64 13, .bool neg, .slice A0 n0 c0, .string name, .int .i64 exp, .int .i64 rel, .bool truth, .bool all, .slice (some ad) 2 c] 29) := (x1.below.block _ hws).trans HBX.out
  have b0w1 : w1.cell? ⟨w.heap.size, 0, none⟩ = some (.int .i64 13) := by simp [World.cell?, hbx_w1]
  have b3w1 : w1.cell? ⟨w.heap.size, 3, none⟩ = some (.string name) := by simp [World.cell?, hbx_w1]
  have b5w1 : w1.cell? ⟨w.heap.size, 5, none⟩ = some (.int .i64 rel) := by simp [World.cell?, hbx_w1]
  have b7w1 : w1.cell? ⟨w.heap.size, 7, none⟩ = some (.bool all) := by simp [World.cell?, hbx_w1]
  have b8w1 : w1.cell? ⟨w.heap.size, 8, none⟩ = some (.slice (some ad) 2 c) := by simp [World.cell?, hbx_w1]
  obtain ⟨ad', B0, m0, d0, B1, m1, d1', hA, hadb, hnd, hkt⟩ := (HAT.out.ext (HWX.out.trans X1.out)).kid 1 (by simp)
  obtain ⟨e0, e1, e2, e3, e4, e5, e6, e7, e8⟩ := hnd.nine
  clear hnd
  injection hA with hA
  subst hA
  have HKT2 := Lib.hid hkt
  simp only [List.getElem_cons_succ, List.getElem_cons_zero] at e0 e1 e3 e4 e5 e6 e7
  clear hkt x1 hbx_w1
  go_wp2_with fail
  refine (IH.out g t1 (by omega) h1 _ _ HKT2.out).mono ?_
  rintro e w2 ⟨v2, rfl, f2, x2⟩
  have F2 := Lib.hid f2
  obtain ⟨T2, u2, rfl⟩ := f2.iface
  clear f2 b0w1 b3w1 b5w1 b7w1 b8w1 e0 e1 e2 e3 e4 e5 e6 e7 e8
  have X2 := Lib.hid (X1.out.trans x2)
  have hbx_w2 : w2.heap[w.heap.size]? = some (.cells #[.int .i64 13, .bool neg, .slice A0 n0 c0, .string name, .int .i64 exp, .int .i64 rel, .bool truth, .bool all, .slice (some ad) 2 c] 29) := (X2.out.below.block _ hws).trans HBX.out
  have F1' := Lib.hid (F1.out.ext x2)
  have b0w2 : w2.cell? ⟨w.heap.size, 0, none⟩ = some (.int .i64 13) := by simp [World.cell?, hbx_w2]
  have b3w2 : w2.cell? ⟨w.heap.size, 3, none⟩ = some (.string name) := by simp [World.cell?, hbx_w2]
  have b5w2 : w2.cell? ⟨w.heap.size, 5, none⟩ = some (.int .i64 rel) := by simp [World.cell?, hbx_w2]
  have b7w2 : w2.cell? ⟨w.heap.size, 7, none⟩ = some (.bool all) := by simp [World.cell?, hbx_w2]
  have b8w2 : w2.cell? ⟨w.heap.size, 8, none⟩ = some (.slice (some ad) 2 c) := by simp [World.cell?, hbx_w2]
  clear x2 hbx_w2
  have HFIN : Hid (FmV w2 L (.imp f g) (.iface 160 (.agg #[.iface T1 u1, .iface T2 u2]))) := ⟨_, _, rfl, F1'.out, F2.out⟩
  have HX := Lib.hid (HWX.out.trans X2.out)
  go_wp2_with fail
  go_ret2
  exact ⟨_, rfl, HFIN.out, HX.out⟩

set_option maxRecDepth 100000 in
theorem ofq_imp {L n : Nat} (ih : OfIH L n) {f g : Fm} (t : Tr) (hsz : (Fm.imp f g).sz < n + 1) (h : IsFm L (.imp f g) t) (v : Value) (w : World) (hv : TrV w (fun _ => True) t v) : Calls Tryz.prog 12 #[v] w (RetFm L (.imp f g) w) := by
  have H := Lib.hid (fun w' (hx : Ext w w') => off_imp ih t hsz h v w' (hv.ext hx))
  have hkind : t.d.kind = 13 := h.1
  clear h ih hsz
  obtain ⟨⟨kind, neg, ds, name, exp, rel, truth, all⟩, ks⟩ := t
  simp only [Tr.d] at hkind
  subst hkind
  obtain ⟨A0, n0, c0, A, c, rfl, hnat, hc1, hc2, hat⟩ := hv.open_
  clear hv hat hnat hc1 hc2
  unfold ndV at H ⊢
  simp only [Tr.d, Tr.ks] at H ⊢
  go_enter Tryz.func12, Tryz.ntmps12
  go_wp2_with fail
  refine (H.out _ ((Ext.refl w).alloc _)).mono ?_
  rintro e w1 ⟨v1, rfl, f1, x1⟩
  have F1 := Lib.hid f1
  have X1 := Lib.hid (((Ext.refl w).alloc _).trans x1)
  obtain ⟨T1, u1, rfl⟩ := f1.iface
  clear f1 x1 H
  go_wp2_with fail
  go_ret2
  exact ⟨_, rfl, F1.out, X1.out⟩

set_option maxRecDepth 100000 in
set_option maxHeartbeats 2000000 in
theorem off_iff {L n : Nat} (ih : OfIH L n) {f g : Fm} (t : Tr) (hsz : (Fm.iff f g).sz < n + 1) (h : IsFm L (.iff f g) t) (v : Value) (w : World) (hv : TrV w (fun _ => True) t v) : Calls Tryz.prog 46 #[v] w (RetFm L (.iff f g) w) := by
  have IH := Lib.hid ih
  clear ih
  obtain ⟨⟨kind, neg, ds, name, exp, rel, truth, all⟩, ks⟩ := t
  obtain ⟨hkind, t0, t1, hks, h0, h1⟩ := h
  simp only [Tr.d] at hkind
  simp only [Tr.ks] at hks
  subst hkind hks
  simp only [Fm.sz] at hsz
  obtain ⟨A0, n0, c0, A, c, rfl, hnat, hc1, hc2, hat⟩ := hv.open_
  change TrsAt w _ [t0, t1] A 0 at hat
  have HAT := Lib.hid hat
  clear hv hat hnat
  unfold ndV
  simp only [Tr.d, Tr.ks, List.length_cons, List.length_nil, Nat.zero_add, Nat.reduceAdd] at hc1 ⊢
  obtain ⟨W, hW⟩ : ∃ W, w.alloc (.cells #[.int .i64 14, .bool neg, .slice A0 n0 c0, .string name, .int .i64 exp, .int .i64 rel, .bool truth, .bool all, .slice A 2 c] 29) = W := ⟨_, rfl⟩
  have hWx : Ext w W := by rw [← hW]; exact (Ext.refl w).alloc _
  have hbx : W.heap[w.heap.size]? = some (.cells #[.int .i64 14, .bool neg, .slice A0 n0 c0, .string name, .int .i64 exp, .int .i64 rel, .bool truth, .bool all, .slice A 2 c] 29) := by rw [← hW]; exact heap_alloc_new w _
  have hws : w.heap.size < W.heap.size := by rw [← hW]; simp
  have b0W : W.cell? ⟨w.heap.size, 0, none⟩ = some (.int .i64 14) := by simp [World.cell?, hbx]
  have b3W : W.cell? ⟨w.heap.size, 3, none⟩ = some (.string name) := by simp [World.cell?, hbx]
  have b5W : W.cell? ⟨w.heap.size, 5, none⟩ = some (.int .i64 rel) := by simp [World.cell?, hbx]
  have b7W : W.cell? ⟨w.heap.size, 7, none⟩ = some (.bool all) := by simp [World.cell?, hbx]
  have b8W : W.cell? ⟨w.heap.size, 8, none⟩ = some (.slice A 2 c) := by simp [World.cell?, hbx]
  obtain ⟨ad, B0, m0, d0, B1, m1, d1', hA, hadb, ⟨e0, e1, e2, e3, e4, e5, e6, e7, e8⟩, hkt⟩ := (HAT.out.ext hWx).kid0 (by simp)
  subst hA
  have HKT := Lib.hid hkt
  have HWX := Lib.hid hWx
  have HBX := Lib.hid hbx
  clear hkt hWx hbx
  simp only [List.getElem_cons_zero] at e0 e1 e3 e4 e5 e6 e7
  go_enter Tryz.func46, Tryz.ntmps46
  go_wp2_with fail
  refine (IH.out f t0 (by omega) h0 _ _ HKT.out).mono ?_
  rintro e w1 ⟨v1, rfl, f1, x1⟩
  have F1 := Lib.hid f1
  obtain ⟨T1, u1, rfl⟩ := f1.iface
  clear f1 b0W b3W b5W b7W b8W e0 e1 e2 e3 e4 e5 e6 e7 e8
  have X1 := Lib.hid x1
  have hbx_w1 : w1.heap[w.heap.size]? = some (.cells #[.int .i64 14, .bool neg, .slice A0 n0 c0, .string name, .int .i64 exp, .int .i64 rel, .bool truth, .bool all, .slice (some ad) 2 c] 29) := (x1.below.block _ hws).trans HBX.out
  have b0w1 : w1.cell? ⟨w.heap.size, 0, none⟩ = some (.int .i64 14) := by simp [World.cell?, hbx_w1]
  have b3w1 : w1.cell? ⟨w.heap.size, 3, none⟩ = some (.string name) := by simp [World.cell?, hbx_w1]
  have b5w1 : w1.cell? ⟨w.heap.size, 5, none⟩ = some (.int .i64 rel) := by simp [World.cell?, hbx_w1]
  have b7w1 : w1.cell? ⟨w.heap.size, 7, none⟩ = some (.bool all) := by simp [World.cell?, hbx_w1]
  have b8w1 : w1.cell? ⟨w.heap.size, 8, none⟩ = some (.slice (some ad) 2 c) := by simp [World.cell?, hbx_w1]
  obtain ⟨ad', B0, m0, d0, B1, m1, d1', hA, hadb, hnd, hkt⟩ := (HAT.out.ext (HWX.out.trans X1.out)).kid 1 (by simp)
  obtain ⟨e0, e1, e2, e3, e4, e5, e6, e7, e8⟩ := hnd.nine
  clear hnd
  injection hA with hA
  subst hA
  have HKT2 := Lib.hid hkt
  simp only [List.getElem_cons_succ, List.getElem_cons_zero] at e0 e1 e3 e4 e5 e6 e7
  clear hkt x1 hbx_w1
  go_wp2_with fail
  refine (IH.out g t1 (by omega) h1 _ _ HKT2.out).mono ?_
  rintro e w2 ⟨v2, rfl, f2, x2⟩
  have F2 := Lib.hid f2
  obtain ⟨T2, u2, rfl⟩ := f2.iface
  clear f2 b0w1 b3w1 b5w1 b7w1 b8w1 e0 e1 e2 e3 e4 e5 e6 e7 e8
  have X2 := Lib.hid (X1.out.trans x2)
  have hbx_w2 : w2.heap[w.heap.size]? = some (.cells #[.int .i64 14, .bool neg, .slice A0 n0 c0, .string name, .int .i64 exp, .int .i64 rel, .bool truth, .bool all, .slice (some ad) 2 c] 29) := (X2.out.below.block _ hws).trans HBX.out
  have F1' := Lib.hid (F1.out.ext x2)
  have b0w2 : w2.cell? ⟨w.heap.size, 0, none⟩ = some (.int .i64 14) := by simp [World.cell?, hbx_w2]
  have b3w2 : w2.cell? ⟨w.heap.size, 3, none⟩ = some (.string name) := by simp [World.cell?, hbx_w2]
  have b5w2 : w2.cell? ⟨w.heap.size, 5, none⟩ = some (.int .i64 rel) := by simp [World.cell?, hbx_w2]
  have b7w2 : w2.cell? ⟨w.heap.size, 7, none⟩ = some (.bool all) := by simp [World.cell?, hbx_w2]
  have b8w2 : w2.cell? ⟨w.heap.size, 8, none⟩ = some (.slice (some ad) 2 c) := by simp [World.cell?, hbx_w2]
  clear x2 hbx_w2
  have HFIN : Hid (FmV w2 L (.iff f g) (.iface 161 (.agg #[.iface T1 u1, .iface T2 u2]))) := ⟨_, _, rfl, F1'.out, F2.out⟩
  have HX := Lib.hid (HWX.out.trans X2.out)
  go_wp2_with fail
  go_ret2
  exact ⟨_, rfl, HFIN.out, HX.out⟩

set_option maxRecDepth 100000 in
theorem ofq_iff {L n : Nat} (ih : OfIH L n) {f g : Fm} (t : Tr) (hsz : (Fm.iff f g).sz < n + 1) (h : IsFm L (.iff f g) t) (v : Value) (w : World) (hv : TrV w (fun _ => True) t v) : Calls Tryz.prog 12 #[v] w (RetFm L (.iff f g) w) := by
  have H := Lib.hid (fun w' (hx : Ext w w') => off_iff ih t hsz h v w' (hv.ext hx))
  have hkind : t.d.kind = 14 := h.1
  clear h ih hsz
  obtain ⟨⟨kind, neg, ds, name, exp, rel, truth, all⟩, ks⟩ := t
  simp only [Tr.d] at hkind
  subst hkind
  obtain ⟨A0, n0, c0, A, c, rfl, hnat, hc1, hc2, hat⟩ := hv.open_
  clear hv hat hnat hc1 hc2
  unfold ndV at H ⊢
  simp only [Tr.d, Tr.ks] at H ⊢
  go_enter Tryz.func12, Tryz.ntmps12
  go_wp2_with fail
  refine (H.out _ ((Ext.refl w).alloc _)).mono ?_
  rintro e w1 ⟨v1, rfl, f1, x1⟩
  have F1 := Lib.hid f1
  have X1 := Lib.hid (((Ext.refl w).alloc _).trans x1)
  obtain ⟨T1, u1, rfl⟩ := f1.iface
  clear f1 x1 H
  go_wp2_with fail
  go_ret2
  exact ⟨_, rfl, F1.out, X1.out⟩

set_option maxRecDepth 100000 in
set_option maxHeartbeats 2000000 in
theorem off_not {L n : Nat} (ih : OfIH L n) {f : Fm} (t : Tr) (hsz : (Fm.not f).sz < n + 1) (h : IsFm L (.not f) t) (v : Value) (w : World) (hv : TrV w (fun _ => True) t v) : Calls Tryz.prog 45 #[v] w (RetFm L (.not f) w) := by
  have IH := Lib.hid ih
  clear ih
  obtain ⟨⟨kind, neg, ds, name, exp, rel, truth, all⟩, ks⟩ := t
  obtain ⟨hkind, t0, hks, h0⟩ := h
  simp only [Tr.d] at hkind
  simp only [Tr.ks] at hks
  subst hkind hks
  simp only [Fm.sz] at hsz
  obtain ⟨A0, n0, c0, A, c, rfl, hnat, hc1, hc2, hat⟩ := hv.open_
  change TrsAt w _ [t0] A 0 at hat
  have HAT := Lib.hid hat
  clear hv hat hnat
  unfold ndV
  simp only [Tr.d, Tr.ks, List.length_cons, List.length_nil, Nat.zero_add, Nat.reduceAdd] at hc1 ⊢
  obtain ⟨W, hW⟩ : ∃ W, w.alloc (.cells #[.int .i64 10, .bool neg, .slice A0 n0 c0, .string name, .int .i64 exp, .int .i64 rel, .bool truth, .bool all, .slice A 1 c] 29) = W := ⟨_, rfl⟩
  have hWx : Ext w W := by rw [← hW]; exact (Ext.refl w).alloc _
  have hbx : W.heap[w.heap.size]? = some (.cells #[.int .i64 10, .bool neg, .slice A0 n0 c0, .string name, .int .i64 exp, .int .i64 rel, .bool truth, .bool all, .slice A 1 c] 29) := by rw [← hW]; exact heap_alloc_new w _
  have hws : w.heap.size < W.heap.size := by rw [← hW]; simp
  have b0W : W.cell? ⟨w.heap.size, 0, none⟩ = some (.int .i64 10) := by simp [World.cell?, hbx]
  have b3W : W.cell? ⟨w.heap.size, 3, none⟩ = some (.string name) := by simp [World.cell?, hbx]
  have b5W : W.cell? ⟨w.heap.size, 5, none⟩ = some (.int .i64 rel) := by simp [World.cell?, hbx]
  have b7W : W.cell? ⟨w.heap.size, 7, none⟩ = some (.bool all) := by simp [World.cell?, hbx]
  have b8W : W.cell? ⟨w.heap.size, 8, none⟩ = some (.slice A 1 c) := by simp [World.cell?, hbx]
  obtain ⟨ad, B0, m0, d0, B1, m1, d1', hA, hadb, ⟨e0, e1, e2, e3, e4, e5, e6, e7, e8⟩, hkt⟩ := (HAT.out.ext hWx).kid0 (by simp)
  subst hA
  have HKT := Lib.hid hkt
  have HWX := Lib.hid hWx
  have HBX := Lib.hid hbx
  clear hkt hWx hbx
  simp only [List.getElem_cons_zero] at e0 e1 e3 e4 e5 e6 e7
  go_enter Tryz.func45, Tryz.ntmps45
  go_wp2_with fail
  refine (IH.out f t0 (by omega) h0 _ _ HKT.out).mono ?_
  rintro e w1 ⟨v1, rfl, f1, x1⟩
  have F1 := Lib.hid f1
  obtain ⟨T1, u1, rfl⟩ := f1.iface
  clear f1 b0W b3W b5W b7W b8W e0 e1 e2 e3 e4 e5 e6 e7 e8
  have X1 := Lib.hid x1
  have hbx_w1 : w1.heap[w.heap.size]? = some (.cells #[.int .i64 10, .bool neg, .slice A0 n0 c0, .string name, .int .i64 exp, .int .i64 rel, .bool truth, .bool all, .slice (some ad) 1 c] 29) := (x1.below.block _ hws).trans HBX.out
  have b0w1 : w1.cell? ⟨w.heap.size, 0, none⟩ = some (.int .i64 10) := by simp [World.cell?, hbx_w1]
  have b3w1 : w1.cell? ⟨w.heap.size, 3, none⟩ = some (.string name) := by simp [World.cell?, hbx_w1]
  have b5w1 : w1.cell? ⟨w.heap.size, 5, none⟩ = some (.int .i64 rel) := by simp [World.cell?, hbx_w1]
  have b7w1 : w1.cell? ⟨w.heap.size, 7, none⟩ = some (.bool all) := by simp [World.cell?, hbx_w1]
  have b8w1 : w1.cell? ⟨w.heap.size, 8, none⟩ = some (.slice (some ad) 1 c) := by simp [World.cell?, hbx_w1]
  clear x1 hbx_w1
  have HFIN : Hid (FmV w1 L (.not f) (.iface 51 (.agg #[.iface T1 u1]))) := ⟨_, rfl, F1.out⟩
  have HX := Lib.hid (HWX.out.trans X1.out)
  go_wp2_with fail
  go_ret2
  exact ⟨_, rfl, HFIN.out, HX.out⟩

set_option maxRecDepth 100000 in
theorem ofq_not {L n : Nat} (ih : OfIH L n) {f : Fm} (t : Tr) (hsz : (Fm.not f).sz < n + 1) (h : IsFm L (.not f) t) (v : Value) (w : World) (hv : TrV w (fun _ => True) t v) : Calls Tryz.prog 12 #[v] w (RetFm L (.not f) w) := by
  have H := Lib.hid (fun w' (hx : Ext w w') => off_not ih t hsz h v w' (hv.ext hx))
  have hkind : t.d.kind = 10 := h.1
  clear h ih hsz
  obtain ⟨⟨kind, neg, ds, name, exp, rel, truth, all⟩, ks⟩ := t
  simp only [Tr.d] at hkind
  subst hkind
  obtain ⟨A0, n0, c0, A, c, rfl, hnat, hc1, hc2, hat⟩ := hv.open_
  clear hv hat hnat hc1 hc2
  unfold ndV at H ⊢
  simp only [Tr.d, Tr.ks] at H ⊢
  go_enter Tryz.func12, Tryz.ntmps12
  go_wp2_with fail
  refine (H.out _ ((Ext.refl w).alloc _)).mono ?_
  rintro e w1 ⟨v1, rfl, f1, x1⟩
  have F1 := Lib.hid f1
  have X1 := Lib.hid (((Ext.refl w).alloc _).trans x1)
  obtain ⟨T1, u1, rfl⟩ := f1.iface
  clear f1 x1 H
  go_wp2_with fail
  go_ret2
  exact ⟨_, rfl, F1.out, X1.out⟩

set_option maxRecDepth 100000 in
set_option maxHeartbeats 2000000 in
theorem off_quant {L n : Nat} (ih : OfIH L n) {al : Bool} {q : ByteArray} {f : Fm} (t : Tr) (hsz : (Fm.quant al q f).sz < n + 1) (h : IsFm L (.quant al q f) t) (v : Value) (w : World) (hv : TrV w (fun _ => True) t v) : Calls Tryz.prog 45 #[v] w (RetFm L (.quant al q f) w) := by
  have IH := Lib.hid ih
  clear ih
  obtain ⟨⟨kind, neg, ds, name, exp, rel, truth, all⟩, ks⟩ := t
  obtain ⟨hkind, hall, hname, t0, hks, h0⟩ := h
  simp only [Tr.d] at hall hname
  subst hall hname
  simp only [Tr.d] at hkind
  simp only [Tr.ks] at hks
  subst hkind hks
  simp only [Fm.sz] at hsz
  obtain ⟨A0, n0, c0, A, c, rfl, hnat, hc1, hc2, hat⟩ := hv.open_
  change TrsAt w _ [t0] A 0 at hat
  have HAT := Lib.hid hat
  clear hv hat hnat
  unfold ndV
  simp only [Tr.d, Tr.ks, List.length_cons, List.length_nil, Nat.zero_add, Nat.reduceAdd] at hc1 ⊢
  obtain ⟨W, hW⟩ : ∃ W, w.alloc (.cells #[.int .i64 15, .bool neg, .slice A0 n0 c0, .string name, .int .i64 exp, .int .i64 rel, .bool truth, .bool all, .slice A 1 c] 29) = W := ⟨_, rfl⟩
  have hWx : Ext w W := by rw [← hW]; exact (Ext.refl w).alloc _
  have hbx : W.heap[w.heap.size]? = some (.cells #[.int .i64 15, .bool neg, .slice A0 n0 c0, .string name, .int .i64 exp, .int .i64 rel, .bool truth, .bool all, .slice A 1 c] 29) := by rw [← hW]; exact heap_alloc_new w _
  have hws : w.heap.size < W.heap.size := by rw [← hW]; simp
  have b0W : W.cell? ⟨w.heap.size, 0, none⟩ = some (.int .i64 15) := by simp [World.cell?, hbx]
  have b3W : W.cell? ⟨w.heap.size, 3, none⟩ = some (.string name) := by simp [World.cell?, hbx]
  have b5W : W.cell? ⟨w.heap.size, 5, none⟩ = some (.int .i64 rel) := by simp [World.cell?, hbx]
  have b7W : W.cell? ⟨w.heap.size, 7, none⟩ = some (.bool all) := by simp [World.cell?, hbx]
  have b8W : W.cell? ⟨w.heap.size, 8, none⟩ = some (.slice A 1 c) := by simp [World.cell?, hbx]
  obtain ⟨ad, B0, m0, d0, B1, m1, d1', hA, hadb, ⟨e0, e1, e2, e3, e4, e5, e6, e7, e8⟩, hkt⟩ := (HAT.out.ext hWx).kid0 (by simp)
  subst hA
  have HKT := Lib.hid hkt
  have HWX := Lib.hid hWx
  have HBX := Lib.hid hbx
  clear hkt hWx hbx
  simp only [List.getElem_cons_zero] at e0 e1 e3 e4 e5 e6 e7
  go_enter Tryz.func45, Tryz.ntmps45
  go_wp2_with fail
  refine (IH.out f t0 (by omega) h0 _ _ HKT.out).mono ?_
  rintro e w1 ⟨v1, rfl, f1, x1⟩
  have F1 := Lib.hid f1
  obtain ⟨T1, u1, rfl⟩ := f1.iface
  clear f1 b0W b3W b5W b7W b8W e0 e1 e2 e3 e4 e5 e6 e7 e8
  have X1 := Lib.hid x1
  have hbx_w1 : w1.heap[w.heap.size]? = some (.cells #[.int .i64 15, .bool neg, .slice A0 n0 c0, .string name, .int .i64 exp, .int .i64 rel, .bool truth, .bool all, .slice (some ad) 1 c] 29) := (x1.below.block _ hws).trans HBX.out
  have b0w1 : w1.cell? ⟨w.heap.size, 0, none⟩ = some (.int .i64 15) := by simp [World.cell?, hbx_w1]
  have b3w1 : w1.cell? ⟨w.heap.size, 3, none⟩ = some (.string name) := by simp [World.cell?, hbx_w1]
  have b5w1 : w1.cell? ⟨w.heap.size, 5, none⟩ = some (.int .i64 rel) := by simp [World.cell?, hbx_w1]
  have b7w1 : w1.cell? ⟨w.heap.size, 7, none⟩ = some (.bool all) := by simp [World.cell?, hbx_w1]
  have b8w1 : w1.cell? ⟨w.heap.size, 8, none⟩ = some (.slice (some ad) 1 c) := by simp [World.cell?, hbx_w1]
  clear x1 hbx_w1
  have HFIN : Hid (FmV w1 L (.quant all name f) (.iface 95 (.agg #[.bool all, .string name, .iface T1 u1]))) := ⟨_, rfl, F1.out⟩
  have HX := Lib.hid (HWX.out.trans X1.out)
  go_wp2_with fail
  go_ret2
  exact ⟨_, rfl, HFIN.out, HX.out⟩

set_option maxRecDepth 100000 in
theorem ofq_quant {L n : Nat} (ih : OfIH L n) {al : Bool} {q : ByteArray} {f : Fm} (t : Tr) (hsz : (Fm.quant al q f).sz < n + 1) (h : IsFm L (.quant al q f) t) (v : Value) (w : World) (hv : TrV w (fun _ => True) t v) : Calls Tryz.prog 12 #[v] w (RetFm L (.quant al q f) w) := by
  have H := Lib.hid (fun w' (hx : Ext w w') => off_quant ih t hsz h v w' (hv.ext hx))
  have hkind : t.d.kind = 15 := h.1
  clear h ih hsz
  obtain ⟨⟨kind, neg, ds, name, exp, rel, truth, all⟩, ks⟩ := t
  simp only [Tr.d] at hkind
  subst hkind
  obtain ⟨A0, n0, c0, A, c, rfl, hnat, hc1, hc2, hat⟩ := hv.open_
  clear hv hat hnat hc1 hc2
  unfold ndV at H ⊢
  simp only [Tr.d, Tr.ks] at H ⊢
  go_enter Tryz.func12, Tryz.ntmps12
  go_wp2_with fail
  refine (H.out _ ((Ext.refl w).alloc _)).mono ?_
  rintro e w1 ⟨v1, rfl, f1, x1⟩
  have F1 := Lib.hid f1
  have X1 := Lib.hid (((Ext.refl w).alloc _).trans x1)
  obtain ⟨T1, u1, rfl⟩ := f1.iface
  clear f1 x1 H
  go_wp2_with fail
  go_ret2
  exact ⟨_, rfl, F1.out, X1.out⟩

set_option maxRecDepth 100000 in
set_option maxHeartbeats 2000000 in
theorem off_atom {L n : Nat} (hL : L ≤ 35184372088000) (ih : OfIH L n) {l k : Tm} {rr : Int} (t : Tr) (hsz : (Fm.atom l rr k).sz < n + 1) (h : IsFm L (.atom l rr k) t) (v : Value) (w : World) (hv : TrV w (fun _ => True) t v) : Calls Tryz.prog 44 #[v] w (RetFm L (.atom l rr k) w) := by
  have IH := Lib.hid ih
  clear ih
  obtain ⟨⟨kind, neg, ds, name, exp, rel, truth, all⟩, ks⟩ := t
  obtain ⟨hkind, hrel, hr1, hr6, t0, t1, hks, h0, h1⟩ := h
  simp only [Tr.d] at hrel
  subst hrel
  have d1 : decide (rel < 1) = false := by simp; omega
  have d6 : decide (6 < rel) = false := by simp; omega
  simp only [Tr.d] at hkind
  simp only [Tr.ks] at hks
  subst hkind hks
  simp only [Fm.sz] at hsz
  obtain ⟨A0, n0, c0, A, c, rfl, hnat, hc1, hc2, hat⟩ := hv.open_
  change TrsAt w _ [t0, t1] A 0 at hat
  have HAT := Lib.hid hat
  clear hv hat hnat
  unfold ndV
  simp only [Tr.d, Tr.ks, List.length_cons, List.length_nil, Nat.zero_add, Nat.reduceAdd] at hc1 ⊢
  obtain ⟨W, hW⟩ : ∃ W, w.alloc (.cells #[.int .i64 9, .bool neg, .slice A0 n0 c0, .string name, .int .i64 exp, .int .i64 rel, .bool truth, .bool all, .slice A 2 c] 29) = W := ⟨_, rfl⟩
  have hWx : Ext w W := by rw [← hW]; exact (Ext.refl w).alloc _
  have hbx : W.heap[w.heap.size]? = some (.cells #[.int .i64 9, .bool neg, .slice A0 n0 c0, .string name, .int .i64 exp, .int .i64 rel, .bool truth, .bool all, .slice A 2 c] 29) := by rw [← hW]; exact heap_alloc_new w _
  have hws : w.heap.size < W.heap.size := by rw [← hW]; simp
  have b0W : W.cell? ⟨w.heap.size, 0, none⟩ = some (.int .i64 9) := by simp [World.cell?, hbx]
  have b3W : W.cell? ⟨w.heap.size, 3, none⟩ = some (.string name) := by simp [World.cell?, hbx]
  have b5W : W.cell? ⟨w.heap.size, 5, none⟩ = some (.int .i64 rel) := by simp [World.cell?, hbx]
  have b7W : W.cell? ⟨w.heap.size, 7, none⟩ = some (.bool all) := by simp [World.cell?, hbx]
  have b8W : W.cell? ⟨w.heap.size, 8, none⟩ = some (.slice A 2 c) := by simp [World.cell?, hbx]
  obtain ⟨ad, B0, m0, d0, B1, m1, d1', hA, hadb, ⟨e0, e1, e2, e3, e4, e5, e6, e7, e8⟩, hkt⟩ := (HAT.out.ext hWx).kid0 (by simp)
  subst hA
  have HKT := Lib.hid hkt
  have HWX := Lib.hid hWx
  have HBX := Lib.hid hbx
  clear hkt hWx hbx
  simp only [List.getElem_cons_zero] at e0 e1 e3 e4 e5 e6 e7
  go_enter Tryz.func44, Tryz.ntmps44
  go_wp2_with fail
  refine (ofTerm_any hL l t0 h0 _ _ HKT.out).mono ?_
  rintro e w1 ⟨v1, rfl, f1, x1⟩
  have F1 := Lib.hid f1
  obtain ⟨T1, u1, rfl⟩ := f1.iface
  clear f1 b0W b3W b5W b7W b8W e0 e1 e2 e3 e4 e5 e6 e7 e8
  have X1 := Lib.hid x1
  have hbx_w1 : w1.heap[w.heap.size]? = some (.cells #[.int .i64 9, .bool neg, .slice A0 n0 c0, .string name, .int .i64 exp, .int .i64 rel, .bool truth, .bool all, .slice (some ad) 2 c] 29) := (x1.below.block _ hws).trans HBX.out
  have b0w1 : w1.cell? ⟨w.heap.size, 0, none⟩ = some (.int .i64 9) := by simp [World.cell?, hbx_w1]
  have b3w1 : w1.cell? ⟨w.heap.size, 3, none⟩ = some (.string name) := by simp [World.cell?, hbx_w1]
  have b5w1 : w1.cell? ⟨w.heap.size, 5, none⟩ = some (.int .i64 rel) := by simp [World.cell?, hbx_w1]
  have b7w1 : w1.cell? ⟨w.heap.size, 7, none⟩ = some (.bool all) := by simp [World.cell?, hbx_w1]
  have b8w1 : w1.cell? ⟨w.heap.size, 8, none⟩ = some (.slice (some ad) 2 c) := by simp [World.cell?, hbx_w1]
  obtain ⟨ad', B0, m0, d0, B1, m1, d1', hA, hadb, hnd, hkt⟩ := (HAT.out.ext (HWX.out.trans X1.out)).kid 1 (by simp)
  obtain ⟨e0, e1, e2, e3, e4, e5, e6, e7, e8⟩ := hnd.nine
  clear hnd
  injection hA with hA
  subst hA
  have HKT2 := Lib.hid hkt
  simp only [List.getElem_cons_succ, List.getElem_cons_zero] at e0 e1 e3 e4 e5 e6 e7
  clear hkt x1 hbx_w1
  go_wp2_with fail
  refine (ofTerm_any hL k t1 h1 _ _ HKT2.out).mono ?_
  rintro e w2 ⟨v2, rfl, f2, x2⟩
  have F2 := Lib.hid f2
  obtain ⟨T2, u2, rfl⟩ := f2.iface
  clear f2 b0w1 b3w1 b5w1 b7w1 b8w1 e0 e1 e2 e3 e4 e5 e6 e7 e8
  have X2 := Lib.hid (X1.out.trans x2)
  have hbx_w2 : w2.heap[w.heap.size]? = some (.cells #[.int .i64 9, .bool neg, .slice A0 n0 c0, .string name, .int .i64 exp, .int .i64 rel, .bool truth, .bool all, .slice (some ad) 2 c] 29) := (X2.out.below.block _ hws).trans HBX.out
  have F1' := Lib.hid (F1.out.ext x2)
  have b0w2 : w2.cell? ⟨w.heap.size, 0, none⟩ = some (.int .i64 9) := by simp [World.cell?, hbx_w2]
  have b3w2 : w2.cell? ⟨w.heap.size, 3, none⟩ = some (.string name) := by simp [World.cell?, hbx_w2]
  have b5w2 : w2.cell? ⟨w.heap.size, 5, none⟩ = some (.int .i64 rel) := by simp [World.cell?, hbx_w2]
  have b7w2 : w2.cell? ⟨w.heap.size, 7, none⟩ = some (.bool all) := by simp [World.cell?, hbx_w2]
  have b8w2 : w2.cell? ⟨w.heap.size, 8, none⟩ = some (.slice (some ad) 2 c) := by simp [World.cell?, hbx_w2]
  clear x2 hbx_w2
  have HFIN : Hid (FmV w2 L (.atom l rel k) (.iface 93 (.agg #[.iface T1 u1, .int .i64 rel, .iface T2 u2]))) := ⟨_, _, rfl, F1'.out, F2.out⟩
  have HX := Lib.hid (HWX.out.trans X2.out)
  go_wp2_with fail
  go_ret2
  exact ⟨_, rfl, HFIN.out, HX.out⟩

set_option maxRecDepth 100000 in
theorem ofq_atom {L n : Nat} (hL : L ≤ 35184372088000) (ih : OfIH L n) {l k : Tm} {rr : Int} (t : Tr) (hsz : (Fm.atom l rr k).sz < n + 1) (h : IsFm L (.atom l rr k) t) (v : Value) (w : World) (hv : TrV w (fun _ => True) t v) : Calls Tryz.prog 12 #[v] w (RetFm L (.atom l rr k) w) := by
  have H := Lib.hid (fun w' (hx : Ext w w') => off_atom hL ih t hsz h v w' (hv.ext hx))
  have hkind : t.d.kind = 9 := h.1
  clear h ih hsz
  obtain ⟨⟨kind, neg, ds, name, exp, rel, truth, all⟩, ks⟩ := t
  simp only [Tr.d] at hkind
  subst hkind
  obtain ⟨A0, n0, c0, A, c, rfl, hnat, hc1, hc2, hat⟩ := hv.open_
  clear hv hat hnat hc1 hc2
  unfold ndV at H ⊢
  simp only [Tr.d, Tr.ks] at H ⊢
  go_enter Tryz.func12, Tryz.ntmps12
  go_wp2_with fail
  refine (H.out _ ((Ext.refl w).alloc _)).mono ?_
  rintro e w1 ⟨v1, rfl, f1, x1⟩
  have F1 := Lib.hid f1
  have X1 := Lib.hid (((Ext.refl w).alloc _).trans x1)
  obtain ⟨T1, u1, rfl⟩ := f1.iface
  clear f1 x1 H
  go_wp2_with fail
  go_ret2
  exact ⟨_, rfl, F1.out, X1.out⟩

set_option maxRecDepth 100000 in
theorem ofq_truth {L : Nat} {b : Bool} (t : Tr) (h : IsFm L (.truth b) t) (v : Value) (w : World) (hv : TrV w (fun _ => True) t v) : Calls Tryz.prog 12 #[v] w (RetFm L (.truth b) w) := by
  obtain ⟨⟨kind, neg, ds, name, exp, rel, truth, all⟩, ks⟩ := t
  obtain ⟨hkind, hks, ht⟩ := h
  simp only [Tr.d] at hkind ht
  simp only [Tr.ks] at hks
  subst hkind hks ht
  obtain ⟨A0, n0, c0, A, c, rfl, hnat, hc1, hc2, hat⟩ := hv.open_
  clear hv hat hnat hc1 hc2
  unfold ndV
  simp only [Tr.d, Tr.ks, List.length_nil]
  go_enter Tryz.func12, Tryz.ntmps12
  go_wp2_with fail
  go_ret2
  exact ⟨_, rfl, rfl, (Ext.refl w).alloc _⟩

theorem of_ih (L : Nat) (hL : L ≤ 35184372088000) (n : Nat) : OfIH L n := by
  induction n with
  | zero => intro m t h; omega
  | succ n ih =>
    intro m t hsz h v w hv
    cases m with
    | truth b => exact ofq_truth t h v w hv
    | atom l r k => exact ofq_atom hL ih t hsz h v w hv
    | not f => exact ofq_not ih t hsz h v w hv
    | and f g => exact ofq_and ih t hsz h v w hv
    | or f g => exact ofq_or ih t hsz h v w hv
    | imp f g => exact ofq_imp ih t hsz h v w hv
    | iff f g => exact ofq_iff ih t hsz h v w hv
    | quant a s f => exact ofq_quant ih t hsz h v w hv
theorem fof_any {L : Nat} (hL : L ≤ 35184372088000) (f : Fm) (t : Tr) (h : IsFm L f t) (v : Value) (w : World) {p : Nat → Prop} (hv : TrV w p t v) : Calls Tryz.prog 12 #[v] w (RetFm L f w) :=
  of_ih L hL (f.sz + 1) f t (Nat.lt_succ_self _) h v w (hv.mono fun _ _ => trivial)
end Go.Proofs.YtkbpnppiadaibaaGreatDoor
