/- Layer 38: prenex.truth, builder.join, quant, matrix at formulas without equivalences. -/
import Derived.Test.YtkbpnppiadaibaaGreatDoorMt41
import Derived.Test.YtkbpnppiadaibaaGreatDoorMt30
set_option linter.unusedSimpArgs false
set_option linter.unusedVariables false

set_option maxRecDepth 100000
set_option maxHeartbeats 8000000
namespace Go.Proofs.YtkbpnppiadaibaaGreatDoor
open Go.RowKit
attribute [local go_sem] as_Num as_Name as_Add as_Sub as_Mul as_Neg as_Pow as_Truth as_Atom as_Not as_And as_Or as_Implies as_Iff as_Quant
theorem Zero7.turn {w w' : World} {g : Nat} (h : Zero7 w g) (hb : w'.heap[g]? = w.heap[g]?) : Zero7 w' g := ⟨h.1.turn hb, fun i => (World.frozen?_of_block (a := ⟨g, i, none⟩) hb).trans (h.2 i)⟩
theorem BldS.pbld {base gb bl bt : Nat} {W : World} {own : Nat → Prop} {s : PSt} {tk : List ByteArray} (h : BldS base gb bl bt W own s tk) : PBld W gb bl s.lev := ⟨h.c2, by have := h.lt; omega, h.lev⟩
theorem BldS.lo {base gb bl bt : Nat} {W w0 : World} {own : Nat → Prop} {s : PSt} {tk : List ByteArray} (h : BldS base gb bl bt W own s tk) (hlo : w0.heap.size ≤ gb ∧ w0.heap.size ≤ bl ∧ w0.heap.size ≤ bt ∧ w0.heap.size ≤ base) (i : Nat) (hi : own i) : w0.heap.size ≤ i := by
 have h1 := h.own_ hi
 have h2 := h.lt
 omega
theorem matF_len (f : Fm) : ∀ (pos : Bool) (s : PSt), f.noIff = true → (matF f pos s).2.names.length = s.names.length + f.bound.length ∧ (matF f pos s).2.all.length = s.all.length + f.bound.length := by
 induction f with
 | truth b => intro pos s _; simp [matF, Fm.bound]
 | atom l r k => intro pos s _; simp [matF, Fm.bound]
 | not f ih => intro pos s h; exact ih (!pos) s h
 | and f g ihf ihg =>
   intro pos s h
   simp only [Fm.noIff, Bool.and_eq_true] at h
   have h1 := ihf pos s h.1
   have h2 := ihg pos (matF f pos s).2 h.2
   simp only [matF, Fm.bound, List.length_append]
   omega
 | or f g ihf ihg =>
   intro pos s h
   simp only [Fm.noIff, Bool.and_eq_true] at h
   have h1 := ihf pos s h.1
   have h2 := ihg pos (matF f pos s).2 h.2
   simp only [matF, Fm.bound, List.length_append]
   omega
 | imp f g ihf ihg =>
   intro pos s h
   simp only [Fm.noIff, Bool.and_eq_true] at h
   have h1 := ihf (!pos) s h.1
   have h2 := ihg pos (matF f (!pos) s).2 h.2
   simp only [matF, Fm.bound, List.length_append]
   omega
 | iff f g _ _ => intro pos s h; cases h
 | quant a nm f ih =>
   intro pos s h
   have h1 := ih pos (s.bind (a == pos) nm) h
   have h2 : (s.bind (a == pos) nm).names.length = s.names.length + 1 ∧ (s.bind (a == pos) nm).all.length = s.all.length + 1 := by simp [PSt.bind]
   simp only [matF, Fm.bound, List.length_cons]
   omega
def MatIH (w0 : World) (L base gb bl bt : Nat) (f : Fm) : Prop := ∀ (v : Value) (W : World) (own : Nat → Prop) (s : PSt) (tk : List ByteArray) (pos : Bool), Ext w0 W → FmV w0 L f v → f.noIff = true → f.light → s.names.length + f.bound.length ≤ 1000 → s.all.length + f.bound.length ≤ 1000 → BldS base gb bl bt W own s tk →
 Calls Tryz.prog 49 #[.pointer (some ⟨gb, 0, none⟩), v, .bool pos, .bool false] W (RetMat base gb bl bt own W tk (matF f pos s))
theorem ptruth_any (b : Bool) (w : World) : Calls Tryz.prog 104 #[.bool b] w (RetMx (fun i => w.heap.size < i) (mxTr b) w) := by
 obtain ⟨W, hW⟩ : ∃ W, w.alloc (.cells #[.int .i64 0, .int .i64 0, .int .i64 0, .bool false, .slice none 0 0, .slice none 0 0, .slice none 0 0] 45) = W := ⟨_, rfl⟩
 have hWx : Ext w W := by rw [← hW]; exact (Ext.refl w).alloc _
 have hz : Zero7 W w.heap.size := by rw [← hW]; exact Zero7.new w _
 have HF := Lib.hid (close_mx (q' := fun i => w.heap.size < i) hWx (Nat.le_refl _) hz (nil_mx W (fun _ => False) (if b then 1 else 0) 0) (fun b _ h => h.elim))
 obtain ⟨⟨z0, z1, z2, z3, z4, z5, z6⟩, zf⟩ := id hz
 simp only [Mx.kind, Mx.rel, Mx.p, Pl.zero, Pl.lv, Pl.neg] at z0 z1 z2 z3
 clear hWx hz
 cases b
 · go_enter Tryz.func104, Tryz.ntmps104
   go_wp2_with fail
   exact bodyPost_ret (v := mxV (.mk 0 0 Pl.zero []) (.slice none 0 0) (.slice none 0 0) (.slice none 0 0)) (by simp [results, Tryz.results104, go_sem, z0, z1, z2, z3, z4, z5, z6, mxV, Mx.kind, Mx.rel, Mx.p, Pl.zero, Pl.lv, Pl.neg]) rfl HF.out
 · go_enter Tryz.func104, Tryz.ntmps104
   go_wp2_with fail
   exact bodyPost_ret (v := mxV (.mk 1 0 Pl.zero []) (.slice none 0 0) (.slice none 0 0) (.slice none 0 0)) (by simp [results, Tryz.results104, go_sem, z0, z1, z2, z3, z4, z5, z6, mxV, Mx.kind, Mx.rel, Mx.p, Pl.zero, Pl.lv, Pl.neg]) rfl HF.out
section
variable {w0 : World} {L base gb bl bt : Nat}
theorem two_mxs {W : World} {q : Nat → Prop} {a b : Mx} {A0 A1 A2 B0 B1 B2 : Option Addr} {n0 c0 n1 c1 n2 c2 m0 d0 m1 d1 m2 d2 : Nat} (hq : q W.heap.size) (ha : MxV W q a (mxV a (.slice A0 n0 c0) (.slice A1 n1 c1) (.slice A2 n2 c2))) (hb : MxV W q b (mxV b (.slice B0 m0 d0) (.slice B1 m1 d1) (.slice B2 m2 d2))) (T : TypeId) :
 MxsAt (W.alloc (.cells #[.int .i64 a.kind, .int .i64 a.rel, .int .i64 a.p.lv, .bool a.p.neg, .slice A0 n0 c0, .slice A1 n1 c1, .slice A2 n2 c2, .int .i64 b.kind, .int .i64 b.rel, .int .i64 b.p.lv, .bool b.p.neg, .slice B0 m0 d0, .slice B1 m1 d1, .slice B2 m2 d2] T)) q [a, b] (some ⟨W.heap.size, 0, none⟩) 0 := by
 have hx := (Ext.refl W).alloc (.cells #[.int .i64 a.kind, .int .i64 a.rel, .int .i64 a.p.lv, .bool a.p.neg, .slice A0 n0 c0, .slice A1 n1 c1, .slice A2 n2 c2, .int .i64 b.kind, .int .i64 b.rel, .int .i64 b.p.lv, .bool b.p.neg, .slice B0 m0 d0, .slice B1 m1 d1, .slice B2 m2 d2] T)
 refine ⟨⟨⟨W.heap.size, 0, none⟩, _, _, _, rfl, by simp, hq, ?_, ha.ext hx⟩, ⟨⟨W.heap.size, 0, none⟩, _, _, _, rfl, by simp, hq, ?_, hb.ext hx⟩, trivial⟩
 · refine ⟨?_, ?_, ?_, ?_, ?_, ?_, ?_⟩ <;> simp [go_sem, add_mk]
 · refine ⟨?_, ?_, ?_, ?_, ?_, ?_, ?_⟩ <;> simp [go_sem, add_mk]
theorem join_any {f g : Fm} (hlo : w0.heap.size ≤ gb ∧ w0.heap.size ≤ bl ∧ w0.heap.size ≤ bt ∧ w0.heap.size ≤ base) (ihf : MatIH w0 L base gb bl bt f) (ihg : MatIH w0 L base gb bl bt g) {k : Int} (hk : k = 3 ∨ k = 4) (left right keep : Bool) (v u : Value) (W : World) (own : Nat → Prop) (s : PSt) (tk : List ByteArray) (hx0 : Ext w0 W) (hf : FmV w0 L f v) (hg : FmV w0 L g u)
 (hpf : f.noIff = true) (hpg : g.noIff = true) (hlf : f.light) (hlg : g.light) (hn : s.names.length + (f.bound.length + g.bound.length) ≤ 1000) (ha : s.all.length + (f.bound.length + g.bound.length) ≤ 1000) (hb : BldS base gb bl bt W own s tk) :
 Calls Tryz.prog 108 #[.pointer (some ⟨gb, 0, none⟩), .int .i64 k, v, u, .bool left, .bool right, .bool keep, .bool false] W (RetMat base gb bl bt own W tk (mxJoin (if keep then k else 7 - k) (matF f left s).1 (matF g right (matF f left s).2).1, (matF g right (matF f left s).2).2)) := by
 obtain ⟨W1, hW⟩ : ∃ W1, W.alloc (.cells #[.int .i64 0, .int .i64 0, .int .i64 0, .bool false, .slice none 0 0, .slice none 0 0, .slice none 0 0] 45) = W1 := ⟨_, rfl⟩
 have hWx : Ext W W1 := by rw [← hW]; exact (Ext.refl W).alloc _
 have hWs : W1.heap.size = W.heap.size + 1 := by rw [← hW]; simp
 have hz : Zero7 W1 W.heap.size := by rw [← hW]; exact Zero7.new W _
 have hml := matF_len f left s hpf
 have HC1 := Lib.hid (ihf v W1 own s tk left (hx0.trans hWx) hf hpf hlf (by omega) (by omega) (hb.ext hWx))
 have HW0 := Lib.hid hx0
 have HC2 : Hid (∀ (W2 : World) (own1 : Nat → Prop), Ext w0 W2 → BldS base gb bl bt W2 own1 (matF f left s).2 tk → Calls Tryz.prog 49 #[.pointer (some ⟨gb, 0, none⟩), u, .bool right, .bool false] W2 (RetMat base gb bl bt own1 W2 tk (matF g right (matF f left s).2))) :=
  Lib.hid fun W2 own1 hx hbb => ihg u W2 own1 _ tk right hx hg hpg hlg (by omega) (by omega) hbb
 have HB := Lib.hid hb
 have HWX := Lib.hid hWx
 have HZ := Lib.hid hz
 have HLO := Lib.hid hlo
 obtain ⟨Tf, xf, rfl⟩ := hf.iface
 obtain ⟨Tg, xg, rfl⟩ := hg.iface
 have hkk : ∀ kp : Bool, (if kp then k else 7 - k) = if kp then k else IntKind.i64.wrap (7 - k) := by intro kp; rw [IntKind.wrap_i64]; cases kp <;> simp; omega
 rw [hkk]
 clear hb hWx hz hml ihf ihg hf hg hx0 hpf hpg hlf hlg hn ha hkk hlo
 generalize matF f left s = r1 at *
 obtain ⟨ma, s1⟩ := r1
 generalize matF g right s1 = r2 at *
 obtain ⟨mb, s2⟩ := r2
 simp only at HC2
 have hkx : ∃ kk, (if keep then k else IntKind.i64.wrap (7 - k)) = kk := ⟨_, rfl⟩
 obtain ⟨kk, hkk⟩ := hkx
 rw [hkk]
 cases keep
 all_goals
  simp only [Bool.false_eq_true, if_false, if_true] at hkk
  go_enter Tryz.func108, Tryz.ntmps108
  go_wp2_with fail
  clear hW
  refine HC1.out.mono ?_
  rintro e w1 ⟨v1, own1, rfl, m1, b1, t1⟩
  simp only at m1 b1
  obtain ⟨C0, j0, f0, C1, j1, f1, C2, f2, rfl, -⟩ := id m1.open_
  have hs1 := t1.size
  have hown1 : ∀ i, own1 i → i < w1.heap.size := fun i hi => (b1.own_ hi).1
  have hno : ¬ own W.heap.size := fun ho => by have := (HB.out.own_ ho).1; omega
  have hno1 : ¬ own1 W.heap.size := fun ho => hno (t1.keeps.own _ (by omega) ho)
  have z1 : Zero7 w1 W.heap.size := HZ.out.turn (t1.keeps.block _ (by omega) hno)
  obtain ⟨W2, hW2⟩ : ∃ W2, w1.alloc (.cells #[.int .i64 ma.kind, .int .i64 ma.rel, .int .i64 ma.p.lv, .bool ma.p.neg, .slice C0 j0 f0, .slice C1 j1 f1, .slice C2 ma.ks.length f2] 45) = W2 := ⟨_, rfl⟩
  have hx2 : Ext w1 W2 := by rw [← hW2]; exact (Ext.refl w1).alloc _
  have hs2 : W2.heap.size = w1.heap.size + 1 := by rw [← hW2]; simp
  have hbx : Box7 W2 w1.heap.size ma (.slice C0 j0 f0) (.slice C1 j1 f1) (.slice C2 ma.ks.length f2) := by rw [← hW2]; exact Box7.new w1 ma _ _ _ _
  have HCC := Lib.hid (HC2.out W2 own1 ((t1.ext (HW0.out.trans HWX.out) (HB.out.lo HLO.out)).trans hx2) (b1.ext hx2))
  have M1 := Lib.hid (m1.ext hx2)
  have B1 := Lib.hid b1
  have T1 := Lib.hid t1
  have Z2 := Lib.hid (z1.ext hx2 (by omega))
  have X2 := Lib.hid hx2
  have BX2 := Lib.hid hbx
  clear m1 b1 t1 z1 hx2 hbx HC1 HC2 HZ
  unfold mxV
  go_wp2_with fail
  clear hW2
  refine HCC.out.mono ?_
  rintro e w2 ⟨v2, own2, rfl, m2, b2, t2⟩
  simp only at m2 b2
  obtain ⟨D0, i0, g0, D1, i1, g1, D2, g2, rfl, -⟩ := id m2.open_
  have hs3 := t2.size
  have hno2 : ¬ own2 W.heap.size := fun ho => hno1 (t2.keeps.own _ (by omega) ho)
  have hown2 : ∀ i, own2 i → i < w2.heap.size := fun i hi => (b2.own_ hi).1
  have z2 : Zero7 w2 W.heap.size := Z2.out.turn (t2.keeps.block _ (by omega) hno1)
  have bx2 : Box7 w2 w1.heap.size ma (.slice C0 j0 f0) (.slice C1 j1 f1) (.slice C2 ma.ks.length f2) := BX2.out.turn (t2.keeps.block _ (by omega) (fun ho => by have := hown1 _ ho; omega))
  have m1' := t2.mx M1.out
  obtain ⟨W3, hW3⟩ : ∃ W3, w2.alloc (.cells #[.int .i64 mb.kind, .int .i64 mb.rel, .int .i64 mb.p.lv, .bool mb.p.neg, .slice D0 i0 g0, .slice D1 i1 g1, .slice D2 mb.ks.length g2] 45) = W3 := ⟨_, rfl⟩
  have hx3 : Ext w2 W3 := by rw [← hW3]; exact (Ext.refl w2).alloc _
  have hs4 : W3.heap.size = w2.heap.size + 1 := by rw [← hW3]; simp
  obtain ⟨y0, y1, y2, y3, y4, y5, y6⟩ : Box7 W3 w2.heap.size mb (.slice D0 i0 g0) (.slice D1 i1 g1) (.slice D2 mb.ks.length g2) := by rw [← hW3]; exact Box7.new w2 mb _ _ _ _
  obtain ⟨x0, x1, x2, x3, x4, x5, x6⟩ := bx2.ext hx3 (by omega)
  obtain ⟨W4, hW4⟩ : ∃ W4, W3.alloc (.cells #[.int .i64 ma.kind, .int .i64 ma.rel, .int .i64 ma.p.lv, .bool ma.p.neg, .slice C0 j0 f0, .slice C1 j1 f1, .slice C2 ma.ks.length f2, .int .i64 mb.kind, .int .i64 mb.rel, .int .i64 mb.p.lv, .bool mb.p.neg, .slice D0 i0 g0, .slice D1 i1 g1, .slice D2 mb.ks.length g2] 45) = W4 := ⟨_, rfl⟩
  have hx4 : Ext W3 W4 := by rw [← hW4]; exact (Ext.refl W3).alloc _
  have hz4 := (z2.ext hx3 (by omega)).ext hx4 (by omega)
  have hpair := two_mxs (W := W3) (q := fun i => i = W3.heap.size ∨ (W1.heap.size ≤ i ∧ ¬ own2 i)) (.inl rfl) ((m1'.ext hx3).mono fun i hi => .inr hi) ((m2.ext hx3).mono fun i hi => .inr ⟨by omega, hi.2⟩) 45
  rw [hW4, hs4] at hpair
  have hm : BMut own W own2 W4 := ((((BMut.of_ext HWX.out).trans T1.out).trans (BMut.of_ext X2.out)).trans t2).trans (BMut.of_ext (hx3.trans hx4))
  have HF := Lib.hid (close_mat hm (Nat.le_refl _) hno2 hz4 (b2.ext (hx3.trans hx4)) (MxV.mk (t := .mk kk 0 Pl.zero [ma, mb]) (c := 2) (Pl.zero_v W4 _ none 0 (by omega)) (Nat.le_refl 2) (by decide) hpair) (fun b _ hb => by
   rcases hb with rfl | hb
   · exact ⟨by omega, by omega, fun ho => by have := hown2 _ ho; omega⟩
   · exact ⟨by omega, by omega, hb.2⟩))
  obtain ⟨⟨z0, z1, z2', z3, z4, z5, z6⟩, zf⟩ := hz4
  simp only [Mx.kind, Mx.rel, Mx.p, Pl.zero, Pl.lv, Pl.neg] at z0 z1 z2' z3
  unfold mxV
  clear hm hpair hx3 hx4 m1' bx2 z2 m2 b2 t2 HCC M1 B1 T1 Z2 X2 BX2 HB HWX hno hno1 hno2 hown1 hown2 HLO HW0
  go_wp2_with fail
  exact bodyPost_ret (v := mxV (.mk kk 0 Pl.zero [ma, mb]) (.slice none 0 0) (.slice none 0 0) (.slice (some ⟨w2.heap.size + 1, 0, none⟩) 2 2)) (by simp [results, Tryz.results108, go_sem, z0, z1, z2', z3, z4, z5, z6, mxV, Mx.kind, Mx.rel, Mx.p, Pl.zero, Pl.lv, Pl.neg]) rfl HF.out
theorem BMut.at_ {o1 o2 : Nat → Prop} {a b : World} (h : BMut o1 a o2 b) {i : Nat} (hi : i < a.heap.size) (hn : ¬ o1 i) : b.heap[i]? = a.heap[i]? ∧ ¬ o2 i ∧ i < b.heap.size := ⟨h.keeps.block i hi hn, fun ho => hn (h.keeps.own i hi ho), Nat.lt_of_lt_of_le hi h.size⟩
theorem BldS.names_ {W : World} {own : Nat → Prop} {s : PSt} {tk : List ByteArray} (h : BldS base gb bl bt W own s tk) : ∃ A c, W.cell? ⟨gb, 0, none⟩ = some (.slice A s.names.length c) := by
 obtain ⟨nv, av, on, h1, -, h3, -⟩ := h.ex
 obtain ⟨A, c, rfl, -⟩ := h3.len
 exact ⟨A, c, h1⟩
theorem quant_any {f : Fm} {al : Bool} {nm : ByteArray} (hlo : w0.heap.size ≤ gb ∧ w0.heap.size ≤ bl ∧ w0.heap.size ≤ bt ∧ w0.heap.size ≤ base) (ih : MatIH w0 L base gb bl bt f) (pos : Bool) (v : Value) (W : World) (own : Nat → Prop) (s : PSt) (tk : List ByteArray) (hx0 : Ext w0 W) (hf : FmV w0 L f v)
 (hpf : f.noIff = true) (hlf : f.light) (hn : s.names.length + (f.bound.length + 1) ≤ 1000) (ha : s.all.length + (f.bound.length + 1) ≤ 1000) (hb : BldS base gb bl bt W own s tk) :
 Calls Tryz.prog 109 #[.pointer (some ⟨gb, 0, none⟩), .agg #[.bool al, .string nm, v], .bool pos, .bool false] W (RetMat base gb bl bt own W tk (matF f pos (s.bind (al == pos) nm))) := by
 have hfv := hf
 obtain ⟨Tf, xf, rfl⟩ := hf.iface
 obtain ⟨W1, hW⟩ : ∃ W1, (W.alloc (.cells #[.bool al, .string nm, .iface Tf xf] 95)).alloc (.cells #[.int .i64 0, .int .i64 0, .int .i64 0, .bool false, .slice none 0 0, .slice none 0 0, .slice none 0 0] 45) = W1 := ⟨_, rfl⟩
 have hWx : Ext W W1 := by rw [← hW]; exact ((Ext.refl W).alloc _).alloc _
 have hWs : W1.heap.size = W.heap.size + 1 + 1 := by rw [← hW]; simp
 have q0 : W1.cell? ⟨W.heap.size, 0, none⟩ = some (.bool al) := by rw [← hW]; simp [go_sem]
 have q1 : W1.cell? ⟨W.heap.size, 1, none⟩ = some (.string nm) := by rw [← hW]; simp [go_sem]
 have q2 : W1.cell? ⟨W.heap.size, 2, none⟩ = some (.iface Tf xf) := by rw [← hW]; simp [go_sem]
 have hz : Zero7 W1 (W.heap.size + 1) := by
  rw [← hW]
  have := Zero7.new (W.alloc (.cells #[.bool al, .string nm, .iface Tf xf] 95)) 45
  simpa using this
 have hb1 := hb.ext hWx
 have hno : ∀ i, W.heap.size ≤ i → ¬ own i := fun i hi ho => by have := (hb.own_ ho).1; omega
 have hgb : gb < W.heap.size := by have := hb.lt; omega
 obtain ⟨nA, nc, e0, hadd⟩ := hb1.addName (by omega)
 obtain ⟨nB, nd, w4, own1, hrun, k0, k1, b5, t5⟩ := hadd nm
 clear hadd
 obtain ⟨n1, hn1⟩ : ∃ n1, s.names.length + 1 = n1 := ⟨_, rfl⟩
 rw [hn1] at hrun b5 t5
 obtain ⟨w5, hw5⟩ : ∃ w5, w4.setCell ⟨gb, 0, none⟩ (.slice nB n1 nd) = w5 := ⟨_, rfl⟩
 rw [hw5] at b5 t5
 have m5 := t5.at_ (i := W.heap.size) (by omega) (hno _ (Nat.le_refl _))
 have z5 := t5.at_ (i := W.heap.size + 1) (by omega) (hno _ (Nat.le_succ _))
 obtain ⟨w6, hw6⟩ : ∃ w6, w5.drew = w6 := ⟨_, rfl⟩
 have hx6 : Ext w5 w6 := by rw [← hw6]; exact (Ext.refl w5).drew
 have b6 := b5.ext hx6
 obtain ⟨aA, ac, e1, hadd2⟩ := b6.addAll (by simp only; omega)
 obtain ⟨aB, ad, w7, own2, hrun2, k2, k3, b8, t8⟩ := hadd2 (al == pos)
 clear hadd2
 simp only at e1 hrun2 k2 b8 t8
 obtain ⟨a0, ha0⟩ : ∃ a0, s.all.length = a0 := ⟨_, rfl⟩
 obtain ⟨a1, ha1⟩ : ∃ a1, a0 + 1 = a1 := ⟨_, rfl⟩
 rw [ha0] at e1 hrun2 k2 b8 t8
 rw [ha1] at hrun2 b8 t8
 obtain ⟨w8, hw8⟩ : ∃ w8, w7.setCell ⟨gb, 1, none⟩ (.slice aB a1 ad) = w8 := ⟨_, rfl⟩
 rw [hw8] at b8 t8
 have m8 := t8.at_ (i := W.heap.size) (Nat.lt_of_lt_of_le m5.2.2 hx6.size) m5.2.1
 have z8 := t8.at_ (i := W.heap.size + 1) (Nat.lt_of_lt_of_le z5.2.2 hx6.size) z5.2.1
 obtain ⟨w9, hw9⟩ : ∃ w9, w8.drew = w9 := ⟨_, rfl⟩
 have hx9 : Ext w8 w9 := by rw [← hw9]; exact (Ext.refl w8).drew
 have b9 := b8.ext hx9
 obtain ⟨w10, hrun3, b10, t10, o10⟩ := b9.addLevel nm ((n1 : Nat) : Int)
 have m10 := t10.at_ (i := W.heap.size) (Nat.lt_of_lt_of_le m8.2.2 hx9.size) m8.2.1
 have z10 := t10.at_ (i := W.heap.size + 1) (Nat.lt_of_lt_of_le z8.2.2 hx9.size) z8.2.1
 obtain ⟨lA, lc, e3⟩ := b9.names_
 have hln : (s.names ++ [nm]).length = n1 := by rw [List.length_append]; exact hn1
 simp only [hln] at e3
 have e2 := b9.c2
 have hsb : (⟨s.names ++ [nm], s.all ++ [al == pos], fun t => if t = nm then ((n1 : Nat) : Int) else s.lev t⟩ : PSt) = s.bind (al == pos) nm := by rw [← hn1]; rfl
 rw [hsb] at b10
 have hm : BMut own W own2 w10 := ((((BMut.of_ext hWx).trans t5).trans (BMut.of_ext hx6)).trans t8).trans ((BMut.of_ext hx9).trans t10)
 have hxx : Ext w0 w10 := hm.ext hx0 (hb.lo hlo)
 have HC := Lib.hid (ih (.iface Tf xf) w10 own2 (s.bind (al == pos) nm) tk pos hxx hfv hpf hlf (by rw [← hsb]; simp only [List.length_append, List.length_singleton]; omega) (by rw [← hsb]; simp only [List.length_append, List.length_singleton]; omega) b10)
 have h56 : ∀ i, i < w5.heap.size → w6.heap[i]? = w5.heap[i]? := fun i hi => hx6.below.block i hi
 have h89 : ∀ i, i < w8.heap.size → w9.heap[i]? = w8.heap[i]? := fun i hi => hx9.below.block i hi
 have f6 : w6.heap[W.heap.size]? = W1.heap[W.heap.size]? := (h56 _ m5.2.2).trans m5.1
 have f9 : w9.heap[W.heap.size]? = W1.heap[W.heap.size]? := ((h89 _ m8.2.2).trans m8.1).trans f6
 have f10 : w10.heap[W.heap.size]? = W1.heap[W.heap.size]? := m10.1.trans f9
 have x0 : w6.cell? ⟨W.heap.size, 0, none⟩ = some (.bool al) := (World.cell?_of_block (a := ⟨W.heap.size, 0, none⟩) f6).trans q0
 have y1 : w9.cell? ⟨W.heap.size, 1, none⟩ = some (.string nm) := (World.cell?_of_block (a := ⟨W.heap.size, 1, none⟩) f9).trans q1
 have y2 : w10.cell? ⟨W.heap.size, 2, none⟩ = some (.iface Tf xf) := (World.cell?_of_block (a := ⟨W.heap.size, 2, none⟩) f10).trans q2
 have u1 : w10.cell? ⟨W.heap.size, 1, none⟩ = some (.string nm) := (World.cell?_of_block (a := ⟨W.heap.size, 1, none⟩) f10).trans q1
 have zz : Zero7 w10 (W.heap.size + 1) := hz.turn (z10.1.trans ((h89 _ z8.2.2).trans (z8.1.trans ((h56 _ z5.2.2).trans z5.1))))
 have u3 : w10.cell? ⟨gb, 0, none⟩ = some (.slice lA n1 lc) := (o10.cell (p := ⟨gb, 0, none⟩) (by show gb < _; have := b9.lt; omega) b9.ne.1).trans e3
 have HZ10 := Lib.hid zz
 have HZ := Lib.hid z10.2
 have HWS := Lib.hid hWs
 have hW1 : W.heap.size + 1 < W1.heap.size := by omega
 have hs6 : W.heap.size < w6.heap.size := Nat.lt_of_lt_of_le m5.2.2 hx6.size
 have hs9 : W.heap.size < w9.heap.size := Nat.lt_of_lt_of_le m8.2.2 hx9.size
 have HM := Lib.hid hm
 have HRUN := Lib.hid hrun
 have e1' : (w5.alloc (.cells #[.bool (al == pos)] 4)).cell? ⟨gb, 1, none⟩ = some (.slice aA a0 ac) := (((Ext.refl w5).alloc (.cells #[.bool (al == pos)] 4)).cell (p := ⟨gb, 1, none⟩) (by show gb < _; have := m5.2.2; omega)).trans (by rw [← hw6] at e1; exact e1)
 have HSS : Hid ((w9.cell? ⟨gb, 2, none⟩ = some (.map (some bl)) ∧ w9.cell? ⟨W.heap.size, 1, none⟩ = some (.string nm) ∧ w9.cell? ⟨gb, 0, none⟩ = some (.slice lA n1 lc)) ∧ (w10.cell? ⟨gb, 2, none⟩ = some (.map (some bl)) ∧ w10.cell? ⟨W.heap.size, 1, none⟩ = some (.string nm) ∧ w10.cell? ⟨gb, 0, none⟩ = some (.slice lA n1 lc))) := Lib.hid ⟨⟨e2, y1, e3⟩, ⟨b10.c2, u1, u3⟩⟩
 have HRUN3 := Lib.hid hrun3
 generalize matF f pos (s.bind (al == pos) nm) = r at *
 obtain ⟨mr, sr⟩ := r
 subst hw6 hw9
 have HRUN2 : Hid ((Builtin.append_ #[38, 38] 38 #[.slice aA a0 ac, .slice (some ⟨w5.heap.size, 0, none⟩) 1 1]).run Tryz.prog (w5.drew.alloc (.cells #[.bool (al == pos)] 4)) = .ok (.slice aB a1 ad) w7) := Lib.hid hrun2
 have HB10 := Lib.hid b10
 clear hb hb1 hfv hx0 hpf hlf hn ha hno b5 t5 b6 b8 t8 b9 t10 m5 z5 m8 z8 m10 z10 hxx hm hsb hln hrun hrun2 ih hlo hn1 ha1 ha0 hz hWx u3 hWs hx6 hx9 h56 h89 f6 f9 f10 zz o10 e2 y1 e3 u1 hrun3 b10
 go_enter Tryz.func109, Tryz.ntmps109
 go_upto_region 4 with fail
 clear hW
 iterate 30 (first | at_builtin | go_values | go_skip | go_guarded | go_step | go_upon | go_back | go_simp)
 refine wpList_append_run rfl (.tmp 19) (.tmp 21) _ _ rfl _ _ _ _ rfl rfl HRUN.out ?_
 clear HRUN
 go_upto_region 5 with fail
 go_region_law (first
  | (refine step_append_run rfl (.tmp 29) (.tmp 34) 38 38 rfl _ _ _ _ (by simp [Act.eval, Act.put]) (by simp [Act.eval, Act.put]) HRUN2.out ?_))
 all_goals
  clear HRUN2
  have hrun3 := HRUN3.out
  clear e0 e1 e1' q0 q1 q2 x0
  go_upto_region 6 with fail
  go_region_held3 (fun W' => W'.cell? ⟨gb, 2, none⟩ = some (.map (some bl)) ∧ W'.cell? ⟨W.heap.size, 1, none⟩ = some (.string nm) ∧ W'.cell? ⟨gb, 0, none⟩ = some (.slice lA n1 lc))
   (first | with_reducible exact HSS.out.1 | with_reducible exact HSS.out.2)
   (fail)
  all_goals
   clear hrun3 HSS HRUN3
   go_wp2_with fail
   refine HC.out.mono ?_
   rintro e w11 ⟨v11, own3, rfl, m11, b11, t11⟩
   obtain ⟨C0, j0, f0, C1, j1, f1, C2, f2, rfl, -⟩ := id m11.open_
   have hz11 := HZ10.out.turn (t11.keeps.block _ HZ.out.2 HZ.out.1)
   have hno3 : ¬ own3 (W.heap.size + 1) := fun ho => HZ.out.1 (t11.keeps.own _ HZ.out.2 ho)
   have hs10 := HZ.out.2
   have HF := Lib.hid (close_mat (HM.out.trans t11) (Nat.le_succ _) hno3 hz11 b11 m11 (fun b _ hb => ⟨by omega, by omega, hb.2⟩))
   obtain ⟨⟨z0, z1, z2, z3, z4, z5, z6⟩, zf⟩ := hz11
   simp only [Mx.kind, Mx.rel, Mx.p, Pl.zero, Pl.lv, Pl.neg] at z0 z1 z2 z3
   clear m11 b11 t11 hno3 HC HZ10 HZ HM HB10 hs6 hs9
   unfold mxV
   go_wp2_with fail
   exact bodyPost_ret (v := mxV mr (.slice C0 j0 f0) (.slice C1 j1 f1) (.slice C2 mr.ks.length f2)) (by simp [results, Tryz.results109, go_sem, z0, z1, z2, z3, z4, z5, z6, mxV]) rfl HF.out
theorem mat_tail {W W1 w1 : World} {own own1 : Nat → Prop} {s s1 : PSt} {tk : List ByteArray} {m : Mx} {A0 A1 K : Option Addr} {n0 c0 n1 c1 n2 c2 : Nat} (hx : Ext W W1) (hs : W.heap.size < W1.heap.size) (hz : Zero7 W1 W.heap.size) (hb : BldS base gb bl bt W own s tk)
 (hm : MxV w1 (fun i => W1.heap.size ≤ i ∧ ¬ own1 i) m (mxV m (.slice A0 n0 c0) (.slice A1 n1 c1) (.slice K n2 c2))) (hb1 : BldS base gb bl bt w1 own1 s1 tk) (ht : BMut own W1 own1 w1) :
 Zero7 w1 W.heap.size ∧ RetMat base gb bl bt own W tk (m, s1) (.returned (mxV m (.slice A0 n0 c0) (.slice A1 n1 c1) (.slice K n2 c2))) (((((((w1.setCell ⟨W.heap.size, 0, none⟩ (.int .i64 m.kind)).setCell ⟨W.heap.size, 1, none⟩ (.int .i64 m.rel)).setCell ⟨W.heap.size, 2, none⟩ (.int .i64 m.p.lv)).setCell ⟨W.heap.size, 3, none⟩ (.bool m.p.neg)).setCell ⟨W.heap.size, 4, none⟩ (.slice A0 n0 c0)).setCell ⟨W.heap.size, 5, none⟩ (.slice A1 n1 c1)).setCell ⟨W.heap.size, 6, none⟩ (.slice K n2 c2)) := by
 have hno : ¬ own W.heap.size := fun ho => by have := (hb.own_ ho).1; omega
 have hz1 := hz.turn (ht.keeps.block _ hs hno)
 exact ⟨hz1, close_mat ((BMut.of_ext hx).trans ht) (Nat.le_refl _) (fun ho => hno (ht.keeps.own _ hs ho)) hz1 hb1 hm (fun b _ hb => ⟨by omega, by omega, hb.2⟩)⟩
theorem mat_truth {b : Bool} : MatIH w0 L base gb bl bt (.truth b) := by
 intro v W own s tk pos hx0 hf _ _ _ _ hb
 obtain rfl := hf
 obtain ⟨W1, hW⟩ : ∃ W1, (W.alloc (.cells #[.int .i64 0, .int .i64 0, .int .i64 0, .bool false, .slice none 0 0, .slice none 0 0, .slice none 0 0] 45)).alloc (.cells #[.bool b] 100) = W1 := ⟨_, rfl⟩
 have hWx : Ext W W1 := by rw [← hW]; exact ((Ext.refl W).alloc _).alloc _
 have hWs : W.heap.size + 1 < W1.heap.size := by rw [← hW]; simp
 have hz : Zero7 W1 W.heap.size := by rw [← hW]; exact (Zero7.new W _).ext ((Ext.refl _).alloc _) (by simp)
 have d0 : W1.cell? ⟨W.heap.size + 1, 0, none⟩ = some (.bool b) := by rw [← hW]; simp [go_sem]
 have HB := Lib.hid hb
 have HX := Lib.hid hWx
 have HZ := Lib.hid hz
 clear hb hx0 hWx hz
 rw [show matF (.truth b) pos s = (mxTr (b == pos), s) from rfl]
 go_enter Tryz.func49, Tryz.ntmps49
 go_wp2_with fail
 clear hW d0
 refine (ptruth_any (b == pos) W1).mono ?_
 rintro e w1 ⟨v1, rfl, m1, x1⟩
 obtain ⟨C0, j0, f0, C1, j1, f1, C2, f2, rfl, -⟩ := id m1.open_
 obtain ⟨hz1, hret⟩ := mat_tail HX.out (by omega) HZ.out HB.out (m1.mono fun i hi => (⟨by omega, fun ho => by have := (HB.out.own_ ho).1; omega⟩ : W1.heap.size ≤ i ∧ ¬ own i)) (HB.out.ext (HX.out.trans x1)) (BMut.of_ext x1)
 have HF := Lib.hid hret
 obtain ⟨⟨z0, z1, z2, z3, z4, z5, z6⟩, zf⟩ := hz1
 simp only [Mx.kind, Mx.rel, Mx.p, Pl.zero, Pl.lv, Pl.neg] at z0 z1 z2 z3
 clear hret m1 x1 HB HX HZ
 generalize mxTr (b == pos) = mr at *
 unfold mxV
 go_wp2_with fail
 exact bodyPost_ret (v := mxV mr (.slice C0 j0 f0) (.slice C1 j1 f1) (.slice C2 mr.ks.length f2)) (by simp [results, Tryz.results49, go_sem, z0, z1, z2, z3, z4, z5, z6, mxV]) rfl HF.out
theorem mat_not {f : Fm} (ih : MatIH w0 L base gb bl bt f) : MatIH w0 L base gb bl bt (.not f) := by
 intro v W own s tk pos hx0 hf hp hl hn ha hb
 obtain ⟨x, rfl, hx⟩ := hf
 obtain ⟨W1, hW⟩ : ∃ W1, (W.alloc (.cells #[.int .i64 0, .int .i64 0, .int .i64 0, .bool false, .slice none 0 0, .slice none 0 0, .slice none 0 0] 45)).alloc (.cells #[x] 51) = W1 := ⟨_, rfl⟩
 have hWx : Ext W W1 := by rw [← hW]; exact ((Ext.refl W).alloc _).alloc _
 have hWs : W.heap.size + 1 < W1.heap.size := by rw [← hW]; simp
 have hz : Zero7 W1 W.heap.size := by rw [← hW]; exact (Zero7.new W _).ext ((Ext.refl _).alloc _) (by simp)
 have HC := Lib.hid (ih x W1 own s tk (!pos) (hx0.trans hWx) hx hp hl hn ha (hb.ext hWx))
 obtain ⟨Tf, x, rfl⟩ := hx.iface
 have d0 : W1.cell? ⟨W.heap.size + 1, 0, none⟩ = some (.iface Tf x) := by rw [← hW]; simp [go_sem]
 have HB := Lib.hid hb
 have HX := Lib.hid hWx
 have HZ := Lib.hid hz
 clear hb hx0 hWx hz ih hp hl hn ha hx
 rw [show matF (.not f) pos s = matF f (!pos) s from rfl]
 generalize matF f (!pos) s = r at *
 obtain ⟨mr, sr⟩ := r
 go_enter Tryz.func49, Tryz.ntmps49
 go_wp2_with fail
 clear hW d0
 refine HC.out.mono ?_
 rintro e w1 ⟨v1, own1, rfl, m1, b1, t1⟩
 simp only at m1 b1
 obtain ⟨C0, j0, f0, C1, j1, f1, C2, f2, rfl, -⟩ := id m1.open_
 obtain ⟨hz1, hret⟩ := mat_tail HX.out (by omega) HZ.out HB.out m1 b1 t1
 have HF := Lib.hid hret
 obtain ⟨⟨z0, z1, z2, z3, z4, z5, z6⟩, zf⟩ := hz1
 simp only [Mx.kind, Mx.rel, Mx.p, Pl.zero, Pl.lv, Pl.neg] at z0 z1 z2 z3
 clear hret m1 b1 t1 HB HX HZ HC
 unfold mxV
 go_wp2_with fail
 exact bodyPost_ret (v := mxV mr (.slice C0 j0 f0) (.slice C1 j1 f1) (.slice C2 mr.ks.length f2)) (by simp [results, Tryz.results49, go_sem, z0, z1, z2, z3, z4, z5, z6, mxV]) rfl HF.out
theorem mat_and {f g : Fm} (hlo : w0.heap.size ≤ gb ∧ w0.heap.size ≤ bl ∧ w0.heap.size ≤ bt ∧ w0.heap.size ≤ base) (ihf : MatIH w0 L base gb bl bt f) (ihg : MatIH w0 L base gb bl bt g) : MatIH w0 L base gb bl bt (.and f g) := by
 intro v W own s tk pos hx0 hf hp hl hn ha hb
 simp only [Fm.noIff, Bool.and_eq_true] at hp
 simp only [Fm.bound, List.length_append] at hn ha
 obtain ⟨x, y, rfl, hx, hy⟩ := hf
 obtain ⟨W1, hW⟩ : ∃ W1, (W.alloc (.cells #[.int .i64 0, .int .i64 0, .int .i64 0, .bool false, .slice none 0 0, .slice none 0 0, .slice none 0 0] 45)).alloc (.cells #[x, y] 158) = W1 := ⟨_, rfl⟩
 have hWx : Ext W W1 := by rw [← hW]; exact ((Ext.refl W).alloc _).alloc _
 have hWs : W.heap.size + 1 < W1.heap.size := by rw [← hW]; simp
 have hz : Zero7 W1 W.heap.size := by rw [← hW]; exact (Zero7.new W _).ext ((Ext.refl _).alloc _) (by simp)
 have hc := join_any hlo ihf ihg (k := 3) (by omega) pos pos pos x y W1 own s tk (hx0.trans hWx) hx hy hp.1 hp.2 hl.1 hl.2 hn ha (hb.ext hWx)
 rw [show (if pos = true then (3 : Int) else 7 - 3) = (if pos = true then 3 else 4) by cases pos <;> rfl] at hc
 have HC := Lib.hid hc
 obtain ⟨Tf, x, rfl⟩ := hx.iface
 obtain ⟨Tg, y, rfl⟩ := hy.iface
 have d0 : W1.cell? ⟨W.heap.size + 1, 0, none⟩ = some (.iface Tf x) := by rw [← hW]; simp [go_sem]
 have d1 : W1.cell? ⟨W.heap.size + 1, 1, none⟩ = some (.iface Tg y) := by rw [← hW]; simp [go_sem]
 have HB := Lib.hid hb
 have HX := Lib.hid hWx
 have HZ := Lib.hid hz
 clear hb hx0 hWx hz ihf ihg hp hl hn ha hx hy hc hlo
 rw [show matF (.and f g) pos s = (mxJoin (if pos then 3 else 4) (matF f pos s).1 (matF g pos (matF f pos s).2).1, (matF g pos (matF f pos s).2).2) from rfl]
 generalize (matF g pos (matF f pos s).2).2 = sr at *
 generalize mxJoin (if pos = true then 3 else 4) (matF f pos s).1 (matF g pos (matF f pos s).2).1 = mr at *
 go_enter Tryz.func49, Tryz.ntmps49
 go_wp2_with fail
 clear hW d0 d1
 refine HC.out.mono ?_
 rintro e w1 ⟨v1, own1, rfl, m1, b1, t1⟩
 simp only at m1 b1
 obtain ⟨C0, j0, f0, C1, j1, f1, C2, f2, rfl, -⟩ := id m1.open_
 obtain ⟨hz1, hret⟩ := mat_tail HX.out (by omega) HZ.out HB.out m1 b1 t1
 have HF := Lib.hid hret
 obtain ⟨⟨z0, z1, z2, z3, z4, z5, z6⟩, zf⟩ := hz1
 simp only [Mx.kind, Mx.rel, Mx.p, Pl.zero, Pl.lv, Pl.neg] at z0 z1 z2 z3
 clear hret m1 b1 t1 HB HX HZ HC
 unfold mxV
 go_wp2_with fail
 exact bodyPost_ret (v := mxV mr (.slice C0 j0 f0) (.slice C1 j1 f1) (.slice C2 mr.ks.length f2)) (by simp [results, Tryz.results49, go_sem, z0, z1, z2, z3, z4, z5, z6, mxV]) rfl HF.out
theorem mat_or {f g : Fm} (hlo : w0.heap.size ≤ gb ∧ w0.heap.size ≤ bl ∧ w0.heap.size ≤ bt ∧ w0.heap.size ≤ base) (ihf : MatIH w0 L base gb bl bt f) (ihg : MatIH w0 L base gb bl bt g) : MatIH w0 L base gb bl bt (.or f g) := by
 intro v W own s tk pos hx0 hf hp hl hn ha hb
 simp only [Fm.noIff, Bool.and_eq_true] at hp
 simp only [Fm.bound, List.length_append] at hn ha
 obtain ⟨x, y, rfl, hx, hy⟩ := hf
 obtain ⟨W1, hW⟩ : ∃ W1, (W.alloc (.cells #[.int .i64 0, .int .i64 0, .int .i64 0, .bool false, .slice none 0 0, .slice none 0 0, .slice none 0 0] 45)).alloc (.cells #[x, y] 159) = W1 := ⟨_, rfl⟩
 have hWx : Ext W W1 := by rw [← hW]; exact ((Ext.refl W).alloc _).alloc _
 have hWs : W.heap.size + 1 < W1.heap.size := by rw [← hW]; simp
 have hz : Zero7 W1 W.heap.size := by rw [← hW]; exact (Zero7.new W _).ext ((Ext.refl _).alloc _) (by simp)
 have hc := join_any hlo ihf ihg (k := 4) (by omega) pos pos pos x y W1 own s tk (hx0.trans hWx) hx hy hp.1 hp.2 hl.1 hl.2 hn ha (hb.ext hWx)
 rw [show (if pos = true then (4 : Int) else 7 - 4) = (if pos = true then 4 else 3) by cases pos <;> rfl] at hc
 have HC := Lib.hid hc
 obtain ⟨Tf, x, rfl⟩ := hx.iface
 obtain ⟨Tg, y, rfl⟩ := hy.iface
 have d0 : W1.cell? ⟨W.heap.size + 1, 0, none⟩ = some (.iface Tf x) := by rw [← hW]; simp [go_sem]
 have d1 : W1.cell? ⟨W.heap.size + 1, 1, none⟩ = some (.iface Tg y) := by rw [← hW]; simp [go_sem]
 have HB := Lib.hid hb
 have HX := Lib.hid hWx
 have HZ := Lib.hid hz
 clear hb hx0 hWx hz ihf ihg hp hl hn ha hx hy hc hlo
 rw [show matF (.or f g) pos s = (mxJoin (if pos then 4 else 3) (matF f pos s).1 (matF g pos (matF f pos s).2).1, (matF g pos (matF f pos s).2).2) from rfl]
 generalize (matF g pos (matF f pos s).2).2 = sr at *
 generalize mxJoin (if pos = true then 4 else 3) (matF f pos s).1 (matF g pos (matF f pos s).2).1 = mr at *
 go_enter Tryz.func49, Tryz.ntmps49
 go_wp2_with fail
 clear hW d0 d1
 refine HC.out.mono ?_
 rintro e w1 ⟨v1, own1, rfl, m1, b1, t1⟩
 simp only at m1 b1
 obtain ⟨C0, j0, f0, C1, j1, f1, C2, f2, rfl, -⟩ := id m1.open_
 obtain ⟨hz1, hret⟩ := mat_tail HX.out (by omega) HZ.out HB.out m1 b1 t1
 have HF := Lib.hid hret
 obtain ⟨⟨z0, z1, z2, z3, z4, z5, z6⟩, zf⟩ := hz1
 simp only [Mx.kind, Mx.rel, Mx.p, Pl.zero, Pl.lv, Pl.neg] at z0 z1 z2 z3
 clear hret m1 b1 t1 HB HX HZ HC
 unfold mxV
 go_wp2_with fail
 exact bodyPost_ret (v := mxV mr (.slice C0 j0 f0) (.slice C1 j1 f1) (.slice C2 mr.ks.length f2)) (by simp [results, Tryz.results49, go_sem, z0, z1, z2, z3, z4, z5, z6, mxV]) rfl HF.out
theorem mat_imp {f g : Fm} (hlo : w0.heap.size ≤ gb ∧ w0.heap.size ≤ bl ∧ w0.heap.size ≤ bt ∧ w0.heap.size ≤ base) (ihf : MatIH w0 L base gb bl bt f) (ihg : MatIH w0 L base gb bl bt g) : MatIH w0 L base gb bl bt (.imp f g) := by
 intro v W own s tk pos hx0 hf hp hl hn ha hb
 simp only [Fm.noIff, Bool.and_eq_true] at hp
 simp only [Fm.bound, List.length_append] at hn ha
 obtain ⟨x, y, rfl, hx, hy⟩ := hf
 obtain ⟨W1, hW⟩ : ∃ W1, (W.alloc (.cells #[.int .i64 0, .int .i64 0, .int .i64 0, .bool false, .slice none 0 0, .slice none 0 0, .slice none 0 0] 45)).alloc (.cells #[x, y] 160) = W1 := ⟨_, rfl⟩
 have hWx : Ext W W1 := by rw [← hW]; exact ((Ext.refl W).alloc _).alloc _
 have hWs : W.heap.size + 1 < W1.heap.size := by rw [← hW]; simp
 have hz : Zero7 W1 W.heap.size := by rw [← hW]; exact (Zero7.new W _).ext ((Ext.refl _).alloc _) (by simp)
 have hc := join_any hlo ihf ihg (k := 4) (by omega) (!pos) pos pos x y W1 own s tk (hx0.trans hWx) hx hy hp.1 hp.2 hl.1 hl.2 hn ha (hb.ext hWx)
 rw [show (if pos = true then (4 : Int) else 7 - 4) = (if pos = true then 4 else 3) by cases pos <;> rfl] at hc
 have HC := Lib.hid hc
 obtain ⟨Tf, x, rfl⟩ := hx.iface
 obtain ⟨Tg, y, rfl⟩ := hy.iface
 have d0 : W1.cell? ⟨W.heap.size + 1, 0, none⟩ = some (.iface Tf x) := by rw [← hW]; simp [go_sem]
 have d1 : W1.cell? ⟨W.heap.size + 1, 1, none⟩ = some (.iface Tg y) := by rw [← hW]; simp [go_sem]
 have HB := Lib.hid hb
 have HX := Lib.hid hWx
 have HZ := Lib.hid hz
 clear hb hx0 hWx hz ihf ihg hp hl hn ha hx hy hc hlo
 rw [show matF (.imp f g) pos s = (mxJoin (if pos then 4 else 3) (matF f (!pos) s).1 (matF g pos (matF f (!pos) s).2).1, (matF g pos (matF f (!pos) s).2).2) from rfl]
 generalize (matF g pos (matF f (!pos) s).2).2 = sr at *
 generalize mxJoin (if pos = true then 4 else 3) (matF f (!pos) s).1 (matF g pos (matF f (!pos) s).2).1 = mr at *
 go_enter Tryz.func49, Tryz.ntmps49
 go_wp2_with fail
 clear hW d0 d1
 refine HC.out.mono ?_
 rintro e w1 ⟨v1, own1, rfl, m1, b1, t1⟩
 simp only at m1 b1
 obtain ⟨C0, j0, f0, C1, j1, f1, C2, f2, rfl, -⟩ := id m1.open_
 obtain ⟨hz1, hret⟩ := mat_tail HX.out (by omega) HZ.out HB.out m1 b1 t1
 have HF := Lib.hid hret
 obtain ⟨⟨z0, z1, z2, z3, z4, z5, z6⟩, zf⟩ := hz1
 simp only [Mx.kind, Mx.rel, Mx.p, Pl.zero, Pl.lv, Pl.neg] at z0 z1 z2 z3
 clear hret m1 b1 t1 HB HX HZ HC
 unfold mxV
 go_wp2_with fail
 exact bodyPost_ret (v := mxV mr (.slice C0 j0 f0) (.slice C1 j1 f1) (.slice C2 mr.ks.length f2)) (by simp [results, Tryz.results49, go_sem, z0, z1, z2, z3, z4, z5, z6, mxV]) rfl HF.out
theorem mat_quant {f : Fm} {al : Bool} {nm : ByteArray} (hlo : w0.heap.size ≤ gb ∧ w0.heap.size ≤ bl ∧ w0.heap.size ≤ bt ∧ w0.heap.size ≤ base) (ih : MatIH w0 L base gb bl bt f) : MatIH w0 L base gb bl bt (.quant al nm f) := by
 intro v W own s tk pos hx0 hf hp hl hn ha hb
 simp only [Fm.bound, List.length_cons] at hn ha
 obtain ⟨x, rfl, hx⟩ := hf
 obtain ⟨W1, hW⟩ : ∃ W1, (W.alloc (.cells #[.int .i64 0, .int .i64 0, .int .i64 0, .bool false, .slice none 0 0, .slice none 0 0, .slice none 0 0] 45)).alloc (.cells #[.bool al, .string nm, x] 95) = W1 := ⟨_, rfl⟩
 have hWx : Ext W W1 := by rw [← hW]; exact ((Ext.refl W).alloc _).alloc _
 have hWs : W.heap.size + 1 < W1.heap.size := by rw [← hW]; simp
 have hz : Zero7 W1 W.heap.size := by rw [← hW]; exact (Zero7.new W _).ext ((Ext.refl _).alloc _) (by simp)
 have HC := Lib.hid (quant_any (al := al) (nm := nm) hlo ih pos x W1 own s tk (hx0.trans hWx) hx hp hl hn ha (hb.ext hWx))
 obtain ⟨Tf, x, rfl⟩ := hx.iface
 have d0 : W1.cell? ⟨W.heap.size + 1, 0, none⟩ = some (.bool al) := by rw [← hW]; simp [go_sem]
 have d1 : W1.cell? ⟨W.heap.size + 1, 1, none⟩ = some (.string nm) := by rw [← hW]; simp [go_sem]
 have d2 : W1.cell? ⟨W.heap.size + 1, 2, none⟩ = some (.iface Tf x) := by rw [← hW]; simp [go_sem]
 have HB := Lib.hid hb
 have HX := Lib.hid hWx
 have HZ := Lib.hid hz
 clear hb hx0 hWx hz ih hp hl hn ha hx hlo
 rw [show matF (.quant al nm f) pos s = matF f pos (s.bind (al == pos) nm) from rfl]
 generalize matF f pos (s.bind (al == pos) nm) = r at *
 obtain ⟨mr, sr⟩ := r
 go_enter Tryz.func49, Tryz.ntmps49
 go_wp2_with fail
 clear hW d0 d1 d2
 refine HC.out.mono ?_
 rintro e w1 ⟨v1, own1, rfl, m1, b1, t1⟩
 simp only at m1 b1
 obtain ⟨C0, j0, f0, C1, j1, f1, C2, f2, rfl, -⟩ := id m1.open_
 obtain ⟨hz1, hret⟩ := mat_tail HX.out (by omega) HZ.out HB.out m1 b1 t1
 have HF := Lib.hid hret
 obtain ⟨⟨z0, z1, z2, z3, z4, z5, z6⟩, zf⟩ := hz1
 simp only [Mx.kind, Mx.rel, Mx.p, Pl.zero, Pl.lv, Pl.neg] at z0 z1 z2 z3
 clear hret m1 b1 t1 HB HX HZ HC
 unfold mxV
 go_wp2_with fail
 exact bodyPost_ret (v := mxV mr (.slice C0 j0 f0) (.slice C1 j1 f1) (.slice C2 mr.ks.length f2)) (by simp [results, Tryz.results49, go_sem, z0, z1, z2, z3, z4, z5, z6, mxV]) rfl HF.out
end
end Go.Proofs.YtkbpnppiadaibaaGreatDoor

/- Layer 38: builder.matrix at any formula without equivalences. -/
set_option maxRecDepth 100000
set_option maxHeartbeats 8000000
namespace Go.Proofs.YtkbpnppiadaibaaGreatDoor
open Go.RowKit
attribute [local go_sem] as_Num as_Name as_Add as_Sub as_Mul as_Neg as_Pow as_Truth as_Atom as_Not as_And as_Or as_Implies as_Iff as_Quant
section
variable {w0 : World} {L base gb bl bt : Nat}
theorem mat_atom {l k : Tm} {r : Int} (hpl : ∀ g, PolyIH w0 L gb bl g l) (hpk : ∀ g, PolyIH w0 L gb bl g k) : MatIH w0 L base gb bl bt (.atom l r k) := by
 intro v W own s tk pos hx0 hf hp hl hn ha hb
 obtain ⟨x, y, rfl, hx, hy⟩ := hf
 have hwl : l.wt ≤ 320 := hl.1
 have hwk : k.wt ≤ 320 := hl.2
 obtain ⟨W1, hW⟩ : ∃ W1, (W.alloc (.cells #[.int .i64 0, .int .i64 0, .int .i64 0, .bool false, .slice none 0 0, .slice none 0 0, .slice none 0 0] 45)).alloc (.cells #[x, .int .i64 r, y] 93) = W1 := ⟨_, rfl⟩
 have hWx : Ext W W1 := by rw [← hW]; exact ((Ext.refl W).alloc _).alloc _
 have hWs : W.heap.size + 1 < W1.heap.size := by rw [← hW]; simp
 have hz : Zero7 W1 W.heap.size := by rw [← hW]; exact (Zero7.new W _).ext ((Ext.refl _).alloc _) (by simp)
 have hb1 := hb.ext hWx
 have HA := Lib.hid (fun W' (hx' : Ext W1 W') => hpl s.lev x W' ((hx0.trans hWx).trans hx') hx ((hb1.ext hx').pbld) (by omega))
 have HC := Lib.hid (fun W' (hx' : Ext W1 W') => hpk s.lev y W' ((hx0.trans hWx).trans hx') hy ((hb1.ext hx').pbld) (by omega))
 have HFA := Lib.hid ((polF_bd s.lev l (by omega)).fit400 (by omega))
 have HFC := Lib.hid ((polF_bd s.lev k (by omega)).fit400 (by omega))
 obtain ⟨Tf, x, rfl⟩ := hx.iface
 obtain ⟨Tg, y, rfl⟩ := hy.iface
 have d1 : W1.cell? ⟨W.heap.size + 1, 1, none⟩ = some (.int .i64 r) := by rw [← hW]; simp [go_sem]
 have HS : Hid (∀ W', Ext W1 W' → (Ext W W' ∧ W'.cell? ⟨W.heap.size + 1, 0, none⟩ = some (.iface Tf x) ∧ W'.cell? ⟨W.heap.size + 1, 2, none⟩ = some (.iface Tg y))) := by
  intro W' hx'
  obtain ⟨hc, hf⟩ := hx'.cells
  refine ⟨hWx.trans hx', ?_, ?_⟩ <;> (rw [hc _ _ (by omega), ← hW]; simp [go_sem])
 have HS2 : Hid (∀ W'' u0 u1 u2 u3 u4 u5 u6, Ext W1 W'' → ∀ W', W' = ((((((W''.setCell ⟨W.heap.size, 0, none⟩ u0).setCell ⟨W.heap.size, 1, none⟩ u1).setCell ⟨W.heap.size, 2, none⟩ u2).setCell ⟨W.heap.size, 3, none⟩ u3).setCell ⟨W.heap.size, 4, none⟩ u4).setCell ⟨W.heap.size, 5, none⟩ u5).setCell ⟨W.heap.size, 6, none⟩ u6 → (Ext W W' ∧ W'.cell? ⟨W.heap.size + 1, 0, none⟩ = some (.iface Tf x) ∧ W'.cell? ⟨W.heap.size + 1, 2, none⟩ = some (.iface Tg y))) := by
  intro W'' u0 u1 u2 u3 u4 u5 u6 hx' W' hW'
  obtain ⟨s1, k0, k1⟩ := HS.out W'' hx'
  rw [hW']
  refine ⟨((((((s1.setCell (by simp) _).setCell (by simp) _).setCell (by simp) _).setCell (by simp) _).setCell (by simp) _).setCell (by simp) _).setCell (by simp) _, ?_, ?_⟩ <;> rw [World.cell?_setCell_other _ _ _ _ (by simp; try omega), World.cell?_setCell_other _ _ _ _ (by simp; try omega), World.cell?_setCell_other _ _ _ _ (by simp; try omega), World.cell?_setCell_other _ _ _ _ (by simp; try omega), World.cell?_setCell_other _ _ _ _ (by simp; try omega), World.cell?_setCell_other _ _ _ _ (by simp; try omega), World.cell?_setCell_other _ _ _ _ (by simp; try omega)] <;> assumption
 have HB := Lib.hid hb
 have HX := Lib.hid hWx
 have HZ := Lib.hid hz
 have HRE : Hid (∃ rr, rr = if pos then relM r else cmpl (relM r)) := Lib.hid ⟨_, rfl⟩
 obtain ⟨rr, hrr⟩ := HRE.out
 clear hb hb1 hx0 hWx hz hp hl hn ha hx hy hwl hwk HRE hpl hpk
 rw [show matF (.atom l r k) pos s = (mxAt (if pos then relM r else cmpl (relM r)) ((polF s.lev l).add (polF s.lev k).opp), s) from rfl, ← hrr]
 have HRR := Lib.hid hrr
 clear hrr
 generalize polF s.lev l = p at *
 generalize polF s.lev k = q at *
 go_enter Tryz.func49, Tryz.ntmps49
 go_wp2_with fail
 clear hW
 refine (prel_any r W1).mono ?_
 rintro e w1 ⟨rfl, rfl⟩
 clear d1
 generalize relM r = rm at *
 have HR1 : Hid (pos = false → cmpl rm = rr) := Lib.hid (fun e => by rw [HRR.out, e]; rfl)
 have HR2 : Hid (pos = true → rm = rr) := Lib.hid (fun e => by rw [HRR.out, e]; rfl)
 clear HRR
 cases pos
 all_goals
  go_wp2_with fail
  first
   | (refine (compl_any rm w1).mono ?_
      rintro e w0' ⟨rfl, hw⟩
      have hw2 := hw.symm
      subst hw2
      rw [HR1.out (by first | rfl | trivial)]
      go_wp2_with fail)
   | (rw [HR2.out (by first | rfl | trivial)])
  have yy0 : Ext w1 w1.drew := (Ext.refl w1).drew
  have Y0 := Lib.hid yy0
  clear yy0 HR1 HR2
  go_region_held3 (fun W' => Ext W W' ∧ W'.cell? ⟨W.heap.size + 1, 0, none⟩ = some (.iface Tf x) ∧ W'.cell? ⟨W.heap.size + 1, 2, none⟩ = some (.iface Tg y))
   (first | with_reducible exact HS.out _ Y0.out | with_reducible exact HS.out _ yy1 | with_reducible exact HS.out _ yy2 | with_reducible exact HS.out _ yy3 | with_reducible exact HS2.out _ _ _ _ _ _ _ _ yy3 _ rfl)
   (first
     | (go_at_call 59
        (fail_if_success have _ := yy1)
        refine (HA.out _ Y0.out).mono ?_
        rintro e w1' ⟨z1, rfl, m1, x1⟩
        obtain ⟨C1, i1, j1, D1, k1, rfl, -⟩ := id m1.open_
        have yy1 : Ext w1 w1' := Ext.trans Y0.out x1
        unfold plV)
     | (go_at_call 59
        refine (HC.out _ yy1).mono ?_
        rintro e w2 ⟨z2, rfl, m2, x2⟩
        obtain ⟨C2, i2, j2, D2, k2, rfl, -⟩ := id m2.open_
        have yy2 : Ext w1 w2 := Ext.trans yy1 x2
        replace m1 := m1.ext x2
        unfold plV)
     | (go_at_call 107
        refine (cSub_any _ _ m1 m2 HFA.out HFC.out (by omega) (by omega)).mono ?_
        rintro e w3 ⟨z3, rfl, m3, x3⟩
        obtain ⟨C3, i3, j3, D3, k3, rfl, -⟩ := id m3.open_
        have yy3 : Ext w1 w3 := Ext.trans yy2 x3
        obtain ⟨⟨r0, r1, r2, r3, r4, r5, r6⟩, rf⟩ := HZ.out.ext yy3 (by omega)
        unfold plV))
  all_goals
   have hzn := HZ.out.ext yy3 (by omega)
   have hsn := (yy2 : Ext w1 _).size
   have HF := Lib.hid (close_mat (BMut.of_ext (HX.out.trans yy3)) (Nat.le_refl _) (fun ho => by have := (HB.out.own_ ho).1; omega) hzn (HB.out.ext (HX.out.trans yy3)) (MxV.mk (t := .mk 2 rr (p.add q.opp) []) (K := none) (c := 0) m3 (by simp [Mx.ks]) (by omega) (by unfold Mx.ks MxsAt; trivial)) (fun b _ hb => ⟨by omega, by omega, fun ho => by have := (HB.out.own_ ho).1; omega⟩))
   clear m1 m2 m3 x1 x2 x3 yy1 yy2 yy3 HS HS2 HZ HB HX HA HC hzn
   simp only [Mx.kind, Mx.rel, Mx.p, Pl.zero, Pl.lv, Pl.neg] at r0 r1 r2 r3
   try unfold plV
   generalize p.add q.opp = P at *
   go_wp2_with fail
   exact bodyPost_ret (v := mxV (.mk 2 rr P []) (.slice C3 i3 j3) (.slice D3 P.cs.length k3) (.slice none 0 0)) (by simp [results, Tryz.results49, go_sem, r0, r1, r2, r3, r4, r5, r6, mxV, Mx.kind, Mx.rel, Mx.p]) rfl HF.out
def Fm.terms (P : Tm → Prop) : Fm → Prop
 | .truth _ => True
 | .atom l _ k => P l ∧ P k
 | .not f => f.terms P
 | .and f g => f.terms P ∧ g.terms P
 | .or f g => f.terms P ∧ g.terms P
 | .imp f g => f.terms P ∧ g.terms P
 | .iff f g => f.terms P ∧ g.terms P
 | .quant _ _ f => f.terms P
theorem matrix_any {P : Tm → Prop} (HP : ∀ t, P t → ∀ g, PolyIH w0 L gb bl g t) (hlo : w0.heap.size ≤ gb ∧ w0.heap.size ≤ bl ∧ w0.heap.size ≤ bt ∧ w0.heap.size ≤ base) (f : Fm) (hf : f.terms P) : MatIH w0 L base gb bl bt f := by
 induction f with
 | truth b => exact mat_truth
 | atom l r k => exact mat_atom (HP l hf.1) (HP k hf.2)
 | not f ih => exact mat_not (ih hf)
 | and f g ihf ihg => exact mat_and hlo (ihf hf.1) (ihg hf.2)
 | or f g ihf ihg => exact mat_or hlo (ihf hf.1) (ihg hf.2)
 | imp f g ihf ihg => exact mat_imp hlo (ihf hf.1) (ihg hf.2)
 | iff f g _ _ => intro v W own s tk pos _ _ hp; cases hp
 | quant a nm f ih => exact mat_quant hlo (ih hf)
end
end Go.Proofs.YtkbpnppiadaibaaGreatDoor
