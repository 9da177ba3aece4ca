/- Layer 34: formula.OfTerm, formula.Of: the term, the formula of a tree. -/
import Derived.Test.YtkbpnppiadaibaaGreatDoorMt11
import Derived.Test.YtkbpnppiadaibaaGreatDoorDeg
import Derived.Test.YtkbpnppiadaibaaGreatDoorMt36
set_option linter.unusedSimpArgs false
set_option linter.unusedVariables false

set_option maxRecDepth 100000
set_option maxHeartbeats 8000000
namespace Go.Proofs.YtkbpnppiadaibaaGreatDoor
open Go.RowKit
attribute [local go_sem] as_Num as_Name as_Add as_Sub as_Mul as_Neg as_Pow as_Truth as_Atom as_Not as_And as_Or as_Implies as_Iff as_Quant
def IsTm (L : Nat) : Tm → Tr → Prop
 | .num z, t => t.d.kind = 1 ∧ t.ks = [] ∧ z = sgn t.d.neg (val t.d.ds) ∧ t.d.ds.length ≤ L
 | .name s, t => t.d.kind = 2 ∧ t.ks = [] ∧ t.d.name = s
 | .add a b, t => t.d.kind = 3 ∧ ∃ x y, t.ks = [x, y] ∧ IsTm L a x ∧ IsTm L b y
 | .sub a b, t => t.d.kind = 4 ∧ ∃ x y, t.ks = [x, y] ∧ IsTm L a x ∧ IsTm L b y
 | .mul a b, t => t.d.kind = 5 ∧ ∃ x y, t.ks = [x, y] ∧ IsTm L a x ∧ IsTm L b y
 | .neg a, t => t.d.kind = 6 ∧ ∃ x, t.ks = [x] ∧ IsTm L a x
 | .pow a e, t => t.d.kind = 7 ∧ t.d.exp = e ∧ 0 ≤ e ∧ ∃ x, t.ks = [x] ∧ IsTm L a x
def RetTm (L : Nat) (m : Tm) (w : World) (e : Ending) (w' : World) : Prop := ∃ v, e = .returned (.tuple #[v, .int .i64 0]) ∧ TmV w' L m v ∧ Ext w w'
theorem TmV.box {w : World} {L : Nat} {a : Addr} {u : Value} (ha : w.cell? a = some u) (hu : isDig u = false) (u' : Value) {t : Tm} {v : Value} (h : TmV w L t v) : TmV (w.setCell a u') L t v := by
 induction t generalizing v with
 | num z => obtain ⟨x, e, h⟩ := h; exact ⟨x, e, h.box ha hu u'⟩
 | name s => exact h
 | add a b iha ihb => obtain ⟨x, y, e, h, k⟩ := h; exact ⟨x, y, e, iha h, ihb k⟩
 | sub a b iha ihb => obtain ⟨x, y, e, h, k⟩ := h; exact ⟨x, y, e, iha h, ihb k⟩
 | mul a b iha ihb => obtain ⟨x, y, e, h, k⟩ := h; exact ⟨x, y, e, iha h, ihb k⟩
 | neg a iha => obtain ⟨x, e, h⟩ := h; exact ⟨x, e, iha h⟩
 | pow a n iha => obtain ⟨x, e, h⟩ := h; exact ⟨x, e, iha h⟩
def isIf : Value → Bool
 | .iface _ _ => true
 | .nilIface => true
 | _ => false
theorem isIf_dig {u : Value} (h : isIf u = true) : isDig u = false := by cases u <;> simp_all [isIf, isDig]
def PartsInv (L : Nat) (w : World) (g g' : Nat) (o : Obj) (xs : List Tm) (k : Nat) (wr : World) : Prop :=
 Ext w wr ∧ wr.heap[g']? = some o ∧ ∃ u0 u1, wr.heap[g]? = some (.cells #[u0, u1] 117 (0, 0)) ∧ isIf u0 = true ∧ isIf u1 = true ∧ (∀ x, 0 < k → xs[0]? = some x → TmV wr L x u0) ∧ (∀ x, 1 < k → xs[1]? = some x → TmV wr L x u1)
theorem PartsInv.cell {L : Nat} {w : World} {g g' : Nat} {o : Obj} {xs : List Tm} {k : Nat} {wr : World} (h : PartsInv L w g g' o xs k wr) (j : Nat) (hj : j < 2) : ∃ u, wr.cell? ⟨g, j, none⟩ = some u ∧ isIf u = true ∧ wr.frozen? ⟨g, j, none⟩ = false := by
 obtain ⟨-, -, u0, u1, h1, h2, h3, -⟩ := h
 rcases (show j = 0 ∨ j = 1 by omega) with rfl | rfl
 · exact ⟨u0, by simp [World.cell?, h1], h2, by simp [World.frozen?, h1]⟩
 · exact ⟨u1, by simp [World.cell?, h1], h3, by simp [World.frozen?, h1]⟩
theorem PartsInv.ext {L : Nat} {w : World} {g g' : Nat} {o : Obj} {xs : List Tm} {k : Nat} {wr w' : World} (h : PartsInv L w g g' o xs k wr) (hx : Ext wr w') : PartsInv L w g g' o xs k w' := by
 obtain ⟨h0, h0', u0, u1, h1, h2, h3, h4, h5⟩ := h
 have lt : ∀ {i : Nat} {o : Obj}, wr.heap[i]? = some o → i < wr.heap.size := fun {i o} h => (Array.getElem?_eq_some_iff.1 h).1
 exact ⟨h0.trans hx, (hx.below.block _ (lt h0')).trans h0', u0, u1, (hx.below.block _ (lt h1)).trans h1, h2, h3, fun x hk hxs => (h4 x hk hxs).ext hx, fun x hk hxs => (h5 x hk hxs).ext hx⟩
theorem PartsInv.put {L : Nat} {w : World} {g g' : Nat} {o : Obj} {xs : List Tm} {k : Nat} {wr : World} (h : PartsInv L w g g' o xs k wr) (hk : k < 2) (hg : w.heap.size ≤ g) (hne : g' ≠ g) {u : Value} (hu : isIf u = true) (hx : ∀ x, xs[k]? = some x → TmV wr L x u) :
 PartsInv L w g g' o xs (k + 1) (wr.setCell ⟨g, k, none⟩ u) := by
 obtain ⟨uk, ck, ik, -⟩ := h.cell k hk
 obtain ⟨h0, h0', u0, u1, h1, h2, h3, h4, h5⟩ := h
 have bx : ∀ {x v}, TmV wr L x v → TmV (wr.setCell ⟨g, k, none⟩ u) L x v := fun {x v} hv => hv.box ck (isIf_dig ik) u
 refine ⟨h0.setCell hg _, (Below.heap_setCell wr ⟨g, k, none⟩ u g' hne).trans h0', ?_⟩
 have hs : ∀ c : Array Value, wr.heap[g]? = some (.cells c 117 (0, 0)) → (wr.setCell ⟨g, k, none⟩ u).heap[g]? = some (.cells (c.setIfInBounds k u) 117 (0, 0)) := fun c hc => by
  simp [World.setCell, Array.getElem?_modify, hc]
 rcases (show k = 0 ∨ k = 1 by omega) with rfl | rfl
 · exact ⟨u, u1, by rw [hs _ h1]; rfl, hu, h3, fun x _ hxs => bx (hx x hxs), fun x hk => absurd hk (by omega)⟩
 · exact ⟨u0, u, by rw [hs _ h1]; rfl, h2, hu, fun x _ hxs => bx (h4 x (by omega) hxs), fun x _ hxs => bx (hx x hxs)⟩
def OfTIH (L n : Nat) : Prop := ∀ (m : Tm) (t : Tr), m.sz < n → IsTm L m t → ∀ (v : Value) (w : World), TrV w (fun _ => True) t v → Calls Tryz.prog 20 #[v] w (RetTm L m w)
theorem oft_add {L n : Nat} (ih : OfTIH L n) {a b : Tm} (t : Tr) (hsz : (Tm.add a b).sz < n + 1) (h : IsTm L (.add a b) t) (v : Value) (w : World) (hv : TrV w (fun _ => True) t v) : Calls Tryz.prog 20 #[v] w (RetTm L (.add a b) w) := by
 have IH := Lib.hid ih
 clear ih
 obtain ⟨⟨kind, neg, ds, name, exp, rel, truth, all⟩, ks⟩ := t
 obtain ⟨hkind, t0, t1, hks, h0, h1⟩ := h
 simp only [Tr.d] at hkind
 simp only [Tr.ks] at hks
 subst hkind hks
 obtain ⟨A0, n0, c0, A, c, rfl, hnat, hc1, hc2, hat⟩ := hv.open_
 change TrsAt w _ [t0, t1] A 0 at hat
 have HAT := Lib.hid hat
 clear hv hat hnat
 unfold ndV
 simp only [Tr.d, Tr.ks, List.length_cons, List.length_nil, Nat.zero_add, Nat.reduceAdd] at hc1 ⊢
 have HIS : Hid (∀ i (hi : i < 2), IsTm L ([a, b][i]'(by simpa using hi)) ([t0, t1][i]'(by simpa using hi))) := by
  intro i hi
  rcases (show i = 0 ∨ i = 1 by omega) with rfl | rfl
  · exact h0
  · exact h1
 clear h0 h1
 have hsz' : ∀ i (hi : i < 2), ([a, b][i]'(by simpa using hi)).sz < n := by
  intro i hi
  simp only [Tm.sz] at hsz
  rcases (show i = 0 ∨ i = 1 by omega) with rfl | rfl <;> simp <;> omega
 have HSZ := Lib.hid hsz'
 clear hsz'
 go_enter Tryz.func20, Tryz.ntmps20
 go_wp2_with fail
 go_loopw [40] (fun iv wr => ∃ k : Nat, k ≤ 2 ∧ iv = .int .i64 k ∧ Hid (PartsInv L w (w.heap.size + 1) w.heap.size (.cells #[.int .i64 3, .bool neg, .slice A0 n0 c0, .string name, .int .i64 exp, .int .i64 rel, .bool truth, .bool all, .slice A 2 c] 29) [a, b] k wr)) (fun iv _ => 2 - (intOf iv).toNat)
 case atStart =>
  refine ⟨0, by omega, rfl, ⟨((Ext.refl w).alloc _).alloc _, ?_, .nilIface, .nilIface, ?_, rfl, rfl, fun x hk => absurd hk (by omega), fun x hk => absurd hk (by omega)⟩⟩
  · rw [Below.heap_alloc _ _ _ (by simp)]; exact heap_alloc_new w _
  · have := heap_alloc_new (w.alloc (.cells #[.int .i64 3, .bool neg, .slice A0 n0 c0, .string name, .int .i64 exp, .int .i64 rel, .bool truth, .bool all, .slice A 2 c] 29)) (.cells #[.nilIface, .nilIface] 117)
    rwa [World.size_alloc] at this
 case round =>
  obtain ⟨k, hk, rfl, hinv⟩ := hrel
  have HINV := Lib.hid hinv
  have hwx := hinv.1
  have hat2 := HAT.out.ext hwx
  have hb8 := hinv.2.1
  clear hinv
  by_cases hlt : k < 2
  · obtain ⟨ad, B0, m0, d0, B1, m1, d1, rfl, hadb, ⟨e0, e1, e2, e3, e4, e5, e6, e7, e8⟩, hkt⟩ := hat2.kid k (by simpa using hlt)
    have HKT := Lib.hid hkt
    clear hkt hat2 hb8 hwx
    have hisk := HIS.out k hlt
    have hszk := HSZ.out k hlt
    have HISK := Lib.hid hisk
    have HXK : Hid (∃ x, [a, b][k]? = some x ∧ IsTm L x ([t0, t1][k]'(by simpa using hlt)) ∧ x.sz < n) := ⟨_, List.getElem?_eq_getElem (by simpa using hlt), hisk, hszk⟩
    clear hisk hszk HISK
    generalize ([t0, t1][k]'(by simpa using hlt)) = tk at *
    obtain ⟨x, hxk, hisx, hszx⟩ := HXK
    have HXK := Lib.hid hxk
    have HISX := Lib.hid hisx
    clear hxk hisx
    go_wp2_with fail
    refine (IH.out x tk hszx HISX.out _ _ (HKT.out.ext ((Ext.refl wr).alloc _))).mono ?_
    rintro e w2 ⟨v2, rfl, htm, hx2⟩
    have hinv2 := HINV.out.ext (((Ext.refl wr).alloc _).trans hx2)
    obtain ⟨T2, u2, rfl⟩ := htm.iface
    obtain ⟨uk, ck, ik, fk⟩ := hinv2.cell k (by omega)
    have HNEXT := Lib.hid (hinv2.put (u := .iface T2 u2) (by omega) (by omega) (by omega) rfl (fun y hy => by rw [HXK.out] at hy; injection hy with hy; subst hy; exact htm))
    clear hinv2 htm hx2 e0 e1 e2 e3 e4 e5 e6 e7 e8
    go_wp2_with fail
    go_roundw
    case rel => exact ⟨k + 1, by omega, by go_num, HNEXT⟩
    case measure => simp [intOf]; omega
  · clear hat2 hwx
    have hk2 : 2 ≤ k := by omega
    obtain ⟨hwx, -, u0, u1, hpar, i0, i1, p0, p1⟩ := HINV.out
    have c0 : wr.cell? ⟨w.heap.size, 0, none⟩ = some (.int .i64 3) := by simp [World.cell?, hb8]
    have c4 : wr.cell? ⟨w.heap.size, 4, none⟩ = some (.int .i64 exp) := by simp [World.cell?, hb8]
    have q0 : wr.cell? ⟨w.heap.size + 1, 0, none⟩ = some u0 := by simp [World.cell?, hpar]
    have q1 : wr.cell? ⟨w.heap.size + 1, 1, none⟩ = some u1 := by simp [World.cell?, hpar]
    have f0 := p0 a (by omega) rfl
    obtain ⟨T0, u0, rfl⟩ := f0.iface
    have f1 := p1 b (by omega) rfl
    obtain ⟨T1, u1, rfl⟩ := f1.iface
    have HFIN : Hid (TmV wr L (.add a b) (.iface 126 (.agg #[.iface T0 u0, .iface T1 u1]))) := ⟨_, _, rfl, f0, f1⟩
    clear f0 f1
    have HWX := Lib.hid hwx
    clear hb8 hpar hwx HINV i0 i1 p0 p1
    go_wp2_with fail
    go_ret2
    exact ⟨_, rfl, HFIN.out, HWX.out⟩
theorem oft_sub {L n : Nat} (ih : OfTIH L n) {a b : Tm} (t : Tr) (hsz : (Tm.sub a b).sz < n + 1) (h : IsTm L (.sub a b) t) (v : Value) (w : World) (hv : TrV w (fun _ => True) t v) : Calls Tryz.prog 20 #[v] w (RetTm L (.sub a b) w) := by
 have IH := Lib.hid ih
 clear ih
 obtain ⟨⟨kind, neg, ds, name, exp, rel, truth, all⟩, ks⟩ := t
 obtain ⟨hkind, t0, t1, hks, h0, h1⟩ := h
 simp only [Tr.d] at hkind
 simp only [Tr.ks] at hks
 subst hkind hks
 obtain ⟨A0, n0, c0, A, c, rfl, hnat, hc1, hc2, hat⟩ := hv.open_
 change TrsAt w _ [t0, t1] A 0 at hat
 have HAT := Lib.hid hat
 clear hv hat hnat
 unfold ndV
 simp only [Tr.d, Tr.ks, List.length_cons, List.length_nil, Nat.zero_add, Nat.reduceAdd] at hc1 ⊢
 have HIS : Hid (∀ i (hi : i < 2), IsTm L ([a, b][i]'(by simpa using hi)) ([t0, t1][i]'(by simpa using hi))) := by
  intro i hi
  rcases (show i = 0 ∨ i = 1 by omega) with rfl | rfl
  · exact h0
  · exact h1
 clear h0 h1
 have hsz' : ∀ i (hi : i < 2), ([a, b][i]'(by simpa using hi)).sz < n := by
  intro i hi
  simp only [Tm.sz] at hsz
  rcases (show i = 0 ∨ i = 1 by omega) with rfl | rfl <;> simp <;> omega
 have HSZ := Lib.hid hsz'
 clear hsz'
 go_enter Tryz.func20, Tryz.ntmps20
 go_wp2_with fail
 go_loopw [40] (fun iv wr => ∃ k : Nat, k ≤ 2 ∧ iv = .int .i64 k ∧ Hid (PartsInv L w (w.heap.size + 1) w.heap.size (.cells #[.int .i64 4, .bool neg, .slice A0 n0 c0, .string name, .int .i64 exp, .int .i64 rel, .bool truth, .bool all, .slice A 2 c] 29) [a, b] k wr)) (fun iv _ => 2 - (intOf iv).toNat)
 case atStart =>
  refine ⟨0, by omega, rfl, ⟨((Ext.refl w).alloc _).alloc _, ?_, .nilIface, .nilIface, ?_, rfl, rfl, fun x hk => absurd hk (by omega), fun x hk => absurd hk (by omega)⟩⟩
  · rw [Below.heap_alloc _ _ _ (by simp)]; exact heap_alloc_new w _
  · have := heap_alloc_new (w.alloc (.cells #[.int .i64 4, .bool neg, .slice A0 n0 c0, .string name, .int .i64 exp, .int .i64 rel, .bool truth, .bool all, .slice A 2 c] 29)) (.cells #[.nilIface, .nilIface] 117)
    rwa [World.size_alloc] at this
 case round =>
  obtain ⟨k, hk, rfl, hinv⟩ := hrel
  have HINV := Lib.hid hinv
  have hwx := hinv.1
  have hat2 := HAT.out.ext hwx
  have hb8 := hinv.2.1
  clear hinv
  by_cases hlt : k < 2
  · obtain ⟨ad, B0, m0, d0, B1, m1, d1, rfl, hadb, ⟨e0, e1, e2, e3, e4, e5, e6, e7, e8⟩, hkt⟩ := hat2.kid k (by simpa using hlt)
    have HKT := Lib.hid hkt
    clear hkt hat2 hb8 hwx
    have hisk := HIS.out k hlt
    have hszk := HSZ.out k hlt
    have HISK := Lib.hid hisk
    have HXK : Hid (∃ x, [a, b][k]? = some x ∧ IsTm L x ([t0, t1][k]'(by simpa using hlt)) ∧ x.sz < n) := ⟨_, List.getElem?_eq_getElem (by simpa using hlt), hisk, hszk⟩
    clear hisk hszk HISK
    generalize ([t0, t1][k]'(by simpa using hlt)) = tk at *
    obtain ⟨x, hxk, hisx, hszx⟩ := HXK
    have HXK := Lib.hid hxk
    have HISX := Lib.hid hisx
    clear hxk hisx
    go_wp2_with fail
    refine (IH.out x tk hszx HISX.out _ _ (HKT.out.ext ((Ext.refl wr).alloc _))).mono ?_
    rintro e w2 ⟨v2, rfl, htm, hx2⟩
    have hinv2 := HINV.out.ext (((Ext.refl wr).alloc _).trans hx2)
    obtain ⟨T2, u2, rfl⟩ := htm.iface
    obtain ⟨uk, ck, ik, fk⟩ := hinv2.cell k (by omega)
    have HNEXT := Lib.hid (hinv2.put (u := .iface T2 u2) (by omega) (by omega) (by omega) rfl (fun y hy => by rw [HXK.out] at hy; injection hy with hy; subst hy; exact htm))
    clear hinv2 htm hx2 e0 e1 e2 e3 e4 e5 e6 e7 e8
    go_wp2_with fail
    go_roundw
    case rel => exact ⟨k + 1, by omega, by go_num, HNEXT⟩
    case measure => simp [intOf]; omega
  · clear hat2 hwx
    have hk2 : 2 ≤ k := by omega
    obtain ⟨hwx, -, u0, u1, hpar, i0, i1, p0, p1⟩ := HINV.out
    have c0 : wr.cell? ⟨w.heap.size, 0, none⟩ = some (.int .i64 4) := by simp [World.cell?, hb8]
    have c4 : wr.cell? ⟨w.heap.size, 4, none⟩ = some (.int .i64 exp) := by simp [World.cell?, hb8]
    have q0 : wr.cell? ⟨w.heap.size + 1, 0, none⟩ = some u0 := by simp [World.cell?, hpar]
    have q1 : wr.cell? ⟨w.heap.size + 1, 1, none⟩ = some u1 := by simp [World.cell?, hpar]
    have f0 := p0 a (by omega) rfl
    obtain ⟨T0, u0, rfl⟩ := f0.iface
    have f1 := p1 b (by omega) rfl
    obtain ⟨T1, u1, rfl⟩ := f1.iface
    have HFIN : Hid (TmV wr L (.sub a b) (.iface 127 (.agg #[.iface T0 u0, .iface T1 u1]))) := ⟨_, _, rfl, f0, f1⟩
    clear f0 f1
    have HWX := Lib.hid hwx
    clear hb8 hpar hwx HINV i0 i1 p0 p1
    go_wp2_with fail
    go_ret2
    exact ⟨_, rfl, HFIN.out, HWX.out⟩
theorem oft_mul {L n : Nat} (ih : OfTIH L n) {a b : Tm} (t : Tr) (hsz : (Tm.mul a b).sz < n + 1) (h : IsTm L (.mul a b) t) (v : Value) (w : World) (hv : TrV w (fun _ => True) t v) : Calls Tryz.prog 20 #[v] w (RetTm L (.mul a b) w) := by
 have IH := Lib.hid ih
 clear ih
 obtain ⟨⟨kind, neg, ds, name, exp, rel, truth, all⟩, ks⟩ := t
 obtain ⟨hkind, t0, t1, hks, h0, h1⟩ := h
 simp only [Tr.d] at hkind
 simp only [Tr.ks] at hks
 subst hkind hks
 obtain ⟨A0, n0, c0, A, c, rfl, hnat, hc1, hc2, hat⟩ := hv.open_
 change TrsAt w _ [t0, t1] A 0 at hat
 have HAT := Lib.hid hat
 clear hv hat hnat
 unfold ndV
 simp only [Tr.d, Tr.ks, List.length_cons, List.length_nil, Nat.zero_add, Nat.reduceAdd] at hc1 ⊢
 have HIS : Hid (∀ i (hi : i < 2), IsTm L ([a, b][i]'(by simpa using hi)) ([t0, t1][i]'(by simpa using hi))) := by
  intro i hi
  rcases (show i = 0 ∨ i = 1 by omega) with rfl | rfl
  · exact h0
  · exact h1
 clear h0 h1
 have hsz' : ∀ i (hi : i < 2), ([a, b][i]'(by simpa using hi)).sz < n := by
  intro i hi
  simp only [Tm.sz] at hsz
  rcases (show i = 0 ∨ i = 1 by omega) with rfl | rfl <;> simp <;> omega
 have HSZ := Lib.hid hsz'
 clear hsz'
 go_enter Tryz.func20, Tryz.ntmps20
 go_wp2_with fail
 go_loopw [40] (fun iv wr => ∃ k : Nat, k ≤ 2 ∧ iv = .int .i64 k ∧ Hid (PartsInv L w (w.heap.size + 1) w.heap.size (.cells #[.int .i64 5, .bool neg, .slice A0 n0 c0, .string name, .int .i64 exp, .int .i64 rel, .bool truth, .bool all, .slice A 2 c] 29) [a, b] k wr)) (fun iv _ => 2 - (intOf iv).toNat)
 case atStart =>
  refine ⟨0, by omega, rfl, ⟨((Ext.refl w).alloc _).alloc _, ?_, .nilIface, .nilIface, ?_, rfl, rfl, fun x hk => absurd hk (by omega), fun x hk => absurd hk (by omega)⟩⟩
  · rw [Below.heap_alloc _ _ _ (by simp)]; exact heap_alloc_new w _
  · have := heap_alloc_new (w.alloc (.cells #[.int .i64 5, .bool neg, .slice A0 n0 c0, .string name, .int .i64 exp, .int .i64 rel, .bool truth, .bool all, .slice A 2 c] 29)) (.cells #[.nilIface, .nilIface] 117)
    rwa [World.size_alloc] at this
 case round =>
  obtain ⟨k, hk, rfl, hinv⟩ := hrel
  have HINV := Lib.hid hinv
  have hwx := hinv.1
  have hat2 := HAT.out.ext hwx
  have hb8 := hinv.2.1
  clear hinv
  by_cases hlt : k < 2
  · obtain ⟨ad, B0, m0, d0, B1, m1, d1, rfl, hadb, ⟨e0, e1, e2, e3, e4, e5, e6, e7, e8⟩, hkt⟩ := hat2.kid k (by simpa using hlt)
    have HKT := Lib.hid hkt
    clear hkt hat2 hb8 hwx
    have hisk := HIS.out k hlt
    have hszk := HSZ.out k hlt
    have HISK := Lib.hid hisk
    have HXK : Hid (∃ x, [a, b][k]? = some x ∧ IsTm L x ([t0, t1][k]'(by simpa using hlt)) ∧ x.sz < n) := ⟨_, List.getElem?_eq_getElem (by simpa using hlt), hisk, hszk⟩
    clear hisk hszk HISK
    generalize ([t0, t1][k]'(by simpa using hlt)) = tk at *
    obtain ⟨x, hxk, hisx, hszx⟩ := HXK
    have HXK := Lib.hid hxk
    have HISX := Lib.hid hisx
    clear hxk hisx
    go_wp2_with fail
    refine (IH.out x tk hszx HISX.out _ _ (HKT.out.ext ((Ext.refl wr).alloc _))).mono ?_
    rintro e w2 ⟨v2, rfl, htm, hx2⟩
    have hinv2 := HINV.out.ext (((Ext.refl wr).alloc _).trans hx2)
    obtain ⟨T2, u2, rfl⟩ := htm.iface
    obtain ⟨uk, ck, ik, fk⟩ := hinv2.cell k (by omega)
    have HNEXT := Lib.hid (hinv2.put (u := .iface T2 u2) (by omega) (by omega) (by omega) rfl (fun y hy => by rw [HXK.out] at hy; injection hy with hy; subst hy; exact htm))
    clear hinv2 htm hx2 e0 e1 e2 e3 e4 e5 e6 e7 e8
    go_wp2_with fail
    go_roundw
    case rel => exact ⟨k + 1, by omega, by go_num, HNEXT⟩
    case measure => simp [intOf]; omega
  · clear hat2 hwx
    have hk2 : 2 ≤ k := by omega
    obtain ⟨hwx, -, u0, u1, hpar, i0, i1, p0, p1⟩ := HINV.out
    have c0 : wr.cell? ⟨w.heap.size, 0, none⟩ = some (.int .i64 5) := by simp [World.cell?, hb8]
    have c4 : wr.cell? ⟨w.heap.size, 4, none⟩ = some (.int .i64 exp) := by simp [World.cell?, hb8]
    have q0 : wr.cell? ⟨w.heap.size + 1, 0, none⟩ = some u0 := by simp [World.cell?, hpar]
    have q1 : wr.cell? ⟨w.heap.size + 1, 1, none⟩ = some u1 := by simp [World.cell?, hpar]
    have f0 := p0 a (by omega) rfl
    obtain ⟨T0, u0, rfl⟩ := f0.iface
    have f1 := p1 b (by omega) rfl
    obtain ⟨T1, u1, rfl⟩ := f1.iface
    have HFIN : Hid (TmV wr L (.mul a b) (.iface 128 (.agg #[.iface T0 u0, .iface T1 u1]))) := ⟨_, _, rfl, f0, f1⟩
    clear f0 f1
    have HWX := Lib.hid hwx
    clear hb8 hpar hwx HINV i0 i1 p0 p1
    go_wp2_with fail
    go_ret2
    exact ⟨_, rfl, HFIN.out, HWX.out⟩
theorem oft_neg {L n : Nat} (ih : OfTIH L n) {a : Tm} (t : Tr) (hsz : (Tm.neg a).sz < n + 1) (h : IsTm L (.neg a) t) (v : Value) (w : World) (hv : TrV w (fun _ => True) t v) : Calls Tryz.prog 20 #[v] w (RetTm L (.neg a) w) := by
 have IH := Lib.hid ih
 clear ih
 obtain ⟨⟨kind, neg, ds, name, exp, rel, truth, all⟩, ks⟩ := t
 obtain ⟨hkind, t0, hks, h0⟩ := h
 simp only [Tr.d] at hkind
 simp only [Tr.ks] at hks
 subst hkind hks
 obtain ⟨A0, n0, c0, A, c, rfl, hnat, hc1, hc2, hat⟩ := hv.open_
 change TrsAt w _ [t0] A 0 at hat
 have HAT := Lib.hid hat
 clear hv hat hnat
 unfold ndV
 simp only [Tr.d, Tr.ks, List.length_cons, List.length_nil, Nat.zero_add, Nat.reduceAdd] at hc1 ⊢
 have HIS : Hid (∀ i (hi : i < 1), IsTm L ([a][i]'(by simpa using hi)) ([t0][i]'(by simpa using hi))) := by
  intro i hi
  obtain rfl : i = 0 := by omega
  exact h0
 clear h0
 have hsz' : ∀ i (hi : i < 1), ([a][i]'(by simpa using hi)).sz < n := by
  intro i hi
  simp only [Tm.sz] at hsz
  obtain rfl : i = 0 := by omega
  simp; omega
 have HSZ := Lib.hid hsz'
 clear hsz'
 go_enter Tryz.func20, Tryz.ntmps20
 go_wp2_with fail
 go_loopw [40] (fun iv wr => ∃ k : Nat, k ≤ 1 ∧ iv = .int .i64 k ∧ Hid (PartsInv L w (w.heap.size + 1) w.heap.size (.cells #[.int .i64 6, .bool neg, .slice A0 n0 c0, .string name, .int .i64 exp, .int .i64 rel, .bool truth, .bool all, .slice A 1 c] 29) [a] k wr)) (fun iv _ => 1 - (intOf iv).toNat)
 case atStart =>
  refine ⟨0, by omega, rfl, ⟨((Ext.refl w).alloc _).alloc _, ?_, .nilIface, .nilIface, ?_, rfl, rfl, fun x hk => absurd hk (by omega), fun x hk => absurd hk (by omega)⟩⟩
  · rw [Below.heap_alloc _ _ _ (by simp)]; exact heap_alloc_new w _
  · have := heap_alloc_new (w.alloc (.cells #[.int .i64 6, .bool neg, .slice A0 n0 c0, .string name, .int .i64 exp, .int .i64 rel, .bool truth, .bool all, .slice A 1 c] 29)) (.cells #[.nilIface, .nilIface] 117)
    rwa [World.size_alloc] at this
 case round =>
  obtain ⟨k, hk, rfl, hinv⟩ := hrel
  have HINV := Lib.hid hinv
  have hwx := hinv.1
  have hat2 := HAT.out.ext hwx
  have hb8 := hinv.2.1
  clear hinv
  by_cases hlt : k < 1
  · obtain ⟨ad, B0, m0, d0, B1, m1, d1, rfl, hadb, ⟨e0, e1, e2, e3, e4, e5, e6, e7, e8⟩, hkt⟩ := hat2.kid k (by simpa using hlt)
    have HKT := Lib.hid hkt
    clear hkt hat2 hb8 hwx
    have hisk := HIS.out k hlt
    have hszk := HSZ.out k hlt
    have HISK := Lib.hid hisk
    have HXK : Hid (∃ x, [a][k]? = some x ∧ IsTm L x ([t0][k]'(by simpa using hlt)) ∧ x.sz < n) := ⟨_, List.getElem?_eq_getElem (by simpa using hlt), hisk, hszk⟩
    clear hisk hszk HISK
    generalize ([t0][k]'(by simpa using hlt)) = tk at *
    obtain ⟨x, hxk, hisx, hszx⟩ := HXK
    have HXK := Lib.hid hxk
    have HISX := Lib.hid hisx
    clear hxk hisx
    go_wp2_with fail
    refine (IH.out x tk hszx HISX.out _ _ (HKT.out.ext ((Ext.refl wr).alloc _))).mono ?_
    rintro e w2 ⟨v2, rfl, htm, hx2⟩
    have hinv2 := HINV.out.ext (((Ext.refl wr).alloc _).trans hx2)
    obtain ⟨T2, u2, rfl⟩ := htm.iface
    obtain ⟨uk, ck, ik, fk⟩ := hinv2.cell k (by omega)
    have HNEXT := Lib.hid (hinv2.put (u := .iface T2 u2) (by omega) (by omega) (by omega) rfl (fun y hy => by rw [HXK.out] at hy; injection hy with hy; subst hy; exact htm))
    clear hinv2 htm hx2 e0 e1 e2 e3 e4 e5 e6 e7 e8
    go_wp2_with fail
    go_roundw
    case rel => exact ⟨k + 1, by omega, by go_num, HNEXT⟩
    case measure => simp [intOf]; omega
  · clear hat2 hwx
    have hk2 : 1 ≤ k := by omega
    obtain ⟨hwx, -, u0, u1, hpar, i0, i1, p0, p1⟩ := HINV.out
    have c0 : wr.cell? ⟨w.heap.size, 0, none⟩ = some (.int .i64 6) := by simp [World.cell?, hb8]
    have c4 : wr.cell? ⟨w.heap.size, 4, none⟩ = some (.int .i64 exp) := by simp [World.cell?, hb8]
    have q0 : wr.cell? ⟨w.heap.size + 1, 0, none⟩ = some u0 := by simp [World.cell?, hpar]
    have q1 : wr.cell? ⟨w.heap.size + 1, 1, none⟩ = some u1 := by simp [World.cell?, hpar]
    have f0 := p0 a (by omega) rfl
    obtain ⟨T0, u0, rfl⟩ := f0.iface
    have HFIN : Hid (TmV wr L (.neg a) (.iface 122 (.agg #[.iface T0 u0]))) := ⟨_, rfl, f0⟩
    clear f0
    have HWX := Lib.hid hwx
    clear hb8 hpar hwx HINV i0 i1 p0 p1
    go_wp2_with fail
    go_ret2
    exact ⟨_, rfl, HFIN.out, HWX.out⟩
theorem oft_pow {L n : Nat} (ih : OfTIH L n) {a : Tm} {ex : Int} (t : Tr) (hsz : (Tm.pow a ex).sz < n + 1) (h : IsTm L (.pow a ex) t) (v : Value) (w : World) (hv : TrV w (fun _ => True) t v) : Calls Tryz.prog 20 #[v] w (RetTm L (.pow a ex) w) := by
 have IH := Lib.hid ih
 clear ih
 obtain ⟨⟨kind, neg, ds, name, exp, rel, truth, all⟩, ks⟩ := t
 obtain ⟨hkind, hexp, hpos, t0, hks, h0⟩ := h
 simp only [Tr.d] at hexp
 subst hexp
 have hpd : decide (exp < 0) = false := by simpa using hpos
 simp only [Tr.d] at hkind
 simp only [Tr.ks] at hks
 subst hkind hks
 obtain ⟨A0, n0, c0, A, c, rfl, hnat, hc1, hc2, hat⟩ := hv.open_
 change TrsAt w _ [t0] A 0 at hat
 have HAT := Lib.hid hat
 clear hv hat hnat
 unfold ndV
 simp only [Tr.d, Tr.ks, List.length_cons, List.length_nil, Nat.zero_add, Nat.reduceAdd] at hc1 ⊢
 have HIS : Hid (∀ i (hi : i < 1), IsTm L ([a][i]'(by simpa using hi)) ([t0][i]'(by simpa using hi))) := by
  intro i hi
  obtain rfl : i = 0 := by omega
  exact h0
 clear h0
 have hsz' : ∀ i (hi : i < 1), ([a][i]'(by simpa using hi)).sz < n := by
  intro i hi
  simp only [Tm.sz] at hsz
  obtain rfl : i = 0 := by omega
  simp; omega
 have HSZ := Lib.hid hsz'
 clear hsz'
 go_enter Tryz.func20, Tryz.ntmps20
 go_wp2_with fail
 go_loopw [40] (fun iv wr => ∃ k : Nat, k ≤ 1 ∧ iv = .int .i64 k ∧ Hid (PartsInv L w (w.heap.size + 1) w.heap.size (.cells #[.int .i64 7, .bool neg, .slice A0 n0 c0, .string name, .int .i64 exp, .int .i64 rel, .bool truth, .bool all, .slice A 1 c] 29) [a] k wr)) (fun iv _ => 1 - (intOf iv).toNat)
 case atStart =>
  refine ⟨0, by omega, rfl, ⟨((Ext.refl w).alloc _).alloc _, ?_, .nilIface, .nilIface, ?_, rfl, rfl, fun x hk => absurd hk (by omega), fun x hk => absurd hk (by omega)⟩⟩
  · rw [Below.heap_alloc _ _ _ (by simp)]; exact heap_alloc_new w _
  · have := heap_alloc_new (w.alloc (.cells #[.int .i64 7, .bool neg, .slice A0 n0 c0, .string name, .int .i64 exp, .int .i64 rel, .bool truth, .bool all, .slice A 1 c] 29)) (.cells #[.nilIface, .nilIface] 117)
    rwa [World.size_alloc] at this
 case round =>
  obtain ⟨k, hk, rfl, hinv⟩ := hrel
  have HINV := Lib.hid hinv
  have hwx := hinv.1
  have hat2 := HAT.out.ext hwx
  have hb8 := hinv.2.1
  clear hinv
  by_cases hlt : k < 1
  · obtain ⟨ad, B0, m0, d0, B1, m1, d1, rfl, hadb, ⟨e0, e1, e2, e3, e4, e5, e6, e7, e8⟩, hkt⟩ := hat2.kid k (by simpa using hlt)
    have HKT := Lib.hid hkt
    clear hkt hat2 hb8 hwx
    have hisk := HIS.out k hlt
    have hszk := HSZ.out k hlt
    have HISK := Lib.hid hisk
    have HXK : Hid (∃ x, [a][k]? = some x ∧ IsTm L x ([t0][k]'(by simpa using hlt)) ∧ x.sz < n) := ⟨_, List.getElem?_eq_getElem (by simpa using hlt), hisk, hszk⟩
    clear hisk hszk HISK
    generalize ([t0][k]'(by simpa using hlt)) = tk at *
    obtain ⟨x, hxk, hisx, hszx⟩ := HXK
    have HXK := Lib.hid hxk
    have HISX := Lib.hid hisx
    clear hxk hisx
    go_wp2_with fail
    refine (IH.out x tk hszx HISX.out _ _ (HKT.out.ext ((Ext.refl wr).alloc _))).mono ?_
    rintro e w2 ⟨v2, rfl, htm, hx2⟩
    have hinv2 := HINV.out.ext (((Ext.refl wr).alloc _).trans hx2)
    obtain ⟨T2, u2, rfl⟩ := htm.iface
    obtain ⟨uk, ck, ik, fk⟩ := hinv2.cell k (by omega)
    have HNEXT := Lib.hid (hinv2.put (u := .iface T2 u2) (by omega) (by omega) (by omega) rfl (fun y hy => by rw [HXK.out] at hy; injection hy with hy; subst hy; exact htm))
    clear hinv2 htm hx2 e0 e1 e2 e3 e4 e5 e6 e7 e8
    go_wp2_with fail
    go_roundw
    case rel => exact ⟨k + 1, by omega, by go_num, HNEXT⟩
    case measure => simp [intOf]; omega
  · clear hat2 hwx
    have hk2 : 1 ≤ k := by omega
    obtain ⟨hwx, -, u0, u1, hpar, i0, i1, p0, p1⟩ := HINV.out
    have c0 : wr.cell? ⟨w.heap.size, 0, none⟩ = some (.int .i64 7) := by simp [World.cell?, hb8]
    have c4 : wr.cell? ⟨w.heap.size, 4, none⟩ = some (.int .i64 exp) := by simp [World.cell?, hb8]
    have q0 : wr.cell? ⟨w.heap.size + 1, 0, none⟩ = some u0 := by simp [World.cell?, hpar]
    have q1 : wr.cell? ⟨w.heap.size + 1, 1, none⟩ = some u1 := by simp [World.cell?, hpar]
    have f0 := p0 a (by omega) rfl
    obtain ⟨T0, u0, rfl⟩ := f0.iface
    have HFIN : Hid (TmV wr L (.pow a exp) (.iface 124 (.agg #[.iface T0 u0, .int .i64 exp]))) := ⟨_, rfl, f0⟩
    clear f0
    have HWX := Lib.hid hwx
    clear hb8 hpar hwx HINV i0 i1 p0 p1
    go_wp2_with fail
    go_ret2
    exact ⟨_, rfl, HFIN.out, HWX.out⟩
theorem oft_name {L n : Nat} (ih : OfTIH L n) {s : ByteArray} (t : Tr) (hsz : (Tm.name s).sz < n + 1) (h : IsTm L (.name s) t) (v : Value) (w : World) (hv : TrV w (fun _ => True) t v) : Calls Tryz.prog 20 #[v] w (RetTm L (.name s) w) := by
 have IH := Lib.hid ih
 clear ih
 obtain ⟨⟨kind, neg, ds, name, exp, rel, truth, all⟩, ks⟩ := t
 obtain ⟨hkind, hks, hname⟩ := h
 simp only [Tr.d] at hname
 subst hname
 simp only [Tr.d] at hkind
 simp only [Tr.ks] at hks
 subst hkind hks
 obtain ⟨A0, n0, c0, A, c, rfl, hnat, hc1, hc2, hat⟩ := hv.open_
 change TrsAt w _ [] A 0 at hat
 have HAT := Lib.hid hat
 clear hv hat
 unfold ndV
 simp only [Tr.d, Tr.ks, List.length_cons, List.length_nil, Nat.zero_add, Nat.reduceAdd] at hc1 ⊢
 go_enter Tryz.func20, Tryz.ntmps20
 go_wp2_with fail
 refine wp_loop_rounds 1 ?_
 rw [rounds_succ]
 go_wp2_with fail
 go_ret2
 exact ⟨_, rfl, rfl, ((Ext.refl w).alloc _).alloc _⟩
theorem oft_num {L n : Nat} (hL : L ≤ 35184372088000) (ih : OfTIH L n) {z : Int} (t : Tr) (hsz : (Tm.num z).sz < n + 1) (h : IsTm L (.num z) t) (v : Value) (w : World) (hv : TrV w (fun _ => True) t v) : Calls Tryz.prog 20 #[v] w (RetTm L (.num z) w) := by
 have IH := Lib.hid ih
 clear ih
 obtain ⟨⟨kind, neg, ds, name, exp, rel, truth, all⟩, ks⟩ := t
 obtain ⟨hkind, hks, hz, hlen⟩ := h
 simp only [Tr.d] at hz hlen
 simp only [Tr.d] at hkind
 simp only [Tr.ks] at hks
 subst hkind hks
 obtain ⟨A0, n0, c0, A, c, rfl, hnat, hc1, hc2, hat⟩ := hv.open_
 change TrsAt w _ [] A 0 at hat
 have HAT := Lib.hid hat
 clear hv hat
 unfold ndV
 simp only [Tr.d, Tr.ks, List.length_cons, List.length_nil, Nat.zero_add, Nat.reduceAdd] at hc1 ⊢
 go_enter Tryz.func20, Tryz.ntmps20
 go_wp2_with fail
 refine wp_loop_rounds 1 ?_
 rw [rounds_succ]
 go_wp2_with fail
 obtain ⟨W, hW⟩ : ∃ W, (w.alloc (.cells #[.int .i64 1, .bool neg, .slice A0 n0 c0, .string name, .int .i64 exp, .int .i64 rel, .bool truth, .bool all, .slice A 0 c] 29)).alloc (.cells #[.nilIface, .nilIface] 117) = W := ⟨_, rfl⟩
 have hWx : Ext w W := by rw [← hW]; exact ((Ext.refl w).alloc _).alloc _
 rw [hW]
 clear hW
 have hint : IntR W (.agg #[.bool neg, .slice A0 n0 c0]) z L := ⟨neg, _, ds, rfl, hnat.ext hWx, hz, hlen⟩
 refine (normal_int _ z L _ hint (by omega)).mono ?_
 rintro e w1 ⟨x1, rfl, m1, y1⟩
 have HFIN : Hid (TmV w1 L (.num z) (.iface 120 x1)) := ⟨x1, rfl, m1.raw.mono (by rw [hz, sgn_natAbs]; exact Nat.le_trans (dg_length_val_le hnat.digs) hlen)⟩
 have HX := Lib.hid (hWx.trans y1)
 obtain ⟨b1, A1, n1, c1, rfl⟩ := m1.unpack
 clear hint hz hnat hWx m1 y1
 go_wp2_with fail
 go_ret2
 exact ⟨_, rfl, HFIN.out, HX.out⟩
theorem oft_ih (L : Nat) (hL : L ≤ 35184372088000) (n : Nat) : OfTIH L n := by
 induction n with
 | zero => intro m t h; omega
 | succ n ih =>
   intro m t hsz h v w hv
   cases m with
   | num z => exact oft_num hL ih t hsz h v w hv
   | name s => exact oft_name ih t hsz h v w hv
   | add a b => exact oft_add ih t hsz h v w hv
   | sub a b => exact oft_sub ih t hsz h v w hv
   | mul a b => exact oft_mul ih t hsz h v w hv
   | neg a => exact oft_neg ih t hsz h v w hv
   | pow a e => exact oft_pow ih t hsz h v w hv
theorem ofTerm_any {L : Nat} (hL : L ≤ 35184372088000) (m : Tm) (t : Tr) (h : IsTm L m t) (v : Value) (w : World) {p : Nat → Prop} (hv : TrV w p t v) : Calls Tryz.prog 20 #[v] w (RetTm L m w) :=
 oft_ih L hL (m.sz + 1) m t (Nat.lt_succ_self _) h v w (hv.mono fun _ _ => trivial)
end Go.Proofs.YtkbpnppiadaibaaGreatDoor
