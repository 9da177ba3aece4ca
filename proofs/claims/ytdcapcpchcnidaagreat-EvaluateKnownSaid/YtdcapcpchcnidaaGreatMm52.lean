/- Layer 34: formula.OfTerm, formula.Of: the term, the formula of a tree. -/
import Derived.Test.YtdcapcpchcnidaaGreatPlain
import Derived.Test.YtdcapcpchcnidaaGreatMm32

namespace Go.Proofs.YtdcapcpchcnidaaGreat
open Go.RowKit
attribute [local go_sem] as_Num as_Name as_Add as_Sub as_Mul as_Neg as_Pow as_Truth as_Atom as_Not as_And as_Or as_Implies as_Iff as_Quant

/-- The tree is a tree of this term, with numbers of at most L words. -/
def IsTm (L : Nat) : Tm → Tr → Prop
  | .num z, t => t.d.kind = 1 ∧ t.ks = [] ∧ z = sgn t.d.neg (val t.d.ds) ∧ t.d.ds.length ≤ L
  | .name s, t => t.d.kind = 2 ∧ t.ks = [] ∧ t.d.name = s
  | .add a b, t => t.d.kind = 3 ∧ ∃ x y, t.ks = [x, y] ∧ IsTm L a x ∧ IsTm L b y
  | .sub a b, t => t.d.kind = 4 ∧ ∃ x y, t.ks = [x, y] ∧ IsTm L a x ∧ IsTm L b y
  | .mul a b, t => t.d.kind = 5 ∧ ∃ x y, t.ks = [x, y] ∧ IsTm L a x ∧ IsTm L b y
  | .neg a, t => t.d.kind = 6 ∧ ∃ x, t.ks = [x] ∧ IsTm L a x
  | .pow a e, t => t.d.kind = 7 ∧ t.d.exp = e ∧ 0 ≤ e ∧ ∃ x, t.ks = [x] ∧ IsTm L a x

/-- A term and no error. -/
def RetTm (L : Nat) (m : Tm) (w : World) (e : Ending) (w' : World) : Prop := ∃ v, e = .returned (.tuple #[v, .int .i64 0]) ∧ TmV w' L m v ∧ Ext w w'

theorem TmV.box {w : World} {L : Nat} {a : Addr} {u : Value} (ha : w.cell? a = some u) (hu : isDig u = false) (u' : Value) {t : Tm} {v : Value} (h : TmV w L t v) : TmV (w.setCell a u') L t v := by
  induction t generalizing v with
  | num z => obtain ⟨x, e, h⟩ := h; exact ⟨x, e, h.box ha hu u'⟩
  | name s => exact h
  | add a b iha ihb => obtain ⟨x, y, e, h, k⟩ := h; exact ⟨x, y, e, iha h, ihb k⟩
  | sub a b iha ihb => obtain ⟨x, y, e, h, k⟩ := h; exact ⟨x, y, e, iha h, ihb k⟩
  | mul a b iha ihb => obtain ⟨x, y, e, h, k⟩ := h; exact ⟨x, y, e, iha h, ihb k⟩
  | neg a iha => obtain ⟨x, e, h⟩ := h; exact ⟨x, e, iha h⟩
  | pow a n iha => obtain ⟨x, e, h⟩ := h; exact ⟨x, e, iha h⟩

/-- An interface value. -/
def isIf : Value → Bool
  | .iface _ _ => true
  | .nilIface => true
  | _ => false
theorem isIf_dig {u : Value} (h : isIf u = true) : isDig u = false := by cases u <;> simp_all [isIf, isDig]

/-- The two places of the parts: the first k are the terms xs; the tree's box lies at its place. -/
def PartsInv (L : Nat) (w : World) (g g' : Nat) (o : Obj) (xs : List Tm) (k : Nat) (wr : World) : Prop :=
  Ext w wr ∧ wr.heap[g']? = some o ∧ ∃ u0 u1, wr.heap[g]? = some (.cells #[u0, u1] 225 (0, 0)) ∧ isIf u0 = true ∧ isIf u1 = true ∧ (∀ x, 0 < k → xs[0]? = some x → TmV wr L x u0) ∧ (∀ x, 1 < k → xs[1]? = some x → TmV wr L x u1)
theorem PartsInv.cell {L : Nat} {w : World} {g g' : Nat} {o : Obj} {xs : List Tm} {k : Nat} {wr : World} (h : PartsInv L w g g' o xs k wr) (j : Nat) (hj : j < 2) : ∃ u, wr.cell? ⟨g, j, none⟩ = some u ∧ isIf u = true ∧ wr.frozen? ⟨g, j, none⟩ = false := by
  obtain ⟨-, -, u0, u1, h1, h2, h3, -⟩ := h
  rcases (show j = 0 ∨ j = 1 by omega) with rfl | rfl
  · exact ⟨u0, by simp [World.cell?, h1], h2, by simp [World.frozen?, h1]⟩
  · exact ⟨u1, by simp [World.cell?, h1], h3, by simp [World.frozen?, h1]⟩
theorem PartsInv.ext {L : Nat} {w : World} {g g' : Nat} {o : Obj} {xs : List Tm} {k : Nat} {wr w' : World} (h : PartsInv L w g g' o xs k wr) (hx : Ext wr w') : PartsInv L w g g' o xs k w' := by
  obtain ⟨h0, h0', u0, u1, h1, h2, h3, h4, h5⟩ := h
  have lt : ∀ {i : Nat} {o : Obj}, wr.heap[i]? = some o → i < wr.heap.size := fun {i o} h => (Array.getElem?_eq_some_iff.1 h).1
  exact ⟨h0.trans hx, (hx.below.block _ (lt h0')).trans h0', u0, u1, (hx.below.block _ (lt h1)).trans h1, h2, h3, fun x hk hxs => (h4 x hk hxs).ext hx, fun x hk hxs => (h5 x hk hxs).ext hx⟩
/-- One part more. -/
theorem PartsInv.put {L : Nat} {w : World} {g g' : Nat} {o : Obj} {xs : List Tm} {k : Nat} {wr : World} (h : PartsInv L w g g' o xs k wr) (hk : k < 2) (hg : w.heap.size ≤ g) (hne : g' ≠ g) {u : Value} (hu : isIf u = true) (hx : ∀ x, xs[k]? = some x → TmV wr L x u) :
    PartsInv L w g g' o xs (k + 1) (wr.setCell ⟨g, k, none⟩ u) := by
  obtain ⟨uk, ck, ik, -⟩ := h.cell k hk
  obtain ⟨h0, h0', u0, u1, h1, h2, h3, h4, h5⟩ := h
  have bx : ∀ {x v}, TmV wr L x v → TmV (wr.setCell ⟨g, k, none⟩ u) L x v := fun {x v} hv => hv.box ck (isIf_dig ik) u
  refine ⟨h0.setCell hg _, (Below.heap_setCell wr ⟨g, k, none⟩ u g' hne).trans h0', ?_⟩
  have hs : ∀ c : Array Value, wr.heap[g]? = some (.cells c 225 (0, 0)) → (wr.setCell ⟨g, k, none⟩ u).heap[g]? = some (.cells (c.setIfInBounds k u) 225 (0, 0)) := fun c hc => by
    simp [World.setCell, Array.getElem?_modify, hc]
  rcases (show k = 0 ∨ k = 1 by omega) with rfl | rfl
  · exact ⟨u, u1, by rw [hs _ h1]; rfl, hu, h3, fun x _ hxs => bx (hx x hxs), fun x hk => absurd hk (by omega)⟩
  · exact ⟨u0, u, by rw [hs _ h1]; rfl, h2, hu, fun x _ hxs => bx (h4 x (by omega) hxs), fun x _ hxs => bx (hx x hxs)⟩

def OfTIH (L n : Nat) : Prop := ∀ (m : Tm) (t : Tr), m.sz < n → IsTm L m t → ∀ (v : Value) (w : World), TrV w (fun _ => True) t v → Calls Tryz.prog 144 #[v] w (RetTm L m w)

set_option maxRecDepth 100000 in
set_option maxHeartbeats 2000000 in
theorem oft_add {L n : Nat} (ih : OfTIH L n) {a b : Tm} (t : Tr) (hsz : (Tm.add a b).sz < n + 1) (h : IsTm L (.add a b) t) (v : Value) (w : World) (hv : TrV w (fun _ => True) t v) : Calls Tryz.prog 144 #[v] w (RetTm L (.add a b) w) := by
  have IH := Lib.hid ih
  clear ih
  obtain ⟨⟨kind, neg, ds, name, exp, rel, truth, all⟩, ks⟩ := t
  obtain ⟨hkind, t0, t1, hks, h0, h1⟩ := h
  simp only [Tr.d] at hkind
  simp only [Tr.ks] at hks
  subst hkind hks
  obtain ⟨A0, n0, c0, A, c, rfl, hnat, hc1, hc2, hat⟩ := hv.open_
  change TrsAt w _ [t0, t1] A 0 at hat
  have HAT := Lib.hid hat
  clear hv hat hnat
  unfold ndV
  simp only [Tr.d, Tr.ks, List.length_cons, List.length_nil, Nat.zero_add, Nat.reduceAdd] at hc1 ⊢
  have HIS : Hid (∀ i (hi : i < 2), IsTm L ([a, b][i]'(by simpa using hi)) ([t0, t1][i]'(by simpa using hi))) := by
    intro i hi
    rcases (show i = 0 ∨ i = 1 by omega) with rfl | rfl
    · exact h0
    · exact h1
  clear h0 h1
  have hsz' : ∀ i (hi : i < 2), ([a, b][i]'(by simpa using hi)).sz < n := by
    intro i hi
    simp only [Tm.sz] at hsz
    rcases (show i = 0 ∨ i = 1 by omega) with rfl | rfl <;> simp <;> omega
  have HSZ := Lib.hid hsz'
  clear hsz'
  go_enter Tryz.func144, Tryz.ntmps144
  go_wp2_with fail
  go_loopw [40] (fun iv wr => ∃ k : Nat, k ≤ 2 ∧ iv = .int .i64 k ∧ Hid (PartsInv L w (w.heap.size + 1) w.heap.size (.cells #[.int .i64 3, .bool neg, .slice A0 n0 c0, .string name, .int .i64 exp, .int .i64 rel, .bool truth, .bool all, .slice A 2 c] 163) [a, b] k wr)) (fun iv _ => 2 - (intOf iv).toNat)
  case atStart =>
    refine ⟨0, by omega, rfl, ⟨((Ext.refl w).alloc _).alloc _, ?_, .nilIface, .nilIface, ?_, rfl, rfl, fun x hk => absurd hk (by omega), fun x hk => absurd hk (by omega)⟩⟩
    · rw [Below.heap_alloc _ _ _ (by simp)]; exact heap_alloc_new w _
    · have := heap_alloc_new (w.alloc (.cells #[.int .i64 3, .bool neg, .slice A0 n0 c0, .string name, .int .i64 exp, .int .i64 rel, .bool truth, .bool all, .slice A 2 c] 163)) (.cells #[.nilIface, .nilIface] 225)
      rwa [World.size_alloc] at this
  case round =>
    obtain ⟨k, hk, rfl, hinv⟩ := hrel
    have HINV := Lib.hid hinv
    have hwx := hinv.1
    have hat2 := HAT.out.ext hwx
    have hb8 := hinv.2.1
    clear hinv
    by_cases hlt : k < 2
    · obtain ⟨ad, B0, m0, d0, B1, m1, d1, rfl, hadb, ⟨e0, e1, e2, e3, e4, e5, e6, e7, e8⟩, hkt⟩ := hat2.kid k (by simpa using hlt)
      have HKT := Lib.hid hkt
      clear hkt hat2 hb8 hwx
      have hisk := HIS.out k hlt
      have hszk := HSZ.out k hlt
      have HISK := Lib.hid hisk
      have HXK : Hid (∃ x, [a, b][k]? = some x ∧ IsTm L x ([t0, t1][k]'(by simpa using hlt)) ∧ x.sz < n) := ⟨_, List.getElem?_eq_getElem (by simpa using hlt), hisk, hszk⟩
      clear hisk hszk HISK
      generalize ([t0, t1][k]'(by simpa using hlt)) = tk at *
      obtain ⟨x, hxk, hisx, hszx⟩ := HXK
      have HXK := Lib.hid hxk
      have HISX := Lib.hid hisx
      clear hxk hisx
      go_wp2_with fail
      refine (IH.out x tk hszx HISX.out _ _ (HKT.out.ext ((Ext.refl wr).alloc _))).mono ?_
      rintro e w2 ⟨v2, rfl, htm, hx2⟩
      have hinv2 := HINV.out.ext (((Ext.refl wr).alloc _).trans hx2)
      obtain ⟨T2, u2, rfl⟩ := htm.iface
      obtain ⟨uk, ck, ik, fk⟩ := hinv2.cell k (by omega)
      have HNEXT := Lib.hid (hinv2.put (u := .iface T2 u2) (by omega) (by omega) (by omega) rfl (fun y hy => by rw [HXK.out] at hy; injection hy with hy; subst hy; exact htm))
      clear hinv2 htm hx2 e0 e1 e2 e3 e4 e5 e6 e7 e8
      go_wp2_with fail
      go_roundw
      case rel => exact ⟨k + 1, by omega, by go_num, HNEXT⟩
      case measure => simp [intOf]; omega
    · clear hat2 hwx
      have hk2 : 2 ≤ k := by omega
      obtain ⟨hwx, -, u0, u1, hpar, i0, i1, p0, p1⟩ := HINV.out
      have c0 : wr.cell? ⟨w.heap.size, 0, none⟩ = some (.int .i64 3) := by simp [World.cell?, hb8]
      have c4 : wr.cell? ⟨w.heap.size, 4, none⟩ = some (.int .i64 exp) := by simp [World.cell?, hb8]
      have q0 : wr.cell? ⟨w.heap.size + 1, 0, none⟩ = some u0 := by simp [World.cell?, hpar]
      have q1 : wr.cell? ⟨w.heap.size + 1, 1, none⟩ = some u1 := by simp [World.cell?, hpar]
      have f0 := p0 a (by omega) rfl
      obtain ⟨T0, u0, rfl⟩ := f0.iface
      have f1 := p1 b (by omega) rfl
      obtain ⟨T1, u1, rfl⟩ := f1.iface
      have HFIN : Hid (TmV wr L (.add a b) (.iface 168 (.agg #[.iface T0 u0, .iface T1 u1]))) := ⟨_, _, rfl, f0, f1⟩
      clear f0 f1
      have HWX := Lib.hid hwx
      clear hb8 hpar hwx HINV i0 i1 p0 p1
      go_wp2_with fail
      go_ret2
      exact ⟨_, rfl, HFIN.out, HWX.out⟩

set_option maxRecDepth 100000 in
set_option maxHeartbeats 2000000 in
theorem oft_sub {L n : Nat} (ih : OfTIH L n) {a b : Tm} (t : Tr) (hsz : (Tm.sub a b).sz < n + 1) (h : IsTm L (.sub a b) t) (v : Value) (w : World) (hv : TrV w (fun _ => True) t v) : Calls Tryz.prog 144 #[v] w (RetTm L (.sub a b) w) := by
  have IH := Lib.hid ih
  clear ih
  obtain ⟨⟨kind, neg, ds, name, exp, rel, truth, all⟩, ks⟩ := t
  obtain ⟨hkind, t0, t1, hks, h0, h1⟩ := h
  simp only [Tr.d] at hkind
  simp only [Tr.ks] at hks
  subst hkind hks
  obtain ⟨A0, n0, c0, A, c, rfl, hnat, hc1, hc2, hat⟩ := hv.open_
  change TrsAt w _ [t0, t1] A 0 at hat
  have HAT := Lib.hid hat
  clear hv hat hnat
  unfold ndV
  simp only [Tr.d, Tr.ks, List.length_cons, List.length_nil, Nat.zero_add, Nat.reduceAdd] at hc1 ⊢
  have HIS : Hid (∀ i (hi : i < 2), IsTm L ([a, b][i]'(by simpa using hi)) ([t0, t1][i]'(by simpa using hi))) := by
    intro i hi
    rcases (show i = 0 ∨ i = 1 by omega) with rfl | rfl
    · exact h0
    · exact h1
  clear h0 h1
  have hsz' : ∀ i (hi : i < 2), ([a, b][i]'(by simpa using hi)).sz < n := by
    intro i hi
    simp only [Tm.sz] at hsz
    rcases (show i = 0 ∨ i = 1 by omega) with rfl | rfl <;> simp <;> omega
  have HSZ := Lib.hid hsz'
  clear hsz'
  go_enter Tryz.func144, Tryz.ntmps144
  go_wp2_with fail
  go_loopw [40] (fun iv wr => ∃ k : Nat, k ≤ 2 ∧ iv = .int .i64 k ∧ Hid (PartsInv L w (w.heap.size + 1) w.heap.size (.cells #[.int .i64 4, .bool neg, .slice A0 n0 c0, .string name, .int .i64 exp, .int .i64 rel, .bool truth, .bool all, .slice A 2 c] 163) [a, b] k wr)) (fun iv _ => 2 - (intOf iv).toNat)
  case atStart =>
    refine ⟨0, by omega, rfl, ⟨((Ext.refl w).alloc _).alloc _, ?_, .nilIface, .nilIface, ?_, rfl, rfl, fun x hk => absurd hk (by omega), fun x hk => absurd hk (by omega)⟩⟩
    · rw [Below.heap_alloc _ _ _ (by simp)]; exact heap_alloc_new w _
    · have := heap_alloc_new (w.alloc (.cells #[.int .i64 4, .bool neg, .slice A0 n0 c0, .string name, .int .i64 exp, .int .i64 rel, .bool truth, .bool all, .slice A 2 c] 163)) (.cells #[.nilIface, .nilIface] 225)
      rwa [World.size_alloc] at this
  case round =>
    obtain ⟨k, hk, rfl, hinv⟩ := hrel
    have HINV := Lib.hid hinv
    have hwx := hinv.1
    have hat2 := HAT.out.ext hwx
    have hb8 := hinv.2.1
    clear hinv
    by_cases hlt : k < 2
    · obtain ⟨ad, B0, m0, d0, B1, m1, d1, rfl, hadb, ⟨e0, e1, e2, e3, e4, e5, e6, e7, e8⟩, hkt⟩ := hat2.kid k (by simpa using hlt)
      have HKT := Lib.hid hkt
      clear hkt hat2 hb8 hwx
      have hisk := HIS.out k hlt
      have hszk := HSZ.out k hlt
      have HISK := Lib.hid hisk
      have HXK : Hid (∃ x, [a, b][k]? = some x ∧ IsTm L x ([t0, t1][k]'(by simpa using hlt)) ∧ x.sz < n) := ⟨_, List.getElem?_eq_getElem (by simpa using hlt), hisk, hszk⟩
      clear hisk hszk HISK
      generalize ([t0, t1][k]'(by simpa using hlt)) = tk at *
      obtain ⟨x, hxk, hisx, hszx⟩ := HXK
      have HXK := Lib.hid hxk
      have HISX := Lib.hid hisx
      clear hxk hisx
      go_wp2_with fail
      refine (IH.out x tk hszx HISX.out _ _ (HKT.out.ext ((Ext.refl wr).alloc _))).mono ?_
      rintro e w2 ⟨v2, rfl, htm, hx2⟩
      have hinv2 := HINV.out.ext (((Ext.refl wr).alloc _).trans hx2)
      obtain ⟨T2, u2, rfl⟩ := htm.iface
      obtain ⟨uk, ck, ik, fk⟩ := hinv2.cell k (by omega)
      have HNEXT := Lib.hid (hinv2.put (u := .iface T2 u2) (by omega) (by omega) (by omega) rfl (fun y hy => by rw [HXK.out] at hy; injection hy with hy; subst hy; exact htm))
      clear hinv2 htm hx2 e0 e1 e2 e3 e4 e5 e6 e7 e8
      go_wp2_with fail
      go_roundw
      case rel => exact ⟨k + 1, by omega, by go_num, HNEXT⟩
      case measure => simp [intOf]; omega
    · clear hat2 hwx
      have hk2 : 2 ≤ k := by omega
      obtain ⟨hwx, -, u0, u1, hpar, i0, i1, p0, p1⟩ := HINV.out
      have c0 : wr.cell? ⟨w.heap.size, 0, none⟩ = some (.int .i64 4) := by simp [World.cell?, hb8]
      have c4 : wr.cell? ⟨w.heap.size, 4, none⟩ = some (.int .i64 exp) := by simp [World.cell?, hb8]
      have q0 : wr.cell? ⟨w.heap.size + 1, 0, none⟩ = some u0 := by simp [World.cell?, hpar]
      have q1 : wr.cell? ⟨w.heap.size + 1, 1, none⟩ = some u1 := by simp [World.cell?, hpar]
      have f0 := p0 a (by omega) rfl
      obtain ⟨T0, u0, rfl⟩ := f0.iface
      have f1 := p1 b (by omega) rfl
      obtain ⟨T1, u1, rfl⟩ := f1.iface
      have HFIN : Hid (TmV wr L (.sub a b) (.iface 169 (.agg #[.iface T0 u0, .iface T1 u1]))) := ⟨_, _, rfl, f0, f1⟩
      clear f0 f1
      have HWX := Lib.hid hwx
      clear hb8 hpar hwx HINV i0 i1 p0 p1
      go_wp2_with fail
      go_ret2
      exact ⟨_, rfl, HFIN.out, HWX.out⟩

set_option maxRecDepth 100000 in
set_option maxHeartbeats 2000000 in
theorem oft_mul {L n : Nat} (ih : OfTIH L n) {a b : Tm} (t : Tr) (hsz : (Tm.mul a b).sz < n + 1) (h : IsTm L (.mul a b) t) (v : Value) (w : World) (hv : TrV w (fun _ => True) t v) : Calls Tryz.prog 144 #[v] w (RetTm L (.mul a b) w) := by
  have IH := Lib.hid ih
  clear ih
  obtain ⟨⟨kind, neg, ds, name, exp, rel, truth, all⟩, ks⟩ := t
  obtain ⟨hkind, t0, t1, hks, h0, h1⟩ := h
  simp only [Tr.d] at hkind
  simp only [Tr.ks] at hks
  subst hkind hks
  obtain ⟨A0, n0, c0, A, c, rfl, hnat, hc1, hc2, hat⟩ := hv.open_
  change TrsAt w _ [t0, t1] A 0 at hat
  have HAT := Lib.hid hat
  clear hv hat hnat
  unfold ndV
  simp only [Tr.d, Tr.ks, List.length_cons, List.length_nil, Nat.zero_add, Nat.reduceAdd] at hc1 ⊢
  have HIS : Hid (∀ i (hi : i < 2), IsTm L ([a, b][i]'(by simpa using hi)) ([t0, t1][i]'(by simpa using hi))) := by
    intro i hi
    rcases (show i = 0 ∨ i = 1 by omega) with rfl | rfl
    · exact h0
    · exact h1
  clear h0 h1
  have hsz' : ∀ i (hi : i < 2), ([a, b][i]'(by simpa using hi)).sz < n := by
    intro i hi
    simp only [Tm.sz] at hsz
    rcases (show i = 0 ∨ i = 1 by omega) with rfl | rfl <;> simp <;> omega
  have HSZ := Lib.hid hsz'
  clear hsz'
  go_enter Tryz.func144, Tryz.ntmps144
  go_wp2_with fail
  go_loopw [40] (fun iv wr => ∃ k : Nat, k ≤ 2 ∧ iv = .int .i64 k ∧ Hid (PartsInv L w (w.heap.size + 1) w.heap.size (.cells #[.int .i64 5, .bool neg, .slice A0 n0 c0, .string name, .int .i64 exp, .int .i64 rel, .bool truth, .bool all, .slice A 2 c] 163) [a, b] k wr)) (fun iv _ => 2 - (intOf iv).toNat)
  case atStart =>
    refine ⟨0, by omega, rfl, ⟨((Ext.refl w).alloc _).alloc _, ?_, .nilIface, .nilIface, ?_, rfl, rfl, fun x hk => absurd hk (by omega), fun x hk => absurd hk (by omega)⟩⟩
    · rw [Below.heap_alloc _ _ _ (by simp)]; exact heap_alloc_new w _
    · have := heap_alloc_new (w.alloc (.cells #[.int .i64 5, .bool neg, .slice A0 n0 c0, .string name, .int .i64 exp, .int .i64 rel, .bool truth, .bool all, .slice A 2 c] 163)) (.cells #[.nilIface, .nilIface] 225)
      rwa [World.size_alloc] at this
  case round =>
    obtain ⟨k, hk, rfl, hinv⟩ := hrel
    have HINV := Lib.hid hinv
    have hwx := hinv.1
    have hat2 := HAT.out.ext hwx
    have hb8 := hinv.2.1
    clear hinv
    by_cases hlt : k < 2
    · obtain ⟨ad, B0, m0, d0, B1, m1, d1, rfl, hadb, ⟨e0, e1, e2, e3, e4, e5, e6, e7, e8⟩, hkt⟩ := hat2.kid k (by simpa using hlt)
      have HKT := Lib.hid hkt
      clear hkt hat2 hb8 hwx
      have hisk := HIS.out k hlt
      have hszk := HSZ.out k hlt
      have HISK := Lib.hid hisk
      have HXK : Hid (∃ x, [a, b][k]? = some x ∧ IsTm L x ([t0, t1][k]'(by simpa using hlt)) ∧ x.sz < n) := ⟨_, List.getElem?_eq_getElem (by simpa using hlt), hisk, hszk⟩
      clear hisk hszk HISK
      generalize ([t0, t1][k]'(by simpa using hlt)) = tk at *
      obtain ⟨x, hxk, hisx, hszx⟩ := HXK
      have HXK := Lib.hid hxk
      have HISX := Lib.hid hisx
      clear hxk hisx
      go_wp2_with fail
      refine (IH.out x tk hszx HISX.out _ _ (HKT.out.ext ((Ext.refl wr).alloc _))).mono ?_
      rintro e w2 ⟨v2, rfl, htm, hx2⟩
      have hinv2 := HINV.out.ext (((Ext.refl wr).alloc _).trans hx2)
      obtain ⟨T2, u2, rfl⟩ := htm.iface
      obtain ⟨uk, ck, ik, fk⟩ := hinv2.cell k (by omega)
      have HNEXT := Lib.hid (hinv2.put (u := .iface T2 u2) (by omega) (by omega) (by omega) rfl (fun y hy => by rw [HXK.out] at hy; injection hy with hy; subst hy; exact htm))
      clear hinv2 htm hx2 e0 e1 e2 e3 e4 e5 e6 e7 e8
      go_wp2_with fail
      go_roundw
      case rel => exact ⟨k + 1, by omega, by go_num, HNEXT⟩
      case measure => simp [intOf]; omega
    · clear hat2 hwx
      have hk2 : 2 ≤ k := by omega
      obtain ⟨hwx, -, u0, u1, hpar, i0, i1, p0, p1⟩ := HINV.out
      have c0 : wr.cell? ⟨w.heap.size, 0, none⟩ = some (.int .i64 5) := by simp [World.cell?, hb8]
      have c4 : wr.cell? ⟨w.heap.size, 4, none⟩ = some (.int .i64 exp) := by simp [World.cell?, hb8]
      have q0 : wr.cell? ⟨w.heap.size + 1, 0, none⟩ = some u0 := by simp [World.cell?, hpar]
      have q1 : wr.cell? ⟨w.heap.size + 1, 1, none⟩ = some u1 := by simp [World.cell?, hpar]
      have f0 := p0 a (by omega) rfl
      obtain ⟨T0, u0, rfl⟩ := f0.iface
      have f1 := p1 b (by omega) rfl
      obtain ⟨T1, u1, rfl⟩ := f1.iface
      have HFIN : Hid (TmV wr L (.mul a b) (.iface 170 (.agg #[.iface T0 u0, .iface T1 u1]))) := ⟨_, _, rfl, f0, f1⟩
      clear f0 f1
      have HWX := Lib.hid hwx
      clear hb8 hpar hwx HINV i0 i1 p0 p1
      go_wp2_with fail
      go_ret2
      exact ⟨_, rfl, HFIN.out, HWX.out⟩

set_option maxRecDepth 100000 in
set_option maxHeartbeats 2000000 in
theorem oft_neg {L n : Nat} (ih : OfTIH L n) {a : Tm} (t : Tr) (hsz : (Tm.neg a).sz < n + 1) (h : IsTm L (.neg a) t) (v : Value) (w : World) (hv : TrV w (fun _ => True) t v) : Calls Tryz.prog 144 #[v] w (RetTm L (.neg a) w) := by
  have IH := Lib.hid ih
  clear ih
  obtain ⟨⟨kind, neg, ds, name, exp, rel, truth, all⟩, ks⟩ := t
  obtain ⟨hkind, t0, hks, h0⟩ := h
  simp only [Tr.d] at hkind
  simp only [Tr.ks] at hks
  subst hkind hks
  obtain ⟨A0, n0, c0, A, c, rfl, hnat, hc1, hc2, hat⟩ := hv.open_
  change TrsAt w _ [t0] A 0 at hat
  have HAT := Lib.hid hat
  clear hv hat hnat
  unfold ndV
  simp only [Tr.d, Tr.ks, List.length_cons, List.length_nil, Nat.zero_add, Nat.reduceAdd] at hc1 ⊢
  have HIS : Hid (∀ i (hi : i < 1), IsTm L ([a][i]'(by simpa using hi)) ([t0][i]'(by simpa using hi))) := by
    intro i hi
    obtain rfl : i = 0 := by omega
    exact h0
  clear h0
  have hsz' : ∀ i (hi : i < 1), ([a][i]'(by simpa using hi)).sz < n := by
    intro i hi
    simp only [Tm.sz] at hsz
    obtain rfl : i = 0 := by omega
    simp; omega
  have HSZ := Lib.hid hsz'
  clear hsz'
  go_enter Tryz.func144, Tryz.ntmps144
  go_wp2_with fail
  go_loopw [40] (fun iv wr => ∃ k : Nat, k ≤ 1 ∧ iv = .int .i64 k ∧ Hid (PartsInv L w (w.heap.size + 1) w.heap.size (.cells #[.int .i64 6, .bool neg, .slice A0 n0 c0, .string name, .int .i64 exp, .int .i64 rel, .bool truth, .bool all, .slice A 1 c] 163) [a] k wr)) (fun iv _ => 1 - (intOf iv).toNat)
  case atStart =>
    refine ⟨0, by omega, rfl, ⟨((Ext.refl w).alloc _).alloc _, ?_, .nilIface, .nilIface, ?_, rfl, rfl, fun x hk => absurd hk (by omega), fun x hk => absurd hk (by omega)⟩⟩
    · rw [Below.heap_alloc _ _ _ (by simp)]; exact heap_alloc_new w _
    · have := heap_alloc_new (w.alloc (.cells #[.int .i64 6, .bool neg, .slice A0 n0 c0, .string name, .int .i64 exp, .int .i64 rel, .bool truth, .bool all, .slice A 1 c] 163)) (.cells #[.nilIface, .nilIface] 225)
      rwa [World.size_alloc] at this
  case round =>
    obtain ⟨k, hk, rfl, hinv⟩ := hrel
    have HINV := Lib.hid hinv
    have hwx := hinv.1
    have hat2 := HAT.out.ext hwx
    have hb8 := hinv.2.1
    clear hinv
    by_cases hlt : k < 1
    · obtain ⟨ad, B0, m0, d0, B1, m1, d1, rfl, hadb, ⟨e0, e1, e2, e3, e4, e5, e6, e7, e8⟩, hkt⟩ := hat2.kid k (by simpa using hlt)
      have HKT := Lib.hid hkt
      clear hkt hat2 hb8 hwx
      have hisk := HIS.out k hlt
      have hszk := HSZ.out k hlt
      have HISK := Lib.hid hisk
      have HXK : Hid (∃ x, [a][k]? = some x ∧ IsTm L x ([t0][k]'(by simpa using hlt)) ∧ x.sz < n) := ⟨_, List.getElem?_eq_getElem (by simpa using hlt), hisk, hszk⟩
      clear hisk hszk HISK
      generalize ([t0][k]'(by simpa using hlt)) = tk at *
      obtain ⟨x, hxk, hisx, hszx⟩ := HXK
      have HXK := Lib.hid hxk
      have HISX := Lib.hid hisx
      clear hxk hisx
      go_wp2_with fail
      refine (IH.out x tk hszx HISX.out _ _ (HKT.out.ext ((Ext.refl wr).alloc _))).mono ?_
      rintro e w2 ⟨v2, rfl, htm, hx2⟩
      have hinv2 := HINV.out.ext (((Ext.refl wr).alloc _).trans hx2)
      obtain ⟨T2, u2, rfl⟩ := htm.iface
      obtain ⟨uk, ck, ik, fk⟩ := hinv2.cell k (by omega)
      have HNEXT := Lib.hid (hinv2.put (u := .iface T2 u2) (by omega) (by omega) (by omega) rfl (fun y hy => by rw [HXK.out] at hy; injection hy with hy; subst hy; exact htm))
      clear hinv2 htm hx2 e0 e1 e2 e3 e4 e5 e6 e7 e8
      go_wp2_with fail
      go_roundw
      case rel => exact ⟨k + 1, by omega, by go_num, HNEXT⟩
      case measure => simp [intOf]; omega
    · clear hat2 hwx
      have hk2 : 1 ≤ k := by omega
      obtain ⟨hwx, -, u0, u1, hpar, i0, i1, p0, p1⟩ := HINV.out
      have c0 : wr.cell? ⟨w.heap.size, 0, none⟩ = some (.int .i64 6) := by simp [World.cell?, hb8]
      have c4 : wr.cell? ⟨w.heap.size, 4, none⟩ = some (.int .i64 exp) := by simp [World.cell?, hb8]
      have q0 : wr.cell? ⟨w.heap.size + 1, 0, none⟩ = some u0 := by simp [World.cell?, hpar]
      have q1 : wr.cell? ⟨w.heap.size + 1, 1, none⟩ = some u1 := by simp [World.cell?, hpar]
      have f0 := p0 a (by omega) rfl
      obtain ⟨T0, u0, rfl⟩ := f0.iface
      have HFIN : Hid (TmV wr L (.neg a) (.iface 166 (.agg #[.iface T0 u0]))) := ⟨_, rfl, f0⟩
      clear f0
      have HWX := Lib.hid hwx
      clear hb8 hpar hwx HINV i0 i1 p0 p1
      go_wp2_with fail
      go_ret2
      exact ⟨_, rfl, HFIN.out, HWX.out⟩

set_option maxRecDepth 100000 in
set_option maxHeartbeats 2000000 in
theorem oft_pow {L n : Nat} (ih : OfTIH L n) {a : Tm} {ex : Int} (t : Tr) (hsz : (Tm.pow a ex).sz < n + 1) (h : IsTm L (.pow a ex) t) (v : Value) (w : World) (hv : TrV w (fun _ => True) t v) : Calls Tryz.prog 144 #[v] w (RetTm L (.pow a ex) w) := by
  have IH := Lib.hid ih
  clear ih
  obtain ⟨⟨kind, neg, ds, name, exp, rel, truth, all⟩, ks⟩ := t
  obtain ⟨hkind, hexp, hpos, t0, hks, h0⟩ := h
  simp only [Tr.d] at hexp
  subst hexp
  have hpd : decide (exp < 0) = false := by simpa using hpos
  simp only [Tr.d] at hkind
  simp only [Tr.ks] at hks
  subst hkind hks
  obtain ⟨A0, n0, c0, A, c, rfl, hnat, hc1, hc2, hat⟩ := hv.open_
  change TrsAt w _ [t0] A 0 at hat
  have HAT := Lib.hid hat
  clear hv hat hnat
  unfold ndV
  simp only [Tr.d, Tr.ks, List.length_cons, List.length_nil, Nat.zero_add, Nat.reduceAdd] at hc1 ⊢
  have HIS : Hid (∀ i (hi : i < 1), IsTm L ([a][i]'(by simpa using hi)) ([t0][i]'(by simpa using hi))) := by
    intro i hi
    obtain rfl : i = 0 := by omega
    exact h0
  clear h0
  have hsz' : ∀ i (hi : i < 1), ([a][i]'(by simpa using hi)).sz < n := by
    intro i hi
    simp only [Tm.sz] at hsz
    obtain rfl : i = 0 := by omega
    simp; omega
  have HSZ := Lib.hid hsz'
  clear hsz'
  go_enter Tryz.func144, Tryz.ntmps144
  go_wp2_with fail
  go_loopw [40] (fun iv wr => ∃ k : Nat, k ≤ 1 ∧ iv = .int .i64 k ∧ Hid (PartsInv L w (w.heap.size + 1) w.heap.size (.cells #[.int .i64 7, .bool neg, .slice A0 n0 c0, .string name, .int .i64 exp, .int .i64 rel, .bool truth, .bool all, .slice A 1 c] 163) [a] k wr)) (fun iv _ => 1 - (intOf iv).toNat)
  case atStart =>
    refine ⟨0, by omega, rfl, ⟨((Ext.refl w).alloc _).alloc _, ?_, .nilIface, .nilIface, ?_, rfl, rfl, fun x hk => absurd hk (by omega), fun x hk => absurd hk (by omega)⟩⟩
    · rw [Below.heap_alloc _ _ _ (by simp)]; exact heap_alloc_new w _
    · have := heap_alloc_new (w.alloc (.cells #[.int .i64 7, .bool neg, .slice A0 n0 c0, .string name, .int .i64 exp, .int .i64 rel, .bool truth, .bool all, .slice A 1 c] 163)) (.cells #[.nilIface, .nilIface] 225)
      rwa [World.size_alloc] at this
  case round =>
    obtain ⟨k, hk, rfl, hinv⟩ := hrel
    have HINV := Lib.hid hinv
    have hwx := hinv.1
    have hat2 := HAT.out.ext hwx
    have hb8 := hinv.2.1
    clear hinv
    by_cases hlt : k < 1
    · obtain ⟨ad, B0, m0, d0, B1, m1, d1, rfl, hadb, ⟨e0, e1, e2, e3, e4, e5, e6, e7, e8⟩, hkt⟩ := hat2.kid k (by simpa using hlt)
      have HKT := Lib.hid hkt
      clear hkt hat2 hb8 hwx
      have hisk := HIS.out k hlt
      have hszk := HSZ.out k hlt
      have HISK := Lib.hid hisk
      have HXK : Hid (∃ x, [a][k]? = some x ∧ IsTm L x ([t0][k]'(by simpa using hlt)) ∧ x.sz < n) := ⟨_, List.getElem?_eq_getElem (by simpa using hlt), hisk, hszk⟩
      clear hisk hszk HISK
      generalize ([t0][k]'(by simpa using hlt)) = tk at *
      obtain ⟨x, hxk, hisx, hszx⟩ := HXK
      have HXK := Lib.hid hxk
      have HISX := Lib.hid hisx
      clear hxk hisx
      go_wp2_with fail
      refine (IH.out x tk hszx HISX.out _ _ (HKT.out.ext ((Ext.refl wr).alloc _))).mono ?_
      rintro e w2 ⟨v2, rfl, htm, hx2⟩
      have hinv2 := HINV.out.ext (((Ext.refl wr).alloc _).trans hx2)
      obtain ⟨T2, u2, rfl⟩ := htm.iface
      obtain ⟨uk, ck, ik, fk⟩ := hinv2.cell k (by omega)
      have HNEXT := Lib.hid (hinv2.put (u := .iface T2 u2) (by omega) (by omega) (by omega) rfl (fun y hy => by rw [HXK.out] at hy; injection hy with hy; subst hy; exact htm))
      clear hinv2 htm hx2 e0 e1 e2 e3 e4 e5 e6 e7 e8
      go_wp2_with fail
      go_roundw
      case rel => exact ⟨k + 1, by omega, by go_num, HNEXT⟩
      case measure => simp [intOf]; omega
    · clear hat2 hwx
      have hk2 : 1 ≤ k := by omega
      obtain ⟨hwx, -, u0, u1, hpar, i0, i1, p0, p1⟩ := HINV.out
      have c0 : wr.cell? ⟨w.heap.size, 0, none⟩ = some (.int .i64 7) := by simp [World.cell?, hb8]
      have c4 : wr.cell? ⟨w.heap.size, 4, none⟩ = some (.int .i64 exp) := by simp [World.cell?, hb8]
      have q0 : wr.cell? ⟨w.heap.size + 1, 0, none⟩ = some u0 := by simp [World.cell?, hpar]
      have q1 : wr.cell? ⟨w.heap.size + 1, 1, none⟩ = some u1 := by simp [World.cell?, hpar]
      have f0 := p0 a (by omega) rfl
      obtain ⟨T0, u0, rfl⟩ := f0.iface
      have HFIN : Hid (TmV wr L (.pow a exp) (.iface 173 (.agg #[.iface T0 u0, .int .i64 exp]))) := ⟨_, rfl, f0⟩
      clear f0
      have HWX := Lib.hid hwx
      clear hb8 hpar hwx HINV i0 i1 p0 p1
      go_wp2_with fail
      go_ret2
      exact ⟨_, rfl, HFIN.out, HWX.out⟩

set_option maxRecDepth 100000 in
set_option maxHeartbeats 2000000 in
theorem oft_name {L n : Nat} (ih : OfTIH L n) {s : ByteArray} (t : Tr) (hsz : (Tm.name s).sz < n + 1) (h : IsTm L (.name s) t) (v : Value) (w : World) (hv : TrV w (fun _ => True) t v) : Calls Tryz.prog 144 #[v] w (RetTm L (.name s) w) := by
  have IH := Lib.hid ih
  clear ih
  obtain ⟨⟨kind, neg, ds, name, exp, rel, truth, all⟩, ks⟩ := t
  obtain ⟨hkind, hks, hname⟩ := h
  simp only [Tr.d] at hname
  subst hname
  simp only [Tr.d] at hkind
  simp only [Tr.ks] at hks
  subst hkind hks
  obtain ⟨A0, n0, c0, A, c, rfl, hnat, hc1, hc2, hat⟩ := hv.open_
  change TrsAt w _ [] A 0 at hat
  have HAT := Lib.hid hat
  clear hv hat
  unfold ndV
  simp only [Tr.d, Tr.ks, List.length_cons, List.length_nil, Nat.zero_add, Nat.reduceAdd] at hc1 ⊢
  go_enter Tryz.func144, Tryz.ntmps144
  go_wp2_with fail
  refine wp_loop_rounds 1 ?_
  rw [rounds_succ]
  go_wp2_with fail
  go_ret2
  exact ⟨_, rfl, rfl, ((Ext.refl w).alloc _).alloc _⟩

set_option maxRecDepth 100000 in
set_option maxHeartbeats 2000000 in
theorem oft_num {L n : Nat} (hL : L ≤ 35184372088000) (ih : OfTIH L n) {z : Int} (t : Tr) (hsz : (Tm.num z).sz < n + 1) (h : IsTm L (.num z) t) (v : Value) (w : World) (hv : TrV w (fun _ => True) t v) : Calls Tryz.prog 144 #[v] w (RetTm L (.num z) w) := by
  have IH := Lib.hid ih
  clear ih
  obtain ⟨⟨kind, neg, ds, name, exp, rel, truth, all⟩, ks⟩ := t
  obtain ⟨hkind, hks, hz, hlen⟩ := h
  simp only [Tr.d] at hz hlen
  simp only [Tr.d] at hkind
  simp only [Tr.ks] at hks
  subst hkind hks
  obtain ⟨A0, n0, c0, A, c, rfl, hnat, hc1, hc2, hat⟩ := hv.open_
  change TrsAt w _ [] A 0 at hat
  have HAT := Lib.hid hat
  clear hv hat
  unfold ndV
  simp only [Tr.d, Tr.ks, List.length_cons, List.length_nil, Nat.zero_add, Nat.reduceAdd] at hc1 ⊢
  go_enter Tryz.func144, Tryz.ntmps144
  go_wp2_with fail
  refine wp_loop_rounds 1 ?_
  rw [rounds_succ]
  go_wp2_with fail
  obtain ⟨W, hW⟩ : ∃ W, (w.alloc (.cells #[.int .i64 1, .bool neg, .slice A0 n0 c0, .string name, .int .i64 exp, .int .i64 rel, .bool truth, .bool all, .slice A 0 c] 163)).alloc (.cells #[.nilIface, .nilIface] 225) = W := ⟨_, rfl⟩
  have hWx : Ext w W := by rw [← hW]; exact ((Ext.refl w).alloc _).alloc _
  rw [hW]
  clear hW
  have hint : IntR W (.agg #[.bool neg, .slice A0 n0 c0]) z L := ⟨neg, _, ds, rfl, hnat.ext hWx, hz, hlen⟩
  refine (normal_int _ z L _ hint (by omega)).mono ?_
  rintro e w1 ⟨x1, rfl, m1, y1⟩
  have HFIN : Hid (TmV w1 L (.num z) (.iface 59 x1)) := ⟨x1, rfl, m1.raw.mono (by rw [hz, sgn_natAbs]; exact Nat.le_trans (dg_length_val_le hnat.digs) hlen)⟩
  have HX := Lib.hid (hWx.trans y1)
  obtain ⟨b1, A1, n1, c1, rfl⟩ := m1.unpack
  clear hint hz hnat hWx m1 y1
  go_wp2_with fail
  go_ret2
  exact ⟨_, rfl, HFIN.out, HX.out⟩

theorem oft_ih (L : Nat) (hL : L ≤ 35184372088000) (n : Nat) : OfTIH L n := by
  induction n with
  | zero => intro m t h; omega
  | succ n ih =>
    intro m t hsz h v w hv
    cases m with
    | num z => exact oft_num hL ih t hsz h v w hv
    | name s => exact oft_name ih t hsz h v w hv
    | add a b => exact oft_add ih t hsz h v w hv
    | sub a b => exact oft_sub ih t hsz h v w hv
    | mul a b => exact oft_mul ih t hsz h v w hv
    | neg a => exact oft_neg ih t hsz h v w hv
    | pow a e => exact oft_pow ih t hsz h v w hv
theorem ofTerm_any {L : Nat} (hL : L ≤ 35184372088000) (m : Tm) (t : Tr) (h : IsTm L m t) (v : Value) (w : World) {p : Nat → Prop} (hv : TrV w p t v) : Calls Tryz.prog 144 #[v] w (RetTm L m w) :=
  oft_ih L hL (m.sz + 1) m t (Nat.lt_succ_self _) h v w (hv.mono fun _ _ => trivial)
end Go.Proofs.YtdcapcpchcnidaaGreat

/- Layer 34: formula.Of: the formula of a tree. -/
namespace Go.Proofs.YtdcapcpchcnidaaGreat
open Go.RowKit

/-- The tree is a tree of this formula, with numbers of at most L words. -/
def IsFm (L : Nat) : Fm → Tr → Prop
  | .truth b, t => t.d.kind = 8 ∧ t.ks = [] ∧ t.d.truth = b
  | .atom l r k, t => t.d.kind = 9 ∧ t.d.rel = r ∧ 1 ≤ r ∧ r ≤ 6 ∧ ∃ x y, t.ks = [x, y] ∧ IsTm L l x ∧ IsTm L k y
  | .not f, t => t.d.kind = 10 ∧ ∃ x, t.ks = [x] ∧ IsFm L f x
  | .and f g, t => t.d.kind = 11 ∧ ∃ x y, t.ks = [x, y] ∧ IsFm L f x ∧ IsFm L g y
  | .or f g, t => t.d.kind = 12 ∧ ∃ x y, t.ks = [x, y] ∧ IsFm L f x ∧ IsFm L g y
  | .imp f g, t => t.d.kind = 13 ∧ ∃ x y, t.ks = [x, y] ∧ IsFm L f x ∧ IsFm L g y
  | .iff f g, t => t.d.kind = 14 ∧ ∃ x y, t.ks = [x, y] ∧ IsFm L f x ∧ IsFm L g y
  | .quant a s f, t => t.d.kind = 15 ∧ t.d.all = a ∧ t.d.name = s ∧ ∃ x, t.ks = [x] ∧ IsFm L f x

/-- A formula and no error. -/
def RetFm (L : Nat) (f : Fm) (w : World) (e : Ending) (w' : World) : Prop := ∃ v, e = .returned (.tuple #[v, .int .i64 0]) ∧ FmV w' L f v ∧ Ext w w'
def OfIH (L n : Nat) : Prop := ∀ (f : Fm) (t : Tr), f.sz < n → IsFm L f t → ∀ (v : Value) (w : World), TrV w (fun _ => True) t v → Calls Tryz.prog 95 #[v] w (RetFm L f w)

/-- The first kid and the second, cell by cell. -/
theorem TrsAt.kid0 {w : World} {p : Nat → Prop} {l : List Tr} {A : Option Addr} (h : TrsAt w p l A 0) (hk : 0 < l.length) : ∃ ad A0 n0 c0 A1 n1 c1, A = some ad ∧ ad.block < w.heap.size ∧ NdAt w ad l[0].d (.slice A0 n0 c0) (.slice A1 n1 c1) ∧ TrV w p l[0] (ndV l[0].d (.slice A0 n0 c0) (.slice A1 n1 c1)) := by
  obtain ⟨ad, A0, n0, c0, A1, n1, c1, e, hb, h1, h2⟩ := h.kid 0 hk
  exact ⟨ad, A0, n0, c0, A1, n1, c1, e, hb, h1, h2⟩
theorem NdAt.nine {w : World} {ad : Addr} {d : Nd} {s A : Value} (h : NdAt w (ad.add (1 * 9)) d s A) : w.cell? ⟨ad.block, ad.off + 9, none⟩ = some (.int .i64 d.kind) ∧ w.cell? ⟨ad.block, ad.off + 9 + 1, none⟩ = some (.bool d.neg) ∧ w.cell? ⟨ad.block, ad.off + 9 + 2, none⟩ = some s ∧ w.cell? ⟨ad.block, ad.off + 9 + 3, none⟩ = some (.string d.name) ∧ w.cell? ⟨ad.block, ad.off + 9 + 4, none⟩ = some (.int .i64 d.exp) ∧ w.cell? ⟨ad.block, ad.off + 9 + 5, none⟩ = some (.int .i64 d.rel) ∧ w.cell? ⟨ad.block, ad.off + 9 + 6, none⟩ = some (.bool d.truth) ∧ w.cell? ⟨ad.block, ad.off + 9 + 7, none⟩ = some (.bool d.all) ∧ w.cell? ⟨ad.block, ad.off + 9 + 8, none⟩ = some A := h

set_option maxRecDepth 100000 in
set_option maxHeartbeats 2000000 in
theorem off_and {L n : Nat} (ih : OfIH L n) {f g : Fm} (t : Tr) (hsz : (Fm.and f g).sz < n + 1) (h : IsFm L (.and f g) t) (v : Value) (w : World) (hv : TrV w (fun _ => True) t v) : Calls Tryz.prog 122 #[v] w (RetFm L (.and f g) w) := by
  have IH := Lib.hid ih
  clear ih
  obtain ⟨⟨kind, neg, ds, name, exp, rel, truth, all⟩, ks⟩ := t
  obtain ⟨hkind, t0, t1, hks, h0, h1⟩ := h
  simp only [Tr.d] at hkind
  simp only [Tr.ks] at hks
  subst hkind hks
  simp only [Fm.sz] at hsz
  obtain ⟨A0, n0, c0, A, c, rfl, hnat, hc1, hc2, hat⟩ := hv.open_
  change TrsAt w _ [t0, t1] A 0 at hat
  have HAT := Lib.hid hat
  clear hv hat hnat
  unfold ndV
  simp only [Tr.d, Tr.ks, List.length_cons, List.length_nil, Nat.zero_add, Nat.reduceAdd] at hc1 ⊢
  obtain ⟨W, hW⟩ : ∃ W, w.alloc (.cells #[.int .i64 11, .bool neg, .slice A0 n0 c0, .string name, .int .i64 exp, .int .i64 rel, .bool truth, .bool all, .slice A 2 c] 163) = W := ⟨_, rfl⟩
  have hWx : Ext w W := by rw [← hW]; exact (Ext.refl w).alloc _
  have hbx : W.heap[w.heap.size]? = some (.cells #[.int .i64 11, .bool neg, .slice A0 n0 c0, .string name, .int .i64 exp, .int .i64 rel, .bool truth, .bool all, .slice A 2 c] 163) := by rw [← hW]; exact heap_alloc_new w _
  have hws : w.heap.size < W.heap.size := by rw [← hW]; simp
  have b0W : W.cell? ⟨w.heap.size, 0, none⟩ = some (.int .i64 11) := by simp [World.cell?, hbx]
  have b3W : W.cell? ⟨w.heap.size, 3, none⟩ = some (.string name) := by simp [World.cell?, hbx]
  have b5W : W.cell? ⟨w.heap.size, 5, none⟩ = some (.int .i64 rel) := by simp [World.cell?, hbx]
  have b7W : W.cell? ⟨w.heap.size, 7, none⟩ = some (.bool all) := by simp [World.cell?, hbx]
  have b8W : W.cell? ⟨w.heap.size, 8, none⟩ = some (.slice A 2 c) := by simp [World.cell?, hbx]
  obtain ⟨ad, B0, m0, d0, B1, m1, d1', hA, hadb, ⟨e0, e1, e2, e3, e4, e5, e6, e7, e8⟩, hkt⟩ := (HAT.out.ext hWx).kid0 (by simp)
  subst hA
  have HKT := Lib.hid hkt
  have HWX := Lib.hid hWx
  have HBX := Lib.hid hbx
  clear hkt hWx hbx
  simp only [List.getElem_cons_zero] at e0 e1 e3 e4 e5 e6 e7
  go_enter Tryz.func122, Tryz.ntmps122
  go_wp2_with fail
  refine (IH.out f t0 (by omega) h0 _ _ HKT.out).mono ?_
  rintro e w1 ⟨v1, rfl, f1, x1⟩
  have F1 := Lib.hid f1
  obtain ⟨T1, u1, rfl⟩ := f1.iface
  clear f1 b0W b3W b5W b7W b8W e0 e1 e2 e3 e4 e5 e6 e7 e8
  have X1 := Lib.hid x1
  have hbx_w1 : w1.heap[w.heap.size]? = some (.cells #[.int .i64 11, .bool neg, .slice A0 n0 c0, .string name, .int .i64 exp, .int .i64 rel, .bool truth, .bool all, .slice (some ad) 2 c] 163) := (x1.below.block _ hws).trans HBX.out
  have b0w1 : w1.cell? ⟨w.heap.size, 0, none⟩ = some (.int .i64 11) := by simp [World.cell?, hbx_w1]
  have b3w1 : w1.cell? ⟨w.heap.size, 3, none⟩ = some (.string name) := by simp [World.cell?, hbx_w1]
  have b5w1 : w1.cell? ⟨w.heap.size, 5, none⟩ = some (.int .i64 rel) := by simp [World.cell?, hbx_w1]
  have b7w1 : w1.cell? ⟨w.heap.size, 7, none⟩ = some (.bool all) := by simp [World.cell?, hbx_w1]
  have b8w1 : w1.cell? ⟨w.heap.size, 8, none⟩ = some (.slice (some ad) 2 c) := by simp [World.cell?, hbx_w1]
  obtain ⟨ad', B0, m0, d0, B1, m1, d1', hA, hadb, hnd, hkt⟩ := (HAT.out.ext (HWX.out.trans X1.out)).kid 1 (by simp)
  obtain ⟨e0, e1, e2, e3, e4, e5, e6, e7, e8⟩ := hnd.nine
  clear hnd
  injection hA with hA
  subst hA
  have HKT2 := Lib.hid hkt
  simp only [List.getElem_cons_succ, List.getElem_cons_zero] at e0 e1 e3 e4 e5 e6 e7
  clear hkt x1 hbx_w1
  go_wp2_with fail
  refine (IH.out g t1 (by omega) h1 _ _ HKT2.out).mono ?_
  rintro e w2 ⟨v2, rfl, f2, x2⟩
  have F2 := Lib.hid f2
  obtain ⟨T2, u2, rfl⟩ := f2.iface
  clear f2 b0w1 b3w1 b5w1 b7w1 b8w1 e0 e1 e2 e3 e4 e5 e6 e7 e8
  have X2 := Lib.hid (X1.out.trans x2)
  have hbx_w2 : w2.heap[w.heap.size]? = some (.cells #[.int .i64 11, .bool neg, .slice A0 n0 c0, .string name, .int .i64 exp, .int .i64 rel, .bool truth, .bool all, .slice (some ad) 2 c] 163) := (X2.out.below.block _ hws).trans HBX.out
  have F1' := Lib.hid (F1.out.ext x2)
  have b0w2 : w2.cell? ⟨w.heap.size, 0, none⟩ = some (.int .i64 11) := by simp [World.cell?, hbx_w2]
  have b3w2 : w2.cell? ⟨w.heap.size, 3, none⟩ = some (.string name) := by simp [World.cell?, hbx_w2]
  have b5w2 : w2.cell? ⟨w.heap.size, 5, none⟩ = some (.int .i64 rel) := by simp [World.cell?, hbx_w2]
  have b7w2 : w2.cell? ⟨w.heap.size, 7, none⟩ = some (.bool all) := by simp [World.cell?, hbx_w2]
  have b8w2 : w2.cell? ⟨w.heap.size, 8, none⟩ = some (.slice (some ad) 2 c) := by simp [World.cell?, hbx_w2]
  clear x2 hbx_w2
  have HFIN : Hid (FmV w2 L (.and f g) (.iface 130 (.agg #[.iface T1 u1, .iface T2 u2]))) := ⟨_, _, rfl, F1'.out, F2.out⟩
  have HX := Lib.hid (HWX.out.trans X2.out)
  go_wp2_with fail
  go_ret2
  exact ⟨_, rfl, HFIN.out, HX.out⟩

set_option maxRecDepth 100000 in
theorem ofq_and {L n : Nat} (ih : OfIH L n) {f g : Fm} (t : Tr) (hsz : (Fm.and f g).sz < n + 1) (h : IsFm L (.and f g) t) (v : Value) (w : World) (hv : TrV w (fun _ => True) t v) : Calls Tryz.prog 95 #[v] w (RetFm L (.and f g) w) := by
  have H := Lib.hid (fun w' (hx : Ext w w') => off_and ih t hsz h v w' (hv.ext hx))
  have hkind : t.d.kind = 11 := h.1
  clear h ih hsz
  obtain ⟨⟨kind, neg, ds, name, exp, rel, truth, all⟩, ks⟩ := t
  simp only [Tr.d] at hkind
  subst hkind
  obtain ⟨A0, n0, c0, A, c, rfl, hnat, hc1, hc2, hat⟩ := hv.open_
  clear hv hat hnat hc1 hc2
  unfold ndV at H ⊢
  simp only [Tr.d, Tr.ks] at H ⊢
  go_enter Tryz.func95, Tryz.ntmps95
  go_wp2_with fail
  refine (H.out _ ((Ext.refl w).alloc _)).mono ?_
  rintro e w1 ⟨v1, rfl, f1, x1⟩
  have F1 := Lib.hid f1
  have X1 := Lib.hid (((Ext.refl w).alloc _).trans x1)
  obtain ⟨T1, u1, rfl⟩ := f1.iface
  clear f1 x1 H
  go_wp2_with fail
  go_ret2
  exact ⟨_, rfl, F1.out, X1.out⟩

set_option maxRecDepth 100000 in
set_option maxHeartbeats 2000000 in
theorem off_or {L n : Nat} (ih : OfIH L n) {f g : Fm} (t : Tr) (hsz : (Fm.or f g).sz < n + 1) (h : IsFm L (.or f g) t) (v : Value) (w : World) (hv : TrV w (fun _ => True) t v) : Calls Tryz.prog 122 #[v] w (RetFm L (.or f g) w) := by
  have IH := Lib.hid ih
  clear ih
  obtain ⟨⟨kind, neg, ds, name, exp, rel, truth, all⟩, ks⟩ := t
  obtain ⟨hkind, t0, t1, hks, h0, h1⟩ := h
  simp only [Tr.d] at hkind
  simp only [Tr.ks] at hks
  subst hkind hks
  simp only [Fm.sz] at hsz
  obtain ⟨A0, n0, c0, A, c, rfl, hnat, hc1, hc2, hat⟩ := hv.open_
  change TrsAt w _ [t0, t1] A 0 at hat
  have HAT := Lib.hid hat
  clear hv hat hnat
  unfold ndV
  simp only [Tr.d, Tr.ks, List.length_cons, List.length_nil, Nat.zero_add, Nat.reduceAdd] at hc1 ⊢
  obtain ⟨W, hW⟩ : ∃ W, w.alloc (.cells #[.int .i64 12, .bool neg, .slice A0 n0 c0, .string name, .int .i64 exp, .int .i64 rel, .bool truth, .bool all, .slice A 2 c] 163) = W := ⟨_, rfl⟩
  have hWx : Ext w W := by rw [← hW]; exact (Ext.refl w).alloc _
  have hbx : W.heap[w.heap.size]? = some (.cells #[.int .i64 12, .bool neg, .slice A0 n0 c0, .string name, .int .i64 exp, .int .i64 rel, .bool truth, .bool all, .slice A 2 c] 163) := by rw [← hW]; exact heap_alloc_new w _
  have hws : w.heap.size < W.heap.size := by rw [← hW]; simp
  have b0W : W.cell? ⟨w.heap.size, 0, none⟩ = some (.int .i64 12) := by simp [World.cell?, hbx]
  have b3W : W.cell? ⟨w.heap.size, 3, none⟩ = some (.string name) := by simp [World.cell?, hbx]
  have b5W : W.cell? ⟨w.heap.size, 5, none⟩ = some (.int .i64 rel) := by simp [World.cell?, hbx]
  have b7W : W.cell? ⟨w.heap.size, 7, none⟩ = some (.bool all) := by simp [World.cell?, hbx]
  have b8W : W.cell? ⟨w.heap.size, 8, none⟩ = some (.slice A 2 c) := by simp [World.cell?, hbx]
  obtain ⟨ad, B0, m0, d0, B1, m1, d1', hA, hadb, ⟨e0, e1, e2, e3, e4, e5, e6, e7, e8⟩, hkt⟩ := (HAT.out.ext hWx).kid0 (by simp)
  subst hA
  have HKT := Lib.hid hkt
  have HWX := Lib.hid hWx
  have HBX := Lib.hid hbx
  clear hkt hWx hbx
  simp only [List.getElem_cons_zero] at e0 e1 e3 e4 e5 e6 e7
  go_enter Tryz.func122, Tryz.ntmps122
  go_wp2_with fail
  refine (IH.out f t0 (by omega) h0 _ _ HKT.out).mono ?_
  rintro e w1 ⟨v1, rfl, f1, x1⟩
  have F1 := Lib.hid f1
  obtain ⟨T1, u1, rfl⟩ := f1.iface
  clear f1 b0W b3W b5W b7W b8W e0 e1 e2 e3 e4 e5 e6 e7 e8
  have X1 := Lib.hid x1
  have hbx_w1 : w1.heap[w.heap.size]? = some (.cells #[.int .i64 12, .bool neg, .slice A0 n0 c0, .string name, .int .i64 exp, .int .i64 rel, .bool truth, .bool all, .slice (some ad) 2 c] 163) := (x1.below.block _ hws).trans HBX.out
  have b0w1 : w1.cell? ⟨w.heap.size, 0, none⟩ = some (.int .i64 12) := by simp [World.cell?, hbx_w1]
  have b3w1 : w1.cell? ⟨w.heap.size, 3, none⟩ = some (.string name) := by simp [World.cell?, hbx_w1]
  have b5w1 : w1.cell? ⟨w.heap.size, 5, none⟩ = some (.int .i64 rel) := by simp [World.cell?, hbx_w1]
  have b7w1 : w1.cell? ⟨w.heap.size, 7, none⟩ = some (.bool all) := by simp [World.cell?, hbx_w1]
  have b8w1 : w1.cell? ⟨w.heap.size, 8, none⟩ = some (.slice (some ad) 2 c) := by simp [World.cell?, hbx_w1]
  obtain ⟨ad', B0, m0, d0, B1, m1, d1', hA, hadb, hnd, hkt⟩ := (HAT.out.ext (HWX.out.trans X1.out)).kid 1 (by simp)
  obtain ⟨e0, e1, e2, e3, e4, e5, e6, e7, e8⟩ := hnd.nine
  clear hnd
  injection hA with hA
  subst hA
  have HKT2 := Lib.hid hkt
  simp only [List.getElem_cons_succ, List.getElem_cons_zero] at e0 e1 e3 e4 e5 e6 e7
  clear hkt x1 hbx_w1
  go_wp2_with fail
  refine (IH.out g t1 (by omega) h1 _ _ HKT2.out).mono ?_
  rintro e w2 ⟨v2, rfl, f2, x2⟩
  have F2 := Lib.hid f2
  obtain ⟨T2, u2, rfl⟩ := f2.iface
  clear f2 b0w1 b3w1 b5w1 b7w1 b8w1 e0 e1 e2 e3 e4 e5 e6 e7 e8
  have X2 := Lib.hid (X1.out.trans x2)
  have hbx_w2 : w2.heap[w.heap.size]? = some (.cells #[.int .i64 12, .bool neg, .slice A0 n0 c0, .string name, .int .i64 exp, .int .i64 rel, .bool truth, .bool all, .slice (some ad) 2 c] 163) := (X2.out.below.block _ hws).trans HBX.out
  have F1' := Lib.hid (F1.out.ext x2)
  have b0w2 : w2.cell? ⟨w.heap.size, 0, none⟩ = some (.int .i64 12) := by simp [World.cell?, hbx_w2]
  have b3w2 : w2.cell? ⟨w.heap.size, 3, none⟩ = some (.string name) := by simp [World.cell?, hbx_w2]
  have b5w2 : w2.cell? ⟨w.heap.size, 5, none⟩ = some (.int .i64 rel) := by simp [World.cell?, hbx_w2]
  have b7w2 : w2.cell? ⟨w.heap.size, 7, none⟩ = some (.bool all) := by simp [World.cell?, hbx_w2]
  have b8w2 : w2.cell? ⟨w.heap.size, 8, none⟩ = some (.slice (some ad) 2 c) := by simp [World.cell?, hbx_w2]
  clear x2 hbx_w2
  have HFIN : Hid (FmV w2 L (.or f g) (.iface 131 (.agg #[.iface T1 u1, .iface T2 u2]))) := ⟨_, _, rfl, F1'.out, F2.out⟩
  have HX := Lib.hid (HWX.out.trans X2.out)
  go_wp2_with fail
  go_ret2
  exact ⟨_, rfl, HFIN.out, HX.out⟩

set_option maxRecDepth 100000 in
theorem ofq_or {L n : Nat} (ih : OfIH L n) {f g : Fm} (t : Tr) (hsz : (Fm.or f g).sz < n + 1) (h : IsFm L (.or f g) t) (v : Value) (w : World) (hv : TrV w (fun _ => True) t v) : Calls Tryz.prog 95 #[v] w (RetFm L (.or f g) w) := by
  have H := Lib.hid (fun w' (hx : Ext w w') => off_or ih t hsz h v w' (hv.ext hx))
  have hkind : t.d.kind = 12 := h.1
  clear h ih hsz
  obtain ⟨⟨kind, neg, ds, name, exp, rel, truth, all⟩, ks⟩ := t
  simp only [Tr.d] at hkind
  subst hkind
  obtain ⟨A0, n0, c0, A, c, rfl, hnat, hc1, hc2, hat⟩ := hv.open_
  clear hv hat hnat hc1 hc2
  unfold ndV at H ⊢
  simp only [Tr.d, Tr.ks] at H ⊢
  go_enter Tryz.func95, Tryz.ntmps95
  go_wp2_with fail
  refine (H.out _ ((Ext.refl w).alloc _)).mono ?_
  rintro e w1 ⟨v1, rfl, f1, x1⟩
  have F1 := Lib.hid f1
  have X1 := Lib.hid (((Ext.refl w).alloc _).trans x1)
  obtain ⟨T1, u1, rfl⟩ := f1.iface
  clear f1 x1 H
  go_wp2_with fail
  go_ret2
  exact ⟨_, rfl, F1.out, X1.out⟩

set_option maxRecDepth 100000 in
set_option maxHeartbeats 2000000 in
theorem off_imp {L n : Nat} (ih : OfIH L n) {f g : Fm} (t : Tr) (hsz : (Fm.imp f g).sz < n + 1) (h : IsFm L (.imp f g) t) (v : Value) (w : World) (hv : TrV w (fun _ => True) t v) : Calls Tryz.prog 122 #[v] w (RetFm L (.imp f g) w) := by
  have IH := Lib.hid ih
  clear ih
  obtain ⟨⟨kind, neg, ds, name, exp, rel, truth, all⟩, ks⟩ := t
  obtain ⟨hkind, t0, t1, hks, h0, h1⟩ := h
  simp only [Tr.d] at hkind
  simp only [Tr.ks] at hks
  subst hkind hks
  simp only [Fm.sz] at hsz
  obtain ⟨A0, n0, c0, A, c, rfl, hnat, hc1, hc2, hat⟩ := hv.open_
  change TrsAt w _ [t0, t1] A 0 at hat
  have HAT := Lib.hid hat
  clear hv hat hnat
  unfold ndV
  simp only [Tr.d, Tr.ks, List.length_cons, List.length_nil, Nat.zero_add, Nat.reduceAdd] at hc1 ⊢
  obtain ⟨W, hW⟩ : ∃ W, w.alloc (.cells #[.int .i64 13, .bool neg, .slice A0 n0 c0, .string name, .int .i64 exp, .int .i64 rel, .bool truth, .bool all, .slice A 2 c] 163) = W := ⟨_, rfl⟩
  have hWx : Ext w W := by rw [← hW]; exact (Ext.refl w).alloc _
  have hbx : W.heap[w.heap.size]? = some (.cells #[.int .i64 13, .bool neg, .slice A0 n0 c0, .string name, .int .i64 exp, .int .i64 rel, .bool truth, .bool all, .slice A 2 c] 163) := by rw [← hW]; exact heap_alloc_new w _
  have hws : w.heap.size < W.heap.size := by rw [← hW]; simp
  have b0W : W.cell? ⟨w.heap.size, 0, none⟩ = some (.int .i64 13) := by simp [World.cell?, hbx]
  have b3W : W.cell? ⟨w.heap.size, 3, none⟩ = some (.string name) := by simp [World.cell?, hbx]
  have b5W : W.cell? ⟨w.heap.size, 5, none⟩ = some (.int .i64 rel) := by simp [World.cell?, hbx]
  have b7W : W.cell? ⟨w.heap.size, 7, none⟩ = some (.bool all) := by simp [World.cell?, hbx]
  have b8W : W.cell? ⟨w.heap.size, 8, none⟩ = some (.slice A 2 c) := by simp [World.cell?, hbx]
  obtain ⟨ad, B0, m0, d0, B1, m1, d1', hA, hadb, ⟨e0, e1, e2, e3, e4, e5, e6, e7, e8⟩, hkt⟩ := (HAT.out.ext hWx).kid0 (by simp)
  subst hA
  have HKT := Lib.hid hkt
  have HWX := Lib.hid hWx
  have HBX := Lib.hid hbx
  clear hkt hWx hbx
  simp only [List.getElem_cons_zero] at e0 e1 e3 e4 e5 e6 e7
  go_enter Tryz.func122, Tryz.ntmps122
  go_wp2_with fail
  refine (IH.out f t0 (by omega) h0 _ _ HKT.out).mono ?_
  rintro e w1 ⟨v1, rfl, f1, x1⟩
  have F1 := Lib.hid f1
  obtain ⟨T1, u1, rfl⟩ := f1.iface
  clear f1 b0W b3W b5W b7W b8W e0 e1 e2 e3 e4 e5 e6 e7 e8
  have X1 := Lib.hid x1
  have hbx_w1 : w1.heap[w.heap.size]? = some (.cells #[.int .i64 13, .bool neg, .slice A0 n0 c0, .string name, .int .i64 exp, .int .i64 rel, .bool truth, .bool all, .slice (some ad) 2 c] 163) := (x1.below.block _ hws).trans HBX.out
  have b0w1 : w1.cell? ⟨w.heap.size, 0, none⟩ = some (.int .i64 13) := by simp [World.cell?, hbx_w1]
  have b3w1 : w1.cell? ⟨w.heap.size, 3, none⟩ = some (.string name) := by simp [World.cell?, hbx_w1]
  have b5w1 : w1.cell? ⟨w.heap.size, 5, none⟩ = some (.int .i64 rel) := by simp [World.cell?, hbx_w1]
  have b7w1 : w1.cell? ⟨w.heap.size, 7, none⟩ = some (.bool all) := by simp [World.cell?, hbx_w1]
  have b8w1 : w1.cell? ⟨w.heap.size, 8, none⟩ = some (.slice (some ad) 2 c) := by simp [World.cell?, hbx_w1]
  obtain ⟨ad', B0, m0, d0, B1, m1, d1', hA, hadb, hnd, hkt⟩ := (HAT.out.ext (HWX.out.trans X1.out)).kid 1 (by simp)
  obtain ⟨e0, e1, e2, e3, e4, e5, e6, e7, e8⟩ := hnd.nine
  clear hnd
  injection hA with hA
  subst hA
  have HKT2 := Lib.hid hkt
  simp only [List.getElem_cons_succ, List.getElem_cons_zero] at e0 e1 e3 e4 e5 e6 e7
  clear hkt x1 hbx_w1
  go_wp2_with fail
  refine (IH.out g t1 (by omega) h1 _ _ HKT2.out).mono ?_
  rintro e w2 ⟨v2, rfl, f2, x2⟩
  have F2 := Lib.hid f2
  obtain ⟨T2, u2, rfl⟩ := f2.iface
  clear f2 b0w1 b3w1 b5w1 b7w1 b8w1 e0 e1 e2 e3 e4 e5 e6 e7 e8
  have X2 := Lib.hid (X1.out.trans x2)
  have hbx_w2 : w2.heap[w.heap.size]? = some (.cells #[.int .i64 13, .bool neg, .slice A0 n0 c0, .string name, .int .i64 exp, .int .i64 rel, .bool truth, .bool all, .slice (some ad) 2 c] 163) := (X2.out.below.block _ hws).trans HBX.out
  have F1' := Lib.hid (F1.out.ext x2)
  have b0w2 : w2.cell? ⟨w.heap.size, 0, none⟩ = some (.int .i64 13) := by simp [World.cell?, hbx_w2]
  have b3w2 : w2.cell? ⟨w.heap.size, 3, none⟩ = some (.string name) := by simp [World.cell?, hbx_w2]
  have b5w2 : w2.cell? ⟨w.heap.size, 5, none⟩ = some (.int .i64 rel) := by simp [World.cell?, hbx_w2]
  have b7w2 : w2.cell? ⟨w.heap.size, 7, none⟩ = some (.bool all) := by simp [World.cell?, hbx_w2]
  have b8w2 : w2.cell? ⟨w.heap.size, 8, none⟩ = some (.slice (some ad) 2 c) := by simp [World.cell?, hbx_w2]
  clear x2 hbx_w2
  have HFIN : Hid (FmV w2 L (.imp f g) (.iface 132 (.agg #[.iface T1 u1, .iface T2 u2]))) := ⟨_, _, rfl, F1'.out, F2.out⟩
  have HX := Lib.hid (HWX.out.trans X2.out)
  go_wp2_with fail
  go_ret2
  exact ⟨_, rfl, HFIN.out, HX.out⟩

set_option maxRecDepth 100000 in
theorem ofq_imp {L n : Nat} (ih : OfIH L n) {f g : Fm} (t : Tr) (hsz : (Fm.imp f g).sz < n + 1) (h : IsFm L (.imp f g) t) (v : Value) (w : World) (hv : TrV w (fun _ => True) t v) : Calls Tryz.prog 95 #[v] w (RetFm L (.imp f g) w) := by
  have H := Lib.hid (fun w' (hx : Ext w w') => off_imp ih t hsz h v w' (hv.ext hx))
  have hkind : t.d.kind = 13 := h.1
  clear h ih hsz
  obtain ⟨⟨kind, neg, ds, name, exp, rel, truth, all⟩, ks⟩ := t
  simp only [Tr.d] at hkind
  subst hkind
  obtain ⟨A0, n0, c0, A, c, rfl, hnat, hc1, hc2, hat⟩ := hv.open_
  clear hv hat hnat hc1 hc2
  unfold ndV at H ⊢
  simp only [Tr.d, Tr.ks] at H ⊢
  go_enter Tryz.func95, Tryz.ntmps95
  go_wp2_with fail
  refine (H.out _ ((Ext.refl w).alloc _)).mono ?_
  rintro e w1 ⟨v1, rfl, f1, x1⟩
  have F1 := Lib.hid f1
  have X1 := Lib.hid (((Ext.refl w).alloc _).trans x1)
  obtain ⟨T1, u1, rfl⟩ := f1.iface
  clear f1 x1 H
  go_wp2_with fail
  go_ret2
  exact ⟨_, rfl, F1.out, X1.out⟩

set_option maxRecDepth 100000 in
set_option maxHeartbeats 2000000 in
theorem off_iff {L n : Nat} (ih : OfIH L n) {f g : Fm} (t : Tr) (hsz : (Fm.iff f g).sz < n + 1) (h : IsFm L (.iff f g) t) (v : Value) (w : World) (hv : TrV w (fun _ => True) t v) : Calls Tryz.prog 122 #[v] w (RetFm L (.iff f g) w) := by
  have IH := Lib.hid ih
  clear ih
  obtain ⟨⟨kind, neg, ds, name, exp, rel, truth, all⟩, ks⟩ := t
  obtain ⟨hkind, t0, t1, hks, h0, h1⟩ := h
  simp only [Tr.d] at hkind
  simp only [Tr.ks] at hks
  subst hkind hks
  simp only [Fm.sz] at hsz
  obtain ⟨A0, n0, c0, A, c, rfl, hnat, hc1, hc2, hat⟩ := hv.open_
  change TrsAt w _ [t0, t1] A 0 at hat
  have HAT := Lib.hid hat
  clear hv hat hnat
  unfold ndV
  simp only [Tr.d, Tr.ks, List.length_cons, List.length_nil, Nat.zero_add, Nat.reduceAdd] at hc1 ⊢
  obtain ⟨W, hW⟩ : ∃ W, w.alloc (.cells #[.int .i64 14, .bool neg, .slice A0 n0 c0, .string name, .int .i64 exp, .int .i64 rel, .bool truth, .bool all, .slice A 2 c] 163) = W := ⟨_, rfl⟩
  have hWx : Ext w W := by rw [← hW]; exact (Ext.refl w).alloc _
  have hbx : W.heap[w.heap.size]? = some (.cells #[.int .i64 14, .bool neg, .slice A0 n0 c0, .string name, .int .i64 exp, .int .i64 rel, .bool truth, .bool all, .slice A 2 c] 163) := by rw [← hW]; exact heap_alloc_new w _
  have hws : w.heap.size < W.heap.size := by rw [← hW]; simp
  have b0W : W.cell? ⟨w.heap.size, 0, none⟩ = some (.int .i64 14) := by simp [World.cell?, hbx]
  have b3W : W.cell? ⟨w.heap.size, 3, none⟩ = some (.string name) := by simp [World.cell?, hbx]
  have b5W : W.cell? ⟨w.heap.size, 5, none⟩ = some (.int .i64 rel) := by simp [World.cell?, hbx]
  have b7W : W.cell? ⟨w.heap.size, 7, none⟩ = some (.bool all) := by simp [World.cell?, hbx]
  have b8W : W.cell? ⟨w.heap.size, 8, none⟩ = some (.slice A 2 c) := by simp [World.cell?, hbx]
  obtain ⟨ad, B0, m0, d0, B1, m1, d1', hA, hadb, ⟨e0, e1, e2, e3, e4, e5, e6, e7, e8⟩, hkt⟩ := (HAT.out.ext hWx).kid0 (by simp)
  subst hA
  have HKT := Lib.hid hkt
  have HWX := Lib.hid hWx
  have HBX := Lib.hid hbx
  clear hkt hWx hbx
  simp only [List.getElem_cons_zero] at e0 e1 e3 e4 e5 e6 e7
  go_enter Tryz.func122, Tryz.ntmps122
  go_wp2_with fail
  refine (IH.out f t0 (by omega) h0 _ _ HKT.out).mono ?_
  rintro e w1 ⟨v1, rfl, f1, x1⟩
  have F1 := Lib.hid f1
  obtain ⟨T1, u1, rfl⟩ := f1.iface
  clear f1 b0W b3W b5W b7W b8W e0 e1 e2 e3 e4 e5 e6 e7 e8
  have X1 := Lib.hid x1
  have hbx_w1 : w1.heap[w.heap.size]? = some (.cells #[.int .i64 14, .bool neg, .slice A0 n0 c0, .string name, .int .i64 exp, .int .i64 rel, .bool truth, .bool all, .slice (some ad) 2 c] 163) := (x1.below.block _ hws).trans HBX.out
  have b0w1 : w1.cell? ⟨w.heap.size, 0, none⟩ = some (.int .i64 14) := by simp [World.cell?, hbx_w1]
  have b3w1 : w1.cell? ⟨w.heap.size, 3, none⟩ = some (.string name) := by simp [World.cell?, hbx_w1]
  have b5w1 : w1.cell? ⟨w.heap.size, 5, none⟩ = some (.int .i64 rel) := by simp [World.cell?, hbx_w1]
  have b7w1 : w1.cell? ⟨w.heap.size, 7, none⟩ = some (.bool all) := by simp [World.cell?, hbx_w1]
  have b8w1 : w1.cell? ⟨w.heap.size, 8, none⟩ = some (.slice (some ad) 2 c) := by simp [World.cell?, hbx_w1]
  obtain ⟨ad', B0, m0, d0, B1, m1, d1', hA, hadb, hnd, hkt⟩ := (HAT.out.ext (HWX.out.trans X1.out)).kid 1 (by simp)
  obtain ⟨e0, e1, e2, e3, e4, e5, e6, e7, e8⟩ := hnd.nine
  clear hnd
  injection hA with hA
  subst hA
  have HKT2 := Lib.hid hkt
  simp only [List.getElem_cons_succ, List.getElem_cons_zero] at e0 e1 e3 e4 e5 e6 e7
  clear hkt x1 hbx_w1
  go_wp2_with fail
  refine (IH.out g t1 (by omega) h1 _ _ HKT2.out).mono ?_
  rintro e w2 ⟨v2, rfl, f2, x2⟩
  have F2 := Lib.hid f2
  obtain ⟨T2, u2, rfl⟩ := f2.iface
  clear f2 b0w1 b3w1 b5w1 b7w1 b8w1 e0 e1 e2 e3 e4 e5 e6 e7 e8
  have X2 := Lib.hid (X1.out.trans x2)
  have hbx_w2 : w2.heap[w.heap.size]? = some (.cells #[.int .i64 14, .bool neg, .slice A0 n0 c0, .string name, .int .i64 exp, .int .i64 rel, .bool truth, .bool all, .slice (some ad) 2 c] 163) := (X2.out.below.block _ hws).trans HBX.out
  have F1' := Lib.hid (F1.out.ext x2)
  have b0w2 : w2.cell? ⟨w.heap.size, 0, none⟩ = some (.int .i64 14) := by simp [World.cell?, hbx_w2]
  have b3w2 : w2.cell? ⟨w.heap.size, 3, none⟩ = some (.string name) := by simp [World.cell?, hbx_w2]
  have b5w2 : w2.cell? ⟨w.heap.size, 5, none⟩ = some (.int .i64 rel) := by simp [World.cell?, hbx_w2]
  have b7w2 : w2.cell? ⟨w.heap.size, 7, none⟩ = some (.bool all) := by simp [World.cell?, hbx_w2]
  have b8w2 : w2.cell? ⟨w.heap.size, 8, none⟩ = some (.slice (some ad) 2 c) := by simp [World.cell?, hbx_w2]
  clear x2 hbx_w2
  have HFIN : Hid (FmV w2 L (.iff f g) (.iface 133 (.agg #[.iface T1 u1, .iface T2 u2]))) := ⟨_, _, rfl, F1'.out, F2.out⟩
  have HX := Lib.hid (HWX.out.trans X2.out)
  go_wp2_with fail
  go_ret2
  exact ⟨_, rfl, HFIN.out, HX.out⟩

set_option maxRecDepth 100000 in
theorem ofq_iff {L n : Nat} (ih : OfIH L n) {f g : Fm} (t : Tr) (hsz : (Fm.iff f g).sz < n + 1) (h : IsFm L (.iff f g) t) (v : Value) (w : World) (hv : TrV w (fun _ => True) t v) : Calls Tryz.prog 95 #[v] w (RetFm L (.iff f g) w) := by
  have H := Lib.hid (fun w' (hx : Ext w w') => off_iff ih t hsz h v w' (hv.ext hx))
  have hkind : t.d.kind = 14 := h.1
  clear h ih hsz
  obtain ⟨⟨kind, neg, ds, name, exp, rel, truth, all⟩, ks⟩ := t
  simp only [Tr.d] at hkind
  subst hkind
  obtain ⟨A0, n0, c0, A, c, rfl, hnat, hc1, hc2, hat⟩ := hv.open_
  clear hv hat hnat hc1 hc2
  unfold ndV at H ⊢
  simp only [Tr.d, Tr.ks] at H ⊢
  go_enter Tryz.func95, Tryz.ntmps95
  go_wp2_with fail
  refine (H.out _ ((Ext.refl w).alloc _)).mono ?_
  rintro e w1 ⟨v1, rfl, f1, x1⟩
  have F1 := Lib.hid f1
  have X1 := Lib.hid (((Ext.refl w).alloc _).trans x1)
  obtain ⟨T1, u1, rfl⟩ := f1.iface
  clear f1 x1 H
  go_wp2_with fail
  go_ret2
  exact ⟨_, rfl, F1.out, X1.out⟩

set_option maxRecDepth 100000 in
set_option maxHeartbeats 2000000 in
theorem off_not {L n : Nat} (ih : OfIH L n) {f : Fm} (t : Tr) (hsz : (Fm.not f).sz < n + 1) (h : IsFm L (.not f) t) (v : Value) (w : World) (hv : TrV w (fun _ => True) t v) : Calls Tryz.prog 121 #[v] w (RetFm L (.not f) w) := by
  have IH := Lib.hid ih
  clear ih
  obtain ⟨⟨kind, neg, ds, name, exp, rel, truth, all⟩, ks⟩ := t
  obtain ⟨hkind, t0, hks, h0⟩ := h
  simp only [Tr.d] at hkind
  simp only [Tr.ks] at hks
  subst hkind hks
  simp only [Fm.sz] at hsz
  obtain ⟨A0, n0, c0, A, c, rfl, hnat, hc1, hc2, hat⟩ := hv.open_
  change TrsAt w _ [t0] A 0 at hat
  have HAT := Lib.hid hat
  clear hv hat hnat
  unfold ndV
  simp only [Tr.d, Tr.ks, List.length_cons, List.length_nil, Nat.zero_add, Nat.reduceAdd] at hc1 ⊢
  obtain ⟨W, hW⟩ : ∃ W, w.alloc (.cells #[.int .i64 10, .bool neg, .slice A0 n0 c0, .string name, .int .i64 exp, .int .i64 rel, .bool truth, .bool all, .slice A 1 c] 163) = W := ⟨_, rfl⟩
  have hWx : Ext w W := by rw [← hW]; exact (Ext.refl w).alloc _
  have hbx : W.heap[w.heap.size]? = some (.cells #[.int .i64 10, .bool neg, .slice A0 n0 c0, .string name, .int .i64 exp, .int .i64 rel, .bool truth, .bool all, .slice A 1 c] 163) := by rw [← hW]; exact heap_alloc_new w _
  have hws : w.heap.size < W.heap.size := by rw [← hW]; simp
  have b0W : W.cell? ⟨w.heap.size, 0, none⟩ = some (.int .i64 10) := by simp [World.cell?, hbx]
  have b3W : W.cell? ⟨w.heap.size, 3, none⟩ = some (.string name) := by simp [World.cell?, hbx]
  have b5W : W.cell? ⟨w.heap.size, 5, none⟩ = some (.int .i64 rel) := by simp [World.cell?, hbx]
  have b7W : W.cell? ⟨w.heap.size, 7, none⟩ = some (.bool all) := by simp [World.cell?, hbx]
  have b8W : W.cell? ⟨w.heap.size, 8, none⟩ = some (.slice A 1 c) := by simp [World.cell?, hbx]
  obtain ⟨ad, B0, m0, d0, B1, m1, d1', hA, hadb, ⟨e0, e1, e2, e3, e4, e5, e6, e7, e8⟩, hkt⟩ := (HAT.out.ext hWx).kid0 (by simp)
  subst hA
  have HKT := Lib.hid hkt
  have HWX := Lib.hid hWx
  have HBX := Lib.hid hbx
  clear hkt hWx hbx
  simp only [List.getElem_cons_zero] at e0 e1 e3 e4 e5 e6 e7
  go_enter Tryz.func121, Tryz.ntmps121
  go_wp2_with fail
  refine (IH.out f t0 (by omega) h0 _ _ HKT.out).mono ?_
  rintro e w1 ⟨v1, rfl, f1, x1⟩
  have F1 := Lib.hid f1
  obtain ⟨T1, u1, rfl⟩ := f1.iface
  clear f1 b0W b3W b5W b7W b8W e0 e1 e2 e3 e4 e5 e6 e7 e8
  have X1 := Lib.hid x1
  have hbx_w1 : w1.heap[w.heap.size]? = some (.cells #[.int .i64 10, .bool neg, .slice A0 n0 c0, .string name, .int .i64 exp, .int .i64 rel, .bool truth, .bool all, .slice (some ad) 1 c] 163) := (x1.below.block _ hws).trans HBX.out
  have b0w1 : w1.cell? ⟨w.heap.size, 0, none⟩ = some (.int .i64 10) := by simp [World.cell?, hbx_w1]
  have b3w1 : w1.cell? ⟨w.heap.size, 3, none⟩ = some (.string name) := by simp [World.cell?, hbx_w1]
  have b5w1 : w1.cell? ⟨w.heap.size, 5, none⟩ = some (.int .i64 rel) := by simp [World.cell?, hbx_w1]
  have b7w1 : w1.cell? ⟨w.heap.size, 7, none⟩ = some (.bool all) := by simp [World.cell?, hbx_w1]
  have b8w1 : w1.cell? ⟨w.heap.size, 8, none⟩ = some (.slice (some ad) 1 c) := by simp [World.cell?, hbx_w1]
  clear x1 hbx_w1
  have HFIN : Hid (FmV w1 L (.not f) (.iface 128 (.agg #[.iface T1 u1]))) := ⟨_, rfl, F1.out⟩
  have HX := Lib.hid (HWX.out.trans X1.out)
  go_wp2_with fail
  go_ret2
  exact ⟨_, rfl, HFIN.out, HX.out⟩

set_option maxRecDepth 100000 in
theorem ofq_not {L n : Nat} (ih : OfIH L n) {f : Fm} (t : Tr) (hsz : (Fm.not f).sz < n + 1) (h : IsFm L (.not f) t) (v : Value) (w : World) (hv : TrV w (fun _ => True) t v) : Calls Tryz.prog 95 #[v] w (RetFm L (.not f) w) := by
  have H := Lib.hid (fun w' (hx : Ext w w') => off_not ih t hsz h v w' (hv.ext hx))
  have hkind : t.d.kind = 10 := h.1
  clear h ih hsz
  obtain ⟨⟨kind, neg, ds, name, exp, rel, truth, all⟩, ks⟩ := t
  simp only [Tr.d] at hkind
  subst hkind
  obtain ⟨A0, n0, c0, A, c, rfl, hnat, hc1, hc2, hat⟩ := hv.open_
  clear hv hat hnat hc1 hc2
  unfold ndV at H ⊢
  simp only [Tr.d, Tr.ks] at H ⊢
  go_enter Tryz.func95, Tryz.ntmps95
  go_wp2_with fail
  refine (H.out _ ((Ext.refl w).alloc _)).mono ?_
  rintro e w1 ⟨v1, rfl, f1, x1⟩
  have F1 := Lib.hid f1
  have X1 := Lib.hid (((Ext.refl w).alloc _).trans x1)
  obtain ⟨T1, u1, rfl⟩ := f1.iface
  clear f1 x1 H
  go_wp2_with fail
  go_ret2
  exact ⟨_, rfl, F1.out, X1.out⟩

set_option maxRecDepth 100000 in
set_option maxHeartbeats 2000000 in
theorem off_quant {L n : Nat} (ih : OfIH L n) {al : Bool} {q : ByteArray} {f : Fm} (t : Tr) (hsz : (Fm.quant al q f).sz < n + 1) (h : IsFm L (.quant al q f) t) (v : Value) (w : World) (hv : TrV w (fun _ => True) t v) : Calls Tryz.prog 121 #[v] w (RetFm L (.quant al q f) w) := by
  have IH := Lib.hid ih
  clear ih
  obtain ⟨⟨kind, neg, ds, name, exp, rel, truth, all⟩, ks⟩ := t
  obtain ⟨hkind, hall, hname, t0, hks, h0⟩ := h
  simp only [Tr.d] at hall hname
  subst hall hname
  simp only [Tr.d] at hkind
  simp only [Tr.ks] at hks
  subst hkind hks
  simp only [Fm.sz] at hsz
  obtain ⟨A0, n0, c0, A, c, rfl, hnat, hc1, hc2, hat⟩ := hv.open_
  change TrsAt w _ [t0] A 0 at hat
  have HAT := Lib.hid hat
  clear hv hat hnat
  unfold ndV
  simp only [Tr.d, Tr.ks, List.length_cons, List.length_nil, Nat.zero_add, Nat.reduceAdd] at hc1 ⊢
  obtain ⟨W, hW⟩ : ∃ W, w.alloc (.cells #[.int .i64 15, .bool neg, .slice A0 n0 c0, .string name, .int .i64 exp, .int .i64 rel, .bool truth, .bool all, .slice A 1 c] 163) = W := ⟨_, rfl⟩
  have hWx : Ext w W := by rw [← hW]; exact (Ext.refl w).alloc _
  have hbx : W.heap[w.heap.size]? = some (.cells #[.int .i64 15, .bool neg, .slice A0 n0 c0, .string name, .int .i64 exp, .int .i64 rel, .bool truth, .bool all, .slice A 1 c] 163) := by rw [← hW]; exact heap_alloc_new w _
  have hws : w.heap.size < W.heap.size := by rw [← hW]; simp
  have b0W : W.cell? ⟨w.heap.size, 0, none⟩ = some (.int .i64 15) := by simp [World.cell?, hbx]
  have b3W : W.cell? ⟨w.heap.size, 3, none⟩ = some (.string name) := by simp [World.cell?, hbx]
  have b5W : W.cell? ⟨w.heap.size, 5, none⟩ = some (.int .i64 rel) := by simp [World.cell?, hbx]
  have b7W : W.cell? ⟨w.heap.size, 7, none⟩ = some (.bool all) := by simp [World.cell?, hbx]
  have b8W : W.cell? ⟨w.heap.size, 8, none⟩ = some (.slice A 1 c) := by simp [World.cell?, hbx]
  obtain ⟨ad, B0, m0, d0, B1, m1, d1', hA, hadb, ⟨e0, e1, e2, e3, e4, e5, e6, e7, e8⟩, hkt⟩ := (HAT.out.ext hWx).kid0 (by simp)
  subst hA
  have HKT := Lib.hid hkt
  have HWX := Lib.hid hWx
  have HBX := Lib.hid hbx
  clear hkt hWx hbx
  simp only [List.getElem_cons_zero] at e0 e1 e3 e4 e5 e6 e7
  go_enter Tryz.func121, Tryz.ntmps121
  go_wp2_with fail
  refine (IH.out f t0 (by omega) h0 _ _ HKT.out).mono ?_
  rintro e w1 ⟨v1, rfl, f1, x1⟩
  have F1 := Lib.hid f1
  obtain ⟨T1, u1, rfl⟩ := f1.iface
  clear f1 b0W b3W b5W b7W b8W e0 e1 e2 e3 e4 e5 e6 e7 e8
  have X1 := Lib.hid x1
  have hbx_w1 : w1.heap[w.heap.size]? = some (.cells #[.int .i64 15, .bool neg, .slice A0 n0 c0, .string name, .int .i64 exp, .int .i64 rel, .bool truth, .bool all, .slice (some ad) 1 c] 163) := (x1.below.block _ hws).trans HBX.out
  have b0w1 : w1.cell? ⟨w.heap.size, 0, none⟩ = some (.int .i64 15) := by simp [World.cell?, hbx_w1]
  have b3w1 : w1.cell? ⟨w.heap.size, 3, none⟩ = some (.string name) := by simp [World.cell?, hbx_w1]
  have b5w1 : w1.cell? ⟨w.heap.size, 5, none⟩ = some (.int .i64 rel) := by simp [World.cell?, hbx_w1]
  have b7w1 : w1.cell? ⟨w.heap.size, 7, none⟩ = some (.bool all) := by simp [World.cell?, hbx_w1]
  have b8w1 : w1.cell? ⟨w.heap.size, 8, none⟩ = some (.slice (some ad) 1 c) := by simp [World.cell?, hbx_w1]
  clear x1 hbx_w1
  have HFIN : Hid (FmV w1 L (.quant all name f) (.iface 154 (.agg #[.bool all, .string name, .iface T1 u1]))) := ⟨_, rfl, F1.out⟩
  have HX := Lib.hid (HWX.out.trans X1.out)
  go_wp2_with fail
  go_ret2
  exact ⟨_, rfl, HFIN.out, HX.out⟩

set_option maxRecDepth 100000 in
theorem ofq_quant {L n : Nat} (ih : OfIH L n) {al : Bool} {q : ByteArray} {f : Fm} (t : Tr) (hsz : (Fm.quant al q f).sz < n + 1) (h : IsFm L (.quant al q f) t) (v : Value) (w : World) (hv : TrV w (fun _ => True) t v) : Calls Tryz.prog 95 #[v] w (RetFm L (.quant al q f) w) := by
  have H := Lib.hid (fun w' (hx : Ext w w') => off_quant ih t hsz h v w' (hv.ext hx))
  have hkind : t.d.kind = 15 := h.1
  clear h ih hsz
  obtain ⟨⟨kind, neg, ds, name, exp, rel, truth, all⟩, ks⟩ := t
  simp only [Tr.d] at hkind
  subst hkind
  obtain ⟨A0, n0, c0, A, c, rfl, hnat, hc1, hc2, hat⟩ := hv.open_
  clear hv hat hnat hc1 hc2
  unfold ndV at H ⊢
  simp only [Tr.d, Tr.ks] at H ⊢
  go_enter Tryz.func95, Tryz.ntmps95
  go_wp2_with fail
  refine (H.out _ ((Ext.refl w).alloc _)).mono ?_
  rintro e w1 ⟨v1, rfl, f1, x1⟩
  have F1 := Lib.hid f1
  have X1 := Lib.hid (((Ext.refl w).alloc _).trans x1)
  obtain ⟨T1, u1, rfl⟩ := f1.iface
  clear f1 x1 H
  go_wp2_with fail
  go_ret2
  exact ⟨_, rfl, F1.out, X1.out⟩

set_option maxRecDepth 100000 in
set_option maxHeartbeats 2000000 in
theorem off_atom {L n : Nat} (hL : L ≤ 35184372088000) (ih : OfIH L n) {l k : Tm} {rr : Int} (t : Tr) (hsz : (Fm.atom l rr k).sz < n + 1) (h : IsFm L (.atom l rr k) t) (v : Value) (w : World) (hv : TrV w (fun _ => True) t v) : Calls Tryz.prog 120 #[v] w (RetFm L (.atom l rr k) w) := by
  have IH := Lib.hid ih
  clear ih
  obtain ⟨⟨kind, neg, ds, name, exp, rel, truth, all⟩, ks⟩ := t
  obtain ⟨hkind, hrel, hr1, hr6, t0, t1, hks, h0, h1⟩ := h
  simp only [Tr.d] at hrel
  subst hrel
  have d1 : decide (rel < 1) = false := by simp; omega
  have d6 : decide (6 < rel) = false := by simp; omega
  simp only [Tr.d] at hkind
  simp only [Tr.ks] at hks
  subst hkind hks
  simp only [Fm.sz] at hsz
  obtain ⟨A0, n0, c0, A, c, rfl, hnat, hc1, hc2, hat⟩ := hv.open_
  change TrsAt w _ [t0, t1] A 0 at hat
  have HAT := Lib.hid hat
  clear hv hat hnat
  unfold ndV
  simp only [Tr.d, Tr.ks, List.length_cons, List.length_nil, Nat.zero_add, Nat.reduceAdd] at hc1 ⊢
  obtain ⟨W, hW⟩ : ∃ W, w.alloc (.cells #[.int .i64 9, .bool neg, .slice A0 n0 c0, .string name, .int .i64 exp, .int .i64 rel, .bool truth, .bool all, .slice A 2 c] 163) = W := ⟨_, rfl⟩
  have hWx : Ext w W := by rw [← hW]; exact (Ext.refl w).alloc _
  have hbx : W.heap[w.heap.size]? = some (.cells #[.int .i64 9, .bool neg, .slice A0 n0 c0, .string name, .int .i64 exp, .int .i64 rel, .bool truth, .bool all, .slice A 2 c] 163) := by rw [← hW]; exact heap_alloc_new w _
  have hws : w.heap.size < W.heap.size := by rw [← hW]; simp
  have b0W : W.cell? ⟨w.heap.size, 0, none⟩ = some (.int .i64 9) := by simp [World.cell?, hbx]
  have b3W : W.cell? ⟨w.heap.size, 3, none⟩ = some (.string name) := by simp [World.cell?, hbx]
  have b5W : W.cell? ⟨w.heap.size, 5, none⟩ = some (.int .i64 rel) := by simp [World.cell?, hbx]
  have b7W : W.cell? ⟨w.heap.size, 7, none⟩ = some (.bool all) := by simp [World.cell?, hbx]
  have b8W : W.cell? ⟨w.heap.size, 8, none⟩ = some (.slice A 2 c) := by simp [World.cell?, hbx]
  obtain ⟨ad, B0, m0, d0, B1, m1, d1', hA, hadb, ⟨e0, e1, e2, e3, e4, e5, e6, e7, e8⟩, hkt⟩ := (HAT.out.ext hWx).kid0 (by simp)
  subst hA
  have HKT := Lib.hid hkt
  have HWX := Lib.hid hWx
  have HBX := Lib.hid hbx
  clear hkt hWx hbx
  simp only [List.getElem_cons_zero] at e0 e1 e3 e4 e5 e6 e7
  go_enter Tryz.func120, Tryz.ntmps120
  go_wp2_with fail
  refine (ofTerm_any hL l t0 h0 _ _ HKT.out).mono ?_
  rintro e w1 ⟨v1, rfl, f1, x1⟩
  have F1 := Lib.hid f1
  obtain ⟨T1, u1, rfl⟩ := f1.iface
  clear f1 b0W b3W b5W b7W b8W e0 e1 e2 e3 e4 e5 e6 e7 e8
  have X1 := Lib.hid x1
  have hbx_w1 : w1.heap[w.heap.size]? = some (.cells #[.int .i64 9, .bool neg, .slice A0 n0 c0, .string name, .int .i64 exp, .int .i64 rel, .bool truth, .bool all, .slice (some ad) 2 c] 163) := (x1.below.block _ hws).trans HBX.out
  have b0w1 : w1.cell? ⟨w.heap.size, 0, none⟩ = some (.int .i64 9) := by simp [World.cell?, hbx_w1]
  have b3w1 : w1.cell? ⟨w.heap.size, 3, none⟩ = some (.string name) := by simp [World.cell?, hbx_w1]
  have b5w1 : w1.cell? ⟨w.heap.size, 5, none⟩ = some (.int .i64 rel) := by simp [World.cell?, hbx_w1]
  have b7w1 : w1.cell? ⟨w.heap.size, 7, none⟩ = some (.bool all) := by simp [World.cell?, hbx_w1]
  have b8w1 : w1.cell? ⟨w.heap.size, 8, none⟩ = some (.slice (some ad) 2 c) := by simp [World.cell?, hbx_w1]
  obtain ⟨ad', B0, m0, d0, B1, m1, d1', hA, hadb, hnd, hkt⟩ := (HAT.out.ext (HWX.out.trans X1.out)).kid 1 (by simp)
  obtain ⟨e0, e1, e2, e3, e4, e5, e6, e7, e8⟩ := hnd.nine
  clear hnd
  injection hA with hA
  subst hA
  have HKT2 := Lib.hid hkt
  simp only [List.getElem_cons_succ, List.getElem_cons_zero] at e0 e1 e3 e4 e5 e6 e7
  clear hkt x1 hbx_w1
  go_wp2_with fail
  refine (ofTerm_any hL k t1 h1 _ _ HKT2.out).mono ?_
  rintro e w2 ⟨v2, rfl, f2, x2⟩
  have F2 := Lib.hid f2
  obtain ⟨T2, u2, rfl⟩ := f2.iface
  clear f2 b0w1 b3w1 b5w1 b7w1 b8w1 e0 e1 e2 e3 e4 e5 e6 e7 e8
  have X2 := Lib.hid (X1.out.trans x2)
  have hbx_w2 : w2.heap[w.heap.size]? = some (.cells #[.int .i64 9, .bool neg, .slice A0 n0 c0, .string name, .int .i64 exp, .int .i64 rel, .bool truth, .bool all, .slice (some ad) 2 c] 163) := (X2.out.below.block _ hws).trans HBX.out
  have F1' := Lib.hid (F1.out.ext x2)
  have b0w2 : w2.cell? ⟨w.heap.size, 0, none⟩ = some (.int .i64 9) := by simp [World.cell?, hbx_w2]
  have b3w2 : w2.cell? ⟨w.heap.size, 3, none⟩ = some (.string name) := by simp [World.cell?, hbx_w2]
  have b5w2 : w2.cell? ⟨w.heap.size, 5, none⟩ = some (.int .i64 rel) := by simp [World.cell?, hbx_w2]
  have b7w2 : w2.cell? ⟨w.heap.size, 7, none⟩ = some (.bool all) := by simp [World.cell?, hbx_w2]
  have b8w2 : w2.cell? ⟨w.heap.size, 8, none⟩ = some (.slice (some ad) 2 c) := by simp [World.cell?, hbx_w2]
  clear x2 hbx_w2
  have HFIN : Hid (FmV w2 L (.atom l rel k) (.iface 63 (.agg #[.iface T1 u1, .int .i64 rel, .iface T2 u2]))) := ⟨_, _, rfl, F1'.out, F2.out⟩
  have HX := Lib.hid (HWX.out.trans X2.out)
  go_wp2_with fail
  go_ret2
  exact ⟨_, rfl, HFIN.out, HX.out⟩

set_option maxRecDepth 100000 in
theorem ofq_atom {L n : Nat} (hL : L ≤ 35184372088000) (ih : OfIH L n) {l k : Tm} {rr : Int} (t : Tr) (hsz : (Fm.atom l rr k).sz < n + 1) (h : IsFm L (.atom l rr k) t) (v : Value) (w : World) (hv : TrV w (fun _ => True) t v) : Calls Tryz.prog 95 #[v] w (RetFm L (.atom l rr k) w) := by
  have H := Lib.hid (fun w' (hx : Ext w w') => off_atom hL ih t hsz h v w' (hv.ext hx))
  have hkind : t.d.kind = 9 := h.1
  clear h ih hsz
  obtain ⟨⟨kind, neg, ds, name, exp, rel, truth, all⟩, ks⟩ := t
  simp only [Tr.d] at hkind
  subst hkind
  obtain ⟨A0, n0, c0, A, c, rfl, hnat, hc1, hc2, hat⟩ := hv.open_
  clear hv hat hnat hc1 hc2
  unfold ndV at H ⊢
  simp only [Tr.d, Tr.ks] at H ⊢
  go_enter Tryz.func95, Tryz.ntmps95
  go_wp2_with fail
  refine (H.out _ ((Ext.refl w).alloc _)).mono ?_
  rintro e w1 ⟨v1, rfl, f1, x1⟩
  have F1 := Lib.hid f1
  have X1 := Lib.hid (((Ext.refl w).alloc _).trans x1)
  obtain ⟨T1, u1, rfl⟩ := f1.iface
  clear f1 x1 H
  go_wp2_with fail
  go_ret2
  exact ⟨_, rfl, F1.out, X1.out⟩

set_option maxRecDepth 100000 in
theorem ofq_truth {L : Nat} {b : Bool} (t : Tr) (h : IsFm L (.truth b) t) (v : Value) (w : World) (hv : TrV w (fun _ => True) t v) : Calls Tryz.prog 95 #[v] w (RetFm L (.truth b) w) := by
  obtain ⟨⟨kind, neg, ds, name, exp, rel, truth, all⟩, ks⟩ := t
  obtain ⟨hkind, hks, ht⟩ := h
  simp only [Tr.d] at hkind ht
  simp only [Tr.ks] at hks
  subst hkind hks ht
  obtain ⟨A0, n0, c0, A, c, rfl, hnat, hc1, hc2, hat⟩ := hv.open_
  clear hv hat hnat hc1 hc2
  unfold ndV
  simp only [Tr.d, Tr.ks, List.length_nil]
  go_enter Tryz.func95, Tryz.ntmps95
  go_wp2_with fail
  go_ret2
  exact ⟨_, rfl, rfl, (Ext.refl w).alloc _⟩

theorem of_ih (L : Nat) (hL : L ≤ 35184372088000) (n : Nat) : OfIH L n := by
  induction n with
  | zero => intro m t h; omega
  | succ n ih =>
    intro m t hsz h v w hv
    cases m with
    | truth b => exact ofq_truth t h v w hv
    | atom l r k => exact ofq_atom hL ih t hsz h v w hv
    | not f => exact ofq_not ih t hsz h v w hv
    | and f g => exact ofq_and ih t hsz h v w hv
    | or f g => exact ofq_or ih t hsz h v w hv
    | imp f g => exact ofq_imp ih t hsz h v w hv
    | iff f g => exact ofq_iff ih t hsz h v w hv
    | quant a s f => exact ofq_quant ih t hsz h v w hv
theorem of_any {L : Nat} (hL : L ≤ 35184372088000) (f : Fm) (t : Tr) (h : IsFm L f t) (v : Value) (w : World) {p : Nat → Prop} (hv : TrV w p t v) : Calls Tryz.prog 95 #[v] w (RetFm L f w) :=
  of_ih L hL (f.sz + 1) f t (Nat.lt_succ_self _) h v w (hv.mono fun _ _ => trivial)
end Go.Proofs.YtdcapcpchcnidaaGreat
