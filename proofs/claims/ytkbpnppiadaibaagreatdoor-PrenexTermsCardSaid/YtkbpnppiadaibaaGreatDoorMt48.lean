/- The nine cells of a tree's box. -/
import Derived.Test.YtkbpnppiadaibaaGreatDoorMt10
import Derived.Test.YtkbpnppiadaibaaGreatDoorMt35
import Derived.Test.YtkbpnppiadaibaaGreatDoorMt43
import Derived.Test.YtkbpnppiadaibaaGreatDoorOfF
import Derived.Test.YtkbpnppiadaibaaGreatDoorMt46
set_option linter.unusedSimpArgs false
set_option linter.unusedVariables false

namespace Go.Proofs.YtkbpnppiadaibaaGreatDoor
open Go.RowKit
def Box9 (w : World) (g : Nat) (d : Nd) (s A : Value) : Prop :=
 w.cell? ⟨g, 0, none⟩ = some (.int .i64 d.kind) ∧ w.cell? ⟨g, 1, none⟩ = some (.bool d.neg) ∧ w.cell? ⟨g, 2, none⟩ = some s ∧ w.cell? ⟨g, 3, none⟩ = some (.string d.name) ∧ w.cell? ⟨g, 4, none⟩ = some (.int .i64 d.exp) ∧ w.cell? ⟨g, 5, none⟩ = some (.int .i64 d.rel) ∧ w.cell? ⟨g, 6, none⟩ = some (.bool d.truth) ∧ w.cell? ⟨g, 7, none⟩ = some (.bool d.all) ∧ w.cell? ⟨g, 8, none⟩ = some A
theorem Box9.ext {w w' : World} {g : Nat} {d : Nd} {s A : Value} (h : Box9 w g d s A) (hx : Ext w w') (hg : g < w.heap.size) : Box9 w' g d s A := by
 obtain ⟨h0, h1, h2, h3, h4, h5, h6, h7, h8⟩ := h
 have k : ∀ i, w'.cell? ⟨g, i, none⟩ = w.cell? ⟨g, i, none⟩ := fun i => hx.cell (p := ⟨g, i, none⟩) hg
 exact ⟨(k _).trans h0, (k _).trans h1, (k _).trans h2, (k _).trans h3, (k _).trans h4, (k _).trans h5, (k _).trans h6, (k _).trans h7, (k _).trans h8⟩
theorem Box9.new (w : World) (d : Nd) (s A : Value) (T : TypeId) : Box9 (w.alloc (.cells #[.int .i64 d.kind, .bool d.neg, s, .string d.name, .int .i64 d.exp, .int .i64 d.rel, .bool d.truth, .bool d.all, A] T)) w.heap.size d s A := by
 refine ⟨?_, ?_, ?_, ?_, ?_, ?_, ?_, ?_, ?_⟩ <;> simp [go_sem]
end Go.Proofs.YtkbpnppiadaibaaGreatDoor

/- Reference 38: the sparse polynomial of a tree of a term. -/
set_option maxRecDepth 100000
set_option maxHeartbeats 8000000
namespace Go.Proofs.YtkbpnppiadaibaaGreatDoor
open Go.RowKit
def Tm.cov (g : ByteArray → Int) : Tm → Bool
 | .num _ => true
 | .name s => decide (0 ≤ g s - 1)
 | .add a b => a.cov g && b.cov g
 | .sub a b => a.cov g && b.cov g
 | .mul a b => a.cov g && b.cov g
 | .neg a => a.cov g
 | .pow a _ => a.cov g
def RetSB (l : Sp) (b : Bool) (w : World) (e : Ending) (w' : World) : Prop := ∃ v, e = .returned (.tuple #[v, .bool b]) ∧ SpV w' none v l ∧ Ext w w'
def RPolIH (L : Nat) (p : Nat → Prop) (nms : List ByteArray) (m : Tm) : Prop := ∀ (t : Tr) (v s : Value) (w : World), IsTm L m t → TrV w p t v → SlR (fun _ (s : ByteArray) x => x = .string s) w s nms → m.wt ≤ 400 → Calls Tryz.prog 24 #[v, s] w (RetSB (polF (levP nms nms.length) m).sp (m.cov (levP nms nms.length)) w)
theorem levP_lt (l : List ByteArray) (n : Nat) (s : ByteArray) : 0 ≤ levP l n s ∧ levP l n s ≤ n := by
 induction n with
 | zero => exact ⟨Int.le_refl _, Int.le_refl _⟩
 | succ n ih => simp only [levP]; split <;> omega
section
variable {L : Nat} {p : Nat → Prop} {nms : List ByteArray}
theorem rp_num {z : Int} (hL : L ≤ 1000000000000) : RPolIH L p nms (.num z) := by
 intro t v s w h hv hvs hw
 obtain ⟨⟨kind, neg, ds, name, exp, rel, truth, all⟩, ks⟩ := t
 obtain ⟨hkind, hks, hz, hl⟩ := h
 simp only [Tr.d] at hkind hz hl
 simp only [Tr.ks] at hks
 subst hkind hks
 rw [show polF (levP nms nms.length) (.num z) = Pl.const z from rfl, show (Tm.num z).cov (levP nms nms.length) = true from rfl]
 obtain ⟨A0, n0, c0, A, c, rfl, hnat, hc1, hc2, hat⟩ := hv.open_
 clear hv hat
 unfold ndV
 simp only [Tr.d, Tr.ks, List.length_cons, List.length_nil, Nat.zero_add, Nat.reduceAdd] at hc1 hnat ⊢
 obtain ⟨NA, cn, hse, hs1, hs2, -⟩ := id hvs
 have HVS := Lib.hid hvs
 subst hse
 clear hvs
 obtain ⟨W, hW⟩ : ∃ W, w.alloc (.cells #[.int .i64 1, .bool neg, .slice A0 n0 c0, .string name, .int .i64 exp, .int .i64 rel, .bool truth, .bool all, .slice A 0 c] 29) = W := ⟨_, rfl⟩
 have hWx : Ext w W := by rw [← hW]; exact (Ext.refl w).alloc _
 have hWs : W.heap.size = w.heap.size + 1 := by rw [← hW]; simp
 have hbx : W.heap[w.heap.size]? = some (.cells #[.int .i64 1, .bool neg, .slice A0 n0 c0, .string name, .int .i64 exp, .int .i64 rel, .bool truth, .bool all, .slice A 0 c] 29) := by rw [← hW]; exact heap_alloc_new w _
 have HBX := Lib.hid hbx
 have HWX := Lib.hid hWx
 have b0 : W.cell? ⟨w.heap.size, 0, none⟩ = some (.int .i64 1) := by simp [World.cell?, hbx]
 have b1 : W.cell? ⟨w.heap.size, 1, none⟩ = some (.bool neg) := by simp [World.cell?, hbx]
 have b2 : W.cell? ⟨w.heap.size, 2, none⟩ = some (.slice A0 n0 c0) := by simp [World.cell?, hbx]
 have b3 : W.cell? ⟨w.heap.size, 3, none⟩ = some (.string name) := by simp [World.cell?, hbx]
 have b4 : W.cell? ⟨w.heap.size, 4, none⟩ = some (.int .i64 exp) := by simp [World.cell?, hbx]
 have b8 : W.cell? ⟨w.heap.size, 8, none⟩ = some (.slice A 0 c) := by simp [World.cell?, hbx]
 have HI : Hid (IntR W (.agg #[.bool neg, .slice A0 n0 c0]) z L) := Lib.hid ⟨neg, _, ds, rfl, hnat.ext hWx, hz, hl⟩
 clear hnat hz hWx hbx
 go_enter Tryz.func24, Tryz.ntmps24
 go_wp2_with fail
 clear hW b0 b1 b2 b3 b4 b8
 refine (sConst_any _ HI.out (by omega)).mono ?_
 rintro e w3 ⟨v3, rfl, s3, x3⟩
 have HF := Lib.hid (And.intro s3 (HWX.out.trans x3))
 obtain ⟨A3, c3, rfl, -⟩ := id s3
 clear s3 x3
 go_wp2_with fail
 go_ret2
 exact ⟨_, rfl, HF.out⟩
theorem rp_name {nm : ByteArray} : RPolIH L p nms (.name nm) := by
 intro t v s w h hv hvs hw
 obtain ⟨⟨kind, neg, ds, name, exp, rel, truth, all⟩, ks⟩ := t
 obtain ⟨hkind, hks, hnm⟩ := h
 simp only [Tr.d] at hkind hnm
 simp only [Tr.ks] at hks
 subst hkind hks hnm
 rw [show polF (levP nms nms.length) (.name name) = Pl.var (levP nms nms.length name) from rfl, show (Tm.name name).cov (levP nms nms.length) = decide (0 ≤ levP nms nms.length name - 1) from rfl]
 obtain ⟨A0, n0, c0, A, c, rfl, hnat, hc1, hc2, hat⟩ := hv.open_
 clear hv hat hnat
 unfold ndV
 simp only [Tr.d, Tr.ks, List.length_cons, List.length_nil, Nat.zero_add, Nat.reduceAdd] at hc1 ⊢
 obtain ⟨NA, cn, hse, hs1, hs2, -⟩ := id hvs
 have HVS := Lib.hid hvs
 subst hse
 clear hvs
 obtain ⟨W, hW⟩ : ∃ W, w.alloc (.cells #[.int .i64 2, .bool neg, .slice A0 n0 c0, .string name, .int .i64 exp, .int .i64 rel, .bool truth, .bool all, .slice A 0 c] 29) = W := ⟨_, rfl⟩
 have hWx : Ext w W := by rw [← hW]; exact (Ext.refl w).alloc _
 have hWs : W.heap.size = w.heap.size + 1 := by rw [← hW]; simp
 have hbx : W.heap[w.heap.size]? = some (.cells #[.int .i64 2, .bool neg, .slice A0 n0 c0, .string name, .int .i64 exp, .int .i64 rel, .bool truth, .bool all, .slice A 0 c] 29) := by rw [← hW]; exact heap_alloc_new w _
 have HBX := Lib.hid hbx
 have HWX := Lib.hid hWx
 have b0 : W.cell? ⟨w.heap.size, 0, none⟩ = some (.int .i64 2) := by simp [World.cell?, hbx]
 have b1 : W.cell? ⟨w.heap.size, 1, none⟩ = some (.bool neg) := by simp [World.cell?, hbx]
 have b2 : W.cell? ⟨w.heap.size, 2, none⟩ = some (.slice A0 n0 c0) := by simp [World.cell?, hbx]
 have b3 : W.cell? ⟨w.heap.size, 3, none⟩ = some (.string name) := by simp [World.cell?, hbx]
 have b4 : W.cell? ⟨w.heap.size, 4, none⟩ = some (.int .i64 exp) := by simp [World.cell?, hbx]
 have b8 : W.cell? ⟨w.heap.size, 8, none⟩ = some (.slice A 0 c) := by simp [World.cell?, hbx]
 have HLA := Lib.hid (lastP_any (SlR.ext HVS.out (fun _ _ h => h) hWx) name)
 obtain ⟨hl0, hl1⟩ := levP_lt nms nms.length name
 generalize levP nms nms.length name = lv at *
 have hwr : IntKind.i64.wrap (lv - 1 + 1) = lv := by rw [IntKind.wrap_i64]; omega
 have hwr2 : lv - 1 + 1 = lv := by omega
 clear hWx hbx
 go_enter Tryz.func24, Tryz.ntmps24
 go_wp2_with fail
 clear hW b0 b1 b2 b3 b4 b8
 refine HLA.out.mono ?_
 rintro e w1 ⟨rfl, x1⟩
 have X1 := Lib.hid (HWX.out.trans x1)
 clear x1
 go_wp2_with fail
 refine (sVar_any lv w1).mono ?_
 rintro e w3 ⟨v3, rfl, s3, x3⟩
 have HF := Lib.hid (And.intro s3 (X1.out.trans x3))
 obtain ⟨A3, c3, rfl, -⟩ := id s3
 clear s3 x3
 go_wp2_with fail
 go_ret2
 exact ⟨_, by first | rfl | simp, HF.out⟩
theorem rp_neg {a : Tm} (iha : RPolIH L p nms a) : RPolIH L p nms (.neg a) := by
 intro t v s w h hv hvs hw
 have IHA := Lib.hid iha
 have hwa : a.wt ≤ 400 := hw
 have HWA := Lib.hid hwa
 have HFA := Lib.hid ((polF_bd (levP nms nms.length) a hwa).fit400 (by omega))
 rw [show polF (levP nms nms.length) (.neg a) = (polF (levP nms nms.length) a).opp from rfl, show (Tm.neg a).cov (levP nms nms.length) = a.cov (levP nms nms.length) from rfl]
 clear iha hw hwa
 obtain ⟨⟨kind, neg, ds, name, exp, rel, truth, all⟩, ks⟩ := t
 obtain ⟨hkind, t0, hks, h0⟩ := h
 simp only [Tr.d] at hkind
 simp only [Tr.ks] at hks
 subst hkind hks
 have H0 := Lib.hid h0
 clear h0
 unfold RPolIH at IHA
 generalize polF (levP nms nms.length) a = pa at *
 generalize a.cov (levP nms nms.length) = ca at *
 obtain ⟨A0, n0, c0, A, c, rfl, hnat, hc1, hc2, hat⟩ := hv.open_
 change TrsAt w p [t0] A 0 at hat
 clear hv hnat
 unfold ndV
 simp only [Tr.d, Tr.ks, List.length_cons, List.length_nil, Nat.zero_add, Nat.reduceAdd] at hc1 ⊢
 obtain ⟨NA, cn, hse, hs1, hs2, -⟩ := id hvs
 have HVS := Lib.hid hvs
 subst hse
 clear hvs
 obtain ⟨W, hW⟩ : ∃ W, w.alloc (.cells #[.int .i64 6, .bool neg, .slice A0 n0 c0, .string name, .int .i64 exp, .int .i64 rel, .bool truth, .bool all, .slice A 1 c] 29) = W := ⟨_, rfl⟩
 have hWx : Ext w W := by rw [← hW]; exact (Ext.refl w).alloc _
 have hWs : W.heap.size = w.heap.size + 1 := by rw [← hW]; simp
 have hbx : W.heap[w.heap.size]? = some (.cells #[.int .i64 6, .bool neg, .slice A0 n0 c0, .string name, .int .i64 exp, .int .i64 rel, .bool truth, .bool all, .slice A 1 c] 29) := by rw [← hW]; exact heap_alloc_new w _
 have HBX := Lib.hid hbx
 have HWX := Lib.hid hWx
 have HAT := Lib.hid hat
 obtain ⟨ad, B0, m0, d0, B1, m1, d1, hA, hadb, ⟨e0, e1, e2, e3, e4, e5, e6, e7, e8⟩, hkt⟩ := (hat.ext hWx).kid0 (by simp)
 subst hA
 have HK0 := Lib.hid hkt
 simp only [List.getElem_cons_zero] at e0 e1 e3 e4 e5 e6 e7
 have b0 : W.cell? ⟨w.heap.size, 0, none⟩ = some (.int .i64 6) := by simp [World.cell?, hbx]
 have b1 : W.cell? ⟨w.heap.size, 1, none⟩ = some (.bool neg) := by simp [World.cell?, hbx]
 have b2 : W.cell? ⟨w.heap.size, 2, none⟩ = some (.slice A0 n0 c0) := by simp [World.cell?, hbx]
 have b3 : W.cell? ⟨w.heap.size, 3, none⟩ = some (.string name) := by simp [World.cell?, hbx]
 have b4 : W.cell? ⟨w.heap.size, 4, none⟩ = some (.int .i64 exp) := by simp [World.cell?, hbx]
 have b8 : W.cell? ⟨w.heap.size, 8, none⟩ = some (.slice (some ad) 1 c) := by simp [World.cell?, hbx]
 clear hkt hat hWx hbx
 go_enter Tryz.func24, Tryz.ntmps24
 go_wp2_with fail
 clear hW
 refine (IHA.out t0 _ _ _ H0.out HK0.out (SlR.ext HVS.out (fun _ _ h => h) HWX.out) HWA.out).mono ?_
 rintro e v1 ⟨z1, rfl, r1, x1⟩
 obtain ⟨A1, c1, rfl, -⟩ := id r1
 clear b0 b1 b2 b3 b4 b8 e0 e1 e2 e3 e4 e5 e6 e7 e8
 have hbx := (x1.below.block _ (by omega)).trans HBX.out
 have b0 : v1.cell? ⟨w.heap.size, 0, none⟩ = some (.int .i64 6) := by simp [World.cell?, hbx]
 have b1 : v1.cell? ⟨w.heap.size, 1, none⟩ = some (.bool neg) := by simp [World.cell?, hbx]
 have b2 : v1.cell? ⟨w.heap.size, 2, none⟩ = some (.slice A0 n0 c0) := by simp [World.cell?, hbx]
 have b3 : v1.cell? ⟨w.heap.size, 3, none⟩ = some (.string name) := by simp [World.cell?, hbx]
 have b4 : v1.cell? ⟨w.heap.size, 4, none⟩ = some (.int .i64 exp) := by simp [World.cell?, hbx]
 have b8 : v1.cell? ⟨w.heap.size, 8, none⟩ = some (.slice (some ad) 1 c) := by simp [World.cell?, hbx]
 have R1 := Lib.hid r1
 have X1 := Lib.hid (HWX.out.trans x1)
 clear r1 x1 hbx
 go_wp2_with fail
 clear b0 b1 b2 b3 b4 b8
 refine (sNeg_any _ R1.out HFA.out (by omega) (by omega)).mono ?_
 rintro e w3 ⟨v3, rfl, s3, x3⟩
 have HF := Lib.hid (And.intro s3 (X1.out.trans x3))
 obtain ⟨A3, c3, rfl, -⟩ := id s3
 clear s3 x3
 go_wp2_with fail
 go_ret2
 exact ⟨_, rfl, HF.out⟩
theorem rp_pow {a : Tm} {n : Int} (iha : RPolIH L p nms a) : RPolIH L p nms (.pow a n) := by
 intro t v s w h hv hvs hw
 have IHA := Lib.hid iha
 obtain ⟨hw1, hwa, hn1, hn2, hn3⟩ := wt_pow_eq hw
 have HWA := Lib.hid hwa
 have hmul : n.toNat * a.wt.toNat ≤ 400 := by
  have h0 := a.wt_bd
  rw [hw1] at hw
  obtain ⟨m, hm⟩ : ∃ m : Nat, maxI n 1 = m := ⟨(maxI n 1).toNat, by omega⟩
  obtain ⟨k, hk⟩ : ∃ k : Nat, a.wt = k := ⟨a.wt.toNat, by omega⟩
  rw [hm, hk] at hw
  have h1 : m * k ≤ 400 := by exact_mod_cast hw
  rw [hk, Int.toNat_natCast]
  have h2 : n.toNat * k ≤ m * k := Nat.mul_le_mul_right _ (by omega)
  omega
 have hmul2 : n.toNat * (a.wt.toNat + 1) + 1 ≤ 1300 := by rw [Nat.mul_add]; omega
 have HFA := Lib.hid (polF_bd (levP nms nms.length) a hwa).fit
 have hwk : a.wt.toNat ≤ 400 := by omega
 rw [show polF (levP nms nms.length) (.pow a n) = (polF (levP nms nms.length) a).pow n.toNat from rfl, show (Tm.pow a n).cov (levP nms nms.length) = a.cov (levP nms nms.length) from rfl]
 clear iha hw hw1
 obtain ⟨⟨kind, neg, ds, name, exp, rel, truth, all⟩, ks⟩ := t
 obtain ⟨hkind, hexp, -, t0, hks, h0⟩ := h
 simp only [Tr.d] at hkind hexp
 simp only [Tr.ks] at hks
 subst hkind hks hexp
 have H0 := Lib.hid h0
 have hn : exp ≤ 400 := by omega
 clear h0 hwa hn1 hn2 hn3
 unfold RPolIH at IHA
 generalize polF (levP nms nms.length) a = pa at *
 generalize a.cov (levP nms nms.length) = ca at *
 obtain ⟨A0, n0, c0, A, c, rfl, hnat, hc1, hc2, hat⟩ := hv.open_
 change TrsAt w p [t0] A 0 at hat
 clear hv hnat
 unfold ndV
 simp only [Tr.d, Tr.ks, List.length_cons, List.length_nil, Nat.zero_add, Nat.reduceAdd] at hc1 ⊢
 obtain ⟨NA, cn, hse, hs1, hs2, -⟩ := id hvs
 have HVS := Lib.hid hvs
 subst hse
 clear hvs
 obtain ⟨W, hW⟩ : ∃ W, w.alloc (.cells #[.int .i64 7, .bool neg, .slice A0 n0 c0, .string name, .int .i64 exp, .int .i64 rel, .bool truth, .bool all, .slice A 1 c] 29) = W := ⟨_, rfl⟩
 have hWx : Ext w W := by rw [← hW]; exact (Ext.refl w).alloc _
 have hWs : W.heap.size = w.heap.size + 1 := by rw [← hW]; simp
 have hbx : W.heap[w.heap.size]? = some (.cells #[.int .i64 7, .bool neg, .slice A0 n0 c0, .string name, .int .i64 exp, .int .i64 rel, .bool truth, .bool all, .slice A 1 c] 29) := by rw [← hW]; exact heap_alloc_new w _
 have HBX := Lib.hid hbx
 have HWX := Lib.hid hWx
 have HAT := Lib.hid hat
 obtain ⟨ad, B0, m0, d0, B1, m1, d1, hA, hadb, ⟨e0, e1, e2, e3, e4, e5, e6, e7, e8⟩, hkt⟩ := (hat.ext hWx).kid0 (by simp)
 subst hA
 have HK0 := Lib.hid hkt
 simp only [List.getElem_cons_zero] at e0 e1 e3 e4 e5 e6 e7
 have b0 : W.cell? ⟨w.heap.size, 0, none⟩ = some (.int .i64 7) := by simp [World.cell?, hbx]
 have b1 : W.cell? ⟨w.heap.size, 1, none⟩ = some (.bool neg) := by simp [World.cell?, hbx]
 have b2 : W.cell? ⟨w.heap.size, 2, none⟩ = some (.slice A0 n0 c0) := by simp [World.cell?, hbx]
 have b3 : W.cell? ⟨w.heap.size, 3, none⟩ = some (.string name) := by simp [World.cell?, hbx]
 have b4 : W.cell? ⟨w.heap.size, 4, none⟩ = some (.int .i64 exp) := by simp [World.cell?, hbx]
 have b8 : W.cell? ⟨w.heap.size, 8, none⟩ = some (.slice (some ad) 1 c) := by simp [World.cell?, hbx]
 clear hkt hat hWx hbx
 go_enter Tryz.func24, Tryz.ntmps24
 go_wp2_with fail
 clear hW
 refine (IHA.out t0 _ _ _ H0.out HK0.out (SlR.ext HVS.out (fun _ _ h => h) HWX.out) HWA.out).mono ?_
 rintro e v1 ⟨z1, rfl, r1, x1⟩
 obtain ⟨A1, c1, rfl, -⟩ := id r1
 clear b0 b1 b2 b3 b4 b8 e0 e1 e2 e3 e4 e5 e6 e7 e8
 have hbx := (x1.below.block _ (by omega)).trans HBX.out
 have b0 : v1.cell? ⟨w.heap.size, 0, none⟩ = some (.int .i64 7) := by simp [World.cell?, hbx]
 have b1 : v1.cell? ⟨w.heap.size, 1, none⟩ = some (.bool neg) := by simp [World.cell?, hbx]
 have b2 : v1.cell? ⟨w.heap.size, 2, none⟩ = some (.slice A0 n0 c0) := by simp [World.cell?, hbx]
 have b3 : v1.cell? ⟨w.heap.size, 3, none⟩ = some (.string name) := by simp [World.cell?, hbx]
 have b4 : v1.cell? ⟨w.heap.size, 4, none⟩ = some (.int .i64 exp) := by simp [World.cell?, hbx]
 have b8 : v1.cell? ⟨w.heap.size, 8, none⟩ = some (.slice (some ad) 1 c) := by simp [World.cell?, hbx]
 have R1 := Lib.hid r1
 have X1 := Lib.hid (HWX.out.trans x1)
 clear r1 x1 hbx
 go_wp2_with fail
 clear b0 b1 b2 b3 b4 b8
 refine (sPow_any _ R1.out HFA.out (by omega) (by omega) (by omega) (by omega) (by omega)).mono ?_
 rintro e w3 ⟨v3, rfl, s3, x3⟩
 have HF := Lib.hid (And.intro s3 (X1.out.trans x3))
 obtain ⟨A3, c3, rfl, -⟩ := id s3
 clear s3 x3
 go_wp2_with fail
 go_ret2
 exact ⟨_, rfl, HF.out⟩
theorem rp_two {a b : Tm} {r : Pl} {k : Int} (hk : (k = 3 ∧ r = (polF (levP nms nms.length) a).add (polF (levP nms nms.length) b)) ∨ (k = 4 ∧ r = (polF (levP nms nms.length) a).add (polF (levP nms nms.length) b).opp) ∨ (k = 5 ∧ r = (polF (levP nms nms.length) a).mul (polF (levP nms nms.length) b))) (iha : RPolIH L p nms a) (ihb : RPolIH L p nms b) (hwa : a.wt ≤ 400) (hwb : b.wt ≤ 400)
 (t : Tr) (v s : Value) (w : World) (h : t.d.kind = k ∧ ∃ x y, t.ks = [x, y] ∧ IsTm L a x ∧ IsTm L b y) (hv : TrV w p t v) (hvs : SlR (fun _ (s : ByteArray) x => x = .string s) w s nms) :
 Calls Tryz.prog 24 #[v, s] w (RetSB r.sp (a.cov (levP nms nms.length) && b.cov (levP nms nms.length)) w) := by
 have IHA := Lib.hid iha
 have IHB := Lib.hid ihb
 have HWA := Lib.hid hwa
 have HWB := Lib.hid hwb
 have HFA := Lib.hid ((polF_bd (levP nms nms.length) a hwa).fit400 (by omega))
 have HFB := Lib.hid ((polF_bd (levP nms nms.length) b hwb).fit400 (by omega))
 clear iha ihb hwa hwb
 obtain ⟨⟨kind, neg, ds, name, exp, rel, truth, all⟩, ks⟩ := t
 obtain ⟨hkind, t0, t1, hks, h0, h1⟩ := h
 simp only [Tr.d] at hkind
 simp only [Tr.ks] at hks
 subst hkind hks
 have H0 := Lib.hid h0
 have H1 := Lib.hid h1
 clear h0 h1
 unfold RPolIH at IHA IHB
 generalize polF (levP nms nms.length) a = pa at *
 generalize polF (levP nms nms.length) b = pb at *
 generalize a.cov (levP nms nms.length) = ca at *
 generalize b.cov (levP nms nms.length) = cb at *
 obtain ⟨A0, n0, c0, A, c, rfl, hnat, hc1, hc2, hat⟩ := hv.open_
 change TrsAt w p [t0, t1] A 0 at hat
 clear hv hnat
 unfold ndV
 simp only [Tr.d, Tr.ks, List.length_cons, List.length_nil, Nat.zero_add, Nat.reduceAdd] at hc1 ⊢
 obtain ⟨NA, cn, hse, hs1, hs2, -⟩ := id hvs
 have HVS := Lib.hid hvs
 subst hse
 clear hvs
 obtain ⟨W, hW⟩ : ∃ W, w.alloc (.cells #[.int .i64 kind, .bool neg, .slice A0 n0 c0, .string name, .int .i64 exp, .int .i64 rel, .bool truth, .bool all, .slice A 2 c] 29) = W := ⟨_, rfl⟩
 have hWx : Ext w W := by rw [← hW]; exact (Ext.refl w).alloc _
 have hWs : W.heap.size = w.heap.size + 1 := by rw [← hW]; simp
 have hbx : W.heap[w.heap.size]? = some (.cells #[.int .i64 kind, .bool neg, .slice A0 n0 c0, .string name, .int .i64 exp, .int .i64 rel, .bool truth, .bool all, .slice A 2 c] 29) := by rw [← hW]; exact heap_alloc_new w _
 have HBX := Lib.hid hbx
 have HWX := Lib.hid hWx
 have HAT := Lib.hid hat
 have HBW : Hid (∀ w', Ext W w' → Box9 w' w.heap.size ⟨kind, neg, ds, name, exp, rel, truth, all⟩ (.slice A0 n0 c0) (.slice A 2 c)) := Lib.hid (fun w' hx => (show Box9 W w.heap.size ⟨kind, neg, ds, name, exp, rel, truth, all⟩ (.slice A0 n0 c0) (.slice A 2 c) by rw [← hW]; exact Box9.new w ⟨kind, neg, ds, name, exp, rel, truth, all⟩ _ _ _).ext hx (by omega))
 obtain ⟨ad, B0, m0, d0, B1, m1, d1, hA, hadb, ⟨e0, e1, e2, e3, e4, e5, e6, e7, e8⟩, hkt⟩ := (hat.ext hWx).kid0 (by simp)
 subst hA
 have HK0 := Lib.hid hkt
 simp only [List.getElem_cons_zero] at e0 e1 e3 e4 e5 e6 e7
 obtain ⟨b0, b1, b2, b3, b4, b5, b6, b7, b8⟩ := HBW.out W (Ext.refl W)
 dsimp only at b0 b1 b3 b4 b5 b6 b7
 clear hkt hat hWx hbx HBX
 rcases hk with ⟨rfl, rfl⟩ | ⟨rfl, rfl⟩ | ⟨rfl, rfl⟩
 all_goals
  go_enter Tryz.func24, Tryz.ntmps24
  go_wp2_with fail
  clear hW
  refine (IHA.out t0 _ _ _ H0.out HK0.out (SlR.ext HVS.out (fun _ _ h => h) HWX.out) HWA.out).mono ?_
  rintro e v1 ⟨z1, rfl, r1, x1⟩
  obtain ⟨A1, c1, rfl, -⟩ := id r1
  clear b0 b1 b2 b3 b4 b5 b6 b7 b8 e0 e1 e2 e3 e4 e5 e6 e7 e8
  obtain ⟨b0, b1, b2, b3, b4, b5, b6, b7, b8⟩ := HBW.out _ x1
  dsimp only at b0 b1 b3 b4 b5 b6 b7
  have R1 := Lib.hid r1
  have X1 := Lib.hid x1
  obtain ⟨ad', C0, p0, q0, C1, p1, q1, hA, -, hnd, hkt⟩ := (HAT.out.ext (HWX.out.trans x1)).kid 1 (by simp)
  injection hA with hA
  subst hA
  obtain ⟨e0, e1, e2, e3, e4, e5, e6, e7, e8⟩ := hnd.nine
  simp only [List.getElem_cons_succ, List.getElem_cons_zero] at e0 e1 e3 e4 e5 e6 e7
  have HK1 := Lib.hid hkt
  clear r1 x1 hnd hkt
  go_wp2_with fail
  clear b0 b1 b2 b3 b4 b5 b6 b7 b8 e0 e1 e2 e3 e4 e5 e6 e7 e8
  refine (IHB.out t1 _ _ _ H1.out HK1.out (SlR.ext HVS.out (fun _ _ h => h) (HWX.out.trans X1.out)) HWB.out).mono ?_
  rintro e v2 ⟨z2, rfl, r2, x2⟩
  obtain ⟨A2, c2, rfl, -⟩ := id r2
  obtain ⟨b0, b1, b2, b3, b4, b5, b6, b7, b8⟩ := HBW.out _ (X1.out.trans x2)
  dsimp only at b0 b1 b3 b4 b5 b6 b7
  have R1' := Lib.hid (R1.out.ext x2)
  have R2 := Lib.hid r2
  have X2 := Lib.hid (HWX.out.trans (X1.out.trans x2))
  clear r2 x2 R1
  cases ca
  all_goals
   go_wp2_with fail
   clear b0 b1 b2 b3 b4 b5 b6 b7 b8
   first
   | refine (sAdd_any _ _ R1'.out R2.out HFA.out HFB.out (by omega) (by omega) (by omega)).mono ?_
   | refine (sSub_any _ _ R1'.out R2.out HFA.out HFB.out (by omega) (by omega) (by omega)).mono ?_
   | refine (sMul_any _ _ R1'.out R2.out HFA.out HFB.out (by omega) (by omega)).mono ?_
   rintro e w3 ⟨v3, rfl, s3, x3⟩
   have HF := Lib.hid (And.intro s3 (X2.out.trans x3))
   obtain ⟨A3, c3, rfl, -⟩ := id s3
   clear s3 x3
   go_wp2_with fail
   go_ret2
   exact ⟨_, rfl, HF.out⟩
theorem rp_add {a b : Tm} (iha : RPolIH L p nms a) (ihb : RPolIH L p nms b) : RPolIH L p nms (.add a b) := fun t v s w h hv hvs hw => rp_two (.inl ⟨rfl, rfl⟩) iha ihb (wt_two hw).1 (wt_two hw).2 t v s w h hv hvs
theorem rp_sub {a b : Tm} (iha : RPolIH L p nms a) (ihb : RPolIH L p nms b) : RPolIH L p nms (.sub a b) := fun t v s w h hv hvs hw => rp_two (.inr (.inl ⟨rfl, rfl⟩)) iha ihb (wt_two hw).1 (wt_two hw).2 t v s w h hv hvs
theorem rp_mul {a b : Tm} (iha : RPolIH L p nms a) (ihb : RPolIH L p nms b) : RPolIH L p nms (.mul a b) := fun t v s w h hv hvs hw => rp_two (.inr (.inr ⟨rfl, rfl⟩)) iha ihb (wt_two_mul hw).1 (wt_two_mul hw).2 t v s w h hv hvs
theorem rpoly_ih (hL : L ≤ 1000000000000) (m : Tm) : RPolIH L p nms m := by
 induction m with
 | num z => exact rp_num hL
 | name n => exact rp_name
 | add a c iha ihc => exact rp_add iha ihc
 | sub a c iha ihc => exact rp_sub iha ihc
 | mul a c iha ihc => exact rp_mul iha ihc
 | neg a iha => exact rp_neg iha
 | pow a n iha => exact rp_pow iha
end
end Go.Proofs.YtkbpnppiadaibaaGreatDoor
