/- Layer 20: sparse.Const, Var, Scale, Neg, Add, Sub, at sparse forms of canonical polynomials. -/
import Derived.Test.YtkbpnppiadaibaaGreatDoorMt29
import Derived.Test.YtkbpnppiadaibaaGreatDoorMt30
set_option linter.unusedSimpArgs false
set_option linter.unusedVariables false

set_option maxRecDepth 100000
set_option maxHeartbeats 8000000
namespace Go.Proofs.YtkbpnppiadaibaaGreatDoor
open Go.RowKit
theorem Pl.sp_const0 : (Pl.const 0).sp = [] := (Pl.sp_uniq (by trivial) (by simp) (fun ρ => by rw [Pl.const_val]; simp [sval])).symm
theorem sp_nil (w : World) : SpV w none (.slice none 0 0) [] := ⟨none, 0, rfl, Nat.le_refl _, by decide, fun i hi => absurd hi (by simp)⟩
theorem one_term {w : World} {b : Bool} {A : Option Addr} {n c : Nat} {z : Int} (m : Mo) (T : TypeId) (h : IntN w (.agg #[.bool b, .slice A n c]) z) :
 SpV (w.alloc (.cells #[.bool b, .slice A n c, .int .i64 m.a, .int .i64 m.b, .int .i64 m.c, .int .i64 m.d] T)) none (.slice (some ⟨w.heap.size, 0, none⟩) 1 1) [(z, m)] := by
 refine ⟨_, 1, rfl, Nat.le_refl _, by decide, fun i hi => ?_⟩
 obtain rfl : i = 0 := by simpa using hi
 refine ⟨_, b, A, n, c, rfl, by simp, ?_, Cf.ext (k := none) h ((Ext.refl w).alloc _)⟩
 rw [Nat.zero_mul, add_mk]
 exact ⟨by simp [go_sem], by simp [go_sem], by simp [go_sem], by simp [go_sem], by simp [go_sem], by simp [go_sem]⟩
theorem sgI_zero {z : Int} (h : z ≠ 0) : (sgI z == 0) = false := by
 have h1 : (sgI z != 0) = true := cmpI_ne h
 simpa using h1
theorem sConst_any {w : World} {z : Int} {L : Nat} (v : Value) (h : IntR w v z L) (hL : L ≤ 35184372088832) : Calls Tryz.prog 63 #[v] w (RetSp (Pl.const z).sp w) := by
 have H := Lib.hid h
 obtain ⟨b, A, n, c, rfl⟩ := h.unpack
 obtain ⟨W, hW⟩ : ∃ W, w.alloc (.cells #[.bool b, .slice A n c] 25) = W := ⟨_, rfl⟩
 have HWX : Hid (Ext w W) := Lib.hid (by rw [← hW]; exact (Ext.refl w).alloc _)
 have hs : W.heap.size = w.heap.size + 1 := by rw [← hW]; simp
 have q0 : W.cell? ⟨w.heap.size, 0, none⟩ = some (.bool b) := by rw [← hW]; simp [go_sem]
 have q1 : W.cell? ⟨w.heap.size, 1, none⟩ = some (.slice A n c) := by rw [← hW]; simp [go_sem]
 have HQ := Lib.hid (And.intro q0 q1)
 obtain ⟨r, hr⟩ : ∃ r, (Pl.const z).sp = r := ⟨_, rfl⟩
 rw [hr]
 have HR := Lib.hid hr
 clear h hr
 go_enter Tryz.func63, Tryz.ntmps63
 go_wp2_with fail
 clear hW q0 q1
 refine (sign_int _ z L W (H.out.ext HWX.out)).mono ?_
 rintro e w1 ⟨rfl, x1⟩
 have r0 := (x1.cell (p := ⟨w.heap.size, 0, none⟩) (by show w.heap.size < _; omega)).trans HQ.out.1
 have r1 := (x1.cell (p := ⟨w.heap.size, 1, none⟩) (by show w.heap.size < _; omega)).trans HQ.out.2
 have X1 := Lib.hid (HWX.out.trans x1)
 clear x1
 by_cases hz : z = 0
 · have hq : (sgI z == 0) = true := by rw [hz]; rfl
   have HF : Hid (SpV w1 none (.slice none 0 0) r) := Lib.hid (by rw [← HR.out, hz, Pl.sp_const0]; exact sp_nil w1)
   clear hz
   go_wp2_with fail
   go_ret
   exact ⟨_, rfl, HF.out, X1.out⟩
 · have hq := sgI_zero hz
   have HR2 : Hid ([(z, Mo.one)] = r) := Lib.hid (by rw [← HR.out, Pl.sp_const hz])
   clear hz
   go_wp2_with fail
   refine (normal_int _ z L w1 (H.out.ext X1.out) hL).mono ?_
   rintro e w2 ⟨z2, rfl, m2, x2⟩
   obtain ⟨y2, rfl, n2⟩ := id m2
   obtain ⟨C2, k2, rfl, -⟩ := id n2
   have HF : Hid (SpV (w2.alloc (.cells #[.bool (decide (z < 0)), .slice C2 (dg z.natAbs).length k2, .int .i64 0, .int .i64 0, .int .i64 0, .int .i64 0] 190)) none (.slice (some ⟨w2.heap.size, 0, none⟩) 1 1) r) := Lib.hid (by rw [← HR2.out]; exact one_term Mo.one 190 m2)
   have X2 := Lib.hid (X1.out.trans x2)
   clear x2 m2 n2 r0 r1
   go_wp2_with fail
   go_ret
   exact ⟨_, rfl, HF.out, X2.out.alloc _⟩
theorem slevel_any (n : Int) (w : World) : Calls Tryz.prog 123 #[.int .i64 n] w fun e w' => e = .returned (.bool (decide (1 ≤ n) && decide (n ≤ 4))) ∧ w' = w := by
 go_enter Tryz.func123, Tryz.ntmps123
 by_cases h1 : 1 ≤ n
 · by_cases h2 : n ≤ 4
   · rw [decide_eq_true h1, decide_eq_true h2]
     have d1 : decide ((1 : Int) ≤ n) = true := decide_eq_true h1
     have d2 : decide (n ≤ 4) = true := decide_eq_true h2
     go_wp2_with fail
     go_ret
     exact ⟨rfl, rfl⟩
   · rw [decide_eq_true h1, decide_eq_false h2]
     have d1 : decide ((1 : Int) ≤ n) = true := decide_eq_true h1
     have d2 : decide (n ≤ 4) = false := decide_eq_false h2
     go_wp2_with fail
     go_ret
     exact ⟨rfl, rfl⟩
 · rw [decide_eq_false h1, Bool.false_and]
   have d1 : decide ((1 : Int) ≤ n) = false := decide_eq_false h1
   go_wp2_with fail
   go_ret
   exact ⟨rfl, rfl⟩
theorem sVar_any (n : Int) (w : World) : Calls Tryz.prog 64 #[.int .i64 n] w (RetSp (Pl.var n).sp w) := by
 have HL := Lib.hid (slevel_any n w)
 by_cases h : 1 ≤ n ∧ n ≤ 4
 · rw [Pl.sp_var h.1 h.2]
   rw [decide_eq_true h.1, decide_eq_true h.2] at HL
   obtain ⟨W, hW⟩ : ∃ W, w.alloc (.cells #[.int .i64 (Mo.var n).a, .int .i64 (Mo.var n).b, .int .i64 (Mo.var n).c, .int .i64 (Mo.var n).d] 188) = W := ⟨_, rfl⟩
   have HWX : Hid (Ext w W) := Lib.hid (by rw [← hW]; exact (Ext.refl w).alloc _)
   have hs : W.heap.size = w.heap.size + 1 := by rw [← hW]; simp
   have HC : Hid (∀ W', Ext W W' → Ext W W' ∧ W'.cell? ⟨w.heap.size, 0, none⟩ = some (.int .i64 (Mo.var n).a) ∧ W'.cell? ⟨w.heap.size, 1, none⟩ = some (.int .i64 (Mo.var n).b) ∧ W'.cell? ⟨w.heap.size, 2, none⟩ = some (.int .i64 (Mo.var n).c) ∧ W'.cell? ⟨w.heap.size, 3, none⟩ = some (.int .i64 (Mo.var n).d)) := Lib.hid (by
    intro W' hx
    obtain ⟨a0, a1, a2, a3⟩ := (show MoAt W w.heap.size (Mo.var n) by rw [← hW]; exact MoAt.new w _ _).ext hx (by omega)
    exact ⟨hx, a0, a1, a2, a3⟩)
   have HW := Lib.hid hW
   have HFIN : Hid (∀ (w2 : World) (x2 : Value), IntN w2 x2 1 → Ext W w2 → ∃ C2 k2, x2 = .agg #[.bool (decide ((1 : Int) < 0)), .slice C2 (dg (1 : Int).natAbs).length k2] ∧ RetSp [(1, Mo.var n)] w (.returned (.slice (some ⟨w2.heap.size, 0, none⟩) 1 1)) (w2.alloc (.cells #[.bool false, .slice C2 (dg 1).length k2, .int .i64 (Mo.var n).a, .int .i64 (Mo.var n).b, .int .i64 (Mo.var n).c, .int .i64 (Mo.var n).d] 190))) := Lib.hid (by
    intro w2 x2 hn hx
    obtain ⟨y2, rfl, nv⟩ := id hn
    obtain ⟨C2, k2, rfl, -⟩ := id nv
    exact ⟨C2, k2, rfl, _, rfl, one_term (Mo.var n) 190 hn, (HWX.out.trans hx).alloc _⟩)
   have y0 : Ext W W.drew := (Ext.refl W).drew
   have Y0 := Lib.hid y0
   clear hW y0
   go_enter Tryz.func64, Tryz.ntmps64
   go_wp2_with fail
   refine HL.out.mono ?_
   rintro e w1 ⟨rfl, rfl⟩
   rcases (show n = 1 ∨ n = 2 ∨ n = 3 ∨ n = 4 by omega) with rfl | rfl | rfl | rfl
   · have hW : w1.alloc (.cells #[.int .i64 1, .int .i64 0, .int .i64 0, .int .i64 0] 188) = W := HW.out
     have HC' : Hid (∀ W2, Ext W W2 → (Ext W W2 ∧ W2.cell? ⟨w1.heap.size, 0, none⟩ = some (.int .i64 1) ∧ W2.cell? ⟨w1.heap.size, 1, none⟩ = some (.int .i64 0) ∧ W2.cell? ⟨w1.heap.size, 2, none⟩ = some (.int .i64 0) ∧ W2.cell? ⟨w1.heap.size, 3, none⟩ = some (.int .i64 0))) := HC
     go_wp2_with fail
     clear hW
     go_region_held3 (fun W2 => Ext W W2 ∧ W2.cell? ⟨w1.heap.size, 0, none⟩ = some (.int .i64 1) ∧ W2.cell? ⟨w1.heap.size, 1, none⟩ = some (.int .i64 0) ∧ W2.cell? ⟨w1.heap.size, 2, none⟩ = some (.int .i64 0) ∧ W2.cell? ⟨w1.heap.size, 3, none⟩ = some (.int .i64 0))
      (first | with_reducible exact HC'.out _ Y0.out | with_reducible exact HC'.out _ y1 | exact HC'.out _ (Ext.alloc y1 _))
      ((go_at_call 100
        refine (of_int 1 _ (by omega) (by omega)).mono ?_
        rintro e w2 ⟨x2, rfl, n2, x2'⟩
        obtain ⟨C2, k2, rfl, hfin⟩ := HFIN.out _ _ n2 (Y0.out.trans x2')
        have HF := Lib.hid hfin
        have y1 : Ext W w2 := Y0.out.trans x2'
        clear hfin n2 x2'))
     all_goals
      clear y1
      go_wp2_with fail
      go_ret
      exact HF.out
   · have hW : w1.alloc (.cells #[.int .i64 0, .int .i64 1, .int .i64 0, .int .i64 0] 188) = W := HW.out
     have HC' : Hid (∀ W2, Ext W W2 → (Ext W W2 ∧ W2.cell? ⟨w1.heap.size, 0, none⟩ = some (.int .i64 0) ∧ W2.cell? ⟨w1.heap.size, 1, none⟩ = some (.int .i64 1) ∧ W2.cell? ⟨w1.heap.size, 2, none⟩ = some (.int .i64 0) ∧ W2.cell? ⟨w1.heap.size, 3, none⟩ = some (.int .i64 0))) := HC
     go_wp2_with fail
     clear hW
     go_region_held3 (fun W2 => Ext W W2 ∧ W2.cell? ⟨w1.heap.size, 0, none⟩ = some (.int .i64 0) ∧ W2.cell? ⟨w1.heap.size, 1, none⟩ = some (.int .i64 1) ∧ W2.cell? ⟨w1.heap.size, 2, none⟩ = some (.int .i64 0) ∧ W2.cell? ⟨w1.heap.size, 3, none⟩ = some (.int .i64 0))
      (first | with_reducible exact HC'.out _ Y0.out | with_reducible exact HC'.out _ y1 | exact HC'.out _ (Ext.alloc y1 _))
      ((go_at_call 100
        refine (of_int 1 _ (by omega) (by omega)).mono ?_
        rintro e w2 ⟨x2, rfl, n2, x2'⟩
        obtain ⟨C2, k2, rfl, hfin⟩ := HFIN.out _ _ n2 (Y0.out.trans x2')
        have HF := Lib.hid hfin
        have y1 : Ext W w2 := Y0.out.trans x2'
        clear hfin n2 x2'))
     all_goals
      clear y1
      go_wp2_with fail
      go_ret
      exact HF.out
   · have hW : w1.alloc (.cells #[.int .i64 0, .int .i64 0, .int .i64 1, .int .i64 0] 188) = W := HW.out
     have HC' : Hid (∀ W2, Ext W W2 → (Ext W W2 ∧ W2.cell? ⟨w1.heap.size, 0, none⟩ = some (.int .i64 0) ∧ W2.cell? ⟨w1.heap.size, 1, none⟩ = some (.int .i64 0) ∧ W2.cell? ⟨w1.heap.size, 2, none⟩ = some (.int .i64 1) ∧ W2.cell? ⟨w1.heap.size, 3, none⟩ = some (.int .i64 0))) := HC
     go_wp2_with fail
     clear hW
     go_region_held3 (fun W2 => Ext W W2 ∧ W2.cell? ⟨w1.heap.size, 0, none⟩ = some (.int .i64 0) ∧ W2.cell? ⟨w1.heap.size, 1, none⟩ = some (.int .i64 0) ∧ W2.cell? ⟨w1.heap.size, 2, none⟩ = some (.int .i64 1) ∧ W2.cell? ⟨w1.heap.size, 3, none⟩ = some (.int .i64 0))
      (first | with_reducible exact HC'.out _ Y0.out | with_reducible exact HC'.out _ y1 | exact HC'.out _ (Ext.alloc y1 _))
      ((go_at_call 100
        refine (of_int 1 _ (by omega) (by omega)).mono ?_
        rintro e w2 ⟨x2, rfl, n2, x2'⟩
        obtain ⟨C2, k2, rfl, hfin⟩ := HFIN.out _ _ n2 (Y0.out.trans x2')
        have HF := Lib.hid hfin
        have y1 : Ext W w2 := Y0.out.trans x2'
        clear hfin n2 x2'))
     all_goals
      clear y1
      go_wp2_with fail
      go_ret
      exact HF.out
   · have hW : w1.alloc (.cells #[.int .i64 0, .int .i64 0, .int .i64 0, .int .i64 1] 188) = W := HW.out
     have HC' : Hid (∀ W2, Ext W W2 → (Ext W W2 ∧ W2.cell? ⟨w1.heap.size, 0, none⟩ = some (.int .i64 0) ∧ W2.cell? ⟨w1.heap.size, 1, none⟩ = some (.int .i64 0) ∧ W2.cell? ⟨w1.heap.size, 2, none⟩ = some (.int .i64 0) ∧ W2.cell? ⟨w1.heap.size, 3, none⟩ = some (.int .i64 1))) := HC
     go_wp2_with fail
     clear hW
     go_region_held3 (fun W2 => Ext W W2 ∧ W2.cell? ⟨w1.heap.size, 0, none⟩ = some (.int .i64 0) ∧ W2.cell? ⟨w1.heap.size, 1, none⟩ = some (.int .i64 0) ∧ W2.cell? ⟨w1.heap.size, 2, none⟩ = some (.int .i64 0) ∧ W2.cell? ⟨w1.heap.size, 3, none⟩ = some (.int .i64 1))
      (first | with_reducible exact HC'.out _ Y0.out | with_reducible exact HC'.out _ y1 | exact HC'.out _ (Ext.alloc y1 _))
      ((go_at_call 100
        refine (of_int 1 _ (by omega) (by omega)).mono ?_
        rintro e w2 ⟨x2, rfl, n2, x2'⟩
        obtain ⟨C2, k2, rfl, hfin⟩ := HFIN.out _ _ n2 (Y0.out.trans x2')
        have HF := Lib.hid hfin
        have y1 : Ext W w2 := Y0.out.trans x2'
        clear hfin n2 x2'))
     all_goals
      clear y1
      go_wp2_with fail
      go_ret
      exact HF.out
 · rw [Pl.sp_novar h]
   have HL2 : Hid (Calls Tryz.prog 123 #[.int .i64 n] w fun e w' => e = .returned (.bool false) ∧ w' = w) := by
    rw [show (decide (1 ≤ n) && decide (n ≤ 4)) = false by simp; omega] at HL
    exact HL
   clear HL h
   go_enter Tryz.func64, Tryz.ntmps64
   go_wp2_with fail
   refine HL2.out.mono ?_
   rintro e w1 ⟨rfl, rfl⟩
   go_wp2_with fail
   go_ret
   exact ⟨_, rfl, sp_nil _, Ext.refl _⟩
theorem scl_step (c : Int) (l : Sp) (k : Nat) (hk : k < l.length) : (sscl c (l.take k) ++ l.drop k).set k (l[k].1 * c, l[k].2) = sscl c (l.take (k + 1)) ++ l.drop (k + 1) := by
 have h1 : (sscl c (l.take k)).length = k := by simp [sscl]; omega
 rw [List.set_append_right _ _ (by omega), h1, Nat.sub_self, List.drop_eq_getElem_cons hk, List.set_cons_zero, List.take_succ_eq_append_getElem hk]
 simp only [sscl, List.map_append, List.append_assoc, List.map_cons, List.map_nil, List.cons_append, List.nil_append]
theorem scl_len (c : Int) (l : Sp) (k : Nat) (hk : k ≤ l.length) : (sscl c (l.take k) ++ l.drop k).length = l.length := by
 simp [sscl]; omega
theorem scl_get (c : Int) (l : Sp) (k : Nat) (hk : k < l.length) : (sscl c (l.take k) ++ l.drop k)[k]'(by rw [scl_len c l k (by omega)]; exact hk) = l[k] := by
 have h1 : (sscl c (l.take k)).length = k := by simp [sscl]; omega
 rw [List.getElem_append_right (by omega)]
 simp [h1]
theorem SpO.set_ {base : Nat} {W : World} {g c : Nat} {l : Sp} (h : SpO base W (.slice (some ⟨g, 0, none⟩) l.length c) l) (k : Nat) (hk : k < l.length) {b : Bool} {A : Option Addr} {n d : Nat} {z : Int} (hc : IntN W (.agg #[.bool b, .slice A n d]) z) :
 SpO base ((W.setCell ⟨g, k * 6, none⟩ (.bool b)).setCell ⟨g, k * 6 + 1, none⟩ (.slice A n d)) (.slice (some ⟨g, 0, none⟩) l.length c) (l.set k (z, l[k].2)) ∧ (∀ v ds, NatV W v ds → NatV ((W.setCell ⟨g, k * 6, none⟩ (.bool b)).setCell ⟨g, k * 6 + 1, none⟩ (.slice A n d)) v ds) := by
 obtain ⟨⟨A', c', e, h1, h2, hat⟩, ho⟩ := h
 injection e with e1 e2 e3
 subst e1 e3
 obtain ⟨g', c', e, hb, hlt, hf⟩ := ho (by omega)
 injection e with e1 e2 e3
 injection e1 with e1
 injection e1 with e1
 subst e1 e3
 obtain ⟨ad, b0, B0, n0, c0, e, hadb, htm, hcf⟩ := hat k hk
 injection e with e
 subst e
 rw [add_mk, Nat.zero_add] at htm
 have q0 := htm.1
 have q1 := htm.2.1
 simp only at q1
 have hnat : ∀ v ds, NatV W v ds → NatV ((W.setCell ⟨g, k * 6, none⟩ (.bool b)).setCell ⟨g, k * 6 + 1, none⟩ (.slice A n d)) v ds := fun v ds hv =>
  (hv.box q0 rfl _).box (u := .slice B0 n0 c0) (by rw [World.cell?_setCell_other _ _ _ _ (by simp)]; exact q1) rfl _
 have other : ∀ j, j ≠ k * 6 → j ≠ k * 6 + 1 → ((W.setCell ⟨g, k * 6, none⟩ (.bool b)).setCell ⟨g, k * 6 + 1, none⟩ (.slice A n d)).cell? ⟨g, j, none⟩ = W.cell? ⟨g, j, none⟩ := fun j h1 h2 => by
  rw [World.cell?_setCell_other _ _ _ _ (by intro e; injection e with _ e; omega), World.cell?_setCell_other _ _ _ _ (by intro e; injection e with _ e; omega)]
 have hsz : ((W.setCell ⟨g, k * 6, none⟩ (.bool b)).setCell ⟨g, k * 6 + 1, none⟩ (.slice A n d)).heap.size = W.heap.size := by simp [World.setCell]
 have hll : (l.set k (z, l[k].2)).length = l.length := List.length_set
 refine ⟨⟨⟨some ⟨g, 0, none⟩, c, by rw [hll], by rw [hll]; exact h1, h2, fun i hi => ?_⟩, fun _ => ⟨g, c, by rw [hll], hb, by rw [hsz]; exact hlt, fun i hi => ?_⟩⟩, hnat⟩
 · rw [hll] at hi
   by_cases hik : i = k
   · subst hik
     refine ⟨_, b, A, n, d, rfl, by rw [hsz]; exact hlt, ?_, ?_⟩
     · rw [add_mk, Nat.zero_add, List.getElem_set_self]
       obtain ⟨t0, t1, t2, t3, t4, t5⟩ := htm
       refine ⟨?_, World.cell?_setCell_same _ _ _ (u := .slice B0 n0 c0) (by rw [World.cell?_setCell_other _ _ _ _ (by simp)]; exact q1), ?_, ?_, ?_, ?_⟩
       · rw [World.cell?_setCell_other _ _ _ _ (by simp)]
         exact World.cell?_setCell_same _ _ _ t0
       · exact (other (i * 6 + 2) (by omega) (by omega)).trans t2
       · exact (other (i * 6 + 3) (by omega) (by omega)).trans t3
       · exact (other (i * 6 + 4) (by omega) (by omega)).trans t4
       · exact (other (i * 6 + 5) (by omega) (by omega)).trans t5
     · rw [List.getElem_set_self]
       exact Cf.turn (k := none) hc hnat
   · obtain ⟨ad, b1, B1, n1, c1, e, hadb1, htm1, hcf1⟩ := hat i hi
     injection e with e
     subst e
     refine ⟨_, b1, B1, n1, c1, rfl, by rw [hsz]; exact hlt, ?_, ?_⟩
     · rw [List.getElem_set_ne (fun e => hik e.symm)]
       rw [add_mk, Nat.zero_add] at htm1 ⊢
       exact htm1.same (other _ (by omega) (by omega)) (fun j hj => other _ (by simp only; omega) (by simp only; omega))
     · rw [List.getElem_set_ne (fun e => hik e.symm)]
       exact Cf.turn (k := none) hcf1 hnat
 · rw [World.frozen?_setCell, World.frozen?_setCell]
   exact hf i (by rw [hll] at hi; exact hi)
theorem sScale_any {w : World} {p : Pl} {z : Int} {L E D : Nat} (v x : Value) (h : SpV w none v p.sp) (hx : IntR w x z L) (hz : z ≠ 0) (hp : Fit p E D) (hE : E ≤ 900) (hD : D + D ≤ 17592186044000) (hL : D + L ≤ 17592186044000) : Calls Tryz.prog 124 #[v, x] w (RetSp (p.mul (Pl.const z)).sp w) := by
 rw [← Pl.sp_scale p hz]
 have HV := Lib.hid h
 have HX := Lib.hid hx
 obtain ⟨A0, c0, rfl, -, -, -⟩ := h
 obtain ⟨b, A, n, c, rfl⟩ := hx.unpack
 have hsl := Nat.le_trans hp.sp_len (pow4_le hE)
 have HDG := Lib.hid hp.sp_dg
 have HNR : Hid ((dg (snrm p.sp)).length ≤ D) := Lib.hid (dg_length_le_of_lt hp.sp_nrm)
 have HSELF := Lib.hid p.sp_self
 generalize p.sp = l at *
 obtain ⟨W, hW⟩ : ∃ W, w.alloc (.cells #[.bool b, .slice A n c] 25) = W := ⟨_, rfl⟩
 have HWX : Hid (Ext w W) := Lib.hid (by rw [← hW]; exact (Ext.refl w).alloc _)
 have hs : W.heap.size = w.heap.size + 1 := by rw [← hW]; simp
 have HQ : Hid (∀ W', Ext W W' → W'.cell? ⟨w.heap.size, 0, none⟩ = some (.bool b) ∧ W'.cell? ⟨w.heap.size, 1, none⟩ = some (.slice A n c)) := Lib.hid (by
  intro W' hx
  exact ⟨(hx.cell (p := ⟨w.heap.size, 0, none⟩) (by show w.heap.size < _; omega)).trans (by rw [← hW]; simp [go_sem]), (hx.cell (p := ⟨w.heap.size, 1, none⟩) (by show w.heap.size < _; omega)).trans (by rw [← hW]; simp [go_sem])⟩)
 obtain ⟨q0, q1⟩ := HQ.out W (Ext.refl W)
 have hq := sgI_zero hz
 clear hx hp hz
 go_enter Tryz.func124, Tryz.ntmps124
 go_wp2_with fail
 clear hW q0 q1
 refine (sign_int _ z L W (HX.out.ext HWX.out)).mono ?_
 rintro e w1 ⟨rfl, x1⟩
 have X1 := Lib.hid x1
 clear x1
 go_wp2_with fail
 clear hq
 have hko : ∀ z : Int, (∃ x ∈ l, x.1 = z) → (none : Option Nat).getD (dg z.natAbs).length ≤ D := fun z ⟨x, hx, e⟩ => by rw [← e]; exact HDG.out x hx
 refine (sNormalO_any D (HV.out.ext (HWX.out.trans X1.out)) hko (by have := HNR.out; omega) (by omega)).mono ?_
 clear hko
 rintro e w2 ⟨v2, rfl, s2, x2⟩
 rw [HSELF.out] at s2
 have X2 := Lib.hid (X1.out.trans x2)
 have hs2 := x2.size
 have hs1 := X1.out.size
 obtain ⟨A2, c2, rfl, hc2, hm2, -⟩ := id s2.1
 have S2 := Lib.hid s2
 clear s2 x2
 go_wp2_with fail
 have X2' := Lib.hid X2.out
 go_loopw [14] (fun iv wr => ∃ k : Nat, k ≤ l.length ∧ iv = .int .i64 k ∧ Hid (SpO W.heap.size wr (.slice A2 l.length c2) (sscl z (l.take k) ++ l.drop k) ∧ Ext W wr)) (fun iv _ => l.length - (intOf iv).toNat)
 case atStart => exact ⟨0, Nat.zero_le _, rfl, by simpa [sscl] using S2.out.less hs1, X2.out⟩
 case round =>
  obtain ⟨k, hk, rfl, ⟨hso, hxw⟩⟩ := hrel
  have HSO := Lib.hid hso
  have HXW := Lib.hid hxw
  by_cases hlt : k < l.length
  · have hlen := scl_len z l k hk
    obtain ⟨g, c', e, hgb, hgl, hgf⟩ := hso.2 (by omega)
    injection e with e1 e2 e3
    subst e1 e3
    obtain ⟨Aq, cq, e, -, -, hat⟩ := hso.1
    injection e with e1 e2' e3
    subst e1 e3
    obtain ⟨ad, b0, B0, n0, d0, e, hadb, htm, hcf⟩ := hat k (by omega)
    injection e with e
    subst e
    rw [scl_get z l k hlt] at htm hcf
    rw [add_mk, Nat.zero_add] at htm
    obtain ⟨t0, t1, -⟩ := htm
    simp only at t0 t1
    obtain ⟨r0, r1⟩ := HQ.out wr hxw
    have hdg := HDG.out l[k] (List.getElem_mem hlt)
    have HST := Lib.hid (scl_step z l k hlt)
    have HGT := Lib.hid (scl_get z l k hlt)
    have HARG := Lib.hid (fun W' (hx : Ext wr W') => IntN.raw (IntN.ext (show IntN wr (.agg #[.bool b0, .slice B0 n0 d0]) l[k].1 from hcf) hx))
    have hq6 : (⟨g, 0, none⟩ : Addr).add (k * 6) = ⟨g, k * 6, none⟩ := by rw [add_mk, Nat.zero_add]
    have hg0 := hgf (k * 6) (by omega)
    have hg1 := hgf (k * 6 + 1) (by omega)
    have HSTEP : Hid (∀ (w3 : World) (x3 : Value), IntN w3 x3 (l[k].1 * z) → Ext wr w3 → ∃ A3 n3 c3, x3 = .agg #[.bool (decide (l[k].1 * z < 0)), .slice A3 n3 c3] ∧ (w3.cell? ⟨w.heap.size, 0, none⟩ = some (.bool b) ∧ w3.cell? ⟨w.heap.size, 1, none⟩ = some (.slice A n c)) ∧ (w3.cell? ⟨g, k * 6, none⟩ = some (.bool b0) ∧ w3.cell? ⟨g, k * 6 + 1, none⟩ = some (.slice B0 n0 d0) ∧ w3.frozen? ⟨g, k * 6, none⟩ = false ∧ w3.frozen? ⟨g, k * 6 + 1, none⟩ = false) ∧ (SpO W.heap.size ((w3.setCell ⟨g, k * 6, none⟩ (.bool (decide (l[k].1 * z < 0)))).setCell ⟨g, k * 6 + 1, none⟩ (.slice A3 n3 c3)) (.slice (some ⟨g, 0, none⟩) l.length c2) (sscl z (l.take (k + 1)) ++ l.drop (k + 1)) ∧ Ext W ((w3.setCell ⟨g, k * 6, none⟩ (.bool (decide (l[k].1 * z < 0)))).setCell ⟨g, k * 6 + 1, none⟩ (.slice A3 n3 c3)))) := Lib.hid (by
     intro w3 x3 hn hx
     obtain ⟨y3, rfl, nv⟩ := id hn
     obtain ⟨A3, c3, rfl, -⟩ := id nv
     have ev : ∀ i, w3.cell? ⟨g, i, none⟩ = wr.cell? ⟨g, i, none⟩ := fun i => hx.cell (p := ⟨g, i, none⟩) hgl
     have hso3 : SpO W.heap.size w3 (.slice (some ⟨g, 0, none⟩) (sscl z (l.take k) ++ l.drop k).length c2) (sscl z (l.take k) ++ l.drop k) := by
      have h3 := HSO.out
      rw [← hlen] at h3
      refine ⟨h3.1.ext hx, fun hp => ?_⟩
      obtain ⟨g', c', e, h4, h5, h6⟩ := h3.2 hp
      exact ⟨g', c', e, h4, Nat.lt_of_lt_of_le h5 hx.size, fun i hi => (hx.frozen (p := ⟨g', i, none⟩) h5).trans (h6 i hi)⟩
     have hs := (hso3.set_ k (by omega) hn).1
     rw [HGT.out, HST.out, hlen] at hs
     exact ⟨A3, _, c3, rfl, HQ.out w3 (HXW.out.trans hx), ⟨(ev _).trans t0, (ev _).trans t1, (hx.frozen (p := ⟨g, k * 6, none⟩) hgl).trans hg0, (hx.frozen (p := ⟨g, k * 6 + 1, none⟩) hgl).trans hg1⟩, hs, ((HXW.out.trans hx).setCell hgb _).setCell hgb _⟩)
    have y0 : Ext wr wr.drew := (Ext.refl wr).drew
    have Y0 := Lib.hid y0
    have HXR := Lib.hid (HX.out.ext (HWX.out.trans HXW.out))
    clear hso hxw hat hcf hadb hgf HSO HST HGT S2 X2 X2' HV HX HWX y0 e2 e2'
    go_upto_region 7 with fail
    go_region_law (first
     | (go_simp
        go_at_call 128
        refine (mul_int _ _ (l[k].1) z _ L _ (HARG.out _ Y0.out) (HXR.out.ext Y0.out) (by omega)).mono ?_
        rintro e w3 ⟨x3, rfl, n3, y3⟩
        obtain ⟨A3, n3', c3, rfl, ⟨G0, G1⟩, ⟨T0, T1, TF0, TF1⟩, hfin⟩ := HSTEP.out _ _ n3 (Y0.out.trans y3)
        have HFIN := Lib.hid hfin
        clear n3 y3 hfin))
    all_goals
     clear G0 G1 T0 T1 TF0 TF1 r0 r1 t0 t1 HSTEP hg0 hg1
     go_wp2_with fail
     go_roundw
     case rel => exact ⟨k + 1, by omega, by go_num, HFIN.out.1, HFIN.out.2⟩
     case measure => simp [intOf]; omega
  · have hke : k = l.length := by omega
    have HF : Hid (SpV wr none (.slice A2 l.length c2) (sscl z l)) := Lib.hid (by
     have h1 := hso.1
     rw [hke, List.take_length, List.drop_length, List.append_nil] at h1
     exact h1)
    clear hso hxw hke
    go_wp2_with fail
    go_ret
    exact ⟨_, rfl, HF.out, HWX.out.trans HXW.out⟩
theorem sNeg_any {w : World} {p : Pl} {E D : Nat} (v : Value) (h : SpV w none v p.sp) (hp : Fit p E D) (hE : E ≤ 900) (hD : D + D ≤ 17592186044000) : Calls Tryz.prog 65 #[v] w (RetSp p.opp.sp w) := by
 have HV := Lib.hid h
 have HP := Lib.hid hp
 obtain ⟨A0, c0, rfl, -, -, -⟩ := h
 clear hp
 go_enter Tryz.func65, Tryz.ntmps65
 go_wp2_with fail
 refine (of_int (-1) w (by omega) (by omega)).mono ?_
 rintro e w1 ⟨z1, rfl, m1, x1⟩
 have HI : Hid (IntR w1 z1 (-1) 1) := Lib.hid (by
  obtain ⟨y1, rfl, n1⟩ := m1
  exact intR_of n1 (show (dg (-1 : Int).natAbs).length ≤ 1 from dg_length_le_of_lt (by decide)))
 obtain ⟨y1, rfl, n1⟩ := m1
 obtain ⟨C1, k1, rfl, -⟩ := n1
 have X1 := Lib.hid x1
 clear x1
 go_wp2_with fail
 refine (sScale_any _ _ (HV.out.ext X1.out) HI.out (by decide) HP.out hE hD (by omega)).mono ?_
 rintro e w2 ⟨v2, rfl, s2, x2⟩
 have HF : Hid (SpV w2 none v2 p.opp.sp ∧ Ext w w2) := Lib.hid ⟨s2, X1.out.trans x2⟩
 obtain ⟨A2, c2, rfl, -⟩ := id s2
 clear s2 x2
 go_wp2_with fail
 go_ret
 exact ⟨_, rfl, HF.out⟩
theorem gfold_take2 (acc l : Sp) (k : Nat) (hk : k < l.length) : gfold [] (acc ++ l.take (k + 1)) = if l[k].2.nonneg then gput l[k].1 l[k].2 (gfold [] (acc ++ l.take k)) else gfold [] (acc ++ l.take k) := by
 rw [List.take_succ_eq_append_getElem hk, ← List.append_assoc, gfold_append]; rfl
theorem snrm_prefix (acc l : Sp) (k : Nat) : snrm (acc ++ l.take k) ≤ snrm (acc ++ l) := by
 rw [snrm_append, snrm_append]
 have := snrm_take l k
 omega
theorem index_two (x y : Value) (w : World) : (Instr.index 194 (.agg #[x, y]) (.int .i64 0)).run Tryz.prog w = .ok x w ∧ (Instr.index 194 (.agg #[x, y]) (.int .i64 1)).run Tryz.prog w = .ok y w := ⟨by kernel_rfl, by kernel_rfl⟩
structure GatJ (w : World) (acc l : Sp) (D : Nat) : Prop where
 le : ∀ x ∈ acc ++ l, x.2.le (900 : Nat)
 dgs : ∀ x ∈ l, (dg x.1.natAbs).length ≤ D
 nrm : (dg (snrm (acc ++ l))).length ≤ D
 lim : D + D ≤ 35184372088000
theorem GatJ.add {w : World} {acc l : Sp} {D : Nat} (h : GatJ w acc l D) {W : World} {G M : Nat} {gv : Value} {base : Nat} {k : Nat} (hk : k < l.length) (hg : GaV base W G M gv (gfold [] (acc ++ l.take k))) (hb : base ≤ W.heap.size) {x : Value} (hx : IntR W x l[k].1 (dg l[k].1.natAbs).length) :
 Calls Tryz.prog 126 #[.pointer (some ⟨G, 0, none⟩), moV l[k].2, x] W (GaPost base G M gv (gfold [] (acc ++ l.take (k + 1))) W) := by
 have h1 : (dg (snrm (gfold [] (acc ++ l.take k)))).length ≤ D := Nat.le_trans (dg_length_mono (Nat.le_trans (gfold_snrm _) (snrm_prefix acc l k))) h.nrm
 have h2 := gfold_short (E := 900) (l := acc ++ l.take k) (fun y hy => by
  rcases List.mem_append.1 hy with hy | hy
  · exact h.le y (List.mem_append.2 (.inl hy))
  · exact h.le y (List.mem_append.2 (.inr (List.mem_of_mem_take hy)))) (Nat.le_refl _)
 have h3 := h.dgs _ (List.getElem_mem hk)
 have h4 := h.lim
 have := gadd_any hg l[k].2 x (dg l[k].1.natAbs).length l[k].1 hx hb (by omega) (by omega)
 rw [← gfold_take2 acc l k hk] at this
 exact this
theorem GatJ.poly {w : World} {acc l : Sp} {D : Nat} (h : GatJ w acc l D) {W : World} {G M : Nat} {gv : Value} {base : Nat} (hg : GaV base W G M gv (gfold [] (acc ++ l))) :
 Calls Tryz.prog 127 #[.pointer (some ⟨G, 0, none⟩)] W (RetSp (snorm (acc ++ l)) W) := by
 have h2 := gfold_short (E := 900) (l := acc ++ l) h.le (Nat.le_refl _)
 have := poly_any hg (gfold_apart _ [] List.Pairwise.nil) (gfold_nn _ [] (by simp)) (by omega)
 rw [gfold_snorm] at this
 exact this
theorem sAdd_core {w : World} {p q r : Sp} {D : Nat} (v u : Value) (h : SpV w none v p) (k : SpV w none u q) (hj1 : GatJ w [] p D) (hj2 : GatJ w p q D) (hr : snorm (p ++ q) = r) : Calls Tryz.prog 67 #[v, u] w (RetSp r w) := by
 obtain ⟨A0, c0, rfl, hl1, hl2, hat⟩ := h
 obtain ⟨B0, d0, rfl, hk1, hk2, hau⟩ := k
 have HAT := Lib.hid hat
 have HAU := Lib.hid hau
 have HJ1 := Lib.hid hj1
 have HJ2 := Lib.hid hj2
 have HRES := Lib.hid hr
 have hidx := fun w => (index_two (.slice A0 p.length c0) (.slice B0 q.length d0) w).1
 have hidy := fun w => (index_two (.slice A0 p.length c0) (.slice B0 q.length d0) w).2
 clear hat hau hj1 hj2 hr
 go_enter Tryz.func67, Tryz.ntmps67
 go_wp2_with fail
 refine (newGather_any w).mono ?_
 rintro e w1 ⟨rfl, g1, x1⟩
 have HX1 := Lib.hid x1
 have HG1 : Hid (∃ gv, GaV w.heap.size w1 (w.heap.size + 1) w.heap.size gv (gfold [] ([] ++ p.take 0))) := Lib.hid ⟨_, g1⟩
 clear g1 x1
 go_wp2_with fail
 refine wp_loop_rounds 3 ?_
 rw [rounds_succ]
 go_wp2_with fail
 go_loopw [19] (fun iv wr => ∃ k : Nat, k ≤ p.length ∧ iv = .int .i64 k ∧ Hid ((∃ gv, GaV w.heap.size wr (w.heap.size + 1) w.heap.size gv (gfold [] ([] ++ p.take k))) ∧ Ext w wr)) (fun iv _ => p.length - (intOf iv).toNat)
 case atStart => exact ⟨0, Nat.zero_le _, rfl, HG1.out, HX1.out⟩
 case round =>
  obtain ⟨k, hk, rfl, ⟨⟨gv, hg⟩, hx⟩⟩ := hrel
  have HG := Lib.hid hg
  have HX := Lib.hid hx
  by_cases hlt : k < p.length
  · obtain ⟨ad, b, B, n, d, rfl, hadb, htm, hcf⟩ := HAT.out.ext hx k hlt
    obtain ⟨t0, t1, t2, t3, t4, t5⟩ := htm
    have hs := hx.size
    have HCALL := Lib.hid (fun W (hW : Ext wr W) => HJ1.out.add hlt (hg.ext hW) (by have := hW.size; omega) (Cf.raw (k := none) (hcf.ext hW)))
    clear hg hx hcf
    generalize p[k] = lk at *
    go_wp2_with fail
    refine (HCALL.out _ ((Ext.refl _).alloc _)).mono ?_
    rintro e w2 ⟨rfl, v2, g2, b2, -, -⟩
    have X2 : Hid (Ext w w2) := Below.trans (HX.out.alloc _) b2
    have G2 := Lib.hid g2
    clear g2 b2 HCALL
    go_wp2_with fail
    go_roundw
    case rel => exact ⟨k + 1, by omega, by go_num, ⟨_, G2.out⟩, X2.out⟩
    case measure => simp [intOf]; omega
  · have hke : p.take k = p := by rw [show k = p.length by omega, List.take_length]
    rw [hke] at HG
    clear hg hx hke
    obtain ⟨w5, rfl⟩ : ∃ w5, w5 = wr := ⟨wr, rfl⟩
    have HG5 : Hid (∃ gv, GaV w.heap.size w5 (w.heap.size + 1) w.heap.size gv (gfold [] (p ++ q.take 0))) := Lib.hid ⟨gv, by have := HG.out; simpa using this⟩
    have HX5 := Lib.hid HX.out
    go_wp2_with fail
    rw [rounds_succ]
    go_wp2_with fail
    go_loopw [19] (fun iv wr => ∃ k : Nat, k ≤ q.length ∧ iv = .int .i64 k ∧ Hid ((∃ gv, GaV w.heap.size wr (w.heap.size + 1) w.heap.size gv (gfold [] (p ++ q.take k))) ∧ Ext w wr)) (fun iv _ => q.length - (intOf iv).toNat)
    case atStart => exact ⟨0, Nat.zero_le _, rfl, HG5.out, HX5.out⟩
    case round =>
     obtain ⟨k, hk, rfl, ⟨⟨gv, hg⟩, hx⟩⟩ := hrel
     have HG := Lib.hid hg
     have HX := Lib.hid hx
     by_cases hlt : k < q.length
     · obtain ⟨ad, b, B, n, d, rfl, hadb, htm, hcf⟩ := HAU.out.ext hx k hlt
       obtain ⟨t0, t1, t2, t3, t4, t5⟩ := htm
       have hs := hx.size
       have HCALL := Lib.hid (fun W (hW : Ext wr W) => HJ2.out.add hlt (hg.ext hW) (by have := hW.size; omega) (Cf.raw (k := none) (hcf.ext hW)))
       clear hg hx hcf
       generalize q[k] = lk at *
       go_wp2_with fail
       refine (HCALL.out _ ((Ext.refl _).alloc _)).mono ?_
       rintro e w2 ⟨rfl, v2, g2, b2, -, -⟩
       have X2 : Hid (Ext w w2) := Below.trans (HX.out.alloc _) b2
       have G2 := Lib.hid g2
       clear g2 b2 HCALL
       go_wp2_with fail
       go_roundw
       case rel => exact ⟨k + 1, by omega, by go_num, ⟨_, G2.out⟩, X2.out⟩
       case measure => simp [intOf]; omega
     · have hke : q.take k = q := by rw [show k = q.length by omega, List.take_length]
       rw [hke] at HG
       clear hg hx hke
       go_wp2_with fail
       rw [rounds_succ]
       go_wp2_with fail
       refine (HJ2.out.poly HG.out).mono ?_
       rintro e w3 ⟨v3, rfl, s3, x3⟩
       rw [HRES.out] at s3
       obtain ⟨A3, c3, rfl, -⟩ := id s3
       have HF : Hid (SpV w3 none _ _ ∧ Ext w w3) := Lib.hid ⟨s3, HX.out.trans x3⟩
       clear s3 x3
       go_wp2_with fail
       go_ret
       exact ⟨_, rfl, HF.out⟩
theorem sAdd_any {w : World} {p q : Pl} {E D F G : Nat} (v u : Value) (h : SpV w none v p.sp) (k : SpV w none u q.sp) (hp : Fit p E D) (hq : Fit q F G) (hE : E ≤ 900) (hF : F ≤ 900) (hD : D + G ≤ 17592186043000) : Calls Tryz.prog 67 #[v, u] w (RetSp (p.add q).sp w) := by
 have hle1 : ∀ x ∈ p.sp, x.2.le ((900 : Nat) : Int) := fun x hx => (hp.sp_le x hx).mono (by omega)
 have hle2 : ∀ x ∈ q.sp, x.2.le ((900 : Nat) : Int) := fun x hx => (hq.sp_le x hx).mono (by omega)
 have hn : snrm (p.sp ++ q.sp) < B32 ^ (D + G + 1) := by
  rw [snrm_append, Nat.pow_succ]
  have h1 := hp.sp_nrm
  have h2 := hq.sp_nrm
  have h3 : B32 ^ D ≤ B32 ^ (D + G) := Nat.pow_le_pow_right (by decide) (by omega)
  have h4 : B32 ^ G ≤ B32 ^ (D + G) := Nat.pow_le_pow_right (by decide) (by omega)
  have h5 : B32 ^ (D + G) * 2 ≤ B32 ^ (D + G) * B32 := Nat.mul_le_mul_left _ (by decide)
  omega
 have hd := dg_length_le_of_lt hn
 refine sAdd_core (D := D + G + 1) v u h k ⟨?_, ?_, ?_, by omega⟩ ⟨?_, ?_, hd, by omega⟩ (Pl.sp_add p q)
 · exact hle1
 · intro x hx; exact Nat.le_trans (hp.sp_dg x hx) (by omega)
 · exact Nat.le_trans (dg_length_mono (by rw [List.nil_append, snrm_append]; omega)) hd
 · intro x hx; exact (List.mem_append.1 hx).elim (hle1 x) (hle2 x)
 · intro x hx; exact Nat.le_trans (hq.sp_dg x hx) (by omega)
theorem sSub_any {w : World} {p q : Pl} {E D F G : Nat} (v u : Value) (h : SpV w none v p.sp) (k : SpV w none u q.sp) (hp : Fit p E D) (hq : Fit q F G) (hE : E ≤ 900) (hF : F ≤ 900) (hD : D + G + G + 1 ≤ 17592186043000) : Calls Tryz.prog 68 #[v, u] w (RetSp (p.add q.opp).sp w) := by
 have HV := Lib.hid h
 have HU := Lib.hid k
 have HP := Lib.hid hp
 have HQ := Lib.hid hq
 obtain ⟨A0, c0, rfl, -, -, -⟩ := h
 obtain ⟨B0, d0, rfl, -, -, -⟩ := k
 clear hp hq
 go_enter Tryz.func68, Tryz.ntmps68
 go_wp2_with fail
 refine (sNeg_any _ HU.out HQ.out hF (by omega)).mono ?_
 rintro e w1 ⟨v1, rfl, s1, x1⟩
 obtain ⟨A1, c1, e1, -⟩ := id s1
 have X1 := Lib.hid x1
 have S1 := Lib.hid s1
 rw [e1] at S1 ⊢
 clear s1 x1 e1
 go_wp2_with fail
 refine (sAdd_any _ _ (HV.out.ext X1.out) S1.out HP.out HQ.out.opp hE hF (by omega)).mono ?_
 rintro e w2 ⟨v2, rfl, s2, x2⟩
 have HF : Hid (SpV w2 none v2 _ ∧ Ext w w2) := Lib.hid ⟨s2, X1.out.trans x2⟩
 obtain ⟨A2, c2, rfl, -⟩ := id s2
 clear s2 x2
 go_wp2_with fail
 go_ret
 exact ⟨_, rfl, HF.out⟩
end Go.Proofs.YtkbpnppiadaibaaGreatDoor
