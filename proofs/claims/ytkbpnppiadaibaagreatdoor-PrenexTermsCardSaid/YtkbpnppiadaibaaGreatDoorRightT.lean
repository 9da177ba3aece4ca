/- Law 38: PrenexTerms answers true. -/
import Derived.Test.YtkbpnppiadaibaaGreatDoorMt48
import Derived.Test.YtkbpnppiadaibaaGreatDoorMt47
import Derived.Test.YtkbpnppiadaibaaGreatDoorMt50
import Derived.Test.YtkbpnppiadaibaaGreatDoorMt49
import Derived.Test.YtkbpnppiadaibaaGreatDoorMt51
set_option linter.unusedSimpArgs false
set_option linter.unusedVariables false

set_option maxRecDepth 100000
set_option maxHeartbeats 8000000
namespace Go.Proofs.YtkbpnppiadaibaaGreatDoor
open Go.RowKit
theorem freeStep_any (P : ByteArray → Bool) (a : ByteArray → Int) (s : ByteArray) (ha : a s = 0) (l : List ByteArray) : (freeStep a s l).any P = (l.any P || P s) := by
 unfold freeStep
 by_cases h : has l s = false
 · rw [if_pos ⟨ha, h⟩, List.any_append]; simp
 · rw [if_neg (fun e => h e.2)]
   have hm := (has_iff l s).1 (by simpa using h)
   cases hp : P s with
   | false => simp
   | true =>
     have : l.any P = true := List.any_eq_true.2 ⟨s, hm, hp⟩
     simp [this]
theorem Tm.fold_any (g : ByteArray → Int) (hg : ∀ s, 0 ≤ g s) (m : Tm) : ∀ l, (m.fold (freeStep (fun _ => 0)) l).any (fun s => g s == 0) = (l.any (fun s => g s == 0) || !(m.cov g)) := by
 induction m with
 | num z => intro l; simp [Tm.fold, Tm.cov]
 | name s =>
   intro l
   rw [Tm.fold, freeStep_any _ _ _ rfl]
   have h1 : (g s == 0) = !(decide (0 ≤ g s - 1)) := by
    have := hg s
    by_cases h : g s = 0
    · rw [h]; rfl
    · rw [beq_eq_false_iff_ne.2 h, decide_eq_true (show 0 ≤ g s - 1 by omega)]; rfl
   rw [h1]; rfl
 | add x y ihx ihy => intro l; rw [Tm.fold, ihy, ihx, Tm.cov, Bool.not_and, Bool.or_assoc]
 | sub x y ihx ihy => intro l; rw [Tm.fold, ihy, ihx, Tm.cov, Bool.not_and, Bool.or_assoc]
 | mul x y ihx ihy => intro l; rw [Tm.fold, ihy, ihx, Tm.cov, Bool.not_and, Bool.or_assoc]
 | neg x ihx => intro l; rw [Tm.fold, ihx, Tm.cov]
 | pow x e ihx => intro l; rw [Tm.fold, ihx, Tm.cov]
theorem Tm.cov_names (g : ByteArray → Int) (hg : ∀ s, 0 ≤ g s) (m : Tm) : (m.names1.any fun s => g s == 0) = !(m.cov g) := by
 unfold Tm.names1
 rw [Tm.fold_any g hg]
 rfl
theorem lawPTerms_any {w : World} {p : Nat → Prop} {nms : List ByteArray} {s : Value} (t : Tr) (v : Value) (h : TrV w p t v) (hs : SlR (fun _ (s : ByteArray) x => x = .string s) w s nms) : Calls Tryz.prog 4 #[v, s] w (RetB true w) := by
 have HT := Lib.hid h
 have HS := Lib.hid hs
 obtain ⟨NA, cn, rfl, hn1, hn2, -⟩ := hs
 obtain ⟨A0, n0, c0, A, c, rfl, -, hl1, hl2, h4⟩ := h.open_
 clear h h4
 unfold ndV
 unfold ndV at HT
 obtain ⟨W, hW⟩ : ∃ W, w.alloc (.cells #[.int .i64 t.d.kind, .bool t.d.neg, .slice A0 n0 c0, .string t.d.name, .int .i64 t.d.exp, .int .i64 t.d.rel, .bool t.d.truth, .bool t.d.all, .slice A t.ks.length c] 29) = W := ⟨_, rfl⟩
 have hWx : Ext w W := by rw [← hW]; exact (Ext.refl w).alloc _
 have hWs : W.heap.size = w.heap.size + 1 := by rw [← hW]; simp
 have hbx : Box9 W w.heap.size t.d (.slice A0 n0 c0) (.slice A t.ks.length c) := by rw [← hW]; exact Box9.new w t.d _ _ _
 have HBW : Hid (∀ w', Ext W w' → Box9 w' w.heap.size t.d (.slice A0 n0 c0) (.slice A t.ks.length c)) := Lib.hid (fun w' hx => hbx.ext hx (by omega))
 have HWX := Lib.hid hWx
 have HTX := Lib.hid (fun w' (hx : Ext W w') => HT.out.ext (HWX.out.trans hx))
 have HSX := Lib.hid (fun w' (hx : Ext W w') => SlR.ext HS.out (fun _ _ h => h) (HWX.out.trans hx))
 clear hWx hbx HT HS
 go_enter Tryz.func4, Tryz.ntmps4
 go_wp2_with fail
 clear hW
 refine (awake38_any _).mono ?_
 rintro e w1 ⟨rfl, x1⟩
 obtain ⟨b0, b1, b2, b3, b4, b5, b6, b7, b8⟩ := HBW.out _ x1
 have X1 := Lib.hid x1
 clear x1
 go_wp2_with fail
 clear b0 b1 b2 b3 b4 b5 b6 b7 b8
 refine (fewT_any t _ (HTX.out _ X1.out) 60 (by omega)).mono ?_
 rintro e w2 ⟨rfl, x2⟩
 have hx2 := X1.out.trans x2
 obtain ⟨b0, b1, b2, b3, b4, b5, b6, b7, b8⟩ := HBW.out _ hx2
 have X2 := Lib.hid hx2
 clear x2 hx2
 by_cases c1 : t.few 60 = true
 case neg =>
  rw [show t.few 60 = false by simpa using c1]
  clear c1 b0 b1 b2 b3 b4 b5 b6 b7 b8
  go_wp2_with fail
  refine (awake38_any _).mono ?_
  rintro e w9 ⟨rfl, x9⟩
  have X9 := Lib.hid (HWX.out.trans (X2.out.trans x9))
  clear x9
  go_wp2_with fail
  go_ret
  exact ⟨rfl, X9.out⟩
 obtain ⟨hsz, hds⟩ := few_list c1
 rw [c1]
 clear c1
 go_wp2_with fail
 clear b0 b1 b2 b3 b4 b5 b6 b7 b8
 refine (is_any t _ _ true (HTX.out _ X2.out)).mono ?_
 rintro e w3 ⟨rfl, x3⟩
 have hx3 := X2.out.trans x3
 obtain ⟨b0, b1, b2, b3, b4, b5, b6, b7, b8⟩ := HBW.out _ hx3
 have X3 := Lib.hid hx3
 clear x3 hx3
 by_cases c2 : t.is true = true
 case neg =>
  rw [show t.is true = false by simpa using c2]
  clear c2 b0 b1 b2 b3 b4 b5 b6 b7 b8
  go_wp2_with fail
  refine (awake38_any _).mono ?_
  rintro e w9 ⟨rfl, x9⟩
  have X9 := Lib.hid (HWX.out.trans (X3.out.trans x9))
  clear x9
  go_wp2_with fail
  go_ret
  exact ⟨rfl, X9.out⟩
 obtain ⟨m, hm, hms⟩ := is_tm t c2 hds
 rw [c2]
 have HM := Lib.hid hm
 clear c2 hm hds
 go_wp2_with fail
 clear b0 b1 b2 b3 b4 b5 b6 b7 b8
 refine (refDegree_any (L := 20) m t _ _ HM.out (HTX.out _ X3.out)).mono ?_
 rintro e w4 ⟨rfl, x4⟩
 have hx4 := X3.out.trans x4
 obtain ⟨b0, b1, b2, b3, b4, b5, b6, b7, b8⟩ := HBW.out _ hx4
 have X4 := Lib.hid hx4
 clear x4 hx4
 by_cases c3 : m.deg ≤ 9
 case neg =>
  have hd : decide ((9 : Int) < m.deg) = true := decide_eq_true (by omega)
  clear c3 b0 b1 b2 b3 b4 b5 b6 b7 b8
  go_wp2_with fail
  refine (awake38_any _).mono ?_
  rintro e w9 ⟨rfl, x9⟩
  have X9 := Lib.hid (HWX.out.trans (X4.out.trans x9))
  clear x9
  go_wp2_with fail
  go_ret
  exact ⟨rfl, X9.out⟩
 have hd : decide ((9 : Int) < m.deg) = false := decide_eq_false (by omega)
 clear c3
 go_wp2_with fail
 clear b0 b1 b2 b3 b4 b5 b6 b7 b8 hd
 refine (refWeight_any (L := 20) (by omega) m t _ _ HM.out (HTX.out _ X4.out)).mono ?_
 rintro e w5 ⟨rfl, x5⟩
 have hx5 := X4.out.trans x5
 obtain ⟨b0, b1, b2, b3, b4, b5, b6, b7, b8⟩ := HBW.out _ hx5
 have X5 := Lib.hid hx5
 clear x5 hx5
 by_cases c4 : m.wt ≤ 400
 case neg =>
  have hd : decide ((400 : Int) < m.wt) = true := decide_eq_true (by omega)
  clear c4 b0 b1 b2 b3 b4 b5 b6 b7 b8
  go_wp2_with fail
  refine (awake38_any _).mono ?_
  rintro e w9 ⟨rfl, x9⟩
  have X9 := Lib.hid (HWX.out.trans (X5.out.trans x9))
  clear x9
  go_wp2_with fail
  go_ret
  exact ⟨rfl, X9.out⟩
 have hd : decide ((400 : Int) < m.wt) = false := decide_eq_false (by omega)
 have HWT := Lib.hid c4
 clear c4
 by_cases c5 : nms.length ≤ 8
 case neg =>
  have hd8 : decide ((8 : Int) < (nms.length : Int)) = true := decide_eq_true (by omega)
  clear c5 b0 b1 b2 b3 b4 b5 b6 b7 b8
  go_wp2_with fail
  refine (awake38_any _).mono ?_
  rintro e w9 ⟨rfl, x9⟩
  have X9 := Lib.hid (HWX.out.trans (X5.out.trans x9))
  clear x9
  go_wp2_with fail
  go_ret
  exact ⟨rfl, X9.out⟩
 have hd8 : decide ((8 : Int) < (nms.length : Int)) = false := decide_eq_false (by omega)
 go_wp2_with fail
 clear b0 b1 b2 b3 b4 b5 b6 b7 b8 hd hd8
 go_loopw [42] (fun iv wr => ∃ k : Nat, k ≤ nms.length ∧ iv = .int .i64 k ∧ Hid (Ext W wr)) (fun iv _ => nms.length - (intOf iv).toNat)
 case atStart => exact ⟨0, Nat.zero_le _, rfl, X5.out⟩
 case round =>
  obtain ⟨k, hk, rfl, hx⟩ := hrel
  have HX := Lib.hid hx.out
  by_cases hlt : k < nms.length
  · obtain ⟨ad, x, rfl, hc, hp⟩ := SlR.get_ (HSX.out _ HX.out) k hlt
    subst hp
    generalize nms[k] = q at *
    by_cases hq : q.size ≤ 40
    · have h40 : decide ((40 : Int) < (q.size : Int)) = false := by simp; omega
      go_wp2_with fail
      clear hc
      go_roundw
      case rel => exact ⟨k + 1, by omega, by go_num, HX.out⟩
      case measure => simp [intOf]; omega
    · have h40 : decide ((40 : Int) < (q.size : Int)) = true := by simp; omega
      go_wp2_with fail
      go_ret
      exact ⟨rfl, HWX.out.trans HX.out⟩
  · obtain ⟨w6, rfl⟩ : ∃ w6, w6 = wr := ⟨wr, rfl⟩
    obtain ⟨b0, b1, b2, b3, b4, b5, b6, b7, b8⟩ := HBW.out _ HX.out
    have HOF := Lib.hid (ofTerm_any (L := 20) (by omega) m t HM.out _ w6 (HTX.out _ HX.out))
    clear hx
    go_wp2_with fail
    clear b0 b1 b2 b3 b4 b5 b6 b7 b8
    refine HOF.out.mono ?_
    rintro e w7 ⟨v7, rfl, ht7, x7⟩
    have HT7 := Lib.hid ht7
    obtain ⟨T7, y7, rfl⟩ := ht7.iface
    have X7 := Lib.hid (HX.out.trans x7)
    have HPO := Lib.hid (pPoly_any (L := 20) (by omega) m HT7.out (HSX.out _ X7.out) HWT.out (by omega) (by
     have := m.free_len (fun _ => 0) []
     unfold Tm.names1
     simp only [List.length_nil] at this
     omega))
    clear ht7 x7 HOF
    go_wp2_with fail
    refine HPO.out.mono ?_
    rintro e w8 ⟨v8, rfl, p8, x8⟩
    have hbd := polF_bd (levP nms nms.length) m HWT.out
    have HFIT := Lib.hid (hbd.fit400 (by have := HWT.out; omega))
    have HCOV := Lib.hid (m.cov_names (levP nms nms.length) (fun s => (levP_lt nms nms.length s).1))
    have HRP := Lib.hid (rpoly_ih (L := 20) (p := p) (nms := nms) (by omega) m)
    unfold RPolIH at HRP
    clear hbd
    obtain ⟨er, her⟩ : ∃ er, polErr m nms = er := ⟨_, rfl⟩
    have HER := Lib.hid her
    rw [her] at p8 ⊢
    unfold polErr at her
    have HEU := Lib.hid her
    clear her HPO
    generalize polF (levP nms nms.length) m = P at *
    generalize m.cov (levP nms nms.length) = cv at *
    obtain ⟨R, hR⟩ : ∃ R, (if er = 0 then P else Pl.zero) = R := ⟨_, rfl⟩
    have HR := Lib.hid hR
    rw [hR] at p8
    clear hR
    obtain ⟨C0, j0, f0, C1, f1, rfl, -⟩ := id p8.open_
    obtain ⟨V, hV⟩ : ∃ V, w8.alloc (.cells #[.int .i64 R.lv, .bool R.neg, .slice C0 j0 f0, .slice C1 R.cs.length f1] 42) = V := ⟨_, rfl⟩
    have hVx : Ext w8 V := by rw [← hV]; exact (Ext.refl w8).alloc _
    have hbR : Box4 V w8.heap.size R (.slice C0 j0 f0) (.slice C1 R.cs.length f1) := by rw [← hV]; exact Box4.new w8 R _ _ _
    have hVs : V.heap.size = w8.heap.size + 1 := by rw [← hV]; simp
    have HVB : Hid (∀ w', Ext V w' → Box4 w' w8.heap.size R (.slice C0 j0 f0) (.slice C1 R.cs.length f1)) := Lib.hid (fun w' hx => hbR.ext hx (by omega))
    have XV := Lib.hid (X7.out.trans (x8.trans hVx))
    have HPR := Lib.hid (fun w' (hx : Ext V w') => p8.ext (hVx.trans hx))
    have HRZ : Hid (R.sz ≤ 1099511627776) := Lib.hid (by
     rw [← HR.out]
     split
     · exact HFIT.out.copy (by omega)
     · unfold Pl.zero Pl.sz plSz; omega)
    clear p8 x8 hVx hbR
    unfold plV
    unfold plV at HPR
    go_wp2_with fail
    clear hV
    refine (rnames_any (HSX.out _ XV.out)).mono ?_
    rintro e u1 ⟨rfl, y1⟩
    obtain ⟨q0, q1, q2, q3⟩ := HVB.out _ y1
    have Y1 := Lib.hid y1
    clear y1
    by_cases hnn : namesB nms = true
    case neg =>
     have hnf : namesB nms = false := by simpa using hnn
     have he : er = 1 := by rw [← HEU.out, if_pos hnf]
     subst he
     have HRQ : Hid (eqB R Pl.zero = true) := Lib.hid (eqB_eq (by rw [← HR.out]; rfl))
     have HSP := Lib.hid (sp_any R Pl.zero _ _ HRZ.out (HPR.out _ Y1.out) (Pl.zero_v u1 (fun _ => True) none 0 (by decide)))
     rw [HRQ.out] at HSP
     unfold plV at HSP
     simp only [Pl.zero, Pl.lv, Pl.neg, Pl.cs, List.length_nil] at HSP
     rw [hnf]
     clear hnn hnf
     go_wp2_with fail
     clear q0 q1 q2 q3
     refine HSP.out.mono ?_
     rintro e u2 ⟨rfl, y2⟩
     have Y2 := Lib.hid (HWX.out.trans (XV.out.trans (Y1.out.trans y2)))
     clear y2
     go_wp2_with fail
     go_ret
     exact ⟨rfl, Y2.out⟩
    have hec : er = if cv = true then 0 else 7 := by
     rw [← HEU.out, if_neg (by rw [hnn]; simp), HCOV.out]
     cases cv <;> rfl
    have HEC := Lib.hid hec
    rw [hnn]
    clear hnn HEU hec
    obtain ⟨b0, b1, b2, b3, b4, b5, b6, b7, b8⟩ := HBW.out _ (XV.out.trans Y1.out)
    go_wp2_with fail
    clear b0 b1 b2 b3 b4 b5 b6 b7 b8 q0 q1 q2 q3
    refine (HRP.out t _ _ _ HM.out (HTX.out _ (XV.out.trans Y1.out)) (HSX.out _ (XV.out.trans Y1.out)) HWT.out).mono ?_
    rintro e u2 ⟨v2, rfl, s2, y2⟩
    obtain ⟨A2, c2, rfl, -⟩ := id s2
    have S2 := Lib.hid s2
    have Y2 := Lib.hid (Y1.out.trans y2)
    obtain ⟨q0, q1, q2, q3⟩ := HVB.out _ Y2.out
    clear s2 y2
    cases cv
    case false =>
     have hec : er = 7 := HEC.out
     subst hec
     have HRQ : Hid (eqB R Pl.zero = true) := Lib.hid (eqB_eq (by rw [← HR.out]; rfl))
     have HSP := Lib.hid (sp_any R Pl.zero _ _ HRZ.out (HPR.out _ Y2.out) (Pl.zero_v u2 (fun _ => True) none 0 (by decide)))
     rw [HRQ.out] at HSP
     unfold plV at HSP
     simp only [Pl.zero, Pl.lv, Pl.neg, Pl.cs, List.length_nil] at HSP
     go_wp2_with fail
     clear q0 q1 q2 q3
     refine HSP.out.mono ?_
     rintro e u3 ⟨rfl, y3⟩
     have Y3 := Lib.hid (HWX.out.trans (XV.out.trans (Y2.out.trans y3)))
     clear y3
     go_wp2_with fail
     go_ret
     exact ⟨rfl, Y3.out⟩
    have hec : er = 0 := HEC.out
    subst hec
    have hRP : R = P := by rw [← HR.out]; rfl
    have HRQ : Hid (eqB R P = true) := Lib.hid (eqB_eq hRP)
    have HFITR := Lib.hid hRP
    clear hRP
    have HSS : Hid (∀ W', Ext V W' → (Ext V W' ∧ W'.cell? ⟨w8.heap.size, 0, none⟩ = some (.int .i64 R.lv) ∧ W'.cell? ⟨w8.heap.size, 1, none⟩ = some (.bool R.neg) ∧ W'.cell? ⟨w8.heap.size, 2, none⟩ = some (.slice C0 j0 f0) ∧ W'.cell? ⟨w8.heap.size, 3, none⟩ = some (.slice C1 R.cs.length f1))) := Lib.hid (fun W' hx => by
     obtain ⟨a0, a1, a2, a3⟩ := HVB.out _ hx
     exact ⟨hx, a0, a1, a2, a3⟩)
    have y0 : Ext V u2.drew := Y2.out.drew
    have Y0 := Lib.hid y0
    have YD : Hid (Ext u2 u2.drew) := Lib.hid ((Ext.refl u2).drew)
    clear y0
    go_upto_region 16 with fail
    clear q0 q1 q2 q3
    go_region_held3 (fun W' => Ext V W' ∧ W'.cell? ⟨w8.heap.size, 0, none⟩ = some (.int .i64 R.lv) ∧ W'.cell? ⟨w8.heap.size, 1, none⟩ = some (.bool R.neg) ∧ W'.cell? ⟨w8.heap.size, 2, none⟩ = some (.slice C0 j0 f0) ∧ W'.cell? ⟨w8.heap.size, 3, none⟩ = some (.slice C1 R.cs.length f1))
     (first | with_reducible exact HSS.out _ Y0.out | with_reducible exact HSS.out _ z1 | with_reducible exact HSS.out _ z2)
     ((first
       | (go_at_call 25
          refine (rOf_any _ (S2.out.ext YD.out) HFIT.out (by omega) (by omega)).mono ?_
          rintro e u3 ⟨v3, rfl, p3, y3⟩
          obtain ⟨D0, j3, f3, D1, f4, rfl, -⟩ := id p3.open_
          have z1 : Ext V u3 := Y0.out.trans y3
          have P3 := Lib.hid p3
          clear p3 y3
          unfold plV)
       | (go_at_call 23
          have hsp := sp_any R P _ _ HRZ.out (HPR.out _ z1) P3.out
          rw [HRQ.out] at hsp
          unfold plV at hsp
          refine hsp.mono ?_
          rintro e u4 ⟨rfl, y4⟩
          have z2 : Ext V u4 := Ext.trans z1 y4
          clear hsp y4)))
    all_goals
     have Z2 := Lib.hid z2
     clear z1 z2
     go_wp2_with fail
     go_ret
     exact ⟨rfl, HWX.out.trans (XV.out.trans Z2.out)⟩
end Go.Proofs.YtkbpnppiadaibaaGreatDoor
