/- Reference 38: Not: the negation of a normal matrix; its polynomials lie in what came in. -/
import Derived.Test.YtbanhcaahabboaaGreatDoorMRowP
import Derived.Test.YtbanhcaahabboaaGreatDoorMn30
import Derived.Test.YtbanhcaahabboaaGreatDoorMn35
import Derived.Deep.RegionLaw
set_option linter.unusedSimpArgs false
set_option linter.unusedVariables false

namespace Go.Proofs.YtbanhcaahabboaaGreatDoor
open Go.RowKit

theorem rcompl_any (r : Int) (w : World) : Calls Tryz.prog 60 #[.int .i64 r] w fun e w' => e = .returned (.int .i64 (cmpl r)) ∧ w' = w := by
  unfold cmpl
  rcases (show r = 1 ∨ r = 2 ∨ r = 4 ∨ r = 5 ∨ r = 6 ∨ (r ≠ 1 ∧ r ≠ 2 ∧ r ≠ 4 ∧ r ≠ 5 ∧ r ≠ 6) by omega) with rfl | rfl | rfl | rfl | rfl | ⟨h1, h2, h3, h4, h5⟩
  all_goals
    first | rw [if_neg h1, if_neg h2, if_neg h3, if_neg h4, if_neg h5] | skip
    first | (have k1 : (r == 1) = false := by simp [h1]
             have k2 : (r == 2) = false := by simp [h2]
             have k3 : (r == 4) = false := by simp [h3]
             have k4 : (r == 5) = false := by simp [h4]
             have k5 : (r == 6) = false := by simp [h5]
             clear h1 h2 h3 h4 h5) | skip
    go_enter Tryz.func60, Tryz.ntmps60
    go_wp2_with fail
    go_ret
    exact ⟨rfl, rfl⟩

def RNotIH (n : Nat) : Prop := ∀ (low : Nat) (t : Mx) (v : Value) (w : World), t.sz < n → t.sz ≤ 1000000 → low ≤ w.heap.size → MxV w (fun b => b < low) t v → Calls Tryz.prog 18 #[v] w (RetMx (fun b => b < low ∨ w.heap.size ≤ b) t.rnot w)

set_option maxRecDepth 100000 in
set_option maxHeartbeats 8000000 in
theorem rnot_ih (n : Nat) : RNotIH n := by
  induction n with
  | zero => intro low t v w h; omega
  | succ n ih =>
  intro low t v w hn hbig hlow h
  have hkl : t.ks.length ≤ 1000000 := by have := t.ks_len; omega
  have IH := Lib.hid ih
  have HSZ := Lib.hid (fun k hk => t.kid_le k hk)
  obtain ⟨A0, n0, c0, A, n1, c1, K, c, rfl, hp, hl1, hl2, h4⟩ := h.open_
  have HP := Lib.hid hp
  have H4 := Lib.hid h4
  have HRN : Hid (t.rnot = .mk (if t.kind = 0 then 1 else if t.kind = 1 then 0 else if t.kind = 3 then 4 else if t.kind = 4 then 3 else t.kind) (if t.kind = 0 ∨ t.kind = 1 ∨ t.kind = 3 ∨ t.kind = 4 then t.rel else cmpl t.rel) t.p (t.ks.map Mx.rnot)) := t.rnot_eq
  obtain ⟨W, hW⟩ : ∃ W, (w.alloc (.cells #[.int .i64 t.kind, .int .i64 t.rel, .int .i64 t.p.lv, .bool t.p.neg, .slice A0 n0 c0, .slice A n1 c1, .slice K t.ks.length c] 34)).alloc (.cells #[.int .i64 0, .int .i64 0, .int .i64 0, .bool false, .slice none 0 0, .slice none 0 0, .slice none 0 0] 34) = W := ⟨_, rfl⟩
  have hWx : Ext w W := by rw [← hW]; exact ((Ext.refl w).alloc _).alloc _
  have hWs : W.heap.size = w.heap.size + 1 + 1 := by rw [← hW]; simp
  have hbx : Box7 W w.heap.size t (.slice A0 n0 c0) (.slice A n1 c1) (.slice K t.ks.length c) := by rw [← hW]; exact (Box7.new w t _ _ _ _).ext ((Ext.refl _).alloc _) (by simp)
  have hz : Zero7 W (w.heap.size + 1) := by
    have := Zero7.new (w.alloc (.cells #[.int .i64 t.kind, .int .i64 t.rel, .int .i64 t.p.lv, .bool t.p.neg, .slice A0 n0 c0, .slice A n1 c1, .slice K t.ks.length c] 34)) 34
    rw [hW] at this
    simpa using this
  have HWX := Lib.hid hWx
  have HBX := Lib.hid hbx
  have HZ := Lib.hid hz
  obtain ⟨b0, b1, b2, b3, b4, b5, b6⟩ := id hbx
  have far : ∀ k r i, (W.alloc (.cells #[.int .i64 k, .int .i64 r, .int .i64 t.p.lv, .bool t.p.neg, .slice A0 n0 c0, .slice A n1 c1, .slice none 0 0] 34)).cell? ⟨w.heap.size, i, none⟩ = W.cell? ⟨w.heap.size, i, none⟩ := fun k r i => ((Ext.refl W).alloc _).cell (p := ⟨w.heap.size, i, none⟩) (by show w.heap.size < _; omega)
  have d0 := (far t.kind t.rel 0).trans b0
  have d1 := (far t.kind t.rel 1).trans b1
  have FAR := Lib.hid far
  clear far
  have HWS := Lib.hid hWs
  clear h ih h4 hWx hbx hz hp hWs
  unfold mxV
  go_enter Tryz.func18, Tryz.ntmps18
  have hcases : (t.kind = 0 ∨ t.kind = 1 ∨ t.kind = 3 ∨ t.kind = 4 ∨ (t.kind ≠ 0 ∧ t.kind ≠ 1 ∧ t.kind ≠ 3 ∧ t.kind ≠ 4)) := by omega
  rcases hcases with k0 | k0 | k0 | k0 | k0
  · have KN := Lib.hid k0
    have HNR : Hid (t.rnot = .mk 1 t.rel t.p (t.ks.map Mx.rnot)) := Lib.hid (by rw [HRN.out]; congr 1 <;> simp [k0])
    have q0 : (t.kind == 0) = true := by simp [k0]
    have q1 : (t.kind == 1) = false := by simp [k0]
    have q3 : (t.kind == 3) = false := by simp [k0]
    have q4 : (t.kind == 4) = false := by simp [k0]
    clear k0 HRN
    go_upto_region 13 with fail
    clear d0 d1 q0 q1 q3 q4
    obtain ⟨o, ho⟩ : ∃ o, W.heap.size = o := ⟨_, rfl⟩
    have hWs := HWS.out
    have ho1 : w.heap.size + 1 < o := by omega
    obtain ⟨W2, hW2⟩ : ∃ W2, W.alloc (.cells #[.int .i64 1, .int .i64 t.rel, .int .i64 t.p.lv, .bool t.p.neg, .slice A0 n0 c0, .slice A n1 c1, .slice none 0 0] 34) = W2 := ⟨_, rfl⟩
    have hW2x : Ext W W2 := by rw [← hW2]; exact (Ext.refl W).alloc _
    have hW2s : W2.heap.size = o + 1 := by rw [← hW2]; simp; omega
    have hG0 : GrowP low w o t (.slice A0 n0 c0) (.slice A n1 c1) (.slice K t.ks.length c) (.mk 1 t.rel t.p []) (.slice A0 n0 c0) (.slice A n1 c1) [] W2 := by
      refine ⟨HWX.out.trans hW2x, ⟨⟨hlow, ho1⟩, by omega⟩, HBX.out.ext hW2x (by omega), HZ.out.ext hW2x (by omega), _, ⟨?_, fun i => ?_⟩, MRowP.nil _ _ _⟩
      · have hb := Box7.new W (.mk 1 t.rel t.p []) (.slice A0 n0 c0) (.slice A n1 c1) (.slice none 0 0) 34
        rw [ho] at hb
        rw [← hW2]; exact hb
      · rw [← hW2, ← ho]; simp [go_sem]
    have HG0 := Lib.hid hG0
    have d6 : (W.alloc (.cells #[.int .i64 1, .int .i64 t.rel, .int .i64 t.p.lv, .bool t.p.neg, .slice A0 n0 c0, .slice A n1 c1, .slice none 0 0] 34)).cell? ⟨w.heap.size, 6, none⟩ = some (.slice K t.ks.length c) := by rw [hW2]; exact (hW2x.cell (p := ⟨w.heap.size, 6, none⟩) (by show w.heap.size < _; omega)).trans b6
    have HW2 := Lib.hid hW2
    have HO := Lib.hid ho
    clear hW2 hW2x hG0 HZ HBX HWX HWS hWs ho hW2s FAR hW
    go_wp2_with fail
    rw [HW2.out]
    simp only [HO.out]
    clear d6 b0 b1 b2 b3 b4 b5 b6
    go_loopw [28] (fun iv wr => ∃ k : Nat, k ≤ t.ks.length ∧ iv = .int .i64 k ∧ Hid (GrowP low w o t (.slice A0 n0 c0) (.slice A n1 c1) (.slice K t.ks.length c) (.mk 1 t.rel t.p []) (.slice A0 n0 c0) (.slice A n1 c1) ((t.ks.take k).map Mx.rnot) wr)) (fun iv _ => t.ks.length - (intOf iv).toNat)
    case atStart => exact ⟨0, Nat.zero_le _, rfl, HG0⟩
    case round =>
      obtain ⟨k, hk, rfl, HG⟩ := hrel
      by_cases hlt : k < t.ks.length
      · have hln : ((t.ks.take k).map Mx.rnot).length = k := by rw [List.length_map, List.length_take]; omega
        obtain ⟨AV, cv, hv6, hcv1, hcv2, hnext⟩ := HG.out.step (by omega)
        rw [hln] at hv6 hcv1 hnext
        obtain ⟨hxw, ⟨⟨-, hbo⟩, hbs⟩, hbx, -⟩ := HG.out
        obtain ⟨ad, B0, m0, d0, B1, m1, d1, K2, n2, c2, hA, hadb, hnd, hkt⟩ := MxsAt.kid H4.out k hlt
        subst hA
        obtain ⟨e0, e1, e2, e3, e4, e5, e6⟩ := hnd.ext hxw (by rw [block_of_add]; exact hadb)
        have b6 : wr.cell? ⟨w.heap.size, 6, none⟩ = some (.slice (some ad) t.ks.length c) := hbx.2.2.2.2.2.2
        have hsz := HSZ.out k hlt
        have HC : Hid (Calls Tryz.prog 18 #[.agg #[.int .i64 t.ks[k].kind, .int .i64 t.ks[k].rel, .int .i64 t.ks[k].p.lv, .bool t.ks[k].p.neg, .slice B0 m0 d0, .slice B1 m1 d1, .slice K2 n2 c2]] wr.drew (RetMx (fun b => b < low ∨ wr.drew.heap.size ≤ b) t.ks[k].rnot wr.drew)) :=
          IH.out low t.ks[k] _ wr.drew (by omega) (by omega) (by have := hxw.drew.size; omega) (hkt.ext hxw.drew)
        have HNEXT := Lib.hid hnext
        have HBS : Hid (w.heap.size + 1 < o ∧ o + 1 ≤ wr.heap.size) := Lib.hid ⟨hbo, hbs⟩
        have HTK : Hid ((t.ks.take (k + 1)).map Mx.rnot = (t.ks.take k).map Mx.rnot ++ [t.ks[k].rnot]) := by
          have : (t.ks.take (k + 1)).map Mx.rnot = (t.ks.take k).map Mx.rnot ++ [t.ks[k].rnot] := by rw [List.take_succ_eq_append_getElem hlt, List.map_append]; rfl
          exact this
        clear hnext hxw hbx hnd hkt hadb hsz hln
        generalize t.ks[k].rnot = tk at *
        go_upto_region 16 with fail
        go_region_law (first
          | (go_simp
             go_at_call 18
             refine HC.out.mono ?_
             rintro e w3 ⟨v3, rfl, t3, x3⟩
             have y3 : Ext wr w3 := Ext.trans ((Ext.refl wr).drew) x3
             obtain ⟨C0, j0, f0, C1, j1, f1, C2, f2, rfl, -⟩ := id t3.open_
             obtain ⟨AV', cv', w4, hrun, h6, hf6, hgn⟩ := HNEXT.out w3 _ _ _ _ _ _ _ _ _ _ 32 y3 t3
             have HGN := Lib.hid hgn
             have g6 : w3.cell? ⟨o, 6, none⟩ = some (.slice AV k cv) := (y3.cell (p := ⟨o, 6, none⟩) (by have := HBS.out; show o < _; omega)).trans hv6
             have hs3 : o < w3.heap.size := by have := y3.size; have := HBS.out; omega
             unfold mxV
             clear hgn t3 x3 y3)
          | (refine step_append_run rfl (.tmp 32) (.tmp 39) 32 32 rfl _ _ _ _ (by simp [Act.eval, Act.put]) (by simp [Act.eval, Act.put]) hrun ?_))
        all_goals
          have hgn2 := HGN.out
          rw [← HTK.out] at hgn2
          have HN := Lib.hid hgn2
          clear hgn2 HGN hrun h6 hf6 g6 hs3 HNEXT HC HTK
          go_wp2_with fail
          go_roundw
          case rel => exact ⟨k + 1, by omega, by go_num, HN⟩
          case measure => simp [intOf]; omega
      · have hke : k = t.ks.length := by omega
        subst hke
        have hg := HG.out
        rw [List.take_length] at hg
        obtain ⟨AV, cv, ⟨x0, x1, x2, x3, x4, x5, x6⟩, hz, hm⟩ := hg.fin (q := fun b => b < low ∨ o + 1 ≤ b) ((HP.out.ext hg.1).mono (fun b hb => .inl hb)) (fun _ h => h)
        have hlm : (t.ks.map Mx.rnot).length = t.ks.length := List.length_map _
        rw [hlm] at hm x6
        have hf := close_mx (m := .mk 1 t.rel t.p (t.ks.map Mx.rnot)) (q' := fun b => b < low ∨ w.heap.size ≤ b) hg.1 (Nat.le_succ _) hz hm (fun b _ hb => by have hb : b < low ∨ o + 1 ≤ b := hb; have := hg.2.1.1; exact ⟨by omega, by omega⟩)
        have HF := Lib.hid (RetMx.congr HNR.out hf)
        obtain ⟨⟨z0, z1, z2, z3, z4, z5, z6⟩, zf⟩ := hz
        replace x0 : wr.cell? ⟨o, 0, none⟩ = some (.int .i64 1) := x0
        replace x1 : wr.cell? ⟨o, 1, none⟩ = some (.int .i64 t.rel) := x1
        replace x2 : wr.cell? ⟨o, 2, none⟩ = some (.int .i64 t.p.lv) := x2
        replace x3 : wr.cell? ⟨o, 3, none⟩ = some (.bool t.p.neg) := x3
        replace z0 : wr.cell? ⟨w.heap.size + 1, 0, none⟩ = some (.int .i64 0) := z0
        replace z1 : wr.cell? ⟨w.heap.size + 1, 1, none⟩ = some (.int .i64 0) := z1
        replace z2 : wr.cell? ⟨w.heap.size + 1, 2, none⟩ = some (.int .i64 0) := z2
        replace z3 : wr.cell? ⟨w.heap.size + 1, 3, none⟩ = some (.bool false) := z3
        have d6 : wr.cell? ⟨w.heap.size, 6, none⟩ = some (.slice K t.ks.length c) := hg.2.2.1.2.2.2.2.2.2
        clear hf hm hg HG HG0 hlm HNR
        go_wp2_with fail
        exact bodyPost_ret (v := mxV (.mk 1 t.rel t.p (t.ks.map Mx.rnot)) (.slice A0 n0 c0) (.slice A n1 c1) (.slice AV t.ks.length cv)) (by simp [results, Tryz.results18, go_sem, z0, z1, z2, z3, z4, z5, z6, mxV, Mx.kind, Mx.rel, Mx.p, Pl.zero, Pl.lv, Pl.neg]) rfl HF.out
  · have KN := Lib.hid k0
    have HNR : Hid (t.rnot = .mk 0 t.rel t.p (t.ks.map Mx.rnot)) := Lib.hid (by rw [HRN.out]; congr 1 <;> simp [k0])
    have q0 : (t.kind == 0) = false := by simp [k0]
    have q1 : (t.kind == 1) = true := by simp [k0]
    have q3 : (t.kind == 3) = false := by simp [k0]
    have q4 : (t.kind == 4) = false := by simp [k0]
    clear k0 HRN
    go_upto_region 13 with fail
    clear d0 d1 q0 q1 q3 q4
    obtain ⟨o, ho⟩ : ∃ o, W.heap.size = o := ⟨_, rfl⟩
    have hWs := HWS.out
    have ho1 : w.heap.size + 1 < o := by omega
    obtain ⟨W2, hW2⟩ : ∃ W2, W.alloc (.cells #[.int .i64 0, .int .i64 t.rel, .int .i64 t.p.lv, .bool t.p.neg, .slice A0 n0 c0, .slice A n1 c1, .slice none 0 0] 34) = W2 := ⟨_, rfl⟩
    have hW2x : Ext W W2 := by rw [← hW2]; exact (Ext.refl W).alloc _
    have hW2s : W2.heap.size = o + 1 := by rw [← hW2]; simp; omega
    have hG0 : GrowP low w o t (.slice A0 n0 c0) (.slice A n1 c1) (.slice K t.ks.length c) (.mk 0 t.rel t.p []) (.slice A0 n0 c0) (.slice A n1 c1) [] W2 := by
      refine ⟨HWX.out.trans hW2x, ⟨⟨hlow, ho1⟩, by omega⟩, HBX.out.ext hW2x (by omega), HZ.out.ext hW2x (by omega), _, ⟨?_, fun i => ?_⟩, MRowP.nil _ _ _⟩
      · have hb := Box7.new W (.mk 0 t.rel t.p []) (.slice A0 n0 c0) (.slice A n1 c1) (.slice none 0 0) 34
        rw [ho] at hb
        rw [← hW2]; exact hb
      · rw [← hW2, ← ho]; simp [go_sem]
    have HG0 := Lib.hid hG0
    have d6 : (W.alloc (.cells #[.int .i64 0, .int .i64 t.rel, .int .i64 t.p.lv, .bool t.p.neg, .slice A0 n0 c0, .slice A n1 c1, .slice none 0 0] 34)).cell? ⟨w.heap.size, 6, none⟩ = some (.slice K t.ks.length c) := by rw [hW2]; exact (hW2x.cell (p := ⟨w.heap.size, 6, none⟩) (by show w.heap.size < _; omega)).trans b6
    have HW2 := Lib.hid hW2
    have HO := Lib.hid ho
    clear hW2 hW2x hG0 HZ HBX HWX HWS hWs ho hW2s FAR hW
    go_wp2_with fail
    rw [HW2.out]
    simp only [HO.out]
    clear d6 b0 b1 b2 b3 b4 b5 b6
    go_loopw [28] (fun iv wr => ∃ k : Nat, k ≤ t.ks.length ∧ iv = .int .i64 k ∧ Hid (GrowP low w o t (.slice A0 n0 c0) (.slice A n1 c1) (.slice K t.ks.length c) (.mk 0 t.rel t.p []) (.slice A0 n0 c0) (.slice A n1 c1) ((t.ks.take k).map Mx.rnot) wr)) (fun iv _ => t.ks.length - (intOf iv).toNat)
    case atStart => exact ⟨0, Nat.zero_le _, rfl, HG0⟩
    case round =>
      obtain ⟨k, hk, rfl, HG⟩ := hrel
      by_cases hlt : k < t.ks.length
      · have hln : ((t.ks.take k).map Mx.rnot).length = k := by rw [List.length_map, List.length_take]; omega
        obtain ⟨AV, cv, hv6, hcv1, hcv2, hnext⟩ := HG.out.step (by omega)
        rw [hln] at hv6 hcv1 hnext
        obtain ⟨hxw, ⟨⟨-, hbo⟩, hbs⟩, hbx, -⟩ := HG.out
        obtain ⟨ad, B0, m0, d0, B1, m1, d1, K2, n2, c2, hA, hadb, hnd, hkt⟩ := MxsAt.kid H4.out k hlt
        subst hA
        obtain ⟨e0, e1, e2, e3, e4, e5, e6⟩ := hnd.ext hxw (by rw [block_of_add]; exact hadb)
        have b6 : wr.cell? ⟨w.heap.size, 6, none⟩ = some (.slice (some ad) t.ks.length c) := hbx.2.2.2.2.2.2
        have hsz := HSZ.out k hlt
        have HC : Hid (Calls Tryz.prog 18 #[.agg #[.int .i64 t.ks[k].kind, .int .i64 t.ks[k].rel, .int .i64 t.ks[k].p.lv, .bool t.ks[k].p.neg, .slice B0 m0 d0, .slice B1 m1 d1, .slice K2 n2 c2]] wr.drew (RetMx (fun b => b < low ∨ wr.drew.heap.size ≤ b) t.ks[k].rnot wr.drew)) :=
          IH.out low t.ks[k] _ wr.drew (by omega) (by omega) (by have := hxw.drew.size; omega) (hkt.ext hxw.drew)
        have HNEXT := Lib.hid hnext
        have HBS : Hid (w.heap.size + 1 < o ∧ o + 1 ≤ wr.heap.size) := Lib.hid ⟨hbo, hbs⟩
        have HTK : Hid ((t.ks.take (k + 1)).map Mx.rnot = (t.ks.take k).map Mx.rnot ++ [t.ks[k].rnot]) := by
          have : (t.ks.take (k + 1)).map Mx.rnot = (t.ks.take k).map Mx.rnot ++ [t.ks[k].rnot] := by rw [List.take_succ_eq_append_getElem hlt, List.map_append]; rfl
          exact this
        clear hnext hxw hbx hnd hkt hadb hsz hln
        generalize t.ks[k].rnot = tk at *
        go_upto_region 16 with fail
        go_region_law (first
          | (go_simp
             go_at_call 18
             refine HC.out.mono ?_
             rintro e w3 ⟨v3, rfl, t3, x3⟩
             have y3 : Ext wr w3 := Ext.trans ((Ext.refl wr).drew) x3
             obtain ⟨C0, j0, f0, C1, j1, f1, C2, f2, rfl, -⟩ := id t3.open_
             obtain ⟨AV', cv', w4, hrun, h6, hf6, hgn⟩ := HNEXT.out w3 _ _ _ _ _ _ _ _ _ _ 32 y3 t3
             have HGN := Lib.hid hgn
             have g6 : w3.cell? ⟨o, 6, none⟩ = some (.slice AV k cv) := (y3.cell (p := ⟨o, 6, none⟩) (by have := HBS.out; show o < _; omega)).trans hv6
             have hs3 : o < w3.heap.size := by have := y3.size; have := HBS.out; omega
             unfold mxV
             clear hgn t3 x3 y3)
          | (refine step_append_run rfl (.tmp 32) (.tmp 39) 32 32 rfl _ _ _ _ (by simp [Act.eval, Act.put]) (by simp [Act.eval, Act.put]) hrun ?_))
        all_goals
          have hgn2 := HGN.out
          rw [← HTK.out] at hgn2
          have HN := Lib.hid hgn2
          clear hgn2 HGN hrun h6 hf6 g6 hs3 HNEXT HC HTK
          go_wp2_with fail
          go_roundw
          case rel => exact ⟨k + 1, by omega, by go_num, HN⟩
          case measure => simp [intOf]; omega
      · have hke : k = t.ks.length := by omega
        subst hke
        have hg := HG.out
        rw [List.take_length] at hg
        obtain ⟨AV, cv, ⟨x0, x1, x2, x3, x4, x5, x6⟩, hz, hm⟩ := hg.fin (q := fun b => b < low ∨ o + 1 ≤ b) ((HP.out.ext hg.1).mono (fun b hb => .inl hb)) (fun _ h => h)
        have hlm : (t.ks.map Mx.rnot).length = t.ks.length := List.length_map _
        rw [hlm] at hm x6
        have hf := close_mx (m := .mk 0 t.rel t.p (t.ks.map Mx.rnot)) (q' := fun b => b < low ∨ w.heap.size ≤ b) hg.1 (Nat.le_succ _) hz hm (fun b _ hb => by have hb : b < low ∨ o + 1 ≤ b := hb; have := hg.2.1.1; exact ⟨by omega, by omega⟩)
        have HF := Lib.hid (RetMx.congr HNR.out hf)
        obtain ⟨⟨z0, z1, z2, z3, z4, z5, z6⟩, zf⟩ := hz
        replace x0 : wr.cell? ⟨o, 0, none⟩ = some (.int .i64 0) := x0
        replace x1 : wr.cell? ⟨o, 1, none⟩ = some (.int .i64 t.rel) := x1
        replace x2 : wr.cell? ⟨o, 2, none⟩ = some (.int .i64 t.p.lv) := x2
        replace x3 : wr.cell? ⟨o, 3, none⟩ = some (.bool t.p.neg) := x3
        replace z0 : wr.cell? ⟨w.heap.size + 1, 0, none⟩ = some (.int .i64 0) := z0
        replace z1 : wr.cell? ⟨w.heap.size + 1, 1, none⟩ = some (.int .i64 0) := z1
        replace z2 : wr.cell? ⟨w.heap.size + 1, 2, none⟩ = some (.int .i64 0) := z2
        replace z3 : wr.cell? ⟨w.heap.size + 1, 3, none⟩ = some (.bool false) := z3
        have d6 : wr.cell? ⟨w.heap.size, 6, none⟩ = some (.slice K t.ks.length c) := hg.2.2.1.2.2.2.2.2.2
        clear hf hm hg HG HG0 hlm HNR
        go_wp2_with fail
        exact bodyPost_ret (v := mxV (.mk 0 t.rel t.p (t.ks.map Mx.rnot)) (.slice A0 n0 c0) (.slice A n1 c1) (.slice AV t.ks.length cv)) (by simp [results, Tryz.results18, go_sem, z0, z1, z2, z3, z4, z5, z6, mxV, Mx.kind, Mx.rel, Mx.p, Pl.zero, Pl.lv, Pl.neg]) rfl HF.out
  · have KN := Lib.hid k0
    have HNR : Hid (t.rnot = .mk 4 t.rel t.p (t.ks.map Mx.rnot)) := Lib.hid (by rw [HRN.out]; congr 1 <;> simp [k0])
    have q0 : (t.kind == 0) = false := by simp [k0]
    have q1 : (t.kind == 1) = false := by simp [k0]
    have q3 : (t.kind == 3) = true := by simp [k0]
    have q4 : (t.kind == 4) = false := by simp [k0]
    clear k0 HRN
    go_upto_region 13 with fail
    clear d0 d1 q0 q1 q3 q4
    obtain ⟨o, ho⟩ : ∃ o, W.heap.size = o := ⟨_, rfl⟩
    have hWs := HWS.out
    have ho1 : w.heap.size + 1 < o := by omega
    obtain ⟨W2, hW2⟩ : ∃ W2, W.alloc (.cells #[.int .i64 4, .int .i64 t.rel, .int .i64 t.p.lv, .bool t.p.neg, .slice A0 n0 c0, .slice A n1 c1, .slice none 0 0] 34) = W2 := ⟨_, rfl⟩
    have hW2x : Ext W W2 := by rw [← hW2]; exact (Ext.refl W).alloc _
    have hW2s : W2.heap.size = o + 1 := by rw [← hW2]; simp; omega
    have hG0 : GrowP low w o t (.slice A0 n0 c0) (.slice A n1 c1) (.slice K t.ks.length c) (.mk 4 t.rel t.p []) (.slice A0 n0 c0) (.slice A n1 c1) [] W2 := by
      refine ⟨HWX.out.trans hW2x, ⟨⟨hlow, ho1⟩, by omega⟩, HBX.out.ext hW2x (by omega), HZ.out.ext hW2x (by omega), _, ⟨?_, fun i => ?_⟩, MRowP.nil _ _ _⟩
      · have hb := Box7.new W (.mk 4 t.rel t.p []) (.slice A0 n0 c0) (.slice A n1 c1) (.slice none 0 0) 34
        rw [ho] at hb
        rw [← hW2]; exact hb
      · rw [← hW2, ← ho]; simp [go_sem]
    have HG0 := Lib.hid hG0
    have d6 : (W.alloc (.cells #[.int .i64 4, .int .i64 t.rel, .int .i64 t.p.lv, .bool t.p.neg, .slice A0 n0 c0, .slice A n1 c1, .slice none 0 0] 34)).cell? ⟨w.heap.size, 6, none⟩ = some (.slice K t.ks.length c) := by rw [hW2]; exact (hW2x.cell (p := ⟨w.heap.size, 6, none⟩) (by show w.heap.size < _; omega)).trans b6
    have HW2 := Lib.hid hW2
    have HO := Lib.hid ho
    clear hW2 hW2x hG0 HZ HBX HWX HWS hWs ho hW2s FAR hW
    go_wp2_with fail
    rw [HW2.out]
    simp only [HO.out]
    clear d6 b0 b1 b2 b3 b4 b5 b6
    go_loopw [28] (fun iv wr => ∃ k : Nat, k ≤ t.ks.length ∧ iv = .int .i64 k ∧ Hid (GrowP low w o t (.slice A0 n0 c0) (.slice A n1 c1) (.slice K t.ks.length c) (.mk 4 t.rel t.p []) (.slice A0 n0 c0) (.slice A n1 c1) ((t.ks.take k).map Mx.rnot) wr)) (fun iv _ => t.ks.length - (intOf iv).toNat)
    case atStart => exact ⟨0, Nat.zero_le _, rfl, HG0⟩
    case round =>
      obtain ⟨k, hk, rfl, HG⟩ := hrel
      by_cases hlt : k < t.ks.length
      · have hln : ((t.ks.take k).map Mx.rnot).length = k := by rw [List.length_map, List.length_take]; omega
        obtain ⟨AV, cv, hv6, hcv1, hcv2, hnext⟩ := HG.out.step (by omega)
        rw [hln] at hv6 hcv1 hnext
        obtain ⟨hxw, ⟨⟨-, hbo⟩, hbs⟩, hbx, -⟩ := HG.out
        obtain ⟨ad, B0, m0, d0, B1, m1, d1, K2, n2, c2, hA, hadb, hnd, hkt⟩ := MxsAt.kid H4.out k hlt
        subst hA
        obtain ⟨e0, e1, e2, e3, e4, e5, e6⟩ := hnd.ext hxw (by rw [block_of_add]; exact hadb)
        have b6 : wr.cell? ⟨w.heap.size, 6, none⟩ = some (.slice (some ad) t.ks.length c) := hbx.2.2.2.2.2.2
        have hsz := HSZ.out k hlt
        have HC : Hid (Calls Tryz.prog 18 #[.agg #[.int .i64 t.ks[k].kind, .int .i64 t.ks[k].rel, .int .i64 t.ks[k].p.lv, .bool t.ks[k].p.neg, .slice B0 m0 d0, .slice B1 m1 d1, .slice K2 n2 c2]] wr.drew (RetMx (fun b => b < low ∨ wr.drew.heap.size ≤ b) t.ks[k].rnot wr.drew)) :=
          IH.out low t.ks[k] _ wr.drew (by omega) (by omega) (by have := hxw.drew.size; omega) (hkt.ext hxw.drew)
        have HNEXT := Lib.hid hnext
        have HBS : Hid (w.heap.size + 1 < o ∧ o + 1 ≤ wr.heap.size) := Lib.hid ⟨hbo, hbs⟩
        have HTK : Hid ((t.ks.take (k + 1)).map Mx.rnot = (t.ks.take k).map Mx.rnot ++ [t.ks[k].rnot]) := by
          have : (t.ks.take (k + 1)).map Mx.rnot = (t.ks.take k).map Mx.rnot ++ [t.ks[k].rnot] := by rw [List.take_succ_eq_append_getElem hlt, List.map_append]; rfl
          exact this
        clear hnext hxw hbx hnd hkt hadb hsz hln
        generalize t.ks[k].rnot = tk at *
        go_upto_region 16 with fail
        go_region_law (first
          | (go_simp
             go_at_call 18
             refine HC.out.mono ?_
             rintro e w3 ⟨v3, rfl, t3, x3⟩
             have y3 : Ext wr w3 := Ext.trans ((Ext.refl wr).drew) x3
             obtain ⟨C0, j0, f0, C1, j1, f1, C2, f2, rfl, -⟩ := id t3.open_
             obtain ⟨AV', cv', w4, hrun, h6, hf6, hgn⟩ := HNEXT.out w3 _ _ _ _ _ _ _ _ _ _ 32 y3 t3
             have HGN := Lib.hid hgn
             have g6 : w3.cell? ⟨o, 6, none⟩ = some (.slice AV k cv) := (y3.cell (p := ⟨o, 6, none⟩) (by have := HBS.out; show o < _; omega)).trans hv6
             have hs3 : o < w3.heap.size := by have := y3.size; have := HBS.out; omega
             unfold mxV
             clear hgn t3 x3 y3)
          | (refine step_append_run rfl (.tmp 32) (.tmp 39) 32 32 rfl _ _ _ _ (by simp [Act.eval, Act.put]) (by simp [Act.eval, Act.put]) hrun ?_))
        all_goals
          have hgn2 := HGN.out
          rw [← HTK.out] at hgn2
          have HN := Lib.hid hgn2
          clear hgn2 HGN hrun h6 hf6 g6 hs3 HNEXT HC HTK
          go_wp2_with fail
          go_roundw
          case rel => exact ⟨k + 1, by omega, by go_num, HN⟩
          case measure => simp [intOf]; omega
      · have hke : k = t.ks.length := by omega
        subst hke
        have hg := HG.out
        rw [List.take_length] at hg
        obtain ⟨AV, cv, ⟨x0, x1, x2, x3, x4, x5, x6⟩, hz, hm⟩ := hg.fin (q := fun b => b < low ∨ o + 1 ≤ b) ((HP.out.ext hg.1).mono (fun b hb => .inl hb)) (fun _ h => h)
        have hlm : (t.ks.map Mx.rnot).length = t.ks.length := List.length_map _
        rw [hlm] at hm x6
        have hf := close_mx (m := .mk 4 t.rel t.p (t.ks.map Mx.rnot)) (q' := fun b => b < low ∨ w.heap.size ≤ b) hg.1 (Nat.le_succ _) hz hm (fun b _ hb => by have hb : b < low ∨ o + 1 ≤ b := hb; have := hg.2.1.1; exact ⟨by omega, by omega⟩)
        have HF := Lib.hid (RetMx.congr HNR.out hf)
        obtain ⟨⟨z0, z1, z2, z3, z4, z5, z6⟩, zf⟩ := hz
        replace x0 : wr.cell? ⟨o, 0, none⟩ = some (.int .i64 4) := x0
        replace x1 : wr.cell? ⟨o, 1, none⟩ = some (.int .i64 t.rel) := x1
        replace x2 : wr.cell? ⟨o, 2, none⟩ = some (.int .i64 t.p.lv) := x2
        replace x3 : wr.cell? ⟨o, 3, none⟩ = some (.bool t.p.neg) := x3
        replace z0 : wr.cell? ⟨w.heap.size + 1, 0, none⟩ = some (.int .i64 0) := z0
        replace z1 : wr.cell? ⟨w.heap.size + 1, 1, none⟩ = some (.int .i64 0) := z1
        replace z2 : wr.cell? ⟨w.heap.size + 1, 2, none⟩ = some (.int .i64 0) := z2
        replace z3 : wr.cell? ⟨w.heap.size + 1, 3, none⟩ = some (.bool false) := z3
        have d6 : wr.cell? ⟨w.heap.size, 6, none⟩ = some (.slice K t.ks.length c) := hg.2.2.1.2.2.2.2.2.2
        clear hf hm hg HG HG0 hlm HNR
        go_wp2_with fail
        exact bodyPost_ret (v := mxV (.mk 4 t.rel t.p (t.ks.map Mx.rnot)) (.slice A0 n0 c0) (.slice A n1 c1) (.slice AV t.ks.length cv)) (by simp [results, Tryz.results18, go_sem, z0, z1, z2, z3, z4, z5, z6, mxV, Mx.kind, Mx.rel, Mx.p, Pl.zero, Pl.lv, Pl.neg]) rfl HF.out
  · have KN := Lib.hid k0
    have HNR : Hid (t.rnot = .mk 3 t.rel t.p (t.ks.map Mx.rnot)) := Lib.hid (by rw [HRN.out]; congr 1 <;> simp [k0])
    have q0 : (t.kind == 0) = false := by simp [k0]
    have q1 : (t.kind == 1) = false := by simp [k0]
    have q3 : (t.kind == 3) = false := by simp [k0]
    have q4 : (t.kind == 4) = true := by simp [k0]
    clear k0 HRN
    go_upto_region 13 with fail
    clear d0 d1 q0 q1 q3 q4
    obtain ⟨o, ho⟩ : ∃ o, W.heap.size = o := ⟨_, rfl⟩
    have hWs := HWS.out
    have ho1 : w.heap.size + 1 < o := by omega
    obtain ⟨W2, hW2⟩ : ∃ W2, W.alloc (.cells #[.int .i64 3, .int .i64 t.rel, .int .i64 t.p.lv, .bool t.p.neg, .slice A0 n0 c0, .slice A n1 c1, .slice none 0 0] 34) = W2 := ⟨_, rfl⟩
    have hW2x : Ext W W2 := by rw [← hW2]; exact (Ext.refl W).alloc _
    have hW2s : W2.heap.size = o + 1 := by rw [← hW2]; simp; omega
    have hG0 : GrowP low w o t (.slice A0 n0 c0) (.slice A n1 c1) (.slice K t.ks.length c) (.mk 3 t.rel t.p []) (.slice A0 n0 c0) (.slice A n1 c1) [] W2 := by
      refine ⟨HWX.out.trans hW2x, ⟨⟨hlow, ho1⟩, by omega⟩, HBX.out.ext hW2x (by omega), HZ.out.ext hW2x (by omega), _, ⟨?_, fun i => ?_⟩, MRowP.nil _ _ _⟩
      · have hb := Box7.new W (.mk 3 t.rel t.p []) (.slice A0 n0 c0) (.slice A n1 c1) (.slice none 0 0) 34
        rw [ho] at hb
        rw [← hW2]; exact hb
      · rw [← hW2, ← ho]; simp [go_sem]
    have HG0 := Lib.hid hG0
    have d6 : (W.alloc (.cells #[.int .i64 3, .int .i64 t.rel, .int .i64 t.p.lv, .bool t.p.neg, .slice A0 n0 c0, .slice A n1 c1, .slice none 0 0] 34)).cell? ⟨w.heap.size, 6, none⟩ = some (.slice K t.ks.length c) := by rw [hW2]; exact (hW2x.cell (p := ⟨w.heap.size, 6, none⟩) (by show w.heap.size < _; omega)).trans b6
    have HW2 := Lib.hid hW2
    have HO := Lib.hid ho
    clear hW2 hW2x hG0 HZ HBX HWX HWS hWs ho hW2s FAR hW
    go_wp2_with fail
    rw [HW2.out]
    simp only [HO.out]
    clear d6 b0 b1 b2 b3 b4 b5 b6
    go_loopw [28] (fun iv wr => ∃ k : Nat, k ≤ t.ks.length ∧ iv = .int .i64 k ∧ Hid (GrowP low w o t (.slice A0 n0 c0) (.slice A n1 c1) (.slice K t.ks.length c) (.mk 3 t.rel t.p []) (.slice A0 n0 c0) (.slice A n1 c1) ((t.ks.take k).map Mx.rnot) wr)) (fun iv _ => t.ks.length - (intOf iv).toNat)
    case atStart => exact ⟨0, Nat.zero_le _, rfl, HG0⟩
    case round =>
      obtain ⟨k, hk, rfl, HG⟩ := hrel
      by_cases hlt : k < t.ks.length
      · have hln : ((t.ks.take k).map Mx.rnot).length = k := by rw [List.length_map, List.length_take]; omega
        obtain ⟨AV, cv, hv6, hcv1, hcv2, hnext⟩ := HG.out.step (by omega)
        rw [hln] at hv6 hcv1 hnext
        obtain ⟨hxw, ⟨⟨-, hbo⟩, hbs⟩, hbx, -⟩ := HG.out
        obtain ⟨ad, B0, m0, d0, B1, m1, d1, K2, n2, c2, hA, hadb, hnd, hkt⟩ := MxsAt.kid H4.out k hlt
        subst hA
        obtain ⟨e0, e1, e2, e3, e4, e5, e6⟩ := hnd.ext hxw (by rw [block_of_add]; exact hadb)
        have b6 : wr.cell? ⟨w.heap.size, 6, none⟩ = some (.slice (some ad) t.ks.length c) := hbx.2.2.2.2.2.2
        have hsz := HSZ.out k hlt
        have HC : Hid (Calls Tryz.prog 18 #[.agg #[.int .i64 t.ks[k].kind, .int .i64 t.ks[k].rel, .int .i64 t.ks[k].p.lv, .bool t.ks[k].p.neg, .slice B0 m0 d0, .slice B1 m1 d1, .slice K2 n2 c2]] wr.drew (RetMx (fun b => b < low ∨ wr.drew.heap.size ≤ b) t.ks[k].rnot wr.drew)) :=
          IH.out low t.ks[k] _ wr.drew (by omega) (by omega) (by have := hxw.drew.size; omega) (hkt.ext hxw.drew)
        have HNEXT := Lib.hid hnext
        have HBS : Hid (w.heap.size + 1 < o ∧ o + 1 ≤ wr.heap.size) := Lib.hid ⟨hbo, hbs⟩
        have HTK : Hid ((t.ks.take (k + 1)).map Mx.rnot = (t.ks.take k).map Mx.rnot ++ [t.ks[k].rnot]) := by
          have : (t.ks.take (k + 1)).map Mx.rnot = (t.ks.take k).map Mx.rnot ++ [t.ks[k].rnot] := by rw [List.take_succ_eq_append_getElem hlt, List.map_append]; rfl
          exact this
        clear hnext hxw hbx hnd hkt hadb hsz hln
        generalize t.ks[k].rnot = tk at *
        go_upto_region 16 with fail
        go_region_law (first
          | (go_simp
             go_at_call 18
             refine HC.out.mono ?_
             rintro e w3 ⟨v3, rfl, t3, x3⟩
             have y3 : Ext wr w3 := Ext.trans ((Ext.refl wr).drew) x3
             obtain ⟨C0, j0, f0, C1, j1, f1, C2, f2, rfl, -⟩ := id t3.open_
             obtain ⟨AV', cv', w4, hrun, h6, hf6, hgn⟩ := HNEXT.out w3 _ _ _ _ _ _ _ _ _ _ 32 y3 t3
             have HGN := Lib.hid hgn
             have g6 : w3.cell? ⟨o, 6, none⟩ = some (.slice AV k cv) := (y3.cell (p := ⟨o, 6, none⟩) (by have := HBS.out; show o < _; omega)).trans hv6
             have hs3 : o < w3.heap.size := by have := y3.size; have := HBS.out; omega
             unfold mxV
             clear hgn t3 x3 y3)
          | (refine step_append_run rfl (.tmp 32) (.tmp 39) 32 32 rfl _ _ _ _ (by simp [Act.eval, Act.put]) (by simp [Act.eval, Act.put]) hrun ?_))
        all_goals
          have hgn2 := HGN.out
          rw [← HTK.out] at hgn2
          have HN := Lib.hid hgn2
          clear hgn2 HGN hrun h6 hf6 g6 hs3 HNEXT HC HTK
          go_wp2_with fail
          go_roundw
          case rel => exact ⟨k + 1, by omega, by go_num, HN⟩
          case measure => simp [intOf]; omega
      · have hke : k = t.ks.length := by omega
        subst hke
        have hg := HG.out
        rw [List.take_length] at hg
        obtain ⟨AV, cv, ⟨x0, x1, x2, x3, x4, x5, x6⟩, hz, hm⟩ := hg.fin (q := fun b => b < low ∨ o + 1 ≤ b) ((HP.out.ext hg.1).mono (fun b hb => .inl hb)) (fun _ h => h)
        have hlm : (t.ks.map Mx.rnot).length = t.ks.length := List.length_map _
        rw [hlm] at hm x6
        have hf := close_mx (m := .mk 3 t.rel t.p (t.ks.map Mx.rnot)) (q' := fun b => b < low ∨ w.heap.size ≤ b) hg.1 (Nat.le_succ _) hz hm (fun b _ hb => by have hb : b < low ∨ o + 1 ≤ b := hb; have := hg.2.1.1; exact ⟨by omega, by omega⟩)
        have HF := Lib.hid (RetMx.congr HNR.out hf)
        obtain ⟨⟨z0, z1, z2, z3, z4, z5, z6⟩, zf⟩ := hz
        replace x0 : wr.cell? ⟨o, 0, none⟩ = some (.int .i64 3) := x0
        replace x1 : wr.cell? ⟨o, 1, none⟩ = some (.int .i64 t.rel) := x1
        replace x2 : wr.cell? ⟨o, 2, none⟩ = some (.int .i64 t.p.lv) := x2
        replace x3 : wr.cell? ⟨o, 3, none⟩ = some (.bool t.p.neg) := x3
        replace z0 : wr.cell? ⟨w.heap.size + 1, 0, none⟩ = some (.int .i64 0) := z0
        replace z1 : wr.cell? ⟨w.heap.size + 1, 1, none⟩ = some (.int .i64 0) := z1
        replace z2 : wr.cell? ⟨w.heap.size + 1, 2, none⟩ = some (.int .i64 0) := z2
        replace z3 : wr.cell? ⟨w.heap.size + 1, 3, none⟩ = some (.bool false) := z3
        have d6 : wr.cell? ⟨w.heap.size, 6, none⟩ = some (.slice K t.ks.length c) := hg.2.2.1.2.2.2.2.2.2
        clear hf hm hg HG HG0 hlm HNR
        go_wp2_with fail
        exact bodyPost_ret (v := mxV (.mk 3 t.rel t.p (t.ks.map Mx.rnot)) (.slice A0 n0 c0) (.slice A n1 c1) (.slice AV t.ks.length cv)) (by simp [results, Tryz.results18, go_sem, z0, z1, z2, z3, z4, z5, z6, mxV, Mx.kind, Mx.rel, Mx.p, Pl.zero, Pl.lv, Pl.neg]) rfl HF.out
  · have KN := Lib.hid k0
    have HNR : Hid (t.rnot = .mk t.kind (cmpl t.rel) t.p (t.ks.map Mx.rnot)) := Lib.hid (by rw [HRN.out]; congr 1 <;> simp [k0])
    have q0 : (t.kind == 0) = false := by simp [k0]
    have q1 : (t.kind == 1) = false := by simp [k0]
    have q3 : (t.kind == 3) = false := by simp [k0]
    have q4 : (t.kind == 4) = false := by simp [k0]
    have HCMP := Lib.hid (fun w' : World => rcompl_any t.rel w')
    clear k0 HRN
    go_upto_region 13 with (go_at_call 60; refine (HCMP.out _).mono ?_; rintro e w3 ⟨rfl, rfl⟩)
    clear d0 d1 q0 q1 q3 q4
    obtain ⟨o, ho⟩ : ∃ o, W.heap.size = o := ⟨_, rfl⟩
    have hWs := HWS.out
    have ho1 : w.heap.size + 1 < o := by omega
    obtain ⟨W2, hW2⟩ : ∃ W2, W.alloc (.cells #[.int .i64 t.kind, .int .i64 (cmpl t.rel), .int .i64 t.p.lv, .bool t.p.neg, .slice A0 n0 c0, .slice A n1 c1, .slice none 0 0] 34) = W2 := ⟨_, rfl⟩
    have hW2x : Ext W W2 := by rw [← hW2]; exact (Ext.refl W).alloc _
    have hW2s : W2.heap.size = o + 1 := by rw [← hW2]; simp; omega
    have hG0 : GrowP low w o t (.slice A0 n0 c0) (.slice A n1 c1) (.slice K t.ks.length c) (.mk t.kind (cmpl t.rel) t.p []) (.slice A0 n0 c0) (.slice A n1 c1) [] W2 := by
      refine ⟨HWX.out.trans hW2x, ⟨⟨hlow, ho1⟩, by omega⟩, HBX.out.ext hW2x (by omega), HZ.out.ext hW2x (by omega), _, ⟨?_, fun i => ?_⟩, MRowP.nil _ _ _⟩
      · have hb := Box7.new W (.mk t.kind (cmpl t.rel) t.p []) (.slice A0 n0 c0) (.slice A n1 c1) (.slice none 0 0) 34
        rw [ho] at hb
        rw [← hW2]; exact hb
      · rw [← hW2, ← ho]; simp [go_sem]
    have HG0 := Lib.hid hG0
    have d6 : (W.alloc (.cells #[.int .i64 t.kind, .int .i64 (cmpl t.rel), .int .i64 t.p.lv, .bool t.p.neg, .slice A0 n0 c0, .slice A n1 c1, .slice none 0 0] 34)).cell? ⟨w.heap.size, 6, none⟩ = some (.slice K t.ks.length c) := by rw [hW2]; exact (hW2x.cell (p := ⟨w.heap.size, 6, none⟩) (by show w.heap.size < _; omega)).trans b6
    have HW2 := Lib.hid hW2
    have HO := Lib.hid ho
    clear hW2 hW2x hG0 HZ HBX HWX HWS hWs ho hW2s FAR hW
    go_wp2_with fail
    rw [HW2.out]
    simp only [HO.out]
    clear d6 b0 b1 b2 b3 b4 b5 b6
    go_loopw [28] (fun iv wr => ∃ k : Nat, k ≤ t.ks.length ∧ iv = .int .i64 k ∧ Hid (GrowP low w o t (.slice A0 n0 c0) (.slice A n1 c1) (.slice K t.ks.length c) (.mk t.kind (cmpl t.rel) t.p []) (.slice A0 n0 c0) (.slice A n1 c1) ((t.ks.take k).map Mx.rnot) wr)) (fun iv _ => t.ks.length - (intOf iv).toNat)
    case atStart => exact ⟨0, Nat.zero_le _, rfl, HG0⟩
    case round =>
      obtain ⟨k, hk, rfl, HG⟩ := hrel
      by_cases hlt : k < t.ks.length
      · have hln : ((t.ks.take k).map Mx.rnot).length = k := by rw [List.length_map, List.length_take]; omega
        obtain ⟨AV, cv, hv6, hcv1, hcv2, hnext⟩ := HG.out.step (by omega)
        rw [hln] at hv6 hcv1 hnext
        obtain ⟨hxw, ⟨⟨-, hbo⟩, hbs⟩, hbx, -⟩ := HG.out
        obtain ⟨ad, B0, m0, d0, B1, m1, d1, K2, n2, c2, hA, hadb, hnd, hkt⟩ := MxsAt.kid H4.out k hlt
        subst hA
        obtain ⟨e0, e1, e2, e3, e4, e5, e6⟩ := hnd.ext hxw (by rw [block_of_add]; exact hadb)
        have b6 : wr.cell? ⟨w.heap.size, 6, none⟩ = some (.slice (some ad) t.ks.length c) := hbx.2.2.2.2.2.2
        have hsz := HSZ.out k hlt
        have HC : Hid (Calls Tryz.prog 18 #[.agg #[.int .i64 t.ks[k].kind, .int .i64 t.ks[k].rel, .int .i64 t.ks[k].p.lv, .bool t.ks[k].p.neg, .slice B0 m0 d0, .slice B1 m1 d1, .slice K2 n2 c2]] wr.drew (RetMx (fun b => b < low ∨ wr.drew.heap.size ≤ b) t.ks[k].rnot wr.drew)) :=
          IH.out low t.ks[k] _ wr.drew (by omega) (by omega) (by have := hxw.drew.size; omega) (hkt.ext hxw.drew)
        have HNEXT := Lib.hid hnext
        have HBS : Hid (w.heap.size + 1 < o ∧ o + 1 ≤ wr.heap.size) := Lib.hid ⟨hbo, hbs⟩
        have HTK : Hid ((t.ks.take (k + 1)).map Mx.rnot = (t.ks.take k).map Mx.rnot ++ [t.ks[k].rnot]) := by
          have : (t.ks.take (k + 1)).map Mx.rnot = (t.ks.take k).map Mx.rnot ++ [t.ks[k].rnot] := by rw [List.take_succ_eq_append_getElem hlt, List.map_append]; rfl
          exact this
        clear hnext hxw hbx hnd hkt hadb hsz hln
        generalize t.ks[k].rnot = tk at *
        go_upto_region 16 with fail
        go_region_law (first
          | (go_simp
             go_at_call 18
             refine HC.out.mono ?_
             rintro e w3 ⟨v3, rfl, t3, x3⟩
             have y3 : Ext wr w3 := Ext.trans ((Ext.refl wr).drew) x3
             obtain ⟨C0, j0, f0, C1, j1, f1, C2, f2, rfl, -⟩ := id t3.open_
             obtain ⟨AV', cv', w4, hrun, h6, hf6, hgn⟩ := HNEXT.out w3 _ _ _ _ _ _ _ _ _ _ 32 y3 t3
             have HGN := Lib.hid hgn
             have g6 : w3.cell? ⟨o, 6, none⟩ = some (.slice AV k cv) := (y3.cell (p := ⟨o, 6, none⟩) (by have := HBS.out; show o < _; omega)).trans hv6
             have hs3 : o < w3.heap.size := by have := y3.size; have := HBS.out; omega
             unfold mxV
             clear hgn t3 x3 y3)
          | (refine step_append_run rfl (.tmp 32) (.tmp 39) 32 32 rfl _ _ _ _ (by simp [Act.eval, Act.put]) (by simp [Act.eval, Act.put]) hrun ?_))
        all_goals
          have hgn2 := HGN.out
          rw [← HTK.out] at hgn2
          have HN := Lib.hid hgn2
          clear hgn2 HGN hrun h6 hf6 g6 hs3 HNEXT HC HTK
          go_wp2_with fail
          go_roundw
          case rel => exact ⟨k + 1, by omega, by go_num, HN⟩
          case measure => simp [intOf]; omega
      · have hke : k = t.ks.length := by omega
        subst hke
        have hg := HG.out
        rw [List.take_length] at hg
        obtain ⟨AV, cv, ⟨x0, x1, x2, x3, x4, x5, x6⟩, hz, hm⟩ := hg.fin (q := fun b => b < low ∨ o + 1 ≤ b) ((HP.out.ext hg.1).mono (fun b hb => .inl hb)) (fun _ h => h)
        have hlm : (t.ks.map Mx.rnot).length = t.ks.length := List.length_map _
        rw [hlm] at hm x6
        have hf := close_mx (m := .mk t.kind (cmpl t.rel) t.p (t.ks.map Mx.rnot)) (q' := fun b => b < low ∨ w.heap.size ≤ b) hg.1 (Nat.le_succ _) hz hm (fun b _ hb => by have hb : b < low ∨ o + 1 ≤ b := hb; have := hg.2.1.1; exact ⟨by omega, by omega⟩)
        have HF := Lib.hid (RetMx.congr HNR.out hf)
        obtain ⟨⟨z0, z1, z2, z3, z4, z5, z6⟩, zf⟩ := hz
        replace x0 : wr.cell? ⟨o, 0, none⟩ = some (.int .i64 t.kind) := x0
        replace x1 : wr.cell? ⟨o, 1, none⟩ = some (.int .i64 (cmpl t.rel)) := x1
        replace x2 : wr.cell? ⟨o, 2, none⟩ = some (.int .i64 t.p.lv) := x2
        replace x3 : wr.cell? ⟨o, 3, none⟩ = some (.bool t.p.neg) := x3
        replace z0 : wr.cell? ⟨w.heap.size + 1, 0, none⟩ = some (.int .i64 0) := z0
        replace z1 : wr.cell? ⟨w.heap.size + 1, 1, none⟩ = some (.int .i64 0) := z1
        replace z2 : wr.cell? ⟨w.heap.size + 1, 2, none⟩ = some (.int .i64 0) := z2
        replace z3 : wr.cell? ⟨w.heap.size + 1, 3, none⟩ = some (.bool false) := z3
        have d6 : wr.cell? ⟨w.heap.size, 6, none⟩ = some (.slice K t.ks.length c) := hg.2.2.1.2.2.2.2.2.2
        clear hf hm hg HG HG0 hlm HNR
        go_wp2_with fail
        exact bodyPost_ret (v := mxV (.mk t.kind (cmpl t.rel) t.p (t.ks.map Mx.rnot)) (.slice A0 n0 c0) (.slice A n1 c1) (.slice AV t.ks.length cv)) (by simp [results, Tryz.results18, go_sem, z0, z1, z2, z3, z4, z5, z6, mxV, Mx.kind, Mx.rel, Mx.p, Pl.zero, Pl.lv, Pl.neg]) rfl HF.out
theorem rnot_any {q : Nat → Prop} (t : Mx) (v : Value) (w : World) (hbig : t.sz ≤ 1000000) (h : MxV w q t v) : Calls Tryz.prog 18 #[v] w (RetMx (fun _ => True) t.rnot w) :=
  (rnot_ih (t.sz + 1) w.heap.size t v w (Nat.lt_succ_self _) hbig (Nat.le_refl _) (MxV.turn_ (Nat.le_refl _) (fun _ _ h => h) (fun b hb _ => ⟨hb, rfl⟩) h)).mono fun e w' ⟨v', e1, m, x⟩ => ⟨v', e1, m.mono (fun _ _ => trivial), x⟩

end Go.Proofs.YtbanhcaahabboaaGreatDoor
