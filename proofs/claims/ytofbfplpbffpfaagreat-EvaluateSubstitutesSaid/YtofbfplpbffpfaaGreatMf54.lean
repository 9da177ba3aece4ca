/- Reference 40: replaced. -/
import Derived.Test.YtofbfplpbffpfaaGreatMf53
import Derived.Test.YtofbfplpbffpfaaGreatExact
import Derived.Test.YtofbfplpbffpfaaGreatMf47
import Derived.Test.YtofbfplpbffpfaaGreatMf49
import Derived.Test.YtofbfplpbffpfaaGreatValid
import Derived.Test.YtofbfplpbffpfaaGreatMf31
import Derived.Test.YtofbfplpbffpfaaGreatMf48

namespace Go.Proofs.YtofbfplpbffpfaaGreat
open Go.RowKit

/-- The integer that stands for a name. -/
def igt (vals : List (ByteArray × Rat)) (s : ByteArray) : Option Int := (vget vals s).map fun q => if q.den = 1 then q.num else 0
def ReplIH (w0 : World) (p : Nat → Prop) (L : Nat) (s : Value) (vals : List (ByteArray × Rat)) (n : Nat) : Prop := ∀ (t : Tr) (v : Value) (w : World), t.sz < n → t.sz ≤ 1000000 → TrV w0 p t v → Ext w0 w → Calls Tryz.prog 51 #[v, s] w (RetNew (t.sub (igt vals)) w)

set_option maxRecDepth 100000 in
set_option maxHeartbeats 8000000 in
theorem repl_ih (w0 : World) (p : Nat → Prop) (L : Nat) (s : Value) (vals : List (ByteArray × Rat)) (hL : 1 ≤ L) (hL2 : L ≤ 1000000) (hvs : VsV w0 L s vals) (n : Nat) : ReplIH w0 p L s vals n := by
  induction n with
  | zero => intro t v w h; omega
  | succ n ih =>
  intro t v w hn hbig h hx0
  have hkl : t.ks.length ≤ 1000000 := by have := trsSz_len t.ks; have := t.sz_ks; omega
  have IH := Lib.hid ih
  have HSZ := Lib.hid (fun k hk => t.kid_sz k hk)
  have HX0 := Lib.hid hx0
  have HVS := Lib.hid hvs
  obtain ⟨As, cs, rfl, hs1, hs2, -⟩ := hvs
  obtain ⟨A0, n0, c0, A, c, rfl, hnat, hl1, hl2, h4⟩ := h.open_
  have HNAT := Lib.hid hnat
  have H4 := Lib.hid h4
  clear h ih h4 hnat hx0
  unfold ndV
  obtain ⟨W, hW⟩ : ∃ W, (w.alloc (.cells #[.int .i64 t.d.kind, .bool t.d.neg, .slice A0 n0 c0, .string t.d.name, .int .i64 t.d.exp, .int .i64 t.d.rel, .bool t.d.truth, .bool t.d.all, .slice A t.ks.length c] 29)).alloc (.cells #[.int .i64 0, .bool false, .slice none 0 0, .string ⟨#[]⟩, .int .i64 0, .int .i64 0, .bool false, .bool false, .slice none 0 0] 29) = W := ⟨_, rfl⟩
  have hWx : Ext w W := by rw [← hW]; exact ((Ext.refl w).alloc _).alloc _
  have hWs : W.heap.size = w.heap.size + 1 + 1 := by rw [← hW]; simp
  have hbx : Box9 W w.heap.size t.d (.slice A0 n0 c0) (.slice A t.ks.length c) := by rw [← hW]; exact (Box9.new w t.d _ _ _).ext ((Ext.refl _).alloc _) (by simp)
  have hz : Zero9 W (w.heap.size + 1) := by
    have := zero9_new (w.alloc (.cells #[.int .i64 t.d.kind, .bool t.d.neg, .slice A0 n0 c0, .string t.d.name, .int .i64 t.d.exp, .int .i64 t.d.rel, .bool t.d.truth, .bool t.d.all, .slice A t.ks.length c] 29)) 29
    rw [hW] at this
    simpa using this
  obtain ⟨b0, b1, b2, b3, b4, b5, b6, b7, b8⟩ := id hbx
  have HBX := Lib.hid hbx
  have HZ := Lib.hid hz
  have HWX := Lib.hid hWx
  have HFI := Lib.hid (find_any (HVS.out.ext (HX0.out.trans hWx)) t.d.name)
  clear hbx hz hWx
  by_cases hk2 : t.d.kind = 2
  · have hke : (t.d.kind == 2) = true := by simpa using hk2
    cases hg : vget vals t.d.name with
    | none =>
      have hfi : findI vals t.d.name = -1 := by
        have h1 := vget_findI vals t.d.name
        rw [hg] at h1
        have h2 := findI_bd vals t.d.name
        simp at h1
        omega
      rw [hfi] at HFI
      have HSUB := Lib.hid (Tr.sub_none (g := igt vals) (t := t) (by rw [if_pos hk2]; unfold igt; rw [hg]; rfl))
      clear hg hfi hk2
      go_enter Tryz.func51, Tryz.ntmps51
      go_wp2_with fail
      clear hW b0 b1 b2 b3 b4 b5 b6 b7 b8
      refine HFI.out.mono ?_
      rintro e w1 ⟨rfl, x1⟩
      obtain ⟨b0, b1, b2, b3, b4, b5, b6, b7, b8⟩ := HBX.out.ext x1 (by omega)
      have hs1' := x1.size
      have X1 := Lib.hid x1
      clear x1 HFI
      go_upto_region 7 with fail
      generalize hV : w1.alloc (.cells #[.int .i64 t.d.kind, .bool t.d.neg, .slice A0 n0 c0, .string t.d.name, .int .i64 t.d.exp, .int .i64 t.d.rel, .bool t.d.truth, .bool t.d.all, .slice none 0 0] 29) = V
      have hg0 : Grow w w.heap.size (w.heap.size + 1) w1.heap.size (w1.heap.size + 1) t.d t.d (.slice A0 n0 c0) (.slice A t.ks.length c) (.slice A0 n0 c0) [] V := by
        have hVx : Ext w1 V := by rw [← hV]; exact (Ext.refl w1).alloc _
        have hVs : V.heap.size = w1.heap.size + 1 := by rw [← hV]; simp
        refine ⟨⟨by omega, by omega, by omega, by omega, by omega, by omega, by omega, by omega, by omega⟩, (HWX.out.trans X1.out).trans hVx, by omega, HBX.out.ext (X1.out.trans hVx) (by omega), HZ.out.ext (X1.out.trans hVx) (by omega), _, ⟨?_, fun i => ?_⟩, HNAT.out.ext ((HX0.out.trans (HWX.out.trans X1.out)).trans hVx), KidsV.nil _ _⟩
        · rw [← hV]; exact Box9.new w1 t.d _ _ _
        · rw [← hV]; simp [go_sem]
      have HG0 := Lib.hid hg0
      have v8 : V.cell? ⟨w.heap.size, 8, none⟩ = some (.slice A t.ks.length c) := hg0.2.2.2.1.2.2.2.2.2.2.2.2
      clear hg0 hV b0 b1 b2 b3 b4 b5 b6 b7 b8
      go_wp2_with fail
      clear v8
      go_loopw [37] (fun iv wr => ∃ k : Nat, k ≤ t.ks.length ∧ iv = .int .i64 k ∧ Hid (Grow w w.heap.size (w.heap.size + 1) w1.heap.size (w1.heap.size + 1) t.d t.d (.slice A0 n0 c0) (.slice A t.ks.length c) (.slice A0 n0 c0) ((t.ks.take k).map (Tr.sub (igt vals))) wr)) (fun iv _ => t.ks.length - (intOf iv).toNat)
      case atStart => exact ⟨0, Nat.zero_le _, rfl, HG0⟩
      case round =>
        obtain ⟨k, hk, rfl, HG⟩ := hrel
        by_cases hlt : k < t.ks.length
        · have hln : ((t.ks.take k).map (Tr.sub (igt vals))).length = k := by rw [List.length_map, List.length_take]; omega
          obtain ⟨AV, cv, hv8, hcv1, hcv2, hnext⟩ := HG.out.step (by omega)
          rw [hln] at hv8 hcv1 hnext
          obtain ⟨⟨-, -, -, -, -, -, -, -, -⟩, hxw, hbs, hbx, -⟩ := HG.out
          obtain ⟨ad, B0, m0, d0, B1, m1, d1, hA, hadb, hnd, hkt⟩ := TrsAt.kid H4.out k hlt
          subst hA
          have hx0 : Ext w0 wr := HX0.out.trans hxw
          obtain ⟨e0, e1, e2, e3, e4, e5, e6, e7, e8⟩ := hnd.ext hx0 (by rw [block_of_add]; exact hadb)
          have b8 : wr.cell? ⟨w.heap.size, 8, none⟩ = some (.slice (some ad) t.ks.length c) := hbx.2.2.2.2.2.2.2.2
          have hsz := HSZ.out k hlt
          have HC : Hid (Calls Tryz.prog 51 #[.agg #[.int .i64 t.ks[k].d.kind, .bool t.ks[k].d.neg, .slice B0 m0 d0, .string t.ks[k].d.name, .int .i64 t.ks[k].d.exp, .int .i64 t.ks[k].d.rel, .bool t.ks[k].d.truth, .bool t.ks[k].d.all, .slice B1 m1 d1], .slice As vals.length cs] wr.drew (RetNew (t.ks[k].sub (igt vals)) wr.drew)) :=
            IH.out t.ks[k] _ wr.drew (by omega) (by omega) hkt hx0.drew
          have HNEXT := Lib.hid hnext
          have HTK : Hid ((t.ks.take (k + 1)).map (Tr.sub (igt vals)) = (t.ks.take k).map (Tr.sub (igt vals)) ++ [t.ks[k].sub (igt vals)]) := by
            have : (t.ks.take (k + 1)).map (Tr.sub (igt vals)) = (t.ks.take k).map (Tr.sub (igt vals)) ++ [t.ks[k].sub (igt vals)] := by rw [List.take_succ_eq_append_getElem hlt, List.map_append]; rfl
            exact this
          clear hnext hxw hbx hx0 hnd hkt hadb hsz hln
          generalize t.ks[k].sub (igt vals) = tk at *
          go_upto_region 10 with fail
          go_region_law (first
            | (go_simp
               go_at_call 51
               refine HC.out.mono ?_
               rintro e w3 ⟨v3, rfl, t3, x3⟩
               have y3 : Ext wr w3 := Ext.trans ((Ext.refl wr).drew) x3
               obtain ⟨C0, j0, f0, C1, f1, rfl, -⟩ := id t3.open_
               obtain ⟨AV', cv', w4, hrun, h8, hf8, hgn⟩ := HNEXT.out w3 _ _ _ 27 y3 t3
               have HGN := Lib.hid hgn
               have g8 : w3.cell? ⟨w1.heap.size, 8, none⟩ = some (.slice AV k cv) := (y3.cell (p := ⟨w1.heap.size, 8, none⟩) (by show w1.heap.size < _; omega)).trans hv8
               have hs3 : w1.heap.size < w3.heap.size := by have := y3.size; omega
               unfold ndV
               clear hgn t3 x3 y3)
            | (refine step_append_run rfl (.tmp 41) (.tmp 49) 27 27 rfl _ _ _ _ (by simp [Act.eval, Act.put]) (by simp [Act.eval, Act.put]) hrun ?_))
          all_goals
            have hgn2 := HGN.out
            rw [← HTK.out] at hgn2
            have HN := Lib.hid hgn2
            clear hgn2 HGN hrun h8 hf8 g8 hs3 HNEXT HC HTK
            go_wp2_with fail
            go_roundw
            case rel => exact ⟨k + 1, by omega, by go_num, HN⟩
            case measure => simp [intOf]; omega
        · have hke : k = t.ks.length := by omega
          subst hke
          have hg := HG.out
          rw [List.take_length] at hg
          obtain ⟨AV, cv, ⟨x0, x1, x2, x3, x4, x5, x6, x7, x8⟩, ⟨⟨r0, r1, r2, r3, r4, r5, r6, r7, r8⟩, rf⟩, hf⟩ := hg.fin
          have hlm : (t.ks.map (Tr.sub (igt vals))).length = t.ks.length := List.length_map _
          rw [hlm] at hf x8
          rw [← HSUB.out] at hf
          have HF := Lib.hid hf
          clear hf hg HG HG0 hlm
          go_wp2_with fail
          exact bodyPost_ret (v := ndV t.d (.slice A0 n0 c0) (.slice AV t.ks.length cv)) (by simp [results, Tryz.results51, go_sem, r0, r1, r2, r3, r4, r5, r6, r7, r8, ndV]) rfl HF.out
    | some q =>
      obtain ⟨kk, hkk, hf, hkq⟩ := vget_find _ _ _ hg
      rw [hf] at HFI
      have HSUB := Lib.hid (Tr.sub_some (g := igt vals) (t := t) (z := if q.den = 1 then q.num else 0) (by rw [if_pos hk2]; unfold igt; rw [hg]; rfl))
      clear hg hf hk2
      go_enter Tryz.func51, Tryz.ntmps51
      go_wp2_with fail
      clear hW b0 b1 b2 b3 b4 b5 b6 b7 b8
      refine HFI.out.mono ?_
      rintro e w1 ⟨rfl, x1⟩
      obtain ⟨A', c', e', -, -, h3⟩ := HVS.out.ext ((HX0.out.trans HWX.out).trans x1)
      injection e' with e1 e2 e3
      obtain ⟨ad, bb, A1, n1, c1, A2, n2, c2, e4, hb, ⟨a0, a1, a2, a3⟩, hr⟩ := h3 kk hkk
      rw [hkq] at hr
      obtain rfl : As = some ad := e1.trans e4
      have HIN := Lib.hid (integer_rat _ q L w1 hr hL (by omega))
      obtain ⟨b0, b1, b2, b3, b4, b5, b6, b7, b8⟩ := HBX.out.ext x1 (by omega)
      have hs1' := x1.size
      have X1 := Lib.hid x1
      clear h3 e1 e3 e4 hr x1 HFI
      go_wp2_with fail
      refine HIN.out.mono ?_
      rintro e w2 ⟨x2, rfl, i2, y2⟩
      generalize (if q.den = 1 then q.num else 0) = z at *
      generalize decide (q.den = 1) = bo at *
      obtain ⟨v2, rfl, hn2⟩ := i2
      have N2 := Lib.hid hn2
      obtain ⟨A3, c3, rfl, -⟩ := hn2
      have hs2' := y2.size
      obtain ⟨V, hV⟩ : ∃ V, w2.alloc (.cells #[.bool (decide (z < 0)), .slice A3 (dg z.natAbs).length c3] 25) = V := ⟨_, rfl⟩
      have hVx : Ext w2 V := by rw [← hV]; exact (Ext.refl w2).alloc _
      have l0 : V.cell? ⟨w2.heap.size, 0, none⟩ = some (.bool (decide (z < 0))) := by rw [← hV]; simp [go_sem]
      have l1 : V.cell? ⟨w2.heap.size, 1, none⟩ = some (.slice A3 (dg z.natAbs).length c3) := by rw [← hV]; simp [go_sem]
      have hzr : Zero9 V (w.heap.size + 1) := HZ.out.ext (X1.out.trans (y2.trans hVx)) (by omega)
      obtain ⟨⟨r0, r1, r2, r3, r4, r5, r6, r7, r8⟩, rf⟩ := id hzr
      have HF : Hid (RetNew (t.sub (igt vals)) w (.returned (ndV { nd0 with kind := 1, neg := decide (z < 0), ds := dg z.natAbs } (.slice A3 (dg z.natAbs).length c3) (.slice none 0 0))) (set9 V (w.heap.size + 1) (.int .i64 1) (.bool (decide (z < 0))) (.slice A3 (dg z.natAbs).length c3) (.string ⟨#[]⟩) (.int .i64 0) (.int .i64 0) (.bool false) (.bool false) (.slice none 0 0))) := by
        rw [HSUB.out]
        refine ⟨_, rfl, TrV.mk (t := .mk { nd0 with kind := 1, neg := decide (z < 0), ds := dg z.natAbs } []) (A := none) (c := 0) (natV_set9 hzr (N2.out.ext hVx)) (Nat.le_refl _) (by omega) (by unfold Tr.ks TrsAt; trivial), set9_ext ((HWX.out.trans X1.out).trans (y2.trans hVx)) (by omega) _ _ _ _ _ _ _ _ _⟩
      clear hVx hzr N2 y2 HIN b0 b1 b2 b3 b4 b5 b6 b7 b8
      go_wp2_with fail
      exact bodyPost_ret (v := ndV { nd0 with kind := 1, neg := decide (z < 0), ds := dg z.natAbs } (.slice A3 (dg z.natAbs).length c3) (.slice none 0 0)) (by simp [results, Tryz.results51, go_sem, r0, r1, r2, r3, r4, r5, r6, r7, r8, ndV, nd0]) rfl HF.out
  · have hke : (t.d.kind == 2) = false := by simpa using hk2
    have HSUB := Lib.hid (Tr.sub_none (g := igt vals) (t := t) (by rw [if_neg hk2]))
    clear hk2
    go_enter Tryz.func51, Tryz.ntmps51
    go_wp2_with fail
    clear hW b0 b1 b2 b3 b4 b5 b6 b7 b8
    refine HFI.out.mono ?_
    rintro e w1 ⟨rfl, x1⟩
    generalize findI vals t.d.name = fi at *
    obtain ⟨b0, b1, b2, b3, b4, b5, b6, b7, b8⟩ := HBX.out.ext x1 (by omega)
    have hs1' := x1.size
    have X1 := Lib.hid x1
    clear x1 HFI
    go_upto_region 7 with fail
    generalize hV : w1.alloc (.cells #[.int .i64 t.d.kind, .bool t.d.neg, .slice A0 n0 c0, .string t.d.name, .int .i64 t.d.exp, .int .i64 t.d.rel, .bool t.d.truth, .bool t.d.all, .slice none 0 0] 29) = V
    have hg0 : Grow w w.heap.size (w.heap.size + 1) w1.heap.size (w1.heap.size + 1) t.d t.d (.slice A0 n0 c0) (.slice A t.ks.length c) (.slice A0 n0 c0) [] V := by
      have hVx : Ext w1 V := by rw [← hV]; exact (Ext.refl w1).alloc _
      have hVs : V.heap.size = w1.heap.size + 1 := by rw [← hV]; simp
      refine ⟨⟨by omega, by omega, by omega, by omega, by omega, by omega, by omega, by omega, by omega⟩, (HWX.out.trans X1.out).trans hVx, by omega, HBX.out.ext (X1.out.trans hVx) (by omega), HZ.out.ext (X1.out.trans hVx) (by omega), _, ⟨?_, fun i => ?_⟩, HNAT.out.ext ((HX0.out.trans (HWX.out.trans X1.out)).trans hVx), KidsV.nil _ _⟩
      · rw [← hV]; exact Box9.new w1 t.d _ _ _
      · rw [← hV]; simp [go_sem]
    have HG0 := Lib.hid hg0
    have v8 : V.cell? ⟨w.heap.size, 8, none⟩ = some (.slice A t.ks.length c) := hg0.2.2.2.1.2.2.2.2.2.2.2.2
    clear hg0 hV b0 b1 b2 b3 b4 b5 b6 b7 b8
    go_wp2_with fail
    clear v8
    go_loopw [37] (fun iv wr => ∃ k : Nat, k ≤ t.ks.length ∧ iv = .int .i64 k ∧ Hid (Grow w w.heap.size (w.heap.size + 1) w1.heap.size (w1.heap.size + 1) t.d t.d (.slice A0 n0 c0) (.slice A t.ks.length c) (.slice A0 n0 c0) ((t.ks.take k).map (Tr.sub (igt vals))) wr)) (fun iv _ => t.ks.length - (intOf iv).toNat)
    case atStart => exact ⟨0, Nat.zero_le _, rfl, HG0⟩
    case round =>
      obtain ⟨k, hk, rfl, HG⟩ := hrel
      by_cases hlt : k < t.ks.length
      · have hln : ((t.ks.take k).map (Tr.sub (igt vals))).length = k := by rw [List.length_map, List.length_take]; omega
        obtain ⟨AV, cv, hv8, hcv1, hcv2, hnext⟩ := HG.out.step (by omega)
        rw [hln] at hv8 hcv1 hnext
        obtain ⟨⟨-, -, -, -, -, -, -, -, -⟩, hxw, hbs, hbx, -⟩ := HG.out
        obtain ⟨ad, B0, m0, d0, B1, m1, d1, hA, hadb, hnd, hkt⟩ := TrsAt.kid H4.out k hlt
        subst hA
        have hx0 : Ext w0 wr := HX0.out.trans hxw
        obtain ⟨e0, e1, e2, e3, e4, e5, e6, e7, e8⟩ := hnd.ext hx0 (by rw [block_of_add]; exact hadb)
        have b8 : wr.cell? ⟨w.heap.size, 8, none⟩ = some (.slice (some ad) t.ks.length c) := hbx.2.2.2.2.2.2.2.2
        have hsz := HSZ.out k hlt
        have HC : Hid (Calls Tryz.prog 51 #[.agg #[.int .i64 t.ks[k].d.kind, .bool t.ks[k].d.neg, .slice B0 m0 d0, .string t.ks[k].d.name, .int .i64 t.ks[k].d.exp, .int .i64 t.ks[k].d.rel, .bool t.ks[k].d.truth, .bool t.ks[k].d.all, .slice B1 m1 d1], .slice As vals.length cs] wr.drew (RetNew (t.ks[k].sub (igt vals)) wr.drew)) :=
          IH.out t.ks[k] _ wr.drew (by omega) (by omega) hkt hx0.drew
        have HNEXT := Lib.hid hnext
        have HTK : Hid ((t.ks.take (k + 1)).map (Tr.sub (igt vals)) = (t.ks.take k).map (Tr.sub (igt vals)) ++ [t.ks[k].sub (igt vals)]) := by
          have : (t.ks.take (k + 1)).map (Tr.sub (igt vals)) = (t.ks.take k).map (Tr.sub (igt vals)) ++ [t.ks[k].sub (igt vals)] := by rw [List.take_succ_eq_append_getElem hlt, List.map_append]; rfl
          exact this
        clear hnext hxw hbx hx0 hnd hkt hadb hsz hln
        generalize t.ks[k].sub (igt vals) = tk at *
        go_upto_region 10 with fail
        go_region_law (first
          | (go_simp
             go_at_call 51
             refine HC.out.mono ?_
             rintro e w3 ⟨v3, rfl, t3, x3⟩
             have y3 : Ext wr w3 := Ext.trans ((Ext.refl wr).drew) x3
             obtain ⟨C0, j0, f0, C1, f1, rfl, -⟩ := id t3.open_
             obtain ⟨AV', cv', w4, hrun, h8, hf8, hgn⟩ := HNEXT.out w3 _ _ _ 27 y3 t3
             have HGN := Lib.hid hgn
             have g8 : w3.cell? ⟨w1.heap.size, 8, none⟩ = some (.slice AV k cv) := (y3.cell (p := ⟨w1.heap.size, 8, none⟩) (by show w1.heap.size < _; omega)).trans hv8
             have hs3 : w1.heap.size < w3.heap.size := by have := y3.size; omega
             unfold ndV
             clear hgn t3 x3 y3)
          | (refine step_append_run rfl (.tmp 41) (.tmp 49) 27 27 rfl _ _ _ _ (by simp [Act.eval, Act.put]) (by simp [Act.eval, Act.put]) hrun ?_))
        all_goals
          have hgn2 := HGN.out
          rw [← HTK.out] at hgn2
          have HN := Lib.hid hgn2
          clear hgn2 HGN hrun h8 hf8 g8 hs3 HNEXT HC HTK
          go_wp2_with fail
          go_roundw
          case rel => exact ⟨k + 1, by omega, by go_num, HN⟩
          case measure => simp [intOf]; omega
      · have hke : k = t.ks.length := by omega
        subst hke
        have hg := HG.out
        rw [List.take_length] at hg
        obtain ⟨AV, cv, ⟨x0, x1, x2, x3, x4, x5, x6, x7, x8⟩, ⟨⟨r0, r1, r2, r3, r4, r5, r6, r7, r8⟩, rf⟩, hf⟩ := hg.fin
        have hlm : (t.ks.map (Tr.sub (igt vals))).length = t.ks.length := List.length_map _
        rw [hlm] at hf x8
        rw [← HSUB.out] at hf
        have HF := Lib.hid hf
        clear hf hg HG HG0 hlm
        go_wp2_with fail
        exact bodyPost_ret (v := ndV t.d (.slice A0 n0 c0) (.slice AV t.ks.length cv)) (by simp [results, Tryz.results51, go_sem, r0, r1, r2, r3, r4, r5, r6, r7, r8, ndV]) rfl HF.out
theorem repl_any {w : World} {p : Nat → Prop} {L : Nat} {s : Value} {vals : List (ByteArray × Rat)} (hL : 1 ≤ L) (hL2 : L ≤ 1000000) (t : Tr) (v : Value) (hbig : t.sz ≤ 1000000) (h : TrV w p t v) (hvs : VsV w L s vals) : Calls Tryz.prog 51 #[v, s] w (RetNew (t.sub (igt vals)) w) :=
  repl_ih w p L s vals hL hL2 hvs (t.sz + 1) t v w (Nat.lt_succ_self _) hbig h (Ext.refl w)
end Go.Proofs.YtofbfplpbffpfaaGreat

/- Reference 34: SameInt, Same: of equal trees. -/
namespace Go.Proofs.YtofbfplpbffpfaaGreat
open Go.RowKit

set_option maxRecDepth 100000 in
set_option maxHeartbeats 4000000 in
theorem sameInt_eq {w : World} (neg : Bool) (s1 s2 : Value) (ds : List Nat) (h1 : NatV w s1 ds) (h2 : NatV w s2 ds) : Calls Tryz.prog 53 #[.agg #[.bool neg, s1], .agg #[.bool neg, s2]] w fun e w' => e = .returned (.bool true) ∧ Ext w w' := by
  obtain ⟨A, c, rfl, a1, a2, a3⟩ := h1
  obtain ⟨B, d, rfl, b1, b2, b3⟩ := h2
  have H1 := Lib.hid a3
  have H2 := Lib.hid b3
  clear a3 b3
  have hneg : (neg != neg) = false := by simp
  have hneg2 : ((!neg) == neg) = false := by cases neg <;> rfl
  obtain ⟨W, hW⟩ : ∃ W, (w.alloc (.cells #[.bool neg, .slice A ds.length c] 25)).alloc (.cells #[.bool neg, .slice B ds.length d] 25) = W := ⟨_, rfl⟩
  have hWx : Ext w W := by rw [← hW]; exact ((Ext.refl w).alloc _).alloc _
  have q0 : W.cell? ⟨w.heap.size, 0, none⟩ = some (.bool neg) := by rw [← hW]; simp [go_sem]
  have q1 : W.cell? ⟨w.heap.size, 1, none⟩ = some (.slice A ds.length c) := by rw [← hW]; simp [go_sem]
  have q2 : W.cell? ⟨w.heap.size + 1, 0, none⟩ = some (.bool neg) := by rw [← hW]; simp [go_sem]
  have q3 : W.cell? ⟨w.heap.size + 1, 1, none⟩ = some (.slice B ds.length d) := by rw [← hW]; simp [go_sem]
  have HWX := Lib.hid hWx
  clear hWx
  go_enter Tryz.func53, Tryz.ntmps53
  go_wp2_with fail
  clear hW
  go_loopw [23] (fun iv wr => ∃ k n : Nat, k ≤ ds.length ∧ iv = .int .i64 k ∧ wr = W.drewN n) (fun iv _ => ds.length - (intOf iv).toNat)
  case atStart => exact ⟨0, 0, Nat.zero_le _, rfl, rfl⟩
  case round =>
    obtain ⟨k, n, hk, rfl, rfl⟩ := hrel
    by_cases hlt : k < ds.length
    · obtain ⟨ad, rfl, hb, hcell, hd⟩ := (H1.out.ext HWX.out).at_ k hlt
      obtain ⟨ad', rfl, hb', hcell', hd'⟩ := (H2.out.ext HWX.out).at_ k hlt
      generalize ds[k] = x at *
      go_upto_region 6 with fail
      go_quiet (fail)
      go_wp2_with fail
      exact ⟨⟨k + 1, n + nq, by omega, by go_num, rfl⟩, by simp [intOf]; omega⟩
    · go_wp2_with fail
      go_ret
      exact ⟨rfl, HWX.out.drewN n⟩
def SameIH (w0 : World) (p : Nat → Prop) (n : Nat) : Prop := ∀ (t : Tr) (v1 v2 : Value) (w : World), t.sz < n → TrV w0 p t v1 → TrV w0 p t v2 → Ext w0 w → Calls Tryz.prog 20 #[v1, v2] w fun e w' => e = .returned (.bool true) ∧ Ext w w'

set_option maxRecDepth 100000 in
set_option maxHeartbeats 8000000 in
theorem same_ih (w0 : World) (p : Nat → Prop) (n : Nat) : SameIH w0 p n := by
  induction n with
  | zero => intro t v1 v2 w h; omega
  | succ n ih =>
  intro t v1 v2 w hn h1 h2 hx0
  have IH := Lib.hid ih
  have HSZ := Lib.hid (fun k hk => t.kid_sz k hk)
  have HX0 := Lib.hid hx0
  obtain ⟨A0, n0, c0, A, c, rfl, hnat, hl1, hl2, h4⟩ := h1.open_
  obtain ⟨B0, m0, d0, B, d, rfl, hnat', hl1', hl2', h4'⟩ := h2.open_
  have H4 := Lib.hid h4
  have H4' := Lib.hid h4'
  unfold ndV
  obtain ⟨W, hW⟩ : ∃ W, (w.alloc (.cells #[.int .i64 t.d.kind, .bool t.d.neg, .slice A0 n0 c0, .string t.d.name, .int .i64 t.d.exp, .int .i64 t.d.rel, .bool t.d.truth, .bool t.d.all, .slice A t.ks.length c] 29)).alloc (.cells #[.int .i64 t.d.kind, .bool t.d.neg, .slice B0 m0 d0, .string t.d.name, .int .i64 t.d.exp, .int .i64 t.d.rel, .bool t.d.truth, .bool t.d.all, .slice B t.ks.length d] 29) = W := ⟨_, rfl⟩
  have hWx : Ext w W := by rw [← hW]; exact ((Ext.refl w).alloc _).alloc _
  have hWs : W.heap.size = w.heap.size + 1 + 1 := by rw [← hW]; simp
  have hbx : Box9 W w.heap.size t.d (.slice A0 n0 c0) (.slice A t.ks.length c) := by rw [← hW]; exact (Box9.new w t.d _ _ _).ext ((Ext.refl _).alloc _) (by simp)
  have hby : Box9 W (w.heap.size + 1) t.d (.slice B0 m0 d0) (.slice B t.ks.length d) := by
    have := Box9.new (w.alloc (.cells #[.int .i64 t.d.kind, .bool t.d.neg, .slice A0 n0 c0, .string t.d.name, .int .i64 t.d.exp, .int .i64 t.d.rel, .bool t.d.truth, .bool t.d.all, .slice A t.ks.length c] 29)) t.d (.slice B0 m0 d0) (.slice B t.ks.length d) 29
    rw [hW] at this
    simpa using this
  have HSI := Lib.hid (sameInt_eq t.d.neg _ _ t.d.ds (hnat.ext (hx0.trans hWx)) (hnat'.ext (hx0.trans hWx)))
  have HBX := Lib.hid hbx
  have HBY := Lib.hid hby
  have HWX := Lib.hid hWx
  obtain ⟨b0, b1, b2, b3, b4, b5, b6, b7, b8⟩ := hbx
  obtain ⟨y0, y1, y2, y3, y4, y5, y6, y7, y8⟩ := hby
  clear h1 h2 ih h4 h4' hnat hnat' hx0 hWx
  go_enter Tryz.func20, Tryz.ntmps20
  go_wp2_with fail
  clear hW b0 b1 b2 b3 b4 b5 b6 b7 b8 y0 y1 y2 y3 y4 y5 y6 y7 y8
  refine HSI.out.mono ?_
  rintro e w1 ⟨rfl, x1⟩
  have hs1 := x1.size
  have HB1 := Lib.hid (HBX.out.ext x1 (by omega))
  have HB2 := Lib.hid (HBY.out.ext x1 (by omega))
  have b8 := HB1.out.2.2.2.2.2.2.2.2
  have y8 := HB2.out.2.2.2.2.2.2.2.2
  have X1 := Lib.hid (HWX.out.trans x1)
  clear HSI x1 HBX HBY
  go_wp2_with fail
  clear b8 y8
  go_loopw [66] (fun iv wr => ∃ k : Nat, k ≤ t.ks.length ∧ iv = .int .i64 k ∧ Hid (Ext w1 wr)) (fun iv _ => t.ks.length - (intOf iv).toNat)
  case atStart => exact ⟨0, Nat.zero_le _, rfl, Ext.refl w1⟩
  case round =>
    obtain ⟨k, hk, rfl, HX⟩ := hrel
    by_cases hlt : k < t.ks.length
    · have b8 := (HB1.out.ext HX.out (by omega)).2.2.2.2.2.2.2.2
      have y8 := (HB2.out.ext HX.out (by omega)).2.2.2.2.2.2.2.2
      obtain ⟨ad, E0, q0, r0, E1, q1, r1, hA, hadb, hnd, hkt⟩ := TrsAt.kid H4.out k hlt
      obtain ⟨ad', F0, u0, x0, F1, u1, x1, hA', hadb', hnd', hkt'⟩ := TrsAt.kid H4'.out k hlt
      subst hA hA'
      have hx0 : Ext w0 wr := HX0.out.trans (X1.out.trans HX.out)
      obtain ⟨e0, e1, e2, e3, e4, e5, e6, e7, e8⟩ := hnd.ext hx0 (by rw [block_of_add]; exact hadb)
      obtain ⟨f0, f1, f2, f3, f4, f5, f6, f7, f8⟩ := hnd'.ext hx0 (by rw [block_of_add]; exact hadb')
      have hsz := HSZ.out k hlt
      have HC : Hid (Calls Tryz.prog 20 #[.agg #[.int .i64 t.ks[k].d.kind, .bool t.ks[k].d.neg, .slice E0 q0 r0, .string t.ks[k].d.name, .int .i64 t.ks[k].d.exp, .int .i64 t.ks[k].d.rel, .bool t.ks[k].d.truth, .bool t.ks[k].d.all, .slice E1 q1 r1], .agg #[.int .i64 t.ks[k].d.kind, .bool t.ks[k].d.neg, .slice F0 u0 x0, .string t.ks[k].d.name, .int .i64 t.ks[k].d.exp, .int .i64 t.ks[k].d.rel, .bool t.ks[k].d.truth, .bool t.ks[k].d.all, .slice F1 u1 x1]] wr.drew fun e w' => e = .returned (.bool true) ∧ Ext wr.drew w') :=
        IH.out t.ks[k] _ _ wr.drew (by omega) hkt hkt' hx0.drew
      clear hnd hnd' hkt hkt' hadb hadb' hsz hx0
      go_upto_region 6 with fail
      go_region_law (first
        | (go_simp
           go_at_call 20
           refine HC.out.mono ?_
           rintro e w3 ⟨rfl, x3⟩
           have HY3 := Lib.hid (HX.out.trans (Ext.trans ((Ext.refl wr).drew) x3))
           clear x3))
      all_goals
        clear e0 e1 e2 e3 e4 e5 e6 e7 e8 f0 f1 f2 f3 f4 f5 f6 f7 f8 b8 y8 HC
        go_wp2_with fail
        exact ⟨⟨k + 1, by omega, by go_num, HY3⟩, by simp [intOf]; omega⟩
    · go_wp2_with fail
      go_ret
      exact ⟨rfl, X1.out.trans HX.out⟩
theorem sameT_any {w : World} {p q : Nat → Prop} (t : Tr) (v1 v2 : Value) (h1 : TrV w p t v1) (h2 : TrV w q t v2) : Calls Tryz.prog 20 #[v1, v2] w fun e w' => e = .returned (.bool true) ∧ Ext w w' :=
  same_ih w (fun _ => True) (t.sz + 1) t v1 v2 w (Nat.lt_succ_self _) (h1.mono (fun _ _ => trivial)) (h2.mono (fun _ _ => trivial)) (Ext.refl w)
end Go.Proofs.YtofbfplpbffpfaaGreat

/- The plain law of EvaluateSubstitutes: formulas with integers for names, and their trees. -/
namespace Go.Proofs.YtofbfplpbffpfaaGreat
open Go.RowKit

def Tm.subst (g : ByteArray → Option Int) : Tm → Tm
  | .num z => .num z
  | .name s => match g s with
    | some z => .num z
    | none => .name s
  | .add a b => .add (a.subst g) (b.subst g)
  | .sub a b => .sub (a.subst g) (b.subst g)
  | .mul a b => .mul (a.subst g) (b.subst g)
  | .neg a => .neg (a.subst g)
  | .pow a e => .pow (a.subst g) e
def Fm.subst (g : ByteArray → Option Int) : Fm → Fm
  | .truth b => .truth b
  | .atom l r k => .atom (l.subst g) r (k.subst g)
  | .not f => .not (f.subst g)
  | .and f h => .and (f.subst g) (h.subst g)
  | .or f h => .or (f.subst g) (h.subst g)
  | .imp f h => .imp (f.subst g) (h.subst g)
  | .iff f h => .iff (f.subst g) (h.subst g)
  | .quant a s f => .quant a s (f.subst g)
theorem sub_other (g : ByteArray → Option Int) (d : Nd) (ks : List Tr) (h : d.kind ≠ 2) : (Tr.mk d ks).sub g = .mk d (ks.map (Tr.sub g)) := Tr.sub_none (t := .mk d ks) (by rw [if_neg]; exact h)
theorem Tm.plain_subst (g : ByteArray → Option Int) (m : Tm) : (m.subst g).plain = m.plain.sub g := by
  induction m with
  | num z => rw [Tm.subst, Tm.plain, sub_other _ _ _ (by show (1 : Int) ≠ 2; decide)]; rfl
  | name s =>
    cases h : g s with
    | none =>
      have h1 : (Tm.name s).subst g = .name s := by simp [Tm.subst, h]
      rw [h1, Tm.plain, Tr.sub_none (by simp [Tr.d, h])]; rfl
    | some z =>
      have h1 : (Tm.name s).subst g = .num z := by simp [Tm.subst, h]
      rw [h1, Tm.plain, Tm.plain, Tr.sub_some (z := z) (by simp [Tr.d, h])]
  | add a b iha ihb => rw [Tm.subst, Tm.plain, Tm.plain, sub_other _ _ _ (by decide), iha, ihb]; rfl
  | sub a b iha ihb => rw [Tm.subst, Tm.plain, Tm.plain, sub_other _ _ _ (by decide), iha, ihb]; rfl
  | mul a b iha ihb => rw [Tm.subst, Tm.plain, Tm.plain, sub_other _ _ _ (by decide), iha, ihb]; rfl
  | neg a iha => rw [Tm.subst, Tm.plain, Tm.plain, sub_other _ _ _ (by decide), iha]; rfl
  | pow a e iha => rw [Tm.subst, Tm.plain, Tm.plain, sub_other _ _ _ (by show (7 : Int) ≠ 2; decide), iha]; rfl
theorem Fm.plain_subst (g : ByteArray → Option Int) (f : Fm) : (f.subst g).plain = f.plain.sub g := by
  induction f with
  | truth b => rw [Fm.subst, Fm.plain, sub_other _ _ _ (by show (8 : Int) ≠ 2; decide)]; rfl
  | atom l r k => rw [Fm.subst, Fm.plain, Fm.plain, sub_other _ _ _ (by show (9 : Int) ≠ 2; decide), Tm.plain_subst, Tm.plain_subst]; rfl
  | not f ih => rw [Fm.subst, Fm.plain, Fm.plain, sub_other _ _ _ (by decide), ih]; rfl
  | and f h ihf ihh => rw [Fm.subst, Fm.plain, Fm.plain, sub_other _ _ _ (by decide), ihf, ihh]; rfl
  | or f h ihf ihh => rw [Fm.subst, Fm.plain, Fm.plain, sub_other _ _ _ (by decide), ihf, ihh]; rfl
  | imp f h ihf ihh => rw [Fm.subst, Fm.plain, Fm.plain, sub_other _ _ _ (by decide), ihf, ihh]; rfl
  | iff f h ihf ihh => rw [Fm.subst, Fm.plain, Fm.plain, sub_other _ _ _ (by decide), ihf, ihh]; rfl
  | quant a s f ih => rw [Fm.subst, Fm.plain, Fm.plain, sub_other _ _ _ (by show (15 : Int) ≠ 2; decide), ih]; rfl
theorem TmV.subTm {w : World} {L : Nat} {g : ByteArray → Option Int} (hg : ∀ s z, g s = some z → (dg z.natAbs).length ≤ L) {t : Tm} {v : Value} (h : TmV w L t v) : IsTm L (t.norm.subst g) (t.plain.sub g) := by
  rw [← Tm.plain_subst]
  induction t generalizing v with
  | num z =>
    obtain ⟨x, e, h⟩ := h
    exact ⟨rfl, rfl, by show z = sgn (decide (z < 0)) (val (dg z.natAbs)); rw [val_dg, sgn_self], h.len⟩
  | name s =>
    cases hs : g s with
    | none =>
      have h1 : (Tm.name s).subst g = .name s := by simp [Tm.subst, hs]
      rw [Tm.norm, h1]; exact ⟨rfl, rfl, rfl⟩
    | some z =>
      have h1 : (Tm.name s).subst g = .num z := by simp [Tm.subst, hs]
      rw [Tm.norm, h1]; exact ⟨rfl, rfl, by show z = sgn (decide (z < 0)) (val (dg z.natAbs)); rw [val_dg, sgn_self], hg s z hs⟩
  | add a b iha ihb => obtain ⟨x, y, e, h, k⟩ := h; exact ⟨rfl, _, _, rfl, iha h, ihb k⟩
  | sub a b iha ihb => obtain ⟨x, y, e, h, k⟩ := h; exact ⟨rfl, _, _, rfl, iha h, ihb k⟩
  | mul a b iha ihb => obtain ⟨x, y, e, h, k⟩ := h; exact ⟨rfl, _, _, rfl, iha h, ihb k⟩
  | neg a iha => obtain ⟨x, e, h⟩ := h; exact ⟨rfl, _, rfl, iha h⟩
  | pow a n iha => obtain ⟨x, e, h⟩ := h; exact ⟨rfl, rfl, by unfold maxI; split <;> omega, _, rfl, iha h⟩
theorem FmV.subFm {w : World} {L : Nat} {g : ByteArray → Option Int} (hg : ∀ s z, g s = some z → (dg z.natAbs).length ≤ L) {t : Fm} {v : Value} (h : FmV w L t v) : IsFm L (t.norm.subst g) (t.plain.sub g) := by
  have tm : ∀ {m : Tm} {x : Value}, TmV w L m x → IsTm L (m.norm.subst g) (m.subst g).plain := fun {m x} h => by rw [Tm.plain_subst]; exact TmV.subTm hg h
  rw [← Fm.plain_subst]
  induction t generalizing v with
  | truth b => exact ⟨rfl, rfl, rfl⟩
  | atom l r k => obtain ⟨x, y, e, h, k⟩ := h; exact ⟨rfl, rfl, by unfold relN; split <;> omega, by unfold relN; split <;> omega, _, _, rfl, tm h, tm k⟩
  | not f ihf => obtain ⟨x, e, h⟩ := h; exact ⟨rfl, _, rfl, ihf h⟩
  | and f g ihf ihg => obtain ⟨x, y, e, h, k⟩ := h; exact ⟨rfl, _, _, rfl, ihf h, ihg k⟩
  | or f g ihf ihg => obtain ⟨x, y, e, h, k⟩ := h; exact ⟨rfl, _, _, rfl, ihf h, ihg k⟩
  | imp f g ihf ihg => obtain ⟨x, y, e, h, k⟩ := h; exact ⟨rfl, _, _, rfl, ihf h, ihg k⟩
  | iff f g ihf ihg => obtain ⟨x, y, e, h, k⟩ := h; exact ⟨rfl, _, _, rfl, ihf h, ihg k⟩
  | quant a s f ihf => obtain ⟨x, e, h⟩ := h; exact ⟨rfl, rfl, rfl, _, rfl, ihf h⟩
theorem canon_tm (L : Nat) (m : Tm) : ∀ t, IsTm L m t → t.canon = m.plain := by
  induction m with
  | num z =>
    rintro t ⟨hk, hz, hv, -⟩
    rw [Tr.canon_eq, hz, Tm.plain]
    unfold Nd.canon
    rw [if_pos hk, ← hv]; rfl
  | name s =>
    rintro t ⟨hk, hz, hv⟩
    rw [Tr.canon_eq, hz, Tm.plain]
    unfold Nd.canon
    rw [if_neg (by omega), if_pos hk, hv]; rfl
  | add a b iha ihb =>
    rintro t ⟨hk, x, y, e, hx, hy⟩
    rw [Tr.canon_eq, e, Tm.plain, List.map_cons, List.map_cons, iha x hx, ihb y hy]
    unfold Nd.canon
    rw [hk]; rfl
  | sub a b iha ihb =>
    rintro t ⟨hk, x, y, e, hx, hy⟩
    rw [Tr.canon_eq, e, Tm.plain, List.map_cons, List.map_cons, iha x hx, ihb y hy]
    unfold Nd.canon
    rw [hk]; rfl
  | mul a b iha ihb =>
    rintro t ⟨hk, x, y, e, hx, hy⟩
    rw [Tr.canon_eq, e, Tm.plain, List.map_cons, List.map_cons, iha x hx, ihb y hy]
    unfold Nd.canon
    rw [hk]; rfl
  | neg a iha =>
    rintro t ⟨hk, x, e, hx⟩
    rw [Tr.canon_eq, e, Tm.plain, List.map_cons, iha x hx]
    unfold Nd.canon
    rw [hk]; rfl
  | pow a n iha =>
    rintro t ⟨hk, he, hn, x, e, hx⟩
    rw [Tr.canon_eq, e, Tm.plain, List.map_cons, iha x hx]
    have : maxI n 0 = n := by unfold maxI; split <;> omega
    unfold Nd.canon
    rw [if_neg (by omega), if_neg (by omega), if_pos hk, this, he]; rfl
theorem canon_fm (L : Nat) (f : Fm) : ∀ t, IsFm L f t → t.canon = f.plain := by
  induction f with
  | truth b =>
    rintro t ⟨hk, hz, hb⟩
    rw [Tr.canon_eq, hz, Fm.plain]
    unfold Nd.canon
    rw [if_neg (by omega), if_neg (by omega), if_neg (by omega), if_pos hk, hb]; rfl
  | atom l r k =>
    rintro t ⟨hk, hr, h1, h2, x, y, e, hx, hy⟩
    rw [Tr.canon_eq, e, Fm.plain, List.map_cons, List.map_cons, canon_tm L l x hx, canon_tm L k y hy]
    have : relN r = r := by unfold relN; rw [if_neg (by omega)]
    unfold Nd.canon
    rw [if_neg (by omega), if_neg (by omega), if_neg (by omega), if_neg (by omega), if_pos hk, this, hr]; rfl
  | not f ih =>
    rintro t ⟨hk, x, e, hx⟩
    rw [Tr.canon_eq, e, Fm.plain, List.map_cons, ih x hx]
    unfold Nd.canon
    rw [hk]; rfl
  | and f h ihf ihh =>
    rintro t ⟨hk, x, y, e, hx, hy⟩
    rw [Tr.canon_eq, e, Fm.plain, List.map_cons, List.map_cons, ihf x hx, ihh y hy]
    unfold Nd.canon
    rw [hk]; rfl
  | or f h ihf ihh =>
    rintro t ⟨hk, x, y, e, hx, hy⟩
    rw [Tr.canon_eq, e, Fm.plain, List.map_cons, List.map_cons, ihf x hx, ihh y hy]
    unfold Nd.canon
    rw [hk]; rfl
  | imp f h ihf ihh =>
    rintro t ⟨hk, x, y, e, hx, hy⟩
    rw [Tr.canon_eq, e, Fm.plain, List.map_cons, List.map_cons, ihf x hx, ihh y hy]
    unfold Nd.canon
    rw [hk]; rfl
  | iff f h ihf ihh =>
    rintro t ⟨hk, x, y, e, hx, hy⟩
    rw [Tr.canon_eq, e, Fm.plain, List.map_cons, List.map_cons, ihf x hx, ihh y hy]
    unfold Nd.canon
    rw [hk]; rfl
  | quant a s f ih =>
    rintro t ⟨hk, ha, hs, x, e, hx⟩
    rw [Tr.canon_eq, e, Fm.plain, List.map_cons, ih x hx]
    unfold Nd.canon
    rw [if_neg (by omega), if_neg (by omega), if_neg (by omega), if_neg (by omega), if_neg (by omega), if_pos hk, ha, hs]; rfl

/-- The value at j may stand for its name. -/
def okAt (bd : List ByteArray) (l : List (ByteArray × Rat)) (j : Nat) (hj : j < l.length) : Prop := validB l[j].1 = true ∧ Nowhere l l[j].1 j ∧ hasB bd l[j].1 = false
open Classical in
/-- The error of a substitution. -/
noncomputable def subErr (bd : List ByteArray) (l : List (ByteArray × Rat)) : Int :=
  if ∀ j (hj : j < l.length), okAt bd l j hj then (if ∀ j (hj : j < l.length), l[j].2.den = 1 then 0 else 1) else 7
theorem subErr_bad {bd : List ByteArray} {l : List (ByteArray × Rat)} (j : Nat) (hj : j < l.length) (h : ¬ okAt bd l j hj) : subErr bd l = 7 := by
  unfold subErr; rw [if_neg (fun hh => h (hh j hj))]
theorem subErr_part {bd : List ByteArray} {l : List (ByteArray × Rat)} (h : ∀ j (hj : j < l.length), okAt bd l j hj) (j : Nat) (hj : j < l.length) (hd : l[j].2.den ≠ 1) : subErr bd l = 1 := by
  unfold subErr; rw [if_pos h, if_neg (fun hh => hd (hh j hj))]
theorem subErr_ok {bd : List ByteArray} {l : List (ByteArray × Rat)} (h : ∀ j (hj : j < l.length), okAt bd l j hj) (hd : ∀ j (hj : j < l.length), l[j].2.den = 1) : subErr bd l = 0 := by
  unfold subErr; rw [if_pos h, if_pos hd]
theorem vget_nowhere {l : List (ByteArray × Rat)} {s : ByteArray} {k : Nat} (hk : k ≤ l.length) : vget (l.take k) s = none ↔ Nowhere l s k := by
  induction k with
  | zero => simp [vget, Nowhere]
  | succ k ih =>
    have hlt : k < l.length := by omega
    rw [List.take_succ_eq_append_getElem hlt]
    rcases hlk : l[k] with ⟨nm, q⟩
    rw [vget_snoc]
    constructor
    · intro h
      rw [Option.or_eq_none_iff] at h
      intro j hj hjk
      by_cases he : j < k
      · exact (ih (by omega)).1 h.1 j hj he
      · obtain rfl : j = k := by omega
        rw [hlk]
        intro e
        have h2 := h.2
        rw [if_pos (by exact e.symm)] at h2; cases h2
    · intro h
      rw [(ih (by omega)).2 (fun j hj hjk => h j hj (by omega))]
      have hne := h k hlt (by omega)
      rw [hlk] at hne
      have : ¬ s = nm := fun e => hne e.symm
      simp [this]
theorem findI_nowhere {l : List (ByteArray × Rat)} {k : Nat} (hk : k < l.length) : findI l l[k].1 = k ↔ Nowhere l l[k].1 k := by
  constructor
  · intro h j hj hjk e
    -- the first place of the name is at most j
    have hmin : ∃ i, i ≤ j ∧ ∃ hi : i < l.length, l[i].1 = l[k].1 ∧ Nowhere l l[k].1 i := by
      induction j using Nat.strongRecOn with
      | ind j ih =>
        by_cases hn : Nowhere l l[k].1 j
        · exact ⟨j, Nat.le_refl _, hj, e, hn⟩
        · unfold Nowhere at hn
          simp only [Classical.not_forall, Classical.not_not] at hn
          obtain ⟨i, hi, hij, e'⟩ := hn
          obtain ⟨i', h1, h2⟩ := ih i hij hi (by omega) e'
          exact ⟨i', by omega, h2⟩
    obtain ⟨i, hij, hi, e', hn⟩ := hmin
    have := findI_at l l[k].1 i hi hn e'
    omega
  · intro h; exact findI_at l l[k].1 k hk h rfl
end Go.Proofs.YtofbfplpbffpfaaGreat

/- Reference 40: Substitute. -/
namespace Go.Proofs.YtofbfplpbffpfaaGreat
open Go.RowKit

/-- A tree and an error. -/
def RetSubst (t' : Tr) (en : Int) (w : World) (e : Ending) (w' : World) : Prop := ∃ v, e = .returned (.tuple #[v, .int .i64 en]) ∧ (∃ t'', TrV w' (fun _ => True) t'' v ∧ (en = 0 → t'' = t')) ∧ Ext w w'
theorem ret_zero {w V : World} {t' : Tr} {en E : Int} (hE : E = en) (hx : Ext w V) (hz : Zero9 V (w.heap.size + 1)) (hne : en ≠ 0) : RetSubst t' E w (.returned (.tuple #[ndV nd0 (.slice none 0 0) (.slice none 0 0), .int .i64 en])) (set9 V (w.heap.size + 1) (.int .i64 0) (.bool false) (.slice none 0 0) (.string ⟨#[]⟩) (.int .i64 0) (.int .i64 0) (.bool false) (.bool false) (.slice none 0 0)) := by
  subst hE
  exact ⟨_, rfl, ⟨.mk nd0 [], TrV.mk (t := .mk nd0 []) (A := none) (c := 0) (NatV.nil _) (Nat.le_refl _) (by omega) (by unfold Tr.ks TrsAt; trivial), fun h => absurd h hne⟩, set9_ext hx (by omega) _ _ _ _ _ _ _ _ _⟩

set_option maxRecDepth 100000 in
set_option maxHeartbeats 8000000 in
theorem refSubst_any {w : World} {p : Nat → Prop} {L : Nat} {s : Value} {vals : List (ByteArray × Rat)} (hL : 1 ≤ L) (hL2 : L ≤ 1000000) (t : Tr) (v : Value) (hbig : t.sz ≤ 1000000) (hnt : termK t.d.kind = false) (h : TrV w p t v) (hds : ∀ x ∈ t.list, x.d.ds.length ≤ 1000) (hcs : t.canon.sz ≤ 1000000) (hvs : VsV w L s vals) :
    Calls Tryz.prog 19 #[v, s] w (RetSubst (t.canon.sub (igt vals)) (subErr t.bnd vals) w) := by
  have HT := Lib.hid h
  have HVS := Lib.hid hvs
  have HDS := Lib.hid hds
  obtain ⟨As, cs, rfl, hs1, hs2, -⟩ := hvs
  obtain ⟨A0, n0, c0, A, c, rfl, -, hl1, hl2, -⟩ := h.open_
  clear h hds
  unfold ndV
  unfold ndV at HT
  obtain ⟨W, hW⟩ : ∃ W, (w.alloc (.cells #[.int .i64 t.d.kind, .bool t.d.neg, .slice A0 n0 c0, .string t.d.name, .int .i64 t.d.exp, .int .i64 t.d.rel, .bool t.d.truth, .bool t.d.all, .slice A t.ks.length c] 29)).alloc (.cells #[.int .i64 0, .bool false, .slice none 0 0, .string ⟨#[]⟩, .int .i64 0, .int .i64 0, .bool false, .bool false, .slice none 0 0] 29) = W := ⟨_, rfl⟩
  have hWx : Ext w W := by rw [← hW]; exact ((Ext.refl w).alloc _).alloc _
  have hWs : W.heap.size = w.heap.size + 1 + 1 := by rw [← hW]; simp
  have hbx : Box9 W w.heap.size t.d (.slice A0 n0 c0) (.slice A t.ks.length c) := by rw [← hW]; exact (Box9.new w t.d _ _ _).ext ((Ext.refl _).alloc _) (by simp)
  have hz : Zero9 W (w.heap.size + 1) := by
    have := zero9_new (w.alloc (.cells #[.int .i64 t.d.kind, .bool t.d.neg, .slice A0 n0 c0, .string t.d.name, .int .i64 t.d.exp, .int .i64 t.d.rel, .bool t.d.truth, .bool t.d.all, .slice A t.ks.length c] 29)) 29
    rw [hW] at this
    simpa using this
  have HBO := Lib.hid (refBound_any t _ (HT.out.ext hWx) hbig hnt)
  obtain ⟨b0, b1, b2, b3, b4, b5, b6, b7, b8⟩ := id hbx
  have HBX := Lib.hid hbx
  have HZ := Lib.hid hz
  have HWX := Lib.hid hWx
  clear hbx hz hWx hnt
  go_enter Tryz.func19, Tryz.ntmps19
  go_wp2_with fail
  clear hW b0 b1 b2 b3 b4 b5 b6 b7 b8
  refine HBO.out.mono ?_
  rintro e w1 ⟨bv, rfl, r1, x1⟩
  have HSL := Lib.hid r1.slr
  obtain ⟨BA, bc, rfl⟩ := r1.slr.len
  have hz1 := x1.size
  have X1 := Lib.hid x1
  generalize hbd : t.bnd = bd at *
  have hbl : True := trivial
  clear hbd r1 x1 HBO
  go_wp2_with fail
  go_loopw [15] (fun iv wr => ∃ k : Nat, k ≤ vals.length ∧ iv = .int .i64 k ∧ Hid ((∀ j (hj : j < vals.length), j < k → okAt bd vals j hj) ∧ Ext w1 wr)) (fun iv _ => vals.length - (intOf iv).toNat)
  case atStart => exact ⟨0, Nat.zero_le _, rfl, ⟨fun j hj h0 => absurd h0 (by omega), Ext.refl w1⟩⟩
  case round =>
    obtain ⟨k, hk, rfl, HOK⟩ := hrel
    have HX := Lib.hid HOK.out.2
    have hszr := HX.out.size
    by_cases hlt : k < vals.length
    · obtain ⟨A', c', e', -, -, h3⟩ := HVS.out.ext (HWX.out.trans (X1.out.trans HX.out))
      injection e' with e1 e2 e3
      obtain ⟨ad, bb, A1, n1, c1, A2, n2, c2, e4, hb, ⟨a0, a1, a2, a3⟩, hr⟩ := h3 k hlt
      obtain rfl : As = some ad := e1.trans e4
      have HBAD : Hid (¬ okAt bd vals k hlt → subErr bd vals = 7) := by
        intro h; exact subErr_bad k hlt h
      have HGOOD : Hid (okAt bd vals k hlt → ∀ j (hj : j < vals.length), j < k + 1 → okAt bd vals j hj) := by
        intro h j hj hjk
        by_cases he : j = k
        · subst he; exact h
        · exact HOK.out.1 j hj (by omega)
      have HFN := Lib.hid (findI_nowhere hlt)
      have HOKD : Hid (okAt bd vals k hlt ↔ validB vals[k].1 = true ∧ Nowhere vals vals[k].1 k ∧ hasB bd vals[k].1 = false) := Iff.rfl
      clear h3 e1 e3 e4 hr a1 a2 a3 HOK
      generalize hok : okAt bd vals k hlt = ok at *
      generalize hnw : Nowhere vals vals[k].1 k = nw at *
      generalize vals[k].1 = nm at *
      clear hok hnw
      have VS := Lib.hid (HVS.out.ext (HWX.out.trans (X1.out.trans HX.out)))
      go_wp2_with fail
      refine (refValid_any nm wr).mono ?_
      rintro e w2 ⟨rfl, x2⟩
      have hs2x := x2.size
      have HX2 := Lib.hid (HX.out.trans x2)
      have a0' : w2.cell? (ad.add (k * 4)) = some (.string nm) := (x2.cell (p := ad.add (k * 4)) (by rw [block_of_add]; exact hb)).trans a0
      cases hvb : validB nm with
      | false =>
        have hne : ¬ ok := fun h => by have := (HOKD.out.1 h).1; rw [hvb] at this; cases this
        have hzr := HZ.out.ext (X1.out.trans HX2.out) (by omega)
        obtain ⟨⟨r0, r1, r2, r3, r4, r5, r6, r7, r8⟩, rf⟩ := id hzr
        have HF := Lib.hid (ret_zero (t' := t.canon.sub (igt vals)) (en := 7) (E := subErr bd vals) (HBAD.out hne) (HWX.out.trans (X1.out.trans HX2.out)) hzr (by omega))
        clear hzr hne HBAD HGOOD HOKD HFN x2
        go_wp2_with fail
        exact bodyPost_ret (v := .tuple #[ndV nd0 (.slice none 0 0) (.slice none 0 0), .int .i64 7]) (by simp [results, Tryz.results19, go_sem, r0, r1, r2, r3, r4, r5, r6, r7, r8, ndV, nd0]) rfl HF.out
      | true =>
        have HFI := Lib.hid (find_any (VS.out.ext x2) nm)
        clear x2
        go_wp2_with fail
        refine HFI.out.mono ?_
        rintro e w3 ⟨rfl, x3⟩
        have hs3x := x3.size
        have HX3 := Lib.hid (HX2.out.trans x3)
        by_cases hfk : findI vals nm = k
        · have hnw : nw := HFN.out.1 hfk
          have dfk : ((findI vals nm == (k : Int))) = true := by simpa using hfk
          have dfk2 : ((findI vals nm != (k : Int))) = false := by simp [hfk]
          have a0'' : w3.cell? (ad.add (k * 4)) = some (.string nm) := (x3.cell (p := ad.add (k * 4)) (by rw [block_of_add]; omega)).trans a0'
          have HHAS := Lib.hid (has_any (SlR.ext HSL.out (fun _ _ h => h) HX3.out) nm)
          rw [hfk]
          clear x3 hfk HFI HFN
          go_wp2_with fail
          refine HHAS.out.mono ?_
          rintro e w4 ⟨rfl, x4⟩
          have hs4x := x4.size
          have HX4 := Lib.hid (HX3.out.trans x4)
          cases hhb : hasB bd nm with
          | true =>
            have hne : ¬ ok := fun h => by have := (HOKD.out.1 h).2.2; rw [hhb] at this; cases this
            have hzr := HZ.out.ext (X1.out.trans HX4.out) (by omega)
            obtain ⟨⟨r0, r1, r2, r3, r4, r5, r6, r7, r8⟩, rf⟩ := id hzr
            have HF := Lib.hid (ret_zero (t' := t.canon.sub (igt vals)) (en := 7) (E := subErr bd vals) (HBAD.out hne) (HWX.out.trans (X1.out.trans HX4.out)) hzr (by omega))
            clear hzr hne HBAD HGOOD HOKD x4 HHAS
            go_wp2_with fail
            exact bodyPost_ret (v := .tuple #[ndV nd0 (.slice none 0 0) (.slice none 0 0), .int .i64 7]) (by simp [results, Tryz.results19, go_sem, r0, r1, r2, r3, r4, r5, r6, r7, r8, ndV, nd0]) rfl HF.out
          | false =>
            have HN := Lib.hid (HGOOD.out (HOKD.out.2 ⟨hvb, hnw, hhb⟩))
            clear HBAD HGOOD HOKD x4 HHAS a0 a0' a0'' dfk dfk2
            go_wp2_with fail
            exact ⟨⟨k + 1, by omega, by go_num, HN.out, HX4.out⟩, by simp [intOf]; omega⟩
        · have hne : ¬ ok := fun h => hfk (HFN.out.2 (HOKD.out.1 h).2.1)
          have dfk : ((findI vals nm == (k : Int))) = false := by simpa using hfk
          have dfk2 : ((findI vals nm != (k : Int))) = true := by simp [hfk]
          generalize findI vals nm = fi at *
          have hzr := HZ.out.ext (X1.out.trans HX3.out) (by omega)
          obtain ⟨⟨r0, r1, r2, r3, r4, r5, r6, r7, r8⟩, rf⟩ := id hzr
          have HF := Lib.hid (ret_zero (t' := t.canon.sub (igt vals)) (en := 7) (E := subErr bd vals) (HBAD.out hne) (HWX.out.trans (X1.out.trans HX3.out)) hzr (by omega))
          clear hzr hne HBAD HGOOD HOKD HFN x3 HFI hfk
          go_wp2_with fail
          exact bodyPost_ret (v := .tuple #[ndV nd0 (.slice none 0 0) (.slice none 0 0), .int .i64 7]) (by simp [results, Tryz.results19, go_sem, r0, r1, r2, r3, r4, r5, r6, r7, r8, ndV, nd0]) rfl HF.out
    · have HALL : Hid (∀ j (hj : j < vals.length), okAt bd vals j hj) := by
        intro j hj; exact HOK.out.1 j hj (by omega)
      have HXW := Lib.hid (X1.out.trans HOK.out.2)
      clear HOK HX
      go_wp2_with fail
      go_loopw [49] (fun iv wr' => ∃ k : Nat, k ≤ vals.length ∧ iv = .int .i64 k ∧ Hid ((∀ j (hj : j < vals.length), j < k → vals[j].2.den = 1) ∧ Ext W wr')) (fun iv _ => vals.length - (intOf iv).toNat)
      case atStart => exact ⟨0, Nat.zero_le _, rfl, ⟨fun j hj h0 => absurd h0 (by omega), HXW.out⟩⟩
      case round =>
        obtain ⟨m, hm, rfl, HDE⟩ := hrel
        have HX5 := Lib.hid HDE.out.2
        have hs5 := HX5.out.size
        by_cases hlt2 : m < vals.length
        · obtain ⟨A', c', e', -, -, h3⟩ := HVS.out.ext (HWX.out.trans HX5.out)
          injection e' with e1 e2 e3
          obtain ⟨ad, bb, A1, n1, c1, A2, n2, c2, e4, hb, ⟨a0, a1, a2, a3⟩, hr⟩ := h3 m hlt2
          obtain rfl : As = some ad := e1.trans e4
          have HIN := Lib.hid (integer_rat _ _ L _ hr hL (by omega))
          have HBAD : Hid (vals[m].2.den ≠ 1 → subErr bd vals = 1) := by
            intro h; exact subErr_part HALL.out m hlt2 h
          have HGOOD : Hid (vals[m].2.den = 1 → ∀ j (hj : j < vals.length), j < m + 1 → vals[j].2.den = 1) := by
            intro h j hj hjk
            by_cases he : j = m
            · subst he; exact h
            · exact HDE.out.1 j hj (by omega)
          clear h3 e1 e3 e4 hr HDE
          generalize vals[m].2 = q at *
          go_wp2_with fail
          refine HIN.out.mono ?_
          rintro e w6 ⟨x6, rfl, i6, y6⟩
          generalize (if q.den = 1 then q.num else 0) = z at *
          obtain ⟨v6, rfl, hn6⟩ := i6
          obtain ⟨A6, c6, rfl, -⟩ := hn6
          have HX6 := Lib.hid ((HX5.out.trans y6).alloc (.cells #[.bool (decide (z < 0)), .slice A6 (dg z.natAbs).length c6] 25))
          have hs6 := y6.size
          clear y6 HIN a0 a1 a2 a3
          by_cases hq : q.den = 1
          · have HN := Lib.hid (HGOOD.out hq)
            have dq : decide (q.den = 1) = true := by simpa using hq
            rw [dq]
            clear HGOOD HBAD hq dq
            go_wp2_with fail
            exact ⟨⟨m + 1, by omega, by go_num, HN.out, HX6.out⟩, by simp [intOf]; omega⟩
          · have dq : decide (q.den = 1) = false := by simpa using hq
            rw [dq]
            generalize hV : w6.alloc (.cells #[.bool (decide (z < 0)), .slice A6 (dg z.natAbs).length c6] 25) = V at *
            have hzr := HZ.out.ext HX6.out (by omega)
            obtain ⟨⟨r0, r1, r2, r3, r4, r5, r6, r7, r8⟩, rf⟩ := id hzr
            have HF := Lib.hid (ret_zero (t' := t.canon.sub (igt vals)) (en := 1) (E := subErr bd vals) (HBAD.out hq) (HWX.out.trans HX6.out) hzr (by omega))
            clear hzr HGOOD HBAD hq dq
            go_wp2_with fail
            exact bodyPost_ret (v := .tuple #[ndV nd0 (.slice none 0 0) (.slice none 0 0), .int .i64 1]) (by simp [results, Tryz.results19, go_sem, r0, r1, r2, r3, r4, r5, r6, r7, r8, ndV, nd0]) rfl HF.out
        · have HE : Hid (subErr bd vals = 0) := by
            have : subErr bd vals = 0 := subErr_ok HALL.out (fun j hj => HDE.out.1 j hj (by omega))
            exact this
          obtain ⟨b0, b1, b2, b3, b4, b5, b6, b7, b8⟩ := HBX.out.ext HX5.out (by omega)
          have HCA := Lib.hid (canon_any t _ hbig (HT.out.ext (HWX.out.trans HX5.out)) HDS.out)
          clear HDE
          go_wp2_with fail
          clear b0 b1 b2 b3 b4 b5 b6 b7 b8
          refine HCA.out.mono ?_
          rintro e w6 ⟨v6, rfl, t6, x6⟩
          have HRE := Lib.hid (repl_any hL hL2 t.canon _ hcs t6 ((HVS.out.ext (HWX.out.trans HX5.out)).ext x6))
          obtain ⟨C0, j0, f0, C1, f1, rfl, -⟩ := t6.open_
          unfold ndV
          unfold ndV at HRE
          have HX6 := Lib.hid (HX5.out.trans x6)
          have hs6 := x6.size
          clear t6 x6 HCA
          go_wp2_with fail
          refine HRE.out.mono ?_
          rintro e w7 ⟨v7, rfl, t7, x7⟩
          have hs7 := x7.size
          have T7 := Lib.hid t7
          obtain ⟨D0, i0, g0, D1, g1, rfl, -⟩ := t7.open_
          have hzr := HZ.out.ext (HX6.out.trans x7) (by omega)
          obtain ⟨⟨r0, r1, r2, r3, r4, r5, r6, r7, r8⟩, rf⟩ := id hzr
          unfold ndV
          unfold ndV at T7
          have HF : Hid (RetSubst (t.canon.sub (igt vals)) (subErr bd vals) w (.returned (.tuple #[ndV (t.canon.sub (igt vals)).d (.slice D0 i0 g0) (.slice D1 (t.canon.sub (igt vals)).ks.length g1), .int .i64 0])) (set9 w7 (w.heap.size + 1) (.int .i64 (t.canon.sub (igt vals)).d.kind) (.bool (t.canon.sub (igt vals)).d.neg) (.slice D0 i0 g0) (.string (t.canon.sub (igt vals)).d.name) (.int .i64 (t.canon.sub (igt vals)).d.exp) (.int .i64 (t.canon.sub (igt vals)).d.rel) (.bool (t.canon.sub (igt vals)).d.truth) (.bool (t.canon.sub (igt vals)).d.all) (.slice D1 (t.canon.sub (igt vals)).ks.length g1))) := by
            rw [HE.out]
            refine ⟨_, rfl, ⟨t.canon.sub (igt vals), ?_, fun _ => rfl⟩, set9_ext (HWX.out.trans (HX6.out.trans x7)) (by omega) _ _ _ _ _ _ _ _ _⟩
            exact TrV.turn_ (by rw [set9_size]; exact Nat.le_refl _) (fun v ds hv => natV_set9 hzr hv) (fun b hb hp => ⟨trivial, by rw [set9_cells]; exact block_setCells (by omega) _ _ _⟩) T7.out
          generalize t.canon.sub (igt vals) = ts at *
          clear hzr T7 t7 x7 HRE
          go_wp2_with fail
          exact bodyPost_ret (v := .tuple #[ndV ts.d (.slice D0 i0 g0) (.slice D1 ts.ks.length g1), .int .i64 0]) (by simp [results, Tryz.results19, go_sem, r0, r1, r2, r3, r4, r5, r6, r7, r8, ndV]) rfl HF.out
end Go.Proofs.YtofbfplpbffpfaaGreat

/- Layer 40: evaluate.Substitute. -/
namespace Go.Proofs.YtofbfplpbffpfaaGreat
open Go.RowKit

theorem NatV.map {w w' : World} {b : Nat} {x : Value} {ds : List Nat} {l : List (ByteArray × Value)} (h : NatV w x ds) (hm : SMap w b l) (ho : Only b w w') : NatV w' x ds := by
  obtain ⟨es, k, hb, -⟩ := hm
  obtain ⟨A1, c1, e1, a1, a2, a3⟩ := h
  exact ⟨A1, c1, e1, a1, a2, a3.isCells ho.size hb (fun i hi hne => ho.block hi hne)⟩
theorem NMap.put {w : World} {b : Nat} {g : ByteArray → Option Int} (h : NMap w b g) (s : ByteArray) {z : Int} {A : Option Addr} {n c : Nat} (hz : NatV w (.slice A n c) (dg z.natAbs)) :
    ∃ w', (Instr.mapUpdate 104 (.map (some b)) (.string s) (.agg #[.bool (decide (z < 0)), .slice A n c])).run Tryz.prog w = .ok () w' ∧ NMap w' b (fun t => if t = s then some z else g t) ∧ Only b w w' := by
  obtain ⟨l, h1, h2⟩ := h
  obtain ⟨w', hput, h3, ho⟩ := h1.put (P := Tryz.prog) Tryz.underlying104 Tryz.underlying9 s (.agg #[.bool (decide (z < 0)), .slice A n c])
  refine ⟨w', hput, ⟨_, h3, fun t => ?_⟩, ho⟩
  rw [mget_mput]
  by_cases ht : t = s
  · simp only [ht, if_true]
    exact .inr ⟨z, A, n, c, rfl, rfl, hz.map h1 ho⟩
  · simp only [ht, if_false]
    rcases h2 t with h | ⟨z', A', n', c', e1, e2, e3⟩
    · exact .inl h
    · exact .inr ⟨z', A', n', c', e1, e2, e3.map h1 ho⟩
/-- The formula, or nothing and an error. -/
def RetSubF (L : Nat) (f' : Fm) (en : Int) (w : World) (e : Ending) (w' : World) : Prop := ∃ v, e = .returned (.tuple #[v, .int .i64 en]) ∧ ((en = 0 ∧ FmV w' L f' v) ∨ (en ≠ 0 ∧ v = .nilIface)) ∧ Ext w w'
theorem ret_nil {L : Nat} {f' : Fm} {E en : Int} {w w' : World} (hE : E = en) (hne : en ≠ 0) (hx : Ext w w') : RetSubF L f' E w (.returned (.tuple #[.nilIface, .int .i64 en])) w' := by
  subst hE; exact ⟨_, rfl, .inr ⟨hne, rfl⟩, hx⟩
/-- What the first loop keeps. -/
def Sub1 (w : World) (l : List (ByteArray × Rat)) (k : Nat) (wr : World) : Prop := NMap wr w.heap.size (igt (l.take k)) ∧ (∀ j (hj : j < l.length), j < k → validB l[j].1 = true ∧ Nowhere l l[j].1 j) ∧ Ext w wr
def wholeTo (l : List (ByteArray × Rat)) (k : Nat) : Bool := (l.take k).all fun x => decide (x.2.den = 1)
theorem wholeTo_succ (l : List (ByteArray × Rat)) (k : Nat) (hk : k < l.length) : wholeTo l (k + 1) = (wholeTo l k && decide (l[k].2.den = 1)) := by unfold wholeTo; rw [List.take_succ_eq_append_getElem hk, List.all_append]; simp

theorem igt_len {w : World} {L : Nat} {s : Value} {vals : List (ByteArray × Rat)} (hL : 1 ≤ L) (h : VsV w L s vals) : ∀ nm z, igt vals nm = some z → (dg z.natAbs).length ≤ L := by
  intro nm z hz
  unfold igt at hz
  cases hv : vget vals nm with
  | none => rw [hv] at hz; cases hz
  | some q =>
    rw [hv] at hz
    injection hz with hz
    obtain ⟨k, hk, -, hq⟩ := vget_find _ _ _ hv
    obtain ⟨A, c, -, -, -, h3⟩ := h
    obtain ⟨ad, bb, A1, n1, c1, A2, n2, c2, -, -, -, hr⟩ := h3 k hk
    rw [hq] at hr
    have h1 := hr.rlen_le hL
    have h2 := rlen_num q
    by_cases hd : q.den = 1
    · simp only [hd, if_true] at hz; rw [← hz]; omega
    · simp only [hd, if_false] at hz; rw [← hz]; simp [dg_zero]
set_option maxRecDepth 100000 in
set_option maxHeartbeats 8000000 in
theorem substitute_any {w : World} {L : Nat} {s v : Value} {vals : List (ByteArray × Rat)} (hL : 1 ≤ L) (hL2 : L ≤ 1000000) (f : Fm) (hf : FmV w L f v) (hfs : f.sz ≤ 1000000) (hps : f.plain.sz ≤ 1000000) (hvs : VsV w L s vals) :
    Calls Tryz.prog 18 #[v, s] w (RetSubF L (f.norm.subst (igt vals)) (subErr f.bound vals) w) := by
  have HFV := Lib.hid hf
  have HVS := Lib.hid hvs
  obtain ⟨T, xf, rfl⟩ := hf.iface
  obtain ⟨As, cs, rfl, hs1, hs2, -⟩ := hvs
  have hmm := @run_makeMap Tryz.prog
  clear hf
  go_enter Tryz.func18, Tryz.ntmps18
  go_wp2_with fail
  clear hmm
  go_loopw [7, 21] (fun wv iv wr => ∃ k : Nat, k ≤ vals.length ∧ iv = .int .i64 k ∧ wv = .bool (wholeTo vals k) ∧ Hid (Sub1 w vals k wr)) (fun _ iv _ => vals.length - (intOf iv).toNat)
  case atStart => exact ⟨0, Nat.zero_le _, rfl, rfl, ⟨⟨[], SMap.made w, fun s => .inl ⟨rfl, rfl⟩⟩, fun j hj h0 => absurd h0 (by omega), (Ext.refl w).alloc _⟩⟩
  case round =>
    obtain ⟨k, hk, rfl, rfl, HS⟩ := hrel
    by_cases hlt : k < vals.length
    · obtain ⟨A', c', e', -, -, h3⟩ := HVS.out.ext HS.out.2.2
      injection e' with e1 e2 e3
      obtain ⟨ad, bb, A1, n1, c1, A2, n2, c2, e4, hb, ⟨a0, a1, a2, a3⟩, hr⟩ := h3 k hlt
      obtain rfl : As = some ad := e1.trans e4
      have HR := Lib.hid hr
      have HNW := Lib.hid (vget_nowhere (l := vals) (s := vals[k].1) hk)
      have HBAD : Hid (¬ (validB vals[k].1 = true ∧ Nowhere vals vals[k].1 k) → subErr f.bound vals = 7) := by
        intro h; exact subErr_bad k hlt (fun ho => h ⟨ho.1, ho.2.1⟩)
      have HGOOD : Hid ((validB vals[k].1 = true ∧ Nowhere vals vals[k].1 k) → ∀ j (hj : j < vals.length), j < k + 1 → validB vals[j].1 = true ∧ Nowhere vals vals[j].1 j) := by
        intro h j hj hjk
        by_cases he : j = k
        · subst he; exact h
        · exact HS.out.2.1 j hj (by omega)
      have HWT := Lib.hid (wholeTo_succ vals k hlt)
      have HIG : Hid (∀ z, vget (vals.take k) vals[k].1 = none → (if vals[k].2.den = 1 then vals[k].2.num else 0) = z → (fun t => if t = vals[k].1 then some z else igt (vals.take k) t) = igt (vals.take (k + 1))) := by
        intro z hn hz
        funext t
        unfold igt
        rw [List.take_succ_eq_append_getElem hlt]
        have : vals[k] = (vals[k].1, vals[k].2) := rfl
        rw [this, vget_snoc]
        by_cases ht : t = vals[k].1
        · rw [if_pos ht, ht, hn]; simp [hz]
        · rw [if_neg ht]; simp [ht]
      clear h3 e1 e3 e4 hr
      generalize hnw : Nowhere vals vals[k].1 k = nw at *
      generalize hnm : vals[k].1 = nm at *
      generalize hqq : vals[k].2 = q at *
      clear hnw hnm hqq
      obtain ⟨W1, hW1⟩ : ∃ W1, wr.alloc (.cells #[.string nm, .bool bb, .slice A1 n1 c1, .slice A2 n2 c2] 68) = W1 := ⟨_, rfl⟩
      have hx1 : Ext wr W1 := by rw [← hW1]; exact (Ext.refl wr).alloc _
      have hs1x : W1.heap.size = wr.heap.size + 1 := by rw [← hW1]; simp
      obtain ⟨lb, LA, ln, lc, hlook, -⟩ := (HS.out.1.ext hx1).look nm
      obtain ⟨W2, hW2⟩ : ∃ W2, W1.alloc (.cells #[.bool lb, .slice LA ln lc] 25) = W2 := ⟨_, rfl⟩
      have hx2 : Ext wr W2 := by rw [← hW2]; exact hx1.alloc _
      have hs2x : W2.heap.size = wr.heap.size + 1 + 1 := by rw [← hW2]; simp [hs1x]
      have d0 : W1.cell? ⟨wr.heap.size, 0, none⟩ = some (.string nm) := by rw [← hW1]; simp [go_sem]
      have f0 : W2.cell? ⟨wr.heap.size, 0, none⟩ = some (.string nm) := by rw [← hW2, ← hW1]; simp [go_sem]
      have f1 : W2.cell? ⟨wr.heap.size, 1, none⟩ = some (.bool bb) := by rw [← hW2, ← hW1]; simp [go_sem]
      have f2 : W2.cell? ⟨wr.heap.size, 2, none⟩ = some (.slice A1 n1 c1) := by rw [← hW2, ← hW1]; simp [go_sem]
      have f3 : W2.cell? ⟨wr.heap.size, 3, none⟩ = some (.slice A2 n2 c2) := by rw [← hW2, ← hW1]; simp [go_sem]
      have HX2 := Lib.hid hx2
      cases hv : vget (vals.take k) nm with
      | some q' =>
        have hsome : (igt (vals.take k) nm).isSome = true := by unfold igt; rw [hv]; rfl
        rw [hsome] at hlook
        have HF := Lib.hid (ret_nil (L := L) (f' := f.norm.subst (igt vals)) (w := w) (w' := W2) (HBAD.out (fun h => by have := HNW.out.2 h.2; rw [hv] at this; cases this)) (by omega) (HS.out.2.2.trans hx2))
        clear hx1 hx2 hv hsome HIG HGOOD HBAD HNW HWT
        go_wp2_with fail
        go_ret2
        exact HF.out
      | none =>
        have hnone : (igt (vals.take k) nm).isSome = false := by unfold igt; rw [hv]; rfl
        rw [hnone] at hlook
        have hnw := HNW.out.1 hv
        clear hx1 hx2 hnone
        go_wp2_with fail
        refine (valid_any nm _).mono ?_
        rintro e w2 ⟨rfl, hw2⟩
        rw [hw2]
        clear hw2
        cases hvb : validB nm with
        | false =>
          have HF := Lib.hid (ret_nil (L := L) (f' := f.norm.subst (igt vals)) (w := w) (w' := W2) (HBAD.out (fun h => by have := h.1; rw [hvb] at this; cases this)) (by omega) (HS.out.2.2.trans HX2.out))
          clear HIG HGOOD HBAD HNW HWT
          go_wp2_with fail
          go_ret2
          exact HF.out
        | true =>
          have HIN := Lib.hid (integer_rat _ q L W2 (HR.out.ext HX2.out) hL (by omega))
          clear hlook hW1 hW2 d0
          go_wp2_with fail
          refine HIN.out.mono ?_
          rintro e w3 ⟨x3, rfl, i3, y3⟩
          have hz := HIG.out _ hv rfl
          generalize (if q.den = 1 then q.num else 0) = z at *
          generalize hdq : decide (q.den = 1) = dq at *
          obtain ⟨v3, rfl, hn3⟩ := i3
          have N3 := Lib.hid hn3
          obtain ⟨A3, c3, rfl, -⟩ := hn3
          obtain ⟨W3, hW3⟩ : ∃ W3, w3.alloc (.cells #[.bool (decide (z < 0)), .slice A3 (dg z.natAbs).length c3] 25) = W3 := ⟨_, rfl⟩
          have hx3 : Ext w3 W3 := by rw [← hW3]; exact (Ext.refl w3).alloc _
          have l0 : W3.cell? ⟨w3.heap.size, 0, none⟩ = some (.bool (decide (z < 0))) := by rw [← hW3]; simp [go_sem]
          have l1 : W3.cell? ⟨w3.heap.size, 1, none⟩ = some (.slice A3 (dg z.natAbs).length c3) := by rw [← hW3]; simp [go_sem]
          have k0 : W3.cell? ⟨wr.heap.size, 0, none⟩ = some (.string nm) := ((y3.trans hx3).cell (p := ⟨wr.heap.size, 0, none⟩) (by show wr.heap.size < _; omega)).trans f0
          have hxx : Ext wr W3 := HX2.out.trans (y3.trans hx3)
          obtain ⟨W4, hput, hm4, ho4⟩ := (HS.out.1.ext hxx).put nm (z := z) (N3.out.ext hx3)
          have HN : Hid (Sub1 w vals (k + 1) W4) := by
            refine ⟨?_, HGOOD.out ⟨hvb, hnw⟩, ho4.ext (HS.out.2.2.trans hxx) (Nat.le_refl _)⟩
            rw [hz] at hm4
            exact hm4
          clear hxx hm4 ho4 hz N3 y3 hx3 HIG HGOOD HBAD HNW HS HIN HR f0 f1 f2 f3
          generalize wholeTo vals k = wt at *
          cases wt
          · go_wp2_with fail
            exact ⟨⟨k + 1, by omega, by go_num, by rw [HWT.out]; rfl, HN⟩, by simp [intOf]; omega⟩
          · go_wp2_with fail
            exact ⟨⟨k + 1, by omega, by go_num, by rw [HWT.out]; rfl, HN⟩, by simp [intOf]; omega⟩
    · obtain rfl : k = vals.length := by omega
      have hs := HS.out
      unfold Sub1 at hs
      rw [List.take_length] at hs
      have HNM := Lib.hid hs.1
      have HVN := Lib.hid hs.2.1
      have HX := Lib.hid hs.2.2
      have HBO := Lib.hid (bound_any (w0 := w) (w := wr) f HFV.out (by omega))
      have hlt0 := hs.1.lt
      have HWH : Hid (wholeTo vals vals.length = true → ∀ j (hj : j < vals.length), vals[j].2.den = 1) := by
        intro h j hj
        unfold wholeTo at h
        rw [List.take_length, List.all_eq_true] at h
        simpa using h vals[j] (List.getElem_mem hj)
      have HWN : Hid (wholeTo vals vals.length = false → ∃ j, ∃ hj : j < vals.length, vals[j].2.den ≠ 1) := by
        intro h
        unfold wholeTo at h
        rw [List.take_length, List.all_eq_false] at h
        obtain ⟨x, hx, hne⟩ := h
        obtain ⟨j, hj, rfl⟩ := List.mem_iff_getElem.1 hx
        exact ⟨j, hj, by simpa using hne⟩
      clear hs HS
      generalize wholeTo vals vals.length = wt at *
      go_wp2_with fail
      refine HBO.out.mono ?_
      rintro e w4 ⟨bv, rfl, r4, x4⟩
      have HSL := Lib.hid r4.slr
      have hbl : f.bound.length ≤ f.sz := f.bound_len
      obtain ⟨BA, bc, rfl⟩ := r4.slr.len
      have X4 := Lib.hid (HX.out.trans x4)
      have NM4 := Lib.hid (HNM.out.ext x4)
      have hs4 := x4.size
      clear r4 x4 HBO
      generalize hbd : f.bound = bd at *
      clear hbd
      go_wp2_with fail
      go_loopw [57] (fun iv wr' => ∃ m : Nat, m ≤ bd.length ∧ iv = .int .i64 m ∧ Hid ((∀ j (hj : j < bd.length), j < m → vget vals bd[j] = none) ∧ Ext w4 wr')) (fun iv _ => bd.length - (intOf iv).toNat)
      case atStart => exact ⟨0, Nat.zero_le _, rfl, ⟨fun j hj h0 => absurd h0 (by omega), Ext.refl w4⟩⟩
      case round =>
        obtain ⟨m, hm, rfl, HB⟩ := hrel
        have HX5 := Lib.hid HB.out.2
        by_cases hlt2 : m < bd.length
        · obtain ⟨ad, x, rfl, hc, hp⟩ := SlR.get_ (SlR.ext HSL.out (fun _ _ h => h) HX5.out) m hlt2
          subst hp
          obtain ⟨lb, LA, ln, lc, hlook, -⟩ := (NM4.out.ext HX5.out).look bd[m]
          cases hv : vget vals bd[m] with
          | some q' =>
            have hsome : (igt vals bd[m]).isSome = true := by unfold igt; rw [hv]; rfl
            rw [hsome] at hlook
            have he : subErr bd vals = 7 := by
              have h1 : ¬ Nowhere vals bd[m] vals.length := fun h => by
                have := (vget_nowhere (l := vals) (s := bd[m]) (Nat.le_refl _)).2 h
                rw [List.take_length, hv] at this; cases this
              unfold Nowhere at h1
              simp only [Classical.not_forall, Classical.not_not] at h1
              obtain ⟨j, hj, -, e⟩ := h1
              exact subErr_bad j hj (fun ho => by
                have h2 := ho.2.2
                rw [e, (hasB_mem bd bd[m]).2 (List.getElem_mem hlt2)] at h2; cases h2)
            have HF := Lib.hid (fun o => ret_nil (L := L) (f' := f.norm.subst (igt vals)) (w := w) he (by omega) ((X4.out.trans HX5.out).alloc o))
            clear hv hsome he
            generalize bd[m] = nm at *
            go_wp2_with fail
            go_ret2
            exact HF.out _
          | none =>
            have hnone : (igt vals bd[m]).isSome = false := by unfold igt; rw [hv]; rfl
            rw [hnone] at hlook
            have HN : Hid (∀ j (hj : j < bd.length), j < m + 1 → vget vals bd[j] = none) := by
              intro j hj hjm
              by_cases he : j = m
              · subst he; exact hv
              · exact HB.out.1 j hj (by omega)
            clear hv hnone HB
            generalize bd[m] = nm at *
            go_wp2_with fail
            exact ⟨⟨m + 1, by omega, by go_num, HN.out, HX5.out.alloc _⟩, by simp [intOf]; omega⟩
        · have HALL : Hid (∀ j (hj : j < vals.length), okAt bd vals j hj) := by
            intro j hj
            refine ⟨(HVN.out j hj hj).1, (HVN.out j hj hj).2, ?_⟩
            rw [Bool.eq_false_iff]
            intro hh
            obtain ⟨i, hi, e⟩ := List.mem_iff_getElem.1 ((hasB_mem bd vals[j].1).1 hh)
            have h1 := HB.out.1 i hi (by omega)
            rw [e] at h1
            have h2 := (vget_nowhere (l := vals) (s := vals[j].1) (Nat.le_refl _)).1 (by rw [List.take_length]; exact h1)
            exact h2 j hj hj rfl
          clear HB HVN
          cases wt with
          | false =>
            obtain ⟨j, hj, hd⟩ := HWN.out rfl
            have HF := Lib.hid (ret_nil (L := L) (f' := f.norm.subst (igt vals)) (w := w) (subErr_part HALL.out j hj hd) (by omega) (X4.out.trans HX5.out))
            clear HWN HWH hd
            go_wp2_with fail
            go_ret2
            exact HF.out
          | true =>
            have HE := Lib.hid (subErr_ok HALL.out (HWH.out rfl))
            have HPL := Lib.hid (plain_any (w0 := w) (L := L) (by omega) f _ _ (X4.out.trans HX5.out) HFV.out)
            have hx5s := HX5.out.size
            clear HWN HWH HALL
            go_wp2_with fail
            refine HPL.out.mono ?_
            rintro e w6 ⟨v6, rfl, t6, x6⟩
            have HRE := Lib.hid (replaced_ih (igt vals) (f.plain.sz + 1) f.plain _ w6 _ _ w.heap.size (Nat.lt_succ_self _) t6 ((NM4.out.ext HX5.out).ext x6) (by omega) (Nat.le_refl _) x6.size)
            obtain ⟨C0, j0, g0, C1, g1, rfl, -⟩ := t6.open_
            unfold ndV
            unfold ndV at HRE
            have X6 := Lib.hid ((X4.out.trans HX5.out).trans x6)
            clear t6 x6 HPL
            go_wp2_with fail
            refine HRE.out.mono ?_
            rintro e w7 ⟨v7, rfl, t7, m7⟩
            have hx4s := X4.out.size
            have HOF := Lib.hid (of_any (L := L) (by omega) (f.norm.subst (igt vals)) (f.plain.sub (igt vals)) (FmV.subFm (igt_len hL HVS.out) HFV.out) _ w7 t7.trV)
            obtain ⟨D0, i0, p0, D1, p1, rfl, -⟩ := t7.open_
            unfold ndV
            unfold ndV at HOF
            have X7 : Hid (Ext w w7) := by
              have : Ext w w7 := X6.out.below.trans (m7.1.mono (by omega))
              exact this
            clear t7 m7 HRE
            generalize f.plain.sub (igt vals) = ts at *
            go_wp2_with fail
            refine HOF.out.mono ?_
            rintro e w8 ⟨v8, rfl, f8, x8⟩
            have HF : Hid (RetSubF L (f.norm.subst (igt vals)) (subErr bd vals) w (.returned (.tuple #[v8, .int .i64 0])) w8) := by
              rw [HE.out]
              exact ⟨_, rfl, .inl ⟨rfl, f8⟩, X7.out.trans x8⟩
            obtain ⟨T8, u8, rfl⟩ := f8.iface
            clear f8 x8 HOF
            go_wp2_with fail
            go_ret2
            exact HF.out
end Go.Proofs.YtofbfplpbffpfaaGreat

/- Law 40: EvaluateSubstitutes. -/
namespace Go.Proofs.YtofbfplpbffpfaaGreat
open Go.RowKit

mutual
theorem Tr.canon_sz : ∀ t : Tr, t.canon.sz = t.sz
  | .mk d ks => by rw [Tr.canon, Tr.sz, Tr.sz, canonL_sz ks]
theorem canonL_sz : ∀ l : List Tr, trsSz (canonL l) = trsSz l
  | [] => rfl
  | t :: r => by rw [canonL, trsSz, trsSz, Tr.canon_sz t, canonL_sz r]
end

set_option maxRecDepth 100000 in
set_option maxHeartbeats 4000000 in
theorem lawSubstitutes_any {w : World} {p : Nat → Prop} {s : Value} {l : List Vr} (t : Tr) (v : Value) (h : TrV w p t v) (hvs : VsW w s l) : Calls Tryz.prog 6 #[v, s] w (RetB true w) := by
  have HT := Lib.hid h
  have HVS := Lib.hid hvs
  obtain ⟨As, cs, rfl, hs1, hs2, -⟩ := hvs
  obtain ⟨A0, n0, c0, A, c, rfl, -, hl1, hl2, h4⟩ := h.open_
  clear h h4
  unfold ndV
  unfold ndV at HT
  obtain ⟨W, hW⟩ : ∃ W, w.alloc (.cells #[.int .i64 t.d.kind, .bool t.d.neg, .slice A0 n0 c0, .string t.d.name, .int .i64 t.d.exp, .int .i64 t.d.rel, .bool t.d.truth, .bool t.d.all, .slice A t.ks.length c] 29) = W := ⟨_, rfl⟩
  have hWx : Ext w W := by rw [← hW]; exact (Ext.refl w).alloc _
  have hWs : W.heap.size = w.heap.size + 1 := by rw [← hW]; simp
  have hbx : Box9 W w.heap.size t.d (.slice A0 n0 c0) (.slice A t.ks.length c) := by rw [← hW]; exact Box9.new w t.d _ _ _
  have HBX := Lib.hid hbx
  have HWX := Lib.hid hWx
  clear hWx hbx
  go_enter Tryz.func6, Tryz.ntmps6
  go_wp2_with fail
  clear hW
  refine (awake_any _).mono ?_
  rintro e w1 ⟨rfl, x1⟩
  have hx1 := HWX.out.trans x1
  have hz1 := x1.size
  obtain ⟨b0, b1, b2, b3, b4, b5, b6, b7, b8⟩ := HBX.out.ext x1 (by omega)
  have HB1 := Lib.hid (HBX.out.ext x1 (by omega))
  have HRI := Lib.hid (right_any t _ false (HT.out.ext hx1) (HVS.out.ext hx1))
  have X1 := Lib.hid hx1
  clear x1 hx1
  go_wp2_with fail
  clear b0 b1 b2 b3 b4 b5 b6 b7 b8
  refine HRI.out.mono ?_
  rintro e w2 ⟨rfl, x2⟩
  have hx2 := X1.out.trans x2
  have hz2 := x2.size
  clear HRI
  by_cases hr : (t.few 100 && t.is false && fewV l) = true
  · rw [hr]
    simp only [Bool.and_eq_true] at hr
    obtain ⟨⟨hr1, hr2⟩, hr3⟩ := hr
    obtain ⟨hsz, hds⟩ := few_list hr1
    obtain ⟨f, hm, hms⟩ := is_fm t hr2 hds
    obtain ⟨vals, hvl⟩ : ∃ vals, (l.map fun x => (x.name, x.q)) = vals := ⟨_, rfl⟩
    have hv20 : VsV w 20 (.slice As l.length cs) vals := by rw [← hvl]; exact (HVS.out.few hr3).mono (by omega)
    have HV20 := Lib.hid hv20
    have HM := Lib.hid hm
    have HNO := Lib.hid (fm_norm 20 f t hm)
    have HCA := Lib.hid (canon_fm 20 f t hm)
    have HCS : Hid (t.canon.sz ≤ 1000000) := by
      have : t.canon.sz ≤ 1000000 := by rw [Tr.canon_sz]; omega
      exact this
    have HBN := Lib.hid (bnd_fm 20 f t hm)
    have HTK := Lib.hid (fm_kind 20 f t hm)
    have HDS : Hid (∀ x ∈ t.list, x.d.ds.length ≤ 1000) := by
      intro x hx; have := hds x hx; omega
    obtain ⟨b0, b1, b2, b3, b4, b5, b6, b7, b8⟩ := HB1.out.ext x2 (by omega)
    have HB2 := Lib.hid (HB1.out.ext x2 (by omega))
    have HOF := Lib.hid (of_any (L := 20) (by omega) f t hm _ w2 (HT.out.ext hx2))
    have X2 := Lib.hid hx2
    clear x2 hx2 hr1 hr2 hr3 hds hm hvl hv20
    go_wp2_with fail
    clear b0 b1 b2 b3 b4 b5 b6 b7 b8
    refine HOF.out.mono ?_
    rintro e w3 ⟨v3, rfl, ht3, x3⟩
    have HT3 := Lib.hid ht3
    obtain ⟨T3, y3, rfl⟩ := ht3.iface
    have hx3 := X2.out.trans x3
    have hz3 := x3.size
    have HSU := Lib.hid (substitute_any (L := 20) (by omega) (by omega) f HT3.out (by omega) (by rw [← HCA.out]; exact HCS.out) (HV20.out.ext hx3))
    have HB3 := Lib.hid (HB2.out.ext x3 (by omega))
    have X3 := Lib.hid hx3
    clear x3 hx3 ht3 HOF
    have hrn := HNO.out
    rw [hrn] at HSU
    clear hrn
    generalize hen : subErr f.bound vals = en at *
    have HEN := Lib.hid hen
    clear hen
    go_wp2_with fail
    refine HSU.out.mono ?_
    rintro e w4 ⟨v4, rfl, h4, x4⟩
    have hx4 := X3.out.trans x4
    have hz4 := x4.size
    obtain ⟨b0, b1, b2, b3, b4, b5, b6, b7, b8⟩ := HB3.out.ext x4 (by omega)
    have hrs := refSubst_any (L := 20) (by omega) (by omega) t _ (by omega) HTK.out (HT.out.ext hx4) HDS.out HCS.out (HV20.out.ext hx4)
    rw [HBN.out, HEN.out] at hrs
    have HRS := Lib.hid hrs
    have X4 := Lib.hid hx4
    have H4 := Lib.hid h4
    clear hrs x4 hx4 HSU
    by_cases hen0 : en = 0
    · subst hen0
      rcases h4 with ⟨-, h4⟩ | ⟨h4, -⟩
      · have HF4 := Lib.hid h4
        obtain ⟨T4, y4, rfl⟩ := h4.iface
        clear h4 H4
        go_wp2_with fail
        clear b0 b1 b2 b3 b4 b5 b6 b7 b8
        refine HRS.out.mono ?_
        rintro e w5 ⟨v5, rfl, ⟨t5, ht5, heq⟩, x5⟩
        have heq5 : t5 = f.plain.sub (igt vals) := by rw [heq rfl, HCA.out]
        clear heq
        have HT5 := Lib.hid ht5
        obtain ⟨C0, j0, f0, C1, f1, rfl, -⟩ := ht5.open_
        unfold ndV
        unfold ndV at HT5
        obtain ⟨V, hV⟩ : ∃ V, w5.alloc (.cells #[.int .i64 t5.d.kind, .bool t5.d.neg, .slice C0 j0 f0, .string t5.d.name, .int .i64 t5.d.exp, .int .i64 t5.d.rel, .bool t5.d.truth, .bool t5.d.all, .slice C1 t5.ks.length f1] 29) = V := ⟨_, rfl⟩
        have hVx : Ext w5 V := by rw [← hV]; exact (Ext.refl w5).alloc _
        have hVs : V.heap.size = w5.heap.size + 1 := by rw [← hV]; simp
        have hb9 : Box9 V w5.heap.size t5.d (.slice C0 j0 f0) (.slice C1 t5.ks.length f1) := by rw [← hV]; exact Box9.new w5 _ _ _ _
        have HB9 := Lib.hid hb9
        obtain ⟨z0, z1, z2, z3, z4, z5, z6, z7, z8⟩ := hb9
        have HPL := Lib.hid (plain_any (w0 := V.drew) (L := 20) (by omega) (f.subst (igt vals)) _ V.drew (Ext.refl _) (HF4.out.ext ((x5.trans hVx).drew)))
        have HTV := Lib.hid (HT5.out.ext (hVx.drew))
        have XV := Lib.hid ((X4.out.trans x5).trans hVx)
        have HPS : Hid ((f.subst (igt vals)).plain = t5) := by
          have : (f.subst (igt vals)).plain = t5 := by rw [heq5, Fm.plain_subst]
          exact this
        clear ht5 x5 hVx HRS HF4 HT5 heq5
        go_upto_region 10 with fail
        clear hV
        go_region_law (first
          | (go_simp
             go_at_call 21
             refine HPL.out.mono ?_
             rintro e w6 ⟨v6, rfl, t6, x6⟩
             rw [HPS.out] at t6
             have hs6 := x6.size
             have y6 : Ext V w6 := Ext.trans ((Ext.refl V).drew) x6
             have hs7 := y6.size
             obtain ⟨u0, u1, u2, u3, u4, u5, u6, u7, u8⟩ := HB9.out.ext y6 (by omega)
             have HSA := Lib.hid (sameT_any t5 _ _ t6.trV (HTV.out.ext x6))
             have X6 := Lib.hid (XV.out.trans y6)
             obtain ⟨D0, i0, p0, D1, p1, rfl, -⟩ := t6.open_
             unfold ndV
             unfold ndV at HSA
             clear t6 x6 y6)
          | (go_simp
             go_at_call 20
             refine HSA.out.mono ?_
             rintro e w7 ⟨rfl, x7⟩
             have X7 := Lib.hid (X6.out.trans x7)
             clear x7))
        all_goals
          go_wp2_with fail
          go_ret
          exact ⟨rfl, X7.out⟩
      · exact absurd rfl h4
    · rcases h4 with ⟨h4, -⟩ | ⟨-, rfl⟩
      · exact absurd h4 hen0
      · have de0 : (en == 0) = false := by simpa using hen0
        have de1 : (en != 0) = true := by simpa using hen0
        have de2 : (en != en) = false := by simp
        clear H4
        go_wp2_with fail
        clear b0 b1 b2 b3 b4 b5 b6 b7 b8
        refine HRS.out.mono ?_
        rintro e w5 ⟨v5, rfl, ⟨t5, ht5, -⟩, x5⟩
        obtain ⟨C0, j0, f0, C1, f1, rfl, -⟩ := ht5.open_
        unfold ndV
        have X5 := Lib.hid (X4.out.trans x5)
        clear ht5 x5 HRS hen0
        go_wp2_with fail
        go_ret
        exact ⟨rfl, X5.out.alloc _⟩
  · have hr' : (t.few 100 && t.is false && fewV l) = false := by simpa using hr
    rw [hr']
    have X2 := Lib.hid hx2
    clear hr hr' x2 hx2
    go_wp2_with fail
    refine (awake_any _).mono ?_
    rintro e w3 ⟨rfl, x3⟩
    have X3 := Lib.hid (X2.out.trans x3)
    clear x3
    go_wp2_with fail
    go_ret
    exact ⟨rfl, X3.out⟩
end Go.Proofs.YtofbfplpbffpfaaGreat
