/- Reference 40: Value, by Horner's rule. -/
import Derived.Test.YtdcapcpchcnidaaGreatMm46
import Derived.Deep.RegionLawGrows
import Derived.Test.YtdcapcpchcnidaaGreatMm49
import Derived.Test.YtdcapcpchcnidaaGreatMm47

namespace Go.Proofs.YtdcapcpchcnidaaGreat
open Go.RowKit


def valuePIH (w0 : World) (q : Nat → Prop) (L : Nat) (xv : Value) (xs : List Rat) (n : Nat) : Prop := ∀ (p : Pl) (v : Value) (w : World), p.sz < n → p.Can → p.lv ≤ xs.length → p.eb L ≤ 1099511627776 → PlV w0 q p v → Ext w0 w → Calls Tryz.prog 16 #[v, xv] w (RetRat (p.val (rho xs)) w)

set_option maxRecDepth 100000 in
set_option maxHeartbeats 4000000 in
theorem valueP_leaf {w0 w : World} {q : Nat → Prop} {L : Nat} {xv : Value} {xs : List Rat} (hxs : RsV w0 L xv xs) (p : Pl) (v : Value) (heb : p.eb L ≤ 1099511627776) (h : PlV w0 q p v) (hx0 : Ext w0 w) (hl : p.lv ≤ 0) : Calls Tryz.prog 16 #[v, xv] w (RetRat (p.val (rho xs)) w) := by
  obtain ⟨A0, n0, c0, A, c, rfl, hnat, hl1, hl2, h4⟩ := h.open_
  obtain ⟨Ax, cx, rfl, -, -, -⟩ := hxs
  obtain ⟨lv, ng, ds, cs⟩ := p
  simp only [Pl.cs, Pl.ds, Pl.lv, Pl.neg, plV] at *
  have hdl : ds.length ≤ 1099511627776 := by rw [Pl.eb] at heb; omega
  have hpv : (Pl.mk lv ng ds cs).val (rho xs) = ((sgn ng (val ds) : Int) : Rat) := by rw [Pl.val, if_pos hl]
  rw [hpv]
  obtain ⟨W, hW⟩ : ∃ W, (w.alloc (.cells #[.int .i64 lv, .bool ng, .slice A0 n0 c0, .slice A cs.length c] 29)).alloc (.cells #[.bool false, .slice none 0 0, .slice none 0 0] 45) = W := ⟨_, rfl⟩
  have hWx : Ext w W := by rw [← hW]; exact ((Ext.refl w).alloc _).alloc _
  have hWs : W.heap.size = w.heap.size + 1 + 1 := by rw [← hW]; simp
  obtain ⟨b0, b1, b2, b3⟩ : Box4 W w.heap.size (.mk lv ng ds cs) (.slice A0 n0 c0) (.slice A cs.length c) := by rw [← hW]; exact (Box4.new w (.mk lv ng ds cs) _ _ _).ext ((Ext.refl _).alloc _) (by simp)
  simp only [Pl.lv, Pl.neg] at b0 b1
  have HZ : Hid ((W.cell? ⟨w.heap.size + 1, 0, none⟩ = some (.bool false) ∧ W.cell? ⟨w.heap.size + 1, 1, none⟩ = some (.slice none 0 0) ∧ W.cell? ⟨w.heap.size + 1, 2, none⟩ = some (.slice none 0 0)) ∧ ∀ i, W.frozen? ⟨w.heap.size + 1, i, none⟩ = false) := by
    have : (W.cell? ⟨w.heap.size + 1, 0, none⟩ = some (.bool false) ∧ W.cell? ⟨w.heap.size + 1, 1, none⟩ = some (.slice none 0 0) ∧ W.cell? ⟨w.heap.size + 1, 2, none⟩ = some (.slice none 0 0)) ∧ ∀ i, W.frozen? ⟨w.heap.size + 1, i, none⟩ = false := by
      rw [← hW]; refine ⟨⟨?_, ?_, ?_⟩, fun i => ?_⟩ <;> simp [go_sem]
    exact this
  have HI : Hid (IntR W (.agg #[.bool ng, .slice A0 n0 c0]) (sgn ng (val ds)) ds.length) := ⟨ng, _, ds, rfl, hnat.ext (hx0.trans hWx), rfl, Nat.le_refl _⟩
  have HWX := Lib.hid hWx
  have hlq : decide (lv ≤ 0) = true := decide_eq_true hl
  clear h hnat h4 hWx heb hpv
  go_enter Tryz.func16, Tryz.ntmps16
  go_wp2_with fail
  clear hW b0 b1 b2 b3
  refine (from_rat _ _ _ _ HI.out (by omega)).mono ?_
  rintro e w1 ⟨x1, rfl, r1, y1⟩
  obtain ⟨bz, Az, nz, cz, Bz, mz, dz, rfl⟩ := r1.unpack
  obtain ⟨⟨z0, z1, z2⟩, zf⟩ := HZ.out
  have e1 : ∀ i, w1.cell? ⟨w.heap.size + 1, i, none⟩ = W.cell? ⟨w.heap.size + 1, i, none⟩ := fun i => y1.cell (p := ⟨w.heap.size + 1, i, none⟩) (by show w.heap.size + 1 < _; omega)
  have q0 := (e1 0).trans z0
  have q1 := (e1 1).trans z1
  have q2 := (e1 2).trans z2
  have qf : ∀ i, w1.frozen? ⟨w.heap.size + 1, i, none⟩ = false := fun i => (y1.frozen (p := ⟨w.heap.size + 1, i, none⟩) (by show w.heap.size + 1 < _; omega)).trans (zf i)
  have HF := Lib.hid (close_rat (g := w.heap.size + 1) (HWX.out.trans y1) (by omega) q0 q1 q2 rfl rfl rfl r1)
  clear e1 r1 y1 HI HZ z0 z1 z2 zf
  go_wp2_with fail
  exact bodyPost_ret (v := .agg #[.bool bz, .slice Az nz cz, .slice Bz mz dz]) (by simp [results, Tryz.results16, go_sem, q0, q1, q2]) rfl HF.out

set_option maxRecDepth 100000 in
set_option maxHeartbeats 8000000 in
theorem valueP_horner {w0 w : World} {q : Nat → Prop} {L n : Nat} {xv : Value} {xs : List Rat} (hL : 1 ≤ L) (hL2 : L ≤ 1099511627776) (hxs : RsV w0 L xv xs) (ih : valuePIH w0 q L xv xs n) (p : Pl) (v : Value) (hn : p.sz < n + 1) (hcan : p.Can) (hlx0 : p.lv ≤ xs.length) (heb : p.eb L ≤ 1099511627776) (h : PlV w0 q p v) (hx0 : Ext w0 w) (hl : 0 < p.lv) (hl4 : p.lv ≤ 4) (hlx : p.lv ≤ xs.length) : Calls Tryz.prog 16 #[v, xv] w (RetRat (p.val (rho xs)) w) := by
  have hdig := h.dig
  obtain ⟨A0, n0, c0, A, c, rfl, hnat, hl1, hl2, h4⟩ := h.open_
  have hrho := fun i => rho_len hL hxs i
  have HXS := Lib.hid hxs
  obtain ⟨Ax, cx, rfl, hxl1, hxl2, hxa⟩ := hxs
  have HXA := Lib.hid hxa
  obtain ⟨lv, ng, ds, cs⟩ := p
  simp only [Pl.cs, Pl.ds, Pl.lv, Pl.neg, plV] at *
  have hkids : ∀ k (hk : k < cs.length), cs[k].lv < lv ∧ cs[k].Can := fun k hk => (hcan.kids hl).2.2.2.1.mem _ (List.getElem_mem hk)
  have hpv : (Pl.mk lv ng ds cs).val (rho xs) = plVal (rho xs) lv cs := by rw [Pl.val, if_neg (by omega), if_neg (by omega)]
  have hszp : (Pl.mk lv ng ds cs).sz = plSz cs + 1 := by rw [Pl.sz]
  have hebp : plEb L cs + 1 ≤ (Pl.mk lv ng ds cs).eb L := by rw [Pl.eb]; omega
  rw [Pl.dig] at hdig
  rw [hpv]
  -- what the loop's calls need
  have HARG : Hid (∀ k (hk : k < cs.length), cs[k].sz < n ∧ (cs[k].Can ∧ cs[k].lv ≤ xs.length) ∧ cs[k].eb L ≤ 1099511627776 ∧ rlen (plVal (rho xs) lv (cs.drop (k + 1))) ≤ 1099511627776 ∧ rlen (cs[k].val (rho xs)) ≤ 1099511627776 ∧ plVal (rho xs) lv (cs.drop k) = plVal (rho xs) lv (cs.drop (k + 1)) * rho xs lv + cs[k].val (rho xs)) := by
    have : ∀ k (hk : k < cs.length), cs[k].sz < n ∧ (cs[k].Can ∧ cs[k].lv ≤ xs.length) ∧ cs[k].eb L ≤ 1099511627776 ∧ rlen (plVal (rho xs) lv (cs.drop (k + 1))) ≤ 1099511627776 ∧ rlen (cs[k].val (rho xs)) ≤ 1099511627776 ∧ plVal (rho xs) lv (cs.drop k) = plVal (rho xs) lv (cs.drop (k + 1)) * rho xs lv + cs[k].val (rho xs) := fun k hk => by
      have h1 := plSz_mem (List.getElem_mem hk)
      have h2 := plEb_mem L (List.getElem_mem hk)
      have h3 := plVal_rlen (rho xs) L hrho lv (cs.drop (k + 1)) (plDig_drop hdig.2 _)
      have h4 := plEb_le L cs (k + 1)
      have h5 := Pl.val_rlen (rho xs) L hrho cs[k] (plDig_mem hdig.2 (List.getElem_mem hk))
      refine ⟨by omega, ⟨(hkids k hk).2, by have := (hkids k hk).1; omega⟩, by omega, by omega, by omega, ?_⟩
      rw [plVal_drop (rho xs) lv cs k hk, Rat.mul_comm (rho xs lv), Rat.add_comm]
    exact this
  obtain ⟨lx, hlx1⟩ : ∃ lx : Nat, lv = (lx : Int) + 1 := ⟨(lv - 1).toNat, by omega⟩
  have hlxl : lx < xs.length := by omega
  have HRX : Hid (rho xs lv = xs[lx]) := by
    have : rho xs lv = xs[lx] := by
      unfold rho
      rw [show (lv - 1).toNat = lx by omega, List.getD_eq_getElem?_getD, List.getElem?_eq_getElem hlxl]; rfl
    exact this
  have HRL : Hid (∀ i, rlen (rho xs i) ≤ L) := hrho
  obtain ⟨adx, bx, X1, xn1, xc1, X2, xn2, xc2, rfl, hadx, hxc, hxr⟩ := hxa lx hlxl
  have HXC := Lib.hid hxc
  have HXR := Lib.hid hxr
  have hwx : IntKind.i64.wrap (lv - 1) = lx := by rw [IntKind.wrap_i64]; omega
  have hlq : decide (lv ≤ 0) = false := decide_eq_false (by omega)
  have hlq4 : decide (lv > 4) = false := decide_eq_false (by omega)
  have hlqx : decide (lv > (xs.length : Int)) = false := decide_eq_false (by omega)
  obtain ⟨W, hW⟩ : ∃ W, (w.alloc (.cells #[.int .i64 lv, .bool ng, .slice A0 n0 c0, .slice A cs.length c] 29)).alloc (.cells #[.bool false, .slice none 0 0, .slice none 0 0] 45) = W := ⟨_, rfl⟩
  have hWx : Ext w W := by rw [← hW]; exact ((Ext.refl w).alloc _).alloc _
  have hWs : W.heap.size = w.heap.size + 1 + 1 := by rw [← hW]; simp
  have hbx : Box4 W w.heap.size (.mk lv ng ds cs) (.slice A0 n0 c0) (.slice A cs.length c) := by rw [← hW]; exact (Box4.new w (.mk lv ng ds cs) _ _ _).ext ((Ext.refl _).alloc _) (by simp)
  have HZ : Hid ((W.cell? ⟨w.heap.size + 1, 0, none⟩ = some (.bool false) ∧ W.cell? ⟨w.heap.size + 1, 1, none⟩ = some (.slice none 0 0) ∧ W.cell? ⟨w.heap.size + 1, 2, none⟩ = some (.slice none 0 0)) ∧ ∀ i, W.frozen? ⟨w.heap.size + 1, i, none⟩ = false) := by
    have : (W.cell? ⟨w.heap.size + 1, 0, none⟩ = some (.bool false) ∧ W.cell? ⟨w.heap.size + 1, 1, none⟩ = some (.slice none 0 0) ∧ W.cell? ⟨w.heap.size + 1, 2, none⟩ = some (.slice none 0 0)) ∧ ∀ i, W.frozen? ⟨w.heap.size + 1, i, none⟩ = false := by
      rw [← hW]; refine ⟨⟨?_, ?_, ?_⟩, fun i => ?_⟩ <;> simp [go_sem]
    exact this
  obtain ⟨b0, b1, b2, b3⟩ := id hbx
  simp only [Pl.lv, Pl.neg] at b0 b1
  have HBX := Lib.hid hbx
  have HWX := Lib.hid hWx
  have H4 := Lib.hid h4
  have HX0 := Lib.hid hx0
  have IH := Lib.hid ih
  have HLV := Lib.hid hlx1
  clear h hnat h4 hWx heb hpv hebp hszp hdig hrho hxa hxc hxr hbx ih hx0 hlx1 hn
  go_enter Tryz.func16, Tryz.ntmps16
  go_wp2_with fail
  clear hW b0 b1 b2 b3
  refine (of_rat 0 _ (by omega) (by omega)).mono ?_
  rintro e w1 ⟨x1, rfl, r1, y1⟩
  obtain ⟨bz, Az, nz, cz, Bz, mz, dz, rfl⟩ := r1.unpack
  have hs1 := y1.size
  obtain ⟨W2, hW2⟩ : ∃ W2, w1.alloc (.cells #[.bool bz, .slice Az nz cz, .slice Bz mz dz] 45) = W2 := ⟨_, rfl⟩
  have hx2 : Ext w1 W2 := by rw [← hW2]; exact (Ext.refl _).alloc _
  have HI0 : Hid (EvPInv w w.heap.size w1.heap.size (.mk lv ng ds cs) (.slice A0 n0 c0) (.slice A cs.length c) (rho xs) cs.length W2) := by
    refine ⟨(HWX.out.trans y1).trans hx2, HBX.out.ext (y1.trans hx2) (by omega), ⟨bz, Az, nz, cz, Bz, mz, dz, ?_, ?_, ?_, ?_⟩, fun i => ?_, ?_, Nat.le_refl _, by omega⟩
    · rw [← hW2]; simp [go_sem]
    · rw [← hW2]; simp [go_sem]
    · rw [← hW2]; simp [go_sem]
    · simp only [Pl.cs, Pl.lv, List.drop_length, plVal]; exact r1.ext hx2
    · rw [← hW2]; simp [go_sem]
    · rw [← hW2]; simp
  obtain ⟨a0, a1, a2, a3⟩ := (HBX.out.ext (y1.trans hx2) (by omega))
  simp only [Pl.lv, Pl.neg] at a0 a1
  have hwn : IntKind.i64.wrap ((cs.length : Int) - 1) = (cs.length : Int) - 1 := by rw [IntKind.wrap_i64]; omega
  have HSZ2 : Hid (w.heap.size + 1 < w1.heap.size) := by
    have : w.heap.size + 1 < w1.heap.size := by omega
    exact this
  have HZ2 : Hid ((W2.cell? ⟨w.heap.size + 1, 0, none⟩ = some (.bool false) ∧ W2.cell? ⟨w.heap.size + 1, 1, none⟩ = some (.slice none 0 0) ∧ W2.cell? ⟨w.heap.size + 1, 2, none⟩ = some (.slice none 0 0)) ∧ ∀ i, W2.frozen? ⟨w.heap.size + 1, i, none⟩ = false) := by
    obtain ⟨⟨z0, z1, z2⟩, zf⟩ := HZ.out
    have e1 : ∀ i, W2.cell? ⟨w.heap.size + 1, i, none⟩ = W.cell? ⟨w.heap.size + 1, i, none⟩ := fun i => (y1.trans hx2).cell (p := ⟨w.heap.size + 1, i, none⟩) (by show w.heap.size + 1 < _; omega)
    exact ⟨⟨(e1 0).trans z0, (e1 1).trans z1, (e1 2).trans z2⟩, fun i => ((y1.trans hx2).frozen (p := ⟨w.heap.size + 1, i, none⟩) (by show w.heap.size + 1 < _; omega)).trans (zf i)⟩
  clear r1 y1 hx2
  go_wp2_with fail
  clear hW2 a0 a1 a2 a3
  go_loopw [6] (fun iv wr => ∃ m : Nat, m ≤ cs.length ∧ iv = .int .i64 ((m : Int) - 1) ∧ Hid (EvPInv w w.heap.size w1.heap.size (.mk lv ng ds cs) (.slice A0 n0 c0) (.slice A cs.length c) (rho xs) m wr ∧ (∀ i, wr.cell? ⟨w.heap.size + 1, i, none⟩ = W2.cell? ⟨w.heap.size + 1, i, none⟩) ∧ (∀ i, wr.frozen? ⟨w.heap.size + 1, i, none⟩ = false))) (fun iv _ => (intOf iv + 1).toNat)
  case atStart => exact ⟨cs.length, Nat.le_refl _, rfl, HI0, fun _ => rfl, HZ2.out.2⟩
  case round =>
    obtain ⟨m, hm, rfl, ⟨HI, hzc, hzf⟩⟩ := hrel
    obtain ⟨hx, ⟨b0, b1, b2, b3⟩, ⟨sb, S1, sn1, sc1, S2, sn2, sc2, s0, s1, s2, hsr⟩, hsf, hgs, hg1, hg2⟩ := id HI
    have HIV := Lib.hid HI
    have HZC := Lib.hid hzc
    have HZF := Lib.hid hzf
    simp only [Pl.lv, Pl.neg] at b0 b1
    by_cases hm0 : m = 0
    · subst hm0
      obtain ⟨⟨z0, z1, z2⟩, -⟩ := HZ2.out
      have q0 := (hzc 0).trans z0
      have q1 := (hzc 1).trans z1
      have q2 := (hzc 2).trans z2
      simp only [Pl.lv, Pl.cs, List.drop_zero] at hsr
      have HF := Lib.hid (close_rat (g := w.heap.size + 1) hx (by omega) q0 q1 q2 rfl rfl rfl hsr)
      clear hx hsr HIV HI HI0 hzc z0 z1 z2
      go_wp2_with fail
      exact bodyPost_ret (v := .agg #[.bool sb, .slice S1 sn1 sc1, .slice S2 sn2 sc2]) (by simp [results, Tryz.results16, go_sem, q0, q1, q2]) rfl HF.out
    · obtain ⟨k, hk⟩ : ∃ k, m = k + 1 := ⟨m - 1, by omega⟩
      have hmk : ((m : Int) - 1) = k := by omega
      rw [hmk]
      have hkl : k < cs.length := by omega
      subst hk
      obtain ⟨ad, B0, m0, d0, B1, m1, d1, rfl, hadb, hnd, hkt⟩ := PlsAt.kid H4.out k hkl
      have hxx : Ext w0 wr := HX0.out.trans hx
      obtain ⟨g1, gc, g2, g4, g5, g6⟩ := HARG.out k hkl
      have hadr : ad.block < wr.heap.size := by have := hxx.size; omega
      have hadxr : adx.block < wr.heap.size := by have := hxx.size; omega
      have hbxr : w.heap.size < wr.heap.size := by omega
      have hnd' := hnd.ext hxx (by rw [block_of_add]; exact hadb)
      obtain ⟨k0, k1, k2⟩ := HXC.out
      have hbk : (adx.add (lx * 3)).block < w0.heap.size := by rw [block_of_add]; exact hadx
      have k0' := (hxx.cell hbk).trans k0
      have k1' := (hxx.cell (p := ⟨(adx.add (lx * 3)).block, (adx.add (lx * 3)).off + 1, none⟩) hbk).trans k1
      have k2' := (hxx.cell (p := ⟨(adx.add (lx * 3)).block, (adx.add (lx * 3)).off + 2, none⟩) hbk).trans k2
      -- what each world of the region holds
      have hadw : ad.block < w.heap.size := by have := HX0.out.size; omega
      have hadxw : adx.block < w.heap.size := by have := HX0.out.size; omega
      have SS : Hid (∀ W', Ext wr W' → (Ext w W' ∧ W'.cell? ⟨w.heap.size, 0, none⟩ = some (.int .i64 lv) ∧ W'.cell? ⟨w.heap.size, 3, none⟩ = some (.slice (some ad) cs.length c) ∧ W'.cell? (adx.add (lx * 3)) = some (.bool bx) ∧ W'.cell? ⟨(adx.add (lx * 3)).block, (adx.add (lx * 3)).off + 1, none⟩ = some (.slice X1 xn1 xc1) ∧ W'.cell? ⟨(adx.add (lx * 3)).block, (adx.add (lx * 3)).off + 2, none⟩ = some (.slice X2 xn2 xc2) ∧ W'.cell? (ad.add (k * 4)) = some (.int .i64 cs[k].lv) ∧ W'.cell? ⟨(ad.add (k * 4)).block, (ad.add (k * 4)).off + 1, none⟩ = some (.bool cs[k].neg) ∧ W'.cell? ⟨(ad.add (k * 4)).block, (ad.add (k * 4)).off + 2, none⟩ = some (.slice B0 m0 d0) ∧ W'.cell? ⟨(ad.add (k * 4)).block, (ad.add (k * 4)).off + 3, none⟩ = some (.slice B1 m1 d1))) := by
        intro W' hx'
        have hbk' : (adx.add (lx * 3)).block < wr.heap.size := by rw [block_of_add]; exact hadxr
        obtain ⟨a0, a1, a2, a3⟩ := hnd'.ext hx' (by rw [block_of_add]; exact hadr)
        exact ⟨hx.trans hx', (hx'.cell (p := ⟨w.heap.size, 0, none⟩) hbxr).trans b0, (hx'.cell (p := ⟨w.heap.size, 3, none⟩) hbxr).trans b3, (hx'.cell hbk').trans k0', (hx'.cell (p := ⟨(adx.add (lx * 3)).block, (adx.add (lx * 3)).off + 1, none⟩) hbk').trans k1', (hx'.cell (p := ⟨(adx.add (lx * 3)).block, (adx.add (lx * 3)).off + 2, none⟩) hbk').trans k2', a0, a1, a2, a3⟩
      have SS2 : Hid (∀ W'' v0 v1 v2, Ext wr W'' → ∀ W', W' = ((W''.setCell ⟨w1.heap.size, 0, none⟩ v0).setCell ⟨w1.heap.size, 1, none⟩ v1).setCell ⟨w1.heap.size, 2, none⟩ v2 → (Ext w W' ∧ W'.cell? ⟨w.heap.size, 0, none⟩ = some (.int .i64 lv) ∧ W'.cell? ⟨w.heap.size, 3, none⟩ = some (.slice (some ad) cs.length c) ∧ W'.cell? (adx.add (lx * 3)) = some (.bool bx) ∧ W'.cell? ⟨(adx.add (lx * 3)).block, (adx.add (lx * 3)).off + 1, none⟩ = some (.slice X1 xn1 xc1) ∧ W'.cell? ⟨(adx.add (lx * 3)).block, (adx.add (lx * 3)).off + 2, none⟩ = some (.slice X2 xn2 xc2) ∧ W'.cell? (ad.add (k * 4)) = some (.int .i64 cs[k].lv) ∧ W'.cell? ⟨(ad.add (k * 4)).block, (ad.add (k * 4)).off + 1, none⟩ = some (.bool cs[k].neg) ∧ W'.cell? ⟨(ad.add (k * 4)).block, (ad.add (k * 4)).off + 2, none⟩ = some (.slice B0 m0 d0) ∧ W'.cell? ⟨(ad.add (k * 4)).block, (ad.add (k * 4)).off + 3, none⟩ = some (.slice B1 m1 d1))) := by
        intro W'' v0 v1 v2 hx' W' hW'
        obtain ⟨s0, s1, s2, s3, s4, s5, s6, s7, s8, s9⟩ := SS.out W'' hx'
        have hb1 : (adx.add (lx * 3)).block < w.heap.size := by rw [block_of_add]; exact hadxw
        have hb2 : (ad.add (k * 4)).block < w.heap.size := by rw [block_of_add]; exact hadw
        have hws : w.heap.size < w1.heap.size := by omega
        have far : ∀ a : Addr, a.block < w1.heap.size → W'.cell? a = W''.cell? a := fun a ha => by
          rw [hW', World.cell?_setCell_other _ _ _ _ (by intro e; rw [← e] at ha; exact absurd ha (Nat.lt_irrefl _)), World.cell?_setCell_other _ _ _ _ (by intro e; rw [← e] at ha; exact absurd ha (Nat.lt_irrefl _)), World.cell?_setCell_other _ _ _ _ (by intro e; rw [← e] at ha; exact absurd ha (Nat.lt_irrefl _))]
        refine ⟨?_, (far _ hws).trans s1, (far _ hws).trans s2, (far _ (by omega)).trans s3, (far _ (by show (adx.add (lx * 3)).block < _; omega)).trans s4, (far _ (by show (adx.add (lx * 3)).block < _; omega)).trans s5, (far _ (by omega)).trans s6, (far _ (by show (ad.add (k * 4)).block < _; omega)).trans s7, (far _ (by show (ad.add (k * 4)).block < _; omega)).trans s8, (far _ (by show (ad.add (k * 4)).block < _; omega)).trans s9⟩
        rw [hW']
        exact ((s0.setCell (Nat.le_of_lt hws) _).setCell (Nat.le_of_lt hws) _).setCell (Nat.le_of_lt hws) _
      have HMUL : Hid (RatR wr.drew (.agg #[.bool sb, .slice S1 sn1 sc1, .slice S2 sn2 sc2]) (plVal (rho xs) lv (cs.drop (k + 1))) (rlen (plVal (rho xs) lv (cs.drop (k + 1)))) ∧ RatR wr.drew (.agg #[.bool bx, .slice X1 xn1 xc1, .slice X2 xn2 xc2]) (rho xs lv) L) := by
        refine ⟨(hsr.raw).ext ((Ext.refl wr).drew), ?_⟩
        rw [HRX.out]
        exact (HXR.out.ext hxx).ext ((Ext.refl wr).drew)
      have HC := Lib.hid (fun W' (hxW : Ext wr W') => IH.out cs[k] _ W' g1 gc.1 gc.2 g2 hkt (hxx.trans hxW))
      have HG4 := Lib.hid (And.intro g4 g5)
      have HG6 := Lib.hid g6
      have HX := Lib.hid hx
      have HSTORE := Lib.hid (fun w2 (hx2 : Ext wr w2) (b : Bool) (A1 A2 : Option Addr) (n1 c1 n2 c2 : Nat) hr => HIV.out.store (m' := k) hx2 (b := b) (A1 := A1) (A2 := A2) (n1 := n1) (c1 := c1) (n2 := n2) (c2 := c2) hr)
      have hadk : k < cs.length := hkl
      generalize cs[k].val (rho xs) = kv at *
      generalize cs[k] = ck at *
      clear hnd hnd' hkt hxx k0 k1 k2 k0' k1' k2' g1 g2 gc g4 g5 g6 hsr HI hzc hzf hx b1 b2 b3 b0 HXC
      have HLP := Lib.hid (rlen_pos (plVal (rho xs) lv (cs.drop (k + 1))))
      have hrl := HRL.out lv
      have HRLV := Lib.hid hrl
      have hg4 := HG4.out
      go_upto_region 7 with fail
      obtain ⟨-, p0, p1, p2, p3, p4, p5, p6, p7, p8⟩ := SS.out wr.drew ((Ext.refl wr).drew)
      have hd0 := fun i => ((Ext.refl wr).drew).cell (p := ⟨w1.heap.size, i, none⟩) hgs
      have p9 := (hd0 0).trans s0
      have p10 := (hd0 1).trans s1
      have p11 := (hd0 2).trans s2
      have HD0 := Lib.hid hd0
      clear hd0
      go_region_law (first
          | (go_simp
             go_at_call 39
             refine (mul_rat _ _ _ _ _ _ _ HMUL.out.1 HMUL.out.2 HLP.out hL (by omega)).mono ?_
             rintro e v1 ⟨z1, rfl, m1', x1'⟩
             have y1 : Ext wr v1 := Ext.trans ((Ext.refl wr).drew) x1'
             obtain ⟨mb, M1, mn1, mc1, M2, mn2, mc2, rfl⟩ := m1'.unpack
             obtain ⟨-, p0, p1, p2, p3, p4, p5, p6, p7, p8⟩ := SS.out v1 y1)
          | (go_simp
             go_at_call 16
             refine (HC.out _ y1).mono ?_
             rintro e v2 ⟨z2, rfl, m2', x2'⟩
             have y2 : Ext wr v2 := Ext.trans y1 x2'
             obtain ⟨eb, E1, en1, ec1, E2, en2, ec2, rfl⟩ := m2'.unpack)
          | (go_simp
             go_at_call 38
             refine (add_rat _ _ _ _ _ _ _ ((m1'.raw).ext x2') m2'.raw (rlen_pos _) (rlen_pos _) (by
               have hq := rlen_mul (plVal (rho xs) lv (cs.drop (k + 1))) (rho xs lv)
               have hl := HRLV.out
               omega)).mono ?_
             rintro e v3 ⟨z3, rfl, m3', x3'⟩
             have y3 : Ext wr v3 := Ext.trans y2 x3'
             obtain ⟨fb, F1, fn1, fc1, F2, fn2, fc2, rfl⟩ := m3'.unpack
             have hc0 := fun i => y3.cell (p := ⟨w1.heap.size, i, none⟩) hgs
             have r0 := (hc0 0).trans s0
             have r1 := (hc0 1).trans s1
             have r2 := (hc0 2).trans s2
             have rf : ∀ i, v3.frozen? ⟨w1.heap.size, i, none⟩ = false := fun i => (y3.frozen (p := ⟨w1.heap.size, i, none⟩) hgs).trans (hsf i)))
      all_goals
        have hinv := HSTORE.out v3 y3 fb F1 F2 fn1 fc1 fn2 fc2 (by simp only [Pl.lv, Pl.cs]; rw [HG6.out]; exact m3')
        have hsz2 := HSZ2.out
        have hzc2 : ∀ i, (((v3.setCell ⟨w1.heap.size, 0, none⟩ (.bool fb)).setCell ⟨w1.heap.size, 1, none⟩ (.slice F1 fn1 fc1)).setCell ⟨w1.heap.size, 2, none⟩ (.slice F2 fn2 fc2)).cell? ⟨w.heap.size + 1, i, none⟩ = W2.cell? ⟨w.heap.size + 1, i, none⟩ := fun i => by
          rw [World.cell?_setCell_other _ _ _ _ (by intro e; injection e; omega), World.cell?_setCell_other _ _ _ _ (by intro e; injection e; omega), World.cell?_setCell_other _ _ _ _ (by intro e; injection e; omega), y3.cell (p := ⟨w.heap.size + 1, i, none⟩) (by show w.heap.size + 1 < _; omega)]
          exact HZC.out i
        have hzf2 : ∀ i, (((v3.setCell ⟨w1.heap.size, 0, none⟩ (.bool fb)).setCell ⟨w1.heap.size, 1, none⟩ (.slice F1 fn1 fc1)).setCell ⟨w1.heap.size, 2, none⟩ (.slice F2 fn2 fc2)).frozen? ⟨w.heap.size + 1, i, none⟩ = false := fun i => by
          rw [World.frozen?_setCell, World.frozen?_setCell, World.frozen?_setCell, y3.frozen (p := ⟨w.heap.size + 1, i, none⟩) (by show w.heap.size + 1 < _; omega)]
          exact HZF.out i
        have HREL := Lib.hid (And.intro hinv (And.intro hzc2 hzf2))
        clear hinv hzc2 hzf2 m1' m2' m3' x1' x2' x3' y1 y2 y3 SS SS2 HC HSTORE HMUL hc0 r0 r1 r2 rf s0 s1 s2 HIV HZC HZF
        go_wp2_with fail
        go_roundw
        case rel => exact ⟨k, by omega, by go_num, HREL⟩
        case measure => simp [intOf]; try omega

theorem valueP_ih {w0 : World} {q : Nat → Prop} {L : Nat} {xv : Value} {xs : List Rat} (hL : 1 ≤ L) (hL2 : L ≤ 1099511627776) (hxs : RsV w0 L xv xs) (n : Nat) : valuePIH w0 q L xv xs n := by
  induction n with
  | zero => intro p v w h; omega
  | succ n ih =>
    intro p v w hn hcan hlx heb h hx0
    by_cases h0 : p.lv ≤ 0
    · exact valueP_leaf hxs p v heb h hx0 h0
    · exact valueP_horner hL hL2 hxs ih p v hn hcan hlx heb h hx0 (by omega) hcan.lv_nonneg.2 hlx
/-- Reference 40: Value, of a canonical polynomial. -/
theorem valueP_any {w : World} {q : Nat → Prop} {L : Nat} {xv : Value} {xs : List Rat} (hL : 1 ≤ L) (hL2 : L ≤ 1099511627776) (hxs : RsV w L xv xs) (p : Pl) (v : Value) (hcan : p.Can) (hlx : p.lv ≤ xs.length) (heb : p.eb L ≤ 1099511627776) (h : PlV w q p v) : Calls Tryz.prog 16 #[v, xv] w (RetRat (p.val (rho xs)) w) :=
  valueP_ih hL hL2 hxs (p.sz + 1) p v w (Nat.lt_succ_self _) hcan hlx heb h (Ext.refl w)
end Go.Proofs.YtdcapcpchcnidaaGreat

/- Reference 40: At. -/
namespace Go.Proofs.YtdcapcpchcnidaaGreat
open Go.RowKit

def RAtIH (w0 : World) (q : Nat → Prop) (L : Nat) (xv : Value) (xs : List Rat) (n : Nat) : Prop := ∀ (t : Mx) (v : Value) (w : World), t.sz < n → t.sz ≤ 1000000 → t.each (fun p => p.Can ∧ p.lv ≤ xs.length ∧ p.eb L ≤ 1099511627776) → MxV w0 q t v → Ext w0 w → Calls Tryz.prog 11 #[v, xv] w (RetB (t.tv (rho xs)) w)

set_option maxRecDepth 100000 in
set_option maxHeartbeats 4000000 in
theorem rat_ih {w0 : World} {q : Nat → Prop} {L : Nat} {xv : Value} {xs : List Rat} (hL : 1 ≤ L) (hL2 : L ≤ 1099511627776) (hxs : RsV w0 L xv xs) (n : Nat) : RAtIH w0 q L xv xs n := by
  induction n with
  | zero => intro t v w h; omega
  | succ n ih =>
  intro t v w hn hbig heach h hx0
  have hkl : t.ks.length ≤ 1000000 := by have := t.ks_len; omega
  have IH := Lib.hid ih
  have HSZ := Lib.hid (fun k hk => t.kid_le k hk)
  have HEA := Lib.hid (Mx.each_ks heach)
  have hep := Mx.each_p heach
  obtain ⟨A0, n0, c0, A, n1, c1, K, c, rfl, hp, hl1, hl2, h4⟩ := h.open_
  obtain ⟨XA, Xc, rfl, -⟩ := id hxs
  have HP := Lib.hid hp
  have H4 := Lib.hid h4
  have HTV := Lib.hid (t.tv_eq (rho xs))
  obtain ⟨W, hW⟩ : ∃ W, w.alloc (.cells #[.int .i64 t.kind, .int .i64 t.rel, .int .i64 t.p.lv, .bool t.p.neg, .slice A0 n0 c0, .slice A n1 c1, .slice K t.ks.length c] 32) = W := ⟨_, rfl⟩
  have hWx : Ext w W := by rw [← hW]; exact (Ext.refl w).alloc _
  have hWs : W.heap.size = w.heap.size + 1 := by rw [← hW]; simp
  have hbx : Box7 W w.heap.size t (.slice A0 n0 c0) (.slice A n1 c1) (.slice K t.ks.length c) := by rw [← hW]; exact Box7.new w t _ _ _ _
  have HWX := Lib.hid hWx
  have HX0 := Lib.hid (hx0.trans hWx)
  have HBX := Lib.hid hbx
  obtain ⟨b0, b1, b2, b3, b4, b5, b6⟩ := hbx
  have HVAL : Hid (∀ W', Ext W W' → Calls Tryz.prog 16 #[plV t.p (.slice A0 n0 c0) (.slice A n1 c1), .slice XA xs.length Xc] W' (RetRat (t.p.val (rho xs)) W')) := by
    have : ∀ W', Ext W W' → Calls Tryz.prog 16 #[plV t.p (.slice A0 n0 c0) (.slice A n1 c1), .slice XA xs.length Xc] W' (RetRat (t.p.val (rho xs)) W') := fun W' hx => by
      have hx' : Ext w0 W' := HX0.out.trans hx
      exact valueP_any hL hL2 (hxs.ext hx') t.p _ hep.1 hep.2.1 hep.2.2 (HP.out.ext hx')
    exact this
  clear h ih h4 hWx hp heach hx0 hxs hep
  unfold mxV
  unfold plV at HVAL
  generalize hN : xs.length = N at *
  go_enter Tryz.func11, Tryz.ntmps11
  by_cases k1 : t.kind = 1
  · have htv := HTV.out
    rw [if_pos k1] at htv
    have q1 : (t.kind == 1) = true := by simpa using k1
    clear k1
    go_wp2_with fail
    go_ret
    exact ⟨by rw [htv]; rfl, HWX.out⟩
  have q1 : (t.kind == 1) = false := by simpa using k1
  by_cases k2 : t.kind = 2
  · have htv := HTV.out
    rw [if_neg k1, if_pos k2] at htv
    have HT := Lib.hid htv
    have q2 : (t.kind == 2) = true := by simpa using k2
    clear k1 k2 HTV htv
    generalize t.p.val (rho xs) = qq at *
    have HSG : Hid (∀ W' x, RatN W' x qq → Calls Tryz.prog 14 #[x] W' (RetI (sgQ qq) W')) := by
      have : ∀ W' x, RatN W' x qq → Calls Tryz.prog 14 #[x] W' (RetI (sgQ qq) W') := fun W' x hx => rsign_any _ qq _ W' hx.raw (rlen_pos qq)
      exact this
    generalize sgQ qq = sg at *
    have HB : Hid (∀ W', Ext W W' → (Ext W W' ∧ W'.cell? ⟨w.heap.size, 1, none⟩ = some (.int .i64 t.rel) ∧ W'.cell? ⟨w.heap.size, 2, none⟩ = some (.int .i64 t.p.lv) ∧ W'.cell? ⟨w.heap.size, 3, none⟩ = some (.bool t.p.neg) ∧ W'.cell? ⟨w.heap.size, 4, none⟩ = some (.slice A0 n0 c0) ∧ W'.cell? ⟨w.heap.size, 5, none⟩ = some (.slice A n1 c1))) := by
      have : ∀ W', Ext W W' → (Ext W W' ∧ W'.cell? ⟨w.heap.size, 1, none⟩ = some (.int .i64 t.rel) ∧ W'.cell? ⟨w.heap.size, 2, none⟩ = some (.int .i64 t.p.lv) ∧ W'.cell? ⟨w.heap.size, 3, none⟩ = some (.bool t.p.neg) ∧ W'.cell? ⟨w.heap.size, 4, none⟩ = some (.slice A0 n0 c0) ∧ W'.cell? ⟨w.heap.size, 5, none⟩ = some (.slice A n1 c1)) := fun W' hx => by
        obtain ⟨c0, c1, c2, c3, c4, c5, c6⟩ := HBX.out.ext hx (by omega)
        exact ⟨hx, c1, c2, c3, c4, c5⟩
      exact this
    go_wp2_with fail
    clear hW b0 b1 b2 b3 b4 b5 b6
    have y0 : Ext W W.drew := (Ext.refl W).drew
    have Y0 := Lib.hid y0
    clear y0
    go_region_held3 (fun W' => Ext W W' ∧ W'.cell? ⟨w.heap.size, 1, none⟩ = some (.int .i64 t.rel) ∧ W'.cell? ⟨w.heap.size, 2, none⟩ = some (.int .i64 t.p.lv) ∧ W'.cell? ⟨w.heap.size, 3, none⟩ = some (.bool t.p.neg) ∧ W'.cell? ⟨w.heap.size, 4, none⟩ = some (.slice A0 n0 c0) ∧ W'.cell? ⟨w.heap.size, 5, none⟩ = some (.slice A n1 c1))
      (first | with_reducible exact HB.out _ Y0.out | with_reducible exact HB.out _ y1 | with_reducible exact HB.out _ y2)
      (first
        | (go_at_call 16
           refine (HVAL.out _ Y0.out).mono ?_
           rintro e v1 ⟨z1, rfl, m1, x1⟩
           obtain ⟨bq, A1, n1', c1', B1, k1, d1, rfl⟩ := m1.unpack
           have y1 : Ext W v1 := Ext.trans Y0.out x1)
        | (go_at_call 14
           refine (HSG.out _ _ m1).mono ?_
           rintro e v2 ⟨rfl, x2⟩
           have y2 : Ext W v2 := Ext.trans y1 x2)
        | (go_at_call 31
           refine (Holds_ref _ _ _).mono ?_
           rintro e v4 ⟨rfl, rfl⟩))
    all_goals
      have X3 := Lib.hid (HWX.out.trans y2)
      clear y1 x1 y2 x2 m1 HB Y0
      go_wp2_with fail
      go_ret
      exact ⟨by rw [HT.out]; rfl, X3.out⟩
  have q2 : (t.kind == 2) = false := by simpa using k2
  clear b1 b2 b3 b4 b5
  by_cases k3 : t.kind = 3
  · have htv := HTV.out
    rw [if_neg k1, if_neg k2, if_pos k3] at htv
    have HT := Lib.hid htv
    have q3 : (t.kind == 3) = true := by simpa using k3
    have q4 : (t.kind == 4) = false := by simp; omega
    have HB : Hid (∀ W' ad (m : Mx) B0 m0 d0 B1 m1 d1 K2 n2 c2 k, W'.cell? ⟨w.heap.size, 0, none⟩ = some (.int .i64 t.kind) → W'.cell? ⟨w.heap.size, 6, none⟩ = some (.slice (some ad) t.ks.length c) → MxAt W' (Addr.add ad (k * 7)) m (.slice B0 m0 d0) (.slice B1 m1 d1) (.slice K2 n2 c2) → ad.block < W'.heap.size → w.heap.size < W'.heap.size → ∀ W2, Ext W' W2 → (Ext W' W2 ∧ W2.cell? ⟨w.heap.size, 0, none⟩ = some (.int .i64 t.kind) ∧ W2.cell? ⟨w.heap.size, 6, none⟩ = some (.slice (some ad) t.ks.length c) ∧ W2.cell? (Addr.add ad (k * 7)) = some (.int .i64 m.kind) ∧ W2.cell? ⟨(Addr.add ad (k * 7)).block, (Addr.add ad (k * 7)).off + 1, none⟩ = some (.int .i64 m.rel) ∧ W2.cell? ⟨(Addr.add ad (k * 7)).block, (Addr.add ad (k * 7)).off + 2, none⟩ = some (.int .i64 m.p.lv) ∧ W2.cell? ⟨(Addr.add ad (k * 7)).block, (Addr.add ad (k * 7)).off + 3, none⟩ = some (.bool m.p.neg) ∧ W2.cell? ⟨(Addr.add ad (k * 7)).block, (Addr.add ad (k * 7)).off + 4, none⟩ = some (.slice B0 m0 d0) ∧ W2.cell? ⟨(Addr.add ad (k * 7)).block, (Addr.add ad (k * 7)).off + 5, none⟩ = some (.slice B1 m1 d1) ∧ W2.cell? ⟨(Addr.add ad (k * 7)).block, (Addr.add ad (k * 7)).off + 6, none⟩ = some (.slice K2 n2 c2))) := by
      refine Lib.hid ?_
      intro W' ad m B0 m0 d0 B1 m1 d1 K2 n2 c2 k h0 h6 hat hb hw W2 hx
      obtain ⟨e0, e1, e2, e3, e4, e5, e6⟩ := hat.ext hx (by rw [block_of_add]; exact hb)
      exact ⟨hx, (hx.cell (p := ⟨w.heap.size, 0, none⟩) hw).trans h0, (hx.cell (p := ⟨w.heap.size, 6, none⟩) hw).trans h6, e0, e1, e2, e3, e4, e5, e6⟩
    clear k1 k2 k3 HTV htv HVAL
    go_wp2_with fail
    clear hW b0 b6
    go_loopw [26] (fun iv wr => ∃ (k : Nat), k ≤ t.ks.length ∧ iv = .int .i64 k ∧ Hid (allM (rho xs) (t.ks.take k) = true ∧ Ext W wr)) (fun iv _ => t.ks.length - (intOf iv).toNat)
    case atStart => exact ⟨0, Nat.zero_le _, rfl, ⟨by simp [allM], Ext.refl W⟩⟩
    case round =>
      obtain ⟨k, hk, rfl, ⟨hall, hxw⟩⟩ := hrel
      have HALL := Lib.hid hall
      have HXW := Lib.hid hxw
      have hws : w.heap.size < wr.heap.size := by have := hxw.size; omega
      obtain ⟨b0, -, -, -, -, -, b6⟩ := HBX.out.ext hxw (by omega)
      by_cases hlt : k < t.ks.length
      · obtain ⟨ad, B0, m0, d0, B1, m1, d1, K2, n2, c2, rfl, hadb, hnd, hkt⟩ := MxsAt.kid H4.out k hlt
        have hnd' := hnd.ext (HX0.out.trans hxw) (by rw [block_of_add]; exact hadb)
        have hHB := HB.out wr ad t.ks[k] B0 m0 d0 B1 m1 d1 K2 n2 c2 k b0 b6 hnd' (Nat.lt_of_lt_of_le hadb (HX0.out.trans hxw).size) hws
        have HBB := Lib.hid hHB
        have HKID := Lib.hid (fun W' (hW' : Ext wr W') => IH.out t.ks[k] _ W' (by have := HSZ.out k hlt; omega) (by have := HSZ.out k hlt; omega) (by subst hN; exact eachM_mem HEA.out (List.getElem_mem hlt)) hkt ((HX0.out.trans hxw).trans hW'))
        obtain ⟨e0, e1, e2, e3, e4, e5, e6⟩ := hnd'
        have HST : Hid (allM (rho xs) (t.ks.take (k + 1)) = (allM (rho xs) (t.ks.take k) && t.ks[k].tv (rho xs))) := by
          have : allM (rho xs) (t.ks.take (k + 1)) = (allM (rho xs) (t.ks.take k) && t.ks[k].tv (rho xs)) := allM_take _ _ _ hlt
          exact this
        clear hkt hnd hadb hall hxw hHB HB
        generalize t.ks[k].tv (rho xs) = tk at *
        unfold mxV at HKID
        have y0 : Ext wr wr.drew := (Ext.refl wr).drew
        have Y0 := Lib.hid y0
        clear y0
        go_wp2_with fail
        clear e0 e1 e2 e3 e4 e5 e6 b0 b6
        go_region_held3 (fun W2 => Ext wr W2 ∧ W2.cell? ⟨w.heap.size, 0, none⟩ = some (.int .i64 t.kind) ∧ W2.cell? ⟨w.heap.size, 6, none⟩ = some (.slice (some ad) t.ks.length c) ∧ W2.cell? (Addr.add ad (k * 7)) = some (.int .i64 t.ks[k].kind) ∧ W2.cell? ⟨(Addr.add ad (k * 7)).block, (Addr.add ad (k * 7)).off + 1, none⟩ = some (.int .i64 t.ks[k].rel) ∧ W2.cell? ⟨(Addr.add ad (k * 7)).block, (Addr.add ad (k * 7)).off + 2, none⟩ = some (.int .i64 t.ks[k].p.lv) ∧ W2.cell? ⟨(Addr.add ad (k * 7)).block, (Addr.add ad (k * 7)).off + 3, none⟩ = some (.bool t.ks[k].p.neg) ∧ W2.cell? ⟨(Addr.add ad (k * 7)).block, (Addr.add ad (k * 7)).off + 4, none⟩ = some (.slice B0 m0 d0) ∧ W2.cell? ⟨(Addr.add ad (k * 7)).block, (Addr.add ad (k * 7)).off + 5, none⟩ = some (.slice B1 m1 d1) ∧ W2.cell? ⟨(Addr.add ad (k * 7)).block, (Addr.add ad (k * 7)).off + 6, none⟩ = some (.slice K2 n2 c2))
          (first | with_reducible exact HBB.out _ Y0.out | with_reducible exact HBB.out _ y1)
          ((go_at_call 11
            refine (HKID.out _ Y0.out).mono ?_
            rintro e v1 ⟨rfl, x1⟩
            have y1 : Ext wr v1 := Ext.trans Y0.out x1))
        all_goals
          have X2 := Lib.hid (HXW.out.trans y1)
          obtain ⟨-, b0, b6, -⟩ := HBB.out _ y1
          clear y1 x1 HBB HKID Y0
          cases tk
          · have HF : Hid (t.tv (rho xs) = false) := by
              have h := HST.out
              rw [Bool.and_false] at h
              have : t.tv (rho xs) = false := by rw [HT.out]; exact allM_cut _ _ _ h
              exact this
            go_wp2_with fail
            go_ret
            exact ⟨by rw [HF.out]; rfl, HWX.out.trans X2.out⟩
          · have HF : Hid (allM (rho xs) (t.ks.take (k + 1)) = true) := by
              have h := HST.out
              rw [HALL.out] at h
              exact h
            go_wp2_with fail
            go_roundw
            case rel => exact ⟨k + 1, by omega, by go_num, ⟨HF.out, X2.out⟩⟩
            case measure => simp [intOf]; omega
      · have hke : k = t.ks.length := by omega
        have HF : Hid (t.tv (rho xs) = true) := by
          have h := HALL.out
          rw [hke, List.take_length] at h
          have : t.tv (rho xs) = true := by rw [HT.out]; exact h
          exact this
        clear hke hall hxw
        go_wp2_with fail
        go_ret
        exact ⟨by rw [HF.out]; rfl, HWX.out.trans HXW.out⟩
  have q3 : (t.kind == 3) = false := by simpa using k3
  by_cases k4 : t.kind = 4
  · have htv := HTV.out
    rw [if_neg k1, if_neg k2, if_neg k3, if_pos k4] at htv
    have HT := Lib.hid htv
    have q4 : (t.kind == 4) = true := by simpa using k4
    have q4b : True := trivial
    have HB : Hid (∀ W' ad (m : Mx) B0 m0 d0 B1 m1 d1 K2 n2 c2 k, W'.cell? ⟨w.heap.size, 0, none⟩ = some (.int .i64 t.kind) → W'.cell? ⟨w.heap.size, 6, none⟩ = some (.slice (some ad) t.ks.length c) → MxAt W' (Addr.add ad (k * 7)) m (.slice B0 m0 d0) (.slice B1 m1 d1) (.slice K2 n2 c2) → ad.block < W'.heap.size → w.heap.size < W'.heap.size → ∀ W2, Ext W' W2 → (Ext W' W2 ∧ W2.cell? ⟨w.heap.size, 0, none⟩ = some (.int .i64 t.kind) ∧ W2.cell? ⟨w.heap.size, 6, none⟩ = some (.slice (some ad) t.ks.length c) ∧ W2.cell? (Addr.add ad (k * 7)) = some (.int .i64 m.kind) ∧ W2.cell? ⟨(Addr.add ad (k * 7)).block, (Addr.add ad (k * 7)).off + 1, none⟩ = some (.int .i64 m.rel) ∧ W2.cell? ⟨(Addr.add ad (k * 7)).block, (Addr.add ad (k * 7)).off + 2, none⟩ = some (.int .i64 m.p.lv) ∧ W2.cell? ⟨(Addr.add ad (k * 7)).block, (Addr.add ad (k * 7)).off + 3, none⟩ = some (.bool m.p.neg) ∧ W2.cell? ⟨(Addr.add ad (k * 7)).block, (Addr.add ad (k * 7)).off + 4, none⟩ = some (.slice B0 m0 d0) ∧ W2.cell? ⟨(Addr.add ad (k * 7)).block, (Addr.add ad (k * 7)).off + 5, none⟩ = some (.slice B1 m1 d1) ∧ W2.cell? ⟨(Addr.add ad (k * 7)).block, (Addr.add ad (k * 7)).off + 6, none⟩ = some (.slice K2 n2 c2))) := by
      refine Lib.hid ?_
      intro W' ad m B0 m0 d0 B1 m1 d1 K2 n2 c2 k h0 h6 hat hb hw W2 hx
      obtain ⟨e0, e1, e2, e3, e4, e5, e6⟩ := hat.ext hx (by rw [block_of_add]; exact hb)
      exact ⟨hx, (hx.cell (p := ⟨w.heap.size, 0, none⟩) hw).trans h0, (hx.cell (p := ⟨w.heap.size, 6, none⟩) hw).trans h6, e0, e1, e2, e3, e4, e5, e6⟩
    clear k1 k2 k3 k4 HTV htv HVAL
    go_wp2_with fail
    clear hW b0 b6
    go_loopw [26] (fun iv wr => ∃ (k : Nat), k ≤ t.ks.length ∧ iv = .int .i64 k ∧ Hid (anyM (rho xs) (t.ks.take k) = false ∧ Ext W wr)) (fun iv _ => t.ks.length - (intOf iv).toNat)
    case atStart => exact ⟨0, Nat.zero_le _, rfl, ⟨by simp [anyM], Ext.refl W⟩⟩
    case round =>
      obtain ⟨k, hk, rfl, ⟨hall, hxw⟩⟩ := hrel
      have HALL := Lib.hid hall
      have HXW := Lib.hid hxw
      have hws : w.heap.size < wr.heap.size := by have := hxw.size; omega
      obtain ⟨b0, -, -, -, -, -, b6⟩ := HBX.out.ext hxw (by omega)
      by_cases hlt : k < t.ks.length
      · obtain ⟨ad, B0, m0, d0, B1, m1, d1, K2, n2, c2, rfl, hadb, hnd, hkt⟩ := MxsAt.kid H4.out k hlt
        have hnd' := hnd.ext (HX0.out.trans hxw) (by rw [block_of_add]; exact hadb)
        have hHB := HB.out wr ad t.ks[k] B0 m0 d0 B1 m1 d1 K2 n2 c2 k b0 b6 hnd' (Nat.lt_of_lt_of_le hadb (HX0.out.trans hxw).size) hws
        have HBB := Lib.hid hHB
        have HKID := Lib.hid (fun W' (hW' : Ext wr W') => IH.out t.ks[k] _ W' (by have := HSZ.out k hlt; omega) (by have := HSZ.out k hlt; omega) (by subst hN; exact eachM_mem HEA.out (List.getElem_mem hlt)) hkt ((HX0.out.trans hxw).trans hW'))
        obtain ⟨e0, e1, e2, e3, e4, e5, e6⟩ := hnd'
        have HST : Hid (anyM (rho xs) (t.ks.take (k + 1)) = (anyM (rho xs) (t.ks.take k) || t.ks[k].tv (rho xs))) := by
          have : anyM (rho xs) (t.ks.take (k + 1)) = (anyM (rho xs) (t.ks.take k) || t.ks[k].tv (rho xs)) := anyM_take _ _ _ hlt
          exact this
        clear hkt hnd hadb hall hxw hHB HB
        generalize t.ks[k].tv (rho xs) = tk at *
        unfold mxV at HKID
        have y0 : Ext wr wr.drew := (Ext.refl wr).drew
        have Y0 := Lib.hid y0
        clear y0
        go_wp2_with fail
        clear e0 e1 e2 e3 e4 e5 e6 b0 b6
        go_region_held3 (fun W2 => Ext wr W2 ∧ W2.cell? ⟨w.heap.size, 0, none⟩ = some (.int .i64 t.kind) ∧ W2.cell? ⟨w.heap.size, 6, none⟩ = some (.slice (some ad) t.ks.length c) ∧ W2.cell? (Addr.add ad (k * 7)) = some (.int .i64 t.ks[k].kind) ∧ W2.cell? ⟨(Addr.add ad (k * 7)).block, (Addr.add ad (k * 7)).off + 1, none⟩ = some (.int .i64 t.ks[k].rel) ∧ W2.cell? ⟨(Addr.add ad (k * 7)).block, (Addr.add ad (k * 7)).off + 2, none⟩ = some (.int .i64 t.ks[k].p.lv) ∧ W2.cell? ⟨(Addr.add ad (k * 7)).block, (Addr.add ad (k * 7)).off + 3, none⟩ = some (.bool t.ks[k].p.neg) ∧ W2.cell? ⟨(Addr.add ad (k * 7)).block, (Addr.add ad (k * 7)).off + 4, none⟩ = some (.slice B0 m0 d0) ∧ W2.cell? ⟨(Addr.add ad (k * 7)).block, (Addr.add ad (k * 7)).off + 5, none⟩ = some (.slice B1 m1 d1) ∧ W2.cell? ⟨(Addr.add ad (k * 7)).block, (Addr.add ad (k * 7)).off + 6, none⟩ = some (.slice K2 n2 c2))
          (first | with_reducible exact HBB.out _ Y0.out | with_reducible exact HBB.out _ y1)
          ((go_at_call 11
            refine (HKID.out _ Y0.out).mono ?_
            rintro e v1 ⟨rfl, x1⟩
            have y1 : Ext wr v1 := Ext.trans Y0.out x1))
        all_goals
          have X2 := Lib.hid (HXW.out.trans y1)
          obtain ⟨-, b0, b6, -⟩ := HBB.out _ y1
          clear y1 x1 HBB HKID Y0
          cases tk
          · have HF : Hid (anyM (rho xs) (t.ks.take (k + 1)) = false) := by
              have h := HST.out
              rw [HALL.out] at h
              exact h
            go_wp2_with fail
            go_roundw
            case rel => exact ⟨k + 1, by omega, by go_num, ⟨HF.out, X2.out⟩⟩
            case measure => simp [intOf]; omega
          · have HF : Hid (t.tv (rho xs) = true) := by
              have h := HST.out
              rw [Bool.or_true] at h
              have : t.tv (rho xs) = true := by rw [HT.out]; exact anyM_cut _ _ _ h
              exact this
            go_wp2_with fail
            go_ret
            exact ⟨by rw [HF.out]; rfl, HWX.out.trans X2.out⟩
      · have hke : k = t.ks.length := by omega
        have HF : Hid (t.tv (rho xs) = false) := by
          have h := HALL.out
          rw [hke, List.take_length] at h
          have : t.tv (rho xs) = false := by rw [HT.out]; exact h
          exact this
        clear hke hall hxw
        go_wp2_with fail
        go_ret
        exact ⟨by rw [HF.out]; rfl, HWX.out.trans HXW.out⟩
  · have htv := HTV.out
    rw [if_neg k1, if_neg k2, if_neg k3, if_neg k4] at htv
    have HT := Lib.hid htv
    have q4 : (t.kind == 4) = false := by simpa using k4
    clear k1 k2 k3 k4 HTV htv HVAL
    go_wp2_with fail
    go_ret
    exact ⟨by rw [HT.out]; rfl, HWX.out⟩
theorem rat_any {w : World} {q : Nat → Prop} {L : Nat} {xv : Value} {xs : List Rat} (hL : 1 ≤ L) (hL2 : L ≤ 1099511627776) (hxs : RsV w L xv xs) (t : Mx) (v : Value) (hbig : t.sz ≤ 1000000) (heach : t.each (fun p => p.Can ∧ p.lv ≤ xs.length ∧ p.eb L ≤ 1099511627776)) (h : MxV w q t v) : Calls Tryz.prog 11 #[v, xv] w (RetB (t.tv (rho xs)) w) :=
  rat_ih hL hL2 hxs (t.sz + 1) t v w (Nat.lt_succ_self _) hbig heach h (Ext.refl w)
end Go.Proofs.YtdcapcpchcnidaaGreat

/- Reference 38: Polys, Level. -/
namespace Go.Proofs.YtdcapcpchcnidaaGreat
open Go.RowKit

mutual
/-- cylinderref38.Polys -/
def Mx.raw : Mx → List Pl
  | .mk k _ p ks => if k = 2 then [p] else rawM ks
def rawM : List Mx → List Pl
  | [] => []
  | t :: r => t.raw ++ rawM r
end
theorem rawM_append (a b : List Mx) : rawM (a ++ b) = rawM a ++ rawM b := by
  induction a with
  | nil => rfl
  | cons x r ih => simp only [List.cons_append, rawM, ih, List.append_assoc]
theorem rawM_take (l : List Mx) (k : Nat) (hk : k < l.length) : rawM (l.take (k + 1)) = rawM (l.take k) ++ l[k].raw := by
  rw [List.take_succ_eq_append_getElem hk, rawM_append]; simp [rawM]
theorem Mx.raw_eq (t : Mx) : t.raw = if t.kind = 2 then [t.p] else rawM t.ks := by
  cases t; rw [Mx.raw]; rfl
mutual
theorem Mx.raw_len : ∀ t : Mx, t.raw.length ≤ t.sz
  | .mk k r p ks => by
    have := rawM_len ks
    rw [Mx.raw, Mx.sz]
    split
    · simp
    · omega
theorem rawM_len : ∀ l : List Mx, (rawM l).length ≤ mxSz l
  | [] => by simp [rawM]
  | t :: r => by
    have h1 := t.raw_len
    have h2 := rawM_len r
    rw [rawM, mxSz, List.length_append]; omega
end
/-- A row of polynomials that lie in old memory, or in the call's. -/
def RetAt (w0 : World) (l : List Pl) (w : World) (e : Ending) (w' : World) : Prop := ∃ A c, e = .returned (.slice A l.length c) ∧ PlsAt w' (fun b => b < w0.heap.size ∨ w.heap.size ≤ b) l A 0 ∧ Ext w w'
theorem RetAt.congr {w0 : World} {l l' : List Pl} {w w' : World} {e : Ending} (h : l = l') (hr : RetAt w0 l' w e w') : RetAt w0 l w e w' := by rw [h]; exact hr
def RPolIH (w0 : World) (q : Nat → Prop) (n : Nat) : Prop := ∀ (t : Mx) (v : Value) (w : World), t.sz < n → t.sz ≤ 1000000 → MxV w0 q t v → Ext w0 w → Calls Tryz.prog 30 #[v] w (RetAt w0 t.raw w)

set_option maxRecDepth 100000 in
set_option maxHeartbeats 4000000 in
theorem rpol_ih (w0 : World) (q : Nat → Prop) (n : Nat) : RPolIH w0 q n := by
  induction n with
  | zero => intro t v w h; omega
  | succ n ih =>
  intro t v w hn hbig h hx0
  have hkl : t.ks.length ≤ 1000000 := by have := t.ks_len; omega
  have IH := Lib.hid ih
  have HSZ := Lib.hid (fun k hk => t.kid_le k hk)
  have HKS : Hid (∀ (k : Nat) (hk : k < t.ks.length), (rawM (t.ks.take k)).length + t.ks[k].sz ≤ t.sz) := by
    have : ∀ (k : Nat) (hk : k < t.ks.length), (rawM (t.ks.take k)).length + t.ks[k].sz ≤ t.sz := by
      intro k hk
      have h1 := rawM_len (t.ks.take k)
      have h2 := mxSz_take t.ks k hk
      have h3 := mxSz_take_le t.ks (k + 1)
      have h4 : mxSz t.ks < t.sz := by cases t; simp only [Mx.sz, Mx.ks]; omega
      omega
    exact this
  obtain ⟨A0, n0, c0, A, n1, c1, K, c, rfl, hp, hl1, hl2, h4⟩ := h.open_
  have hp0 : PlV w0 (fun b => b < w0.heap.size) t.p (plV t.p (.slice A0 n0 c0) (.slice A n1 c1)) := PlV.turn_ (Nat.le_refl _) (fun _ _ h => h) (fun b hb _ => ⟨hb, rfl⟩) hp
  have HP := Lib.hid hp0
  have H4 := Lib.hid h4
  have HRW := Lib.hid t.raw_eq
  have HX0 := Lib.hid hx0
  have hx0s := hx0.size
  obtain ⟨W, hW⟩ : ∃ W, w.alloc (.cells #[.int .i64 t.kind, .int .i64 t.rel, .int .i64 t.p.lv, .bool t.p.neg, .slice A0 n0 c0, .slice A n1 c1, .slice K t.ks.length c] 32) = W := ⟨_, rfl⟩
  have hWx : Ext w W := by rw [← hW]; exact (Ext.refl w).alloc _
  have hWs : W.heap.size = w.heap.size + 1 := by rw [← hW]; simp
  have hbx : Box7 W w.heap.size t (.slice A0 n0 c0) (.slice A n1 c1) (.slice K t.ks.length c) := by rw [← hW]; exact Box7.new w t _ _ _ _
  have HWX := Lib.hid hWx
  have HBX := Lib.hid hbx
  obtain ⟨b0, b1, b2, b3, b4, b5, b6⟩ := hbx
  clear h ih h4 hWx hp hx0 hp0
  unfold mxV at *
  go_enter Tryz.func30, Tryz.ntmps30
  by_cases k2 : t.kind = 2
  · have hlv := HRW.out
    rw [if_pos k2] at hlv
    have q2 : (t.kind == 2) = true := by simpa using k2
    have HF : Hid (RetAt w0 t.raw w (.returned (.slice (some ⟨W.heap.size, 0, none⟩) 1 1)) (W.alloc (.cells #[.int .i64 t.p.lv, .bool t.p.neg, .slice A0 n0 c0, .slice A n1 c1] 29))) := by
      have hxa : Ext w (W.alloc (.cells #[.int .i64 t.p.lv, .bool t.p.neg, .slice A0 n0 c0, .slice A n1 c1] 29)) := HWX.out.alloc _
      refine RetAt.congr hlv ⟨_, 1, rfl, ?_, hxa⟩
      unfold PlsAt
      refine ⟨⟨⟨W.heap.size, 0, none⟩, _, _, rfl, by simp, .inr HWX.out.size, ?_, (HP.out.ext (HX0.out.trans hxa)).mono fun b hb => .inl hb⟩, by unfold PlsAt; trivial⟩
      rw [Nat.zero_mul, add_mk, Nat.zero_add]
      refine ⟨?_, ?_, ?_, ?_⟩ <;> simp [go_sem]
    rw [hWs] at HF
    clear hlv HRW k2
    go_wp2_with fail
    go_ret
    exact HF.out
  · have hlv := HRW.out
    rw [if_neg k2] at hlv
    have HL := Lib.hid hlv
    have q2 : (t.kind == 2) = false := by simpa using k2
    clear hlv HRW k2
    go_wp2_with fail
    clear hW b0 b1 b2 b3 b4 b5 b6
    go_loopw [3, 14] (fun ov iv wr => ∃ (k : Nat), k ≤ t.ks.length ∧ iv = .int .i64 k ∧ Hid (QRow (w.heap.size + 1) (fun b => b < w0.heap.size ∨ w.heap.size ≤ b) wr ov (rawM (t.ks.take k)) ∧ Ext W wr)) (fun _ iv _ => t.ks.length - (intOf iv).toNat)
    case atStart => exact ⟨0, Nat.zero_le _, rfl, ⟨by simpa [rawM] using QRow.nil _ _ _, Ext.refl W⟩⟩
    case round =>
      obtain ⟨k, hk, rfl, ⟨hrow, hxw⟩⟩ := hrel
      have HROW := Lib.hid hrow
      have HXW := Lib.hid hxw
      obtain ⟨b0, b1, b2, b3, b4, b5, b6⟩ := HBX.out.ext hxw (by omega)
      obtain ⟨TB, Td, rfl, -, -⟩ := hrow.len
      by_cases hlt : k < t.ks.length
      · have hxr : Ext w0 wr := (HX0.out.trans HWX.out).trans hxw
        have hxs := hxw.size
        obtain ⟨ad, B0, m0, d0, B1, m1, d1, K2, n2, c2, rfl, hadb, hnd, hkt⟩ := MxsAt.kid H4.out k hlt
        obtain ⟨e0, e1, e2, e3, e4, e5, e6⟩ := hnd.ext hxr (by rw [block_of_add]; exact hadb)
        have hks := HKS.out k hlt
        have hkid := IH.out t.ks[k] _ wr (by have := HSZ.out k hlt; omega) (by have := HSZ.out k hlt; omega) hkt hxr
        have HKID := Lib.hid hkid
        have hrl := t.ks[k].raw_len
        have HNX : Hid (rawM (t.ks.take (k + 1)) = rawM (t.ks.take k) ++ t.ks[k].raw) := by
          have : rawM (t.ks.take (k + 1)) = rawM (t.ks.take k) ++ t.ks[k].raw := rawM_take _ _ hlt
          exact this
        have hlen : (rawM (t.ks.take k)).length + t.ks[k].raw.length ≤ 1000000000 := by omega
        clear hkid hks hkt hnd hadb hrow hxr hxw hrl
        generalize t.ks[k].raw = pk at *
        generalize rawM (t.ks.take k) = lk at *
        have HAPP : Hid (∀ w2 A2 c2, PlsAt w2 (fun b => b < w0.heap.size ∨ wr.heap.size ≤ b) pk A2 0 → Ext wr w2 → ∃ v4 w4, (Builtin.append_ #[27, 27] 27 #[.slice TB lk.length Td, .slice A2 pk.length c2]).run Tryz.prog w2 = .ok v4 w4 ∧ QRow (w.heap.size + 1) (fun b => b < w0.heap.size ∨ w.heap.size ≤ b) w4 v4 (rawM (t.ks.take (k + 1))) ∧ Ext W w4) := by
          intro w2 A2 c2 hat hx2
          have hx2s := hx2.size
          obtain ⟨v4, w4, hrun, g4, n4, r4, o4⟩ := (HROW.out.ext hx2).append (by omega) (PlsAt.turn (Nat.le_refl _) (fun _ _ h => h) (fun b hb hp => ⟨⟨fun e => by have := HROW.out.own e; omega, by omega⟩, rfl⟩) _ _ _ hat) hlen c2 27
          refine ⟨v4, w4, hrun, by rw [HNX.out]; exact r4, Below.grown (HXW.out.trans hx2).below g4 (by omega) (fun b e => by have := HROW.out.own e; omega)⟩
        unfold mxV at HKID
        clear HXW HROW HNX hlen
        go_wp2_with fail
        refine HKID.out.mono ?_
        rintro e w2 ⟨A2, c2', rfl, hat, x2⟩
        obtain ⟨v4, w4, hrun, hr4, hx4⟩ := HAPP.out w2 A2 c2' hat x2
        have HR4 := Lib.hid hr4
        have HX4 := Lib.hid hx4
        clear hat x2 HAPP HKID hr4 hx4 e0 e1 e2 e3 e4 e5 e6 b0 b1 b2 b3 b4 b5 b6
        go_wp2_with (at_builtin
                     refine wpList_append_run rfl (.tmp 17) (.tmp 23) _ _ rfl _ _ _ _ rfl rfl hrun ?_)
        clear hrun
        go_wp2_with fail
        go_roundw
        case rel => exact ⟨k + 1, by omega, by go_num, ⟨HR4.out, HX4.out⟩⟩
        case measure => simp [intOf]; omega
      · have hke : k = t.ks.length := by omega
        subst hke
        have hf : RetAt w0 t.raw w (.returned (.slice TB (rawM (t.ks.take t.ks.length)).length Td)) wr := by
          have hr := HROW.out
          rw [List.take_length] at hr ⊢
          exact RetAt.congr HL.out ⟨_, _, rfl, PlsAt.turn (Nat.le_refl _) (fun _ _ h => h) (fun b hb hp => ⟨by omega, rfl⟩) _ _ _ hr.at_, HWX.out.trans HXW.out⟩
        have HF := Lib.hid hf
        clear hf HROW hrow hxw
        generalize (rawM (t.ks.take t.ks.length)).length = ll at *
        go_wp2_with fail
        go_ret
        exact HF.out
/-- cylinderref38.Level -/
def lvR (a : Int) : List Pl → Int
  | [] => a
  | p :: r => lvR (max a p.lv) r
theorem lvR_append (a : Int) (l r : List Pl) : lvR a (l ++ r) = lvR (lvR a l) r := by
  induction l generalizing a with
  | nil => rfl
  | cons t l ih => simp only [List.cons_append, lvR]; exact ih _
theorem lvR_take (a : Int) (l : List Pl) (k : Nat) (hk : k < l.length) : lvR a (l.take (k + 1)) = max (lvR a (l.take k)) l[k].lv := by
  rw [List.take_succ_eq_append_getElem hk, lvR_append]; rfl

set_option maxRecDepth 100000 in
set_option maxHeartbeats 2000000 in
theorem refLev_any {q : Nat → Prop} (t : Mx) (v : Value) (w : World) (hbig : t.sz ≤ 1000000) (h : MxV w q t v) : Calls Tryz.prog 10 #[v] w (RetI (lvR 0 t.raw) w) := by
  have HH := Lib.hid h
  have hrl := t.raw_len
  obtain ⟨A0, n0, c0, A, n1, c1, K, c, rfl, hp, hl1, hl2, h4⟩ := h.open_
  obtain ⟨W, hW⟩ : ∃ W, w.alloc (.cells #[.int .i64 t.kind, .int .i64 t.rel, .int .i64 t.p.lv, .bool t.p.neg, .slice A0 n0 c0, .slice A n1 c1, .slice K t.ks.length c] 32) = W := ⟨_, rfl⟩
  have hWx : Ext w W := by rw [← hW]; exact (Ext.refl w).alloc _
  obtain ⟨b0, b1, b2, b3, b4, b5, b6⟩ : Box7 W w.heap.size t (.slice A0 n0 c0) (.slice A n1 c1) (.slice K t.ks.length c) := by rw [← hW]; exact Box7.new w t _ _ _ _
  have HWX := Lib.hid hWx
  have HC := Lib.hid (rpol_ih w q (t.sz + 1) t _ W (Nat.lt_succ_self _) hbig HH.out hWx)
  clear h hp h4 hWx
  generalize t.raw = l at *
  unfold mxV at *
  go_enter Tryz.func10, Tryz.ntmps10
  go_wp2_with fail
  clear hW b0 b1 b2 b3 b4 b5 b6
  refine HC.out.mono ?_
  rintro e w2 ⟨A2, c2, rfl, hat, x2⟩
  have HAT := Lib.hid hat
  have X2 := Lib.hid (HWX.out.trans x2)
  clear hat x2 HC
  go_wp2_with fail
  go_loopw [3, 10] (fun mv iv wr => ∃ (k : Nat), k ≤ l.length ∧ iv = .int .i64 k ∧ wr = w2 ∧ Hid (mv = .int .i64 (lvR 0 (l.take k)))) (fun _ iv _ => l.length - (intOf iv).toNat)
  case atStart => exact ⟨0, Nat.zero_le _, rfl, rfl, by simp [lvR]; exact Lib.hid trivial⟩
  case round =>
    obtain ⟨k, hk, rfl, rfl, ⟨rfl⟩⟩ := hrel
    by_cases hlt : k < l.length
    · obtain ⟨ad, s, K2, rfl, hadb, -, ⟨e0, e1, e2, e3⟩, -⟩ := PlsAt.get_ l A2 0 HAT.out k hlt
      rw [Nat.zero_add] at e0 e1 e2 e3
      have HSTEP : Hid (lvR 0 (l.take (k + 1)) = max (lvR 0 (l.take k)) l[k].lv) := by
        have : lvR 0 (l.take (k + 1)) = max (lvR 0 (l.take k)) l[k].lv := lvR_take _ _ _ hlt
        exact this
      generalize lvR 0 (l.take k) = mm at *
      generalize l[k].lv = lk at *
      go_wp2_with fail
      go_roundw
      case rel => exact ⟨k + 1, by omega, by go_num, trivial, Lib.hid (by rw [HSTEP.out])⟩
      case measure => simp [intOf]; omega
    · have hke : k = l.length := by omega
      have HF : Hid (lvR 0 l = lvR 0 (l.take k)) := by
        rw [hke, List.take_length]
        exact Lib.hid rfl
      clear hke
      generalize lvR 0 (l.take k) = mm at *
      go_wp2_with fail
      go_ret
      exact ⟨by rw [HF.out]; rfl, X2.out⟩
end Go.Proofs.YtdcapcpchcnidaaGreat
