/- Layer 40: evaluate.At, Poly. -/
import Derived.Test.YtdcapcpchcnidaaGreatMm49
import Derived.Test.YtdcapcpchcnidaaGreatMm53
import Derived.Test.YtdcapcpchcnidaaGreatMm50
import Derived.Test.YtdcapcpchcnidaaGreatMm46
import Derived.Deep.CutBlock

namespace Go.Proofs.YtdcapcpchcnidaaGreat
open Go.RowKit

mutual
theorem Mx.small_each : ∀ t : Mx, t.small → t.each (fun p => p.sz ≤ 40 ∧ p.dm ≤ 4)
  | .mk _ _ p ks, h => by rw [Mx.small] at h; rw [Mx.each]; exact ⟨h.1, mxSmall_each ks h.2⟩
theorem mxSmall_each : ∀ l : List Mx, mxSmall l → eachM (fun p => p.sz ≤ 40 ∧ p.dm ≤ 4) l
  | [], _ => by rw [eachM]; trivial
  | t :: r, h => by rw [mxSmall] at h; rw [eachM]; exact ⟨t.small_each h.1, mxSmall_each r h.2⟩
end
theorem eb_of {p : Pl} {D L K : Nat} (hdm : p.dm ≤ D) (hs : p.sz * (D + L + 4) ≤ K) : p.eb L ≤ K := by
  have := Pl.eb_sz L p D hdm
  omega
set_option maxRecDepth 100000 in
set_option maxHeartbeats 2000000 in
theorem mat_any {w : World} {q : Nat → Prop} {L : Nat} {xv : Value} {xs : List Rat} (hL : 1 ≤ L) (hL2 : L ≤ 1099511627776) (hxs : RsV w L xv xs) (t : Mx) (v : Value) (hbig : t.sz ≤ 1000000) (hsm : t.small) (heach : t.each (fun p => p.eb L ≤ 1099511627776)) (h : MxV w q t v) :
    Calls Tryz.prog 9 #[v, xv] w (RetBE (if t.lvl ≤ xs.length then (t.tv (rho xs), 0) else (false, 4)) w) := by
  have HH := Lib.hid h
  have HXS := Lib.hid hxs
  obtain ⟨A0, n0, c0, A, n1, c1, K, c, rfl, hp, hl1, hl2, h4⟩ := h.open_
  obtain ⟨XA, Xc, rfl, -⟩ := id hxs
  obtain ⟨W, hW⟩ : ∃ W, (w.alloc (.cells #[.int .i64 t.kind, .int .i64 t.rel, .int .i64 t.p.lv, .bool t.p.neg, .slice A0 n0 c0, .slice A n1 c1, .slice K t.ks.length c] 32)).alloc (.cells #[.slice XA xs.length Xc] 33) = W := ⟨_, rfl⟩
  have hWx : Ext w W := by rw [← hW]; exact ((Ext.refl w).alloc _).alloc _
  have hWs : W.heap.size = w.heap.size + 1 + 1 := by rw [← hW]; simp
  have hbx : Box7 W w.heap.size t (.slice A0 n0 c0) (.slice A n1 c1) (.slice K t.ks.length c) := by rw [← hW]; exact (Box7.new w t _ _ _ _).ext ((Ext.refl _).alloc _) (by simp)
  have hxc : W.cell? ⟨w.heap.size + 1, 0, none⟩ = some (.slice XA xs.length Xc) := by rw [← hW]; simp [go_sem]
  have HWX := Lib.hid hWx
  have HBX := Lib.hid hbx
  have HXC := Lib.hid hxc
  have HLV : Hid (∀ W', Ext W W' → Calls Tryz.prog 26 #[mxV t (.slice A0 n0 c0) (.slice A n1 c1) (.slice K t.ks.length c)] W' (RetI t.lvl W')) := by
    have : ∀ W', Ext W W' → Calls Tryz.prog 26 #[mxV t (.slice A0 n0 c0) (.slice A n1 c1) (.slice K t.ks.length c)] W' (RetI t.lvl W') := fun W' hx => mlvl_any t _ W' hbig hsm (HH.out.ext (HWX.out.trans hx))
    exact this
  have HTR : Hid (∀ W', Ext W W' → Calls Tryz.prog 27 #[mxV t (.slice A0 n0 c0) (.slice A n1 c1) (.slice K t.ks.length c), .func (.func 28) #[] #[.pointer (some ⟨w.heap.size + 1, 0, none⟩)]] W' (RetB (t.tv (rho xs)) W')) := by
    have : ∀ W', Ext W W' → Calls Tryz.prog 27 #[mxV t (.slice A0 n0 c0) (.slice A n1 c1) (.slice K t.ks.length c), .func (.func 28) #[] #[.pointer (some ⟨w.heap.size + 1, 0, none⟩)]] W' (RetB (t.tv (rho xs)) W') := fun W' hx =>
      mtru_ih (w0 := W) hL hL2 HXC.out (by omega) (HXS.out.ext HWX.out) (t.sz + 1) t _ W' (Nat.lt_succ_self _) hbig heach (HH.out.ext HWX.out) hx
    exact this
  have HB : Hid (∀ W', Ext W W' → (Ext W W' ∧ W'.cell? ⟨w.heap.size, 0, none⟩ = some (.int .i64 t.kind) ∧ W'.cell? ⟨w.heap.size, 1, none⟩ = some (.int .i64 t.rel) ∧ W'.cell? ⟨w.heap.size, 2, none⟩ = some (.int .i64 t.p.lv) ∧ W'.cell? ⟨w.heap.size, 3, none⟩ = some (.bool t.p.neg) ∧ W'.cell? ⟨w.heap.size, 4, none⟩ = some (.slice A0 n0 c0) ∧ W'.cell? ⟨w.heap.size, 5, none⟩ = some (.slice A n1 c1) ∧ W'.cell? ⟨w.heap.size, 6, none⟩ = some (.slice K t.ks.length c) ∧ W'.cell? ⟨w.heap.size + 1, 0, none⟩ = some (.slice XA xs.length Xc))) := by
    have : ∀ W', Ext W W' → (Ext W W' ∧ W'.cell? ⟨w.heap.size, 0, none⟩ = some (.int .i64 t.kind) ∧ W'.cell? ⟨w.heap.size, 1, none⟩ = some (.int .i64 t.rel) ∧ W'.cell? ⟨w.heap.size, 2, none⟩ = some (.int .i64 t.p.lv) ∧ W'.cell? ⟨w.heap.size, 3, none⟩ = some (.bool t.p.neg) ∧ W'.cell? ⟨w.heap.size, 4, none⟩ = some (.slice A0 n0 c0) ∧ W'.cell? ⟨w.heap.size, 5, none⟩ = some (.slice A n1 c1) ∧ W'.cell? ⟨w.heap.size, 6, none⟩ = some (.slice K t.ks.length c) ∧ W'.cell? ⟨w.heap.size + 1, 0, none⟩ = some (.slice XA xs.length Xc)) := fun W' hx => by
      obtain ⟨c0, c1, c2, c3, c4, c5, c6⟩ := HBX.out.ext hx (by omega)
      exact ⟨hx, c0, c1, c2, c3, c4, c5, c6, (hx.cell (p := ⟨w.heap.size + 1, 0, none⟩) (by show w.heap.size + 1 < _; omega)).trans HXC.out⟩
    exact this
  obtain ⟨b0, b1, b2, b3, b4, b5, b6⟩ := hbx
  clear h hp h4 hWx hxs heach hsm
  unfold mxV at HLV HTR
  unfold mxV
  generalize t.lvl = lv at *
  generalize t.tv (rho xs) = tv at *
  generalize hlen : xs.length = N at *
  obtain ⟨rr, hrr⟩ : ∃ rr : Bool × Int, (if lv ≤ (N : Int) then (tv, (0 : Int)) else (false, 4)) = rr := ⟨_, rfl⟩
  rw [hrr]
  have HRR := Lib.hid hrr
  clear hrr
  go_enter Tryz.func9, Tryz.ntmps9
  go_wp2_with fail
  clear hW b0 b1 b2 b3 b4 b5 b6 hxc
  have y0 : Ext W W.drew := (Ext.refl W).drew
  have Y0 := Lib.hid y0
  clear y0
  go_region_held3 (fun W' => Ext W W' ∧ W'.cell? ⟨w.heap.size, 0, none⟩ = some (.int .i64 t.kind) ∧ W'.cell? ⟨w.heap.size, 1, none⟩ = some (.int .i64 t.rel) ∧ W'.cell? ⟨w.heap.size, 2, none⟩ = some (.int .i64 t.p.lv) ∧ W'.cell? ⟨w.heap.size, 3, none⟩ = some (.bool t.p.neg) ∧ W'.cell? ⟨w.heap.size, 4, none⟩ = some (.slice A0 n0 c0) ∧ W'.cell? ⟨w.heap.size, 5, none⟩ = some (.slice A n1 c1) ∧ W'.cell? ⟨w.heap.size, 6, none⟩ = some (.slice K t.ks.length c) ∧ W'.cell? ⟨w.heap.size + 1, 0, none⟩ = some (.slice XA N Xc))
    (first | with_reducible exact HB.out _ Y0.out | with_reducible exact HB.out _ y1)
    ((go_at_call 26
      refine (HLV.out _ Y0.out).mono ?_
      rintro e v1 ⟨rfl, x1⟩
      have y1 : Ext W v1 := Ext.trans Y0.out x1))
  all_goals
    have Y1 := Lib.hid y1
    obtain ⟨-, b0, b1, b2, b3, b4, b5, b6, xc⟩ := HB.out _ Y1.out
    clear y1 x1 HB Y0 HLV
    by_cases hle : lv ≤ N
    · have hgt : ¬ ((N : Int) < lv) := by omega
      have HR : Hid (rr = (tv, 0)) := Lib.hid (HRR.out.symm.trans (if_pos hle))
      clear hle HRR
      go_wp2_with fail
      refine (HTR.out _ Y1.out).mono ?_
      rintro e w2 ⟨rfl, x2⟩
      have X2 := Lib.hid ((HWX.out.trans Y1.out).trans x2)
      clear x2
      go_wp2_with fail
      exact bodyPost_ret (v := .tuple #[.bool tv, .int .i64 0]) (by simp [results, Tryz.results9, go_sem]) rfl ⟨by rw [HR.out], X2.out⟩
    · have hgt : (N : Int) < lv := by omega
      have HR : Hid (rr = (false, 4)) := Lib.hid (HRR.out.symm.trans (if_neg hle))
      clear hle HRR
      go_wp2_with fail
      exact bodyPost_ret (v := .tuple #[.bool false, .int .i64 4]) (by simp [results, Tryz.results9, go_sem]) rfl ⟨by rw [HR.out], HWX.out.trans Y1.out⟩
end Go.Proofs.YtdcapcpchcnidaaGreat

/- Layer 40: evaluate.Poly. -/
namespace Go.Proofs.YtdcapcpchcnidaaGreat
open Go.RowKit

/-- The call returns a fraction and an error. -/
def RetRE (q : Rat) (L : Nat) (err : Int) (w : World) (e : Ending) (w' : World) : Prop := ∃ x, e = .returned (.tuple #[x, .int .i64 err]) ∧ RatR w' x q L ∧ Ext w w'

set_option maxRecDepth 100000 in
set_option maxHeartbeats 2000000 in
theorem mpoly_any {w : World} {q : Nat → Prop} {L : Nat} {xv : Value} {xs : List Rat} (hL : 1 ≤ L) (hL2 : L ≤ 1099511627776) (hxs : RsV w L xv xs) (p : Pl) (v : Value) (hsz : p.sz ≤ 1073741824) (hnf : p.nf.sz ≤ 1099511627776) (hdm : p.dm ≤ 1099511627776) (heb : p.eb L ≤ 1099511627776) (h : PlV w q p v) :
    Calls Tryz.prog 13 #[v, xv] w (RetRE (if p.nf.lv ≤ xs.length then p.val (rho xs) else 0) (rlen (p.val (rho xs))) (if p.nf.lv ≤ xs.length then 0 else 4) w) := by
  have HH := Lib.hid h
  have HXS := Lib.hid hxs
  obtain ⟨A0, n0, c0, A, c, rfl, hnat, hl1, hl2, h4⟩ := h.open_
  obtain ⟨XA, Xc, rfl, -⟩ := id hxs
  obtain ⟨W, hW⟩ : ∃ W, (w.alloc (.cells #[.int .i64 p.lv, .bool p.neg, .slice A0 n0 c0, .slice A p.cs.length c] 29)).alloc (.cells #[.bool false, .slice none 0 0, .slice none 0 0] 45) = W := ⟨_, rfl⟩
  have hWx : Ext w W := by rw [← hW]; exact ((Ext.refl w).alloc _).alloc _
  have hWs : W.heap.size = w.heap.size + 1 + 1 := by rw [← hW]; simp
  have hbx : Box4 W w.heap.size p (.slice A0 n0 c0) (.slice A p.cs.length c) := by rw [← hW]; exact (Box4.new w p _ _ _).ext ((Ext.refl _).alloc _) (by simp)
  have hz : (W.cell? ⟨w.heap.size + 1, 0, none⟩ = some (.bool false) ∧ W.cell? ⟨w.heap.size + 1, 1, none⟩ = some (.slice none 0 0) ∧ W.cell? ⟨w.heap.size + 1, 2, none⟩ = some (.slice none 0 0)) ∧ ∀ i, W.frozen? ⟨w.heap.size + 1, i, none⟩ = false := by
    rw [← hW]
    refine ⟨⟨?_, ?_, ?_⟩, fun i => ?_⟩ <;> simp [go_sem]
  have HZX : Hid (∀ W', Ext W W' → ((W'.cell? ⟨w.heap.size + 1, 0, none⟩ = some (.bool false) ∧ W'.cell? ⟨w.heap.size + 1, 1, none⟩ = some (.slice none 0 0) ∧ W'.cell? ⟨w.heap.size + 1, 2, none⟩ = some (.slice none 0 0)) ∧ ∀ i, W'.frozen? ⟨w.heap.size + 1, i, none⟩ = false)) := by
    have : ∀ W', Ext W W' → ((W'.cell? ⟨w.heap.size + 1, 0, none⟩ = some (.bool false) ∧ W'.cell? ⟨w.heap.size + 1, 1, none⟩ = some (.slice none 0 0) ∧ W'.cell? ⟨w.heap.size + 1, 2, none⟩ = some (.slice none 0 0)) ∧ ∀ i, W'.frozen? ⟨w.heap.size + 1, i, none⟩ = false) := fun W' hx => by
      have hb : w.heap.size + 1 < W.heap.size := by omega
      exact ⟨⟨(hx.cell (p := ⟨w.heap.size + 1, 0, none⟩) hb).trans hz.1.1, (hx.cell (p := ⟨w.heap.size + 1, 1, none⟩) hb).trans hz.1.2.1, (hx.cell (p := ⟨w.heap.size + 1, 2, none⟩) hb).trans hz.1.2.2⟩, fun i => (hx.frozen (p := ⟨w.heap.size + 1, i, none⟩) hb).trans (hz.2 i)⟩
    exact this
  have HWX := Lib.hid hWx
  have HBX := Lib.hid hbx
  have HLV := Lib.hid (mLevel_any p _ (HH.out.ext hWx) hsz hnf hdm)
  have HEV : Hid (∀ W', Ext W W' → Calls Tryz.prog 29 #[plV p (.slice A0 n0 c0) (.slice A p.cs.length c), .slice XA xs.length Xc] W' (RetRat (p.val (rho xs)) W')) := by
    have : ∀ W', Ext W W' → Calls Tryz.prog 29 #[plV p (.slice A0 n0 c0) (.slice A p.cs.length c), .slice XA xs.length Xc] W' (RetRat (p.val (rho xs)) W') := fun W' hx => evalP_any hL hL2 (HXS.out.ext (HWX.out.trans hx)) p _ heb (HH.out.ext (HWX.out.trans hx))
    exact this
  obtain ⟨b0, b1, b2, b3⟩ := hbx
  obtain ⟨⟨z0, z1, z2⟩, zf⟩ := hz
  clear h hnat h4 hWx hxs hnf hdm heb hsz
  unfold plV at HLV HEV
  unfold plV
  generalize p.nf.lv = lv at *
  generalize p.val (rho xs) = qq at *
  generalize hlen : xs.length = N at *
  by_cases hle : lv ≤ N
  · rw [if_pos hle, if_pos hle]
    have hgt : ¬ ((N : Int) < lv) := by omega
    clear hle
    go_enter Tryz.func13, Tryz.ntmps13
    go_wp2_with fail
    clear hW b0 b1 b2 b3 z0 z1 z2 zf
    refine HLV.out.mono ?_
    rintro e w1 ⟨rfl, x1⟩
    obtain ⟨b0, b1, b2, b3⟩ := HBX.out.ext x1 (by omega)
    have X1 := Lib.hid x1
    clear x1 HLV
    go_wp2_with fail
    clear b0 b1 b2 b3
    refine (HEV.out _ X1.out).mono ?_
    rintro e w2 ⟨v2, rfl, m2, x2⟩
    obtain ⟨bq, A1, n1, c1, B1, k1, d1, rfl⟩ := m2.unpack
    obtain ⟨⟨z0, z1, z2⟩, zf⟩ := HZX.out _ (X1.out.trans x2)
    have hcl := close_rat (g := w.heap.size + 1) ((HWX.out.trans X1.out).trans x2) (by omega) z0 z1 z2 rfl rfl rfl m2
    obtain ⟨x, ex, mx, hx⟩ := hcl
    injection ex with ex
    have HR := Lib.hid mx.raw
    have HX := Lib.hid hx
    clear m2 x2 mx hx HEV HZX
    subst ex
    go_wp2_with fail
    exact bodyPost_ret (v := .tuple #[.agg #[.bool bq, .slice A1 n1 c1, .slice B1 k1 d1], .int .i64 0]) (by simp [results, Tryz.results13, go_sem, z0, z1, z2]) rfl ⟨_, rfl, HR.out, HX.out⟩
  · rw [if_neg hle, if_neg hle]
    have hgt : (N : Int) < lv := by omega
    clear hle
    go_enter Tryz.func13, Tryz.ntmps13
    go_wp2_with fail
    clear hW b0 b1 b2 b3 z0 z1 z2 zf
    refine HLV.out.mono ?_
    rintro e w1 ⟨rfl, x1⟩
    obtain ⟨⟨z0, z1, z2⟩, zf⟩ := HZX.out _ x1
    have X1 := Lib.hid (HWX.out.trans x1)
    clear x1 HLV HZX
    have HF : Hid (RetRE 0 (rlen qq) 4 w (.returned (.tuple #[.agg #[.bool false, .slice none 0 0, .slice none 0 0], .int .i64 4])) (((w1.setCell ⟨w.heap.size + 1, 0, none⟩ (.bool false)).setCell ⟨w.heap.size + 1, 1, none⟩ (.slice none 0 0)).setCell ⟨w.heap.size + 1, 2, none⟩ (.slice none 0 0))) := by
      refine ⟨_, rfl, ⟨false, _, _, [], [], rfl, NatV.nil _, NatV.nil _, by decide, by simp, by simp⟩, ((X1.out.setCell (by simp) _).setCell (by simp) _).setCell (by simp) _⟩
    go_wp2_with fail
    exact bodyPost_ret (v := .tuple #[.agg #[.bool false, .slice none 0 0, .slice none 0 0], .int .i64 4]) (by simp [results, Tryz.results13, go_sem, z0, z1, z2]) rfl HF.out
end Go.Proofs.YtdcapcpchcnidaaGreat

/- The plain law of matrices: a matrix and its normal form. -/
namespace Go.Proofs.YtdcapcpchcnidaaGreat
open Go.RowKit

theorem holds_relM (r s : Int) : holdsI (relM r) s = holdsI r s := by
  unfold relM
  split
  · rename_i h
    unfold holdsI
    rw [if_neg (by omega), if_neg (by omega), if_neg (by omega), if_neg (by omega), if_neg (by omega), if_neg (by omega), if_neg (by omega), if_neg (by omega), if_neg (by omega), if_neg (by omega)]
  · rfl
mutual
theorem Mx.each_all {P : Pl → Prop} (h : ∀ p, P p) : ∀ t : Mx, t.each P
  | .mk _ _ p ks => by rw [Mx.each]; exact ⟨h p, eachM_all h ks⟩
theorem eachM_all {P : Pl → Prop} (h : ∀ p, P p) : ∀ l : List Mx, eachM P l
  | [] => by rw [eachM]; trivial
  | t :: r => by rw [eachM]; exact ⟨t.each_all h, eachM_all h r⟩
end
mutual
theorem Mx.each_and {P Q : Pl → Prop} : ∀ t : Mx, t.each P → t.each Q → t.each (fun p => P p ∧ Q p)
  | .mk _ _ p ks, h, k => by rw [Mx.each] at h k ⊢; exact ⟨⟨h.1, k.1⟩, eachM_and ks h.2 k.2⟩
theorem eachM_and {P Q : Pl → Prop} : ∀ l : List Mx, eachM P l → eachM Q l → eachM (fun p => P p ∧ Q p) l
  | [], _, _ => by rw [eachM]; trivial
  | t :: r, h, k => by rw [eachM] at h k ⊢; exact ⟨t.each_and h.1 k.1, eachM_and r h.2 k.2⟩
end
mutual
theorem MxV.dig {w : World} {q : Nat → Prop} : ∀ (t : Mx) (v : Value), MxV w q t v → t.each Pl.dig
  | .mk k r p ks, v, h => by
    unfold MxV at h
    obtain ⟨s, A, K, c, e, h1, h2, h3, h4⟩ := h
    rw [Mx.each]
    exact ⟨h1.dig, MxsAt.dig ks K 0 h4⟩
theorem MxsAt.dig {w : World} {q : Nat → Prop} : ∀ (l : List Mx) (A : Option Addr) (j : Nat), MxsAt w q l A j → eachM Pl.dig l
  | [], A, j, h => by rw [eachM]; trivial
  | t :: r, A, j, h => by
    unfold MxsAt at h
    obtain ⟨⟨ad, s, B, K, e, hb, hpb, h1, h2⟩, h3⟩ := h
    rw [eachM]
    exact ⟨MxV.dig t _ h2, MxsAt.dig r A (j + 1) h3⟩
end
mutual
theorem Mx.nrm_each {P : Pl → Prop} (hz : P Pl.zero) : ∀ t : Mx, t.each (fun p => P p.nf) → t.nrm.each P
  | .mk k r p ks, h => by
    rw [Mx.each] at h
    rw [Mx.nrm]
    split
    · rw [Mx.each, eachM]; exact ⟨hz, trivial⟩
    · split
      · rw [Mx.each, eachM]; exact ⟨h.1, trivial⟩
      · split
        · rw [Mx.each]; exact ⟨hz, nrmM_each hz ks h.2⟩
        · rw [Mx.each, eachM]; exact ⟨hz, trivial⟩
theorem nrmM_each {P : Pl → Prop} (hz : P Pl.zero) : ∀ l : List Mx, eachM (fun p => P p.nf) l → eachM P (nrmM l)
  | [], _ => by rw [nrmM, eachM]; trivial
  | t :: r, h => by rw [eachM] at h; rw [nrmM, eachM]; exact ⟨t.nrm_each hz h.1, nrmM_each hz r h.2⟩
end
mutual
theorem Mx.pols_of {P : Pl → Prop} : ∀ t : Mx, t.each P → ∀ p ∈ t.pols, ∃ p0, P p0 ∧ p = p0.nf
  | .mk k r p ks, h, x, hx => by
    rw [Mx.each] at h
    rw [Mx.pols] at hx
    split at hx
    · exact ⟨p, h.1, by simpa using hx⟩
    · split at hx
      · exact polsM_of ks h.2 x hx
      · simp at hx
theorem polsM_of {P : Pl → Prop} : ∀ l : List Mx, eachM P l → ∀ p ∈ polsM l, ∃ p0, P p0 ∧ p = p0.nf
  | [], _, x, hx => by rw [polsM] at hx; simp at hx
  | t :: r, h, x, hx => by
    rw [eachM] at h
    rw [polsM] at hx
    rcases List.mem_append.1 hx with hx | hx
    · exact t.pols_of h.1 x hx
    · exact polsM_of r h.2 x hx
end
mutual
theorem Mx.nrm_sz : ∀ t : Mx, t.nrm.sz ≤ t.sz
  | .mk k r p ks => by
    have := nrmM_sz ks
    rw [Mx.nrm, Mx.sz]
    split
    · rw [Mx.sz, mxSz]; omega
    · split
      · rw [Mx.sz, mxSz]; omega
      · split
        · rw [Mx.sz]; omega
        · rw [Mx.sz, mxSz]; omega
theorem nrmM_sz : ∀ l : List Mx, mxSz (nrmM l) ≤ mxSz l
  | [] => by rw [nrmM]; omega
  | t :: r => by
    have h1 := t.nrm_sz
    have h2 := nrmM_sz r
    rw [nrmM, mxSz, mxSz]; omega
end
mutual
theorem Mx.nrm_tv (ρ : Int → Rat) : ∀ t : Mx, (t.each fun _ => True) → t.nrm.tv ρ = t.tv ρ
  | .mk k r p ks, h => by
    rw [Mx.each] at h
    rw [Mx.nrm, Mx.tv]
    by_cases h1 : k = 1
    · rw [if_pos h1, if_pos h1, Mx.tv, if_pos rfl]
    · rw [if_neg h1, if_neg h1]
      by_cases h2 : k = 2
      · rw [if_pos h2, if_pos h2, Mx.tv, if_neg (by omega), if_pos rfl, holds_relM, Pl.nf_val]
      · rw [if_neg h2, if_neg h2]
        by_cases h3 : k = 3
        · rw [if_pos (.inl h3), if_pos h3, Mx.tv, if_neg h1, if_neg h2, if_pos h3, nrmM_all ρ ks h.2]
        · rw [if_neg h3]
          by_cases h4 : k = 4
          · rw [if_pos (.inr h4), if_pos h4, Mx.tv, if_neg h1, if_neg h2, if_neg h3, if_pos h4, nrmM_any ρ ks h.2]
          · rw [if_neg (by omega), if_neg h4, Mx.tv, if_neg (by omega), if_neg (by omega), if_neg (by omega), if_neg (by omega)]
theorem nrmM_all (ρ : Int → Rat) : ∀ l : List Mx, eachM (fun _ => True) l → allM ρ (nrmM l) = allM ρ l
  | [], _ => by rw [nrmM]
  | t :: r, h => by rw [eachM] at h; rw [nrmM, allM, allM, t.nrm_tv ρ h.1, nrmM_all ρ r h.2]
theorem nrmM_any (ρ : Int → Rat) : ∀ l : List Mx, eachM (fun _ => True) l → anyM ρ (nrmM l) = anyM ρ l
  | [], _ => by rw [nrmM]
  | t :: r, h => by rw [eachM] at h; rw [nrmM, anyM, anyM, t.nrm_tv ρ h.1, nrmM_any ρ r h.2]
end
mutual
theorem Mx.nrm_raw : ∀ t : Mx, t.nrm.raw = t.pols
  | .mk k r p ks => by
    rw [Mx.nrm, Mx.pols]
    by_cases h1 : k = 1
    · rw [if_pos h1, if_neg (by omega), if_neg (by omega), Mx.raw, if_neg (by omega), rawM]
    · rw [if_neg h1]
      by_cases h2 : k = 2
      · rw [if_pos h2, if_pos h2, Mx.raw, if_pos rfl]
      · rw [if_neg h2, if_neg h2]
        by_cases h3 : k = 3 ∨ k = 4
        · rw [if_pos h3, if_pos h3, Mx.raw, if_neg h2, nrmM_raw ks]
        · rw [if_neg h3, if_neg h3, Mx.raw, if_neg (by omega), rawM]
theorem nrmM_raw : ∀ l : List Mx, rawM (nrmM l) = polsM l
  | [] => by rw [nrmM, rawM, polsM]
  | t :: r => by rw [nrmM, rawM, polsM, t.nrm_raw, nrmM_raw r]
end
mutual
theorem Mx.lvl_pols : ∀ (t : Mx) (a : Int), 0 ≤ a → t.each (fun p => 0 ≤ p.nf.lv) → lvR a t.pols = max a t.lvl ∧ 0 ≤ t.lvl
  | .mk k r p ks, a, ha, h => by
    rw [Mx.each] at h
    rw [Mx.pols, Mx.lvl]
    by_cases h2 : k = 2
    · rw [if_pos h2, if_pos h2]
      exact ⟨rfl, h.1⟩
    · rw [if_neg h2, if_neg h2]
      by_cases h3 : k = 3 ∨ k = 4
      · rw [if_pos h3, if_pos h3]
        have h0 := lvlM_pols ks 0 (by omega) h.2
        have h1 := lvlM_pols ks a ha h.2
        have hm := lvlM_max ks a ha h.2
        omega
      · rw [if_neg h3, if_neg h3, lvR]
        omega
theorem lvlM_pols : ∀ (l : List Mx) (a : Int), 0 ≤ a → eachM (fun p => 0 ≤ p.nf.lv) l → lvR a (polsM l) = lvlM a l ∧ 0 ≤ lvlM a l
  | [], a, ha, _ => by rw [polsM, lvR, lvlM]; exact ⟨rfl, ha⟩
  | t :: r, a, ha, h => by
    rw [eachM] at h
    rw [polsM, lvlM, lvR_append]
    have h1 := t.lvl_pols a ha h.1
    rw [h1.1]
    exact lvlM_pols r (max a t.lvl) (by omega) h.2
theorem lvlM_max : ∀ (l : List Mx) (a : Int), 0 ≤ a → eachM (fun p => 0 ≤ p.nf.lv) l → lvlM a l = max a (lvlM 0 l)
  | [], a, ha, _ => by rw [lvlM, lvlM]; omega
  | t :: r, a, ha, h => by
    rw [eachM] at h
    rw [lvlM, lvlM]
    have h0 := t.lvl_pols a ha h.1
    have h1 := lvlM_max r (max a t.lvl) (by omega) h.2
    have h2 := lvlM_max r (max 0 t.lvl) (by omega) h.2
    omega
end
mutual
theorem Mx.nrm_lv (n : Int) (hn : 0 ≤ n) : ∀ t : Mx, t.lvl ≤ n → t.nrm.each (fun p => p.lv ≤ n)
  | .mk k r p ks, h => by
    rw [Mx.lvl] at h
    rw [Mx.nrm]
    by_cases h1 : k = 1
    · rw [if_pos h1, Mx.each, eachM]; exact ⟨hn, trivial⟩
    · rw [if_neg h1]
      by_cases h2 : k = 2
      · rw [if_pos h2] at h ⊢
        rw [Mx.each, eachM]; exact ⟨h, trivial⟩
      · rw [if_neg h2] at h ⊢
        by_cases h3 : k = 3 ∨ k = 4
        · rw [if_pos h3] at h ⊢
          rw [Mx.each]; exact ⟨hn, nrmM_lv n hn ks 0 (by omega) h⟩
        · rw [if_neg h3, Mx.each, eachM]; exact ⟨hn, trivial⟩
theorem nrmM_lv (n : Int) (hn : 0 ≤ n) : ∀ (l : List Mx) (a : Int), 0 ≤ a → lvlM a l ≤ n → eachM (fun p => p.lv ≤ n) (nrmM l)
  | [], _, _, _ => by rw [nrmM, eachM]; trivial
  | t :: r, a, ha, h => by
    rw [lvlM] at h
    have hm := lvlM_max r (max a t.lvl) (by omega) (eachM_all (fun p => p.nf_can.lv_nonneg.1) r)
    rw [nrmM, eachM]
    exact ⟨t.nrm_lv n hn (by omega), nrmM_lv n hn r (max a t.lvl) (by omega) h⟩
end
/-- The level of a matrix is that of its normal form's polynomials. -/
theorem Mx.lvl_nrm (t : Mx) : lvR 0 t.nrm.raw = t.lvl := by
  have h := t.lvl_pols 0 (by omega) (t.each_all fun p => p.nf_can.lv_nonneg.1)
  rw [t.nrm_raw, h.1]; omega
theorem Mx.tv_nrm (ρ : Int → Rat) (t : Mx) : t.nrm.tv ρ = t.tv ρ := t.nrm_tv ρ (t.each_all fun _ => trivial)
/-- What is known of a small matrix's normal form. -/
theorem Mx.nrm_fit {t : Mx} (hs : t.small) (hd : t.each Pl.dig) (n : Nat) (hl : t.lvl ≤ n) : t.nrm.each (fun p => p.Can ∧ p.lv ≤ n ∧ p.eb 3 ≤ 1099511627776) := by
  have h1 := t.nrm_lv n (by omega) hl
  have h2 : t.nrm.each (fun p => p.Can ∧ p.eb 3 ≤ 1099511627776) := by
    refine t.nrm_each ⟨Pl.zero_can, by decide⟩ (Mx.each_mono (fun p hp => ⟨p.nf_can, ?_⟩) t (t.each_and (t.small_each hs) hd))
    obtain ⟨⟨hsz, hdm⟩, hdg⟩ := hp
    have e1 := Pl.nf_sz p
    have e2 := Pl.nf_dm p hdg (by omega)
    have e3 : (p.sz + 2) ^ 4 ≤ 42 ^ 4 := Nat.pow_le_pow_left (by omega) 4
    refine eb_of (D := 5) (by omega) (Nat.le_trans (Nat.mul_le_mul_right _ (Nat.le_trans e1 e3)) (by decide))
  exact Mx.each_mono (fun p hp => ⟨hp.2.1, hp.1, hp.2.2⟩) _ (Mx.each_and _ h1 h2)
theorem Mx.small_fit {t : Mx} (hs : t.small) : t.each (fun p => p.eb 3 ≤ 1099511627776) :=
  Mx.each_mono (fun p hp => eb_of (D := 4) hp.2 (by have := hp.1; omega)) t (t.small_each hs)
/-- What is known of a small matrix's polynomials. -/
theorem Mx.pols_fit {t : Mx} (hs : t.small) (hd : t.each Pl.dig) : ∀ p ∈ t.pols, p.Can ∧ p.nf = p ∧ p.sz ≤ 3111696 ∧ p.dm ≤ 5 ∧ p.eb 3 ≤ 1099511627776 := by
  intro p hp
  obtain ⟨p0, ⟨⟨hsz, hdm⟩, hdg⟩, rfl⟩ := t.pols_of (t.each_and (t.small_each hs) hd) p hp
  have e1 := Pl.nf_sz p0
  have e2 := Pl.nf_dm p0 hdg (by omega)
  have e3 : (p0.sz + 2) ^ 4 ≤ 42 ^ 4 := Nat.pow_le_pow_left (by omega) 4
  have e4 : (42 : Nat) ^ 4 = 3111696 := by decide
  exact ⟨p0.nf_can, Pl.nf_of_can p0.nf_can, by omega, by omega, eb_of (D := 5) (by omega) (Nat.le_trans (Nat.mul_le_mul_right _ (Nat.le_trans e1 e3)) (by decide))⟩
end Go.Proofs.YtdcapcpchcnidaaGreat

/- Reference 40: Short, FewAt: points of a size that is looked at. -/
namespace Go.Proofs.YtdcapcpchcnidaaGreat
open Go.RowKit

/-- A fraction as it came in. -/
structure Fr where
  neg : Bool
  ds : List Nat
  es : List Nat
def Fr.q (x : Fr) : Rat := mkRat (sgn x.neg (val x.ds)) (val x.es)
/-- v is a slice of such fractions. -/
def FrsW (w : World) (v : Value) (l : List Fr) : Prop :=
  ∃ A c, v = .slice A l.length c ∧ l.length ≤ c ∧ c ≤ 9223372036854775807 ∧ ∀ j (h : j < l.length), ∃ ad A1 c1 A2 c2, A = some ad ∧ ad.block < w.heap.size ∧ (w.cell? (ad.add (j * 3)) = some (.bool l[j].neg) ∧ w.cell? ⟨(ad.add (j * 3)).block, (ad.add (j * 3)).off + 1, none⟩ = some (.slice A1 l[j].ds.length c1) ∧ w.cell? ⟨(ad.add (j * 3)).block, (ad.add (j * 3)).off + 2, none⟩ = some (.slice A2 l[j].es.length c2)) ∧ NatV w (.slice A1 l[j].ds.length c1) l[j].ds ∧ NatV w (.slice A2 l[j].es.length c2) l[j].es
def Fr.short (x : Fr) : Bool := decide (x.ds.length ≤ 3) && decide (x.es.length ≤ 3)
/-- All are short, and there are at most eight. -/
def fewAt (l : List Fr) : Bool := decide (l.length ≤ 8) && l.all Fr.short
theorem FrsW.ext {w w' : World} {v : Value} {l : List Fr} (h : FrsW w v l) (hx : Ext w w') : FrsW w' v l := by
  obtain ⟨A, c, e, h1, h2, h3⟩ := h
  refine ⟨A, c, e, h1, h2, fun j hj => ?_⟩
  obtain ⟨ad, A1, c1, A2, c2, e, hb, ⟨k0, k1, k2⟩, hr, hs⟩ := h3 j hj
  have hb' : (ad.add (j * 3)).block < w.heap.size := by rw [block_of_add]; exact hb
  exact ⟨ad, A1, c1, A2, c2, e, Nat.lt_of_lt_of_le hb hx.size, ⟨(hx.cell hb').trans k0, (hx.cell (p := ⟨(ad.add (j * 3)).block, (ad.add (j * 3)).off + 1, none⟩) hb').trans k1, (hx.cell (p := ⟨(ad.add (j * 3)).block, (ad.add (j * 3)).off + 2, none⟩) hb').trans k2⟩, hr.ext hx, hs.ext hx⟩
theorem FrsW.few {w : World} {v : Value} {l : List Fr} (h : FrsW w v l) (hf : fewAt l = true) : RsV w 3 v (l.map Fr.q) := by
  obtain ⟨A, c, e, h1, h2, h3⟩ := h
  refine ⟨A, c, by rw [List.length_map]; exact e, by rw [List.length_map]; exact h1, h2, fun j hj => ?_⟩
  rw [List.length_map] at hj
  obtain ⟨ad, A1, c1, A2, c2, e, hb, hv, hr, hs⟩ := h3 j hj
  have hall : l[j].short = true := by
    unfold fewAt at hf
    simp only [Bool.and_eq_true, List.all_eq_true] at hf
    exact hf.2 l[j] (List.getElem_mem hj)
  simp only [Fr.short, Bool.and_eq_true, decide_eq_true_eq] at hall
  refine ⟨ad, _, A1, _, c1, A2, _, c2, e, hb, hv, ?_⟩
  rw [List.getElem_map]
  exact ⟨_, _, _, _, _, rfl, hr, hs, rfl, hall.1, hall.2⟩
theorem short_q (neg : Bool) (A1 A2 : Option Addr) (n1 c1 n2 c2 : Nat) (w : World) : Calls Tryz.prog 24 #[.agg #[.bool neg, .slice A1 n1 c1, .slice A2 n2 c2]] w (RetB (decide (n1 ≤ 3) && decide (n2 ≤ 3)) w) := by
  by_cases h1 : n1 ≤ 3
  · have hv : (decide (n1 ≤ 3) && decide (n2 ≤ 3)) = decide (n2 ≤ 3) := by simp [h1]
    rw [hv]
    have hd : decide ((n1 : Int) ≤ 3) = true := by simp; omega
    have hd2 : decide ((n2 : Int) ≤ 3) = decide (n2 ≤ 3) := by simp; omega
    have HD := Lib.hid hd2
    clear hv hd2
    go_enter Tryz.func24, Tryz.ntmps24
    go_wp2_with fail
    go_ret
    exact ⟨by first | rfl | (rw [← HD.out]; rfl), (Ext.refl w).alloc _⟩
  · have hv : (decide (n1 ≤ 3) && decide (n2 ≤ 3)) = false := by simp [h1]
    rw [hv]
    have hd : decide ((n1 : Int) ≤ 3) = false := by simp; omega
    clear hv
    go_enter Tryz.func24, Tryz.ntmps24
    go_wp2_with fail
    go_ret
    exact ⟨rfl, (Ext.refl w).alloc _⟩
theorem fewAt_bad (l : List Fr) (k : Nat) (hk : k < l.length) (h : l[k].short = false) : fewAt l = false := by
  unfold fewAt
  rw [Bool.and_eq_false_iff]
  refine .inr (List.all_eq_false.2 ⟨l[k], List.getElem_mem hk, ?_⟩)
  rw [h]; simp

set_option maxRecDepth 100000 in
set_option maxHeartbeats 1000000 in
theorem fewAt_any {w : World} {v : Value} {l : List Fr} (h : FrsW w v l) : Calls Tryz.prog 7 #[v] w (RetB (fewAt l) w) := by
  have H := Lib.hid h
  obtain ⟨A, c, rfl, h1, h2, -⟩ := h
  have hlen : l.length ≤ 9223372036854775807 := by omega
  go_enter Tryz.func7, Tryz.ntmps7
  go_wp2_with fail
  go_loopw [6] (fun iv wr => ∃ k : Nat, k ≤ l.length ∧ k ≤ 8 ∧ iv = .int .i64 k ∧ Hid ((l.take k).all Fr.short = true ∧ Ext w wr)) (fun iv _ => l.length - (intOf iv).toNat)
  case atStart => exact ⟨0, Nat.zero_le _, by omega, rfl, ⟨by simp, Ext.refl w⟩⟩
  case round =>
    obtain ⟨k, hk, hk8, rfl, ⟨hall, hx⟩⟩ := hrel
    have HA := Lib.hid hall
    have HX := Lib.hid hx
    clear hall hx
    by_cases hlt : k < l.length
    · by_cases h8 : 8 ≤ k
      · have hd8 : decide ((8 : Int) ≤ (k : Int)) = true := by simp; omega
        have HF : Hid (fewAt l = false) := by
          have : fewAt l = false := by unfold fewAt; simp; omega
          exact this
        go_wp2_with fail
        go_ret
        exact ⟨by rw [HF.out]; rfl, HX.out⟩
      · have hd8 : decide ((8 : Int) ≤ (k : Int)) = false := by simp; omega
        obtain ⟨A', c', e', -, -, h3⟩ := H.out.ext HX.out
        injection e' with e1 e2 e3
        obtain ⟨ad, A1, c1, A2, c2, e4, hb, ⟨a0, a1, a2⟩, hr1, hr2⟩ := h3 k hlt
        obtain rfl : A = some ad := e1.trans e4
        clear h3 e1 e3 e4 hr1 hr2
        have HOK : Hid (l[k].short = (decide (l[k].ds.length ≤ 3) && decide (l[k].es.length ≤ 3))) := rfl
        have HBAD : Hid (l[k].short = false → fewAt l = false) := fewAt_bad l k hlt
        have HTK : Hid ((l.take (k + 1)).all Fr.short = ((l.take k).all Fr.short && l[k].short)) := by
          have : (l.take (k + 1)).all Fr.short = ((l.take k).all Fr.short && l[k].short) := by rw [List.take_succ_eq_append_getElem hlt, List.all_append]; simp
          exact this
        generalize l[k].neg = ng at *
        generalize l[k].ds.length = n1 at *
        generalize l[k].es.length = n2 at *
        generalize l[k].short = okk at *
        have HS := Lib.hid (short_q ng A1 A2 n1 c1 n2 c2 wr)
        by_cases hs : (decide (n1 ≤ 3) && decide (n2 ≤ 3)) = true
        · rw [hs] at HS
          have hok : okk = true := by rw [HOK.out, hs]
          have HN : Hid ((l.take (k + 1)).all Fr.short = true) := by
            have : (l.take (k + 1)).all Fr.short = true := by rw [HTK.out, HA.out, hok]; rfl
            exact this
          clear hs hok
          go_wp2_with fail
          refine HS.out.mono ?_
          rintro e w2 ⟨rfl, x2⟩
          have X2 := Lib.hid x2
          clear x2 a0 a1 a2 HS
          go_wp2_with fail
          go_roundw
          case rel => exact ⟨k + 1, by omega, by omega, by go_num, ⟨HN.out, HX.out.trans X2.out⟩⟩
          case measure => simp [intOf]; omega
        · have hs' : (decide (n1 ≤ 3) && decide (n2 ≤ 3)) = false := by simpa using hs
          rw [hs'] at HS
          have HF : Hid (fewAt l = false) := by
            have : fewAt l = false := HBAD.out (by rw [HOK.out, hs'])
            exact this
          clear hs hs'
          go_wp2_with fail
          refine HS.out.mono ?_
          rintro e w2 ⟨rfl, x2⟩
          have X2 := Lib.hid x2
          clear x2 a0 a1 a2 HS
          go_wp2_with fail
          go_ret
          exact ⟨by rw [HF.out]; rfl, HX.out.trans X2.out⟩
    · have HF : Hid (fewAt l = true) := by
        have hke : k = l.length := by omega
        have hA := HA.out
        rw [hke, List.take_length] at hA
        have : fewAt l = true := by
          unfold fewAt
          rw [Bool.and_eq_true]
          exact ⟨by simp; omega, hA⟩
        exact this
      go_wp2_with fail
      go_ret
      exact ⟨by rw [HF.out]; rfl, HX.out⟩
end Go.Proofs.YtdcapcpchcnidaaGreat

/- Layer 40: awake: x < 3 at x = 2. -/
namespace Go.Proofs.YtdcapcpchcnidaaGreat
open Go.RowKit

def xx : ByteArray := ⟨#[120]⟩
def f3 : Fm := .atom (.name xx) 1 (.num 3)
theorem f3_free : f3.free = [xx] := by simp [f3, Fm.free, Fm.fold, Tm.fold, freeStep, has]
theorem f3_cover : coverB (vget [(xx, 2)]) f3.free = true := by rw [f3_free]; simp [coverB, vget]
theorem f3_bad : f3.pre.any Fm.bad = false := by
  have h : ndig 3 = 1 := ndig_lt (by decide)
  simp [f3, Fm.pre, Fm.bad, Tm.large, Tm.deg, Tm.wt, h, capI]
theorem f3_tv : f3.tv (vget [(xx, 2)]) = true := by
  simp [f3, Fm.tv, Tm.val, vget, holdsI, cmpQ]
  decide
theorem f3_eval : evalF f3 [(xx, 2)] = (true, 0) := by
  unfold evalF
  rw [if_neg (by simp [f3, Fm.bound]), if_neg (by rw [f3_cover]; simp), if_neg (by rw [f3_bad]; simp), f3_tv]

theorem rlen_two : rlen (2 : Rat) ≤ 1 := by
  have h : (dg 2).length = 1 := by rw [dg_small (by decide) (by decide)]; rfl
  have := rlen_int 2 (L := 1) (by show (dg 2).length ≤ 1; omega) (by omega)
  simpa using this
theorem f3_formula {W : World} {v : Value} {b1 : Bool} {A1 B1 : Option Addr} {n1 c1 k1 d1 : Nat} (m1 : RatN W (.agg #[.bool b1, .slice A1 n1 c1, .slice B1 k1 d1]) ((2 : Int) : Rat)) (hf : FmV W 1 f3 v) :
    Calls Tryz.prog 20 #[v, .slice (some ⟨W.heap.size, 0, none⟩) 1 1] (W.alloc (.cells #[.string ⟨#[120]⟩, .bool b1, .slice A1 n1 c1, .slice B1 k1 d1] 67)) (RetBE (true, 0) (W.alloc (.cells #[.string ⟨#[120]⟩, .bool b1, .slice A1 n1 c1, .slice B1 k1 d1] 67))) := by
  rw [← f3_eval]
  have hx : Ext W (W.alloc (.cells #[.string ⟨#[120]⟩, .bool b1, .slice A1 n1 c1, .slice B1 k1 d1] 67)) := (Ext.refl W).alloc _
  refine evalFormula_any (L := 1) (vals := [(xx, 2)]) (by omega) (by omega) f3 (hf.ext hx) ?_ rfl (by simp [f3, Fm.sz, Tm.sz]) (fun _ _ _ => ?_)
  · refine ⟨_, 1, rfl, by simp, by simp, fun j hj => ?_⟩
    have : j = 0 := by simp at hj; omega
    subst this
    refine ⟨_, b1, A1, n1, c1, B1, k1, d1, rfl, by simp, ?_, ?_⟩
    · rw [add_mk]
      refine ⟨?_, ?_, ?_, ?_⟩ <;> simp [go_sem, xx]
    · have h2 : (((2 : Int) : Rat)) = 2 := by rfl
      rw [h2] at m1
      exact (m1.raw.mono rlen_two).ext hx
  · refine ⟨⟨?_, ?_⟩, ⟨trivial, ?_⟩⟩
    · simp [Tm.covered, vget]
    · simp [Tm.bt]
    · simp [Tm.bt]

set_option maxRecDepth 100000 in
set_option maxHeartbeats 1000000 in
theorem awake_any (w : World) : Calls Tryz.prog 5 #[] w (RetB true w) := by
  go_enter Tryz.func5, Tryz.ntmps5
  go_wp2_with fail
  obtain ⟨W, hW⟩ : ∃ W, (w.alloc (.cells #[.int .u32 3] 57)).alloc (.cells #[.iface 56 (.agg #[.string ⟨#[120]⟩]), .int .i64 1, .iface 59 (.agg #[.bool false, .slice (some ⟨w.heap.size, 0, none⟩) 1 1])] 63) = W := ⟨_, rfl⟩
  have hWx : Ext w W := by rw [← hW]; exact ((Ext.refl w).alloc _).alloc _
  have hWs : W.heap.size = w.heap.size + 1 + 1 := by rw [← hW]; simp
  have hd : W.cell? ⟨w.heap.size, 0, none⟩ = some (.int .u32 3) := by rw [← hW]; simp [go_sem]
  have HB : Hid (∀ W', Ext W W' → (Ext W W' ∧ W'.cell? ⟨w.heap.size + 1, 0, none⟩ = some (.iface 56 (.agg #[.string ⟨#[120]⟩])) ∧ W'.cell? ⟨w.heap.size + 1, 1, none⟩ = some (.int .i64 1) ∧ W'.cell? ⟨w.heap.size + 1, 2, none⟩ = some (.iface 59 (.agg #[.bool false, .slice (some ⟨w.heap.size, 0, none⟩) 1 1])))) := by
    intro W' hx
    obtain ⟨hc, hf⟩ := hx.cells
    refine ⟨hx, ?_, ?_, ?_⟩ <;> (rw [hc _ _ (by omega), ← hW]; simp [go_sem])
  have HFV : Hid (FmV W 1 f3 (.iface 63 (.agg #[.iface 56 (.agg #[.string ⟨#[120]⟩]), .int .i64 1, .iface 59 (.agg #[.bool false, .slice (some ⟨w.heap.size, 0, none⟩) 1 1])]))) := by
    refine ⟨_, _, rfl, rfl, ⟨_, rfl, false, _, [3], rfl, ⟨some ⟨w.heap.size, 0, none⟩, 1, rfl, by simp, by simp, ?_, ?_⟩, ?_, by simp⟩⟩
    · exact Digs.cons (by decide) Digs.nil
    · intro _
      refine ⟨_, rfl, by show w.heap.size < _; omega, fun j hj => ?_⟩
      have : j = 0 := by simp at hj; omega
      subst this
      rw [add_mk]; exact hd
    · simp [sgn, val]
  have HWX := Lib.hid hWx
  rw [hW]
  clear hW hd hWx hWs
  have y0 : Ext W W.drew := (Ext.refl W).drew
  have Y0 := Lib.hid y0
  clear y0
  go_region_held3 (fun W' => Ext W W' ∧ W'.cell? ⟨w.heap.size + 1, 0, none⟩ = some (.iface 56 (.agg #[.string ⟨#[120]⟩])) ∧ W'.cell? ⟨w.heap.size + 1, 1, none⟩ = some (.int .i64 1) ∧ W'.cell? ⟨w.heap.size + 1, 2, none⟩ = some (.iface 59 (.agg #[.bool false, .slice (some ⟨w.heap.size, 0, none⟩) 1 1])))
    (first | with_reducible exact HB.out _ Y0.out | with_reducible exact HB.out _ y1 | with_reducible exact HB.out _ (y1.alloc _) | with_reducible exact HB.out _ y2)
    (first
      | (go_at_call 21
         refine (of_rat 2 _ (by omega) (by omega)).mono ?_
         rintro e v1 ⟨z1, rfl, m1, x1⟩
         obtain ⟨b1, A1, n1, c1, B1, k1, d1, rfl⟩ := m1.unpack
         have y1 : Ext W v1 := Ext.trans Y0.out x1)
      | (go_at_call 20
         refine (f3_formula m1 (HFV.out.ext y1)).mono ?_
         rintro e v2 ⟨rfl, x2⟩
         have y2 : Ext W v2 := Ext.trans (y1.alloc _) x2))
  all_goals
    have X2 := Lib.hid (HWX.out.trans y2)
    clear y1 y2 x1 x2 m1 HB HWX Y0 HFV
    go_wp2_with fail
    refine (Holds_any 1 (-5) _).mono ?_
    rintro e w3 ⟨rfl, rfl⟩
    go_wp2_with fail
    go_ret
    exact ⟨rfl, X2.out⟩

end Go.Proofs.YtdcapcpchcnidaaGreat

/- Law 40: same, EvaluateMatrices. -/
namespace Go.Proofs.YtdcapcpchcnidaaGreat
open Go.RowKit

theorem ratR_unpack {w : World} {x : Value} {q : Rat} {L : Nat} (h : RatR w x q L) : ∃ b A n c B m d, x = .agg #[.bool b, .slice A n c, .slice B m d] := by
  obtain ⟨b, s1, s2, ds, es, rfl, ⟨A, c, rfl, -⟩, ⟨B, d, rfl, -⟩, -⟩ := h
  exact ⟨_, _, _, _, _, _, _, rfl⟩

set_option maxRecDepth 100000 in
theorem same_any {w : World} {x y : Value} {q1 q2 : Rat} {L M : Nat} (h : RatR w x q1 L) (k : RatR w y q2 M) (hL : 1 ≤ L) (hM : 1 ≤ M) (hs : 2 * (L + M) + 2 ≤ 17592186044416) : Calls Tryz.prog 15 #[x, y] w (RetB (cmpQ q1 q2 == 0) w) := by
  have H := Lib.hid h
  have K := Lib.hid k
  obtain ⟨b, A, n, c, B, m, d, rfl⟩ := ratR_unpack h
  obtain ⟨b', A', n', c', B', m', d', rfl⟩ := ratR_unpack k
  clear h k
  obtain ⟨W, hW⟩ : ∃ W, (w.alloc (.cells #[.bool b, .slice A n c, .slice B m d] 45)).alloc (.cells #[.bool b', .slice A' n' c', .slice B' m' d'] 45) = W := ⟨_, rfl⟩
  have hWx : Ext w W := by rw [← hW]; exact ((Ext.refl w).alloc _).alloc _
  have a0 : W.cell? ⟨w.heap.size, 0, none⟩ = some (.bool b) := by rw [← hW]; simp [go_sem]
  have a1 : W.cell? ⟨w.heap.size, 1, none⟩ = some (.slice A n c) := by rw [← hW]; simp [go_sem]
  have a2 : W.cell? ⟨w.heap.size, 2, none⟩ = some (.slice B m d) := by rw [← hW]; simp [go_sem]
  have d0 : W.cell? ⟨w.heap.size + 1, 0, none⟩ = some (.bool b') := by rw [← hW]; simp [go_sem]
  have d1 : W.cell? ⟨w.heap.size + 1, 1, none⟩ = some (.slice A' n' c') := by rw [← hW]; simp [go_sem]
  have d2 : W.cell? ⟨w.heap.size + 1, 2, none⟩ = some (.slice B' m' d') := by rw [← hW]; simp [go_sem]
  have HWX := Lib.hid hWx
  have HC := Lib.hid (cmp_rat _ _ q1 q2 L M W (H.out.ext hWx) (K.out.ext hWx) hL hM hs)
  clear hWx
  go_enter Tryz.func15, Tryz.ntmps15
  go_wp2_with fail
  clear hW
  refine HC.out.mono ?_
  rintro e w1 ⟨rfl, x1⟩
  have X1 := Lib.hid (HWX.out.trans x1)
  clear x1 HC a0 a1 a2 d0 d1 d2
  generalize cmpQ q1 q2 = cq at *
  go_wp2_with fail
  go_ret
  exact ⟨rfl, X1.out⟩
theorem cmpQ_self (q : Rat) : (cmpQ q q == 0) = true := by simp [cmpQ]
theorem Mx.lvl_pos (t : Mx) : 0 ≤ t.lvl := by
  rw [← t.lvl_nrm]
  generalize t.nrm.raw = l
  have : ∀ (l : List Pl) (a : Int), 0 ≤ a → 0 ≤ lvR a l := by
    intro l
    induction l with
    | nil => intro a h; exact h
    | cons p r ih => intro a h; exact ih _ (by omega)
  exact this l 0 (by omega)

/-- What a round needs. -/
structure LmP (xs : List Rat) (p : Pl) : Prop where
  can : p.Can
  nf : p.nf = p
  sz : p.sz ≤ 3111696
  dm : p.dm ≤ 5
  eb : p.eb 3 ≤ 1099511627776

set_option maxRecDepth 100000 in
set_option maxHeartbeats 4000000 in
theorem lawMatrices_any {w : World} {q : Nat → Prop} {xv : Value} {l : List Fr} (t : Mx) (v : Value) (h : MxV w q t v) (hx : FrsW w xv l) : Calls Tryz.prog 3 #[v, xv] w (RetB true w) := by
  have HT := Lib.hid h
  have HXS := Lib.hid hx
  obtain ⟨A0, n0, c0, A, n1, c1, K, c, rfl, -, hl1, hl2, -⟩ := h.open_
  obtain ⟨XA, Xc, rfl, hx1, hx2, -⟩ := id hx
  clear h hx
  unfold mxV
  unfold mxV at HT
  obtain ⟨W, hW⟩ : ∃ W, w.alloc (.cells #[.int .i64 t.kind, .int .i64 t.rel, .int .i64 t.p.lv, .bool t.p.neg, .slice A0 n0 c0, .slice A n1 c1, .slice K t.ks.length c] 32) = W := ⟨_, rfl⟩
  have hWx : Ext w W := by rw [← hW]; exact (Ext.refl w).alloc _
  have hWs : W.heap.size = w.heap.size + 1 := by rw [← hW]; simp
  have hbx : Box7 W w.heap.size t (.slice A0 n0 c0) (.slice A n1 c1) (.slice K t.ks.length c) := by rw [← hW]; exact Box7.new w t _ _ _ _
  have HBX := Lib.hid hbx
  have HWX := Lib.hid hWx
  clear hWx hbx
  go_enter Tryz.func3, Tryz.ntmps3
  go_wp2_with fail
  clear hW
  refine (awake_any _).mono ?_
  rintro e w1 ⟨rfl, x1⟩
  have hx1' := HWX.out.trans x1
  obtain ⟨b0, b1, b2, b3, b4, b5, b6⟩ := HBX.out.ext x1 (by omega)
  have HB1 := Lib.hid (HBX.out.ext x1 (by omega))
  have hz1 := x1.size
  have HFE := Lib.hid (fewMx_any 60 (by omega) t _ w1 (HT.out.ext hx1'))
  have X1 := Lib.hid hx1'
  clear x1 hx1'
  go_wp2_with fail
  clear b0 b1 b2 b3 b4 b5 b6
  refine HFE.out.mono ?_
  rintro e w2 ⟨rfl, x2⟩
  have hz2 := x2.size
  have HB2 := Lib.hid (HB1.out.ext x2 (by omega))
  have X2 := Lib.hid (X1.out.trans x2)
  have HFA := Lib.hid (fewAt_any (HXS.out.ext (X1.out.trans x2)))
  clear x2 HFE
  by_cases hf : t.few 60 = true
  case neg =>
    have hf' : t.few 60 = false := by simpa using hf
    rw [hf']
    clear hf hf' HFA
    go_wp2_with fail
    refine (awake_any _).mono ?_
    rintro e w3 ⟨rfl, x3⟩
    have X3 := Lib.hid (X2.out.trans x3)
    clear x3
    go_wp2_with fail
    go_ret
    exact ⟨rfl, X3.out⟩
  rw [hf]
  go_wp2_with fail
  refine HFA.out.mono ?_
  rintro e w3 ⟨rfl, x3⟩
  have hz3 := x3.size
  have HB3 := Lib.hid (HB2.out.ext x3 (by omega))
  have X3 := Lib.hid (X2.out.trans x3)
  clear x3 HFA
  by_cases hg : fewAt l = true
  case neg =>
    have hg' : fewAt l = false := by simpa using hg
    rw [hg']
    clear hf hg hg'
    go_wp2_with fail
    refine (awake_any _).mono ?_
    rintro e w4 ⟨rfl, x4⟩
    have X4 := Lib.hid (X3.out.trans x4)
    clear x4
    go_wp2_with fail
    go_ret
    exact ⟨rfl, X4.out⟩
  rw [hg]
  obtain ⟨hsz, hsm⟩ := Mx.few_le hf
  have hdig := HT.out.dig
  obtain ⟨xs, hxs⟩ : ∃ xs, l.map Fr.q = xs := ⟨_, rfl⟩
  have hlen : xs.length = l.length := by rw [← hxs, List.length_map]
  have hrs : RsV w 3 (.slice XA l.length Xc) xs := by rw [← hxs]; exact HXS.out.few hg
  have HRS := Lib.hid hrs
  have HSM := Lib.hid hsm
  have HDG := Lib.hid hdig
  have hlv0 := t.lvl_pos
  have HPF : Hid (∀ p ∈ t.pols, LmP xs p) := by
    have : ∀ p ∈ t.pols, LmP xs p := fun p hp => by
      obtain ⟨h1, h2, h3, h4, h5⟩ := Mx.pols_fit hsm hdig p hp
      exact ⟨h1, h2, h3, h4, h5⟩
    exact this
  have hpl : t.pols.length ≤ 60 := Nat.le_trans t.pols_len hsz
  have HNM := Lib.hid (mnorm_any t _ w3 (by omega) hsm (HT.out.ext X3.out))
  obtain ⟨b0, b1, b2, b3, b4, b5, b6⟩ := HB3.out
  clear hf hg hxs hrs hdig
  go_wp2_with fail
  clear b0 b1 b2 b3 b4 b5 b6
  refine HNM.out.mono ?_
  rintro e w4 ⟨nv, rfl, hnv, x4⟩
  have HN0 := Lib.hid hnv
  obtain ⟨B0, m0, d0, B, m1, d1, J, d, rfl, -, -, -, -⟩ := hnv.open_
  have hz4 := x4.size
  obtain ⟨V, hV⟩ : ∃ V, w4.alloc (.cells #[.int .i64 t.nrm.kind, .int .i64 t.nrm.rel, .int .i64 t.nrm.p.lv, .bool t.nrm.p.neg, .slice B0 m0 d0, .slice B m1 d1, .slice J t.nrm.ks.length d] 32) = V := ⟨_, rfl⟩
  have hVx : Ext w4 V := by rw [← hV]; exact (Ext.refl _).alloc _
  have hVs : V.heap.size = w4.heap.size + 1 := by rw [← hV]; simp
  have hby : Box7 V w4.heap.size t.nrm (.slice B0 m0 d0) (.slice B m1 d1) (.slice J t.nrm.ks.length d) := by rw [← hV]; exact Box7.new w4 t.nrm _ _ _ _
  have HBY := Lib.hid hby
  have HB4 := Lib.hid (HB3.out.ext (x4.trans hVx) (by omega))
  have X4 := Lib.hid (X3.out.trans (x4.trans hVx))
  have HNV := Lib.hid (HN0.out.ext hVx)
  have hat := mat_any (L := 3) (by omega) (by omega) (HRS.out.ext X4.out) t _ (by omega) HSM.out (Mx.small_fit HSM.out) (HT.out.ext X4.out)
  rw [hlen] at hat
  obtain ⟨ok, er, hoe⟩ : ∃ ok er, (if t.lvl ≤ (l.length : Int) then (t.tv (rho xs), (0 : Int)) else (false, 4)) = (ok, er) := ⟨_, _, rfl⟩
  rw [hoe] at hat
  have HOE := Lib.hid hoe
  have HAT := Lib.hid hat
  unfold mxV at HNV
  obtain ⟨b0, b1, b2, b3, b4, b5, b6⟩ := HB4.out
  clear hnv x4 hVx hby HNM HN0 hat hoe
  unfold mxV
  go_wp2_with fail
  clear hV b0 b1 b2 b3 b4 b5 b6
  refine HAT.out.mono ?_
  rintro e w5 ⟨rfl, x5⟩
  have hz5 := x5.size
  have HB5 := Lib.hid (HB4.out.ext x5 (by omega))
  have HBY5 := Lib.hid (HBY.out.ext x5 (by omega))
  have X5 := Lib.hid (X4.out.trans x5)
  have HN5 := Lib.hid (HNV.out.ext x5)
  have hlev := refLev_any t.nrm _ w5 (by have := t.nrm_sz; omega) HN5.out
  rw [t.lvl_nrm] at hlev
  have HLE := Lib.hid hlev
  obtain ⟨b0, b1, b2, b3, b4, b5, b6⟩ := HBY5.out
  have HRA : Hid (t.lvl ≤ (l.length : Int) → ∀ W', Ext w5 W' → Calls Tryz.prog 11 #[.agg #[.int .i64 t.nrm.kind, .int .i64 t.nrm.rel, .int .i64 t.nrm.p.lv, .bool t.nrm.p.neg, .slice B0 m0 d0, .slice B m1 d1, .slice J t.nrm.ks.length d], .slice XA l.length Xc] W' (RetB (t.tv (rho xs)) W')) := by
    have : t.lvl ≤ (l.length : Int) → ∀ W', Ext w5 W' → Calls Tryz.prog 11 #[.agg #[.int .i64 t.nrm.kind, .int .i64 t.nrm.rel, .int .i64 t.nrm.p.lv, .bool t.nrm.p.neg, .slice B0 m0 d0, .slice B m1 d1, .slice J t.nrm.ks.length d], .slice XA l.length Xc] W' (RetB (t.tv (rho xs)) W') := fun hle W' hx' => by
      have h1 := rat_any (L := 3) (by omega) (by omega) (HRS.out.ext (X5.out.trans hx')) t.nrm _ (by have := t.nrm_sz; omega) (Mx.nrm_fit HSM.out HDG.out xs.length (by omega)) (HN5.out.ext hx')
      rw [t.tv_nrm] at h1
      exact h1
    exact this
  have HPO : Hid (∀ W', Ext w5 W' → Calls Tryz.prog 12 #[.agg #[.int .i64 t.kind, .int .i64 t.rel, .int .i64 t.p.lv, .bool t.p.neg, .slice A0 n0 c0, .slice A n1 c1, .slice K t.ks.length c]] W' fun e w' => ∃ tv, e = .returned tv ∧ QRow W'.heap.size (fun _ => True) w' tv t.pols ∧ Ext W' w') := by
    have : ∀ W', Ext w5 W' → Calls Tryz.prog 12 #[.agg #[.int .i64 t.kind, .int .i64 t.rel, .int .i64 t.p.lv, .bool t.p.neg, .slice A0 n0 c0, .slice A n1 c1, .slice K t.ks.length c]] W' fun e w' => ∃ tv, e = .returned tv ∧ QRow W'.heap.size (fun _ => True) w' tv t.pols ∧ Ext W' w' := fun W' hx' => pols_any t _ W' (by omega) HSM.out (HT.out.ext (X5.out.trans hx'))
    exact this
  clear x5 hlev HAT HNV
  generalize t.lvl = lv at *
  generalize t.tv (rho xs) = tv at *
  go_wp2_with fail
  clear b0 b1 b2 b3 b4 b5 b6
  refine HLE.out.mono ?_
  rintro e w6 ⟨rfl, x6⟩
  have hz6 := x6.size
  have HB6 := Lib.hid (HB5.out.ext x6 (by omega))
  have HBY6 := Lib.hid (HBY5.out.ext x6 (by omega))
  have X6 := Lib.hid (X5.out.trans x6)
  have Y6 := Lib.hid x6
  clear x6 HLE HB5 HBY5 HBY HB4 HB3 HB2 HB1 HBX
  go_upto_if 37 with fail
  go_cut [] from 37 to 51 (fun wc => Hid (Ext w6 wc))
  case first =>
    by_cases hle : lv ≤ (l.length : Int)
    · have hgt : ¬ ((l.length : Int) < lv) := by omega
      have hdec : decide (lv ≤ (l.length : Int)) = true := decide_eq_true hle
      have HRA2 := Lib.hid (HRA.out hle)
      have h1 := HOE.out
      rw [if_pos hle] at h1
      injection h1 with h1 h2
      subst h1 h2
      obtain ⟨b0, b1, b2, b3, b4, b5, b6⟩ := HBY6.out
      clear hle hdec
      go_wp2_with fail
      clear b0 b1 b2 b3 b4 b5 b6
      refine (HRA2.out _ Y6.out).mono ?_
      rintro e w7 ⟨rfl, x7⟩
      have X7 := Lib.hid x7
      clear x7 HRA HRA2
      cases tv
      · go_wp2_with fail
        go_meet
        exact X7
      · go_wp2_with fail
        go_meet
        exact X7
    · have hgt : (l.length : Int) < lv := by omega
      have h1 := HOE.out
      rw [if_neg hle] at h1
      injection h1 with h1 h2
      subst h1 h2
      clear hle
      go_wp2_with fail
      go_meet
      exact Ext.refl w6
  case rest =>
  have HB7 := Lib.hid (HB6.out.ext hcut.out (by omega))
  have X7 := Lib.hid (X6.out.trans hcut.out)
  have HP7 := Lib.hid (HPO.out wc (Y6.out.trans hcut.out))
  obtain ⟨b0, b1, b2, b3, b4, b5, b6⟩ := HB7.out
  clear hcut HPO HRA HB6 HBY6 Y6 HOE
  go_wp2_with fail
  clear b0 b1 b2 b3 b4 b5 b6
  refine HP7.out.mono ?_
  rintro e w8 ⟨tv8, rfl, hrow, x8⟩
  obtain ⟨PA, pc, rfl, hpc1, hpc2⟩ := hrow.len
  have HPA := Lib.hid hrow.at_
  have X8 := Lib.hid (X7.out.trans x8)
  clear hrow x8 HP7 HB7 X7
  generalize t.pols = ps at *
  go_wp2_with fail
  go_loopw [56] (fun iv wr => ∃ (k : Nat), k ≤ ps.length ∧ iv = .int .i64 k ∧ Hid (Ext w8 wr)) (fun iv _ => ps.length - (intOf iv).toNat)
  case atStart => exact ⟨0, Nat.zero_le _, rfl, Ext.refl w8⟩
  case round =>
    obtain ⟨k, hk, rfl, hxw0⟩ := hrel
    have hxw : Ext w8 wr := hxw0.out
    clear hxw0
    have XW := Lib.hid (X8.out.trans hxw)
    by_cases hlt : k < ps.length
    · obtain ⟨ad, C0, cn0, cc0, C1, cn1, cc1, rfl, hadb, hat, hkt⟩ := PlsAt.kid HPA.out k hlt
      have hadr : ad.block < wr.heap.size := Nat.lt_of_lt_of_le hadb hxw.size
      have hat' := hat.ext hxw (by rw [block_of_add]; exact hadb)
      have HAD := Lib.hid hat'
      have hlm := HPF.out ps[k] (List.getElem_mem hlt)
      have hpv := mpoly_any (L := 3) (by omega) (by omega) (HRS.out.ext XW.out) ps[k] _ (by have := hlm.sz; omega) (by rw [hlm.nf]; have := hlm.sz; omega) (by have := hlm.dm; omega) hlm.eb (hkt.ext hxw)
      rw [hlm.nf, hlen] at hpv
      have HPV := Lib.hid hpv
      have HVAL : Hid (ps[k].lv ≤ (l.length : Int) → ∀ W', Ext wr W' → Calls Tryz.prog 16 #[plV ps[k] (.slice C0 cn0 cc0) (.slice C1 cn1 cc1), .slice XA l.length Xc] W' (RetRat (ps[k].val (rho xs)) W')) := by
        have : ps[k].lv ≤ (l.length : Int) → ∀ W', Ext wr W' → Calls Tryz.prog 16 #[plV ps[k] (.slice C0 cn0 cc0) (.slice C1 cn1 cc1), .slice XA l.length Xc] W' (RetRat (ps[k].val (rho xs)) W') := fun h1 W' hx' =>
          valueP_any (L := 3) (by omega) (by omega) (HRS.out.ext (XW.out.trans hx')) ps[k] _ hlm.can (by omega) hlm.eb ((hkt.ext hxw).ext hx')
        exact this
      have hrl : rlen (ps[k].val (rho xs)) ≤ 1099511627776 := Nat.le_trans (Pl.val_rlen (rho xs) 3 (fun i => rho_len (by omega) HRS.out i) ps[k] hkt.dig) hlm.eb
      have hrp := rlen_pos (ps[k].val (rho xs))
      obtain ⟨e0, e1, e2, e3⟩ := hat'
      unfold plV at HPV HVAL
      clear hpv hlm hat hkt hadb
      generalize ps[k].val (rho xs) = qq at *
      go_wp2_with fail
      clear e0 e1 e2 e3
      refine HPV.out.mono ?_
      rintro e w9 ⟨z9, rfl, r9, x9⟩
      have hz9 := x9.size
      obtain ⟨p1, P1, pn, pc', P2, pm, pd, rfl⟩ := ratR_unpack r9
      obtain ⟨U, hU⟩ : ∃ U, w9.alloc (.cells #[.bool p1, .slice P1 pn pc', .slice P2 pm pd] 45) = U := ⟨_, rfl⟩
      have hUx : Ext w9 U := by rw [← hU]; exact (Ext.refl _).alloc _
      have hUs : U.heap.size = w9.heap.size + 1 := by rw [← hU]; simp
      have hqU : U.heap[w9.heap.size]? = some (.cells #[.bool p1, .slice P1 pn pc', .slice P2 pm pd] 45 (0, 0)) := by rw [← hU]; exact heap_alloc_new w9 _
      have f0 : U.cell? ⟨w9.heap.size, 0, none⟩ = some (.bool p1) := by simp [World.cell?, hqU]
      have f1 : U.cell? ⟨w9.heap.size, 1, none⟩ = some (.slice P1 pn pc') := by simp [World.cell?, hqU]
      have f2 : U.cell? ⟨w9.heap.size, 2, none⟩ = some (.slice P2 pm pd) := by simp [World.cell?, hqU]
      have XU := Lib.hid (x9.trans hUx)
      have R9 := Lib.hid (r9.ext hUx)
      obtain ⟨e0, e1, e2, e3⟩ := HAD.out.ext XU.out (by rw [block_of_add]; exact hadr)
      have HB : Hid (∀ W2, Ext U W2 → (Ext U W2 ∧ W2.cell? ⟨w9.heap.size, 0, none⟩ = some (.bool p1) ∧ W2.cell? ⟨w9.heap.size, 1, none⟩ = some (.slice P1 pn pc') ∧ W2.cell? ⟨w9.heap.size, 2, none⟩ = some (.slice P2 pm pd) ∧ W2.cell? (Addr.add ad (k * 4)) = some (.int .i64 ps[k].lv) ∧ W2.cell? ⟨(Addr.add ad (k * 4)).block, (Addr.add ad (k * 4)).off + 1, none⟩ = some (.bool ps[k].neg) ∧ W2.cell? ⟨(Addr.add ad (k * 4)).block, (Addr.add ad (k * 4)).off + 2, none⟩ = some (.slice C0 cn0 cc0) ∧ W2.cell? ⟨(Addr.add ad (k * 4)).block, (Addr.add ad (k * 4)).off + 3, none⟩ = some (.slice C1 cn1 cc1))) := by
        have : ∀ W2, Ext U W2 → (Ext U W2 ∧ W2.cell? ⟨w9.heap.size, 0, none⟩ = some (.bool p1) ∧ W2.cell? ⟨w9.heap.size, 1, none⟩ = some (.slice P1 pn pc') ∧ W2.cell? ⟨w9.heap.size, 2, none⟩ = some (.slice P2 pm pd) ∧ W2.cell? (Addr.add ad (k * 4)) = some (.int .i64 ps[k].lv) ∧ W2.cell? ⟨(Addr.add ad (k * 4)).block, (Addr.add ad (k * 4)).off + 1, none⟩ = some (.bool ps[k].neg) ∧ W2.cell? ⟨(Addr.add ad (k * 4)).block, (Addr.add ad (k * 4)).off + 2, none⟩ = some (.slice C0 cn0 cc0) ∧ W2.cell? ⟨(Addr.add ad (k * 4)).block, (Addr.add ad (k * 4)).off + 3, none⟩ = some (.slice C1 cn1 cc1)) := fun W2 hx' => by
          obtain ⟨g0, g1, g2, g3⟩ := HAD.out.ext (XU.out.trans hx') (by rw [block_of_add]; exact hadr)
          exact ⟨hx', (hx'.cell (p := ⟨w9.heap.size, 0, none⟩) (by show w9.heap.size < _; omega)).trans f0, (hx'.cell (p := ⟨w9.heap.size, 1, none⟩) (by show w9.heap.size < _; omega)).trans f1, (hx'.cell (p := ⟨w9.heap.size, 2, none⟩) (by show w9.heap.size < _; omega)).trans f2, g0, g1, g2, g3⟩
        exact this
      have HXW := Lib.hid hxw
      clear r9 x9 hUx hqU HPV hxw
      by_cases hle : ps[k].lv ≤ (l.length : Int)
      · have hgt : ¬ ((l.length : Int) < ps[k].lv) := by omega
        have hr := R9.out
        rw [if_pos hle] at hr
        have HR := Lib.hid hr
        have HV2 := Lib.hid (HVAL.out hle)
        have HSM2 : Hid (∀ W' z, Ext U W' → RatN W' z qq → Calls Tryz.prog 15 #[.agg #[.bool p1, .slice P1 pn pc', .slice P2 pm pd], z] W' (RetB (cmpQ qq qq == 0) W')) := by
          have : ∀ W' z, Ext U W' → RatN W' z qq → Calls Tryz.prog 15 #[.agg #[.bool p1, .slice P1 pn pc', .slice P2 pm pd], z] W' (RetB (cmpQ qq qq == 0) W') := fun W' z hx' hz => same_any (HR.out.ext hx') hz.raw hrp hrp (by omega)
          exact this
        have hcq := cmpQ_self qq
        rw [hcq] at HSM2
        rw [if_pos hle]
        clear hle hr HVAL R9 hcq
        go_wp2_with fail
        clear hU e0 e1 e2 e3 f0 f1 f2
        have y0 : Ext U U.drew := (Ext.refl U).drew
        have Y0 := Lib.hid y0
        clear y0
        go_region_held3 (fun W2 => Ext U W2 ∧ W2.cell? ⟨w9.heap.size, 0, none⟩ = some (.bool p1) ∧ W2.cell? ⟨w9.heap.size, 1, none⟩ = some (.slice P1 pn pc') ∧ W2.cell? ⟨w9.heap.size, 2, none⟩ = some (.slice P2 pm pd) ∧ W2.cell? (Addr.add ad (k * 4)) = some (.int .i64 ps[k].lv) ∧ W2.cell? ⟨(Addr.add ad (k * 4)).block, (Addr.add ad (k * 4)).off + 1, none⟩ = some (.bool ps[k].neg) ∧ W2.cell? ⟨(Addr.add ad (k * 4)).block, (Addr.add ad (k * 4)).off + 2, none⟩ = some (.slice C0 cn0 cc0) ∧ W2.cell? ⟨(Addr.add ad (k * 4)).block, (Addr.add ad (k * 4)).off + 3, none⟩ = some (.slice C1 cn1 cc1))
          (first | with_reducible exact HB.out _ Y0.out | with_reducible exact HB.out _ y1 | with_reducible exact HB.out _ y2)
          (first
            | (go_at_call 16
               refine (HV2.out _ (Ext.trans XU.out Y0.out)).mono ?_
               rintro e v1 ⟨z1, rfl, m1, x1⟩
               obtain ⟨bq, A1, n1', c1', B1, k1, d1, rfl⟩ := m1.unpack
               have y1 : Ext U v1 := Ext.trans Y0.out x1)
            | (go_at_call 15
               refine (HSM2.out _ _ y1 m1).mono ?_
               rintro e v2 ⟨rfl, x2⟩
               have y2 : Ext U v2 := Ext.trans y1 x2))
        all_goals
          have X9 := Lib.hid ((HXW.out.trans XU.out).trans y2)
          clear y1 x1 y2 x2 m1 HB Y0 HSM2 HV2
          go_wp2_with fail
          go_roundw
          case rel => exact ⟨k + 1, by omega, by go_num, X9⟩
          case measure => simp [intOf]; omega
      · have hgt : (l.length : Int) < ps[k].lv := by omega
        have hr := R9.out
        rw [if_neg hle] at hr
        have HSG := Lib.hid (rsign_any _ 0 _ U hr hrp)
        have hs0 : sgQ 0 = 0 := by simp [sgQ, cmpQ]
        rw [hs0] at HSG
        rw [if_neg hle]
        clear hle hr HVAL R9 hs0
        go_wp2_with fail
        clear hU e0 e1 e2 e3 f0 f1 f2
        refine HSG.out.mono ?_
        rintro e v2 ⟨rfl, x2⟩
        have X9 := Lib.hid ((HXW.out.trans XU.out).trans x2)
        clear x2 HSG HB
        go_wp2_with fail
        go_roundw
        case rel => exact ⟨k + 1, by omega, by go_num, X9⟩
        case measure => simp [intOf]; omega
    · have hke : k = ps.length := by omega
      clear hke hxw
      go_wp2_with fail
      go_ret
      exact ⟨rfl, XW.out⟩
end Go.Proofs.YtdcapcpchcnidaaGreat
