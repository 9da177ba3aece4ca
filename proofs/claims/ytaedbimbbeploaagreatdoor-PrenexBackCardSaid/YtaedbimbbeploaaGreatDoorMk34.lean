/- Layer 27: prenex.kind, Level. -/
import Derived.Test.YtaedbimbbeploaaGreatDoorMk23
import Derived.Test.YtaedbimbbeploaaGreatDoorDeg
import Derived.Test.YtaedbimbbeploaaGreatDoorMk25
import Derived.Test.YtaedbimbbeploaaGreatDoorMRow
import Derived.Test.YtaedbimbbeploaaGreatDoorMk27
import Derived.Test.YtaedbimbbeploaaGreatDoorMk32
import Derived.Test.YtaedbimbbeploaaGreatDoorMk33
import Derived.Deep.RegionLaw
set_option linter.unusedSimpArgs false
set_option linter.unusedVariables false

set_option maxRecDepth 100000
set_option maxHeartbeats 8000000
namespace Go.Proofs.YtaedbimbbeploaaGreatDoor
open Go.RowKit
def yaf (k : Int) : Int := if k < 0 \/ 4 < k then 0 else k
theorem xay (k j : Int) (h1 : 1 <= j) (h2 : j <= 4) : (yaf k == j) = (k == j) := by
 have : (yaf k = j) ↔ (k = j) := by unfold yaf; split <;> omega
 rw [Bool.eq_iff_iff]; simpa using this
theorem xbk {w : World} (t : Mx) (s A K : Value) : Calls Tryz.prog 110 #[mxV t s A K] w (yj (yaf t.kind) w) := by
 unfold mxV;generalize t.kind = k;generalize t.rel = r;generalize t.p.lv = l;generalize t.p.neg = n
 by_cases h1 : k < 0
 · rw [show yaf k = 0 from if_pos (.inl h1)];go_enter Tryz.func110, Tryz.ntmps110;go_wp2_with fail;go_ret;exact ⟨rfl, (Ext.refl w).alloc _⟩
 by_cases h2 : 4 < k
 · rw [show yaf k = 0 from if_pos (.inr h2)];go_enter Tryz.func110, Tryz.ntmps110;go_wp2_with fail;go_ret;exact ⟨rfl, (Ext.refl w).alloc _⟩
 · rw [show yaf k = k from if_neg (by omega)];go_enter Tryz.func110, Tryz.ntmps110;go_wp2_with fail;go_ret;exact ⟨rfl, (Ext.refl w).alloc _⟩
mutual
def Mx.lvl : Mx -> Int
 | .mk k _ p ks => if k = 2 then p.nf.lv else if k = 3 \/ k = 4 then qp 0 ks else 0
def qp : Int -> List Mx -> Int
 | a, [] => a
 | a, t :: r => qp (max a t.lvl) r
end
theorem ybp (a : Int) (l r : List Mx) : qp a (l ++ r) = qp (qp a l) r := by
 induction l generalizing a with
 | nil => rfl
 | cons t l ih => simp only [List.cons_append, qp]; exact ih _
theorem wbc (a : Int) (l : List Mx) (k : Nat) (hk : k < l.length) : qp a (l.take (k + 1)) = max (qp a (l.take k)) l[k].lvl := by
 rw [List.take_succ_eq_append_getElem hk, ybp]; rfl
theorem Mx.lvl_eq (t : Mx) : t.lvl = if t.kind = 2 then t.p.nf.lv else if t.kind = 3 \/ t.kind = 4 then qp 0 t.ks else 0 := by
 cases t; rw [Mx.lvl]; rfl
def ucs (n : Nat) : Prop := ∀ (q : Nat -> Prop) (t : Mx) (v : Value) (w : World), t.sz < n -> t.sz <= 1000000 -> t.small -> MxV w q t v -> Calls Tryz.prog 87 #[v] w (yj t.lvl w)
theorem vcl (n : Nat) : ucs n := by
 induction n with
 | zero => intro q t v w h; omega
 | succ n ih =>
 intro q t v w hn hbig hsm h;have hkl : t.ks.length <= 1000000 := by have := t.ks_len; omega
 have IH := Lib.hid ih;have HSZ := Lib.hid (fun k hk => t.kid_le k hk);have HSM := Lib.hid (Mx.ks_small hsm);have hps := Mx.p_small hsm;obtain ⟨A0, n0, c0, A, n1, c1, K, c, rfl, hp, hl1, hl2, h4⟩ := h.open_;have HP := Lib.hid hp;have H4 := Lib.hid h4;have HLV := Lib.hid t.lvl_eq;obtain ⟨W, hW⟩ : ∃ W, w.alloc (.cells #[.int .i64 t.kind, .int .i64 t.rel, .int .i64 t.p.lv, .bool t.p.neg, .slice A0 n0 c0, .slice A n1 c1, .slice K t.ks.length c] 45) = W := ⟨_, rfl⟩;have hWx : Ext w W := by rw [<- hW]; exact (Ext.refl w).alloc _
 have hWs : W.heap.size = w.heap.size + 1 := by rw [<- hW]; simp
 have hbx : uj W w.heap.size t (.slice A0 n0 c0) (.slice A n1 c1) (.slice K t.ks.length c) := by rw [<- hW]; exact uj.new w t _ _ _ _
 have HWX := Lib.hid hWx;have HBX := Lib.hid hbx;have HKIND := Lib.hid (xbk (w := W) t (.slice A0 n0 c0) (.slice A n1 c1) (.slice K t.ks.length c));obtain ⟨b0, b1, b2, b3, b4, b5, b6⟩ := hbx;have hk2 := xay t.kind 2 (by omega) (by omega);have hk3 := xay t.kind 3 (by omega) (by omega);have hk4 := xay t.kind 4 (by omega) (by omega);clear h ih h4 hWx hp hsm;unfold mxV at *;go_enter Tryz.func87, Tryz.ntmps87;go_wp2_with fail;clear hW b0 b1 b2 b3 b4 b5 b6;refine HKIND.out.mono ?_;rintro e w1 ⟨rfl, x1⟩;generalize yaf t.kind = kd at *;have X1 := Lib.hid (HWX.out.trans x1);obtain ⟨b0, b1, b2, b3, b4, b5, b6⟩ := HBX.out.ext x1 (by omega);have hs1 := x1.size;clear x1 HKIND HWX HBX
 by_cases k2 : t.kind = 2
 · have hlv := HLV.out;rw [if_pos k2] at hlv;have q2 : (kd == 2) = true := by rw [hk2]; simpa using k2
   have hnf : t.p.nf.sz <= 1099511627776 := Nat.le_trans (Pl.nf_sz t.p) (Nat.le_trans (Nat.pow_le_pow_left (show t.p.sz + 2 <= 42 by omega) 4) (by decide));have HC := Lib.hid (ybw t.p _ (HP.out.ext X1.out) (by omega) hnf (by omega));unfold plV at HC;have HL := Lib.hid hlv;generalize t.p.nf.lv = lv at *;clear k2 hk2 hk3 hk4 hlv HLV hnf;go_wp2_with fail;refine HC.out.mono ?_;rintro e w2 ⟨rfl, x2⟩;have X2 := Lib.hid (X1.out.trans x2);clear x2 HC b0 b1 b2 b3 b4 b5 b6;go_wp2_with fail;go_ret;exact ⟨by rw [HL.out]; rfl, X2.out⟩
 by_cases k34 : t.kind = 3 \/ t.kind = 4
 · have hlv := HLV.out;rw [if_neg k2, if_pos k34] at hlv;have HL := Lib.hid hlv;have q2 : (kd == 2) = false := by rw [hk2]; simpa using k2
   have D6 := Lib.hid b6;clear hlv HLV hk2 k2 HP;rcases k34 with k3 | k4
   · have q3 : (kd == 3) = true := by rw [hk3]; simpa using k3
     clear k3 hk3 hk4;go_wp2_with fail;clear b0 b1 b2 b3 b4 b5 b6
     go_loopw [3, 19] (fun mv iv wr => ∃ (k : Nat), k <= t.ks.length /\ iv = .int .i64 k /\ Hid (mv = .int .i64 (qp 0 (t.ks.take k)) /\ Ext w1 wr)) (fun _ iv _ => t.ks.length - (intOf iv).toNat)
     case atStart => exact ⟨0, Nat.zero_le _, rfl, ⟨by simp [qp], Ext.refl w1⟩⟩
     case round =>
      obtain ⟨k, hk, rfl, ⟨rfl, hxw⟩⟩ := hrel;have HXW := Lib.hid hxw
      by_cases hlt : k < t.ks.length
      · obtain ⟨ad, B0, m0, d0, B1, m1, d1, K2, n2, c2, rfl, hadb, ⟨e0, e1, e2, e3, e4, e5, e6⟩, hkt⟩ := zh.kid (zh.ext H4.out (X1.out.trans hxw)) k hlt;have HKT := Lib.hid hkt;have hsz : t.ks[k].sz < n /\ t.ks[k].sz <= 1000000 := by have := HSZ.out k hlt; omega
        have HSTEP : Hid (qp 0 (t.ks.take (k + 1)) = max (qp 0 (t.ks.take k)) t.ks[k].lvl) := by
         have : qp 0 (t.ks.take (k + 1)) = max (qp 0 (t.ks.take k)) t.ks[k].lvl := wbc _ _ _ hlt;exact this
        clear hkt hxw;generalize qp 0 (t.ks.take k) = mm at *;have hkid := IH.out q t.ks[k] _ (wr.alloc (.cells #[.int .i64 t.ks[k].kind, .int .i64 t.ks[k].rel, .int .i64 t.ks[k].p.lv, .bool t.ks[k].p.neg, .slice B0 m0 d0, .slice B1 m1 d1, .slice K2 n2 c2] 45)) hsz.1 hsz.2 (wae HSM.out (List.getElem_mem hlt)) (HKT.out.ext ((Ext.refl wr).alloc _));have HKID := Lib.hid hkid;clear hkid HKT;generalize t.ks[k].lvl = lk at *;go_wp2_with fail;refine HKID.out.mono ?_;rintro e w2 ⟨rfl, x2⟩;have X2 := Lib.hid ((HXW.out.alloc _).trans x2);clear x2 HKID e0 e1 e2 e3 e4 e5 e6;go_wp2_with fail
        go_roundw
        case rel => exact ⟨k + 1, by omega, by go_num, ⟨by rw [HSTEP.out], X2.out⟩⟩
        case measure => simp [intOf]; omega
      · have hke : k = t.ks.length := by omega
        have HF : Hid (t.lvl = qp 0 (t.ks.take k)) := by
         rw [hke, List.take_length];exact HL.out
        clear hxw hke;generalize qp 0 (t.ks.take k) = mm at *;go_wp2_with fail;go_ret;exact ⟨by rw [HF.out]; rfl, X1.out.trans HXW.out⟩
   · have q3 : (kd == 3) = false := by rw [hk3]; simp; omega
     have q4 : (kd == 4) = true := by rw [hk4]; simpa using k4
     clear k4 hk3 hk4;go_wp2_with fail;clear b0 b1 b2 b3 b4 b5 b6
     go_loopw [3, 19] (fun mv iv wr => ∃ (k : Nat), k <= t.ks.length /\ iv = .int .i64 k /\ Hid (mv = .int .i64 (qp 0 (t.ks.take k)) /\ Ext w1 wr)) (fun _ iv _ => t.ks.length - (intOf iv).toNat)
     case atStart => exact ⟨0, Nat.zero_le _, rfl, ⟨by simp [qp], Ext.refl w1⟩⟩
     case round =>
      obtain ⟨k, hk, rfl, ⟨rfl, hxw⟩⟩ := hrel;have HXW := Lib.hid hxw
      by_cases hlt : k < t.ks.length
      · obtain ⟨ad, B0, m0, d0, B1, m1, d1, K2, n2, c2, rfl, hadb, ⟨e0, e1, e2, e3, e4, e5, e6⟩, hkt⟩ := zh.kid (zh.ext H4.out (X1.out.trans hxw)) k hlt;have HKT := Lib.hid hkt;have hsz : t.ks[k].sz < n /\ t.ks[k].sz <= 1000000 := by have := HSZ.out k hlt; omega
        have HSTEP : Hid (qp 0 (t.ks.take (k + 1)) = max (qp 0 (t.ks.take k)) t.ks[k].lvl) := by
         have : qp 0 (t.ks.take (k + 1)) = max (qp 0 (t.ks.take k)) t.ks[k].lvl := wbc _ _ _ hlt;exact this
        clear hkt hxw;generalize qp 0 (t.ks.take k) = mm at *;have hkid := IH.out q t.ks[k] _ (wr.alloc (.cells #[.int .i64 t.ks[k].kind, .int .i64 t.ks[k].rel, .int .i64 t.ks[k].p.lv, .bool t.ks[k].p.neg, .slice B0 m0 d0, .slice B1 m1 d1, .slice K2 n2 c2] 45)) hsz.1 hsz.2 (wae HSM.out (List.getElem_mem hlt)) (HKT.out.ext ((Ext.refl wr).alloc _));have HKID := Lib.hid hkid;clear hkid HKT;generalize t.ks[k].lvl = lk at *;go_wp2_with fail;refine HKID.out.mono ?_;rintro e w2 ⟨rfl, x2⟩;have X2 := Lib.hid ((HXW.out.alloc _).trans x2);clear x2 HKID e0 e1 e2 e3 e4 e5 e6;go_wp2_with fail
        go_roundw
        case rel => exact ⟨k + 1, by omega, by go_num, ⟨by rw [HSTEP.out], X2.out⟩⟩
        case measure => simp [intOf]; omega
      · have hke : k = t.ks.length := by omega
        have HF : Hid (t.lvl = qp 0 (t.ks.take k)) := by
         rw [hke, List.take_length];exact HL.out
        clear hxw hke;generalize qp 0 (t.ks.take k) = mm at *;go_wp2_with fail;go_ret;exact ⟨by rw [HF.out]; rfl, X1.out.trans HXW.out⟩
 · have hlv := HLV.out;rw [if_neg k2, if_neg k34] at hlv;have HL := Lib.hid hlv;have q2 : (kd == 2) = false := by rw [hk2]; simpa using k2
   have q3 : (kd == 3) = false := by rw [hk3]; simp; omega
   have q4 : (kd == 4) = false := by rw [hk4]; simp; omega
   clear hlv HLV hk2 hk3 hk4 k2 k34;go_wp2_with fail;go_ret;exact ⟨by rw [HL.out]; rfl, X1.out⟩
theorem qcd {q : Nat -> Prop} (t : Mx) (v : Value) (w : World) (hbig : t.sz <= 1000000) (hsm : t.small) (h : MxV w q t v) : Calls Tryz.prog 87 #[v] w (yj t.lvl w) :=
 vcl (t.sz + 1) q t v w (Nat.lt_succ_self _) hbig hsm h
end Go.Proofs.YtaedbimbbeploaaGreatDoor

/- Layer 38: prenex.relation, complement; what builder.poly is to do. -/
namespace Go.Proofs.YtaedbimbbeploaaGreatDoor
open Go.RowKit
attribute [local go_sem] gac qaa jad vac yad zad uac yx jaa wac qad yag gq xad qx
theorem kbi (r : Int) (w : World) : Calls Tryz.prog 105 #[.int .i64 r] w fun e w' => e = .returned (.int .i64 (gaa r)) /\ w' = w := by
 unfold gaa
 by_cases h1 : r < 1
 · rw [if_pos (.inl h1)];go_enter Tryz.func105, Tryz.ntmps105;go_wp2_with fail;go_ret;exact ⟨rfl, rfl⟩
 · by_cases h2 : 6 < r
   · rw [if_pos (.inr h2)];go_enter Tryz.func105, Tryz.ntmps105;go_wp2_with fail;go_ret;exact ⟨rfl, rfl⟩
   · rw [if_neg (by omega)];go_enter Tryz.func105, Tryz.ntmps105;go_wp2_with fail;go_ret;exact ⟨rfl, rfl⟩
theorem xb6 (r : Int) (w : World) : Calls Tryz.prog 106 #[.int .i64 r] w fun e w' => e = .returned (.int .i64 (kba r)) /\ w' = w := by
 unfold kba;rcases (show r = 1 \/ r = 2 \/ r = 4 \/ r = 5 \/ r = 6 \/ (r ≠ 1 /\ r ≠ 2 /\ r ≠ 4 /\ r ≠ 5 /\ r ≠ 6) by omega) with rfl | rfl | rfl | rfl | rfl | ⟨h1, h2, h3, h4, h5⟩
 all_goals
  first | rw [if_neg h1, if_neg h2, if_neg h3, if_neg h4, if_neg h5] | skip
  first | (have k1 : (r == 1) = false := by simp [h1]
           have k2 : (r == 2) = false := by simp [h2]
           have k3 : (r == 4) = false := by simp [h3]
           have k4 : (r == 5) = false := by simp [h4]
           have k5 : (r == 6) = false := by simp [h5]
           clear h1 h2 h3 h4 h5) | skip
  go_enter Tryz.func106, Tryz.ntmps106;go_wp2_with fail;go_ret;exact ⟨rfl, rfl⟩
def gbm (W : World) (gb bl : Nat) (g : ByteArray -> Int) : Prop := W.cell? ⟨gb, 2, none⟩ = some (.map (some bl)) /\ gb < W.heap.size /\ kaa W bl g
theorem gbm.ext {W W' : World} {gb bl : Nat} {g : ByteArray -> Int} (h : gbm W gb bl g) (hx : Ext W W') : gbm W' gb bl g := ⟨(hx.cell (p := ⟨gb, 2, none⟩) h.2.1).trans h.1, Nat.lt_of_lt_of_le h.2.1 hx.size, h.2.2.ext hx⟩
section
variable {w0 : World} {L gb bl : Nat} {g : ByteArray -> Int}
def yw (w0 : World) (L gb bl : Nat) (g : ByteArray -> Int) (t : Tm) : Prop := ∀ (v : Value) (W : World), Ext w0 W -> TmV w0 L t v -> gbm W gb bl g -> t.wt <= 400 ->
 Calls Tryz.prog 59 #[.pointer (some ⟨gb, 0, none⟩), v] W (uf (fun b => W.heap.size <= b) (qh g t) W)
theorem Bd.fit400 {p : Pl} {W : Nat} (h : Bd p W) (hw : W <= 400) : Fit p 400 401 := (h.mono hw).fit
theorem ybz {a b : Tm} (h : uq (yg a.wt b.wt + 1) <= 400) : a.wt <= 400 /\ b.wt <= 400 := by
 have h1 := wai h;have hm : a.wt <= yg a.wt b.wt /\ b.wt <= yg a.wt b.wt := by unfold yg; split <;> omega
 omega
theorem ybt {a b : Tm} (h : uq (a.wt + b.wt) <= 400) : a.wt <= 400 /\ b.wt <= 400 := by
 have h1 := wai h;have := a.wt_bd; have := b.wt_bd;omega
end
end Go.Proofs.YtaedbimbbeploaaGreatDoor

/- Layer 38: prenex.Not: the negation of a matrix. -/
namespace Go.Proofs.YtaedbimbbeploaaGreatDoor
open Go.RowKit
def gby (p : Pl) : Prop := p.Can /\ p.sz <= 1099511627776 /\ p.dm <= 1099511627776
end Go.Proofs.YtaedbimbbeploaaGreatDoor
