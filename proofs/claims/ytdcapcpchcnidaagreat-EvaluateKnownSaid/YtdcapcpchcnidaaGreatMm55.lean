/- Law 40: few, EvaluateKnown. -/
import Derived.Test.YtdcapcpchcnidaaGreatMm54
import Derived.Test.YtdcapcpchcnidaaGreatMm53
import Derived.Test.YtdcapcpchcnidaaGreatMm40
import Derived.Test.YtdcapcpchcnidaaGreatMm47
import Derived.Deep.Slices
import Derived.ChangeSlices
import Derived.Carry
import Derived.OpenShut
import Derived.ProofKit
import Derived.Test.YtdcapcpchcnidaaGreatBase
import Derived.WalkKit
import Derived.Below
import Derived.ChangeSame
import Derived.Test.YtdcapcpchcnidaaGreatRows

namespace Go.Proofs.YtdcapcpchcnidaaGreat
open Go.RowKit

mutual
theorem Mx.kn_nrm (l : List (Pl × Int)) : ∀ t : Mx, (t.each fun _ => True) → t.nrm.kn (fun p => knP p l) = t.kn (fun p => knP p.nf l)
  | .mk k r p ks, h => by
    rw [Mx.each] at h
    rw [Mx.nrm, Mx.kn]
    by_cases h1 : k = 1
    · rw [if_pos h1, if_pos h1, Mx.kn, if_pos rfl]
    · rw [if_neg h1, if_neg h1]
      by_cases h2 : k = 2
      · rw [if_pos h2, if_pos h2, Mx.kn, if_neg (by omega), if_pos rfl, knA, knA, holds_relM]
      · rw [if_neg h2, if_neg h2]
        by_cases h3 : k = 3
        · rw [if_pos (.inl h3), if_pos h3, Mx.kn, if_neg h1, if_neg h2, if_pos h3, nrmM_min l ks 1 h.2]
        · rw [if_neg h3]
          by_cases h4 : k = 4
          · rw [if_pos (.inr h4), if_pos h4, Mx.kn, if_neg h1, if_neg h2, if_neg h3, if_pos h4, nrmM_max l ks (-1) h.2]
          · rw [if_neg (by omega), if_neg h4, Mx.kn, if_neg (by omega), if_neg (by omega), if_neg (by omega), if_neg (by omega)]
theorem nrmM_min (l : List (Pl × Int)) : ∀ (ks : List Mx) (a : Int), eachM (fun _ => True) ks → knMin (fun p => knP p l) a (nrmM ks) = knMin (fun p => knP p.nf l) a ks
  | [], _, _ => by rw [nrmM, knMin, knMin]
  | t :: r, a, h => by rw [eachM] at h; rw [nrmM, knMin, knMin, t.kn_nrm l h.1, nrmM_min l r _ h.2]
theorem nrmM_max (l : List (Pl × Int)) : ∀ (ks : List Mx) (a : Int), eachM (fun _ => True) ks → knMax (fun p => knP p l) a (nrmM ks) = knMax (fun p => knP p.nf l) a ks
  | [], _, _ => by rw [nrmM, knMax, knMax]
  | t :: r, a, h => by rw [eachM] at h; rw [nrmM, knMax, knMax, t.kn_nrm l h.1, nrmM_max l r _ h.2]
end
mutual
theorem Mx.fit_each : ∀ t : Mx, t.small → (t.each Pl.dig) → t.each (fun p => Fit p.nf 60 7)
  | .mk _ _ p ks, hs, hd => by
    rw [Mx.small] at hs
    rw [Mx.each] at hd ⊢
    exact ⟨(Fit.of_raw hd.1 hs.1.1 hs.1.2 (by decide)).mono (by omega) (by omega), mxFit_each ks hs.2 hd.2⟩
theorem mxFit_each : ∀ l : List Mx, mxSmall l → eachM Pl.dig l → eachM (fun p => Fit p.nf 60 7) l
  | [], _, _ => by rw [eachM]; trivial
  | t :: r, hs, hd => by rw [mxSmall] at hs; rw [eachM] at hd ⊢; exact ⟨t.fit_each hs.1 hd.1, mxFit_each r hs.2 hd.2⟩
end
/-- Facts of a size that is looked at. -/
def fewF (l : List (Pl × Int)) : Bool := decide (l.length ≤ 12) && l.all fun x => x.1.few 40 4
theorem fewF_S {l : List (Pl × Int)} (h : fewF l = true) : FcsS l := fun x hx => by
  unfold fewF at h
  rw [Bool.and_eq_true, List.all_eq_true] at h
  exact Pl.few_le (h.2 x hx)

set_option maxRecDepth 100000 in
set_option maxHeartbeats 2000000 in
theorem fewF_any {w : World} {v : Value} {l : List (Pl × Int)} (h : FcsV w v l) : Calls Tryz.prog 17 #[v] w (RetB (fewF l) w) := by
  have H := Lib.hid h
  obtain ⟨A, c, rfl, h1, h2, -⟩ := h
  have hlen : l.length ≤ 9223372036854775807 := by omega
  obtain ⟨res, hres⟩ : ∃ res, fewF l = res := ⟨_, rfl⟩
  rw [hres]
  have HRES := Lib.hid hres
  clear hres
  go_enter Tryz.func17, Tryz.ntmps17
  go_wp2_with fail
  go_loopw [6] (fun iv wr => ∃ k : Nat, k ≤ l.length ∧ k ≤ 12 ∧ iv = .int .i64 k ∧ Hid ((∀ i (hi : i < l.length), i < k → l[i].1.few 40 4 = true) ∧ Ext w wr)) (fun iv _ => l.length - (intOf iv).toNat)
  case atStart => exact ⟨0, Nat.zero_le _, by omega, rfl, ⟨fun i hi h => by omega, Ext.refl w⟩⟩
  case round =>
    obtain ⟨k, hk, hk8, rfl, ⟨hall, hx⟩⟩ := hrel
    have HA := Lib.hid hall
    have HX := Lib.hid hx
    clear hall hx
    by_cases hlt : k < l.length
    · by_cases h8 : 12 ≤ k
      · have hd8 : decide ((12 : Int) ≤ (k : Int)) = true := by simp; omega
        have HF : Hid (res = false) := Lib.hid (by
          rw [← HRES.out, fewF, show decide (l.length ≤ 12) = false by simp; omega, Bool.false_and])
        go_wp2_with fail
        go_ret
        exact ⟨by rw [HF.out]; rfl, HX.out⟩
      · have hd8 : decide ((12 : Int) ≤ (k : Int)) = false := by simp; omega
        obtain ⟨A', c', e', -, -, h3⟩ := H.out.ext HX.out
        injection e' with e1 e2 e3
        obtain ⟨ad, a0, a1, a2, a3, a4, a5, e4, hb, hat, -, hpl⟩ := h3 k hlt
        obtain rfl : A = some ad := e1.trans e4
        have HS := Lib.hid (fewPoly_any 4 40 (by omega) (by omega) l[k].1 _ wr hpl)
        have HBAD : Hid (l[k].1.few 40 4 = false → res = false) := Lib.hid (fun he => by
          rw [← HRES.out, fewF, Bool.and_eq_false_iff]
          exact .inr (List.all_eq_false.2 ⟨l[k], List.getElem_mem hlt, by rw [he]; simp⟩))
        have HTK : Hid (l[k].1.few 40 4 = true → ∀ i (hi : i < l.length), i < k + 1 → l[i].1.few 40 4 = true) := Lib.hid (fun he i hi hik => by
          by_cases hik2 : i = k
          · subst hik2; exact he
          · exact HA.out i hi (by omega))
        obtain ⟨c0, c1, c2, c3⟩ := hat
        unfold plV at HS
        clear h3 e1 e3 e4 hpl
        generalize l[k].1.few 40 4 = okk at *
        generalize l[k].1 = f at *
        go_wp2_with fail
        clear c0 c1 c2 c3
        refine HS.out.mono ?_
        rintro e w2 ⟨rfl, x2⟩
        have X2 := Lib.hid (HX.out.trans x2)
        clear x2 HS
        cases okk
        · have HF := Lib.hid (HBAD.out rfl)
          go_wp2_with fail
          go_ret
          exact ⟨by rw [HF.out]; rfl, X2.out⟩
        · have HN := Lib.hid (HTK.out rfl)
          clear HTK HBAD
          go_wp2_with fail
          go_roundw
          case rel => exact ⟨k + 1, by omega, by omega, by go_num, ⟨HN.out, X2.out⟩⟩
          case measure => simp [intOf]; omega
    · have HF : Hid (res = true) := Lib.hid (by
        rw [← HRES.out, fewF, show decide (l.length ≤ 12) = true by simp; omega, Bool.true_and, List.all_eq_true]
        intro x hx
        obtain ⟨i, hi, rfl⟩ := List.getElem_of_mem hx
        exact HA.out i hi (by omega))
      go_wp2_with fail
      go_ret
      exact ⟨by rw [HF.out]; rfl, HX.out⟩

set_option maxRecDepth 100000 in
set_option maxHeartbeats 4000000 in
theorem lawKnown_any {w : World} {q : Nat → Prop} {fv : Value} {l : List (Pl × Int)} (t : Mx) (v : Value) (h : MxV w q t v) (hx : FcsV w fv l) : Calls Tryz.prog 4 #[v, fv] w (RetB true w) := by
  have HT := Lib.hid h
  have HXS := Lib.hid hx
  obtain ⟨A0, n0, c0, A, n1, c1, K, c, rfl, -, hl1, hl2, -⟩ := h.open_
  obtain ⟨XA, Xc, rfl, hx1, hx2, -⟩ := id hx
  clear h hx
  unfold mxV
  unfold mxV at HT
  obtain ⟨W, hW⟩ : ∃ W, w.alloc (.cells #[.int .i64 t.kind, .int .i64 t.rel, .int .i64 t.p.lv, .bool t.p.neg, .slice A0 n0 c0, .slice A n1 c1, .slice K t.ks.length c] 32) = W := ⟨_, rfl⟩
  have hWx : Ext w W := by rw [← hW]; exact (Ext.refl w).alloc _
  have hWs : W.heap.size = w.heap.size + 1 := by rw [← hW]; simp
  have hbx : Box7 W w.heap.size t (.slice A0 n0 c0) (.slice A n1 c1) (.slice K t.ks.length c) := by rw [← hW]; exact Box7.new w t _ _ _ _
  have HBX := Lib.hid hbx
  have HWX := Lib.hid hWx
  clear hWx hbx
  go_enter Tryz.func4, Tryz.ntmps4
  go_wp2_with fail
  clear hW
  refine (awake_any _).mono ?_
  rintro e w1 ⟨rfl, x1⟩
  have hx1' := HWX.out.trans x1
  obtain ⟨b0, b1, b2, b3, b4, b5, b6⟩ := HBX.out.ext x1 (by omega)
  have HB1 := Lib.hid (HBX.out.ext x1 (by omega))
  have hz1 := x1.size
  have HFE := Lib.hid (fewMx_any 60 (by omega) t _ w1 (HT.out.ext hx1'))
  have X1 := Lib.hid hx1'
  clear x1 hx1'
  go_wp2_with fail
  clear b0 b1 b2 b3 b4 b5 b6
  refine HFE.out.mono ?_
  rintro e w2 ⟨rfl, x2⟩
  have hz2 := x2.size
  have HB2 := Lib.hid (HB1.out.ext x2 (by omega))
  have X2 := Lib.hid (X1.out.trans x2)
  have HFA := Lib.hid (fewF_any (HXS.out.ext (X1.out.trans x2)))
  clear x2 HFE
  by_cases hf : t.few 60 = true
  case neg =>
    have hf' : t.few 60 = false := by simpa using hf
    rw [hf']
    clear hf hf' HFA
    go_wp2_with fail
    refine (awake_any _).mono ?_
    rintro e w3 ⟨rfl, x3⟩
    have X3 := Lib.hid (X2.out.trans x3)
    clear x3
    go_wp2_with fail
    go_ret
    exact ⟨rfl, X3.out⟩
  rw [hf]
  go_wp2_with fail
  refine HFA.out.mono ?_
  rintro e w3 ⟨rfl, x3⟩
  have hz3 := x3.size
  have HB3 := Lib.hid (HB2.out.ext x3 (by omega))
  have X3 := Lib.hid (X2.out.trans x3)
  clear x3 HFA
  by_cases hg : fewF l = true
  case neg =>
    have hg' : fewF l = false := by simpa using hg
    rw [hg']
    clear hf hg hg'
    go_wp2_with fail
    refine (awake_any _).mono ?_
    rintro e w4 ⟨rfl, x4⟩
    have X4 := Lib.hid (X3.out.trans x4)
    clear x4
    go_wp2_with fail
    go_ret
    exact ⟨rfl, X4.out⟩
  rw [hg]
  obtain ⟨hsz, hsm⟩ := Mx.few_le hf
  have hdig := HT.out.dig
  have hfs := fewF_S hg
  have HKN : Hid (∀ W', Ext w3 W' → Calls Tryz.prog 18 #[mxV t (.slice A0 n0 c0) (.slice A n1 c1) (.slice K t.ks.length c), .slice XA l.length Xc] W' (RetI (t.kn fun p => knP p.nf l) W')) := by
    have : ∀ W', Ext w3 W' → Calls Tryz.prog 18 #[mxV t (.slice A0 n0 c0) (.slice A n1 c1) (.slice K t.ks.length c), .slice XA l.length Xc] W' (RetI (t.kn fun p => knP p.nf l) W') := fun W' hx' => kn_any (HXS.out.ext (X3.out.trans hx')) hfs t _ (by omega) hsm (HT.out.ext (X3.out.trans hx'))
    exact this
  have HNM : Hid (∀ W', Ext w3 W' → Calls Tryz.prog 8 #[mxV t (.slice A0 n0 c0) (.slice A n1 c1) (.slice K t.ks.length c)] W' (RetMx (fun b => W'.heap.size ≤ b) t.nrm W')) := by
    have : ∀ W', Ext w3 W' → Calls Tryz.prog 8 #[mxV t (.slice A0 n0 c0) (.slice A n1 c1) (.slice K t.ks.length c)] W' (RetMx (fun b => W'.heap.size ≤ b) t.nrm W') := fun W' hx' => mnorm_any t _ W' (by omega) hsm (HT.out.ext (X3.out.trans hx'))
    exact this
  have HRK : Hid (∀ W' x, Ext w3 W' → MxV W' (fun _ => True) t.nrm x → Calls Tryz.prog 19 #[x, .slice XA l.length Xc] W' (RetI (t.kn fun p => knP p.nf l) W')) := by
    have : ∀ W' x, Ext w3 W' → MxV W' (fun _ => True) t.nrm x → Calls Tryz.prog 19 #[x, .slice XA l.length Xc] W' (RetI (t.kn fun p => knP p.nf l) W') := fun W' x hx' hxv => by
      have h1 := rkn_any (HXS.out.ext (X3.out.trans hx')) hfs t.nrm x (by have := t.nrm_sz; omega) (Mx.nrm_each Fit.zero t (t.fit_each hsm hdig)) hxv
      rw [t.kn_nrm l (t.each_all fun _ => trivial)] at h1
      exact h1
    exact this
  have HSS : Hid (∀ W2, Ext w3 W2 → (Ext w3 W2 ∧ W2.cell? ⟨w.heap.size, 0, none⟩ = some (.int .i64 t.kind) ∧ W2.cell? ⟨w.heap.size, 1, none⟩ = some (.int .i64 t.rel) ∧ W2.cell? ⟨w.heap.size, 2, none⟩ = some (.int .i64 t.p.lv) ∧ W2.cell? ⟨w.heap.size, 3, none⟩ = some (.bool t.p.neg) ∧ W2.cell? ⟨w.heap.size, 4, none⟩ = some (.slice A0 n0 c0) ∧ W2.cell? ⟨w.heap.size, 5, none⟩ = some (.slice A n1 c1) ∧ W2.cell? ⟨w.heap.size, 6, none⟩ = some (.slice K t.ks.length c))) := by
    have : ∀ W2, Ext w3 W2 → (Ext w3 W2 ∧ W2.cell? ⟨w.heap.size, 0, none⟩ = some (.int .i64 t.kind) ∧ W2.cell? ⟨w.heap.size, 1, none⟩ = some (.int .i64 t.rel) ∧ W2.cell? ⟨w.heap.size, 2, none⟩ = some (.int .i64 t.p.lv) ∧ W2.cell? ⟨w.heap.size, 3, none⟩ = some (.bool t.p.neg) ∧ W2.cell? ⟨w.heap.size, 4, none⟩ = some (.slice A0 n0 c0) ∧ W2.cell? ⟨w.heap.size, 5, none⟩ = some (.slice A n1 c1) ∧ W2.cell? ⟨w.heap.size, 6, none⟩ = some (.slice K t.ks.length c)) := fun W2 hx2 => by
      obtain ⟨k0, k1, k2, k3, k4, k5, k6⟩ := HB3.out.ext hx2 (by omega)
      exact ⟨hx2, k0, k1, k2, k3, k4, k5, k6⟩
    exact this
  clear hf hg hdig hfs hsm
  unfold mxV at HKN HNM
  generalize (t.kn fun p => knP p.nf l) = z at *
  generalize t.nrm = tn at *
  have y0 : Ext w3 w3.drew := (Ext.refl w3).drew
  have Y0 := Lib.hid y0
  clear y0
  go_upto_region 3 with fail
  go_region_held3 (fun W2 => Ext w3 W2 ∧ W2.cell? ⟨w.heap.size, 0, none⟩ = some (.int .i64 t.kind) ∧ W2.cell? ⟨w.heap.size, 1, none⟩ = some (.int .i64 t.rel) ∧ W2.cell? ⟨w.heap.size, 2, none⟩ = some (.int .i64 t.p.lv) ∧ W2.cell? ⟨w.heap.size, 3, none⟩ = some (.bool t.p.neg) ∧ W2.cell? ⟨w.heap.size, 4, none⟩ = some (.slice A0 n0 c0) ∧ W2.cell? ⟨w.heap.size, 5, none⟩ = some (.slice A n1 c1) ∧ W2.cell? ⟨w.heap.size, 6, none⟩ = some (.slice K t.ks.length c))
    (first | with_reducible exact HSS.out _ Y0.out | with_reducible exact HSS.out _ y1 | with_reducible exact HSS.out _ y2 | with_reducible exact HSS.out _ y3)
    (first
      | (go_at_call 18
         refine (HKN.out _ Y0.out).mono ?_
         rintro e v1 ⟨rfl, x1⟩
         have y1 : Ext w3 v1 := Ext.trans Y0.out x1)
      | (go_at_call 8
         refine (HNM.out _ y1).mono ?_
         rintro e v2 ⟨z2, rfl, m2, x2⟩
         have y2 : Ext w3 v2 := Ext.trans y1 x2
         obtain ⟨B0, m0, d0, B, m1, d1, J, d, rfl, -, -, -, -⟩ := id m2.open_
         unfold mxV)
      | (go_at_call 19
         refine (HRK.out _ _ y2 (m2.mono fun _ _ => trivial)).mono ?_
         rintro e v3 ⟨rfl, x3⟩
         have y3 : Ext w3 v3 := Ext.trans y2 x3))
  all_goals
    have X5 := Lib.hid (X3.out.trans y3)
    clear y1 x1 y2 x2 y3 x3 m2 HSS Y0 HKN HNM HRK
    have hzz : (z == z) = true := by simp
    go_wp2_with fail
    go_ret
    exact ⟨by rfl, X5.out⟩
end Go.Proofs.YtdcapcpchcnidaaGreat

/- Reading the arguments: polynomials and matrices that came in. -/
namespace Go.Proofs.YtdcapcpchcnidaaGreat
open Go.ChangeShapes Go.WideShapes Go.RowKit

theorem cell_lt {w : World} {a : Addr} {v : Value} (h : w.cell? a = some v) : a.block < w.heap.size := by
  unfold World.cell? at h
  split at h
  · rename_i hh
    exact (Array.getElem?_eq_some_iff.1 hh).1
  · cases h
theorem add_succ_ (a : Addr) (n : Nat) : a.add (n + 1) = ⟨a.block, a.off + (n + 1), none⟩ := by simp [Addr.add]
theorem add_zero_ (a : Addr) : a.add 0 = a := by simp [Addr.add]
theorem len2 {α : Type} {l : List α} (h : l.length = 2) : ∃ x y, l = [x, y] := by
  match l, h with
  | [x, y], _ => exact ⟨x, y, rfl⟩
theorem len3 {α : Type} {l : List α} (h : l.length = 3) : ∃ x y z, l = [x, y, z] := by
  cases l with
  | nil => simp at h
  | cons x r =>
    obtain ⟨y, z, rfl⟩ := len2 (l := r) (by simpa using h)
    exact ⟨x, y, z, rfl⟩
theorem len4 {α : Type} {l : List α} (h : l.length = 4) : ∃ x y z u, l = [x, y, z, u] := by
  cases l with
  | nil => simp at h
  | cons x r =>
    obtain ⟨y, z, u, rfl⟩ := len3 (l := r) (by simpa using h)
    exact ⟨x, y, z, u, rfl⟩
theorem len8 {α : Type} {l : List α} (h : l.length = 8) : ∃ a b c d e f g i, l = [a, b, c, d, e, f, g, i] := by
  obtain ⟨a, b, c, d, h1⟩ := len4 (l := l.take 4) (by rw [List.length_take]; omega)
  obtain ⟨e, f, g, i, h2⟩ := len4 (l := l.drop 4) (by rw [List.length_drop]; omega)
  exact ⟨a, b, c, d, e, f, g, i, by rw [← List.take_append_drop 4 l, h1, h2]; rfl⟩
theorem len9 {α : Type} {l : List α} (h : l.length = 9) : ∃ a b c d e f g i j, l = [a, b, c, d, e, f, g, i, j] := by
  cases l with
  | nil => simp at h
  | cons x r =>
    obtain ⟨a, b, c, d, e, f, g, i, rfl⟩ := len8 (l := r) (by simpa using h)
    exact ⟨x, a, b, c, d, e, f, g, i, rfl⟩

section
variable {H : Type} {enc : TypeId × Value → H} {w : World} {sp : Nat → Bool} {held : Bool}
theorem trod_nat {fuel : Nat} {cs : List Value} {x : DataW H × List MemPlace} (h : DataW.trod enc Tryz.prog w 0 sp held fuel 24 cs = some x) : ∃ A ds c, cs = [.slice A ds.length c] ∧ NatV w (.slice A ds.length c) ds := by
  rcases open_ints Tryz.underlying24 Tryz.underlying57 (by kernel_rfl) h with ⟨rfl, -⟩ | ⟨a, len, cap, zs, rfl, -, hlc, hcm, hzl, -, hcell, hwf⟩
  · exact ⟨none, [], 0, rfl, NatV.nil w⟩
  · have hle : len ≤ zs.length := by rw [hzl]; split <;> omega
    have hlen : ((zs.take len).map Int.toNat).length = len := by rw [List.length_map, List.length_take]; omega
    refine ⟨some a, (zs.take len).map Int.toNat, cap, by rw [hlen], ?_⟩
    refine ⟨some a, cap, rfl, by rw [hlen]; exact hlc, by unfold maxLen at hcm; omega, ?_, fun hp => ⟨a, rfl, ?_, ?_⟩⟩
    · intro d hd
      obtain ⟨z, hz, rfl⟩ := List.mem_map.1 hd
      have := bounds_u32 (hwf z (List.mem_of_mem_take hz))
      show z.toNat < 4294967296
      omega
    · rw [hlen] at hp
      have := cell_lt (hcell 0 (by omega))
      rwa [add_zero_] at this
    · intro j hj
      rw [hlen] at hj
      have hj2 : j < zs.length := by omega
      rw [hcell j hj2]
      have hb := bounds_u32 (hwf zs[j] (List.getElem_mem hj2))
      simp only [List.getElem_map, List.getElem_take]
      rw [List.getD_eq_getElem?_getD, List.getElem?_eq_getElem hj2]
      simp only [Option.getD_some]
      congr 2
      omega
theorem trod_intS {fuel : Nat} {cs : List Value} {x : DataW H × List MemPlace} (h : DataW.trod enc Tryz.prog w 0 sp held fuel 26 cs = some x) : ∃ neg A ds c, cs = [.bool neg, .slice A ds.length c] ∧ NatV w (.slice A ds.length c) ds := by
  obtain ⟨xs, n, rfl, -, hl, hx, hf⟩ := DataW.trod_struct Tryz.underlying26 h
  have hl2 : cs.length = 2 := hl.trans (by kernel_rfl)
  have hx2 : xs.length = 2 := hx
  obtain ⟨c0, c1, rfl⟩ := len2 hl2
  obtain ⟨x0, x1, rfl⟩ := len2 hx2
  have f0 : DataW.trod enc Tryz.prog w 0 sp held n 4 ((List.drop 0 [c0, c1]).take (Tryz.prog.cellsOf 4)) = some x0 := hf 0 _ rfl
  have f1 : DataW.trod enc Tryz.prog w 0 sp held n 24 ((List.drop 1 [c0, c1]).take (Tryz.prog.cellsOf 24)) = some x1 := hf 1 _ rfl
  rw [show Tryz.prog.cellsOf 4 = 1 by kernel_rfl] at f0
  rw [show Tryz.prog.cellsOf 24 = 1 by kernel_rfl] at f1
  simp only [List.drop_zero, List.drop_succ_cons, List.take_succ_cons, List.take_zero, List.getElem?_cons_zero, List.getElem?_cons_succ] at f0 f1
  obtain ⟨b, e, -⟩ := DataW.trod_bool Tryz.underlying4 f0
  obtain ⟨A, ds, c, e1, hn⟩ := trod_nat f1
  simp only [List.cons.injEq, and_true] at e e1
  exact ⟨b, A, ds, c, by rw [e, e1], hn⟩
theorem cells_pl {a : Addr} {r : Pl × Value × Value} (h : w.cells? 0 a 4 = some (plC r)) : PlAt w a r.1 r.2.1 r.2.2 ∧ a.block < w.heap.size := by
  have hc := (World.cells?_some h).2.2
  have c0 := hc 0 (by omega)
  have c1 := hc 1 (by omega)
  have c2 := hc 2 (by omega)
  have c3 := hc 3 (by omega)
  rw [add_zero_] at c0
  rw [add_succ_] at c1 c2 c3
  exact ⟨⟨c0, c1, c2, c3⟩, cell_lt c0⟩
theorem trod_poly (fuel : Nat) : ∀ (cs : List Value) (x : DataW H × List MemPlace), DataW.trod enc Tryz.prog w 0 sp held fuel 29 cs = some x → ∃ r : Pl × Value × Value, cs = plC r ∧ PlV w (fun _ => True) r.1 (plV r.1 r.2.1 r.2.2) := by
  induction fuel using Nat.strongRecOn with
  | _ fuel ih =>
  intro cs x h
  obtain ⟨xs, n, rfl, -, hl, hx, hf⟩ := DataW.trod_struct Tryz.underlying29 h
  have hk : Tryz.prog.cellsOf 29 = 4 := by kernel_rfl
  have hl2 : cs.length = 4 := hl.trans hk
  have hx2 : xs.length = 3 := hx
  obtain ⟨c0, c1, c2, c3, rfl⟩ := len4 hl2
  obtain ⟨x0, x1, x2, rfl⟩ := len3 hx2
  have f0 : DataW.trod enc Tryz.prog w 0 sp held n 3 ((List.drop 0 [c0, c1, c2, c3]).take (Tryz.prog.cellsOf 3)) = some x0 := hf 0 _ rfl
  have f1 : DataW.trod enc Tryz.prog w 0 sp held n 26 ((List.drop 1 [c0, c1, c2, c3]).take (Tryz.prog.cellsOf 26)) = some x1 := hf 1 _ rfl
  have f2 : DataW.trod enc Tryz.prog w 0 sp held n 27 ((List.drop 3 [c0, c1, c2, c3]).take (Tryz.prog.cellsOf 27)) = some x2 := hf 2 _ rfl
  rw [show Tryz.prog.cellsOf 3 = 1 by kernel_rfl] at f0
  rw [show Tryz.prog.cellsOf 26 = 2 by kernel_rfl] at f1
  rw [show Tryz.prog.cellsOf 27 = 1 by kernel_rfl] at f2
  simp only [List.drop_zero, List.drop_succ_cons, List.take_succ_cons, List.take_zero, List.getElem?_cons_zero, List.getElem?_cons_succ] at f0 f1 f2
  obtain ⟨lv, e0, -⟩ := DataW.trod_int Tryz.underlying3 f0
  obtain ⟨neg, A, ds, c, e1, hn⟩ := trod_intS f1
  simp only [List.cons.injEq, and_true] at e0 e1
  obtain ⟨e1, e2⟩ := e1
  have hkids : ∃ ks B m, c3 = .slice B ks.length m ∧ ks.length ≤ m ∧ m ≤ 9223372036854775807 ∧ PlsAt w (fun _ => True) ks B 0 := by
    rcases DataW.trod_slice Tryz.underlying27 f2 with ⟨e8, -⟩ | ⟨a, len, cap, elems, rest, n', hfu, e8, -, -, hlc, hcm, hel, hat, -⟩
    · simp only [List.cons.injEq, and_true] at e8
      exact ⟨[], none, 0, e8, by simp, by omega, by unfold PlsAt; trivial⟩
    · simp only [List.cons.injEq, and_true] at e8
      rw [hk] at hat
      have each : ∀ i : Nat, ∃ t : Pl, i < len → ∃ s K, PlAt w (a.add (i * 4)) t s K ∧ a.block < w.heap.size ∧ PlV w (fun _ => True) t (plV t s K) := by
        intro i
        by_cases hi : i < len
        · have h1 := hat i hi
          rw [List.getElem?_eq_getElem (by omega)] at h1
          obtain ⟨cs', hc, ht⟩ := Option.bind_eq_some_iff.1 h1
          obtain ⟨r, rfl, hr⟩ := ih n' (by omega) cs' _ ht
          obtain ⟨h2, h3⟩ := cells_pl hc
          rw [block_of_add] at h3
          exact ⟨r.1, fun _ => ⟨r.2.1, r.2.2, h2, h3, hr⟩⟩
        · exact ⟨Pl.zero, fun h => absurd h hi⟩
      refine ⟨(List.range len).map (fun i => Classical.choose (each i)), some a, cap, by simpa using e8, by simpa using hlc, by unfold maxLen at hcm; omega, PlsAt.of _ _ _ fun i hi => ?_⟩
      simp only [List.length_map, List.length_range] at hi
      obtain ⟨s, K, h1, h2, h3⟩ := Classical.choose_spec (each i) hi
      simp only [List.getElem_map, List.getElem_range, Nat.zero_add]
      exact ⟨a, s, K, rfl, h2, trivial, h1, h3⟩
  obtain ⟨ks, B, m, e8, hm1, hm2, hat⟩ := hkids
  refine ⟨(.mk lv neg ds ks, c2, c3), ?_, ?_⟩
  · unfold plC
    rw [e0, e1]
    rfl
  · have := PlV.mk (w := w) (p := fun _ => True) (t := .mk lv neg ds ks) (s := c2) (A := B) (c := m) (by rw [e2]; exact hn) hm1 hm2 hat
    rw [e8]
    exact this
theorem cells_mx {a : Addr} {r : Mx × Value × Value × Value} (h : w.cells? 0 a 7 = some (mxC r)) : MxAt w a r.1 r.2.1 r.2.2.1 r.2.2.2 ∧ a.block < w.heap.size := by
  have hc := (World.cells?_some h).2.2
  have c0 := hc 0 (by omega)
  have c1 := hc 1 (by omega)
  have c2 := hc 2 (by omega)
  have c3 := hc 3 (by omega)
  have c4 := hc 4 (by omega)
  have c5 := hc 5 (by omega)
  have c6 := hc 6 (by omega)
  rw [add_zero_] at c0
  rw [add_succ_] at c1 c2 c3 c4 c5 c6
  exact ⟨⟨c0, c1, c2, c3, c4, c5, c6⟩, cell_lt c0⟩
theorem len7 {α : Type} {l : List α} (h : l.length = 7) : ∃ a b c d e f g, l = [a, b, c, d, e, f, g] := by
  obtain ⟨a, b, c, d, h1⟩ := len4 (l := l.take 4) (by rw [List.length_take]; omega)
  obtain ⟨e, f, g, h2⟩ := len3 (l := l.drop 4) (by rw [List.length_drop]; omega)
  exact ⟨a, b, c, d, e, f, g, by rw [← List.take_append_drop 4 l, h1, h2]; rfl⟩
theorem trod_matrix (fuel : Nat) : ∀ (cs : List Value) (x : DataW H × List MemPlace), DataW.trod enc Tryz.prog w 0 sp held fuel 32 cs = some x → ∃ r : Mx × Value × Value × Value, cs = mxC r ∧ MxV w (fun _ => True) r.1 (mxV r.1 r.2.1 r.2.2.1 r.2.2.2) := by
  induction fuel using Nat.strongRecOn with
  | _ fuel ih =>
  intro cs x h
  obtain ⟨xs, n, rfl, -, hl, hx, hf⟩ := DataW.trod_struct Tryz.underlying32 h
  have hk : Tryz.prog.cellsOf 32 = 7 := by kernel_rfl
  have hl2 : cs.length = 7 := hl.trans hk
  have hx2 : xs.length = 4 := hx
  obtain ⟨c0, c1, c2, c3, c4, c5, c6, rfl⟩ := len7 hl2
  obtain ⟨x0, x1, x2, x3, rfl⟩ := len4 hx2
  have f0 : DataW.trod enc Tryz.prog w 0 sp held n 3 ((List.drop 0 [c0, c1, c2, c3, c4, c5, c6]).take (Tryz.prog.cellsOf 3)) = some x0 := hf 0 _ rfl
  have f1 : DataW.trod enc Tryz.prog w 0 sp held n 22 ((List.drop 1 [c0, c1, c2, c3, c4, c5, c6]).take (Tryz.prog.cellsOf 22)) = some x1 := hf 1 _ rfl
  have f2 : DataW.trod enc Tryz.prog w 0 sp held n 29 ((List.drop 2 [c0, c1, c2, c3, c4, c5, c6]).take (Tryz.prog.cellsOf 29)) = some x2 := hf 2 _ rfl
  have f3 : DataW.trod enc Tryz.prog w 0 sp held n 30 ((List.drop 6 [c0, c1, c2, c3, c4, c5, c6]).take (Tryz.prog.cellsOf 30)) = some x3 := hf 3 _ rfl
  rw [show Tryz.prog.cellsOf 3 = 1 by kernel_rfl] at f0
  rw [show Tryz.prog.cellsOf 22 = 1 by kernel_rfl] at f1
  rw [show Tryz.prog.cellsOf 29 = 4 by kernel_rfl] at f2
  rw [show Tryz.prog.cellsOf 30 = 1 by kernel_rfl] at f3
  simp only [List.drop_zero, List.drop_succ_cons, List.take_succ_cons, List.take_zero, List.getElem?_cons_zero, List.getElem?_cons_succ] at f0 f1 f2 f3
  obtain ⟨kind, e0, -⟩ := DataW.trod_int Tryz.underlying3 f0
  obtain ⟨rel, e1, -⟩ := DataW.trod_int Tryz.underlying22 f1
  obtain ⟨⟨pl, ps, pA⟩, e2, hp⟩ := trod_poly n _ _ f2
  simp only [plC, List.cons.injEq, and_true] at e0 e1 e2
  obtain ⟨e2, e3, e4, e5⟩ := e2
  have hkids : ∃ ks B m, c6 = .slice B ks.length m ∧ ks.length ≤ m ∧ m ≤ 9223372036854775807 ∧ MxsAt w (fun _ => True) ks B 0 := by
    rcases DataW.trod_slice Tryz.underlying30 f3 with ⟨e8, -⟩ | ⟨a, len, cap, elems, rest, n', hfu, e8, -, -, hlc, hcm, hel, hat, -⟩
    · simp only [List.cons.injEq, and_true] at e8
      exact ⟨[], none, 0, e8, by simp, by omega, by unfold MxsAt; trivial⟩
    · simp only [List.cons.injEq, and_true] at e8
      rw [hk] at hat
      have each : ∀ i : Nat, ∃ t : Mx, i < len → ∃ s A K, MxAt w (a.add (i * 7)) t s A K ∧ a.block < w.heap.size ∧ MxV w (fun _ => True) t (mxV t s A K) := by
        intro i
        by_cases hi : i < len
        · have h1 := hat i hi
          rw [List.getElem?_eq_getElem (by omega)] at h1
          obtain ⟨cs', hc, ht⟩ := Option.bind_eq_some_iff.1 h1
          obtain ⟨r, rfl, hr⟩ := ih n' (by omega) cs' _ ht
          obtain ⟨h2, h3⟩ := cells_mx hc
          rw [block_of_add] at h3
          exact ⟨r.1, fun _ => ⟨r.2.1, r.2.2.1, r.2.2.2, h2, h3, hr⟩⟩
        · exact ⟨.mk 0 0 Pl.zero [], fun h => absurd h hi⟩
      refine ⟨(List.range len).map (fun i => Classical.choose (each i)), some a, cap, by simpa using e8, by simpa using hlc, by unfold maxLen at hcm; omega, MxsAt.of _ _ _ fun i hi => ?_⟩
      simp only [List.length_map, List.length_range] at hi
      obtain ⟨s, A, K, h1, h2, h3⟩ := Classical.choose_spec (each i) hi
      simp only [List.getElem_map, List.getElem_range, Nat.zero_add]
      exact ⟨a, s, A, K, rfl, h2, trivial, h1, h3⟩
  obtain ⟨ks, B, m, e8, hm1, hm2, hat⟩ := hkids
  refine ⟨(.mk kind rel pl ks, c4, c5, c6), ?_, ?_⟩
  · unfold mxC
    rw [e0, e1, e2, e3]
    rfl
  · have := MxV.mk (w := w) (p := fun _ => True) (t := .mk kind rel pl ks) (s := c4) (A := c5) (K := B) (c := m) (by rw [e4, e5]; exact hp) hm1 hm2 hat
    rw [e8]
    exact this
set_option maxRecDepth 100000 in
/-- The matrix that came in. -/
theorem open_matrix {r : Reach} {b0 : Nat} {v : Value} {d : DataW H} {ps : List MemPlace} (hval : Value.okWide Tryz.prog w r b0 32 v) (h : DataW.Trod enc Tryz.prog w 0 sp held 32 v d ps) : ∃ t, MxV w (fun _ => True) t v := by
  obtain ⟨fuel, h⟩ := h
  obtain ⟨r, e, ht⟩ := trod_matrix fuel _ _ h
  simp only [Value.okWide, Tryz.underlying32] at hval
  obtain ⟨cs, rfl, -⟩ := hval
  refine ⟨r.1, ?_⟩
  have : Value.agg cs = mxV r.1 r.2.1 r.2.2.1 r.2.2.2 := by
    unfold mxV
    congr 1
    exact Array.toList_inj.1 e
  rw [this]; exact ht
end
end Go.Proofs.YtdcapcpchcnidaaGreat

/- Reading the arguments: a row of facts that came in. -/
namespace Go.Proofs.YtdcapcpchcnidaaGreat
open Go.ChangeShapes Go.WideShapes Go.RowKit

theorem len5 {α : Type} {l : List α} (h : l.length = 5) : ∃ x y z u t, l = [x, y, z, u, t] := by
  cases l with
  | nil => simp at h
  | cons x r =>
    obtain ⟨y, z, u, t, rfl⟩ := len4 (l := r) (by simpa using h)
    exact ⟨x, y, z, u, t, rfl⟩
section
variable {H : Type} {enc : TypeId × Value → H} {w : World} {sp : Nat → Bool} {held : Bool}
set_option maxRecDepth 100000 in
theorem trod_fact {fuel : Nat} {cs : List Value} {x : DataW H × List MemPlace} (h : DataW.trod enc Tryz.prog w 0 sp held fuel 84 cs = some x) : ∃ (r : Pl × Value × Value) (s : Int), cs = plC r ++ [.int .i64 s] ∧ PlV w (fun _ => True) r.1 (plV r.1 r.2.1 r.2.2) := by
  obtain ⟨xs, n, rfl, -, hl, hx, hf⟩ := DataW.trod_struct Tryz.underlying84 h
  have hl2 : cs.length = 5 := hl.trans (by kernel_rfl)
  have hx2 : xs.length = 2 := hx
  obtain ⟨c0, c1, c2, c3, c4, rfl⟩ := len5 hl2
  obtain ⟨x0, x1, rfl⟩ := len2 hx2
  have f0 : DataW.trod enc Tryz.prog w 0 sp held n 29 ((List.drop 0 [c0, c1, c2, c3, c4]).take (Tryz.prog.cellsOf 29)) = some x0 := hf 0 _ rfl
  have f1 : DataW.trod enc Tryz.prog w 0 sp held n 3 ((List.drop 4 [c0, c1, c2, c3, c4]).take (Tryz.prog.cellsOf 3)) = some x1 := hf 1 _ rfl
  rw [show Tryz.prog.cellsOf 29 = 4 by kernel_rfl] at f0
  rw [show Tryz.prog.cellsOf 3 = 1 by kernel_rfl] at f1
  simp only [List.drop_zero, List.drop_succ_cons, List.take_succ_cons, List.take_zero, List.getElem?_cons_zero, List.getElem?_cons_succ] at f0 f1
  obtain ⟨r, e, hp⟩ := trod_poly _ _ _ f0
  obtain ⟨s, e1, -⟩ := DataW.trod_int Tryz.underlying3 f1
  refine ⟨r, s, ?_, hp⟩
  simp only [List.cons.injEq, and_true] at e1
  rw [← e, e1]
  rfl
set_option maxRecDepth 100000 in
/-- The facts that came in. -/
theorem open_facts {r : Reach} {b0 : Nat} {v : Value} {d : DataW H} {ps : List MemPlace} (hval : Value.okWide Tryz.prog w r b0 51 v) (h : DataW.Trod enc Tryz.prog w 0 sp held 51 v d ps) : ∃ l, FcsV w v l := by
  obtain ⟨fuel, h⟩ := h
  obtain ⟨A, n, c, rfl⟩ := okWide_slice Tryz.underlying51 hval
  simp only [Value.cells] at h
  rcases DataW.trod_slice Tryz.underlying51 h with ⟨e8, -⟩ | ⟨a, len, cap, elems, rest, n', hfu, e8, -, -, hlc, hcm, hel, hat, -⟩
  · simp only [List.cons.injEq, and_true] at e8
    rw [e8]
    exact ⟨[], none, 0, rfl, by simp, by omega, fun j hj => absurd hj (by simp)⟩
  · simp only [List.cons.injEq, and_true] at e8
    rw [e8]
    rw [show Tryz.prog.cellsOf 84 = 5 by kernel_rfl] at hat
    have each : ∀ i : Nat, ∃ x : Pl × Int, i < len → ∃ A0 n0 c0 A1 n1 c1, a.block < w.heap.size ∧ PlAt w (a.add (i * 5)) x.1 (.slice A0 n0 c0) (.slice A1 n1 c1) ∧ w.cell? ⟨(a.add (i * 5)).block, (a.add (i * 5)).off + 4, none⟩ = some (.int .i64 x.2) ∧ PlV w (fun _ => True) x.1 (plV x.1 (.slice A0 n0 c0) (.slice A1 n1 c1)) := by
      intro i
      by_cases hi : i < len
      · have h1 := hat i hi
        rw [List.getElem?_eq_getElem (by omega)] at h1
        obtain ⟨cs', hc, ht⟩ := Option.bind_eq_some_iff.1 h1
        obtain ⟨⟨p, s, A⟩, z, rfl, h2⟩ := trod_fact ht
        obtain ⟨A0, n0, c0, A1, c1, e, -⟩ := id h2.open_
        unfold plV at e
        simp only [Value.agg.injEq, Array.mk.injEq, List.cons.injEq, and_true, true_and] at e
        obtain ⟨rfl, rfl⟩ := e
        have hcc := (World.cells?_some hc).2.2
        have k0 := hcc 0 (by omega)
        have k1 := hcc 1 (by omega)
        have k2 := hcc 2 (by omega)
        have k3 := hcc 3 (by omega)
        have k4 := hcc 4 (by omega)
        rw [add_zero_] at k0
        rw [add_succ_] at k1 k2 k3 k4
        have hb := cell_lt k0
        rw [block_of_add] at hb
        exact ⟨⟨p, z⟩, fun _ => ⟨A0, n0, c0, A1, p.cs.length, c1, hb, ⟨k0, k1, k2, k3⟩, k4, h2⟩⟩
      · exact ⟨⟨Pl.zero, 0⟩, fun h => absurd h hi⟩
    refine ⟨(List.range len).map (fun i => Classical.choose (each i)), some a, cap, by simp, by simpa using hlc, by unfold maxLen at hcm; omega, fun j hj => ?_⟩
    simp only [List.length_map, List.length_range] at hj
    obtain ⟨A0, n0, c0, A1, n1, c1, h1, h2, h3, h4⟩ := Classical.choose_spec (each j) hj
    simp only [List.getElem_map, List.getElem_range]
    exact ⟨a, A0, n0, c0, A1, n1, c1, rfl, h1, h2, h3, h4⟩
end
end Go.Proofs.YtdcapcpchcnidaaGreat

/- The last step of every law that leaves its arguments alone. -/
namespace Go.Proofs.YtdcapcpchcnidaaGreat
open Go.ChangeShapes Go.WideShapes Go.ChangeAt Go.RowKit

/-- A law whose call only makes new blocks: what the row asks behind the call. -/
theorem post_law {H : Type} {enc : TypeId × Value → H} {P : Program} {f : Func} {s : ChangeSpec} {apart fresh handsOn again : Bool} {W W' : World} {args : Array Value} {v : Value} {ds gs : List (DataW H)} {before pa pv : List MemPlace}
    (hW : DataW.Whole enc P f.params.toList s.vars apart W args.toList ds gs before) (hx : Ext W W')
    (hres : ∀ (b : Nat) (sp : Nat → Bool) (hd : Bool), DataW.TrodAll enc P W' b sp hd f.resultTypes.toList (v.resultList f.resultTypes.size) (s.fn H (ds ++ gs)).results [])
    (hargs : ∀ sp : Nat → Bool, (∀ p ∈ before, sp p.block = true) → DataW.TrodAll enc P W' 0 sp true f.params.toList args.toList (s.fn H (ds ++ gs)).args pa)
    (hvars : ∀ sp : Nat → Bool, (∀ p ∈ before, sp p.block = true) → DataW.TrodVars enc P W' sp s.vars (s.fn H (ds ++ gs)).vars pv) (hps : before = pa ++ pv)
    (hok : ∀ (j : Nat) (t : TypeId) (r : Value), f.resultTypes[j]? = some t → (v.resultList f.resultTypes.size)[j]? = some r → Value.okWide P W' .any 0 t r) :
    s.post enc P f apart fresh handsOn again W args v W' := by
  have low : ∀ p ∈ before, p.block < W.heap.size := fun p hp => hW.lt p hp
  have old : ∀ p ∈ before, (fun b => decide (b < W.heap.size)) p.block = true := fun p hp => by simpa using low p hp
  refine ⟨ds, gs, before, [], pa, pv, hW, hres _ _ _, hargs _ old, hvars _ old, World.keptBut_mono (fun p hp => ⟨hp, ?_⟩) (Below.frame hx (· ∈ before)), fun _ => ?_⟩
  · exact .inr (List.mem_append.1 (hps ▸ hp))
  · obtain ⟨_, _, _, _, _, hz, hn⟩ := hW
    refine ⟨hok, _, _, ([] ++ pa) ++ pv, ⟨[] ++ pa, pv, trodAll_append (hargs _ (fun _ _ => rfl)) (hres _ _ _), hvars _ (fun _ _ => rfl), rfl, fun b off hp => ?_, fun ha => ?_⟩, ?_⟩
    · have hin : MemPlace.cell b off ∈ before := by rw [hps]; simpa using hp
      rw [hx.frozen (low _ hin)]
      exact hz b off hin
    · have h := hn ha
      rw [hps] at h
      simpa using h
    · exact fun p hp _ => by rw [hps]; simpa using hp

theorem own_knob : ownKnob Tryz.prog.godebug = none := by kernel_rfl
theorem laid_out : laidOutB Tryz.prog = true := by kernel_rfl
/-- An argument reads behind the call as it did. -/
theorem arg_stays {H : Type} {enc : TypeId × Value → H} {W W' : World} {t : TypeId} (hr : Tryz.prog.readableRec t = true) (hrow : t < Tryz.prog.types.size) {v : Value} {d : DataW H} {ps : List MemPlace} (h : DataW.Trod enc Tryz.prog W 0 (fun _ => true) true t v d ps) (hx : Ext W W') (hlt : ∀ x ∈ ps, x.block < W.heap.size) {sp : Nat → Bool} (hs : ∀ x ∈ ps, sp x.block = true) : DataW.Trod enc Tryz.prog W' 0 sp true t v d ps :=
  WideElems.Trod_stays laid_out hr hrow h (fun x hx' => Below.same hx (hlt x hx')) hs
end Go.Proofs.YtdcapcpchcnidaaGreat

/- EvaluateKnown: for every matrix and every list of facts the statement answers true: evaluate.Known answers as the reference does, and the arguments stay as they are. No condition. -/
namespace Go.Proofs.YtdcapcpchcnidaaGreat
open Go.ChangeShapes Go.WideShapes Go.ChangeAt Go.RowKit

theorem mx_rec : Tryz.prog.readableRec 32 = true := by kernel_rfl
theorem fc_rec : Tryz.prog.readableRec 51 = true := by kernel_rfl
theorem mx_row : 32 < Tryz.prog.types.size := of_decide_eq_true (by kernel_rfl)
theorem fc_row : 51 < Tryz.prog.types.size := of_decide_eq_true (by kernel_rfl)

set_option maxRecDepth 100000 in
theorem known_lifted (os : Os) (started : os.Started) (H : Type) (enc : TypeId × Value → H) :
    ReturnsInHanded {} Tryz.checked os 4 .any (Rows.evaluateKnownSpec.pre6 enc Tryz.prog Tryz.f4 Rows.evaluateKnownRow.domain false) (Rows.evaluateKnownSpec.post enc Tryz.prog Tryz.f4 false true false false) := by
  refine returnsInHanded_of_change (C := Tryz.checked) own_knob started (by kernel_rfl) Tryz.func4
    (ChangeSpec.witness6 (enc := enc) (C := Tryz.checked) false ⟨#[], #[.agg #[.int .i64 0, .int .i64 0, .int .i64 0, .bool false, .slice none 0 0, .slice none 0 0, .slice none 0 0], .slice none 0 0], []⟩ 8 (by kernel_rfl) (by kernel_rfl) (by kernel_rfl) (by kernel_rfl)) ?_
  intro W base args ds gs before hval0 hW _ _
  have hval : ∀ (j : Nat) t v, Tryz.f4.params[j]? = some t → args[j]? = some v → Value.okWide Tryz.prog W .any base t v := hval0
  have hW' := hW
  have low : ∀ p ∈ before, p.block < W.heap.size := fun p hp => hW.lt p hp
  obtain ⟨p, q, hA0, hV, rfl, -, -⟩ := hW
  have hA : DataW.TrodAll enc Tryz.prog W 0 (fun _ => true) true Tryz.f4.params.toList args.toList ds p := hA0
  rw [Tryz.params4] at hA hval
  obtain ⟨v0, vs0, d0, ds0, p0, q0, hargs, rfl, rfl, h0, r0⟩ := trodAll_cons hA
  obtain ⟨v1, vs1, d1, ds1, p1, q1, rfl, rfl, rfl, h1, r1⟩ := trodAll_cons r0
  obtain ⟨rfl, rfl, rfl⟩ := trodAll_nil r1
  obtain rfl : args = #[v0, v1] := by cases args; simp_all
  obtain ⟨rfl, rfl⟩ := trodVars_none hV
  obtain ⟨t, ht⟩ := open_matrix (hval 0 32 v0 rfl rfl) h0
  obtain ⟨l, hl⟩ := open_facts (hval 1 51 v1 rfl rfl) h1
  clear hA0 hval0
  simp only [List.append_nil] at hW' low
  refine (lawKnown_any t v0 ht hl).mono fun e W' ⟨he, hx⟩ => ?_
  subst he
  exact ⟨_, rfl, post_law (pa := p0 ++ p1) (pv := []) hW' hx (fun _ _ _ => (trodAll_cons_mk (shut_bool Tryz.underlying4 _) trodAll_mk0))
    (fun sp hs => by
      have := trodAll_cons_mk (arg_stays mx_rec mx_row h0 hx (fun x hx' => low x (List.mem_append_left _ hx')) (fun x hx' => hs x (List.mem_append_left _ hx'))) (trodAll_cons_mk (arg_stays fc_rec fc_row h1 hx (fun x hx' => low x (List.mem_append_right _ hx')) (fun x hx' => hs x (List.mem_append_right _ hx'))) trodAll_mk0)
      simp only [List.append_nil] at this
      exact this) (fun _ _ => rfl) (by simp)
    (ok_one (by kernel_rfl) rfl (okWide_bool_mk Tryz.underlying4 _))⟩

theorem known_over : Rows.evaluateKnownRow.holds Tryz.pinned (OpenSpec.ofChange Rows.evaluateKnownSpec) :=
  OpenClaim.holds_of_wide 4 Tryz.f4 rfl rfl rfl rfl rfl rfl rfl ⟨rfl, rfl, rfl, rfl, rfl⟩ rfl rfl rfl rfl rfl (by kernel_rfl) Tryz.func4 (by kernel_rfl)
    (of_decide_eq_true (by kernel_rfl)) (by unfold Func.isWrapper; first | (rw [if_pos (by decide +kernel)]; kernel_rfl) | (rw [if_neg (by decide +kernel)]; exact ⟨rfl, rfl⟩))
    (fun os started H enc _ => known_lifted os started H enc)

/-- The statement. -/
theorem known_proved : Rows.EvaluateKnownSaid := known_over
#print axioms known_proved
end Go.Proofs.YtdcapcpchcnidaaGreat
