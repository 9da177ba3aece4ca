/- Layer 22: recpoly.isLevel, isZero, isCanonical. -/
import Derived.Test.YtdcapcpchcnidaaGreatMm38
import Derived.Test.YtdcapcpchcnidaaGreatDeg

namespace Go.Proofs.YtdcapcpchcnidaaGreat
open Go.RowKit

theorem isLevel_any (l : Int) (w : World) : Calls Tryz.prog 104 #[.int .i64 l] w fun e w' => e = .returned (.bool (decide (1 ≤ l) && decide (l ≤ 4))) ∧ w' = w := by
  by_cases h : 1 ≤ l
  · go_enter Tryz.func104, Tryz.ntmps104
    go_wp2_with fail
    go_ret
    simp [h]
  · go_enter Tryz.func104, Tryz.ntmps104
    go_wp2_with fail
    go_ret
    have h' : l < 1 := by omega
    simp [h]; omega
theorem isZero_any {w : World} {q : Nat → Prop} (p : Pl) (v : Value) (h : PlV w q p v) : Calls Tryz.prog 105 #[v] w fun e w' => e = .returned (.bool p.isZ) ∧ Ext w w' := by
  obtain ⟨A0, n0, c0, A, c, rfl, ⟨A0', c0', e, -, -, -⟩, hl1, hl2, h4⟩ := h.open_
  injection e with e1 e2 e3
  subst e1 e2 e3
  have HX : Hid (∀ o, Ext w (w.alloc o)) := fun o => (Ext.refl w).alloc o
  unfold plV Pl.isZ
  clear h h4
  by_cases hl : p.lv = 0
  · go_enter Tryz.func105, Tryz.ntmps105
    go_wp2_with fail
    go_ret
    exact ⟨by simp [hl]; cases p.ds <;> simp <;> omega, HX.out _⟩
  · go_enter Tryz.func105, Tryz.ntmps105
    go_wp2_with fail
    go_ret
    exact ⟨by simp [hl], HX.out _⟩

def IsCanIH (w0 : World) (q : Nat → Prop) (n : Nat) : Prop := ∀ (p : Pl) (v : Value) (w : World), p.sz < n → PlV w0 q p v → Ext w0 w → Calls Tryz.prog 76 #[v] w fun e w' => e = .returned (.bool p.isCan) ∧ Ext w w'

set_option maxRecDepth 100000 in
set_option maxHeartbeats 2000000 in
theorem isCan_flat {w0 w : World} {q : Nat → Prop} (p : Pl) (v : Value) (h : PlV w0 q p v) (hx0 : Ext w0 w) (hl : p.lv = 0) : Calls Tryz.prog 76 #[v] w fun e w' => e = .returned (.bool p.isCan) ∧ Ext w w' := by
  obtain ⟨A0, n0, c0, A, c, rfl, ⟨A0', c0', e, hd1, hd2, hd⟩, hl1, hl2, h4⟩ := h.open_
  injection e with e1 e2 e3
  subst e1 e2 e3
  obtain ⟨l, ng, ds, cs⟩ := p
  change l = 0 at hl
  subst hl
  have HX : Hid (∀ o, Ext w (w.alloc o)) := fun o => (Ext.refl w).alloc o
  have HDX : Hid (DigAt (w.alloc (.cells #[.int .i64 0, .bool ng, .slice A0 ds.length c0, .slice A cs.length c] 29)) A0 ds) := hd.ext (hx0.trans ((Ext.refl w).alloc _))
  simp only [Pl.cs, Pl.ds, Pl.lv, Pl.neg, plV] at *
  clear h h4 hd
  by_cases hc : 0 < cs.length
  · have HF : Hid ((Pl.mk 0 ng ds cs).isCan = false) := by
      have : (Pl.mk 0 ng ds cs).isCan = false := by rw [Pl.isCan, if_pos rfl, if_pos hc]
      exact this
    go_enter Tryz.func76, Tryz.ntmps76
    go_wp2_with fail
    go_ret
    exact ⟨by rw [HF.out]; rfl, HX.out _⟩
  · have HF : Hid ((Pl.mk 0 ng ds cs).isCan = ((decide (ds.length = 0) && !ng) || (decide (0 < ds.length) && decide (ds.getLast? ≠ some 0)))) := by
      have : (Pl.mk 0 ng ds cs).isCan = ((decide (ds.length = 0) && !ng) || (decide (0 < ds.length) && decide (ds.getLast? ≠ some 0))) := by rw [Pl.isCan, if_pos rfl, if_neg hc]
      exact this
    by_cases hds : 0 < ds.length
    · obtain ⟨ad, x, rfl, hb, hcell, hx, HG⟩ := HDX.out.get_ (ds.length - 1) (by omega)
      obtain ⟨k, hk⟩ : ∃ k : Nat, ds.length - 1 = k := ⟨_, rfl⟩
      have hk2 : ds.length = k + 1 := by omega
      rw [hk] at hcell HG
      have HG2 : Hid (ds.getLast? = some x) := by
        have : ds.getLast? = some x := by rw [List.getLast?_eq_getElem?, hk]; exact HG.out
        exact this
      generalize ds.length = N at *
      subst hk2
      have hwr : IntKind.i64.wrap (((k + 1 : Nat) : Int) - 1) = k := by simp [IntKind.wrap, IntKind.bits, IntKind.signed]; omega
      go_enter Tryz.func76, Tryz.ntmps76
      go_wp2_with fail
      go_ret
      exact ⟨by rw [HF.out, HG2.out]; simp; by_cases hx0 : x = 0 <;> simp [hx0] <;> omega, HX.out _⟩
    · have hN : ds.length = 0 := by omega
      rw [hN] at HF HDX
      rw [hN]
      cases ng
      · go_enter Tryz.func76, Tryz.ntmps76
        go_wp2_with fail
        go_ret
        exact ⟨by rw [HF.out]; rfl, HX.out _⟩
      · go_enter Tryz.func76, Tryz.ntmps76
        go_wp2_with fail
        go_ret
        exact ⟨by rw [HF.out]; rfl, HX.out _⟩

set_option maxRecDepth 100000 in
set_option maxHeartbeats 4000000 in
theorem isCan_ih (w0 : World) (q : Nat → Prop) (n : Nat) : IsCanIH w0 q n := by
  induction n with
  | zero => intro p v w h; omega
  | succ n ih =>
  intro p v w hn h hx0
  by_cases hl : p.lv = 0
  · exact isCan_flat p v h hx0 hl
  obtain ⟨A0, n0, c0, A, c, rfl, ⟨A0', c0', e, hd1, hd2, hd⟩, hl1, hl2, h4⟩ := h.open_
  injection e with e1 e2 e3
  subst e1 e2 e3
  obtain ⟨l, ng, ds, cs⟩ := p
  simp only [Pl.cs, Pl.ds, Pl.lv, Pl.neg, plV] at *
  have IH := Lib.hid ih
  have H4 := Lib.hid h4
  have HX0 := Lib.hid hx0
  have HSZ : Hid (∀ k (hk : k < cs.length), cs[k].sz < n) := by
    have : ∀ k (hk : k < cs.length), cs[k].sz < n := fun k hk => by
      have h1 := plSz_mem (List.getElem_mem hk)
      have h2 : (Pl.mk l ng ds cs).sz = plSz cs + 1 := by rw [Pl.sz]
      omega
    exact this
  clear h h4 hd ih hx0
  obtain ⟨W, hW⟩ : ∃ W, w.alloc (.cells #[.int .i64 l, .bool ng, .slice A0 ds.length c0, .slice A cs.length c] 29) = W := ⟨_, rfl⟩
  have hWx : Ext w W := by rw [← hW]; exact (Ext.refl w).alloc _
  have hWs : W.heap.size = w.heap.size + 1 := by rw [← hW]; simp
  have hbx : Box4 W w.heap.size (.mk l ng ds cs) (.slice A0 ds.length c0) (.slice A cs.length c) := by rw [← hW]; exact Box4.new w (.mk l ng ds cs) _ _ _
  have HWX := Lib.hid hWx
  have HBX := Lib.hid hbx
  obtain ⟨b0, b1, b2, b3⟩ := hbx
  simp only [Pl.lv, Pl.neg] at b0 b1
  have hl0 : (l == 0) = false := by simpa using hl
  by_cases hg : (l < 1 ∨ 4 < l) ∨ 0 < ds.length ∨ ng = true ∨ cs.length < 2
  · have HF : Hid ((Pl.mk l ng ds cs).isCan = false) := by
      have : (Pl.mk l ng ds cs).isCan = false := by rw [Pl.isCan, if_neg hl, if_pos hg]
      exact this
    clear hWx
    go_enter Tryz.func76, Tryz.ntmps76
    go_wp2_with fail
    refine (isLevel_any l _).mono ?_
    rintro e w1 ⟨rfl, rfl⟩
    by_cases hg1 : 1 ≤ l ∧ l ≤ 4
    · have hg2 : (decide (1 ≤ l) && decide (l ≤ 4)) = true := by simp [hg1]
      rw [hg2]
      by_cases hg3 : 0 < ds.length
      · have hg4 : decide ((ds.length : Int) > 0) = true := decide_eq_true (by omega)
        go_wp2_with fail
        go_ret
        exact ⟨by rw [HF.out]; rfl, HWX.out⟩
      · obtain rfl : ds = [] := List.eq_nil_of_length_eq_zero (by omega)
        simp only [List.length_nil] at *
        cases ng
        · have hg5 : decide ((cs.length : Int) < 2) = true := decide_eq_true (by
            have : cs.length < 2 := by
              rcases hg with h | h | h | h
              · omega
              · exact absurd h (by decide)
              · cases h
              · exact h
            omega)
          go_wp2_with fail
          go_ret
          exact ⟨by rw [HF.out]; rfl, HWX.out⟩
        · go_wp2_with fail
          go_ret
          exact ⟨by rw [HF.out]; rfl, HWX.out⟩
    · have hg2 : (decide (1 ≤ l) && decide (l ≤ 4)) = false := by simp at hg1 ⊢; omega
      rw [hg2]
      go_wp2_with fail
      go_ret
      exact ⟨by rw [HF.out]; rfl, HWX.out⟩
  · have hg2 : (decide (1 ≤ l) && decide (l ≤ 4)) = true := by simp; omega
    obtain rfl : ds = [] := List.eq_nil_of_length_eq_zero (by omega)
    have hng : ng = false := by
      cases ng
      · rfl
      · exact absurd (.inr (.inr (.inl rfl))) hg
    have hg5 : decide ((cs.length : Int) < 2) = false := decide_eq_false (by omega)
    have hlen : 2 ≤ cs.length := by omega
    have HG := Lib.hid hg
    have HL := Lib.hid hl
    subst hng
    clear hWx hg
    simp only [List.length_nil] at *
    go_enter Tryz.func76, Tryz.ntmps76
    go_wp2_with fail
    refine (isLevel_any l _).mono ?_
    rintro e w1 ⟨rfl, rfl⟩
    rw [hg2]
    go_wp2_with fail
    clear hW b0 b1 b2 b3
    go_loopw [63] (fun iv wr => ∃ k : Nat, k ≤ cs.length ∧ iv = .int .i64 k ∧ Hid ((∀ c ∈ cs.take k, c.lv < l ∧ c.isCan = true) ∧ Ext w1 wr)) (fun iv _ => cs.length - (intOf iv).toNat)
    case atStart => exact ⟨0, Nat.zero_le _, rfl, ⟨by simp, Ext.refl _⟩⟩
    case round =>
      obtain ⟨k, hk, rfl, ⟨hall, hx⟩⟩ := hrel
      have HALL := Lib.hid hall
      have HX := Lib.hid hx
      obtain ⟨b0, b1, b2, b3⟩ := HBX.out.ext hx (by omega)
      simp only [Pl.lv, Pl.neg] at b0 b1
      have hws : w.heap.size < wr.heap.size := by have := hx.size; omega
      by_cases hlt : k < cs.length
      · obtain ⟨ad, B0, m0, d0, B1, m1, d1, rfl, hadb, hnd, hkt⟩ := PlsAt.kid H4.out k hlt
        have hxx : Ext w0 wr := (HX0.out.trans HWX.out).trans hx
        obtain ⟨e0, e1, e2, e3⟩ := hnd.ext hxx (by rw [block_of_add]; exact hadb)
        have hsz := HSZ.out k hlt
        have HC := Lib.hid (fun W (hxW : Ext wr W) => IH.out cs[k] _ W hsz hkt (hxx.trans hxW))
        have HBAD : Hid (l ≤ cs[k].lv ∨ cs[k].isCan = false → (Pl.mk l false [] cs).isCan = false) := fun h => Pl.isCan_bad HL.out (List.getElem_mem hlt) h
        have HGOOD : Hid (cs[k].lv < l → cs[k].isCan = true → ∀ c ∈ cs.take (k + 1), c.lv < l ∧ c.isCan = true) := fun h1 h2 c hc => by
          rw [List.take_succ_eq_append_getElem hlt] at hc
          rcases List.mem_append.1 hc with hc | hc
          · exact HALL.out c hc
          · rw [List.mem_singleton.1 hc]; exact ⟨h1, h2⟩
        generalize cs[k] = ck at *
        clear hx hall hnd hkt hadb hsz hxx
        by_cases hlv : l ≤ ck.lv
        · have hq : decide (ck.lv ≥ l) = true := by simpa using hlv
          go_wp2_with fail
          go_ret
          exact ⟨by rw [HBAD.out (.inl hlv)]; rfl, (HWX.out.trans HX.out).alloc _⟩
        · have hq : decide (ck.lv ≥ l) = false := by simpa using hlv
          go_wp2_with fail
          refine (HC.out _ ((Ext.refl _).alloc _)).mono ?_
          rintro e w2 ⟨rfl, x2⟩
          have X2 : Hid (Ext w1 w2) := (HX.out.trans ((Ext.refl _).alloc _)).trans x2
          clear x2 HC
          cases hci : ck.isCan
          · go_wp2_with fail
            go_ret
            exact ⟨by rw [HBAD.out (.inr hci)]; rfl, HWX.out.trans X2.out⟩
          · go_wp2_with fail
            go_roundw
            case rel => exact ⟨k + 1, by omega, by go_num, HGOOD.out (by omega) hci, X2.out⟩
            case measure => simp [intOf]; omega
      · have hke : k = cs.length := by omega
        rw [hke, List.take_length] at HALL
        obtain ⟨j, hj⟩ : ∃ j : Nat, cs.length = j + 1 := ⟨cs.length - 1, by omega⟩
        have hjl : j < cs.length := by omega
        obtain ⟨ad, B0, m0, d0, B1, m1, d1, rfl, hadb, hnd, hkt⟩ := PlsAt.kid H4.out j hjl
        have hxx : Ext w0 wr := (HX0.out.trans HWX.out).trans hx
        obtain ⟨e0, e1, e2, e3⟩ := hnd.ext hxx (by rw [block_of_add]; exact hadb)
        have HKT := Lib.hid (hkt.ext hxx)
        have HFIN : Hid ((Pl.mk l false [] cs).isCan = !(cs[j]).isZ) := by
          have h := Pl.isCan_fin (n := false) (d := []) HL.out HG.out HALL.out (by omega)
          have hj' : cs.length - 1 = j := by omega
          simp only [hj'] at h
          exact h
        generalize cs[j] = cj at *
        rw [hj] at hke
        subst hke
        have hwr : IntKind.i64.wrap (((j + 1 : Nat) : Int) - 1) = j := by simp [IntKind.wrap, IntKind.bits, IntKind.signed]; omega
        clear hx hall hnd hkt hadb hxx
        rw [hj]
        go_wp2_with fail
        refine (isZero_any _ _ HKT.out).mono ?_
        rintro e w2 ⟨rfl, x2⟩
        have X2 := Lib.hid (HX.out.trans x2)
        clear x2
        go_wp2_with fail
        go_ret
        exact ⟨by rw [HFIN.out]; rfl, HWX.out.trans X2.out⟩
theorem isCan_any {w : World} {q : Nat → Prop} (p : Pl) (v : Value) (h : PlV w q p v) : Calls Tryz.prog 76 #[v] w fun e w' => e = .returned (.bool p.isCan) ∧ Ext w w' :=
  isCan_ih w q (p.sz + 1) p v w (Nat.lt_succ_self _) h (Ext.refl w)
end Go.Proofs.YtdcapcpchcnidaaGreat

/- Rows of polynomials that a call makes and fills; what a call that returns a polynomial leaves. -/
namespace Go.Proofs.YtdcapcpchcnidaaGreat
open Go.RowKit

/-- The call returns this polynomial, whose coefficients lie in blocks of q. -/
def RetPl (q : Nat → Prop) (p : Pl) (w : World) (e : Ending) (w' : World) : Prop := ∃ v, e = .returned v ∧ PlV w' q p v ∧ Ext w w'

theorem Pl.zero_v (w : World) (q : Nat → Prop) (A : Option Addr) (c : Nat) (hc : c ≤ 9223372036854775807) : PlV w q Pl.zero (plV Pl.zero (.slice none 0 0) (.slice A 0 c)) :=
  PlV.mk (t := Pl.zero) (c := c) (NatV.nil w) (by simp [Pl.zero, Pl.cs]) hc (by unfold Pl.zero Pl.cs PlsAt; trivial)
/-- Block R holds these polynomials, may be written, and no polynomial lies in it. -/
def PRow (W : World) (q : Nat → Prop) (R : Nat) (l : List Pl) : Prop :=
  R < W.heap.size ∧ (∀ i, W.frozen? ⟨R, i, none⟩ = false) ∧ ∀ i (h : i < l.length), ∃ A0 n0 c0 A1 n1 c1, PlAt W ⟨R, i * 4, none⟩ l[i] (.slice A0 n0 c0) (.slice A1 n1 c1) ∧ PlV W (fun b => q b ∧ b ≠ R) l[i] (plV l[i] (.slice A0 n0 c0) (.slice A1 n1 c1))
section
variable {W W' : World} {q q' : Nat → Prop} {R : Nat} {l : List Pl}
theorem PRow.ext (h : PRow W q R l) (hx : Ext W W') : PRow W' q R l := by
  obtain ⟨h1, h2, h3⟩ := h
  refine ⟨Nat.lt_of_lt_of_le h1 hx.size, fun i => (hx.frozen (p := ⟨R, i, none⟩) h1).trans (h2 i), fun i hi => ?_⟩
  obtain ⟨A0, n0, c0, A1, n1, c1, h4, h5⟩ := h3 i hi
  exact ⟨A0, n0, c0, A1, n1, c1, h4.ext hx h1, h5.ext hx⟩
theorem PRow.mono (h : PRow W q R l) (hq : ∀ b, q b → q' b) : PRow W q' R l := by
  obtain ⟨h1, h2, h3⟩ := h
  refine ⟨h1, h2, fun i hi => ?_⟩
  obtain ⟨A0, n0, c0, A1, n1, c1, h4, h5⟩ := h3 i hi
  exact ⟨A0, n0, c0, A1, n1, c1, h4, h5.mono fun b hb => ⟨hq b hb.1, hb.2⟩⟩
theorem PRow.fin (h : PRow W q R l) (hR : q R) : PlsAt W q l (some ⟨R, 0, none⟩) 0 := by
  obtain ⟨h1, h2, h3⟩ := h
  refine PlsAt.of l _ 0 fun i hi => ?_
  obtain ⟨A0, n0, c0, A1, n1, c1, h4, h5⟩ := h3 i hi
  refine ⟨⟨R, 0, none⟩, _, _, rfl, h1, hR, ?_, h5.mono fun b hb => hb.1⟩
  rw [add_mk, Nat.zero_add, Nat.zero_add]
  exact h4
/-- A polynomial is stored into the row. -/
theorem PRow.set_ (h : PRow W q R l) (k : Nat) (hk : k < l.length) (p : Pl) {A0 A1 : Option Addr} {n0 c0 n1 c1 : Nat} (hp : PlV W (fun b => q b ∧ b ≠ R) p (plV p (.slice A0 n0 c0) (.slice A1 n1 c1))) :
    PRow ((((W.setCell ⟨R, k * 4, none⟩ (.int .i64 p.lv)).setCell ⟨R, k * 4 + 1, none⟩ (.bool p.neg)).setCell ⟨R, k * 4 + 2, none⟩ (.slice A0 n0 c0)).setCell ⟨R, k * 4 + 3, none⟩ (.slice A1 n1 c1)) q R (l.set k p) ∧
    ∀ v ds, NatV W v ds → NatV ((((W.setCell ⟨R, k * 4, none⟩ (.int .i64 p.lv)).setCell ⟨R, k * 4 + 1, none⟩ (.bool p.neg)).setCell ⟨R, k * 4 + 2, none⟩ (.slice A0 n0 c0)).setCell ⟨R, k * 4 + 3, none⟩ (.slice A1 n1 c1)) v ds := by
  obtain ⟨h1, h2, h3⟩ := h
  obtain ⟨B0, m0, d0, B1, m1, d1, ⟨g0, g1, g2, g3⟩, -⟩ := h3 k hk
  simp only at g0 g1 g2 g3
  obtain ⟨W1, hW1⟩ : ∃ W1, W.setCell ⟨R, k * 4, none⟩ (.int .i64 p.lv) = W1 := ⟨_, rfl⟩
  obtain ⟨W2, hW2⟩ : ∃ W2, W1.setCell ⟨R, k * 4 + 1, none⟩ (.bool p.neg) = W2 := ⟨_, rfl⟩
  obtain ⟨W3, hW3⟩ : ∃ W3, W2.setCell ⟨R, k * 4 + 2, none⟩ (.slice A0 n0 c0) = W3 := ⟨_, rfl⟩
  obtain ⟨W4, hW4⟩ : ∃ W4, W3.setCell ⟨R, k * 4 + 3, none⟩ (.slice A1 n1 c1) = W4 := ⟨_, rfl⟩
  rw [hW1, hW2, hW3, hW4]
  have e1 : ∀ i, i ≠ k * 4 → W1.cell? ⟨R, i, none⟩ = W.cell? ⟨R, i, none⟩ := fun i hi => by rw [← hW1, World.cell?_setCell_other _ _ _ _ (by intro e; injection e; omega)]
  have e2 : ∀ i, i ≠ k * 4 + 1 → W2.cell? ⟨R, i, none⟩ = W1.cell? ⟨R, i, none⟩ := fun i hi => by rw [← hW2, World.cell?_setCell_other _ _ _ _ (by intro e; injection e; omega)]
  have e3 : ∀ i, i ≠ k * 4 + 2 → W3.cell? ⟨R, i, none⟩ = W2.cell? ⟨R, i, none⟩ := fun i hi => by rw [← hW3, World.cell?_setCell_other _ _ _ _ (by intro e; injection e; omega)]
  have e4 : ∀ i, i ≠ k * 4 + 3 → W4.cell? ⟨R, i, none⟩ = W3.cell? ⟨R, i, none⟩ := fun i hi => by rw [← hW4, World.cell?_setCell_other _ _ _ _ (by intro e; injection e; omega)]
  have s1 : W1.cell? ⟨R, k * 4, none⟩ = some (.int .i64 p.lv) := by rw [← hW1]; exact World.cell?_setCell_same _ _ _ g0
  have q1 : W1.cell? ⟨R, k * 4 + 1, none⟩ = some (.bool l[k].neg) := (e1 _ (by omega)).trans g1
  have s2 : W2.cell? ⟨R, k * 4 + 1, none⟩ = some (.bool p.neg) := by rw [← hW2]; exact World.cell?_setCell_same _ _ _ q1
  have q2 : W2.cell? ⟨R, k * 4 + 2, none⟩ = some (.slice B0 m0 d0) := ((e2 _ (by omega)).trans (e1 _ (by omega))).trans g2
  have s3 : W3.cell? ⟨R, k * 4 + 2, none⟩ = some (.slice A0 n0 c0) := by rw [← hW3]; exact World.cell?_setCell_same _ _ _ q2
  have q3 : W3.cell? ⟨R, k * 4 + 3, none⟩ = some (.slice B1 m1 d1) := ((e3 _ (by omega)).trans ((e2 _ (by omega)).trans (e1 _ (by omega)))).trans g3
  have s4 : W4.cell? ⟨R, k * 4 + 3, none⟩ = some (.slice A1 n1 c1) := by rw [← hW4]; exact World.cell?_setCell_same _ _ _ q3
  have hnat : ∀ v ds, NatV W v ds → NatV W4 v ds := fun v ds hv => by
    rw [← hW4]
    refine NatV.box ?_ q3 rfl _
    rw [← hW3]
    refine NatV.box ?_ q2 rfl _
    rw [← hW2]
    refine NatV.box ?_ q1 rfl _
    rw [← hW1]
    exact hv.box g0 rfl _
  have hother : ∀ b, b ≠ R → W4.heap[b]? = W.heap[b]? := fun b hb => by
    rw [← hW4, ← hW3, ← hW2, ← hW1]
    rw [Below.heap_setCell _ _ _ b hb, Below.heap_setCell _ _ _ b hb, Below.heap_setCell _ _ _ b hb, Below.heap_setCell _ _ _ b hb]
  have hsz : W4.heap.size = W.heap.size := by rw [← hW4, ← hW3, ← hW2, ← hW1]; simp [World.setCell]
  have hfr : ∀ i, W4.frozen? ⟨R, i, none⟩ = false := fun i => by rw [← hW4, ← hW3, ← hW2, ← hW1]; simp only [World.frozen?_setCell]; exact h2 i
  refine ⟨⟨by omega, hfr, fun i hi => ?_⟩, hnat⟩
  rw [List.length_set] at hi
  have keep : ∀ t v, PlV W (fun b => q b ∧ b ≠ R) t v → PlV W4 (fun b => q b ∧ b ≠ R) t v := fun t v ht => PlV.turn_ (by omega) hnat (fun b hb hq => ⟨hq, hother b hq.2⟩) ht
  by_cases hik : i = k
  · subst hik
    rw [List.getElem_set_self]
    refine ⟨A0, n0, c0, A1, n1, c1, ⟨?_, ?_, ?_, s4⟩, keep _ _ hp⟩
    · exact (e4 (i * 4) (by omega)).trans ((e3 (i * 4) (by omega)).trans ((e2 (i * 4) (by omega)).trans s1))
    · exact (e4 (i * 4 + 1) (by omega)).trans ((e3 (i * 4 + 1) (by omega)).trans s2)
    · exact (e4 (i * 4 + 2) (by omega)).trans s3
  · rw [List.getElem_set_ne (Ne.symm hik)]
    obtain ⟨C0, j0, f0, C1, j1, f1, h4, h5⟩ := h3 i hi
    have far : ∀ j, j < 4 → W4.cell? ⟨R, i * 4 + j, none⟩ = W.cell? ⟨R, i * 4 + j, none⟩ := fun j hj => (e4 _ (by omega)).trans ((e3 _ (by omega)).trans ((e2 _ (by omega)).trans (e1 _ (by omega))))
    exact ⟨C0, j0, f0, C1, j1, f1, h4.same (far 0 (by omega)) (fun n hn => far n hn), keep _ _ h5⟩
end
theorem info_poly : (Tryz.prog.info? 29).map (fun i => (i.zero, i.size, i.bytes)) = some (some (.agg #[.int .i64 0, .bool false, .slice none 0 0, .slice none 0 0]), 4, 64) := by kernel_rfl
/-- make([]Poly, n) -/
theorem run_makePls (n : Int) (h0 : 0 ≤ n) (h1 : n ≤ 1099511627776) (w : World) :
    ∃ w', (Instr.makeSlice 27 (.int .i64 n) (.int .i64 n)).run Tryz.prog w = .ok (.slice (some ⟨w.heap.size, 0, none⟩) n.toNat n.toNat) w' ∧ Ext w w' ∧ w'.heap.size = w.heap.size + 1 ∧ ∀ q, PRow w' q w.heap.size (List.replicate n.toNat Pl.zero) := by
  obtain ⟨i0, hi, hz0, hz1, hz2⟩ := info_parts info_poly
  refine ⟨_, run_make w 27 29 i0 _ Tryz.underlying27 hi hz0 .i64 .i64 n n h0 (by omega) (by rw [hz2]; omega) (by omega), (Ext.refl w).alloc _, by simp, fun q => ⟨by simp, fun i => by simp [go_sem], fun i hi2 => ?_⟩⟩
  rw [List.length_replicate] at hi2
  have hc : ∀ j, j < 4 → (w.alloc (.cells (madeCells (Value.agg #[.int .i64 0, .bool false, .slice none 0 0, .slice none 0 0]).cells (n.toNat * i0.size)) 29)).cell? ⟨w.heap.size, i * 4 + j, none⟩ = #[Value.int .i64 0, .bool false, .slice none 0 0, .slice none 0 0][j]? := by
    intro j hj
    have hlt : i * 4 + j < n.toNat * 4 := by omega
    have hmod : (i * 4 + j) % 4 = j := by omega
    rw [cell_of_row _ _ (i * 4 + j) _ _ (0, 0) (heap_alloc_new w _)]
    rw [hz1]
    unfold madeCells
    rw [Array.getElem?_map, Array.getElem?_range, if_pos hlt]
    show some ((#[Value.int .i64 0, .bool false, .slice none 0 0, .slice none 0 0] : Array Value)[(i * 4 + j) % 4]!) = _
    rw [hmod]
    rcases (show j = 0 ∨ j = 1 ∨ j = 2 ∨ j = 3 by omega) with rfl | rfl | rfl | rfl <;> rfl
  rw [List.getElem_replicate]
  exact ⟨none, 0, 0, none, 0, 0, ⟨hc 0 (by omega), hc 1 (by omega), hc 2 (by omega), hc 3 (by omega)⟩, Pl.zero_v _ _ none 0 (by omega)⟩
/-- The zero polynomial's four cells, which may be written. -/
def Zero4 (w : World) (g : Nat) : Prop := (w.cell? ⟨g, 0, none⟩ = some (.int .i64 0) ∧ w.cell? ⟨g, 1, none⟩ = some (.bool false) ∧ w.cell? ⟨g, 2, none⟩ = some (.slice none 0 0) ∧ w.cell? ⟨g, 3, none⟩ = some (.slice none 0 0)) ∧ ∀ i, w.frozen? ⟨g, i, none⟩ = false
theorem Zero4.ext {w w' : World} {g : Nat} (h : Zero4 w g) (hx : Ext w w') (hg : g < w.heap.size) : Zero4 w' g := by
  obtain ⟨⟨h0, h1, h2, h3⟩, h4⟩ := h
  have k : ∀ i, w'.cell? ⟨g, i, none⟩ = w.cell? ⟨g, i, none⟩ := fun i => hx.cell (p := ⟨g, i, none⟩) hg
  exact ⟨⟨(k _).trans h0, (k _).trans h1, (k _).trans h2, (k _).trans h3⟩, fun i => (hx.frozen (p := ⟨g, i, none⟩) hg).trans (h4 i)⟩
theorem Zero4.new (w : World) (T : TypeId) : Zero4 (w.alloc (.cells #[.int .i64 0, .bool false, .slice none 0 0, .slice none 0 0] T)) w.heap.size := by
  refine ⟨⟨?_, ?_, ?_, ?_⟩, fun i => ?_⟩ <;> simp [go_sem]
/-- A polynomial is stored into the cell of the result. -/
theorem close_pl {w W : World} {g : Nat} {p : Pl} {q q' : Nat → Prop} {A0 A1 : Option Addr} {n0 c0 n1 c1 : Nat} (hx : Ext w W) (hg : w.heap.size ≤ g) (hz : Zero4 W g) (hp : PlV W q p (plV p (.slice A0 n0 c0) (.slice A1 n1 c1))) (hq : ∀ b, b < W.heap.size → q b → b ≠ g ∧ q' b) :
    RetPl q' p w (.returned (plV p (.slice A0 n0 c0) (.slice A1 n1 c1))) ((((W.setCell ⟨g, 0, none⟩ (.int .i64 p.lv)).setCell ⟨g, 1, none⟩ (.bool p.neg)).setCell ⟨g, 2, none⟩ (.slice A0 n0 c0)).setCell ⟨g, 3, none⟩ (.slice A1 n1 c1)) := by
  obtain ⟨⟨z0, z1, z2, z3⟩, -⟩ := hz
  refine ⟨_, rfl, ?_, (((hx.setCell hg _).setCell hg _).setCell hg _).setCell hg _⟩
  refine PlV.turn_ (by simp [World.setCell]) (fun v ds hv => ?_) (fun b hlt hb => ⟨(hq b hlt hb).2, ?_⟩) hp
  · refine (((hv.box z0 rfl _).box (u := .bool false) ?_ rfl _).box (u := .slice none 0 0) ?_ rfl _).box (u := .slice none 0 0) ?_ rfl _
    · rw [World.cell?_setCell_other _ _ _ _ (by simp)]; exact z1
    · rw [World.cell?_setCell_other _ _ _ _ (by simp), World.cell?_setCell_other _ _ _ _ (by simp)]; exact z2
    · rw [World.cell?_setCell_other _ _ _ _ (by simp), World.cell?_setCell_other _ _ _ _ (by simp), World.cell?_setCell_other _ _ _ _ (by simp)]; exact z3
  · have hne := (hq b hlt hb).1
    rw [Below.heap_setCell _ _ _ b hne, Below.heap_setCell _ _ _ b hne, Below.heap_setCell _ _ _ b hne, Below.heap_setCell _ _ _ b hne]
theorem take_set_next {α : Type} (L l : List α) (k : Nat) (h : L.take k = l.take k) (hL : k < L.length) (hl : k < l.length) : (L.set k l[k]).take (k + 1) = l.take (k + 1) := by
  have h1 : k < (L.set k l[k]).length := by rw [List.length_set]; exact hL
  rw [List.take_succ_eq_append_getElem h1, List.take_succ_eq_append_getElem hl, List.getElem_set_self, List.take_set_of_le (Nat.le_refl _), h]
end Go.Proofs.YtdcapcpchcnidaaGreat

/- Reference 38: roomPoly, FewPoly: how many coefficients a polynomial has, up to a limit. -/
namespace Go.Proofs.YtdcapcpchcnidaaGreat
open Go.RowKit

mutual
/-- What is left of n when a polynomial, at most so deep, is counted; negative if it is too great. -/
def Pl.room (D : Nat) : Pl → Int → Nat → Int
  | .mk _ _ ds cs, n, deep => match deep with
    | 0 => -1
    | d + 1 => if D < ds.length ∨ 12 < cs.length then -1 else roomP D cs (n - 1) d
def roomP (D : Nat) : List Pl → Int → Nat → Int
  | [], n, _ => n
  | t :: r, n, d => if n < 0 then -1 else roomP D r (t.room D n d) d
end
mutual
theorem Pl.room_bd (D : Nat) : ∀ (t : Pl) (n : Int) (d : Nat), 0 ≤ n → -1 ≤ t.room D n d ∧ t.room D n d ≤ n
  | .mk _ _ ds cs, n, deep, h => by
    cases deep with
    | zero => simp only [Pl.room]; omega
    | succ d =>
      simp only [Pl.room]
      split
      · omega
      · have := roomP_bd D cs (n - 1) d (by omega); omega
theorem roomP_bd (D : Nat) : ∀ (l : List Pl) (n : Int) (d : Nat), -1 ≤ n → -1 ≤ roomP D l n d ∧ roomP D l n d ≤ n
  | [], n, d, h => by simp only [roomP]; omega
  | t :: r, n, d, h => by
    simp only [roomP]
    split
    · omega
    · have h1 := Pl.room_bd D t n d (by omega)
      have h2 := roomP_bd D r (t.room D n d) d h1.1
      omega
end
theorem roomP_neg (D : Nat) (l : List Pl) (d : Nat) : roomP D l (-1) d = -1 := by cases l <;> simp [roomP]
theorem roomP_append (D : Nat) (l r : List Pl) (n : Int) (d : Nat) (hn : -1 ≤ n) : roomP D (l ++ r) n d = roomP D r (roomP D l n d) d := by
  induction l generalizing n with
  | nil => simp [roomP]
  | cons t l ih =>
    simp only [List.cons_append, roomP]
    split
    · rw [roomP_neg]
    · exact ih _ (Pl.room_bd D t n d (by omega)).1
theorem roomP_take (D : Nat) (l : List Pl) (k : Nat) (hk : k < l.length) (n : Int) (d : Nat) (hn : -1 ≤ n) : roomP D (l.take (k + 1)) n d = if roomP D (l.take k) n d < 0 then -1 else (l[k]).room D (roomP D (l.take k) n d) d := by
  rw [List.take_succ_eq_append_getElem hk, roomP_append _ _ _ _ _ hn]
  simp [roomP]
theorem roomP_cut (D : Nat) (l : List Pl) (k : Nat) (n : Int) (d : Nat) (hn : -1 ≤ n) (hk : k < l.length) (h : roomP D (l.take k) n d < 0) : roomP D l n d = -1 := by
  have h1 : l = l.take k ++ l.drop k := (List.take_append_drop k l).symm
  have hb := (roomP_bd D (l.take k) n d hn).1
  have h2 : roomP D (l.take k) n d = -1 := by omega
  rw [h1, roomP_append _ _ _ _ _ hn, h2, roomP_neg]
mutual
theorem Pl.room_sz (D : Nat) : ∀ (t : Pl) (n : Int) (d : Nat), 0 ≤ n → 0 ≤ t.room D n d → t.room D n d = n - t.sz ∧ t.dm ≤ D
  | .mk _ _ ds cs, n, deep, h, h' => by
    cases deep with
    | zero => simp only [Pl.room] at h'; omega
    | succ d =>
      simp only [Pl.room, Pl.sz, Pl.dm] at h' ⊢
      split at h'
      · omega
      · rename_i hc
        rw [if_neg hc]
        have := roomP_sz D cs (n - 1) d (by omega) h'
        omega
theorem roomP_sz (D : Nat) : ∀ (l : List Pl) (n : Int) (d : Nat), -1 ≤ n → 0 ≤ roomP D l n d → roomP D l n d = n - plSz l ∧ plDm l ≤ D
  | [], n, d, h, h' => by simp only [roomP, plSz, plDm]; omega
  | t :: r, n, d, h, h' => by
    simp only [roomP] at h' ⊢
    split at h'
    · omega
    · rename_i hn
      rw [if_neg hn]
      have hb := Pl.room_bd D t n d (by omega)
      have h2 := roomP_sz D r (t.room D n d) d hb.1 h'
      have hb2 := roomP_bd D r (t.room D n d) d hb.1
      have h1 := Pl.room_sz D t n d (by omega) (by omega)
      simp only [plSz, plDm]
      omega
end
/-- cylinderref38.FewPoly -/
def Pl.few (p : Pl) (n D : Nat) : Bool := decide (0 ≤ p.room D n 6)
theorem Pl.few_le {p : Pl} {n D : Nat} (h : p.few n D = true) : p.sz ≤ n ∧ p.dm ≤ D := by
  have h1 := Pl.room_sz D p n 6 (by omega) (of_decide_eq_true h)
  have h2 := of_decide_eq_true h
  omega

set_option maxRecDepth 100000 in
set_option maxHeartbeats 1000000 in
theorem roomPl_ih {p : Nat → Prop} (D : Nat) (hD : D ≤ 1000000) (dd : Nat) : ∀ (t : Pl) (v : Value) (w : World) (n : Int) (deep : Nat), deep < dd → PlV w p t v → 0 ≤ n → n ≤ 1000000 → deep ≤ 1000000 →
    Calls Tryz.prog 61 #[v, .int .i64 n, .int .i64 deep, .int .i64 D] w (RetI (t.room D n deep) w) := by
  induction dd with
  | zero => intro t v w n deep h; omega
  | succ dd ih =>
  intro t v w n deep hdd h hn hn' hd'
  have IH := Lib.hid ih
  obtain ⟨A0, n0, c0, A, c, rfl, ⟨A0', c0', e, hd1, hd2, -⟩, hl1, hl2, h4⟩ := h.open_
  injection e with e1 e2 e3
  subst e1 e2 e3
  have H4 := Lib.hid h4
  clear h4 ih h
  unfold plV
  cases deep with
  | zero =>
    obtain ⟨lv, ng, ds, cs⟩ := t
    show Calls _ _ _ _ (RetI (-1) w)
    go_enter Tryz.func61, Tryz.ntmps61
    go_wp2_with fail
    go_ret
    exact ⟨rfl, (Ext.refl w).alloc _⟩
  | succ deep =>
    have hde : (((deep + 1 : Nat) : Int) == 0) = false := by simp; omega
    have hroom : t.room D n (deep + 1) = if D < t.ds.length ∨ 12 < t.cs.length then -1 else roomP D t.cs (n - 1) deep := by cases t; rfl
    obtain ⟨dI, hdI⟩ : ∃ dI : Int, ((deep + 1 : Nat) : Int) = dI := ⟨_, rfl⟩
    rw [hdI] at hde ⊢
    have hdI1 : 1 ≤ dI := by omega
    have hdI2 : dI ≤ 1000000 := by omega
    have HDI : Hid (dI - 1 = (deep : Int)) := by
      have : dI - 1 = (deep : Int) := by omega
      exact this
    clear hdI
    by_cases hbad : D < t.ds.length ∨ 12 < t.cs.length
    · rw [if_pos hbad] at hroom
      have HR := Lib.hid hroom
      have HXA : Hid (∀ o, Ext w (w.alloc o)) := fun o => (Ext.refl w).alloc o
      clear hroom
      by_cases hb1 : D < t.ds.length
      · have hq1 : decide ((t.ds.length : Int) > (D : Int)) = true := decide_eq_true (by omega)
        generalize t.ds.length = N1 at *
        clear hbad
        go_enter Tryz.func61, Tryz.ntmps61
        go_wp2_with fail
        go_ret
        exact ⟨by rw [HR.out]; rfl, HXA.out _⟩
      · have hq1 : decide ((t.ds.length : Int) > (D : Int)) = false := decide_eq_false (by omega)
        have hq2 : decide ((t.cs.length : Int) > 12) = true := decide_eq_true (by omega)
        generalize t.ds.length = N1 at *
        generalize t.cs.length = N2 at *
        clear hbad
        go_enter Tryz.func61, Tryz.ntmps61
        go_wp2_with fail
        go_ret
        exact ⟨by rw [HR.out]; rfl, HXA.out _⟩
    rw [if_neg hbad] at hroom
    have HR := Lib.hid hroom
    have hq1 : decide ((t.ds.length : Int) > (D : Int)) = false := decide_eq_false (by omega)
    have hq2 : decide ((t.cs.length : Int) > 12) = false := decide_eq_false (by omega)
    clear hroom hbad
    have hqn : t.ds.length ≤ D := by
      have := of_decide_eq_false hq1
      omega
    clear hq1
    generalize t.ds.length = N1 at *
    have hqm : ¬ D < N1 := by omega
    obtain ⟨W, hW⟩ : ∃ W, w.alloc (.cells #[.int .i64 t.lv, .bool t.neg, .slice A0 N1 c0, .slice A t.cs.length c] 29) = W := ⟨_, rfl⟩
    have hWx : Ext w W := by rw [← hW]; exact (Ext.refl w).alloc _
    have hWs : w.heap.size < W.heap.size := by rw [← hW]; simp
    have d8 : W.cell? ⟨w.heap.size, 3, none⟩ = some (.slice A t.cs.length c) := by rw [← hW]; simp [go_sem]
    have d2 : W.cell? ⟨w.heap.size, 2, none⟩ = some (.slice A0 N1 c0) := by rw [← hW]; simp [go_sem]
    have HWX := Lib.hid hWx
    have D8 := Lib.hid d8
    clear hWx
    go_enter Tryz.func61, Tryz.ntmps61
    go_wp2_with fail
    clear hW d8 d2
    go_loopw [1, 31] (fun nv iv wr => ∃ (k : Nat) (m : Int), k ≤ t.cs.length ∧ iv = .int .i64 k ∧ nv = .int .i64 m ∧ -1 ≤ m ∧ m ≤ 1000000 ∧ Hid (roomP D (t.cs.take k) (n - 1) deep = m ∧ Ext W wr)) (fun _ iv _ => t.cs.length - (intOf iv).toNat)
    case atStart => exact ⟨0, n - 1, Nat.zero_le _, rfl, rfl, by omega, by omega, ⟨by simp [roomP], Ext.refl W⟩⟩
    case round =>
      obtain ⟨k, m, hk, rfl, rfl, hm1, hm2, ⟨hm, hxw⟩⟩ := hrel
      have HM := Lib.hid hm
      have HXW := Lib.hid hxw
      have d8 : wr.cell? ⟨w.heap.size, 3, none⟩ = some (.slice A t.cs.length c) := (hxw.cell (p := ⟨w.heap.size, 3, none⟩) hWs).trans D8.out
      by_cases hlt : k < t.cs.length
      · by_cases hneg : m < 0
        · have HF : Hid (roomP D t.cs (n - 1) deep = -1) := by
            have : roomP D t.cs (n - 1) deep = -1 := roomP_cut D t.cs k (n - 1) deep (by omega) hlt (by omega)
            exact this
          clear hm hxw
          go_wp2_with fail
          go_ret
          exact ⟨by rw [HR.out, HF.out]; rfl, HWX.out.trans HXW.out⟩
        · obtain ⟨ad, B0, m0, d0, B1, m1, d1, rfl, hadb, ⟨e0, e1, e2, e3⟩, hkt⟩ := PlsAt.kid (PlsAt.ext H4.out (HWX.out.trans hxw)) k hlt
          have HKT := Lib.hid hkt
          have HSTEP : Hid (roomP D (t.cs.take (k + 1)) (n - 1) deep = (t.cs[k]).room D m deep) := by
            have : roomP D (t.cs.take (k + 1)) (n - 1) deep = (t.cs[k]).room D m deep := by rw [roomP_take _ _ _ hlt _ _ (by omega), hm, if_neg hneg]
            exact this
          clear hkt hm hxw hadb
          have hm0 : decide (m < 0) = false := by simpa using hneg
          go_wp2_with fail
          rw [HDI.out]
          have hbd := Pl.room_bd D (t.cs[k]) m deep (by omega)
          refine (IH.out (t.cs[k]) _ wr m deep (by omega) HKT.out (by omega) (by omega) (by omega)).mono ?_
          rintro e w2 ⟨rfl, x2⟩
          have X2 := Lib.hid x2
          clear x2 e0 e1 e2 e3 d8
          generalize hrm : (t.cs[k]).room D m deep = m2 at *
          have HRM := Lib.hid hrm
          clear hrm
          go_wp2_with fail
          go_roundw
          case rel => exact ⟨k + 1, m2, by omega, by go_num, rfl, by omega, by omega, ⟨HSTEP.out, HXW.out.trans X2.out⟩⟩
          case measure => simp [intOf]; omega
      · have hke : k = t.cs.length := by omega
        have HF : Hid (roomP D t.cs (n - 1) deep = m) := by
          rw [hke, List.take_length] at hm
          exact hm
        clear hm hxw hke
        go_wp2_with fail
        go_ret
        exact ⟨by rw [HR.out, HF.out]; rfl, HWX.out.trans HXW.out⟩

theorem roomPl_any {p : Nat → Prop} (D : Nat) (hD : D ≤ 1000000) (t : Pl) (v : Value) (w : World) (n : Int) (deep : Nat) (h : PlV w p t v) (hn : 0 ≤ n) (hn' : n ≤ 1000000) (hd : deep ≤ 1000000) :
    Calls Tryz.prog 61 #[v, .int .i64 n, .int .i64 deep, .int .i64 D] w (RetI (t.room D n deep) w) := roomPl_ih D hD (deep + 1) t v w n deep (Nat.lt_succ_self _) h hn hn' hd
theorem fewPoly_any {p : Nat → Prop} (D n : Nat) (hD : D ≤ 1000000) (hn : n ≤ 1000000) (t : Pl) (v : Value) (w : World) (h : PlV w p t v) : Calls Tryz.prog 40 #[v, .int .i64 n, .int .i64 D] w fun e w' => e = .returned (.bool (t.few n D)) ∧ Ext w w' := by
  have HH := Lib.hid h
  obtain ⟨A0, n0, c0, A, c, rfl, hnat, hl1, hl2, h4⟩ := h.open_
  obtain ⟨W, hW⟩ : ∃ W, w.alloc (.cells #[.int .i64 t.lv, .bool t.neg, .slice A0 n0 c0, .slice A t.cs.length c] 29) = W := ⟨_, rfl⟩
  have hWx : Ext w W := by rw [← hW]; exact (Ext.refl w).alloc _
  obtain ⟨b0, b1, b2, b3⟩ : Box4 W w.heap.size t (.slice A0 n0 c0) (.slice A t.cs.length c) := by rw [← hW]; exact Box4.new w t _ _ _
  have HWX := Lib.hid hWx
  have HC := Lib.hid (roomPl_any D hD t _ W n 6 (HH.out.ext hWx) (by omega) (by omega) (by omega))
  have HE : Hid (t.few n D = decide (t.room D n 6 ≥ 0)) := rfl
  clear h hnat h4 hWx
  generalize t.room D n 6 = rr at *
  unfold plV at *
  go_enter Tryz.func40, Tryz.ntmps40
  go_wp2_with fail
  clear hW b0 b1 b2 b3
  refine HC.out.mono ?_
  rintro e w2 ⟨rfl, x2⟩
  have X2 := Lib.hid (HWX.out.trans x2)
  clear x2
  go_wp2_with fail
  go_ret
  exact ⟨by rw [HE.out]; rfl, X2.out⟩
end Go.Proofs.YtdcapcpchcnidaaGreat
