/- Layer 27: prenex.kind, Level. -/
import Derived.Test.YtkbpnppiadaibaaGreatDoorMg23
import Derived.Test.YtkbpnppiadaibaaGreatDoorDeg
import Derived.Test.YtkbpnppiadaibaaGreatDoorMg25
import Derived.Test.YtkbpnppiadaibaaGreatDoorMRow
import Derived.Test.YtkbpnppiadaibaaGreatDoorMg27
import Derived.Test.YtkbpnppiadaibaaGreatDoorMg32
import Derived.Test.YtkbpnppiadaibaaGreatDoorMg33
import Derived.Deep.RegionLaw
set_option linter.unusedSimpArgs false
set_option linter.unusedVariables false

namespace Go.Proofs.YtkbpnppiadaibaaGreatDoor
open Go.RowKit

def kindN (k : Int) : Int := if k < 0 ∨ 4 < k then 0 else k
set_option maxRecDepth 100000 in
theorem kind_any {w : World} (t : Mx) (s A K : Value) : Calls Tryz.prog 110 #[mxV t s A K] w (RetI (kindN t.kind) w) := by
  unfold mxV
  generalize t.kind = k
  generalize t.rel = r
  generalize t.p.lv = l
  generalize t.p.neg = n
  by_cases h1 : k < 0
  · rw [show kindN k = 0 from if_pos (.inl h1)]
    go_enter Tryz.func110, Tryz.ntmps110
    go_wp2_with fail
    go_ret
    exact ⟨rfl, (Ext.refl w).alloc _⟩
  by_cases h2 : 4 < k
  · rw [show kindN k = 0 from if_pos (.inr h2)]
    go_enter Tryz.func110, Tryz.ntmps110
    go_wp2_with fail
    go_ret
    exact ⟨rfl, (Ext.refl w).alloc _⟩
  · rw [show kindN k = k from if_neg (by omega)]
    go_enter Tryz.func110, Tryz.ntmps110
    go_wp2_with fail
    go_ret
    exact ⟨rfl, (Ext.refl w).alloc _⟩
end Go.Proofs.YtkbpnppiadaibaaGreatDoor

/- Layer 38: prenex.relation, complement; what builder.poly is to do. -/
namespace Go.Proofs.YtkbpnppiadaibaaGreatDoor
open Go.RowKit
attribute [local go_sem] as_Num as_Name as_Add as_Sub as_Mul as_Neg as_Pow as_Truth as_Atom as_Not as_And as_Or as_Implies as_Iff as_Quant

theorem prel_any (r : Int) (w : World) : Calls Tryz.prog 105 #[.int .i64 r] w fun e w' => e = .returned (.int .i64 (relM r)) ∧ w' = w := by
  unfold relM
  by_cases h1 : r < 1
  · rw [if_pos (.inl h1)]
    go_enter Tryz.func105, Tryz.ntmps105
    go_wp2_with fail
    go_ret
    exact ⟨rfl, rfl⟩
  · by_cases h2 : 6 < r
    · rw [if_pos (.inr h2)]
      go_enter Tryz.func105, Tryz.ntmps105
      go_wp2_with fail
      go_ret
      exact ⟨rfl, rfl⟩
    · rw [if_neg (by omega)]
      go_enter Tryz.func105, Tryz.ntmps105
      go_wp2_with fail
      go_ret
      exact ⟨rfl, rfl⟩
theorem compl_any (r : Int) (w : World) : Calls Tryz.prog 106 #[.int .i64 r] w fun e w' => e = .returned (.int .i64 (cmpl r)) ∧ w' = w := by
  unfold cmpl
  rcases (show r = 1 ∨ r = 2 ∨ r = 4 ∨ r = 5 ∨ r = 6 ∨ (r ≠ 1 ∧ r ≠ 2 ∧ r ≠ 4 ∧ r ≠ 5 ∧ r ≠ 6) by omega) with rfl | rfl | rfl | rfl | rfl | ⟨h1, h2, h3, h4, h5⟩
  all_goals
    first | rw [if_neg h1, if_neg h2, if_neg h3, if_neg h4, if_neg h5] | skip
    first | (have k1 : (r == 1) = false := by simp [h1]
             have k2 : (r == 2) = false := by simp [h2]
             have k3 : (r == 4) = false := by simp [h3]
             have k4 : (r == 5) = false := by simp [h4]
             have k5 : (r == 6) = false := by simp [h5]
             clear h1 h2 h3 h4 h5) | skip
    go_enter Tryz.func106, Tryz.ntmps106
    go_wp2_with fail
    go_ret
    exact ⟨rfl, rfl⟩

/-- The builder at gb looks its levels up in this map. -/
def PBld (W : World) (gb bl : Nat) (g : ByteArray → Int) : Prop := W.cell? ⟨gb, 2, none⟩ = some (.map (some bl)) ∧ gb < W.heap.size ∧ AMap W bl g
theorem PBld.ext {W W' : World} {gb bl : Nat} {g : ByteArray → Int} (h : PBld W gb bl g) (hx : Ext W W') : PBld W' gb bl g := ⟨(hx.cell (p := ⟨gb, 2, none⟩) h.2.1).trans h.1, Nat.lt_of_lt_of_le h.2.1 hx.size, h.2.2.ext hx⟩
section
variable {w0 : World} {L gb bl : Nat} {g : ByteArray → Int}
def PolyIH (w0 : World) (L gb bl : Nat) (g : ByteArray → Int) (t : Tm) : Prop := ∀ (v : Value) (W : World), Ext w0 W → TmV w0 L t v → PBld W gb bl g → t.wt ≤ 400 →
  Calls Tryz.prog 59 #[.pointer (some ⟨gb, 0, none⟩), v] W (RetPl (fun b => W.heap.size ≤ b) (polF g t) W)
theorem Bd.fit400 {p : Pl} {W : Nat} (h : Bd p W) (hw : W ≤ 400) : Fit p 400 401 := (h.mono hw).fit
theorem wt_two {a b : Tm} (h : capI (maxI a.wt b.wt + 1) ≤ 400) : a.wt ≤ 400 ∧ b.wt ≤ 400 := by
  have h1 := capI_eq h
  have hm : a.wt ≤ maxI a.wt b.wt ∧ b.wt ≤ maxI a.wt b.wt := by unfold maxI; split <;> omega
  omega
theorem wt_two_mul {a b : Tm} (h : capI (a.wt + b.wt) ≤ 400) : a.wt ≤ 400 ∧ b.wt ≤ 400 := by
  have h1 := capI_eq h
  have := a.wt_bd; have := b.wt_bd
  omega
end
end Go.Proofs.YtkbpnppiadaibaaGreatDoor

/- Layer 38: prenex.Not: the negation of a matrix. -/
namespace Go.Proofs.YtkbpnppiadaibaaGreatDoor
open Go.RowKit

def PNotIH (Q : Pl → Prop) (n : Nat) : Prop := ∀ (q : Nat → Prop) (t : Mx) (v : Value) (w : World), t.sz < n → t.sz ≤ 1000000 → t.each Q → MxV w q t v → Calls Tryz.prog 51 #[v] w (RetMx (fun b => w.heap.size ≤ b) t.not w)

set_option maxRecDepth 100000 in
set_option maxHeartbeats 8000000 in
theorem pnot_ih {Q : Pl → Prop} (HQS : ∀ p, Q p → p.nf.sz ≤ 1099511627776) (HQ : ∀ (w : World) (q : Nat → Prop) (p : Pl) (v : Value), PlV w q p v → Q p → Calls Tryz.prog 79 #[v] w (RetPl (fun b => w.heap.size ≤ b) p.nf w)) (n : Nat) : PNotIH Q n := by
  induction n with
  | zero => intro q t v w h; omega
  | succ n ih =>
  intro q t v w hn hbig hsm h
  have hkl : t.ks.length ≤ 1000000 := by have := t.ks_len; omega
  have IH := Lib.hid ih
  have HSZ := Lib.hid (fun k hk => t.kid_le k hk)
  have HSM := Lib.hid (Mx.each_ks hsm)
  have hps := Mx.each_p hsm
  obtain ⟨A0, n0, c0, A, n1, c1, K, c, rfl, hp, hl1, hl2, h4⟩ := h.open_
  have HP := Lib.hid hp
  have H4 := Lib.hid h4
  have hkind := fun w' : World => kind_any (w := w') t (.slice A0 n0 c0) (.slice A n1 c1) (.slice K t.ks.length c)
  have HNRM : Hid (t.not = if t.kind = 1 then .mk 0 0 Pl.zero [] else if t.kind = 2 then .mk 2 (cmpl (relM t.rel)) t.p.nf [] else if t.kind = 3 ∨ t.kind = 4 then .mk (7 - t.kind) 0 Pl.zero (t.ks.map Mx.not) else .mk 1 0 Pl.zero []) := t.not_eq
  obtain ⟨W, hW⟩ : ∃ W, (w.alloc (.cells #[.int .i64 t.kind, .int .i64 t.rel, .int .i64 t.p.lv, .bool t.p.neg, .slice A0 n0 c0, .slice A n1 c1, .slice K t.ks.length c] 45)).alloc (.cells #[.int .i64 0, .int .i64 0, .int .i64 0, .bool false, .slice none 0 0, .slice none 0 0, .slice none 0 0] 45) = W := ⟨_, rfl⟩
  have hWx : Ext w W := by rw [← hW]; exact ((Ext.refl w).alloc _).alloc _
  have hWs : W.heap.size = w.heap.size + 1 + 1 := by rw [← hW]; simp
  have hbx : Box7 W w.heap.size t (.slice A0 n0 c0) (.slice A n1 c1) (.slice K t.ks.length c) := by rw [← hW]; exact (Box7.new w t _ _ _ _).ext ((Ext.refl _).alloc _) (by simp)
  have hz : Zero7 W (w.heap.size + 1) := by
    have := Zero7.new (w.alloc (.cells #[.int .i64 t.kind, .int .i64 t.rel, .int .i64 t.p.lv, .bool t.p.neg, .slice A0 n0 c0, .slice A n1 c1, .slice K t.ks.length c] 45)) 45
    rw [hW] at this
    simpa using this
  have HWX := Lib.hid hWx
  have HBX := Lib.hid hbx
  have HZ := Lib.hid hz
  obtain ⟨b0, b1, b2, b3, b4, b5, b6⟩ := id hbx
  obtain ⟨⟨z0, z1, z2, z3, z4, z5, z6⟩, zf⟩ := id hz
  simp only [Mx.kind, Mx.rel, Mx.p, Pl.zero, Pl.lv, Pl.neg] at z0 z1 z2 z3
  have HAFT : Hid (∀ w3 : World, Ext W w3 → Ext w w3 ∧ w.heap.size + 1 + 1 ≤ w3.heap.size ∧ Box7 w3 w.heap.size t (.slice A0 n0 c0) (.slice A n1 c1) (.slice K t.ks.length c) ∧ Zero7 w3 (w.heap.size + 1)) :=
    Lib.hid (fun w3 hx => ⟨HWX.out.trans hx, by have := hx.size; omega, HBX.out.ext hx (by omega), HZ.out.ext hx (by omega)⟩)
  clear h ih h4 hWx hbx hz hp hsm HBX HZ
  unfold mxV at hkind
  unfold mxV
  go_enter Tryz.func51, Tryz.ntmps51
  by_cases k1 : t.kind = 1
  · have hnr := HNRM.out
    rw [if_pos k1] at hnr
    have HNR := Lib.hid hnr
    have hkn : kindN t.kind = 1 := by unfold kindN; split <;> omega
    rw [hkn] at hkind
    have HKIND := Lib.hid hkind
    clear hkind hkn k1 hnr HNRM
    go_wp2_with fail
    refine (HKIND.out _).mono ?_
    rintro e w3 ⟨rfl, x3⟩
    clear b0 b1 b2 b3 b4 b5 b6 z0 z1 z2 z3 z4 z5 z6 zf hW HKIND
    obtain ⟨hX, hs3, hb3, hz3⟩ := HAFT.out w3 x3
    have HF := Lib.hid (RetMx.congr HNR.out (close_mx (q' := fun b => w.heap.size ≤ b) hX (Nat.le_succ _) hz3 (nil_mx w3 (fun _ => False) 0 0) (fun b _ h => h.elim)))
    obtain ⟨⟨z0, z1, z2, z3, z4, z5, z6⟩, zf⟩ := hz3
    simp only [Mx.kind, Mx.rel, Mx.p, Pl.zero, Pl.lv, Pl.neg] at z0 z1 z2 z3
    clear hb3 hX HAFT HNR x3
    go_wp2_with fail
    exact bodyPost_ret (v := mxV (.mk 0 0 Pl.zero []) (.slice none 0 0) (.slice none 0 0) (.slice none 0 0)) (by simp [results, Tryz.results51, go_sem, z0, z1, z2, z3, z4, z5, z6, mxV, Mx.kind, Mx.rel, Mx.p, Pl.zero, Pl.lv, Pl.neg]) rfl HF.out
  by_cases k2 : t.kind = 2
  · have hnr := HNRM.out
    rw [if_neg k1, if_pos k2] at hnr
    have HNR := Lib.hid hnr
    have hnf : t.p.nf.sz ≤ 1099511627776 := by
      exact HQS _ hps
    have HCALL : Hid (∀ w', Ext W w' → Calls Tryz.prog 79 #[plV t.p (.slice A0 n0 c0) (.slice A n1 c1)] w' (RetPl (fun b => w'.heap.size ≤ b) t.p.nf w')) := Lib.hid (fun w' hx => HQ _ _ _ _ ((HP.out.ext HWX.out).ext hx) hps)
    have HREL := Lib.hid (fun w' : World => prel_any t.rel w')
    have HCMP := Lib.hid (fun w' : World => compl_any (relM t.rel) w')
    unfold plV at HCALL
    have hkn : kindN t.kind = 2 := by unfold kindN; split <;> omega
    rw [hkn] at hkind
    have HKIND := Lib.hid hkind
    clear k1 k2 hnr hnf HNRM hkind hkn
    go_wp2_with fail
    refine (HKIND.out _).mono ?_
    rintro e w3 ⟨rfl, x3⟩
    clear b0 b1 b2 b3 b4 b5 b6 z0 z1 z2 z3 z4 z5 z6 zf hW HKIND
    obtain ⟨hX, hs3, hb3, hz3⟩ := HAFT.out w3 x3
    have HX := Lib.hid hX
    have HZ3 := Lib.hid hz3
    have HX3 := Lib.hid x3
    have HK : Hid (∀ w4 C0 j0 f0 C1 n1 f1, PlV w4 (fun b => w3.heap.size ≤ b) t.p.nf (plV t.p.nf (.slice C0 j0 f0) (.slice C1 n1 f1)) → Ext w3 w4 → (w4.cell? ⟨w.heap.size + 1, 0, none⟩ = some (.int .i64 0) ∧ w4.cell? ⟨w.heap.size + 1, 1, none⟩ = some (.int .i64 0) ∧ w4.cell? ⟨w.heap.size + 1, 2, none⟩ = some (.int .i64 0) ∧ w4.cell? ⟨w.heap.size + 1, 3, none⟩ = some (.bool false) ∧ w4.cell? ⟨w.heap.size + 1, 4, none⟩ = some (.slice none 0 0) ∧ w4.cell? ⟨w.heap.size + 1, 5, none⟩ = some (.slice none 0 0) ∧ w4.cell? ⟨w.heap.size + 1, 6, none⟩ = some (.slice none 0 0)) ∧ (∀ i, w4.frozen? ⟨w.heap.size + 1, i, none⟩ = false) ∧ RetMx (fun b => w.heap.size ≤ b) t.not w (.returned (mxV (.mk 2 (cmpl (relM t.rel)) t.p.nf []) (.slice C0 j0 f0) (.slice C1 n1 f1) (.slice none 0 0))) (((((((w4.setCell ⟨w.heap.size + 1, 0, none⟩ (.int .i64 2)).setCell ⟨w.heap.size + 1, 1, none⟩ (.int .i64 (cmpl (relM t.rel)))).setCell ⟨w.heap.size + 1, 2, none⟩ (.int .i64 t.p.nf.lv)).setCell ⟨w.heap.size + 1, 3, none⟩ (.bool t.p.nf.neg)).setCell ⟨w.heap.size + 1, 4, none⟩ (.slice C0 j0 f0)).setCell ⟨w.heap.size + 1, 5, none⟩ (.slice C1 n1 f1)).setCell ⟨w.heap.size + 1, 6, none⟩ (.slice none 0 0))) := Lib.hid (by
      intro w4 C0 j0 f0 C1 n1 f1 hpl hx
      have hz4 : Zero7 w4 (w.heap.size + 1) := HZ3.out.ext hx (by omega)
      obtain ⟨⟨y0, y1, y2, y3, y4, y5, y6⟩, yf⟩ := id hz4
      refine ⟨⟨y0, y1, y2, y3, y4, y5, y6⟩, yf, RetMx.congr (show t.not = .mk 2 (cmpl (relM t.rel)) t.p.nf [] by rw [HNR.out]) ?_⟩
      exact close_mx (m := .mk 2 (cmpl (relM t.rel)) t.p.nf []) (q := fun b => w3.heap.size ≤ b) (HX.out.trans hx) (Nat.le_succ _) hz4 (MxV.mk (t := .mk 2 (cmpl (relM t.rel)) t.p.nf []) (c := 0) hpl (by simp [Mx.ks]) (by omega) (by unfold Mx.ks MxsAt; trivial)) (fun b _ hb => ⟨by omega, by omega⟩))
    obtain ⟨b0, b1, b2, b3, b4, b5, b6⟩ := hb3
    clear hz3 hX HAFT HNR x3
    go_upto_region 5 with fail
    go_region_law (first
      | (go_simp
         go_at_call 105
         refine (HREL.out _).mono ?_
         rintro e v2 ⟨rfl, rfl⟩)
      | (go_simp
         go_at_call 106
         refine (HCMP.out _).mono ?_
         rintro e v2 ⟨rfl, rfl⟩)
      | (go_simp
         go_at_call 79
         refine (HCALL.out _ (Ext.trans HX3.out (Ext.drew (Ext.refl w3)))).mono ?_
         rintro e w4 ⟨v3, rfl, p3, x3⟩
         obtain ⟨C0, j0, f0, C1, f1, rfl, -⟩ := id p3.open_
         have x3' : Ext w3 w4 := Ext.trans (Ext.drew (Ext.refl w3)) x3
         obtain ⟨⟨z0, z1, z2, z3, z4, z5, z6⟩, zf, hfin⟩ := HK.out w4 _ _ _ _ _ _ p3 x3'
         have HF := Lib.hid hfin
         unfold plV
         clear p3 x3 x3' hfin))
    all_goals
      clear HCALL HK
      go_wp2_with fail
      exact bodyPost_ret (v := mxV (.mk 2 (cmpl (relM t.rel)) t.p.nf []) (.slice C0 j0 f0) (.slice C1 t.p.nf.cs.length f1) (.slice none 0 0)) (by simp [results, Tryz.results51, go_sem, z0, z1, z2, z3, z4, z5, z6, mxV, Mx.kind, Mx.rel, Mx.p]) rfl HF.out
  by_cases k34 : t.kind = 3 ∨ t.kind = 4
  · have hnr := HNRM.out
    rw [if_neg k1, if_neg k2, if_pos k34] at hnr
    clear HNRM k1 k2
    rcases k34 with k3 | k4
    · rw [k3] at hnr
      have HNR : Hid (t.not = .mk 4 0 Pl.zero (t.ks.map Mx.not)) := hnr
      have hkn : kindN t.kind = 3 := by unfold kindN; split <;> omega
      rw [hkn] at hkind
      have HKIND := Lib.hid hkind
      have KN := Lib.hid k3
      clear hkind hkn hnr k3
      go_wp2_with fail
      refine (HKIND.out _).mono ?_
      rintro e w3 ⟨rfl, x3⟩
      clear b0 b1 b2 b3 b4 b5 b6 z0 z1 z2 z3 z4 z5 z6 zf hW HKIND
      obtain ⟨hX, hs3, hb3, hz3⟩ := HAFT.out w3 x3
      obtain ⟨o, ho⟩ : ∃ o, w3.heap.size = o := ⟨_, rfl⟩
      have ho1 : w.heap.size + 1 < o := by omega
      obtain ⟨W2, hW2⟩ : ∃ W2, w3.alloc (.cells #[.int .i64 4, .int .i64 0, .int .i64 0, .bool false, .slice none 0 0, .slice none 0 0, .slice none 0 0] 45) = W2 := ⟨_, rfl⟩
      have hW2x : Ext w3 W2 := by rw [← hW2]; exact (Ext.refl w3).alloc _
      have hW2s : W2.heap.size = o + 1 := by rw [← hW2]; simp; omega
      have hG0 : GrowK w o t (.slice A0 n0 c0) (.slice A n1 c1) (.slice K t.ks.length c) (.mk 4 0 Pl.zero []) (.slice none 0 0) (.slice none 0 0) [] W2 := by
        refine ⟨hX.trans hW2x, ⟨ho1, by omega⟩, hb3.ext hW2x (by omega), hz3.ext hW2x (by omega), _, ⟨?_, fun i => ?_⟩, MRow.nil _ _⟩
        · have hb := Box7.new w3 (.mk 4 0 Pl.zero []) (.slice none 0 0) (.slice none 0 0) (.slice none 0 0) 45
          rw [ho] at hb
          rw [← hW2]; exact hb
        · rw [← hW2, ← ho]; simp [go_sem]
      have HG0 := Lib.hid hG0
      have d0 : w3.cell? ⟨w.heap.size, 0, none⟩ = some (.int .i64 t.kind) := hb3.1
      rw [KN.out] at d0
      have d6 : (w3.alloc (.cells #[.int .i64 4, .int .i64 0, .int .i64 0, .bool false, .slice none 0 0, .slice none 0 0, .slice none 0 0] 45)).cell? ⟨w.heap.size, 6, none⟩ = some (.slice K t.ks.length c) := by rw [hW2]; exact (hW2x.cell (p := ⟨w.heap.size, 6, none⟩) (by show w.heap.size < _; omega)).trans hb3.2.2.2.2.2.2
      have HW2 := Lib.hid hW2
      have HWX3 := Lib.hid (hX.trans hW2x)
      clear hW2 hW2x hG0 hb3 hz3 hX HAFT x3 hW2s
      have HO := Lib.hid ho
      clear ho
      go_wp2_with fail
      rw [HW2.out]
      simp only [HO.out]
      clear d0 d6
      go_loopw [31] (fun iv wr => ∃ k : Nat, k ≤ t.ks.length ∧ iv = .int .i64 k ∧ Hid (GrowK w o t (.slice A0 n0 c0) (.slice A n1 c1) (.slice K t.ks.length c) (.mk 4 0 Pl.zero []) (.slice none 0 0) (.slice none 0 0) ((t.ks.take k).map Mx.not) wr)) (fun iv _ => t.ks.length - (intOf iv).toNat)
      case atStart => exact ⟨0, Nat.zero_le _, rfl, HG0⟩
      case round =>
        obtain ⟨k, hk, rfl, HG⟩ := hrel
        by_cases hlt : k < t.ks.length
        · have hln : ((t.ks.take k).map Mx.not).length = k := by rw [List.length_map, List.length_take]; omega
          obtain ⟨AV, cv, hv6, hcv1, hcv2, hnext⟩ := HG.out.step (by omega)
          rw [hln] at hv6 hcv1 hnext
          obtain ⟨hxw, ⟨hbo, hbs⟩, hbx, -⟩ := HG.out
          obtain ⟨ad, B0, m0, d0, B1, m1, d1, K2, n2, c2, hA, hadb, hnd, hkt⟩ := MxsAt.kid H4.out k hlt
          subst hA
          obtain ⟨e0, e1, e2, e3, e4, e5, e6⟩ := hnd.ext hxw (by rw [block_of_add]; exact hadb)
          have hsz := HSZ.out k hlt
          obtain ⟨W3, hW3⟩ : ∃ W3, wr.alloc (.cells #[.int .i64 t.ks[k].kind, .int .i64 t.ks[k].rel, .int .i64 t.ks[k].p.lv, .bool t.ks[k].p.neg, .slice B0 m0 d0, .slice B1 m1 d1, .slice K2 n2 c2] 45) = W3 := ⟨_, rfl⟩
          have hx3 : Ext wr W3 := by rw [← hW3]; exact (Ext.refl wr).alloc _
          have hs3 : W3.heap.size = wr.heap.size + 1 := by rw [← hW3]; simp
          have HC : Hid (Calls Tryz.prog 51 #[.agg #[.int .i64 t.ks[k].kind, .int .i64 t.ks[k].rel, .int .i64 t.ks[k].p.lv, .bool t.ks[k].p.neg, .slice B0 m0 d0, .slice B1 m1 d1, .slice K2 n2 c2]] W3.drew (RetMx (fun b => W3.drew.heap.size ≤ b) t.ks[k].not W3.drew)) :=
            IH.out q t.ks[k] _ W3.drew (by omega) (by omega) (eachM_mem HSM.out (List.getElem_mem hlt)) (hkt.ext (hxw.trans hx3.drew))
          have HNEXT := Lib.hid hnext
          have HX3 := Lib.hid hx3
          have hbk : Box7 W3 wr.heap.size t.ks[k] (.slice B0 m0 d0) (.slice B1 m1 d1) (.slice K2 n2 c2) := by rw [← hW3]; exact Box7.new wr t.ks[k] _ _ _ _
          obtain ⟨f0, f1, f2, f3, f4, f5, f6⟩ := hbk
          have hv6' : W3.cell? ⟨o, 6, none⟩ = some (.slice AV k cv) := (hx3.cell (p := ⟨o, 6, none⟩) (by show o < _; omega)).trans hv6
          have HTK : Hid ((t.ks.take (k + 1)).map Mx.not = (t.ks.take k).map Mx.not ++ [t.ks[k].not]) := by
            have : (t.ks.take (k + 1)).map Mx.not = (t.ks.take k).map Mx.not ++ [t.ks[k].not] := by rw [List.take_succ_eq_append_getElem hlt, List.map_append]; rfl
            exact this
          have HB3 : Hid (wr.heap.size < W3.heap.size) := Lib.hid (by omega)
          have HBS : Hid (w.heap.size + 1 < o ∧ o + 1 ≤ wr.heap.size) := Lib.hid ⟨hbo, hbs⟩
          clear hnext hxw hbx hnd hkt hadb hsz hln hx3 hs3
          generalize t.ks[k].not = tk at *
          go_upto_region 12 with fail
          clear e0 e1 e2 e3 e4 e5 e6 hW3 hv6
          go_region_law (first
            | (go_simp
               go_at_call 51
               refine HC.out.mono ?_
               rintro e w3 ⟨v3, rfl, t3, x3⟩
               have y3 : Ext W3 w3 := Ext.trans ((Ext.refl W3).drew) x3
               have y4 : Ext wr w3 := HX3.out.trans y3
               obtain ⟨C0, j0, f0, C1, j1, f1, C2, f2, rfl, -⟩ := id t3.open_
               obtain ⟨AV', cv', w4, hrun, h6, hf6, hgn⟩ := HNEXT.out w3 _ _ _ _ _ _ _ _ _ _ 43 y4 (t3.mono (fun b hb => by have := HB3.out; have : W3.heap.size ≤ b := hb; omega))
               have HGN := Lib.hid hgn
               have g6 : w3.cell? ⟨o, 6, none⟩ = some (.slice AV k cv) := (y3.cell (p := ⟨o, 6, none⟩) (by have := HB3.out; have := HBS.out; show o < _; omega)).trans hv6'
               have hs3 : o < w3.heap.size := by have := y3.size; have := HB3.out; have := HBS.out; omega
               unfold mxV
               clear hgn t3 x3 y3 y4)
            | (refine step_append_run rfl (.tmp 36) (.tmp 39) 43 43 rfl _ _ _ _ (by simp [Act.eval, Act.put]) (by simp [Act.eval, Act.put]) hrun ?_))
          all_goals
            have hgn2 := HGN.out
            rw [← HTK.out] at hgn2
            have HN := Lib.hid hgn2
            clear hgn2 HGN hrun h6 hf6 g6 hs3 HNEXT HC HTK
            go_wp2_with fail
            go_roundw
            case rel => exact ⟨k + 1, by omega, by go_num, HN⟩
            case measure => simp [intOf]; omega
        · have hke : k = t.ks.length := by omega
          subst hke
          have hg := HG.out
          rw [List.take_length] at hg
          obtain ⟨AV, cv, ⟨x0, x1, x2, x3, x4, x5, x6⟩, hz, hm⟩ := hg.fin (q := fun b => o + 1 ≤ b) (Pl.zero_v wr _ none 0 (by omega)) (fun _ h => h)
          have hlm : (t.ks.map Mx.not).length = t.ks.length := List.length_map _
          rw [hlm] at hm x6
          have hf := close_mx (m := .mk 4 0 Pl.zero (t.ks.map Mx.not)) (q' := fun b => w.heap.size ≤ b) hg.1 (Nat.le_succ _) hz hm (fun b _ hb => by have hb : o + 1 ≤ b := hb; have := hg.2.1.1; exact ⟨by omega, by omega⟩)
          have HF := Lib.hid (RetMx.congr HNR.out hf)
          obtain ⟨⟨z0, z1, z2, z3, z4, z5, z6⟩, zf⟩ := hz
          replace x0 : wr.cell? ⟨o, 0, none⟩ = some (.int .i64 4) := x0
          replace x1 : wr.cell? ⟨o, 1, none⟩ = some (.int .i64 0) := x1
          replace x2 : wr.cell? ⟨o, 2, none⟩ = some (.int .i64 0) := x2
          replace x3 : wr.cell? ⟨o, 3, none⟩ = some (.bool false) := x3
          replace z0 : wr.cell? ⟨w.heap.size + 1, 0, none⟩ = some (.int .i64 0) := z0
          replace z1 : wr.cell? ⟨w.heap.size + 1, 1, none⟩ = some (.int .i64 0) := z1
          replace z2 : wr.cell? ⟨w.heap.size + 1, 2, none⟩ = some (.int .i64 0) := z2
          replace z3 : wr.cell? ⟨w.heap.size + 1, 3, none⟩ = some (.bool false) := z3
          clear hf hm hg HG HG0 hlm HNR
          go_wp2_with fail
          exact bodyPost_ret (v := mxV (.mk 4 0 Pl.zero (t.ks.map Mx.not)) (.slice none 0 0) (.slice none 0 0) (.slice AV t.ks.length cv)) (by simp [results, Tryz.results51, go_sem, z0, z1, z2, z3, z4, z5, z6, mxV, Mx.kind, Mx.rel, Mx.p, Pl.zero, Pl.lv, Pl.neg]) rfl HF.out
    · rw [k4] at hnr
      have HNR : Hid (t.not = .mk 3 0 Pl.zero (t.ks.map Mx.not)) := hnr
      have hkn : kindN t.kind = 4 := by unfold kindN; split <;> omega
      rw [hkn] at hkind
      have HKIND := Lib.hid hkind
      have KN := Lib.hid k4
      clear hkind hkn hnr k4
      go_wp2_with fail
      refine (HKIND.out _).mono ?_
      rintro e w3 ⟨rfl, x3⟩
      clear b0 b1 b2 b3 b4 b5 b6 z0 z1 z2 z3 z4 z5 z6 zf hW HKIND
      obtain ⟨hX, hs3, hb3, hz3⟩ := HAFT.out w3 x3
      obtain ⟨o, ho⟩ : ∃ o, w3.heap.size = o := ⟨_, rfl⟩
      have ho1 : w.heap.size + 1 < o := by omega
      obtain ⟨W2, hW2⟩ : ∃ W2, w3.alloc (.cells #[.int .i64 3, .int .i64 0, .int .i64 0, .bool false, .slice none 0 0, .slice none 0 0, .slice none 0 0] 45) = W2 := ⟨_, rfl⟩
      have hW2x : Ext w3 W2 := by rw [← hW2]; exact (Ext.refl w3).alloc _
      have hW2s : W2.heap.size = o + 1 := by rw [← hW2]; simp; omega
      have hG0 : GrowK w o t (.slice A0 n0 c0) (.slice A n1 c1) (.slice K t.ks.length c) (.mk 3 0 Pl.zero []) (.slice none 0 0) (.slice none 0 0) [] W2 := by
        refine ⟨hX.trans hW2x, ⟨ho1, by omega⟩, hb3.ext hW2x (by omega), hz3.ext hW2x (by omega), _, ⟨?_, fun i => ?_⟩, MRow.nil _ _⟩
        · have hb := Box7.new w3 (.mk 3 0 Pl.zero []) (.slice none 0 0) (.slice none 0 0) (.slice none 0 0) 45
          rw [ho] at hb
          rw [← hW2]; exact hb
        · rw [← hW2, ← ho]; simp [go_sem]
      have HG0 := Lib.hid hG0
      have d0 : w3.cell? ⟨w.heap.size, 0, none⟩ = some (.int .i64 t.kind) := hb3.1
      rw [KN.out] at d0
      have d6 : (w3.alloc (.cells #[.int .i64 3, .int .i64 0, .int .i64 0, .bool false, .slice none 0 0, .slice none 0 0, .slice none 0 0] 45)).cell? ⟨w.heap.size, 6, none⟩ = some (.slice K t.ks.length c) := by rw [hW2]; exact (hW2x.cell (p := ⟨w.heap.size, 6, none⟩) (by show w.heap.size < _; omega)).trans hb3.2.2.2.2.2.2
      have HW2 := Lib.hid hW2
      have HWX3 := Lib.hid (hX.trans hW2x)
      clear hW2 hW2x hG0 hb3 hz3 hX HAFT x3 hW2s
      have HO := Lib.hid ho
      clear ho
      go_wp2_with fail
      rw [HW2.out]
      simp only [HO.out]
      clear d0 d6
      go_loopw [31] (fun iv wr => ∃ k : Nat, k ≤ t.ks.length ∧ iv = .int .i64 k ∧ Hid (GrowK w o t (.slice A0 n0 c0) (.slice A n1 c1) (.slice K t.ks.length c) (.mk 3 0 Pl.zero []) (.slice none 0 0) (.slice none 0 0) ((t.ks.take k).map Mx.not) wr)) (fun iv _ => t.ks.length - (intOf iv).toNat)
      case atStart => exact ⟨0, Nat.zero_le _, rfl, HG0⟩
      case round =>
        obtain ⟨k, hk, rfl, HG⟩ := hrel
        by_cases hlt : k < t.ks.length
        · have hln : ((t.ks.take k).map Mx.not).length = k := by rw [List.length_map, List.length_take]; omega
          obtain ⟨AV, cv, hv6, hcv1, hcv2, hnext⟩ := HG.out.step (by omega)
          rw [hln] at hv6 hcv1 hnext
          obtain ⟨hxw, ⟨hbo, hbs⟩, hbx, -⟩ := HG.out
          obtain ⟨ad, B0, m0, d0, B1, m1, d1, K2, n2, c2, hA, hadb, hnd, hkt⟩ := MxsAt.kid H4.out k hlt
          subst hA
          obtain ⟨e0, e1, e2, e3, e4, e5, e6⟩ := hnd.ext hxw (by rw [block_of_add]; exact hadb)
          have hsz := HSZ.out k hlt
          obtain ⟨W3, hW3⟩ : ∃ W3, wr.alloc (.cells #[.int .i64 t.ks[k].kind, .int .i64 t.ks[k].rel, .int .i64 t.ks[k].p.lv, .bool t.ks[k].p.neg, .slice B0 m0 d0, .slice B1 m1 d1, .slice K2 n2 c2] 45) = W3 := ⟨_, rfl⟩
          have hx3 : Ext wr W3 := by rw [← hW3]; exact (Ext.refl wr).alloc _
          have hs3 : W3.heap.size = wr.heap.size + 1 := by rw [← hW3]; simp
          have HC : Hid (Calls Tryz.prog 51 #[.agg #[.int .i64 t.ks[k].kind, .int .i64 t.ks[k].rel, .int .i64 t.ks[k].p.lv, .bool t.ks[k].p.neg, .slice B0 m0 d0, .slice B1 m1 d1, .slice K2 n2 c2]] W3.drew (RetMx (fun b => W3.drew.heap.size ≤ b) t.ks[k].not W3.drew)) :=
            IH.out q t.ks[k] _ W3.drew (by omega) (by omega) (eachM_mem HSM.out (List.getElem_mem hlt)) (hkt.ext (hxw.trans hx3.drew))
          have HNEXT := Lib.hid hnext
          have HX3 := Lib.hid hx3
          have hbk : Box7 W3 wr.heap.size t.ks[k] (.slice B0 m0 d0) (.slice B1 m1 d1) (.slice K2 n2 c2) := by rw [← hW3]; exact Box7.new wr t.ks[k] _ _ _ _
          obtain ⟨f0, f1, f2, f3, f4, f5, f6⟩ := hbk
          have hv6' : W3.cell? ⟨o, 6, none⟩ = some (.slice AV k cv) := (hx3.cell (p := ⟨o, 6, none⟩) (by show o < _; omega)).trans hv6
          have HTK : Hid ((t.ks.take (k + 1)).map Mx.not = (t.ks.take k).map Mx.not ++ [t.ks[k].not]) := by
            have : (t.ks.take (k + 1)).map Mx.not = (t.ks.take k).map Mx.not ++ [t.ks[k].not] := by rw [List.take_succ_eq_append_getElem hlt, List.map_append]; rfl
            exact this
          have HB3 : Hid (wr.heap.size < W3.heap.size) := Lib.hid (by omega)
          have HBS : Hid (w.heap.size + 1 < o ∧ o + 1 ≤ wr.heap.size) := Lib.hid ⟨hbo, hbs⟩
          clear hnext hxw hbx hnd hkt hadb hsz hln hx3 hs3
          generalize t.ks[k].not = tk at *
          go_upto_region 12 with fail
          clear e0 e1 e2 e3 e4 e5 e6 hW3 hv6
          go_region_law (first
            | (go_simp
               go_at_call 51
               refine HC.out.mono ?_
               rintro e w3 ⟨v3, rfl, t3, x3⟩
               have y3 : Ext W3 w3 := Ext.trans ((Ext.refl W3).drew) x3
               have y4 : Ext wr w3 := HX3.out.trans y3
               obtain ⟨C0, j0, f0, C1, j1, f1, C2, f2, rfl, -⟩ := id t3.open_
               obtain ⟨AV', cv', w4, hrun, h6, hf6, hgn⟩ := HNEXT.out w3 _ _ _ _ _ _ _ _ _ _ 43 y4 (t3.mono (fun b hb => by have := HB3.out; have : W3.heap.size ≤ b := hb; omega))
               have HGN := Lib.hid hgn
               have g6 : w3.cell? ⟨o, 6, none⟩ = some (.slice AV k cv) := (y3.cell (p := ⟨o, 6, none⟩) (by have := HB3.out; have := HBS.out; show o < _; omega)).trans hv6'
               have hs3 : o < w3.heap.size := by have := y3.size; have := HB3.out; have := HBS.out; omega
               unfold mxV
               clear hgn t3 x3 y3 y4)
            | (refine step_append_run rfl (.tmp 36) (.tmp 39) 43 43 rfl _ _ _ _ (by simp [Act.eval, Act.put]) (by simp [Act.eval, Act.put]) hrun ?_))
          all_goals
            have hgn2 := HGN.out
            rw [← HTK.out] at hgn2
            have HN := Lib.hid hgn2
            clear hgn2 HGN hrun h6 hf6 g6 hs3 HNEXT HC HTK
            go_wp2_with fail
            go_roundw
            case rel => exact ⟨k + 1, by omega, by go_num, HN⟩
            case measure => simp [intOf]; omega
        · have hke : k = t.ks.length := by omega
          subst hke
          have hg := HG.out
          rw [List.take_length] at hg
          obtain ⟨AV, cv, ⟨x0, x1, x2, x3, x4, x5, x6⟩, hz, hm⟩ := hg.fin (q := fun b => o + 1 ≤ b) (Pl.zero_v wr _ none 0 (by omega)) (fun _ h => h)
          have hlm : (t.ks.map Mx.not).length = t.ks.length := List.length_map _
          rw [hlm] at hm x6
          have hf := close_mx (m := .mk 3 0 Pl.zero (t.ks.map Mx.not)) (q' := fun b => w.heap.size ≤ b) hg.1 (Nat.le_succ _) hz hm (fun b _ hb => by have hb : o + 1 ≤ b := hb; have := hg.2.1.1; exact ⟨by omega, by omega⟩)
          have HF := Lib.hid (RetMx.congr HNR.out hf)
          obtain ⟨⟨z0, z1, z2, z3, z4, z5, z6⟩, zf⟩ := hz
          replace x0 : wr.cell? ⟨o, 0, none⟩ = some (.int .i64 3) := x0
          replace x1 : wr.cell? ⟨o, 1, none⟩ = some (.int .i64 0) := x1
          replace x2 : wr.cell? ⟨o, 2, none⟩ = some (.int .i64 0) := x2
          replace x3 : wr.cell? ⟨o, 3, none⟩ = some (.bool false) := x3
          replace z0 : wr.cell? ⟨w.heap.size + 1, 0, none⟩ = some (.int .i64 0) := z0
          replace z1 : wr.cell? ⟨w.heap.size + 1, 1, none⟩ = some (.int .i64 0) := z1
          replace z2 : wr.cell? ⟨w.heap.size + 1, 2, none⟩ = some (.int .i64 0) := z2
          replace z3 : wr.cell? ⟨w.heap.size + 1, 3, none⟩ = some (.bool false) := z3
          clear hf hm hg HG HG0 hlm HNR
          go_wp2_with fail
          exact bodyPost_ret (v := mxV (.mk 3 0 Pl.zero (t.ks.map Mx.not)) (.slice none 0 0) (.slice none 0 0) (.slice AV t.ks.length cv)) (by simp [results, Tryz.results51, go_sem, z0, z1, z2, z3, z4, z5, z6, mxV, Mx.kind, Mx.rel, Mx.p, Pl.zero, Pl.lv, Pl.neg]) rfl HF.out
  · have hnr := HNRM.out
    rw [if_neg k1, if_neg k2, if_neg k34] at hnr
    have HNR := Lib.hid hnr
    have hkn : kindN t.kind = 0 := by unfold kindN; split <;> omega
    rw [hkn] at hkind
    have HKIND := Lib.hid hkind
    clear hkind hkn k1 k2 k34 hnr HNRM
    go_wp2_with fail
    refine (HKIND.out _).mono ?_
    rintro e w3 ⟨rfl, x3⟩
    clear b0 b1 b2 b3 b4 b5 b6 z0 z1 z2 z3 z4 z5 z6 zf hW HKIND
    obtain ⟨hX, hs3, hb3, hz3⟩ := HAFT.out w3 x3
    have HF := Lib.hid (RetMx.congr HNR.out (close_mx (q' := fun b => w.heap.size ≤ b) hX (Nat.le_succ _) hz3 (nil_mx w3 (fun _ => False) 1 0) (fun b _ h => h.elim)))
    obtain ⟨⟨z0, z1, z2, z3, z4, z5, z6⟩, zf⟩ := hz3
    simp only [Mx.kind, Mx.rel, Mx.p, Pl.zero, Pl.lv, Pl.neg] at z0 z1 z2 z3
    clear hb3 hX HAFT HNR x3
    go_wp2_with fail
    exact bodyPost_ret (v := mxV (.mk 1 0 Pl.zero []) (.slice none 0 0) (.slice none 0 0) (.slice none 0 0)) (by simp [results, Tryz.results51, go_sem, z0, z1, z2, z3, z4, z5, z6, mxV, Mx.kind, Mx.rel, Mx.p, Pl.zero, Pl.lv, Pl.neg]) rfl HF.out
/-- Canonical, and not too big. -/
def CanN (p : Pl) : Prop := p.Can ∧ p.sz ≤ 1099511627776 ∧ p.dm ≤ 1099511627776
theorem pnot_can {q : Nat → Prop} (t : Mx) (v : Value) (w : World) (hbig : t.sz ≤ 1000000) (hsm : t.each CanN) (h : MxV w q t v) : Calls Tryz.prog 51 #[v] w (RetMx (fun b => w.heap.size ≤ b) t.not w) :=
  pnot_ih (fun p h => by rw [Pl.nf_of_can h.1]; exact h.2.1) (fun _ _ _ v h hb => by rw [Pl.nf_of_can hb.1]; exact rNormal_can v h hb.1 hb.2.1 (by have := hb.2.2; omega)) (t.sz + 1) q t v w (Nat.lt_succ_self _) hbig hsm h
end Go.Proofs.YtkbpnppiadaibaaGreatDoor
