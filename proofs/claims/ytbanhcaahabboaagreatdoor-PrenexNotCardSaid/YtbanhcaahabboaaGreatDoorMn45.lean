/- Layer 38: a matrix in the making whose other fields are given. -/
import Derived.Test.YtbanhcaahabboaaGreatDoorMn28
import Derived.Test.YtbanhcaahabboaaGreatDoorMn30
import Derived.Test.YtbanhcaahabboaaGreatDoorMn31
import Derived.Test.YtbanhcaahabboaaGreatDoorMn34
import Derived.Test.YtbanhcaahabboaaGreatDoorMn35
import Derived.Deep.RegionLaw
set_option linter.unusedSimpArgs false
set_option linter.unusedVariables false

namespace Go.Proofs.YtbanhcaahabboaaGreatDoor
open Go.RowKit

/-- A matrix of these parts is in the making. -/
def GrowK (w : World) (o : Nat) (m : Mx) (s A K : Value) (mo : Mx) (so Ao : Value) (l : List Mx) (wr : World) : Prop :=
  Ext w wr ∧ (w.heap.size + 1 < o ∧ o + 1 ≤ wr.heap.size) ∧ Box7 wr w.heap.size m s A K ∧ Zero7 wr (w.heap.size + 1) ∧ ∃ ov, (Box7 wr (o) mo so Ao ov ∧ ∀ i, wr.frozen? ⟨o, i, none⟩ = false) ∧ MRow (o + 1) wr ov l
theorem GrowK.step {w : World} {o : Nat} {m : Mx} {s A K : Value} {mo : Mx} {so Ao : Value} {l : List Mx} {wr : World} (h : GrowK w o m s A K mo so Ao l wr) (hlen : l.length ≤ 1000000) : ∃ AV cv, wr.cell? ⟨o, 6, none⟩ = some (.slice AV l.length cv) ∧ l.length ≤ cv ∧ cv ≤ 9223372036854775807 ∧
    ∀ (w3 : World) (x : Mx) (A0 A1 K1 : Option Addr) (n0 c0 n1 c1 n2 c2 : Nat) (ty : TypeId), Ext wr w3 → MxV w3 (fun b => wr.heap.size ≤ b) x (mxV x (.slice A0 n0 c0) (.slice A1 n1 c1) (.slice K1 n2 c2)) → ∃ AV' cv' w4,
      (Builtin.append_ #[32, 32] ty #[.slice AV l.length cv, .slice (some ⟨w3.heap.size, 0, none⟩) 1 1]).run Tryz.prog (w3.alloc (.cells #[.int .i64 x.kind, .int .i64 x.rel, .int .i64 x.p.lv, .bool x.p.neg, .slice A0 n0 c0, .slice A1 n1 c1, .slice K1 n2 c2] 34)) = .ok (.slice AV' (l.length + 1) cv') w4 ∧
      w4.cell? ⟨o, 6, none⟩ = some (.slice AV l.length cv) ∧ w4.frozen? ⟨o, 6, none⟩ = false ∧ GrowK w o m s A K mo so Ao (l ++ [x]) (w4.setCell ⟨o, 6, none⟩ (.slice AV' (l.length + 1) cv')) := by
  obtain ⟨hx, ⟨ho, hb⟩, hbx, hz, ov, ⟨hO, hf⟩, hk⟩ := h
  obtain ⟨AV, cv, rfl, hc1, hc2⟩ := hk.len
  refine ⟨AV, cv, hO.2.2.2.2.2.2, hc1, hc2, ?_⟩
  intro w3 x A0 A1 K1 n0 c0 n1 c1 n2 c2 ty h3 ht
  have hs3 := h3.size
  have hown : ∀ R, (Value.slice AV l.length cv).ownBlock = some R → o + 1 ≤ R ∧ R < wr.heap.size := fun R hR => hk.own hR
  obtain ⟨v4, w4, hrun, hgb, hnat, hk4⟩ := hk.step h3 hb ht hlen ty
  obtain ⟨AV', cv', rfl, hc1', hc2'⟩ := hk4.len
  have el : (l ++ [x]).length = l.length + 1 := by simp
  rw [el] at hrun hk4
  have hblk : ∀ i, i < o + 1 → w4.heap[i]? = wr.heap[i]? := fun i hi => (World.grownBy.block hgb i (by omega) (fun e => by have := hown i e.symm; omega)).trans (h3.below.block i (by omega))
  have hO4 : Box7 w4 (o) mo so Ao (.slice AV l.length cv) := hO.turn (hblk _ (by omega))
  have hf4 : ∀ i, w4.frozen? ⟨o, i, none⟩ = false := fun i => (World.frozen?_of_block (a := ⟨o, i, none⟩) (hblk (o) (by omega))).trans (hf i)
  have hs4 := hgb.size
  have hx4 : Ext w w4 := Below.grown (hx.trans h3).below hgb (by omega) (fun b e => by have := hown b e; omega)
  have oo : ∀ i, i ≠ 6 → (w4.setCell ⟨o, 6, none⟩ (.slice AV' (l.length + 1) cv')).cell? ⟨o, i, none⟩ = w4.cell? ⟨o, i, none⟩ := fun i hi => World.cell?_setCell_other _ _ _ _ (by intro e; injection e; omega)
  have far : ∀ i, i ≠ o → (w4.setCell ⟨o, 6, none⟩ (.slice AV' (l.length + 1) cv')).heap[i]? = w4.heap[i]? := fun i hi => Below.heap_setCell w4 _ _ i hi
  obtain ⟨p0, p1, p2, p3, p4, p5, p6⟩ := hO4
  refine ⟨AV', cv', w4, hrun, p6, hf4 6, ?_, ⟨ho, ?_⟩, ?_, ⟨?_, fun i => ?_⟩, _, ⟨⟨(oo 0 (by omega)).trans p0, (oo 1 (by omega)).trans p1, (oo 2 (by omega)).trans p2, (oo 3 (by omega)).trans p3, (oo 4 (by omega)).trans p4, (oo 5 (by omega)).trans p5, World.cell?_setCell_same _ _ _ p6⟩, fun i => by simpa [go_sem] using hf4 i⟩, ?_⟩
  · exact hx4.setCell (by show w.heap.size ≤ o; omega) _
  · simp; omega
  · exact hbx.turn ((far _ (by omega)).trans (hblk _ (by omega)))
  · exact hz.1.turn ((far _ (by omega)).trans (hblk _ (by omega)))
  · exact (World.frozen?_of_block (a := ⟨w.heap.size + 1, i, none⟩) ((far (w.heap.size + 1) (by omega)).trans (hblk (w.heap.size + 1) (by omega)))).trans (hz.2 i)
  · exact hk4.turn (by simp) (fun b hb' hlt => far b (by omega)) (fun v ds hv => hv.box p6 rfl _)
/-- The matrix is made: it is read out of its cells. -/
theorem GrowK.fin {w : World} {o : Nat} {m : Mx} {s A K : Value} {mo : Mx} {so Ao : Value} {l : List Mx} {wr : World} (h : GrowK w o m s A K mo so Ao l wr) {q : Nat → Prop} (hp : PlV wr q mo.p (plV mo.p so Ao)) (hq : ∀ b, o + 1 ≤ b → q b) : ∃ AV cv, Box7 wr (o) mo so Ao (.slice AV l.length cv) ∧ Zero7 wr (w.heap.size + 1) ∧ MxV wr q (.mk mo.kind mo.rel mo.p l) (mxV (.mk mo.kind mo.rel mo.p l) so Ao (.slice AV l.length cv)) := by
  obtain ⟨hx, ⟨ho, hb⟩, hbx, hz, ov, ⟨hO, hf⟩, hk⟩ := h
  obtain ⟨AV, cv, rfl, hc1, hc2⟩ := hk.len
  exact ⟨AV, cv, hO, hz, MxV.mk (t := .mk mo.kind mo.rel mo.p l) hp hc1 hc2 (MxsAt.turn (Nat.le_refl _) (fun _ _ h => h) (fun b _ h => ⟨hq b h, rfl⟩) l AV 0 hk.at_)⟩
end Go.Proofs.YtbanhcaahabboaaGreatDoor

/- Layer 38: prenex.Not: the negation of a matrix. -/
namespace Go.Proofs.YtbanhcaahabboaaGreatDoor
open Go.RowKit

/-- A polynomial that is not too big to be brought into its normal form. -/
def BigN (p : Pl) : Prop := p.sz ≤ 1073741824 ∧ p.dm ≤ 1099511627776 ∧ p.nf.sz ≤ 1099511627776
def PNotIH (n : Nat) : Prop := ∀ (q : Nat → Prop) (t : Mx) (v : Value) (w : World), t.sz < n → t.sz ≤ 1000000 → t.each BigN → MxV w q t v → Calls Tryz.prog 15 #[v] w (RetMx (fun b => w.heap.size ≤ b) t.not w)

set_option maxRecDepth 100000 in
set_option maxHeartbeats 8000000 in
theorem pnot_ih (n : Nat) : PNotIH n := by
  induction n with
  | zero => intro q t v w h; omega
  | succ n ih =>
  intro q t v w hn hbig hsm h
  have hkl : t.ks.length ≤ 1000000 := by have := t.ks_len; omega
  have IH := Lib.hid ih
  have HSZ := Lib.hid (fun k hk => t.kid_le k hk)
  have HSM := Lib.hid (Mx.each_ks hsm)
  have hps := Mx.each_p hsm
  unfold BigN at hps
  obtain ⟨A0, n0, c0, A, n1, c1, K, c, rfl, hp, hl1, hl2, h4⟩ := h.open_
  have HP := Lib.hid hp
  have H4 := Lib.hid h4
  have hkind := fun w' : World => kind_any (w := w') t (.slice A0 n0 c0) (.slice A n1 c1) (.slice K t.ks.length c)
  have HNRM : Hid (t.not = if t.kind = 1 then .mk 0 0 Pl.zero [] else if t.kind = 2 then .mk 2 (cmpl (relM t.rel)) t.p.nf [] else if t.kind = 3 ∨ t.kind = 4 then .mk (7 - t.kind) 0 Pl.zero (t.ks.map Mx.not) else .mk 1 0 Pl.zero []) := t.not_eq
  obtain ⟨W, hW⟩ : ∃ W, (w.alloc (.cells #[.int .i64 t.kind, .int .i64 t.rel, .int .i64 t.p.lv, .bool t.p.neg, .slice A0 n0 c0, .slice A n1 c1, .slice K t.ks.length c] 34)).alloc (.cells #[.int .i64 0, .int .i64 0, .int .i64 0, .bool false, .slice none 0 0, .slice none 0 0, .slice none 0 0] 34) = W := ⟨_, rfl⟩
  have hWx : Ext w W := by rw [← hW]; exact ((Ext.refl w).alloc _).alloc _
  have hWs : W.heap.size = w.heap.size + 1 + 1 := by rw [← hW]; simp
  have hbx : Box7 W w.heap.size t (.slice A0 n0 c0) (.slice A n1 c1) (.slice K t.ks.length c) := by rw [← hW]; exact (Box7.new w t _ _ _ _).ext ((Ext.refl _).alloc _) (by simp)
  have hz : Zero7 W (w.heap.size + 1) := by
    have := Zero7.new (w.alloc (.cells #[.int .i64 t.kind, .int .i64 t.rel, .int .i64 t.p.lv, .bool t.p.neg, .slice A0 n0 c0, .slice A n1 c1, .slice K t.ks.length c] 34)) 34
    rw [hW] at this
    simpa using this
  have HWX := Lib.hid hWx
  have HBX := Lib.hid hbx
  have HZ := Lib.hid hz
  obtain ⟨b0, b1, b2, b3, b4, b5, b6⟩ := id hbx
  obtain ⟨⟨z0, z1, z2, z3, z4, z5, z6⟩, zf⟩ := id hz
  simp only [Mx.kind, Mx.rel, Mx.p, Pl.zero, Pl.lv, Pl.neg] at z0 z1 z2 z3
  have HAFT : Hid (∀ w3 : World, Ext W w3 → Ext w w3 ∧ w.heap.size + 1 + 1 ≤ w3.heap.size ∧ Box7 w3 w.heap.size t (.slice A0 n0 c0) (.slice A n1 c1) (.slice K t.ks.length c) ∧ Zero7 w3 (w.heap.size + 1)) :=
    Lib.hid (fun w3 hx => ⟨HWX.out.trans hx, by have := hx.size; omega, HBX.out.ext hx (by omega), HZ.out.ext hx (by omega)⟩)
  clear h ih h4 hWx hbx hz hp hsm HBX HZ
  unfold mxV at hkind
  unfold mxV
  go_enter Tryz.func15, Tryz.ntmps15
  by_cases k1 : t.kind = 1
  · have hnr := HNRM.out
    rw [if_pos k1] at hnr
    have HNR := Lib.hid hnr
    have hkn : kindN t.kind = 1 := by unfold kindN; split <;> omega
    rw [hkn] at hkind
    have HKIND := Lib.hid hkind
    clear hkind hkn k1 hnr HNRM
    go_wp2_with fail
    refine (HKIND.out _).mono ?_
    rintro e w3 ⟨rfl, x3⟩
    clear b0 b1 b2 b3 b4 b5 b6 z0 z1 z2 z3 z4 z5 z6 zf hW HKIND
    obtain ⟨hX, hs3, hb3, hz3⟩ := HAFT.out w3 x3
    have HF := Lib.hid (RetMx.congr HNR.out (close_mx (q' := fun b => w.heap.size ≤ b) hX (Nat.le_succ _) hz3 (nil_mx w3 (fun _ => False) 0 0) (fun b _ h => h.elim)))
    obtain ⟨⟨z0, z1, z2, z3, z4, z5, z6⟩, zf⟩ := hz3
    simp only [Mx.kind, Mx.rel, Mx.p, Pl.zero, Pl.lv, Pl.neg] at z0 z1 z2 z3
    clear hb3 hX HAFT HNR x3
    go_wp2_with fail
    exact bodyPost_ret (v := mxV (.mk 0 0 Pl.zero []) (.slice none 0 0) (.slice none 0 0) (.slice none 0 0)) (by simp [results, Tryz.results15, go_sem, z0, z1, z2, z3, z4, z5, z6, mxV, Mx.kind, Mx.rel, Mx.p, Pl.zero, Pl.lv, Pl.neg]) rfl HF.out
  by_cases k2 : t.kind = 2
  · have hnr := HNRM.out
    rw [if_neg k1, if_pos k2] at hnr
    have HNR := Lib.hid hnr
    have hnf : t.p.nf.sz ≤ 1099511627776 := by
      exact hps.2.2
    have HCALL : Hid (∀ w', Ext W w' → Calls Tryz.prog 55 #[plV t.p (.slice A0 n0 c0) (.slice A n1 c1)] w' (RetPl (fun b => w'.heap.size ≤ b) t.p.nf w')) := Lib.hid (fun w' hx => rNormal_any t.p _ ((HP.out.ext HWX.out).ext hx) (by omega) hnf (by omega))
    have HREL := Lib.hid (fun w' : World => relation_any t.rel w')
    have HCMP := Lib.hid (fun w' : World => compl_any (relM t.rel) w')
    unfold plV at HCALL
    have hkn : kindN t.kind = 2 := by unfold kindN; split <;> omega
    rw [hkn] at hkind
    have HKIND := Lib.hid hkind
    clear k1 k2 hnr hnf HNRM hkind hkn
    go_wp2_with fail
    refine (HKIND.out _).mono ?_
    rintro e w3 ⟨rfl, x3⟩
    clear b0 b1 b2 b3 b4 b5 b6 z0 z1 z2 z3 z4 z5 z6 zf hW HKIND
    obtain ⟨hX, hs3, hb3, hz3⟩ := HAFT.out w3 x3
    have HX := Lib.hid hX
    have HZ3 := Lib.hid hz3
    have HX3 := Lib.hid x3
    have HK : Hid (∀ w4 C0 j0 f0 C1 n1 f1, PlV w4 (fun b => w3.heap.size ≤ b) t.p.nf (plV t.p.nf (.slice C0 j0 f0) (.slice C1 n1 f1)) → Ext w3 w4 → (w4.cell? ⟨w.heap.size + 1, 0, none⟩ = some (.int .i64 0) ∧ w4.cell? ⟨w.heap.size + 1, 1, none⟩ = some (.int .i64 0) ∧ w4.cell? ⟨w.heap.size + 1, 2, none⟩ = some (.int .i64 0) ∧ w4.cell? ⟨w.heap.size + 1, 3, none⟩ = some (.bool false) ∧ w4.cell? ⟨w.heap.size + 1, 4, none⟩ = some (.slice none 0 0) ∧ w4.cell? ⟨w.heap.size + 1, 5, none⟩ = some (.slice none 0 0) ∧ w4.cell? ⟨w.heap.size + 1, 6, none⟩ = some (.slice none 0 0)) ∧ (∀ i, w4.frozen? ⟨w.heap.size + 1, i, none⟩ = false) ∧ RetMx (fun b => w.heap.size ≤ b) t.not w (.returned (mxV (.mk 2 (cmpl (relM t.rel)) t.p.nf []) (.slice C0 j0 f0) (.slice C1 n1 f1) (.slice none 0 0))) (((((((w4.setCell ⟨w.heap.size + 1, 0, none⟩ (.int .i64 2)).setCell ⟨w.heap.size + 1, 1, none⟩ (.int .i64 (cmpl (relM t.rel)))).setCell ⟨w.heap.size + 1, 2, none⟩ (.int .i64 t.p.nf.lv)).setCell ⟨w.heap.size + 1, 3, none⟩ (.bool t.p.nf.neg)).setCell ⟨w.heap.size + 1, 4, none⟩ (.slice C0 j0 f0)).setCell ⟨w.heap.size + 1, 5, none⟩ (.slice C1 n1 f1)).setCell ⟨w.heap.size + 1, 6, none⟩ (.slice none 0 0))) := Lib.hid (by
      intro w4 C0 j0 f0 C1 n1 f1 hpl hx
      have hz4 : Zero7 w4 (w.heap.size + 1) := HZ3.out.ext hx (by omega)
      obtain ⟨⟨y0, y1, y2, y3, y4, y5, y6⟩, yf⟩ := id hz4
      refine ⟨⟨y0, y1, y2, y3, y4, y5, y6⟩, yf, RetMx.congr (show t.not = .mk 2 (cmpl (relM t.rel)) t.p.nf [] by rw [HNR.out]) ?_⟩
      exact close_mx (m := .mk 2 (cmpl (relM t.rel)) t.p.nf []) (q := fun b => w3.heap.size ≤ b) (HX.out.trans hx) (Nat.le_succ _) hz4 (MxV.mk (t := .mk 2 (cmpl (relM t.rel)) t.p.nf []) (c := 0) hpl (by simp [Mx.ks]) (by omega) (by unfold Mx.ks MxsAt; trivial)) (fun b _ hb => ⟨by omega, by omega⟩))
    obtain ⟨b0, b1, b2, b3, b4, b5, b6⟩ := hb3
    clear hz3 hX HAFT HNR x3
    go_upto_region 5 with fail
    go_region_law (first
      | (go_simp
         go_at_call 58
         refine (HREL.out _).mono ?_
         rintro e v2 ⟨rfl, rfl⟩)
      | (go_simp
         go_at_call 57
         refine (HCMP.out _).mono ?_
         rintro e v2 ⟨rfl, rfl⟩)
      | (go_simp
         go_at_call 55
         refine (HCALL.out _ (Ext.trans HX3.out (Ext.drew (Ext.refl w3)))).mono ?_
         rintro e w4 ⟨v3, rfl, p3, x3⟩
         obtain ⟨C0, j0, f0, C1, f1, rfl, -⟩ := id p3.open_
         have x3' : Ext w3 w4 := Ext.trans (Ext.drew (Ext.refl w3)) x3
         obtain ⟨⟨z0, z1, z2, z3, z4, z5, z6⟩, zf, hfin⟩ := HK.out w4 _ _ _ _ _ _ p3 x3'
         have HF := Lib.hid hfin
         unfold plV
         clear p3 x3 x3' hfin))
    all_goals
      clear HCALL HK
      go_wp2_with fail
      exact bodyPost_ret (v := mxV (.mk 2 (cmpl (relM t.rel)) t.p.nf []) (.slice C0 j0 f0) (.slice C1 t.p.nf.cs.length f1) (.slice none 0 0)) (by simp [results, Tryz.results15, go_sem, z0, z1, z2, z3, z4, z5, z6, mxV, Mx.kind, Mx.rel, Mx.p]) rfl HF.out
  by_cases k34 : t.kind = 3 ∨ t.kind = 4
  · have hnr := HNRM.out
    rw [if_neg k1, if_neg k2, if_pos k34] at hnr
    clear HNRM k1 k2
    rcases k34 with k3 | k4
    · rw [k3] at hnr
      have HNR : Hid (t.not = .mk 4 0 Pl.zero (t.ks.map Mx.not)) := hnr
      have hkn : kindN t.kind = 3 := by unfold kindN; split <;> omega
      rw [hkn] at hkind
      have HKIND := Lib.hid hkind
      have KN := Lib.hid k3
      clear hkind hkn hnr k3
      go_wp2_with fail
      refine (HKIND.out _).mono ?_
      rintro e w3 ⟨rfl, x3⟩
      clear b0 b1 b2 b3 b4 b5 b6 z0 z1 z2 z3 z4 z5 z6 zf hW HKIND
      obtain ⟨hX, hs3, hb3, hz3⟩ := HAFT.out w3 x3
      obtain ⟨o, ho⟩ : ∃ o, w3.heap.size = o := ⟨_, rfl⟩
      have ho1 : w.heap.size + 1 < o := by omega
      obtain ⟨W2, hW2⟩ : ∃ W2, w3.alloc (.cells #[.int .i64 4, .int .i64 0, .int .i64 0, .bool false, .slice none 0 0, .slice none 0 0, .slice none 0 0] 34) = W2 := ⟨_, rfl⟩
      have hW2x : Ext w3 W2 := by rw [← hW2]; exact (Ext.refl w3).alloc _
      have hW2s : W2.heap.size = o + 1 := by rw [← hW2]; simp; omega
      have hG0 : GrowK w o t (.slice A0 n0 c0) (.slice A n1 c1) (.slice K t.ks.length c) (.mk 4 0 Pl.zero []) (.slice none 0 0) (.slice none 0 0) [] W2 := by
        refine ⟨hX.trans hW2x, ⟨ho1, by omega⟩, hb3.ext hW2x (by omega), hz3.ext hW2x (by omega), _, ⟨?_, fun i => ?_⟩, MRow.nil _ _⟩
        · have hb := Box7.new w3 (.mk 4 0 Pl.zero []) (.slice none 0 0) (.slice none 0 0) (.slice none 0 0) 34
          rw [ho] at hb
          rw [← hW2]; exact hb
        · rw [← hW2, ← ho]; simp [go_sem]
      have HG0 := Lib.hid hG0
      have d0 : w3.cell? ⟨w.heap.size, 0, none⟩ = some (.int .i64 t.kind) := hb3.1
      rw [KN.out] at d0
      have d6 : (w3.alloc (.cells #[.int .i64 4, .int .i64 0, .int .i64 0, .bool false, .slice none 0 0, .slice none 0 0, .slice none 0 0] 34)).cell? ⟨w.heap.size, 6, none⟩ = some (.slice K t.ks.length c) := by rw [hW2]; exact (hW2x.cell (p := ⟨w.heap.size, 6, none⟩) (by show w.heap.size < _; omega)).trans hb3.2.2.2.2.2.2
      have HW2 := Lib.hid hW2
      have HWX3 := Lib.hid (hX.trans hW2x)
      clear hW2 hW2x hG0 hb3 hz3 hX HAFT x3 hW2s
      have HO := Lib.hid ho
      clear ho
      go_wp2_with fail
      rw [HW2.out]
      simp only [HO.out]
      clear d0 d6
      go_loopw [31] (fun iv wr => ∃ k : Nat, k ≤ t.ks.length ∧ iv = .int .i64 k ∧ Hid (GrowK w o t (.slice A0 n0 c0) (.slice A n1 c1) (.slice K t.ks.length c) (.mk 4 0 Pl.zero []) (.slice none 0 0) (.slice none 0 0) ((t.ks.take k).map Mx.not) wr)) (fun iv _ => t.ks.length - (intOf iv).toNat)
      case atStart => exact ⟨0, Nat.zero_le _, rfl, HG0⟩
      case round =>
        obtain ⟨k, hk, rfl, HG⟩ := hrel
        by_cases hlt : k < t.ks.length
        · have hln : ((t.ks.take k).map Mx.not).length = k := by rw [List.length_map, List.length_take]; omega
          obtain ⟨AV, cv, hv6, hcv1, hcv2, hnext⟩ := HG.out.step (by omega)
          rw [hln] at hv6 hcv1 hnext
          obtain ⟨hxw, ⟨hbo, hbs⟩, hbx, -⟩ := HG.out
          obtain ⟨ad, B0, m0, d0, B1, m1, d1, K2, n2, c2, hA, hadb, hnd, hkt⟩ := MxsAt.kid H4.out k hlt
          subst hA
          obtain ⟨e0, e1, e2, e3, e4, e5, e6⟩ := hnd.ext hxw (by rw [block_of_add]; exact hadb)
          have hsz := HSZ.out k hlt
          obtain ⟨W3, hW3⟩ : ∃ W3, wr.alloc (.cells #[.int .i64 t.ks[k].kind, .int .i64 t.ks[k].rel, .int .i64 t.ks[k].p.lv, .bool t.ks[k].p.neg, .slice B0 m0 d0, .slice B1 m1 d1, .slice K2 n2 c2] 34) = W3 := ⟨_, rfl⟩
          have hx3 : Ext wr W3 := by rw [← hW3]; exact (Ext.refl wr).alloc _
          have hs3 : W3.heap.size = wr.heap.size + 1 := by rw [← hW3]; simp
          have HC : Hid (Calls Tryz.prog 15 #[.agg #[.int .i64 t.ks[k].kind, .int .i64 t.ks[k].rel, .int .i64 t.ks[k].p.lv, .bool t.ks[k].p.neg, .slice B0 m0 d0, .slice B1 m1 d1, .slice K2 n2 c2]] W3.drew (RetMx (fun b => W3.drew.heap.size ≤ b) t.ks[k].not W3.drew)) :=
            IH.out q t.ks[k] _ W3.drew (by omega) (by omega) (eachM_mem HSM.out (List.getElem_mem hlt)) (hkt.ext (hxw.trans hx3.drew))
          have HNEXT := Lib.hid hnext
          have HX3 := Lib.hid hx3
          have hbk : Box7 W3 wr.heap.size t.ks[k] (.slice B0 m0 d0) (.slice B1 m1 d1) (.slice K2 n2 c2) := by rw [← hW3]; exact Box7.new wr t.ks[k] _ _ _ _
          obtain ⟨f0, f1, f2, f3, f4, f5, f6⟩ := hbk
          have hv6' : W3.cell? ⟨o, 6, none⟩ = some (.slice AV k cv) := (hx3.cell (p := ⟨o, 6, none⟩) (by show o < _; omega)).trans hv6
          have HTK : Hid ((t.ks.take (k + 1)).map Mx.not = (t.ks.take k).map Mx.not ++ [t.ks[k].not]) := by
            have : (t.ks.take (k + 1)).map Mx.not = (t.ks.take k).map Mx.not ++ [t.ks[k].not] := by rw [List.take_succ_eq_append_getElem hlt, List.map_append]; rfl
            exact this
          have HB3 : Hid (wr.heap.size < W3.heap.size) := Lib.hid (by omega)
          have HBS : Hid (w.heap.size + 1 < o ∧ o + 1 ≤ wr.heap.size) := Lib.hid ⟨hbo, hbs⟩
          clear hnext hxw hbx hnd hkt hadb hsz hln hx3 hs3
          generalize t.ks[k].not = tk at *
          go_upto_region 12 with fail
          clear e0 e1 e2 e3 e4 e5 e6 hW3 hv6
          go_region_law (first
            | (go_simp
               go_at_call 15
               refine HC.out.mono ?_
               rintro e w3 ⟨v3, rfl, t3, x3⟩
               have y3 : Ext W3 w3 := Ext.trans ((Ext.refl W3).drew) x3
               have y4 : Ext wr w3 := HX3.out.trans y3
               obtain ⟨C0, j0, f0, C1, j1, f1, C2, f2, rfl, -⟩ := id t3.open_
               obtain ⟨AV', cv', w4, hrun, h6, hf6, hgn⟩ := HNEXT.out w3 _ _ _ _ _ _ _ _ _ _ 32 y4 (t3.mono (fun b hb => by have := HB3.out; have : W3.heap.size ≤ b := hb; omega))
               have HGN := Lib.hid hgn
               have g6 : w3.cell? ⟨o, 6, none⟩ = some (.slice AV k cv) := (y3.cell (p := ⟨o, 6, none⟩) (by have := HB3.out; have := HBS.out; show o < _; omega)).trans hv6'
               have hs3 : o < w3.heap.size := by have := y3.size; have := HB3.out; have := HBS.out; omega
               unfold mxV
               clear hgn t3 x3 y3 y4)
            | (refine step_append_run rfl (.tmp 36) (.tmp 39) 32 32 rfl _ _ _ _ (by simp [Act.eval, Act.put]) (by simp [Act.eval, Act.put]) hrun ?_))
          all_goals
            have hgn2 := HGN.out
            rw [← HTK.out] at hgn2
            have HN := Lib.hid hgn2
            clear hgn2 HGN hrun h6 hf6 g6 hs3 HNEXT HC HTK
            go_wp2_with fail
            go_roundw
            case rel => exact ⟨k + 1, by omega, by go_num, HN⟩
            case measure => simp [intOf]; omega
        · have hke : k = t.ks.length := by omega
          subst hke
          have hg := HG.out
          rw [List.take_length] at hg
          obtain ⟨AV, cv, ⟨x0, x1, x2, x3, x4, x5, x6⟩, hz, hm⟩ := hg.fin (q := fun b => o + 1 ≤ b) (Pl.zero_v wr _ none 0 (by omega)) (fun _ h => h)
          have hlm : (t.ks.map Mx.not).length = t.ks.length := List.length_map _
          rw [hlm] at hm x6
          have hf := close_mx (m := .mk 4 0 Pl.zero (t.ks.map Mx.not)) (q' := fun b => w.heap.size ≤ b) hg.1 (Nat.le_succ _) hz hm (fun b _ hb => by have hb : o + 1 ≤ b := hb; have := hg.2.1.1; exact ⟨by omega, by omega⟩)
          have HF := Lib.hid (RetMx.congr HNR.out hf)
          obtain ⟨⟨z0, z1, z2, z3, z4, z5, z6⟩, zf⟩ := hz
          replace x0 : wr.cell? ⟨o, 0, none⟩ = some (.int .i64 4) := x0
          replace x1 : wr.cell? ⟨o, 1, none⟩ = some (.int .i64 0) := x1
          replace x2 : wr.cell? ⟨o, 2, none⟩ = some (.int .i64 0) := x2
          replace x3 : wr.cell? ⟨o, 3, none⟩ = some (.bool false) := x3
          replace z0 : wr.cell? ⟨w.heap.size + 1, 0, none⟩ = some (.int .i64 0) := z0
          replace z1 : wr.cell? ⟨w.heap.size + 1, 1, none⟩ = some (.int .i64 0) := z1
          replace z2 : wr.cell? ⟨w.heap.size + 1, 2, none⟩ = some (.int .i64 0) := z2
          replace z3 : wr.cell? ⟨w.heap.size + 1, 3, none⟩ = some (.bool false) := z3
          clear hf hm hg HG HG0 hlm HNR
          go_wp2_with fail
          exact bodyPost_ret (v := mxV (.mk 4 0 Pl.zero (t.ks.map Mx.not)) (.slice none 0 0) (.slice none 0 0) (.slice AV t.ks.length cv)) (by simp [results, Tryz.results15, go_sem, z0, z1, z2, z3, z4, z5, z6, mxV, Mx.kind, Mx.rel, Mx.p, Pl.zero, Pl.lv, Pl.neg]) rfl HF.out
    · rw [k4] at hnr
      have HNR : Hid (t.not = .mk 3 0 Pl.zero (t.ks.map Mx.not)) := hnr
      have hkn : kindN t.kind = 4 := by unfold kindN; split <;> omega
      rw [hkn] at hkind
      have HKIND := Lib.hid hkind
      have KN := Lib.hid k4
      clear hkind hkn hnr k4
      go_wp2_with fail
      refine (HKIND.out _).mono ?_
      rintro e w3 ⟨rfl, x3⟩
      clear b0 b1 b2 b3 b4 b5 b6 z0 z1 z2 z3 z4 z5 z6 zf hW HKIND
      obtain ⟨hX, hs3, hb3, hz3⟩ := HAFT.out w3 x3
      obtain ⟨o, ho⟩ : ∃ o, w3.heap.size = o := ⟨_, rfl⟩
      have ho1 : w.heap.size + 1 < o := by omega
      obtain ⟨W2, hW2⟩ : ∃ W2, w3.alloc (.cells #[.int .i64 3, .int .i64 0, .int .i64 0, .bool false, .slice none 0 0, .slice none 0 0, .slice none 0 0] 34) = W2 := ⟨_, rfl⟩
      have hW2x : Ext w3 W2 := by rw [← hW2]; exact (Ext.refl w3).alloc _
      have hW2s : W2.heap.size = o + 1 := by rw [← hW2]; simp; omega
      have hG0 : GrowK w o t (.slice A0 n0 c0) (.slice A n1 c1) (.slice K t.ks.length c) (.mk 3 0 Pl.zero []) (.slice none 0 0) (.slice none 0 0) [] W2 := by
        refine ⟨hX.trans hW2x, ⟨ho1, by omega⟩, hb3.ext hW2x (by omega), hz3.ext hW2x (by omega), _, ⟨?_, fun i => ?_⟩, MRow.nil _ _⟩
        · have hb := Box7.new w3 (.mk 3 0 Pl.zero []) (.slice none 0 0) (.slice none 0 0) (.slice none 0 0) 34
          rw [ho] at hb
          rw [← hW2]; exact hb
        · rw [← hW2, ← ho]; simp [go_sem]
      have HG0 := Lib.hid hG0
      have d0 : w3.cell? ⟨w.heap.size, 0, none⟩ = some (.int .i64 t.kind) := hb3.1
      rw [KN.out] at d0
      have d6 : (w3.alloc (.cells #[.int .i64 3, .int .i64 0, .int .i64 0, .bool false, .slice none 0 0, .slice none 0 0, .slice none 0 0] 34)).cell? ⟨w.heap.size, 6, none⟩ = some (.slice K t.ks.length c) := by rw [hW2]; exact (hW2x.cell (p := ⟨w.heap.size, 6, none⟩) (by show w.heap.size < _; omega)).trans hb3.2.2.2.2.2.2
      have HW2 := Lib.hid hW2
      have HWX3 := Lib.hid (hX.trans hW2x)
      clear hW2 hW2x hG0 hb3 hz3 hX HAFT x3 hW2s
      have HO := Lib.hid ho
      clear ho
      go_wp2_with fail
      rw [HW2.out]
      simp only [HO.out]
      clear d0 d6
      go_loopw [31] (fun iv wr => ∃ k : Nat, k ≤ t.ks.length ∧ iv = .int .i64 k ∧ Hid (GrowK w o t (.slice A0 n0 c0) (.slice A n1 c1) (.slice K t.ks.length c) (.mk 3 0 Pl.zero []) (.slice none 0 0) (.slice none 0 0) ((t.ks.take k).map Mx.not) wr)) (fun iv _ => t.ks.length - (intOf iv).toNat)
      case atStart => exact ⟨0, Nat.zero_le _, rfl, HG0⟩
      case round =>
        obtain ⟨k, hk, rfl, HG⟩ := hrel
        by_cases hlt : k < t.ks.length
        · have hln : ((t.ks.take k).map Mx.not).length = k := by rw [List.length_map, List.length_take]; omega
          obtain ⟨AV, cv, hv6, hcv1, hcv2, hnext⟩ := HG.out.step (by omega)
          rw [hln] at hv6 hcv1 hnext
          obtain ⟨hxw, ⟨hbo, hbs⟩, hbx, -⟩ := HG.out
          obtain ⟨ad, B0, m0, d0, B1, m1, d1, K2, n2, c2, hA, hadb, hnd, hkt⟩ := MxsAt.kid H4.out k hlt
          subst hA
          obtain ⟨e0, e1, e2, e3, e4, e5, e6⟩ := hnd.ext hxw (by rw [block_of_add]; exact hadb)
          have hsz := HSZ.out k hlt
          obtain ⟨W3, hW3⟩ : ∃ W3, wr.alloc (.cells #[.int .i64 t.ks[k].kind, .int .i64 t.ks[k].rel, .int .i64 t.ks[k].p.lv, .bool t.ks[k].p.neg, .slice B0 m0 d0, .slice B1 m1 d1, .slice K2 n2 c2] 34) = W3 := ⟨_, rfl⟩
          have hx3 : Ext wr W3 := by rw [← hW3]; exact (Ext.refl wr).alloc _
          have hs3 : W3.heap.size = wr.heap.size + 1 := by rw [← hW3]; simp
          have HC : Hid (Calls Tryz.prog 15 #[.agg #[.int .i64 t.ks[k].kind, .int .i64 t.ks[k].rel, .int .i64 t.ks[k].p.lv, .bool t.ks[k].p.neg, .slice B0 m0 d0, .slice B1 m1 d1, .slice K2 n2 c2]] W3.drew (RetMx (fun b => W3.drew.heap.size ≤ b) t.ks[k].not W3.drew)) :=
            IH.out q t.ks[k] _ W3.drew (by omega) (by omega) (eachM_mem HSM.out (List.getElem_mem hlt)) (hkt.ext (hxw.trans hx3.drew))
          have HNEXT := Lib.hid hnext
          have HX3 := Lib.hid hx3
          have hbk : Box7 W3 wr.heap.size t.ks[k] (.slice B0 m0 d0) (.slice B1 m1 d1) (.slice K2 n2 c2) := by rw [← hW3]; exact Box7.new wr t.ks[k] _ _ _ _
          obtain ⟨f0, f1, f2, f3, f4, f5, f6⟩ := hbk
          have hv6' : W3.cell? ⟨o, 6, none⟩ = some (.slice AV k cv) := (hx3.cell (p := ⟨o, 6, none⟩) (by show o < _; omega)).trans hv6
          have HTK : Hid ((t.ks.take (k + 1)).map Mx.not = (t.ks.take k).map Mx.not ++ [t.ks[k].not]) := by
            have : (t.ks.take (k + 1)).map Mx.not = (t.ks.take k).map Mx.not ++ [t.ks[k].not] := by rw [List.take_succ_eq_append_getElem hlt, List.map_append]; rfl
            exact this
          have HB3 : Hid (wr.heap.size < W3.heap.size) := Lib.hid (by omega)
          have HBS : Hid (w.heap.size + 1 < o ∧ o + 1 ≤ wr.heap.size) := Lib.hid ⟨hbo, hbs⟩
          clear hnext hxw hbx hnd hkt hadb hsz hln hx3 hs3
          generalize t.ks[k].not = tk at *
          go_upto_region 12 with fail
          clear e0 e1 e2 e3 e4 e5 e6 hW3 hv6
          go_region_law (first
            | (go_simp
               go_at_call 15
               refine HC.out.mono ?_
               rintro e w3 ⟨v3, rfl, t3, x3⟩
               have y3 : Ext W3 w3 := Ext.trans ((Ext.refl W3).drew) x3
               have y4 : Ext wr w3 := HX3.out.trans y3
               obtain ⟨C0, j0, f0, C1, j1, f1, C2, f2, rfl, -⟩ := id t3.open_
               obtain ⟨AV', cv', w4, hrun, h6, hf6, hgn⟩ := HNEXT.out w3 _ _ _ _ _ _ _ _ _ _ 32 y4 (t3.mono (fun b hb => by have := HB3.out; have : W3.heap.size ≤ b := hb; omega))
               have HGN := Lib.hid hgn
               have g6 : w3.cell? ⟨o, 6, none⟩ = some (.slice AV k cv) := (y3.cell (p := ⟨o, 6, none⟩) (by have := HB3.out; have := HBS.out; show o < _; omega)).trans hv6'
               have hs3 : o < w3.heap.size := by have := y3.size; have := HB3.out; have := HBS.out; omega
               unfold mxV
               clear hgn t3 x3 y3 y4)
            | (refine step_append_run rfl (.tmp 36) (.tmp 39) 32 32 rfl _ _ _ _ (by simp [Act.eval, Act.put]) (by simp [Act.eval, Act.put]) hrun ?_))
          all_goals
            have hgn2 := HGN.out
            rw [← HTK.out] at hgn2
            have HN := Lib.hid hgn2
            clear hgn2 HGN hrun h6 hf6 g6 hs3 HNEXT HC HTK
            go_wp2_with fail
            go_roundw
            case rel => exact ⟨k + 1, by omega, by go_num, HN⟩
            case measure => simp [intOf]; omega
        · have hke : k = t.ks.length := by omega
          subst hke
          have hg := HG.out
          rw [List.take_length] at hg
          obtain ⟨AV, cv, ⟨x0, x1, x2, x3, x4, x5, x6⟩, hz, hm⟩ := hg.fin (q := fun b => o + 1 ≤ b) (Pl.zero_v wr _ none 0 (by omega)) (fun _ h => h)
          have hlm : (t.ks.map Mx.not).length = t.ks.length := List.length_map _
          rw [hlm] at hm x6
          have hf := close_mx (m := .mk 3 0 Pl.zero (t.ks.map Mx.not)) (q' := fun b => w.heap.size ≤ b) hg.1 (Nat.le_succ _) hz hm (fun b _ hb => by have hb : o + 1 ≤ b := hb; have := hg.2.1.1; exact ⟨by omega, by omega⟩)
          have HF := Lib.hid (RetMx.congr HNR.out hf)
          obtain ⟨⟨z0, z1, z2, z3, z4, z5, z6⟩, zf⟩ := hz
          replace x0 : wr.cell? ⟨o, 0, none⟩ = some (.int .i64 3) := x0
          replace x1 : wr.cell? ⟨o, 1, none⟩ = some (.int .i64 0) := x1
          replace x2 : wr.cell? ⟨o, 2, none⟩ = some (.int .i64 0) := x2
          replace x3 : wr.cell? ⟨o, 3, none⟩ = some (.bool false) := x3
          replace z0 : wr.cell? ⟨w.heap.size + 1, 0, none⟩ = some (.int .i64 0) := z0
          replace z1 : wr.cell? ⟨w.heap.size + 1, 1, none⟩ = some (.int .i64 0) := z1
          replace z2 : wr.cell? ⟨w.heap.size + 1, 2, none⟩ = some (.int .i64 0) := z2
          replace z3 : wr.cell? ⟨w.heap.size + 1, 3, none⟩ = some (.bool false) := z3
          clear hf hm hg HG HG0 hlm HNR
          go_wp2_with fail
          exact bodyPost_ret (v := mxV (.mk 3 0 Pl.zero (t.ks.map Mx.not)) (.slice none 0 0) (.slice none 0 0) (.slice AV t.ks.length cv)) (by simp [results, Tryz.results15, go_sem, z0, z1, z2, z3, z4, z5, z6, mxV, Mx.kind, Mx.rel, Mx.p, Pl.zero, Pl.lv, Pl.neg]) rfl HF.out
  · have hnr := HNRM.out
    rw [if_neg k1, if_neg k2, if_neg k34] at hnr
    have HNR := Lib.hid hnr
    have hkn : kindN t.kind = 0 := by unfold kindN; split <;> omega
    rw [hkn] at hkind
    have HKIND := Lib.hid hkind
    clear hkind hkn k1 k2 k34 hnr HNRM
    go_wp2_with fail
    refine (HKIND.out _).mono ?_
    rintro e w3 ⟨rfl, x3⟩
    clear b0 b1 b2 b3 b4 b5 b6 z0 z1 z2 z3 z4 z5 z6 zf hW HKIND
    obtain ⟨hX, hs3, hb3, hz3⟩ := HAFT.out w3 x3
    have HF := Lib.hid (RetMx.congr HNR.out (close_mx (q' := fun b => w.heap.size ≤ b) hX (Nat.le_succ _) hz3 (nil_mx w3 (fun _ => False) 1 0) (fun b _ h => h.elim)))
    obtain ⟨⟨z0, z1, z2, z3, z4, z5, z6⟩, zf⟩ := hz3
    simp only [Mx.kind, Mx.rel, Mx.p, Pl.zero, Pl.lv, Pl.neg] at z0 z1 z2 z3
    clear hb3 hX HAFT HNR x3
    go_wp2_with fail
    exact bodyPost_ret (v := mxV (.mk 1 0 Pl.zero []) (.slice none 0 0) (.slice none 0 0) (.slice none 0 0)) (by simp [results, Tryz.results15, go_sem, z0, z1, z2, z3, z4, z5, z6, mxV, Mx.kind, Mx.rel, Mx.p, Pl.zero, Pl.lv, Pl.neg]) rfl HF.out
theorem pnot_big {q : Nat → Prop} (t : Mx) (v : Value) (w : World) (hbig : t.sz ≤ 1000000) (hsm : t.each BigN) (h : MxV w q t v) : Calls Tryz.prog 15 #[v] w (RetMx (fun b => w.heap.size ≤ b) t.not w) :=
  pnot_ih (t.sz + 1) q t v w (Nat.lt_succ_self _) hbig hsm h
theorem Mx.small_bigN {t : Mx} (hs : t.small) : t.each BigN :=
  Mx.each_mono (fun p hp => ⟨by have := hp.1; omega, by have := hp.2; omega, Nat.le_trans (Pl.nf_sz p) (Nat.le_trans (Nat.pow_le_pow_left (show p.sz + 2 ≤ 42 by have := hp.1; omega) 4) (by decide))⟩) t (t.small_each hs)
theorem pnot_any {q : Nat → Prop} (t : Mx) (v : Value) (w : World) (hbig : t.sz ≤ 1000000) (hsm : t.small) (h : MxV w q t v) : Calls Tryz.prog 15 #[v] w (RetMx (fun b => w.heap.size ≤ b) t.not w) :=
  pnot_big t v w hbig (Mx.small_bigN hsm) h
mutual
theorem Mx.rnot_each {P : Pl → Prop} : ∀ t : Mx, t.each P → t.rnot.each P
  | .mk k r p ks, h => by rw [Mx.each] at h; rw [Mx.rnot, Mx.each]; exact ⟨h.1, rnotM_each ks h.2⟩
theorem rnotM_each {P : Pl → Prop} : ∀ l : List Mx, eachM P l → eachM P (rnotM l)
  | [], _ => by rw [rnotM, eachM]; trivial
  | t :: r, h => by rw [eachM] at h; rw [rnotM, eachM]; exact ⟨t.rnot_each h.1, rnotM_each r h.2⟩
end
/-- What a small matrix's normal form, and its negation, consist of. -/
theorem Mx.nrm_bigN {t : Mx} (hs : t.small) (hd : t.each Pl.dig) : t.nrm.each BigN := by
  refine t.nrm_each ⟨by decide, by decide, by rw [Pl.nf_of_can Pl.zero_can]; decide⟩ (Mx.each_mono (fun p hp => ?_) t (t.each_and (t.small_each hs) hd))
  obtain ⟨⟨hsz, hdm⟩, hdg⟩ := hp
  have e1 := Pl.nf_sz p
  have e2 := Pl.nf_dm p hdg (by omega)
  have e3 : (p.sz + 2) ^ 4 ≤ 42 ^ 4 := Nat.pow_le_pow_left (by omega) 4
  have e4 : (42 : Nat) ^ 4 = 3111696 := by decide
  exact ⟨by omega, by omega, by rw [Pl.nf_of_can p.nf_can]; omega⟩
theorem Mx.not_bigN {t : Mx} (hs : t.small) (hd : t.each Pl.dig) : t.not.each BigN := by
  rw [← t.rnot_nrm]; exact Mx.rnot_each _ (Mx.nrm_bigN hs hd)
end Go.Proofs.YtbanhcaahabboaaGreatDoor
