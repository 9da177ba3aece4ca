/- Layer 38: prenex.Of at formulas without equivalences that are within the limits. -/
import Derived.Test.YtbanhcaahabboaaGreatDoorMv40
import Derived.Test.YtbanhcaahabboaaGreatDoorMv41
import Derived.Test.YtbanhcaahabboaaGreatDoorMv29
import Derived.Test.YtbanhcaahabboaaGreatDoorMv33
set_option linter.unusedSimpArgs false
set_option linter.unusedVariables false

namespace Go.Proofs.YtbanhcaahabboaaGreatDoor
open Go.RowKit

/-- The levels of the first k names. -/
def levP (l : List ByteArray) : Nat → ByteArray → Int
  | 0 => fun _ => 0
  | k + 1 => fun t => if t = l.getD k ByteArray.empty then ((k + 1 : Nat) : Int) else levP l k t
theorem levP_step (l : List ByteArray) (k : Nat) (h : k < l.length) : levP l (k + 1) = fun t => if t = l[k] then ((k + 1 : Nat) : Int) else levP l k t := by
  rw [levP, List.getD_eq_getElem?_getD, List.getElem?_eq_getElem h]
  rfl
/-- The state ahead of the matrix. -/
def Fm.st (f : Fm) : PSt := ⟨f.free, [], levP f.free f.free.length⟩

set_option maxRecDepth 100000 in
set_option maxHeartbeats 4000000 in
theorem of_any {w0 w : World} {L : Nat} {P : Tm → Prop} (hs : L ≤ 1000000000000) (f : Fm) {v : Value} (hx0 : Ext w0 w) (h : FmV w0 L f v) (hl : f.sz ≤ 1099511627776) (hpl : f.plain = true) (hok : f.nmE = 0) (hli : f.light) (hlen : f.free.length + f.bound.length ≤ 1000)
    (HP : ∀ (w : World) (gb bl : Nat) (t : Tm), P t → ∀ g, PolyIH w L gb bl g t) (hP : f.terms P) :
    Calls Tryz.prog 29 #[v] w fun e w' => ∃ u, e = .returned (.tuple #[u, .int .i64 0]) ∧ Ext w w' ∧ PxV w' (fun b => w.heap.size ≤ b) f.free.length (matF f true f.st).2.all (matF f true f.st).2.names (matF f true f.st).1 u := by
  obtain ⟨W1, hW⟩ : ∃ W1, w.alloc (.cells #[.int .i64 0, .slice none 0 0, .slice none 0 0, .int .i64 0, .int .i64 0, .int .i64 0, .bool false, .slice none 0 0, .slice none 0 0, .slice none 0 0] 36) = W1 := ⟨_, rfl⟩
  have hWx : Ext w W1 := by rw [← hW]; exact (Ext.refl w).alloc _
  have hWs : W1.heap.size = w.heap.size + 1 := by rw [← hW]; simp
  have HZ : Hid (∀ j, j < 10 → W1.cell? ⟨w.heap.size, j, none⟩ = #[Value.int .i64 0, .slice none 0 0, .slice none 0 0, .int .i64 0, .int .i64 0, .int .i64 0, .bool false, .slice none 0 0, .slice none 0 0, .slice none 0 0][j]? ∧ W1.frozen? ⟨w.heap.size, j, none⟩ = false) := Lib.hid (fun j hj => by
    rw [← hW]
    rcases (show j = 0 ∨ j = 1 ∨ j = 2 ∨ j = 3 ∨ j = 4 ∨ j = 5 ∨ j = 6 ∨ j = 7 ∨ j = 8 ∨ j = 9 by omega) with rfl | rfl | rfl | rfl | rfl | rfl | rfl | rfl | rfl | rfl <;> (constructor <;> simp [go_sem]))
  have HN := Lib.hid (names_any hs f (hx0.trans hWx) h hl)
  have HFV := Lib.hid h
  have HX0 := Lib.hid hx0
  have HWX := Lib.hid hWx
  have hfl : f.free.length ≤ 1000 := by omega
  obtain ⟨T, x, rfl⟩ := h.iface
  clear hWx h hx0
  go_enter Tryz.func29, Tryz.ntmps29
  go_wp2_with fail
  clear hW
  refine HN.out.mono ?_
  rintro e w1 ⟨s1, rfl, hrow, -, x1⟩
  have hrow1 := hrow hok
  rw [hok]
  have hs1 := x1.size
  have hst := hrow1.slr
  have X1 := Lib.hid x1
  have HST := Lib.hid (show Strs w1 s1 f.free from hst)
  obtain ⟨SA, sc, rfl, -⟩ := id hst
  have HFV1 := Lib.hid (HFV.out.ext ((HX0.out.trans HWX.out).trans x1))
  clear hrow hrow1 hst x1 HN HFV
  go_wp2_with fail
  refine (clone_any HST.out (by omega)).mono ?_
  rintro e w2 ⟨v2, rfl, r2, x2⟩
  have hs2 := x2.size
  obtain ⟨NA, nc, rfl, -⟩ := r2.len
  obtain ⟨W3, hW3⟩ : ∃ W3, ((w2.alloc (.map #[] 0)).alloc (.map #[] 0)).alloc (.cells #[.slice NA f.free.length nc, .slice none 0 0, .map (some w2.heap.size), .map (some (w2.heap.size + 1))] 119) = W3 := ⟨_, rfl⟩
  have hx3 : Ext w2 W3 := by rw [← hW3]; exact (((Ext.refl w2).alloc _).alloc _).alloc _
  have hs3 : W3.heap.size = w2.heap.size + 1 + 1 + 1 := by rw [← hW3]; simp
  have hb : ∃ own, BldS w1.heap.size (w2.heap.size + 1 + 1) w2.heap.size (w2.heap.size + 1) W3 own ⟨f.free, [], levP f.free 0⟩ [] := by
    refine ⟨fun i => i = w2.heap.size + 1 + 1 ∨ i = w2.heap.size ∨ i = w2.heap.size + 1 ∨ (Value.slice NA f.free.length nc).ownBlock = some i ∨ (Value.slice none 0 0).ownBlock = some i, ⟨⟨.slice NA f.free.length nc, .slice none 0 0, (Value.slice NA f.free.length nc).ownBlock, ?_, ?_, .inl ⟨r2.ext hx3, rfl⟩, GRow.nil _ _ _ _, fun i => Iff.rfl, ?_, ?_⟩, ?_, ?_, fun i => ?_, ?_, ?_, by omega, by omega⟩⟩
    · rw [← hW3]; simp [go_sem]
    · rw [← hW3]; simp [go_sem]
    · intro i _ e; cases e
    · intro i e
      rcases e with e | e
      · have := r2.own e; omega
      · cases e
    · rw [← hW3]; simp [go_sem]
    · rw [← hW3]; simp [go_sem]
    · rw [← hW3]; simp [go_sem]
    · refine ⟨[], ?_, fun s => rfl⟩
      rw [← hW3]
      exact ((SMap.made w2).alloc _).alloc _
    · refine ⟨[], ?_, rfl, fun s => rfl⟩
      rw [← hW3]
      have := SMap.made (w2.alloc (.map #[] 0))
      rw [show (w2.alloc (.map #[] 0)).heap.size = w2.heap.size + 1 by simp] at this
      exact this.alloc _
  have HB := Lib.hid hb
  have X3 := Lib.hid (x2.trans hx3)
  have hmm := @run_makeMap Tryz.prog
  clear hb r2 x2 hx3
  have hlo : w1.heap.size ≤ w2.heap.size + 1 + 1 ∧ w1.heap.size ≤ w2.heap.size ∧ w1.heap.size ≤ w2.heap.size + 1 ∧ w1.heap.size ≤ w1.heap.size := by omega
  go_wp2_with fail
  clear hW3 hmm
  go_loopw [29] (fun iv wr => ∃ k : Nat, k ≤ f.free.length ∧ iv = .int .i64 k ∧ Hid (Ext w1 wr ∧ ∃ own tk, BldS w1.heap.size (w2.heap.size + 1 + 1) w2.heap.size (w2.heap.size + 1) wr own ⟨f.free, [], levP f.free k⟩ tk)) (fun iv _ => f.free.length - (intOf iv).toNat)
  case atStart =>
    obtain ⟨own, hb⟩ := HB.out
    exact ⟨0, Nat.zero_le _, rfl, ⟨X3.out, own, [], hb⟩⟩
  case round =>
    obtain ⟨k, hk, rfl, ⟨hxr, own, tk, hb⟩⟩ := hrel
    have HXR := Lib.hid hxr
    by_cases hlt : k < f.free.length
    · obtain ⟨ad, y, rfl, hc, hy⟩ := SlR.get_ (HST.out.ext hxr) k hlt
      subst hy
      have c2 := hb.c2
      obtain ⟨wa, hra, ba, ta, -⟩ := hb.addLevel f.free[k] ((k : Int) + 1)
      have c3 := ba.c3
      obtain ⟨wb, hrb, bb, tb⟩ := ba.addTaken f.free[k]
      rw [show (⟨f.free, [], fun t => if t = f.free[k] then (k : Int) + 1 else levP f.free k t⟩ : PSt) = ⟨f.free, [], levP f.free (k + 1)⟩ by rw [levP_step f.free k hlt]; rfl] at bb
      have hkw : IntKind.i64.wrap ((k : Int) + 1) = (k : Int) + 1 := by rw [IntKind.wrap_i64]; omega
      have HNEXT : Hid (Ext w1 wb ∧ ∃ own tk, BldS w1.heap.size (w2.heap.size + 1 + 1) w2.heap.size (w2.heap.size + 1) wb own ⟨f.free, [], levP f.free (k + 1)⟩ tk) := Lib.hid ⟨(ta.trans tb).ext hxr (hb.lo hlo), own, _, bb⟩
      clear ba ta bb tb hb hxr
      generalize f.free[k] = s at *
      go_wp2_with fail
      clear hra hrb c2 c3 hc
      go_roundw
      case rel => exact ⟨k + 1, by omega, by go_num, HNEXT⟩
      case measure => simp [intOf]; omega
    · have hke : k = f.free.length := by omega
      rw [hke] at hb
      rw [hke]
      have hbst : BldS w1.heap.size (w2.heap.size + 1 + 1) w2.heap.size (w2.heap.size + 1) wr own f.st tk := hb
      have HBB := Lib.hid hbst
      obtain ⟨w4, hw4⟩ : ∃ w4, w4 = wr := ⟨wr, rfl⟩
      have HBD := Lib.hid (bound_any (w := wr) f HFV1.out hl)
      have hbl := f.bound_len
      clear hb hbst hxr
      subst hw4
      go_wp2_with fail
      refine HBD.out.mono ?_
      rintro e w5 ⟨v5, rfl, hr5, x5⟩
      have hst5 := hr5.slr
      have hno5 : ∀ ad n c, v5 = .slice (some ad) n c → ¬ own ad.block := fun ad n c e ho => by
        have h1 := hr5.lt ad.block (by rw [e]; rfl)
        have h2 := (HBB.out.own_ ho).1
        omega
      obtain ⟨BA, bc, rfl, -⟩ := id hst5
      have HST5 := Lib.hid (show Strs w5 (.slice BA f.bound.length bc) f.bound from hst5)
      have HNO5 := Lib.hid hno5
      have HX5 := Lib.hid (HXR.out.trans x5)
      have HB5 := Lib.hid (HBB.out.ext x5)
      clear hr5 hst5 x5 HBD HBB hno5
      go_wp2_with fail
      go_loopw [50] (fun iv wr => ∃ k : Nat, k ≤ f.bound.length ∧ iv = .int .i64 k ∧ Hid (BMut own w5 own wr ∧ ∃ tk, BldS w1.heap.size (w2.heap.size + 1 + 1) w2.heap.size (w2.heap.size + 1) wr own f.st tk)) (fun iv _ => f.bound.length - (intOf iv).toNat)
      case atStart => exact ⟨0, Nat.zero_le _, rfl, ⟨BMut.refl _ _, _, HB5.out⟩⟩
      case round =>
        obtain ⟨k, hk, rfl, ⟨hbm, tk', hb⟩⟩ := hrel
        by_cases hlt : k < f.bound.length
        · obtain ⟨ad, y, rfl, hc, hy⟩ := SlR.get_ (SlR.keeps HST5.out hbm.keeps HNO5.out) k hlt
          subst hy
          have c3 := hb.c3
          obtain ⟨wb, hrb, bb, tb⟩ := hb.addTaken f.bound[k]
          have HNEXT : Hid (BMut own w5 own wb ∧ ∃ tk, BldS w1.heap.size (w2.heap.size + 1 + 1) w2.heap.size (w2.heap.size + 1) wb own f.st tk) := Lib.hid ⟨hbm.trans tb, _, bb⟩
          clear bb tb hb hbm
          generalize f.bound[k] = s at *
          go_wp2_with fail
          clear hrb c3 hc
          go_roundw
          case rel => exact ⟨k + 1, by omega, by go_num, HNEXT⟩
          case measure => simp [intOf]; omega
        · have HX6 := Lib.hid (hbm.ext HX5.out (HB5.out.lo hlo))
          have HMAT := Lib.hid (matrix_any (w0 := w1) (L := L) (HP w1 _ _) hlo f hP (.iface T x) wr own f.st tk' true HX6.out HFV1.out hpl hli (by show f.free.length + _ ≤ _; omega) (by show 0 + _ ≤ _; omega) hb)
          have HMAT0 : Hid (∀ i, own i → w1.heap.size ≤ i) := Lib.hid (fun i hi => hb.lo hlo i hi)
          clear hb hbm HST5 HNO5 HB5
          go_wp2_with fail
          refine HMAT.out.mono ?_
          rintro e w6 ⟨v6, own6, rfl, m6, b6, t6⟩
          obtain ⟨r, hr⟩ : ∃ r, matF f true f.st = r := ⟨_, rfl⟩
          rw [hr] at m6 b6
          obtain ⟨mr, sr⟩ := r
          have HR := Lib.hid hr
          clear hr
          simp only at m6 b6
          obtain ⟨C0, j0, f0, C1, j1, f1, C2, f2, rfl, -⟩ := id m6.open_
          have hs6 := t6.size
          have hx6 : Ext w1 w6 := t6.ext HX6.out (fun i hi => HMAT0.out i hi)
          obtain ⟨nv, av, on, e0, e1, r0, r1, -, -, -⟩ := b6.ex
          obtain ⟨NB, nb, rfl, -⟩ := r0.len
          obtain ⟨AB, ab, rfl, -⟩ := r1.len
          obtain ⟨W7, hW7⟩ : ∃ W7, w6.alloc (.cells #[.int .i64 mr.kind, .int .i64 mr.rel, .int .i64 mr.p.lv, .bool mr.p.neg, .slice C0 j0 f0, .slice C1 j1 f1, .slice C2 mr.ks.length f2] 34) = W7 := ⟨_, rfl⟩
          have hx7 : Ext w6 W7 := by rw [← hW7]; exact (Ext.refl w6).alloc _
          have hbx : Box7 W7 w6.heap.size mr (.slice C0 j0 f0) (.slice C1 j1 f1) (.slice C2 mr.ks.length f2) := by rw [← hW7]; exact Box7.new w6 mr _ _ _ _
          have hx17 : Ext W1 W7.drew := ((X1.out.trans hx6).trans hx7).drew
          have hxw7 : Ext w W7.drew := HWX.out.trans hx17
          have hxw7' : Ext w W7 := HWX.out.trans ((X1.out.trans hx6).trans hx7)
          have hz7 : ∀ j, j < 10 → W7.drew.cell? ⟨w.heap.size, j, none⟩ = #[Value.int .i64 0, .slice none 0 0, .slice none 0 0, .int .i64 0, .int .i64 0, .int .i64 0, .bool false, .slice none 0 0, .slice none 0 0, .slice none 0 0][j]? ∧ W7.drew.frozen? ⟨w.heap.size, j, none⟩ = false := fun j hj =>
            ⟨(hx17.cell (p := ⟨w.heap.size, j, none⟩) (by show w.heap.size < _; omega)).trans (HZ.out j hj).1, (hx17.frozen (p := ⟨w.heap.size, j, none⟩) (by show w.heap.size < _; omega)).trans (HZ.out j hj).2⟩
          have hs7 := hx7.size
          have hgb6 : w2.heap.size + 1 + 1 < w6.heap.size := b6.lt.1
          have hSA : W7.drew.cell? ⟨w2.heap.size + 1 + 1, 0, none⟩ = some (.slice NB sr.names.length nb) ∧ W7.drew.cell? ⟨w2.heap.size + 1 + 1, 1, none⟩ = some (.slice AB sr.all.length ab) ∧ W7.drew.cell? ⟨w6.heap.size, 0, none⟩ = some (.int .i64 mr.kind) ∧ W7.drew.cell? ⟨w6.heap.size, 1, none⟩ = some (.int .i64 mr.rel) ∧ W7.drew.cell? ⟨w6.heap.size, 2, none⟩ = some (.int .i64 mr.p.lv) ∧ W7.drew.cell? ⟨w6.heap.size, 3, none⟩ = some (.bool mr.p.neg) ∧ W7.drew.cell? ⟨w6.heap.size, 4, none⟩ = some (.slice C0 j0 f0) ∧ W7.drew.cell? ⟨w6.heap.size, 5, none⟩ = some (.slice C1 j1 f1) ∧ W7.drew.cell? ⟨w6.heap.size, 6, none⟩ = some (.slice C2 mr.ks.length f2) := by
            obtain ⟨y0, y1, y2, y3, y4, y5, y6⟩ := hbx
            exact ⟨(hx7.cell (p := ⟨w2.heap.size + 1 + 1, 0, none⟩) hgb6).trans e0, (hx7.cell (p := ⟨w2.heap.size + 1 + 1, 1, none⟩) hgb6).trans e1, y0, y1, y2, y3, y4, y5, y6⟩
          obtain ⟨V, hV⟩ : ∃ V, set10 W7 w.heap.size (.int .i64 f.free.length) (.slice AB sr.all.length ab) (.slice NB sr.names.length nb) (.int .i64 mr.kind) (.int .i64 mr.rel) (.int .i64 mr.p.lv) (.bool mr.p.neg) (.slice C0 j0 f0) (.slice C1 j1 f1) (.slice C2 mr.ks.length f2) = V := ⟨_, rfl⟩
          have hfar : ∀ b i, b ≠ w.heap.size → V.drew.cell? ⟨b, i, none⟩ = W7.drew.cell? ⟨b, i, none⟩ := fun b i hb => by
            have h1 : V.heap[b]? = W7.heap[b]? := by rw [← hV, set10_cells]; exact block_setCells hb _ _ _
            exact World.cell?_of_block (w := W7.drew) (w' := V.drew) (a := ⟨b, i, none⟩) h1
          have hSB : V.drew.cell? ⟨w2.heap.size + 1 + 1, 0, none⟩ = some (.slice NB sr.names.length nb) ∧ V.drew.cell? ⟨w2.heap.size + 1 + 1, 1, none⟩ = some (.slice AB sr.all.length ab) ∧ V.drew.cell? ⟨w6.heap.size, 0, none⟩ = some (.int .i64 mr.kind) ∧ V.drew.cell? ⟨w6.heap.size, 1, none⟩ = some (.int .i64 mr.rel) ∧ V.drew.cell? ⟨w6.heap.size, 2, none⟩ = some (.int .i64 mr.p.lv) ∧ V.drew.cell? ⟨w6.heap.size, 3, none⟩ = some (.bool mr.p.neg) ∧ V.drew.cell? ⟨w6.heap.size, 4, none⟩ = some (.slice C0 j0 f0) ∧ V.drew.cell? ⟨w6.heap.size, 5, none⟩ = some (.slice C1 j1 f1) ∧ V.drew.cell? ⟨w6.heap.size, 6, none⟩ = some (.slice C2 mr.ks.length f2) := by
            obtain ⟨g0, g1, y0, y1, y2, y3, y4, y5, y6⟩ := hSA
            exact ⟨(hfar _ _ (by omega)).trans g0, (hfar _ _ (by omega)).trans g1, (hfar _ _ (by omega)).trans y0, (hfar _ _ (by omega)).trans y1, (hfar _ _ (by omega)).trans y2, (hfar _ _ (by omega)).trans y3, (hfar _ _ (by omega)).trans y4, (hfar _ _ (by omega)).trans y5, (hfar _ _ (by omega)).trans y6⟩
          have hfin := close_px (q' := fun b => w.heap.size ≤ b) (fr := (f.free.length : Int)) hxw7' (Nat.le_refl _) (fun j hj => by
            have h1 := (hz7 j hj).1
            rcases (show j = 0 ∨ j = 1 ∨ j = 2 ∨ j = 3 ∨ j = 4 ∨ j = 5 ∨ j = 6 ∨ j = 7 ∨ j = 8 ∨ j = 9 by omega) with rfl | rfl | rfl | rfl | rfl | rfl | rfl | rfl | rfl | rfl <;> exact ⟨_, h1, rfl⟩)
            ((row_bools r1).ext hx7) (fun ad e hpos => by
              obtain ⟨g, c, e2, -, -, hg, -⟩ := r1.pos (by omega)
              injection e2 with e2
              rw [e] at e2
              injection e2 with e2
              subst e2
              show g ≠ _
              omega)
            (r0.strs_.ext hx7) (fun ad e hpos => by
              rcases r0 with ⟨r0, -⟩ | ⟨h0, -⟩
              · obtain ⟨g, c, e2, -, -, hg, -⟩ := r0.pos (by omega)
                injection e2 with e2
                rw [e] at e2
                injection e2 with e2
                subst e2
                show g ≠ _
                omega
              · rw [h0] at hpos; simp at hpos) (m6.ext hx7) (fun b _ hb => ⟨by have := HX6.out.size; omega, by have := HX6.out.size; omega⟩)
          rw [hV] at hfin
          have HSS := Lib.hid (And.intro hSA hSB)
          have HF := Lib.hid (And.intro (hfin.1.drew) (hfin.2.ext ((Ext.refl _).drew)))
          rw [← hV] at HSS HF
          unfold set10 at HSS HF
          clear hV
          obtain ⟨g0, g1, y0, y1, y2, y3, y4, y5, y6⟩ := hSA
          have zf : ∀ j, j < 10 → W7.drew.frozen? ⟨w.heap.size, j, none⟩ = false := fun j hj => (hz7 j hj).2
          have zc : ∀ j, j < 10 → W7.drew.cell? ⟨w.heap.size, j, none⟩ = #[Value.int .i64 0, .slice none 0 0, .slice none 0 0, .int .i64 0, .int .i64 0, .int .i64 0, .bool false, .slice none 0 0, .slice none 0 0, .slice none 0 0][j]? := fun j hj => (hz7 j hj).1
          have z0 : W7.cell? ⟨w.heap.size, 0, none⟩ = some (.int .i64 0) := zc 0 (by omega)
          have z1 : W7.cell? ⟨w.heap.size, 1, none⟩ = some (.slice none 0 0) := zc 1 (by omega)
          have z2 : W7.cell? ⟨w.heap.size, 2, none⟩ = some (.slice none 0 0) := zc 2 (by omega)
          have z3 : W7.cell? ⟨w.heap.size, 3, none⟩ = some (.int .i64 0) := zc 3 (by omega)
          have z4 : W7.cell? ⟨w.heap.size, 4, none⟩ = some (.int .i64 0) := zc 4 (by omega)
          have z5 : W7.cell? ⟨w.heap.size, 5, none⟩ = some (.int .i64 0) := zc 5 (by omega)
          have z6 : W7.cell? ⟨w.heap.size, 6, none⟩ = some (.bool false) := zc 6 (by omega)
          have z7 : W7.cell? ⟨w.heap.size, 7, none⟩ = some (.slice none 0 0) := zc 7 (by omega)
          have z8 : W7.cell? ⟨w.heap.size, 8, none⟩ = some (.slice none 0 0) := zc 8 (by omega)
          have z9 : W7.cell? ⟨w.heap.size, 9, none⟩ = some (.slice none 0 0) := zc 9 (by omega)
          have q0 : W7.frozen? ⟨w.heap.size, 0, none⟩ = false := zf 0 (by omega)
          have q1 : W7.frozen? ⟨w.heap.size, 1, none⟩ = false := zf 1 (by omega)
          have q2 : W7.frozen? ⟨w.heap.size, 2, none⟩ = false := zf 2 (by omega)
          have q3 : W7.frozen? ⟨w.heap.size, 3, none⟩ = false := zf 3 (by omega)
          have q4 : W7.frozen? ⟨w.heap.size, 4, none⟩ = false := zf 4 (by omega)
          have q5 : W7.frozen? ⟨w.heap.size, 5, none⟩ = false := zf 5 (by omega)
          have q6 : W7.frozen? ⟨w.heap.size, 6, none⟩ = false := zf 6 (by omega)
          have q7 : W7.frozen? ⟨w.heap.size, 7, none⟩ = false := zf 7 (by omega)
          have q8 : W7.frozen? ⟨w.heap.size, 8, none⟩ = false := zf 8 (by omega)
          have q9 : W7.frozen? ⟨w.heap.size, 9, none⟩ = false := zf 9 (by omega)
          clear hfin hfar hSB m6 b6 t6 r0 r1 e0 e1 hx6 hx7 hbx hx17 hxw7 hxw7' hz7 zc zf HMAT HMAT0 HX6 HX5 HXR HST X3 X1 HFV1 HZ hli hP HP hpl hs6 hs7 hgb6 HX0 HWX hlo hs1 hs2 hs3 hWs
          unfold mxV
          go_upto_region 17 with fail
          go_region_held3 (fun W' => W'.cell? ⟨w2.heap.size + 1 + 1, 0, none⟩ = some (.slice NB sr.names.length nb) ∧ W'.cell? ⟨w2.heap.size + 1 + 1, 1, none⟩ = some (.slice AB sr.all.length ab) ∧ W'.cell? ⟨w6.heap.size, 0, none⟩ = some (.int .i64 mr.kind) ∧ W'.cell? ⟨w6.heap.size, 1, none⟩ = some (.int .i64 mr.rel) ∧ W'.cell? ⟨w6.heap.size, 2, none⟩ = some (.int .i64 mr.p.lv) ∧ W'.cell? ⟨w6.heap.size, 3, none⟩ = some (.bool mr.p.neg) ∧ W'.cell? ⟨w6.heap.size, 4, none⟩ = some (.slice C0 j0 f0) ∧ W'.cell? ⟨w6.heap.size, 5, none⟩ = some (.slice C1 j1 f1) ∧ W'.cell? ⟨w6.heap.size, 6, none⟩ = some (.slice C2 mr.ks.length f2))
            (first | with_reducible exact HSS.out.1 | with_reducible exact HSS.out.2)
            (fail)
          all_goals
            clear q0 q1 q2 q3 q4 q5 q6 q7 q8 q9 g0 g1 y0 y1 y2 y3 y4 y5 y6 HSS hW7
            go_wp2_with fail
            exact bodyPost_ret (v := .tuple #[pxC f.free.length (.slice AB sr.all.length ab) (.slice NB sr.names.length nb) mr (.slice C0 j0 f0) (.slice C1 j1 f1) (.slice C2 mr.ks.length f2), .int .i64 0]) (by simp [results, Tryz.results29, go_sem, z0, z1, z2, z3, z4, z5, z6, z7, z8, z9, pxC]) rfl ⟨_, rfl, by rw [HR.out]; exact HF.out⟩
end Go.Proofs.YtbanhcaahabboaaGreatDoor

/- Layer 22: recpoly.Var. -/
namespace Go.Proofs.YtbanhcaahabboaaGreatDoor
open Go.RowKit

set_option maxRecDepth 100000 in
set_option maxHeartbeats 1000000 in
theorem var_any (n : Int) (w : World) : Calls Tryz.prog 131 #[.int .i64 n] w (RetPl (fun b => w.heap.size ≤ b) (Pl.var n) w) := by
  obtain ⟨W, hW⟩ : ∃ W, w.alloc (.cells #[.int .i64 0, .bool false, .slice none 0 0, .slice none 0 0] 31) = W := ⟨_, rfl⟩
  have hWx : Ext w W := by rw [← hW]; exact (Ext.refl w).alloc _
  have hz : Zero4 W w.heap.size := by rw [← hW]; exact Zero4.new w _
  have hs := hWx.size
  have hs1 : W.heap.size = w.heap.size + 1 := by rw [← hW]; simp
  have HWX := Lib.hid hWx
  have HZ := Lib.hid hz
  have HL := Lib.hid (isLevel_any n W)
  clear hWx hz
  by_cases h : 1 ≤ n ∧ n ≤ 4
  · have hv : Pl.var n = .mk n false [] [Pl.zero, Pl.const 1] := if_pos h
    rw [hv]
    rw [decide_eq_true h.1, decide_eq_true h.2] at HL
    clear hv
    go_enter Tryz.func131, Tryz.ntmps131
    go_wp2_with fail
    clear hW
    refine HL.out.mono ?_
    rintro e w1 ⟨rfl, rfl⟩
    go_wp2_with fail
    refine (of_int 1 w1 (by omega) (by omega)).mono ?_
    rintro e w2 ⟨z2, rfl, ⟨y2, rfl, m2⟩, x2⟩
    obtain ⟨C2, k2, rfl, -⟩ := id m2
    have hzn := HZ.out.ext x2 (by omega)
    have hs2 := x2.size
    have HF : Hid (∀ W2 : World, Ext w2 W2 → (∀ j, j < 8 → W2.cell? ⟨w2.heap.size, j, none⟩ = #[Value.int .i64 0, .bool false, .slice none 0 0, .slice none 0 0, .int .i64 0, .bool (decide ((1 : Int) < 0)), .slice C2 (dg (1 : Int).natAbs).length k2, .slice none 0 0][j]?) → w2.heap.size < W2.heap.size →
        PlV W2 (fun b => b = w2.heap.size) (.mk n false [] [Pl.zero, Pl.const 1]) (plV (.mk n false [] [Pl.zero, Pl.const 1]) (.slice none 0 0) (.slice (some ⟨w2.heap.size, 0, none⟩) 2 2))) := by
      refine Lib.hid ?_
      intro W2 hx hc hlt
      refine PlV.mk (t := .mk n false [] [Pl.zero, Pl.const 1]) (A := some ⟨w2.heap.size, 0, none⟩) (c := 2) (NatV.nil W2) (Nat.le_refl 2) (by decide) ?_
      refine ⟨⟨⟨w2.heap.size, 0, none⟩, .slice none 0 0, .slice none 0 0, rfl, hlt, rfl, ⟨hc 0 (by omega), hc 1 (by omega), hc 2 (by omega), hc 3 (by omega)⟩, Pl.zero_v _ _ none 0 (by decide)⟩, ⟨⟨w2.heap.size, 0, none⟩, .slice C2 (dg (1 : Int).natAbs).length k2, .slice none 0 0, rfl, hlt, rfl, ⟨?_, hc 5 (by omega), hc 6 (by omega), hc 7 (by omega)⟩, const_plv _ (m2.ext hx)⟩, trivial⟩
      rw [add_mk]
      exact hc 4 (by omega)
    obtain ⟨W2, hW2⟩ : ∃ W2, w2.alloc (.cells #[.int .i64 0, .bool false, .slice none 0 0, .slice none 0 0, .int .i64 0, .bool false, .slice C2 (dg 1).length k2, .slice none 0 0] 31) = W2 := ⟨_, rfl⟩
    have hx2 : Ext w2 W2 := by rw [← hW2]; exact (Ext.refl w2).alloc _
    have hpl := HF.out W2 hx2 (fun j hj => by
      rcases (show j = 0 ∨ j = 1 ∨ j = 2 ∨ j = 3 ∨ j = 4 ∨ j = 5 ∨ j = 6 ∨ j = 7 by omega) with rfl | rfl | rfl | rfl | rfl | rfl | rfl | rfl <;> (rw [← hW2]; simp [go_sem])) (by rw [← hW2]; simp)
    have hzn2 := hzn.ext hx2 (by omega)
    have HFN := Lib.hid (close_pl (q' := fun b => w.heap.size ≤ b) ((HWX.out.trans x2).trans hx2) (Nat.le_refl _) hzn2 hpl (fun b _ hb => ⟨by omega, by omega⟩))
    obtain ⟨⟨z0, z1, z2', z3⟩, zf⟩ := hzn2
    clear x2 m2 hzn hpl hx2 HF
    go_wp2_with fail
    exact bodyPost_ret (by simp [results, Tryz.results131, go_sem, z0, z1, z2', z3, plV, Pl.lv, Pl.neg, Pl.cs]) rfl HFN.out
  · have hv : Pl.var n = Pl.zero := if_neg h
    rw [hv]
    have HL2 : Hid (Calls Tryz.prog 183 #[.int .i64 n] W fun e w' => e = .returned (.bool false) ∧ w' = W) := by
      rw [show (decide (1 ≤ n) && decide (n ≤ 4)) = false by simp; omega] at HL
      exact HL
    have HFN := Lib.hid (close_pl (q' := fun b => w.heap.size ≤ b) HWX.out (Nat.le_refl _) HZ.out (Pl.zero_v W (fun b => w.heap.size ≤ b ∧ b ≠ w.heap.size) none 0 (by decide)) (fun b _ hb => ⟨hb.2, hb.1⟩))
    obtain ⟨⟨z0, z1, z2', z3⟩, zf⟩ := HZ.out
    clear hv HL h
    go_enter Tryz.func131, Tryz.ntmps131
    go_wp2_with fail
    clear hW
    refine HL2.out.mono ?_
    rintro e w1 ⟨rfl, rfl⟩
    go_wp2_with fail
    exact bodyPost_ret (by simp [results, Tryz.results131, go_sem, z0, z1, z2', z3, plV, Pl.zero, Pl.lv, Pl.neg, Pl.cs]) rfl HFN.out
end Go.Proofs.YtbanhcaahabboaaGreatDoor

/- Layer 38: builder.poly at names. -/
namespace Go.Proofs.YtbanhcaahabboaaGreatDoor
open Go.RowKit
attribute [local go_sem] as_Num as_Name as_Add as_Sub as_Mul as_Neg as_Pow as_Truth as_Atom as_Not as_And as_Or as_Implies as_Iff as_Quant
section
variable {w0 : World} {L gb bl : Nat} {g : ByteArray → Int}

set_option maxRecDepth 100000 in
set_option maxHeartbeats 2000000 in
theorem poly_name {s : ByteArray} : PolyIH w0 L gb bl g (.name s) := by
  intro v W hx0 h hp hw
  obtain rfl := h
  obtain ⟨W1, hW⟩ : ∃ W1, (W.alloc (.cells #[.int .i64 0, .bool false, .slice none 0 0, .slice none 0 0] 31)).alloc (.cells #[.string s] 95) = W1 := ⟨_, rfl⟩
  have hWx : Ext W W1 := by rw [← hW]; exact ((Ext.refl W).alloc _).alloc _
  have hs0 : W1.heap.size = W.heap.size + 2 := by rw [← hW]; simp
  have HX0 := Lib.hid hWx
  have HZ : Hid (Zero4 W1 W.heap.size) := Lib.hid (by rw [← hW]; exact (Zero4.new W _).ext ((Ext.refl _).alloc _) (by simp))
  have d0 : W1.cell? ⟨W.heap.size + 1, 0, none⟩ = some (.string s) := by rw [← hW]; simp [go_sem]
  have hgl : gb < W.heap.size := hp.2.1
  have HP := Lib.hid hp
  have HS : Hid (∀ W', Ext W1 W' → (Ext W W' ∧ W'.cell? ⟨gb, 2, none⟩ = some (.map (some bl)) ∧ W'.cell? ⟨W.heap.size + 1, 0, none⟩ = some (.string s))) := by
    intro W' hx
    exact ⟨HX0.out.trans hx, (HP.out.ext (HX0.out.trans hx)).1, (hx.cell (p := ⟨W.heap.size + 1, 0, none⟩) (by show W.heap.size + 1 < _; omega)).trans d0⟩
  have HS2 : Hid (∀ W'' u0 u1 u2 u3, Ext W1 W'' → ∀ W', W' = (((W''.setCell ⟨W.heap.size, 0, none⟩ u0).setCell ⟨W.heap.size, 1, none⟩ u1).setCell ⟨W.heap.size, 2, none⟩ u2).setCell ⟨W.heap.size, 3, none⟩ u3 → (Ext W W' ∧ W'.cell? ⟨gb, 2, none⟩ = some (.map (some bl)) ∧ W'.cell? ⟨W.heap.size + 1, 0, none⟩ = some (.string s))) := by
    intro W'' u0 u1 u2 u3 hx W' hW'
    obtain ⟨s1, k0, k1⟩ := HS.out W'' hx
    rw [hW']
    refine ⟨(((s1.setCell (by simp) _).setCell (by simp) _).setCell (by simp) _).setCell (by simp) _, ?_, ?_⟩ <;> rw [World.cell?_setCell_other _ _ _ _ (by simp; try omega), World.cell?_setCell_other _ _ _ _ (by simp; try omega), World.cell?_setCell_other _ _ _ _ (by simp; try omega), World.cell?_setCell_other _ _ _ _ (by simp; try omega)] <;> assumption
  have hlook := (hp.2.2.ext (hWx.drew)).look s
  rw [show polF g (.name s) = Pl.var (g s) from rfl]
  clear hx0 hp hw hWx
  generalize g s = n at *
  go_enter Tryz.func80, Tryz.ntmps80
  go_wp2_with fail
  clear hW d0
  have yy0 : Ext W1 W1.drew := (Ext.refl W1).drew
  have Y0 := Lib.hid yy0
  clear yy0
  go_region_held3 (fun W' => Ext W W' ∧ W'.cell? ⟨gb, 2, none⟩ = some (.map (some bl)) ∧ W'.cell? ⟨W.heap.size + 1, 0, none⟩ = some (.string s))
    (first | with_reducible exact HS.out _ Y0.out | with_reducible exact HS.out _ yy3 | with_reducible exact HS2.out _ _ _ _ _ yy3 _ rfl)
    ((go_at_call 131
      refine (var_any n _).mono ?_
      rintro e w3 ⟨z3, rfl, m3, x3⟩
      obtain ⟨C3, i3, j3, D3, k3, rfl, -⟩ := id m3.open_
      have yy3 : Ext W1 w3 := Ext.trans Y0.out x3
      obtain ⟨⟨r0, r1, r2, r3⟩, rf⟩ := HZ.out.ext yy3 (by omega)
      unfold plV))
  all_goals
    have hzn := HZ.out.ext yy3 (by omega)
    have hsn := (yy3 : Ext W1 _).size
    have hsp := Y0.out.size
    have HF := Lib.hid (close_pl (q' := fun b => W.heap.size ≤ b) (HX0.out.trans yy3) (by omega) hzn m3 (fun b _ hb => ⟨by omega, by omega⟩))
    clear m3 x3 yy3 HS HS2 HZ hlook
    try unfold plV
    go_wp2_with fail
    exact bodyPost_ret (by simp [results, Tryz.results80, go_sem, r0, r1, r2, r3, plV]) rfl HF.out

end
end Go.Proofs.YtbanhcaahabboaaGreatDoor
