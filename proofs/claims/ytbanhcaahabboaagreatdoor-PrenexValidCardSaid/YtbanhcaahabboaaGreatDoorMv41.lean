/- slices.Clone at []string; values of prenex forms. -/
import Derived.Test.YtbanhcaahabboaaGreatDoorBldS
import Derived.Lib.SliceRun
import Derived.Test.YtbanhcaahabboaaGreatDoorCheck
import Derived.Lib.MinMax
set_option linter.unusedSimpArgs false
set_option linter.unusedVariables false

namespace Go.Proofs.YtbanhcaahabboaaGreatDoor
open Go.RowKit

/-- A slice of strings. -/
def Strs (w : World) (v : Value) (l : List ByteArray) : Prop := SlR (fun _ (s : ByteArray) x => x = .string s) w v l
/-- A slice of Booleans. -/
def Bools (w : World) (v : Value) (l : List Bool) : Prop := SlR (fun _ (s : Bool) x => x = .bool s) w v l
theorem Strs.ext {w w' : World} {v : Value} {l : List ByteArray} (h : Strs w v l) (hx : Ext w w') : Strs w' v l := SlR.ext h (fun _ _ h => h) hx
theorem Bools.ext {w w' : World} {v : Value} {l : List Bool} (h : Bools w v l) (hx : Ext w w') : Bools w' v l := SlR.ext h (fun _ _ h => h) hx
theorem row_strs {base : Nat} {w : World} {v : Value} {l : List ByteArray} (h : GRow 9 1 base w v l.length (strs l)) : Strs w v l := StrRow.slr h.1
theorem SNm.strs_ {base : Nat} {w : World} {v : Value} {l : List ByteArray} {o : Option Nat} (h : SNm base w v l o) : Strs w v l := by
  rcases h with ⟨h, -⟩ | ⟨rfl, -, A, rfl⟩
  · exact row_strs h
  · exact ⟨A, 0, rfl, by simp, by simp, fun j hj => absurd hj (by simp)⟩
theorem row_bools {base : Nat} {w : World} {v : Value} {l : List Bool} (h : GRow 4 1 base w v l.length (bools l)) : Bools w v l := by
  rcases Nat.eq_zero_or_pos l.length with h0 | h0
  · obtain ⟨A, c, rfl, h1, h2⟩ := h.len
    exact ⟨A, c, rfl, h1, h2, fun j hj => by omega⟩
  · obtain ⟨g, c, rfl, h1, h2, h3, h4, -⟩ := h.pos h0
    refine ⟨_, c, rfl, h1, h2, fun j hj => ⟨_, _, rfl, h4, ?_, rfl⟩⟩
    rw [add_mk, Nat.zero_add, h.cell j (by omega)]
    simp [bools, hj]

set_option maxRecDepth 100000 in
set_option maxHeartbeats 1000000 in
theorem clone_any {w : World} {v : Value} {l : List ByteArray} (h : Strs w v l) (hl : l.length ≤ 1000000) : Calls Tryz.prog 59 #[v] w fun e w' => ∃ v', e = .returned v' ∧ GRow 9 1 w.heap.size w' v' l.length (strs l) ∧ Ext w w' := by
  obtain ⟨A, c, rfl, h1, h2, h3⟩ := h
  cases A with
  | none =>
    have h0 : l = [] := by
      cases l with
      | nil => rfl
      | cons a r => obtain ⟨ad, x, e, -⟩ := h3 0 (by simp); cases e
    subst h0
    have he := Lib.run_eql_slice_nil (P := Tryz.prog) w 23 9 none 0 c 0 0 str_row.und
    go_enter Tryz.func59, Tryz.ntmps59
    go_wp2_with fail
    go_ret
    exact ⟨_, rfl, GRow.nil _ _ _ _, Ext.refl w⟩
  | some ad =>
    obtain ⟨W, hW⟩ : ∃ W, w.alloc (.cells #[] 9) = W := ⟨_, rfl⟩
    have hWx : Ext w W := by rw [← hW]; exact (Ext.refl w).alloc _
    have hrow : GRow 9 1 w.heap.size W (.slice (some ⟨w.heap.size, 0, none⟩) 0 0) 0 [] := by
      rw [← hW]
      refine ⟨World.ownsRow_made w #[] 0 (Nat.le_refl _) (by unfold maxLen; omega) (by simp), fun R cur T fr e hb u hu => ?_⟩
      have hR : w.heap.size = R := by simpa [Value.ownBlock] using e
      rw [← hR, heap_alloc_new] at hb
      injection hb with hb
      injection hb with hb
      rw [← hb] at hu
      simp at hu
    have hrun : ∃ v4 w4, (Builtin.append_ #[23, 23] 23 #[.slice (some ⟨w.heap.size, 0, none⟩) 0 0, .slice (some ad) l.length c]).run Tryz.prog W = .ok v4 w4 ∧ GRow 9 1 w.heap.size w4 v4 l.length (strs l) ∧ Ext w w4 := by
      rcases Nat.eq_zero_or_pos l.length with h0 | h0
      · have : l = [] := List.eq_nil_of_length_eq_zero h0
        subst this
        refine ⟨.slice (some ⟨w.heap.size, 0, none⟩) 0 0, W, ?_, hrow, hWx⟩
        obtain ⟨i0, hi, hz0, hz1, hz2⟩ := info_parts str_row.info
        simp [Builtin.append_, run_underlying str_row.und, sizeOf, typeInfo, hi, Builtin.lenOf, Builtin.firstCells, loadCells, loadCellsFrom, storeCells]
      · obtain ⟨v4, w4, e, r1, r2, -, -⟩ := GRow.append str_row hrow hWx.size ad l.length c (strs l) (by simp [strs]) (fun j u hu => by
          have hj : j < l.length := by
            rcases Nat.lt_or_ge j l.length with h | h
            · exact h
            · rw [List.getElem?_eq_none (by simpa [strs] using h)] at hu; cases hu
          obtain ⟨ad', x, e, hb, hc, hx⟩ := h3 j hj
          injection e with e
          subst e hx
          rw [hWx.cell (p := ad.add j) (by rw [block_of_add]; exact hb), hc, ← hu]
          simp [strs, hj]) (fun u hu => by
          simp only [strs, List.mem_map] at hu
          obtain ⟨s, -, rfl⟩ := hu
          exact ⟨rfl, rfl⟩) h0 (by omega) (by omega) 23
        refine ⟨v4, w4, e, by simpa using r1, ?_⟩
        exact ext_grown hWx r2 (fun R hR => by have := (hrow.own hR).1; omega)
    obtain ⟨v4, w4, hr, hg, hx⟩ := hrun
    have HRUN := Lib.hid hr
    have HF : Hid (GRow 9 1 w.heap.size w4 v4 l.length (strs l) ∧ Ext w w4) := Lib.hid ⟨hg, hx⟩
    have he := Lib.run_eql_slice_nil (P := Tryz.prog) w 23 9 (some ad) l.length c 0 0 str_row.und
    clear hr hg hx hrow hWx h3
    go_enter Tryz.func59, Tryz.ntmps59
    go_upto_region 3 with fail
    clear he
    iterate 16 (first | at_builtin | go_values | go_skip | go_guarded | go_step | go_upon | go_back | go_simp)
    refine wpList_append_run rfl (.tmp 5) (.tmp 6) _ _ rfl _ _ _ _ rfl rfl HRUN.out ?_
    clear HRUN
    go_wp2_with fail
    go_ret
    exact ⟨_, rfl, HF.out⟩
end Go.Proofs.YtbanhcaahabboaaGreatDoor

/- Layer 38: prenex forms as values. -/
namespace Go.Proofs.YtbanhcaahabboaaGreatDoor
open Go.RowKit

/-- A prenex form as a value. -/
def pxC (fr : Int) (all nms : Value) (m : Mx) (s A K : Value) : Value := .agg #[.int .i64 fr, all, nms, .int .i64 m.kind, .int .i64 m.rel, .int .i64 m.p.lv, .bool m.p.neg, s, A, K]
def PxV (w : World) (q : Nat → Prop) (fr : Int) (all : List Bool) (nms : List ByteArray) (m : Mx) (v : Value) : Prop :=
  ∃ A1 c1 A2 c2 A0 n0 c0 B n1 c3 K n2 c4, v = pxC fr (.slice A1 all.length c1) (.slice A2 nms.length c2) m (.slice A0 n0 c0) (.slice B n1 c3) (.slice K n2 c4) ∧ Bools w (.slice A1 all.length c1) all ∧ Strs w (.slice A2 nms.length c2) nms ∧ MxV w q m (mxV m (.slice A0 n0 c0) (.slice B n1 c3) (.slice K n2 c4))
theorem SlR.turn {α : Type} {P : α → Value → Prop} {w w' : World} {A : Option Addr} {n c : Nat} {l : List α} (h : SlR (fun _ => P) w (.slice A n c) l) (hs : w.heap.size ≤ w'.heap.size) (hb : ∀ ad, A = some ad → 0 < l.length → w'.heap[ad.block]? = w.heap[ad.block]?) : SlR (fun _ => P) w' (.slice A n c) l := by
  obtain ⟨A', c', e, h1, h2, h3⟩ := h
  injection e with e1 e2 e3
  subst e1 e2 e3
  refine ⟨A, c, rfl, h1, h2, fun j hj => ?_⟩
  obtain ⟨ad, x, rfl, hlt, hc, hp⟩ := h3 j hj
  exact ⟨ad, x, rfl, Nat.lt_of_lt_of_le hlt hs, (World.cell?_of_block (a := ad.add j) (by rw [block_of_add]; exact hb ad rfl (by omega))).trans hc, hp⟩
theorem PxV.ext {w w' : World} {q : Nat → Prop} {fr : Int} {all : List Bool} {nms : List ByteArray} {m : Mx} {v : Value} (h : PxV w q fr all nms m v) (hx : Ext w w') : PxV w' q fr all nms m v := by
  obtain ⟨A1, c1, A2, c2, A0, n0, c0, B, n1, c3, K, n2, c4, e, h1, h2, h3⟩ := h
  exact ⟨A1, c1, A2, c2, A0, n0, c0, B, n1, c3, K, n2, c4, e, h1.ext hx, h2.ext hx, h3.ext hx⟩
theorem natV_setCells (b : Nat) : ∀ (vs : List Value) (o : Nat) (w : World), (∀ j, j < vs.length → ∃ u, w.cell? ⟨b, o + j, none⟩ = some u ∧ isDig u = false) → ∀ x ds, NatV w x ds → NatV (w.setCells b o vs) x ds
  | [], o, w, _, x, ds, h => h
  | v :: vs, o, w, hu, x, ds, h => by
    obtain ⟨u, h1, h2⟩ := hu 0 (by simp)
    refine natV_setCells b vs (o + 1) (w.setCell ⟨b, o, none⟩ v) (fun j hj => ?_) x ds (h.box h1 h2 v)
    obtain ⟨u', h3, h4⟩ := hu (j + 1) (by simpa using hj)
    refine ⟨u', ?_, h4⟩
    rw [World.cell?_setCell_other _ _ _ _ (by intro e; injection e; omega), ← h3]
    congr 2; omega
theorem ext_setCells {w : World} {b : Nat} (hb : w.heap.size ≤ b) : ∀ (vs : List Value) (o : Nat) (w' : World), Ext w w' → Ext w (w'.setCells b o vs)
  | [], o, w', h => h
  | v :: vs, o, w', h => ext_setCells hb vs (o + 1) (w'.setCell ⟨b, o, none⟩ v) (h.setCell hb v)
theorem block_setCells {b i : Nat} (hne : i ≠ b) : ∀ (vs : List Value) (o : Nat) (w : World), (w.setCells b o vs).heap[i]? = w.heap[i]?
  | [], o, w => rfl
  | v :: vs, o, w => (block_setCells hne vs (o + 1) (w.setCell ⟨b, o, none⟩ v)).trans (Below.heap_setCell w _ v i hne)
theorem size_setCells {b : Nat} : ∀ (vs : List Value) (o : Nat) (w : World), (w.setCells b o vs).heap.size = w.heap.size
  | [], o, w => rfl
  | v :: vs, o, w => (size_setCells vs (o + 1) (w.setCell ⟨b, o, none⟩ v)).trans (by simp [World.setCell])
theorem frozen_setCells {b : Nat} : ∀ (vs : List Value) (o : Nat) (w : World) (a : Addr), (w.setCells b o vs).frozen? a = w.frozen? a
  | [], o, w, a => rfl
  | v :: vs, o, w, a => (frozen_setCells vs (o + 1) (w.setCell ⟨b, o, none⟩ v) a).trans (by simp [go_sem])
/-- Ten cells are written. -/
def set10 (W : World) (g : Nat) (u0 u1 u2 u3 u4 u5 u6 u7 u8 u9 : Value) : World :=
  (((((((((W.setCell ⟨g, 0, none⟩ u0).setCell ⟨g, 1, none⟩ u1).setCell ⟨g, 2, none⟩ u2).setCell ⟨g, 3, none⟩ u3).setCell ⟨g, 4, none⟩ u4).setCell ⟨g, 5, none⟩ u5).setCell ⟨g, 6, none⟩ u6).setCell ⟨g, 7, none⟩ u7).setCell ⟨g, 8, none⟩ u8).setCell ⟨g, 9, none⟩ u9
theorem set10_cells (W : World) (g : Nat) (u0 u1 u2 u3 u4 u5 u6 u7 u8 u9 : Value) : set10 W g u0 u1 u2 u3 u4 u5 u6 u7 u8 u9 = W.setCells g 0 [u0, u1, u2, u3, u4, u5, u6, u7, u8, u9] := rfl
/-- A prenex form is stored into the cells of the result. -/
theorem close_px {w Wf : World} {g : Nat} {q q' : Nat → Prop} {fr : Int} {all : List Bool} {nms : List ByteArray} {m : Mx} {A1 A2 A0 B K : Option Addr} {c1 c2 n0 c0 n1 c3 n2 c4 : Nat} (hx : Ext w Wf) (hg : w.heap.size ≤ g) (hz : ∀ j, j < 10 → ∃ u, Wf.cell? ⟨g, j, none⟩ = some u ∧ isDig u = false)
    (h1 : Bools Wf (.slice A1 all.length c1) all) (k1 : ∀ ad, A1 = some ad → 0 < all.length → ad.block ≠ g) (h2 : Strs Wf (.slice A2 nms.length c2) nms) (k2 : ∀ ad, A2 = some ad → 0 < nms.length → ad.block ≠ g)
    (hm : MxV Wf q m (mxV m (.slice A0 n0 c0) (.slice B n1 c3) (.slice K n2 c4))) (hq : ∀ b, b < Wf.heap.size → q b → b ≠ g ∧ q' b) :
    Ext w (set10 Wf g (.int .i64 fr) (.slice A1 all.length c1) (.slice A2 nms.length c2) (.int .i64 m.kind) (.int .i64 m.rel) (.int .i64 m.p.lv) (.bool m.p.neg) (.slice A0 n0 c0) (.slice B n1 c3) (.slice K n2 c4)) ∧
    PxV (set10 Wf g (.int .i64 fr) (.slice A1 all.length c1) (.slice A2 nms.length c2) (.int .i64 m.kind) (.int .i64 m.rel) (.int .i64 m.p.lv) (.bool m.p.neg) (.slice A0 n0 c0) (.slice B n1 c3) (.slice K n2 c4)) q' fr all nms m (pxC fr (.slice A1 all.length c1) (.slice A2 nms.length c2) m (.slice A0 n0 c0) (.slice B n1 c3) (.slice K n2 c4)) := by
  rw [set10_cells]
  have hb : ∀ i, i ≠ g → (Wf.setCells g 0 [.int .i64 fr, .slice A1 all.length c1, .slice A2 nms.length c2, .int .i64 m.kind, .int .i64 m.rel, .int .i64 m.p.lv, .bool m.p.neg, .slice A0 n0 c0, .slice B n1 c3, .slice K n2 c4]).heap[i]? = Wf.heap[i]? := fun i hi => block_setCells hi _ _ _
  have hs := size_setCells (b := g) [.int .i64 fr, .slice A1 all.length c1, .slice A2 nms.length c2, .int .i64 m.kind, .int .i64 m.rel, .int .i64 m.p.lv, .bool m.p.neg, .slice A0 n0 c0, .slice B n1 c3, .slice K n2 c4] 0 Wf
  have hn := natV_setCells g [.int .i64 fr, .slice A1 all.length c1, .slice A2 nms.length c2, .int .i64 m.kind, .int .i64 m.rel, .int .i64 m.p.lv, .bool m.p.neg, .slice A0 n0 c0, .slice B n1 c3, .slice K n2 c4] 0 Wf (fun j hj => by rw [Nat.zero_add]; exact hz j (by simpa using hj))
  have hxx := ext_setCells hg [.int .i64 fr, .slice A1 all.length c1, .slice A2 nms.length c2, .int .i64 m.kind, .int .i64 m.rel, .int .i64 m.p.lv, .bool m.p.neg, .slice A0 n0 c0, .slice B n1 c3, .slice K n2 c4] 0 Wf hx
  generalize Wf.setCells g 0 [.int .i64 fr, .slice A1 all.length c1, .slice A2 nms.length c2, .int .i64 m.kind, .int .i64 m.rel, .int .i64 m.p.lv, .bool m.p.neg, .slice A0 n0 c0, .slice B n1 c3, .slice K n2 c4] = W' at *
  exact ⟨hxx, _, _, _, _, _, _, _, _, _, _, _, _, _, rfl, SlR.turn h1 (by omega) (fun ad e h => hb _ (k1 ad e h)), SlR.turn h2 (by omega) (fun ad e h => hb _ (k2 ad e h)), MxV.turn_ (by omega) hn (fun b hlt hqb => ⟨(hq b hlt hqb).2, hb b (hq b hlt hqb).1⟩) hm⟩
end Go.Proofs.YtbanhcaahabboaaGreatDoor

/- Layer 38: prenex.quantifiers, Names. -/
namespace Go.Proofs.YtbanhcaahabboaaGreatDoor
open Go.RowKit
attribute [local go_sem] as_Num as_Name as_Add as_Sub as_Mul as_Neg as_Pow as_Truth as_Atom as_Not as_And as_Or as_Implies as_Iff as_Quant

/-- How many quantifiers the prenex form has. -/
def Fm.qn : Fm → Int
  | .truth _ => 0
  | .atom _ _ _ => 0
  | .not f => min f.qn 2147483647
  | .and f g => min (f.qn + g.qn) 2147483647
  | .or f g => min (f.qn + g.qn) 2147483647
  | .imp f g => min (f.qn + g.qn) 2147483647
  | .iff f g => min (2 * (f.qn + g.qn)) 2147483647
  | .quant _ _ f => min (1 + f.qn) 2147483647
theorem Fm.qn_bd (f : Fm) : 0 ≤ f.qn ∧ f.qn ≤ 2147483647 := by induction f <;> simp only [Fm.qn] <;> omega
def QnIH (w0 : World) (L : Nat) (f : Fm) : Prop := ∀ (v : Value) (W : World), FmV w0 L f v → Calls Tryz.prog 122 #[v] W (RetI f.qn W)

set_option maxRecDepth 100000 in
set_option maxHeartbeats 1000000 in
theorem qn_truth {w0 : World} {L : Nat} {b : Bool} : QnIH w0 L (.truth b) := by
  intro v W h
  obtain rfl := h
  go_enter Tryz.func122, Tryz.ntmps122
  go_wp2_with fail
  go_ret
  exact ⟨rfl, Ext.refl _⟩

set_option maxRecDepth 100000 in
set_option maxHeartbeats 1000000 in
theorem qn_atom {w0 : World} {L : Nat} {l k : Tm} {r : Int} : QnIH w0 L (.atom l r k) := by
  intro v W h
  obtain ⟨x, y, rfl, hx, hy⟩ := h
  obtain ⟨T, x, rfl⟩ := hx.iface
  obtain ⟨U, y, rfl⟩ := hy.iface
  clear hx hy
  go_enter Tryz.func122, Tryz.ntmps122
  go_wp2_with fail
  go_ret
  exact ⟨rfl, Ext.refl _⟩

set_option maxRecDepth 100000 in
set_option maxHeartbeats 1000000 in
theorem qn_not {w0 : World} {L : Nat} {f : Fm}  (ih : QnIH w0 L f) : QnIH w0 L (.not f) := by
  intro v W h
  obtain ⟨x, rfl, hx⟩ := h
  have IH := Lib.hid (fun W' => ih x W' hx)
  obtain ⟨T, x, rfl⟩ := hx.iface
  have hb := f.qn_bd
  unfold Fm.qn
  clear hx ih
  generalize f.qn = a at *
  go_enter Tryz.func122, Tryz.ntmps122
  go_wp2_with fail
  refine (IH.out _).mono ?_
  rintro e w1 ⟨rfl, x1⟩
  have X1 := Lib.hid (Ext.trans ((Ext.refl W).alloc _) x1)
  clear x1
  go_wp2_with fail
  go_ret
  exact ⟨rfl, X1.out⟩

set_option maxRecDepth 100000 in
set_option maxHeartbeats 1000000 in
theorem qn_quant {w0 : World} {L : Nat} {f : Fm} {al : Bool} {s : ByteArray} (ih : QnIH w0 L f) : QnIH w0 L (.quant al s f) := by
  intro v W h
  obtain ⟨x, rfl, hx⟩ := h
  have IH := Lib.hid (fun W' => ih x W' hx)
  obtain ⟨T, x, rfl⟩ := hx.iface
  have hb := f.qn_bd
  unfold Fm.qn
  clear hx ih
  generalize f.qn = a at *
  have hw : IntKind.i64.wrap (1 + a) = 1 + a := IntWalk.i64_in _ (by omega)
  go_enter Tryz.func122, Tryz.ntmps122
  go_wp2_with fail
  refine (IH.out _).mono ?_
  rintro e w1 ⟨rfl, x1⟩
  have X1 := Lib.hid (Ext.trans ((Ext.refl W).alloc _) x1)
  clear x1
  go_wp2_with fail
  go_ret
  exact ⟨rfl, X1.out⟩

set_option maxRecDepth 100000 in
set_option maxHeartbeats 1000000 in
theorem qn_and {w0 : World} {L : Nat} {f g : Fm} (ihf : QnIH w0 L f) (ihg : QnIH w0 L g) : QnIH w0 L (.and f g) := by
  intro v W h
  obtain ⟨x, y, rfl, hx, hy⟩ := h
  have IHF := Lib.hid (fun W' => ihf x W' hx)
  have IHG := Lib.hid (fun W' => ihg y W' hy)
  obtain ⟨T, x, rfl⟩ := hx.iface
  obtain ⟨U, y, rfl⟩ := hy.iface
  have hb := f.qn_bd
  have hb2 := g.qn_bd
  unfold Fm.qn
  clear hx hy ihf ihg
  generalize f.qn = a at *
  generalize g.qn = b at *
  obtain ⟨c, hc⟩ : ∃ c, a + b = c := ⟨_, rfl⟩
  have hw : IntKind.i64.wrap (a + b) = c := by rw [hc]; exact IntWalk.i64_in _ (by omega)
  have hcb : 0 ≤ c ∧ c ≤ 4294967294 := by omega
  rw [hc]
  clear hc
  obtain ⟨W1, hW⟩ : ∃ W1, W.alloc (.cells #[.iface T x, .iface U y] 163) = W1 := ⟨_, rfl⟩
  have HB : Hid (∀ W', Ext W1 W' → (Ext W1 W' ∧ W'.cell? ⟨W.heap.size, 0, none⟩ = some (.iface T x) ∧ W'.cell? ⟨W.heap.size, 1, none⟩ = some (.iface U y))) := by
    intro W' hx
    obtain ⟨hc, hf⟩ := hx.cells
    refine ⟨hx, ?_, ?_⟩ <;> (rw [hc _ _ (by rw [← hW]; simp), ← hW]; simp [go_sem])
  have HX0 : Hid (Ext W W1) := Lib.hid (by rw [← hW]; exact (Ext.refl W).alloc _)
  go_enter Tryz.func122, Tryz.ntmps122
  go_wp2_with fail
  clear hW
  go_region_held3 (fun W' => Ext W1 W' ∧ W'.cell? ⟨W.heap.size, 0, none⟩ = some (.iface T x) ∧ W'.cell? ⟨W.heap.size, 1, none⟩ = some (.iface U y))
    (first | exact HB.out _ ((Ext.refl W1).drew) | exact HB.out _ (by assumption))
    (first
      | (go_at_call_of 122 (Value.iface T x)
         refine (IHF.out _).mono ?_
         rintro e v1 ⟨rfl, x1⟩
         have y1 : Ext W1 v1 := Ext.trans ((Ext.refl W1).drew) x1)
      | (go_at_call_of 122 (Value.iface U y)
         refine (IHG.out _).mono ?_
         rintro e v2 ⟨rfl, x2⟩
         have y2 : Ext W1 v2 := Ext.trans y1 x2))
  have HY2 := Lib.hid (HX0.out.trans y2)
  clear y1 y2 x1 x2 HB HX0
  go_wp2_with fail
  go_ret
  exact ⟨rfl, HY2.out⟩

set_option maxRecDepth 100000 in
set_option maxHeartbeats 1000000 in
theorem qn_or {w0 : World} {L : Nat} {f g : Fm} (ihf : QnIH w0 L f) (ihg : QnIH w0 L g) : QnIH w0 L (.or f g) := by
  intro v W h
  obtain ⟨x, y, rfl, hx, hy⟩ := h
  have IHF := Lib.hid (fun W' => ihf x W' hx)
  have IHG := Lib.hid (fun W' => ihg y W' hy)
  obtain ⟨T, x, rfl⟩ := hx.iface
  obtain ⟨U, y, rfl⟩ := hy.iface
  have hb := f.qn_bd
  have hb2 := g.qn_bd
  unfold Fm.qn
  clear hx hy ihf ihg
  generalize f.qn = a at *
  generalize g.qn = b at *
  obtain ⟨c, hc⟩ : ∃ c, a + b = c := ⟨_, rfl⟩
  have hw : IntKind.i64.wrap (a + b) = c := by rw [hc]; exact IntWalk.i64_in _ (by omega)
  have hcb : 0 ≤ c ∧ c ≤ 4294967294 := by omega
  rw [hc]
  clear hc
  obtain ⟨W1, hW⟩ : ∃ W1, W.alloc (.cells #[.iface T x, .iface U y] 164) = W1 := ⟨_, rfl⟩
  have HB : Hid (∀ W', Ext W1 W' → (Ext W1 W' ∧ W'.cell? ⟨W.heap.size, 0, none⟩ = some (.iface T x) ∧ W'.cell? ⟨W.heap.size, 1, none⟩ = some (.iface U y))) := by
    intro W' hx
    obtain ⟨hc, hf⟩ := hx.cells
    refine ⟨hx, ?_, ?_⟩ <;> (rw [hc _ _ (by rw [← hW]; simp), ← hW]; simp [go_sem])
  have HX0 : Hid (Ext W W1) := Lib.hid (by rw [← hW]; exact (Ext.refl W).alloc _)
  go_enter Tryz.func122, Tryz.ntmps122
  go_wp2_with fail
  clear hW
  go_region_held3 (fun W' => Ext W1 W' ∧ W'.cell? ⟨W.heap.size, 0, none⟩ = some (.iface T x) ∧ W'.cell? ⟨W.heap.size, 1, none⟩ = some (.iface U y))
    (first | exact HB.out _ ((Ext.refl W1).drew) | exact HB.out _ (by assumption))
    (first
      | (go_at_call_of 122 (Value.iface T x)
         refine (IHF.out _).mono ?_
         rintro e v1 ⟨rfl, x1⟩
         have y1 : Ext W1 v1 := Ext.trans ((Ext.refl W1).drew) x1)
      | (go_at_call_of 122 (Value.iface U y)
         refine (IHG.out _).mono ?_
         rintro e v2 ⟨rfl, x2⟩
         have y2 : Ext W1 v2 := Ext.trans y1 x2))
  have HY2 := Lib.hid (HX0.out.trans y2)
  clear y1 y2 x1 x2 HB HX0
  go_wp2_with fail
  go_ret
  exact ⟨rfl, HY2.out⟩

set_option maxRecDepth 100000 in
set_option maxHeartbeats 1000000 in
theorem qn_imp {w0 : World} {L : Nat} {f g : Fm} (ihf : QnIH w0 L f) (ihg : QnIH w0 L g) : QnIH w0 L (.imp f g) := by
  intro v W h
  obtain ⟨x, y, rfl, hx, hy⟩ := h
  have IHF := Lib.hid (fun W' => ihf x W' hx)
  have IHG := Lib.hid (fun W' => ihg y W' hy)
  obtain ⟨T, x, rfl⟩ := hx.iface
  obtain ⟨U, y, rfl⟩ := hy.iface
  have hb := f.qn_bd
  have hb2 := g.qn_bd
  unfold Fm.qn
  clear hx hy ihf ihg
  generalize f.qn = a at *
  generalize g.qn = b at *
  obtain ⟨c, hc⟩ : ∃ c, a + b = c := ⟨_, rfl⟩
  have hw : IntKind.i64.wrap (a + b) = c := by rw [hc]; exact IntWalk.i64_in _ (by omega)
  have hcb : 0 ≤ c ∧ c ≤ 4294967294 := by omega
  rw [hc]
  clear hc
  obtain ⟨W1, hW⟩ : ∃ W1, W.alloc (.cells #[.iface T x, .iface U y] 165) = W1 := ⟨_, rfl⟩
  have HB : Hid (∀ W', Ext W1 W' → (Ext W1 W' ∧ W'.cell? ⟨W.heap.size, 0, none⟩ = some (.iface T x) ∧ W'.cell? ⟨W.heap.size, 1, none⟩ = some (.iface U y))) := by
    intro W' hx
    obtain ⟨hc, hf⟩ := hx.cells
    refine ⟨hx, ?_, ?_⟩ <;> (rw [hc _ _ (by rw [← hW]; simp), ← hW]; simp [go_sem])
  have HX0 : Hid (Ext W W1) := Lib.hid (by rw [← hW]; exact (Ext.refl W).alloc _)
  go_enter Tryz.func122, Tryz.ntmps122
  go_wp2_with fail
  clear hW
  go_region_held3 (fun W' => Ext W1 W' ∧ W'.cell? ⟨W.heap.size, 0, none⟩ = some (.iface T x) ∧ W'.cell? ⟨W.heap.size, 1, none⟩ = some (.iface U y))
    (first | exact HB.out _ ((Ext.refl W1).drew) | exact HB.out _ (by assumption))
    (first
      | (go_at_call_of 122 (Value.iface T x)
         refine (IHF.out _).mono ?_
         rintro e v1 ⟨rfl, x1⟩
         have y1 : Ext W1 v1 := Ext.trans ((Ext.refl W1).drew) x1)
      | (go_at_call_of 122 (Value.iface U y)
         refine (IHG.out _).mono ?_
         rintro e v2 ⟨rfl, x2⟩
         have y2 : Ext W1 v2 := Ext.trans y1 x2))
  have HY2 := Lib.hid (HX0.out.trans y2)
  clear y1 y2 x1 x2 HB HX0
  go_wp2_with fail
  go_ret
  exact ⟨rfl, HY2.out⟩

set_option maxRecDepth 100000 in
set_option maxHeartbeats 1000000 in
theorem qn_iff {w0 : World} {L : Nat} {f g : Fm} (ihf : QnIH w0 L f) (ihg : QnIH w0 L g) : QnIH w0 L (.iff f g) := by
  intro v W h
  obtain ⟨x, y, rfl, hx, hy⟩ := h
  have IHF := Lib.hid (fun W' => ihf x W' hx)
  have IHG := Lib.hid (fun W' => ihg y W' hy)
  obtain ⟨T, x, rfl⟩ := hx.iface
  obtain ⟨U, y, rfl⟩ := hy.iface
  have hb := f.qn_bd
  have hb2 := g.qn_bd
  unfold Fm.qn
  clear hx hy ihf ihg
  generalize f.qn = a at *
  generalize g.qn = b at *
  obtain ⟨c, hc⟩ : ∃ c, a + b = c := ⟨_, rfl⟩
  have hw : IntKind.i64.wrap (a + b) = c := by rw [hc]; exact IntWalk.i64_in _ (by omega)
  have hw2 : IntKind.i64.wrap (2 * c) = 2 * c := IntWalk.i64_in _ (by omega)
  have hcb : 0 ≤ c ∧ c ≤ 4294967294 := by omega
  rw [hc]
  clear hc
  obtain ⟨W1, hW⟩ : ∃ W1, W.alloc (.cells #[.iface T x, .iface U y] 166) = W1 := ⟨_, rfl⟩
  have HB : Hid (∀ W', Ext W1 W' → (Ext W1 W' ∧ W'.cell? ⟨W.heap.size, 0, none⟩ = some (.iface T x) ∧ W'.cell? ⟨W.heap.size, 1, none⟩ = some (.iface U y))) := by
    intro W' hx
    obtain ⟨hc, hf⟩ := hx.cells
    refine ⟨hx, ?_, ?_⟩ <;> (rw [hc _ _ (by rw [← hW]; simp), ← hW]; simp [go_sem])
  have HX0 : Hid (Ext W W1) := Lib.hid (by rw [← hW]; exact (Ext.refl W).alloc _)
  go_enter Tryz.func122, Tryz.ntmps122
  go_wp2_with fail
  clear hW
  go_region_held3 (fun W' => Ext W1 W' ∧ W'.cell? ⟨W.heap.size, 0, none⟩ = some (.iface T x) ∧ W'.cell? ⟨W.heap.size, 1, none⟩ = some (.iface U y))
    (first | exact HB.out _ ((Ext.refl W1).drew) | exact HB.out _ (by assumption))
    (first
      | (go_at_call_of 122 (Value.iface T x)
         refine (IHF.out _).mono ?_
         rintro e v1 ⟨rfl, x1⟩
         have y1 : Ext W1 v1 := Ext.trans ((Ext.refl W1).drew) x1)
      | (go_at_call_of 122 (Value.iface U y)
         refine (IHG.out _).mono ?_
         rintro e v2 ⟨rfl, x2⟩
         have y2 : Ext W1 v2 := Ext.trans y1 x2))
  have HY2 := Lib.hid (HX0.out.trans y2)
  clear y1 y2 x1 x2 HB HX0
  go_wp2_with fail
  go_ret
  exact ⟨rfl, HY2.out⟩

theorem qn_any {w0 : World} {L : Nat} (f : Fm) : QnIH w0 L f := by
  induction f with
  | truth b => exact qn_truth
  | atom l r k => exact qn_atom
  | not f ih => exact qn_not ih
  | and f g ihf ihg => exact qn_and ihf ihg
  | or f g ihf ihg => exact qn_or ihf ihg
  | imp f g ihf ihg => exact qn_imp ihf ihg
  | iff f g ihf ihg => exact qn_iff ihf ihg
  | quant a s f ih => exact qn_quant ih

theorem StrRow.base {w : World} {b b' : Nat} {v : Value} {l : List ByteArray} (h : StrRow w b v l) (hb : b' ≤ b) : StrRow w b' v l := by
  unfold StrRow World.ownsRow at h ⊢
  refine ⟨h.1, ?_⟩
  rcases h.2 with h | ⟨g, cap, cur, h1, h2, h3⟩
  · exact .inl h
  · exact .inr ⟨g, cap, cur, h1, by omega, h3⟩
/-- The error of Names. -/
def Fm.nmE (f : Fm) : Int := if f.chk = 0 then (if (f.free.length : Int) + f.qn ≤ 4 then 0 else 8) else f.chk
/-- The call returns names and no error, or an error. -/
def RetNames (f : Fm) (w : World) (e : Ending) (w' : World) : Prop := ∃ s, e = .returned (.tuple #[s, .int .i64 f.nmE]) ∧ (f.nmE = 0 → StrRow w' w.heap.size s f.free) ∧ (f.nmE ≠ 0 → s = .slice none 0 0) ∧ Ext w w'
theorem freeStep_len (a : ByteArray → Int) (s : ByteArray) (acc : List ByteArray) : (freeStep a s acc).length ≤ acc.length + 1 := by unfold freeStep; split <;> simp
theorem Tm.free_len (t : Tm) (a : ByteArray → Int) : ∀ acc : List ByteArray, (t.fold (freeStep a) acc).length ≤ acc.length + t.sz := by
  induction t <;> intro acc <;> simp only [Tm.fold, Tm.sz]
  case num => omega
  case name => exact freeStep_len _ _ _
  case add p q iha ihb => have := iha acc; have := ihb (p.fold (freeStep a) acc); omega
  case sub p q iha ihb => have := iha acc; have := ihb (p.fold (freeStep a) acc); omega
  case mul p q iha ihb => have := iha acc; have := ihb (p.fold (freeStep a) acc); omega
  case neg p iha => have := iha acc; omega
  case pow p e iha => have := iha acc; omega
theorem Fm.free_len (f : Fm) : ∀ (a : ByteArray → Int) (acc : List ByteArray), (f.fold freeStep a acc).length ≤ acc.length + f.sz := by
  induction f <;> intro a acc <;> simp only [Fm.fold, Fm.sz]
  case truth => omega
  case atom l r k => have := l.free_len a acc; have := k.free_len a (l.fold (freeStep a) acc); omega
  case not f ih => have := ih a acc; omega
  case quant al s f ih => have := ih (bump a s) acc; omega
  all_goals rename_i f g ihf ihg; have := ihf a acc; have := ihg a (f.fold freeStep a acc); omega

set_option maxRecDepth 100000 in
set_option maxHeartbeats 1000000 in
theorem names_any {w0 w : World} {L : Nat} (hs : L ≤ 1000000000000) (f : Fm) {v : Value} (hx0 : Ext w0 w) (h : FmV w0 L f v) (hl : f.sz ≤ 1099511627776) : Calls Tryz.prog 71 #[v] w (RetNames f w) := by
  have H := Lib.hid h
  have HC := Lib.hid (check_any hs f hx0 h hl)
  have HFR := Lib.hid (fun W' => free_any (w := W') f h hl)
  have HQ := Lib.hid (fun W' => qn_any f v W' h)
  have hq := f.qn_bd
  obtain ⟨T, x, rfl⟩ := h.iface
  unfold RetNames
  have HE : Hid (f.nmE = if f.chk = 0 then (if (f.free.length : Int) + f.qn ≤ 4 then 0 else 8) else f.chk) := Lib.hid rfl
  clear h hx0
  generalize f.nmE = res at *
  generalize f.chk = c at *
  generalize f.qn = q at *
  by_cases hc : c = 0
  · have hc' : (c != 0) = false := by simp [hc]
    have HC0 := Lib.hid hc
    clear hc
    go_enter Tryz.func71, Tryz.ntmps71
    go_wp2_with fail
    refine HC.out.mono ?_
    rintro e w1 ⟨rfl, x1⟩
    have X1 := Lib.hid x1
    clear x1
    go_wp2_with fail
    refine (HFR.out w1).mono ?_
    rintro e w2 ⟨v2, rfl, hrow, x2⟩
    obtain ⟨A, cc, e2, hn1, hn2, -⟩ := hrow.slr
    subst e2
    have X2 := Lib.hid (X1.out.trans x2)
    have HROW : Hid (StrRow w2 w.heap.size (.slice A f.free.length cc) f.free) := Lib.hid (hrow.base X1.out.size)
    have hfl : f.free.length ≤ 1099511627776 := Nat.le_trans (show f.free.length ≤ 0 + f.sz from f.free_len (fun _ => 0) []) (by omega)
    clear x2 hrow
    obtain ⟨n, hn⟩ : ∃ n, f.free.length = n := ⟨_, rfl⟩
    have HN := Lib.hid hn
    simp only [hn] at HROW HE hfl ⊢
    clear hn hn1 hn2
    have hw : IntKind.i64.wrap ((n : Int) + q) = (n : Int) + q := IntWalk.i64_in _ (by omega)
    by_cases hlt : 4 < (n : Int) + q
    · have HR : Hid (res = 8) := Lib.hid (by rw [HE.out, if_pos HC0.out, if_neg (by omega)])
      go_wp2_with fail
      refine (HQ.out w2).mono ?_
      rintro e w3 ⟨rfl, x3⟩
      have X3 := Lib.hid (X2.out.trans x3)
      clear x3
      go_wp2_with fail
      exact bodyPost_ret (v := .tuple #[.slice none 0 0, .int .i64 8]) (by simp [results, Tryz.results71, go_sem]) rfl ⟨_, by rw [HR.out], fun h => absurd h (by rw [HR.out]; decide), fun _ => rfl, X3.out⟩
    · have HR : Hid (res = 0) := Lib.hid (by rw [HE.out, if_pos HC0.out, if_pos (by omega)])
      go_wp2_with fail
      refine (HQ.out w2).mono ?_
      rintro e w3 ⟨rfl, x3⟩
      have X3 := Lib.hid (X2.out.trans x3)
      have HROW3 := Lib.hid (HROW.out.ext x3)
      clear x3
      go_wp2_with fail
      exact bodyPost_ret (v := .tuple #[.slice A n cc, .int .i64 0]) (by simp [results, Tryz.results71, go_sem]) rfl ⟨_, by rw [HR.out], fun _ => HROW3.out, fun h => absurd HR.out h, X3.out⟩
  · have hc' : (c != 0) = true := by simp [hc]
    have HR : Hid (res = c) := Lib.hid (by rw [HE.out, if_neg hc])
    have HC0 := Lib.hid hc
    clear hc
    go_enter Tryz.func71, Tryz.ntmps71
    go_wp2_with fail
    refine HC.out.mono ?_
    rintro e w1 ⟨rfl, x1⟩
    have X1 := Lib.hid x1
    clear x1
    go_wp2_with fail
    exact bodyPost_ret (v := .tuple #[.slice none 0 0, .int .i64 c]) (by simp [results, Tryz.results71, go_sem]) rfl ⟨_, by rw [HR.out], fun h => absurd (HR.out.symm.trans h) HC0.out, fun _ => rfl, X1.out⟩
end Go.Proofs.YtbanhcaahabboaaGreatDoor
