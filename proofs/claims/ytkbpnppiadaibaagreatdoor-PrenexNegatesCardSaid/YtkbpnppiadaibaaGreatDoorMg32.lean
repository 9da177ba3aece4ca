/- slices.Clone at []string; values of prenex forms. -/
import Derived.Test.YtkbpnppiadaibaaGreatDoorBldS
import Derived.Lib.SliceRun
import Derived.Test.YtkbpnppiadaibaaGreatDoorMg19
import Derived.Test.YtkbpnppiadaibaaGreatDoorMg23
set_option linter.unusedSimpArgs false
set_option linter.unusedVariables false

namespace Go.Proofs.YtkbpnppiadaibaaGreatDoor
open Go.RowKit

/-- A slice of strings. -/
def Strs (w : World) (v : Value) (l : List ByteArray) : Prop := SlR (fun _ (s : ByteArray) x => x = .string s) w v l
/-- A slice of Booleans. -/
def Bools (w : World) (v : Value) (l : List Bool) : Prop := SlR (fun _ (s : Bool) x => x = .bool s) w v l
theorem Strs.ext {w w' : World} {v : Value} {l : List ByteArray} (h : Strs w v l) (hx : Ext w w') : Strs w' v l := SlR.ext h (fun _ _ h => h) hx
theorem Bools.ext {w w' : World} {v : Value} {l : List Bool} (h : Bools w v l) (hx : Ext w w') : Bools w' v l := SlR.ext h (fun _ _ h => h) hx
theorem row_strs {base : Nat} {w : World} {v : Value} {l : List ByteArray} (h : GRow 9 1 base w v l.length (strs l)) : Strs w v l := StrRow.slr h.1
theorem SNm.strs_ {base : Nat} {w : World} {v : Value} {l : List ByteArray} {o : Option Nat} (h : SNm base w v l o) : Strs w v l := by
  rcases h with ⟨h, -⟩ | ⟨rfl, -, A, rfl⟩
  · exact row_strs h
  · exact ⟨A, 0, rfl, by simp, by simp, fun j hj => absurd hj (by simp)⟩
theorem row_bools {base : Nat} {w : World} {v : Value} {l : List Bool} (h : GRow 4 1 base w v l.length (bools l)) : Bools w v l := by
  rcases Nat.eq_zero_or_pos l.length with h0 | h0
  · obtain ⟨A, c, rfl, h1, h2⟩ := h.len
    exact ⟨A, c, rfl, h1, h2, fun j hj => by omega⟩
  · obtain ⟨g, c, rfl, h1, h2, h3, h4, -⟩ := h.pos h0
    refine ⟨_, c, rfl, h1, h2, fun j hj => ⟨_, _, rfl, h4, ?_, rfl⟩⟩
    rw [add_mk, Nat.zero_add, h.cell j (by omega)]
    simp [bools, hj]

set_option maxRecDepth 100000 in
set_option maxHeartbeats 1000000 in
theorem clone_any {w : World} {v : Value} {l : List ByteArray} (h : Strs w v l) (hl : l.length ≤ 1000000) : Calls Tryz.prog 48 #[v] w fun e w' => ∃ v', e = .returned v' ∧ GRow 9 1 w.heap.size w' v' l.length (strs l) ∧ Ext w w' := by
  obtain ⟨A, c, rfl, h1, h2, h3⟩ := h
  cases A with
  | none =>
    have h0 : l = [] := by
      cases l with
      | nil => rfl
      | cons a r => obtain ⟨ad, x, e, -⟩ := h3 0 (by simp); cases e
    subst h0
    have he := Lib.run_eql_slice_nil (P := Tryz.prog) w 39 9 none 0 c 0 0 str_row.und
    go_enter Tryz.func48, Tryz.ntmps48
    go_wp2_with fail
    go_ret
    exact ⟨_, rfl, GRow.nil _ _ _ _, Ext.refl w⟩
  | some ad =>
    obtain ⟨W, hW⟩ : ∃ W, w.alloc (.cells #[] 9) = W := ⟨_, rfl⟩
    have hWx : Ext w W := by rw [← hW]; exact (Ext.refl w).alloc _
    have hrow : GRow 9 1 w.heap.size W (.slice (some ⟨w.heap.size, 0, none⟩) 0 0) 0 [] := by
      rw [← hW]
      refine ⟨World.ownsRow_made w #[] 0 (Nat.le_refl _) (by unfold maxLen; omega) (by simp), fun R cur T fr e hb u hu => ?_⟩
      have hR : w.heap.size = R := by simpa [Value.ownBlock] using e
      rw [← hR, heap_alloc_new] at hb
      injection hb with hb
      injection hb with hb
      rw [← hb] at hu
      simp at hu
    have hrun : ∃ v4 w4, (Builtin.append_ #[39, 39] 39 #[.slice (some ⟨w.heap.size, 0, none⟩) 0 0, .slice (some ad) l.length c]).run Tryz.prog W = .ok v4 w4 ∧ GRow 9 1 w.heap.size w4 v4 l.length (strs l) ∧ Ext w w4 := by
      rcases Nat.eq_zero_or_pos l.length with h0 | h0
      · have : l = [] := List.eq_nil_of_length_eq_zero h0
        subst this
        refine ⟨.slice (some ⟨w.heap.size, 0, none⟩) 0 0, W, ?_, hrow, hWx⟩
        obtain ⟨i0, hi, hz0, hz1, hz2⟩ := info_parts str_row.info
        simp [Builtin.append_, run_underlying str_row.und, sizeOf, typeInfo, hi, Builtin.lenOf, Builtin.firstCells, loadCells, loadCellsFrom, storeCells]
      · obtain ⟨v4, w4, e, r1, r2, -, -⟩ := GRow.append str_row hrow hWx.size ad l.length c (strs l) (by simp [strs]) (fun j u hu => by
          have hj : j < l.length := by
            rcases Nat.lt_or_ge j l.length with h | h
            · exact h
            · rw [List.getElem?_eq_none (by simpa [strs] using h)] at hu; cases hu
          obtain ⟨ad', x, e, hb, hc, hx⟩ := h3 j hj
          injection e with e
          subst e hx
          rw [hWx.cell (p := ad.add j) (by rw [block_of_add]; exact hb), hc, ← hu]
          simp [strs, hj]) (fun u hu => by
          simp only [strs, List.mem_map] at hu
          obtain ⟨s, -, rfl⟩ := hu
          exact ⟨rfl, rfl⟩) h0 (by omega) (by omega) 39
        refine ⟨v4, w4, e, by simpa using r1, ?_⟩
        exact ext_grown hWx r2 (fun R hR => by have := (hrow.own hR).1; omega)
    obtain ⟨v4, w4, hr, hg, hx⟩ := hrun
    have HRUN := Lib.hid hr
    have HF : Hid (GRow 9 1 w.heap.size w4 v4 l.length (strs l) ∧ Ext w w4) := Lib.hid ⟨hg, hx⟩
    have he := Lib.run_eql_slice_nil (P := Tryz.prog) w 39 9 (some ad) l.length c 0 0 str_row.und
    clear hr hg hx hrow hWx h3
    go_enter Tryz.func48, Tryz.ntmps48
    go_upto_region 3 with fail
    clear he
    iterate 16 (first | at_builtin | go_values | go_skip | go_guarded | go_step | go_upon | go_back | go_simp)
    refine wpList_append_run rfl (.tmp 5) (.tmp 6) _ _ rfl _ _ _ _ rfl rfl HRUN.out ?_
    clear HRUN
    go_wp2_with fail
    go_ret
    exact ⟨_, rfl, HF.out⟩
end Go.Proofs.YtkbpnppiadaibaaGreatDoor

/- Layer 38: prenex forms as values. -/
namespace Go.Proofs.YtkbpnppiadaibaaGreatDoor
open Go.RowKit

/-- A prenex form as a value. -/
def pxC (fr : Int) (all nms : Value) (m : Mx) (s A K : Value) : Value := .agg #[.int .i64 fr, all, nms, .int .i64 m.kind, .int .i64 m.rel, .int .i64 m.p.lv, .bool m.p.neg, s, A, K]
def PxV (w : World) (q : Nat → Prop) (fr : Int) (all : List Bool) (nms : List ByteArray) (m : Mx) (v : Value) : Prop :=
  ∃ A1 c1 A2 c2 A0 n0 c0 B n1 c3 K n2 c4, v = pxC fr (.slice A1 all.length c1) (.slice A2 nms.length c2) m (.slice A0 n0 c0) (.slice B n1 c3) (.slice K n2 c4) ∧ Bools w (.slice A1 all.length c1) all ∧ Strs w (.slice A2 nms.length c2) nms ∧ MxV w q m (mxV m (.slice A0 n0 c0) (.slice B n1 c3) (.slice K n2 c4))
theorem SlR.turn {α : Type} {P : α → Value → Prop} {w w' : World} {A : Option Addr} {n c : Nat} {l : List α} (h : SlR (fun _ => P) w (.slice A n c) l) (hs : w.heap.size ≤ w'.heap.size) (hb : ∀ ad, A = some ad → 0 < l.length → w'.heap[ad.block]? = w.heap[ad.block]?) : SlR (fun _ => P) w' (.slice A n c) l := by
  obtain ⟨A', c', e, h1, h2, h3⟩ := h
  injection e with e1 e2 e3
  subst e1 e2 e3
  refine ⟨A, c, rfl, h1, h2, fun j hj => ?_⟩
  obtain ⟨ad, x, rfl, hlt, hc, hp⟩ := h3 j hj
  exact ⟨ad, x, rfl, Nat.lt_of_lt_of_le hlt hs, (World.cell?_of_block (a := ad.add j) (by rw [block_of_add]; exact hb ad rfl (by omega))).trans hc, hp⟩
theorem PxV.ext {w w' : World} {q : Nat → Prop} {fr : Int} {all : List Bool} {nms : List ByteArray} {m : Mx} {v : Value} (h : PxV w q fr all nms m v) (hx : Ext w w') : PxV w' q fr all nms m v := by
  obtain ⟨A1, c1, A2, c2, A0, n0, c0, B, n1, c3, K, n2, c4, e, h1, h2, h3⟩ := h
  exact ⟨A1, c1, A2, c2, A0, n0, c0, B, n1, c3, K, n2, c4, e, h1.ext hx, h2.ext hx, h3.ext hx⟩
theorem natV_setCells (b : Nat) : ∀ (vs : List Value) (o : Nat) (w : World), (∀ j, j < vs.length → ∃ u, w.cell? ⟨b, o + j, none⟩ = some u ∧ isDig u = false) → ∀ x ds, NatV w x ds → NatV (w.setCells b o vs) x ds
  | [], o, w, _, x, ds, h => h
  | v :: vs, o, w, hu, x, ds, h => by
    obtain ⟨u, h1, h2⟩ := hu 0 (by simp)
    refine natV_setCells b vs (o + 1) (w.setCell ⟨b, o, none⟩ v) (fun j hj => ?_) x ds (h.box h1 h2 v)
    obtain ⟨u', h3, h4⟩ := hu (j + 1) (by simpa using hj)
    refine ⟨u', ?_, h4⟩
    rw [World.cell?_setCell_other _ _ _ _ (by intro e; injection e; omega), ← h3]
    congr 2; omega
theorem ext_setCells {w : World} {b : Nat} (hb : w.heap.size ≤ b) : ∀ (vs : List Value) (o : Nat) (w' : World), Ext w w' → Ext w (w'.setCells b o vs)
  | [], o, w', h => h
  | v :: vs, o, w', h => ext_setCells hb vs (o + 1) (w'.setCell ⟨b, o, none⟩ v) (h.setCell hb v)
theorem block_setCells {b i : Nat} (hne : i ≠ b) : ∀ (vs : List Value) (o : Nat) (w : World), (w.setCells b o vs).heap[i]? = w.heap[i]?
  | [], o, w => rfl
  | v :: vs, o, w => (block_setCells hne vs (o + 1) (w.setCell ⟨b, o, none⟩ v)).trans (Below.heap_setCell w _ v i hne)
theorem size_setCells {b : Nat} : ∀ (vs : List Value) (o : Nat) (w : World), (w.setCells b o vs).heap.size = w.heap.size
  | [], o, w => rfl
  | v :: vs, o, w => (size_setCells vs (o + 1) (w.setCell ⟨b, o, none⟩ v)).trans (by simp [World.setCell])
theorem frozen_setCells {b : Nat} : ∀ (vs : List Value) (o : Nat) (w : World) (a : Addr), (w.setCells b o vs).frozen? a = w.frozen? a
  | [], o, w, a => rfl
  | v :: vs, o, w, a => (frozen_setCells vs (o + 1) (w.setCell ⟨b, o, none⟩ v) a).trans (by simp [go_sem])
/-- Ten cells are written. -/
def set10 (W : World) (g : Nat) (u0 u1 u2 u3 u4 u5 u6 u7 u8 u9 : Value) : World :=
  (((((((((W.setCell ⟨g, 0, none⟩ u0).setCell ⟨g, 1, none⟩ u1).setCell ⟨g, 2, none⟩ u2).setCell ⟨g, 3, none⟩ u3).setCell ⟨g, 4, none⟩ u4).setCell ⟨g, 5, none⟩ u5).setCell ⟨g, 6, none⟩ u6).setCell ⟨g, 7, none⟩ u7).setCell ⟨g, 8, none⟩ u8).setCell ⟨g, 9, none⟩ u9
theorem set10_cells (W : World) (g : Nat) (u0 u1 u2 u3 u4 u5 u6 u7 u8 u9 : Value) : set10 W g u0 u1 u2 u3 u4 u5 u6 u7 u8 u9 = W.setCells g 0 [u0, u1, u2, u3, u4, u5, u6, u7, u8, u9] := rfl
/-- A prenex form is stored into the cells of the result. -/
theorem close_px {w Wf : World} {g : Nat} {q q' : Nat → Prop} {fr : Int} {all : List Bool} {nms : List ByteArray} {m : Mx} {A1 A2 A0 B K : Option Addr} {c1 c2 n0 c0 n1 c3 n2 c4 : Nat} (hx : Ext w Wf) (hg : w.heap.size ≤ g) (hz : ∀ j, j < 10 → ∃ u, Wf.cell? ⟨g, j, none⟩ = some u ∧ isDig u = false)
    (h1 : Bools Wf (.slice A1 all.length c1) all) (k1 : ∀ ad, A1 = some ad → 0 < all.length → ad.block ≠ g) (h2 : Strs Wf (.slice A2 nms.length c2) nms) (k2 : ∀ ad, A2 = some ad → 0 < nms.length → ad.block ≠ g)
    (hm : MxV Wf q m (mxV m (.slice A0 n0 c0) (.slice B n1 c3) (.slice K n2 c4))) (hq : ∀ b, b < Wf.heap.size → q b → b ≠ g ∧ q' b) :
    Ext w (set10 Wf g (.int .i64 fr) (.slice A1 all.length c1) (.slice A2 nms.length c2) (.int .i64 m.kind) (.int .i64 m.rel) (.int .i64 m.p.lv) (.bool m.p.neg) (.slice A0 n0 c0) (.slice B n1 c3) (.slice K n2 c4)) ∧
    PxV (set10 Wf g (.int .i64 fr) (.slice A1 all.length c1) (.slice A2 nms.length c2) (.int .i64 m.kind) (.int .i64 m.rel) (.int .i64 m.p.lv) (.bool m.p.neg) (.slice A0 n0 c0) (.slice B n1 c3) (.slice K n2 c4)) q' fr all nms m (pxC fr (.slice A1 all.length c1) (.slice A2 nms.length c2) m (.slice A0 n0 c0) (.slice B n1 c3) (.slice K n2 c4)) := by
  rw [set10_cells]
  have hb : ∀ i, i ≠ g → (Wf.setCells g 0 [.int .i64 fr, .slice A1 all.length c1, .slice A2 nms.length c2, .int .i64 m.kind, .int .i64 m.rel, .int .i64 m.p.lv, .bool m.p.neg, .slice A0 n0 c0, .slice B n1 c3, .slice K n2 c4]).heap[i]? = Wf.heap[i]? := fun i hi => block_setCells hi _ _ _
  have hs := size_setCells (b := g) [.int .i64 fr, .slice A1 all.length c1, .slice A2 nms.length c2, .int .i64 m.kind, .int .i64 m.rel, .int .i64 m.p.lv, .bool m.p.neg, .slice A0 n0 c0, .slice B n1 c3, .slice K n2 c4] 0 Wf
  have hn := natV_setCells g [.int .i64 fr, .slice A1 all.length c1, .slice A2 nms.length c2, .int .i64 m.kind, .int .i64 m.rel, .int .i64 m.p.lv, .bool m.p.neg, .slice A0 n0 c0, .slice B n1 c3, .slice K n2 c4] 0 Wf (fun j hj => by rw [Nat.zero_add]; exact hz j (by simpa using hj))
  have hxx := ext_setCells hg [.int .i64 fr, .slice A1 all.length c1, .slice A2 nms.length c2, .int .i64 m.kind, .int .i64 m.rel, .int .i64 m.p.lv, .bool m.p.neg, .slice A0 n0 c0, .slice B n1 c3, .slice K n2 c4] 0 Wf hx
  generalize Wf.setCells g 0 [.int .i64 fr, .slice A1 all.length c1, .slice A2 nms.length c2, .int .i64 m.kind, .int .i64 m.rel, .int .i64 m.p.lv, .bool m.p.neg, .slice A0 n0 c0, .slice B n1 c3, .slice K n2 c4] = W' at *
  exact ⟨hxx, _, _, _, _, _, _, _, _, _, _, _, _, _, rfl, SlR.turn h1 (by omega) (fun ad e h => hb _ (k1 ad e h)), SlR.turn h2 (by omega) (fun ad e h => hb _ (k2 ad e h)), MxV.turn_ (by omega) hn (fun b hlt hqb => ⟨(hq b hlt hqb).2, hb b (hq b hlt hqb).1⟩) hm⟩
end Go.Proofs.YtkbpnppiadaibaaGreatDoor

/- Reference 38: FewForm: is a prenex form of a size that is looked at? -/
namespace Go.Proofs.YtkbpnppiadaibaaGreatDoor
open Go.RowKit

/-- Ten cells in a box. -/
theorem box10 (w : World) (T : TypeId) (v0 v1 v2 v3 v4 v5 v6 v7 v8 v9 : Value) : ∀ W, w.alloc (.cells #[v0, v1, v2, v3, v4, v5, v6, v7, v8, v9] T) = W → Ext w W ∧ W.heap.size = w.heap.size + 1 ∧ (W.cell? ⟨w.heap.size, 0, none⟩ = some v0 ∧ W.cell? ⟨w.heap.size, 1, none⟩ = some v1 ∧ W.cell? ⟨w.heap.size, 2, none⟩ = some v2 ∧ W.cell? ⟨w.heap.size, 3, none⟩ = some v3 ∧ W.cell? ⟨w.heap.size, 4, none⟩ = some v4 ∧ W.cell? ⟨w.heap.size, 5, none⟩ = some v5 ∧ W.cell? ⟨w.heap.size, 6, none⟩ = some v6 ∧ W.cell? ⟨w.heap.size, 7, none⟩ = some v7 ∧ W.cell? ⟨w.heap.size, 8, none⟩ = some v8 ∧ W.cell? ⟨w.heap.size, 9, none⟩ = some v9) := by
  rintro W rfl
  refine ⟨(Ext.refl w).alloc _, by simp, ?_, ?_, ?_, ?_, ?_, ?_, ?_, ?_, ?_, ?_⟩ <;> simp [go_sem]

end Go.Proofs.YtkbpnppiadaibaaGreatDoor

/- Layer 38: a prenex form in the making: its Booleans are pushed one by one. -/
namespace Go.Proofs.YtkbpnppiadaibaaGreatDoor
open Go.RowKit

/-- The ten cells of a prenex form. -/
def Box10 (w : World) (g : Nat) (fr : Int) (a n : Value) (m : Mx) (s A K : Value) : Prop := w.cell? ⟨g, 0, none⟩ = some (.int .i64 fr) ∧ w.cell? ⟨g, 1, none⟩ = some a ∧ w.cell? ⟨g, 2, none⟩ = some n ∧ w.cell? ⟨g, 3, none⟩ = some (.int .i64 m.kind) ∧ w.cell? ⟨g, 4, none⟩ = some (.int .i64 m.rel) ∧ w.cell? ⟨g, 5, none⟩ = some (.int .i64 m.p.lv) ∧ w.cell? ⟨g, 6, none⟩ = some (.bool m.p.neg) ∧ w.cell? ⟨g, 7, none⟩ = some s ∧ w.cell? ⟨g, 8, none⟩ = some A ∧ w.cell? ⟨g, 9, none⟩ = some K
theorem Box10.turn {w w' : World} {g : Nat} {fr : Int} {a n : Value} {m : Mx} {s A K : Value} (h : Box10 w g fr a n m s A K) (hb : w'.heap[g]? = w.heap[g]?) : Box10 w' g fr a n m s A K := by
  have k : ∀ j, w'.cell? ⟨g, j, none⟩ = w.cell? ⟨g, j, none⟩ := fun j => World.cell?_of_block (a := ⟨g, j, none⟩) hb
  obtain ⟨b0, b1, b2, b3, b4, b5, b6, b7, b8, b9⟩ := h
  exact ⟨(k 0).trans b0, (k 1).trans b1, (k 2).trans b2, (k 3).trans b3, (k 4).trans b4, (k 5).trans b5, (k 6).trans b6, (k 7).trans b7, (k 8).trans b8, (k 9).trans b9⟩
/-- Ten cells of the zero value, which may be written. -/
def Zero10 (w : World) (g : Nat) : Prop := (w.cell? ⟨g, 0, none⟩ = some (.int .i64 0) ∧ w.cell? ⟨g, 1, none⟩ = some (.slice none 0 0) ∧ w.cell? ⟨g, 2, none⟩ = some (.slice none 0 0) ∧ w.cell? ⟨g, 3, none⟩ = some (.int .i64 0) ∧ w.cell? ⟨g, 4, none⟩ = some (.int .i64 0) ∧ w.cell? ⟨g, 5, none⟩ = some (.int .i64 0) ∧ w.cell? ⟨g, 6, none⟩ = some (.bool false) ∧ w.cell? ⟨g, 7, none⟩ = some (.slice none 0 0) ∧ w.cell? ⟨g, 8, none⟩ = some (.slice none 0 0) ∧ w.cell? ⟨g, 9, none⟩ = some (.slice none 0 0)) ∧ ∀ i, w.frozen? ⟨g, i, none⟩ = false
theorem Zero10.turn {w w' : World} {g : Nat} (h : Zero10 w g) (hb : w'.heap[g]? = w.heap[g]?) : Zero10 w' g := by
  have k : ∀ j, w'.cell? ⟨g, j, none⟩ = w.cell? ⟨g, j, none⟩ := fun j => World.cell?_of_block (a := ⟨g, j, none⟩) hb
  obtain ⟨⟨b0, b1, b2, b3, b4, b5, b6, b7, b8, b9⟩, hf⟩ := h
  exact ⟨⟨(k 0).trans b0, (k 1).trans b1, (k 2).trans b2, (k 3).trans b3, (k 4).trans b4, (k 5).trans b5, (k 6).trans b6, (k 7).trans b7, (k 8).trans b8, (k 9).trans b9⟩, fun i => (World.frozen?_of_block (a := ⟨g, i, none⟩) hb).trans (hf i)⟩
theorem Zero10.ext {w w' : World} {g : Nat} (h : Zero10 w g) (hx : Ext w w') (hg : g < w.heap.size) : Zero10 w' g := h.turn (hx.below.block g hg)
theorem Zero10.new (w : World) (T : TypeId) : Zero10 (w.alloc (.cells #[.int .i64 0, .slice none 0 0, .slice none 0 0, .int .i64 0, .int .i64 0, .int .i64 0, .bool false, .slice none 0 0, .slice none 0 0, .slice none 0 0] T)) w.heap.size :=
  ⟨(box10 w T _ _ _ _ _ _ _ _ _ _ _ rfl).2.2, fun i => by simp [go_sem]⟩
theorem Zero10.dig {w : World} {g : Nat} (h : Zero10 w g) : ∀ j, j < 10 → ∃ u, w.cell? ⟨g, j, none⟩ = some u ∧ isDig u = false := by
  obtain ⟨⟨b0, b1, b2, b3, b4, b5, b6, b7, b8, b9⟩, -⟩ := h
  intro j hj
  rcases Nat.lt_or_ge j 5 with h5 | h5
  · rcases (by omega : j = 0 ∨ j = 1 ∨ j = 2 ∨ j = 3 ∨ j = 4) with rfl | rfl | rfl | rfl | rfl
    · exact ⟨_, b0, rfl⟩
    · exact ⟨_, b1, rfl⟩
    · exact ⟨_, b2, rfl⟩
    · exact ⟨_, b3, rfl⟩
    · exact ⟨_, b4, rfl⟩
  · rcases (by omega : j = 5 ∨ j = 6 ∨ j = 7 ∨ j = 8 ∨ j = 9) with rfl | rfl | rfl | rfl | rfl
    · exact ⟨_, b5, rfl⟩
    · exact ⟨_, b6, rfl⟩
    · exact ⟨_, b7, rfl⟩
    · exact ⟨_, b8, rfl⟩
    · exact ⟨_, b9, rfl⟩
theorem set10_block (W : World) (g : Nat) (u0 u1 u2 u3 u4 u5 u6 u7 u8 u9 : Value) {i : Nat} (hi : i ≠ g) : (set10 W g u0 u1 u2 u3 u4 u5 u6 u7 u8 u9).heap[i]? = W.heap[i]? := by
  rw [set10_cells]; exact block_setCells hi _ _ _
theorem set10_size (W : World) (g : Nat) (u0 u1 u2 u3 u4 u5 u6 u7 u8 u9 : Value) : (set10 W g u0 u1 u2 u3 u4 u5 u6 u7 u8 u9).heap.size = W.heap.size := by
  rw [set10_cells]; exact size_setCells _ _ _
theorem cell_setCells_low {b : Nat} : ∀ (vs : List Value) (o : Nat) (w : World) (i : Nat), i < o → (w.setCells b o vs).cell? ⟨b, i, none⟩ = w.cell? ⟨b, i, none⟩
  | [], o, w, i, h => rfl
  | v :: vs, o, w, i, h => (cell_setCells_low vs (o + 1) (w.setCell ⟨b, o, none⟩ v) i (by omega)).trans (World.cell?_setCell_other _ _ _ _ (by intro e; injection e; omega))
theorem cell_setCells {b : Nat} : ∀ (vs : List Value) (o : Nat) (w : World) (j : Nat), j < vs.length → (∃ u, w.cell? ⟨b, o + j, none⟩ = some u) → (w.setCells b o vs).cell? ⟨b, o + j, none⟩ = vs[j]?
  | [], o, w, j, h, _ => absurd h (Nat.not_lt_zero j)
  | v :: vs, o, w, 0, h, hu => by
    obtain ⟨u, hu⟩ := hu
    exact (cell_setCells_low vs (o + 1) (w.setCell ⟨b, o, none⟩ v) (o + 0) (by omega)).trans (World.cell?_setCell_same _ _ _ hu)
  | v :: vs, o, w, j + 1, h, hu => by
    obtain ⟨u, hu⟩ := hu
    have h1 := cell_setCells vs (o + 1) (w.setCell ⟨b, o, none⟩ v) j (by simpa using h) ⟨u, by
      rw [World.cell?_setCell_other _ _ _ _ (by intro e; injection e; omega), ← hu]
      congr 2; omega⟩
    rw [show o + (j + 1) = o + 1 + j by omega]
    exact h1
theorem set10_box {W : World} {g : Nat} (h : Zero10 W g) (fr : Int) (a n : Value) (m : Mx) (s A K : Value) : Box10 (set10 W g (.int .i64 fr) a n (.int .i64 m.kind) (.int .i64 m.rel) (.int .i64 m.p.lv) (.bool m.p.neg) s A K) g fr a n m s A K := by
  have hu := fun j hj => (h.dig j hj)
  have k : ∀ j, j < 10 → (set10 W g (.int .i64 fr) a n (.int .i64 m.kind) (.int .i64 m.rel) (.int .i64 m.p.lv) (.bool m.p.neg) s A K).cell? ⟨g, j, none⟩ = [Value.int .i64 fr, a, n, .int .i64 m.kind, .int .i64 m.rel, .int .i64 m.p.lv, .bool m.p.neg, s, A, K][j]? := fun j hj => by
    rw [set10_cells]
    obtain ⟨u, h1, -⟩ := hu j hj
    have h2 := cell_setCells (b := g) [Value.int .i64 fr, a, n, .int .i64 m.kind, .int .i64 m.rel, .int .i64 m.p.lv, .bool m.p.neg, s, A, K] 0 W j (by simpa using hj) ⟨u, by rw [Nat.zero_add]; exact h1⟩
    rw [Nat.zero_add] at h2
    exact h2
  exact ⟨k 0 (by omega), k 1 (by omega), k 2 (by omega), k 3 (by omega), k 4 (by omega), k 5 (by omega), k 6 (by omega), k 7 (by omega), k 8 (by omega), k 9 (by omega)⟩
theorem names_far {base : Nat} {W : World} {nms : List ByteArray} {E0 : Option Addr} {g0 : Nat} (h : GRow 9 1 base W (.slice E0 nms.length g0) nms.length (strs nms)) : ∀ ad, E0 = some ad → 0 < nms.length → base ≤ ad.block ∧ ad.block < W.heap.size := by
  intro ad e hpos
  obtain ⟨g, c, e', -, -, h1, h2, -⟩ := h.pos hpos
  injection e' with e1
  rw [e1] at e
  injection e with e
  rw [← e]
  exact ⟨h1, h2⟩
/-- A prenex form in the making: its Booleans so far. -/
def NegG (w : World) (o : Nat) (fr : Int) (nms : List ByteArray) (m : Mx) (E0 : Option Addr) (g0 : Nat) (D0 : Option Addr) (j0 f0 : Nat) (D1 : Option Addr) (j1 f1 : Nat) (D2 : Option Addr) (j2 f2 : Nat) (done : List Bool) (wr : World) : Prop :=
  Ext w wr ∧ (w.heap.size + 1 < o ∧ o < wr.heap.size) ∧ Zero10 wr (w.heap.size + 1) ∧ ∃ AL cL, (Box10 wr o fr (.slice AL done.length cL) (.slice E0 nms.length g0) m (.slice D0 j0 f0) (.slice D1 j1 f1) (.slice D2 j2 f2) ∧ ∀ i, wr.frozen? ⟨o, i, none⟩ = false) ∧ GRow 4 1 (w.heap.size + 2) wr (.slice AL done.length cL) done.length (bools done) ∧ (Value.slice AL done.length cL).ownBlock ≠ some o ∧
    (Strs wr (.slice E0 nms.length g0) nms ∧ ∀ ad, E0 = some ad → 0 < nms.length → w.heap.size + 1 < ad.block ∧ ad.block < wr.heap.size ∧ ad.block ≠ o ∧ (Value.slice AL done.length cL).ownBlock ≠ some ad.block) ∧ MxV wr (fun b => w.heap.size + 1 < b ∧ b ≠ o ∧ (Value.slice AL done.length cL).ownBlock ≠ some b) m (mxV m (.slice D0 j0 f0) (.slice D1 j1 f1) (.slice D2 j2 f2))
section
variable {w wr : World} {o : Nat} {fr : Int} {nms : List ByteArray} {m : Mx} {E0 D0 D1 D2 : Option Addr} {g0 j0 f0 j1 f1 j2 f2 : Nat} {done : List Bool}
theorem NegG.start {q : Nat → Prop} (hx : Ext w wr) (ho : w.heap.size + 1 < o ∧ o < wr.heap.size) (hz : Zero10 wr (w.heap.size + 1)) (hb : Box10 wr o fr (.slice none 0 0) (.slice E0 nms.length g0) m (.slice D0 j0 f0) (.slice D1 j1 f1) (.slice D2 j2 f2)) (hf : ∀ i, wr.frozen? ⟨o, i, none⟩ = false) (hs : Strs wr (.slice E0 nms.length g0) nms) (he : ∀ ad, E0 = some ad → 0 < nms.length → w.heap.size + 1 < ad.block ∧ ad.block < wr.heap.size ∧ ad.block ≠ o)
    (hm : MxV wr q m (mxV m (.slice D0 j0 f0) (.slice D1 j1 f1) (.slice D2 j2 f2))) (hq : ∀ b, b < wr.heap.size → q b → w.heap.size + 1 < b ∧ b ≠ o) : NegG w o fr nms m E0 g0 D0 j0 f0 D1 j1 f1 D2 j2 f2 [] wr :=
  ⟨hx, ho, hz, none, 0, ⟨hb, hf⟩, GRow.nil _ _ _ _, (by intro e; cases e), ⟨hs, fun ad e h => ⟨(he ad e h).1, (he ad e h).2.1, (he ad e h).2.2, by intro e; cases e⟩⟩, MxV.turn_ (Nat.le_refl _) (fun _ _ h => h) (fun b hlt hqb => ⟨⟨(hq b hlt hqb).1, (hq b hlt hqb).2, by intro e; cases e⟩, rfl⟩) hm⟩
/-- Ten zero cells are overwritten by those of a form without Booleans. -/
theorem NegG.start_set {q : Nat → Prop} (hx : Ext w wr) (ho : w.heap.size + 1 < o ∧ o < wr.heap.size) (hz : Zero10 wr (w.heap.size + 1)) (hzo : Zero10 wr o) (hs : Strs wr (.slice E0 nms.length g0) nms) (he : ∀ ad, E0 = some ad → 0 < nms.length → w.heap.size + 1 < ad.block ∧ ad.block < wr.heap.size ∧ ad.block ≠ o)
    (hm : MxV wr q m (mxV m (.slice D0 j0 f0) (.slice D1 j1 f1) (.slice D2 j2 f2))) (hq : ∀ b, b < wr.heap.size → q b → w.heap.size + 1 < b ∧ b ≠ o) :
    NegG w o fr nms m E0 g0 D0 j0 f0 D1 j1 f1 D2 j2 f2 [] (set10 wr o (.int .i64 fr) (.slice none 0 0) (.slice E0 nms.length g0) (.int .i64 m.kind) (.int .i64 m.rel) (.int .i64 m.p.lv) (.bool m.p.neg) (.slice D0 j0 f0) (.slice D1 j1 f1) (.slice D2 j2 f2)) := by
  have hbox := set10_box hzo fr (.slice none 0 0) (.slice E0 nms.length g0) m (.slice D0 j0 f0) (.slice D1 j1 f1) (.slice D2 j2 f2)
  have hb := fun i (hi : i ≠ o) => set10_block wr o (.int .i64 fr) (.slice none 0 0) (.slice E0 nms.length g0) (.int .i64 m.kind) (.int .i64 m.rel) (.int .i64 m.p.lv) (.bool m.p.neg) (.slice D0 j0 f0) (.slice D1 j1 f1) (.slice D2 j2 f2) hi
  have hsz := set10_size wr o (.int .i64 fr) (.slice none 0 0) (.slice E0 nms.length g0) (.int .i64 m.kind) (.int .i64 m.rel) (.int .i64 m.p.lv) (.bool m.p.neg) (.slice D0 j0 f0) (.slice D1 j1 f1) (.slice D2 j2 f2)
  have hfr : ∀ a, (set10 wr o (.int .i64 fr) (.slice none 0 0) (.slice E0 nms.length g0) (.int .i64 m.kind) (.int .i64 m.rel) (.int .i64 m.p.lv) (.bool m.p.neg) (.slice D0 j0 f0) (.slice D1 j1 f1) (.slice D2 j2 f2)).frozen? a = wr.frozen? a := fun a => by rw [set10_cells]; exact frozen_setCells _ _ _ _
  have hn := natV_setCells o [.int .i64 fr, .slice none 0 0, .slice E0 nms.length g0, .int .i64 m.kind, .int .i64 m.rel, .int .i64 m.p.lv, .bool m.p.neg, .slice D0 j0 f0, .slice D1 j1 f1, .slice D2 j2 f2] 0 wr (fun j hj => by rw [Nat.zero_add]; exact hzo.dig j (by simpa using hj))
  rw [← set10_cells] at hn
  have hxx := ext_setCells (by omega : w.heap.size ≤ o) [.int .i64 fr, .slice none 0 0, .slice E0 nms.length g0, .int .i64 m.kind, .int .i64 m.rel, .int .i64 m.p.lv, .bool m.p.neg, .slice D0 j0 f0, .slice D1 j1 f1, .slice D2 j2 f2] 0 wr hx
  rw [← set10_cells] at hxx
  generalize set10 wr o (.int .i64 fr) (.slice none 0 0) (.slice E0 nms.length g0) (.int .i64 m.kind) (.int .i64 m.rel) (.int .i64 m.p.lv) (.bool m.p.neg) (.slice D0 j0 f0) (.slice D1 j1 f1) (.slice D2 j2 f2) = W' at *
  exact NegG.start (q := q) hxx ⟨ho.1, by omega⟩ (hz.turn (hb _ (by omega))) hbox (fun i => (hfr _).trans (hzo.2 i)) (SlR.turn hs (by omega) (fun ad e h => hb _ (he ad e h).2.2)) (fun ad e h => by have := he ad e h; exact ⟨this.1, by omega, this.2.2⟩) (MxV.turn_ (by omega) hn (fun b hlt hqb => ⟨hqb, hb b (hq b hlt hqb).2⟩) hm) (fun b hlt hqb => hq b (by omega) hqb)
theorem NegG.step (h : NegG w o fr nms m E0 g0 D0 j0 f0 D1 j1 f1 D2 j2 f2 done wr) (hlen : done.length ≤ 1000) : ∃ AL cL, wr.cell? ⟨o, 1, none⟩ = some (.slice AL done.length cL) ∧ done.length ≤ cL ∧ cL ≤ 9223372036854775807 ∧
    ∀ (b : Bool) (ty : TypeId), ∃ AL' cL' w4, (Builtin.append_ #[38, 38] ty #[.slice AL done.length cL, .slice (some ⟨wr.heap.size, 0, none⟩) 1 1]).run Tryz.prog (wr.alloc (.cells #[.bool b] 4)) = .ok (.slice AL' (done.length + 1) cL') w4 ∧
      w4.cell? ⟨o, 1, none⟩ = some (.slice AL done.length cL) ∧ w4.frozen? ⟨o, 1, none⟩ = false ∧ NegG w o fr nms m E0 g0 D0 j0 f0 D1 j1 f1 D2 j2 f2 (done ++ [b]) (w4.setCell ⟨o, 1, none⟩ (.slice AL' (done.length + 1) cL')) := by
  obtain ⟨hx, ho, hz, AL, cL, ⟨hb, hf⟩, hg, hgo, ⟨hs, he⟩, hm⟩ := h
  obtain ⟨A', c', e', hc1, hc2⟩ := hg.len
  injection e' with e1 e2 e3
  subst e1 e3
  refine ⟨AL, cL, hb.2.1, hc1, hc2, fun b ty => ?_⟩
  have hown : ∀ R, (Value.slice AL done.length cL).ownBlock = some R → w.heap.size + 2 ≤ R ∧ R < wr.heap.size := fun R hR => hg.own hR
  obtain ⟨v4, w4, hrun, h4, hgb, hnat, hv4⟩ := bool_push hg (by omega) b (by omega) ty
  obtain ⟨AL', cL', rfl, hc1', hc2'⟩ := h4.len
  have el : (done ++ [b]).length = done.length + 1 := by simp
  rw [el] at hrun h4 hv4
  have hblk : ∀ i, i < wr.heap.size → (Value.slice AL done.length cL).ownBlock ≠ some i → w4.heap[i]? = wr.heap[i]? := fun i hi hne => World.grownBy.block hgb i hi (fun e => hne e.symm)
  have hs4 := hgb.size
  have hbo := hblk o ho.2 hgo
  have hb4 := hb.turn hbo
  have hf4 : ∀ i, w4.frozen? ⟨o, i, none⟩ = false := fun i => (World.frozen?_of_block (a := ⟨o, i, none⟩) hbo).trans (hf i)
  have hx4 : Ext w w4 := Below.grown hx.below hgb (by have := hx.size; omega) (fun b e => by have := hown b e; omega)
  have oo : ∀ i, i ≠ 1 → (w4.setCell ⟨o, 1, none⟩ (.slice AL' (done.length + 1) cL')).cell? ⟨o, i, none⟩ = w4.cell? ⟨o, i, none⟩ := fun i hi => World.cell?_setCell_other _ _ _ _ (by intro e; injection e; omega)
  have far : ∀ i, i ≠ o → (w4.setCell ⟨o, 1, none⟩ (.slice AL' (done.length + 1) cL')).heap[i]? = w4.heap[i]? := fun i hi => Below.heap_setCell w4 _ _ i hi
  have hv : ∀ i, i < wr.heap.size → (Value.slice AL done.length cL).ownBlock ≠ some i → (Value.slice AL' (done.length + 1) cL').ownBlock ≠ some i := by
    intro i hi hne e
    rcases hv4 with h | ⟨g, h, hgg⟩
    · exact hne (h ▸ e)
    · rw [h] at e; injection e with e; omega
  obtain ⟨p0, p1, p2, p3, p4, p5, p6, p7, p8, p9⟩ := hb4
  refine ⟨AL', cL', w4, hrun, p1, hf4 1, hx4.setCell (by show w.heap.size ≤ o; omega) _, ⟨ho.1, ?_⟩, (hz.turn (hblk _ (by omega) (fun e => by have := hown _ e; omega))).turn (far _ (by omega)), AL', cL', ?_⟩
  · have : (w4.setCell ⟨o, 1, none⟩ (.slice AL' (done.length + 1) cL')).heap.size = w4.heap.size := by simp [World.setCell]
    omega
  · rw [el]
    have hsz : (w4.setCell ⟨o, 1, none⟩ (.slice AL' (done.length + 1) cL')).heap.size = w4.heap.size := by simp [World.setCell]
    refine ⟨⟨⟨(oo 0 (by omega)).trans p0, World.cell?_setCell_same _ _ _ p1, (oo 2 (by omega)).trans p2, (oo 3 (by omega)).trans p3, (oo 4 (by omega)).trans p4, (oo 5 (by omega)).trans p5, (oo 6 (by omega)).trans p6, (oo 7 (by omega)).trans p7, (oo 8 (by omega)).trans p8, (oo 9 (by omega)).trans p9⟩, fun i => by simpa [go_sem] using hf4 i⟩, h4.turn (fun R hR => far R (fun e => hv o ho.2 hgo (e ▸ hR))), hv o ho.2 hgo, ⟨?_, ?_⟩, ?_⟩
    · exact SlR.turn hs (by omega) (fun ad e h => (far _ (he ad e h).2.2.1).trans (hblk _ (he ad e h).2.1 (he ad e h).2.2.2))
    · intro ad e h
      have := he ad e h
      exact ⟨this.1, by omega, this.2.2.1, hv _ this.2.1 this.2.2.2⟩
    · exact MxV.turn_ (by omega) (fun v ds hv => (hnat v ds hv).box p1 rfl _) (fun b hlt hqb => ⟨⟨hqb.1, hqb.2.1, hv b hlt hqb.2.2⟩, (far b hqb.2.1).trans (hblk b hlt hqb.2.2)⟩) hm
theorem NegG.fin (h : NegG w o fr nms m E0 g0 D0 j0 f0 D1 j1 f1 D2 j2 f2 done wr) : ∃ AL cL, Box10 wr o fr (.slice AL done.length cL) (.slice E0 nms.length g0) m (.slice D0 j0 f0) (.slice D1 j1 f1) (.slice D2 j2 f2) ∧ Zero10 wr (w.heap.size + 1) ∧
    Ext w (set10 wr (w.heap.size + 1) (.int .i64 fr) (.slice AL done.length cL) (.slice E0 nms.length g0) (.int .i64 m.kind) (.int .i64 m.rel) (.int .i64 m.p.lv) (.bool m.p.neg) (.slice D0 j0 f0) (.slice D1 j1 f1) (.slice D2 j2 f2)) ∧
    PxV (set10 wr (w.heap.size + 1) (.int .i64 fr) (.slice AL done.length cL) (.slice E0 nms.length g0) (.int .i64 m.kind) (.int .i64 m.rel) (.int .i64 m.p.lv) (.bool m.p.neg) (.slice D0 j0 f0) (.slice D1 j1 f1) (.slice D2 j2 f2)) (fun b => w.heap.size ≤ b) fr done nms m (pxC fr (.slice AL done.length cL) (.slice E0 nms.length g0) m (.slice D0 j0 f0) (.slice D1 j1 f1) (.slice D2 j2 f2)) := by
  obtain ⟨hx, ho, hz, AL, cL, ⟨hb, hf⟩, hg, hgo, ⟨hs, he⟩, hm⟩ := h
  refine ⟨AL, cL, hb, hz, close_px hx (by omega) hz.dig (row_bools hg) (fun ad e hpos => ?_) hs (fun ad e hpos => by have := he ad e hpos; omega) hm (fun b _ hqb => ⟨by omega, by omega⟩)⟩
  obtain ⟨g, c, e', -, -, hbase, -⟩ := hg.pos hpos
  injection e' with e1 e2 e3
  rw [e1] at e
  injection e with e
  rw [← e]
  show g ≠ _
  omega
end
end Go.Proofs.YtkbpnppiadaibaaGreatDoor

/- Layer 38: a matrix in the making whose other fields are given. -/
namespace Go.Proofs.YtkbpnppiadaibaaGreatDoor
open Go.RowKit

/-- A matrix of these parts is in the making. -/
def GrowK (w : World) (o : Nat) (m : Mx) (s A K : Value) (mo : Mx) (so Ao : Value) (l : List Mx) (wr : World) : Prop :=
  Ext w wr ∧ (w.heap.size + 1 < o ∧ o + 1 ≤ wr.heap.size) ∧ Box7 wr w.heap.size m s A K ∧ Zero7 wr (w.heap.size + 1) ∧ ∃ ov, (Box7 wr (o) mo so Ao ov ∧ ∀ i, wr.frozen? ⟨o, i, none⟩ = false) ∧ MRow (o + 1) wr ov l
theorem GrowK.step {w : World} {o : Nat} {m : Mx} {s A K : Value} {mo : Mx} {so Ao : Value} {l : List Mx} {wr : World} (h : GrowK w o m s A K mo so Ao l wr) (hlen : l.length ≤ 1000000) : ∃ AV cv, wr.cell? ⟨o, 6, none⟩ = some (.slice AV l.length cv) ∧ l.length ≤ cv ∧ cv ≤ 9223372036854775807 ∧
    ∀ (w3 : World) (x : Mx) (A0 A1 K1 : Option Addr) (n0 c0 n1 c1 n2 c2 : Nat) (ty : TypeId), Ext wr w3 → MxV w3 (fun b => wr.heap.size ≤ b) x (mxV x (.slice A0 n0 c0) (.slice A1 n1 c1) (.slice K1 n2 c2)) → ∃ AV' cv' w4,
      (Builtin.append_ #[43, 43] ty #[.slice AV l.length cv, .slice (some ⟨w3.heap.size, 0, none⟩) 1 1]).run Tryz.prog (w3.alloc (.cells #[.int .i64 x.kind, .int .i64 x.rel, .int .i64 x.p.lv, .bool x.p.neg, .slice A0 n0 c0, .slice A1 n1 c1, .slice K1 n2 c2] 45)) = .ok (.slice AV' (l.length + 1) cv') w4 ∧
      w4.cell? ⟨o, 6, none⟩ = some (.slice AV l.length cv) ∧ w4.frozen? ⟨o, 6, none⟩ = false ∧ GrowK w o m s A K mo so Ao (l ++ [x]) (w4.setCell ⟨o, 6, none⟩ (.slice AV' (l.length + 1) cv')) := by
  obtain ⟨hx, ⟨ho, hb⟩, hbx, hz, ov, ⟨hO, hf⟩, hk⟩ := h
  obtain ⟨AV, cv, rfl, hc1, hc2⟩ := hk.len
  refine ⟨AV, cv, hO.2.2.2.2.2.2, hc1, hc2, ?_⟩
  intro w3 x A0 A1 K1 n0 c0 n1 c1 n2 c2 ty h3 ht
  have hs3 := h3.size
  have hown : ∀ R, (Value.slice AV l.length cv).ownBlock = some R → o + 1 ≤ R ∧ R < wr.heap.size := fun R hR => hk.own hR
  obtain ⟨v4, w4, hrun, hgb, hnat, hk4⟩ := hk.step h3 hb ht hlen ty
  obtain ⟨AV', cv', rfl, hc1', hc2'⟩ := hk4.len
  have el : (l ++ [x]).length = l.length + 1 := by simp
  rw [el] at hrun hk4
  have hblk : ∀ i, i < o + 1 → w4.heap[i]? = wr.heap[i]? := fun i hi => (World.grownBy.block hgb i (by omega) (fun e => by have := hown i e.symm; omega)).trans (h3.below.block i (by omega))
  have hO4 : Box7 w4 (o) mo so Ao (.slice AV l.length cv) := hO.turn (hblk _ (by omega))
  have hf4 : ∀ i, w4.frozen? ⟨o, i, none⟩ = false := fun i => (World.frozen?_of_block (a := ⟨o, i, none⟩) (hblk (o) (by omega))).trans (hf i)
  have hs4 := hgb.size
  have hx4 : Ext w w4 := Below.grown (hx.trans h3).below hgb (by omega) (fun b e => by have := hown b e; omega)
  have oo : ∀ i, i ≠ 6 → (w4.setCell ⟨o, 6, none⟩ (.slice AV' (l.length + 1) cv')).cell? ⟨o, i, none⟩ = w4.cell? ⟨o, i, none⟩ := fun i hi => World.cell?_setCell_other _ _ _ _ (by intro e; injection e; omega)
  have far : ∀ i, i ≠ o → (w4.setCell ⟨o, 6, none⟩ (.slice AV' (l.length + 1) cv')).heap[i]? = w4.heap[i]? := fun i hi => Below.heap_setCell w4 _ _ i hi
  obtain ⟨p0, p1, p2, p3, p4, p5, p6⟩ := hO4
  refine ⟨AV', cv', w4, hrun, p6, hf4 6, ?_, ⟨ho, ?_⟩, ?_, ⟨?_, fun i => ?_⟩, _, ⟨⟨(oo 0 (by omega)).trans p0, (oo 1 (by omega)).trans p1, (oo 2 (by omega)).trans p2, (oo 3 (by omega)).trans p3, (oo 4 (by omega)).trans p4, (oo 5 (by omega)).trans p5, World.cell?_setCell_same _ _ _ p6⟩, fun i => by simpa [go_sem] using hf4 i⟩, ?_⟩
  · exact hx4.setCell (by show w.heap.size ≤ o; omega) _
  · simp; omega
  · exact hbx.turn ((far _ (by omega)).trans (hblk _ (by omega)))
  · exact hz.1.turn ((far _ (by omega)).trans (hblk _ (by omega)))
  · exact (World.frozen?_of_block (a := ⟨w.heap.size + 1, i, none⟩) ((far (w.heap.size + 1) (by omega)).trans (hblk (w.heap.size + 1) (by omega)))).trans (hz.2 i)
  · exact hk4.turn (by simp) (fun b hb' hlt => far b (by omega)) (fun v ds hv => hv.box p6 rfl _)
/-- The matrix is made: it is read out of its cells. -/
theorem GrowK.fin {w : World} {o : Nat} {m : Mx} {s A K : Value} {mo : Mx} {so Ao : Value} {l : List Mx} {wr : World} (h : GrowK w o m s A K mo so Ao l wr) {q : Nat → Prop} (hp : PlV wr q mo.p (plV mo.p so Ao)) (hq : ∀ b, o + 1 ≤ b → q b) : ∃ AV cv, Box7 wr (o) mo so Ao (.slice AV l.length cv) ∧ Zero7 wr (w.heap.size + 1) ∧ MxV wr q (.mk mo.kind mo.rel mo.p l) (mxV (.mk mo.kind mo.rel mo.p l) so Ao (.slice AV l.length cv)) := by
  obtain ⟨hx, ⟨ho, hb⟩, hbx, hz, ov, ⟨hO, hf⟩, hk⟩ := h
  obtain ⟨AV, cv, rfl, hc1, hc2⟩ := hk.len
  exact ⟨AV, cv, hO, hz, MxV.mk (t := .mk mo.kind mo.rel mo.p l) hp hc1 hc2 (MxsAt.turn (Nat.le_refl _) (fun _ _ h => h) (fun b _ h => ⟨hq b h, rfl⟩) l AV 0 hk.at_)⟩
end Go.Proofs.YtkbpnppiadaibaaGreatDoor
