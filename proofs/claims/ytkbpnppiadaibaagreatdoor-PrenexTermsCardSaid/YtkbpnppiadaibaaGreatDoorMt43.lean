/- slices.Clone at []string; values of prenex forms. -/
import Derived.Test.YtkbpnppiadaibaaGreatDoorMt41
import Derived.Lib.SliceRun
import Derived.Test.YtkbpnppiadaibaaGreatDoorCheck
import Derived.Lib.MinMax
import Derived.Test.YtkbpnppiadaibaaGreatDoorMt42
import Derived.Test.YtkbpnppiadaibaaGreatDoorMt39
set_option linter.unusedSimpArgs false
set_option linter.unusedVariables false

set_option maxRecDepth 100000
set_option maxHeartbeats 8000000
namespace Go.Proofs.YtkbpnppiadaibaaGreatDoor
open Go.RowKit
def Strs (w : World) (v : Value) (l : List ByteArray) : Prop := SlR (fun _ (s : ByteArray) x => x = .string s) w v l
def Bools (w : World) (v : Value) (l : List Bool) : Prop := SlR (fun _ (s : Bool) x => x = .bool s) w v l
theorem Strs.ext {w w' : World} {v : Value} {l : List ByteArray} (h : Strs w v l) (hx : Ext w w') : Strs w' v l := SlR.ext h (fun _ _ h => h) hx
theorem Bools.ext {w w' : World} {v : Value} {l : List Bool} (h : Bools w v l) (hx : Ext w w') : Bools w' v l := SlR.ext h (fun _ _ h => h) hx
theorem row_strs {base : Nat} {w : World} {v : Value} {l : List ByteArray} (h : GRow 9 1 base w v l.length (strs l)) : Strs w v l := StrRow.slr h.1
theorem SNm.strs_ {base : Nat} {w : World} {v : Value} {l : List ByteArray} {o : Option Nat} (h : SNm base w v l o) : Strs w v l := by
 rcases h with ⟨h, -⟩ | ⟨rfl, -, A, rfl⟩
 · exact row_strs h
 · exact ⟨A, 0, rfl, by simp, by simp, fun j hj => absurd hj (by simp)⟩
theorem row_bools {base : Nat} {w : World} {v : Value} {l : List Bool} (h : GRow 4 1 base w v l.length (bools l)) : Bools w v l := by
 rcases Nat.eq_zero_or_pos l.length with h0 | h0
 · obtain ⟨A, c, rfl, h1, h2⟩ := h.len
   exact ⟨A, c, rfl, h1, h2, fun j hj => by omega⟩
 · obtain ⟨g, c, rfl, h1, h2, h3, h4, -⟩ := h.pos h0
   refine ⟨_, c, rfl, h1, h2, fun j hj => ⟨_, _, rfl, h4, ?_, rfl⟩⟩
   rw [add_mk, Nat.zero_add, h.cell j (by omega)]
   simp [bools, hj]
theorem clone_any {w : World} {v : Value} {l : List ByteArray} (h : Strs w v l) (hl : l.length ≤ 1000000) : Calls Tryz.prog 48 #[v] w fun e w' => ∃ v', e = .returned v' ∧ GRow 9 1 w.heap.size w' v' l.length (strs l) ∧ Ext w w' := by
 obtain ⟨A, c, rfl, h1, h2, h3⟩ := h
 cases A with
 | none =>
   have h0 : l = [] := by
    cases l with
    | nil => rfl
    | cons a r => obtain ⟨ad, x, e, -⟩ := h3 0 (by simp); cases e
   subst h0
   have he := Lib.run_eql_slice_nil (P := Tryz.prog) w 39 9 none 0 c 0 0 str_row.und
   go_enter Tryz.func48, Tryz.ntmps48
   go_wp2_with fail
   go_ret
   exact ⟨_, rfl, GRow.nil _ _ _ _, Ext.refl w⟩
 | some ad =>
   obtain ⟨W, hW⟩ : ∃ W, w.alloc (.cells #[] 9) = W := ⟨_, rfl⟩
   have hWx : Ext w W := by rw [← hW]; exact (Ext.refl w).alloc _
   have hrow : GRow 9 1 w.heap.size W (.slice (some ⟨w.heap.size, 0, none⟩) 0 0) 0 [] := by
    rw [← hW]
    refine ⟨World.ownsRow_made w #[] 0 (Nat.le_refl _) (by unfold maxLen; omega) (by simp), fun R cur T fr e hb u hu => ?_⟩
    have hR : w.heap.size = R := by simpa [Value.ownBlock] using e
    rw [← hR, heap_alloc_new] at hb
    injection hb with hb
    injection hb with hb
    rw [← hb] at hu
    simp at hu
   have hrun : ∃ v4 w4, (Builtin.append_ #[39, 39] 39 #[.slice (some ⟨w.heap.size, 0, none⟩) 0 0, .slice (some ad) l.length c]).run Tryz.prog W = .ok v4 w4 ∧ GRow 9 1 w.heap.size w4 v4 l.length (strs l) ∧ Ext w w4 := by
    rcases Nat.eq_zero_or_pos l.length with h0 | h0
    · have : l = [] := List.eq_nil_of_length_eq_zero h0
      subst this
      refine ⟨.slice (some ⟨w.heap.size, 0, none⟩) 0 0, W, ?_, hrow, hWx⟩
      obtain ⟨i0, hi, hz0, hz1, hz2⟩ := info_parts str_row.info
      simp [Builtin.append_, run_underlying str_row.und, sizeOf, typeInfo, hi, Builtin.lenOf, Builtin.firstCells, loadCells, loadCellsFrom, storeCells]
    · obtain ⟨v4, w4, e, r1, r2, -, -⟩ := GRow.append str_row hrow hWx.size ad l.length c (strs l) (by simp [strs]) (fun j u hu => by
       have hj : j < l.length := by
        rcases Nat.lt_or_ge j l.length with h | h
        · exact h
        · rw [List.getElem?_eq_none (by simpa [strs] using h)] at hu; cases hu
       obtain ⟨ad', x, e, hb, hc, hx⟩ := h3 j hj
       injection e with e
       subst e hx
       rw [hWx.cell (p := ad.add j) (by rw [block_of_add]; exact hb), hc, ← hu]
       simp [strs, hj]) (fun u hu => by
       simp only [strs, List.mem_map] at hu
       obtain ⟨s, -, rfl⟩ := hu
       exact ⟨rfl, rfl⟩) h0 (by omega) (by omega) 39
      refine ⟨v4, w4, e, by simpa using r1, ?_⟩
      exact ext_grown hWx r2 (fun R hR => by have := (hrow.own hR).1; omega)
   obtain ⟨v4, w4, hr, hg, hx⟩ := hrun
   have HRUN := Lib.hid hr
   have HF : Hid (GRow 9 1 w.heap.size w4 v4 l.length (strs l) ∧ Ext w w4) := Lib.hid ⟨hg, hx⟩
   have he := Lib.run_eql_slice_nil (P := Tryz.prog) w 39 9 (some ad) l.length c 0 0 str_row.und
   clear hr hg hx hrow hWx h3
   go_enter Tryz.func48, Tryz.ntmps48
   go_upto_region 3 with fail
   clear he
   iterate 16 (first | at_builtin | go_values | go_skip | go_guarded | go_step | go_upon | go_back | go_simp)
   refine wpList_append_run rfl (.tmp 5) (.tmp 6) _ _ rfl _ _ _ _ rfl rfl HRUN.out ?_
   clear HRUN
   go_wp2_with fail
   go_ret
   exact ⟨_, rfl, HF.out⟩
end Go.Proofs.YtkbpnppiadaibaaGreatDoor

/- Layer 38: prenex forms as values. -/
namespace Go.Proofs.YtkbpnppiadaibaaGreatDoor
open Go.RowKit
def pxC (fr : Int) (all nms : Value) (m : Mx) (s A K : Value) : Value := .agg #[.int .i64 fr, all, nms, .int .i64 m.kind, .int .i64 m.rel, .int .i64 m.p.lv, .bool m.p.neg, s, A, K]
def PxV (w : World) (q : Nat → Prop) (fr : Int) (all : List Bool) (nms : List ByteArray) (m : Mx) (v : Value) : Prop :=
 ∃ A1 c1 A2 c2 A0 n0 c0 B n1 c3 K n2 c4, v = pxC fr (.slice A1 all.length c1) (.slice A2 nms.length c2) m (.slice A0 n0 c0) (.slice B n1 c3) (.slice K n2 c4) ∧ Bools w (.slice A1 all.length c1) all ∧ Strs w (.slice A2 nms.length c2) nms ∧ MxV w q m (mxV m (.slice A0 n0 c0) (.slice B n1 c3) (.slice K n2 c4))
theorem SlR.turn {α : Type} {P : α → Value → Prop} {w w' : World} {A : Option Addr} {n c : Nat} {l : List α} (h : SlR (fun _ => P) w (.slice A n c) l) (hs : w.heap.size ≤ w'.heap.size) (hb : ∀ ad, A = some ad → 0 < l.length → w'.heap[ad.block]? = w.heap[ad.block]?) : SlR (fun _ => P) w' (.slice A n c) l := by
 obtain ⟨A', c', e, h1, h2, h3⟩ := h
 injection e with e1 e2 e3
 subst e1 e2 e3
 refine ⟨A, c, rfl, h1, h2, fun j hj => ?_⟩
 obtain ⟨ad, x, rfl, hlt, hc, hp⟩ := h3 j hj
 exact ⟨ad, x, rfl, Nat.lt_of_lt_of_le hlt hs, (World.cell?_of_block (a := ad.add j) (by rw [block_of_add]; exact hb ad rfl (by omega))).trans hc, hp⟩
theorem PxV.ext {w w' : World} {q : Nat → Prop} {fr : Int} {all : List Bool} {nms : List ByteArray} {m : Mx} {v : Value} (h : PxV w q fr all nms m v) (hx : Ext w w') : PxV w' q fr all nms m v := by
 obtain ⟨A1, c1, A2, c2, A0, n0, c0, B, n1, c3, K, n2, c4, e, h1, h2, h3⟩ := h
 exact ⟨A1, c1, A2, c2, A0, n0, c0, B, n1, c3, K, n2, c4, e, h1.ext hx, h2.ext hx, h3.ext hx⟩
theorem natV_setCells (b : Nat) : ∀ (vs : List Value) (o : Nat) (w : World), (∀ j, j < vs.length → ∃ u, w.cell? ⟨b, o + j, none⟩ = some u ∧ isDig u = false) → ∀ x ds, NatV w x ds → NatV (w.setCells b o vs) x ds
 | [], o, w, _, x, ds, h => h
 | v :: vs, o, w, hu, x, ds, h => by
   obtain ⟨u, h1, h2⟩ := hu 0 (by simp)
   refine natV_setCells b vs (o + 1) (w.setCell ⟨b, o, none⟩ v) (fun j hj => ?_) x ds (h.box h1 h2 v)
   obtain ⟨u', h3, h4⟩ := hu (j + 1) (by simpa using hj)
   refine ⟨u', ?_, h4⟩
   rw [World.cell?_setCell_other _ _ _ _ (by intro e; injection e; omega), ← h3]
   congr 2; omega
theorem ext_setCells {w : World} {b : Nat} (hb : w.heap.size ≤ b) : ∀ (vs : List Value) (o : Nat) (w' : World), Ext w w' → Ext w (w'.setCells b o vs)
 | [], o, w', h => h
 | v :: vs, o, w', h => ext_setCells hb vs (o + 1) (w'.setCell ⟨b, o, none⟩ v) (h.setCell hb v)
theorem block_setCells {b i : Nat} (hne : i ≠ b) : ∀ (vs : List Value) (o : Nat) (w : World), (w.setCells b o vs).heap[i]? = w.heap[i]?
 | [], o, w => rfl
 | v :: vs, o, w => (block_setCells hne vs (o + 1) (w.setCell ⟨b, o, none⟩ v)).trans (Below.heap_setCell w _ v i hne)
theorem size_setCells {b : Nat} : ∀ (vs : List Value) (o : Nat) (w : World), (w.setCells b o vs).heap.size = w.heap.size
 | [], o, w => rfl
 | v :: vs, o, w => (size_setCells vs (o + 1) (w.setCell ⟨b, o, none⟩ v)).trans (by simp [World.setCell])
def set10 (W : World) (g : Nat) (u0 u1 u2 u3 u4 u5 u6 u7 u8 u9 : Value) : World :=
 (((((((((W.setCell ⟨g, 0, none⟩ u0).setCell ⟨g, 1, none⟩ u1).setCell ⟨g, 2, none⟩ u2).setCell ⟨g, 3, none⟩ u3).setCell ⟨g, 4, none⟩ u4).setCell ⟨g, 5, none⟩ u5).setCell ⟨g, 6, none⟩ u6).setCell ⟨g, 7, none⟩ u7).setCell ⟨g, 8, none⟩ u8).setCell ⟨g, 9, none⟩ u9
theorem set10_cells (W : World) (g : Nat) (u0 u1 u2 u3 u4 u5 u6 u7 u8 u9 : Value) : set10 W g u0 u1 u2 u3 u4 u5 u6 u7 u8 u9 = W.setCells g 0 [u0, u1, u2, u3, u4, u5, u6, u7, u8, u9] := rfl
theorem close_px {w Wf : World} {g : Nat} {q q' : Nat → Prop} {fr : Int} {all : List Bool} {nms : List ByteArray} {m : Mx} {A1 A2 A0 B K : Option Addr} {c1 c2 n0 c0 n1 c3 n2 c4 : Nat} (hx : Ext w Wf) (hg : w.heap.size ≤ g) (hz : ∀ j, j < 10 → ∃ u, Wf.cell? ⟨g, j, none⟩ = some u ∧ isDig u = false)
 (h1 : Bools Wf (.slice A1 all.length c1) all) (k1 : ∀ ad, A1 = some ad → 0 < all.length → ad.block ≠ g) (h2 : Strs Wf (.slice A2 nms.length c2) nms) (k2 : ∀ ad, A2 = some ad → 0 < nms.length → ad.block ≠ g)
 (hm : MxV Wf q m (mxV m (.slice A0 n0 c0) (.slice B n1 c3) (.slice K n2 c4))) (hq : ∀ b, b < Wf.heap.size → q b → b ≠ g ∧ q' b) :
 Ext w (set10 Wf g (.int .i64 fr) (.slice A1 all.length c1) (.slice A2 nms.length c2) (.int .i64 m.kind) (.int .i64 m.rel) (.int .i64 m.p.lv) (.bool m.p.neg) (.slice A0 n0 c0) (.slice B n1 c3) (.slice K n2 c4)) ∧
 PxV (set10 Wf g (.int .i64 fr) (.slice A1 all.length c1) (.slice A2 nms.length c2) (.int .i64 m.kind) (.int .i64 m.rel) (.int .i64 m.p.lv) (.bool m.p.neg) (.slice A0 n0 c0) (.slice B n1 c3) (.slice K n2 c4)) q' fr all nms m (pxC fr (.slice A1 all.length c1) (.slice A2 nms.length c2) m (.slice A0 n0 c0) (.slice B n1 c3) (.slice K n2 c4)) := by
 rw [set10_cells]
 have hb : ∀ i, i ≠ g → (Wf.setCells g 0 [.int .i64 fr, .slice A1 all.length c1, .slice A2 nms.length c2, .int .i64 m.kind, .int .i64 m.rel, .int .i64 m.p.lv, .bool m.p.neg, .slice A0 n0 c0, .slice B n1 c3, .slice K n2 c4]).heap[i]? = Wf.heap[i]? := fun i hi => block_setCells hi _ _ _
 have hs := size_setCells (b := g) [.int .i64 fr, .slice A1 all.length c1, .slice A2 nms.length c2, .int .i64 m.kind, .int .i64 m.rel, .int .i64 m.p.lv, .bool m.p.neg, .slice A0 n0 c0, .slice B n1 c3, .slice K n2 c4] 0 Wf
 have hn := natV_setCells g [.int .i64 fr, .slice A1 all.length c1, .slice A2 nms.length c2, .int .i64 m.kind, .int .i64 m.rel, .int .i64 m.p.lv, .bool m.p.neg, .slice A0 n0 c0, .slice B n1 c3, .slice K n2 c4] 0 Wf (fun j hj => by rw [Nat.zero_add]; exact hz j (by simpa using hj))
 have hxx := ext_setCells hg [.int .i64 fr, .slice A1 all.length c1, .slice A2 nms.length c2, .int .i64 m.kind, .int .i64 m.rel, .int .i64 m.p.lv, .bool m.p.neg, .slice A0 n0 c0, .slice B n1 c3, .slice K n2 c4] 0 Wf hx
 generalize Wf.setCells g 0 [.int .i64 fr, .slice A1 all.length c1, .slice A2 nms.length c2, .int .i64 m.kind, .int .i64 m.rel, .int .i64 m.p.lv, .bool m.p.neg, .slice A0 n0 c0, .slice B n1 c3, .slice K n2 c4] = W' at *
 exact ⟨hxx, _, _, _, _, _, _, _, _, _, _, _, _, _, rfl, SlR.turn h1 (by omega) (fun ad e h => hb _ (k1 ad e h)), SlR.turn h2 (by omega) (fun ad e h => hb _ (k2 ad e h)), MxV.turn_ (by omega) hn (fun b hlt hqb => ⟨(hq b hlt hqb).2, hb b (hq b hlt hqb).1⟩) hm⟩
end Go.Proofs.YtkbpnppiadaibaaGreatDoor

/- Layer 38: prenex.quantifiers, Names. -/
set_option maxRecDepth 100000
set_option maxHeartbeats 8000000
namespace Go.Proofs.YtkbpnppiadaibaaGreatDoor
open Go.RowKit
attribute [local go_sem] as_Num as_Name as_Add as_Sub as_Mul as_Neg as_Pow as_Truth as_Atom as_Not as_And as_Or as_Implies as_Iff as_Quant
def Fm.qn : Fm → Int
 | .truth _ => 0
 | .atom _ _ _ => 0
 | .not f => min f.qn 2147483647
 | .and f g => min (f.qn + g.qn) 2147483647
 | .or f g => min (f.qn + g.qn) 2147483647
 | .imp f g => min (f.qn + g.qn) 2147483647
 | .iff f g => min (2 * (f.qn + g.qn)) 2147483647
 | .quant _ _ f => min (1 + f.qn) 2147483647
theorem Fm.qn_bd (f : Fm) : 0 ≤ f.qn ∧ f.qn ≤ 2147483647 := by induction f <;> simp only [Fm.qn] <;> omega
def QnIH (w0 : World) (L : Nat) (f : Fm) : Prop := ∀ (v : Value) (W : World), FmV w0 L f v → Calls Tryz.prog 103 #[v] W (RetI f.qn W)
theorem qn_truth {w0 : World} {L : Nat} {b : Bool} : QnIH w0 L (.truth b) := by
 intro v W h
 obtain rfl := h
 go_enter Tryz.func103, Tryz.ntmps103
 go_wp2_with fail
 go_ret
 exact ⟨rfl, Ext.refl _⟩
theorem qn_atom {w0 : World} {L : Nat} {l k : Tm} {r : Int} : QnIH w0 L (.atom l r k) := by
 intro v W h
 obtain ⟨x, y, rfl, hx, hy⟩ := h
 obtain ⟨T, x, rfl⟩ := hx.iface
 obtain ⟨U, y, rfl⟩ := hy.iface
 clear hx hy
 go_enter Tryz.func103, Tryz.ntmps103
 go_wp2_with fail
 go_ret
 exact ⟨rfl, Ext.refl _⟩
theorem qn_not {w0 : World} {L : Nat} {f : Fm}  (ih : QnIH w0 L f) : QnIH w0 L (.not f) := by
 intro v W h
 obtain ⟨x, rfl, hx⟩ := h
 have IH := Lib.hid (fun W' => ih x W' hx)
 obtain ⟨T, x, rfl⟩ := hx.iface
 have hb := f.qn_bd
 unfold Fm.qn
 clear hx ih
 generalize f.qn = a at *
 go_enter Tryz.func103, Tryz.ntmps103
 go_wp2_with fail
 refine (IH.out _).mono ?_
 rintro e w1 ⟨rfl, x1⟩
 have X1 := Lib.hid (Ext.trans ((Ext.refl W).alloc _) x1)
 clear x1
 go_wp2_with fail
 go_ret
 exact ⟨rfl, X1.out⟩
theorem qn_quant {w0 : World} {L : Nat} {f : Fm} {al : Bool} {s : ByteArray} (ih : QnIH w0 L f) : QnIH w0 L (.quant al s f) := by
 intro v W h
 obtain ⟨x, rfl, hx⟩ := h
 have IH := Lib.hid (fun W' => ih x W' hx)
 obtain ⟨T, x, rfl⟩ := hx.iface
 have hb := f.qn_bd
 unfold Fm.qn
 clear hx ih
 generalize f.qn = a at *
 have hw : IntKind.i64.wrap (1 + a) = 1 + a := IntWalk.i64_in _ (by omega)
 go_enter Tryz.func103, Tryz.ntmps103
 go_wp2_with fail
 refine (IH.out _).mono ?_
 rintro e w1 ⟨rfl, x1⟩
 have X1 := Lib.hid (Ext.trans ((Ext.refl W).alloc _) x1)
 clear x1
 go_wp2_with fail
 go_ret
 exact ⟨rfl, X1.out⟩
theorem qn_and {w0 : World} {L : Nat} {f g : Fm} (ihf : QnIH w0 L f) (ihg : QnIH w0 L g) : QnIH w0 L (.and f g) := by
 intro v W h
 obtain ⟨x, y, rfl, hx, hy⟩ := h
 have IHF := Lib.hid (fun W' => ihf x W' hx)
 have IHG := Lib.hid (fun W' => ihg y W' hy)
 obtain ⟨T, x, rfl⟩ := hx.iface
 obtain ⟨U, y, rfl⟩ := hy.iface
 have hb := f.qn_bd
 have hb2 := g.qn_bd
 unfold Fm.qn
 clear hx hy ihf ihg
 generalize f.qn = a at *
 generalize g.qn = b at *
 obtain ⟨c, hc⟩ : ∃ c, a + b = c := ⟨_, rfl⟩
 have hw : IntKind.i64.wrap (a + b) = c := by rw [hc]; exact IntWalk.i64_in _ (by omega)
 have hcb : 0 ≤ c ∧ c ≤ 4294967294 := by omega
 rw [hc]
 clear hc
 obtain ⟨W1, hW⟩ : ∃ W1, W.alloc (.cells #[.iface T x, .iface U y] 158) = W1 := ⟨_, rfl⟩
 have HB : Hid (∀ W', Ext W1 W' → (Ext W1 W' ∧ W'.cell? ⟨W.heap.size, 0, none⟩ = some (.iface T x) ∧ W'.cell? ⟨W.heap.size, 1, none⟩ = some (.iface U y))) := by
  intro W' hx
  obtain ⟨hc, hf⟩ := hx.cells
  refine ⟨hx, ?_, ?_⟩ <;> (rw [hc _ _ (by rw [← hW]; simp), ← hW]; simp [go_sem])
 have HX0 : Hid (Ext W W1) := Lib.hid (by rw [← hW]; exact (Ext.refl W).alloc _)
 go_enter Tryz.func103, Tryz.ntmps103
 go_wp2_with fail
 clear hW
 go_region_held3 (fun W' => Ext W1 W' ∧ W'.cell? ⟨W.heap.size, 0, none⟩ = some (.iface T x) ∧ W'.cell? ⟨W.heap.size, 1, none⟩ = some (.iface U y))
  (first | exact HB.out _ ((Ext.refl W1).drew) | exact HB.out _ (by assumption))
  (first
    | (go_at_call_of 103 (Value.iface T x)
       refine (IHF.out _).mono ?_
       rintro e v1 ⟨rfl, x1⟩
       have y1 : Ext W1 v1 := Ext.trans ((Ext.refl W1).drew) x1)
    | (go_at_call_of 103 (Value.iface U y)
       refine (IHG.out _).mono ?_
       rintro e v2 ⟨rfl, x2⟩
       have y2 : Ext W1 v2 := Ext.trans y1 x2))
 have HY2 := Lib.hid (HX0.out.trans y2)
 clear y1 y2 x1 x2 HB HX0
 go_wp2_with fail
 go_ret
 exact ⟨rfl, HY2.out⟩
theorem qn_or {w0 : World} {L : Nat} {f g : Fm} (ihf : QnIH w0 L f) (ihg : QnIH w0 L g) : QnIH w0 L (.or f g) := by
 intro v W h
 obtain ⟨x, y, rfl, hx, hy⟩ := h
 have IHF := Lib.hid (fun W' => ihf x W' hx)
 have IHG := Lib.hid (fun W' => ihg y W' hy)
 obtain ⟨T, x, rfl⟩ := hx.iface
 obtain ⟨U, y, rfl⟩ := hy.iface
 have hb := f.qn_bd
 have hb2 := g.qn_bd
 unfold Fm.qn
 clear hx hy ihf ihg
 generalize f.qn = a at *
 generalize g.qn = b at *
 obtain ⟨c, hc⟩ : ∃ c, a + b = c := ⟨_, rfl⟩
 have hw : IntKind.i64.wrap (a + b) = c := by rw [hc]; exact IntWalk.i64_in _ (by omega)
 have hcb : 0 ≤ c ∧ c ≤ 4294967294 := by omega
 rw [hc]
 clear hc
 obtain ⟨W1, hW⟩ : ∃ W1, W.alloc (.cells #[.iface T x, .iface U y] 159) = W1 := ⟨_, rfl⟩
 have HB : Hid (∀ W', Ext W1 W' → (Ext W1 W' ∧ W'.cell? ⟨W.heap.size, 0, none⟩ = some (.iface T x) ∧ W'.cell? ⟨W.heap.size, 1, none⟩ = some (.iface U y))) := by
  intro W' hx
  obtain ⟨hc, hf⟩ := hx.cells
  refine ⟨hx, ?_, ?_⟩ <;> (rw [hc _ _ (by rw [← hW]; simp), ← hW]; simp [go_sem])
 have HX0 : Hid (Ext W W1) := Lib.hid (by rw [← hW]; exact (Ext.refl W).alloc _)
 go_enter Tryz.func103, Tryz.ntmps103
 go_wp2_with fail
 clear hW
 go_region_held3 (fun W' => Ext W1 W' ∧ W'.cell? ⟨W.heap.size, 0, none⟩ = some (.iface T x) ∧ W'.cell? ⟨W.heap.size, 1, none⟩ = some (.iface U y))
  (first | exact HB.out _ ((Ext.refl W1).drew) | exact HB.out _ (by assumption))
  (first
    | (go_at_call_of 103 (Value.iface T x)
       refine (IHF.out _).mono ?_
       rintro e v1 ⟨rfl, x1⟩
       have y1 : Ext W1 v1 := Ext.trans ((Ext.refl W1).drew) x1)
    | (go_at_call_of 103 (Value.iface U y)
       refine (IHG.out _).mono ?_
       rintro e v2 ⟨rfl, x2⟩
       have y2 : Ext W1 v2 := Ext.trans y1 x2))
 have HY2 := Lib.hid (HX0.out.trans y2)
 clear y1 y2 x1 x2 HB HX0
 go_wp2_with fail
 go_ret
 exact ⟨rfl, HY2.out⟩
theorem qn_imp {w0 : World} {L : Nat} {f g : Fm} (ihf : QnIH w0 L f) (ihg : QnIH w0 L g) : QnIH w0 L (.imp f g) := by
 intro v W h
 obtain ⟨x, y, rfl, hx, hy⟩ := h
 have IHF := Lib.hid (fun W' => ihf x W' hx)
 have IHG := Lib.hid (fun W' => ihg y W' hy)
 obtain ⟨T, x, rfl⟩ := hx.iface
 obtain ⟨U, y, rfl⟩ := hy.iface
 have hb := f.qn_bd
 have hb2 := g.qn_bd
 unfold Fm.qn
 clear hx hy ihf ihg
 generalize f.qn = a at *
 generalize g.qn = b at *
 obtain ⟨c, hc⟩ : ∃ c, a + b = c := ⟨_, rfl⟩
 have hw : IntKind.i64.wrap (a + b) = c := by rw [hc]; exact IntWalk.i64_in _ (by omega)
 have hcb : 0 ≤ c ∧ c ≤ 4294967294 := by omega
 rw [hc]
 clear hc
 obtain ⟨W1, hW⟩ : ∃ W1, W.alloc (.cells #[.iface T x, .iface U y] 160) = W1 := ⟨_, rfl⟩
 have HB : Hid (∀ W', Ext W1 W' → (Ext W1 W' ∧ W'.cell? ⟨W.heap.size, 0, none⟩ = some (.iface T x) ∧ W'.cell? ⟨W.heap.size, 1, none⟩ = some (.iface U y))) := by
  intro W' hx
  obtain ⟨hc, hf⟩ := hx.cells
  refine ⟨hx, ?_, ?_⟩ <;> (rw [hc _ _ (by rw [← hW]; simp), ← hW]; simp [go_sem])
 have HX0 : Hid (Ext W W1) := Lib.hid (by rw [← hW]; exact (Ext.refl W).alloc _)
 go_enter Tryz.func103, Tryz.ntmps103
 go_wp2_with fail
 clear hW
 go_region_held3 (fun W' => Ext W1 W' ∧ W'.cell? ⟨W.heap.size, 0, none⟩ = some (.iface T x) ∧ W'.cell? ⟨W.heap.size, 1, none⟩ = some (.iface U y))
  (first | exact HB.out _ ((Ext.refl W1).drew) | exact HB.out _ (by assumption))
  (first
    | (go_at_call_of 103 (Value.iface T x)
       refine (IHF.out _).mono ?_
       rintro e v1 ⟨rfl, x1⟩
       have y1 : Ext W1 v1 := Ext.trans ((Ext.refl W1).drew) x1)
    | (go_at_call_of 103 (Value.iface U y)
       refine (IHG.out _).mono ?_
       rintro e v2 ⟨rfl, x2⟩
       have y2 : Ext W1 v2 := Ext.trans y1 x2))
 have HY2 := Lib.hid (HX0.out.trans y2)
 clear y1 y2 x1 x2 HB HX0
 go_wp2_with fail
 go_ret
 exact ⟨rfl, HY2.out⟩
theorem qn_iff {w0 : World} {L : Nat} {f g : Fm} (ihf : QnIH w0 L f) (ihg : QnIH w0 L g) : QnIH w0 L (.iff f g) := by
 intro v W h
 obtain ⟨x, y, rfl, hx, hy⟩ := h
 have IHF := Lib.hid (fun W' => ihf x W' hx)
 have IHG := Lib.hid (fun W' => ihg y W' hy)
 obtain ⟨T, x, rfl⟩ := hx.iface
 obtain ⟨U, y, rfl⟩ := hy.iface
 have hb := f.qn_bd
 have hb2 := g.qn_bd
 unfold Fm.qn
 clear hx hy ihf ihg
 generalize f.qn = a at *
 generalize g.qn = b at *
 obtain ⟨c, hc⟩ : ∃ c, a + b = c := ⟨_, rfl⟩
 have hw : IntKind.i64.wrap (a + b) = c := by rw [hc]; exact IntWalk.i64_in _ (by omega)
 have hw2 : IntKind.i64.wrap (2 * c) = 2 * c := IntWalk.i64_in _ (by omega)
 have hcb : 0 ≤ c ∧ c ≤ 4294967294 := by omega
 rw [hc]
 clear hc
 obtain ⟨W1, hW⟩ : ∃ W1, W.alloc (.cells #[.iface T x, .iface U y] 161) = W1 := ⟨_, rfl⟩
 have HB : Hid (∀ W', Ext W1 W' → (Ext W1 W' ∧ W'.cell? ⟨W.heap.size, 0, none⟩ = some (.iface T x) ∧ W'.cell? ⟨W.heap.size, 1, none⟩ = some (.iface U y))) := by
  intro W' hx
  obtain ⟨hc, hf⟩ := hx.cells
  refine ⟨hx, ?_, ?_⟩ <;> (rw [hc _ _ (by rw [← hW]; simp), ← hW]; simp [go_sem])
 have HX0 : Hid (Ext W W1) := Lib.hid (by rw [← hW]; exact (Ext.refl W).alloc _)
 go_enter Tryz.func103, Tryz.ntmps103
 go_wp2_with fail
 clear hW
 go_region_held3 (fun W' => Ext W1 W' ∧ W'.cell? ⟨W.heap.size, 0, none⟩ = some (.iface T x) ∧ W'.cell? ⟨W.heap.size, 1, none⟩ = some (.iface U y))
  (first | exact HB.out _ ((Ext.refl W1).drew) | exact HB.out _ (by assumption))
  (first
    | (go_at_call_of 103 (Value.iface T x)
       refine (IHF.out _).mono ?_
       rintro e v1 ⟨rfl, x1⟩
       have y1 : Ext W1 v1 := Ext.trans ((Ext.refl W1).drew) x1)
    | (go_at_call_of 103 (Value.iface U y)
       refine (IHG.out _).mono ?_
       rintro e v2 ⟨rfl, x2⟩
       have y2 : Ext W1 v2 := Ext.trans y1 x2))
 have HY2 := Lib.hid (HX0.out.trans y2)
 clear y1 y2 x1 x2 HB HX0
 go_wp2_with fail
 go_ret
 exact ⟨rfl, HY2.out⟩
theorem qn_any {w0 : World} {L : Nat} (f : Fm) : QnIH w0 L f := by
 induction f with
 | truth b => exact qn_truth
 | atom l r k => exact qn_atom
 | not f ih => exact qn_not ih
 | and f g ihf ihg => exact qn_and ihf ihg
 | or f g ihf ihg => exact qn_or ihf ihg
 | imp f g ihf ihg => exact qn_imp ihf ihg
 | iff f g ihf ihg => exact qn_iff ihf ihg
 | quant a s f ih => exact qn_quant ih
theorem StrRow.base {w : World} {b b' : Nat} {v : Value} {l : List ByteArray} (h : StrRow w b v l) (hb : b' ≤ b) : StrRow w b' v l := by
 unfold StrRow World.ownsRow at h ⊢
 refine ⟨h.1, ?_⟩
 rcases h.2 with h | ⟨g, cap, cur, h1, h2, h3⟩
 · exact .inl h
 · exact .inr ⟨g, cap, cur, h1, by omega, h3⟩
def Fm.nmE (f : Fm) : Int := if f.chk = 0 then (if (f.free.length : Int) + f.qn ≤ 4 then 0 else 8) else f.chk
def RetNames (f : Fm) (w : World) (e : Ending) (w' : World) : Prop := ∃ s, e = .returned (.tuple #[s, .int .i64 f.nmE]) ∧ (f.nmE = 0 → StrRow w' w.heap.size s f.free) ∧ (f.nmE ≠ 0 → s = .slice none 0 0) ∧ Ext w w'
theorem freeStep_len (a : ByteArray → Int) (s : ByteArray) (acc : List ByteArray) : (freeStep a s acc).length ≤ acc.length + 1 := by unfold freeStep; split <;> simp
theorem Tm.free_len (t : Tm) (a : ByteArray → Int) : ∀ acc : List ByteArray, (t.fold (freeStep a) acc).length ≤ acc.length + t.sz := by
 induction t <;> intro acc <;> simp only [Tm.fold, Tm.sz]
 case num => omega
 case name => exact freeStep_len _ _ _
 case add p q iha ihb => have := iha acc; have := ihb (p.fold (freeStep a) acc); omega
 case sub p q iha ihb => have := iha acc; have := ihb (p.fold (freeStep a) acc); omega
 case mul p q iha ihb => have := iha acc; have := ihb (p.fold (freeStep a) acc); omega
 case neg p iha => have := iha acc; omega
 case pow p e iha => have := iha acc; omega
theorem Fm.free_len (f : Fm) : ∀ (a : ByteArray → Int) (acc : List ByteArray), (f.fold freeStep a acc).length ≤ acc.length + f.sz := by
 induction f <;> intro a acc <;> simp only [Fm.fold, Fm.sz]
 case truth => omega
 case atom l r k => have := l.free_len a acc; have := k.free_len a (l.fold (freeStep a) acc); omega
 case not f ih => have := ih a acc; omega
 case quant al s f ih => have := ih (bump a s) acc; omega
 all_goals rename_i f g ihf ihg; have := ihf a acc; have := ihg a (f.fold freeStep a acc); omega
theorem names_any {w0 w : World} {L : Nat} (hs : L ≤ 1000000000000) (f : Fm) {v : Value} (hx0 : Ext w0 w) (h : FmV w0 L f v) (hl : f.sz ≤ 1099511627776) : Calls Tryz.prog 47 #[v] w (RetNames f w) := by
 have H := Lib.hid h
 have HC := Lib.hid (check_any hs f hx0 h hl)
 have HFR := Lib.hid (fun W' => free_any (w := W') f h hl)
 have HQ := Lib.hid (fun W' => qn_any f v W' h)
 have hq := f.qn_bd
 obtain ⟨T, x, rfl⟩ := h.iface
 unfold RetNames
 have HE : Hid (f.nmE = if f.chk = 0 then (if (f.free.length : Int) + f.qn ≤ 4 then 0 else 8) else f.chk) := Lib.hid rfl
 clear h hx0
 generalize f.nmE = res at *
 generalize f.chk = c at *
 generalize f.qn = q at *
 by_cases hc : c = 0
 · have hc' : (c != 0) = false := by simp [hc]
   have HC0 := Lib.hid hc
   clear hc
   go_enter Tryz.func47, Tryz.ntmps47
   go_wp2_with fail
   refine HC.out.mono ?_
   rintro e w1 ⟨rfl, x1⟩
   have X1 := Lib.hid x1
   clear x1
   go_wp2_with fail
   refine (HFR.out w1).mono ?_
   rintro e w2 ⟨v2, rfl, hrow, x2⟩
   obtain ⟨A, cc, e2, hn1, hn2, -⟩ := hrow.slr
   subst e2
   have X2 := Lib.hid (X1.out.trans x2)
   have HROW : Hid (StrRow w2 w.heap.size (.slice A f.free.length cc) f.free) := Lib.hid (hrow.base X1.out.size)
   have hfl : f.free.length ≤ 1099511627776 := Nat.le_trans (show f.free.length ≤ 0 + f.sz from f.free_len (fun _ => 0) []) (by omega)
   clear x2 hrow
   obtain ⟨n, hn⟩ : ∃ n, f.free.length = n := ⟨_, rfl⟩
   have HN := Lib.hid hn
   simp only [hn] at HROW HE hfl ⊢
   clear hn hn1 hn2
   have hw : IntKind.i64.wrap ((n : Int) + q) = (n : Int) + q := IntWalk.i64_in _ (by omega)
   by_cases hlt : 4 < (n : Int) + q
   · have HR : Hid (res = 8) := Lib.hid (by rw [HE.out, if_pos HC0.out, if_neg (by omega)])
     go_wp2_with fail
     refine (HQ.out w2).mono ?_
     rintro e w3 ⟨rfl, x3⟩
     have X3 := Lib.hid (X2.out.trans x3)
     clear x3
     go_wp2_with fail
     exact bodyPost_ret (v := .tuple #[.slice none 0 0, .int .i64 8]) (by simp [results, Tryz.results47, go_sem]) rfl ⟨_, by rw [HR.out], fun h => absurd h (by rw [HR.out]; decide), fun _ => rfl, X3.out⟩
   · have HR : Hid (res = 0) := Lib.hid (by rw [HE.out, if_pos HC0.out, if_pos (by omega)])
     go_wp2_with fail
     refine (HQ.out w2).mono ?_
     rintro e w3 ⟨rfl, x3⟩
     have X3 := Lib.hid (X2.out.trans x3)
     have HROW3 := Lib.hid (HROW.out.ext x3)
     clear x3
     go_wp2_with fail
     exact bodyPost_ret (v := .tuple #[.slice A n cc, .int .i64 0]) (by simp [results, Tryz.results47, go_sem]) rfl ⟨_, by rw [HR.out], fun _ => HROW3.out, fun h => absurd HR.out h, X3.out⟩
 · have hc' : (c != 0) = true := by simp [hc]
   have HR : Hid (res = c) := Lib.hid (by rw [HE.out, if_neg hc])
   have HC0 := Lib.hid hc
   clear hc
   go_enter Tryz.func47, Tryz.ntmps47
   go_wp2_with fail
   refine HC.out.mono ?_
   rintro e w1 ⟨rfl, x1⟩
   have X1 := Lib.hid x1
   clear x1
   go_wp2_with fail
   exact bodyPost_ret (v := .tuple #[.slice none 0 0, .int .i64 c]) (by simp [results, Tryz.results47, go_sem]) rfl ⟨_, by rw [HR.out], fun h => absurd (HR.out.symm.trans h) HC0.out, fun _ => rfl, X1.out⟩
end Go.Proofs.YtkbpnppiadaibaaGreatDoor

/- Layer 38: prenex.Of at formulas without equivalences that are within the limits. -/
set_option maxRecDepth 100000
set_option maxHeartbeats 8000000
namespace Go.Proofs.YtkbpnppiadaibaaGreatDoor
open Go.RowKit
def levP (l : List ByteArray) : Nat → ByteArray → Int
 | 0 => fun _ => 0
 | k + 1 => fun t => if t = l.getD k ByteArray.empty then ((k + 1 : Nat) : Int) else levP l k t
theorem levP_step (l : List ByteArray) (k : Nat) (h : k < l.length) : levP l (k + 1) = fun t => if t = l[k] then ((k + 1 : Nat) : Int) else levP l k t := by
 rw [levP, List.getD_eq_getElem?_getD, List.getElem?_eq_getElem h]
 rfl
def Fm.st (f : Fm) : PSt := ⟨f.free, [], levP f.free f.free.length⟩
theorem of_any {w0 w : World} {L : Nat} {P : Tm → Prop} (hs : L ≤ 1000000000000) (f : Fm) {v : Value} (hx0 : Ext w0 w) (h : FmV w0 L f v) (hl : f.sz ≤ 1099511627776) (hpl : f.noIff = true) (hok : f.nmE = 0) (hli : f.light) (hlen : f.free.length + f.bound.length ≤ 1000)
 (HP : ∀ (w : World) (gb bl : Nat) (t : Tm), P t → ∀ g, PolyIH w L gb bl g t) (hP : f.terms P) :
 Calls Tryz.prog 13 #[v] w fun e w' => ∃ u, e = .returned (.tuple #[u, .int .i64 0]) ∧ Ext w w' ∧ PxV w' (fun b => w.heap.size ≤ b) f.free.length (matF f true f.st).2.all (matF f true f.st).2.names (matF f true f.st).1 u := by
 obtain ⟨W1, hW⟩ : ∃ W1, w.alloc (.cells #[.int .i64 0, .slice none 0 0, .slice none 0 0, .int .i64 0, .int .i64 0, .int .i64 0, .bool false, .slice none 0 0, .slice none 0 0, .slice none 0 0] 47) = W1 := ⟨_, rfl⟩
 have hWx : Ext w W1 := by rw [← hW]; exact (Ext.refl w).alloc _
 have hWs : W1.heap.size = w.heap.size + 1 := by rw [← hW]; simp
 have HZ : Hid (∀ j, j < 10 → W1.cell? ⟨w.heap.size, j, none⟩ = #[Value.int .i64 0, .slice none 0 0, .slice none 0 0, .int .i64 0, .int .i64 0, .int .i64 0, .bool false, .slice none 0 0, .slice none 0 0, .slice none 0 0][j]? ∧ W1.frozen? ⟨w.heap.size, j, none⟩ = false) := Lib.hid (fun j hj => by
  rw [← hW]
  rcases (show j = 0 ∨ j = 1 ∨ j = 2 ∨ j = 3 ∨ j = 4 ∨ j = 5 ∨ j = 6 ∨ j = 7 ∨ j = 8 ∨ j = 9 by omega) with rfl | rfl | rfl | rfl | rfl | rfl | rfl | rfl | rfl | rfl <;> (constructor <;> simp [go_sem]))
 have HN := Lib.hid (names_any hs f (hx0.trans hWx) h hl)
 have HFV := Lib.hid h
 have HX0 := Lib.hid hx0
 have HWX := Lib.hid hWx
 have hfl : f.free.length ≤ 1000 := by omega
 obtain ⟨T, x, rfl⟩ := h.iface
 clear hWx h hx0
 go_enter Tryz.func13, Tryz.ntmps13
 go_wp2_with fail
 clear hW
 refine HN.out.mono ?_
 rintro e w1 ⟨s1, rfl, hrow, -, x1⟩
 have hrow1 := hrow hok
 rw [hok]
 have hs1 := x1.size
 have hst := hrow1.slr
 have X1 := Lib.hid x1
 have HST := Lib.hid (show Strs w1 s1 f.free from hst)
 obtain ⟨SA, sc, rfl, -⟩ := id hst
 have HFV1 := Lib.hid (HFV.out.ext ((HX0.out.trans HWX.out).trans x1))
 clear hrow hrow1 hst x1 HN HFV
 go_wp2_with fail
 refine (clone_any HST.out (by omega)).mono ?_
 rintro e w2 ⟨v2, rfl, r2, x2⟩
 have hs2 := x2.size
 obtain ⟨NA, nc, rfl, -⟩ := r2.len
 obtain ⟨W3, hW3⟩ : ∃ W3, ((w2.alloc (.map #[] 0)).alloc (.map #[] 0)).alloc (.cells #[.slice NA f.free.length nc, .slice none 0 0, .map (some w2.heap.size), .map (some (w2.heap.size + 1))] 108) = W3 := ⟨_, rfl⟩
 have hx3 : Ext w2 W3 := by rw [← hW3]; exact (((Ext.refl w2).alloc _).alloc _).alloc _
 have hs3 : W3.heap.size = w2.heap.size + 1 + 1 + 1 := by rw [← hW3]; simp
 have hb : ∃ own, BldS w1.heap.size (w2.heap.size + 1 + 1) w2.heap.size (w2.heap.size + 1) W3 own ⟨f.free, [], levP f.free 0⟩ [] := by
  refine ⟨fun i => i = w2.heap.size + 1 + 1 ∨ i = w2.heap.size ∨ i = w2.heap.size + 1 ∨ (Value.slice NA f.free.length nc).ownBlock = some i ∨ (Value.slice none 0 0).ownBlock = some i, ⟨⟨.slice NA f.free.length nc, .slice none 0 0, (Value.slice NA f.free.length nc).ownBlock, ?_, ?_, .inl ⟨r2.ext hx3, rfl⟩, GRow.nil _ _ _ _, fun i => Iff.rfl, ?_, ?_⟩, ?_, ?_, fun i => ?_, ?_, ?_, by omega, by omega⟩⟩
  · rw [← hW3]; simp [go_sem]
  · rw [← hW3]; simp [go_sem]
  · intro i _ e; cases e
  · intro i e
    rcases e with e | e
    · have := r2.own e; omega
    · cases e
  · rw [← hW3]; simp [go_sem]
  · rw [← hW3]; simp [go_sem]
  · rw [← hW3]; simp [go_sem]
  · refine ⟨[], ?_, fun s => rfl⟩
    rw [← hW3]
    exact ((SMap.made w2).alloc _).alloc _
  · refine ⟨[], ?_, rfl, fun s => rfl⟩
    rw [← hW3]
    have := SMap.made (w2.alloc (.map #[] 0))
    rw [show (w2.alloc (.map #[] 0)).heap.size = w2.heap.size + 1 by simp] at this
    exact this.alloc _
 have HB := Lib.hid hb
 have X3 := Lib.hid (x2.trans hx3)
 have hmm := @run_makeMap Tryz.prog
 clear hb r2 x2 hx3
 have hlo : w1.heap.size ≤ w2.heap.size + 1 + 1 ∧ w1.heap.size ≤ w2.heap.size ∧ w1.heap.size ≤ w2.heap.size + 1 ∧ w1.heap.size ≤ w1.heap.size := by omega
 go_wp2_with fail
 clear hW3 hmm
 go_loopw [29] (fun iv wr => ∃ k : Nat, k ≤ f.free.length ∧ iv = .int .i64 k ∧ Hid (Ext w1 wr ∧ ∃ own tk, BldS w1.heap.size (w2.heap.size + 1 + 1) w2.heap.size (w2.heap.size + 1) wr own ⟨f.free, [], levP f.free k⟩ tk)) (fun iv _ => f.free.length - (intOf iv).toNat)
 case atStart =>
  obtain ⟨own, hb⟩ := HB.out
  exact ⟨0, Nat.zero_le _, rfl, ⟨X3.out, own, [], hb⟩⟩
 case round =>
  obtain ⟨k, hk, rfl, ⟨hxr, own, tk, hb⟩⟩ := hrel
  have HXR := Lib.hid hxr
  by_cases hlt : k < f.free.length
  · obtain ⟨ad, y, rfl, hc, hy⟩ := SlR.get_ (HST.out.ext hxr) k hlt
    subst hy
    have c2 := hb.c2
    obtain ⟨wa, hra, ba, ta, -⟩ := hb.addLevel f.free[k] ((k : Int) + 1)
    have c3 := ba.c3
    obtain ⟨wb, hrb, bb, tb⟩ := ba.addTaken f.free[k]
    rw [show (⟨f.free, [], fun t => if t = f.free[k] then (k : Int) + 1 else levP f.free k t⟩ : PSt) = ⟨f.free, [], levP f.free (k + 1)⟩ by rw [levP_step f.free k hlt]; rfl] at bb
    have hkw : IntKind.i64.wrap ((k : Int) + 1) = (k : Int) + 1 := by rw [IntKind.wrap_i64]; omega
    have HNEXT : Hid (Ext w1 wb ∧ ∃ own tk, BldS w1.heap.size (w2.heap.size + 1 + 1) w2.heap.size (w2.heap.size + 1) wb own ⟨f.free, [], levP f.free (k + 1)⟩ tk) := Lib.hid ⟨(ta.trans tb).ext hxr (hb.lo hlo), own, _, bb⟩
    clear ba ta bb tb hb hxr
    generalize f.free[k] = s at *
    go_wp2_with fail
    clear hra hrb c2 c3 hc
    go_roundw
    case rel => exact ⟨k + 1, by omega, by go_num, HNEXT⟩
    case measure => simp [intOf]; omega
  · have hke : k = f.free.length := by omega
    rw [hke] at hb
    rw [hke]
    have hbst : BldS w1.heap.size (w2.heap.size + 1 + 1) w2.heap.size (w2.heap.size + 1) wr own f.st tk := hb
    have HBB := Lib.hid hbst
    obtain ⟨w4, hw4⟩ : ∃ w4, w4 = wr := ⟨wr, rfl⟩
    have HBD := Lib.hid (bound_any (w := wr) f HFV1.out hl)
    have hbl := f.bound_len
    clear hb hbst hxr
    subst hw4
    go_wp2_with fail
    refine HBD.out.mono ?_
    rintro e w5 ⟨v5, rfl, hr5, x5⟩
    have hst5 := hr5.slr
    have hno5 : ∀ ad n c, v5 = .slice (some ad) n c → ¬ own ad.block := fun ad n c e ho => by
     have h1 := hr5.lt ad.block (by rw [e]; rfl)
     have h2 := (HBB.out.own_ ho).1
     omega
    obtain ⟨BA, bc, rfl, -⟩ := id hst5
    have HST5 := Lib.hid (show Strs w5 (.slice BA f.bound.length bc) f.bound from hst5)
    have HNO5 := Lib.hid hno5
    have HX5 := Lib.hid (HXR.out.trans x5)
    have HB5 := Lib.hid (HBB.out.ext x5)
    clear hr5 hst5 x5 HBD HBB hno5
    go_wp2_with fail
    go_loopw [50] (fun iv wr => ∃ k : Nat, k ≤ f.bound.length ∧ iv = .int .i64 k ∧ Hid (BMut own w5 own wr ∧ ∃ tk, BldS w1.heap.size (w2.heap.size + 1 + 1) w2.heap.size (w2.heap.size + 1) wr own f.st tk)) (fun iv _ => f.bound.length - (intOf iv).toNat)
    case atStart => exact ⟨0, Nat.zero_le _, rfl, ⟨BMut.refl _ _, _, HB5.out⟩⟩
    case round =>
     obtain ⟨k, hk, rfl, ⟨hbm, tk', hb⟩⟩ := hrel
     by_cases hlt : k < f.bound.length
     · obtain ⟨ad, y, rfl, hc, hy⟩ := SlR.get_ (SlR.keeps HST5.out hbm.keeps HNO5.out) k hlt
       subst hy
       have c3 := hb.c3
       obtain ⟨wb, hrb, bb, tb⟩ := hb.addTaken f.bound[k]
       have HNEXT : Hid (BMut own w5 own wb ∧ ∃ tk, BldS w1.heap.size (w2.heap.size + 1 + 1) w2.heap.size (w2.heap.size + 1) wb own f.st tk) := Lib.hid ⟨hbm.trans tb, _, bb⟩
       clear bb tb hb hbm
       generalize f.bound[k] = s at *
       go_wp2_with fail
       clear hrb c3 hc
       go_roundw
       case rel => exact ⟨k + 1, by omega, by go_num, HNEXT⟩
       case measure => simp [intOf]; omega
     · have HX6 := Lib.hid (hbm.ext HX5.out (HB5.out.lo hlo))
       have HMAT := Lib.hid (matrix_any (w0 := w1) (L := L) (HP w1 _ _) hlo f hP (.iface T x) wr own f.st tk' true HX6.out HFV1.out hpl hli (by show f.free.length + _ ≤ _; omega) (by show 0 + _ ≤ _; omega) hb)
       have HMAT0 : Hid (∀ i, own i → w1.heap.size ≤ i) := Lib.hid (fun i hi => hb.lo hlo i hi)
       clear hb hbm HST5 HNO5 HB5
       go_wp2_with fail
       refine HMAT.out.mono ?_
       rintro e w6 ⟨v6, own6, rfl, m6, b6, t6⟩
       obtain ⟨r, hr⟩ : ∃ r, matF f true f.st = r := ⟨_, rfl⟩
       rw [hr] at m6 b6
       obtain ⟨mr, sr⟩ := r
       have HR := Lib.hid hr
       clear hr
       simp only at m6 b6
       obtain ⟨C0, j0, f0, C1, j1, f1, C2, f2, rfl, -⟩ := id m6.open_
       have hs6 := t6.size
       have hx6 : Ext w1 w6 := t6.ext HX6.out (fun i hi => HMAT0.out i hi)
       obtain ⟨nv, av, on, e0, e1, r0, r1, -, -, -⟩ := b6.ex
       obtain ⟨NB, nb, rfl, -⟩ := r0.len
       obtain ⟨AB, ab, rfl, -⟩ := r1.len
       obtain ⟨W7, hW7⟩ : ∃ W7, w6.alloc (.cells #[.int .i64 mr.kind, .int .i64 mr.rel, .int .i64 mr.p.lv, .bool mr.p.neg, .slice C0 j0 f0, .slice C1 j1 f1, .slice C2 mr.ks.length f2] 45) = W7 := ⟨_, rfl⟩
       have hx7 : Ext w6 W7 := by rw [← hW7]; exact (Ext.refl w6).alloc _
       have hbx : Box7 W7 w6.heap.size mr (.slice C0 j0 f0) (.slice C1 j1 f1) (.slice C2 mr.ks.length f2) := by rw [← hW7]; exact Box7.new w6 mr _ _ _ _
       have hx17 : Ext W1 W7.drew := ((X1.out.trans hx6).trans hx7).drew
       have hxw7 : Ext w W7.drew := HWX.out.trans hx17
       have hxw7' : Ext w W7 := HWX.out.trans ((X1.out.trans hx6).trans hx7)
       have hz7 : ∀ j, j < 10 → W7.drew.cell? ⟨w.heap.size, j, none⟩ = #[Value.int .i64 0, .slice none 0 0, .slice none 0 0, .int .i64 0, .int .i64 0, .int .i64 0, .bool false, .slice none 0 0, .slice none 0 0, .slice none 0 0][j]? ∧ W7.drew.frozen? ⟨w.heap.size, j, none⟩ = false := fun j hj =>
        ⟨(hx17.cell (p := ⟨w.heap.size, j, none⟩) (by show w.heap.size < _; omega)).trans (HZ.out j hj).1, (hx17.frozen (p := ⟨w.heap.size, j, none⟩) (by show w.heap.size < _; omega)).trans (HZ.out j hj).2⟩
       have hs7 := hx7.size
       have hgb6 : w2.heap.size + 1 + 1 < w6.heap.size := b6.lt.1
       have hSA : W7.drew.cell? ⟨w2.heap.size + 1 + 1, 0, none⟩ = some (.slice NB sr.names.length nb) ∧ W7.drew.cell? ⟨w2.heap.size + 1 + 1, 1, none⟩ = some (.slice AB sr.all.length ab) ∧ W7.drew.cell? ⟨w6.heap.size, 0, none⟩ = some (.int .i64 mr.kind) ∧ W7.drew.cell? ⟨w6.heap.size, 1, none⟩ = some (.int .i64 mr.rel) ∧ W7.drew.cell? ⟨w6.heap.size, 2, none⟩ = some (.int .i64 mr.p.lv) ∧ W7.drew.cell? ⟨w6.heap.size, 3, none⟩ = some (.bool mr.p.neg) ∧ W7.drew.cell? ⟨w6.heap.size, 4, none⟩ = some (.slice C0 j0 f0) ∧ W7.drew.cell? ⟨w6.heap.size, 5, none⟩ = some (.slice C1 j1 f1) ∧ W7.drew.cell? ⟨w6.heap.size, 6, none⟩ = some (.slice C2 mr.ks.length f2) := by
        obtain ⟨y0, y1, y2, y3, y4, y5, y6⟩ := hbx
        exact ⟨(hx7.cell (p := ⟨w2.heap.size + 1 + 1, 0, none⟩) hgb6).trans e0, (hx7.cell (p := ⟨w2.heap.size + 1 + 1, 1, none⟩) hgb6).trans e1, y0, y1, y2, y3, y4, y5, y6⟩
       obtain ⟨V, hV⟩ : ∃ V, set10 W7 w.heap.size (.int .i64 f.free.length) (.slice AB sr.all.length ab) (.slice NB sr.names.length nb) (.int .i64 mr.kind) (.int .i64 mr.rel) (.int .i64 mr.p.lv) (.bool mr.p.neg) (.slice C0 j0 f0) (.slice C1 j1 f1) (.slice C2 mr.ks.length f2) = V := ⟨_, rfl⟩
       have hfar : ∀ b i, b ≠ w.heap.size → V.drew.cell? ⟨b, i, none⟩ = W7.drew.cell? ⟨b, i, none⟩ := fun b i hb => by
        have h1 : V.heap[b]? = W7.heap[b]? := by rw [← hV, set10_cells]; exact block_setCells hb _ _ _
        exact World.cell?_of_block (w := W7.drew) (w' := V.drew) (a := ⟨b, i, none⟩) h1
       have hSB : V.drew.cell? ⟨w2.heap.size + 1 + 1, 0, none⟩ = some (.slice NB sr.names.length nb) ∧ V.drew.cell? ⟨w2.heap.size + 1 + 1, 1, none⟩ = some (.slice AB sr.all.length ab) ∧ V.drew.cell? ⟨w6.heap.size, 0, none⟩ = some (.int .i64 mr.kind) ∧ V.drew.cell? ⟨w6.heap.size, 1, none⟩ = some (.int .i64 mr.rel) ∧ V.drew.cell? ⟨w6.heap.size, 2, none⟩ = some (.int .i64 mr.p.lv) ∧ V.drew.cell? ⟨w6.heap.size, 3, none⟩ = some (.bool mr.p.neg) ∧ V.drew.cell? ⟨w6.heap.size, 4, none⟩ = some (.slice C0 j0 f0) ∧ V.drew.cell? ⟨w6.heap.size, 5, none⟩ = some (.slice C1 j1 f1) ∧ V.drew.cell? ⟨w6.heap.size, 6, none⟩ = some (.slice C2 mr.ks.length f2) := by
        obtain ⟨g0, g1, y0, y1, y2, y3, y4, y5, y6⟩ := hSA
        exact ⟨(hfar _ _ (by omega)).trans g0, (hfar _ _ (by omega)).trans g1, (hfar _ _ (by omega)).trans y0, (hfar _ _ (by omega)).trans y1, (hfar _ _ (by omega)).trans y2, (hfar _ _ (by omega)).trans y3, (hfar _ _ (by omega)).trans y4, (hfar _ _ (by omega)).trans y5, (hfar _ _ (by omega)).trans y6⟩
       have hfin := close_px (q' := fun b => w.heap.size ≤ b) (fr := (f.free.length : Int)) hxw7' (Nat.le_refl _) (fun j hj => by
        have h1 := (hz7 j hj).1
        rcases (show j = 0 ∨ j = 1 ∨ j = 2 ∨ j = 3 ∨ j = 4 ∨ j = 5 ∨ j = 6 ∨ j = 7 ∨ j = 8 ∨ j = 9 by omega) with rfl | rfl | rfl | rfl | rfl | rfl | rfl | rfl | rfl | rfl <;> exact ⟨_, h1, rfl⟩)
        ((row_bools r1).ext hx7) (fun ad e hpos => by
          obtain ⟨g, c, e2, -, -, hg, -⟩ := r1.pos (by omega)
          injection e2 with e2
          rw [e] at e2
          injection e2 with e2
          subst e2
          show g ≠ _
          omega)
        (r0.strs_.ext hx7) (fun ad e hpos => by
          rcases r0 with ⟨r0, -⟩ | ⟨h0, -⟩
          · obtain ⟨g, c, e2, -, -, hg, -⟩ := r0.pos (by omega)
            injection e2 with e2
            rw [e] at e2
            injection e2 with e2
            subst e2
            show g ≠ _
            omega
          · rw [h0] at hpos; simp at hpos) (m6.ext hx7) (fun b _ hb => ⟨by have := HX6.out.size; omega, by have := HX6.out.size; omega⟩)
       rw [hV] at hfin
       have HSS := Lib.hid (And.intro hSA hSB)
       have HF := Lib.hid (And.intro (hfin.1.drew) (hfin.2.ext ((Ext.refl _).drew)))
       rw [← hV] at HSS HF
       unfold set10 at HSS HF
       clear hV
       obtain ⟨g0, g1, y0, y1, y2, y3, y4, y5, y6⟩ := hSA
       have zf : ∀ j, j < 10 → W7.drew.frozen? ⟨w.heap.size, j, none⟩ = false := fun j hj => (hz7 j hj).2
       have zc : ∀ j, j < 10 → W7.drew.cell? ⟨w.heap.size, j, none⟩ = #[Value.int .i64 0, .slice none 0 0, .slice none 0 0, .int .i64 0, .int .i64 0, .int .i64 0, .bool false, .slice none 0 0, .slice none 0 0, .slice none 0 0][j]? := fun j hj => (hz7 j hj).1
       have z0 : W7.cell? ⟨w.heap.size, 0, none⟩ = some (.int .i64 0) := zc 0 (by omega)
       have z1 : W7.cell? ⟨w.heap.size, 1, none⟩ = some (.slice none 0 0) := zc 1 (by omega)
       have z2 : W7.cell? ⟨w.heap.size, 2, none⟩ = some (.slice none 0 0) := zc 2 (by omega)
       have z3 : W7.cell? ⟨w.heap.size, 3, none⟩ = some (.int .i64 0) := zc 3 (by omega)
       have z4 : W7.cell? ⟨w.heap.size, 4, none⟩ = some (.int .i64 0) := zc 4 (by omega)
       have z5 : W7.cell? ⟨w.heap.size, 5, none⟩ = some (.int .i64 0) := zc 5 (by omega)
       have z6 : W7.cell? ⟨w.heap.size, 6, none⟩ = some (.bool false) := zc 6 (by omega)
       have z7 : W7.cell? ⟨w.heap.size, 7, none⟩ = some (.slice none 0 0) := zc 7 (by omega)
       have z8 : W7.cell? ⟨w.heap.size, 8, none⟩ = some (.slice none 0 0) := zc 8 (by omega)
       have z9 : W7.cell? ⟨w.heap.size, 9, none⟩ = some (.slice none 0 0) := zc 9 (by omega)
       have q0 : W7.frozen? ⟨w.heap.size, 0, none⟩ = false := zf 0 (by omega)
       have q1 : W7.frozen? ⟨w.heap.size, 1, none⟩ = false := zf 1 (by omega)
       have q2 : W7.frozen? ⟨w.heap.size, 2, none⟩ = false := zf 2 (by omega)
       have q3 : W7.frozen? ⟨w.heap.size, 3, none⟩ = false := zf 3 (by omega)
       have q4 : W7.frozen? ⟨w.heap.size, 4, none⟩ = false := zf 4 (by omega)
       have q5 : W7.frozen? ⟨w.heap.size, 5, none⟩ = false := zf 5 (by omega)
       have q6 : W7.frozen? ⟨w.heap.size, 6, none⟩ = false := zf 6 (by omega)
       have q7 : W7.frozen? ⟨w.heap.size, 7, none⟩ = false := zf 7 (by omega)
       have q8 : W7.frozen? ⟨w.heap.size, 8, none⟩ = false := zf 8 (by omega)
       have q9 : W7.frozen? ⟨w.heap.size, 9, none⟩ = false := zf 9 (by omega)
       clear hfin hfar hSB m6 b6 t6 r0 r1 e0 e1 hx6 hx7 hbx hx17 hxw7 hxw7' hz7 zc zf HMAT HMAT0 HX6 HX5 HXR HST X3 X1 HFV1 HZ hli hP HP hpl hs6 hs7 hgb6 HX0 HWX hlo hs1 hs2 hs3 hWs
       unfold mxV
       go_upto_region 17 with fail
       go_region_held3 (fun W' => W'.cell? ⟨w2.heap.size + 1 + 1, 0, none⟩ = some (.slice NB sr.names.length nb) ∧ W'.cell? ⟨w2.heap.size + 1 + 1, 1, none⟩ = some (.slice AB sr.all.length ab) ∧ W'.cell? ⟨w6.heap.size, 0, none⟩ = some (.int .i64 mr.kind) ∧ W'.cell? ⟨w6.heap.size, 1, none⟩ = some (.int .i64 mr.rel) ∧ W'.cell? ⟨w6.heap.size, 2, none⟩ = some (.int .i64 mr.p.lv) ∧ W'.cell? ⟨w6.heap.size, 3, none⟩ = some (.bool mr.p.neg) ∧ W'.cell? ⟨w6.heap.size, 4, none⟩ = some (.slice C0 j0 f0) ∧ W'.cell? ⟨w6.heap.size, 5, none⟩ = some (.slice C1 j1 f1) ∧ W'.cell? ⟨w6.heap.size, 6, none⟩ = some (.slice C2 mr.ks.length f2))
        (first | with_reducible exact HSS.out.1 | with_reducible exact HSS.out.2)
        (fail)
       all_goals
        clear q0 q1 q2 q3 q4 q5 q6 q7 q8 q9 g0 g1 y0 y1 y2 y3 y4 y5 y6 HSS hW7
        go_wp2_with fail
        exact bodyPost_ret (v := .tuple #[pxC f.free.length (.slice AB sr.all.length ab) (.slice NB sr.names.length nb) mr (.slice C0 j0 f0) (.slice C1 j1 f1) (.slice C2 mr.ks.length f2), .int .i64 0]) (by simp [results, Tryz.results13, go_sem, z0, z1, z2, z3, z4, z5, z6, z7, z8, z9, pxC]) rfl ⟨_, rfl, by rw [HR.out]; exact HF.out⟩
end Go.Proofs.YtkbpnppiadaibaaGreatDoor

/- Reference 38: the last place of a name in a list, as its level. -/
set_option maxRecDepth 100000
set_option maxHeartbeats 8000000
namespace Go.Proofs.YtkbpnppiadaibaaGreatDoor
open Go.RowKit
theorem lastP_any {w : World} {v : Value} {l : List ByteArray} (h : SlR (fun _ (s : ByteArray) x => x = .string s) w v l) (nm : ByteArray) : Calls Tryz.prog 61 #[v, .string nm] w fun e w' => e = .returned (.int .i64 (levP l l.length nm - 1)) ∧ Ext w w' := by
 have H := Lib.hid h
 obtain ⟨A, c, rfl, h1, h2, -⟩ := h
 have hlen : l.length ≤ 9223372036854775807 := by omega
 go_enter Tryz.func61, Tryz.ntmps61
 go_wp2_with fail
 go_loopw [5] (fun iv wr => ∃ k : Nat, k ≤ l.length ∧ iv = .int .i64 ((k : Int) - 1) ∧ Hid (levP l l.length nm = levP l k nm ∧ Ext w wr)) (fun iv _ => (intOf iv + 1).toNat)
 case atStart => exact ⟨l.length, Nat.le_refl _, by first | rfl | go_num, ⟨rfl, Ext.refl w⟩⟩
 case round =>
  obtain ⟨k, hk, rfl, ⟨hno, hx⟩⟩ := hrel
  have HNO := Lib.hid hno
  have HX := Lib.hid hx
  clear hno hx
  cases k with
  | succ k =>
    have e1 : ((k + 1 : Nat) : Int) - 1 = (k : Int) := by omega
    rw [e1]
    obtain ⟨ad, x, rfl, hc, hp⟩ := SlR.get_ (SlR.ext H.out (fun _ _ h => h) HX.out) k (by omega)
    subst hp
    have hk1 : k < l.length := by omega
    have HTK : Hid (levP l (k + 1) nm = if nm = l[k] then ((k + 1 : Nat) : Int) else levP l k nm) := Lib.hid (by rw [levP_step l k hk1])
    clear e1
    generalize l[k] = q at *
    by_cases hs : q = nm
    · have hb : (q == nm) = true := (MapKept.bytes_beq q nm).2 hs
      have hb2 : (q.toList == nm.toList) = true := by rw [hs]; simp
      have hb3 : (nm.toList == q.toList) = true := by rw [hs]; simp
      have HF : Hid (levP l l.length nm - 1 = (k : Int)) := Lib.hid (by rw [HNO.out, HTK.out, if_pos hs.symm]; omega)
      clear HTK HNO
      go_wp2_with fail
      go_ret
      exact ⟨by rw [HF.out]; rfl, HX.out⟩
    · have hb : (q == nm) = false := by rw [Bool.eq_false_iff]; exact fun e => hs ((MapKept.bytes_beq q nm).1 e)
      have hb2 : (q.toList == nm.toList) = false := by rw [← beq_toListBytes]; exact hb
      have hb3 : (nm.toList == q.toList) = false := by
       rw [Bool.eq_false_iff] at hb2 ⊢
       intro e
       exact hb2 (by rw [beq_iff_eq] at e ⊢; exact e.symm)
      have HN : Hid (levP l l.length nm = levP l k nm) := Lib.hid (by rw [HNO.out, HTK.out, if_neg (fun e => hs e.symm)])
      clear HTK HNO
      go_wp2_with fail
      go_roundw
      case rel => exact ⟨k, by omega, by first | rfl | go_num, ⟨HN.out, HX.out⟩⟩
      case measure => simp [intOf]
  | zero =>
    have e1 : ((0 : Nat) : Int) - 1 = -1 := by omega
    rw [e1]
    clear e1
    have HF : Hid (levP l l.length nm - 1 = -1) := Lib.hid (by rw [HNO.out]; rfl)
    clear HNO
    go_wp2_with fail
    go_ret
    exact ⟨by rw [HF.out]; rfl, HX.out⟩
end Go.Proofs.YtkbpnppiadaibaaGreatDoor
