/- Terms that are nil: formula.Free of an atom whose right side is nil. -/
import Derived.Test.YtofbfplpbffpfaaGreatMf31
import Derived.Test.YtofbfplpbffpfaaGreatEval
import Derived.Test.YtofbfplpbffpfaaGreatMf46
import Derived.Test.YtofbfplpbffpfaaGreatFirst
import Derived.Laws.StructEq
import Derived.Test.YtofbfplpbffpfaaGreatTruth

namespace Go.Proofs.YtofbfplpbffpfaaGreat
open Go.RowKit
attribute [local go_sem] as_Num as_Name as_Add as_Sub as_Mul as_Neg as_Pow as_Truth as_Atom as_Not as_And as_Or as_Implies as_Iff as_Quant

/-- `x, ok := e.(T)`, T a struct type, e nil. -/
theorem run_assert_nil {P : Program} {T : TypeId} {z : Value} (h : structT P T = true) (hz : (P.info? T).map (·.zero) = some (some z)) (xT : TypeId) (w : World) :
    (Instr.typeAssert .nilIface xT T true).run P w = .ok (.tuple #[z, .bool false]) w := by
  obtain ⟨j, hj, hz'⟩ := Option.map_eq_some_iff.1 hz
  unfold structT at h
  split at h
  · rename_i fs hu
    simp [Instr.typeAssert, run_underlying hu, zeroValue, typeInfo, hj, hz']
  · cases h
theorem no_Num (xT : TypeId) (w : World) : (Instr.typeAssert .nilIface xT 63 true).run Tryz.prog w = .ok (.tuple #[.agg #[.bool false, .slice none 0 0], .bool false]) w :=
  run_assert_nil (by kernel_rfl) (by kernel_rfl) xT w
theorem no_Name (xT : TypeId) (w : World) : (Instr.typeAssert .nilIface xT 60 true).run Tryz.prog w = .ok (.tuple #[.agg #[.string ByteArray.empty], .bool false]) w :=
  run_assert_nil (by kernel_rfl) (by kernel_rfl) xT w
theorem no_Add (xT : TypeId) (w : World) : (Instr.typeAssert .nilIface xT 98 true).run Tryz.prog w = .ok (.tuple #[.agg #[.nilIface, .nilIface], .bool false]) w :=
  run_assert_nil (by kernel_rfl) (by kernel_rfl) xT w
theorem no_Sub (xT : TypeId) (w : World) : (Instr.typeAssert .nilIface xT 99 true).run Tryz.prog w = .ok (.tuple #[.agg #[.nilIface, .nilIface], .bool false]) w :=
  run_assert_nil (by kernel_rfl) (by kernel_rfl) xT w
theorem no_Mul (xT : TypeId) (w : World) : (Instr.typeAssert .nilIface xT 100 true).run Tryz.prog w = .ok (.tuple #[.agg #[.nilIface, .nilIface], .bool false]) w :=
  run_assert_nil (by kernel_rfl) (by kernel_rfl) xT w
theorem no_Neg (xT : TypeId) (w : World) : (Instr.typeAssert .nilIface xT 94 true).run Tryz.prog w = .ok (.tuple #[.agg #[.nilIface], .bool false]) w :=
  run_assert_nil (by kernel_rfl) (by kernel_rfl) xT w
theorem no_Pow (xT : TypeId) (w : World) : (Instr.typeAssert .nilIface xT 96 true).run Tryz.prog w = .ok (.tuple #[.agg #[.nilIface, .int .i64 0], .bool false]) w :=
  run_assert_nil (by kernel_rfl) (by kernel_rfl) xT w
attribute [local go_sem] no_Num no_Name no_Add no_Sub no_Mul no_Neg no_Pow

set_option maxRecDepth 100000 in
theorem subterms_nil {w : World} : Calls Tryz.prog 106 #[.nilIface] w fun e w' => e = .returned (.slice none 0 0) ∧ w' = w := by
  go_enter Tryz.func106, Tryz.ntmps106
  go_wp2_with fail
  go_ret
  exact ⟨rfl, rfl⟩

set_option maxRecDepth 100000 in
theorem occ_nil {K : Nat} {caps : Array Value} (W : World) : Calls Tryz.prog 88 #[.nilIface, .func (.func K) #[] caps] W fun e W' => (∃ v, e = .returned v) ∧ Ext W W' := by
  go_enter Tryz.func88, Tryz.ntmps88
  go_wp2_with fail
  refine subterms_nil.mono ?_
  rintro e w1 ⟨rfl, rfl⟩
  go_wp2_with fail
  refine wp_loop_rounds 1 ?_
  rw [rounds_succ]
  go_wp2_with fail
  go_end0
  exact ⟨⟨_, rfl⟩, (Ext.refl W).alloc _⟩

section
variable {α : Type} {K : Nat} {caps : Array Value} {Ma : Nat} {J : Nat → World → (Nat → Prop) → α → Prop} {step : (ByteArray → Int) → ByteArray → α → α} {w0 : World} {L : Nat}

set_option maxRecDepth 100000 in
theorem parts_atom1 (x : Value) (w : World) : Calls Tryz.prog 87 #[.iface 65 x] w fun e w' => e = .returned (.slice none 0 0) ∧ w' = w := by
  go_enter Tryz.func87, Tryz.ntmps87
  go_wp2_with fail
  go_ret
  exact ⟨rfl, rfl⟩

set_option maxRecDepth 100000 in
set_option maxHeartbeats 1000000 in
theorem walk_atom1 (V : Walks K caps Ma J step) {l : Tm} {x : Value} (hx : TmV w0 L l x) (b : Nat) (W : World) (own : Nat → Prop) (a : ByteArray → Int) (acc : α) (hJ : J (b + l.sz) W own acc) (hA : AMap W Ma a) :
    Calls Tryz.prog 63 #[.iface 65 (.agg #[x, .int .i64 0, .nilIface]), .map (some Ma), .func (.func K) #[] caps] W (WalkPost Ma b J a own W (l.fold (step a) acc)) := by
  have HV := Lib.hid V
  have HJ := Lib.hid hJ
  have HA := Lib.hid hA
  clear V hJ hA
  have HX := Lib.hid hx
  obtain ⟨T, x, rfl⟩ := hx.iface
  clear hx
  go_enter Tryz.func63, Tryz.ntmps63
  go_wp2_with fail
  have hlt := HV.out.lt _ _ _ _ HJ.out
  have HLT := Lib.hid hlt
  clear hlt
  refine (occ_any (HV.out.visits a) _ l _ (Nat.lt_succ_self _) HX.out b _ own acc ⟨HV.out.ext _ _ _ _ _ HJ.out ((Ext.refl W).alloc _), HA.out.ext ((Ext.refl W).alloc _)⟩).mono ?_
  rintro e w1 ⟨⟨v1, rfl⟩, own1, ⟨hJ1, hA1⟩, hk1⟩
  have c2 : w1.cell? ⟨W.heap.size, 2, none⟩ = some .nilIface := by
    rw [hk1.cell (p := ⟨W.heap.size, 2, none⟩) (by simp) (fun ho => by have := HLT.out _ ho; simp at this)]
    simp [go_sem]
  have HJ1 := Lib.hid hJ1
  have HA1 := Lib.hid hA1
  have HK1 := Lib.hid (Keeps.trans (Keeps.of_ext ((Ext.refl W).alloc _)) hk1)
  clear hJ1 hA1 hk1
  go_wp2_with fail
  clear c2
  refine (occ_nil _).mono ?_
  rintro e w2 ⟨⟨v2, rfl⟩, x2⟩
  have HJ2 := Lib.hid (HV.out.ext _ _ _ _ _ HJ1.out x2)
  have HA2 := Lib.hid (HA1.out.ext x2)
  have HK2 := Lib.hid (HK1.out.trans (Keeps.of_ext x2))
  clear x2 HJ1 HA1 HK1
  go_wp2_with fail
  refine (parts_atom1 _ _).mono ?_
  rintro e w3 ⟨rfl, rfl⟩
  have HX3 := Lib.hid ((Ext.refl w2).alloc (.cells #[.bool false, .string ByteArray.empty, .nilIface] 124))
  go_wp2_with fail
  refine wp_loop_rounds 1 ?_
  rw [rounds_succ]
  go_wp2_with fail
  go_end0
  exact ⟨⟨_, rfl⟩, own1, HV.out.ext _ _ _ _ _ HJ2.out HX3.out, HA2.out.ext HX3.out, (HK2.out.trans (Keeps.of_ext HX3.out)).plus Ma⟩

end

set_option maxRecDepth 100000 in
set_option maxHeartbeats 1000000 in
theorem free_atom1 {w0 w : World} {L : Nat} (t : Tm) {x : Value} (h : TmV w0 L t x) (hl : t.sz ≤ 1099511627776) : Calls Tryz.prog 32 #[.iface 65 (.agg #[x, .int .i64 0, .nilIface])] w (RetStrs (t.fold (freeStep (fun _ => 0)) []) w) := by
  have hmm := @run_makeMap Tryz.prog
  go_enter Tryz.func32, Tryz.ntmps32
  go_wp2_with fail
  obtain ⟨W, hW⟩ : ∃ W, ((((w.alloc (Obj.cells #[.slice none 0 0] 74)).alloc (Obj.map #[] 0)).alloc (Obj.map #[] 0)).alloc (Obj.cells #[.map (some (w.heap.size + 1))] 134)).alloc (Obj.cells #[.map (some (w.heap.size + 1 + 1))] 135) = W := ⟨_, rfl⟩
  rw [hW]
  have hsz : W.heap.size = w.heap.size + 5 := by rw [← hW]; simp
  have hx : Ext w W := by rw [← hW]; exact (((((Ext.refl w).alloc _).alloc _).alloc _).alloc _).alloc _
  have hd : FreeBlocks (w.heap.size + 5) (w.heap.size + 1) (w.heap.size + 1 + 1) (w.heap.size + 1 + 1 + 1) (w.heap.size + 1 + 1 + 1 + 1) w.heap.size := by
    constructor <;> omega
  have m1 : SMap W (w.heap.size + 1) [] := by
    rw [← hW]
    have := SMap.made (w.alloc (Obj.cells #[.slice none 0 0] 74))
    rw [World.size_alloc] at this
    exact ((this.alloc _).alloc _).alloc _
  have m2 : SMap W (w.heap.size + 1 + 1) [] := by
    rw [← hW]
    have := SMap.made ((w.alloc (Obj.cells #[.slice none 0 0] 74)).alloc (Obj.map #[] 0))
    rw [World.size_alloc, World.size_alloc] at this
    exact (this.alloc _).alloc _
  have hJ : FreeJ (w.heap.size + 5) (w.heap.size + 1) (w.heap.size + 1 + 1) (w.heap.size + 1 + 1 + 1) (w.heap.size + 1 + 1 + 1 + 1) w.heap.size t.sz (0 + t.sz) W (fun i => i = w.heap.size ∨ i = w.heap.size + 1 + 1 ∨ (Value.slice none 0 0).ownBlock = some i) [] := by
    refine ⟨.slice none 0 0, [], ?_, ?_, ?_, m2, fun s => by simp [mget, has], StrRow.nil _ _, by simp, rfl, by omega⟩
    · rw [← hW]; simp [go_sem]
    · rw [← hW]; simp [go_sem]
    · rw [← hW, Below.heap_alloc _ _ _ (by simp; omega), Below.heap_alloc _ _ _ (by simp; omega), Below.heap_alloc _ _ _ (by simp; omega), Below.heap_alloc _ _ _ (by simp)]
      exact heap_alloc_new w _
  refine (walk_atom1 (free_walks hd hl) h 0 W _ (fun _ => 0) [] hJ ⟨[], m1, fun s => by simp [mget]⟩).mono ?_
  rintro e w1 ⟨⟨v1, rfl⟩, own', hJ', hA', hk'⟩
  have hx1 : Ext w w1 := hk'.ext hx (fun i hi => by
    rcases hi with (hi | hi | hi) | hi
    · omega
    · omega
    · simp [Value.ownBlock] at hi
    · omega)
  obtain ⟨v2, ls, c1, c2, c3, c4, c5, c6, c7, c8, c9⟩ := hJ'
  have cl := cell_of_one c3
  have HR : Hid (StrRow w1 w.heap.size v2 (t.fold (freeStep (fun _ => 0)) [])) := by
    have : StrRow w1 w.heap.size v2 (t.fold (freeStep (fun _ => 0)) []) := by
      have h6 := c6
      unfold StrRow World.ownsRow at h6 ⊢
      refine ⟨h6.1, ?_⟩
      rcases h6.2 with h | ⟨g, cap, cur, h1, h2, h3⟩
      · exact .inl h
      · exact .inr ⟨g, cap, cur, h1, by omega, h3⟩
    exact this
  have HX1 := Lib.hid hx1
  clear hW hx m1 m2 hJ hA' hk' hd c1 c2 c3 c4 c5 c6 c8 hx1
  go_wp2_with fail
  go_ret
  exact ⟨_, rfl, HR.out, HX1.out⟩
end Go.Proofs.YtofbfplpbffpfaaGreat

/- Layer 40: evaluate.Term. -/
namespace Go.Proofs.YtofbfplpbffpfaaGreat
open Go.RowKit

/-- The names of a term, each once. -/
def Tm.free (t : Tm) : List ByteArray := t.fold (freeStep (fun _ => 0)) []
/-- Value and error. -/
def evalT (t : Tm) (vals : List (ByteArray × Rat)) : Rat × Int :=
  if coverB (vget vals) t.free = false then (0, 7) else if t.large then (0, 8) else (t.val (vget vals), 0)
/-- A fraction, not longer than M, and an error. -/
def RetRE (M : Nat) (r : Rat × Int) (w : World) (e : Ending) (w' : World) : Prop := ∃ x, e = .returned (.tuple #[x, .int .i64 r.2]) ∧ RatR w' x r.1 M ∧ Ext w w'

theorem RatR.zero (w : World) (M : Nat) : RatR w (.agg #[.bool false, .slice none 0 0, .slice none 0 0]) 0 M :=
  ⟨false, _, _, [], [], rfl, NatV.nil w, NatV.nil w, by simp [val, sgn], by simp, by simp⟩
theorem RatR.box {w : World} {x : Value} {q : Rat} {L : Nat} {p : Addr} {u : Value} (h : RatR w x q L) (hp : w.cell? p = some u) (hu : isDig u = false) (v : Value) : RatR (w.setCell p v) x q L := by
  obtain ⟨neg, s1, s2, ds, es, e, h1, h2, h3, h4, h5⟩ := h
  exact ⟨neg, s1, s2, ds, es, e, h1.box hp hu v, h2.box hp hu v, h3, h4, h5⟩
/-- A result is stored into its three cells. -/
theorem close_re {w W : World} {g M : Nat} {q : Rat} {n : Int} {b s t : Value} (hx : Ext w W) (hg : w.heap.size ≤ g) (hz : Zero3 W g) (hr : RatR W (.agg #[b, s, t]) q M) :
    RetRE M (q, n) w (.returned (.tuple #[.agg #[b, s, t], .int .i64 n])) (((W.setCell ⟨g, 0, none⟩ b).setCell ⟨g, 1, none⟩ s).setCell ⟨g, 2, none⟩ t) := by
  obtain ⟨⟨h0, h1, h2⟩, -⟩ := hz
  have k1 : (W.setCell ⟨g, 0, none⟩ b).cell? ⟨g, 1, none⟩ = some (.slice none 0 0) := by rw [World.cell?_setCell_other _ _ _ _ (by simp), h1]
  have k2 : ((W.setCell ⟨g, 0, none⟩ b).setCell ⟨g, 1, none⟩ s).cell? ⟨g, 2, none⟩ = some (.slice none 0 0) := by rw [World.cell?_setCell_other _ _ _ _ (by simp), World.cell?_setCell_other _ _ _ _ (by simp), h2]
  exact ⟨_, rfl, ((hr.box h0 rfl _).box k1 rfl _).box k2 rfl _, ((hx.setCell hg _).setCell hg _).setCell hg _⟩

set_option maxRecDepth 100000 in
set_option maxHeartbeats 2000000 in
theorem evalTerm_any {w : World} {L : Nat} (hL1 : 1 ≤ L) (hL : L ≤ 1000000000) (t : Tm) {v s : Value} {vals : List (ByteArray × Rat)} (h : TmV w L t v) (hvs : VsV w L s vals) (hsz : t.sz ≤ 1000000000)
    (hfine : coverB (vget vals) t.free = true → t.large = false → t.covered (vget vals) ∧ t.bt L ≤ 1000000000000) :
    Calls Tryz.prog 15 #[v, s] w (RetRE 1000000000000 (evalT t vals) w) := by
  have H := Lib.hid h
  have HVS := Lib.hid hvs
  have HFINE := Lib.hid hfine
  obtain ⟨T, x, rfl⟩ := h.iface
  obtain ⟨A, c, rfl, -⟩ := hvs
  clear h hfine
  obtain ⟨W, hW⟩ : ∃ W, w.alloc (.cells #[.bool false, .slice none 0 0, .slice none 0 0] 49) = W := ⟨_, rfl⟩
  have hWx : Ext w W := by rw [← hW]; exact (Ext.refl w).alloc _
  have hWs : w.heap.size < W.heap.size := by rw [← hW]; simp
  have hZ : Zero3 W w.heap.size := by rw [← hW]; exact zero3_new w _
  have HWX := Lib.hid hWx
  have HZ := Lib.hid hZ
  clear hWx hZ
  go_enter Tryz.func15, Tryz.ntmps15
  go_wp2_with fail
  clear hW
  refine (first_any (HVS.out.ext HWX.out)).mono ?_
  rintro e w2 ⟨b, rfl, hm2, x2⟩
  have M2 := Lib.hid hm2
  have X2 := Lib.hid x2
  clear hm2 x2
  go_wp2_with fail
  refine (free_atom1 t H.out (by omega)).mono ?_
  rintro e w3 ⟨s3, rfl, hr3, x3⟩
  obtain ⟨A3, c3, rfl⟩ := hr3.slr.len
  have R3 := Lib.hid hr3.slr
  have M3 := Lib.hid (M2.out.ext x3)
  have X3 := Lib.hid (X2.out.trans x3)
  clear hr3 x3 M2 X2
  go_wp2_with fail
  refine (covers_any M3.out R3.out).mono ?_
  rintro e w4 ⟨rfl, x4⟩
  have M4 := Lib.hid (M3.out.ext x4)
  have X4 := Lib.hid (X3.out.trans x4)
  have hZ4 := HZ.out.ext X4.out hWs
  have hx4 := HWX.out.trans X4.out
  clear x4 M3 X3 R3
  by_cases hcv : coverB (vget vals) t.free = false
  · have hcv2 : coverB (vget vals) (t.fold (freeStep (fun _ => 0)) []) = false := hcv
    rw [hcv2]
    have HF := Lib.hid (close_re (n := 7) hx4 (Nat.le_refl _) hZ4 (RatR.zero w4 1000000000000))
    have HR : Hid (evalT t vals = (0, 7)) := by
      have : evalT t vals = (0, 7) := if_pos hcv
      exact this
    obtain ⟨⟨r0, r1, r2⟩, f0, f1, f2⟩ := hZ4
    clear hcv hcv2 hx4
    go_wp2_with fail
    refine bodyPost_ret (v := .tuple #[.agg #[.bool false, .slice none 0 0, .slice none 0 0], .int .i64 7]) (by simp [results, Tryz.results15, go_sem, r0, r1, r2]) rfl ?_
    rw [HR.out]
    exact HF.out
  · have hcv' : coverB (vget vals) t.free = true := by simpa using hcv
    have hcv2 : coverB (vget vals) (t.fold (freeStep (fun _ => 0)) []) = true := hcv'
    rw [hcv2]
    have HCV := Lib.hid hcv'
    have HX4 := Lib.hid hx4
    have HZ4 := Lib.hid hZ4
    clear hcv hcv' hcv2 hx4 hZ4
    go_wp2_with fail
    refine (large_any (w0 := w) (by omega) t HX4.out H.out).mono ?_
    rintro e w5 ⟨rfl, x5⟩
    have hZ5 := HZ4.out.ext x5 (by have := X4.out.size; omega)
    have hx5 := HX4.out.trans x5
    by_cases hl : t.large = true
    · rw [hl]
      have HF := Lib.hid (close_re (n := 8) hx5 (Nat.le_refl _) hZ5 (RatR.zero w5 1000000000000))
      have HR : Hid (evalT t vals = (0, 8)) := by
        have : evalT t vals = (0, 8) := by unfold evalT; rw [if_neg (by rw [HCV.out]; simp), if_pos hl]
        exact this
      obtain ⟨⟨r0, r1, r2⟩, f0, f1, f2⟩ := hZ5
      clear hl hx5 x5
      go_wp2_with fail
      refine bodyPost_ret (v := .tuple #[.agg #[.bool false, .slice none 0 0, .slice none 0 0], .int .i64 8]) (by simp [results, Tryz.results15, go_sem, r0, r1, r2]) rfl ?_
      rw [HR.out]
      exact HF.out
    · have hl' : t.large = false := by simpa using hl
      rw [hl']
      have HR : Hid (evalT t vals = (t.val (vget vals), 0)) := by
        have : evalT t vals = (t.val (vget vals), 0) := by unfold evalT; rw [if_neg (by rw [HCV.out]; simp), if_neg (by rw [hl']; simp)]
        exact this
      obtain ⟨hc1, hc2⟩ := HFINE.out HCV.out hl'
      have hlen := val_len hL1 (HVS.out.rlen hL1) H.out hc1
      have HT := Lib.hid (term_any (M4.out.ext x5) hL1 (HVS.out.rlen hL1) t hc1 hc2 _ w5 (Ext.refl w5) (H.out.ext hx5))
      have HX5 := Lib.hid hx5
      have HZ5 := Lib.hid hZ5
      have hs5 := x5.size
      have hs4 := X4.out.size
      clear hl hl' x5 hx5 hZ5 hc1
      go_wp2_with fail
      refine HT.out.mono ?_
      rintro e w6 ⟨x6, rfl, m6, y6⟩
      obtain ⟨b3, A3', n3, c3', B3, k3, d3, rfl⟩ := m6.unpack
      have hZ6 := HZ5.out.ext y6 (by omega)
      have HF := Lib.hid (close_re (n := 0) (HX5.out.trans y6) (Nat.le_refl _) hZ6 (m6.raw.mono (Nat.le_trans hlen hc2)))
      obtain ⟨⟨r0, r1, r2⟩, f0, f1, f2⟩ := hZ6
      clear y6 m6 HT hlen hc2
      go_wp2_with fail
      refine bodyPost_ret (v := .tuple #[.agg #[.bool b3, .slice A3' n3 c3', .slice B3 k3 d3], .int .i64 0]) (by simp [results, Tryz.results15, go_sem, r0, r1, r2]) rfl ?_
      rw [HR.out]
      exact HF.out
end Go.Proofs.YtofbfplpbffpfaaGreat

/- Reference 40: find, Short, Few. -/
namespace Go.Proofs.YtofbfplpbffpfaaGreat
open Go.RowKit

/-- The place of the first value of a name; -1 for none. -/
def findI (l : List (ByteArray × Rat)) (s : ByteArray) : Int := match l with
  | [] => -1
  | (k, _) :: r => if s = k then 0 else if findI r s = -1 then -1 else findI r s + 1
theorem findI_bd (l : List (ByteArray × Rat)) (s : ByteArray) : -1 ≤ findI l s ∧ findI l s < l.length := by
  induction l with
  | nil => simp [findI]
  | cons x r ih =>
    obtain ⟨k, q⟩ := x
    simp only [findI, List.length_cons]
    split
    · omega
    · split <;> omega
/-- No name before the place k. -/
def Nowhere (l : List (ByteArray × Rat)) (s : ByteArray) (k : Nat) : Prop := ∀ j (h : j < l.length), j < k → l[j].1 ≠ s
theorem findI_at (l : List (ByteArray × Rat)) (s : ByteArray) (k : Nat) (hk : k < l.length) (h : Nowhere l s k) (he : l[k].1 = s) : findI l s = k := by
  induction l generalizing k with
  | nil => simp at hk
  | cons x r ih =>
    obtain ⟨n, q⟩ := x
    cases k with
    | zero => simp only [List.getElem_cons_zero] at he; simp [findI, he]
    | succ k =>
      have h0 := h 0 (by simp) (by omega)
      simp only [List.getElem_cons_zero] at h0
      have := ih k (by simpa using hk) (fun j hj hjk => by have := h (j + 1) (by simpa using hj) (by omega); simpa using this) (by simpa using he)
      simp only [findI]
      rw [if_neg (fun e => h0 e.symm), this, if_neg (by omega)]
      simp
theorem findI_no (l : List (ByteArray × Rat)) (s : ByteArray) (h : Nowhere l s l.length) : findI l s = -1 := by
  induction l with
  | nil => rfl
  | cons x r ih =>
    obtain ⟨n, q⟩ := x
    have h0 := h 0 (by simp) (by simp)
    simp only [List.getElem_cons_zero] at h0
    have := ih (fun j hj hjk => by have := h (j + 1) (by simpa using hj) (by simpa using hj); simpa using this)
    simp only [findI]
    rw [if_neg (fun e => h0 e.symm), if_pos this]

set_option maxRecDepth 100000 in
set_option maxHeartbeats 1000000 in
theorem find_any {w : World} {L : Nat} {v : Value} {l : List (ByteArray × Rat)} (h : VsV w L v l) (nm : ByteArray) : Calls Tryz.prog 49 #[v, .string nm] w (RetI (findI l nm) w) := by
  have H := Lib.hid h
  obtain ⟨A, c, rfl, h1, h2, -⟩ := h
  have hlen : l.length ≤ 9223372036854775807 := by omega
  go_enter Tryz.func49, Tryz.ntmps49
  go_wp2_with fail
  go_loopw [8] (fun iv wr => ∃ k : Nat, k ≤ l.length ∧ iv = .int .i64 k ∧ Hid (Nowhere l nm k ∧ Ext w wr)) (fun iv _ => l.length - (intOf iv).toNat)
  case atStart => exact ⟨0, Nat.zero_le _, rfl, ⟨fun j _ hj => absurd hj (by omega), Ext.refl w⟩⟩
  case round =>
    obtain ⟨k, hk, rfl, ⟨hno, hx⟩⟩ := hrel
    have HNO := Lib.hid hno
    have HX := Lib.hid hx
    clear hno hx
    by_cases hlt : k < l.length
    · obtain ⟨A', c', e', -, -, h3⟩ := H.out.ext HX.out
      injection e' with e1 e2 e3
      obtain ⟨ad, bb, A1, n1, c1, A2, n2, c2, e4, hb, ⟨a0, a1, a2, a3⟩, hr⟩ := h3 k hlt
      obtain rfl : A = some ad := e1.trans e4
      clear h3 e1 e3 e4 hr a1 a2 a3
      generalize hq : l[k].1 = q at *
      have HQ := Lib.hid hq
      clear hq
      by_cases hs : q = nm
      · have HF : Hid (findI l nm = k) := by
          have : findI l nm = k := findI_at l nm k hlt HNO.out (by rw [HQ.out]; exact hs)
          exact this
        have hb : (q == nm) = true := (MapKept.bytes_beq q nm).2 hs
        have hb2 : (q.toList == nm.toList) = true := by rw [hs]; simp
        go_wp2_with fail
        go_ret
        exact ⟨by rw [HF.out]; rfl, HX.out⟩
      · have hb : (q == nm) = false := by rw [Bool.eq_false_iff]; exact fun e => hs ((MapKept.bytes_beq q nm).1 e)
        have hb2 : (q.toList == nm.toList) = false := by rw [← beq_toListBytes]; exact hb
        have HN : Hid (Nowhere l nm (k + 1)) := by
          intro j hj hjk
          by_cases hjk' : j < k
          · exact HNO.out j hj hjk'
          · obtain rfl : j = k := by omega
            rw [HQ.out]; exact hs
        go_wp2_with fail
        go_roundw
        case rel => exact ⟨k + 1, by omega, by go_num, ⟨HN.out, HX.out⟩⟩
        case measure => simp [intOf]; omega
    · have HF : Hid (findI l nm = -1) := by
        have hke : k = l.length := by omega
        have : findI l nm = -1 := findI_no l nm (by rw [← hke]; exact HNO.out)
        exact this
      go_wp2_with fail
      go_ret
      exact ⟨by rw [HF.out]; rfl, HX.out⟩
end Go.Proofs.YtofbfplpbffpfaaGreat

/- Reference 40: Short, Few: values of a size that is looked at. -/
namespace Go.Proofs.YtofbfplpbffpfaaGreat
open Go.RowKit

/-- A value as it came in. -/
structure Vr where
  name : ByteArray
  neg : Bool
  ds : List Nat
  es : List Nat
def Vr.q (x : Vr) : Rat := mkRat (sgn x.neg (val x.ds)) (val x.es)
/-- v is a slice of such values. -/
def VsW (w : World) (v : Value) (l : List Vr) : Prop :=
  ∃ A c, v = .slice A l.length c ∧ l.length ≤ c ∧ c ≤ 9223372036854775807 ∧ ∀ j (h : j < l.length), ∃ ad A1 c1 A2 c2, A = some ad ∧ ad.block < w.heap.size ∧ VaAt w (ad.add (j * 4)) l[j].name (.bool l[j].neg) (.slice A1 l[j].ds.length c1) (.slice A2 l[j].es.length c2) ∧ NatV w (.slice A1 l[j].ds.length c1) l[j].ds ∧ NatV w (.slice A2 l[j].es.length c2) l[j].es
def Vr.short (x : Vr) : Bool := decide (x.ds.length ≤ 3) && decide (x.es.length ≤ 3)
/-- The first eight are short; there are no more. -/
def fewV (l : List Vr) : Bool := decide (l.length ≤ 8) && l.all fun x => decide (x.name.size ≤ 40) && x.short
theorem VsW.ext {w w' : World} {v : Value} {l : List Vr} (h : VsW w v l) (hx : Ext w w') : VsW w' v l := by
  obtain ⟨A, c, e, h1, h2, h3⟩ := h
  refine ⟨A, c, e, h1, h2, fun j hj => ?_⟩
  obtain ⟨ad, A1, c1, A2, c2, e, hb, hv, hr, hs⟩ := h3 j hj
  exact ⟨ad, A1, c1, A2, c2, e, Nat.lt_of_lt_of_le hb hx.size, hv.ext hx (by rw [block_of_add]; exact hb), hr.ext hx, hs.ext hx⟩
theorem VsW.few {w : World} {v : Value} {l : List Vr} (h : VsW w v l) (hf : fewV l = true) : VsV w 3 v (l.map fun x => (x.name, x.q)) := by
  obtain ⟨A, c, e, h1, h2, h3⟩ := h
  refine ⟨A, c, by rw [List.length_map]; exact e, by rw [List.length_map]; exact h1, h2, fun j hj => ?_⟩
  rw [List.length_map] at hj
  obtain ⟨ad, A1, c1, A2, c2, e, hb, hv, hr, hs⟩ := h3 j hj
  have hall : l[j].short = true := by
    unfold fewV at hf
    simp only [Bool.and_eq_true, List.all_eq_true] at hf
    exact (hf.2 l[j] (List.getElem_mem hj)).2
  simp only [Vr.short, Bool.and_eq_true, decide_eq_true_eq] at hall
  refine ⟨ad, _, A1, _, c1, A2, _, c2, e, hb, by rw [List.getElem_map]; exact hv, ?_⟩
  rw [List.getElem_map]
  exact ⟨_, _, _, _, _, rfl, hr, hs, rfl, hall.1, hall.2⟩

theorem short_any (neg : Bool) (A1 A2 : Option Addr) (n1 c1 n2 c2 : Nat) (w : World) : Calls Tryz.prog 61 #[.agg #[.bool neg, .slice A1 n1 c1, .slice A2 n2 c2]] w (RetB (decide (n1 ≤ 3) && decide (n2 ≤ 3)) w) := by
  by_cases h1 : n1 ≤ 3
  · have hv : (decide (n1 ≤ 3) && decide (n2 ≤ 3)) = decide (n2 ≤ 3) := by simp [h1]
    rw [hv]
    have hd : decide ((n1 : Int) ≤ 3) = true := by simp; omega
    have hd2 : decide ((n2 : Int) ≤ 3) = decide (n2 ≤ 3) := by simp; omega
    have HD := Lib.hid hd2
    clear hv hd2
    go_enter Tryz.func61, Tryz.ntmps61
    go_wp2_with fail
    go_ret
    exact ⟨by first | rfl | (rw [← HD.out]; rfl), (Ext.refl w).alloc _⟩
  · have hv : (decide (n1 ≤ 3) && decide (n2 ≤ 3)) = false := by simp [h1]
    rw [hv]
    have hd : decide ((n1 : Int) ≤ 3) = false := by simp; omega
    clear hv
    go_enter Tryz.func61, Tryz.ntmps61
    go_wp2_with fail
    go_ret
    exact ⟨rfl, (Ext.refl w).alloc _⟩
def Vr.ok (x : Vr) : Bool := decide (x.name.size ≤ 40) && x.short
theorem fewV_bad (l : List Vr) (k : Nat) (hk : k < l.length) (h : l[k].ok = false) : fewV l = false := by
  unfold fewV
  rw [Bool.and_eq_false_iff]
  refine .inr (List.all_eq_false.2 ⟨l[k], List.getElem_mem hk, ?_⟩)
  have h' : (decide (l[k].name.size ≤ 40) && l[k].short) = false := h
  rw [h']; simp

set_option maxRecDepth 100000 in
set_option maxHeartbeats 1000000 in
theorem few_any {w : World} {v : Value} {l : List Vr} (h : VsW w v l) : Calls Tryz.prog 25 #[v] w (RetB (fewV l) w) := by
  have H := Lib.hid h
  obtain ⟨A, c, rfl, h1, h2, -⟩ := h
  have hlen : l.length ≤ 9223372036854775807 := by omega
  go_enter Tryz.func25, Tryz.ntmps25
  go_wp2_with fail
  go_loopw [6] (fun iv wr => ∃ k : Nat, k ≤ l.length ∧ k ≤ 8 ∧ iv = .int .i64 k ∧ Hid ((l.take k).all Vr.ok = true ∧ Ext w wr)) (fun iv _ => l.length - (intOf iv).toNat)
  case atStart => exact ⟨0, Nat.zero_le _, by omega, rfl, ⟨by simp, Ext.refl w⟩⟩
  case round =>
    obtain ⟨k, hk, hk8, rfl, ⟨hall, hx⟩⟩ := hrel
    have HA := Lib.hid hall
    have HX := Lib.hid hx
    clear hall hx
    by_cases hlt : k < l.length
    · by_cases h8 : 8 ≤ k
      · have hd8 : decide ((8 : Int) ≤ (k : Int)) = true := by simp; omega
        have HF : Hid (fewV l = false) := by
          have : fewV l = false := by unfold fewV; simp; omega
          exact this
        go_wp2_with fail
        go_ret
        exact ⟨by rw [HF.out]; rfl, HX.out⟩
      · have hd8 : decide ((8 : Int) ≤ (k : Int)) = false := by simp; omega
        obtain ⟨A', c', e', -, -, h3⟩ := H.out.ext HX.out
        injection e' with e1 e2 e3
        obtain ⟨ad, A1, c1, A2, c2, e4, hb, ⟨a0, a1, a2, a3⟩, hr1, hr2⟩ := h3 k hlt
        obtain rfl : A = some ad := e1.trans e4
        clear h3 e1 e3 e4 hr1 hr2
        have HOK : Hid (l[k].ok = (decide (l[k].name.size ≤ 40) && (decide (l[k].ds.length ≤ 3) && decide (l[k].es.length ≤ 3)))) := rfl
        have HBAD : Hid (l[k].ok = false → fewV l = false) := fewV_bad l k hlt
        have HTK : Hid ((l.take (k + 1)).all Vr.ok = ((l.take k).all Vr.ok && l[k].ok)) := by
          have : (l.take (k + 1)).all Vr.ok = ((l.take k).all Vr.ok && l[k].ok) := by rw [List.take_succ_eq_append_getElem hlt, List.all_append]; simp
          exact this
        generalize l[k].name = nm at *
        generalize l[k].neg = ng at *
        generalize l[k].ds.length = n1 at *
        generalize l[k].es.length = n2 at *
        generalize l[k].ok = okk at *
        by_cases h40 : nm.size ≤ 40
        · have hd40 : decide ((40 : Int) < (nm.size : Int)) = false := by simp; omega
          have HS := Lib.hid (short_any ng A1 A2 n1 c1 n2 c2 wr)
          by_cases hs : (decide (n1 ≤ 3) && decide (n2 ≤ 3)) = true
          · rw [hs] at HS
            have hok : okk = true := by rw [HOK.out, hs]; simp [h40]
            have HN : Hid ((l.take (k + 1)).all Vr.ok = true) := by
              have : (l.take (k + 1)).all Vr.ok = true := by rw [HTK.out, HA.out, hok]; rfl
              exact this
            clear hs hok
            go_wp2_with fail
            refine HS.out.mono ?_
            rintro e w2 ⟨rfl, x2⟩
            have X2 := Lib.hid x2
            clear x2 a0 a1 a2 a3 HS
            go_wp2_with fail
            go_roundw
            case rel => exact ⟨k + 1, by omega, by omega, by go_num, ⟨HN.out, HX.out.trans X2.out⟩⟩
            case measure => simp [intOf]; omega
          · have hs' : (decide (n1 ≤ 3) && decide (n2 ≤ 3)) = false := by simpa using hs
            rw [hs'] at HS
            have HF : Hid (fewV l = false) := by
              have : fewV l = false := HBAD.out (by rw [HOK.out, hs']; simp)
              exact this
            clear hs hs'
            go_wp2_with fail
            refine HS.out.mono ?_
            rintro e w2 ⟨rfl, x2⟩
            have X2 := Lib.hid x2
            clear x2 a0 a1 a2 a3 HS
            go_wp2_with fail
            go_ret
            exact ⟨by rw [HF.out]; rfl, HX.out.trans X2.out⟩
        · have hd40 : decide ((40 : Int) < (nm.size : Int)) = true := by simp; omega
          have HF : Hid (fewV l = false) := by
            have : fewV l = false := HBAD.out (by rw [HOK.out]; simp [h40])
            exact this
          go_wp2_with fail
          go_ret
          exact ⟨by rw [HF.out]; rfl, HX.out⟩
    · have HF : Hid (fewV l = true) := by
        have hke : k = l.length := by omega
        have hA := HA.out
        rw [hke, List.take_length] at hA
        have : fewV l = true := by
          unfold fewV
          rw [Bool.and_eq_true]
          exact ⟨by simp; omega, hA⟩
        exact this
      go_wp2_with fail
      go_ret
      exact ⟨by rw [HF.out]; rfl, HX.out⟩
end Go.Proofs.YtofbfplpbffpfaaGreat

/- Reference 40: value. -/
namespace Go.Proofs.YtofbfplpbffpfaaGreat
open Go.RowKit

theorem vget_find (l : List (ByteArray × Rat)) (s : ByteArray) (q : Rat) (h : vget l s = some q) : ∃ k, ∃ hk : k < l.length, findI l s = k ∧ l[k].2 = q := by
  induction l with
  | nil => cases h
  | cons x r ih =>
    obtain ⟨n, q'⟩ := x
    unfold vget at h
    by_cases hs : s = n
    · rw [if_pos hs] at h
      injection h with h
      exact ⟨0, by simp, by simp [findI, hs], h⟩
    · rw [if_neg hs] at h
      obtain ⟨k, hk, h1, h2⟩ := ih h
      refine ⟨k + 1, by simpa using hk, ?_, by simpa using h2⟩
      simp only [findI]
      rw [if_neg hs, h1, if_neg (by omega)]
      simp
/-- The call returns a fraction, not longer than M. -/
def RetQ (q : Rat) (M : Nat) (w : World) (e : Ending) (w' : World) : Prop := ∃ x, e = .returned x ∧ RatR w' x q M ∧ Ext w w'
theorem RatR.unpack {w : World} {x : Value} {q : Rat} {L : Nat} (h : RatR w x q L) : ∃ b A n c B m d, x = .agg #[.bool b, .slice A n c, .slice B m d] := by
  obtain ⟨neg, s1, s2, ds, es, rfl, ⟨A, c, rfl, -⟩, ⟨B, d, rfl, -⟩, -⟩ := h
  exact ⟨_, A, _, c, B, _, d, rfl⟩
theorem close_q {w W : World} {g M : Nat} {q : Rat} {b s t : Value} (hx : Ext w W) (hg : w.heap.size ≤ g) (hz : Zero3 W g) (hr : RatR W (.agg #[b, s, t]) q M) :
    RetQ q M w (.returned (.agg #[b, s, t])) (((W.setCell ⟨g, 0, none⟩ b).setCell ⟨g, 1, none⟩ s).setCell ⟨g, 2, none⟩ t) := by
  obtain ⟨x, e, h1, h2⟩ := close_re (n := 0) hx hg hz hr
  exact ⟨_, rfl, by injection e with e; injection e with e; simp at e; rw [e]; exact h1, h2⟩
def ValIH (L : Nat) (p : Nat → Prop) (s : Value) (vals : List (ByteArray × Rat)) (m : Tm) : Prop := ∀ (t : Tr) (v : Value) (w : World), IsTm L m t → TrV w p t v → VsV w L s vals → Calls Tryz.prog 43 #[v, s] w (RetQ (m.val (vget vals)) (m.bt L) w)

section
variable {L : Nat} {p : Nat → Prop} {s : Value} {vals : List (ByteArray × Rat)}

set_option maxRecDepth 100000 in
set_option maxHeartbeats 4000000 in
theorem rv_num {z : Int} (hL : 1 ≤ L) (hbt : L ≤ 1000000000000) : ValIH L p s vals (.num z) := by
  intro t v w h hv hvs
  obtain ⟨⟨kind, neg, ds, name, exp, rel, truth, all⟩, ks⟩ := t
  obtain ⟨hkind, hks, hz, hl⟩ := h
  simp only [Tr.d] at hkind hz hl
  simp only [Tr.ks] at hks
  subst hkind hks
  obtain ⟨A0, n0, c0, A, c, rfl, hnat, hc1, hc2, hat⟩ := hv.open_
  clear hv hat
  unfold ndV
  simp only [Tr.d, Tr.ks, List.length_nil] at hc1 hnat ⊢
  obtain ⟨As, cs, hse, hs1, hs2, -⟩ := id hvs
  have HVS := Lib.hid hvs
  subst hse
  clear hvs
  obtain ⟨W, hW⟩ : ∃ W, (w.alloc (.cells #[.int .i64 1, .bool neg, .slice A0 n0 c0, .string name, .int .i64 exp, .int .i64 rel, .bool truth, .bool all, .slice A 0 c] 29)).alloc (.cells #[.bool false, .slice none 0 0, .slice none 0 0] 49) = W := ⟨_, rfl⟩
  have hWx : Ext w W := by rw [← hW]; exact ((Ext.refl w).alloc _).alloc _
  have hWs : W.heap.size = w.heap.size + 1 + 1 := by rw [← hW]; simp
  have hbx : W.heap[w.heap.size]? = some (.cells #[.int .i64 1, .bool neg, .slice A0 n0 c0, .string name, .int .i64 exp, .int .i64 rel, .bool truth, .bool all, .slice A 0 c] 29) := by rw [← hW, Below.heap_alloc _ _ _ (by simp)]; exact heap_alloc_new w _
  have hZ : Zero3 W (w.heap.size + 1) := by
    rw [← hW]
    have := zero3_new (w.alloc (.cells #[.int .i64 1, .bool neg, .slice A0 n0 c0, .string name, .int .i64 exp, .int .i64 rel, .bool truth, .bool all, .slice A 0 c] 29)) 49
    rwa [World.size_alloc] at this
  have HZ := Lib.hid hZ
  have HWX := Lib.hid hWx
  have HI : Hid (IntR W (.agg #[.bool neg, .slice A0 n0 c0]) z L) := ⟨neg, _, ds, rfl, hnat.ext hWx, hz, hl⟩
  have b0 : W.cell? ⟨w.heap.size, 0, none⟩ = some (.int .i64 1) := by simp [World.cell?, hbx]
  have b1 : W.cell? ⟨w.heap.size, 1, none⟩ = some (.bool neg) := by simp [World.cell?, hbx]
  have b2 : W.cell? ⟨w.heap.size, 2, none⟩ = some (.slice A0 n0 c0) := by simp [World.cell?, hbx]
  clear hnat hz hWx hZ hbx
  go_enter Tryz.func43, Tryz.ntmps43
  go_wp2_with fail
  clear hW
  refine (from_rat _ _ _ _ HI.out (by omega)).mono ?_
  rintro e v8 ⟨z8, rfl, m8, x8⟩
  have r8 := m8.raw
  obtain ⟨b8', A8, n8, c8, B8, k8, d8, rfl⟩ := m8.unpack
  have hz8 := HZ.out.ext x8 (by omega)
  have hlen : rlen (z : Rat) ≤ (Tm.num z).bt L := rlen_int z HI.out.len hL
  have HF := Lib.hid (close_q (g := w.heap.size + 1) (HWX.out.trans x8) (by omega) hz8 (r8.mono hlen))
  obtain ⟨⟨r0, r1, r2⟩, g0, g1, g2⟩ := hz8
  clear r8 m8 x8 b0 b1 b2 hlen
  go_wp2_with fail
  exact bodyPost_ret (v := .agg #[.bool b8', .slice A8 n8 c8, .slice B8 k8 d8]) (by simp [results, Tryz.results43, go_sem, r0, r1, r2]) rfl HF.out

set_option maxRecDepth 100000 in
set_option maxHeartbeats 4000000 in
theorem rv_name {nm : ByteArray} (hcv : (vget vals nm).isSome = true) : ValIH L p s vals (.name nm) := by
  intro t v w h hv hvs
  obtain ⟨⟨kind, neg, ds, name, exp, rel, truth, all⟩, ks⟩ := t
  obtain ⟨hkind, hks, hnm⟩ := h
  simp only [Tr.d] at hkind hnm
  simp only [Tr.ks] at hks
  subst hkind hks hnm
  obtain ⟨q, hq⟩ := Option.isSome_iff_exists.1 hcv
  have hval : (Tm.name name).val (vget vals) = q := by simp [Tm.val, hq]
  rw [hval]
  obtain ⟨k, hk, hf, hkq⟩ := vget_find _ _ _ hq
  clear hval hcv hq
  obtain ⟨A0, n0, c0, A, c, rfl, hnat, hc1, hc2, hat⟩ := hv.open_
  clear hv hat
  unfold ndV
  simp only [Tr.d, Tr.ks, List.length_nil] at hc1 hnat ⊢
  obtain ⟨As, cs, hse, hs1, hs2, -⟩ := id hvs
  have HVS := Lib.hid hvs
  subst hse
  clear hvs
  obtain ⟨W, hW⟩ : ∃ W, (w.alloc (.cells #[.int .i64 2, .bool neg, .slice A0 n0 c0, .string name, .int .i64 exp, .int .i64 rel, .bool truth, .bool all, .slice A 0 c] 29)).alloc (.cells #[.bool false, .slice none 0 0, .slice none 0 0] 49) = W := ⟨_, rfl⟩
  have hWx : Ext w W := by rw [← hW]; exact ((Ext.refl w).alloc _).alloc _
  have hWs : W.heap.size = w.heap.size + 1 + 1 := by rw [← hW]; simp
  have hbx : W.heap[w.heap.size]? = some (.cells #[.int .i64 2, .bool neg, .slice A0 n0 c0, .string name, .int .i64 exp, .int .i64 rel, .bool truth, .bool all, .slice A 0 c] 29) := by rw [← hW, Below.heap_alloc _ _ _ (by simp)]; exact heap_alloc_new w _
  have hZ : Zero3 W (w.heap.size + 1) := by
    rw [← hW]
    have := zero3_new (w.alloc (.cells #[.int .i64 2, .bool neg, .slice A0 n0 c0, .string name, .int .i64 exp, .int .i64 rel, .bool truth, .bool all, .slice A 0 c] 29)) 49
    rwa [World.size_alloc] at this
  have HZ := Lib.hid hZ
  have HWX := Lib.hid hWx
  have b0 : W.cell? ⟨w.heap.size, 0, none⟩ = some (.int .i64 2) := by simp [World.cell?, hbx]
  have b3 : W.cell? ⟨w.heap.size, 3, none⟩ = some (.string name) := by simp [World.cell?, hbx]
  have HFI := Lib.hid (find_any (HVS.out.ext hWx) name)
  rw [hf] at HFI
  clear hnat hWx hZ hbx hf
  go_enter Tryz.func43, Tryz.ntmps43
  go_wp2_with fail
  clear hW
  refine HFI.out.mono ?_
  rintro e v8 ⟨rfl, x8⟩
  obtain ⟨A', c', e', -, -, h3⟩ := HVS.out.ext (HWX.out.trans x8)
  injection e' with e1 e2 e3
  obtain ⟨ad, bb, A1, n1, c1, A2, n2, c2, e4, hb, ⟨a0, a1, a2, a3⟩, hr⟩ := h3 k hk
  rw [hkq] at hr
  obtain rfl : As = some ad := e1.trans e4
  have hz8 := HZ.out.ext x8 (by omega)
  have HF := Lib.hid (close_q (g := w.heap.size + 1) (HWX.out.trans x8) (by omega) hz8 hr)
  obtain ⟨⟨r0, r1, r2⟩, g0, g1, g2⟩ := hz8
  clear hr x8 b0 b3 h3 e1 e3 e4
  go_wp2_with fail
  exact bodyPost_ret (v := .agg #[.bool bb, .slice A1 n1 c1, .slice A2 n2 c2]) (by simp [results, Tryz.results43, go_sem, r0, r1, r2]) rfl HF.out

set_option maxRecDepth 100000 in
set_option maxHeartbeats 4000000 in
theorem rv_neg {a : Tm} (hL : 1 ≤ L) (hbt : (Tm.neg a).bt L ≤ 1000000000000) (iha : ValIH L p s vals a) : ValIH L p s vals (.neg a) := by
  intro t v w h hv hvs
  have IHA := Lib.hid iha
  have hb1 := a.bt_pos L hL
  have hbt2 : a.bt L ≤ 1000000000000 := by simp only [Tm.bt] at hbt; omega
  clear iha hbt
  obtain ⟨⟨kind, neg, ds, name, exp, rel, truth, all⟩, ks⟩ := t
  obtain ⟨hkind, t0, hks, h0⟩ := h
  simp only [Tr.d] at hkind
  simp only [Tr.ks] at hks
  subst hkind hks
  have H0 := Lib.hid h0
  clear h0
  obtain ⟨A0, n0, c0, A, c, rfl, hnat, hc1, hc2, hat⟩ := hv.open_
  change TrsAt w p [t0] A 0 at hat
  clear hv hnat
  unfold ndV
  simp only [Tr.d, Tr.ks, List.length_cons, List.length_nil, Nat.zero_add, Nat.reduceAdd] at hc1 ⊢
  obtain ⟨As, cs, hse, hs1, hs2, -⟩ := id hvs
  have HVS := Lib.hid hvs
  subst hse
  clear hvs
  obtain ⟨W, hW⟩ : ∃ W, (w.alloc (.cells #[.int .i64 6, .bool neg, .slice A0 n0 c0, .string name, .int .i64 exp, .int .i64 rel, .bool truth, .bool all, .slice A 1 c] 29)).alloc (.cells #[.bool false, .slice none 0 0, .slice none 0 0] 49) = W := ⟨_, rfl⟩
  have hWx : Ext w W := by rw [← hW]; exact ((Ext.refl w).alloc _).alloc _
  have hWs : W.heap.size = w.heap.size + 1 + 1 := by rw [← hW]; simp
  have hbx : W.heap[w.heap.size]? = some (.cells #[.int .i64 6, .bool neg, .slice A0 n0 c0, .string name, .int .i64 exp, .int .i64 rel, .bool truth, .bool all, .slice A 1 c] 29) := by rw [← hW, Below.heap_alloc _ _ _ (by simp)]; exact heap_alloc_new w _
  have hZ : Zero3 W (w.heap.size + 1) := by
    rw [← hW]
    have := zero3_new (w.alloc (.cells #[.int .i64 6, .bool neg, .slice A0 n0 c0, .string name, .int .i64 exp, .int .i64 rel, .bool truth, .bool all, .slice A 1 c] 29)) 49
    rwa [World.size_alloc] at this
  have HBX := Lib.hid hbx
  have HZ := Lib.hid hZ
  have HWX := Lib.hid hWx
  have HAT := Lib.hid hat
  obtain ⟨ad, B0, m0, d0, B1, m1, d1, hA, hadb, ⟨e0, e1, e2, e3, e4, e5, e6, e7, e8⟩, hkt⟩ := (hat.ext hWx).kid0 (by simp)
  subst hA
  have HK0 := Lib.hid hkt
  simp only [List.getElem_cons_zero] at e0 e1 e3 e4 e5 e6 e7
  have b0 : W.cell? ⟨w.heap.size, 0, none⟩ = some (.int .i64 6) := by simp [World.cell?, hbx]
  have b4 : W.cell? ⟨w.heap.size, 4, none⟩ = some (.int .i64 exp) := by simp [World.cell?, hbx]
  have b8 : W.cell? ⟨w.heap.size, 8, none⟩ = some (.slice (some ad) 1 c) := by simp [World.cell?, hbx]
  clear hkt hat hWx hZ hbx
  go_enter Tryz.func43, Tryz.ntmps43
  go_wp2_with fail
  clear hW
  refine (IHA.out t0 _ _ H0.out HK0.out (HVS.out.ext HWX.out)).mono ?_
  rintro e v1 ⟨z1, rfl, r1, x1⟩
  obtain ⟨b1, A1, n1, c1, B1', k1, d1', rfl⟩ := r1.unpack
  clear b0 b4 b8 e0 e1 e2 e3 e4 e5 e6 e7 e8
  obtain ⟨W5, hW5⟩ : ∃ W5, v1.alloc (.cells #[.bool b1, .slice A1 n1 c1, .slice B1' k1 d1'] 49) = W5 := ⟨_, rfl⟩
  have x5 : Ext v1 W5 := by rw [← hW5]; exact (Ext.refl v1).alloc _
  have hq5 : W5.heap[v1.heap.size]? = some (.cells #[.bool b1, .slice A1 n1 c1, .slice B1' k1 d1'] 49 (0, 0)) := by rw [← hW5]; exact heap_alloc_new v1 _
  have hs1 := x1.size
  have hs5 : W5.heap.size = v1.heap.size + 1 := by rw [← hW5]; simp
  have hbx := ((x1.trans x5).below.block _ (by omega)).trans HBX.out
  have b0 : W5.cell? ⟨w.heap.size, 0, none⟩ = some (.int .i64 6) := by simp [World.cell?, hbx]
  have b4 : W5.cell? ⟨w.heap.size, 4, none⟩ = some (.int .i64 exp) := by simp [World.cell?, hbx]
  have b8 : W5.cell? ⟨w.heap.size, 8, none⟩ = some (.slice (some ad) 1 c) := by simp [World.cell?, hbx]
  have R1 := Lib.hid (r1.ext x5)
  have X5 := Lib.hid (HWX.out.trans (x1.trans x5))
  have Z5 := Lib.hid (HZ.out.ext (x1.trans x5) (by omega))
  have f10 : W5.cell? ⟨v1.heap.size, 0, none⟩ = some (.bool b1) := by simp [World.cell?, hq5]
  have f11 : W5.cell? ⟨v1.heap.size, 1, none⟩ = some (.slice A1 n1 c1) := by simp [World.cell?, hq5]
  have f12 : W5.cell? ⟨v1.heap.size, 2, none⟩ = some (.slice B1' k1 d1') := by simp [World.cell?, hq5]
  clear r1 x1 x5 hq5 hbx
  go_wp2_with fail
  clear hW5
  refine (neg_rat _ _ _ _ R1.out hb1 (by omega)).mono ?_
  rintro e v8 ⟨z8, rfl, m8, x8⟩
  have r8 := m8.raw
  obtain ⟨b8', A8, n8, c8, B8, k8, d8, rfl⟩ := m8.unpack
  have hz8 := Z5.out.ext x8 (by omega)
  have hlen : rlen (-a.val (vget vals)) ≤ (Tm.neg a).bt L := by
    have h1 := R1.out.rlen_le hb1
    rw [rlen_neg]
    exact h1
  have HF := Lib.hid (close_q (g := w.heap.size + 1) (X5.out.trans x8) (by omega) hz8 (r8.mono hlen))
  obtain ⟨⟨r0, r1, r2⟩, g0, g1, g2⟩ := hz8
  clear r8 m8 x8 b0 b4 b8 hlen f10 f11 f12
  go_wp2_with fail
  exact bodyPost_ret (v := .agg #[.bool b8', .slice A8 n8 c8, .slice B8 k8 d8]) (by simp [results, Tryz.results43, go_sem, r0, r1, r2]) rfl HF.out

/-- A block of three cells that is a raw fraction. -/
def Rat3R (w : World) (gb : Nat) (q : Rat) (M : Nat) : Prop := ∃ bb A1 n1 c1 A2 n2 c2, w.heap[gb]? = some (.cells #[.bool bb, .slice A1 n1 c1, .slice A2 n2 c2] 49 (0, 0)) ∧ RatR w (.agg #[.bool bb, .slice A1 n1 c1, .slice A2 n2 c2]) q M
theorem Rat3R.ext {w w' : World} {gb M : Nat} {q : Rat} (h : Rat3R w gb q M) (hx : Ext w w') : Rat3R w' gb q M := by
  obtain ⟨bb, A1, n1, c1, A2, n2, c2, h1, h2⟩ := h
  exact ⟨bb, A1, n1, c1, A2, n2, c2, (hx.below.block _ (Array.getElem?_eq_some_iff.1 h1).1).trans h1, h2.ext hx⟩
theorem Rat3R.put {w : World} {gb M M' : Nat} {q q' : Rat} {bb : Bool} {A1 A2 : Option Addr} {n1 c1 n2 c2 : Nat} (h : Rat3R w gb q M) (k : RatR w (.agg #[.bool bb, .slice A1 n1 c1, .slice A2 n2 c2]) q' M') :
    Rat3R (((w.setCell ⟨gb, 0, none⟩ (.bool bb)).setCell ⟨gb, 1, none⟩ (.slice A1 n1 c1)).setCell ⟨gb, 2, none⟩ (.slice A2 n2 c2)) gb q' M' ∧ (∀ {x q M}, RatR w x q M → RatR (((w.setCell ⟨gb, 0, none⟩ (.bool bb)).setCell ⟨gb, 1, none⟩ (.slice A1 n1 c1)).setCell ⟨gb, 2, none⟩ (.slice A2 n2 c2)) x q M) := by
  obtain ⟨b', B1, m1, d1, B2, m2, d2, h1, h2⟩ := h
  have c0 : w.cell? ⟨gb, 0, none⟩ = some (.bool b') := by simp [World.cell?, h1]
  have c1' : (w.setCell ⟨gb, 0, none⟩ (.bool bb)).cell? ⟨gb, 1, none⟩ = some (.slice B1 m1 d1) := by
    rw [World.cell?_setCell_other _ _ _ _ (by simp)]; simp [World.cell?, h1]
  have c2' : ((w.setCell ⟨gb, 0, none⟩ (.bool bb)).setCell ⟨gb, 1, none⟩ (.slice A1 n1 c1)).cell? ⟨gb, 2, none⟩ = some (.slice B2 m2 d2) := by
    rw [World.cell?_setCell_other _ _ _ _ (by simp), World.cell?_setCell_other _ _ _ _ (by simp)]; simp [World.cell?, h1]
  have key : ∀ {x q M}, RatR w x q M → RatR (((w.setCell ⟨gb, 0, none⟩ (.bool bb)).setCell ⟨gb, 1, none⟩ (.slice A1 n1 c1)).setCell ⟨gb, 2, none⟩ (.slice A2 n2 c2)) x q M := fun {x q M} h => ((h.box c0 rfl _).box c1' rfl _).box c2' rfl _
  exact ⟨⟨bb, A1, n1, c1, A2, n2, c2, by simp [World.setCell, Array.getElem?_modify, h1], key k⟩, fun h => key h⟩
theorem Rat3R.far {w : World} {gb gp M : Nat} {q : Rat} (h : Rat3R w gb q M) (hne : gb ≠ gp) {u0 u1 u2 : Value} (hk : ∀ {x q M}, RatR w x q M → RatR (((w.setCell ⟨gp, 0, none⟩ u0).setCell ⟨gp, 1, none⟩ u1).setCell ⟨gp, 2, none⟩ u2) x q M) : Rat3R (((w.setCell ⟨gp, 0, none⟩ u0).setCell ⟨gp, 1, none⟩ u1).setCell ⟨gp, 2, none⟩ u2) gb q M := by
  obtain ⟨b', B1, m1, d1, B2, m2, d2, h1, h2⟩ := h
  refine ⟨b', B1, m1, d1, B2, m2, d2, ?_, hk h2⟩
  rw [Below.heap_setCell _ _ _ _ hne, Below.heap_setCell _ _ _ _ hne, Below.heap_setCell _ _ _ _ hne]
  exact h1
/-- The loop of the power. -/
def PowR (w : World) (gr gp gb : Nat) (q : Rat) (M k : Nat) (wr : World) : Prop := Ext w wr ∧ Zero3 wr gr ∧ gr < wr.heap.size ∧ Rat3R wr gp (q ^ k) (rlen (q ^ k)) ∧ Rat3R wr gb q M

set_option maxRecDepth 100000 in
set_option maxHeartbeats 4000000 in
theorem rv_pow {a : Tm} {n : Int} (hL : 1 ≤ L) (hbt : (Tm.pow a n).bt L ≤ 1000000000000) (iha : ValIH L p s vals a) : ValIH L p s vals (.pow a n) := by
  intro t v w h hv hvs
  have IHA := Lib.hid iha
  have hb1 := a.bt_pos L hL
  obtain ⟨⟨kind, neg, ds, name, exp, rel, truth, all⟩, ks⟩ := t
  obtain ⟨hkind, hexp, hn0, t0, hks, h0⟩ := h
  simp only [Tr.d] at hkind hexp
  simp only [Tr.ks] at hks
  subst hkind hks hexp
  have H0 := Lib.hid h0
  obtain ⟨N, hN⟩ : ∃ N : Nat, exp = N := ⟨exp.toNat, by omega⟩
  subst hN
  have hMB : max N 1 * a.bt L ≤ 1000000000000 := by
    simp only [Tm.bt, Int.toNat_natCast] at hbt
    exact hbt
  have hNB : max N 1 ≤ max N 1 * a.bt L := Nat.le_mul_of_pos_right _ hb1
  have hbt2 : a.bt L ≤ max N 1 * a.bt L := Nat.le_mul_of_pos_left _ (by omega)
  have hfin : ∀ q, rlen q ≤ a.bt L → rlen (q ^ N) ≤ (Tm.pow a N).bt L := by
    intro q hq
    simp only [Tm.bt, Int.toNat_natCast]
    exact Nat.le_trans (rlen_pow q N) (Nat.mul_le_mul_left _ hq)
  have hmid : ∀ q k, k < N → rlen q ≤ a.bt L → rlen (q ^ k) ≤ max N 1 * a.bt L := by
    intro q k hk hq
    exact Nat.le_trans (rlen_pow q k) (Nat.mul_le_mul (by omega) hq)
  have HFIN := Lib.hid hfin
  have HMID := Lib.hid hmid
  have hvv : (Tm.pow a N).val (vget vals) = a.val (vget vals) ^ N := by simp [Tm.val]
  rw [hvv]
  clear hvv hfin hmid h0 iha hbt hn0
  generalize hMX : max N 1 * a.bt L = MX at *
  have hnx := Lib.hid hMX
  clear hMX
  obtain ⟨A0, n0, c0, A, c, rfl, hnat, hc1, hc2, hat⟩ := hv.open_
  change TrsAt w p [t0] A 0 at hat
  clear hv hnat
  unfold ndV
  simp only [Tr.d, Tr.ks, List.length_cons, List.length_nil, Nat.zero_add, Nat.reduceAdd] at hc1 ⊢
  obtain ⟨As, cs, hse, hs1, hs2, -⟩ := id hvs
  have HVS := Lib.hid hvs
  subst hse
  clear hvs
  obtain ⟨W, hW⟩ : ∃ W, (w.alloc (.cells #[.int .i64 7, .bool neg, .slice A0 n0 c0, .string name, .int .i64 (N : Int), .int .i64 rel, .bool truth, .bool all, .slice A 1 c] 29)).alloc (.cells #[.bool false, .slice none 0 0, .slice none 0 0] 49) = W := ⟨_, rfl⟩
  have hWx : Ext w W := by rw [← hW]; exact ((Ext.refl w).alloc _).alloc _
  have hWs : W.heap.size = w.heap.size + 1 + 1 := by rw [← hW]; simp
  have hbx : W.heap[w.heap.size]? = some (.cells #[.int .i64 7, .bool neg, .slice A0 n0 c0, .string name, .int .i64 (N : Int), .int .i64 rel, .bool truth, .bool all, .slice A 1 c] 29) := by rw [← hW, Below.heap_alloc _ _ _ (by simp)]; exact heap_alloc_new w _
  have hZ : Zero3 W (w.heap.size + 1) := by
    rw [← hW]
    have := zero3_new (w.alloc (.cells #[.int .i64 7, .bool neg, .slice A0 n0 c0, .string name, .int .i64 (N : Int), .int .i64 rel, .bool truth, .bool all, .slice A 1 c] 29)) 49
    rwa [World.size_alloc] at this
  have HBX := Lib.hid hbx
  have HZ := Lib.hid hZ
  have HWX := Lib.hid hWx
  have HAT := Lib.hid hat
  obtain ⟨ad, B0, m0, d0, B1, m1, d1, hA, hadb, ⟨e0, e1, e2, e3, e4, e5, e6, e7, e8⟩, hkt⟩ := (hat.ext hWx).kid0 (by simp)
  subst hA
  have HK0 := Lib.hid hkt
  simp only [List.getElem_cons_zero] at e0 e1 e3 e4 e5 e6 e7
  have b0 : W.cell? ⟨w.heap.size, 0, none⟩ = some (.int .i64 7) := by simp [World.cell?, hbx]
  have b4 : W.cell? ⟨w.heap.size, 4, none⟩ = some (.int .i64 (N : Int)) := by simp [World.cell?, hbx]
  have b8 : W.cell? ⟨w.heap.size, 8, none⟩ = some (.slice (some ad) 1 c) := by simp [World.cell?, hbx]
  clear hkt hat hWx hZ hbx
  go_enter Tryz.func43, Tryz.ntmps43
  go_wp2_with fail
  clear hW
  refine (IHA.out t0 _ _ H0.out HK0.out (HVS.out.ext HWX.out)).mono ?_
  rintro e v1 ⟨z1, rfl, r1, x1⟩
  obtain ⟨b1, A1, n1, c1, B1', k1, d1', rfl⟩ := r1.unpack
  clear b0 b4 b8 e0 e1 e2 e3 e4 e5 e6 e7 e8
  obtain ⟨W5, hW5⟩ : ∃ W5, v1.alloc (.cells #[.bool b1, .slice A1 n1 c1, .slice B1' k1 d1'] 49) = W5 := ⟨_, rfl⟩
  have x5 : Ext v1 W5 := by rw [← hW5]; exact (Ext.refl v1).alloc _
  have hq5 : W5.heap[v1.heap.size]? = some (.cells #[.bool b1, .slice A1 n1 c1, .slice B1' k1 d1'] 49 (0, 0)) := by rw [← hW5]; exact heap_alloc_new v1 _
  have hs1 := x1.size
  have hs5 : W5.heap.size = v1.heap.size + 1 := by rw [← hW5]; simp
  have hbx := ((x1.trans x5).below.block _ (by omega)).trans HBX.out
  have b0 : W5.cell? ⟨w.heap.size, 0, none⟩ = some (.int .i64 7) := by simp [World.cell?, hbx]
  have b4 : W5.cell? ⟨w.heap.size, 4, none⟩ = some (.int .i64 (N : Int)) := by simp [World.cell?, hbx]
  have b8 : W5.cell? ⟨w.heap.size, 8, none⟩ = some (.slice (some ad) 1 c) := by simp [World.cell?, hbx]
  have R1 := Lib.hid (r1.ext x5)
  have X5 := Lib.hid (HWX.out.trans (x1.trans x5))
  have Z5 := Lib.hid (HZ.out.ext (x1.trans x5) (by omega))
  have hal := R1.out.rlen_le hb1
  have HB5 := Lib.hid hbx
  have HR1 : Hid (Rat3R W5 v1.heap.size (a.val (vget vals)) (a.bt L)) := ⟨b1, A1, n1, c1, B1', k1, d1', hq5, R1.out⟩
  clear r1 x1 x5 hbx hq5
  go_wp2_with fail
  clear hW5 b0 b4 b8
  refine (of_rat 1 _ (by omega) (by omega)).mono ?_
  rintro e w3 ⟨z3, rfl, m3, x3⟩
  obtain ⟨b3, A3, n3, c3, B3, k3, d3, rfl⟩ := m3.unpack
  obtain ⟨W4, hW4⟩ : ∃ W4, w3.alloc (.cells #[.bool b3, .slice A3 n3 c3, .slice B3 k3 d3] 49) = W4 := ⟨_, rfl⟩
  have x4 : Ext w3 W4 := by rw [← hW4]; exact (Ext.refl w3).alloc _
  have hs3 := x3.size
  have hb4 := ((x3.trans x4).below.block _ (by omega)).trans HB5.out
  have b0 : W4.cell? ⟨w.heap.size, 0, none⟩ = some (.int .i64 7) := by simp [World.cell?, hb4]
  have b4 : W4.cell? ⟨w.heap.size, 4, none⟩ = some (.int .i64 N) := by simp [World.cell?, hb4]
  have b8 : W4.cell? ⟨w.heap.size, 8, none⟩ = some (.slice (some ad) 1 c) := by simp [World.cell?, hb4]
  have hs4 : w3.heap.size < W4.heap.size := by rw [← hW4]; simp
  have HINV : Hid (PowR w (w.heap.size + 1) w3.heap.size v1.heap.size (a.val (vget vals)) (a.bt L) 0 W4) := by
    have : PowR w (w.heap.size + 1) w3.heap.size v1.heap.size (a.val (vget vals)) (a.bt L) 0 W4 := by
      refine ⟨X5.out.trans (x3.trans x4), Z5.out.ext (x3.trans x4) (by omega), by omega, ?_, HR1.out.ext (x3.trans x4)⟩
      rw [Rat.pow_zero]
      exact ⟨b3, A3, n3, c3, B3, k3, d3, by rw [← hW4]; exact heap_alloc_new w3 _, (m3.raw).ext x4⟩
    exact this
  clear hb4 m3 x3 x4 HR1 R1 X5 Z5 HZ HBX HAT HK0 HVS IHA H0
  go_wp2_with fail
  clear hW4 b0 b4 b8
  go_loopw [42] (fun iv wr => ∃ k : Nat, k ≤ N ∧ iv = .int .i64 k ∧ Hid (PowR w (w.heap.size + 1) w3.heap.size v1.heap.size (a.val (vget vals)) (a.bt L) k wr)) (fun iv _ => N - (intOf iv).toNat)
  case atStart => exact ⟨0, Nat.zero_le _, rfl, HINV⟩
  case round =>
    clear HINV
    obtain ⟨k, hk, rfl, ⟨hxw, hz, hgr, ⟨p1, P1, pn, pc, P2, pm, pd, hp, mp⟩, ⟨q1, Q1, qn, qc, Q2, qm, qd, hq, mq⟩⟩⟩ := hrel
    have g0 : wr.cell? ⟨w3.heap.size, 0, none⟩ = some (.bool p1) := by simp [World.cell?, hp]
    have g1 : wr.cell? ⟨w3.heap.size, 1, none⟩ = some (.slice P1 pn pc) := by simp [World.cell?, hp]
    have g2 : wr.cell? ⟨w3.heap.size, 2, none⟩ = some (.slice P2 pm pd) := by simp [World.cell?, hp]
    by_cases hlt : k < N
    · have j0 : wr.cell? ⟨v1.heap.size, 0, none⟩ = some (.bool q1) := by simp [World.cell?, hq]
      have j1 : wr.cell? ⟨v1.heap.size, 1, none⟩ = some (.slice Q1 qn qc) := by simp [World.cell?, hq]
      have j2 : wr.cell? ⟨v1.heap.size, 2, none⟩ = some (.slice Q2 qm qd) := by simp [World.cell?, hq]
      have HP := Lib.hid (show Rat3R wr w3.heap.size (a.val (vget vals) ^ k) _ from ⟨p1, P1, pn, pc, P2, pm, pd, hp, mp⟩)
      have HQ := Lib.hid (show Rat3R wr v1.heap.size (a.val (vget vals)) _ from ⟨q1, Q1, qn, qc, Q2, qm, qd, hq, mq⟩)
      have MP := Lib.hid mp
      have MQ := Lib.hid mq
      have HXW := Lib.hid hxw
      have HZ := Lib.hid hz
      have hpl := HMID.out _ k hlt hal
      have hpp := rlen_pos (a.val (vget vals) ^ k)
      clear hp hq mp mq hxw hz
      go_wp2_with fail
      refine (mul_rat _ _ (a.val (vget vals) ^ k) (a.val (vget vals)) _ _ _ MP.out MQ.out hpp hb1 (by omega)).mono ?_
      rintro e w5 ⟨z5, rfl, m5, x5⟩
      obtain ⟨b5, A5, n5, c5, B5, k5, d5, rfl⟩ := m5.unpack
      have hP5 := HP.out.ext x5
      have hQ5 := HQ.out.ext x5
      obtain ⟨hP6, hkp⟩ := hP5.put m5.raw
      have hQ6 := hQ5.far (gp := w3.heap.size) (by omega) hkp
      obtain ⟨p1', P1', pn', pc', P2', pm', pd', hp', -⟩ := hP5
      have g0 : w5.cell? ⟨w3.heap.size, 0, none⟩ = some (.bool p1') := by simp [World.cell?, hp']
      have g1 : w5.cell? ⟨w3.heap.size, 1, none⟩ = some (.slice P1' pn' pc') := by simp [World.cell?, hp']
      have g2 : w5.cell? ⟨w3.heap.size, 2, none⟩ = some (.slice P2' pm' pd') := by simp [World.cell?, hp']
      have gf0 : w5.frozen? ⟨w3.heap.size, 0, none⟩ = false := by simp [World.frozen?, hp']
      have gf1 : w5.frozen? ⟨w3.heap.size, 1, none⟩ = false := by simp [World.frozen?, hp']
      have gf2 : w5.frozen? ⟨w3.heap.size, 2, none⟩ = false := by simp [World.frozen?, hp']
      have HN : Hid (PowR w (w.heap.size + 1) w3.heap.size v1.heap.size (a.val (vget vals)) (a.bt L) (k + 1) (((w5.setCell ⟨w3.heap.size, 0, none⟩ (.bool b5)).setCell ⟨w3.heap.size, 1, none⟩ (.slice A5 n5 c5)).setCell ⟨w3.heap.size, 2, none⟩ (.slice B5 k5 d5))) := by
        have hz5 := HZ.out.ext x5 hgr
        have hsz5 := x5.size
        have hlw : w.heap.size ≤ w3.heap.size := by omega
        refine ⟨(((HXW.out.trans x5).setCell hlw _).setCell hlw _).setCell hlw _, ?_, by simp; omega, by rw [Rat.pow_succ]; exact hP6, hQ6⟩
        have hne : w.heap.size + 1 ≠ w3.heap.size := by omega
        have hblk : ((((w5.setCell ⟨w3.heap.size, 0, none⟩ (.bool b5)).setCell ⟨w3.heap.size, 1, none⟩ (.slice A5 n5 c5)).setCell ⟨w3.heap.size, 2, none⟩ (.slice B5 k5 d5))).heap[w.heap.size + 1]? = w5.heap[w.heap.size + 1]? := by
          rw [Below.heap_setCell _ _ _ _ hne, Below.heap_setCell _ _ _ _ hne, Below.heap_setCell _ _ _ _ hne]
        obtain ⟨⟨r0, r1, r2⟩, f0, f1, f2⟩ := hz5
        exact ⟨⟨(World.cell?_of_block (a := ⟨w.heap.size + 1, 0, none⟩) hblk).trans r0, (World.cell?_of_block (a := ⟨w.heap.size + 1, 1, none⟩) hblk).trans r1, (World.cell?_of_block (a := ⟨w.heap.size + 1, 2, none⟩) hblk).trans r2⟩, (World.frozen?_of_block (a := ⟨w.heap.size + 1, 0, none⟩) hblk).trans f0, (World.frozen?_of_block (a := ⟨w.heap.size + 1, 1, none⟩) hblk).trans f1, (World.frozen?_of_block (a := ⟨w.heap.size + 1, 2, none⟩) hblk).trans f2⟩
      clear m5 x5 hP6 hkp hQ5 hQ6 hp' HP HQ MP MQ HXW HZ j0 j1 j2
      go_wp2_with fail
      go_roundw
      case rel => exact ⟨k + 1, by omega, by go_num, HN⟩
      case measure => simp [intOf]; omega
    · have hke : k = N := by omega
      rw [hke] at mp
      have HF := Lib.hid (close_q (g := w.heap.size + 1) hxw (by omega) hz (mp.mono (HFIN.out _ hal)))
      obtain ⟨⟨r0, r1, r2⟩, f0, f1, f2⟩ := hz
      clear hke hp hq mp mq hxw
      go_wp2_with fail
      exact bodyPost_ret (v := .agg #[.bool p1, .slice P1 pn pc, .slice P2 pm pd]) (by simp [results, Tryz.results43, go_sem, r0, r1, r2]) rfl HF.out

set_option maxRecDepth 100000 in
set_option maxHeartbeats 4000000 in
theorem rv_add {a b : Tm} (hL : 1 ≤ L) (hbt : (Tm.add a b).bt L ≤ 1000000000000) (iha : ValIH L p s vals a) (ihb : ValIH L p s vals b) : ValIH L p s vals (.add a b) := by
  intro t v w h hv hvs
  have IHA := Lib.hid iha
  have IHB := Lib.hid ihb
  have hb1 := a.bt_pos L hL
  have hb2 := b.bt_pos L hL
  have hbt2 : a.bt L + b.bt L ≤ 1000000000000 := by simp only [Tm.bt] at hbt; omega
  clear iha ihb hbt
  obtain ⟨⟨kind, neg, ds, name, exp, rel, truth, all⟩, ks⟩ := t
  obtain ⟨hkind, t0, t1, hks, h0, h1⟩ := h
  simp only [Tr.d] at hkind
  simp only [Tr.ks] at hks
  subst hkind hks
  have H0 := Lib.hid h0
  have H1 := Lib.hid h1
  clear h0 h1
  obtain ⟨A0, n0, c0, A, c, rfl, hnat, hc1, hc2, hat⟩ := hv.open_
  change TrsAt w p [t0, t1] A 0 at hat
  clear hv hnat
  unfold ndV
  simp only [Tr.d, Tr.ks, List.length_cons, List.length_nil, Nat.zero_add, Nat.reduceAdd] at hc1 ⊢
  obtain ⟨As, cs, hse, hs1, hs2, -⟩ := id hvs
  have HVS := Lib.hid hvs
  subst hse
  clear hvs
  obtain ⟨W, hW⟩ : ∃ W, (w.alloc (.cells #[.int .i64 3, .bool neg, .slice A0 n0 c0, .string name, .int .i64 exp, .int .i64 rel, .bool truth, .bool all, .slice A 2 c] 29)).alloc (.cells #[.bool false, .slice none 0 0, .slice none 0 0] 49) = W := ⟨_, rfl⟩
  have hWx : Ext w W := by rw [← hW]; exact ((Ext.refl w).alloc _).alloc _
  have hWs : W.heap.size = w.heap.size + 1 + 1 := by rw [← hW]; simp
  have hbx : W.heap[w.heap.size]? = some (.cells #[.int .i64 3, .bool neg, .slice A0 n0 c0, .string name, .int .i64 exp, .int .i64 rel, .bool truth, .bool all, .slice A 2 c] 29) := by rw [← hW, Below.heap_alloc _ _ _ (by simp)]; exact heap_alloc_new w _
  have hZ : Zero3 W (w.heap.size + 1) := by
    rw [← hW]
    have := zero3_new (w.alloc (.cells #[.int .i64 3, .bool neg, .slice A0 n0 c0, .string name, .int .i64 exp, .int .i64 rel, .bool truth, .bool all, .slice A 2 c] 29)) 49
    rwa [World.size_alloc] at this
  have HBX := Lib.hid hbx
  have HZ := Lib.hid hZ
  have HWX := Lib.hid hWx
  have HAT := Lib.hid hat
  obtain ⟨ad, B0, m0, d0, B1, m1, d1, hA, hadb, ⟨e0, e1, e2, e3, e4, e5, e6, e7, e8⟩, hkt⟩ := (hat.ext hWx).kid0 (by simp)
  subst hA
  have HK0 := Lib.hid hkt
  simp only [List.getElem_cons_zero] at e0 e1 e3 e4 e5 e6 e7
  have b0 : W.cell? ⟨w.heap.size, 0, none⟩ = some (.int .i64 3) := by simp [World.cell?, hbx]
  have b4 : W.cell? ⟨w.heap.size, 4, none⟩ = some (.int .i64 exp) := by simp [World.cell?, hbx]
  have b8 : W.cell? ⟨w.heap.size, 8, none⟩ = some (.slice (some ad) 2 c) := by simp [World.cell?, hbx]
  clear hkt hat hWx hZ hbx
  go_enter Tryz.func43, Tryz.ntmps43
  go_wp2_with fail
  clear hW
  refine (IHA.out t0 _ _ H0.out HK0.out (HVS.out.ext HWX.out)).mono ?_
  rintro e v1 ⟨z1, rfl, r1, x1⟩
  obtain ⟨b1, A1, n1, c1, B1', k1, d1', rfl⟩ := r1.unpack
  clear b0 b4 b8 e0 e1 e2 e3 e4 e5 e6 e7 e8
  obtain ⟨W5, hW5⟩ : ∃ W5, v1.alloc (.cells #[.bool b1, .slice A1 n1 c1, .slice B1' k1 d1'] 49) = W5 := ⟨_, rfl⟩
  have x5 : Ext v1 W5 := by rw [← hW5]; exact (Ext.refl v1).alloc _
  have hq5 : W5.heap[v1.heap.size]? = some (.cells #[.bool b1, .slice A1 n1 c1, .slice B1' k1 d1'] 49 (0, 0)) := by rw [← hW5]; exact heap_alloc_new v1 _
  have hs1 := x1.size
  have hs5 : W5.heap.size = v1.heap.size + 1 := by rw [← hW5]; simp
  have hbx := ((x1.trans x5).below.block _ (by omega)).trans HBX.out
  have b0 : W5.cell? ⟨w.heap.size, 0, none⟩ = some (.int .i64 3) := by simp [World.cell?, hbx]
  have b4 : W5.cell? ⟨w.heap.size, 4, none⟩ = some (.int .i64 exp) := by simp [World.cell?, hbx]
  have b8 : W5.cell? ⟨w.heap.size, 8, none⟩ = some (.slice (some ad) 2 c) := by simp [World.cell?, hbx]
  obtain ⟨ad', C0, p0, q0, C1, p1, q1, hA, -, hnd, hkt⟩ := (HAT.out.ext (HWX.out.trans (x1.trans x5))).kid 1 (by simp)
  injection hA with hA
  subst hA
  obtain ⟨e0, e1, e2, e3, e4, e5, e6, e7, e8⟩ := hnd.nine
  simp only [List.getElem_cons_succ, List.getElem_cons_zero] at e0 e1 e3 e4 e5 e6 e7
  have HK1 := Lib.hid hkt
  have R1 := Lib.hid (r1.ext x5)
  have X5 := Lib.hid (x1.trans x5)
  have HQ5 := Lib.hid hq5
  have HB5 := Lib.hid hbx
  clear r1 x1 x5 hnd hkt hbx hq5
  go_wp2_with fail
  clear hW5 b0 b4 b8 e0 e1 e2 e3 e4 e5 e6 e7 e8
  refine (IHB.out t1 _ _ H1.out HK1.out (HVS.out.ext (HWX.out.trans X5.out))).mono ?_
  rintro e v2 ⟨z2, rfl, r2, x2⟩
  obtain ⟨b2, A2, n2, c2, B2, k2, d2, rfl⟩ := r2.unpack
  obtain ⟨W7, hW7⟩ : ∃ W7, v2.alloc (.cells #[.bool b2, .slice A2 n2 c2, .slice B2 k2 d2] 49) = W7 := ⟨_, rfl⟩
  have x7 : Ext v2 W7 := by rw [← hW7]; exact (Ext.refl v2).alloc _
  have hs2 := x2.size
  have hq7 : W7.heap[v2.heap.size]? = some (.cells #[.bool b2, .slice A2 n2 c2, .slice B2 k2 d2] 49 (0, 0)) := by rw [← hW7]; exact heap_alloc_new v2 _
  have hq5 := ((x2.trans x7).below.block _ (by omega)).trans HQ5.out
  have hbx := ((x2.trans x7).below.block _ (by omega)).trans HB5.out
  have b0 : W7.cell? ⟨w.heap.size, 0, none⟩ = some (.int .i64 3) := by simp [World.cell?, hbx]
  have b4 : W7.cell? ⟨w.heap.size, 4, none⟩ = some (.int .i64 exp) := by simp [World.cell?, hbx]
  have b8 : W7.cell? ⟨w.heap.size, 8, none⟩ = some (.slice (some ad) 2 c) := by simp [World.cell?, hbx]
  have f10 : W7.cell? ⟨v1.heap.size, 0, none⟩ = some (.bool b1) := by simp [World.cell?, hq5]
  have f11 : W7.cell? ⟨v1.heap.size, 1, none⟩ = some (.slice A1 n1 c1) := by simp [World.cell?, hq5]
  have f12 : W7.cell? ⟨v1.heap.size, 2, none⟩ = some (.slice B1' k1 d1') := by simp [World.cell?, hq5]
  have f20 : W7.cell? ⟨v2.heap.size, 0, none⟩ = some (.bool b2) := by simp [World.cell?, hq7]
  have f21 : W7.cell? ⟨v2.heap.size, 1, none⟩ = some (.slice A2 n2 c2) := by simp [World.cell?, hq7]
  have f22 : W7.cell? ⟨v2.heap.size, 2, none⟩ = some (.slice B2 k2 d2) := by simp [World.cell?, hq7]
  have R1' := Lib.hid (R1.out.ext (x2.trans x7))
  have R2 := Lib.hid (r2.ext x7)
  have X7 := Lib.hid (HWX.out.trans (X5.out.trans (x2.trans x7)))
  have Z7 := Lib.hid (HZ.out.ext (X5.out.trans (x2.trans x7)) (by omega))
  have hs7 := x7.size
  clear r2 x2 x7 hq5 hq7 hbx R1
  go_wp2_with fail
  clear hW7
  refine (add_rat _ _ _ _ _ _ _ R1'.out R2.out hb1 hb2 (by omega)).mono ?_
  rintro e v8 ⟨z8, rfl, m8, x8⟩
  have r8 := m8.raw
  obtain ⟨b8', A8, n8, c8, B8, k8, d8, rfl⟩ := m8.unpack
  have hz8 := Z7.out.ext x8 (by omega)
  have hlen : rlen (a.val (vget vals) + b.val (vget vals)) ≤ (Tm.add a b).bt L := by
    have h1 := R1'.out.rlen_le hb1
    have h2 := R2.out.rlen_le hb2
    have h3 := rlen_add (a.val (vget vals)) (b.val (vget vals))
    simp only [Tm.bt]; omega
  have HF := Lib.hid (close_q (g := w.heap.size + 1) (X7.out.trans x8) (by omega) hz8 (r8.mono hlen))
  obtain ⟨⟨r0, r1, r2⟩, g0, g1, g2⟩ := hz8
  clear r8 m8 x8 b0 b4 b8 hlen f10 f11 f12 f20 f21 f22
  go_wp2_with fail
  exact bodyPost_ret (v := .agg #[.bool b8', .slice A8 n8 c8, .slice B8 k8 d8]) (by simp [results, Tryz.results43, go_sem, r0, r1, r2]) rfl HF.out

set_option maxRecDepth 100000 in
set_option maxHeartbeats 4000000 in
theorem rv_sub {a b : Tm} (hL : 1 ≤ L) (hbt : (Tm.sub a b).bt L ≤ 1000000000000) (iha : ValIH L p s vals a) (ihb : ValIH L p s vals b) : ValIH L p s vals (.sub a b) := by
  intro t v w h hv hvs
  have IHA := Lib.hid iha
  have IHB := Lib.hid ihb
  have hb1 := a.bt_pos L hL
  have hb2 := b.bt_pos L hL
  have hbt2 : a.bt L + b.bt L ≤ 1000000000000 := by simp only [Tm.bt] at hbt; omega
  clear iha ihb hbt
  obtain ⟨⟨kind, neg, ds, name, exp, rel, truth, all⟩, ks⟩ := t
  obtain ⟨hkind, t0, t1, hks, h0, h1⟩ := h
  simp only [Tr.d] at hkind
  simp only [Tr.ks] at hks
  subst hkind hks
  have H0 := Lib.hid h0
  have H1 := Lib.hid h1
  clear h0 h1
  obtain ⟨A0, n0, c0, A, c, rfl, hnat, hc1, hc2, hat⟩ := hv.open_
  change TrsAt w p [t0, t1] A 0 at hat
  clear hv hnat
  unfold ndV
  simp only [Tr.d, Tr.ks, List.length_cons, List.length_nil, Nat.zero_add, Nat.reduceAdd] at hc1 ⊢
  obtain ⟨As, cs, hse, hs1, hs2, -⟩ := id hvs
  have HVS := Lib.hid hvs
  subst hse
  clear hvs
  obtain ⟨W, hW⟩ : ∃ W, (w.alloc (.cells #[.int .i64 4, .bool neg, .slice A0 n0 c0, .string name, .int .i64 exp, .int .i64 rel, .bool truth, .bool all, .slice A 2 c] 29)).alloc (.cells #[.bool false, .slice none 0 0, .slice none 0 0] 49) = W := ⟨_, rfl⟩
  have hWx : Ext w W := by rw [← hW]; exact ((Ext.refl w).alloc _).alloc _
  have hWs : W.heap.size = w.heap.size + 1 + 1 := by rw [← hW]; simp
  have hbx : W.heap[w.heap.size]? = some (.cells #[.int .i64 4, .bool neg, .slice A0 n0 c0, .string name, .int .i64 exp, .int .i64 rel, .bool truth, .bool all, .slice A 2 c] 29) := by rw [← hW, Below.heap_alloc _ _ _ (by simp)]; exact heap_alloc_new w _
  have hZ : Zero3 W (w.heap.size + 1) := by
    rw [← hW]
    have := zero3_new (w.alloc (.cells #[.int .i64 4, .bool neg, .slice A0 n0 c0, .string name, .int .i64 exp, .int .i64 rel, .bool truth, .bool all, .slice A 2 c] 29)) 49
    rwa [World.size_alloc] at this
  have HBX := Lib.hid hbx
  have HZ := Lib.hid hZ
  have HWX := Lib.hid hWx
  have HAT := Lib.hid hat
  obtain ⟨ad, B0, m0, d0, B1, m1, d1, hA, hadb, ⟨e0, e1, e2, e3, e4, e5, e6, e7, e8⟩, hkt⟩ := (hat.ext hWx).kid0 (by simp)
  subst hA
  have HK0 := Lib.hid hkt
  simp only [List.getElem_cons_zero] at e0 e1 e3 e4 e5 e6 e7
  have b0 : W.cell? ⟨w.heap.size, 0, none⟩ = some (.int .i64 4) := by simp [World.cell?, hbx]
  have b4 : W.cell? ⟨w.heap.size, 4, none⟩ = some (.int .i64 exp) := by simp [World.cell?, hbx]
  have b8 : W.cell? ⟨w.heap.size, 8, none⟩ = some (.slice (some ad) 2 c) := by simp [World.cell?, hbx]
  clear hkt hat hWx hZ hbx
  go_enter Tryz.func43, Tryz.ntmps43
  go_wp2_with fail
  clear hW
  refine (IHA.out t0 _ _ H0.out HK0.out (HVS.out.ext HWX.out)).mono ?_
  rintro e v1 ⟨z1, rfl, r1, x1⟩
  obtain ⟨b1, A1, n1, c1, B1', k1, d1', rfl⟩ := r1.unpack
  clear b0 b4 b8 e0 e1 e2 e3 e4 e5 e6 e7 e8
  obtain ⟨W5, hW5⟩ : ∃ W5, v1.alloc (.cells #[.bool b1, .slice A1 n1 c1, .slice B1' k1 d1'] 49) = W5 := ⟨_, rfl⟩
  have x5 : Ext v1 W5 := by rw [← hW5]; exact (Ext.refl v1).alloc _
  have hq5 : W5.heap[v1.heap.size]? = some (.cells #[.bool b1, .slice A1 n1 c1, .slice B1' k1 d1'] 49 (0, 0)) := by rw [← hW5]; exact heap_alloc_new v1 _
  have hs1 := x1.size
  have hs5 : W5.heap.size = v1.heap.size + 1 := by rw [← hW5]; simp
  have hbx := ((x1.trans x5).below.block _ (by omega)).trans HBX.out
  have b0 : W5.cell? ⟨w.heap.size, 0, none⟩ = some (.int .i64 4) := by simp [World.cell?, hbx]
  have b4 : W5.cell? ⟨w.heap.size, 4, none⟩ = some (.int .i64 exp) := by simp [World.cell?, hbx]
  have b8 : W5.cell? ⟨w.heap.size, 8, none⟩ = some (.slice (some ad) 2 c) := by simp [World.cell?, hbx]
  obtain ⟨ad', C0, p0, q0, C1, p1, q1, hA, -, hnd, hkt⟩ := (HAT.out.ext (HWX.out.trans (x1.trans x5))).kid 1 (by simp)
  injection hA with hA
  subst hA
  obtain ⟨e0, e1, e2, e3, e4, e5, e6, e7, e8⟩ := hnd.nine
  simp only [List.getElem_cons_succ, List.getElem_cons_zero] at e0 e1 e3 e4 e5 e6 e7
  have HK1 := Lib.hid hkt
  have R1 := Lib.hid (r1.ext x5)
  have X5 := Lib.hid (x1.trans x5)
  have HQ5 := Lib.hid hq5
  have HB5 := Lib.hid hbx
  clear r1 x1 x5 hnd hkt hbx hq5
  go_wp2_with fail
  clear hW5 b0 b4 b8 e0 e1 e2 e3 e4 e5 e6 e7 e8
  refine (IHB.out t1 _ _ H1.out HK1.out (HVS.out.ext (HWX.out.trans X5.out))).mono ?_
  rintro e v2 ⟨z2, rfl, r2, x2⟩
  obtain ⟨b2, A2, n2, c2, B2, k2, d2, rfl⟩ := r2.unpack
  obtain ⟨W7, hW7⟩ : ∃ W7, v2.alloc (.cells #[.bool b2, .slice A2 n2 c2, .slice B2 k2 d2] 49) = W7 := ⟨_, rfl⟩
  have x7 : Ext v2 W7 := by rw [← hW7]; exact (Ext.refl v2).alloc _
  have hs2 := x2.size
  have hq7 : W7.heap[v2.heap.size]? = some (.cells #[.bool b2, .slice A2 n2 c2, .slice B2 k2 d2] 49 (0, 0)) := by rw [← hW7]; exact heap_alloc_new v2 _
  have hq5 := ((x2.trans x7).below.block _ (by omega)).trans HQ5.out
  have hbx := ((x2.trans x7).below.block _ (by omega)).trans HB5.out
  have b0 : W7.cell? ⟨w.heap.size, 0, none⟩ = some (.int .i64 4) := by simp [World.cell?, hbx]
  have b4 : W7.cell? ⟨w.heap.size, 4, none⟩ = some (.int .i64 exp) := by simp [World.cell?, hbx]
  have b8 : W7.cell? ⟨w.heap.size, 8, none⟩ = some (.slice (some ad) 2 c) := by simp [World.cell?, hbx]
  have f10 : W7.cell? ⟨v1.heap.size, 0, none⟩ = some (.bool b1) := by simp [World.cell?, hq5]
  have f11 : W7.cell? ⟨v1.heap.size, 1, none⟩ = some (.slice A1 n1 c1) := by simp [World.cell?, hq5]
  have f12 : W7.cell? ⟨v1.heap.size, 2, none⟩ = some (.slice B1' k1 d1') := by simp [World.cell?, hq5]
  have f20 : W7.cell? ⟨v2.heap.size, 0, none⟩ = some (.bool b2) := by simp [World.cell?, hq7]
  have f21 : W7.cell? ⟨v2.heap.size, 1, none⟩ = some (.slice A2 n2 c2) := by simp [World.cell?, hq7]
  have f22 : W7.cell? ⟨v2.heap.size, 2, none⟩ = some (.slice B2 k2 d2) := by simp [World.cell?, hq7]
  have R1' := Lib.hid (R1.out.ext (x2.trans x7))
  have R2 := Lib.hid (r2.ext x7)
  have X7 := Lib.hid (HWX.out.trans (X5.out.trans (x2.trans x7)))
  have Z7 := Lib.hid (HZ.out.ext (X5.out.trans (x2.trans x7)) (by omega))
  have hs7 := x7.size
  clear r2 x2 x7 hq5 hq7 hbx R1
  go_wp2_with fail
  clear hW7
  refine (sub_rat _ _ _ _ _ _ _ R1'.out R2.out hb1 hb2 (by omega)).mono ?_
  rintro e v8 ⟨z8, rfl, m8, x8⟩
  have r8 := m8.raw
  obtain ⟨b8', A8, n8, c8, B8, k8, d8, rfl⟩ := m8.unpack
  have hz8 := Z7.out.ext x8 (by omega)
  have hlen : rlen (a.val (vget vals) - b.val (vget vals)) ≤ (Tm.sub a b).bt L := by
    have h1 := R1'.out.rlen_le hb1
    have h2 := R2.out.rlen_le hb2
    have h3 := rlen_sub (a.val (vget vals)) (b.val (vget vals))
    simp only [Tm.bt]; omega
  have HF := Lib.hid (close_q (g := w.heap.size + 1) (X7.out.trans x8) (by omega) hz8 (r8.mono hlen))
  obtain ⟨⟨r0, r1, r2⟩, g0, g1, g2⟩ := hz8
  clear r8 m8 x8 b0 b4 b8 hlen f10 f11 f12 f20 f21 f22
  go_wp2_with fail
  exact bodyPost_ret (v := .agg #[.bool b8', .slice A8 n8 c8, .slice B8 k8 d8]) (by simp [results, Tryz.results43, go_sem, r0, r1, r2]) rfl HF.out

set_option maxRecDepth 100000 in
set_option maxHeartbeats 4000000 in
theorem rv_mul {a b : Tm} (hL : 1 ≤ L) (hbt : (Tm.mul a b).bt L ≤ 1000000000000) (iha : ValIH L p s vals a) (ihb : ValIH L p s vals b) : ValIH L p s vals (.mul a b) := by
  intro t v w h hv hvs
  have IHA := Lib.hid iha
  have IHB := Lib.hid ihb
  have hb1 := a.bt_pos L hL
  have hb2 := b.bt_pos L hL
  have hbt2 : a.bt L + b.bt L ≤ 1000000000000 := by simp only [Tm.bt] at hbt; omega
  clear iha ihb hbt
  obtain ⟨⟨kind, neg, ds, name, exp, rel, truth, all⟩, ks⟩ := t
  obtain ⟨hkind, t0, t1, hks, h0, h1⟩ := h
  simp only [Tr.d] at hkind
  simp only [Tr.ks] at hks
  subst hkind hks
  have H0 := Lib.hid h0
  have H1 := Lib.hid h1
  clear h0 h1
  obtain ⟨A0, n0, c0, A, c, rfl, hnat, hc1, hc2, hat⟩ := hv.open_
  change TrsAt w p [t0, t1] A 0 at hat
  clear hv hnat
  unfold ndV
  simp only [Tr.d, Tr.ks, List.length_cons, List.length_nil, Nat.zero_add, Nat.reduceAdd] at hc1 ⊢
  obtain ⟨As, cs, hse, hs1, hs2, -⟩ := id hvs
  have HVS := Lib.hid hvs
  subst hse
  clear hvs
  obtain ⟨W, hW⟩ : ∃ W, (w.alloc (.cells #[.int .i64 5, .bool neg, .slice A0 n0 c0, .string name, .int .i64 exp, .int .i64 rel, .bool truth, .bool all, .slice A 2 c] 29)).alloc (.cells #[.bool false, .slice none 0 0, .slice none 0 0] 49) = W := ⟨_, rfl⟩
  have hWx : Ext w W := by rw [← hW]; exact ((Ext.refl w).alloc _).alloc _
  have hWs : W.heap.size = w.heap.size + 1 + 1 := by rw [← hW]; simp
  have hbx : W.heap[w.heap.size]? = some (.cells #[.int .i64 5, .bool neg, .slice A0 n0 c0, .string name, .int .i64 exp, .int .i64 rel, .bool truth, .bool all, .slice A 2 c] 29) := by rw [← hW, Below.heap_alloc _ _ _ (by simp)]; exact heap_alloc_new w _
  have hZ : Zero3 W (w.heap.size + 1) := by
    rw [← hW]
    have := zero3_new (w.alloc (.cells #[.int .i64 5, .bool neg, .slice A0 n0 c0, .string name, .int .i64 exp, .int .i64 rel, .bool truth, .bool all, .slice A 2 c] 29)) 49
    rwa [World.size_alloc] at this
  have HBX := Lib.hid hbx
  have HZ := Lib.hid hZ
  have HWX := Lib.hid hWx
  have HAT := Lib.hid hat
  obtain ⟨ad, B0, m0, d0, B1, m1, d1, hA, hadb, ⟨e0, e1, e2, e3, e4, e5, e6, e7, e8⟩, hkt⟩ := (hat.ext hWx).kid0 (by simp)
  subst hA
  have HK0 := Lib.hid hkt
  simp only [List.getElem_cons_zero] at e0 e1 e3 e4 e5 e6 e7
  have b0 : W.cell? ⟨w.heap.size, 0, none⟩ = some (.int .i64 5) := by simp [World.cell?, hbx]
  have b4 : W.cell? ⟨w.heap.size, 4, none⟩ = some (.int .i64 exp) := by simp [World.cell?, hbx]
  have b8 : W.cell? ⟨w.heap.size, 8, none⟩ = some (.slice (some ad) 2 c) := by simp [World.cell?, hbx]
  clear hkt hat hWx hZ hbx
  go_enter Tryz.func43, Tryz.ntmps43
  go_wp2_with fail
  clear hW
  refine (IHA.out t0 _ _ H0.out HK0.out (HVS.out.ext HWX.out)).mono ?_
  rintro e v1 ⟨z1, rfl, r1, x1⟩
  obtain ⟨b1, A1, n1, c1, B1', k1, d1', rfl⟩ := r1.unpack
  clear b0 b4 b8 e0 e1 e2 e3 e4 e5 e6 e7 e8
  obtain ⟨W5, hW5⟩ : ∃ W5, v1.alloc (.cells #[.bool b1, .slice A1 n1 c1, .slice B1' k1 d1'] 49) = W5 := ⟨_, rfl⟩
  have x5 : Ext v1 W5 := by rw [← hW5]; exact (Ext.refl v1).alloc _
  have hq5 : W5.heap[v1.heap.size]? = some (.cells #[.bool b1, .slice A1 n1 c1, .slice B1' k1 d1'] 49 (0, 0)) := by rw [← hW5]; exact heap_alloc_new v1 _
  have hs1 := x1.size
  have hs5 : W5.heap.size = v1.heap.size + 1 := by rw [← hW5]; simp
  have hbx := ((x1.trans x5).below.block _ (by omega)).trans HBX.out
  have b0 : W5.cell? ⟨w.heap.size, 0, none⟩ = some (.int .i64 5) := by simp [World.cell?, hbx]
  have b4 : W5.cell? ⟨w.heap.size, 4, none⟩ = some (.int .i64 exp) := by simp [World.cell?, hbx]
  have b8 : W5.cell? ⟨w.heap.size, 8, none⟩ = some (.slice (some ad) 2 c) := by simp [World.cell?, hbx]
  obtain ⟨ad', C0, p0, q0, C1, p1, q1, hA, -, hnd, hkt⟩ := (HAT.out.ext (HWX.out.trans (x1.trans x5))).kid 1 (by simp)
  injection hA with hA
  subst hA
  obtain ⟨e0, e1, e2, e3, e4, e5, e6, e7, e8⟩ := hnd.nine
  simp only [List.getElem_cons_succ, List.getElem_cons_zero] at e0 e1 e3 e4 e5 e6 e7
  have HK1 := Lib.hid hkt
  have R1 := Lib.hid (r1.ext x5)
  have X5 := Lib.hid (x1.trans x5)
  have HQ5 := Lib.hid hq5
  have HB5 := Lib.hid hbx
  clear r1 x1 x5 hnd hkt hbx hq5
  go_wp2_with fail
  clear hW5 b0 b4 b8 e0 e1 e2 e3 e4 e5 e6 e7 e8
  refine (IHB.out t1 _ _ H1.out HK1.out (HVS.out.ext (HWX.out.trans X5.out))).mono ?_
  rintro e v2 ⟨z2, rfl, r2, x2⟩
  obtain ⟨b2, A2, n2, c2, B2, k2, d2, rfl⟩ := r2.unpack
  obtain ⟨W7, hW7⟩ : ∃ W7, v2.alloc (.cells #[.bool b2, .slice A2 n2 c2, .slice B2 k2 d2] 49) = W7 := ⟨_, rfl⟩
  have x7 : Ext v2 W7 := by rw [← hW7]; exact (Ext.refl v2).alloc _
  have hs2 := x2.size
  have hq7 : W7.heap[v2.heap.size]? = some (.cells #[.bool b2, .slice A2 n2 c2, .slice B2 k2 d2] 49 (0, 0)) := by rw [← hW7]; exact heap_alloc_new v2 _
  have hq5 := ((x2.trans x7).below.block _ (by omega)).trans HQ5.out
  have hbx := ((x2.trans x7).below.block _ (by omega)).trans HB5.out
  have b0 : W7.cell? ⟨w.heap.size, 0, none⟩ = some (.int .i64 5) := by simp [World.cell?, hbx]
  have b4 : W7.cell? ⟨w.heap.size, 4, none⟩ = some (.int .i64 exp) := by simp [World.cell?, hbx]
  have b8 : W7.cell? ⟨w.heap.size, 8, none⟩ = some (.slice (some ad) 2 c) := by simp [World.cell?, hbx]
  have f10 : W7.cell? ⟨v1.heap.size, 0, none⟩ = some (.bool b1) := by simp [World.cell?, hq5]
  have f11 : W7.cell? ⟨v1.heap.size, 1, none⟩ = some (.slice A1 n1 c1) := by simp [World.cell?, hq5]
  have f12 : W7.cell? ⟨v1.heap.size, 2, none⟩ = some (.slice B1' k1 d1') := by simp [World.cell?, hq5]
  have f20 : W7.cell? ⟨v2.heap.size, 0, none⟩ = some (.bool b2) := by simp [World.cell?, hq7]
  have f21 : W7.cell? ⟨v2.heap.size, 1, none⟩ = some (.slice A2 n2 c2) := by simp [World.cell?, hq7]
  have f22 : W7.cell? ⟨v2.heap.size, 2, none⟩ = some (.slice B2 k2 d2) := by simp [World.cell?, hq7]
  have R1' := Lib.hid (R1.out.ext (x2.trans x7))
  have R2 := Lib.hid (r2.ext x7)
  have X7 := Lib.hid (HWX.out.trans (X5.out.trans (x2.trans x7)))
  have Z7 := Lib.hid (HZ.out.ext (X5.out.trans (x2.trans x7)) (by omega))
  have hs7 := x7.size
  clear r2 x2 x7 hq5 hq7 hbx R1
  go_wp2_with fail
  clear hW7
  refine (mul_rat _ _ _ _ _ _ _ R1'.out R2.out hb1 hb2 (by omega)).mono ?_
  rintro e v8 ⟨z8, rfl, m8, x8⟩
  have r8 := m8.raw
  obtain ⟨b8', A8, n8, c8, B8, k8, d8, rfl⟩ := m8.unpack
  have hz8 := Z7.out.ext x8 (by omega)
  have hlen : rlen (a.val (vget vals) * b.val (vget vals)) ≤ (Tm.mul a b).bt L := by
    have h1 := R1'.out.rlen_le hb1
    have h2 := R2.out.rlen_le hb2
    have h3 := rlen_mul (a.val (vget vals)) (b.val (vget vals))
    simp only [Tm.bt]; omega
  have HF := Lib.hid (close_q (g := w.heap.size + 1) (X7.out.trans x8) (by omega) hz8 (r8.mono hlen))
  obtain ⟨⟨r0, r1, r2⟩, g0, g1, g2⟩ := hz8
  clear r8 m8 x8 b0 b4 b8 hlen f10 f11 f12 f20 f21 f22
  go_wp2_with fail
  exact bodyPost_ret (v := .agg #[.bool b8', .slice A8 n8 c8, .slice B8 k8 d8]) (by simp [results, Tryz.results43, go_sem, r0, r1, r2]) rfl HF.out

theorem value_ih (hL : 1 ≤ L) (m : Tm) (hcv : m.covered (vget vals)) (hbt : m.bt L ≤ 1000000000000) : ValIH L p s vals m := by
  induction m with
  | num z => exact rv_num hL hbt
  | name n => exact rv_name hcv
  | add a c iha ihc => exact rv_add hL hbt (iha hcv.1 (by simp only [Tm.bt] at hbt; omega)) (ihc hcv.2 (by simp only [Tm.bt] at hbt; omega))
  | sub a c iha ihc => exact rv_sub hL hbt (iha hcv.1 (by simp only [Tm.bt] at hbt; omega)) (ihc hcv.2 (by simp only [Tm.bt] at hbt; omega))
  | mul a c iha ihc => exact rv_mul hL hbt (iha hcv.1 (by simp only [Tm.bt] at hbt; omega)) (ihc hcv.2 (by simp only [Tm.bt] at hbt; omega))
  | neg a iha => exact rv_neg hL hbt (iha hcv hbt)
  | pow a n iha =>
    exact rv_pow hL hbt (iha hcv (by
      simp only [Tm.bt] at hbt
      exact Nat.le_trans (Nat.le_mul_of_pos_left _ (by omega)) hbt))
end
end Go.Proofs.YtofbfplpbffpfaaGreat
