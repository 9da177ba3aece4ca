/- Reference 34: List: a tree and all trees in it, in one row. -/
import Derived.Test.YtkbpnppiadaibaaGreatDoorMg41
import Derived.Test.YtkbpnppiadaibaaGreatDoorMg24
import Derived.Test.YtkbpnppiadaibaaGreatDoorMg11
import Derived.Test.YtkbpnppiadaibaaGreatDoorMg28
set_option linter.unusedSimpArgs false
set_option linter.unusedVariables false

namespace Go.Proofs.YtkbpnppiadaibaaGreatDoor
open Go.RowKit

mutual
/-- A tree and all trees in it. -/
def Tr.list : Tr → List Tr
  | .mk d ks => .mk d ks :: listL ks
def listL : List Tr → List Tr
  | [] => []
  | t :: r => t.list ++ listL r
end
mutual
theorem Tr.list_len : ∀ t : Tr, t.list.length = t.sz
  | .mk d ks => by simp only [Tr.list, Tr.sz, List.length_cons, listL_len ks]
theorem listL_len : ∀ l : List Tr, (listL l).length = trsSz l
  | [] => by simp only [listL, trsSz, List.length_nil]
  | t :: r => by simp only [listL, trsSz, List.length_append, Tr.list_len t, listL_len r]
end
theorem listL_append (l r : List Tr) : listL (l ++ r) = listL l ++ listL r := by
  induction l with
  | nil => simp [listL]
  | cons t l ih => simp [listL, ih]
theorem listL_take (l : List Tr) (k : Nat) (hk : k < l.length) : listL (l.take (k + 1)) = listL (l.take k) ++ (l[k]).list := by
  rw [List.take_succ_eq_append_getElem hk, listL_append]; simp [listL]
theorem trsSz_append (l r : List Tr) : trsSz (l ++ r) = trsSz l + trsSz r := by
  induction l with
  | nil => simp [trsSz]
  | cons t l ih => simp [trsSz, ih]; omega
theorem trsSz_take (l : List Tr) (k : Nat) (hk : k < l.length) : trsSz (l.take k) + (l[k]).sz ≤ trsSz l := by
  have h1 : l = l.take k ++ l.drop k := (List.take_append_drop k l).symm
  have h2 : trsSz l = trsSz (l.take k) + trsSz (l.drop k) := by rw [← trsSz_append, List.take_append_drop]
  rw [h2, List.drop_eq_getElem_cons hk]
  simp only [trsSz]; omega
theorem Tr.sz_pos (t : Tr) : 0 < t.sz := by cases t; simp [Tr.sz]

/-- The cells of a tree in a row. -/
def rowCells (r : Tr × Value × Value) : List Value := [.int .i64 r.1.d.kind, .bool r.1.d.neg, r.2.1, .string r.1.d.name, .int .i64 r.1.d.exp, .int .i64 r.1.d.rel, .bool r.1.d.truth, .bool r.1.d.all, r.2.2]
def flatR (rs : List (Tr × Value × Value)) : List Value := rs.flatMap rowCells
theorem flatR_len (rs : List (Tr × Value × Value)) : (flatR rs).length = rs.length * 9 := by
  induction rs with
  | nil => simp [flatR]
  | cons r rs ih => simp only [flatR, List.flatMap_cons, List.length_append, List.length_cons] at *; rw [ih]; simp [rowCells]; omega
theorem flatR_append (a b : List (Tr × Value × Value)) : flatR (a ++ b) = flatR a ++ flatR b := by simp [flatR]
theorem flatR_get (rs : List (Tr × Value × Value)) (k : Nat) (hk : k < rs.length) (j : Nat) (hj : j < 9) : (flatR rs)[k * 9 + j]? = (rowCells rs[k])[j]? := by
  induction rs generalizing k with
  | nil => simp at hk
  | cons r rs ih =>
    have hl : (rowCells r).length = 9 := rfl
    simp only [flatR, List.flatMap_cons]
    cases k with
    | zero => simp only [Nat.zero_mul, Nat.zero_add, List.getElem_cons_zero]; rw [List.getElem?_append_left (by omega)]
    | succ k =>
      rw [List.getElem?_append_right (by omega), hl, show (k + 1) * 9 + j - 9 = k * 9 + j by omega]
      exact ih k (by simpa using hk)
/-- v is a row of trees of the call's own in W, from block base on; the trees themselves lie in w. -/
def LstV (w : World) (p : Nat → Prop) (base : Nat) (W : World) (v : Value) (l : List Tr) : Prop :=
  ∃ rs : List (Tr × Value × Value), rs.map (fun r => r.1) = l ∧ W.ownsRow base 29 9 v rs.length (flatR rs) ∧ ∀ r ∈ rs, TrV w p r.1 (ndV r.1.d r.2.1 r.2.2)
/-- A row of integers of the call's own. -/
def IntRow (base : Nat) (W : World) (u : Value) (n : Nat) : Prop := ∃ xs : List Value, W.ownsRow base 3 1 u n xs ∧ ∀ x ∈ xs, ∃ z : Int, x = .int .i64 z
theorem ownsRow_base {w : World} {base base' size n : Nat} {e : TypeId} {v : Value} {xs : List Value} (h : w.ownsRow base e size v n xs) (hb : base' ≤ base) : w.ownsRow base' e size v n xs := by
  obtain ⟨h1, h2⟩ := h
  refine ⟨h1, ?_⟩
  rcases h2 with h2 | ⟨g, cap, cur, e1, e2, e3⟩
  · exact .inl h2
  · exact .inr ⟨g, cap, cur, e1, Nat.le_trans hb e2, e3⟩
section
variable {w W W' : World} {p : Nat → Prop} {base base' : Nat} {v u : Value} {l : List Tr} {n : Nat}
theorem LstV.base_ (h : LstV w p base W v l) (hb : base' ≤ base) : LstV w p base' W v l := by
  obtain ⟨rs, h1, h2, h3⟩ := h
  exact ⟨rs, h1, ownsRow_base h2 hb, h3⟩
theorem IntRow.base_ (h : IntRow base W u n) (hb : base' ≤ base) : IntRow base' W u n := by
  obtain ⟨xs, h1, h2⟩ := h
  exact ⟨xs, ownsRow_base h1 hb, h2⟩
theorem LstV.kept {row : Option Nat} (h : LstV w p base W v l) (hg : W.grownBy W' row) (hne : v.ownBlock = none ∨ v.ownBlock ≠ row) : LstV w p base W' v l := by
  obtain ⟨rs, h1, h2, h3⟩ := h
  exact ⟨rs, h1, World.ownsRow.kept h2 hg hne, h3⟩
theorem IntRow.kept {row : Option Nat} (h : IntRow base W u n) (hg : W.grownBy W' row) (hne : u.ownBlock = none ∨ u.ownBlock ≠ row) : IntRow base W' u n := by
  obtain ⟨xs, h1, h2⟩ := h
  exact ⟨xs, World.ownsRow.kept h1 hg hne, h2⟩
theorem LstV.ext (h : LstV w p base W v l) (hx : Ext W W') : LstV w p base W' v l := h.kept (row := none) hx.grownN (by cases hv : v.ownBlock <;> simp)
theorem IntRow.ext (h : IntRow base W u n) (hx : Ext W W') : IntRow base W' u n := h.kept (row := none) hx.grownN (by cases hv : u.ownBlock <;> simp)
theorem LstV.lt (h : LstV w p base W v l) : ∀ k, v.ownBlock = some k → base ≤ k ∧ k < W.heap.size := by
  obtain ⟨rs, h1, h2, h3⟩ := h
  exact World.ownsRow.lt h2
theorem IntRow.lt (h : IntRow base W u n) : ∀ k, u.ownBlock = some k → base ≤ k ∧ k < W.heap.size := by
  obtain ⟨xs, h1, h2⟩ := h
  exact World.ownsRow.lt h1
theorem LstV.pos (h : LstV w p base W v l) (hl : 0 < l.length) : ∃ g cap, v = .slice (some ⟨g, 0, none⟩) l.length cap ∧ l.length ≤ cap ∧ cap ≤ maxLen := by
  obtain ⟨rs, rfl, h2, h3⟩ := h
  rw [List.length_map] at hl ⊢
  rcases h2.2 with ⟨-, e⟩ | ⟨g, cap, cur, e1, -, -, e4, e5, -⟩
  · omega
  · exact ⟨g, cap, e1, e4, e5⟩
theorem IntRow.pos (h : IntRow base W u n) (hl : 0 < n) : ∃ g cap, u = .slice (some ⟨g, 0, none⟩) n cap ∧ n ≤ cap ∧ cap ≤ maxLen := by
  obtain ⟨xs, h2, h3⟩ := h
  rcases h2.2 with ⟨-, e⟩ | ⟨g, cap, cur, e1, -, -, e4, e5, -⟩
  · omega
  · exact ⟨g, cap, e1, e4, e5⟩
/-- The tree at k. -/
theorem LstV.at_ {g m cap : Nat} (h : LstV w p base W (.slice (some ⟨g, 0, none⟩) m cap) l) (k : Nat) (hk : k < l.length) : ∃ A0 n0 c0 A1 n1 c1, NdAt W ((⟨g, 0, none⟩ : Addr).add (k * 9)) l[k].d (.slice A0 n0 c0) (.slice A1 n1 c1) ∧ TrV w p l[k] (ndV l[k].d (.slice A0 n0 c0) (.slice A1 n1 c1)) := by
  obtain ⟨rs, rfl, h2, h3⟩ := h
  rw [List.length_map] at hk
  have hc : ∀ j, j < 9 → W.cell? ⟨g, k * 9 + j, none⟩ = (rowCells rs[k])[j]? := by
    intro j hj
    have hm : m = rs.length := by
      rcases h2.2 with ⟨e, -⟩ | ⟨g', cap', cur, e1, -⟩
      · cases e
      · injection e1
    subst hm
    rw [World.ownsRow.cellAt h2 (k * 9 + j) (by omega)]
    exact flatR_get rs k hk j hj
  have ht := h3 rs[k] (List.getElem_mem hk)
  obtain ⟨A0, n0, c0, A1, c1, e2, -, -⟩ := ht.open_
  unfold ndV at e2
  simp only [Value.agg.injEq, Array.mk.injEq, List.cons.injEq, and_true, true_and] at e2
  obtain ⟨e3, e4⟩ := e2
  rw [List.getElem_map]
  rw [e3, e4] at ht
  refine ⟨A0, n0, c0, A1, _, c1, ?_, ht⟩
  rw [add_mk, Nat.zero_add]
  refine ⟨hc 0 (by omega), hc 1 (by omega), ?_, hc 3 (by omega), hc 4 (by omega), hc 5 (by omega), hc 6 (by omega), hc 7 (by omega), ?_⟩
  · rw [← e3]; exact hc 2 (by omega)
  · rw [← e4]; exact hc 8 (by omega)
end
theorem LstV.one {w W : World} {p : Nat → Prop} {base : Nat} {l : List Tr} {v : Value} (h : LstV w p base W v l) : ∃ rs : List (Tr × Value × Value), rs.map (fun r => r.1) = l ∧ W.ownsRow base 29 9 v rs.length (flatR rs) ∧ (∀ r ∈ rs, TrV w p r.1 (ndV r.1.d r.2.1 r.2.2)) ∧ ∀ u ∈ flatR rs, u.oneCell' = true := by
  obtain ⟨rs, h1, h2, h3⟩ := h
  refine ⟨rs, h1, h2, h3, fun u hu => ?_⟩
  unfold flatR at hu
  obtain ⟨r, hr, hu⟩ := List.mem_flatMap.1 hu
  obtain ⟨A0, n0, c0, A1, c1, e2, -, -⟩ := (h3 r hr).open_
  unfold ndV at e2
  simp only [Value.agg.injEq, Array.mk.injEq, List.cons.injEq, and_true, true_and] at e2
  obtain ⟨e3, e4⟩ := e2
  unfold rowCells at hu
  rw [e3, e4] at hu
  simp only [List.mem_cons, List.not_mem_nil, or_false] at hu
  rcases hu with rfl | rfl | rfl | rfl | rfl | rfl | rfl | rfl | rfl <;> rfl
theorem info_tree : (Tryz.prog.info? 29).map (fun i => (i.zero, i.size, i.bytes)) = some (some (.agg #[.int .i64 0, .bool false, .slice none 0 0, .string ByteArray.empty, .int .i64 0, .int .i64 0, .bool false, .bool false, .slice none 0 0]), 9, 104) := by kernel_rfl
theorem info_int3 : (Tryz.prog.info? 3).map (fun i => (i.zero, i.size, i.bytes)) = some (some (.int .i64 0), 1, 8) := by kernel_rfl

set_option maxRecDepth 100000 in
/-- append(out, l...) of rows of trees. -/
theorem run_append_trees {w W : World} {p : Nat → Prop} {base base' : Nat} {v v2 : Value} {l l2 : List Tr} (h : LstV w p base W v l) (h2 : LstV w p base' W v2 l2) (hl2 : 0 < l2.length) (hb : base ≤ W.heap.size) (hlen : l.length + l2.length ≤ 1000000000) (ty : TypeId) :
    ∃ v' w', (Builtin.append_ #[27, 27] ty #[v, v2]).run Tryz.prog W = .ok v' w' ∧ LstV w p base w' v' (l ++ l2) ∧ W.grownBy w' v.ownBlock ∧ (v'.ownBlock = v.ownBlock ∨ v'.ownBlock = some W.heap.size) := by
  obtain ⟨i0, hi, hz0, hz1, hz2⟩ := info_parts info_tree
  obtain ⟨g, cap, rfl, -⟩ := h2.pos hl2
  obtain ⟨rs2, rfl, o2, t2, c2⟩ := h2.one
  obtain ⟨rs, rfl, o1, t1, -⟩ := h.one
  simp only [List.length_map] at hlen hl2 ⊢
  obtain ⟨v', w', hrun, r1, r2, -, r3⟩ := run_append_own_at (P := Tryz.prog) W base 27 ty 29 i0 _ 9 104 Tryz.underlying27 hi hz0 hz1 hz2 rfl (by omega) v rs.length (flatR rs) o1 ⟨g, 0, none⟩ rs2.length cap (flatR rs2) (flatR_len _) (fun j u hu => World.ownsRow.cells o2 rfl j u hu) c2 (by unfold maxLen; omega) (by omega) hb
  refine ⟨v', w', hrun, ⟨rs ++ rs2, by simp, by rw [flatR_append, List.length_append]; exact r1, fun r hr => ?_⟩, r2, r3⟩
  rcases List.mem_append.1 hr with hr | hr
  · exact t1 r hr
  · exact t2 r hr
/-- append(deep, d...) of rows of integers. -/
theorem run_append_ints {W : World} {base base' : Nat} {v v2 : Value} {n n2 : Nat} (h : IntRow base W v n) (h2 : IntRow base' W v2 n2) (hl2 : 0 < n2) (hb : base ≤ W.heap.size) (hlen : n + n2 ≤ 1000000000) (ty : TypeId) :
    ∃ v' w', (Builtin.append_ #[96, 96] ty #[v, v2]).run Tryz.prog W = .ok v' w' ∧ IntRow base w' v' (n + n2) ∧ W.grownBy w' v.ownBlock ∧ (v'.ownBlock = v.ownBlock ∨ v'.ownBlock = some W.heap.size) := by
  obtain ⟨i0, hi, hz0, hz1, hz2⟩ := info_parts info_int3
  obtain ⟨g, cap, rfl, -⟩ := h2.pos hl2
  obtain ⟨xs2, o2, t2⟩ := h2
  obtain ⟨xs, o1, t1⟩ := h
  obtain ⟨v', w', hrun, r1, r2, -, r3⟩ := run_append_own_at (P := Tryz.prog) W base 96 ty 3 i0 _ 1 8 Tryz.underlying96 hi hz0 hz1 hz2 rfl (by omega) v n xs o1 ⟨g, 0, none⟩ n2 cap xs2 o2.1 (fun j u hu => World.ownsRow.cells o2 rfl j u hu) (fun u hu => by obtain ⟨z, rfl⟩ := t2 u hu; rfl) (by unfold maxLen; omega) (by omega) hb
  refine ⟨v', w', hrun, ⟨xs ++ xs2, r1, fun r hr => ?_⟩, r2, r3⟩
  rcases List.mem_append.1 hr with hr | hr
  · exact t1 r hr
  · exact t2 r hr

/-- The call returns the row of these trees, and a row of integers as long. -/
def RetList (w0 : World) (p : Nat → Prop) (l : List Tr) (w : World) (e : Ending) (w' : World) : Prop :=
  ∃ v u, e = .returned (.tuple #[v, u]) ∧ LstV w0 p w.heap.size w' v l ∧ IntRow w.heap.size w' u l.length ∧ v.ownBlock ≠ u.ownBlock ∧ Ext w w'

set_option maxRecDepth 100000 in
set_option maxHeartbeats 4000000 in
theorem list_ih {w0 : World} {p : Nat → Prop} (m : Nat) : ∀ (t : Tr) (v : Value) (w : World) (d : Nat), t.sz < m → TrV w0 p t v → Ext w0 w → d + t.sz ≤ 1000000 → Calls Tryz.prog 43 #[v, .int .i64 d] w (RetList w0 p t.list w) := by
  induction m with
  | zero => intro t v w d h; omega
  | succ m ih =>
  intro t v w d hm h hx0 hd
  have IH := Lib.hid ih
  have HT := Lib.hid h
  obtain ⟨A0, n0, c0, A, c, rfl, -, hl1, hl2, h4⟩ := h.open_
  have HSZ := Lib.hid (fun k hk => t.kid_sz k hk)
  have HX0 := Lib.hid hx0
  clear h ih hx0
  have htl : t.list = t :: listL t.ks := by cases t; rfl
  have hts : t.sz = trsSz t.ks + 1 := by cases t; rfl
  rw [htl]
  clear htl
  have H4 := Lib.hid h4
  clear h4
  unfold ndV
  unfold ndV at HT
  obtain ⟨W, hW⟩ : ∃ W, w.alloc (.cells #[.int .i64 t.d.kind, .bool t.d.neg, .slice A0 n0 c0, .string t.d.name, .int .i64 t.d.exp, .int .i64 t.d.rel, .bool t.d.truth, .bool t.d.all, .slice A t.ks.length c] 29) = W := ⟨_, rfl⟩
  have hWx : Ext w W := by rw [← hW]; exact (Ext.refl w).alloc _
  have hWs : W.heap.size = w.heap.size + 1 := by rw [← hW]; simp
  have hbx : Box9 W w.heap.size t.d (.slice A0 n0 c0) (.slice A t.ks.length c) := by rw [← hW]; exact Box9.new w t.d _ _ _
  obtain ⟨b0, b1, b2, b3, b4, b5, b6, b7, b8⟩ := id hbx
  obtain ⟨V, hV⟩ : ∃ V, (W.alloc (.cells #[.int .i64 t.d.kind, .bool t.d.neg, .slice A0 n0 c0, .string t.d.name, .int .i64 t.d.exp, .int .i64 t.d.rel, .bool t.d.truth, .bool t.d.all, .slice A t.ks.length c] 29)).alloc (.cells #[.int .i64 d] 3) = V := ⟨_, rfl⟩
  have hVx : Ext W V := by rw [← hV]; exact ((Ext.refl W).alloc _).alloc _
  have hVs : V.heap.size = W.heap.size + 1 + 1 := by rw [← hV]; simp
  have HBX := Lib.hid hbx
  have a8 : V.cell? ⟨w.heap.size, 8, none⟩ = some (.slice A t.ks.length c) := (hVx.cell (p := ⟨w.heap.size, 8, none⟩) (by rw [hWs]; exact Nat.lt_succ_self _)).trans b8
  have HL : Hid (LstV w0 p W.heap.size V (.slice (some ⟨W.heap.size, 0, none⟩) 1 1) [t]) := by
    refine ⟨[(t, .slice A0 n0 c0, .slice A t.ks.length c)], rfl, ⟨rfl, .inr ⟨W.heap.size, 1, #[.int .i64 t.d.kind, .bool t.d.neg, .slice A0 n0 c0, .string t.d.name, .int .i64 t.d.exp, .int .i64 t.d.rel, .bool t.d.truth, .bool t.d.all, .slice A t.ks.length c], rfl, Nat.le_refl _, ?_, Nat.le_refl _, by unfold maxLen; omega, rfl, rfl⟩⟩, ?_⟩
    · rw [← hV, Below.heap_alloc _ _ _ (by simp)]; exact heap_alloc_new W _
    · intro r hr
      obtain rfl : r = (t, .slice A0 n0 c0, .slice A t.ks.length c) := by simpa using hr
      exact HT.out
  have HU : Hid (IntRow W.heap.size V (.slice (some ⟨W.heap.size + 1, 0, none⟩) 1 1) 1) := by
    refine ⟨[.int .i64 d], ⟨rfl, .inr ⟨W.heap.size + 1, 1, #[.int .i64 d], rfl, Nat.le_succ _, ?_, Nat.le_refl _, by unfold maxLen; omega, rfl, rfl⟩⟩, ?_⟩
    · rw [← hV]
      have := heap_alloc_new (W.alloc (.cells #[.int .i64 t.d.kind, .bool t.d.neg, .slice A0 n0 c0, .string t.d.name, .int .i64 t.d.exp, .int .i64 t.d.rel, .bool t.d.truth, .bool t.d.all, .slice A t.ks.length c] 29)) (.cells #[.int .i64 d] 3)
      rwa [World.size_alloc] at this
    · intro x hx; exact ⟨d, by simpa using hx⟩
  have HWX := Lib.hid hWx
  have HVX := Lib.hid hVx
  clear hWx hVx hbx
  go_enter Tryz.func43, Tryz.ntmps43
  go_wp2_with fail
  clear hW hV b0 b1 b2 b3 b4 b5 b6 b7 b8 a8
  go_loopw [6, 7, 18] (fun ov uv iv wr => ∃ k : Nat, k ≤ t.ks.length ∧ iv = .int .i64 k ∧ Hid (LstV w0 p W.heap.size wr ov (t :: listL (t.ks.take k)) ∧ IntRow W.heap.size wr uv (t :: listL (t.ks.take k)).length ∧ ov.ownBlock ≠ uv.ownBlock ∧ Ext W wr)) (fun _ _ iv _ => t.ks.length - (intOf iv).toNat)
  case atStart => exact ⟨0, Nat.zero_le _, rfl, ⟨by have h := HL.out; rw [hWs] at h ⊢; simpa [listL] using h, by have h := HU.out; rw [hWs] at h ⊢; simpa [listL] using h, by simp [Value.ownBlock], HVX.out⟩⟩
  case round =>
    obtain ⟨k, hk, rfl, ⟨hlv, hiv, hne, hxw⟩⟩ := hrel
    have HLV := Lib.hid hlv
    have HIV := Lib.hid hiv
    have HNE := Lib.hid hne
    have HXW := Lib.hid hxw
    have a8 : wr.cell? ⟨w.heap.size, 8, none⟩ = some (.slice A t.ks.length c) := (HBX.out.ext hxw (by omega)).2.2.2.2.2.2.2.2
    obtain ⟨g1, cap1, hov, -⟩ := hlv.pos (by simp)
    obtain ⟨g2, cap2, huv, -⟩ := hiv.pos (by simp)
    subst hov huv
    by_cases hlt : k < t.ks.length
    · obtain ⟨ad, B0, m0, d0, B1, m1, d1, hA, hadb, hnd, hkt⟩ := TrsAt.kid H4.out k hlt
      subst hA
      have hx0 : Ext w0 wr := HX0.out.trans (HWX.out.trans hxw)
      obtain ⟨e0, e1, e2, e3, e4, e5, e6, e7, e8⟩ := hnd.ext hx0 (by rw [block_of_add]; exact hadb)
      have hsz := HSZ.out k hlt
      have hwr := HXW.out.size
      have HC := Lib.hid (IH.out (t.ks[k]) _ wr (d + 1) (by omega) hkt hx0 (by omega))
      have HTK := Lib.hid (listL_take t.ks k hlt)
      have HLN : Hid ((t :: listL (t.ks.take k)).length + (t.ks[k]).list.length ≤ 1000000000) := by
        have h1 := trsSz_take t.ks k hlt
        have : (t :: listL (t.ks.take k)).length + (t.ks[k]).list.length ≤ 1000000000 := by rw [List.length_cons, listL_len, Tr.list_len]; omega
        exact this
      have HP : Hid (0 < (t.ks[k]).list.length) := by
        have : 0 < (t.ks[k]).list.length := by rw [Tr.list_len]; exact Tr.sz_pos _
        exact this
      clear hkt hnd hlv hiv hne hxw hadb hsz hx0
      go_wp2_with fail
      refine HC.out.mono ?_
      rintro e w2 ⟨v2, u2, rfl, l2, i2, ne2, x2⟩
      have hw2 := x2.size
      obtain ⟨v3, w3, hr3, l3, gr3, o3⟩ := run_append_trees (HLV.out.ext x2) l2 HP.out (by omega) HLN.out 27
      have hw3 := gr3.size
      obtain ⟨v4, w4, hr4, l4, gr4, o4⟩ := run_append_ints ((HIV.out.ext x2).kept gr3 (.inr (fun e => HNE.out e.symm))) (i2.kept gr3 (.inr (fun e => by
        cases hu : u2.ownBlock with
        | none => obtain ⟨g, cap, rfl, -⟩ := i2.pos HP.out; cases hu
        | some b =>
          have h1 := i2.lt b hu
          have h2 := (HLV.out.lt b (by rw [← e, hu])).2
          omega))) HP.out (by omega) HLN.out 96
      have hfin : LstV w0 p W.heap.size w4 v3 (t :: listL (t.ks.take (k + 1))) ∧ IntRow W.heap.size w4 v4 (t :: listL (t.ks.take (k + 1))).length ∧ v3.ownBlock ≠ v4.ownBlock ∧ Ext W w4 := by
        have hl3 : ∀ b, v3.ownBlock = some b → W.heap.size ≤ b ∧ b < w3.heap.size := l3.lt
        have hg2 := (HIV.out.lt g2 rfl)
        rw [HTK.out]
        refine ⟨?_, ?_, ?_, ?_⟩
        · have : LstV w0 p W.heap.size w4 v3 ((t :: listL (t.ks.take k)) ++ (t.ks[k]).list) := l3.kept gr4 (.inr (fun e => by
            rcases o3 with o3 | o3
            · exact HNE.out (by rw [← o3, e])
            · rw [o3] at e
              have e' : w2.heap.size = g2 := by simpa [Value.ownBlock] using e
              omega))
          simpa using this
        · have : IntRow W.heap.size w4 v4 ((t :: listL (t.ks.take k)).length + (t.ks[k]).list.length) := l4
          have e : (t :: (listL (t.ks.take k) ++ (t.ks[k]).list)).length = (t :: listL (t.ks.take k)).length + (t.ks[k]).list.length := by simp; omega
          rw [e]; exact this
        · intro e
          rcases o4 with o4 | o4
          · rcases o3 with o3 | o3
            · exact HNE.out (by rw [← o3, e, o4])
            · rw [o3, o4] at e
              have e' : w2.heap.size = g2 := by simpa [Value.ownBlock] using e
              omega
          · have := (hl3 w3.heap.size (by rw [e, o4])).2
            omega
        · exact ((HXW.out.trans x2).grown gr3 (fun b hb => (HLV.out.lt b hb).1)).grown gr4 (fun b hb => (HIV.out.lt b hb).1)
      have HFIN := Lib.hid hfin
      clear hfin l2 i2 ne2 x2 l3 gr3 o3 l4 gr4 o4 e0 e1 e2 e3 e4 e5 e6 e7 e8 a8 HC
      go_wp2_with (at_builtin
                   first
                   | refine wpList_append_run rfl (.tmp 32) (.tmp 33) _ _ rfl _ _ _ _ rfl rfl hr3 ?_
                   | refine wpList_append_run rfl (.tmp 35) (.tmp 36) _ _ rfl _ _ _ _ rfl rfl hr4 ?_)
      clear hr3 hr4
      go_roundw
      case rel => exact ⟨k + 1, by omega, by go_num, HFIN⟩
      case measure => simp [intOf]; omega
    · have hke : k = t.ks.length := by omega
      have htk : listL (t.ks.take k) = listL t.ks := by rw [hke, List.take_length]
      have hle : w.heap.size ≤ W.heap.size := by omega
      have HF : Hid (RetList w0 p (t :: listL t.ks) w (.returned (.tuple #[.slice (some ⟨g1, 0, none⟩) (t :: listL (t.ks.take k)).length cap1, .slice (some ⟨g2, 0, none⟩) (t :: listL (t.ks.take k)).length cap2])) wr) :=
        ⟨_, _, rfl, by have h := hlv.base_ hle; rw [htk] at h ⊢; exact h, by have h := hiv.base_ hle; rw [htk] at h ⊢; exact h, hne, HWX.out.trans hxw⟩
      clear hlv hiv hne hxw hke htk
      go_wp2_with fail
      go_ret2
      exact HF.out

theorem list_any {w : World} {p : Nat → Prop} (t : Tr) (v : Value) (h : TrV w p t v) (hd : t.sz ≤ 1000000) : Calls Tryz.prog 43 #[v, .int .i64 0] w (RetList w p t.list w) :=
  list_ih (t.sz + 1) t v w 0 (Nat.lt_succ_self _) h (Ext.refl w) (by omega)
end Go.Proofs.YtkbpnppiadaibaaGreatDoor

/- Reference 34: Few. -/
namespace Go.Proofs.YtkbpnppiadaibaaGreatDoor
open Go.RowKit

/-- Short numbers and names. -/
def Nd.ok (d : Nd) : Bool := decide (d.ds.length ≤ 20) && decide (d.name.size ≤ 40)
def Tr.few (t : Tr) (n : Nat) : Bool := decide (0 ≤ t.room n 40) && t.list.all fun x => x.d.ok
theorem tall_cut {α : Type} (l : List α) (f : α → Bool) (k : Nat) (hk : k < l.length) (h : f l[k] = false) : l.all f = false := List.all_eq_false.2 ⟨l[k], List.getElem_mem hk, by rw [h]; simp⟩
theorem tall_take {α : Type} (l : List α) (f : α → Bool) (k : Nat) (hk : k < l.length) : (l.take (k + 1)).all f = ((l.take k).all f && f l[k]) := by rw [List.take_succ_eq_append_getElem hk, List.all_append]; simp

/-- A row of trees, its place not told. -/
theorem LstV.see {w W : World} {p : Nat → Prop} {base : Nat} {v : Value} {l : List Tr} (h : LstV w p base W v l) (hl : 0 < l.length) : ∃ ad cap, v = .slice (some ad) l.length cap ∧ l.length ≤ cap ∧ cap ≤ 9223372036854775807 ∧ ∀ W', Ext W W' → ∀ k (hk : k < l.length), ∃ A0 c0 A1 c1, NdAt W' (ad.add (k * 9)) l[k].d (.slice A0 l[k].d.ds.length c0) (.slice A1 l[k].ks.length c1) ∧ TrV w p l[k] (ndV l[k].d (.slice A0 l[k].d.ds.length c0) (.slice A1 l[k].ks.length c1)) := by
  obtain ⟨g, cap, rfl, h1, h2⟩ := h.pos hl
  refine ⟨⟨g, 0, none⟩, cap, rfl, h1, by unfold maxLen at h2; omega, fun W' hx k hk => ?_⟩
  obtain ⟨A0, n0, c0, A1, n1, c1, hn, ht⟩ := (h.ext hx).at_ k hk
  obtain ⟨B0, m0, d0, B1, d1, ev, hnat, -⟩ := ht.open_
  unfold ndV at ev
  simp only [Value.agg.injEq, Array.mk.injEq, List.cons.injEq, and_true, true_and] at ev
  obtain ⟨ev, ev2⟩ := ev
  rw [← ev] at hnat
  obtain ⟨A', c', en, -⟩ := hnat
  injection en with en1 en2 en3
  injection ev2 with ev1 ev2 ev3
  subst en2 ev2
  exact ⟨A0, c0, A1, c1, hn, ht⟩

set_option maxRecDepth 100000 in
set_option maxHeartbeats 2000000 in
theorem fewT_any {w : World} {p : Nat → Prop} (t : Tr) (v : Value) (h : TrV w p t v) (n : Nat) (hn : n ≤ 1000) : Calls Tryz.prog 16 #[v, .int .i64 n] w (RetB (t.few n) w) := by
  have HT := Lib.hid h
  obtain ⟨A0, n0, c0, A, c, rfl, -, hl1, hl2, h4⟩ := h.open_
  clear h h4
  unfold ndV
  unfold ndV at HT
  obtain ⟨W, hW⟩ : ∃ W, w.alloc (.cells #[.int .i64 t.d.kind, .bool t.d.neg, .slice A0 n0 c0, .string t.d.name, .int .i64 t.d.exp, .int .i64 t.d.rel, .bool t.d.truth, .bool t.d.all, .slice A t.ks.length c] 29) = W := ⟨_, rfl⟩
  have hWx : Ext w W := by rw [← hW]; exact (Ext.refl w).alloc _
  have hWs : W.heap.size = w.heap.size + 1 := by rw [← hW]; simp
  have hbx : Box9 W w.heap.size t.d (.slice A0 n0 c0) (.slice A t.ks.length c) := by rw [← hW]; exact Box9.new w t.d _ _ _
  obtain ⟨b0, b1, b2, b3, b4, b5, b6, b7, b8⟩ := id hbx
  have HBX := Lib.hid hbx
  have HWX := Lib.hid hWx
  have HRM := Lib.hid (room_any t _ W n 40 (HT.out.ext hWx) (by omega) (by omega) (by omega))
  clear hWx hbx
  by_cases hr : t.room n 40 < 0
  · have hd : decide (t.room n 40 < 0) = true := by simpa using hr
    have HF : Hid (t.few n = false) := by
      have : t.few n = false := by unfold Tr.few; simp; intro h; omega
      exact this
    clear hr
    go_enter Tryz.func16, Tryz.ntmps16
    go_wp2_with fail
    clear hW
    refine HRM.out.mono ?_
    rintro e w1 ⟨rfl, x1⟩
    have X1 := Lib.hid x1
    clear x1 b0 b1 b2 b3 b4 b5 b6 b7 b8
    generalize hrm : t.room n 40 = rm at *
    clear hrm
    go_wp2_with fail
    go_ret
    exact ⟨by rw [HF.out]; rfl, HWX.out.trans X1.out⟩
  · have hd : decide (t.room n 40 < 0) = false := by simpa using hr
    have hsz : t.sz ≤ n := t.room_le n 40 (by omega)
    have HF : Hid (t.few n = t.list.all fun x => x.d.ok) := by
      have : t.few n = t.list.all fun x => x.d.ok := by
        unfold Tr.few
        rw [show decide (0 ≤ t.room n 40) = true by simp; omega, Bool.true_and]
      exact this
    clear hr
    go_enter Tryz.func16, Tryz.ntmps16
    go_wp2_with fail
    clear hW
    refine HRM.out.mono ?_
    rintro e w1 ⟨rfl, x1⟩
    have X1 := Lib.hid x1
    clear b0 b1 b2 b3 b4 b5 b6 b7 b8
    obtain ⟨b0, b1, b2, b3, b4, b5, b6, b7, b8⟩ := HBX.out.ext x1 (by omega)
    have HLI := Lib.hid (list_any t _ (HT.out.ext (HWX.out.trans x1)) (by omega))
    have hlp : 0 < t.list.length := by rw [t.list_len]; exact t.sz_pos
    clear x1
    generalize hrm : t.room n 40 = rm at *
    clear hrm HRM
    generalize hls : t.list = ls at *
    have HLS := Lib.hid hls
    clear hls
    go_wp2_with fail
    clear hd
    refine HLI.out.mono ?_
    rintro e w2 ⟨v2, u2, rfl, l2, i2, -, x2⟩
    obtain ⟨ad, cap, rfl, hc1, hc2, hat⟩ := l2.see hlp
    obtain ⟨g', cap', rfl, -, -⟩ := i2.pos hlp
    have L2 := Lib.hid hat
    have X2 := Lib.hid x2
    clear b0 b1 b2 b3 b4 b5 b6 b7 b8 l2 i2 hat x2 HLI HBX HT
    go_wp2_with fail
    go_loopw [19] (fun iv wr => ∃ k : Nat, k ≤ ls.length ∧ iv = .int .i64 k ∧ Hid (((ls.take k).all fun x => x.d.ok) = true ∧ Ext w2 wr)) (fun iv _ => ls.length - (intOf iv).toNat)
    case atStart => exact ⟨0, Nat.zero_le _, rfl, ⟨by simp, Ext.refl w2⟩⟩
    case round =>
      obtain ⟨k, hk, rfl, ⟨hal, hx⟩⟩ := hrel
      have HA := Lib.hid hal
      have HX := Lib.hid hx
      by_cases hlt : k < ls.length
      · obtain ⟨A0, c0, A1, c1, ⟨e0, e1, e2, e3, e4, e5, e6, e7, e8⟩, ht⟩ := L2.out wr hx k hlt
        have HTK := Lib.hid (tall_take ls (fun x => x.d.ok) k hlt)
        have HCUT := Lib.hid (tall_cut ls (fun x => x.d.ok) k hlt)
        have HOK : Hid (ls[k].d.ok = (decide (ls[k].d.ds.length ≤ 20) && decide (ls[k].d.name.size ≤ 40))) := rfl
        clear ht hal hx e0 e1 e4 e5 e6 e7 e8
        generalize ls[k].d.ok = okk at *
        generalize ls[k].d.ds.length = n1 at *
        generalize ls[k].d.name = nm at *
        by_cases h20 : n1 ≤ 20
        · have hd20 : decide ((20 : Int) < (n1 : Int)) = false := by simp; omega
          by_cases h40 : nm.size ≤ 40
          · have hd40 : decide ((40 : Int) < (nm.size : Int)) = false := by simp; omega
            have HN : Hid (((ls.take (k + 1)).all fun x => x.d.ok) = true) := by
              have : ((ls.take (k + 1)).all fun x => x.d.ok) = true := by rw [HTK.out, HA.out, HOK.out]; simp [h20, h40]
              exact this
            go_wp2_with fail
            go_roundw
            case rel => exact ⟨k + 1, by omega, by go_num, ⟨HN.out, HX.out⟩⟩
            case measure => simp [intOf]; omega
          · have hd40 : decide ((40 : Int) < (nm.size : Int)) = true := by simp; omega
            have HN : Hid ((ls.all fun x => x.d.ok) = false) := by
              have : (ls.all fun x => x.d.ok) = false := HCUT.out (by rw [HOK.out]; simp [h40])
              exact this
            go_wp2_with fail
            go_ret
            exact ⟨by rw [HF.out, HN.out]; rfl, HWX.out.trans (X1.out.trans (X2.out.trans HX.out))⟩
        · have hd20 : decide ((20 : Int) < (n1 : Int)) = true := by simp; omega
          have HN : Hid ((ls.all fun x => x.d.ok) = false) := by
            have : (ls.all fun x => x.d.ok) = false := HCUT.out (by rw [HOK.out]; simp [h20])
            exact this
          go_wp2_with fail
          go_ret
          exact ⟨by rw [HF.out, HN.out]; rfl, HWX.out.trans (X1.out.trans (X2.out.trans HX.out))⟩
      · have HN : Hid ((ls.all fun x => x.d.ok) = true) := by
          have hke : k = ls.length := by omega
          rw [hke, List.take_length] at hal
          exact hal
        clear hal hx
        go_wp2_with fail
        go_ret
        exact ⟨by rw [HF.out, HN.out]; rfl, HWX.out.trans (X1.out.trans (X2.out.trans HX.out))⟩
end Go.Proofs.YtkbpnppiadaibaaGreatDoor
