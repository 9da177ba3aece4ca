/- Reference 34: List: a tree and all trees in it, in one row. -/
import Derived.Test.YtofbfplpbffpfaaGreatMf46
import Derived.Test.YtofbfplpbffpfaaGreatMf45
import Derived.Test.YtofbfplpbffpfaaGreatMf31
import Derived.Test.YtofbfplpbffpfaaGreatMf47
import Derived.Test.YtofbfplpbffpfaaGreatAwake

namespace Go.Proofs.YtofbfplpbffpfaaGreat
open Go.RowKit

mutual
/-- A tree and all trees in it. -/
def Tr.list : Tr → List Tr
  | .mk d ks => .mk d ks :: listL ks
def listL : List Tr → List Tr
  | [] => []
  | t :: r => t.list ++ listL r
end
mutual
theorem Tr.list_len : ∀ t : Tr, t.list.length = t.sz
  | .mk d ks => by simp only [Tr.list, Tr.sz, List.length_cons, listL_len ks]
theorem listL_len : ∀ l : List Tr, (listL l).length = trsSz l
  | [] => by simp only [listL, trsSz, List.length_nil]
  | t :: r => by simp only [listL, trsSz, List.length_append, Tr.list_len t, listL_len r]
end
theorem listL_append (l r : List Tr) : listL (l ++ r) = listL l ++ listL r := by
  induction l with
  | nil => simp [listL]
  | cons t l ih => simp [listL, ih]
theorem listL_take (l : List Tr) (k : Nat) (hk : k < l.length) : listL (l.take (k + 1)) = listL (l.take k) ++ (l[k]).list := by
  rw [List.take_succ_eq_append_getElem hk, listL_append]; simp [listL]
theorem trsSz_append (l r : List Tr) : trsSz (l ++ r) = trsSz l + trsSz r := by
  induction l with
  | nil => simp [trsSz]
  | cons t l ih => simp [trsSz, ih]; omega
theorem trsSz_take (l : List Tr) (k : Nat) (hk : k < l.length) : trsSz (l.take k) + (l[k]).sz ≤ trsSz l := by
  have h1 : l = l.take k ++ l.drop k := (List.take_append_drop k l).symm
  have h2 : trsSz l = trsSz (l.take k) + trsSz (l.drop k) := by rw [← trsSz_append, List.take_append_drop]
  rw [h2, List.drop_eq_getElem_cons hk]
  simp only [trsSz]; omega
theorem Tr.sz_pos (t : Tr) : 0 < t.sz := by cases t; simp [Tr.sz]

/-- The cells of a tree in a row. -/
def rowCells (r : Tr × Value × Value) : List Value := [.int .i64 r.1.d.kind, .bool r.1.d.neg, r.2.1, .string r.1.d.name, .int .i64 r.1.d.exp, .int .i64 r.1.d.rel, .bool r.1.d.truth, .bool r.1.d.all, r.2.2]
def flatR (rs : List (Tr × Value × Value)) : List Value := rs.flatMap rowCells
theorem flatR_len (rs : List (Tr × Value × Value)) : (flatR rs).length = rs.length * 9 := by
  induction rs with
  | nil => simp [flatR]
  | cons r rs ih => simp only [flatR, List.flatMap_cons, List.length_append, List.length_cons] at *; rw [ih]; simp [rowCells]; omega
theorem flatR_append (a b : List (Tr × Value × Value)) : flatR (a ++ b) = flatR a ++ flatR b := by simp [flatR]
theorem flatR_get (rs : List (Tr × Value × Value)) (k : Nat) (hk : k < rs.length) (j : Nat) (hj : j < 9) : (flatR rs)[k * 9 + j]? = (rowCells rs[k])[j]? := by
  induction rs generalizing k with
  | nil => simp at hk
  | cons r rs ih =>
    have hl : (rowCells r).length = 9 := rfl
    simp only [flatR, List.flatMap_cons]
    cases k with
    | zero => simp only [Nat.zero_mul, Nat.zero_add, List.getElem_cons_zero]; rw [List.getElem?_append_left (by omega)]
    | succ k =>
      rw [List.getElem?_append_right (by omega), hl, show (k + 1) * 9 + j - 9 = k * 9 + j by omega]
      exact ih k (by simpa using hk)
/-- v is a row of trees of the call's own in W, from block base on; the trees themselves lie in w. -/
def LstV (w : World) (p : Nat → Prop) (base : Nat) (W : World) (v : Value) (l : List Tr) : Prop :=
  ∃ rs : List (Tr × Value × Value), rs.map (fun r => r.1) = l ∧ W.ownsRow base 29 9 v rs.length (flatR rs) ∧ ∀ r ∈ rs, TrV w p r.1 (ndV r.1.d r.2.1 r.2.2)
/-- A row of integers of the call's own. -/
def IntRow (base : Nat) (W : World) (u : Value) (n : Nat) : Prop := ∃ xs : List Value, W.ownsRow base 3 1 u n xs ∧ ∀ x ∈ xs, ∃ z : Int, x = .int .i64 z
theorem ownsRow_base {w : World} {base base' size n : Nat} {e : TypeId} {v : Value} {xs : List Value} (h : w.ownsRow base e size v n xs) (hb : base' ≤ base) : w.ownsRow base' e size v n xs := by
  obtain ⟨h1, h2⟩ := h
  refine ⟨h1, ?_⟩
  rcases h2 with h2 | ⟨g, cap, cur, e1, e2, e3⟩
  · exact .inl h2
  · exact .inr ⟨g, cap, cur, e1, Nat.le_trans hb e2, e3⟩
section
variable {w W W' : World} {p : Nat → Prop} {base base' : Nat} {v u : Value} {l : List Tr} {n : Nat}
theorem LstV.base_ (h : LstV w p base W v l) (hb : base' ≤ base) : LstV w p base' W v l := by
  obtain ⟨rs, h1, h2, h3⟩ := h
  exact ⟨rs, h1, ownsRow_base h2 hb, h3⟩
theorem IntRow.base_ (h : IntRow base W u n) (hb : base' ≤ base) : IntRow base' W u n := by
  obtain ⟨xs, h1, h2⟩ := h
  exact ⟨xs, ownsRow_base h1 hb, h2⟩
theorem LstV.kept {row : Option Nat} (h : LstV w p base W v l) (hg : W.grownBy W' row) (hne : v.ownBlock = none ∨ v.ownBlock ≠ row) : LstV w p base W' v l := by
  obtain ⟨rs, h1, h2, h3⟩ := h
  exact ⟨rs, h1, World.ownsRow.kept h2 hg hne, h3⟩
theorem IntRow.kept {row : Option Nat} (h : IntRow base W u n) (hg : W.grownBy W' row) (hne : u.ownBlock = none ∨ u.ownBlock ≠ row) : IntRow base W' u n := by
  obtain ⟨xs, h1, h2⟩ := h
  exact ⟨xs, World.ownsRow.kept h1 hg hne, h2⟩
theorem LstV.ext (h : LstV w p base W v l) (hx : Ext W W') : LstV w p base W' v l := h.kept (row := none) hx.grownN (by cases hv : v.ownBlock <;> simp)
theorem IntRow.ext (h : IntRow base W u n) (hx : Ext W W') : IntRow base W' u n := h.kept (row := none) hx.grownN (by cases hv : u.ownBlock <;> simp)
theorem LstV.lt (h : LstV w p base W v l) : ∀ k, v.ownBlock = some k → base ≤ k ∧ k < W.heap.size := by
  obtain ⟨rs, h1, h2, h3⟩ := h
  exact World.ownsRow.lt h2
theorem IntRow.lt (h : IntRow base W u n) : ∀ k, u.ownBlock = some k → base ≤ k ∧ k < W.heap.size := by
  obtain ⟨xs, h1, h2⟩ := h
  exact World.ownsRow.lt h1
theorem LstV.pos (h : LstV w p base W v l) (hl : 0 < l.length) : ∃ g cap, v = .slice (some ⟨g, 0, none⟩) l.length cap ∧ l.length ≤ cap ∧ cap ≤ maxLen := by
  obtain ⟨rs, rfl, h2, h3⟩ := h
  rw [List.length_map] at hl ⊢
  rcases h2.2 with ⟨-, e⟩ | ⟨g, cap, cur, e1, -, -, e4, e5, -⟩
  · omega
  · exact ⟨g, cap, e1, e4, e5⟩
theorem IntRow.pos (h : IntRow base W u n) (hl : 0 < n) : ∃ g cap, u = .slice (some ⟨g, 0, none⟩) n cap ∧ n ≤ cap ∧ cap ≤ maxLen := by
  obtain ⟨xs, h2, h3⟩ := h
  rcases h2.2 with ⟨-, e⟩ | ⟨g, cap, cur, e1, -, -, e4, e5, -⟩
  · omega
  · exact ⟨g, cap, e1, e4, e5⟩
/-- The tree at k. -/
theorem LstV.at_ {g m cap : Nat} (h : LstV w p base W (.slice (some ⟨g, 0, none⟩) m cap) l) (k : Nat) (hk : k < l.length) : ∃ A0 n0 c0 A1 n1 c1, NdAt W ((⟨g, 0, none⟩ : Addr).add (k * 9)) l[k].d (.slice A0 n0 c0) (.slice A1 n1 c1) ∧ TrV w p l[k] (ndV l[k].d (.slice A0 n0 c0) (.slice A1 n1 c1)) := by
  obtain ⟨rs, rfl, h2, h3⟩ := h
  rw [List.length_map] at hk
  have hc : ∀ j, j < 9 → W.cell? ⟨g, k * 9 + j, none⟩ = (rowCells rs[k])[j]? := by
    intro j hj
    have hm : m = rs.length := by
      rcases h2.2 with ⟨e, -⟩ | ⟨g', cap', cur, e1, -⟩
      · cases e
      · injection e1
    subst hm
    rw [World.ownsRow.cellAt h2 (k * 9 + j) (by omega)]
    exact flatR_get rs k hk j hj
  have ht := h3 rs[k] (List.getElem_mem hk)
  obtain ⟨A0, n0, c0, A1, c1, e2, -, -⟩ := ht.open_
  unfold ndV at e2
  simp only [Value.agg.injEq, Array.mk.injEq, List.cons.injEq, and_true, true_and] at e2
  obtain ⟨e3, e4⟩ := e2
  rw [List.getElem_map]
  rw [e3, e4] at ht
  refine ⟨A0, n0, c0, A1, _, c1, ?_, ht⟩
  rw [add_mk, Nat.zero_add]
  refine ⟨hc 0 (by omega), hc 1 (by omega), ?_, hc 3 (by omega), hc 4 (by omega), hc 5 (by omega), hc 6 (by omega), hc 7 (by omega), ?_⟩
  · rw [← e3]; exact hc 2 (by omega)
  · rw [← e4]; exact hc 8 (by omega)
end
theorem LstV.one {w W : World} {p : Nat → Prop} {base : Nat} {l : List Tr} {v : Value} (h : LstV w p base W v l) : ∃ rs : List (Tr × Value × Value), rs.map (fun r => r.1) = l ∧ W.ownsRow base 29 9 v rs.length (flatR rs) ∧ (∀ r ∈ rs, TrV w p r.1 (ndV r.1.d r.2.1 r.2.2)) ∧ ∀ u ∈ flatR rs, u.oneCell' = true := by
  obtain ⟨rs, h1, h2, h3⟩ := h
  refine ⟨rs, h1, h2, h3, fun u hu => ?_⟩
  unfold flatR at hu
  obtain ⟨r, hr, hu⟩ := List.mem_flatMap.1 hu
  obtain ⟨A0, n0, c0, A1, c1, e2, -, -⟩ := (h3 r hr).open_
  unfold ndV at e2
  simp only [Value.agg.injEq, Array.mk.injEq, List.cons.injEq, and_true, true_and] at e2
  obtain ⟨e3, e4⟩ := e2
  unfold rowCells at hu
  rw [e3, e4] at hu
  simp only [List.mem_cons, List.not_mem_nil, or_false] at hu
  rcases hu with rfl | rfl | rfl | rfl | rfl | rfl | rfl | rfl | rfl <;> rfl
theorem info_tree : (Tryz.prog.info? 29).map (fun i => (i.zero, i.size, i.bytes)) = some (some (.agg #[.int .i64 0, .bool false, .slice none 0 0, .string ByteArray.empty, .int .i64 0, .int .i64 0, .bool false, .bool false, .slice none 0 0]), 9, 104) := by kernel_rfl
theorem info_int3 : (Tryz.prog.info? 3).map (fun i => (i.zero, i.size, i.bytes)) = some (some (.int .i64 0), 1, 8) := by kernel_rfl

set_option maxRecDepth 100000 in
/-- append(out, l...) of rows of trees. -/
theorem run_append_trees {w W : World} {p : Nat → Prop} {base base' : Nat} {v v2 : Value} {l l2 : List Tr} (h : LstV w p base W v l) (h2 : LstV w p base' W v2 l2) (hl2 : 0 < l2.length) (hb : base ≤ W.heap.size) (hlen : l.length + l2.length ≤ 1000000000) (ty : TypeId) :
    ∃ v' w', (Builtin.append_ #[27, 27] ty #[v, v2]).run Tryz.prog W = .ok v' w' ∧ LstV w p base w' v' (l ++ l2) ∧ W.grownBy w' v.ownBlock ∧ (v'.ownBlock = v.ownBlock ∨ v'.ownBlock = some W.heap.size) := by
  obtain ⟨i0, hi, hz0, hz1, hz2⟩ := info_parts info_tree
  obtain ⟨g, cap, rfl, -⟩ := h2.pos hl2
  obtain ⟨rs2, rfl, o2, t2, c2⟩ := h2.one
  obtain ⟨rs, rfl, o1, t1, -⟩ := h.one
  simp only [List.length_map] at hlen hl2 ⊢
  obtain ⟨v', w', hrun, r1, r2, -, r3⟩ := run_append_own_at (P := Tryz.prog) W base 27 ty 29 i0 _ 9 104 Tryz.underlying27 hi hz0 hz1 hz2 rfl (by omega) v rs.length (flatR rs) o1 ⟨g, 0, none⟩ rs2.length cap (flatR rs2) (flatR_len _) (fun j u hu => World.ownsRow.cells o2 rfl j u hu) c2 (by unfold maxLen; omega) (by omega) hb
  refine ⟨v', w', hrun, ⟨rs ++ rs2, by simp, by rw [flatR_append, List.length_append]; exact r1, fun r hr => ?_⟩, r2, r3⟩
  rcases List.mem_append.1 hr with hr | hr
  · exact t1 r hr
  · exact t2 r hr
/-- append(deep, d...) of rows of integers. -/
theorem run_append_ints {W : World} {base base' : Nat} {v v2 : Value} {n n2 : Nat} (h : IntRow base W v n) (h2 : IntRow base' W v2 n2) (hl2 : 0 < n2) (hb : base ≤ W.heap.size) (hlen : n + n2 ≤ 1000000000) (ty : TypeId) :
    ∃ v' w', (Builtin.append_ #[87, 87] ty #[v, v2]).run Tryz.prog W = .ok v' w' ∧ IntRow base w' v' (n + n2) ∧ W.grownBy w' v.ownBlock ∧ (v'.ownBlock = v.ownBlock ∨ v'.ownBlock = some W.heap.size) := by
  obtain ⟨i0, hi, hz0, hz1, hz2⟩ := info_parts info_int3
  obtain ⟨g, cap, rfl, -⟩ := h2.pos hl2
  obtain ⟨xs2, o2, t2⟩ := h2
  obtain ⟨xs, o1, t1⟩ := h
  obtain ⟨v', w', hrun, r1, r2, -, r3⟩ := run_append_own_at (P := Tryz.prog) W base 87 ty 3 i0 _ 1 8 Tryz.underlying87 hi hz0 hz1 hz2 rfl (by omega) v n xs o1 ⟨g, 0, none⟩ n2 cap xs2 o2.1 (fun j u hu => World.ownsRow.cells o2 rfl j u hu) (fun u hu => by obtain ⟨z, rfl⟩ := t2 u hu; rfl) (by unfold maxLen; omega) (by omega) hb
  refine ⟨v', w', hrun, ⟨xs ++ xs2, r1, fun r hr => ?_⟩, r2, r3⟩
  rcases List.mem_append.1 hr with hr | hr
  · exact t1 r hr
  · exact t2 r hr

/-- The call returns the row of these trees, and a row of integers as long. -/
def RetList (w0 : World) (p : Nat → Prop) (l : List Tr) (w : World) (e : Ending) (w' : World) : Prop :=
  ∃ v u, e = .returned (.tuple #[v, u]) ∧ LstV w0 p w.heap.size w' v l ∧ IntRow w.heap.size w' u l.length ∧ v.ownBlock ≠ u.ownBlock ∧ Ext w w'

set_option maxRecDepth 100000 in
set_option maxHeartbeats 4000000 in
theorem list_ih {w0 : World} {p : Nat → Prop} (m : Nat) : ∀ (t : Tr) (v : Value) (w : World) (d : Nat), t.sz < m → TrV w0 p t v → Ext w0 w → d + t.sz ≤ 1000000 → Calls Tryz.prog 38 #[v, .int .i64 d] w (RetList w0 p t.list w) := by
  induction m with
  | zero => intro t v w d h; omega
  | succ m ih =>
  intro t v w d hm h hx0 hd
  have IH := Lib.hid ih
  have HT := Lib.hid h
  obtain ⟨A0, n0, c0, A, c, rfl, -, hl1, hl2, h4⟩ := h.open_
  have HSZ := Lib.hid (fun k hk => t.kid_sz k hk)
  have HX0 := Lib.hid hx0
  clear h ih hx0
  have htl : t.list = t :: listL t.ks := by cases t; rfl
  have hts : t.sz = trsSz t.ks + 1 := by cases t; rfl
  rw [htl]
  clear htl
  have H4 := Lib.hid h4
  clear h4
  unfold ndV
  unfold ndV at HT
  obtain ⟨W, hW⟩ : ∃ W, w.alloc (.cells #[.int .i64 t.d.kind, .bool t.d.neg, .slice A0 n0 c0, .string t.d.name, .int .i64 t.d.exp, .int .i64 t.d.rel, .bool t.d.truth, .bool t.d.all, .slice A t.ks.length c] 29) = W := ⟨_, rfl⟩
  have hWx : Ext w W := by rw [← hW]; exact (Ext.refl w).alloc _
  have hWs : W.heap.size = w.heap.size + 1 := by rw [← hW]; simp
  have hbx : Box9 W w.heap.size t.d (.slice A0 n0 c0) (.slice A t.ks.length c) := by rw [← hW]; exact Box9.new w t.d _ _ _
  obtain ⟨b0, b1, b2, b3, b4, b5, b6, b7, b8⟩ := id hbx
  obtain ⟨V, hV⟩ : ∃ V, (W.alloc (.cells #[.int .i64 t.d.kind, .bool t.d.neg, .slice A0 n0 c0, .string t.d.name, .int .i64 t.d.exp, .int .i64 t.d.rel, .bool t.d.truth, .bool t.d.all, .slice A t.ks.length c] 29)).alloc (.cells #[.int .i64 d] 3) = V := ⟨_, rfl⟩
  have hVx : Ext W V := by rw [← hV]; exact ((Ext.refl W).alloc _).alloc _
  have hVs : V.heap.size = W.heap.size + 1 + 1 := by rw [← hV]; simp
  have HBX := Lib.hid hbx
  have a8 : V.cell? ⟨w.heap.size, 8, none⟩ = some (.slice A t.ks.length c) := (hVx.cell (p := ⟨w.heap.size, 8, none⟩) (by rw [hWs]; exact Nat.lt_succ_self _)).trans b8
  have HL : Hid (LstV w0 p W.heap.size V (.slice (some ⟨W.heap.size, 0, none⟩) 1 1) [t]) := by
    refine ⟨[(t, .slice A0 n0 c0, .slice A t.ks.length c)], rfl, ⟨rfl, .inr ⟨W.heap.size, 1, #[.int .i64 t.d.kind, .bool t.d.neg, .slice A0 n0 c0, .string t.d.name, .int .i64 t.d.exp, .int .i64 t.d.rel, .bool t.d.truth, .bool t.d.all, .slice A t.ks.length c], rfl, Nat.le_refl _, ?_, Nat.le_refl _, by unfold maxLen; omega, rfl, rfl⟩⟩, ?_⟩
    · rw [← hV, Below.heap_alloc _ _ _ (by simp)]; exact heap_alloc_new W _
    · intro r hr
      obtain rfl : r = (t, .slice A0 n0 c0, .slice A t.ks.length c) := by simpa using hr
      exact HT.out
  have HU : Hid (IntRow W.heap.size V (.slice (some ⟨W.heap.size + 1, 0, none⟩) 1 1) 1) := by
    refine ⟨[.int .i64 d], ⟨rfl, .inr ⟨W.heap.size + 1, 1, #[.int .i64 d], rfl, Nat.le_succ _, ?_, Nat.le_refl _, by unfold maxLen; omega, rfl, rfl⟩⟩, ?_⟩
    · rw [← hV]
      have := heap_alloc_new (W.alloc (.cells #[.int .i64 t.d.kind, .bool t.d.neg, .slice A0 n0 c0, .string t.d.name, .int .i64 t.d.exp, .int .i64 t.d.rel, .bool t.d.truth, .bool t.d.all, .slice A t.ks.length c] 29)) (.cells #[.int .i64 d] 3)
      rwa [World.size_alloc] at this
    · intro x hx; exact ⟨d, by simpa using hx⟩
  have HWX := Lib.hid hWx
  have HVX := Lib.hid hVx
  clear hWx hVx hbx
  go_enter Tryz.func38, Tryz.ntmps38
  go_wp2_with fail
  clear hW hV b0 b1 b2 b3 b4 b5 b6 b7 b8 a8
  go_loopw [6, 7, 18] (fun ov uv iv wr => ∃ k : Nat, k ≤ t.ks.length ∧ iv = .int .i64 k ∧ Hid (LstV w0 p W.heap.size wr ov (t :: listL (t.ks.take k)) ∧ IntRow W.heap.size wr uv (t :: listL (t.ks.take k)).length ∧ ov.ownBlock ≠ uv.ownBlock ∧ Ext W wr)) (fun _ _ iv _ => t.ks.length - (intOf iv).toNat)
  case atStart => exact ⟨0, Nat.zero_le _, rfl, ⟨by have h := HL.out; rw [hWs] at h ⊢; simpa [listL] using h, by have h := HU.out; rw [hWs] at h ⊢; simpa [listL] using h, by simp [Value.ownBlock], HVX.out⟩⟩
  case round =>
    obtain ⟨k, hk, rfl, ⟨hlv, hiv, hne, hxw⟩⟩ := hrel
    have HLV := Lib.hid hlv
    have HIV := Lib.hid hiv
    have HNE := Lib.hid hne
    have HXW := Lib.hid hxw
    have a8 : wr.cell? ⟨w.heap.size, 8, none⟩ = some (.slice A t.ks.length c) := (HBX.out.ext hxw (by omega)).2.2.2.2.2.2.2.2
    obtain ⟨g1, cap1, hov, -⟩ := hlv.pos (by simp)
    obtain ⟨g2, cap2, huv, -⟩ := hiv.pos (by simp)
    subst hov huv
    by_cases hlt : k < t.ks.length
    · obtain ⟨ad, B0, m0, d0, B1, m1, d1, hA, hadb, hnd, hkt⟩ := TrsAt.kid H4.out k hlt
      subst hA
      have hx0 : Ext w0 wr := HX0.out.trans (HWX.out.trans hxw)
      obtain ⟨e0, e1, e2, e3, e4, e5, e6, e7, e8⟩ := hnd.ext hx0 (by rw [block_of_add]; exact hadb)
      have hsz := HSZ.out k hlt
      have hwr := HXW.out.size
      have HC := Lib.hid (IH.out (t.ks[k]) _ wr (d + 1) (by omega) hkt hx0 (by omega))
      have HTK := Lib.hid (listL_take t.ks k hlt)
      have HLN : Hid ((t :: listL (t.ks.take k)).length + (t.ks[k]).list.length ≤ 1000000000) := by
        have h1 := trsSz_take t.ks k hlt
        have : (t :: listL (t.ks.take k)).length + (t.ks[k]).list.length ≤ 1000000000 := by rw [List.length_cons, listL_len, Tr.list_len]; omega
        exact this
      have HP : Hid (0 < (t.ks[k]).list.length) := by
        have : 0 < (t.ks[k]).list.length := by rw [Tr.list_len]; exact Tr.sz_pos _
        exact this
      clear hkt hnd hlv hiv hne hxw hadb hsz hx0
      go_wp2_with fail
      refine HC.out.mono ?_
      rintro e w2 ⟨v2, u2, rfl, l2, i2, ne2, x2⟩
      have hw2 := x2.size
      obtain ⟨v3, w3, hr3, l3, gr3, o3⟩ := run_append_trees (HLV.out.ext x2) l2 HP.out (by omega) HLN.out 27
      have hw3 := gr3.size
      obtain ⟨v4, w4, hr4, l4, gr4, o4⟩ := run_append_ints ((HIV.out.ext x2).kept gr3 (.inr (fun e => HNE.out e.symm))) (i2.kept gr3 (.inr (fun e => by
        cases hu : u2.ownBlock with
        | none => obtain ⟨g, cap, rfl, -⟩ := i2.pos HP.out; cases hu
        | some b =>
          have h1 := i2.lt b hu
          have h2 := (HLV.out.lt b (by rw [← e, hu])).2
          omega))) HP.out (by omega) HLN.out 87
      have hfin : LstV w0 p W.heap.size w4 v3 (t :: listL (t.ks.take (k + 1))) ∧ IntRow W.heap.size w4 v4 (t :: listL (t.ks.take (k + 1))).length ∧ v3.ownBlock ≠ v4.ownBlock ∧ Ext W w4 := by
        have hl3 : ∀ b, v3.ownBlock = some b → W.heap.size ≤ b ∧ b < w3.heap.size := l3.lt
        have hg2 := (HIV.out.lt g2 rfl)
        rw [HTK.out]
        refine ⟨?_, ?_, ?_, ?_⟩
        · have : LstV w0 p W.heap.size w4 v3 ((t :: listL (t.ks.take k)) ++ (t.ks[k]).list) := l3.kept gr4 (.inr (fun e => by
            rcases o3 with o3 | o3
            · exact HNE.out (by rw [← o3, e])
            · rw [o3] at e
              have e' : w2.heap.size = g2 := by simpa [Value.ownBlock] using e
              omega))
          simpa using this
        · have : IntRow W.heap.size w4 v4 ((t :: listL (t.ks.take k)).length + (t.ks[k]).list.length) := l4
          have e : (t :: (listL (t.ks.take k) ++ (t.ks[k]).list)).length = (t :: listL (t.ks.take k)).length + (t.ks[k]).list.length := by simp; omega
          rw [e]; exact this
        · intro e
          rcases o4 with o4 | o4
          · rcases o3 with o3 | o3
            · exact HNE.out (by rw [← o3, e, o4])
            · rw [o3, o4] at e
              have e' : w2.heap.size = g2 := by simpa [Value.ownBlock] using e
              omega
          · have := (hl3 w3.heap.size (by rw [e, o4])).2
            omega
        · exact ((HXW.out.trans x2).grown gr3 (fun b hb => (HLV.out.lt b hb).1)).grown gr4 (fun b hb => (HIV.out.lt b hb).1)
      have HFIN := Lib.hid hfin
      clear hfin l2 i2 ne2 x2 l3 gr3 o3 l4 gr4 o4 e0 e1 e2 e3 e4 e5 e6 e7 e8 a8 HC
      go_wp2_with (at_builtin
                   first
                   | refine wpList_append_run rfl (.tmp 32) (.tmp 33) _ _ rfl _ _ _ _ rfl rfl hr3 ?_
                   | refine wpList_append_run rfl (.tmp 35) (.tmp 36) _ _ rfl _ _ _ _ rfl rfl hr4 ?_)
      clear hr3 hr4
      go_roundw
      case rel => exact ⟨k + 1, by omega, by go_num, HFIN⟩
      case measure => simp [intOf]; omega
    · have hke : k = t.ks.length := by omega
      have htk : listL (t.ks.take k) = listL t.ks := by rw [hke, List.take_length]
      have hle : w.heap.size ≤ W.heap.size := by omega
      have HF : Hid (RetList w0 p (t :: listL t.ks) w (.returned (.tuple #[.slice (some ⟨g1, 0, none⟩) (t :: listL (t.ks.take k)).length cap1, .slice (some ⟨g2, 0, none⟩) (t :: listL (t.ks.take k)).length cap2])) wr) :=
        ⟨_, _, rfl, by have h := hlv.base_ hle; rw [htk] at h ⊢; exact h, by have h := hiv.base_ hle; rw [htk] at h ⊢; exact h, hne, HWX.out.trans hxw⟩
      clear hlv hiv hne hxw hke htk
      go_wp2_with fail
      go_ret2
      exact HF.out

theorem list_any {w : World} {p : Nat → Prop} (t : Tr) (v : Value) (h : TrV w p t v) (hd : t.sz ≤ 1000000) : Calls Tryz.prog 38 #[v, .int .i64 0] w (RetList w p t.list w) :=
  list_ih (t.sz + 1) t v w 0 (Nat.lt_succ_self _) h (Ext.refl w) (by omega)
end Go.Proofs.YtofbfplpbffpfaaGreat

/- Reference 34: Few; reference 40: named. -/
namespace Go.Proofs.YtofbfplpbffpfaaGreat
open Go.RowKit

/-- Short numbers and names. -/
def Nd.ok (d : Nd) : Bool := decide (d.ds.length ≤ 20) && decide (d.name.size ≤ 40)
def Tr.few (t : Tr) (n : Nat) : Bool := decide (0 ≤ t.room n 40) && t.list.all fun x => x.d.ok
theorem all_cut {α : Type} (l : List α) (f : α → Bool) (k : Nat) (hk : k < l.length) (h : f l[k] = false) : l.all f = false := List.all_eq_false.2 ⟨l[k], List.getElem_mem hk, by rw [h]; simp⟩
theorem all_take {α : Type} (l : List α) (f : α → Bool) (k : Nat) (hk : k < l.length) : (l.take (k + 1)).all f = ((l.take k).all f && f l[k]) := by rw [List.take_succ_eq_append_getElem hk, List.all_append]; simp

/-- A row of trees, its place not told. -/
theorem LstV.see {w W : World} {p : Nat → Prop} {base : Nat} {v : Value} {l : List Tr} (h : LstV w p base W v l) (hl : 0 < l.length) : ∃ ad cap, v = .slice (some ad) l.length cap ∧ l.length ≤ cap ∧ cap ≤ 9223372036854775807 ∧ ∀ W', Ext W W' → ∀ k (hk : k < l.length), ∃ A0 c0 A1 c1, NdAt W' (ad.add (k * 9)) l[k].d (.slice A0 l[k].d.ds.length c0) (.slice A1 l[k].ks.length c1) ∧ TrV w p l[k] (ndV l[k].d (.slice A0 l[k].d.ds.length c0) (.slice A1 l[k].ks.length c1)) := by
  obtain ⟨g, cap, rfl, h1, h2⟩ := h.pos hl
  refine ⟨⟨g, 0, none⟩, cap, rfl, h1, by unfold maxLen at h2; omega, fun W' hx k hk => ?_⟩
  obtain ⟨A0, n0, c0, A1, n1, c1, hn, ht⟩ := (h.ext hx).at_ k hk
  obtain ⟨B0, m0, d0, B1, d1, ev, hnat, -⟩ := ht.open_
  unfold ndV at ev
  simp only [Value.agg.injEq, Array.mk.injEq, List.cons.injEq, and_true, true_and] at ev
  obtain ⟨ev, ev2⟩ := ev
  rw [← ev] at hnat
  obtain ⟨A', c', en, -⟩ := hnat
  injection en with en1 en2 en3
  injection ev2 with ev1 ev2 ev3
  subst en2 ev2
  exact ⟨A0, c0, A1, c1, hn, ht⟩

set_option maxRecDepth 100000 in
set_option maxHeartbeats 2000000 in
theorem fewT_any {w : World} {p : Nat → Prop} (t : Tr) (v : Value) (h : TrV w p t v) (n : Nat) (hn : n ≤ 1000) : Calls Tryz.prog 23 #[v, .int .i64 n] w (RetB (t.few n) w) := by
  have HT := Lib.hid h
  obtain ⟨A0, n0, c0, A, c, rfl, -, hl1, hl2, h4⟩ := h.open_
  clear h h4
  unfold ndV
  unfold ndV at HT
  obtain ⟨W, hW⟩ : ∃ W, w.alloc (.cells #[.int .i64 t.d.kind, .bool t.d.neg, .slice A0 n0 c0, .string t.d.name, .int .i64 t.d.exp, .int .i64 t.d.rel, .bool t.d.truth, .bool t.d.all, .slice A t.ks.length c] 29) = W := ⟨_, rfl⟩
  have hWx : Ext w W := by rw [← hW]; exact (Ext.refl w).alloc _
  have hWs : W.heap.size = w.heap.size + 1 := by rw [← hW]; simp
  have hbx : Box9 W w.heap.size t.d (.slice A0 n0 c0) (.slice A t.ks.length c) := by rw [← hW]; exact Box9.new w t.d _ _ _
  obtain ⟨b0, b1, b2, b3, b4, b5, b6, b7, b8⟩ := id hbx
  have HBX := Lib.hid hbx
  have HWX := Lib.hid hWx
  have HRM := Lib.hid (room_any t _ W n 40 (HT.out.ext hWx) (by omega) (by omega) (by omega))
  clear hWx hbx
  by_cases hr : t.room n 40 < 0
  · have hd : decide (t.room n 40 < 0) = true := by simpa using hr
    have HF : Hid (t.few n = false) := by
      have : t.few n = false := by unfold Tr.few; simp; intro h; omega
      exact this
    clear hr
    go_enter Tryz.func23, Tryz.ntmps23
    go_wp2_with fail
    clear hW
    refine HRM.out.mono ?_
    rintro e w1 ⟨rfl, x1⟩
    have X1 := Lib.hid x1
    clear x1 b0 b1 b2 b3 b4 b5 b6 b7 b8
    generalize hrm : t.room n 40 = rm at *
    clear hrm
    go_wp2_with fail
    go_ret
    exact ⟨by rw [HF.out]; rfl, HWX.out.trans X1.out⟩
  · have hd : decide (t.room n 40 < 0) = false := by simpa using hr
    have hsz : t.sz ≤ n := t.room_le n 40 (by omega)
    have HF : Hid (t.few n = t.list.all fun x => x.d.ok) := by
      have : t.few n = t.list.all fun x => x.d.ok := by
        unfold Tr.few
        rw [show decide (0 ≤ t.room n 40) = true by simp; omega, Bool.true_and]
      exact this
    clear hr
    go_enter Tryz.func23, Tryz.ntmps23
    go_wp2_with fail
    clear hW
    refine HRM.out.mono ?_
    rintro e w1 ⟨rfl, x1⟩
    have X1 := Lib.hid x1
    clear b0 b1 b2 b3 b4 b5 b6 b7 b8
    obtain ⟨b0, b1, b2, b3, b4, b5, b6, b7, b8⟩ := HBX.out.ext x1 (by omega)
    have HLI := Lib.hid (list_any t _ (HT.out.ext (HWX.out.trans x1)) (by omega))
    have hlp : 0 < t.list.length := by rw [t.list_len]; exact t.sz_pos
    clear x1
    generalize hrm : t.room n 40 = rm at *
    clear hrm HRM
    generalize hls : t.list = ls at *
    have HLS := Lib.hid hls
    clear hls
    go_wp2_with fail
    clear hd
    refine HLI.out.mono ?_
    rintro e w2 ⟨v2, u2, rfl, l2, i2, -, x2⟩
    obtain ⟨ad, cap, rfl, hc1, hc2, hat⟩ := l2.see hlp
    obtain ⟨g', cap', rfl, -, -⟩ := i2.pos hlp
    have L2 := Lib.hid hat
    have X2 := Lib.hid x2
    clear b0 b1 b2 b3 b4 b5 b6 b7 b8 l2 i2 hat x2 HLI HBX HT
    go_wp2_with fail
    go_loopw [19] (fun iv wr => ∃ k : Nat, k ≤ ls.length ∧ iv = .int .i64 k ∧ Hid (((ls.take k).all fun x => x.d.ok) = true ∧ Ext w2 wr)) (fun iv _ => ls.length - (intOf iv).toNat)
    case atStart => exact ⟨0, Nat.zero_le _, rfl, ⟨by simp, Ext.refl w2⟩⟩
    case round =>
      obtain ⟨k, hk, rfl, ⟨hal, hx⟩⟩ := hrel
      have HA := Lib.hid hal
      have HX := Lib.hid hx
      by_cases hlt : k < ls.length
      · obtain ⟨A0, c0, A1, c1, ⟨e0, e1, e2, e3, e4, e5, e6, e7, e8⟩, ht⟩ := L2.out wr hx k hlt
        have HTK := Lib.hid (all_take ls (fun x => x.d.ok) k hlt)
        have HCUT := Lib.hid (all_cut ls (fun x => x.d.ok) k hlt)
        have HOK : Hid (ls[k].d.ok = (decide (ls[k].d.ds.length ≤ 20) && decide (ls[k].d.name.size ≤ 40))) := rfl
        clear ht hal hx e0 e1 e4 e5 e6 e7 e8
        generalize ls[k].d.ok = okk at *
        generalize ls[k].d.ds.length = n1 at *
        generalize ls[k].d.name = nm at *
        by_cases h20 : n1 ≤ 20
        · have hd20 : decide ((20 : Int) < (n1 : Int)) = false := by simp; omega
          by_cases h40 : nm.size ≤ 40
          · have hd40 : decide ((40 : Int) < (nm.size : Int)) = false := by simp; omega
            have HN : Hid (((ls.take (k + 1)).all fun x => x.d.ok) = true) := by
              have : ((ls.take (k + 1)).all fun x => x.d.ok) = true := by rw [HTK.out, HA.out, HOK.out]; simp [h20, h40]
              exact this
            go_wp2_with fail
            go_roundw
            case rel => exact ⟨k + 1, by omega, by go_num, ⟨HN.out, HX.out⟩⟩
            case measure => simp [intOf]; omega
          · have hd40 : decide ((40 : Int) < (nm.size : Int)) = true := by simp; omega
            have HN : Hid ((ls.all fun x => x.d.ok) = false) := by
              have : (ls.all fun x => x.d.ok) = false := HCUT.out (by rw [HOK.out]; simp [h40])
              exact this
            go_wp2_with fail
            go_ret
            exact ⟨by rw [HF.out, HN.out]; rfl, HWX.out.trans (X1.out.trans (X2.out.trans HX.out))⟩
        · have hd20 : decide ((20 : Int) < (n1 : Int)) = true := by simp; omega
          have HN : Hid ((ls.all fun x => x.d.ok) = false) := by
            have : (ls.all fun x => x.d.ok) = false := HCUT.out (by rw [HOK.out]; simp [h20])
            exact this
          go_wp2_with fail
          go_ret
          exact ⟨by rw [HF.out, HN.out]; rfl, HWX.out.trans (X1.out.trans (X2.out.trans HX.out))⟩
      · have HN : Hid ((ls.all fun x => x.d.ok) = true) := by
          have hke : k = ls.length := by omega
          rw [hke, List.take_length] at hal
          exact hal
        clear hal hx
        go_wp2_with fail
        go_ret
        exact ⟨by rw [HF.out, HN.out]; rfl, HWX.out.trans (X1.out.trans (X2.out.trans HX.out))⟩

/-- A name in the tree has a value. -/
def ndNamed (vals : List (ByteArray × Rat)) (d : Nd) : Bool := !(d.kind == 2 && decide (findI vals d.name < 0))
def Tr.named (t : Tr) (vals : List (ByteArray × Rat)) : Bool := t.list.all fun x => ndNamed vals x.d

set_option maxRecDepth 100000 in
set_option maxHeartbeats 2000000 in
theorem named_any {w : World} {p : Nat → Prop} {L : Nat} {s : Value} {vals : List (ByteArray × Rat)} (t : Tr) (v : Value) (h : TrV w p t v) (hvs : VsV w L s vals) (hsz : t.sz ≤ 1000000) : Calls Tryz.prog 37 #[v, s] w (RetB (t.named vals) w) := by
  have HT := Lib.hid h
  have HVS := Lib.hid hvs
  obtain ⟨As, cs, rfl, hs1, hs2, -⟩ := hvs
  obtain ⟨A0, n0, c0, A, c, rfl, -, hl1, hl2, h4⟩ := h.open_
  clear h h4
  unfold ndV
  unfold ndV at HT
  obtain ⟨W, hW⟩ : ∃ W, w.alloc (.cells #[.int .i64 t.d.kind, .bool t.d.neg, .slice A0 n0 c0, .string t.d.name, .int .i64 t.d.exp, .int .i64 t.d.rel, .bool t.d.truth, .bool t.d.all, .slice A t.ks.length c] 29) = W := ⟨_, rfl⟩
  have hWx : Ext w W := by rw [← hW]; exact (Ext.refl w).alloc _
  have hbx : Box9 W w.heap.size t.d (.slice A0 n0 c0) (.slice A t.ks.length c) := by rw [← hW]; exact Box9.new w t.d _ _ _
  obtain ⟨b0, b1, b2, b3, b4, b5, b6, b7, b8⟩ := hbx
  have HWX := Lib.hid hWx
  have HLI := Lib.hid (list_any t _ (HT.out.ext hWx) (by omega))
  have hlp : 0 < t.list.length := by rw [t.list_len]; exact t.sz_pos
  have HF : Hid (t.named vals = t.list.all fun x => ndNamed vals x.d) := rfl
  clear hWx
  generalize hls : t.list = ls at *
  have HLS := Lib.hid hls
  clear hls
  go_enter Tryz.func37, Tryz.ntmps37
  go_wp2_with fail
  clear hW
  refine HLI.out.mono ?_
  rintro e w2 ⟨v2, u2, rfl, l2, i2, -, x2⟩
  obtain ⟨ad, cap, rfl, hc1, hc2, hat⟩ := l2.see hlp
  obtain ⟨g', cap', rfl, -, -⟩ := i2.pos hlp
  have L2 := Lib.hid hat
  have X2 := Lib.hid x2
  clear b0 b1 b2 b3 b4 b5 b6 b7 b8 l2 i2 hat x2 HLI HT
  go_wp2_with fail
  go_loopw [15] (fun iv wr => ∃ k : Nat, k ≤ ls.length ∧ iv = .int .i64 k ∧ Hid (((ls.take k).all fun x => ndNamed vals x.d) = true ∧ Ext w2 wr)) (fun iv _ => ls.length - (intOf iv).toNat)
  case atStart => exact ⟨0, Nat.zero_le _, rfl, ⟨by simp, Ext.refl w2⟩⟩
  case round =>
    obtain ⟨k, hk, rfl, ⟨hal, hx⟩⟩ := hrel
    have HA := Lib.hid hal
    have HX := Lib.hid hx
    by_cases hlt : k < ls.length
    · obtain ⟨A0, c0, A1, c1, ⟨e0, e1, e2, e3, e4, e5, e6, e7, e8⟩, ht⟩ := L2.out wr hx k hlt
      have HTK := Lib.hid (all_take ls (fun x => ndNamed vals x.d) k hlt)
      have HCUT := Lib.hid (all_cut ls (fun x => ndNamed vals x.d) k hlt)
      have HOK : Hid (ndNamed vals ls[k].d = !(ls[k].d.kind == 2 && decide (findI vals ls[k].d.name < 0))) := rfl
      clear ht hal hx e1 e2 e4 e5 e6 e7 e8
      generalize ndNamed vals ls[k].d = okk at *
      generalize ls[k].d.kind = kd at *
      generalize ls[k].d.name = nm at *
      have HFI := Lib.hid (find_any (HVS.out.ext (HWX.out.trans (X2.out.trans HX.out))) nm)
      have hfb := findI_bd vals nm
      by_cases h2 : kd = 2
      · have hd2 : (kd == 2) = true := by simpa using h2
        by_cases h0 : findI vals nm < 0
        · have hd0 : decide (findI vals nm < 0) = true := by simpa using h0
          have HN : Hid ((ls.all fun x => ndNamed vals x.d) = false) := by
            have : (ls.all fun x => ndNamed vals x.d) = false := HCUT.out (by rw [HOK.out, hd2, hd0]; rfl)
            exact this
          clear h2 h0
          go_wp2_with fail
          refine HFI.out.mono ?_
          rintro e w3 ⟨rfl, x3⟩
          have X3 := Lib.hid x3
          clear x3
          generalize findI vals nm = fi at *
          go_wp2_with fail
          go_ret
          exact ⟨by rw [HF.out, HN.out]; rfl, HWX.out.trans (X2.out.trans (HX.out.trans X3.out))⟩
        · have hd0 : decide (findI vals nm < 0) = false := by simpa using h0
          have HN : Hid (((ls.take (k + 1)).all fun x => ndNamed vals x.d) = true) := by
            have : ((ls.take (k + 1)).all fun x => ndNamed vals x.d) = true := by rw [HTK.out, HA.out, HOK.out, hd2, hd0]; rfl
            exact this
          clear h2 h0
          go_wp2_with fail
          refine HFI.out.mono ?_
          rintro e w3 ⟨rfl, x3⟩
          have X3 := Lib.hid x3
          clear x3
          generalize findI vals nm = fi at *
          go_wp2_with fail
          go_roundw
          case rel => exact ⟨k + 1, by omega, by go_num, ⟨HN.out, HX.out.trans X3.out⟩⟩
          case measure => simp [intOf]; omega
      · have hd2 : (kd == 2) = false := by simpa using h2
        have HN : Hid (((ls.take (k + 1)).all fun x => ndNamed vals x.d) = true) := by
          have : ((ls.take (k + 1)).all fun x => ndNamed vals x.d) = true := by rw [HTK.out, HA.out, HOK.out, hd2]; rfl
          exact this
        clear h2
        go_wp2_with fail
        go_roundw
        case rel => exact ⟨k + 1, by omega, by go_num, ⟨HN.out, HX.out⟩⟩
        case measure => simp [intOf]; omega
    · have HN : Hid ((ls.all fun x => ndNamed vals x.d) = true) := by
        have hke : k = ls.length := by omega
        rw [hke, List.take_length] at hal
        exact hal
      clear hal hx
      go_wp2_with fail
      go_ret
      exact ⟨by rw [HF.out, HN.out]; rfl, HWX.out.trans (X2.out.trans HX.out)⟩
end Go.Proofs.YtofbfplpbffpfaaGreat

/- Reference 40: Term. -/
namespace Go.Proofs.YtofbfplpbffpfaaGreat
open Go.RowKit

/-- Value and error, by the reference. -/
def refT (m : Tm) (t : Tr) (vals : List (ByteArray × Rat)) : Rat × Int :=
  if t.named vals = false then (0, 7) else if m.large then (0, 8) else (m.val (vget vals), 0)

set_option maxRecDepth 100000 in
set_option maxHeartbeats 2000000 in
theorem refTerm_any {w : World} {p : Nat → Prop} {L : Nat} {s : Value} {vals : List (ByteArray × Rat)} (hL1 : 1 ≤ L) (hL : L ≤ 1000000) (m : Tm) (t : Tr) (v : Value) (hm : IsTm L m t) (h : TrV w p t v) (hvs : VsV w L s vals) (hsz : t.sz ≤ 1000000)
    (hfine : t.named vals = true → m.large = false → m.covered (vget vals) ∧ m.bt L ≤ 1000000000000) :
    Calls Tryz.prog 16 #[v, s] w (RetRE 1000000000000 (refT m t vals) w) := by
  have HT := Lib.hid h
  have HVS := Lib.hid hvs
  have HFINE := Lib.hid hfine
  have HM := Lib.hid hm
  obtain ⟨As, cs, rfl, hs1, hs2, -⟩ := hvs
  obtain ⟨A0, n0, c0, A, c, rfl, -, hl1, hl2, h4⟩ := h.open_
  clear h h4 hfine hm
  unfold ndV
  unfold ndV at HT
  obtain ⟨W, hW⟩ : ∃ W, (w.alloc (.cells #[.int .i64 t.d.kind, .bool t.d.neg, .slice A0 n0 c0, .string t.d.name, .int .i64 t.d.exp, .int .i64 t.d.rel, .bool t.d.truth, .bool t.d.all, .slice A t.ks.length c] 29)).alloc (.cells #[.bool false, .slice none 0 0, .slice none 0 0] 49) = W := ⟨_, rfl⟩
  have hWx : Ext w W := by rw [← hW]; exact ((Ext.refl w).alloc _).alloc _
  have hWs : W.heap.size = w.heap.size + 1 + 1 := by rw [← hW]; simp
  have hbx : Box9 W w.heap.size t.d (.slice A0 n0 c0) (.slice A t.ks.length c) := by rw [← hW]; exact (Box9.new w t.d _ _ _).ext ((Ext.refl _).alloc _) (by simp)
  have hZ : Zero3 W (w.heap.size + 1) := by
    rw [← hW]
    have := zero3_new (w.alloc (.cells #[.int .i64 t.d.kind, .bool t.d.neg, .slice A0 n0 c0, .string t.d.name, .int .i64 t.d.exp, .int .i64 t.d.rel, .bool t.d.truth, .bool t.d.all, .slice A t.ks.length c] 29)) 49
    rwa [World.size_alloc] at this
  obtain ⟨b0, b1, b2, b3, b4, b5, b6, b7, b8⟩ := id hbx
  have HBX := Lib.hid hbx
  have HWX := Lib.hid hWx
  have HZ := Lib.hid hZ
  have HNM := Lib.hid (named_any t _ (HT.out.ext hWx) (HVS.out.ext hWx) hsz)
  clear hWx hbx hZ
  go_enter Tryz.func16, Tryz.ntmps16
  go_wp2_with fail
  clear hW b0 b1 b2 b3 b4 b5 b6 b7 b8
  refine HNM.out.mono ?_
  rintro e w4 ⟨rfl, x4⟩
  have hZ4 := HZ.out.ext x4 (by omega)
  have hx4 := HWX.out.trans x4
  have hs4 := x4.size
  by_cases hcv : t.named vals = false
  · rw [hcv]
    have HF := Lib.hid (close_re (n := 7) hx4 (Nat.le_succ _) hZ4 (RatR.zero w4 1000000000000))
    have HR : Hid (refT m t vals = (0, 7)) := by
      have : refT m t vals = (0, 7) := if_pos hcv
      exact this
    obtain ⟨⟨r0, r1, r2⟩, f0, f1, f2⟩ := hZ4
    clear hcv hx4 x4
    go_wp2_with fail
    refine bodyPost_ret (v := .tuple #[.agg #[.bool false, .slice none 0 0, .slice none 0 0], .int .i64 7]) (by simp [results, Tryz.results16, go_sem, r0, r1, r2]) rfl ?_
    rw [HR.out]
    exact HF.out
  · have hcv' : t.named vals = true := by simpa using hcv
    rw [hcv']
    have HCV := Lib.hid hcv'
    have HX4 := Lib.hid hx4
    have HZ4 := Lib.hid hZ4
    obtain ⟨b0, b1, b2, b3, b4, b5, b6, b7, b8⟩ := HBX.out.ext x4 (by omega)
    have HEX := Lib.hid (exceeds_any hL m t _ w4 HM.out (HT.out.ext hx4))
    have HB4 := Lib.hid (HBX.out.ext x4 (by omega))
    clear hcv hcv' hx4 hZ4 x4
    go_wp2_with fail
    clear b0 b1 b2 b3 b4 b5 b6 b7 b8
    refine HEX.out.mono ?_
    rintro e w5 ⟨rfl, x5⟩
    have hZ5 := HZ4.out.ext x5 (by omega)
    have hx5 := HX4.out.trans x5
    have hs5 := x5.size
    by_cases hl : m.large = true
    · rw [hl]
      have HF := Lib.hid (close_re (n := 8) hx5 (Nat.le_succ _) hZ5 (RatR.zero w5 1000000000000))
      have HR : Hid (refT m t vals = (0, 8)) := by
        have : refT m t vals = (0, 8) := by unfold refT; rw [if_neg (by rw [HCV.out]; simp), if_pos hl]
        exact this
      obtain ⟨⟨r0, r1, r2⟩, f0, f1, f2⟩ := hZ5
      clear hl hx5 x5
      go_wp2_with fail
      refine bodyPost_ret (v := .tuple #[.agg #[.bool false, .slice none 0 0, .slice none 0 0], .int .i64 8]) (by simp [results, Tryz.results16, go_sem, r0, r1, r2]) rfl ?_
      rw [HR.out]
      exact HF.out
    · have hl' : m.large = false := by simpa using hl
      rw [hl']
      have HR : Hid (refT m t vals = (m.val (vget vals), 0)) := by
        have : refT m t vals = (m.val (vget vals), 0) := by unfold refT; rw [if_neg (by rw [HCV.out]; simp), if_neg (by rw [hl']; simp)]
        exact this
      obtain ⟨hc1, hc2⟩ := HFINE.out HCV.out hl'
      have HV := Lib.hid (value_ih (p := p) hL1 m hc1 hc2 t _ w5 HM.out (HT.out.ext hx5) (HVS.out.ext hx5))
      have HX5 := Lib.hid hx5
      have HZ5 := Lib.hid hZ5
      obtain ⟨b0, b1, b2, b3, b4, b5, b6, b7, b8⟩ := HB4.out.ext x5 (by omega)
      clear hl hl' x5 hx5 hZ5 hc1
      go_wp2_with fail
      clear b0 b1 b2 b3 b4 b5 b6 b7 b8
      refine HV.out.mono ?_
      rintro e w6 ⟨x6, rfl, m6, y6⟩
      obtain ⟨b3, A3', n3, c3', B3, k3, d3, rfl⟩ := m6.unpack
      have hZ6 := HZ5.out.ext y6 (by omega)
      have HF := Lib.hid (close_re (n := 0) (HX5.out.trans y6) (Nat.le_succ _) hZ6 (m6.mono hc2))
      obtain ⟨⟨r0, r1, r2⟩, f0, f1, f2⟩ := hZ6
      clear y6 m6 HV hc2
      go_wp2_with fail
      refine bodyPost_ret (v := .tuple #[.agg #[.bool b3, .slice A3' n3 c3', .slice B3 k3 d3], .int .i64 0]) (by simp [results, Tryz.results16, go_sem, r0, r1, r2]) rfl ?_
      rw [HR.out]
      exact HF.out
end Go.Proofs.YtofbfplpbffpfaaGreat

/- The plain law of EvaluateTerms: a tree that passes Is is the tree of a term; names; sizes. -/
namespace Go.Proofs.YtofbfplpbffpfaaGreat
open Go.RowKit

theorem RatR.mono_ {w : World} {x : Value} {q : Rat} {L M : Nat} (h : RatR w x q L) (hl : L ≤ M) : RatR w x q M := h.mono hl
theorem VsV.mono {w : World} {L M : Nat} {v : Value} {l : List (ByteArray × Rat)} (h : VsV w L v l) (hl : L ≤ M) : VsV w M v l := by
  obtain ⟨A, c, e, h1, h2, h3⟩ := h
  refine ⟨A, c, e, h1, h2, fun j hj => ?_⟩
  obtain ⟨ad, b, A1, n1, c1, A2, n2, c2, e1, h4, h5, h6⟩ := h3 j hj
  exact ⟨ad, b, A1, n1, c1, A2, n2, c2, e1, h4, h5, h6.mono hl⟩
theorem list_kid {t x y : Tr} (h : x ∈ t.ks) (hy : y ∈ x.list) : y ∈ t.list := by
  obtain ⟨d, ks⟩ := t
  simp only [Tr.ks] at h
  simp only [Tr.list, List.mem_cons]
  refine .inr ?_
  clear d
  induction ks with
  | nil => simp at h
  | cons z r ih =>
    simp only [listL, List.mem_append]
    rcases List.mem_cons.1 h with rfl | h
    · exact .inl hy
    · exact .inr (ih h)
theorem self_list (t : Tr) : t ∈ t.list := by cases t; simp [Tr.list]
theorem isL_mem {l : List Tr} {b : Bool} (h : isL l b = true) : ∀ x ∈ l, x.is b = true := by
  induction l with
  | nil => simp
  | cons t r ih =>
    simp only [isL, Bool.and_eq_true] at h
    intro x hx
    rcases List.mem_cons.1 hx with rfl | hx
    · exact h.1
    · exact ih h.2 x hx
theorem len0 {α : Type} {l : List α} (h : l.length = 0) : l = [] := List.eq_nil_of_length_eq_zero h
theorem len1 {α : Type} {l : List α} (h : l.length = 1) : ∃ x, l = [x] := by
  cases l with
  | nil => simp at h
  | cons x r => exact ⟨x, by rw [len0 (l := r) (by simpa using h)]⟩
theorem len2 {α : Type} {l : List α} (h : l.length = 2) : ∃ x y, l = [x, y] := by
  cases l with
  | nil => simp at h
  | cons x r =>
    obtain ⟨y, rfl⟩ := len1 (l := r) (by simpa using h)
    exact ⟨x, y, rfl⟩
theorem Tr.is_open {t : Tr} {b : Bool} (h : t.is b = true) : kidN t.d.kind = t.ks.length ∧ termK t.d.kind = b ∧ t.d.inRange = true ∧ ∀ x ∈ t.ks, x.is (kidT t.d.kind) = true := by
  obtain ⟨d, ks⟩ := t
  simp only [Tr.is, Bool.and_eq_true, beq_iff_eq] at h
  exact ⟨h.1.1.1, h.1.1.2, h.1.2, isL_mem h.2⟩
theorem Tr.sz_ks (t : Tr) : t.sz = trsSz t.ks + 1 := by cases t; rfl

theorem is_tm_ih (L n : Nat) : ∀ t : Tr, t.sz < n → t.is true = true → (∀ x ∈ t.list, x.d.ds.length ≤ L) → ∃ m, IsTm L m t ∧ m.sz = t.sz := by
  induction n with
  | zero => intro t h; omega
  | succ n ih =>
    intro t hn h hl
    obtain ⟨h1, h2, h3, h4⟩ := Tr.is_open h
    have hs := t.sz_ks
    unfold termK at h2
    simp only [Bool.and_eq_true, decide_eq_true_eq] at h2
    have hk : t.d.kind = 1 ∨ t.d.kind = 2 ∨ t.d.kind = 3 ∨ t.d.kind = 4 ∨ t.d.kind = 5 ∨ t.d.kind = 6 ∨ t.d.kind = 7 := by omega
    have hself := hl t (self_list t)
    have two : t.ks.length = 2 → (∀ x ∈ t.ks, x.is true = true) → ∃ x y a b, t.ks = [x, y] ∧ IsTm L a x ∧ IsTm L b y ∧ a.sz + b.sz + 1 = t.sz := by
      intro hlen hall
      obtain ⟨x, y, hxy⟩ := len2 hlen
      rw [hxy] at hs hall
      simp only [trsSz] at hs
      obtain ⟨a, ha, ha2⟩ := ih x (by omega) (hall x (by simp)) (fun z hz => hl z (list_kid (by rw [hxy]; simp) hz))
      obtain ⟨b, hb, hb2⟩ := ih y (by omega) (hall y (by simp)) (fun z hz => hl z (list_kid (by rw [hxy]; simp) hz))
      exact ⟨x, y, a, b, hxy, ha, hb, by omega⟩
    have one : t.ks.length = 1 → (∀ x ∈ t.ks, x.is true = true) → ∃ x a, t.ks = [x] ∧ IsTm L a x ∧ a.sz + 1 = t.sz := by
      intro hlen hall
      obtain ⟨x, hx⟩ := len1 hlen
      rw [hx] at hs hall
      simp only [trsSz] at hs
      obtain ⟨a, ha, ha2⟩ := ih x (by omega) (hall x (by simp)) (fun z hz => hl z (list_kid (by rw [hx]; simp) hz))
      exact ⟨x, a, hx, ha, by omega⟩
    have zero : t.ks.length = 0 → t.ks = [] ∧ t.sz = 1 := by
      intro hlen
      have := len0 hlen
      rw [this] at hs
      exact ⟨this, by simpa [trsSz] using hs⟩
    rcases hk with hk | hk | hk | hk | hk | hk | hk
    · rw [hk] at h1 h4
      obtain ⟨hz, hz2⟩ := zero (by simp [kidN] at h1; omega)
      exact ⟨.num (sgn t.d.neg (val t.d.ds)), ⟨hk, hz, rfl, hself⟩, by rw [hz2]; rfl⟩
    · rw [hk] at h1 h4
      obtain ⟨hz, hz2⟩ := zero (by simp [kidN] at h1; omega)
      exact ⟨.name t.d.name, ⟨hk, hz, rfl⟩, by rw [hz2]; rfl⟩
    · rw [hk] at h1 h4
      obtain ⟨x, y, a, b, e, ha, hb, hsz⟩ := two (by simp [kidN] at h1; omega) (by simpa [kidT] using h4)
      exact ⟨.add a b, ⟨hk, x, y, e, ha, hb⟩, hsz⟩
    · rw [hk] at h1 h4
      obtain ⟨x, y, a, b, e, ha, hb, hsz⟩ := two (by simp [kidN] at h1; omega) (by simpa [kidT] using h4)
      exact ⟨.sub a b, ⟨hk, x, y, e, ha, hb⟩, hsz⟩
    · rw [hk] at h1 h4
      obtain ⟨x, y, a, b, e, ha, hb, hsz⟩ := two (by simp [kidN] at h1; omega) (by simpa [kidT] using h4)
      exact ⟨.mul a b, ⟨hk, x, y, e, ha, hb⟩, hsz⟩
    · rw [hk] at h1 h4
      obtain ⟨x, a, e, ha, hsz⟩ := one (by simp [kidN] at h1; omega) (by simpa [kidT] using h4)
      exact ⟨.neg a, ⟨hk, x, e, ha⟩, hsz⟩
    · have hr : 0 ≤ t.d.exp := by unfold Nd.inRange at h3; rw [if_pos hk] at h3; simpa using h3
      rw [hk] at h1 h4
      obtain ⟨x, a, e, ha, hsz⟩ := one (by simp [kidN] at h1; omega) (by simpa [kidT] using h4)
      exact ⟨.pow a t.d.exp, ⟨hk, rfl, hr, x, e, ha⟩, hsz⟩
theorem is_tm {L : Nat} (t : Tr) (h : t.is true = true) (hl : ∀ x ∈ t.list, x.d.ds.length ≤ L) : ∃ m, IsTm L m t ∧ m.sz = t.sz := is_tm_ih L (t.sz + 1) t (Nat.lt_succ_self _) h hl

/-- The names of a term. -/
def Tm.nms : Tm → List ByteArray
  | .num _ => []
  | .name s => [s]
  | .add a b => a.nms ++ b.nms
  | .sub a b => a.nms ++ b.nms
  | .mul a b => a.nms ++ b.nms
  | .neg a => a.nms
  | .pow a _ => a.nms
theorem coverB_append (g : ByteArray → Option Rat) (a b : List ByteArray) : coverB g (a ++ b) = (coverB g a && coverB g b) := by unfold coverB; rw [List.all_append]
theorem Tm.covered_nms (g : ByteArray → Option Rat) (m : Tm) : coverB g m.nms = true ↔ m.covered g := by
  induction m with
  | num z => simp [Tm.nms, Tm.covered, coverB]
  | name s => simp [Tm.nms, Tm.covered, coverB]
  | add a b iha ihb => simp only [Tm.nms, Tm.covered, coverB_append, Bool.and_eq_true, iha, ihb]
  | sub a b iha ihb => simp only [Tm.nms, Tm.covered, coverB_append, Bool.and_eq_true, iha, ihb]
  | mul a b iha ihb => simp only [Tm.nms, Tm.covered, coverB_append, Bool.and_eq_true, iha, ihb]
  | neg a iha => exact iha
  | pow a e iha => exact iha
theorem has_mem (l : List ByteArray) (s : ByteArray) (h : has l s = true) : s ∈ l := by
  unfold has at h
  simpa using h
/-- A name is put behind, if it is not there yet: what all names ask stays asked. -/
theorem freeStep_cover (g : ByteArray → Option Rat) (a : ByteArray → Int) (s : ByteArray) (ha : a s = 0) (l : List ByteArray) : coverB g (freeStep a s l) = (coverB g l && (g s).isSome) := by
  unfold freeStep
  by_cases h : has l s = false
  · rw [if_pos ⟨ha, h⟩, coverB_append]; simp [coverB]
  · rw [if_neg (fun e => h e.2)]
    have hm := has_mem l s (by simpa using h)
    cases hg : (g s).isSome with
    | true => simp
    | false =>
      have : coverB g l = false := List.all_eq_false.2 ⟨s, hm, by rw [hg]; simp⟩
      simp [this]
theorem Tm.fold_cover (g : ByteArray → Option Rat) (a : ByteArray → Int) (ha : ∀ s, a s = 0) (m : Tm) : ∀ l, coverB g (m.fold (freeStep a) l) = (coverB g l && coverB g m.nms) := by
  induction m with
  | num z => intro l; simp [Tm.fold, Tm.nms, coverB]
  | name s => intro l; rw [Tm.fold, freeStep_cover g a s (ha s)]; simp [Tm.nms, coverB]
  | add x y ihx ihy => intro l; rw [Tm.fold, ihy, ihx, Tm.nms, coverB_append, Bool.and_assoc]
  | sub x y ihx ihy => intro l; rw [Tm.fold, ihy, ihx, Tm.nms, coverB_append, Bool.and_assoc]
  | mul x y ihx ihy => intro l; rw [Tm.fold, ihy, ihx, Tm.nms, coverB_append, Bool.and_assoc]
  | neg x ihx => intro l; rw [Tm.fold, ihx, Tm.nms]
  | pow x e ihx => intro l; rw [Tm.fold, ihx, Tm.nms]
theorem Tm.free_cover (g : ByteArray → Option Rat) (m : Tm) : coverB g m.free = coverB g m.nms := by
  unfold Tm.free
  rw [Tm.fold_cover g _ (fun _ => rfl)]
  simp [coverB]

theorem vget_findI (l : List (ByteArray × Rat)) (s : ByteArray) : (vget l s).isSome = !decide (findI l s < 0) := by
  induction l with
  | nil => simp [vget, findI]
  | cons x r ih =>
    obtain ⟨k, q⟩ := x
    have hb := findI_bd r s
    unfold vget findI
    by_cases h : s = k
    · simp [h]
    · rw [if_neg h, if_neg h, ih]
      by_cases h1 : findI r s = -1
      · simp [h1]
      · rw [if_neg h1]
        have h2 : ¬ findI r s < 0 := by omega
        have h3 : ¬ findI r s + 1 < 0 := by omega
        simp [h2, h3]
theorem Tr.list_ks (t : Tr) : t.list = t :: listL t.ks := by cases t; rfl
/-- The reference's names of the tree of a term. -/
theorem named_tm (L : Nat) (vals : List (ByteArray × Rat)) (m : Tm) : ∀ t, IsTm L m t → t.named vals = coverB (vget vals) m.nms := by
  have key : ∀ t : Tr, t.named vals = (ndNamed vals t.d && (listL t.ks).all fun x => ndNamed vals x.d) := by
    intro t; unfold Tr.named; rw [Tr.list_ks, List.all_cons]
  have other : ∀ d : Nd, d.kind ≠ 2 → ndNamed vals d = true := by
    intro d h; unfold ndNamed; simp [h]
  have two : ∀ (t x y : Tr) (a b : Tm), t.d.kind ≠ 2 → t.ks = [x, y] → x.named vals = coverB (vget vals) a.nms → y.named vals = coverB (vget vals) b.nms → t.named vals = coverB (vget vals) (a.nms ++ b.nms) := by
    intro t x y a b hk e h1 h2
    rw [key, other _ hk, Bool.true_and, e, coverB_append, ← h1, ← h2]
    simp [listL, Tr.named]
  have one : ∀ (t x : Tr) (a : Tm), t.d.kind ≠ 2 → t.ks = [x] → x.named vals = coverB (vget vals) a.nms → t.named vals = coverB (vget vals) a.nms := by
    intro t x a hk e h1
    rw [key, other _ hk, Bool.true_and, e, ← h1]
    simp [listL, Tr.named]
  induction m with
  | num z =>
    rintro t ⟨hk, hz, -⟩
    rw [key, other _ (by omega), hz]; simp [listL, Tm.nms, coverB]
  | name s =>
    rintro t ⟨hk, hz, rfl⟩
    rw [key, hz]
    simp only [listL, List.all_nil, Bool.and_true, Tm.nms, coverB, List.all_cons]
    rw [vget_findI]; unfold ndNamed; simp [hk]
  | add a b iha ihb => rintro t ⟨hk, x, y, e, hx, hy⟩; exact two t x y a b (by omega) e (iha x hx) (ihb y hy)
  | sub a b iha ihb => rintro t ⟨hk, x, y, e, hx, hy⟩; exact two t x y a b (by omega) e (iha x hx) (ihb y hy)
  | mul a b iha ihb => rintro t ⟨hk, x, y, e, hx, hy⟩; exact two t x y a b (by omega) e (iha x hx) (ihb y hy)
  | neg a iha => rintro t ⟨hk, x, e, hx⟩; exact one t x a (by omega) e (iha x hx)
  | pow a n iha => rintro t ⟨hk, -, -, x, e, hx⟩; exact one t x a (by omega) e (iha x hx)

theorem refT_evalT {L : Nat} {m : Tm} {t : Tr} (h : IsTm L m t) (vals : List (ByteArray × Rat)) : refT m t vals = evalT m vals := by
  unfold refT evalT
  rw [named_tm L vals m t h, Tm.free_cover]

theorem capI_le {n : Int} (h : capI n ≤ 320) : n ≤ 320 ∧ capI n = n := by unfold capI at *; split at h <;> rename_i hh <;> simp [hh] <;> omega
/-- How long a value is, where the weight is small. -/
theorem Tm.bt_le (L : Nat) (m : Tm) (h : m.wt ≤ 320) : (m.bt L : Int) ≤ (L + 1) * (m.sz * m.wt) := by
  have mono : ∀ (a b c d : Int), 0 ≤ a → a ≤ c → 0 ≤ b → b ≤ d → a * b ≤ c * d := fun a b c d h1 h2 h3 h4 => Int.mul_le_mul h2 h4 h3 (by omega)
  have pos : ∀ m : Tm, 1 ≤ (m.sz : Int) := by intro m; cases m <;> simp only [Tm.sz] <;> omega
  have addc : ∀ a b : Tm, capI (maxI a.wt b.wt + 1) ≤ 320 → (a.wt ≤ 320 → (a.bt L : Int) ≤ (L + 1) * (a.sz * a.wt)) → (b.wt ≤ 320 → (b.bt L : Int) ≤ (L + 1) * (b.sz * b.wt)) → ((a.bt L + b.bt L + 1 : Nat) : Int) ≤ (L + 1) * ((a.sz + b.sz + 1 : Nat) * capI (maxI a.wt b.wt + 1)) := by
    intro a b h iha ihb
    obtain ⟨h1, h2⟩ := capI_le h
    rw [h2]
    have hm : a.wt ≤ maxI a.wt b.wt ∧ b.wt ≤ maxI a.wt b.wt := by unfold maxI; split <;> omega
    have ha := iha (by omega)
    have hb := ihb (by omega)
    have wa := a.wt_bd
    have wb := b.wt_bd
    have e1 : (a.sz : Int) * a.wt ≤ a.sz * (maxI a.wt b.wt + 1) := Int.mul_le_mul_of_nonneg_left (by omega) (by omega)
    have e2 : (b.sz : Int) * b.wt ≤ b.sz * (maxI a.wt b.wt + 1) := Int.mul_le_mul_of_nonneg_left (by omega) (by omega)
    have e3 : ((a.sz + b.sz + 1 : Nat) : Int) * (maxI a.wt b.wt + 1) = a.sz * (maxI a.wt b.wt + 1) + b.sz * (maxI a.wt b.wt + 1) + (maxI a.wt b.wt + 1) := by
      rw [Int.natCast_add, Int.natCast_add, Int.add_mul, Int.add_mul]; simp
    rw [e3]
    have e4 : ((L : Int) + 1) * (a.sz * a.wt) + (L + 1) * (b.sz * b.wt) + (L + 1) ≤ (L + 1) * (a.sz * (maxI a.wt b.wt + 1) + b.sz * (maxI a.wt b.wt + 1) + (maxI a.wt b.wt + 1)) := by
      have : ((L : Int) + 1) * (a.sz * a.wt) + (L + 1) * (b.sz * b.wt) + (L + 1) = (L + 1) * (a.sz * a.wt + b.sz * b.wt + 1) := by rw [Int.mul_add, Int.mul_add, Int.mul_one]
      rw [this]
      exact Int.mul_le_mul_of_nonneg_left (by omega) (by omega)
    simp only [Int.natCast_add, Int.natCast_one]
    omega
  induction m with
  | num z =>
    have hw := (Tm.num z).wt_bd
    simp only [Tm.bt, Tm.sz]
    have : ((L : Int) + 1) * 1 ≤ (L + 1) * ((1 : Nat) * (Tm.num z).wt) := Int.mul_le_mul_of_nonneg_left (by simp; omega) (by omega)
    omega
  | name s => simp only [Tm.bt, Tm.sz, Tm.wt]; simp; omega
  | add a b iha ihb => exact addc a b h iha ihb
  | sub a b iha ihb => exact addc a b h iha ihb
  | mul a b iha ihb =>
    simp only [Tm.wt] at h ⊢
    obtain ⟨h1, h2⟩ := capI_le h
    rw [h2]
    have wa := a.wt_bd
    have wb := b.wt_bd
    have ha := iha (by omega)
    have hb := ihb (by omega)
    simp only [Tm.bt, Tm.sz]
    have e1 : (a.sz : Int) * a.wt ≤ a.sz * (a.wt + b.wt) := Int.mul_le_mul_of_nonneg_left (by omega) (by omega)
    have e2 : (b.sz : Int) * b.wt ≤ b.sz * (a.wt + b.wt) := Int.mul_le_mul_of_nonneg_left (by omega) (by omega)
    have e3 : ((a.sz + b.sz + 1 : Nat) : Int) * (a.wt + b.wt) = a.sz * (a.wt + b.wt) + b.sz * (a.wt + b.wt) + (a.wt + b.wt) := by
      rw [Int.natCast_add, Int.natCast_add, Int.add_mul, Int.add_mul]; simp
    rw [e3]
    have e4 : ((L : Int) + 1) * (a.sz * a.wt) + (L + 1) * (b.sz * b.wt) ≤ (L + 1) * (a.sz * (a.wt + b.wt) + b.sz * (a.wt + b.wt) + (a.wt + b.wt)) := by
      rw [← Int.mul_add]
      exact Int.mul_le_mul_of_nonneg_left (by omega) (by omega)
    simp only [Int.natCast_add]
    omega
  | neg a iha =>
    have ha := iha h
    have wa := a.wt_bd
    simp only [Tm.bt, Tm.sz, Tm.wt]
    have e1 : (a.sz : Int) * a.wt ≤ ((a.sz + 1 : Nat) : Int) * a.wt := Int.mul_le_mul_of_nonneg_right (by omega) (by omega)
    have e2 : ((L : Int) + 1) * (a.sz * a.wt) ≤ (L + 1) * (((a.sz + 1 : Nat) : Int) * a.wt) := Int.mul_le_mul_of_nonneg_left e1 (by omega)
    omega
  | pow a e iha =>
    have wa := a.wt_bd
    have hb1 := Int.natCast_nonneg (a.bt L)
    simp only [Tm.wt] at h ⊢
    have hx : 1 ≤ maxI e 1 := by unfold maxI; split <;> omega
    obtain ⟨hp, hw⟩ : maxI e 1 * a.wt = prodI (maxI e 1) a.wt ∧ a.wt ≤ 320 := by
      have hpI : prodI (maxI e 1) a.wt = capI (capI (maxI e 1) * capI a.wt) := rfl
      rw [hpI] at h ⊢
      obtain ⟨q1, q2⟩ := capI_le h
      have c1 := (capI_pos hx).1
      have c2 : capI a.wt = a.wt := by unfold capI; rw [if_pos (by omega)]
      rw [c2] at q1 q2 ⊢
      have k1 : capI (maxI e 1) * 1 ≤ capI (maxI e 1) * a.wt := Int.mul_le_mul_of_nonneg_left (by omega) (by omega)
      have k2 : 1 * a.wt ≤ capI (maxI e 1) * a.wt := Int.mul_le_mul_of_nonneg_right (by omega) (by omega)
      have c3 := (capI_le (n := maxI e 1) (by omega)).2
      have c4 : a.wt ≤ 320 := by omega
      rw [c3] at q2 ⊢
      exact ⟨q2.symm, c4⟩
    rw [← hp]
    have ha := iha hw
    simp only [Tm.bt, Tm.sz]
    have hmx : ((max e.toNat 1 : Nat) : Int) = maxI e 1 := by unfold maxI; split <;> omega
    rw [Int.natCast_mul, hmx]
    have e0 : maxI e 1 * (a.bt L : Int) ≤ maxI e 1 * ((L + 1) * (a.sz * a.wt)) := Int.mul_le_mul_of_nonneg_left ha (by omega)
    have e1 : maxI e 1 * (((L : Int) + 1) * (a.sz * a.wt)) = (L + 1) * (a.sz * (maxI e 1 * a.wt)) := by
      rw [Int.mul_left_comm, Int.mul_left_comm (maxI e 1)]
    have hq : 0 ≤ maxI e 1 * a.wt := Int.mul_nonneg (by omega) (by omega)
    have e2 : (a.sz : Int) * (maxI e 1 * a.wt) ≤ ((a.sz + 1 : Nat) : Int) * (maxI e 1 * a.wt) := Int.mul_le_mul_of_nonneg_right (by omega) hq
    have e3 : ((L : Int) + 1) * (a.sz * (maxI e 1 * a.wt)) ≤ (L + 1) * (((a.sz + 1 : Nat) : Int) * (maxI e 1 * a.wt)) := Int.mul_le_mul_of_nonneg_left e2 (by omega)
    omega
end Go.Proofs.YtofbfplpbffpfaaGreat

/- Law 40: right, same, EvaluateTerms. -/
namespace Go.Proofs.YtofbfplpbffpfaaGreat
open Go.RowKit

set_option maxRecDepth 100000 in
set_option maxHeartbeats 2000000 in
theorem right_any {w : World} {p : Nat → Prop} {s : Value} {l : List Vr} (t : Tr) (v : Value) (term : Bool) (h : TrV w p t v) (hvs : VsW w s l) : Calls Tryz.prog 8 #[v, .bool term, s] w (RetB (t.few 100 && t.is term && fewV l) w) := by
  have HT := Lib.hid h
  have HVS := Lib.hid hvs
  obtain ⟨res, hres⟩ : ∃ res, (t.few 100 && t.is term && fewV l) = res := ⟨_, rfl⟩
  rw [hres]
  have HRES := Lib.hid hres
  clear hres
  obtain ⟨As, cs, rfl, hs1, hs2, -⟩ := hvs
  obtain ⟨A0, n0, c0, A, c, rfl, -, hl1, hl2, h4⟩ := h.open_
  clear h h4
  unfold ndV
  unfold ndV at HT
  obtain ⟨W, hW⟩ : ∃ W, w.alloc (.cells #[.int .i64 t.d.kind, .bool t.d.neg, .slice A0 n0 c0, .string t.d.name, .int .i64 t.d.exp, .int .i64 t.d.rel, .bool t.d.truth, .bool t.d.all, .slice A t.ks.length c] 29) = W := ⟨_, rfl⟩
  have hWx : Ext w W := by rw [← hW]; exact (Ext.refl w).alloc _
  have hWs : W.heap.size = w.heap.size + 1 := by rw [← hW]; simp
  have hbx : Box9 W w.heap.size t.d (.slice A0 n0 c0) (.slice A t.ks.length c) := by rw [← hW]; exact Box9.new w t.d _ _ _
  obtain ⟨b0, b1, b2, b3, b4, b5, b6, b7, b8⟩ := id hbx
  have HBX := Lib.hid hbx
  have HWX := Lib.hid hWx
  have HFW := Lib.hid (fewT_any t _ (HT.out.ext hWx) 100 (by omega))
  clear hWx hbx
  go_enter Tryz.func8, Tryz.ntmps8
  go_wp2_with fail
  clear hW b0 b1 b2 b3 b4 b5 b6 b7 b8
  refine HFW.out.mono ?_
  rintro e w1 ⟨rfl, x1⟩
  have hx1 := HWX.out.trans x1
  have hs1' := x1.size
  obtain ⟨b0, b1, b2, b3, b4, b5, b6, b7, b8⟩ := HBX.out.ext x1 (by omega)
  have HIS := Lib.hid (is_any t _ w1 term (HT.out.ext hx1))
  have X1 := Lib.hid hx1
  clear x1 hx1 HFW
  by_cases h1 : t.few 100 = true
  · rw [h1]
    have HR1 := Lib.hid h1
    clear h1
    go_wp2_with fail
    clear b0 b1 b2 b3 b4 b5 b6 b7 b8
    refine HIS.out.mono ?_
    rintro e w2 ⟨rfl, x2⟩
    have X2 := Lib.hid (X1.out.trans x2)
    clear x2 HIS
    by_cases h2 : t.is term = true
    · rw [h2]
      have HV : Hid (res = fewV l) := by
        have : res = fewV l := by rw [← HRES.out, HR1.out, h2]; rfl
        exact this
      clear h2
      go_wp2_with fail
      refine (few_any (HVS.out.ext X2.out)).mono ?_
      rintro e w3 ⟨rfl, x3⟩
      have X3 := Lib.hid (X2.out.trans x3)
      clear x3
      generalize fewV l = fl at *
      go_wp2_with fail
      go_ret
      exact ⟨by rw [HV.out]; rfl, X3.out⟩
    · have h2' : t.is term = false := by simpa using h2
      rw [h2']
      have HV : Hid (res = false) := by
        have : res = false := by rw [← HRES.out, h2', Bool.and_false, Bool.false_and]
        exact this
      clear h2 h2'
      go_wp2_with fail
      go_ret
      exact ⟨by rw [HV.out]; rfl, X2.out⟩
  · have h1' : t.few 100 = false := by simpa using h1
    rw [h1']
    have HV : Hid (res = false) := by
      have : res = false := by rw [← HRES.out, h1', Bool.false_and, Bool.false_and]
      exact this
    clear h1 h1'
    go_wp2_with fail
    go_ret
    exact ⟨by rw [HV.out]; rfl, X1.out⟩

set_option maxRecDepth 100000 in
theorem same_any {w : World} {x y : Value} {q1 q2 : Rat} {L M : Nat} (h : RatR w x q1 L) (k : RatR w y q2 M) (hL : 1 ≤ L) (hM : 1 ≤ M) (hs : 2 * (L + M) + 2 ≤ 17592186044416) : Calls Tryz.prog 17 #[x, y] w (RetB (cmpQ q1 q2 == 0) w) := by
  have H := Lib.hid h
  have K := Lib.hid k
  obtain ⟨b, A, n, c, B, m, d, rfl⟩ := h.unpack
  obtain ⟨b', A', n', c', B', m', d', rfl⟩ := k.unpack
  clear h k
  obtain ⟨W, hW⟩ : ∃ W, (w.alloc (.cells #[.bool b, .slice A n c, .slice B m d] 49)).alloc (.cells #[.bool b', .slice A' n' c', .slice B' m' d'] 49) = W := ⟨_, rfl⟩
  have hWx : Ext w W := by rw [← hW]; exact ((Ext.refl w).alloc _).alloc _
  have a0 : W.cell? ⟨w.heap.size, 0, none⟩ = some (.bool b) := by rw [← hW]; simp [go_sem]
  have a1 : W.cell? ⟨w.heap.size, 1, none⟩ = some (.slice A n c) := by rw [← hW]; simp [go_sem]
  have a2 : W.cell? ⟨w.heap.size, 2, none⟩ = some (.slice B m d) := by rw [← hW]; simp [go_sem]
  have d0 : W.cell? ⟨w.heap.size + 1, 0, none⟩ = some (.bool b') := by rw [← hW]; simp [go_sem]
  have d1 : W.cell? ⟨w.heap.size + 1, 1, none⟩ = some (.slice A' n' c') := by rw [← hW]; simp [go_sem]
  have d2 : W.cell? ⟨w.heap.size + 1, 2, none⟩ = some (.slice B' m' d') := by rw [← hW]; simp [go_sem]
  have HWX := Lib.hid hWx
  have HC := Lib.hid (cmp_rat _ _ q1 q2 L M W (H.out.ext hWx) (K.out.ext hWx) hL hM hs)
  clear hWx
  go_enter Tryz.func17, Tryz.ntmps17
  go_wp2_with fail
  clear hW
  refine HC.out.mono ?_
  rintro e w1 ⟨rfl, x1⟩
  have X1 := Lib.hid (HWX.out.trans x1)
  clear x1 HC a0 a1 a2 d0 d1 d2
  generalize cmpQ q1 q2 = cq at *
  go_wp2_with fail
  go_ret
  exact ⟨rfl, X1.out⟩

theorem few_list {t : Tr} {n : Nat} (h : t.few n = true) : t.sz ≤ n ∧ ∀ x ∈ t.list, x.d.ds.length ≤ 20 := by
  unfold Tr.few at h
  simp only [Bool.and_eq_true, decide_eq_true_eq, List.all_eq_true] at h
  refine ⟨t.room_le n 40 h.1, fun x hx => ?_⟩
  have := h.2 x hx
  unfold Nd.ok at this
  simp only [Bool.and_eq_true, decide_eq_true_eq] at this
  exact this.1
theorem small_bt {m : Tm} (h : m.large = false) (hs : m.sz ≤ 100) : m.bt 20 ≤ 1000000000000 := by
  unfold Tm.large at h
  simp only [Bool.or_eq_false_iff, decide_eq_false_iff_not] at h
  have h1 := m.bt_le 20 (by omega)
  have hw := m.wt_bd
  have h2 : (m.sz : Int) * m.wt ≤ 100 * 320 := Int.mul_le_mul (by omega) (by omega) (by omega) (by omega)
  omega
theorem cmpQ_self (q : Rat) : (cmpQ q q == 0) = true := by simp [cmpQ]

set_option maxRecDepth 100000 in
set_option maxHeartbeats 4000000 in
theorem lawTerms_any {w : World} {p : Nat → Prop} {s : Value} {l : List Vr} (t : Tr) (v : Value) (h : TrV w p t v) (hvs : VsW w s l) : Calls Tryz.prog 5 #[v, s] w (RetB true w) := by
  have HT := Lib.hid h
  have HVS := Lib.hid hvs
  obtain ⟨As, cs, rfl, hs1, hs2, -⟩ := hvs
  obtain ⟨A0, n0, c0, A, c, rfl, -, hl1, hl2, h4⟩ := h.open_
  clear h h4
  unfold ndV
  unfold ndV at HT
  obtain ⟨W, hW⟩ : ∃ W, w.alloc (.cells #[.int .i64 t.d.kind, .bool t.d.neg, .slice A0 n0 c0, .string t.d.name, .int .i64 t.d.exp, .int .i64 t.d.rel, .bool t.d.truth, .bool t.d.all, .slice A t.ks.length c] 29) = W := ⟨_, rfl⟩
  have hWx : Ext w W := by rw [← hW]; exact (Ext.refl w).alloc _
  have hWs : W.heap.size = w.heap.size + 1 := by rw [← hW]; simp
  have hbx : Box9 W w.heap.size t.d (.slice A0 n0 c0) (.slice A t.ks.length c) := by rw [← hW]; exact Box9.new w t.d _ _ _
  have HBX := Lib.hid hbx
  have HWX := Lib.hid hWx
  clear hWx hbx
  go_enter Tryz.func5, Tryz.ntmps5
  go_wp2_with fail
  clear hW
  refine (awake_any _).mono ?_
  rintro e w1 ⟨rfl, x1⟩
  have hx1 := HWX.out.trans x1
  have hz1 := x1.size
  obtain ⟨b0, b1, b2, b3, b4, b5, b6, b7, b8⟩ := HBX.out.ext x1 (by omega)
  have HB1 := Lib.hid (HBX.out.ext x1 (by omega))
  have HRI := Lib.hid (right_any t _ true (HT.out.ext hx1) (HVS.out.ext hx1))
  have X1 := Lib.hid hx1
  clear x1 hx1
  go_wp2_with fail
  clear b0 b1 b2 b3 b4 b5 b6 b7 b8
  refine HRI.out.mono ?_
  rintro e w2 ⟨rfl, x2⟩
  have hx2 := X1.out.trans x2
  have hz2 := x2.size
  clear HRI
  by_cases hr : (t.few 100 && t.is true && fewV l) = true
  · rw [hr]
    simp only [Bool.and_eq_true] at hr
    obtain ⟨⟨hr1, hr2⟩, hr3⟩ := hr
    obtain ⟨hsz, hds⟩ := few_list hr1
    obtain ⟨m, hm, hms⟩ := is_tm t hr2 hds
    obtain ⟨vals, hvl⟩ : ∃ vals, (l.map fun x => (x.name, x.q)) = vals := ⟨_, rfl⟩
    have hv20 : VsV w 20 (.slice As l.length cs) vals := by rw [← hvl]; exact (HVS.out.few hr3).mono (by omega)
    have HV20 := Lib.hid hv20
    have HM := Lib.hid hm
    have HEQ := Lib.hid (refT_evalT hm vals)
    have hfin1 : coverB (vget vals) m.free = true → m.large = false → m.covered (vget vals) ∧ m.bt 20 ≤ 1000000000000 := fun h1 h2 => ⟨(Tm.covered_nms _ m).1 (by rw [← Tm.free_cover]; exact h1), small_bt h2 (by omega)⟩
    have hfin2 : t.named vals = true → m.large = false → m.covered (vget vals) ∧ m.bt 20 ≤ 1000000000000 := fun h1 h2 => ⟨(Tm.covered_nms _ m).1 (by rw [← named_tm 20 vals m t hm]; exact h1), small_bt h2 (by omega)⟩
    have HFIN1 := Lib.hid hfin1
    have HFIN2 := Lib.hid hfin2
    obtain ⟨b0, b1, b2, b3, b4, b5, b6, b7, b8⟩ := HB1.out.ext x2 (by omega)
    have HB2 := Lib.hid (HB1.out.ext x2 (by omega))
    have HOF := Lib.hid (ofTerm_any (L := 20) (by omega) m t hm _ w2 (HT.out.ext hx2))
    have X2 := Lib.hid hx2
    clear x2 hx2 hr1 hr2 hr3 hds hm hvl hv20 hfin1 hfin2
    go_wp2_with fail
    clear b0 b1 b2 b3 b4 b5 b6 b7 b8
    refine HOF.out.mono ?_
    rintro e w3 ⟨v3, rfl, ht3, x3⟩
    have HT3 := Lib.hid ht3
    obtain ⟨T3, y3, rfl⟩ := ht3.iface
    have hx3 := X2.out.trans x3
    have hz3 := x3.size
    have hev := evalTerm_any (L := 20) (by omega) (by omega) m HT3.out (HV20.out.ext hx3) (by omega) HFIN1.out
    obtain ⟨eq, en, hev2⟩ : ∃ eq en, evalT m vals = (eq, en) := ⟨_, _, rfl⟩
    rw [hev2] at hev
    have HEV2 := Lib.hid hev2
    have HEV := Lib.hid hev
    clear hev hev2
    have HB3 := Lib.hid (HB2.out.ext x3 (by omega))
    have X3 := Lib.hid hx3
    clear x3 hx3 ht3 HOF
    go_wp2_with fail
    refine HEV.out.mono ?_
    rintro e w4 ⟨z4, rfl, r4, x4⟩
    obtain ⟨p1, P1, pn, pc, P2, pm, pd, rfl⟩ := r4.unpack
    obtain ⟨V, hV⟩ : ∃ V, w4.alloc (.cells #[.bool p1, .slice P1 pn pc, .slice P2 pm pd] 49) = V := ⟨_, rfl⟩
    have hVx : Ext w4 V := by rw [← hV]; exact (Ext.refl w4).alloc _
    have hx4 := X3.out.trans (x4.trans hVx)
    have hz4 := x4.size
    have hzV : V.heap.size = w4.heap.size + 1 := by rw [← hV]; simp
    have hqV : V.heap[w4.heap.size]? = some (.cells #[.bool p1, .slice P1 pn pc, .slice P2 pm pd] 49 (0, 0)) := by rw [← hV]; exact heap_alloc_new w4 _
    have HQV := Lib.hid hqV
    have R4 := Lib.hid (r4.ext hVx)
    obtain ⟨b0, b1, b2, b3, b4, b5, b6, b7, b8⟩ := HB3.out.ext (x4.trans hVx) (by omega)
    have hrt := refTerm_any (L := 20) (by omega) (by omega) m t _ HM.out (HT.out.ext hx4) (HV20.out.ext hx4) (by omega) HFIN2.out
    rw [HEQ.out, HEV2.out] at hrt
    have HRT := Lib.hid hrt
    clear hrt
    have X4 := Lib.hid hx4
    clear r4 x4 hx4 hVx hqV HEV
    go_wp2_with fail
    clear hV b0 b1 b2 b3 b4 b5 b6 b7 b8
    refine HRT.out.mono ?_
    rintro e w5 ⟨z5, rfl, r5, x5⟩
    obtain ⟨q1, Q1, qn, qc, Q2, qm, qd, rfl⟩ := r5.unpack
    obtain ⟨U, hU⟩ : ∃ U, w5.alloc (.cells #[.bool q1, .slice Q1 qn qc, .slice Q2 qm qd] 49) = U := ⟨_, rfl⟩
    have hUx : Ext w5 U := by rw [← hU]; exact (Ext.refl w5).alloc _
    have hqU : U.heap[w5.heap.size]? = some (.cells #[.bool q1, .slice Q1 qn qc, .slice Q2 qm qd] 49 (0, 0)) := by rw [← hU]; exact heap_alloc_new w5 _
    have hq4 := ((x5.trans hUx).below.block _ (by omega)).trans HQV.out
    have f0 : U.cell? ⟨w4.heap.size, 0, none⟩ = some (.bool p1) := by simp [World.cell?, hq4]
    have f1 : U.cell? ⟨w4.heap.size, 1, none⟩ = some (.slice P1 pn pc) := by simp [World.cell?, hq4]
    have f2 : U.cell? ⟨w4.heap.size, 2, none⟩ = some (.slice P2 pm pd) := by simp [World.cell?, hq4]
    have g0 : U.cell? ⟨w5.heap.size, 0, none⟩ = some (.bool q1) := by simp [World.cell?, hqU]
    have g1 : U.cell? ⟨w5.heap.size, 1, none⟩ = some (.slice Q1 qn qc) := by simp [World.cell?, hqU]
    have g2 : U.cell? ⟨w5.heap.size, 2, none⟩ = some (.slice Q2 qm qd) := by simp [World.cell?, hqU]
    have HSA := Lib.hid (same_any (R4.out.ext (x5.trans hUx)) (r5.ext hUx) (by omega) (by omega) (by omega))
    have X5 := Lib.hid (X4.out.trans (x5.trans hUx))
    clear r5 x5 hUx hqU hq4 HRT
    go_wp2_with fail
    clear hU f0 f1 f2 g0 g1 g2
    refine HSA.out.mono ?_
    rintro e w6 ⟨rfl, x6⟩
    have X6 := Lib.hid (X5.out.trans x6)
    have hc := cmpQ_self eq
    rw [hc]
    clear x6 hc HSA
    go_wp2_with fail
    go_ret
    exact ⟨rfl, X6.out⟩
  · have hr' : (t.few 100 && t.is true && fewV l) = false := by simpa using hr
    rw [hr']
    have X2 := Lib.hid hx2
    clear hr hr' x2 hx2
    go_wp2_with fail
    refine (awake_any _).mono ?_
    rintro e w3 ⟨rfl, x3⟩
    have X3 := Lib.hid (X2.out.trans x3)
    clear x3
    go_wp2_with fail
    go_ret
    exact ⟨rfl, X3.out⟩
end Go.Proofs.YtofbfplpbffpfaaGreat
