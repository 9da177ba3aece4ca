/- Words for memory: what a value of the program's types means in a world, and that it stays so while only new blocks are made. -/
import Derived.Test.YtdcapcpchcnidaaGreatRows
import Derived.Test.YtdcapcpchcnidaaGreatDig
import Derived.WalkKit
import Derived.WalkSpells
import Derived.WalkLawsBesides
import Derived.Lib.Hide
import Derived.Deep.QuietTactic
import Derived.BigQuiet
import Derived.Deep.RegionHeld3
import Derived.Deep.DrawnRows
import Derived.Deep.Draws
import Derived.Laws.CopyOwn
import Derived.Deep.DeepCutAuto
import Derived.Deep.CutBlock

namespace Go.Proofs.YtdcapcpchcnidaaGreat
open Go.RowKit

theorem block_of_add (a : Addr) (n : Nat) : (a.add n).block = a.block := by unfold Addr.add; split <;> rfl
theorem add_of_add (a : Addr) (i j : Nat) : (a.add i).add j = a.add (i + j) := by
  unfold Addr.add
  by_cases hi : i = 0 <;> by_cases hj : j = 0 <;> simp [hi, hj, Nat.add_assoc]
theorem add_mk (b o n : Nat) : (⟨b, o, none⟩ : Addr).add n = ⟨b, o + n, none⟩ := by unfold Addr.add; split <;> simp_all

/-- Only new blocks: nothing that was there has turned. -/
def Ext (w w' : World) : Prop := Below w.heap.size w w'

theorem Ext.refl (w : World) : Ext w w := Below.refl _ _
theorem Ext.size {w w' : World} (h : Ext w w') : w.heap.size ≤ w'.heap.size := Below.size h
theorem Ext.trans {a b c : World} (h : Ext a b) (k : Ext b c) : Ext a c := Below.trans h (Below.mono k h.size)
theorem Ext.below {w w' : World} (h : Ext w w') : Below w.heap.size w w' := h
theorem Ext.cell {w w' : World} (h : Ext w w') {p : Addr} (hp : p.block < w.heap.size) : w'.cell? p = w.cell? p := Below.cell h hp
theorem Ext.frozen {w w' : World} (h : Ext w w') {p : Addr} (hp : p.block < w.heap.size) : w'.frozen? p = w.frozen? p := Below.frozen h hp
theorem Ext.alloc {w w' : World} (h : Ext w w') (o : Obj) : Ext w (w'.alloc o) := Below.alloc h h.size o
theorem Ext.setCell {w w' : World} (h : Ext w w') {p : Addr} (hp : w.heap.size ≤ p.block) (u : Value) : Ext w (w'.setCell p u) := Below.setCell h hp u
theorem Ext.drew {w w' : World} (h : Ext w w') : Ext w w'.drew := Below.drew h
theorem Ext.drewN {w w' : World} (h : Ext w w') (n : Nat) : Ext w (w'.drewN n) := by
  have h' := h.below
  exact ⟨h'.os, h'.tape, h'.output, h'.size, h'.block⟩

/-- Behind a call that only made blocks: all old cells and marks, as two rules for the walk. -/
theorem Ext.cells {W w1 : World} (hb : Ext W w1) : (∀ b o, b < W.heap.size → w1.cell? ⟨b, o, none⟩ = W.cell? ⟨b, o, none⟩) ∧ (∀ b o, b < W.heap.size → w1.frozen? ⟨b, o, none⟩ = W.frozen? ⟨b, o, none⟩) :=
  ⟨fun b o h => hb.cell (p := ⟨b, o, none⟩) h, fun b o h => hb.frozen (p := ⟨b, o, none⟩) h⟩

/-- The digits ds lie at A. -/
def DigAt (w : World) (A : Option Addr) (ds : List Nat) : Prop :=
  Digs ds ∧ (0 < ds.length → ∃ ad, A = some ad ∧ ad.block < w.heap.size ∧ ∀ j (h : j < ds.length), w.cell? (ad.add j) = some (.int .u32 (ds[j] : Nat)))

theorem DigAt.ext {w w' : World} {A : Option Addr} {ds : List Nat} (h : DigAt w A ds) (k : Ext w w') : DigAt w' A ds :=
  ⟨h.1, fun hl => by
    obtain ⟨ad, e, hb, hc⟩ := h.2 hl
    exact ⟨ad, e, Nat.lt_of_lt_of_le hb k.size, fun j hj => (k.cell (by rw [block_of_add]; exact hb)).trans (hc j hj)⟩⟩
theorem DigAt.at_ {w : World} {A : Option Addr} {ds : List Nat} (h : DigAt w A ds) (k : Nat) (hk : k < ds.length) :
    ∃ ad, A = some ad ∧ ad.block < w.heap.size ∧ w.cell? (ad.add k) = some (.int .u32 (ds[k] : Nat)) ∧ ds[k] < 4294967296 := by
  obtain ⟨ad, e, hb, hc⟩ := h.2 (by omega)
  exact ⟨ad, e, hb, hc k hk, h.1.get k hk⟩
theorem DigAt.get_ {w : World} {A : Option Addr} {ds : List Nat} (h : DigAt w A ds) (k : Nat) (hk : k < ds.length) :
    ∃ (ad : Addr) (x : Nat), A = some ad ∧ ad.block < w.heap.size ∧ w.cell? (ad.add k) = some (.int .u32 (x : Nat)) ∧ x < 4294967296 ∧ Hid (ds[k]? = some x) := by
  obtain ⟨ad, e, hb, hc⟩ := h.2 (by omega)
  exact ⟨ad, ds[k], e, hb, hc k hk, h.1.get k hk, List.getElem?_eq_getElem hk⟩
theorem DigAt.nil (w : World) (A : Option Addr) : DigAt w A [] := ⟨Digs.nil, fun h => absurd h (by simp)⟩
theorem DigAt.take {w : World} {A : Option Addr} {ds : List Nat} (h : DigAt w A ds) (k : Nat) : DigAt w A (ds.take k) :=
  ⟨h.1.take k, fun hl => by
    rw [List.length_take] at hl
    obtain ⟨ad, e, hb, hc⟩ := h.2 (by omega)
    refine ⟨ad, e, hb, fun j hj => ?_⟩
    rw [List.length_take] at hj
    rw [hc j (by omega), List.getElem_take]⟩
theorem DigAt.drop {w : World} {A : Option Addr} {ds : List Nat} (h : DigAt w A ds) (k cap : Nat) (hk : k ≤ ds.length) (hc : ds.length ≤ cap) :
    DigAt w (if cap = k then A else A.map (·.add k)) (ds.drop k) :=
  ⟨h.1.drop k, fun hl => by
    rw [List.length_drop] at hl
    obtain ⟨ad, rfl, hb, hcell⟩ := h.2 (by omega)
    rw [if_neg (by omega)]
    refine ⟨ad.add k, rfl, by rw [block_of_add]; exact hb, fun j hj => ?_⟩
    rw [List.length_drop] at hj
    rw [add_of_add, hcell (k + j) (by omega), List.getElem_drop]⟩

/-- v is a slice of digits that reads as ds. -/
def NatV (w : World) (v : Value) (ds : List Nat) : Prop :=
  ∃ A c, v = .slice A ds.length c ∧ ds.length ≤ c ∧ c ≤ 9223372036854775807 ∧ DigAt w A ds

theorem NatV.ext {w w' : World} {v : Value} {ds : List Nat} (h : NatV w v ds) (k : Ext w w') : NatV w' v ds := by
  obtain ⟨A, c, e, h1, h2, h3⟩ := h
  exact ⟨A, c, e, h1, h2, h3.ext k⟩
theorem NatV.digs {w : World} {v : Value} {ds : List Nat} (h : NatV w v ds) : Digs ds := by
  obtain ⟨A, c, e, h1, h2, h3⟩ := h
  exact h3.1
theorem NatV.nil (w : World) : NatV w (.slice none 0 0) [] := ⟨none, 0, rfl, by simp, by simp, DigAt.nil _ _⟩

/-- The cells of a list of digits. -/
def u32s (ds : List Nat) : List Value := ds.map fun d => Value.int .u32 (d : Nat)
theorem u32s_length (ds : List Nat) : (u32s ds).length = ds.length := by simp [u32s]
theorem u32s_get (ds : List Nat) (i : Nat) (h : i < ds.length) : (u32s ds)[i]? = some (.int .u32 (ds[i] : Nat)) := by
  simp [u32s, List.getElem?_eq_getElem h]
theorem u32s_one (ds : List Nat) : ∀ v ∈ u32s ds, v.oneCell' = true := by
  intro v hv
  obtain ⟨d, _, rfl⟩ := List.mem_map.1 hv
  rfl
theorem u32s_set (ds : List Nat) (i d : Nat) : (u32s ds).toArray.setIfInBounds i (.int .u32 (d : Nat)) = (u32s (ds.set i d)).toArray := by
  simp [u32s, List.map_set]

/-- Block g is just these digits. -/
def Row (w : World) (g : Nat) (ds : List Nat) : Prop := w.heap[g]? = some (.cells (u32s ds).toArray 57 (0, 0))

section
variable {w w' : World} {g : Nat} {ds : List Nat}
theorem Row.lt (h : Row w g ds) : g < w.heap.size := by
  rcases Nat.lt_or_ge g w.heap.size with hlt | hge
  · exact hlt
  · unfold Row at h; rw [Array.getElem?_eq_none hge] at h; cases h
theorem Row.cell (h : Row w g ds) (i : Nat) (hi : i < ds.length) : w.cell? ⟨g, i, none⟩ = some (.int .u32 (ds[i] : Nat)) := by
  rw [cell_of_row w g i _ _ (0, 0) h]; simpa using u32s_get ds i hi
theorem Row.get_ (h : Row w g ds) (k : Nat) (hk : k < ds.length) : ∃ x : Nat, w.cell? ⟨g, k, none⟩ = some (.int .u32 (x : Nat)) ∧ w.frozen? ⟨g, k, none⟩ = false ∧ Hid (ds[k]? = some x) := by
  refine ⟨ds[k], ?_, ?_, List.getElem?_eq_getElem hk⟩
  · rw [cell_of_row w g k _ _ (0, 0) h]; simpa using u32s_get ds k hk
  · unfold Row at h
    simp [World.frozen?, h]
theorem Row.frozen (h : Row w g ds) (i : Nat) : w.frozen? ⟨g, i, none⟩ = false := by
  unfold Row at h
  simp [World.frozen?, h]
theorem Row.new (w : World) (ds : List Nat) : Row (w.alloc (.cells (u32s ds).toArray 57)) w.heap.size ds := heap_alloc_new w _
theorem Row.set_ (h : Row w g ds) (i d : Nat) : Row (w.setCell ⟨g, i, none⟩ (.int .u32 (d : Nat))) g (ds.set i d) := by
  unfold Row at h ⊢
  rw [← u32s_set]
  simp [World.setCell, Array.getElem?_modify, h]
theorem Row.drewN (h : Row w g ds) (n : Nat) : Row (w.drewN n) g ds := h
theorem Row.alloc (h : Row w g ds) (o : Obj) : Row (w.alloc o) g ds := (Below.heap_alloc w o g h.lt).trans h
theorem Row.far (h : Row w g ds) {p : Addr} (hp : g ≠ p.block) (u : Value) : Row (w.setCell p u) g ds := (Below.heap_setCell w p u g hp).trans h
theorem Row.below {B : Nat} (h : Row w g ds) (hb : Below B w w') (hg : g < B) : Row w' g ds := (hb.block g hg).trans h
theorem Row.ext (h : Row w g ds) (hb : Ext w w') : Row w' g ds := Row.below h hb h.lt
theorem Row.digAt (h : Row w g ds) (hd : Digs ds) : DigAt w (some ⟨g, 0, none⟩) ds :=
  ⟨hd, fun _ => ⟨_, rfl, h.lt, fun j hj => by rw [add_mk, Nat.zero_add]; exact h.cell j hj⟩⟩
theorem Row.natVn (h : Row w g ds) (hd : Digs ds) (n c : Nat) (hn : ds.length = n) (hc : n ≤ c) (hc' : c ≤ 9223372036854775807) : NatV w (.slice (some ⟨g, 0, none⟩) n c) ds := by
  subst hn; exact ⟨_, c, rfl, hc, hc', h.digAt hd⟩
theorem Row.natV (h : Row w g ds) (hd : Digs ds) (c : Nat) (hc : ds.length ≤ c) (hc' : c ≤ 9223372036854775807) : NatV w (.slice (some ⟨g, 0, none⟩) ds.length c) ds :=
  ⟨_, c, rfl, hc, hc', h.digAt hd⟩
end

theorem info_u32 : (Tryz.prog.info? 57).map (fun i => (i.zero, i.size, i.bytes)) = some (some (.int .u32 0), 1, 4) := by kernel_rfl
theorem size_u32 : (Tryz.prog.info? 57).map (·.size) = some 1 := by kernel_rfl

/-- make(Nat, n) -/
theorem run_makeNat (n : Int) (h0 : 0 ≤ n) (h1 : n ≤ 35184372088832) (w : World) :
    (Instr.makeSlice 24 (.int .i64 n) (.int .i64 n)).run Tryz.prog w =
      .ok (.slice (some ⟨w.heap.size, 0, none⟩) n.toNat n.toNat) (w.alloc (.cells (u32s (List.replicate n.toNat 0)).toArray 57)) := by
  obtain ⟨i0, hi, hz0, hz1, hz2⟩ := info_parts info_u32
  have key : madeCells (Value.int .u32 0).cells (n.toNat * i0.size) = (u32s (List.replicate n.toNat 0)).toArray := by
    rw [hz1, Nat.mul_one]
    apply Array.ext'
    simp only [madeCells, u32s, List.map_replicate]
    rw [Array.toList_map, Array.toList_range]
    apply List.ext_getElem
    · simp
    · intro k h1 h2
      simp [Value.cells, Nat.mod_one]
  rw [run_make w 24 57 i0 (.int .u32 0) Tryz.underlying24 hi hz0 .i64 .i64 n n h0 (by omega) (by rw [hz2]; omega) (by omega), key]

/-- -1, 0 or 1, as a is less than, equal to or greater than b. -/
def cmpI (a b : Int) : Int := if a < b then -1 else if b < a then 1 else 0
theorem cmpI_bd (a b : Int) : -1 ≤ cmpI a b ∧ cmpI a b ≤ 1 := by unfold cmpI; split <;> (try split) <;> omega
theorem cmpI_lt {a b : Int} (h : a < b) : cmpI a b = -1 := if_pos h
theorem cmpI_gt {a b : Int} (h : b < a) : cmpI a b = 1 := by unfold cmpI; rw [if_neg (by omega), if_pos h]
theorem cmpI_eq {a b : Int} (h : a = b) : cmpI a b = 0 := by unfold cmpI; rw [if_neg (by omega), if_neg (by omega)]

/-- Only block g, and what is new, has turned. -/
def Only (g : Nat) (w w' : World) : Prop := w.grownBy w' (some g)
theorem Only.g {g : Nat} {w w' : World} (h : Only g w w') : w.grownBy w' (some g) := h
theorem Only.refl (g : Nat) (w : World) : Only g w w := World.grownBy.refl w _
theorem Only.size {g : Nat} {w w' : World} (h : Only g w w') : w.heap.size ≤ w'.heap.size := World.grownBy.size h
theorem Only.setCell {g : Nat} {w w' : World} (h : Only g w w') (k : Nat) (u : Value) : Only g w (w'.setCell ⟨g, k, none⟩ u) := by
  have h' := h.g
  exact ⟨h'.os, h'.tape, h'.output, by simpa [World.setCell] using h'.size, fun i hi hne => (Below.heap_setCell w' ⟨g, k, none⟩ u i (fun e => hne (by rw [e]))).trans (h'.block i hi hne)⟩
theorem Only.drewN {g : Nat} {w w' : World} (h : Only g w w') (n : Nat) : Only g w (w'.drewN n) := by
  have h' := h.g
  exact ⟨h'.os, h'.tape, h'.output, h'.size, h'.block⟩
theorem Only.trans {g : Nat} {a b c : World} (h : Only g a b) (k : Only g b c) : Only g a c :=
  ⟨(World.grownBy.os k).trans (World.grownBy.os h), (World.grownBy.tape k).trans (World.grownBy.tape h), (World.grownBy.output k).trans (World.grownBy.output h), Nat.le_trans h.size k.size,
    fun i hi hne => (World.grownBy.block k i (Nat.lt_of_lt_of_le hi h.size) hne).trans (World.grownBy.block h i hi hne)⟩
theorem Only.of_ext {g : Nat} {w w' : World} (h : Ext w w') : Only g w w' := by
  have h' := h.below
  exact ⟨h'.os, h'.tape, h'.output, h'.size, fun i hi _ => h'.block i hi⟩
theorem Only.ext {g : Nat} {w0 w w' : World} (hx : Ext w0 w) (h : Only g w w') (hg : w0.heap.size ≤ g) : Ext w0 w' := by
  have h' := hx.below
  exact ⟨(World.grownBy.os h).trans h'.os, (World.grownBy.tape h).trans h'.tape, (World.grownBy.output h).trans h'.output, Nat.le_trans h'.size h.size,
    fun i hi => (World.grownBy.block h i (Nat.lt_of_lt_of_le hi h'.size) (fun e => by injection e with e; omega)).trans (h'.block i hi)⟩
theorem Only.block {g : Nat} {w w' : World} (h : Only g w w') {i : Nat} (hi : i < w.heap.size) (hne : i ≠ g) : w'.heap[i]? = w.heap[i]? := World.grownBy.block h i hi (fun e => hne (by injection e))
theorem Only.cell {g : Nat} {w w' : World} (h : Only g w w') {p : Addr} (hp : p.block < w.heap.size) (hne : p.block ≠ g) : w'.cell? p = w.cell? p := World.cell?_of_block (h.block hp hne)
theorem DigAt.only {g : Nat} {w w' : World} {A : Option Addr} {ds : List Nat} (h : DigAt w A ds) (k : Only g w w') (hne : ∀ ad, A = some ad → ad.block ≠ g) : DigAt w' A ds :=
  ⟨h.1, fun hl => by
    obtain ⟨ad, e, hb, hc⟩ := h.2 hl
    exact ⟨ad, e, Nat.lt_of_lt_of_le hb k.size, fun j hj => (k.cell (by rw [block_of_add]; exact hb) (by rw [block_of_add]; exact hne ad e)).trans (hc j hj)⟩⟩
theorem Row.only {g g' : Nat} {w w' : World} {ds : List Nat} (h : Row w g ds) (k : Only g' w w') (hne : g ≠ g') : Row w' g ds := (k.block h.lt hne).trans h

/-- A slice that lies from block B on. -/
def Fresh (B : Nat) (v : Value) : Prop := ∀ ad n c, v = .slice (some ad) n c → B ≤ ad.block
theorem Fresh.mk (B : Nat) (ad : Addr) (n c : Nat) (h : B ≤ ad.block) : Fresh B (.slice (some ad) n c) := by
  intro ad' n' c' e
  injection e with e1
  injection e1 with e2
  rw [← e2]; exact h
theorem Fresh.nil (B n c : Nat) : Fresh B (.slice none n c) := by
  intro ad' n' c' e
  injection e with e1
  cases e1
theorem Fresh.mono {B B' : Nat} {v : Value} (h : Fresh B v) (hB : B' ≤ B) : Fresh B' v := fun ad n c e => Nat.le_trans hB (h ad n c e)

/-- The call returns a new natural number. -/
def RetNat (n : Nat) (w : World) (e : Ending) (w' : World) : Prop := ∃ v, e = .returned v ∧ NatV w' v (dg n) ∧ Ext w w'

end Go.Proofs.YtdcapcpchcnidaaGreat
