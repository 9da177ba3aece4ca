/- Layer 34: formula.Free: the names that occur free. -/
import Derived.Test.YtofbfplpbffpfaaGreatBound
import Derived.OneCell
import Derived.RangeFuncBox
namespace Go.Proofs.YtofbfplpbffpfaaGreat
open Go.RowKit

/-- Whether a list has a name. -/
def has (l : List ByteArray) (s : ByteArray) : Bool := l.any fun t => decide (t = s)
theorem has_iff (l : List ByteArray) (s : ByteArray) : has l s = true ↔ s ∈ l := by simp [has]
theorem has_snoc (l : List ByteArray) (s t : ByteArray) : has (l ++ [s]) t = (has l t || decide (s = t)) := by simp [has]

/-- The blocks of the function's own: the two boxes of maps, the box of the list, the two maps; new rows lie from base on. -/
structure FreeBlocks (base Ma Ms ba bs bl : Nat) : Prop where
  h1 : ba ≠ bl
  h2 : ba ≠ Ms
  h3 : bs ≠ bl
  h4 : bs ≠ Ms
  h5 : Ma ≠ bl
  h6 : Ma ≠ Ms
  h7 : bl ≠ Ms
  h8 : ba ≠ Ma
  h9 : bs ≠ Ma
  k1 : ba < base
  k2 : bs < base
  k3 : bl < base
  k4 : Ma < base
  k5 : Ms < base

/-- What the function that Free passes on keeps true. -/
def FreeJ (base Ma Ms ba bs bl N : Nat) (b : Nat) (W : World) (own : Nat → Prop) (acc : List ByteArray) : Prop :=
  ∃ v ls, W.cell? ⟨ba, 0, none⟩ = some (.map (some Ma)) ∧ W.cell? ⟨bs, 0, none⟩ = some (.map (some Ms)) ∧ W.heap[bl]? = some (.cells #[v] 74 (0, 0)) ∧ SMap W Ms ls ∧ (∀ s, (mget ls s).getD (.bool false) = .bool (has acc s)) ∧
    StrRow W base v acc ∧ acc.length + b ≤ N ∧ (own = fun i => i = bl ∨ i = Ms ∨ v.ownBlock = some i) ∧ base ≤ W.heap.size

/-- What it does with a name. -/
def freeStep (a : ByteArray → Int) (s : ByteArray) (acc : List ByteArray) : List ByteArray := if a s = 0 ∧ has acc s = false then acc ++ [s] else acc

section
variable {base Ma Ms ba bs bl N : Nat}
theorem FreeJ.turn {b b' : Nat} {W W' : World} {own : Nat → Prop} {acc : List ByteArray} (h : FreeJ base Ma Ms ba bs bl N b W own acc) (hb : b' ≤ b) (hs : W.heap.size ≤ W'.heap.size) (h1 : W'.heap[ba]? = W.heap[ba]?) (h2 : W'.heap[bs]? = W.heap[bs]?) (h3 : W'.heap[bl]? = W.heap[bl]?) (h4 : W'.heap[Ms]? = W.heap[Ms]?)
    (h5 : ∀ v acc, StrRow W base v acc → StrRow W' base v acc) : FreeJ base Ma Ms ba bs bl N b' W' own acc := by
  obtain ⟨v, ls, c1, c2, c3, c4, c5, c6, c7, c8, c9⟩ := h
  exact ⟨v, ls, (World.cell?_of_block h1).trans c1, (World.cell?_of_block h2).trans c2, h3.trans c3, c4.block h4, c5, h5 _ _ c6, by omega, c8, Nat.le_trans c9 hs⟩
theorem FreeJ.lts {b : Nat} {W : World} {own : Nat → Prop} {acc : List ByteArray} (h : FreeJ base Ma Ms ba bs bl N b W own acc) : ba < W.heap.size ∧ bs < W.heap.size ∧ bl < W.heap.size ∧ Ms < W.heap.size := by
  obtain ⟨v, ls, c1, c2, c3, c4, c5, c6, c7, c8, c9⟩ := h
  have lt : ∀ {g : Nat} {x : Value}, W.cell? ⟨g, 0, none⟩ = some x → g < W.heap.size := fun {g x} hc => by
    rcases Nat.lt_or_ge g W.heap.size with hlt | hge
    · exact hlt
    · simp [World.cell?, Array.getElem?_eq_none hge] at hc
  exact ⟨lt c1, lt c2, lt_of_block c3, c4.lt⟩
theorem StrRow.only {w w' : World} {base g : Nat} {v : Value} {l : List ByteArray} (h : StrRow w base v l) (hx : Only g w w') (hg : g < base) : StrRow w' base v l :=
  World.ownsRow.kept h hx.g (.inr (fun e => by have := (h.lt g e).1; omega))

theorem info_bool : (Tryz.prog.info? 4).map (·.zero) = some (some (.bool false)) := by kernel_rfl

/-- The call of the function. -/
def FreePost (base Ma Ms ba bs bl N b : Nat) (W : World) (own : Nat → Prop) (acc : List ByteArray) (e : Ending) (W' : World) : Prop :=
  (∃ v, e = .returned v) ∧ ∃ own', FreeJ base Ma Ms ba bs bl N b W' own' acc ∧ Keeps own W own' W'

/-- A new name is noted and stored. -/
theorem free_close (hd : FreeBlocks base Ma Ms ba bs bl) {b : Nat} {W W1 w2 : World} {own : Nat → Prop} {acc : List ByteArray} {s : ByteArray} {v v' : Value} {ls : List (ByteArray × Value)} {o : Obj}
    (c1 : W.cell? ⟨ba, 0, none⟩ = some (.map (some Ma))) (c2 : W.cell? ⟨bs, 0, none⟩ = some (.map (some Ms))) (c3 : W.heap[bl]? = some (.cells #[v] 74 (0, 0))) (c5 : ∀ s, (mget ls s).getD (.bool false) = .bool (has acc s)) (c6 : StrRow W base v acc) (c8 : own = fun i => i = bl ∨ i = Ms ∨ v.ownBlock = some i)
    (hM1 : SMap W1 Ms (mput ls s (.bool true))) (ho1 : Only Ms W W1) (hb : base ≤ W.heap.size) (hN : acc.length + 1 + b ≤ N) (hg : (W1.alloc o).grownBy w2 v.ownBlock) (hown : w2.ownsRow base 9 1 v' (acc.length + 1) (strs acc ++ [.string s])) (hat : v'.ownBlock = v.ownBlock ∨ v'.ownBlock = some (W1.alloc o).heap.size) :
    FreePost base Ma Ms ba bs bl N b W own (acc ++ [s]) (.returned (.tuple #[])) (w2.setCell ⟨bl, 0, none⟩ v') ∧ w2.cell? ⟨bl, 0, none⟩ = some v ∧ w2.frozen? ⟨bl, 0, none⟩ = false := by
  have hs1 := ho1.size
  have k1 := hd.k1
  have k2 := hd.k2
  have k3 := hd.k3
  have k5 := hd.k5
  have hx1 : Ext W1 (W1.alloc o) := (Ext.refl W1).alloc o
  have hr0 := c6.lt
  have low : ∀ i, i < base → i ≠ Ms → w2.heap[i]? = W.heap[i]? := fun i hi hne => by
    rw [World.grownBy.block hg i (by simp; omega) (fun e => by have := (hr0 i e.symm).1; omega), hx1.below.block i (by omega)]
    exact ho1.block (by omega) hne
  have hMs : w2.heap[Ms]? = W1.heap[Ms]? := by
    rw [World.grownBy.block hg Ms (by simp; omega) (fun e => by have := (hr0 Ms e.symm).1; omega), hx1.below.block Ms (by omega)]
  have hbl : w2.heap[bl]? = some (.cells #[v] 74 (0, 0)) := by rw [low bl k3 hd.h7]; exact c3
  have hvlt : ∀ k, v'.ownBlock = some k → base ≤ k ∧ k < w2.heap.size := World.ownsRow.lt hown
  have hs2 := World.grownBy.size hg
  simp only [World.size_alloc] at hs2
  refine ⟨⟨⟨_, rfl⟩, fun i => i = bl ∨ i = Ms ∨ v'.ownBlock = some i, ?_, ?_⟩, cell_of_one hbl, free_of_one hbl⟩
  · refine ⟨v', mput ls s (.bool true), ?_, ?_, one_setCell hbl, ?_, ?_, ?_, ?_, rfl, ?_⟩
    · rw [World.cell?_of_block ((Below.heap_setCell w2 ⟨bl, 0, none⟩ v' ba hd.h1).trans (low ba k1 hd.h2))]; exact c1
    · rw [World.cell?_of_block ((Below.heap_setCell w2 ⟨bl, 0, none⟩ v' bs hd.h3).trans (low bs k2 hd.h4))]; exact c2
    · exact (hM1.block hMs).setCell _ _ (fun e => hd.h7 e.symm)
    · intro t
      rw [mget_mput, has_snoc]
      by_cases ht : t = s
      · rw [if_pos ht]; simp [ht]
      · have ht' : ¬ s = t := fun e => ht e.symm
        rw [if_neg ht, c5]; simp [ht']
    · unfold StrRow
      rw [strs_snoc]
      have := ownsRow_setCell_other hown (a := ⟨bl, 0, none⟩) (fun e => by have := (hvlt bl e).1; omega) v'
      simpa using this
    · simp; omega
    · simp; omega
  · rw [c8]
    have q1 : w2.os = W.os := (World.grownBy.os hg).trans (hx1.below.os.trans (World.grownBy.os ho1))
    have q2 : w2.tape = W.tape := (World.grownBy.tape hg).trans (hx1.below.tape.trans (World.grownBy.tape ho1))
    have q3 : w2.output = W.output := (World.grownBy.output hg).trans (hx1.below.output.trans (World.grownBy.output ho1))
    refine ⟨q1, q2, q3, by simp; omega, fun i hi hn => ?_, fun i hi ho => ?_⟩
    · have n1 : i ≠ bl := fun e => hn (.inl e)
      have n2 : i ≠ Ms := fun e => hn (.inr (.inl e))
      have n3 : ¬ v.ownBlock = some i := fun e => hn (.inr (.inr e))
      rw [Below.heap_setCell w2 ⟨bl, 0, none⟩ v' i n1, World.grownBy.block hg i (by simp; omega) (fun e => n3 e.symm), hx1.below.block i (by omega)]
      exact ho1.block hi n2
    · rcases ho with h | h | h
      · exact .inl h
      · exact .inr (.inl h)
      · refine .inr (.inr ?_)
        rcases hat with k | k
        · rw [← k]; exact h
        · rw [k] at h; injection h with e; simp at e; omega

set_option maxRecDepth 100000 in
set_option maxHeartbeats 1000000 in
theorem free1_any (hd : FreeBlocks base Ma Ms ba bs bl) (hN : N ≤ 1099511627776) (b : Nat) (a : ByteArray → Int) (W : World) (own : Nat → Prop) (acc : List ByteArray) (s : ByteArray) (hJ : FreeJ base Ma Ms ba bs bl N (b + 1) W own acc) (hA : AMap W Ma a) :
    Calls Tryz.prog 64 #[.string s, .pointer (some ⟨ba, 0, none⟩), .pointer (some ⟨bs, 0, none⟩), .pointer (some ⟨bl, 0, none⟩)] W (FreePost base Ma Ms ba bs bl N b W own (freeStep a s acc)) := by
  have HJ := Lib.hid hJ
  have HD := Lib.hid hd
  have hbd := hJ.lts
  obtain ⟨v, ls, c1, c2, c3, c4, c5, c6, c7, c8, c9⟩ := hJ
  have hl := hA.look s
  have hls : (Instr.lookup 135 (.map (some Ms)) (.string s) false).run Tryz.prog W = .ok (.bool (has acc s)) W := by
    have := c4.look (P := Tryz.prog) Tryz.underlying135 Tryz.underlying9 info_bool s false
    rw [this, if_neg (by simp), c5]
  obtain ⟨hbd1, hbd2, hbd3, hbd4⟩ := hbd
  have C3 := Lib.hid c3
  have C4 := Lib.hid c4
  have C5 := Lib.hid c5
  have C6 := Lib.hid c6
  have C8 := Lib.hid c8
  have C2 := Lib.hid c2
  have C1 := Lib.hid c1
  have cl := cell_of_one c3
  have HA := Lib.hid hA
  clear c3 c4 c5 c6 c8 hA hd
  by_cases ha : a s = 0
  · by_cases hh : has acc s = true
    · have hfin : freeStep a s acc = acc := by unfold freeStep; rw [if_neg (by rw [hh]; simp)]
      rw [hfin]
      rw [ha] at hl
      rw [hh] at hls
      clear hfin ha hh cl
      go_enter Tryz.func64, Tryz.ntmps64
      go_wp2_with fail
      go_end0
      exact ⟨⟨_, rfl⟩, own, HJ.out.turn (by omega) (Nat.le_refl _) rfl rfl rfl rfl (fun _ _ h => h), Keeps.refl _ _⟩
    · have hh' : has acc s = false := by simpa using hh
      have hfin : freeStep a s acc = acc ++ [s] := by unfold freeStep; rw [if_pos ⟨ha, hh'⟩]
      rw [hfin]
      rw [ha] at hl
      rw [hh'] at hls
      have HH := Lib.hid hh'
      obtain ⟨W1, hput, hM1, ho1⟩ := C4.out.put (P := Tryz.prog) Tryz.underlying135 Tryz.underlying9 s (.bool true)
      have cl1 : W1.cell? ⟨bl, 0, none⟩ = some v := by rw [ho1.cell (p := ⟨bl, 0, none⟩) hbd3 HD.out.h7]; exact cl
      have c21 : W1.cell? ⟨bs, 0, none⟩ = some (.map (some Ms)) := by rw [ho1.cell (p := ⟨bs, 0, none⟩) hbd2 HD.out.h4]; exact c2
      have HM1 := Lib.hid hM1
      have HO1 := Lib.hid ho1
      have hw1 := ho1.size
      obtain ⟨i0, hi, hz0, hz1, hz2⟩ := info_parts info_str
      have HI0 : Hid (Tryz.prog.info? 9 = some i0 ∧ i0.zero = some (.string ByteArray.empty) ∧ i0.size = 1 ∧ i0.bytes = 16) := by
        have : Tryz.prog.info? 9 = some i0 ∧ i0.zero = some (.string ByteArray.empty) ∧ i0.size = 1 ∧ i0.bytes = 16 := ⟨hi, hz0, hz1, hz2⟩
        exact this
      have HR1 : Hid (StrRow W1 base v acc) := by
        have : StrRow W1 base v acc := C6.out.only ho1 HD.out.k5
        exact this
      clear hfin ha hh hh' hM1 ho1 hi hz0 hz1 hz2
      go_enter Tryz.func64, Tryz.ntmps64
      go_wp2_with (at_builtin
                   refine wpList_append_own_at _ rfl (.tmp 17) (.tmp 19) _ rfl base 9 i0 (.string ByteArray.empty) 1 16 Tryz.underlying74 HI0.out.1 HI0.out.2.1 HI0.out.2.2.1 HI0.out.2.2.2 rfl (by omega) _ acc.length (strs acc) rfl (World.ownsRow.alloc HR1.out _) ⟨W1.heap.size, 0, none⟩ 1 1 [.string s] rfl rfl (news1 ?_) ?_ ?_ ?_ ?_ ?_)
      · simp [go_sem]
      · simp [Value.oneCell']
      · unfold maxLen; omega
      · omega
      · simp; omega
      · intro v' w2 hown' hg' _ hat'
        obtain ⟨g', cap', rfl⟩ := ownsRow_succ hown'
        have hat2 : (Value.slice (some ⟨g', 0, none⟩) (acc.length + 1) cap').ownBlock = v.ownBlock ∨ (Value.slice (some ⟨g', 0, none⟩) (acc.length + 1) cap').ownBlock = some (W1.alloc (Obj.cells #[.string s] 9)).heap.size := by simpa using hat'
        obtain ⟨HF, hcl, hfl⟩ := free_close (b := b) (N := N) HD.out C1.out C2.out C3.out C5.out C6.out C8.out HM1.out HO1.out c9 (by omega) hg' hown' hat2
        have HFIN := Lib.hid HF
        clear HF hown' hg' hat' hat2 hput hl hls cl1 c21
        go_wp2_with fail
        go_end0
        exact HFIN.out
  · have hfin : freeStep a s acc = acc := by unfold freeStep; rw [if_neg (fun e => ha e.1)]
    have hab : (a s == 0) = false := by simpa using ha
    rw [hfin]
    clear hfin ha cl
    go_enter Tryz.func64, Tryz.ntmps64
    go_wp2_with fail
    go_end0
    exact ⟨⟨_, rfl⟩, own, HJ.out.turn (by omega) (Nat.le_refl _) rfl rfl rfl rfl (fun _ _ h => h), Keeps.refl _ _⟩

theorem free_walks (hd : FreeBlocks base Ma Ms ba bs bl) (hN : N ≤ 1099511627776) : Walks 64 #[.pointer (some ⟨ba, 0, none⟩), .pointer (some ⟨bs, 0, none⟩), .pointer (some ⟨bl, 0, none⟩)] Ma (FreeJ base Ma Ms ba bs bl N) freeStep where
  enter := fun args W => by simp [go_sem]
  ext := fun b W W' own acc h hx => by
    obtain ⟨h1, h2, h3, h4⟩ := h.lts
    exact h.turn (Nat.le_refl _) hx.size (hx.below.block _ h1) (hx.below.block _ h2) (hx.below.block _ h3) (hx.below.block _ h4) (fun v acc hr => hr.ext hx)
  less := fun b b' W own acc h hb => h.turn hb (Nat.le_refl _) rfl rfl rfl rfl (fun _ _ h => h)
  map := fun b W W' own acc h ho => by
    obtain ⟨h1, h2, h3, h4⟩ := h.lts
    exact h.turn (Nat.le_refl _) ho.size (ho.block h1 hd.h8) (ho.block h2 hd.h9) (ho.block h3 (fun e => hd.h5 e.symm)) (ho.block h4 (fun e => hd.h6 e.symm)) (fun v acc hr => hr.only ho hd.k4)
  lt := fun b W own acc h i hi => by
    obtain ⟨h1, h2, h3, h4⟩ := h.lts
    obtain ⟨v, ls, c1, c2, c3, c4, c5, c6, c7, c8, c9⟩ := h
    rw [c8] at hi
    rcases hi with rfl | rfl | hi
    · exact h3
    · exact h4
    · exact (c6.lt i hi).2
  ne := fun b W own acc h hi => by
    obtain ⟨v, ls, c1, c2, c3, c4, c5, c6, c7, c8, c9⟩ := h
    rw [c8] at hi
    rcases hi with hi | hi | hi
    · exact hd.h5 hi
    · exact hd.h6 hi
    · have := (c6.lt _ hi).1; have := hd.k4; omega
  call := fun b a W own acc s h hA => free1_any hd hN b a W own acc s h hA

end

/-- The names that occur free, in the order of their first occurrence. -/
def Fm.free (t : Fm) : List ByteArray := t.fold freeStep (fun _ => 0) []

set_option maxRecDepth 100000 in
set_option maxHeartbeats 1000000 in
theorem free_any {w0 w : World} {L : Nat} (t : Fm) {v : Value} (h : FmV w0 L t v) (hl : t.sz ≤ 1099511627776) : Calls Tryz.prog 32 #[v] w (RetStrs t.free w) := by
  have hmm := @run_makeMap Tryz.prog
  go_enter Tryz.func32, Tryz.ntmps32
  go_wp2_with fail
  obtain ⟨W, hW⟩ : ∃ W, ((((w.alloc (Obj.cells #[.slice none 0 0] 74)).alloc (Obj.map #[] 0)).alloc (Obj.map #[] 0)).alloc (Obj.cells #[.map (some (w.heap.size + 1))] 134)).alloc (Obj.cells #[.map (some (w.heap.size + 1 + 1))] 135) = W := ⟨_, rfl⟩
  rw [hW]
  have hsz : W.heap.size = w.heap.size + 5 := by rw [← hW]; simp
  have hx : Ext w W := by rw [← hW]; exact (((((Ext.refl w).alloc _).alloc _).alloc _).alloc _).alloc _
  have hd : FreeBlocks (w.heap.size + 5) (w.heap.size + 1) (w.heap.size + 1 + 1) (w.heap.size + 1 + 1 + 1) (w.heap.size + 1 + 1 + 1 + 1) w.heap.size := by
    constructor <;> omega
  have m1 : SMap W (w.heap.size + 1) [] := by
    rw [← hW]
    have := SMap.made (w.alloc (Obj.cells #[.slice none 0 0] 74))
    rw [World.size_alloc] at this
    exact ((this.alloc _).alloc _).alloc _
  have m2 : SMap W (w.heap.size + 1 + 1) [] := by
    rw [← hW]
    have := SMap.made ((w.alloc (Obj.cells #[.slice none 0 0] 74)).alloc (Obj.map #[] 0))
    rw [World.size_alloc, World.size_alloc] at this
    exact (this.alloc _).alloc _
  have hJ : FreeJ (w.heap.size + 5) (w.heap.size + 1) (w.heap.size + 1 + 1) (w.heap.size + 1 + 1 + 1) (w.heap.size + 1 + 1 + 1 + 1) w.heap.size t.sz (0 + t.sz) W (fun i => i = w.heap.size ∨ i = w.heap.size + 1 + 1 ∨ (Value.slice none 0 0).ownBlock = some i) [] := by
    refine ⟨.slice none 0 0, [], ?_, ?_, ?_, m2, fun s => by simp [mget, has], StrRow.nil _ _, by simp, rfl, by omega⟩
    · rw [← hW]; simp [go_sem]
    · rw [← hW]; simp [go_sem]
    · rw [← hW, Below.heap_alloc _ _ _ (by simp; omega), Below.heap_alloc _ _ _ (by simp; omega), Below.heap_alloc _ _ _ (by simp; omega), Below.heap_alloc _ _ _ (by simp)]
      exact heap_alloc_new w _
  refine (walk_ih (free_walks hd hl) (t.sz + 1) t v (Nat.lt_succ_self _) h 0 W _ (fun _ => 0) [] hJ ⟨[], m1, fun s => by simp [mget]⟩ (fun s => by omega)).mono ?_
  rintro e w1 ⟨⟨v1, rfl⟩, own', hJ', hA', hk'⟩
  have hx1 : Ext w w1 := hk'.ext hx (fun i hi => by
    rcases hi with (hi | hi | hi) | hi
    · omega
    · omega
    · simp [Value.ownBlock] at hi
    · omega)
  obtain ⟨v2, ls, c1, c2, c3, c4, c5, c6, c7, c8, c9⟩ := hJ'
  have cl := cell_of_one c3
  have HR : Hid (StrRow w1 w.heap.size v2 t.free) := by
    have : StrRow w1 w.heap.size v2 t.free := by
      have h6 := c6
      unfold StrRow World.ownsRow at h6 ⊢
      refine ⟨h6.1, ?_⟩
      rcases h6.2 with h | ⟨g, cap, cur, h1, h2, h3⟩
      · exact .inl h
      · exact .inr ⟨g, cap, cur, h1, by omega, h3⟩
    exact this
  have HX1 := Lib.hid hx1
  clear hW hx m1 m2 hJ hA' hk' hd c1 c2 c3 c4 c5 c6 c8 hx1
  go_wp2_with fail
  go_ret
  exact ⟨_, rfl, HR.out, HX1.out⟩
end Go.Proofs.YtofbfplpbffpfaaGreat
