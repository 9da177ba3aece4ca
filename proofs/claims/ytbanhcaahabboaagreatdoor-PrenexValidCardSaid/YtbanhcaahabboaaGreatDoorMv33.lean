/- Layer 34: formula.walk: the names that occur in a formula, passed to a function, with the quantifiers around them. -/
import Derived.Test.YtbanhcaahabboaaGreatDoorMv32
import Derived.Test.YtbanhcaahabboaaGreatDoorMv29
import Derived.Test.YtbanhcaahabboaaGreatDoorMRow
set_option linter.unusedSimpArgs false
set_option linter.unusedVariables false

namespace Go.Proofs.YtbanhcaahabboaaGreatDoor
open Go.RowKit
attribute [local go_sem] as_Num as_Name as_Add as_Sub as_Mul as_Neg as_Pow as_Truth as_Atom as_Not as_And as_Or as_Implies as_Iff as_Quant

/-- How many formulas and terms a formula has in it. -/
def Fm.sz : Fm → Nat
  | .truth _ => 1
  | .atom a _ b => a.sz + b.sz + 1
  | .not f => f.sz + 1
  | .and f g => f.sz + g.sz + 1
  | .or f g => f.sz + g.sz + 1
  | .imp f g => f.sz + g.sz + 1
  | .iff f g => f.sz + g.sz + 1
  | .quant _ _ f => f.sz + 1
theorem Fm.kids_lt (t k : Fm) (h : k ∈ t.kids) : k.sz < t.sz := by
  cases t <;> simp [Fm.kids] at h
  · subst h; simp [Fm.sz]
  · rcases h with rfl | rfl <;> simp [Fm.sz] <;> omega
  · rcases h with rfl | rfl <;> simp [Fm.sz] <;> omega
  · rcases h with rfl | rfl <;> simp [Fm.sz] <;> omega
  · rcases h with rfl | rfl <;> simp [Fm.sz] <;> omega
  · subst h; simp [Fm.sz]
/-- .. and how many formulas have. -/
def fmsSz (l : List Fm) : Nat := (l.map Fm.sz).sum
theorem fmsSz_kids (t : Fm) : fmsSz t.kids + 1 ≤ t.sz := by cases t <;> simp [Fm.kids, fmsSz, Fm.sz] <;> omega
theorem fmsSz_drop (l : List Fm) (k : Nat) (h : k < l.length) : fmsSz (l.drop k) = l[k].sz + fmsSz (l.drop (k + 1)) := by
  unfold fmsSz
  rw [List.drop_eq_getElem_cons h, List.map_cons, List.sum_cons]
theorem Fm.kids_len (t : Fm) : t.kids.length ≤ 2 := by cases t <;> simp [Fm.kids]

/-- One quantifier more. -/
def bump (a : ByteArray → Int) (s : ByteArray) : ByteArray → Int := fun t => if t = s then a t + 1 else a t

/-- What passing the names of a formula does. -/
def Fm.fold {α : Type} (st : (ByteArray → Int) → ByteArray → α → α) : Fm → (ByteArray → Int) → α → α
  | .truth _, _, x => x
  | .atom l _ r, a, x => r.fold (st a) (l.fold (st a) x)
  | .not f, a, x => f.fold st a x
  | .and f g, a, x => g.fold st a (f.fold st a x)
  | .or f g, a, x => g.fold st a (f.fold st a x)
  | .imp f g, a, x => g.fold st a (f.fold st a x)
  | .iff f g, a, x => g.fold st a (f.fold st a x)
  | .quant _ s f, a, x => f.fold st (bump a s) x
def fmsFold {α : Type} (st : (ByteArray → Int) → ByteArray → α → α) (l : List Fm) (a : ByteArray → Int) (x : α) : α := l.foldl (fun acc k => k.fold st a acc) x
theorem fmsFold_take {α : Type} (st : (ByteArray → Int) → ByteArray → α → α) (l : List Fm) (a : ByteArray → Int) (x : α) (k : Nat) (h : k < l.length) : fmsFold st (l.take (k + 1)) a x = (l[k]).fold st a (fmsFold st (l.take k) a x) := by
  unfold fmsFold
  rw [List.take_succ_eq_append_getElem h, List.foldl_append]; rfl

/-- 1 for atoms, 2 for quantifiers, 0 for all others. -/
def Fm.cls : Fm → Nat
  | .atom _ _ _ => 1
  | .quant _ _ _ => 2
  | _ => 0
theorem Fm.fold_kids {α : Type} (st : (ByteArray → Int) → ByteArray → α → α) (t : Fm) (a : ByteArray → Int) (x : α) (h : t.cls = 0) : t.fold st a x = fmsFold st t.kids a x := by
  cases t <;> simp_all [Fm.fold, Fm.kids, fmsFold, Fm.cls]
theorem FmV.plain {w : World} {L : Nat} {t : Fm} {v : Value} (h : FmV w L t v) (hn : t.cls = 0) : ∃ T x, v = .iface T x ∧ ¬ T = 97 ∧ ¬ T = 99 := by
  cases t <;> (simp only [FmV] at h) <;> first | (cases hn; done) | exact ⟨_, _, h, by decide, by decide⟩ | (obtain ⟨_, e, _⟩ := h; exact ⟨_, _, e, by decide, by decide⟩) | (obtain ⟨_, _, e, _⟩ := h; exact ⟨_, _, e, by decide, by decide⟩)

/-- Block b is a map whose numbers are those of a; 0 where it has none. -/
def AMap (w : World) (b : Nat) (a : ByteArray → Int) : Prop := ∃ l, SMap w b l ∧ ∀ s, (mget l s).getD (.int .i64 0) = .int .i64 (a s)
theorem AMap.ext {w w' : World} {b : Nat} {a : ByteArray → Int} (h : AMap w b a) (hx : Ext w w') : AMap w' b a := by
  obtain ⟨l, h1, h2⟩ := h
  exact ⟨l, h1.ext hx, h2⟩
theorem SMap.block {w w' : World} {b : Nat} {l : List (ByteArray × Value)} (h : SMap w b l) (hx : w'.heap[b]? = w.heap[b]?) : SMap w' b l := by
  obtain ⟨es, clock, hb, he⟩ := h
  exact ⟨es, clock, hx.trans hb, he⟩
theorem AMap.block {w w' : World} {b : Nat} {a : ByteArray → Int} (h : AMap w b a) (hx : w'.heap[b]? = w.heap[b]?) : AMap w' b a := by
  obtain ⟨l, h1, h2⟩ := h
  exact ⟨l, h1.block hx, h2⟩
theorem AMap.lt {w : World} {b : Nat} {a : ByteArray → Int} (h : AMap w b a) : b < w.heap.size := by
  obtain ⟨l, h1, h2⟩ := h
  exact h1.lt
theorem info_int : (Tryz.prog.info? 3).map (·.zero) = some (some (.int .i64 0)) := by kernel_rfl
theorem AMap.look {w : World} {b : Nat} {a : ByteArray → Int} (h : AMap w b a) (s : ByteArray) : (Instr.lookup 116 (.map (some b)) (.string s) false).run Tryz.prog w = .ok (.int .i64 (a s)) w := by
  obtain ⟨l, h1, h2⟩ := h
  have := h1.look Tryz.underlying116 Tryz.underlying9 info_int s false
  rw [this]; simp [h2]
theorem AMap.put {w : World} {b : Nat} {a : ByteArray → Int} (h : AMap w b a) (s : ByteArray) (n : Int) : ∃ w', (Instr.mapUpdate 116 (.map (some b)) (.string s) (.int .i64 n)).run Tryz.prog w = .ok () w' ∧ AMap w' b (fun t => if t = s then n else a t) ∧ Only b w w' := by
  obtain ⟨l, h1, h2⟩ := h
  obtain ⟨w', e, h3, h4⟩ := h1.put (P := Tryz.prog) Tryz.underlying116 Tryz.underlying9 s (.int .i64 n)
  refine ⟨w', e, ⟨_, h3, fun t => ?_⟩, h4⟩
  rw [mget_mput]
  by_cases ht : t = s
  · simp [ht]
  · simp [ht, h2]

/-- A function that is called with names, and looks at a map of quantifiers: what it does to a state. -/
structure Walks {α : Type} (K : Nat) (caps : Array Value) (Ma : Nat) (J : Nat → World → (Nat → Prop) → α → Prop) (step : (ByteArray → Int) → ByteArray → α → α) : Prop where
  enter : ∀ args W, (callFunc K args).run Tryz.prog W = .ok (.enter K args) W
  ext : ∀ b W W' own acc, J b W own acc → Ext W W' → J b W' own acc
  less : ∀ b b' W own acc, J b W own acc → b' ≤ b → J b' W own acc
  map : ∀ b W W' own acc, J b W own acc → Only Ma W W' → J b W' own acc
  lt : ∀ b W own acc, J b W own acc → ∀ i, own i → i < W.heap.size
  ne : ∀ b W own acc, J b W own acc → ¬ own Ma
  call : ∀ b a W own acc s, J (b + 1) W own acc → AMap W Ma a → Calls Tryz.prog K (#[.string s] ++ caps) W fun e W' => (∃ v, e = .returned v) ∧ ∃ own', J b W' own' (step a s acc) ∧ Keeps own W own' W'

theorem Walks.visits {α : Type} {K : Nat} {caps : Array Value} {Ma : Nat} {J : Nat → World → (Nat → Prop) → α → Prop} {step : (ByteArray → Int) → ByteArray → α → α} (V : Walks K caps Ma J step) (a : ByteArray → Int) :
    Visits K caps (fun b W own acc => J b W own acc ∧ AMap W Ma a) (step a) where
  enter := V.enter
  ext := fun b W W' own acc h hx => ⟨V.ext b W W' own acc h.1 hx, h.2.ext hx⟩
  less := fun b b' W own acc h hb => ⟨V.less b b' W own acc h.1 hb, h.2⟩
  lt := fun b W own acc h => V.lt b W own acc h.1
  call := fun b W own acc s h => (V.call b a W own acc s h.1 h.2).mono fun e W' ⟨h1, own', h2, h3⟩ => ⟨h1, own', ⟨h2, h.2.block (h3.block _ h.2.lt (V.ne _ _ _ _ h.1))⟩, h3⟩

/-- own and one block more -/
def plus (own : Nat → Prop) (b : Nat) : Nat → Prop := fun i => own i ∨ i = b
theorem Keeps.plus {o1 o2 : Nat → Prop} {a b : World} (h : Keeps o1 a o2 b) (m : Nat) : Keeps (plus o1 m) a (plus o2 m) b :=
  ⟨h.os, h.tape, h.output, h.size, fun i hi hn => h.block i hi (fun ho => hn (.inl ho)), fun i hi ho => ho.elim (fun k => .inl (h.own i hi k)) .inr⟩
theorem Keeps.of_only {o : Nat → Prop} {a b : World} {m : Nat} (h : Only m a b) : Keeps (Go.Proofs.YtbanhcaahabboaaGreatDoor.plus o m) a (Go.Proofs.YtbanhcaahabboaaGreatDoor.plus o m) b :=
  ⟨World.grownBy.os h, World.grownBy.tape h, World.grownBy.output h, h.size, fun i hi hn => h.block hi (fun e => hn (.inr e)), fun _ _ h => h⟩

/-- What walk leaves. -/
def WalkPost {α : Type} (Ma b : Nat) (J : Nat → World → (Nat → Prop) → α → Prop) (a : ByteArray → Int) (own : Nat → Prop) (W : World) (acc : α) (e : Ending) (W' : World) : Prop :=
  (∃ v, e = .returned v) ∧ ∃ own', J b W' own' acc ∧ AMap W' Ma a ∧ Keeps (plus own Ma) W (plus own' Ma) W'

section
variable {α : Type} {K : Nat} {caps : Array Value} {Ma : Nat} {J : Nat → World → (Nat → Prop) → α → Prop} {step : (ByteArray → Int) → ByteArray → α → α} {w0 : World} {L : Nat}

def WalkIH (K : Nat) (caps : Array Value) (Ma : Nat) (J : Nat → World → (Nat → Prop) → α → Prop) (step : (ByteArray → Int) → ByteArray → α → α) (w0 : World) (L n : Nat) : Prop :=
  ∀ (t : Fm) (v : Value), t.sz < n → FmV w0 L t v → ∀ (b : Nat) (W : World) (own : Nat → Prop) (a : ByteArray → Int) (acc : α), J (b + t.sz) W own acc → AMap W Ma a → (∀ s, 0 ≤ a s ∧ a s + t.sz ≤ 4611686018427387904) →
    Calls Tryz.prog 94 #[v, .map (some Ma), .func (.func K) #[] caps] W (WalkPost Ma b J a own W (t.fold step a acc))

set_option maxRecDepth 100000 in
set_option maxHeartbeats 1000000 in
theorem walk_atom (V : Walks K caps Ma J step) {l k : Tm} {r : Int} {v : Value} (h : FmV w0 L (.atom l r k) v) (b : Nat) (W : World) (own : Nat → Prop) (a : ByteArray → Int) (acc : α) (hJ : J (b + (Fm.atom l r k).sz) W own acc) (hA : AMap W Ma a) :
    Calls Tryz.prog 94 #[v, .map (some Ma), .func (.func K) #[] caps] W (WalkPost Ma b J a own W ((Fm.atom l r k).fold step a acc)) := by
  have H := Lib.hid h
  have HV := Lib.hid V
  have HJ := Lib.hid hJ
  have HA := Lib.hid hA
  clear V hJ hA
  obtain ⟨x, y, rfl, hx, hy⟩ := h
  have HX := Lib.hid hx
  have HY := Lib.hid hy
  obtain ⟨T, x, rfl⟩ := hx.iface
  obtain ⟨U, y, rfl⟩ := hy.iface
  clear hx hy
  go_enter Tryz.func94, Tryz.ntmps94
  go_wp2_with fail
  have hlt := HV.out.lt _ _ _ _ HJ.out
  have HLT := Lib.hid hlt
  clear hlt
  refine (occ_any (HV.out.visits a) _ l _ (Nat.lt_succ_self _) HX.out (b + k.sz) _ own acc ⟨HV.out.less _ _ _ _ _ (HV.out.ext _ _ _ _ _ HJ.out ((Ext.refl W).alloc _)) (by simp only [Fm.sz]; omega), HA.out.ext ((Ext.refl W).alloc _)⟩).mono ?_
  rintro e w1 ⟨⟨v1, rfl⟩, own1, ⟨hJ1, hA1⟩, hk1⟩
  have c2 : w1.cell? ⟨W.heap.size, 2, none⟩ = some (.iface U y) := by
    rw [hk1.cell (p := ⟨W.heap.size, 2, none⟩) (by simp) (fun ho => by have := HLT.out _ ho; simp at this)]
    simp [go_sem]
  have HJ1 := Lib.hid hJ1
  have HA1 := Lib.hid hA1
  have HK1 := Lib.hid (Keeps.trans (Keeps.of_ext ((Ext.refl W).alloc _)) hk1)
  clear hJ1 hA1 hk1
  go_wp2_with fail
  clear c2
  refine (occ_any (HV.out.visits a) _ k _ (Nat.lt_succ_self _) HY.out b _ own1 _ ⟨HJ1.out, HA1.out⟩).mono ?_
  rintro e w2 ⟨⟨v2, rfl⟩, own2, ⟨hJ2, hA2⟩, hk2⟩
  have HJ2 := Lib.hid hJ2
  have HA2 := Lib.hid hA2
  have HK2 := Lib.hid (HK1.out.trans hk2)
  clear hJ2 hA2 hk2 HJ1 HA1 HK1
  go_wp2_with fail
  refine (parts_any (Fm.atom l r k) H.out).mono ?_
  rintro e w3 ⟨s2, rfl, hs, -, hx⟩
  obtain ⟨A, c, rfl⟩ := hs.len
  have HX3 := Lib.hid (Ext.trans ((Ext.refl w2).alloc _) hx)
  clear hs hx
  simp only [Fm.kids, List.length_nil]
  go_wp2_with fail
  refine wp_loop_rounds 1 ?_
  rw [rounds_succ]
  go_wp2_with fail
  go_end0
  exact ⟨⟨_, rfl⟩, own2, HV.out.ext _ _ _ _ _ HJ2.out HX3.out, HA2.out.ext HX3.out, (HK2.out.trans (Keeps.of_ext HX3.out)).plus Ma⟩

set_option maxRecDepth 100000 in
set_option maxHeartbeats 1000000 in
theorem walk_plain (V : Walks K caps Ma J step) {n : Nat} (ih : WalkIH K caps Ma J step w0 L n) (t : Fm) (v : Value) (hcl : t.cls = 0) (hsz : t.sz < n + 1) (h : FmV w0 L t v) (b : Nat) (W : World) (own : Nat → Prop) (a : ByteArray → Int) (acc : α) (hJ : J (b + t.sz) W own acc) (hA : AMap W Ma a) (hb : ∀ s, 0 ≤ a s ∧ a s + t.sz ≤ 4611686018427387904) :
    Calls Tryz.prog 94 #[v, .map (some Ma), .func (.func K) #[] caps] W (WalkPost Ma b J a own W (t.fold step a acc)) := by
  have H := Lib.hid h
  have HV := Lib.hid V
  have HJ := Lib.hid hJ
  have HA := Lib.hid hA
  have HB := Lib.hid hb
  have HC := Lib.hid hcl
  have IH := Lib.hid ih
  have HLT := Lib.hid (V.lt _ _ _ _ hJ)
  obtain ⟨T, x, rfl, hT, hT'⟩ := h.plain hcl
  have hlen := t.kids_len
  clear h V hJ hA hb hcl ih
  go_enter Tryz.func94, Tryz.ntmps94
  go_wp2_with fail
  refine (parts_any t H.out).mono ?_
  rintro e w1 ⟨s, rfl, hs, hf, hx⟩
  obtain ⟨A, c, rfl⟩ := hs.len
  have HX : Hid (Ext W w1) := by
    have : Ext W w1 := (((Ext.refl W).alloc _).alloc _).trans hx
    exact this
  have HS := Lib.hid hs
  have HF := Lib.hid hf
  clear hs hf hx
  go_wp2_with fail
  go_loopw [40] (fun iv wr => ∃ k : Nat, k ≤ t.kids.length ∧ iv = .int .i64 k ∧ Hid (∃ own', J (b + fmsSz (t.kids.drop k)) wr own' (fmsFold step (t.kids.take k) a acc) ∧ AMap wr Ma a ∧ Keeps (plus own Ma) w1 (plus own' Ma) wr)) (fun iv _ => t.kids.length - (intOf iv).toNat)
  case atStart =>
    exact ⟨0, Nat.zero_le _, rfl, ⟨own, HV.out.less _ _ _ _ _ (HV.out.ext _ _ _ _ _ HJ.out HX.out) (by have := fmsSz_kids t; simp only [List.drop_zero]; omega), HA.out.ext HX.out, Keeps.refl _ _⟩⟩
  case round =>
    obtain ⟨k, hk, rfl, ⟨own', hJ', hA', hk'⟩⟩ := hrel
    have HJ' := Lib.hid hJ'
    have HA' := Lib.hid hA'
    have HK' := Lib.hid hk'
    clear hJ' hA' hk'
    by_cases hlt : k < t.kids.length
    · obtain ⟨ad, y, rfl, hc, hp⟩ := SlR.get_ (SlR.keeps HS.out HK'.out (fun ad n c e => fun ho => by
        have h1 := HF.out ad n c e
        have h3 := HA.out.lt
        rcases ho with ho | ho
        · have h2 := HLT.out _ ho
          simp at h1; omega
        · simp at h1; omega)) k hlt
      have HP := Lib.hid hp
      obtain ⟨U, y, rfl⟩ := hp.iface
      clear hp
      go_wp2_with fail
      have hkl := t.kids_lt _ (List.getElem_mem hlt)
      refine (IH.out (t.kids[k]) _ (by omega) HP.out _ _ _ _ _ (by rw [fmsSz_drop _ _ hlt, Nat.add_comm (t.kids[k]).sz, ← Nat.add_assoc] at HJ'; exact HJ'.out) HA'.out (fun s => by have := HB.out s; omega)).mono ?_
      rintro e w2 ⟨⟨v2, rfl⟩, own2, hJ2, hA2, hk2⟩
      have HJ2 := Lib.hid hJ2
      have HA2 := Lib.hid hA2
      have HK2 := Lib.hid hk2
      clear hJ2 hA2 hk2 hc
      go_wp2_with fail
      go_roundw
      case rel => exact ⟨k + 1, by omega, by go_num, ⟨own2, by rw [fmsFold_take step _ _ _ _ hlt]; exact HJ2.out, HA2.out, HK'.out.trans HK2.out⟩⟩
      case measure => simp [intOf]; omega
    · have hke : k = t.kids.length := by omega
      have HD : Hid (J b wr own' (t.fold step a acc)) := by
        have := HV.out.less _ b _ _ _ HJ'.out (by omega)
        rw [hke, List.take_length, ← Fm.fold_kids step t a acc HC.out] at this
        exact this
      clear hke
      go_wp2_with fail
      go_end0
      exact ⟨⟨_, rfl⟩, own', HD.out, HA'.out, (Keeps.of_ext HX.out).trans HK'.out⟩

set_option maxRecDepth 100000 in
set_option maxHeartbeats 1000000 in
theorem walk_quant (V : Walks K caps Ma J step) {n : Nat} (ih : WalkIH K caps Ma J step w0 L n) {al : Bool} {s : ByteArray} {f : Fm} {v : Value} (hsz : (Fm.quant al s f).sz < n + 1) (h : FmV w0 L (.quant al s f) v) (b : Nat) (W : World) (own : Nat → Prop) (a : ByteArray → Int) (acc : α) (hJ : J (b + (Fm.quant al s f).sz) W own acc) (hA : AMap W Ma a) (hb : ∀ t, 0 ≤ a t ∧ a t + (Fm.quant al s f).sz ≤ 4611686018427387904) :
    Calls Tryz.prog 94 #[v, .map (some Ma), .func (.func K) #[] caps] W (WalkPost Ma b J a own W ((Fm.quant al s f).fold step a acc)) := by
  have H := Lib.hid h
  have HV := Lib.hid V
  have HJ := Lib.hid hJ
  have HA := Lib.hid hA
  have HB := Lib.hid hb
  have IH := Lib.hid ih
  have HLT := Lib.hid (V.lt _ _ _ _ hJ)
  obtain ⟨x, rfl, hx⟩ := h
  have HX := Lib.hid hx
  obtain ⟨T, x, rfl⟩ := hx.iface
  have hbs := hb s
  have hmlt := hA.lt
  obtain ⟨W2, hW2⟩ : ∃ W2, (W.alloc (Obj.cells #[.nilIface, .int .i64 0, .nilIface] 97)).alloc (Obj.cells #[.bool al, .string s, .iface T x] 99) = W2 := ⟨_, rfl⟩
  have hx2 : Ext W W2 := by rw [← hW2]; exact ((Ext.refl W).alloc _).alloc _
  have c1 : W2.cell? ⟨W.heap.size + 1, 1, none⟩ = some (.string s) := by rw [← hW2]; simp [go_sem]
  have hsz2 : W.heap.size + 1 < W2.heap.size := by rw [← hW2]; simp
  have hA2 := hA.ext hx2
  have hl := hA2.look s
  obtain ⟨W3, hp, hA3, ho3⟩ := hA2.put s (a s + 1)
  have hA3' : AMap W3 Ma (bump a s) := by
    have : (fun t => if t = s then a s + 1 else a t) = bump a s := by
      funext t; unfold bump; by_cases e : t = s
      · rw [if_pos e, if_pos e, e]
      · rw [if_neg e, if_neg e]
    rw [← this]; exact hA3
  clear hx V hJ hA hb ih hA3
  simp only [Fm.sz] at hbs
  generalize hg : a s = q at *
  have HG := Lib.hid hg
  have HC1 : Hid (W3.cell? ⟨W.heap.size + 1, 1, none⟩ = some (.string s)) := by
    have : W3.cell? ⟨W.heap.size + 1, 1, none⟩ = some (.string s) := by rw [ho3.cell (p := ⟨W.heap.size + 1, 1, none⟩) (by simpa using hsz2) (by simp; omega)]; exact c1
    exact this
  have HJ3 : Hid (J (b + (Fm.quant al s f).sz) W3 own acc) := by
    have : J (b + (Fm.quant al s f).sz) W3 own acc := HV.out.map _ _ _ _ _ (HV.out.ext _ _ _ _ _ HJ.out hx2) ho3
    exact this
  have HA3 := Lib.hid hA3'
  have HK3 : Hid (Keeps (plus own Ma) W (plus own Ma) W3) := by
    have : Keeps (plus own Ma) W (plus own Ma) W3 := (Keeps.of_ext hx2).trans (Keeps.of_only ho3)
    exact this
  have hsz3 := ho3.size
  clear hg hA3' ho3 hA2 hx2
  go_enter Tryz.func94, Tryz.ntmps94
  go_wp2_with fail
  clear hl hp hW2 c1
  refine (parts_any (Fm.quant al s f) H.out).mono ?_
  rintro e w4 ⟨s4, rfl, hs, hf, hx⟩
  obtain ⟨ks, hks⟩ : ∃ ks, (Fm.quant al s f).kids = ks := ⟨_, rfl⟩
  rw [hks] at hs
  have hlen : ks.length ≤ 2 := by rw [← hks]; exact Fm.kids_len _
  have HKS := Lib.hid hks
  clear hks
  obtain ⟨A, c, rfl⟩ := hs.len
  have HS := Lib.hid hs
  have HF := Lib.hid hf
  have HX4 := Lib.hid hx
  clear hs hf hx
  go_wp2_with fail
  go_loopw [40] (fun iv wr => ∃ k : Nat, k ≤ ks.length ∧ iv = .int .i64 k ∧ Hid (∃ own', J (b + fmsSz (ks.drop k)) wr own' (fmsFold step (ks.take k) (bump a s) acc) ∧ AMap wr Ma (bump a s) ∧ Keeps (plus own Ma) w4 (plus own' Ma) wr)) (fun iv _ => ks.length - (intOf iv).toNat)
  case atStart =>
    exact ⟨0, Nat.zero_le _, rfl, ⟨own, HV.out.less _ _ _ _ _ (HV.out.ext _ _ _ _ _ HJ3.out HX4.out) (by have := fmsSz_kids (Fm.quant al s f); rw [HKS.out] at this; simp only [List.drop_zero]; omega), HA3.out.ext HX4.out, Keeps.refl _ _⟩⟩
  case round =>
    obtain ⟨k, hk, rfl, ⟨own', hJ', hA', hk'⟩⟩ := hrel
    have HJ' := Lib.hid hJ'
    have HA' := Lib.hid hA'
    have HK' := Lib.hid hk'
    clear hJ' hA' hk'
    by_cases hlt : k < ks.length
    · obtain ⟨ad, y, rfl, hc, hp⟩ := SlR.get_ (SlR.keeps HS.out HK'.out (fun ad n c e => fun ho => by
        have h1 := HF.out ad n c e
        rcases ho with ho | ho
        · have h2 := HLT.out _ ho
          omega
        · omega)) k hlt
      have HP := Lib.hid hp
      obtain ⟨U, y, rfl⟩ := hp.iface
      clear hp
      go_wp2_with fail
      have hkl : ks[k].sz < (Fm.quant al s f).sz := Fm.kids_lt _ _ (by rw [HKS.out]; exact List.getElem_mem hlt)
      refine (IH.out (ks[k]) _ (by omega) HP.out _ _ _ _ _ (by rw [fmsSz_drop _ _ hlt, Nat.add_comm (ks[k]).sz, ← Nat.add_assoc] at HJ'; exact HJ'.out) HA'.out (fun t => by have := HB.out t; unfold bump; split <;> omega)).mono ?_
      rintro e w5 ⟨⟨v2, rfl⟩, own2, hJ2, hA2, hk2⟩
      have HJ2 := Lib.hid hJ2
      have HA2 := Lib.hid hA2
      have HK2 := Lib.hid hk2
      clear hJ2 hA2 hk2 hc
      go_wp2_with fail
      go_roundw
      case rel => exact ⟨k + 1, by omega, by go_num, ⟨own2, by rw [fmsFold_take step _ _ _ _ hlt]; exact HJ2.out, HA2.out, HK'.out.trans HK2.out⟩⟩
      case measure => simp [intOf]; omega
    · have HKE : Hid (k = ks.length) := by
        have : k = ks.length := by omega
        exact this
      have c1 : wr.cell? ⟨W.heap.size + 1, 1, none⟩ = some (.string s) := by
        have hx4 := HX4.out
        rw [HK'.out.cell (p := ⟨W.heap.size + 1, 1, none⟩) (by have := hx4.size; simp; omega) (fun ho => by
          rcases ho with ho | ho
          · have := HLT.out _ ho; dsimp only at this; omega
          · simp at ho; omega), hx4.cell (p := ⟨W.heap.size + 1, 1, none⟩) (by simp; omega)]
        exact HC1.out
      have hb1 : bump a s s = q + 1 := by unfold bump; rw [if_pos rfl, HG.out]
      have hl := HA'.out.look s
      rw [hb1] at hl
      obtain ⟨W6, hp, hA6, ho6⟩ := HA'.out.put s q
      have HD : Hid (WalkPost Ma b J a own W ((Fm.quant al s f).fold step a acc) (.returned (.tuple #[])) W6) := by
        have hJ6 : J b W6 own' (Fm.fold step f (bump a s) acc) := by
          have := HV.out.less _ b _ _ _ (HV.out.map _ _ _ _ _ HJ'.out ho6) (by omega)
          rw [HKE.out, List.take_length, ← HKS.out] at this
          exact this
        have hA6' : AMap W6 Ma a := by
          have : (fun t => if t = s then q else bump a s t) = a := by
            funext t; unfold bump; by_cases e : t = s
            · rw [if_pos e, e, HG.out]
            · rw [if_neg e, if_neg e]
          rw [← this]; exact hA6
        exact ⟨⟨_, rfl⟩, own', hJ6, hA6', ((HK3.out.trans (Keeps.of_ext HX4.out)).trans HK'.out).trans (Keeps.of_only ho6)⟩
      clear hb1 hA6 ho6 HG
      go_wp2_with fail
      go_end0
      exact HD.out

theorem walk_ih (V : Walks K caps Ma J step) (n : Nat) : WalkIH K caps Ma J step w0 L n := by
  induction n with
  | zero => intro t v ht; omega
  | succ n ih =>
    intro t v ht h b W own a acc hJ hA hb
    cases t with
    | atom l r k => exact walk_atom V h b W own a acc hJ hA
    | quant al s f => exact walk_quant V ih ht h b W own a acc hJ hA hb
    | truth tb => exact walk_plain V ih _ v rfl ht h b W own a acc hJ hA hb
    | not f => exact walk_plain V ih _ v rfl ht h b W own a acc hJ hA hb
    | and f g => exact walk_plain V ih _ v rfl ht h b W own a acc hJ hA hb
    | or f g => exact walk_plain V ih _ v rfl ht h b W own a acc hJ hA hb
    | imp f g => exact walk_plain V ih _ v rfl ht h b W own a acc hJ hA hb
    | iff f g => exact walk_plain V ih _ v rfl ht h b W own a acc hJ hA hb

end
end Go.Proofs.YtbanhcaahabboaaGreatDoor

/- Layer 38: prenex.relation, complement; what builder.poly is to do. -/
namespace Go.Proofs.YtbanhcaahabboaaGreatDoor
open Go.RowKit
attribute [local go_sem] as_Num as_Name as_Add as_Sub as_Mul as_Neg as_Pow as_Truth as_Atom as_Not as_And as_Or as_Implies as_Iff as_Quant

theorem relation_any (r : Int) (w : World) : Calls Tryz.prog 58 #[.int .i64 r] w fun e w' => e = .returned (.int .i64 (relM r)) ∧ w' = w := by
  unfold relM
  by_cases h1 : r < 1
  · rw [if_pos (.inl h1)]
    go_enter Tryz.func58, Tryz.ntmps58
    go_wp2_with fail
    go_ret
    exact ⟨rfl, rfl⟩
  · by_cases h2 : 6 < r
    · rw [if_pos (.inr h2)]
      go_enter Tryz.func58, Tryz.ntmps58
      go_wp2_with fail
      go_ret
      exact ⟨rfl, rfl⟩
    · rw [if_neg (by omega)]
      go_enter Tryz.func58, Tryz.ntmps58
      go_wp2_with fail
      go_ret
      exact ⟨rfl, rfl⟩
theorem compl_any (r : Int) (w : World) : Calls Tryz.prog 57 #[.int .i64 r] w fun e w' => e = .returned (.int .i64 (cmpl r)) ∧ w' = w := by
  unfold cmpl
  rcases (show r = 1 ∨ r = 2 ∨ r = 4 ∨ r = 5 ∨ r = 6 ∨ (r ≠ 1 ∧ r ≠ 2 ∧ r ≠ 4 ∧ r ≠ 5 ∧ r ≠ 6) by omega) with rfl | rfl | rfl | rfl | rfl | ⟨h1, h2, h3, h4, h5⟩
  all_goals
    first | rw [if_neg h1, if_neg h2, if_neg h3, if_neg h4, if_neg h5] | skip
    first | (have k1 : (r == 1) = false := by simp [h1]
             have k2 : (r == 2) = false := by simp [h2]
             have k3 : (r == 4) = false := by simp [h3]
             have k4 : (r == 5) = false := by simp [h4]
             have k5 : (r == 6) = false := by simp [h5]
             clear h1 h2 h3 h4 h5) | skip
    go_enter Tryz.func57, Tryz.ntmps57
    go_wp2_with fail
    go_ret
    exact ⟨rfl, rfl⟩

/-- The builder at gb looks its levels up in this map. -/
def PBld (W : World) (gb bl : Nat) (g : ByteArray → Int) : Prop := W.cell? ⟨gb, 2, none⟩ = some (.map (some bl)) ∧ gb < W.heap.size ∧ AMap W bl g
theorem PBld.ext {W W' : World} {gb bl : Nat} {g : ByteArray → Int} (h : PBld W gb bl g) (hx : Ext W W') : PBld W' gb bl g := ⟨(hx.cell (p := ⟨gb, 2, none⟩) h.2.1).trans h.1, Nat.lt_of_lt_of_le h.2.1 hx.size, h.2.2.ext hx⟩
section
variable {w0 : World} {L gb bl : Nat} {g : ByteArray → Int}
def PolyIH (w0 : World) (L gb bl : Nat) (g : ByteArray → Int) (t : Tm) : Prop := ∀ (v : Value) (W : World), Ext w0 W → TmV w0 L t v → PBld W gb bl g → t.wt ≤ 400 →
  Calls Tryz.prog 80 #[.pointer (some ⟨gb, 0, none⟩), v] W (RetPl (fun b => W.heap.size ≤ b) (polF g t) W)
theorem Bd.fit400 {p : Pl} {W : Nat} (h : Bd p W) (hw : W ≤ 400) : Fit p 400 401 := (h.mono hw).fit
theorem wt_two {a b : Tm} (h : capI (maxI a.wt b.wt + 1) ≤ 400) : a.wt ≤ 400 ∧ b.wt ≤ 400 := by
  have h1 := capI_eq h
  have hm : a.wt ≤ maxI a.wt b.wt ∧ b.wt ≤ maxI a.wt b.wt := by unfold maxI; split <;> omega
  omega
theorem wt_two_mul {a b : Tm} (h : capI (a.wt + b.wt) ≤ 400) : a.wt ≤ 400 ∧ b.wt ≤ 400 := by
  have h1 := capI_eq h
  have := a.wt_bd; have := b.wt_bd
  omega
end
end Go.Proofs.YtbanhcaahabboaaGreatDoor
