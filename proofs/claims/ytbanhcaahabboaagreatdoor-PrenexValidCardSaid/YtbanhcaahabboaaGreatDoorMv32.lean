/- Layer 27: prenex.kind, Level. -/
import Derived.Test.YtbanhcaahabboaaGreatDoorMv27
import Derived.Test.YtbanhcaahabboaaGreatDoorDeg
import Derived.Test.YtbanhcaahabboaaGreatDoorMv10
import Derived.LoopTactic
set_option linter.unusedSimpArgs false
set_option linter.unusedVariables false

namespace Go.Proofs.YtbanhcaahabboaaGreatDoor
open Go.RowKit

def kindN (k : Int) : Int := if k < 0 ∨ 4 < k then 0 else k
theorem kindN_iff (k j : Int) (h1 : 1 ≤ j) (h2 : j ≤ 4) : (kindN k == j) = (k == j) := by
  have : (kindN k = j) ↔ (k = j) := by unfold kindN; split <;> omega
  rw [Bool.eq_iff_iff]; simpa using this
set_option maxRecDepth 100000 in
theorem kind_any {w : World} (t : Mx) (s A K : Value) : Calls Tryz.prog 56 #[mxV t s A K] w (RetI (kindN t.kind) w) := by
  unfold mxV
  generalize t.kind = k
  generalize t.rel = r
  generalize t.p.lv = l
  generalize t.p.neg = n
  by_cases h1 : k < 0
  · rw [show kindN k = 0 from if_pos (.inl h1)]
    go_enter Tryz.func56, Tryz.ntmps56
    go_wp2_with fail
    go_ret
    exact ⟨rfl, (Ext.refl w).alloc _⟩
  by_cases h2 : 4 < k
  · rw [show kindN k = 0 from if_pos (.inr h2)]
    go_enter Tryz.func56, Tryz.ntmps56
    go_wp2_with fail
    go_ret
    exact ⟨rfl, (Ext.refl w).alloc _⟩
  · rw [show kindN k = k from if_neg (by omega)]
    go_enter Tryz.func56, Tryz.ntmps56
    go_wp2_with fail
    go_ret
    exact ⟨rfl, (Ext.refl w).alloc _⟩
mutual
/-- prenex.Level -/
def Mx.lvl : Mx → Int
  | .mk k _ p ks => if k = 2 then p.nf.lv else if k = 3 ∨ k = 4 then lvlM 0 ks else 0
def lvlM : Int → List Mx → Int
  | a, [] => a
  | a, t :: r => lvlM (max a t.lvl) r
end
theorem lvlM_append (a : Int) (l r : List Mx) : lvlM a (l ++ r) = lvlM (lvlM a l) r := by
  induction l generalizing a with
  | nil => rfl
  | cons t l ih => simp only [List.cons_append, lvlM]; exact ih _
theorem lvlM_take (a : Int) (l : List Mx) (k : Nat) (hk : k < l.length) : lvlM a (l.take (k + 1)) = max (lvlM a (l.take k)) l[k].lvl := by
  rw [List.take_succ_eq_append_getElem hk, lvlM_append]; rfl
theorem Mx.lvl_eq (t : Mx) : t.lvl = if t.kind = 2 then t.p.nf.lv else if t.kind = 3 ∨ t.kind = 4 then lvlM 0 t.ks else 0 := by
  cases t; rw [Mx.lvl]; rfl
def MLvlIH (n : Nat) : Prop := ∀ (q : Nat → Prop) (t : Mx) (v : Value) (w : World), t.sz < n → t.sz ≤ 1000000 → t.small → MxV w q t v → Calls Tryz.prog 22 #[v] w (RetI t.lvl w)

set_option maxRecDepth 100000 in
set_option maxHeartbeats 4000000 in
theorem mlvl_ih (n : Nat) : MLvlIH n := by
  induction n with
  | zero => intro q t v w h; omega
  | succ n ih =>
  intro q t v w hn hbig hsm h
  have hkl : t.ks.length ≤ 1000000 := by have := t.ks_len; omega
  have IH := Lib.hid ih
  have HSZ := Lib.hid (fun k hk => t.kid_le k hk)
  have HSM := Lib.hid (Mx.ks_small hsm)
  have hps := Mx.p_small hsm
  obtain ⟨A0, n0, c0, A, n1, c1, K, c, rfl, hp, hl1, hl2, h4⟩ := h.open_
  have HP := Lib.hid hp
  have H4 := Lib.hid h4
  have HLV := Lib.hid t.lvl_eq
  obtain ⟨W, hW⟩ : ∃ W, w.alloc (.cells #[.int .i64 t.kind, .int .i64 t.rel, .int .i64 t.p.lv, .bool t.p.neg, .slice A0 n0 c0, .slice A n1 c1, .slice K t.ks.length c] 34) = W := ⟨_, rfl⟩
  have hWx : Ext w W := by rw [← hW]; exact (Ext.refl w).alloc _
  have hWs : W.heap.size = w.heap.size + 1 := by rw [← hW]; simp
  have hbx : Box7 W w.heap.size t (.slice A0 n0 c0) (.slice A n1 c1) (.slice K t.ks.length c) := by rw [← hW]; exact Box7.new w t _ _ _ _
  have HWX := Lib.hid hWx
  have HBX := Lib.hid hbx
  have HKIND := Lib.hid (kind_any (w := W) t (.slice A0 n0 c0) (.slice A n1 c1) (.slice K t.ks.length c))
  obtain ⟨b0, b1, b2, b3, b4, b5, b6⟩ := hbx
  have hk2 := kindN_iff t.kind 2 (by omega) (by omega)
  have hk3 := kindN_iff t.kind 3 (by omega) (by omega)
  have hk4 := kindN_iff t.kind 4 (by omega) (by omega)
  clear h ih h4 hWx hp hsm
  unfold mxV at *
  go_enter Tryz.func22, Tryz.ntmps22
  go_wp2_with fail
  clear hW b0 b1 b2 b3 b4 b5 b6
  refine HKIND.out.mono ?_
  rintro e w1 ⟨rfl, x1⟩
  generalize kindN t.kind = kd at *
  have X1 := Lib.hid (HWX.out.trans x1)
  obtain ⟨b0, b1, b2, b3, b4, b5, b6⟩ := HBX.out.ext x1 (by omega)
  have hs1 := x1.size
  clear x1 HKIND HWX HBX
  by_cases k2 : t.kind = 2
  · have hlv := HLV.out
    rw [if_pos k2] at hlv
    have q2 : (kd == 2) = true := by rw [hk2]; simpa using k2
    have hnf : t.p.nf.sz ≤ 1099511627776 := Nat.le_trans (Pl.nf_sz t.p) (Nat.le_trans (Nat.pow_le_pow_left (show t.p.sz + 2 ≤ 42 by omega) 4) (by decide))
    have HC := Lib.hid (mLevel_any t.p _ (HP.out.ext X1.out) (by omega) hnf (by omega))
    unfold plV at HC
    have HL := Lib.hid hlv
    generalize t.p.nf.lv = lv at *
    clear k2 hk2 hk3 hk4 hlv HLV hnf
    go_wp2_with fail
    refine HC.out.mono ?_
    rintro e w2 ⟨rfl, x2⟩
    have X2 := Lib.hid (X1.out.trans x2)
    clear x2 HC b0 b1 b2 b3 b4 b5 b6
    go_wp2_with fail
    go_ret
    exact ⟨by rw [HL.out]; rfl, X2.out⟩
  by_cases k34 : t.kind = 3 ∨ t.kind = 4
  · have hlv := HLV.out
    rw [if_neg k2, if_pos k34] at hlv
    have HL := Lib.hid hlv
    have q2 : (kd == 2) = false := by rw [hk2]; simpa using k2
    have D6 := Lib.hid b6
    clear hlv HLV hk2 k2 HP
    rcases k34 with k3 | k4
    · have q3 : (kd == 3) = true := by rw [hk3]; simpa using k3
      clear k3 hk3 hk4
      go_wp2_with fail
      clear b0 b1 b2 b3 b4 b5 b6
      go_loopw [3, 19] (fun mv iv wr => ∃ (k : Nat), k ≤ t.ks.length ∧ iv = .int .i64 k ∧ Hid (mv = .int .i64 (lvlM 0 (t.ks.take k)) ∧ Ext w1 wr)) (fun _ iv _ => t.ks.length - (intOf iv).toNat)
      case atStart => exact ⟨0, Nat.zero_le _, rfl, ⟨by simp [lvlM], Ext.refl w1⟩⟩
      case round =>
        obtain ⟨k, hk, rfl, ⟨rfl, hxw⟩⟩ := hrel
        have HXW := Lib.hid hxw
        by_cases hlt : k < t.ks.length
        · obtain ⟨ad, B0, m0, d0, B1, m1, d1, K2, n2, c2, rfl, hadb, ⟨e0, e1, e2, e3, e4, e5, e6⟩, hkt⟩ := MxsAt.kid (MxsAt.ext H4.out (X1.out.trans hxw)) k hlt
          have HKT := Lib.hid hkt
          have hsz : t.ks[k].sz < n ∧ t.ks[k].sz ≤ 1000000 := by have := HSZ.out k hlt; omega
          have HSTEP : Hid (lvlM 0 (t.ks.take (k + 1)) = max (lvlM 0 (t.ks.take k)) t.ks[k].lvl) := by
            have : lvlM 0 (t.ks.take (k + 1)) = max (lvlM 0 (t.ks.take k)) t.ks[k].lvl := lvlM_take _ _ _ hlt
            exact this
          clear hkt hxw
          generalize lvlM 0 (t.ks.take k) = mm at *
          have hkid := IH.out q t.ks[k] _ (wr.alloc (.cells #[.int .i64 t.ks[k].kind, .int .i64 t.ks[k].rel, .int .i64 t.ks[k].p.lv, .bool t.ks[k].p.neg, .slice B0 m0 d0, .slice B1 m1 d1, .slice K2 n2 c2] 34)) hsz.1 hsz.2 (mxSmall_mem HSM.out (List.getElem_mem hlt)) (HKT.out.ext ((Ext.refl wr).alloc _))
          have HKID := Lib.hid hkid
          clear hkid HKT
          generalize t.ks[k].lvl = lk at *
          go_wp2_with fail
          refine HKID.out.mono ?_
          rintro e w2 ⟨rfl, x2⟩
          have X2 := Lib.hid ((HXW.out.alloc _).trans x2)
          clear x2 HKID e0 e1 e2 e3 e4 e5 e6
          go_wp2_with fail
          go_roundw
          case rel => exact ⟨k + 1, by omega, by go_num, ⟨by rw [HSTEP.out], X2.out⟩⟩
          case measure => simp [intOf]; omega
        · have hke : k = t.ks.length := by omega
          have HF : Hid (t.lvl = lvlM 0 (t.ks.take k)) := by
            rw [hke, List.take_length]
            exact HL.out
          clear hxw hke
          generalize lvlM 0 (t.ks.take k) = mm at *
          go_wp2_with fail
          go_ret
          exact ⟨by rw [HF.out]; rfl, X1.out.trans HXW.out⟩
    · have q3 : (kd == 3) = false := by rw [hk3]; simp; omega
      have q4 : (kd == 4) = true := by rw [hk4]; simpa using k4
      clear k4 hk3 hk4
      go_wp2_with fail
      clear b0 b1 b2 b3 b4 b5 b6
      go_loopw [3, 19] (fun mv iv wr => ∃ (k : Nat), k ≤ t.ks.length ∧ iv = .int .i64 k ∧ Hid (mv = .int .i64 (lvlM 0 (t.ks.take k)) ∧ Ext w1 wr)) (fun _ iv _ => t.ks.length - (intOf iv).toNat)
      case atStart => exact ⟨0, Nat.zero_le _, rfl, ⟨by simp [lvlM], Ext.refl w1⟩⟩
      case round =>
        obtain ⟨k, hk, rfl, ⟨rfl, hxw⟩⟩ := hrel
        have HXW := Lib.hid hxw
        by_cases hlt : k < t.ks.length
        · obtain ⟨ad, B0, m0, d0, B1, m1, d1, K2, n2, c2, rfl, hadb, ⟨e0, e1, e2, e3, e4, e5, e6⟩, hkt⟩ := MxsAt.kid (MxsAt.ext H4.out (X1.out.trans hxw)) k hlt
          have HKT := Lib.hid hkt
          have hsz : t.ks[k].sz < n ∧ t.ks[k].sz ≤ 1000000 := by have := HSZ.out k hlt; omega
          have HSTEP : Hid (lvlM 0 (t.ks.take (k + 1)) = max (lvlM 0 (t.ks.take k)) t.ks[k].lvl) := by
            have : lvlM 0 (t.ks.take (k + 1)) = max (lvlM 0 (t.ks.take k)) t.ks[k].lvl := lvlM_take _ _ _ hlt
            exact this
          clear hkt hxw
          generalize lvlM 0 (t.ks.take k) = mm at *
          have hkid := IH.out q t.ks[k] _ (wr.alloc (.cells #[.int .i64 t.ks[k].kind, .int .i64 t.ks[k].rel, .int .i64 t.ks[k].p.lv, .bool t.ks[k].p.neg, .slice B0 m0 d0, .slice B1 m1 d1, .slice K2 n2 c2] 34)) hsz.1 hsz.2 (mxSmall_mem HSM.out (List.getElem_mem hlt)) (HKT.out.ext ((Ext.refl wr).alloc _))
          have HKID := Lib.hid hkid
          clear hkid HKT
          generalize t.ks[k].lvl = lk at *
          go_wp2_with fail
          refine HKID.out.mono ?_
          rintro e w2 ⟨rfl, x2⟩
          have X2 := Lib.hid ((HXW.out.alloc _).trans x2)
          clear x2 HKID e0 e1 e2 e3 e4 e5 e6
          go_wp2_with fail
          go_roundw
          case rel => exact ⟨k + 1, by omega, by go_num, ⟨by rw [HSTEP.out], X2.out⟩⟩
          case measure => simp [intOf]; omega
        · have hke : k = t.ks.length := by omega
          have HF : Hid (t.lvl = lvlM 0 (t.ks.take k)) := by
            rw [hke, List.take_length]
            exact HL.out
          clear hxw hke
          generalize lvlM 0 (t.ks.take k) = mm at *
          go_wp2_with fail
          go_ret
          exact ⟨by rw [HF.out]; rfl, X1.out.trans HXW.out⟩
  · have hlv := HLV.out
    rw [if_neg k2, if_neg k34] at hlv
    have HL := Lib.hid hlv
    have q2 : (kd == 2) = false := by rw [hk2]; simpa using k2
    have q3 : (kd == 3) = false := by rw [hk3]; simp; omega
    have q4 : (kd == 4) = false := by rw [hk4]; simp; omega
    clear hlv HLV hk2 hk3 hk4 k2 k34
    go_wp2_with fail
    go_ret
    exact ⟨by rw [HL.out]; rfl, X1.out⟩
theorem mlvl_any {q : Nat → Prop} (t : Mx) (v : Value) (w : World) (hbig : t.sz ≤ 1000000) (hsm : t.small) (h : MxV w q t v) : Calls Tryz.prog 22 #[v] w (RetI t.lvl w) :=
  mlvl_ih (t.sz + 1) q t v w (Nat.lt_succ_self _) hbig hsm h
end Go.Proofs.YtbanhcaahabboaaGreatDoor

/- Layer 34: the names that occur in terms and formulas, passed to a function. -/
namespace Go.Proofs.YtbanhcaahabboaaGreatDoor
open Go.RowKit
attribute [local go_sem] as_Num as_Name as_Add as_Sub as_Mul as_Neg as_Pow as_Truth as_Atom as_Not as_And as_Or as_Implies as_Iff as_Quant

/-- Only the blocks of own, and new ones, have turned; own' is own and new ones. -/
structure Keeps (own : Nat → Prop) (W : World) (own' : Nat → Prop) (W' : World) : Prop where
  os : W'.os = W.os
  tape : W'.tape = W.tape
  output : W'.output = W.output
  size : W.heap.size ≤ W'.heap.size
  block : ∀ i, i < W.heap.size → ¬ own i → W'.heap[i]? = W.heap[i]?
  own : ∀ i, i < W.heap.size → own' i → own i

theorem Keeps.refl (own : Nat → Prop) (W : World) : Keeps own W own W := ⟨rfl, rfl, rfl, Nat.le_refl _, fun _ _ _ => rfl, fun _ _ h => h⟩
theorem Keeps.trans {o1 o2 o3 : Nat → Prop} {a b c : World} (h : Keeps o1 a o2 b) (k : Keeps o2 b o3 c) : Keeps o1 a o3 c :=
  ⟨k.os.trans h.os, k.tape.trans h.tape, k.output.trans h.output, Nat.le_trans h.size k.size,
    fun i hi hn => (k.block i (Nat.lt_of_lt_of_le hi h.size) (fun ho => hn (h.own i hi ho))).trans (h.block i hi hn),
    fun i hi ho => h.own i hi (k.own i (Nat.lt_of_lt_of_le hi h.size) ho)⟩
theorem Keeps.of_ext {o : Nat → Prop} {a b : World} (h : Ext a b) : Keeps o a o b :=
  ⟨h.below.os, h.below.tape, h.below.output, h.size, fun i hi _ => h.below.block i hi, fun _ _ h => h⟩
theorem Keeps.ext {w0 a b : World} {o1 o2 : Nat → Prop} (h : Keeps o1 a o2 b) (hx : Ext w0 a) (ho : ∀ i, o1 i → w0.heap.size ≤ i) : Ext w0 b :=
  ⟨h.os.trans hx.below.os, h.tape.trans hx.below.tape, h.output.trans hx.below.output, Nat.le_trans hx.size h.size,
    fun i hi => (h.block i (Nat.lt_of_lt_of_le hi hx.size) (fun hh => by have := ho i hh; omega)).trans (hx.below.block i hi)⟩
theorem Keeps.cell {o1 o2 : Nat → Prop} {a b : World} (h : Keeps o1 a o2 b) {p : Addr} (hp : p.block < a.heap.size) (hn : ¬ o1 p.block) : b.cell? p = a.cell? p := World.cell?_of_block (h.block _ hp hn)
theorem SlR.keeps {α : Type} {P : α → Value → Prop} {w w' : World} {v : Value} {l : List α} {o1 o2 : Nat → Prop} (h : SlR (fun _ => P) w v l) (k : Keeps o1 w o2 w') (hn : ∀ ad n c, v = .slice (some ad) n c → ¬ o1 ad.block) : SlR (fun _ => P) w' v l := by
  obtain ⟨A, c, e, h1, h2, h3⟩ := h
  refine ⟨A, c, e, h1, h2, fun j hj => ?_⟩
  obtain ⟨ad, x, rfl, hb, hc, hp⟩ := h3 j hj
  exact ⟨ad, x, rfl, Nat.lt_of_lt_of_le hb k.size, (k.cell (by rw [block_of_add]; exact hb) (by rw [block_of_add]; exact hn _ _ _ e)).trans hc, hp⟩
theorem SlR.get_ {α : Type} {P : α → Value → Prop} {w : World} {A : Option Addr} {n c : Nat} {l : List α} (h : SlR (fun _ => P) w (.slice A n c) l) (j : Nat) (hj : j < l.length) : ∃ ad x, A = some ad ∧ w.cell? (ad.add j) = some x ∧ P l[j] x := by
  obtain ⟨A', c', e, -, -, h3⟩ := h
  obtain ⟨ad, x, rfl, -, hc, hp⟩ := h3 j hj
  injection e with e1 e2 e3
  exact ⟨ad, x, e1, hc, hp⟩
theorem SlR.len {α : Type} {P : World → α → Value → Prop} {w : World} {v : Value} {l : List α} (h : SlR P w v l) : ∃ A c, v = .slice A l.length c := by
  obtain ⟨A', c', e, -⟩ := h
  exact ⟨A', c', e⟩

/-- A function that is called with names: what it does to a state. -/
structure Visits {α : Type} (K : Nat) (caps : Array Value) (I : Nat → World → (Nat → Prop) → α → Prop) (step : ByteArray → α → α) : Prop where
  enter : ∀ args W, (callFunc K args).run Tryz.prog W = .ok (.enter K args) W
  ext : ∀ b W W' own acc, I b W own acc → Ext W W' → I b W' own acc
  less : ∀ b b' W own acc, I b W own acc → b' ≤ b → I b' W own acc
  lt : ∀ b W own acc, I b W own acc → ∀ i, own i → i < W.heap.size
  call : ∀ b W own acc s, I (b + 1) W own acc → Calls Tryz.prog K (#[.string s] ++ caps) W fun e W' => (∃ v, e = .returned v) ∧ ∃ own', I b W' own' (step s acc) ∧ Keeps own W own' W'

/-- What passing the names of a term does. -/
def Tm.fold {α : Type} (st : ByteArray → α → α) : Tm → α → α
  | .num _, x => x
  | .name s, x => st s x
  | .add a b, x => b.fold st (a.fold st x)
  | .sub a b, x => b.fold st (a.fold st x)
  | .mul a b, x => b.fold st (a.fold st x)
  | .neg a, x => a.fold st x
  | .pow a _, x => a.fold st x
/-- What passing the names of terms does. -/
def tmsFold {α : Type} (st : ByteArray → α → α) (l : List Tm) (x : α) : α := l.foldl (fun acc k => k.fold st acc) x

theorem tmsFold_take {α : Type} (st : ByteArray → α → α) (l : List Tm) (x : α) (k : Nat) (h : k < l.length) : tmsFold st (l.take (k + 1)) x = (l[k]).fold st (tmsFold st (l.take k) x) := by
  unfold tmsFold
  rw [List.take_succ_eq_append_getElem h, List.foldl_append]; rfl

def Tm.isName : Tm → Bool
  | .name _ => true
  | _ => false
theorem Tm.fold_kids {α : Type} (st : ByteArray → α → α) (t : Tm) (x : α) (h : t.isName = false) : t.fold st x = tmsFold st t.kids x := by
  cases t <;> simp_all [Tm.fold, Tm.kids, tmsFold, Tm.isName]
/-- How many terms a term has in it. -/
def Tm.sz : Tm → Nat
  | .num _ => 1
  | .name _ => 1
  | .add a b => a.sz + b.sz + 1
  | .sub a b => a.sz + b.sz + 1
  | .mul a b => a.sz + b.sz + 1
  | .neg a => a.sz + 1
  | .pow a _ => a.sz + 1
theorem Tm.kids_lt (t k : Tm) (h : k ∈ t.kids) : k.sz < t.sz := by
  cases t <;> simp [Tm.kids] at h
  · rcases h with rfl | rfl <;> simp [Tm.sz] <;> omega
  · rcases h with rfl | rfl <;> simp [Tm.sz] <;> omega
  · rcases h with rfl | rfl <;> simp [Tm.sz] <;> omega
  · subst h; simp [Tm.sz]
  · subst h; simp [Tm.sz]
/-- .. and how many terms have. -/
def tmsSz (l : List Tm) : Nat := (l.map Tm.sz).sum
theorem tmsSz_kids (t : Tm) : tmsSz t.kids + 1 = t.sz := by cases t <;> simp [Tm.kids, tmsSz, Tm.sz] <;> omega
theorem tmsSz_drop (l : List Tm) (k : Nat) (h : k < l.length) : tmsSz (l.drop k) = l[k].sz + tmsSz (l.drop (k + 1)) := by
  unfold tmsSz
  rw [List.drop_eq_getElem_cons h, List.map_cons, List.sum_cons]
theorem Tm.kids_len (t : Tm) : t.kids.length ≤ 2 := by cases t <;> simp [Tm.kids]
theorem TmV.notName {w : World} {L : Nat} {t : Tm} {v : Value} (h : TmV w L t v) (hn : t.isName = false) : ∃ T x, v = .iface T x ∧ ¬ T = 95 := by
  cases t <;> (simp only [TmV] at h) <;> first | (cases hn; done) | (obtain ⟨_, e, _⟩ := h; exact ⟨_, _, e, by decide⟩) | (obtain ⟨_, _, e, _⟩ := h; exact ⟨_, _, e, by decide⟩)

set_option maxRecDepth 100000 in
set_option maxHeartbeats 1000000 in
theorem occ_any {α : Type} {K : Nat} {caps : Array Value} {I : Nat → World → (Nat → Prop) → α → Prop} {step : ByteArray → α → α} (V : Visits K caps I step) {w0 : World} {L : Nat} (n : Nat) :
    ∀ (t : Tm) (v : Value), t.sz < n → TmV w0 L t v → ∀ (b : Nat) (W : World) (own : Nat → Prop) (acc : α), I (b + t.sz) W own acc →
    Calls Tryz.prog 147 #[v, .func (.func K) #[] caps] W fun e W' => (∃ v, e = .returned v) ∧ ∃ own', I b W' own' (t.fold step acc) ∧ Keeps own W own' W' := by
  induction n with
  | zero => intro t v ht; omega
  | succ n ih =>
  intro t v ht h b W own acc hI
  have IH := Lib.hid ih
  have hK := V.enter
  have HV := Lib.hid V
  have HI := Lib.hid hI
  have H := Lib.hid h
  clear ih V hI
  by_cases hn : t.isName = true
  · cases t with
    | name s =>
      obtain rfl := h
      go_enter Tryz.func147, Tryz.ntmps147
      go_wp2_with fail
      refine (HV.out.call b _ _ _ s (HV.out.ext _ _ _ _ _ HI.out ((Ext.refl W).alloc _))).mono ?_
      rintro e w1 ⟨⟨v1, rfl⟩, own1, hI1, hk1⟩
      have HI1 := Lib.hid hI1
      have HK1 := Lib.hid (Keeps.trans (Keeps.of_ext ((Ext.refl W).alloc _)) hk1)
      clear hI1 hk1
      go_wp2_with fail
      refine (subterms_any (.name s) H.out).mono ?_
      rintro e w2 ⟨s2, rfl, hs, -, hx⟩
      obtain ⟨A, c, rfl⟩ := hs.len
      have HX := Lib.hid hx
      clear hs hx
      simp only [Tm.kids, List.length_nil]
      go_wp2_with fail
      refine wp_loop_rounds 1 ?_
      rw [rounds_succ]
      go_wp2_with fail
      go_end0
      exact ⟨⟨_, rfl⟩, own1, HV.out.ext _ _ _ _ _ HI1.out HX.out, HK1.out.trans (Keeps.of_ext HX.out)⟩
    | _ => simp [Tm.isName] at hn
  · obtain ⟨T, x, rfl, hT⟩ := h.notName (by simpa using hn)
    have HN : Hid (t.isName = false) := by
      have : t.isName = false := by simpa using hn
      exact this
    clear h hn
    have hlen := t.kids_len
    go_enter Tryz.func147, Tryz.ntmps147
    go_wp2_with fail
    refine (subterms_any t H.out).mono ?_
    rintro e w1 ⟨s, rfl, hs, hf, hx⟩
    obtain ⟨A, c, rfl⟩ := hs.len
    have HX : Hid (Ext W w1) := by
      have : Ext W w1 := ((Ext.refl W).alloc _).trans hx
      exact this
    have HS := Lib.hid hs
    have HF := Lib.hid hf
    clear hs hf hx
    go_wp2_with fail
    go_loopw [21] (fun iv wr => ∃ k : Nat, k ≤ t.kids.length ∧ iv = .int .i64 k ∧ Hid (∃ own', I (b + tmsSz (t.kids.drop k)) wr own' (tmsFold step (t.kids.take k) acc) ∧ Keeps own w1 own' wr)) (fun iv _ => t.kids.length - (intOf iv).toNat)
    case atStart =>
      exact ⟨0, Nat.zero_le _, rfl, ⟨own, HV.out.less _ _ _ _ _ (HV.out.ext _ _ _ _ _ HI.out HX.out) (by have := tmsSz_kids t; simp only [List.drop_zero]; omega), Keeps.refl _ _⟩⟩
    case round =>
      obtain ⟨k, hk, rfl, ⟨own', hI', hk'⟩⟩ := hrel
      have HI' := Lib.hid hI'
      have HK' := Lib.hid hk'
      clear hI' hk'
      by_cases hlt : k < t.kids.length
      · obtain ⟨ad, y, rfl, hc, hp⟩ := SlR.get_ (SlR.keeps HS.out HK'.out (fun ad n c e => fun ho => by
          have h1 := HF.out ad n c e
          have h2 := HV.out.lt _ _ _ _ HI.out _ ho
          simp at h1; omega)) k hlt
        have HP := Lib.hid hp
        obtain ⟨U, y, rfl⟩ := hp.iface
        clear hp
        go_wp2_with fail
        refine (IH.out (t.kids[k]) _ (by have := t.kids_lt _ (List.getElem_mem hlt); omega) HP.out _ _ _ _ (by rw [tmsSz_drop _ _ hlt, Nat.add_comm (t.kids[k]).sz, ← Nat.add_assoc] at HI'; exact HI'.out)).mono ?_
        rintro e w2 ⟨⟨v2, rfl⟩, own2, hI2, hk2⟩
        have HI2 := Lib.hid hI2
        have HK2 := Lib.hid hk2
        clear hI2 hk2 hc
        go_wp2_with fail
        go_roundw
        case rel => exact ⟨k + 1, by omega, by go_num, ⟨own2, by rw [tmsFold_take step _ _ _ hlt]; exact HI2.out, HK'.out.trans HK2.out⟩⟩
        case measure => simp [intOf]; omega
      · have hke : k = t.kids.length := by omega
        have HD : Hid (I b wr own' (t.fold step acc)) := by
          have := HV.out.less _ b _ _ _ HI'.out (by omega)
          rw [hke, List.take_length, ← Tm.fold_kids step t acc HN.out] at this
          exact this
        clear hke
        go_wp2_with fail
        go_end0
        exact ⟨⟨_, rfl⟩, own', HD.out, (Keeps.of_ext HX.out).trans HK'.out⟩
end Go.Proofs.YtbanhcaahabboaaGreatDoor
