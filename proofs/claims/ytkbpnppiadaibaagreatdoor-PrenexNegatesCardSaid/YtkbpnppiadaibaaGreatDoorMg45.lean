/- A tree that passes Is is the tree of a formula; kinds. -/
import Derived.Test.YtkbpnppiadaibaaGreatDoorMg43
import Derived.Test.YtkbpnppiadaibaaGreatDoorOfF
set_option linter.unusedSimpArgs false
set_option linter.unusedVariables false

namespace Go.Proofs.YtkbpnppiadaibaaGreatDoor
open Go.RowKit

theorem is_fm_ih (L n : Nat) : ∀ t : Tr, t.sz < n → t.is false = true → (∀ x ∈ t.list, x.d.ds.length ≤ L) → ∃ f, IsFm L f t ∧ f.sz = t.sz := by
  induction n with
  | zero => intro t h; omega
  | succ n ih =>
    intro t hn h hl
    obtain ⟨h1, h2, h3, h4⟩ := Tr.is_open h
    have hs := t.sz_ks
    have hk : t.d.kind = 8 ∨ t.d.kind = 9 ∨ t.d.kind = 10 ∨ t.d.kind = 11 ∨ t.d.kind = 12 ∨ t.d.kind = 13 ∨ t.d.kind = 14 ∨ t.d.kind = 15 := by
      have hnt : ¬ (1 ≤ t.d.kind ∧ t.d.kind ≤ 7) := by
        unfold termK at h2
        intro hc
        simp [hc.1, hc.2] at h2
      have hge : 0 ≤ kidN t.d.kind := by omega
      rcases Int.lt_or_le t.d.kind 1 with hlt | hge1
      · exfalso
        have : kidN t.d.kind = -1 := by unfold kidN; repeat rw [if_neg (by omega)]
        omega
      · rcases Int.lt_or_le 15 t.d.kind with hgt | hle
        · exfalso
          have : kidN t.d.kind = -1 := by unfold kidN; repeat rw [if_neg (by omega)]
          omega
        · omega
    have two : t.ks.length = 2 → (∀ x ∈ t.ks, x.is false = true) → ∃ x y a b, t.ks = [x, y] ∧ IsFm L a x ∧ IsFm L b y ∧ a.sz + b.sz + 1 = t.sz := by
      intro hlen hall
      obtain ⟨x, y, hxy⟩ := len2 hlen
      rw [hxy] at hs hall
      simp only [trsSz] at hs
      obtain ⟨a, ha, ha2⟩ := ih x (by omega) (hall x (by simp)) (fun z hz => hl z (list_kid (by rw [hxy]; simp) hz))
      obtain ⟨b, hb, hb2⟩ := ih y (by omega) (hall y (by simp)) (fun z hz => hl z (list_kid (by rw [hxy]; simp) hz))
      exact ⟨x, y, a, b, hxy, ha, hb, by omega⟩
    have one : t.ks.length = 1 → (∀ x ∈ t.ks, x.is false = true) → ∃ x a, t.ks = [x] ∧ IsFm L a x ∧ a.sz + 1 = t.sz := by
      intro hlen hall
      obtain ⟨x, hx⟩ := len1 hlen
      rw [hx] at hs hall
      simp only [trsSz] at hs
      obtain ⟨a, ha, ha2⟩ := ih x (by omega) (hall x (by simp)) (fun z hz => hl z (list_kid (by rw [hx]; simp) hz))
      exact ⟨x, a, hx, ha, by omega⟩
    rcases hk with hk | hk | hk | hk | hk | hk | hk | hk
    · rw [hk] at h1
      have hz := len0 (l := t.ks) (by simp [kidN] at h1; omega)
      rw [hz] at hs
      exact ⟨.truth t.d.truth, ⟨hk, hz, rfl⟩, by simpa [trsSz, Fm.sz] using hs.symm⟩
    · have hr : 1 ≤ t.d.rel ∧ t.d.rel ≤ 6 := by
        unfold Nd.inRange at h3
        rw [if_neg (by omega), if_pos hk] at h3
        simpa using h3
      rw [hk] at h1 h4
      obtain ⟨x, y, hxy⟩ := len2 (l := t.ks) (by simp [kidN] at h1; omega)
      have h4' : ∀ z ∈ t.ks, z.is true = true := by simpa [kidT] using h4
      rw [hxy] at hs
      simp only [trsSz] at hs
      obtain ⟨a, ha, ha2⟩ := is_tm (L := L) x (h4' x (by rw [hxy]; simp)) (fun z hz => hl z (list_kid (by rw [hxy]; simp) hz))
      obtain ⟨b, hb, hb2⟩ := is_tm (L := L) y (h4' y (by rw [hxy]; simp)) (fun z hz => hl z (list_kid (by rw [hxy]; simp) hz))
      exact ⟨.atom a t.d.rel b, ⟨hk, rfl, hr.1, hr.2, x, y, hxy, ha, hb⟩, by simp only [Fm.sz]; omega⟩
    · rw [hk] at h1 h4
      obtain ⟨x, a, e, ha, hsz⟩ := one (by simp [kidN] at h1; omega) (by simpa [kidT] using h4)
      exact ⟨.not a, ⟨hk, x, e, ha⟩, hsz⟩
    · rw [hk] at h1 h4
      obtain ⟨x, y, a, b, e, ha, hb, hsz⟩ := two (by simp [kidN] at h1; omega) (by simpa [kidT] using h4)
      exact ⟨.and a b, ⟨hk, x, y, e, ha, hb⟩, hsz⟩
    · rw [hk] at h1 h4
      obtain ⟨x, y, a, b, e, ha, hb, hsz⟩ := two (by simp [kidN] at h1; omega) (by simpa [kidT] using h4)
      exact ⟨.or a b, ⟨hk, x, y, e, ha, hb⟩, hsz⟩
    · rw [hk] at h1 h4
      obtain ⟨x, y, a, b, e, ha, hb, hsz⟩ := two (by simp [kidN] at h1; omega) (by simpa [kidT] using h4)
      exact ⟨.imp a b, ⟨hk, x, y, e, ha, hb⟩, hsz⟩
    · rw [hk] at h1 h4
      obtain ⟨x, y, a, b, e, ha, hb, hsz⟩ := two (by simp [kidN] at h1; omega) (by simpa [kidT] using h4)
      exact ⟨.iff a b, ⟨hk, x, y, e, ha, hb⟩, hsz⟩
    · rw [hk] at h1 h4
      obtain ⟨x, a, e, ha, hsz⟩ := one (by simp [kidN] at h1; omega) (by simpa [kidT] using h4)
      exact ⟨.quant t.d.all t.d.name a, ⟨hk, rfl, rfl, x, e, ha⟩, hsz⟩
theorem is_fm {L : Nat} (t : Tr) (h : t.is false = true) (hl : ∀ x ∈ t.list, x.d.ds.length ≤ L) : ∃ f, IsFm L f t ∧ f.sz = t.sz := is_fm_ih L (t.sz + 1) t (Nat.lt_succ_self _) h hl

/-- A tree has at most two kids: its list. -/
theorem list1 {t x : Tr} (h : t.ks = [x]) : t.list = t :: x.list := by rw [Tr.list_ks, h]; simp [listL]
theorem list2 {t x y : Tr} (h : t.ks = [x, y]) : t.list = t :: (x.list ++ y.list) := by rw [Tr.list_ks, h]; simp [listL]
theorem list0 {t : Tr} (h : t.ks = []) : t.list = [t] := by rw [Tr.list_ks, h]; simp [listL]
/-- What is asked of all trees of a formula, kind by kind. -/
theorem fm_ind (L : Nat) (P : Fm → Tr → Prop)
    (h8 : ∀ b t, t.d.kind = 8 → t.list = [t] → t.d.truth = b → P (.truth b) t)
    (h9 : ∀ l r k t x y, t.d.kind = 9 → 1 ≤ r → r ≤ 6 → IsFm L (.atom l r k) t → t.list = t :: (x.list ++ y.list) → IsTm L l x → IsTm L k y → P (.atom l r k) t)
    (h10 : ∀ f t x, t.d.kind = 10 → t.list = t :: x.list → P f x → P (.not f) t)
    (h11 : ∀ f g t x y, t.d.kind = 11 → t.list = t :: (x.list ++ y.list) → P f x → P g y → P (.and f g) t)
    (h12 : ∀ f g t x y, t.d.kind = 12 → t.list = t :: (x.list ++ y.list) → P f x → P g y → P (.or f g) t)
    (h13 : ∀ f g t x y, t.d.kind = 13 → t.list = t :: (x.list ++ y.list) → P f x → P g y → P (.imp f g) t)
    (h14 : ∀ f g t x y, t.d.kind = 14 → t.list = t :: (x.list ++ y.list) → P f x → P g y → P (.iff f g) t)
    (h15 : ∀ f t x, t.d.kind = 15 → t.list = t :: x.list → P f x → P (.quant t.d.all t.d.name f) t)
    (f : Fm) : ∀ t, IsFm L f t → P f t := by
  induction f with
  | truth b => rintro t ⟨hk, hz, hb⟩; exact h8 b t hk (list0 hz) hb
  | atom l r k =>
    intro t h
    obtain ⟨hk, hr, hr1, hr2, x, y, e, hx, hy⟩ := id h
    exact h9 l r k t x y hk hr1 hr2 h (list2 e) hx hy
  | not f ih => rintro t ⟨hk, x, e, hx⟩; exact h10 f t x hk (list1 e) (ih x hx)
  | and f g ihf ihg => rintro t ⟨hk, x, y, e, hx, hy⟩; exact h11 f g t x y hk (list2 e) (ihf x hx) (ihg y hy)
  | or f g ihf ihg => rintro t ⟨hk, x, y, e, hx, hy⟩; exact h12 f g t x y hk (list2 e) (ihf x hx) (ihg y hy)
  | imp f g ihf ihg => rintro t ⟨hk, x, y, e, hx, hy⟩; exact h13 f g t x y hk (list2 e) (ihf x hx) (ihg y hy)
  | iff f g ihf ihg => rintro t ⟨hk, x, y, e, hx, hy⟩; exact h14 f g t x y hk (list2 e) (ihf x hx) (ihg y hy)
  | quant a s f ih => rintro t ⟨hk, ha, hs, x, e, hx⟩; subst ha hs; exact h15 f t x hk (list1 e) (ih x hx)

end Go.Proofs.YtkbpnppiadaibaaGreatDoor

/- Reference 38: SmallTree; law 38: right. -/
namespace Go.Proofs.YtkbpnppiadaibaaGreatDoor
open Go.RowKit

/-- How many equivalences. -/
def Tr.iffs (t : Tr) : Nat := (t.list.filter fun x => x.d.kind == 14).length
theorem filter_len_take {α : Type} (l : List α) (f : α → Bool) (k : Nat) (hk : k < l.length) : ((l.take (k + 1)).filter f).length = ((l.take k).filter f).length + (if f l[k] then 1 else 0) := by
  rw [List.take_succ_eq_append_getElem hk, List.filter_append, List.length_append]
  cases h : f l[k] <;> simp [h]

set_option maxRecDepth 100000 in
set_option maxHeartbeats 2000000 in
theorem smallT_any {w : World} {p : Nat → Prop} (t : Tr) (v : Value) (h : TrV w p t v) (n k0 : Nat) (hn : n ≤ 1000) : Calls Tryz.prog 11 #[v, .int .i64 n, .int .i64 k0] w (RetB (t.few n && decide (t.iffs ≤ k0)) w) := by
  have HT := Lib.hid h
  obtain ⟨A0, n0, c0, A, c, rfl, -, hl1, hl2, h4⟩ := h.open_
  clear h h4
  unfold ndV
  unfold ndV at HT
  obtain ⟨W, hW⟩ : ∃ W, w.alloc (.cells #[.int .i64 t.d.kind, .bool t.d.neg, .slice A0 n0 c0, .string t.d.name, .int .i64 t.d.exp, .int .i64 t.d.rel, .bool t.d.truth, .bool t.d.all, .slice A t.ks.length c] 29) = W := ⟨_, rfl⟩
  have hWx : Ext w W := by rw [← hW]; exact (Ext.refl w).alloc _
  have hWs : W.heap.size = w.heap.size + 1 := by rw [← hW]; simp
  have hbx : Box9 W w.heap.size t.d (.slice A0 n0 c0) (.slice A t.ks.length c) := by rw [← hW]; exact Box9.new w t.d _ _ _
  obtain ⟨b0, b1, b2, b3, b4, b5, b6, b7, b8⟩ := id hbx
  have HBX := Lib.hid hbx
  have HWX := Lib.hid hWx
  have HRM := Lib.hid (fewT_any t _ (HT.out.ext hWx) n hn)
  have HFS := Lib.hid (fun h => (few_list (t := t) (n := n) h).1)
  clear hWx hbx
  generalize t.few n = fw at *
  go_enter Tryz.func11, Tryz.ntmps11
  go_wp2_with fail
  clear hW b0 b1 b2 b3 b4 b5 b6 b7 b8
  refine HRM.out.mono ?_
  rintro e w1 ⟨rfl, x1⟩
  have X1 := Lib.hid x1
  clear HRM
  cases fw
  case false =>
    clear x1
    go_wp2_with fail
    go_ret
    exact ⟨rfl, HWX.out.trans X1.out⟩
  obtain ⟨b0, b1, b2, b3, b4, b5, b6, b7, b8⟩ := HBX.out.ext x1 (by omega)
  have hsz := HFS.out rfl
  have HLI := Lib.hid (list_any t _ (HT.out.ext (HWX.out.trans x1)) (by omega))
  have hlp : 0 < t.list.length := by rw [t.list_len]; exact t.sz_pos
  have hll : t.list.length ≤ 1000 := by rw [t.list_len]; omega
  have HF : Hid (t.iffs = (t.list.filter fun x => x.d.kind == 14).length) := rfl
  generalize t.iffs = tif at *
  clear x1 HFS
  generalize hls : t.list = ls at *
  have HLS := Lib.hid hls
  clear hls
  go_wp2_with fail
  refine HLI.out.mono ?_
  rintro e w2 ⟨v2, u2, rfl, l2, i2, -, x2⟩
  obtain ⟨ad, cap, rfl, hc1, hc2, hat⟩ := l2.see hlp
  obtain ⟨g', cap', rfl, -, -⟩ := i2.pos hlp
  have L2 := Lib.hid hat
  have X2 := Lib.hid x2
  clear b0 b1 b2 b3 b4 b5 b6 b7 b8 l2 i2 hat x2 HLI HBX HT
  go_wp2_with fail
  go_loopw [7, 22] (fun cv iv wr => ∃ k : Nat, k ≤ ls.length ∧ iv = .int .i64 k ∧ Hid (∃ j : Nat, cv = .int .i64 j ∧ j ≤ k ∧ ((ls.take k).filter fun x => x.d.kind == 14).length = j ∧ Ext w2 wr)) (fun _ iv _ => ls.length - (intOf iv).toNat)
  case atStart => exact ⟨0, Nat.zero_le _, rfl, ⟨0, rfl, Nat.le_refl _, by simp, Ext.refl w2⟩⟩
  case round =>
    obtain ⟨k, hk, rfl, ⟨j, rfl, hjk, hal, hx⟩⟩ := hrel
    have HA := Lib.hid hal
    have HX := Lib.hid hx
    by_cases hlt : k < ls.length
    · obtain ⟨A0, c0, A1, c1, ⟨e0, e1, e2, e3, e4, e5, e6, e7, e8⟩, ht⟩ := L2.out wr hx k hlt
      have HTK := Lib.hid (filter_len_take ls (fun x => x.d.kind == 14) k hlt)
      clear ht hal hx e1 e2 e3 e4 e5 e6 e7 e8
      generalize ls[k].d.kind = kd at *
      by_cases h14 : (kd == 14) = true
      · have HN : Hid (((ls.take (k + 1)).filter fun x => x.d.kind == 14).length = j + 1) := by
          have : ((ls.take (k + 1)).filter fun x => x.d.kind == 14).length = j + 1 := by rw [HTK.out, HA.out, if_pos h14]
          exact this
        go_wp2_with fail
        go_roundw
        case rel => exact ⟨k + 1, by omega, by go_num, ⟨j + 1, by go_num, by omega, HN.out, HX.out⟩⟩
        case measure => simp [intOf]; omega
      · have HN : Hid (((ls.take (k + 1)).filter fun x => x.d.kind == 14).length = j) := by
          have : ((ls.take (k + 1)).filter fun x => x.d.kind == 14).length = j := by rw [HTK.out, HA.out, if_neg h14]; simp
          exact this
        have h14' : (kd == 14) = false := by simpa using h14
        clear h14
        go_wp2_with fail
        go_roundw
        case rel => exact ⟨k + 1, by omega, by go_num, ⟨j, rfl, by omega, HN.out, HX.out⟩⟩
        case measure => simp [intOf]; omega
    · have hke : k = ls.length := by omega
      have HJ : Hid (tif = j) := by
        have : tif = j := by rw [HF.out, ← HA.out, hke, List.take_length]
        exact this
      clear hal hx
      go_wp2_with fail
      go_ret
      refine ⟨?_, HWX.out.trans (X1.out.trans (X2.out.trans HX.out))⟩
      rw [HJ.out]
      simp

set_option maxRecDepth 100000 in
set_option maxHeartbeats 2000000 in
theorem right38_any {w : World} {p : Nat → Prop} (t : Tr) (v : Value) (h : TrV w p t v) : Calls Tryz.prog 10 #[v] w (RetB (t.few 120 && decide (t.iffs ≤ 4) && t.is false) w) := by
  have HT := Lib.hid h
  obtain ⟨A0, n0, c0, A, c, rfl, -, hl1, hl2, h4⟩ := h.open_
  clear h h4
  unfold ndV
  unfold ndV at HT
  obtain ⟨W, hW⟩ : ∃ W, w.alloc (.cells #[.int .i64 t.d.kind, .bool t.d.neg, .slice A0 n0 c0, .string t.d.name, .int .i64 t.d.exp, .int .i64 t.d.rel, .bool t.d.truth, .bool t.d.all, .slice A t.ks.length c] 29) = W := ⟨_, rfl⟩
  have hWx : Ext w W := by rw [← hW]; exact (Ext.refl w).alloc _
  have hWs : W.heap.size = w.heap.size + 1 := by rw [← hW]; simp
  have hbx : Box9 W w.heap.size t.d (.slice A0 n0 c0) (.slice A t.ks.length c) := by rw [← hW]; exact Box9.new w t.d _ _ _
  obtain ⟨b0, b1, b2, b3, b4, b5, b6, b7, b8⟩ := id hbx
  have HBX := Lib.hid hbx
  have HWX := Lib.hid hWx
  have HST := Lib.hid (smallT_any t _ (HT.out.ext hWx) 120 4 (by omega))
  have HI := Lib.hid (fun W' (hx : Ext w W') => is_any t _ W' false (HT.out.ext hx))
  clear hWx hbx
  generalize (t.few 120 && decide (t.iffs ≤ 4)) = fw at *
  generalize t.is false = r at *
  go_enter Tryz.func10, Tryz.ntmps10
  go_wp2_with fail
  clear hW b0 b1 b2 b3 b4 b5 b6 b7 b8
  refine HST.out.mono ?_
  rintro e w1 ⟨rfl, x1⟩
  have X1 := Lib.hid (HWX.out.trans x1)
  obtain ⟨b0, b1, b2, b3, b4, b5, b6, b7, b8⟩ := HBX.out.ext x1 (by omega)
  clear HST
  cases fw
  · clear x1 b0 b1 b2 b3 b4 b5 b6 b7 b8
    go_wp2_with fail
    go_ret
    exact ⟨rfl, X1.out⟩
  · clear x1
    go_wp2_with fail
    clear b0 b1 b2 b3 b4 b5 b6 b7 b8
    refine (HI.out _ X1.out).mono ?_
    rintro e w2 ⟨rfl, x2⟩
    have X2 := Lib.hid (X1.out.trans x2)
    clear x2
    go_wp2_with fail
    go_ret
    exact ⟨rfl, X2.out⟩
end Go.Proofs.YtkbpnppiadaibaaGreatDoor
