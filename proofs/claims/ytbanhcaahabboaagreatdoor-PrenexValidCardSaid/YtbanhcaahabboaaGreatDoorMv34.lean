/- Layer 34: formula.termNodes, Nodes, Atoms, small, limited. -/
import Derived.Test.YtbanhcaahabboaaGreatDoorMv33
import Derived.Test.YtbanhcaahabboaaGreatDoorMv29
import Derived.Test.YtbanhcaahabboaaGreatDoorMv0
set_option linter.unusedSimpArgs false
set_option linter.unusedVariables false

namespace Go.Proofs.YtbanhcaahabboaaGreatDoor
open Go.RowKit
attribute [local go_sem] as_Num as_Name as_Add as_Sub as_Mul as_Neg as_Pow as_Truth as_Atom as_Not as_And as_Or as_Implies as_Iff as_Quant

theorem tmsSz_take (l : List Tm) (k : Nat) (h : k < l.length) : tmsSz (l.take (k + 1)) = tmsSz (l.take k) + l[k].sz := by
  unfold tmsSz; rw [List.take_succ_eq_append_getElem h, List.map_append, List.sum_append, List.map_singleton, List.sum_singleton]
theorem fmsSz_take (l : List Fm) (k : Nat) (h : k < l.length) : fmsSz (l.take (k + 1)) = fmsSz (l.take k) + l[k].sz := by
  unfold fmsSz; rw [List.take_succ_eq_append_getElem h, List.map_append, List.sum_append, List.map_singleton, List.sum_singleton]
theorem tmsSz_le (l : List Tm) (k : Nat) : tmsSz (l.take k) ≤ tmsSz l := by
  have : tmsSz l = tmsSz (l.take k) + tmsSz (l.drop k) := by unfold tmsSz; rw [← List.sum_append, ← List.map_append, List.take_append_drop]
  omega
theorem fmsSz_le (l : List Fm) (k : Nat) : fmsSz (l.take k) ≤ fmsSz l := by
  have : fmsSz l = fmsSz (l.take k) + fmsSz (l.drop k) := by unfold fmsSz; rw [← List.sum_append, ← List.map_append, List.take_append_drop]
  omega

set_option maxRecDepth 100000 in
set_option maxHeartbeats 1000000 in
theorem termNodes_ih {w0 : World} {L : Nat} (n : Nat) : ∀ (t : Tm) (v : Value) (W : World), t.sz < n → t.sz ≤ 1099511627776 → TmV w0 L t v → Calls Tryz.prog 160 #[v] W (RetI t.sz W) := by
  induction n with
  | zero => intro t v W h; omega
  | succ n ih =>
    intro t v W hn hb h
    have IH := Lib.hid ih
    have H := Lib.hid h
    obtain ⟨T, x, rfl⟩ := h.iface
    have hlen := t.kids_len
    have hks := tmsSz_kids t
    clear ih h
    go_enter Tryz.func160, Tryz.ntmps160
    go_wp2_with fail
    refine (subterms_any t H.out).mono ?_
    rintro e w2 ⟨s2, rfl, hs, -, hx⟩
    obtain ⟨A, c, rfl⟩ := hs.len
    have HS := Lib.hid hs
    have HX := Lib.hid hx
    clear hs hx
    go_wp2_with fail
    go_loopw [3, 9] (fun av iv wr => ∃ k : Nat, k ≤ t.kids.length ∧ iv = .int .i64 k ∧ av = .int .i64 (1 + tmsSz (t.kids.take k) : Nat) ∧ Hid (Ext w2 wr)) (fun _ iv _ => t.kids.length - (intOf iv).toNat)
    case atStart => exact ⟨0, Nat.zero_le _, rfl, rfl, Ext.refl _⟩
    case round =>
      obtain ⟨k, hk, rfl, rfl, hx0⟩ := hrel
      have HXR := Lib.hid hx0.out
      clear hx0
      by_cases hlt : k < t.kids.length
      · obtain ⟨ad, y, rfl, hc, hp⟩ := SlR.get_ (SlR.ext HS.out (fun _ _ h => h) HXR.out) k hlt
        have HP := Lib.hid hp
        obtain ⟨U, y, rfl⟩ := hp.iface
        clear hp
        have hkl : t.kids[k].sz < t.sz := Tm.kids_lt _ _ (List.getElem_mem hlt)
        have hst := tmsSz_take t.kids k hlt
        have hsl := tmsSz_le t.kids (k + 1)
        obtain ⟨a, ha⟩ : ∃ a, 1 + tmsSz (t.kids.take k) = a := ⟨_, rfl⟩
        have HA : Hid (1 + tmsSz (t.kids.take (k + 1)) = a + t.kids[k].sz) := Lib.hid (by omega)
        have IH1 := Lib.hid (IH.out t.kids[k] (.iface U y) wr (by omega) (by omega) HP.out)
        rw [ha]
        have hw : IntKind.i64.wrap ((a : Int) + (t.kids[k].sz : Int)) = ((a + t.kids[k].sz : Nat) : Int) := by rw [IntKind.wrap_i64]; omega
        clear ha hst hsl
        generalize t.kids[k].sz = z at *
        go_wp2_with fail
        refine IH1.out.mono ?_
        rintro e w3 ⟨rfl, x3⟩
        have X3 := Lib.hid (HXR.out.trans x3)
        clear x3 hc
        go_wp2_with fail
        go_roundw
        case rel => exact ⟨k + 1, by omega, by go_num, by rw [HA.out, Int.natCast_add], X3⟩
        case measure => simp [intOf]; omega
      · have hke : k = t.kids.length := by omega
        have HZ : Hid (1 + tmsSz (t.kids.take k) = t.sz) := Lib.hid (by rw [hke, List.take_length]; omega)
        rw [HZ.out]
        go_wp2_with fail
        go_ret
        exact ⟨rfl, HX.out.trans HXR.out⟩
theorem termNodes_any {w0 W : World} {L : Nat} (t : Tm) {v : Value} (hb : t.sz ≤ 1099511627776) (h : TmV w0 L t v) : Calls Tryz.prog 160 #[v] W (RetI t.sz W) := termNodes_ih (t.sz + 1) t v W (Nat.lt_succ_self _) hb h

def Fm.isAtom : Fm → Bool
  | .atom _ _ _ => true
  | _ => false
/-- A formula is an atom or none. -/
theorem FmV.two {w : World} {L : Nat} {f : Fm} {v : Value} (h : FmV w L f v) : (∃ l r k x y, f = .atom l r k ∧ v = .iface 97 (.agg #[x, .int .i64 r, y]) ∧ TmV w L l x ∧ TmV w L k y) ∨ (f.isAtom = false ∧ ∃ T x, v = .iface T x ∧ ¬ T = 97) := by
  cases f <;> (simp only [FmV] at h)
  · exact .inr ⟨rfl, _, _, h, by decide⟩
  · obtain ⟨x, y, e, h1, h2⟩ := h
    exact .inl ⟨_, _, _, x, y, rfl, e, h1, h2⟩
  all_goals first | (obtain ⟨_, e, _⟩ := h; exact .inr ⟨rfl, _, _, e, by decide⟩) | (obtain ⟨_, _, e, _⟩ := h; exact .inr ⟨rfl, _, _, e, by decide⟩)
theorem Fm.sz_kids (f : Fm) (h : f.isAtom = false) : f.sz = 1 + fmsSz f.kids := by cases f <;> simp_all [Fm.isAtom, Fm.kids, fmsSz, Fm.sz] <;> omega
/-- How many atoms a formula has. -/
def Fm.atoms : Fm → Nat
  | .truth _ => 0
  | .atom _ _ _ => 1
  | .not f => f.atoms
  | .and f g => f.atoms + g.atoms
  | .or f g => f.atoms + g.atoms
  | .imp f g => f.atoms + g.atoms
  | .iff f g => f.atoms + g.atoms
  | .quant _ _ f => f.atoms
def fmsAt (l : List Fm) : Nat := (l.map Fm.atoms).sum
theorem fmsAt_take (l : List Fm) (k : Nat) (h : k < l.length) : fmsAt (l.take (k + 1)) = fmsAt (l.take k) + l[k].atoms := by
  unfold fmsAt; rw [List.take_succ_eq_append_getElem h, List.map_append, List.sum_append, List.map_singleton, List.sum_singleton]
theorem fmsAt_le (l : List Fm) (k : Nat) : fmsAt (l.take k) ≤ fmsAt l := by
  have : fmsAt l = fmsAt (l.take k) + fmsAt (l.drop k) := by unfold fmsAt; rw [← List.sum_append, ← List.map_append, List.take_append_drop]
  omega
theorem Fm.atoms_le (f : Fm) : f.atoms ≤ f.sz := by induction f <;> simp only [Fm.atoms, Fm.sz] <;> omega
theorem Fm.atoms_kids (f : Fm) : f.atoms = (if f.isAtom then 1 else 0) + fmsAt f.kids := by cases f <;> simp [Fm.isAtom, Fm.kids, fmsAt, Fm.atoms]

set_option maxRecDepth 100000 in
set_option maxHeartbeats 1000000 in
theorem nodes_ih {w0 : World} {L : Nat} (n : Nat) : ∀ (f : Fm) (v : Value) (W : World), f.sz < n → f.sz ≤ 1099511627776 → FmV w0 L f v → Calls Tryz.prog 109 #[v] W (RetI f.sz W) := by
  induction n with
  | zero => intro t v W h; omega
  | succ n ih =>
    intro f v W hn hb h
    have IH := Lib.hid ih
    have H := Lib.hid h
    have hlen := f.kids_len
    clear ih
    rcases h.two with ⟨l, r, k, x, y, rfl, rfl, hl, hr⟩ | ⟨hna, T, x, rfl, hT⟩
    · have hbb : l.sz + k.sz + 1 ≤ 1099511627776 := hb
      have HL := Lib.hid (fun W' => termNodes_any (W := W') l (by omega) hl)
      have HR := Lib.hid (fun W' => termNodes_any (W := W') k (by omega) hr)
      obtain ⟨T, x, rfl⟩ := hl.iface
      obtain ⟨U, y, rfl⟩ := hr.iface
      have HZ : Hid ((Fm.atom l r k).sz = l.sz + k.sz + 1) := Lib.hid rfl
      rw [HZ.out]
      obtain ⟨a, ha⟩ : ∃ a, l.sz = a := ⟨_, rfl⟩
      obtain ⟨b, hb'⟩ : ∃ b, k.sz = b := ⟨_, rfl⟩
      rw [ha] at HL hbb ⊢
      rw [hb'] at HR hbb ⊢
      obtain ⟨c, hc⟩ : ∃ c, a + b = c := ⟨_, rfl⟩
      have hw1 : IntKind.i64.wrap ((a : Int) + (b : Int)) = (c : Int) := by rw [IntKind.wrap_i64]; omega
      have hw2 : IntKind.i64.wrap (1 + (c : Int)) = ((c + 1 : Nat) : Int) := by rw [IntKind.wrap_i64]; omega
      rw [hc]
      clear h hl hr hb hn ha hb' hc HZ hlen
      go_enter Tryz.func109, Tryz.ntmps109
      obtain ⟨W1, hW⟩ : ∃ W1, W.alloc (.cells #[.iface T x, .int .i64 r, .iface U y] 97) = W1 := ⟨_, rfl⟩
      have HB : Hid (∀ W', Ext W1 W' → (Ext W1 W' ∧ W'.cell? ⟨W.heap.size, 0, none⟩ = some (.iface T x) ∧ W'.cell? ⟨W.heap.size, 2, none⟩ = some (.iface U y))) := by
        intro W' hx
        obtain ⟨hc, hf⟩ := hx.cells
        refine ⟨hx, ?_, ?_⟩ <;> (rw [hc _ _ (by rw [← hW]; simp), ← hW]; simp [go_sem])
      have HX0 : Hid (Ext W W1) := Lib.hid (by rw [← hW]; exact (Ext.refl W).alloc _)
      go_upto_region 4 with fail
      clear hW
      go_region_held3 (fun W' => Ext W1 W' ∧ W'.cell? ⟨W.heap.size, 0, none⟩ = some (.iface T x) ∧ W'.cell? ⟨W.heap.size, 2, none⟩ = some (.iface U y))
        (first | exact HB.out _ ((Ext.refl W1).drew) | exact HB.out _ (by assumption))
        (first
          | (go_at_call_of 160 (Value.iface T x)
             refine (HL.out _).mono ?_
             rintro e v1 ⟨rfl, x1⟩
             have y1 : Ext W1 v1 := Ext.trans ((Ext.refl W1).drew) x1)
          | (go_at_call_of 160 (Value.iface U y)
             refine (HR.out _).mono ?_
             rintro e v2 ⟨rfl, x2⟩
             have y2 : Ext W1 v2 := Ext.trans y1 x2))
      have HY2 := Lib.hid (HX0.out.trans y2)
      clear y1 y2 x1 x2 HB HX0
      go_wp2_with fail
      refine (parts_any (Fm.atom l r k) H.out).mono ?_
      rintro e w2 ⟨s2, rfl, hs, -, hx⟩
      obtain ⟨A, cc, rfl⟩ := hs.len
      have HX := Lib.hid (HY2.out.trans hx)
      have hl0 : (Fm.atom l r k).kids.length = 0 := rfl
      rw [hl0]
      clear hs hx hl0 HY2
      go_wp2_with fail
      go_loopw [3, 26] (fun av iv wr => iv = .int .i64 0 ∧ av = .int .i64 (c + 1 : Nat) ∧ Hid (Ext W wr)) (fun _ _ _ => 0)
      case atStart => exact ⟨rfl, rfl, HX⟩
      case round =>
        obtain ⟨rfl, rfl, hx0⟩ := hrel
        go_wp2_with fail
        go_ret
        exact ⟨rfl, hx0.out⟩
    · have hks := f.sz_kids hna
      clear h hna
      go_enter Tryz.func109, Tryz.ntmps109
      go_wp2_with fail
      refine (parts_any f H.out).mono ?_
      rintro e w2 ⟨s2, rfl, hs, -, hx⟩
      obtain ⟨A, c, rfl⟩ := hs.len
      have HS := Lib.hid hs
      have HX := Lib.hid (Ext.trans ((Ext.refl W).alloc _) hx)
      clear hs hx
      go_wp2_with fail
      go_loopw [3, 26] (fun av iv wr => ∃ k : Nat, k ≤ f.kids.length ∧ iv = .int .i64 k ∧ av = .int .i64 (1 + fmsSz (f.kids.take k) : Nat) ∧ Hid (Ext w2 wr)) (fun _ iv _ => f.kids.length - (intOf iv).toNat)
      case atStart => exact ⟨0, Nat.zero_le _, rfl, rfl, Ext.refl _⟩
      case round =>
        obtain ⟨k, hk, rfl, rfl, hx0⟩ := hrel
        have HXR := Lib.hid hx0.out
        clear hx0
        by_cases hlt : k < f.kids.length
        · obtain ⟨ad, y, rfl, hc, hp⟩ := SlR.get_ (SlR.ext HS.out (fun _ _ h => h) HXR.out) k hlt
          have HP := Lib.hid hp
          obtain ⟨U, y, rfl⟩ := hp.iface
          clear hp
          have hkl : f.kids[k].sz < f.sz := Fm.kids_lt _ _ (List.getElem_mem hlt)
          have hst := fmsSz_take f.kids k hlt
          have hsl := fmsSz_le f.kids (k + 1)
          obtain ⟨a, ha⟩ : ∃ a, 1 + fmsSz (f.kids.take k) = a := ⟨_, rfl⟩
          have HA : Hid (1 + fmsSz (f.kids.take (k + 1)) = a + f.kids[k].sz) := Lib.hid (by omega)
          have IH1 := Lib.hid (IH.out f.kids[k] (.iface U y) wr (by omega) (by omega) HP.out)
          rw [ha]
          have hw : IntKind.i64.wrap ((a : Int) + (f.kids[k].sz : Int)) = ((a + f.kids[k].sz : Nat) : Int) := by rw [IntKind.wrap_i64]; omega
          clear ha hst hsl
          generalize f.kids[k].sz = z at *
          go_wp2_with fail
          refine IH1.out.mono ?_
          rintro e w3 ⟨rfl, x3⟩
          have X3 := Lib.hid (HXR.out.trans x3)
          clear x3 hc
          go_wp2_with fail
          go_roundw
          case rel => exact ⟨k + 1, by omega, by go_num, by rw [HA.out, Int.natCast_add], X3⟩
          case measure => simp [intOf]; omega
        · have hke : k = f.kids.length := by omega
          have HZ : Hid (1 + fmsSz (f.kids.take k) = f.sz) := Lib.hid (by rw [hke, List.take_length]; omega)
          rw [HZ.out]
          go_wp2_with fail
          go_ret
          exact ⟨rfl, HX.out.trans HXR.out⟩
theorem nodes_any {w0 W : World} {L : Nat} (f : Fm) {v : Value} (hb : f.sz ≤ 1099511627776) (h : FmV w0 L f v) : Calls Tryz.prog 109 #[v] W (RetI f.sz W) := nodes_ih (f.sz + 1) f v W (Nat.lt_succ_self _) hb h

set_option maxRecDepth 100000 in
set_option maxHeartbeats 1000000 in
theorem atoms_ih {w0 : World} {L : Nat} (n : Nat) : ∀ (f : Fm) (v : Value) (W : World), f.sz < n → f.sz ≤ 1099511627776 → FmV w0 L f v → Calls Tryz.prog 110 #[v] W (RetI f.atoms W) := by
  induction n with
  | zero => intro t v W h; omega
  | succ n ih =>
    intro f v W hn hb h
    have IH := Lib.hid ih
    have H := Lib.hid h
    have hlen := f.kids_len
    have hks := f.atoms_kids
    have hal := f.atoms_le
    clear ih
    obtain ⟨s0, hs0⟩ : ∃ s0 : Nat, (if f.isAtom then 1 else 0) = s0 := ⟨_, rfl⟩
    rw [hs0] at hks
    have HS0 := Lib.hid hs0
    have hfl := h
    clear hs0
    rcases h.two with ⟨l, r, k0, x, y, hfe, rfl, hl, hr⟩ | ⟨hna, T, x, rfl, hT⟩
    focus
      obtain ⟨T, x, rfl⟩ := hl.iface
      obtain ⟨U, y, rfl⟩ := hr.iface
      have HQ : Hid (s0 = 1) := Lib.hid (by rw [← HS0.out, hfe]; rfl)
      clear hl hr h hfl HS0 hfe
      go_enter Tryz.func110, Tryz.ntmps110
      go_upto_region 5 with fail
    rotate_left
    focus
      have HQ : Hid (s0 = 0) := Lib.hid (by rw [← HS0.out, hna]; rfl)
      clear h hfl HS0 hna
      go_enter Tryz.func110, Tryz.ntmps110
      go_upto_region 5 with fail
    all_goals
      go_wp2_with fail
      refine (parts_any f H.out).mono ?_
      rintro e w2 ⟨s2, rfl, hs, -, hx⟩
      obtain ⟨A, c, rfl⟩ := hs.len
      have HS := Lib.hid hs
      have HX := Lib.hid (Ext.trans ((Ext.refl W).alloc _) hx)
      clear hs hx
      go_wp2_with fail
      go_loopw [3, 19] (fun av iv wr => ∃ k : Nat, k ≤ f.kids.length ∧ iv = .int .i64 k ∧ av = .int .i64 (s0 + fmsAt (f.kids.take k) : Nat) ∧ Hid (Ext w2 wr)) (fun _ iv _ => f.kids.length - (intOf iv).toNat)
      case atStart => exact ⟨0, Nat.zero_le _, rfl, by rw [HQ.out]; rfl, Ext.refl _⟩
      case round =>
        obtain ⟨k, hk, rfl, rfl, hx0⟩ := hrel
        have HXR := Lib.hid hx0.out
        clear hx0
        by_cases hlt : k < f.kids.length
        · obtain ⟨ad, y, rfl, hc, hp⟩ := SlR.get_ (SlR.ext HS.out (fun _ _ h => h) HXR.out) k hlt
          have HP := Lib.hid hp
          obtain ⟨U, y, rfl⟩ := hp.iface
          clear hp
          have hkl : f.kids[k].sz < f.sz := Fm.kids_lt _ _ (List.getElem_mem hlt)
          have hst := fmsAt_take f.kids k hlt
          have hsl := fmsAt_le f.kids (k + 1)
          obtain ⟨a, ha⟩ : ∃ a, s0 + fmsAt (f.kids.take k) = a := ⟨_, rfl⟩
          have HA : Hid (s0 + fmsAt (f.kids.take (k + 1)) = a + f.kids[k].atoms) := Lib.hid (by omega)
          have IH1 := Lib.hid (IH.out f.kids[k] (.iface U y) wr (by omega) (by omega) HP.out)
          rw [ha]
          have hw : IntKind.i64.wrap ((a : Int) + (f.kids[k].atoms : Int)) = ((a + f.kids[k].atoms : Nat) : Int) := by rw [IntKind.wrap_i64]; omega
          clear ha hst hsl
          generalize f.kids[k].atoms = z at *
          go_wp2_with fail
          refine IH1.out.mono ?_
          rintro e w3 ⟨rfl, x3⟩
          have X3 := Lib.hid (HXR.out.trans x3)
          clear x3 hc
          go_wp2_with fail
          go_roundw
          case rel => exact ⟨k + 1, by omega, by go_num, by rw [HA.out, Int.natCast_add], X3⟩
          case measure => simp [intOf]; omega
        · have hke : k = f.kids.length := by omega
          have HZ : Hid (s0 + fmsAt (f.kids.take k) = f.atoms) := Lib.hid (by rw [hke, List.take_length]; omega)
          rw [HZ.out]
          go_wp2_with fail
          go_ret
          exact ⟨rfl, HX.out.trans HXR.out⟩
theorem atoms_any {w0 W : World} {L : Nat} (f : Fm) {v : Value} (hb : f.sz ≤ 1099511627776) (h : FmV w0 L f v) : Calls Tryz.prog 110 #[v] W (RetI f.atoms W) := atoms_ih (f.sz + 1) f v W (Nat.lt_succ_self _) hb h
end Go.Proofs.YtbanhcaahabboaaGreatDoor

/- Layer 34: formula.small, limited. -/
namespace Go.Proofs.YtbanhcaahabboaaGreatDoor
open Go.RowKit
attribute [local go_sem] as_Num as_Name as_Add as_Sub as_Mul as_Neg as_Pow as_Truth as_Atom as_Not as_And as_Or as_Implies as_Iff as_Quant

/-- Numbers and exponents within the limits. -/
def Tm.small : Tm → Bool
  | .num z => decide (ndig z.natAbs ≤ 40)
  | .name _ => true
  | .add a b => a.small && b.small
  | .sub a b => a.small && b.small
  | .mul a b => a.small && b.small
  | .neg a => a.small
  | .pow a e => decide (e ≤ 8) && a.small
/-- A term's kind, as small asks for it. -/
theorem TmV.three {w : World} {L : Nat} {t : Tm} {v : Value} (h : TmV w L t v) : (∃ z x, t = .num z ∧ v = .iface 130 x ∧ IntR w x z L) ∨ (∃ a e x, t = .pow a e ∧ v = .iface 134 (.agg #[x, .int .i64 e]) ∧ TmV w L a x ∧ t.small = (decide (e ≤ 8) && t.kids.all Tm.small)) ∨ (t.small = t.kids.all Tm.small ∧ ∃ T x, v = .iface T x ∧ ¬ T = 130 ∧ ¬ T = 134) := by
  cases t <;> (simp only [TmV] at h)
  case num z => obtain ⟨x, e, h⟩ := h; exact .inl ⟨z, x, rfl, e, h⟩
  case pow a e => obtain ⟨x, e', h⟩ := h; exact .inr (.inl ⟨a, e, x, rfl, e', h, by simp [Tm.small, Tm.kids]⟩)
  case name s => exact .inr (.inr ⟨by simp [Tm.small, Tm.kids], _, _, h, by decide, by decide⟩)
  all_goals first | (obtain ⟨_, e, _⟩ := h; exact .inr (.inr ⟨by simp [Tm.small, Tm.kids], _, _, e, by decide, by decide⟩)) | (obtain ⟨_, _, e, _⟩ := h; exact .inr (.inr ⟨by simp [Tm.small, Tm.kids], _, _, e, by decide, by decide⟩))
theorem all_take {α : Type} (p : α → Bool) (l : List α) (k : Nat) (h : k < l.length) : (l.take (k + 1)).all p = ((l.take k).all p && p l[k]) := by
  rw [List.take_succ_eq_append_getElem h, List.all_append]; simp
theorem all_false {α : Type} (p : α → Bool) (l : List α) (k : Nat) (h : k < l.length) (hp : p l[k] = false) : l.all p = false := by
  rw [List.all_eq_false]; exact ⟨l[k], List.getElem_mem h, by simp [hp]⟩

set_option maxRecDepth 100000 in
set_option maxHeartbeats 1000000 in
theorem small_ih {w0 : World} {L : Nat} (hs : L ≤ 1000000000000) (n : Nat) : ∀ (t : Tm) (v : Value) (W : World), t.sz < n → Ext w0 W → TmV w0 L t v → Calls Tryz.prog 163 #[v] W (RetB t.small W) := by
  induction n with
  | zero => intro t v W h; omega
  | succ n ih =>
    intro t v W hn hx0 h
    have IH := Lib.hid ih
    have H := Lib.hid h
    have HX0 := Lib.hid hx0
    have hlen := t.kids_len
    clear ih hx0
    rcases h.three with ⟨z, x, rfl, rfl, hz⟩ | hrest
    · have HZ := Lib.hid (hz.ext HX0.out)
      obtain ⟨b, A, m, c, rfl⟩ := hz.unpack
      rw [show (Tm.num z).small = decide (ndig z.natAbs ≤ 40) from rfl]
      have hcast : decide ((ndig z.natAbs : Int) ≤ 40) = decide (ndig z.natAbs ≤ 40) := decide_eq_decide.2 (by omega)
      rw [← hcast]
      obtain ⟨bb, hbb⟩ : ∃ bb, decide ((ndig z.natAbs : Int) ≤ 40) = bb := ⟨_, rfl⟩
      rw [hbb]
      clear hz h hn hlen hcast
      go_enter Tryz.func163, Tryz.ntmps163
      go_wp2_with fail
      refine (Digits_int _ z L _ (HZ.out.ext ((Ext.refl W).alloc _)) hs).mono ?_
      rintro e w1 ⟨rfl, x1⟩
      have X1 := Lib.hid (Ext.trans ((Ext.refl W).alloc _) x1)
      clear x1
      go_wp2_with fail
      exact bodyPost_ret (v := .bool bb) (by simp [results, Tryz.results163, go_sem]) rfl ⟨rfl, X1.out⟩
    · obtain ⟨b0, T, x, rfl, hb0⟩ : ∃ b0 T x, v = .iface T x ∧ ((b0 = false ∧ t.small = false ∧ ∃ Y y e, T = 134 ∧ x = .agg #[.iface Y y, .int .i64 e] ∧ 8 < e) ∨ (t.small = t.kids.all Tm.small ∧ ((∃ Y y e, T = 134 ∧ x = .agg #[.iface Y y, .int .i64 e] ∧ ¬ 8 < e) ∨ (¬ T = 130 ∧ ¬ T = 134)))) := by
        rcases hrest with ⟨a, e, x, -, rfl, hx, hsm⟩ | ⟨hsm, T, x, rfl, h1, h2⟩
        · obtain ⟨X, x, rfl⟩ := hx.iface
          by_cases he : 8 < e
          · exact ⟨false, _, _, rfl, .inl ⟨rfl, by rw [hsm, decide_eq_false (show ¬ e ≤ 8 by omega)]; rfl, X, x, e, rfl, rfl, he⟩⟩
          · exact ⟨true, _, _, rfl, .inr ⟨by rw [hsm, decide_eq_true (show e ≤ 8 by omega)]; rfl, .inl ⟨X, x, e, rfl, rfl, he⟩⟩⟩
        · exact ⟨true, _, _, rfl, .inr ⟨hsm, .inr ⟨h1, h2⟩⟩⟩
      clear hrest
      rcases hb0 with ⟨-, hsm, Y, y, e, rfl, rfl, he⟩ | ⟨hsm, hb0⟩
      · rw [hsm]
        clear hsm h
        go_enter Tryz.func163, Tryz.ntmps163
        go_wp2_with fail
        go_ret
        exact ⟨rfl, (Ext.refl _).alloc _⟩
      · rcases hb0 with ⟨Y, y, e, rfl, rfl, he⟩ | ⟨h1, h2⟩
        focus
          have HSM := Lib.hid hsm
          clear hsm h
          go_enter Tryz.func163, Tryz.ntmps163
          go_upto_region 9 with fail
        rotate_left
        focus
          have HSM := Lib.hid hsm
          clear hsm h
          go_enter Tryz.func163, Tryz.ntmps163
          go_upto_region 9 with fail
        all_goals
          go_wp2_with fail
          refine (subterms_any t H.out).mono ?_
          rintro e w2 ⟨s2, rfl, hss, -, hx⟩
          obtain ⟨A, c, rfl⟩ := hss.len
          have HS := Lib.hid hss
          have HX := Lib.hid (show Ext W w2 from by first | exact Ext.trans ((Ext.refl W).alloc _) hx | exact hx)
          clear hss hx
          go_wp2_with fail
          go_loopw [24] (fun iv wr => ∃ k : Nat, k ≤ t.kids.length ∧ iv = .int .i64 k ∧ Hid ((t.kids.take k).all Tm.small = true ∧ Ext w2 wr)) (fun iv _ => t.kids.length - (intOf iv).toNat)
          case atStart => exact ⟨0, Nat.zero_le _, rfl, ⟨rfl, Ext.refl _⟩⟩
          case round =>
            obtain ⟨k, hk, rfl, ⟨ha0, hx0⟩⟩ := hrel
            have HXR := Lib.hid hx0
            have HA := Lib.hid ha0
            clear hx0 ha0
            by_cases hlt : k < t.kids.length
            · obtain ⟨ad, y1, rfl, hc, hp⟩ := SlR.get_ (SlR.ext HS.out (fun _ _ h => h) HXR.out) k hlt
              have HP := Lib.hid hp
              obtain ⟨U, y1, rfl⟩ := hp.iface
              clear hp
              have hkl : t.kids[k].sz < t.sz := Tm.kids_lt _ _ (List.getElem_mem hlt)
              have IH1 := Lib.hid (IH.out t.kids[k] (.iface U y1) wr (by omega) (HX0.out.trans (HX.out.trans HXR.out)) HP.out)
              have HT := Lib.hid (all_take Tm.small t.kids k hlt)
              have HFL := Lib.hid (all_false Tm.small t.kids k hlt)
              generalize t.kids[k].small = z at *
              cases z
              · have HF : Hid (t.small = false) := Lib.hid (HSM.out.trans (HFL.out rfl))
                rw [HF.out]
                go_wp2_with fail
                refine IH1.out.mono ?_
                rintro e w3 ⟨rfl, x3⟩
                have X3 := Lib.hid (HXR.out.trans x3)
                clear x3 hc
                go_wp2_with fail
                go_ret
                exact ⟨rfl, HX.out.trans X3.out⟩
              · go_wp2_with fail
                refine IH1.out.mono ?_
                rintro e w3 ⟨rfl, x3⟩
                have X3 := Lib.hid (HXR.out.trans x3)
                clear x3 hc
                go_wp2_with fail
                go_roundw
                case rel => exact ⟨k + 1, by omega, by go_num, ⟨by rw [HT.out, HA.out]; rfl, X3.out⟩⟩
                case measure => simp [intOf]; omega
            · have hke : k = t.kids.length := by omega
              have HZ : Hid (t.small = true) := Lib.hid (by rw [HSM.out, ← List.take_length (l := t.kids), ← hke]; exact HA.out)
              go_wp2_with fail
              go_ret
              exact ⟨by rw [HZ.out]; rfl, HX.out.trans HXR.out⟩
theorem small_any {w0 W : World} {L : Nat} (hs : L ≤ 1000000000000) (t : Tm) {v : Value} (hx : Ext w0 W) (h : TmV w0 L t v) : Calls Tryz.prog 163 #[v] W (RetB t.small W) := small_ih hs (t.sz + 1) t v W (Nat.lt_succ_self _) hx h

/-- A term within the limits. -/
def Tm.lim (t : Tm) : Bool := !decide (8 < t.deg) && !decide (320 < t.wt) && t.small
def Fm.lim : Fm → Bool
  | .truth _ => true
  | .atom l _ k => l.lim && k.lim
  | .not f => f.lim
  | .and f g => f.lim && g.lim
  | .or f g => f.lim && g.lim
  | .imp f g => f.lim && g.lim
  | .iff f g => f.lim && g.lim
  | .quant _ _ f => f.lim
theorem Fm.lim_kids (f : Fm) (h : f.isAtom = false) : f.lim = f.kids.all Fm.lim := by cases f <;> simp_all [Fm.isAtom, Fm.kids, Fm.lim]

set_option maxRecDepth 100000 in
set_option maxHeartbeats 2000000 in
theorem limited_ih {w0 : World} {L : Nat} (hs : L ≤ 1000000000000) (n : Nat) : ∀ (f : Fm) (v : Value) (W : World), f.sz < n → Ext w0 W → FmV w0 L f v → Calls Tryz.prog 111 #[v] W (RetB f.lim W) := by
  induction n with
  | zero => intro t v W h; omega
  | succ n ih =>
    intro f v W hn hx0 h
    have IH := Lib.hid ih
    have H := Lib.hid h
    have HX0 := Lib.hid hx0
    have hlen := f.kids_len
    clear ih hx0
    rcases h.two with ⟨l, r, k0, x, y, rfl, rfl, hl, hr⟩ | ⟨hna, T, x, rfl, hT⟩
    · have HL := Lib.hid hl
      have HR := Lib.hid hr
      have HLK : Hid ((Fm.atom l r k0).lim = [l, k0].all Tm.lim) := Lib.hid (by simp [Fm.lim])
      obtain ⟨T, x, rfl⟩ := hl.iface
      obtain ⟨U, y, rfl⟩ := hr.iface
      clear hl hr h hn hlen
      obtain ⟨W1, hW⟩ : ∃ W1, (W.alloc (.cells #[.iface T x, .int .i64 r, .iface U y] 97)).alloc (.cells #[.iface T x, .iface U y] 66) = W1 := ⟨_, rfl⟩
      have HX1 : Hid (Ext W W1) := Lib.hid (by rw [← hW]; exact ((Ext.refl W).alloc _).alloc _)
      have HS : Hid (SlR (fun _ t v => TmV w0 L t v) W1 (.slice (some ⟨W.heap.size + 1, 0, none⟩) 2 2) [l, k0]) := Lib.hid (by
        rw [← hW]
        exact SlR.two (by simp) (by simp [go_sem]) (by simp [go_sem]) HL.out HR.out)
      go_enter Tryz.func111, Tryz.ntmps111
      go_wp2_with fail
      clear hW
      go_loopw [21] (fun iv wr => ∃ k : Nat, k ≤ 2 ∧ iv = .int .i64 k ∧ Hid (([l, k0].take k).all Tm.lim = true ∧ Ext W1 wr)) (fun iv _ => 2 - (intOf iv).toNat)
      case atStart => exact ⟨0, by omega, rfl, ⟨rfl, Ext.refl _⟩⟩
      case round =>
        obtain ⟨k, hk, rfl, ⟨ha0, hx0⟩⟩ := hrel
        have HXR := Lib.hid hx0
        have HA := Lib.hid ha0
        clear hx0 ha0
        by_cases hlt : k < 2
        · obtain ⟨ad, y1, e1, hc, hp⟩ := SlR.get_ (SlR.ext HS.out (fun _ _ h => h) HXR.out) k hlt
          injection e1 with e1
          have HT := Lib.hid (all_take Tm.lim [l, k0] k hlt)
          have HFL := Lib.hid (all_false Tm.lim [l, k0] k hlt)
          generalize ([l, k0])[k] = u at *
          have HP := Lib.hid hp
          obtain ⟨V, y1, rfl⟩ := hp.iface
          have HLM : Hid (u.lim = (!decide (8 < u.deg) && !decide (320 < u.wt) && u.small)) := Lib.hid rfl
          have HD := Lib.hid (degree_any u _ wr hp)
          have HWT := Lib.hid (fun w1 (x1 : Ext wr w1) => weight_any hs u _ w1 ((HX0.out.trans (HX1.out.trans HXR.out)).trans x1) hp)
          have HSM := Lib.hid (fun w1 (x1 : Ext wr w1) => small_any (W := w1) hs u ((HX0.out.trans (HX1.out.trans HXR.out)).trans x1) hp)
          subst e1
          rw [add_mk, Nat.zero_add] at hc
          clear hp
          generalize u.lim = lm at *
          generalize u.deg = d at *
          generalize u.wt = wt at *
          generalize u.small = sm at *
          by_cases hd : 8 < d
          · have HF : Hid ((Fm.atom l r k0).lim = false) := Lib.hid (HLK.out.trans (HFL.out (by rw [HLM.out]; simp [hd])))
            go_wp2_with fail
            refine HD.out.mono ?_
            rintro e w3 ⟨rfl, x3⟩
            have X3 := Lib.hid (HXR.out.trans x3)
            clear x3 hc
            go_wp2_with fail
            go_ret
            exact ⟨by rw [HF.out]; rfl, HX1.out.trans X3.out⟩
          · go_wp2_with fail
            refine HD.out.mono ?_
            rintro e w3 ⟨rfl, x3⟩
            have X3 := Lib.hid x3
            clear x3 hc
            by_cases hw : 320 < wt
            · have HF : Hid ((Fm.atom l r k0).lim = false) := Lib.hid (HLK.out.trans (HFL.out (by rw [HLM.out]; simp [hw])))
              go_wp2_with fail
              refine (HWT.out _ X3.out).mono ?_
              rintro e w4 ⟨rfl, x4⟩
              have X4 := Lib.hid (HXR.out.trans (X3.out.trans x4))
              clear x4
              go_wp2_with fail
              go_ret
              exact ⟨by rw [HF.out]; rfl, HX1.out.trans X4.out⟩
            · go_wp2_with fail
              refine (HWT.out _ X3.out).mono ?_
              rintro e w4 ⟨rfl, x4⟩
              have X4 := Lib.hid (X3.out.trans x4)
              clear x4
              cases sm
              · have HF : Hid ((Fm.atom l r k0).lim = false) := Lib.hid (HLK.out.trans (HFL.out (by rw [HLM.out]; simp)))
                go_wp2_with fail
                refine (HSM.out _ X4.out).mono ?_
                rintro e w5 ⟨rfl, x5⟩
                have X5 := Lib.hid (HXR.out.trans (X4.out.trans x5))
                clear x5
                go_wp2_with fail
                go_ret
                exact ⟨by rw [HF.out]; rfl, HX1.out.trans X5.out⟩
              · have HTR : Hid (lm = true) := Lib.hid (by rw [HLM.out]; simp [hd, hw])
                go_wp2_with fail
                refine (HSM.out _ X4.out).mono ?_
                rintro e w5 ⟨rfl, x5⟩
                have X5 := Lib.hid (HXR.out.trans (X4.out.trans x5))
                clear x5
                go_wp2_with fail
                go_roundw
                case rel => exact ⟨k + 1, by omega, by go_num, ⟨by rw [HT.out, HA.out, HTR.out]; rfl, X5.out⟩⟩
                case measure => simp [intOf]; omega
        · have hke : k = 2 := by omega
          have HZ : Hid ((Fm.atom l r k0).lim = true) := Lib.hid (HLK.out.trans (by rw [hke] at HA; exact HA.out))
          have HXE := Lib.hid (HX1.out.trans HXR.out)
          clear HXR HA
          go_wp2_with fail
          refine (parts_any (Fm.atom l r k0) H.out).mono ?_
          rintro e w2 ⟨s2, rfl, hss, -, hx⟩
          obtain ⟨A, cc, rfl⟩ := hss.len
          have HX := Lib.hid (HXE.out.trans hx)
          have hl0 : (Fm.atom l r k0).kids.length = 0 := rfl
          rw [hl0]
          clear hss hx hl0
          go_wp2_with fail
          go_loopw [42] (fun iv wr => iv = .int .i64 0 ∧ Hid (Ext W wr)) (fun _ _ => 0)
          case atStart => exact ⟨rfl, HX⟩
          case round =>
            obtain ⟨rfl, hx0⟩ := hrel
            go_wp2_with fail
            go_ret
            exact ⟨by rw [HZ.out]; rfl, hx0.out⟩
    · have HLK := Lib.hid (f.lim_kids hna)
      clear h hna
      go_enter Tryz.func111, Tryz.ntmps111
      go_wp2_with fail
      refine (parts_any f H.out).mono ?_
      rintro e w2 ⟨s2, rfl, hss, -, hx⟩
      obtain ⟨A, c, rfl⟩ := hss.len
      have HS := Lib.hid hss
      have HX := Lib.hid (Ext.trans ((Ext.refl W).alloc _) hx)
      clear hss hx
      go_wp2_with fail
      go_loopw [42] (fun iv wr => ∃ k : Nat, k ≤ f.kids.length ∧ iv = .int .i64 k ∧ Hid ((f.kids.take k).all Fm.lim = true ∧ Ext w2 wr)) (fun iv _ => f.kids.length - (intOf iv).toNat)
      case atStart => exact ⟨0, Nat.zero_le _, rfl, ⟨rfl, Ext.refl _⟩⟩
      case round =>
        obtain ⟨k, hk, rfl, ⟨ha0, hx0⟩⟩ := hrel
        have HXR := Lib.hid hx0
        have HA := Lib.hid ha0
        clear hx0 ha0
        by_cases hlt : k < f.kids.length
        · obtain ⟨ad, y1, rfl, hc, hp⟩ := SlR.get_ (SlR.ext HS.out (fun _ _ h => h) HXR.out) k hlt
          have HP := Lib.hid hp
          obtain ⟨U, y1, rfl⟩ := hp.iface
          clear hp
          have hkl : f.kids[k].sz < f.sz := Fm.kids_lt _ _ (List.getElem_mem hlt)
          have IH1 := Lib.hid (IH.out f.kids[k] (.iface U y1) wr (by omega) (HX0.out.trans (HX.out.trans HXR.out)) HP.out)
          have HT := Lib.hid (all_take Fm.lim f.kids k hlt)
          have HFL := Lib.hid (all_false Fm.lim f.kids k hlt)
          generalize f.kids[k].lim = z at *
          cases z
          · have HF : Hid (f.lim = false) := Lib.hid (HLK.out.trans (HFL.out rfl))
            go_wp2_with fail
            refine IH1.out.mono ?_
            rintro e w3 ⟨rfl, x3⟩
            have X3 := Lib.hid (HXR.out.trans x3)
            clear x3 hc
            go_wp2_with fail
            go_ret
            exact ⟨by rw [HF.out]; rfl, HX.out.trans X3.out⟩
          · go_wp2_with fail
            refine IH1.out.mono ?_
            rintro e w3 ⟨rfl, x3⟩
            have X3 := Lib.hid (HXR.out.trans x3)
            clear x3 hc
            go_wp2_with fail
            go_roundw
            case rel => exact ⟨k + 1, by omega, by go_num, ⟨by rw [HT.out, HA.out]; rfl, X3.out⟩⟩
            case measure => simp [intOf]; omega
        · have hke : k = f.kids.length := by omega
          have HZ : Hid (f.lim = true) := Lib.hid (by rw [HLK.out, ← List.take_length (l := f.kids), ← hke]; exact HA.out)
          go_wp2_with fail
          go_ret
          exact ⟨by rw [HZ.out]; rfl, HX.out.trans HXR.out⟩
theorem limited_any {w0 W : World} {L : Nat} (hs : L ≤ 1000000000000) (f : Fm) {v : Value} (hx : Ext w0 W) (h : FmV w0 L f v) : Calls Tryz.prog 111 #[v] W (RetB f.lim W) := limited_ih hs (f.sz + 1) f v W (Nat.lt_succ_self _) hx h
end Go.Proofs.YtbanhcaahabboaaGreatDoor
