/- Layer 34: formula.Bound: the names of the quantifiers. -/
import Derived.Test.YtofbfplpbffpfaaGreatWalk
import Derived.Maps.AppendAt
namespace Go.Proofs.YtofbfplpbffpfaaGreat
open Go.RowKit
attribute [local go_sem] as_Num as_Name as_Add as_Sub as_Mul as_Neg as_Pow as_Truth as_Atom as_Not as_And as_Or as_Implies as_Iff as_Quant

theorem Ext.grownN {w w' : World} (hx : Ext w w') : w.grownBy w' none := ⟨hx.below.os, hx.below.tape, hx.below.output, hx.size, fun k hk _ => hx.below.block k hk⟩

/-- The block of a slice that the call owns. -/
def ownB (v : Value) : Nat → Prop := fun i => v.ownBlock = some i
def strs (l : List ByteArray) : List Value := l.map Value.string
theorem strs_snoc (l : List ByteArray) (s : ByteArray) : strs (l ++ [s]) = strs l ++ [.string s] := by simp [strs]
/-- v is a row of strings of the call's own, from block base on. -/
def StrRow (w : World) (base : Nat) (v : Value) (l : List ByteArray) : Prop := w.ownsRow base 9 1 v l.length (strs l)
theorem StrRow.nil (w : World) (base : Nat) : StrRow w base (.slice none 0 0) [] := World.ownsRow_nil w base _ _
theorem StrRow.ext {w w' : World} {base : Nat} {v : Value} {l : List ByteArray} (h : StrRow w base v l) (hx : Ext w w') : StrRow w' base v l :=
  World.ownsRow.kept h (row := none) hx.grownN (by cases hv : v.ownBlock <;> simp)
theorem StrRow.lt {w : World} {base : Nat} {v : Value} {l : List ByteArray} (h : StrRow w base v l) : ∀ k, v.ownBlock = some k → base ≤ k ∧ k < w.heap.size := World.ownsRow.lt h
theorem Keeps.of_append {w w' : World} {v v' : Value} (hg : w.grownBy w' v.ownBlock) (ha : v'.ownBlock = v.ownBlock ∨ v'.ownBlock = some w.heap.size) : Keeps (ownB v) w (ownB v') w' :=
  ⟨World.grownBy.os hg, World.grownBy.tape hg, World.grownBy.output hg, World.grownBy.size hg, fun i hi hn => World.grownBy.block hg i hi (fun e => hn e.symm), fun i hi ho => by
    unfold ownB at ho ⊢
    rcases ha with h | h
    · rw [← h]; exact ho
    · rw [h] at ho; injection ho with e; omega⟩

theorem news1 {w : World} {g : Nat} {x : Value} (h : w.cell? ⟨g, 0, none⟩ = some x) : ∀ j u, [x][j]? = some u → w.cell? ((⟨g, 0, none⟩ : Addr).add j) = some u := by
  intro j u hu
  cases j with
  | zero => simp at hu; rw [add_mk, ← hu]; exact h
  | succ j => simp at hu

/-- The names of the quantifiers. -/
def Fm.bound : Fm → List ByteArray
  | .truth _ => []
  | .atom _ _ _ => []
  | .not f => f.bound
  | .and f g => f.bound ++ g.bound
  | .or f g => f.bound ++ g.bound
  | .imp f g => f.bound ++ g.bound
  | .iff f g => f.bound ++ g.bound
  | .quant _ s f => s :: f.bound
def fmsBound (l : List Fm) : List ByteArray := l.flatMap Fm.bound
theorem fmsBound_take (l : List Fm) (k : Nat) (h : k < l.length) : fmsBound (l.take (k + 1)) = fmsBound (l.take k) ++ (l[k]).bound := by
  unfold fmsBound
  rw [List.take_succ_eq_append_getElem h, List.flatMap_append, List.flatMap_singleton]
def Fm.isQuant : Fm → Bool
  | .quant _ _ _ => true
  | _ => false
theorem Fm.bound_kids (t : Fm) (h : t.isQuant = false) : t.bound = fmsBound t.kids := by
  cases t <;> simp_all [Fm.bound, Fm.kids, fmsBound, Fm.isQuant]
theorem FmV.notQuant {w : World} {L : Nat} {t : Fm} {v : Value} (h : FmV w L t v) (hn : t.isQuant = false) : ∃ T x, v = .iface T x ∧ ¬ T = 124 := by
  cases t <;> (simp only [FmV] at h) <;> first | (cases hn; done) | exact ⟨_, _, h, by decide⟩ | (obtain ⟨_, e, _⟩ := h; exact ⟨_, _, e, by decide⟩) | (obtain ⟨_, _, e, _⟩ := h; exact ⟨_, _, e, by decide⟩)
theorem fmsBound_len (l : List Fm) (h : ∀ f ∈ l, f.bound.length ≤ f.sz) : (fmsBound l).length ≤ fmsSz l := by
  induction l with
  | nil => simp [fmsBound, fmsSz]
  | cons f r ih =>
    have h1 := ih (fun g hg => h g (List.mem_cons_of_mem _ hg))
    have h2 := h f List.mem_cons_self
    simp only [fmsBound, fmsSz, List.flatMap_cons, List.length_append, List.map_cons, List.sum_cons] at *
    omega
theorem Fm.bound_len (t : Fm) : t.bound.length ≤ t.sz := by
  induction t <;> simp [Fm.bound, Fm.sz] <;> omega

def QuantPost (base : Nat) (l : List ByteArray) (W : World) (s : Value) (e : Ending) (W' : World) : Prop := ∃ s', e = .returned s' ∧ StrRow W' base s' l ∧ Keeps (ownB s) W (ownB s') W'

theorem info_str : (Tryz.prog.info? 9).map (fun i => (i.zero, i.size, i.bytes)) = some (some (.string ByteArray.empty), 1, 16) := by kernel_rfl

set_option maxRecDepth 100000 in
set_option maxHeartbeats 1000000 in
theorem quantified_any {w0 : World} {L base : Nat} (n : Nat) :
    ∀ (t : Fm) (v : Value), t.sz < n → FmV w0 L t v → ∀ (W : World) (s : Value) (l : List ByteArray), StrRow W base s l → base ≤ W.heap.size → l.length + t.sz ≤ 1099511627776 →
    Calls Tryz.prog 62 #[v, s] W (QuantPost base (l ++ t.bound) W s) := by
  induction n with
  | zero => intro t v ht; omega
  | succ n ih =>
  intro t v ht h W s l hR hb hl
  have IH := Lib.hid ih
  have HR := Lib.hid hR
  have H := Lib.hid h
  clear ih hR
  obtain ⟨i0, hi, hz0, hz1, hz2⟩ := info_parts info_str
  have HI0 : Hid (Tryz.prog.info? 9 = some i0 ∧ i0.zero = some (.string ByteArray.empty) ∧ i0.size = 1 ∧ i0.bytes = 16) := by
    have : Tryz.prog.info? 9 = some i0 ∧ i0.zero = some (.string ByteArray.empty) ∧ i0.size = 1 ∧ i0.bytes = 16 := ⟨hi, hz0, hz1, hz2⟩
    exact this
  clear hi hz0 hz1 hz2
  by_cases hn : t.isQuant = true
  · cases t with
    | quant al q f =>
      obtain ⟨x, rfl, hx⟩ := h
      obtain ⟨T, x, rfl⟩ := hx.iface
      clear hx
      have hl1 : l.length + (f.sz + 1) ≤ 1099511627776 := hl
      go_enter Tryz.func62, Tryz.ntmps62
      go_wp2_with (at_builtin
                   refine wpList_append_own_at _ rfl (.tmp 15) (.tmp 18) _ rfl base 9 i0 (.string ByteArray.empty) 1 16 Tryz.underlying74 HI0.out.1 HI0.out.2.1 HI0.out.2.2.1 HI0.out.2.2.2 rfl (by omega) _ l.length (strs l) rfl (World.ownsRow.alloc (World.ownsRow.alloc HR.out _) _) ⟨W.heap.size + 1, 0, none⟩ 1 1 [.string q] rfl rfl (news1 ?_) ?_ ?_ ?_ ?_ ?_)
      · simp [go_sem]
      · simp [Value.oneCell']
      · unfold maxLen; omega
      · omega
      · simp; omega
      · intro v' w1 hown' hg' _ hat'
        have hr1 : StrRow w1 base v' (l ++ [q]) := by
          unfold StrRow
          rw [strs_snoc]; simpa using hown'
        have hk1 : Keeps (ownB s) W (ownB v') w1 := (Keeps.of_ext (((Ext.refl W).alloc _).alloc _)).trans (Keeps.of_append hg' (by simpa using hat'))
        have HR1 := Lib.hid hr1
        have HK1 := Lib.hid hk1
        have HLT1 := Lib.hid hr1.lt
        have hw1 := hk1.size
        clear hown' hg' hat' hr1 hk1
        go_wp2_with fail
        refine (parts_any (Fm.quant al q f) H.out).mono ?_
        rintro e w2 ⟨s2, rfl, hs, hf, hx⟩
        obtain ⟨ks, hks⟩ : ∃ ks, (Fm.quant al q f).kids = ks := ⟨_, rfl⟩
        rw [hks] at hs
        have HKS := Lib.hid hks
        have hlen : ks.length ≤ 2 := by rw [← hks]; exact Fm.kids_len _
        clear hks
        obtain ⟨A, c, rfl⟩ := hs.len
        have HS := Lib.hid hs
        have HF := Lib.hid hf
        have HX := Lib.hid hx
        have hw2 := hx.size
        clear hs hf hx
        go_wp2_with fail
        go_loopw [1, 23] (fun lv iv wr => ∃ k : Nat, k ≤ ks.length ∧ iv = .int .i64 k ∧ Hid (StrRow wr base lv (l ++ [q] ++ fmsBound (ks.take k)) ∧ Keeps (ownB v') w2 (ownB lv) wr)) (fun _ iv _ => ks.length - (intOf iv).toNat)
        case atStart => exact ⟨0, Nat.zero_le _, rfl, ⟨by simpa [fmsBound] using HR1.out.ext HX.out, Keeps.refl _ _⟩⟩
        case round =>
          obtain ⟨k, hk, rfl, ⟨hR', hk'⟩⟩ := hrel
          have HR' := Lib.hid hR'
          have HK' := Lib.hid hk'
          have hw' := hk'.size
          clear hR' hk'
          by_cases hlt : k < ks.length
          · obtain ⟨ad, y, rfl, hc, hp⟩ := SlR.get_ (SlR.keeps HS.out HK'.out (fun ad n c e => fun ho => by
              have h1 := HF.out ad n c e
              have h2 := (HLT1.out _ ho).2
              omega)) k hlt
            have HP := Lib.hid hp
            obtain ⟨U, y, rfl⟩ := hp.iface
            clear hp
            have hkl : ks[k].sz < (Fm.quant al q f).sz := Fm.kids_lt _ _ (by rw [HKS.out]; exact List.getElem_mem hlt)
            have HLE : Hid ((l ++ [q] ++ fmsBound (ks.take k)).length + ks[k].sz ≤ 1099511627776) := by
              have h1 := fmsBound_len (ks.take k) (fun g _ => g.bound_len)
              have h2 : fmsSz (ks.take k) + ks[k].sz ≤ fmsSz ks := by
                have e1 : fmsSz (ks.take (k + 1)) = fmsSz (ks.take k) + ks[k].sz := by
                  unfold fmsSz; rw [List.take_succ_eq_append_getElem hlt, List.map_append, List.sum_append, List.map_singleton, List.sum_singleton]
                have e2 : fmsSz ks = fmsSz (ks.take (k + 1)) + fmsSz (ks.drop (k + 1)) := by
                  unfold fmsSz; rw [← List.sum_append, ← List.map_append, List.take_append_drop]
                omega
              have h3 := fmsSz_kids (Fm.quant al q f)
              rw [HKS.out] at h3
              have : (l ++ [q] ++ fmsBound (ks.take k)).length + ks[k].sz ≤ 1099511627776 := by
                simp only [List.length_append, List.length_cons, List.length_nil]
                omega
              exact this
            go_wp2_with fail
            refine (IH.out (ks[k]) _ (by omega) HP.out _ _ _ HR'.out (by omega) HLE.out).mono ?_
            rintro e w3 ⟨s3, rfl, hR3, hk3⟩
            have HR3 := Lib.hid hR3
            have HK3 := Lib.hid hk3
            clear hR3 hk3 hc
            go_wp2_with fail
            go_roundw
            case rel => exact ⟨k + 1, by omega, by go_num, ⟨by rw [fmsBound_take _ _ hlt, ← List.append_assoc]; exact HR3.out, HK'.out.trans HK3.out⟩⟩
            case measure => simp [intOf]; omega
          · have HKE : Hid (k = ks.length) := by
              have : k = ks.length := by omega
              exact this
            go_wp2_with fail
            go_ret
            refine ⟨_, rfl, ?_, (HK1.out.trans (Keeps.of_ext HX.out)).trans HK'.out⟩
            have := HR'.out
            rw [HKE.out, List.take_length, ← HKS.out] at this
            simpa [Fm.bound, Fm.kids, fmsBound] using this
    | _ => simp [Fm.isQuant] at hn
  · have HN : Hid (t.isQuant = false) := by
      have : t.isQuant = false := by simpa using hn
      exact this
    obtain ⟨T, x, rfl, hT⟩ := h.notQuant HN.out
    clear h hn
    have hlen := t.kids_len
    have HLT := Lib.hid HR.out.lt
    go_enter Tryz.func62, Tryz.ntmps62
    go_wp2_with fail
    refine (parts_any t H.out).mono ?_
    rintro e w2 ⟨s2, rfl, hs, hf, hx⟩
    obtain ⟨A, c, rfl⟩ := hs.len
    have HX : Hid (Ext W w2) := by
      have : Ext W w2 := ((Ext.refl W).alloc _).trans hx
      exact this
    have HS := Lib.hid hs
    have HF := Lib.hid hf
    have hw2 := HX.out.size
    clear hs hf hx
    go_wp2_with fail
    go_loopw [1, 23] (fun lv iv wr => ∃ k : Nat, k ≤ t.kids.length ∧ iv = .int .i64 k ∧ Hid (StrRow wr base lv (l ++ fmsBound (t.kids.take k)) ∧ Keeps (ownB s) w2 (ownB lv) wr)) (fun _ iv _ => t.kids.length - (intOf iv).toNat)
    case atStart => exact ⟨0, Nat.zero_le _, rfl, ⟨by simpa [fmsBound] using HR.out.ext HX.out, Keeps.refl _ _⟩⟩
    case round =>
      obtain ⟨k, hk, rfl, ⟨hR', hk'⟩⟩ := hrel
      have HR' := Lib.hid hR'
      have HK' := Lib.hid hk'
      have hw' := hk'.size
      clear hR' hk'
      by_cases hlt : k < t.kids.length
      · obtain ⟨ad, y, rfl, hc, hp⟩ := SlR.get_ (SlR.keeps HS.out HK'.out (fun ad n c e => fun ho => by
          have h1 := HF.out ad n c e
          have h2 := (HLT.out _ ho).2
          simp at h1; omega)) k hlt
        have HP := Lib.hid hp
        obtain ⟨U, y, rfl⟩ := hp.iface
        clear hp
        have hkl : t.kids[k].sz < t.sz := Fm.kids_lt _ _ (List.getElem_mem hlt)
        have HLE : Hid ((l ++ fmsBound (t.kids.take k)).length + t.kids[k].sz ≤ 1099511627776) := by
          have h1 := fmsBound_len (t.kids.take k) (fun g _ => g.bound_len)
          have h2 : fmsSz (t.kids.take k) + t.kids[k].sz ≤ fmsSz t.kids := by
            have e1 : fmsSz (t.kids.take (k + 1)) = fmsSz (t.kids.take k) + t.kids[k].sz := by
              unfold fmsSz; rw [List.take_succ_eq_append_getElem hlt, List.map_append, List.sum_append, List.map_singleton, List.sum_singleton]
            have e2 : fmsSz t.kids = fmsSz (t.kids.take (k + 1)) + fmsSz (t.kids.drop (k + 1)) := by
              unfold fmsSz; rw [← List.sum_append, ← List.map_append, List.take_append_drop]
            omega
          have h3 := fmsSz_kids t
          have : (l ++ fmsBound (t.kids.take k)).length + t.kids[k].sz ≤ 1099511627776 := by
            simp only [List.length_append]
            omega
          exact this
        go_wp2_with fail
        refine (IH.out (t.kids[k]) _ (by omega) HP.out _ _ _ HR'.out (by omega) HLE.out).mono ?_
        rintro e w3 ⟨s3, rfl, hR3, hk3⟩
        have HR3 := Lib.hid hR3
        have HK3 := Lib.hid hk3
        clear hR3 hk3 hc
        go_wp2_with fail
        go_roundw
        case rel => exact ⟨k + 1, by omega, by go_num, ⟨by rw [fmsBound_take _ _ hlt, ← List.append_assoc]; exact HR3.out, HK'.out.trans HK3.out⟩⟩
        case measure => simp [intOf]; omega
      · have HKE : Hid (k = t.kids.length) := by
          have : k = t.kids.length := by omega
          exact this
        go_wp2_with fail
        go_ret
        refine ⟨_, rfl, ?_, (Keeps.of_ext HX.out).trans HK'.out⟩
        have := HR'.out
        rw [HKE.out, List.take_length, ← Fm.bound_kids t HN.out] at this
        exact this

/-- The call returns a new list of names. -/
def RetStrs (l : List ByteArray) (w : World) (e : Ending) (w' : World) : Prop := ∃ s, e = .returned s ∧ StrRow w' w.heap.size s l ∧ Ext w w'

theorem bound_any {w0 w : World} {L : Nat} (t : Fm) {v : Value} (h : FmV w0 L t v) (hl : t.sz ≤ 1099511627776) : Calls Tryz.prog 29 #[v] w (RetStrs t.bound w) := by
  go_enter Tryz.func29, Tryz.ntmps29
  go_wp2_with fail
  refine (quantified_any (t.sz + 1) t v (Nat.lt_succ_self _) h w _ [] (StrRow.nil w w.heap.size) (Nat.le_refl _) (by simpa using hl)).mono ?_
  rintro e w1 ⟨s1, rfl, hR, hk⟩
  have hx : Ext w w1 := hk.ext (Ext.refl w) (fun i ho => by unfold ownB at ho; simp [Value.ownBlock] at ho)
  have HX := Lib.hid hx
  have HR := Lib.hid hR
  clear hx hk hR h
  go_wp2_with fail
  go_ret
  exact ⟨_, rfl, by simpa using HR.out, HX.out⟩
end Go.Proofs.YtofbfplpbffpfaaGreat
