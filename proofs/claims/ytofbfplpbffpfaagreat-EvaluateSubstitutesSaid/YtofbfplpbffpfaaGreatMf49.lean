/- Reference 34: Parts, Bound: the subformulas, and the names of the quantifiers. -/
import Derived.Test.YtofbfplpbffpfaaGreatMf48
import Derived.Test.YtofbfplpbffpfaaGreatEval

namespace Go.Proofs.YtofbfplpbffpfaaGreat
open Go.RowKit

def Tr.parts (t : Tr) : List Tr := t.list.filter fun x => !termK x.d.kind
def Tr.bnd (t : Tr) : List ByteArray := (t.parts.filter fun x => x.d.kind == 15).map fun x => x.d.name
/-- A new row of one tree. -/
theorem LstV.new {w W : World} {p : Nat → Prop} {x : Tr} {s K : Value} (h : TrV w p x (ndV x.d s K)) : LstV w p W.heap.size (W.alloc (.cells #[.int .i64 x.d.kind, .bool x.d.neg, s, .string x.d.name, .int .i64 x.d.exp, .int .i64 x.d.rel, .bool x.d.truth, .bool x.d.all, K] 29)) (.slice (some ⟨W.heap.size, 0, none⟩) 1 1) [x] := by
  refine ⟨[(x, s, K)], rfl, ⟨rfl, .inr ⟨W.heap.size, 1, #[.int .i64 x.d.kind, .bool x.d.neg, s, .string x.d.name, .int .i64 x.d.exp, .int .i64 x.d.rel, .bool x.d.truth, .bool x.d.all, K], rfl, Nat.le_refl _, heap_alloc_new W _, Nat.le_refl _, by unfold maxLen; omega, rfl, rfl⟩⟩, ?_⟩
  intro r hr
  obtain rfl : r = (x, s, K) := by simpa using hr
  exact h
theorem IntRow.new {W : World} (d : Int) : IntRow W.heap.size (W.alloc (.cells #[.int .i64 d] 3)) (.slice (some ⟨W.heap.size, 0, none⟩) 1 1) 1 := by
  refine ⟨[.int .i64 d], ⟨rfl, .inr ⟨W.heap.size, 1, #[.int .i64 d], rfl, Nat.le_refl _, heap_alloc_new W _, Nat.le_refl _, by unfold maxLen; omega, rfl, rfl⟩⟩, ?_⟩
  intro x hx; exact ⟨d, by simpa using hx⟩
theorem LstV.nil {w W : World} {p : Nat → Prop} {base : Nat} : LstV w p base W (.slice none 0 0) [] := ⟨[], rfl, World.ownsRow_nil _ _ _ _, by simp⟩
theorem IntRow.nil {W : World} {base : Nat} : IntRow base W (.slice none 0 0) 0 := ⟨[], World.ownsRow_nil _ _ _ _, by simp⟩
theorem IntRow.see {W : World} {base n : Nat} {u : Value} (h : IntRow base W u n) (hl : 0 < n) : ∃ ad cap, u = .slice (some ad) n cap ∧ n ≤ cap ∧ cap ≤ 9223372036854775807 ∧ ∀ W', Ext W W' → ∀ k, k < n → ∃ z : Int, W'.cell? (ad.add k) = some (.int .i64 z) := by
  obtain ⟨g, cap, rfl, h1, h2⟩ := h.pos hl
  refine ⟨⟨g, 0, none⟩, cap, rfl, h1, by unfold maxLen at h2; omega, fun W' hx k hk => ?_⟩
  obtain ⟨xs, ho, hz⟩ := h.ext hx
  have hlen : xs.length = n := by have := ho.1; omega
  obtain ⟨z, hz⟩ := hz xs[k] (List.getElem_mem (by omega))
  refine ⟨z, ?_⟩
  rw [← hz]
  exact World.ownsRow.cells ho rfl k _ (List.getElem?_eq_getElem (by omega))
theorem filter_take {α : Type} (l : List α) (f : α → Bool) (k : Nat) (hk : k < l.length) : (l.take (k + 1)).filter f = (l.take k).filter f ++ (if f l[k] then [l[k]] else []) := by
  rw [List.take_succ_eq_append_getElem hk, List.filter_append]
  cases h : f l[k] <;> simp [h]
/-- The call returns the row of these trees, and another row. -/
def RetPts (w0 : World) (p : Nat → Prop) (l : List Tr) (w : World) (e : Ending) (w' : World) : Prop :=
  ∃ v u, e = .returned (.tuple #[v, u]) ∧ LstV w0 p w.heap.size w' v l ∧ Ext w w'

/-- What the loop keeps. -/
def PtsR (w : World) (p : Nat → Prop) (w2 : World) (ov uv : Value) (l : List Tr) (wr : World) : Prop :=
  LstV w p w2.heap.size wr ov l ∧ IntRow w2.heap.size wr uv l.length ∧ (∀ b, ov.ownBlock = some b → uv.ownBlock ≠ some b) ∧ Ext w2 wr
/-- One tree more. -/
theorem PtsR.step {w w2 wr : World} {p : Nat → Prop} {ov uv : Value} {l : List Tr} {x : Tr} {s K : Value} (h : PtsR w p w2 ov uv l wr) (hx : TrV w p x (ndV x.d s K)) (hlen : l.length ≤ 1000000) (ty ty' : TypeId) :
    ∃ v3 w3, (Builtin.append_ #[27, 27] ty #[ov, .slice (some ⟨wr.heap.size, 0, none⟩) 1 1]).run Tryz.prog (wr.alloc (.cells #[.int .i64 x.d.kind, .bool x.d.neg, s, .string x.d.name, .int .i64 x.d.exp, .int .i64 x.d.rel, .bool x.d.truth, .bool x.d.all, K] 29)) = .ok v3 w3 ∧ Ext w2 w3 ∧
      ∀ z : Int, ∃ v4 w4, (Builtin.append_ #[87, 87] ty' #[uv, .slice (some ⟨w3.heap.size, 0, none⟩) 1 1]).run Tryz.prog (w3.alloc (.cells #[.int .i64 z] 3)) = .ok v4 w4 ∧ PtsR w p w2 v3 v4 (l ++ [x]) w4 := by
  obtain ⟨hl, hi, hne, hxw⟩ := h
  have hw := hxw.size
  obtain ⟨W1, hW1⟩ : ∃ W1, wr.alloc (.cells #[.int .i64 x.d.kind, .bool x.d.neg, s, .string x.d.name, .int .i64 x.d.exp, .int .i64 x.d.rel, .bool x.d.truth, .bool x.d.all, K] 29) = W1 := ⟨_, rfl⟩
  have hx1 : Ext wr W1 := by rw [← hW1]; exact (Ext.refl wr).alloc _
  have hs1 : W1.heap.size = wr.heap.size + 1 := by rw [← hW1]; simp
  have hn : LstV w p wr.heap.size W1 (.slice (some ⟨wr.heap.size, 0, none⟩) 1 1) [x] := by rw [← hW1]; exact LstV.new hx
  obtain ⟨v3, w3, hr3, l3, gr3, o3⟩ := run_append_trees (hl.ext hx1) hn (by simp) (by omega) (by simp; omega) ty
  have hs3 := gr3.size
  have x3 : Ext w2 w3 := (hxw.trans hx1).grown gr3 (fun b hb => (hl.lt b hb).1)
  rw [hW1]
  refine ⟨v3, w3, hr3, x3, fun z => ?_⟩
  have hi3 : IntRow w2.heap.size w3 uv l.length := (hi.ext hx1).kept gr3 (by
    cases hu : uv.ownBlock with
    | none => exact .inl rfl
    | some b => exact .inr (fun e => hne b e.symm hu))
  obtain ⟨W2, hW2⟩ : ∃ W2, w3.alloc (.cells #[.int .i64 z] 3) = W2 := ⟨_, rfl⟩
  have hx2 : Ext w3 W2 := by rw [← hW2]; exact (Ext.refl w3).alloc _
  have hs2 : W2.heap.size = w3.heap.size + 1 := by rw [← hW2]; simp
  have hm : IntRow w3.heap.size W2 (.slice (some ⟨w3.heap.size, 0, none⟩) 1 1) 1 := by rw [← hW2]; exact IntRow.new z
  obtain ⟨v4, w4, hr4, l4, gr4, o4⟩ := run_append_ints (hi3.ext hx2) hm (by omega) (by omega) (by omega) ty'
  rw [hW2]
  have far : ∀ b, v3.ownBlock = some b → uv.ownBlock ≠ some b := by
    intro b hb hu
    rcases o3 with o3 | o3
    · exact hne b (by rw [← o3]; exact hb) hu
    · rw [o3] at hb
      injection hb with hb
      have := (hi.lt b hu).2
      omega
  refine ⟨v4, w4, hr4, (l3.ext hx2).kept gr4 ?_, ?_, ?_, (x3.trans hx2).grown gr4 (fun b hb => (hi3.lt b hb).1)⟩
  · cases hv : v3.ownBlock with
    | none => exact .inl rfl
    | some b => exact .inr (fun e => far b hv e.symm)
  · rw [List.length_append]; exact l4
  · intro b hb hu
    rcases o4 with o4 | o4
    · exact far b hb (by rw [← o4]; exact hu)
    · rw [o4] at hu
      injection hu with hu
      have := (l3.lt b hb).2
      omega

set_option maxRecDepth 100000 in
set_option maxHeartbeats 4000000 in
theorem refParts_any {w : World} {p : Nat → Prop} (t : Tr) (v : Value) (h : TrV w p t v) (hsz : t.sz ≤ 1000000) : Calls Tryz.prog 70 #[v] w (RetPts w p t.parts w) := by
  have HT := Lib.hid h
  obtain ⟨A0, n0, c0, A, c, rfl, -, hl1, hl2, h4⟩ := h.open_
  clear h h4
  unfold ndV
  unfold ndV at HT
  obtain ⟨W, hW⟩ : ∃ W, w.alloc (.cells #[.int .i64 t.d.kind, .bool t.d.neg, .slice A0 n0 c0, .string t.d.name, .int .i64 t.d.exp, .int .i64 t.d.rel, .bool t.d.truth, .bool t.d.all, .slice A t.ks.length c] 29) = W := ⟨_, rfl⟩
  have hWx : Ext w W := by rw [← hW]; exact (Ext.refl w).alloc _
  have hbx : Box9 W w.heap.size t.d (.slice A0 n0 c0) (.slice A t.ks.length c) := by rw [← hW]; exact Box9.new w t.d _ _ _
  obtain ⟨b0, b1, b2, b3, b4, b5, b6, b7, b8⟩ := hbx
  have HWX := Lib.hid hWx
  have HLI := Lib.hid (list_ih (t.sz + 1) t _ W 0 (Nat.lt_succ_self _) HT.out hWx (by omega))
  have hlp : 0 < t.list.length := by rw [t.list_len]; exact t.sz_pos
  have hlen : t.list.length ≤ 1000000 := by rw [t.list_len]; exact hsz
  have HF : Hid (t.parts = t.list.filter fun x => !termK x.d.kind) := rfl
  clear hWx hsz
  generalize hls : t.list = ls at *
  have HLS := Lib.hid hls
  clear hls
  go_enter Tryz.func70, Tryz.ntmps70
  go_wp2_with fail
  clear hW b0 b1 b2 b3 b4 b5 b6 b7 b8
  refine HLI.out.mono ?_
  rintro e w2 ⟨v2, u2, rfl, l2, i2, -, x2⟩
  obtain ⟨ad, cap, rfl, hc1, hc2, hat⟩ := l2.see hlp
  obtain ⟨ad', cap', rfl, hd1, hd2, hat'⟩ := i2.see hlp
  have L2 := Lib.hid hat
  have I2 := Lib.hid hat'
  have X2 := Lib.hid x2
  clear l2 i2 hat hat' x2 HLI HT
  go_wp2_with fail
  go_loopw [6, 7, 16] (fun ov uv iv wr => ∃ k : Nat, k ≤ ls.length ∧ iv = .int .i64 k ∧ Hid (PtsR w p w2 ov uv ((ls.take k).filter fun x => !termK x.d.kind) wr)) (fun _ _ iv _ => ls.length - (intOf iv).toNat)
  case atStart => exact ⟨0, Nat.zero_le _, rfl, ⟨by simpa using LstV.nil, by simpa using IntRow.nil, by simp [Value.ownBlock], Ext.refl w2⟩⟩
  case round =>
    obtain ⟨k, hk, rfl, hpr⟩ := hrel
    have HPR := hpr
    clear hpr
    have hx := HPR.out.2.2.2
    by_cases hlt : k < ls.length
    · obtain ⟨A0, c0, A1, c1, ⟨e0, e1, e2, e3, e4, e5, e6, e7, e8⟩, ht⟩ := L2.out wr hx k hlt
      have HTX := Lib.hid ht
      have HTK := Lib.hid (filter_take ls (fun x => !termK x.d.kind) k hlt)
      have HLEN : Hid (((ls.take k).filter fun x => !termK x.d.kind).length ≤ 1000000) := by
        have h1 := List.length_filter_le (fun x : Tr => !termK x.d.kind) (ls.take k)
        rw [List.length_take] at h1
        have : ((ls.take k).filter fun x => !termK x.d.kind).length ≤ 1000000 := by omega
        exact this
      by_cases htk : termK ls[k].d.kind = true
      · have HN : Hid ((ls.take (k + 1)).filter (fun x => !termK x.d.kind) = (ls.take k).filter fun x => !termK x.d.kind) := by
          have : (ls.take (k + 1)).filter (fun x => !termK x.d.kind) = (ls.take k).filter fun x => !termK x.d.kind := by rw [HTK.out, htk]; simp
          exact this
        have HKD := Lib.hid htk
        clear ht hx htk
        go_wp2_with fail
        refine (isTerm_any _ _).mono ?_
        rintro e w5 ⟨rfl, rfl⟩
        rw [HKD.out]
        go_wp2_with fail
        go_roundw
        case rel => exact ⟨k + 1, by omega, by go_num, by rw [HN.out]; exact HPR⟩
        case measure => simp [intOf]; omega
      · have htk' : termK ls[k].d.kind = false := by simpa using htk
        have HN : Hid ((ls.take (k + 1)).filter (fun x => !termK x.d.kind) = ((ls.take k).filter fun x => !termK x.d.kind) ++ [ls[k]]) := by
          have : (ls.take (k + 1)).filter (fun x => !termK x.d.kind) = ((ls.take k).filter fun x => !termK x.d.kind) ++ [ls[k]] := by rw [HTK.out, htk']; simp
          exact this
        have HKD := Lib.hid htk'
        obtain ⟨v3, w3, hr3, x3, hnext⟩ := HPR.out.step ht HLEN.out 27 87
        obtain ⟨z, hz⟩ := I2.out w3 x3 k hlt
        have hz' : (w3.alloc (.cells #[.int .i64 z] 3)).cell? (ad'.add k) = some (.int .i64 z) := by
          obtain ⟨z', hz'⟩ := I2.out _ (x3.trans ((Ext.refl w3).alloc (.cells #[.int .i64 z] 3))) k hlt
          rw [← hz]
          have hlt2 : (ad'.add k).block < w3.heap.size := by
            rcases Nat.lt_or_ge (ad'.add k).block w3.heap.size with h | h
            · exact h
            · simp [World.cell?, Array.getElem?_eq_none h] at hz
          exact ((Ext.refl w3).alloc _).cell hlt2
        obtain ⟨v4, w4, hr4, hp4⟩ := hnext z
        have HP4 := Lib.hid hp4
        clear ht hx htk htk' hnext hp4 x3
        go_wp2_with fail
        refine (isTerm_any _ _).mono ?_
        rintro e w5 ⟨rfl, rfl⟩
        rw [HKD.out]
        go_wp2_with (at_builtin
                     first
                     | refine wpList_append_run rfl (.tmp 26) (.tmp 31) _ _ rfl _ _ _ _ rfl rfl hr3 ?_
                     | refine wpList_append_run rfl (.tmp 33) (.tmp 38) _ _ rfl _ _ _ _ rfl rfl hr4 ?_)
        clear hr3 hr4
        go_roundw
        case rel => exact ⟨k + 1, by omega, by go_num, by rw [HN.out]; exact HP4⟩
        case measure => simp [intOf]; omega
    · have HKE : Hid (k = ls.length) := by
        have : k = ls.length := by omega
        exact this
      clear hx
      go_wp2_with fail
      go_ret2
      have hp := HPR.out
      rw [HKE.out, List.take_length] at hp
      have hs := (HWX.out.trans X2.out).size
      exact ⟨_, _, rfl, by rw [HF.out]; exact hp.1.base_ hs, HWX.out.trans (X2.out.trans hp.2.2.2)⟩

/-- append of one name. -/
theorem run_append_str {W : World} {base : Nat} {v : Value} {l : List ByteArray} (h : StrRow W base v l) (s : ByteArray) (hb : base ≤ W.heap.size) (hlen : l.length ≤ 1000000) (ty : TypeId) :
    ∃ v' w', (Builtin.append_ #[74, 74] ty #[v, .slice (some ⟨W.heap.size, 0, none⟩) 1 1]).run Tryz.prog (W.alloc (.cells #[.string s] 9)) = .ok v' w' ∧ StrRow w' base v' (l ++ [s]) ∧ (W.alloc (.cells #[.string s] 9)).grownBy w' v.ownBlock := by
  obtain ⟨i0, hi, hz0, hz1, hz2⟩ := info_parts info_str
  have h' := h.ext ((Ext.refl W).alloc (.cells #[.string s] 9))
  obtain ⟨v', w', hrun, r1, r2, -, r3⟩ := run_append_own_at (P := Tryz.prog) (W.alloc (.cells #[.string s] 9)) base 74 ty 9 i0 _ 1 16 Tryz.underlying74 hi hz0 hz1 hz2 rfl (by omega) v l.length (strs l) h' ⟨W.heap.size, 0, none⟩ 1 1 [.string s] rfl (news1 (by simp [go_sem])) (by simp [Value.oneCell']) (by unfold maxLen; omega) (by omega) (by simp; omega)
  refine ⟨v', w', hrun, ?_, r2⟩
  unfold StrRow
  rw [strs_snoc]; simpa using r1

set_option maxRecDepth 100000 in
set_option maxHeartbeats 4000000 in
theorem refBound_any {w : World} {p : Nat → Prop} (t : Tr) (v : Value) (h : TrV w p t v) (hsz : t.sz ≤ 1000000) (hnt : termK t.d.kind = false) : Calls Tryz.prog 36 #[v] w (RetStrs t.bnd w) := by
  have HT := Lib.hid h
  obtain ⟨A0, n0, c0, A, c, rfl, -, hl1, hl2, h4⟩ := h.open_
  clear h h4
  unfold ndV
  unfold ndV at HT
  obtain ⟨W, hW⟩ : ∃ W, w.alloc (.cells #[.int .i64 t.d.kind, .bool t.d.neg, .slice A0 n0 c0, .string t.d.name, .int .i64 t.d.exp, .int .i64 t.d.rel, .bool t.d.truth, .bool t.d.all, .slice A t.ks.length c] 29) = W := ⟨_, rfl⟩
  have hWx : Ext w W := by rw [← hW]; exact (Ext.refl w).alloc _
  have hbx : Box9 W w.heap.size t.d (.slice A0 n0 c0) (.slice A t.ks.length c) := by rw [← hW]; exact Box9.new w t.d _ _ _
  obtain ⟨b0, b1, b2, b3, b4, b5, b6, b7, b8⟩ := hbx
  have HWX := Lib.hid hWx
  have HPA := Lib.hid (refParts_any t _ (HT.out.ext hWx) hsz)
  have hlp : 0 < t.parts.length := by
    have : t ∈ t.parts := List.mem_filter.2 ⟨by cases t; simp [Tr.list], by rw [hnt]; rfl⟩
    exact List.length_pos_of_mem this
  have hlen : t.parts.length ≤ 1000000 := by
    have h1 := List.length_filter_le (fun x : Tr => !termK x.d.kind) t.list
    rw [t.list_len] at h1
    unfold Tr.parts; omega
  have HF : Hid (t.bnd = (t.parts.filter fun x => x.d.kind == 15).map fun x => x.d.name) := rfl
  clear hWx hsz hnt
  generalize hls : t.parts = ls at *
  have HLS := Lib.hid hls
  clear hls
  go_enter Tryz.func36, Tryz.ntmps36
  go_wp2_with fail
  clear hW b0 b1 b2 b3 b4 b5 b6 b7 b8
  refine HPA.out.mono ?_
  rintro e w2 ⟨v2, u2, rfl, l2, x2⟩
  obtain ⟨ad, cap, rfl, hc1, hc2, hat⟩ := l2.see hlp
  have L2 := Lib.hid hat
  have X2 := Lib.hid x2
  clear l2 hat x2 HPA HT
  go_wp2_with fail
  go_loopw [3, 14] (fun sv iv wr => ∃ k : Nat, k ≤ ls.length ∧ iv = .int .i64 k ∧ Hid (StrRow wr w2.heap.size sv (((ls.take k).filter fun x => x.d.kind == 15).map fun x => x.d.name) ∧ Ext w2 wr)) (fun _ iv _ => ls.length - (intOf iv).toNat)
  case atStart => exact ⟨0, Nat.zero_le _, rfl, ⟨by simpa using StrRow.nil w2 w2.heap.size, Ext.refl w2⟩⟩
  case round =>
    obtain ⟨k, hk, rfl, ⟨hsr, hx⟩⟩ := hrel
    have HSR := Lib.hid hsr
    have HX := Lib.hid hx
    by_cases hlt : k < ls.length
    · obtain ⟨A0, c0, A1, c1, ⟨e0, e1, e2, e3, e4, e5, e6, e7, e8⟩, ht⟩ := L2.out wr hx k hlt
      have HTK := Lib.hid (filter_take ls (fun x => x.d.kind == 15) k hlt)
      have HLEN : Hid ((((ls.take k).filter fun x => x.d.kind == 15).map fun x => x.d.name).length ≤ 1000000) := by
        have h1 := List.length_filter_le (fun x : Tr => x.d.kind == 15) (ls.take k)
        rw [List.length_take] at h1
        have : (((ls.take k).filter fun x => x.d.kind == 15).map fun x => x.d.name).length ≤ 1000000 := by rw [List.length_map]; omega
        exact this
      clear e1 e2 e4 e5 e6 e7 e8 ht
      by_cases hq : (ls[k].d.kind == 15) = true
      · obtain ⟨v3, w3, hr3, r3, gr3⟩ := run_append_str hsr ls[k].d.name hx.size HLEN.out 74
        have hn : StrRow w3 w2.heap.size v3 (((ls.take (k + 1)).filter fun x => x.d.kind == 15).map fun x => x.d.name) ∧ Ext w2 w3 := by
          rw [HTK.out, hq]
          refine ⟨by simpa using r3, (hx.trans ((Ext.refl wr).alloc _)).grown gr3 (fun b hb => (hsr.lt b hb).1)⟩
        have HN := Lib.hid hn
        clear hn r3 gr3 hsr hx HTK
        go_wp2_with (at_builtin
                     refine wpList_append_run rfl (.tmp 23) (.tmp 29) _ _ rfl _ _ _ _ rfl rfl hr3 ?_)
        clear hr3
        go_roundw
        case rel => exact ⟨k + 1, by omega, by go_num, HN⟩
        case measure => simp [intOf]; omega
      · have hq' : (ls[k].d.kind == 15) = false := by simpa using hq
        have HEQ : Hid ((((ls.take (k + 1)).filter fun x => x.d.kind == 15).map fun x => x.d.name) = (((ls.take k).filter fun x => x.d.kind == 15).map fun x => x.d.name)) := by
          have : (((ls.take (k + 1)).filter fun x => x.d.kind == 15).map fun x => x.d.name) = (((ls.take k).filter fun x => x.d.kind == 15).map fun x => x.d.name) := by rw [HTK.out, hq']; simp
          exact this
        clear hsr hx hq HTK
        go_wp2_with fail
        go_roundw
        case rel => exact ⟨k + 1, by omega, by go_num, ⟨by rw [HEQ.out]; exact HSR.out, HX.out⟩⟩
        case measure => simp [intOf]; omega
    · have HKE : Hid (k = ls.length) := by
        have : k = ls.length := by omega
        exact this
      clear hx hsr
      go_wp2_with fail
      go_ret
      have hp := HSR.out
      rw [HKE.out, List.take_length] at hp
      have hs := (HWX.out.trans X2.out).size
      exact ⟨_, rfl, by rw [HF.out]; exact ownsRow_base hp hs, HWX.out.trans (X2.out.trans HX.out)⟩
end Go.Proofs.YtofbfplpbffpfaaGreat

/- Reference 40: truth. -/
namespace Go.Proofs.YtofbfplpbffpfaaGreat
open Go.RowKit

def TruIH (L : Nat) (p : Nat → Prop) (s : Value) (vals : List (ByteArray × Rat)) (f : Fm) : Prop := ∀ (t : Tr) (v : Value) (w : World), IsFm L f t → TrV w p t v → VsV w L s vals → Calls Tryz.prog 40 #[v, s] w (RetB (f.tv (vget vals)) w)

section
variable {L : Nat} {p : Nat → Prop} {s : Value} {vals : List (ByteArray × Rat)}

set_option maxRecDepth 100000 in
set_option maxHeartbeats 4000000 in
theorem rt_truth {b : Bool} : TruIH L p s vals (.truth b) := by
  intro t v w h hv hvs
  obtain ⟨⟨kind, neg, ds, name, exp, rel, truth, all⟩, ks⟩ := t
  obtain ⟨hkind, hks, htr⟩ := h
  simp only [Tr.d] at hkind htr
  simp only [Tr.ks] at hks
  subst hkind hks htr
  obtain ⟨A0, n0, c0, A, c, rfl, hnat, hc1, hc2, hat⟩ := hv.open_
  clear hv hnat hat
  unfold ndV
  simp only [Tr.d, Tr.ks, List.length_nil] at hc1 ⊢
  obtain ⟨As, cs, hse, hs1, hs2, -⟩ := id hvs
  have HVS := Lib.hid hvs
  subst hse
  clear hvs
  go_enter Tryz.func40, Tryz.ntmps40
  go_wp2_with fail
  go_ret
  exact ⟨rfl, (Ext.refl w).alloc _⟩

set_option maxRecDepth 100000 in
set_option maxHeartbeats 4000000 in
theorem rt_not {f : Fm} (ihf : TruIH L p s vals f) : TruIH L p s vals (.not f) := by
  intro t v w h hv hvs
  change Calls _ _ _ _ (RetB (!f.tv (vget vals)) w)
  have IHA := Lib.hid ihf
  clear ihf
  obtain ⟨⟨kind, neg, ds, name, exp, rel, truth, all⟩, ks⟩ := t
  obtain ⟨hkind, t0, hks, h0⟩ := h
  simp only [Tr.d] at hkind
  simp only [Tr.ks] at hks
  subst hkind hks
  have H0 := Lib.hid h0
  clear h0
  obtain ⟨A0, n0, c0, A, c, rfl, hnat, hc1, hc2, hat⟩ := hv.open_
  change TrsAt w p [t0] A 0 at hat
  clear hv hnat
  unfold ndV
  simp only [Tr.d, Tr.ks, List.length_cons, List.length_nil, Nat.zero_add, Nat.reduceAdd] at hc1 ⊢
  obtain ⟨As, cs, hse, hs1, hs2, -⟩ := id hvs
  have HVS := Lib.hid hvs
  subst hse
  clear hvs
  obtain ⟨W, hW⟩ : ∃ W, w.alloc (.cells #[.int .i64 10, .bool neg, .slice A0 n0 c0, .string name, .int .i64 exp, .int .i64 rel, .bool truth, .bool all, .slice A 1 c] 29) = W := ⟨_, rfl⟩
  have hWx : Ext w W := by rw [← hW]; exact (Ext.refl w).alloc _
  have hWs : W.heap.size = w.heap.size + 1 := by rw [← hW]; simp
  have hbx : W.heap[w.heap.size]? = some (.cells #[.int .i64 10, .bool neg, .slice A0 n0 c0, .string name, .int .i64 exp, .int .i64 rel, .bool truth, .bool all, .slice A 1 c] 29 (0, 0)) := by rw [← hW]; exact heap_alloc_new w _
  have HBX := Lib.hid hbx
  have HWX := Lib.hid hWx
  have HAT := Lib.hid hat
  obtain ⟨ad, B0, m0, d0, B1, m1, d1, hA, hadb, ⟨e0, e1, e2, e3, e4, e5, e6, e7, e8⟩, hkt⟩ := (hat.ext hWx).kid0 (by simp)
  subst hA
  have HK0 := Lib.hid hkt
  simp only [List.getElem_cons_zero] at e0 e1 e3 e4 e5 e6 e7
  have b0 : W.cell? ⟨w.heap.size, 0, none⟩ = some (.int .i64 10) := by simp [World.cell?, hbx]
  have b8 : W.cell? ⟨w.heap.size, 8, none⟩ = some (.slice (some ad) 1 c) := by simp [World.cell?, hbx]
  clear hkt hat hWx hbx
  go_enter Tryz.func40, Tryz.ntmps40
  go_wp2_with fail
  clear hW b0 b8 e0 e1 e2 e3 e4 e5 e6 e7 e8
  refine (IHA.out t0 _ _ H0.out HK0.out (HVS.out.ext HWX.out)).mono ?_
  rintro e v1 ⟨rfl, x1⟩
  have hs1 := x1.size
  have hbx := (x1.below.block _ (by omega)).trans HBX.out
  have b0 : v1.cell? ⟨w.heap.size, 0, none⟩ = some (.int .i64 10) := by simp [World.cell?, hbx]
  have b8 : v1.cell? ⟨w.heap.size, 8, none⟩ = some (.slice (some ad) 1 c) := by simp [World.cell?, hbx]
  have X1 := Lib.hid (HWX.out.trans x1)
  clear x1 hbx
  generalize f.tv (vget vals) = fa at *
  go_wp2_with fail
  go_ret
  exact ⟨rfl, X1.out⟩

set_option maxRecDepth 100000 in
set_option maxHeartbeats 4000000 in
theorem rt_and {f g : Fm} (ihf : TruIH L p s vals f) (ihh : TruIH L p s vals g) : TruIH L p s vals (.and f g) := by
  intro t v w h hv hvs
  change Calls _ _ _ _ (RetB (f.tv (vget vals) && g.tv (vget vals)) w)
  have IHA := Lib.hid ihf
  have IHB := Lib.hid ihh
  clear ihf ihh
  obtain ⟨⟨kind, neg, ds, name, exp, rel, truth, all⟩, ks⟩ := t
  obtain ⟨hkind, t0, t1, hks, h0, h1⟩ := h
  simp only [Tr.d] at hkind
  simp only [Tr.ks] at hks
  subst hkind hks
  have H0 := Lib.hid h0
  have H1 := Lib.hid h1
  clear h0 h1
  obtain ⟨A0, n0, c0, A, c, rfl, hnat, hc1, hc2, hat⟩ := hv.open_
  change TrsAt w p [t0, t1] A 0 at hat
  clear hv hnat
  unfold ndV
  simp only [Tr.d, Tr.ks, List.length_cons, List.length_nil, Nat.zero_add, Nat.reduceAdd] at hc1 ⊢
  obtain ⟨As, cs, hse, hs1, hs2, -⟩ := id hvs
  have HVS := Lib.hid hvs
  subst hse
  clear hvs
  obtain ⟨W, hW⟩ : ∃ W, w.alloc (.cells #[.int .i64 11, .bool neg, .slice A0 n0 c0, .string name, .int .i64 exp, .int .i64 rel, .bool truth, .bool all, .slice A 2 c] 29) = W := ⟨_, rfl⟩
  have hWx : Ext w W := by rw [← hW]; exact (Ext.refl w).alloc _
  have hWs : W.heap.size = w.heap.size + 1 := by rw [← hW]; simp
  have hbx : W.heap[w.heap.size]? = some (.cells #[.int .i64 11, .bool neg, .slice A0 n0 c0, .string name, .int .i64 exp, .int .i64 rel, .bool truth, .bool all, .slice A 2 c] 29 (0, 0)) := by rw [← hW]; exact heap_alloc_new w _
  have HBX := Lib.hid hbx
  have HWX := Lib.hid hWx
  have HAT := Lib.hid hat
  obtain ⟨ad, B0, m0, d0, B1, m1, d1, hA, hadb, ⟨e0, e1, e2, e3, e4, e5, e6, e7, e8⟩, hkt⟩ := (hat.ext hWx).kid0 (by simp)
  subst hA
  have HK0 := Lib.hid hkt
  simp only [List.getElem_cons_zero] at e0 e1 e3 e4 e5 e6 e7
  have b0 : W.cell? ⟨w.heap.size, 0, none⟩ = some (.int .i64 11) := by simp [World.cell?, hbx]
  have b8 : W.cell? ⟨w.heap.size, 8, none⟩ = some (.slice (some ad) 2 c) := by simp [World.cell?, hbx]
  clear hkt hat hWx hbx
  go_enter Tryz.func40, Tryz.ntmps40
  go_wp2_with fail
  clear hW b0 b8 e0 e1 e2 e3 e4 e5 e6 e7 e8
  refine (IHA.out t0 _ _ H0.out HK0.out (HVS.out.ext HWX.out)).mono ?_
  rintro e v1 ⟨rfl, x1⟩
  have hs1 := x1.size
  have hbx := (x1.below.block _ (by omega)).trans HBX.out
  have b0 : v1.cell? ⟨w.heap.size, 0, none⟩ = some (.int .i64 11) := by simp [World.cell?, hbx]
  have b8 : v1.cell? ⟨w.heap.size, 8, none⟩ = some (.slice (some ad) 2 c) := by simp [World.cell?, hbx]
  obtain ⟨ad', C0, p0, q0, C1, p1, q1, hA, -, hnd, hkt⟩ := (HAT.out.ext (HWX.out.trans x1)).kid 1 (by simp)
  injection hA with hA
  subst hA
  obtain ⟨e0, e1, e2, e3, e4, e5, e6, e7, e8⟩ := hnd.nine
  simp only [List.getElem_cons_succ, List.getElem_cons_zero] at e0 e1 e3 e4 e5 e6 e7
  have HK1 := Lib.hid hkt
  have X1 := Lib.hid x1
  have HB1 := Lib.hid hbx
  clear x1 hnd hkt hbx
  generalize f.tv (vget vals) = fa at *
  go_wp2_with fail
  clear b0 b8 e0 e1 e2 e3 e4 e5 e6 e7 e8
  refine (IHB.out t1 _ _ H1.out HK1.out (HVS.out.ext (HWX.out.trans X1.out))).mono ?_
  rintro e v2 ⟨rfl, x2⟩
  have hs2' := x2.size
  have hbx := (x2.below.block _ (by omega)).trans HB1.out
  have b0 : v2.cell? ⟨w.heap.size, 0, none⟩ = some (.int .i64 11) := by simp [World.cell?, hbx]
  have b8 : v2.cell? ⟨w.heap.size, 8, none⟩ = some (.slice (some ad) 2 c) := by simp [World.cell?, hbx]
  have X2 := Lib.hid (HWX.out.trans (X1.out.trans x2))
  clear x2 hbx IHA IHB HK0 HK1 HAT
  generalize g.tv (vget vals) = fb at *
  cases fa <;> cases fb <;> (go_wp2_with fail; go_ret; exact ⟨rfl, X2.out⟩)

set_option maxRecDepth 100000 in
set_option maxHeartbeats 4000000 in
theorem rt_or {f g : Fm} (ihf : TruIH L p s vals f) (ihh : TruIH L p s vals g) : TruIH L p s vals (.or f g) := by
  intro t v w h hv hvs
  change Calls _ _ _ _ (RetB (f.tv (vget vals) || g.tv (vget vals)) w)
  have IHA := Lib.hid ihf
  have IHB := Lib.hid ihh
  clear ihf ihh
  obtain ⟨⟨kind, neg, ds, name, exp, rel, truth, all⟩, ks⟩ := t
  obtain ⟨hkind, t0, t1, hks, h0, h1⟩ := h
  simp only [Tr.d] at hkind
  simp only [Tr.ks] at hks
  subst hkind hks
  have H0 := Lib.hid h0
  have H1 := Lib.hid h1
  clear h0 h1
  obtain ⟨A0, n0, c0, A, c, rfl, hnat, hc1, hc2, hat⟩ := hv.open_
  change TrsAt w p [t0, t1] A 0 at hat
  clear hv hnat
  unfold ndV
  simp only [Tr.d, Tr.ks, List.length_cons, List.length_nil, Nat.zero_add, Nat.reduceAdd] at hc1 ⊢
  obtain ⟨As, cs, hse, hs1, hs2, -⟩ := id hvs
  have HVS := Lib.hid hvs
  subst hse
  clear hvs
  obtain ⟨W, hW⟩ : ∃ W, w.alloc (.cells #[.int .i64 12, .bool neg, .slice A0 n0 c0, .string name, .int .i64 exp, .int .i64 rel, .bool truth, .bool all, .slice A 2 c] 29) = W := ⟨_, rfl⟩
  have hWx : Ext w W := by rw [← hW]; exact (Ext.refl w).alloc _
  have hWs : W.heap.size = w.heap.size + 1 := by rw [← hW]; simp
  have hbx : W.heap[w.heap.size]? = some (.cells #[.int .i64 12, .bool neg, .slice A0 n0 c0, .string name, .int .i64 exp, .int .i64 rel, .bool truth, .bool all, .slice A 2 c] 29 (0, 0)) := by rw [← hW]; exact heap_alloc_new w _
  have HBX := Lib.hid hbx
  have HWX := Lib.hid hWx
  have HAT := Lib.hid hat
  obtain ⟨ad, B0, m0, d0, B1, m1, d1, hA, hadb, ⟨e0, e1, e2, e3, e4, e5, e6, e7, e8⟩, hkt⟩ := (hat.ext hWx).kid0 (by simp)
  subst hA
  have HK0 := Lib.hid hkt
  simp only [List.getElem_cons_zero] at e0 e1 e3 e4 e5 e6 e7
  have b0 : W.cell? ⟨w.heap.size, 0, none⟩ = some (.int .i64 12) := by simp [World.cell?, hbx]
  have b8 : W.cell? ⟨w.heap.size, 8, none⟩ = some (.slice (some ad) 2 c) := by simp [World.cell?, hbx]
  clear hkt hat hWx hbx
  go_enter Tryz.func40, Tryz.ntmps40
  go_wp2_with fail
  clear hW b0 b8 e0 e1 e2 e3 e4 e5 e6 e7 e8
  refine (IHA.out t0 _ _ H0.out HK0.out (HVS.out.ext HWX.out)).mono ?_
  rintro e v1 ⟨rfl, x1⟩
  have hs1 := x1.size
  have hbx := (x1.below.block _ (by omega)).trans HBX.out
  have b0 : v1.cell? ⟨w.heap.size, 0, none⟩ = some (.int .i64 12) := by simp [World.cell?, hbx]
  have b8 : v1.cell? ⟨w.heap.size, 8, none⟩ = some (.slice (some ad) 2 c) := by simp [World.cell?, hbx]
  obtain ⟨ad', C0, p0, q0, C1, p1, q1, hA, -, hnd, hkt⟩ := (HAT.out.ext (HWX.out.trans x1)).kid 1 (by simp)
  injection hA with hA
  subst hA
  obtain ⟨e0, e1, e2, e3, e4, e5, e6, e7, e8⟩ := hnd.nine
  simp only [List.getElem_cons_succ, List.getElem_cons_zero] at e0 e1 e3 e4 e5 e6 e7
  have HK1 := Lib.hid hkt
  have X1 := Lib.hid x1
  have HB1 := Lib.hid hbx
  clear x1 hnd hkt hbx
  generalize f.tv (vget vals) = fa at *
  go_wp2_with fail
  clear b0 b8 e0 e1 e2 e3 e4 e5 e6 e7 e8
  refine (IHB.out t1 _ _ H1.out HK1.out (HVS.out.ext (HWX.out.trans X1.out))).mono ?_
  rintro e v2 ⟨rfl, x2⟩
  have hs2' := x2.size
  have hbx := (x2.below.block _ (by omega)).trans HB1.out
  have b0 : v2.cell? ⟨w.heap.size, 0, none⟩ = some (.int .i64 12) := by simp [World.cell?, hbx]
  have b8 : v2.cell? ⟨w.heap.size, 8, none⟩ = some (.slice (some ad) 2 c) := by simp [World.cell?, hbx]
  have X2 := Lib.hid (HWX.out.trans (X1.out.trans x2))
  clear x2 hbx IHA IHB HK0 HK1 HAT
  generalize g.tv (vget vals) = fb at *
  cases fa <;> cases fb <;> (go_wp2_with fail; go_ret; exact ⟨rfl, X2.out⟩)

set_option maxRecDepth 100000 in
set_option maxHeartbeats 4000000 in
theorem rt_imp {f g : Fm} (ihf : TruIH L p s vals f) (ihh : TruIH L p s vals g) : TruIH L p s vals (.imp f g) := by
  intro t v w h hv hvs
  change Calls _ _ _ _ (RetB (!f.tv (vget vals) || g.tv (vget vals)) w)
  have IHA := Lib.hid ihf
  have IHB := Lib.hid ihh
  clear ihf ihh
  obtain ⟨⟨kind, neg, ds, name, exp, rel, truth, all⟩, ks⟩ := t
  obtain ⟨hkind, t0, t1, hks, h0, h1⟩ := h
  simp only [Tr.d] at hkind
  simp only [Tr.ks] at hks
  subst hkind hks
  have H0 := Lib.hid h0
  have H1 := Lib.hid h1
  clear h0 h1
  obtain ⟨A0, n0, c0, A, c, rfl, hnat, hc1, hc2, hat⟩ := hv.open_
  change TrsAt w p [t0, t1] A 0 at hat
  clear hv hnat
  unfold ndV
  simp only [Tr.d, Tr.ks, List.length_cons, List.length_nil, Nat.zero_add, Nat.reduceAdd] at hc1 ⊢
  obtain ⟨As, cs, hse, hs1, hs2, -⟩ := id hvs
  have HVS := Lib.hid hvs
  subst hse
  clear hvs
  obtain ⟨W, hW⟩ : ∃ W, w.alloc (.cells #[.int .i64 13, .bool neg, .slice A0 n0 c0, .string name, .int .i64 exp, .int .i64 rel, .bool truth, .bool all, .slice A 2 c] 29) = W := ⟨_, rfl⟩
  have hWx : Ext w W := by rw [← hW]; exact (Ext.refl w).alloc _
  have hWs : W.heap.size = w.heap.size + 1 := by rw [← hW]; simp
  have hbx : W.heap[w.heap.size]? = some (.cells #[.int .i64 13, .bool neg, .slice A0 n0 c0, .string name, .int .i64 exp, .int .i64 rel, .bool truth, .bool all, .slice A 2 c] 29 (0, 0)) := by rw [← hW]; exact heap_alloc_new w _
  have HBX := Lib.hid hbx
  have HWX := Lib.hid hWx
  have HAT := Lib.hid hat
  obtain ⟨ad, B0, m0, d0, B1, m1, d1, hA, hadb, ⟨e0, e1, e2, e3, e4, e5, e6, e7, e8⟩, hkt⟩ := (hat.ext hWx).kid0 (by simp)
  subst hA
  have HK0 := Lib.hid hkt
  simp only [List.getElem_cons_zero] at e0 e1 e3 e4 e5 e6 e7
  have b0 : W.cell? ⟨w.heap.size, 0, none⟩ = some (.int .i64 13) := by simp [World.cell?, hbx]
  have b8 : W.cell? ⟨w.heap.size, 8, none⟩ = some (.slice (some ad) 2 c) := by simp [World.cell?, hbx]
  clear hkt hat hWx hbx
  go_enter Tryz.func40, Tryz.ntmps40
  go_wp2_with fail
  clear hW b0 b8 e0 e1 e2 e3 e4 e5 e6 e7 e8
  refine (IHA.out t0 _ _ H0.out HK0.out (HVS.out.ext HWX.out)).mono ?_
  rintro e v1 ⟨rfl, x1⟩
  have hs1 := x1.size
  have hbx := (x1.below.block _ (by omega)).trans HBX.out
  have b0 : v1.cell? ⟨w.heap.size, 0, none⟩ = some (.int .i64 13) := by simp [World.cell?, hbx]
  have b8 : v1.cell? ⟨w.heap.size, 8, none⟩ = some (.slice (some ad) 2 c) := by simp [World.cell?, hbx]
  obtain ⟨ad', C0, p0, q0, C1, p1, q1, hA, -, hnd, hkt⟩ := (HAT.out.ext (HWX.out.trans x1)).kid 1 (by simp)
  injection hA with hA
  subst hA
  obtain ⟨e0, e1, e2, e3, e4, e5, e6, e7, e8⟩ := hnd.nine
  simp only [List.getElem_cons_succ, List.getElem_cons_zero] at e0 e1 e3 e4 e5 e6 e7
  have HK1 := Lib.hid hkt
  have X1 := Lib.hid x1
  have HB1 := Lib.hid hbx
  clear x1 hnd hkt hbx
  generalize f.tv (vget vals) = fa at *
  go_wp2_with fail
  clear b0 b8 e0 e1 e2 e3 e4 e5 e6 e7 e8
  refine (IHB.out t1 _ _ H1.out HK1.out (HVS.out.ext (HWX.out.trans X1.out))).mono ?_
  rintro e v2 ⟨rfl, x2⟩
  have hs2' := x2.size
  have hbx := (x2.below.block _ (by omega)).trans HB1.out
  have b0 : v2.cell? ⟨w.heap.size, 0, none⟩ = some (.int .i64 13) := by simp [World.cell?, hbx]
  have b8 : v2.cell? ⟨w.heap.size, 8, none⟩ = some (.slice (some ad) 2 c) := by simp [World.cell?, hbx]
  have X2 := Lib.hid (HWX.out.trans (X1.out.trans x2))
  clear x2 hbx IHA IHB HK0 HK1 HAT
  generalize g.tv (vget vals) = fb at *
  cases fa <;> cases fb <;> (go_wp2_with fail; go_ret; exact ⟨rfl, X2.out⟩)

set_option maxRecDepth 100000 in
set_option maxHeartbeats 4000000 in
theorem rt_iff {f g : Fm} (ihf : TruIH L p s vals f) (ihh : TruIH L p s vals g) : TruIH L p s vals (.iff f g) := by
  intro t v w h hv hvs
  change Calls _ _ _ _ (RetB (f.tv (vget vals) == g.tv (vget vals)) w)
  have IHA := Lib.hid ihf
  have IHB := Lib.hid ihh
  clear ihf ihh
  obtain ⟨⟨kind, neg, ds, name, exp, rel, truth, all⟩, ks⟩ := t
  obtain ⟨hkind, t0, t1, hks, h0, h1⟩ := h
  simp only [Tr.d] at hkind
  simp only [Tr.ks] at hks
  subst hkind hks
  have H0 := Lib.hid h0
  have H1 := Lib.hid h1
  clear h0 h1
  obtain ⟨A0, n0, c0, A, c, rfl, hnat, hc1, hc2, hat⟩ := hv.open_
  change TrsAt w p [t0, t1] A 0 at hat
  clear hv hnat
  unfold ndV
  simp only [Tr.d, Tr.ks, List.length_cons, List.length_nil, Nat.zero_add, Nat.reduceAdd] at hc1 ⊢
  obtain ⟨As, cs, hse, hs1, hs2, -⟩ := id hvs
  have HVS := Lib.hid hvs
  subst hse
  clear hvs
  obtain ⟨W, hW⟩ : ∃ W, w.alloc (.cells #[.int .i64 14, .bool neg, .slice A0 n0 c0, .string name, .int .i64 exp, .int .i64 rel, .bool truth, .bool all, .slice A 2 c] 29) = W := ⟨_, rfl⟩
  have hWx : Ext w W := by rw [← hW]; exact (Ext.refl w).alloc _
  have hWs : W.heap.size = w.heap.size + 1 := by rw [← hW]; simp
  have hbx : W.heap[w.heap.size]? = some (.cells #[.int .i64 14, .bool neg, .slice A0 n0 c0, .string name, .int .i64 exp, .int .i64 rel, .bool truth, .bool all, .slice A 2 c] 29 (0, 0)) := by rw [← hW]; exact heap_alloc_new w _
  have HBX := Lib.hid hbx
  have HWX := Lib.hid hWx
  have HAT := Lib.hid hat
  obtain ⟨ad, B0, m0, d0, B1, m1, d1, hA, hadb, ⟨e0, e1, e2, e3, e4, e5, e6, e7, e8⟩, hkt⟩ := (hat.ext hWx).kid0 (by simp)
  subst hA
  have HK0 := Lib.hid hkt
  simp only [List.getElem_cons_zero] at e0 e1 e3 e4 e5 e6 e7
  have b0 : W.cell? ⟨w.heap.size, 0, none⟩ = some (.int .i64 14) := by simp [World.cell?, hbx]
  have b8 : W.cell? ⟨w.heap.size, 8, none⟩ = some (.slice (some ad) 2 c) := by simp [World.cell?, hbx]
  clear hkt hat hWx hbx
  go_enter Tryz.func40, Tryz.ntmps40
  go_wp2_with fail
  clear hW b0 b8 e0 e1 e2 e3 e4 e5 e6 e7 e8
  refine (IHA.out t0 _ _ H0.out HK0.out (HVS.out.ext HWX.out)).mono ?_
  rintro e v1 ⟨rfl, x1⟩
  have hs1 := x1.size
  have hbx := (x1.below.block _ (by omega)).trans HBX.out
  have b0 : v1.cell? ⟨w.heap.size, 0, none⟩ = some (.int .i64 14) := by simp [World.cell?, hbx]
  have b8 : v1.cell? ⟨w.heap.size, 8, none⟩ = some (.slice (some ad) 2 c) := by simp [World.cell?, hbx]
  obtain ⟨ad', C0, p0, q0, C1, p1, q1, hA, -, hnd, hkt⟩ := (HAT.out.ext (HWX.out.trans x1)).kid 1 (by simp)
  injection hA with hA
  subst hA
  obtain ⟨e0, e1, e2, e3, e4, e5, e6, e7, e8⟩ := hnd.nine
  simp only [List.getElem_cons_succ, List.getElem_cons_zero] at e0 e1 e3 e4 e5 e6 e7
  have HK1 := Lib.hid hkt
  have X1 := Lib.hid x1
  have HB1 := Lib.hid hbx
  clear x1 hnd hkt hbx
  generalize f.tv (vget vals) = fa at *
  go_wp2_with fail
  clear b0 b8 e0 e1 e2 e3 e4 e5 e6 e7 e8
  refine (IHB.out t1 _ _ H1.out HK1.out (HVS.out.ext (HWX.out.trans X1.out))).mono ?_
  rintro e v2 ⟨rfl, x2⟩
  have hs2' := x2.size
  have hbx := (x2.below.block _ (by omega)).trans HB1.out
  have b0 : v2.cell? ⟨w.heap.size, 0, none⟩ = some (.int .i64 14) := by simp [World.cell?, hbx]
  have b8 : v2.cell? ⟨w.heap.size, 8, none⟩ = some (.slice (some ad) 2 c) := by simp [World.cell?, hbx]
  have X2 := Lib.hid (HWX.out.trans (X1.out.trans x2))
  clear x2 hbx IHA IHB HK0 HK1 HAT
  generalize g.tv (vget vals) = fb at *
  cases fa <;> cases fb <;> (go_wp2_with fail; go_ret; exact ⟨rfl, X2.out⟩)

set_option maxRecDepth 100000 in
set_option maxHeartbeats 4000000 in
theorem rt_atom {l k : Tm} {r : Int} (hL : 1 ≤ L) (hl : l.covered (vget vals) ∧ l.bt L ≤ 1000000000000) (hk : k.covered (vget vals) ∧ k.bt L ≤ 1000000000000) : TruIH L p s vals (.atom l r k) := by
  intro t v w h hv hvs
  change Calls _ _ _ _ (RetB (holdsI r (cmpQ (l.val (vget vals)) (k.val (vget vals)))) w)
  have IHA := Lib.hid (value_ih (p := p) (s := s) hL l hl.1 hl.2)
  have IHB := Lib.hid (value_ih (p := p) (s := s) hL k hk.1 hk.2)
  have hb1 := l.bt_pos L hL
  have hb2 := k.bt_pos L hL
  have hl2 := hl.2
  have hk2 := hk.2
  clear hl hk
  obtain ⟨⟨kind, neg, ds, name, exp, rel, truth, all⟩, ks⟩ := t
  obtain ⟨hkind, hrel, -, -, t0, t1, hks, h0, h1⟩ := h
  simp only [Tr.d] at hkind hrel
  simp only [Tr.ks] at hks
  subst hkind hks hrel
  obtain ⟨As, cs, hse, hs1, hs2, -⟩ := id hvs
  have HVS := Lib.hid hvs
  subst hse
  clear hvs
  obtain ⟨A0, n0, c0, A, c, rfl, hnat, hc1, hc2, hat⟩ := hv.open_
  change TrsAt w p [t0, t1] A 0 at hat
  clear hv hnat
  unfold ndV
  simp only [Tr.d, Tr.ks, List.length_cons, List.length_nil, Nat.zero_add, Nat.reduceAdd] at hc1 ⊢
  obtain ⟨W, hW⟩ : ∃ W, w.alloc (.cells #[.int .i64 9, .bool neg, .slice A0 n0 c0, .string name, .int .i64 exp, .int .i64 rel, .bool truth, .bool all, .slice A 2 c] 29) = W := ⟨_, rfl⟩
  have hWx : Ext w W := by rw [← hW]; exact (Ext.refl w).alloc _
  have hWs : w.heap.size < W.heap.size := by rw [← hW]; simp
  have hat2 := hat.ext hWx
  obtain ⟨ad, B0, m0, d0, B1, m1, d1, hA, hadb, hn0, hk0⟩ := hat2.kid0 (by simp)
  subst hA
  obtain ⟨ad', C0, p0, q0, C1, p1, q1, hA, -, hn1', hk1⟩ := hat2.kid 1 (by simp)
  injection hA with hA
  subst hA
  have hn1 := hn1'.nine
  have HK0 := Lib.hid hk0
  have HK1 := Lib.hid hk1
  have HB : Hid (∀ W', Ext W W' → (Ext W W' ∧ W'.cell? ⟨w.heap.size, 0, none⟩ = some (.int .i64 9) ∧ W'.cell? ⟨w.heap.size, 4, none⟩ = some (.int .i64 exp) ∧ W'.cell? ⟨w.heap.size, 5, none⟩ = some (.int .i64 rel) ∧ W'.cell? ⟨w.heap.size, 8, none⟩ = some (.slice (some ad) 2 c) ∧ W'.cell? ad = some (.int .i64 t0.d.kind) ∧ W'.cell? ⟨ad.block, ad.off + 1, none⟩ = some (.bool t0.d.neg) ∧ W'.cell? ⟨ad.block, ad.off + 2, none⟩ = some (.slice B0 m0 d0) ∧ W'.cell? ⟨ad.block, ad.off + 3, none⟩ = some (.string t0.d.name) ∧ W'.cell? ⟨ad.block, ad.off + 4, none⟩ = some (.int .i64 t0.d.exp) ∧ W'.cell? ⟨ad.block, ad.off + 5, none⟩ = some (.int .i64 t0.d.rel) ∧ W'.cell? ⟨ad.block, ad.off + 6, none⟩ = some (.bool t0.d.truth) ∧ W'.cell? ⟨ad.block, ad.off + 7, none⟩ = some (.bool t0.d.all) ∧ W'.cell? ⟨ad.block, ad.off + 8, none⟩ = some (.slice B1 m1 d1) ∧ W'.cell? ⟨ad.block, ad.off + 9, none⟩ = some (.int .i64 t1.d.kind) ∧ W'.cell? ⟨ad.block, ad.off + 9 + 1, none⟩ = some (.bool t1.d.neg) ∧ W'.cell? ⟨ad.block, ad.off + 9 + 2, none⟩ = some (.slice C0 p0 q0) ∧ W'.cell? ⟨ad.block, ad.off + 9 + 3, none⟩ = some (.string t1.d.name) ∧ W'.cell? ⟨ad.block, ad.off + 9 + 4, none⟩ = some (.int .i64 t1.d.exp) ∧ W'.cell? ⟨ad.block, ad.off + 9 + 5, none⟩ = some (.int .i64 t1.d.rel) ∧ W'.cell? ⟨ad.block, ad.off + 9 + 6, none⟩ = some (.bool t1.d.truth) ∧ W'.cell? ⟨ad.block, ad.off + 9 + 7, none⟩ = some (.bool t1.d.all) ∧ W'.cell? ⟨ad.block, ad.off + 9 + 8, none⟩ = some (.slice C1 p1 q1))) := by
    intro W' hx
    obtain ⟨hc, -⟩ := hx.cells
    obtain ⟨k0, k1, k2, k3, k4, k5, k6, k7, k8⟩ := NdAt.ext hn0 hx hadb
    obtain ⟨l0, l1, l2, l3, l4, l5, l6, l7, l8⟩ := (NdAt.ext hn1' hx (by rw [block_of_add]; exact hadb)).nine
    refine ⟨hx, ?_, ?_, ?_, ?_, k0, k1, k2, k3, k4, k5, k6, k7, k8, l0, l1, l2, l3, l4, l5, l6, l7, l8⟩ <;> (rw [hc _ _ hWs, ← hW]; simp [go_sem])
  have HWX := Lib.hid hWx
  clear hat hat2 hn0 hk0 hWx hn1' hn1 hk1
  have H0 := Lib.hid h0
  have H1 := Lib.hid h1
  clear h0 h1
  obtain ⟨-, z0, z4, z5, z8, -⟩ := HB.out W (Ext.refl W)
  go_enter Tryz.func40, Tryz.ntmps40
  go_wp2_with fail
  clear hW z0 z4 z5 z8
  have y0 : Ext W W.drew := (Ext.refl W).drew
  have Y0 := Lib.hid y0
  clear y0
  go_region_held3 (fun W' => Ext W W' ∧ W'.cell? ⟨w.heap.size, 0, none⟩ = some (.int .i64 9) ∧ W'.cell? ⟨w.heap.size, 4, none⟩ = some (.int .i64 exp) ∧ W'.cell? ⟨w.heap.size, 5, none⟩ = some (.int .i64 rel) ∧ W'.cell? ⟨w.heap.size, 8, none⟩ = some (.slice (some ad) 2 c) ∧ W'.cell? ad = some (.int .i64 t0.d.kind) ∧ W'.cell? ⟨ad.block, ad.off + 1, none⟩ = some (.bool t0.d.neg) ∧ W'.cell? ⟨ad.block, ad.off + 2, none⟩ = some (.slice B0 m0 d0) ∧ W'.cell? ⟨ad.block, ad.off + 3, none⟩ = some (.string t0.d.name) ∧ W'.cell? ⟨ad.block, ad.off + 4, none⟩ = some (.int .i64 t0.d.exp) ∧ W'.cell? ⟨ad.block, ad.off + 5, none⟩ = some (.int .i64 t0.d.rel) ∧ W'.cell? ⟨ad.block, ad.off + 6, none⟩ = some (.bool t0.d.truth) ∧ W'.cell? ⟨ad.block, ad.off + 7, none⟩ = some (.bool t0.d.all) ∧ W'.cell? ⟨ad.block, ad.off + 8, none⟩ = some (.slice B1 m1 d1) ∧ W'.cell? ⟨ad.block, ad.off + 9, none⟩ = some (.int .i64 t1.d.kind) ∧ W'.cell? ⟨ad.block, ad.off + 9 + 1, none⟩ = some (.bool t1.d.neg) ∧ W'.cell? ⟨ad.block, ad.off + 9 + 2, none⟩ = some (.slice C0 p0 q0) ∧ W'.cell? ⟨ad.block, ad.off + 9 + 3, none⟩ = some (.string t1.d.name) ∧ W'.cell? ⟨ad.block, ad.off + 9 + 4, none⟩ = some (.int .i64 t1.d.exp) ∧ W'.cell? ⟨ad.block, ad.off + 9 + 5, none⟩ = some (.int .i64 t1.d.rel) ∧ W'.cell? ⟨ad.block, ad.off + 9 + 6, none⟩ = some (.bool t1.d.truth) ∧ W'.cell? ⟨ad.block, ad.off + 9 + 7, none⟩ = some (.bool t1.d.all) ∧ W'.cell? ⟨ad.block, ad.off + 9 + 8, none⟩ = some (.slice C1 p1 q1))
    (first | with_reducible exact HB.out _ Y0.out | with_reducible exact HB.out _ y1 | with_reducible exact HB.out _ y2 | with_reducible exact HB.out _ y3)
    (first
      | (go_at_call_of 43 (Value.agg #[.int .i64 t0.d.kind, .bool t0.d.neg, .slice B0 m0 d0, .string t0.d.name, .int .i64 t0.d.exp, .int .i64 t0.d.rel, .bool t0.d.truth, .bool t0.d.all, .slice B1 m1 d1])
         refine (IHA.out t0 _ _ H0.out (HK0.out.ext Y0.out) (HVS.out.ext (HWX.out.trans Y0.out))).mono ?_
         rintro e v1 ⟨z1, rfl, m1, x1⟩
         obtain ⟨b1, A1, n1, c1, B1', k1, d1', rfl⟩ := m1.unpack
         have y1 : Ext W v1 := Ext.trans Y0.out x1)
      | (go_at_call_of 43 (Value.agg #[.int .i64 t1.d.kind, .bool t1.d.neg, .slice C0 p0 q0, .string t1.d.name, .int .i64 t1.d.exp, .int .i64 t1.d.rel, .bool t1.d.truth, .bool t1.d.all, .slice C1 p1 q1])
         refine (IHB.out t1 _ _ H1.out (HK1.out.ext y1) (HVS.out.ext (HWX.out.trans y1))).mono ?_
         rintro e v2 ⟨z2, rfl, m2, x2⟩
         obtain ⟨b2, A2, n2, c2, B2, k2, d2, rfl⟩ := m2.unpack
         have y2 : Ext W v2 := Ext.trans y1 x2)
      | (go_at_call 44
         refine (cmp_rat _ _ (l.val (vget vals)) (k.val (vget vals)) (l.bt L) (k.bt L) _ (m1.ext x2) m2 hb1 hb2 (by omega)).mono ?_
         rintro e v3 ⟨rfl, x3⟩
         have y3 : Ext W v3 := Ext.trans y2 x3)
      | (go_at_call 13
         refine (Holds_ref _ _ _).mono ?_
         rintro e v4 ⟨rfl, rfl⟩))
  all_goals
    have X3 := Lib.hid (HWX.out.trans y3)
    clear y1 y2 y3 x1 x2 x3 m1 m2 HB HWX Y0
    go_wp2_with fail
    go_ret
    exact ⟨rfl, X3.out⟩

theorem truth_ih (hL : 1 ≤ L) (f : Fm) (hb : f.bound = []) (hf : f.fine (vget vals) L) : TruIH L p s vals f := by
  induction f with
  | truth b => exact rt_truth
  | atom l r k => exact rt_atom hL hf.1 hf.2
  | not f ihf => exact rt_not (ihf hb hf)
  | and f g ihf ihg => exact rt_and (ihf (List.append_eq_nil_iff.1 hb).1 hf.1) (ihg (List.append_eq_nil_iff.1 hb).2 hf.2)
  | or f g ihf ihg => exact rt_or (ihf (List.append_eq_nil_iff.1 hb).1 hf.1) (ihg (List.append_eq_nil_iff.1 hb).2 hf.2)
  | imp f g ihf ihg => exact rt_imp (ihf (List.append_eq_nil_iff.1 hb).1 hf.1) (ihg (List.append_eq_nil_iff.1 hb).2 hf.2)
  | iff f g ihf ihg => exact rt_iff (ihf (List.append_eq_nil_iff.1 hb).1 hf.1) (ihg (List.append_eq_nil_iff.1 hb).2 hf.2)
  | quant a n f ihf => cases hb
end
end Go.Proofs.YtofbfplpbffpfaaGreat

/- The plain law of EvaluateFormulas: a tree that passes Is is the tree of a formula; names, quantifiers, atoms. -/
namespace Go.Proofs.YtofbfplpbffpfaaGreat
open Go.RowKit

theorem is_fm_ih (L n : Nat) : ∀ t : Tr, t.sz < n → t.is false = true → (∀ x ∈ t.list, x.d.ds.length ≤ L) → ∃ f, IsFm L f t ∧ f.sz = t.sz := by
  induction n with
  | zero => intro t h; omega
  | succ n ih =>
    intro t hn h hl
    obtain ⟨h1, h2, h3, h4⟩ := Tr.is_open h
    have hs := t.sz_ks
    have hk : t.d.kind = 8 ∨ t.d.kind = 9 ∨ t.d.kind = 10 ∨ t.d.kind = 11 ∨ t.d.kind = 12 ∨ t.d.kind = 13 ∨ t.d.kind = 14 ∨ t.d.kind = 15 := by
      have hnt : ¬ (1 ≤ t.d.kind ∧ t.d.kind ≤ 7) := by
        unfold termK at h2
        intro hc
        simp [hc.1, hc.2] at h2
      have hge : 0 ≤ kidN t.d.kind := by omega
      rcases Int.lt_or_le t.d.kind 1 with hlt | hge1
      · exfalso
        have : kidN t.d.kind = -1 := by unfold kidN; repeat rw [if_neg (by omega)]
        omega
      · rcases Int.lt_or_le 15 t.d.kind with hgt | hle
        · exfalso
          have : kidN t.d.kind = -1 := by unfold kidN; repeat rw [if_neg (by omega)]
          omega
        · omega
    have two : t.ks.length = 2 → (∀ x ∈ t.ks, x.is false = true) → ∃ x y a b, t.ks = [x, y] ∧ IsFm L a x ∧ IsFm L b y ∧ a.sz + b.sz + 1 = t.sz := by
      intro hlen hall
      obtain ⟨x, y, hxy⟩ := len2 hlen
      rw [hxy] at hs hall
      simp only [trsSz] at hs
      obtain ⟨a, ha, ha2⟩ := ih x (by omega) (hall x (by simp)) (fun z hz => hl z (list_kid (by rw [hxy]; simp) hz))
      obtain ⟨b, hb, hb2⟩ := ih y (by omega) (hall y (by simp)) (fun z hz => hl z (list_kid (by rw [hxy]; simp) hz))
      exact ⟨x, y, a, b, hxy, ha, hb, by omega⟩
    have one : t.ks.length = 1 → (∀ x ∈ t.ks, x.is false = true) → ∃ x a, t.ks = [x] ∧ IsFm L a x ∧ a.sz + 1 = t.sz := by
      intro hlen hall
      obtain ⟨x, hx⟩ := len1 hlen
      rw [hx] at hs hall
      simp only [trsSz] at hs
      obtain ⟨a, ha, ha2⟩ := ih x (by omega) (hall x (by simp)) (fun z hz => hl z (list_kid (by rw [hx]; simp) hz))
      exact ⟨x, a, hx, ha, by omega⟩
    rcases hk with hk | hk | hk | hk | hk | hk | hk | hk
    · rw [hk] at h1
      have hz := len0 (l := t.ks) (by simp [kidN] at h1; omega)
      rw [hz] at hs
      exact ⟨.truth t.d.truth, ⟨hk, hz, rfl⟩, by simpa [trsSz, Fm.sz] using hs.symm⟩
    · have hr : 1 ≤ t.d.rel ∧ t.d.rel ≤ 6 := by
        unfold Nd.inRange at h3
        rw [if_neg (by omega), if_pos hk] at h3
        simpa using h3
      rw [hk] at h1 h4
      obtain ⟨x, y, hxy⟩ := len2 (l := t.ks) (by simp [kidN] at h1; omega)
      have h4' : ∀ z ∈ t.ks, z.is true = true := by simpa [kidT] using h4
      rw [hxy] at hs
      simp only [trsSz] at hs
      obtain ⟨a, ha, ha2⟩ := is_tm (L := L) x (h4' x (by rw [hxy]; simp)) (fun z hz => hl z (list_kid (by rw [hxy]; simp) hz))
      obtain ⟨b, hb, hb2⟩ := is_tm (L := L) y (h4' y (by rw [hxy]; simp)) (fun z hz => hl z (list_kid (by rw [hxy]; simp) hz))
      exact ⟨.atom a t.d.rel b, ⟨hk, rfl, hr.1, hr.2, x, y, hxy, ha, hb⟩, by simp only [Fm.sz]; omega⟩
    · rw [hk] at h1 h4
      obtain ⟨x, a, e, ha, hsz⟩ := one (by simp [kidN] at h1; omega) (by simpa [kidT] using h4)
      exact ⟨.not a, ⟨hk, x, e, ha⟩, hsz⟩
    · rw [hk] at h1 h4
      obtain ⟨x, y, a, b, e, ha, hb, hsz⟩ := two (by simp [kidN] at h1; omega) (by simpa [kidT] using h4)
      exact ⟨.and a b, ⟨hk, x, y, e, ha, hb⟩, hsz⟩
    · rw [hk] at h1 h4
      obtain ⟨x, y, a, b, e, ha, hb, hsz⟩ := two (by simp [kidN] at h1; omega) (by simpa [kidT] using h4)
      exact ⟨.or a b, ⟨hk, x, y, e, ha, hb⟩, hsz⟩
    · rw [hk] at h1 h4
      obtain ⟨x, y, a, b, e, ha, hb, hsz⟩ := two (by simp [kidN] at h1; omega) (by simpa [kidT] using h4)
      exact ⟨.imp a b, ⟨hk, x, y, e, ha, hb⟩, hsz⟩
    · rw [hk] at h1 h4
      obtain ⟨x, y, a, b, e, ha, hb, hsz⟩ := two (by simp [kidN] at h1; omega) (by simpa [kidT] using h4)
      exact ⟨.iff a b, ⟨hk, x, y, e, ha, hb⟩, hsz⟩
    · rw [hk] at h1 h4
      obtain ⟨x, a, e, ha, hsz⟩ := one (by simp [kidN] at h1; omega) (by simpa [kidT] using h4)
      exact ⟨.quant t.d.all t.d.name a, ⟨hk, rfl, rfl, x, e, ha⟩, hsz⟩
theorem is_fm {L : Nat} (t : Tr) (h : t.is false = true) (hl : ∀ x ∈ t.list, x.d.ds.length ≤ L) : ∃ f, IsFm L f t ∧ f.sz = t.sz := is_fm_ih L (t.sz + 1) t (Nat.lt_succ_self _) h hl

/-- A tree has at most two kids: its list. -/
theorem list1 {t x : Tr} (h : t.ks = [x]) : t.list = t :: x.list := by rw [Tr.list_ks, h]; simp [listL]
theorem list2 {t x y : Tr} (h : t.ks = [x, y]) : t.list = t :: (x.list ++ y.list) := by rw [Tr.list_ks, h]; simp [listL]
theorem list0 {t : Tr} (h : t.ks = []) : t.list = [t] := by rw [Tr.list_ks, h]; simp [listL]
/-- All trees in the tree of a term are terms'. -/
theorem tm_kinds (L : Nat) (m : Tm) : ∀ t, IsTm L m t → ∀ x ∈ t.list, 1 ≤ x.d.kind ∧ x.d.kind ≤ 7 := by
  have two : ∀ t x y : Tr, t.ks = [x, y] → (1 ≤ t.d.kind ∧ t.d.kind ≤ 7) → (∀ z ∈ x.list, 1 ≤ z.d.kind ∧ z.d.kind ≤ 7) → (∀ z ∈ y.list, 1 ≤ z.d.kind ∧ z.d.kind ≤ 7) → ∀ z ∈ t.list, 1 ≤ z.d.kind ∧ z.d.kind ≤ 7 := by
    intro t x y e h0 h1 h2 z hz
    rw [list2 e] at hz
    rcases List.mem_cons.1 hz with rfl | hz
    · exact h0
    · rcases List.mem_append.1 hz with hz | hz
      · exact h1 z hz
      · exact h2 z hz
  have one : ∀ t x : Tr, t.ks = [x] → (1 ≤ t.d.kind ∧ t.d.kind ≤ 7) → (∀ z ∈ x.list, 1 ≤ z.d.kind ∧ z.d.kind ≤ 7) → ∀ z ∈ t.list, 1 ≤ z.d.kind ∧ z.d.kind ≤ 7 := by
    intro t x e h0 h1 z hz
    rw [list1 e] at hz
    rcases List.mem_cons.1 hz with rfl | hz
    · exact h0
    · exact h1 z hz
  have zero : ∀ t : Tr, t.ks = [] → (1 ≤ t.d.kind ∧ t.d.kind ≤ 7) → ∀ z ∈ t.list, 1 ≤ z.d.kind ∧ z.d.kind ≤ 7 := by
    intro t e h0 z hz
    rw [list0 e] at hz
    rcases List.mem_cons.1 hz with rfl | hz
    · exact h0
    · cases hz
  induction m with
  | num z => rintro t ⟨hk, hz, -⟩; exact zero t hz (by omega)
  | name s => rintro t ⟨hk, hz, -⟩; exact zero t hz (by omega)
  | add a b iha ihb => rintro t ⟨hk, x, y, e, hx, hy⟩; exact two t x y e (by omega) (iha x hx) (ihb y hy)
  | sub a b iha ihb => rintro t ⟨hk, x, y, e, hx, hy⟩; exact two t x y e (by omega) (iha x hx) (ihb y hy)
  | mul a b iha ihb => rintro t ⟨hk, x, y, e, hx, hy⟩; exact two t x y e (by omega) (iha x hx) (ihb y hy)
  | neg a iha => rintro t ⟨hk, x, e, hx⟩; exact one t x e (by omega) (iha x hx)
  | pow a n iha => rintro t ⟨hk, -, -, x, e, hx⟩; exact one t x e (by omega) (iha x hx)

theorem IsTm.uniq (L : Nat) (m : Tm) : ∀ (t : Tr) (m' : Tm), IsTm L m t → IsTm L m' t → m = m' := by
  induction m with
  | num z =>
    intro t m' h h'
    obtain ⟨hk, -, hz, -⟩ := h
    cases m' <;> obtain ⟨hk', h'⟩ := h' <;> first | omega | skip
    rw [hz, h'.2.1]
  | name s =>
    intro t m' h h'
    obtain ⟨hk, -, hz⟩ := h
    cases m' <;> obtain ⟨hk', h'⟩ := h' <;> first | omega | skip
    rw [← hz, h'.2]
  | add a b iha ihb =>
    rintro t m' ⟨hk, x, y, e, hx, hy⟩ h'
    cases m' <;> obtain ⟨hk', h'⟩ := h' <;> first | omega | skip
    obtain ⟨x', y', e', hx', hy'⟩ := h'
    rw [e] at e'
    simp only [List.cons.injEq, and_true] at e'
    obtain ⟨rfl, rfl⟩ := e'
    rw [iha _ _ hx hx', ihb _ _ hy hy']
  | sub a b iha ihb =>
    rintro t m' ⟨hk, x, y, e, hx, hy⟩ h'
    cases m' <;> obtain ⟨hk', h'⟩ := h' <;> first | omega | skip
    obtain ⟨x', y', e', hx', hy'⟩ := h'
    rw [e] at e'
    simp only [List.cons.injEq, and_true] at e'
    obtain ⟨rfl, rfl⟩ := e'
    rw [iha _ _ hx hx', ihb _ _ hy hy']
  | mul a b iha ihb =>
    rintro t m' ⟨hk, x, y, e, hx, hy⟩ h'
    cases m' <;> obtain ⟨hk', h'⟩ := h' <;> first | omega | skip
    obtain ⟨x', y', e', hx', hy'⟩ := h'
    rw [e] at e'
    simp only [List.cons.injEq, and_true] at e'
    obtain ⟨rfl, rfl⟩ := e'
    rw [iha _ _ hx hx', ihb _ _ hy hy']
  | neg a iha =>
    rintro t m' ⟨hk, x, e, hx⟩ h'
    cases m' <;> obtain ⟨hk', h'⟩ := h' <;> first | omega | skip
    obtain ⟨x', e', hx'⟩ := h'
    rw [e] at e'
    simp only [List.cons.injEq, and_true] at e'
    obtain rfl := e'
    rw [iha _ _ hx hx']
  | pow a n iha =>
    rintro t m' ⟨hk, hn, -, x, e, hx⟩ h'
    cases m' <;> obtain ⟨hk', h'⟩ := h' <;> first | omega | skip
    obtain ⟨hn', -, x', e', hx'⟩ := h'
    rw [e] at e'
    simp only [List.cons.injEq, and_true] at e'
    obtain rfl := e'
    rw [iha _ _ hx hx', ← hn, ← hn']

/-- A tree of an atom that exceeds the limits. -/
noncomputable def Tr.big (L : Nat) (t : Tr) : Bool := @decide (∃ l r k, IsFm L (.atom l r k) t ∧ (l.large || k.large) = true) (Classical.propDecidable _)
theorem big_atom {L : Nat} {l k : Tm} {r : Int} {t : Tr} (h : IsFm L (.atom l r k) t) : t.big L = (l.large || k.large) := by
  cases hb : (l.large || k.large) with
  | true => unfold Tr.big; exact @decide_eq_true _ (Classical.propDecidable _) ⟨l, r, k, h, hb⟩
  | false =>
    unfold Tr.big
    refine @decide_eq_false _ (Classical.propDecidable _) ?_
    rintro ⟨l', r', k', h', hb'⟩
    obtain ⟨-, -, -, -, x, y, e, hx, hy⟩ := h
    obtain ⟨-, -, -, -, x', y', e', hx', hy'⟩ := h'
    rw [e] at e'
    simp only [List.cons.injEq, and_true] at e'
    obtain ⟨rfl, rfl⟩ := e'
    rw [IsTm.uniq L _ _ _ hx' hx, IsTm.uniq L _ _ _ hy' hy, hb] at hb'
    cases hb'
theorem big_other {L : Nat} {t : Tr} (h : t.d.kind ≠ 9) : t.big L = false := by
  unfold Tr.big
  refine @decide_eq_false _ (Classical.propDecidable _) ?_
  rintro ⟨l, r, k, h', -⟩
  exact h h'.1

/-- The names of a formula. -/
def Fm.nms : Fm → List ByteArray
  | .truth _ => []
  | .atom l _ k => l.nms ++ k.nms
  | .not f => f.nms
  | .and f g => f.nms ++ g.nms
  | .or f g => f.nms ++ g.nms
  | .imp f g => f.nms ++ g.nms
  | .iff f g => f.nms ++ g.nms
  | .quant _ _ f => f.nms
theorem Fm.fold_cover (g : ByteArray → Option Rat) (a : ByteArray → Int) (ha : ∀ s, a s = 0) (f : Fm) (hb : f.bound = []) : ∀ l, coverB g (f.fold freeStep a l) = (coverB g l && coverB g f.nms) := by
  induction f with
  | truth b => intro l; simp [Fm.fold, Fm.nms, coverB]
  | atom x r y => intro l; rw [Fm.fold, Tm.fold_cover g a ha, Tm.fold_cover g a ha, Fm.nms, coverB_append, Bool.and_assoc]
  | not f ih => intro l; exact ih hb l
  | and f h ihf ihh => intro l; rw [Fm.fold, ihh (List.append_eq_nil_iff.1 hb).2, ihf (List.append_eq_nil_iff.1 hb).1, Fm.nms, coverB_append, Bool.and_assoc]
  | or f h ihf ihh => intro l; rw [Fm.fold, ihh (List.append_eq_nil_iff.1 hb).2, ihf (List.append_eq_nil_iff.1 hb).1, Fm.nms, coverB_append, Bool.and_assoc]
  | imp f h ihf ihh => intro l; rw [Fm.fold, ihh (List.append_eq_nil_iff.1 hb).2, ihf (List.append_eq_nil_iff.1 hb).1, Fm.nms, coverB_append, Bool.and_assoc]
  | iff f h ihf ihh => intro l; rw [Fm.fold, ihh (List.append_eq_nil_iff.1 hb).2, ihf (List.append_eq_nil_iff.1 hb).1, Fm.nms, coverB_append, Bool.and_assoc]
  | quant a s f ih => cases hb
theorem Fm.free_cover (g : ByteArray → Option Rat) (f : Fm) (hb : f.bound = []) : coverB g f.free = coverB g f.nms := by
  unfold Fm.free
  rw [Fm.fold_cover g _ (fun _ => rfl) f hb]
  simp [coverB]

/-- What is asked of all trees of a formula, kind by kind. -/
theorem fm_ind (L : Nat) (P : Fm → Tr → Prop)
    (h8 : ∀ b t, t.d.kind = 8 → t.list = [t] → t.d.truth = b → P (.truth b) t)
    (h9 : ∀ l r k t x y, t.d.kind = 9 → 1 ≤ r → r ≤ 6 → IsFm L (.atom l r k) t → t.list = t :: (x.list ++ y.list) → IsTm L l x → IsTm L k y → P (.atom l r k) t)
    (h10 : ∀ f t x, t.d.kind = 10 → t.list = t :: x.list → P f x → P (.not f) t)
    (h11 : ∀ f g t x y, t.d.kind = 11 → t.list = t :: (x.list ++ y.list) → P f x → P g y → P (.and f g) t)
    (h12 : ∀ f g t x y, t.d.kind = 12 → t.list = t :: (x.list ++ y.list) → P f x → P g y → P (.or f g) t)
    (h13 : ∀ f g t x y, t.d.kind = 13 → t.list = t :: (x.list ++ y.list) → P f x → P g y → P (.imp f g) t)
    (h14 : ∀ f g t x y, t.d.kind = 14 → t.list = t :: (x.list ++ y.list) → P f x → P g y → P (.iff f g) t)
    (h15 : ∀ f t x, t.d.kind = 15 → t.list = t :: x.list → P f x → P (.quant t.d.all t.d.name f) t)
    (f : Fm) : ∀ t, IsFm L f t → P f t := by
  induction f with
  | truth b => rintro t ⟨hk, hz, hb⟩; exact h8 b t hk (list0 hz) hb
  | atom l r k =>
    intro t h
    obtain ⟨hk, hr, hr1, hr2, x, y, e, hx, hy⟩ := id h
    exact h9 l r k t x y hk hr1 hr2 h (list2 e) hx hy
  | not f ih => rintro t ⟨hk, x, e, hx⟩; exact h10 f t x hk (list1 e) (ih x hx)
  | and f g ihf ihg => rintro t ⟨hk, x, y, e, hx, hy⟩; exact h11 f g t x y hk (list2 e) (ihf x hx) (ihg y hy)
  | or f g ihf ihg => rintro t ⟨hk, x, y, e, hx, hy⟩; exact h12 f g t x y hk (list2 e) (ihf x hx) (ihg y hy)
  | imp f g ihf ihg => rintro t ⟨hk, x, y, e, hx, hy⟩; exact h13 f g t x y hk (list2 e) (ihf x hx) (ihg y hy)
  | iff f g ihf ihg => rintro t ⟨hk, x, y, e, hx, hy⟩; exact h14 f g t x y hk (list2 e) (ihf x hx) (ihg y hy)
  | quant a s f ih => rintro t ⟨hk, ha, hs, x, e, hx⟩; subst ha hs; exact h15 f t x hk (list1 e) (ih x hx)

theorem all_named (vals : List (ByteArray × Rat)) (t : Tr) (h : t.d.kind ≠ 2) : ndNamed vals t.d = true := by unfold ndNamed; simp [h]
theorem named_fm (L : Nat) (vals : List (ByteArray × Rat)) (f : Fm) : ∀ t, IsFm L f t → t.named vals = coverB (vget vals) f.nms := by
  refine fm_ind L (fun f t => t.named vals = coverB (vget vals) f.nms) ?_ ?_ ?_ ?_ ?_ ?_ ?_ ?_ f
  · intro b t hk e _; unfold Tr.named; rw [e, List.all_cons, all_named vals t (by omega)]; simp [Fm.nms, coverB]
  · intro l r k t x y hk _ _ _ e hx hy
    unfold Tr.named; rw [e, List.all_cons, List.all_append, all_named vals t (by omega), Bool.true_and, Fm.nms, coverB_append, ← named_tm L vals l x hx, ← named_tm L vals k y hy]; rfl
  · intro f t x hk e h; unfold Tr.named; rw [e, List.all_cons, all_named vals t (by omega), Bool.true_and, Fm.nms, ← h]; rfl
  · intro f g t x y hk e h1 h2; unfold Tr.named; rw [e, List.all_cons, List.all_append, all_named vals t (by omega), Bool.true_and, Fm.nms, coverB_append, ← h1, ← h2]; rfl
  · intro f g t x y hk e h1 h2; unfold Tr.named; rw [e, List.all_cons, List.all_append, all_named vals t (by omega), Bool.true_and, Fm.nms, coverB_append, ← h1, ← h2]; rfl
  · intro f g t x y hk e h1 h2; unfold Tr.named; rw [e, List.all_cons, List.all_append, all_named vals t (by omega), Bool.true_and, Fm.nms, coverB_append, ← h1, ← h2]; rfl
  · intro f g t x y hk e h1 h2; unfold Tr.named; rw [e, List.all_cons, List.all_append, all_named vals t (by omega), Bool.true_and, Fm.nms, coverB_append, ← h1, ← h2]; rfl
  · intro f t x hk e h; unfold Tr.named; rw [e, List.all_cons, all_named vals t (by omega), Bool.true_and, Fm.nms, ← h]; rfl

theorem bnd_list (t : Tr) : t.bnd = (t.list.filter fun x => x.d.kind == 15).map fun x => x.d.name := by
  unfold Tr.bnd Tr.parts
  rw [List.filter_filter]
  congr 1
  refine List.filter_congr fun x _ => ?_
  cases h : x.d.kind == 15 with
  | false => simp
  | true =>
    have : x.d.kind = 15 := by simpa using h
    simp [termK, this]
theorem filter_none {l : List Tr} (h : ∀ x ∈ l, 1 ≤ x.d.kind ∧ x.d.kind ≤ 7) : (l.filter fun x => x.d.kind == 15) = [] := List.filter_eq_nil_iff.2 fun x hx => by
  have := h x hx
  simp; omega
theorem bnd_fm (L : Nat) (f : Fm) : ∀ t, IsFm L f t → t.bnd = f.bound := by
  have no : ∀ t : Tr, t.d.kind ≠ 15 → (t.d.kind == 15) = false := fun t h => by simpa using h
  refine fm_ind L (fun f t => t.bnd = f.bound) ?_ ?_ ?_ ?_ ?_ ?_ ?_ ?_ f
  · intro b t hk e _; rw [bnd_list, e, List.filter_cons, no t (by omega)]; simp [Fm.bound]
  · intro l r k t x y hk _ _ _ e hx hy
    rw [bnd_list, e, List.filter_cons, no t (by omega), List.filter_append, filter_none (tm_kinds L l x hx), filter_none (tm_kinds L k y hy)]; simp [Fm.bound]
  · intro f t x hk e h; rw [bnd_list, e, List.filter_cons, no t (by omega)]; rw [bnd_list] at h; simpa [Fm.bound] using h
  · intro f g t x y hk e h1 h2; rw [bnd_list, e, List.filter_cons, no t (by omega), Fm.bound, ← h1, ← h2, bnd_list, bnd_list]; simp
  · intro f g t x y hk e h1 h2; rw [bnd_list, e, List.filter_cons, no t (by omega), Fm.bound, ← h1, ← h2, bnd_list, bnd_list]; simp
  · intro f g t x y hk e h1 h2; rw [bnd_list, e, List.filter_cons, no t (by omega), Fm.bound, ← h1, ← h2, bnd_list, bnd_list]; simp
  · intro f g t x y hk e h1 h2; rw [bnd_list, e, List.filter_cons, no t (by omega), Fm.bound, ← h1, ← h2, bnd_list, bnd_list]; simp
  · intro f t x hk e h; rw [bnd_list, e, List.filter_cons, hk, Fm.bound, ← h, bnd_list]; simp

theorem big_none {L : Nat} {l : List Tr} (h : ∀ x ∈ l, 1 ≤ x.d.kind ∧ x.d.kind ≤ 7) : l.any (Tr.big L) = false := List.any_eq_false.2 fun x hx => by
  have := h x hx
  rw [big_other (by omega)]; simp
theorem big_fm (L : Nat) (f : Fm) : ∀ t, IsFm L f t → t.list.any (Tr.big L) = f.pre.any Fm.bad := by
  refine fm_ind L (fun f t => t.list.any (Tr.big L) = f.pre.any Fm.bad) ?_ ?_ ?_ ?_ ?_ ?_ ?_ ?_ f
  · intro b t hk e _; rw [e, List.any_cons, big_other (by omega)]; simp [Fm.pre, Fm.bad]
  · intro l r k t x y hk _ _ hh e hx hy
    rw [e, List.any_cons, List.any_append, big_atom hh, big_none (tm_kinds L l x hx), big_none (tm_kinds L k y hy)]; simp [Fm.pre, Fm.bad]
  · intro f t x hk e h; rw [e, List.any_cons, big_other (by omega), h, Fm.pre, List.any_cons]; rfl
  · intro f g t x y hk e h1 h2; rw [e, List.any_cons, List.any_append, big_other (by omega), h1, h2, Fm.pre, List.any_cons, List.any_append]; rfl
  · intro f g t x y hk e h1 h2; rw [e, List.any_cons, List.any_append, big_other (by omega), h1, h2, Fm.pre, List.any_cons, List.any_append]; rfl
  · intro f g t x y hk e h1 h2; rw [e, List.any_cons, List.any_append, big_other (by omega), h1, h2, Fm.pre, List.any_cons, List.any_append]; rfl
  · intro f g t x y hk e h1 h2; rw [e, List.any_cons, List.any_append, big_other (by omega), h1, h2, Fm.pre, List.any_cons, List.any_append]; rfl
  · intro f t x hk e h; rw [e, List.any_cons, big_other (by omega), h, Fm.pre, List.any_cons]; rfl

/-- A tree of kind atom in the tree of a formula is an atom's. -/
theorem atom_in (L : Nat) (f : Fm) : ∀ t, IsFm L f t → ∀ z ∈ t.list, z.d.kind = 9 → ∃ l r k, IsFm L (.atom l r k) z := by
  have no : ∀ {l : List Tr}, (∀ x ∈ l, 1 ≤ x.d.kind ∧ x.d.kind ≤ 7) → ∀ z ∈ l, z.d.kind = 9 → ∃ l r k, IsFm L (.atom l r k) z := fun h z hz hk => by have := h z hz; omega
  have two : ∀ t x y : Tr, t.d.kind ≠ 9 → t.list = t :: (x.list ++ y.list) → (∀ z ∈ x.list, z.d.kind = 9 → ∃ l r k, IsFm L (.atom l r k) z) → (∀ z ∈ y.list, z.d.kind = 9 → ∃ l r k, IsFm L (.atom l r k) z) → ∀ z ∈ t.list, z.d.kind = 9 → ∃ l r k, IsFm L (.atom l r k) z := by
    intro t x y hk e h1 h2 z hz hz9
    rw [e] at hz
    rcases List.mem_cons.1 hz with rfl | hz
    · exact absurd hz9 hk
    · rcases List.mem_append.1 hz with hz | hz
      · exact h1 z hz hz9
      · exact h2 z hz hz9
  have one : ∀ t x : Tr, t.d.kind ≠ 9 → t.list = t :: x.list → (∀ z ∈ x.list, z.d.kind = 9 → ∃ l r k, IsFm L (.atom l r k) z) → ∀ z ∈ t.list, z.d.kind = 9 → ∃ l r k, IsFm L (.atom l r k) z := by
    intro t x hk e h1 z hz hz9
    rw [e] at hz
    rcases List.mem_cons.1 hz with rfl | hz
    · exact absurd hz9 hk
    · exact h1 z hz hz9
  refine fm_ind L (fun f t => ∀ z ∈ t.list, z.d.kind = 9 → ∃ l r k, IsFm L (.atom l r k) z) ?_ ?_ ?_ ?_ ?_ ?_ ?_ ?_ f
  · intro b t hk e _ z hz hz9
    rw [e] at hz
    obtain rfl : z = t := by simpa using hz
    omega
  · intro l r k t x y hk _ _ hh e hx hy z hz hz9
    rw [e] at hz
    rcases List.mem_cons.1 hz with rfl | hz
    · exact ⟨l, r, k, hh⟩
    · rcases List.mem_append.1 hz with hz | hz
      · exact no (tm_kinds L l x hx) z hz hz9
      · exact no (tm_kinds L k y hy) z hz hz9
  · intro f t x hk e h; exact one t x (by omega) e h
  · intro f g t x y hk e h1 h2; exact two t x y (by omega) e h1 h2
  · intro f g t x y hk e h1 h2; exact two t x y (by omega) e h1 h2
  · intro f g t x y hk e h1 h2; exact two t x y (by omega) e h1 h2
  · intro f g t x y hk e h1 h2; exact two t x y (by omega) e h1 h2
  · intro f t x hk e h; exact one t x (by omega) e h

theorem tm_norm (L : Nat) (m : Tm) : ∀ t, IsTm L m t → m.norm = m := by
  induction m with
  | num z => intro t _; rfl
  | name s => intro t _; rfl
  | add a b iha ihb => rintro t ⟨hk, x, y, e, hx, hy⟩; rw [Tm.norm, iha x hx, ihb y hy]
  | sub a b iha ihb => rintro t ⟨hk, x, y, e, hx, hy⟩; rw [Tm.norm, iha x hx, ihb y hy]
  | mul a b iha ihb => rintro t ⟨hk, x, y, e, hx, hy⟩; rw [Tm.norm, iha x hx, ihb y hy]
  | neg a iha => rintro t ⟨hk, x, e, hx⟩; rw [Tm.norm, iha x hx]
  | pow a n iha =>
    rintro t ⟨hk, -, hn, x, e, hx⟩
    rw [Tm.norm, iha x hx]
    have : maxI n 0 = n := by unfold maxI; split <;> omega
    rw [this]
theorem fm_norm (L : Nat) (f : Fm) : ∀ t, IsFm L f t → f.norm = f := by
  refine fm_ind L (fun f t => f.norm = f) ?_ ?_ ?_ ?_ ?_ ?_ ?_ ?_ f
  · intro b t hk e _; rfl
  · intro l r k t x y hk h1 h2 hh e hx hy
    rw [Fm.norm, tm_norm L l x hx, tm_norm L k y hy]
    have : relN r = r := by unfold relN; rw [if_neg (by omega)]
    rw [this]
  · intro f t x hk e h; rw [Fm.norm, h]
  · intro f g t x y hk e h1 h2; rw [Fm.norm, h1, h2]
  · intro f g t x y hk e h1 h2; rw [Fm.norm, h1, h2]
  · intro f g t x y hk e h1 h2; rw [Fm.norm, h1, h2]
  · intro f g t x y hk e h1 h2; rw [Fm.norm, h1, h2]
  · intro f t x hk e h; rw [Fm.norm, h]
end Go.Proofs.YtofbfplpbffpfaaGreat

/- Reference 40: Formula. -/
namespace Go.Proofs.YtofbfplpbffpfaaGreat
open Go.RowKit

/-- Truth and error, by the reference. -/
noncomputable def refF (L : Nat) (f : Fm) (t : Tr) (vals : List (ByteArray × Rat)) : Bool × Int :=
  if 0 < t.bnd.length then (false, 9) else if t.named vals = false then (false, 7) else if t.list.any (Tr.big L) = true then (false, 8) else (f.tv (vget vals), 0)
theorem refF_evalF {L : Nat} {f : Fm} {t : Tr} (h : IsFm L f t) (vals : List (ByteArray × Rat)) : refF L f t vals = evalF f vals := by
  unfold refF evalF
  rw [bnd_fm L f t h, big_fm L f t h, named_fm L vals f t h]
  by_cases hb : 0 < f.bound.length
  · rw [if_pos hb, if_pos hb]
  · rw [if_neg hb, if_neg hb, Fm.free_cover _ _ (List.eq_nil_of_length_eq_zero (by omega))]
theorem fm_kind (L : Nat) (f : Fm) : ∀ t, IsFm L f t → termK t.d.kind = false := by
  refine fm_ind L (fun f t => termK t.d.kind = false) ?_ ?_ ?_ ?_ ?_ ?_ ?_ ?_ f <;> intros <;> unfold termK <;> simp <;> omega
theorem TrV.kids_at {w : World} {p : Nat → Prop} {t : Tr} {S : Value} {A1 : Option Addr} {n1 c1 : Nat} (h : TrV w p t (ndV t.d S (.slice A1 n1 c1))) : n1 ≤ c1 ∧ c1 ≤ 9223372036854775807 ∧ TrsAt w p t.ks A1 0 := by
  obtain ⟨B0, m0, d0, B1, d1, ev, -, h1, h2, hat⟩ := h.open_
  unfold ndV at ev
  simp only [Value.agg.injEq, Array.mk.injEq, List.cons.injEq, and_true, true_and] at ev
  obtain ⟨-, ev⟩ := ev
  injection ev with e1 e2 e3
  subst e1 e2 e3
  exact ⟨h1, by omega, hat⟩
theorem any_take {α : Type} (l : List α) (f : α → Bool) (k : Nat) (hk : k < l.length) : (l.take (k + 1)).any f = ((l.take k).any f || f l[k]) := by rw [List.take_succ_eq_append_getElem hk, List.any_append]; simp
theorem any_hit {α : Type} (l : List α) (f : α → Bool) (k : Nat) (hk : k < l.length) (h : f l[k] = true) : l.any f = true := List.any_eq_true.2 ⟨l[k], List.getElem_mem hk, h⟩

set_option maxRecDepth 100000 in
set_option maxHeartbeats 4000000 in
theorem refFormula_any {w : World} {p : Nat → Prop} {L : Nat} {s : Value} {vals : List (ByteArray × Rat)} (hL1 : 1 ≤ L) (hL : L ≤ 1000000) (f : Fm) (t : Tr) (v : Value) (hm : IsFm L f t) (h : TrV w p t v) (hvs : VsV w L s vals) (hsz : t.sz ≤ 1000000)
    (hfine : t.bnd.length = 0 → t.named vals = true → t.list.any (Tr.big L) = false → f.bound = [] ∧ f.fine (vget vals) L) :
    Calls Tryz.prog 11 #[v, s] w (RetBE (refF L f t vals) w) := by
  have HT := Lib.hid h
  have HVS := Lib.hid hvs
  have HFINE := Lib.hid hfine
  have HM := Lib.hid hm
  have HAI := Lib.hid (atom_in L f t hm)
  have HNT := Lib.hid (fm_kind L f t hm)
  obtain ⟨As, cs, rfl, hs1, hs2, -⟩ := hvs
  obtain ⟨A0, n0, c0, A, c, rfl, -, hl1, hl2, h4⟩ := h.open_
  clear h h4 hfine hm
  unfold ndV
  unfold ndV at HT
  obtain ⟨W, hW⟩ : ∃ W, w.alloc (.cells #[.int .i64 t.d.kind, .bool t.d.neg, .slice A0 n0 c0, .string t.d.name, .int .i64 t.d.exp, .int .i64 t.d.rel, .bool t.d.truth, .bool t.d.all, .slice A t.ks.length c] 29) = W := ⟨_, rfl⟩
  have hWx : Ext w W := by rw [← hW]; exact (Ext.refl w).alloc _
  have hWs : W.heap.size = w.heap.size + 1 := by rw [← hW]; simp
  have hbx : Box9 W w.heap.size t.d (.slice A0 n0 c0) (.slice A t.ks.length c) := by rw [← hW]; exact Box9.new w t.d _ _ _
  obtain ⟨b0, b1, b2, b3, b4, b5, b6, b7, b8⟩ := id hbx
  have HBX := Lib.hid hbx
  have HWX := Lib.hid hWx
  have HBO := Lib.hid (refBound_any t _ (HT.out.ext hWx) hsz HNT.out)
  clear hWx hbx
  go_enter Tryz.func11, Tryz.ntmps11
  go_wp2_with fail
  clear hW b0 b1 b2 b3 b4 b5 b6 b7 b8
  refine HBO.out.mono ?_
  rintro e w1 ⟨s1, rfl, r1, x1⟩
  obtain ⟨A1, c1, rfl⟩ := r1.slr.len
  have hx1 := HWX.out.trans x1
  have hz1 := x1.size
  clear r1 HBO
  by_cases hbd : 0 < t.bnd.length
  · have HR : Hid (refF L f t vals = (false, 9)) := by
      have : refF L f t vals = (false, 9) := if_pos hbd
      exact this
    have X1 := Lib.hid hx1
    clear x1 hx1
    generalize t.bnd.length = nb at *
    go_wp2_with fail
    go_ret2
    exact ⟨by rw [HR.out]; rfl, X1.out⟩
  · have HB0 : Hid (t.bnd.length = 0) := by
      have : t.bnd.length = 0 := by omega
      exact this
    have HR : Hid (refF L f t vals = if t.named vals = false then (false, 7) else if t.list.any (Tr.big L) = true then (false, 8) else (f.tv (vget vals), 0)) := by
      have : refF L f t vals = if t.named vals = false then (false, 7) else if t.list.any (Tr.big L) = true then (false, 8) else (f.tv (vget vals), 0) := if_neg hbd
      exact this
    obtain ⟨b0, b1, b2, b3, b4, b5, b6, b7, b8⟩ := HBX.out.ext x1 (by omega)
    have HB1 := Lib.hid (HBX.out.ext x1 (by omega))
    have HNM := Lib.hid (named_any t _ (HT.out.ext hx1) (HVS.out.ext hx1) hsz)
    have X1 := Lib.hid hx1
    clear x1 hx1
    generalize t.bnd.length = nb at *
    go_wp2_with fail
    clear b0 b1 b2 b3 b4 b5 b6 b7 b8 hbd
    refine HNM.out.mono ?_
    rintro e w2 ⟨rfl, x2⟩
    have hx2 := X1.out.trans x2
    have hz2 := x2.size
    clear HNM
    by_cases hcv : t.named vals = false
    · rw [hcv]
      have HR2 : Hid (refF L f t vals = (false, 7)) := by
        have : refF L f t vals = (false, 7) := by rw [HR.out, if_pos hcv]
        exact this
      have X2 := Lib.hid hx2
      clear hcv x2 hx2
      go_wp2_with fail
      go_ret2
      exact ⟨by rw [HR2.out]; rfl, X2.out⟩
    · have hcv' : t.named vals = true := by simpa using hcv
      rw [hcv']
      have HCV := Lib.hid hcv'
      have HR2 : Hid (refF L f t vals = if t.list.any (Tr.big L) = true then (false, 8) else (f.tv (vget vals), 0)) := by
        have : refF L f t vals = if t.list.any (Tr.big L) = true then (false, 8) else (f.tv (vget vals), 0) := by rw [HR.out, if_neg hcv]
        exact this
      obtain ⟨b0, b1, b2, b3, b4, b5, b6, b7, b8⟩ := HB1.out.ext x2 (by omega)
      have HB2 := Lib.hid (HB1.out.ext x2 (by omega))
      have HLI := Lib.hid (list_any t _ (HT.out.ext hx2) hsz)
      have hlp : 0 < t.list.length := by rw [t.list_len]; exact t.sz_pos
      have X2 := Lib.hid hx2
      clear hcv hcv' x2 hx2 HR
      generalize hls : t.list = ls at *
      have HLS := Lib.hid hls
      clear hls
      go_wp2_with fail
      clear b0 b1 b2 b3 b4 b5 b6 b7 b8
      refine HLI.out.mono ?_
      rintro e w3 ⟨v3, u3, rfl, l3, i3, -, x3⟩
      obtain ⟨ad, cap, rfl, hc1, hc2, hat⟩ := l3.see hlp
      obtain ⟨g', cap', rfl, -, -⟩ := i3.pos hlp
      have L3 := Lib.hid hat
      have X3 := Lib.hid (X2.out.trans x3)
      have hz3 := x3.size
      have HB3 := Lib.hid (HB2.out.ext x3 (by omega))
      have HX3 := Lib.hid x3
      clear l3 i3 hat x3 HLI
      go_wp2_with fail
      go_loopw [24] (fun iv wr => ∃ k : Nat, k ≤ ls.length ∧ iv = .int .i64 k ∧ Hid ((ls.take k).any (Tr.big L) = false ∧ Ext w3 wr)) (fun iv _ => ls.length - (intOf iv).toNat)
      case atStart => exact ⟨0, Nat.zero_le _, rfl, ⟨by simp, Ext.refl w3⟩⟩
      case round =>
        obtain ⟨k, hk, rfl, ⟨hal, hx⟩⟩ := hrel
        have HA := Lib.hid hal
        have HX := Lib.hid hx
        by_cases hlt : k < ls.length
        · obtain ⟨D0, c0', D1, c1', ⟨e0, e1, e2, e3, e4, e5, e6, e7, e8⟩, ht⟩ := L3.out wr hx k hlt
          have HTK := Lib.hid (any_take ls (Tr.big L) k hlt)
          have HHIT := Lib.hid (any_hit ls (Tr.big L) k hlt)
          clear e1 e2 e3 e4 e5 e6 e7 hal
          by_cases h9 : ls[k].d.kind = 9
          · obtain ⟨l, r, m, hatm⟩ := HAI.out ls[k] (List.getElem_mem hlt) h9
            have HBIG := Lib.hid (big_atom hatm)
            obtain ⟨-, -, -, -, x, y, exy, hx', hy'⟩ := hatm
            obtain ⟨q1, q2, q3⟩ := ht.kids_at
            have hlen2 : ls[k].ks.length = 2 := by rw [exy]; rfl
            rw [hlen2] at e8 q1
            rw [exy] at q3
            rw [h9] at e0
            have HAT := Lib.hid q3
            have hxw : Ext w2 wr := HX3.out.trans hx
            obtain ⟨ad2, B0, m0, d0, B1, m1, d1, hA, hadb, ⟨k0, k1, k2, k3, k4, k5, k6, k7, k8⟩, hkt⟩ := (q3.ext hxw).kid0 (by simp)
            subst hA
            simp only [List.getElem_cons_zero] at k0 k1 k3 k4 k5 k6 k7 hkt
            have HEX := Lib.hid (exceeds_any hL l x _ wr hx' hkt)
            have HY := Lib.hid hy'
            clear ht hkt q3 hx' hy' h9 hlen2 exy hx
            go_wp2_with fail
            refine HEX.out.mono ?_
            rintro e w5 ⟨rfl, x5⟩
            by_cases hlg : l.large = true
            · rw [hlg]
              have HR3 : Hid (refF L f t vals = (false, 8)) := by
                have : refF L f t vals = (false, 8) := by rw [HR2.out, if_pos (HHIT.out (by rw [HBIG.out, hlg]; rfl))]
                exact this
              have X5 := Lib.hid (X3.out.trans (HX.out.trans x5))
              clear x5 hlg HEX
              go_wp2_with fail
              go_ret2
              exact ⟨by rw [HR3.out]; rfl, X5.out⟩
            · have hlg' : l.large = false := by simpa using hlg
              rw [hlg']
              have hx5 := HX.out.trans x5
              obtain ⟨D0', c0'', D1', c1'', ⟨f0, f1, f2, f3, f4, f5, f6, f7, f8⟩, -⟩ := L3.out w5 hx5 k hlt
              have f8' := f8
              have e8' : w5.cell? ⟨(ad.add (k * 9)).block, (ad.add (k * 9)).off + 8, none⟩ = some (.slice (some ad2) 2 c1') := by
                rw [← e8]
                refine x5.cell ?_
                rcases Nat.lt_or_ge (ad.add (k * 9)).block wr.heap.size with hh | hh
                · exact hh
                · simp [World.cell?, Array.getElem?_eq_none hh] at e8
              obtain ⟨ad3, C0, p0, q0, C1, p1, q1', hA, -, hnd, hkt⟩ := (HAT.out.ext (hxw.trans x5)).kid 1 (by simp)
              injection hA with hA
              subst hA
              obtain ⟨j0, j1, j2, j3, j4, j5, j6, j7, j8⟩ := hnd.nine
              simp only [List.getElem_cons_succ, List.getElem_cons_zero] at j0 j1 j3 j4 j5 j6 j7 hkt
              have HEY := Lib.hid (exceeds_any hL m y _ w5 HY.out hkt)
              have X5 := Lib.hid hx5
              clear x5 hx5 hlg HEX f0 f1 f2 f3 f4 f5 f6 f7 f8 f8' hnd hkt e0 e8 k0 k1 k2 k3 k4 k5 k6 k7 k8 hxw
              have HLG := Lib.hid hlg'
              clear hlg'
              go_wp2_with fail
              refine HEY.out.mono ?_
              rintro e w6 ⟨rfl, x6⟩
              clear HEY
              by_cases hmg : m.large = true
              · rw [hmg]
                have HR3 : Hid (refF L f t vals = (false, 8)) := by
                  have : refF L f t vals = (false, 8) := by rw [HR2.out, if_pos (HHIT.out (by rw [HBIG.out, hmg, Bool.or_true]))]
                  exact this
                have X6 := Lib.hid (X3.out.trans (X5.out.trans x6))
                clear x6 hmg
                go_wp2_with fail
                go_ret2
                exact ⟨by rw [HR3.out]; rfl, X6.out⟩
              · have hmg' : m.large = false := by simpa using hmg
                rw [hmg']
                have HN : Hid ((ls.take (k + 1)).any (Tr.big L) = false) := by
                  have : (ls.take (k + 1)).any (Tr.big L) = false := by rw [HTK.out, HA.out, HBIG.out, HLG.out, hmg']; rfl
                  exact this
                have X6 := Lib.hid (X5.out.trans x6)
                clear x6 hmg hmg'
                go_wp2_with fail
                go_roundw
                case rel => exact ⟨k + 1, by omega, by go_num, ⟨HN.out, X6.out⟩⟩
                case measure => simp [intOf]; omega
          · have hd9 : (ls[k].d.kind == 9) = false := by simpa using h9
            have HN : Hid ((ls.take (k + 1)).any (Tr.big L) = false) := by
              have : (ls.take (k + 1)).any (Tr.big L) = false := by rw [HTK.out, HA.out, big_other h9]; rfl
              exact this
            clear ht e8 h9 hx
            generalize ls[k].d.kind = kd at *
            go_wp2_with fail
            go_roundw
            case rel => exact ⟨k + 1, by omega, by go_num, ⟨HN.out, HX.out⟩⟩
            case measure => simp [intOf]; omega
        · have hany : ls.any (Tr.big L) = false := by
            have hke : k = ls.length := by omega
            rw [hke, List.take_length] at hal
            exact hal
          have HR3 : Hid (refF L f t vals = (f.tv (vget vals), 0)) := by
            have : refF L f t vals = (f.tv (vget vals), 0) := by rw [HR2.out, if_neg (by rw [hany]; simp)]
            exact this
          obtain ⟨hfb, hff⟩ := HFINE.out HB0.out HCV.out hany
          have hxr := X3.out.trans hx
          obtain ⟨b0, b1, b2, b3, b4, b5, b6, b7, b8⟩ := HB3.out.ext hx (by omega)
          have HTR := Lib.hid (truth_ih (p := p) hL1 f hfb hff t _ wr HM.out (HT.out.ext hxr) (HVS.out.ext hxr))
          have XR := Lib.hid hxr
          clear hal hx hany hfb hff hxr
          go_wp2_with fail
          clear b0 b1 b2 b3 b4 b5 b6 b7 b8
          refine HTR.out.mono ?_
          rintro e w7 ⟨rfl, x7⟩
          have X7 := Lib.hid (XR.out.trans x7)
          clear x7 HTR
          go_wp2_with fail
          go_ret2
          exact ⟨by rw [HR3.out]; rfl, X7.out⟩
end Go.Proofs.YtofbfplpbffpfaaGreat
