/- Layer 22: recpoly.collect. -/
import Derived.Test.YtbanhcaahabboaaGreatDoorMv13
set_option linter.unusedSimpArgs false
set_option linter.unusedVariables false

namespace Go.Proofs.YtbanhcaahabboaaGreatDoor
open Go.RowKit

theorem plTerms_append (m : Mo) (l e : Int) (a b : List Pl) : plTerms m l e (a ++ b) = plTerms m l e a ++ plTerms m l (e + a.length) b := by
  induction a generalizing e with
  | nil => simp [plTerms]
  | cons x r ih =>
    simp only [List.cons_append, plTerms, ih, List.append_assoc, List.length_cons]
    rw [show e + 1 + (r.length : Int) = e + ((r.length + 1 : Nat) : Int) by omega]
theorem plTerms_take (m : Mo) (l e : Int) (cs : List Pl) (k : Nat) (hk : k < cs.length) : plTerms m l e (cs.take (k + 1)) = plTerms m l e (cs.take k) ++ cs[k].terms (m.put l (e + k)) := by
  rw [List.take_succ_eq_append_getElem hk, plTerms_append, List.length_take, Nat.min_eq_left (by omega)]
  simp only [plTerms, List.append_nil]
theorem plSz_take (l : List Pl) (k : Nat) (hk : k < l.length) : plSz (l.take k) + l[k].sz + plSz (l.drop (k + 1)) = plSz l := by
  have h2 : plSz l = plSz (l.take k) + plSz (l.drop k) := by rw [← plSz_append, List.take_append_drop]
  rw [h2, plSz_drop l k hk]; omega
theorem Mo.put_put (m : Mo) (l e e' : Int) : (m.put l e).put l e' = m.put l e' := by
  unfold Mo.put; split <;> (try split) <;> (try split) <;> rfl
theorem Mo.put_get (m : Mo) (l : Int) : m.put l (m.get l) = m := by
  unfold Mo.put Mo.get; split <;> (try split) <;> (try split) <;> rfl

/-- What collect leaves: its row alone has turned. -/
def RetTs (k : Option Nat) (base : Nat) (tv : Value) (l : Sp) (w : World) (e : Ending) (w' : World) : Prop :=
  ∃ tv', e = .returned tv' ∧ TsV k base w' tv' l ∧ w.grownBy w' tv.ownBlock ∧ (∀ v ds, NatV w v ds → NatV w' v ds) ∧ (tv'.ownBlock = tv.ownBlock ∨ ∀ R, tv'.ownBlock = some R → w.heap.size ≤ R)
def ColIH (w0 : World) (q : Nat → Prop) (L n : Nat) : Prop := ∀ (p : Pl) (v : Value) (m : Mo) (E : Int) (l : Sp) (tv : Value) (w : World), p.sz < n → p.dm ≤ L → PlV w0 q p v → Ext w0 w → TsV (some L) w0.heap.size w tv l → m.nonneg → m.le E → E + p.sz ≤ 4611686018427387904 → l.length + p.sz ≤ 1099511627776 → Calls Tryz.prog 174 #[tv, v, moV m] w (RetTs (some L) w0.heap.size tv (l ++ p.terms m) w)

set_option maxRecDepth 100000 in
set_option maxHeartbeats 4000000 in
theorem collect_leaf {w0 w : World} {q : Nat → Prop} {L : Nat} (p : Pl) (v : Value) (m : Mo) (l : Sp) (tv : Value) (hdm : p.dm ≤ L) (h : PlV w0 q p v) (hx0 : Ext w0 w) (ht : TsV (some L) w0.heap.size w tv l) (hlen : l.length + p.sz ≤ 1099511627776) (hl : p.lv ≤ 0) : Calls Tryz.prog 174 #[tv, v, moV m] w (RetTs (some L) w0.heap.size tv (l ++ p.terms m) w) := by
  have hds := p.dm_ds
  have hsz := p.sz_len
  obtain ⟨A0, n0, c0, A, c, rfl, hnat, hl1, hl2, h4⟩ := h.open_
  obtain ⟨lv, ng, ds, cs⟩ := p
  simp only [Pl.cs, Pl.ds, Pl.lv, Pl.neg, plV] at *
  have hte : (Pl.mk lv ng ds cs).terms m = [(sgn ng (val ds), m)] := by rw [Pl.terms, if_pos hl]
  rw [hte]
  obtain ⟨W, hW⟩ : ∃ W, (w.alloc (.cells #[.int .i64 lv, .bool ng, .slice A0 n0 c0, .slice A cs.length c] 31)).alloc (.cells #[.int .i64 m.a, .int .i64 m.b, .int .i64 m.c, .int .i64 m.d] 194) = W := ⟨_, rfl⟩
  have hWx : Ext w W := by rw [← hW]; exact ((Ext.refl w).alloc _).alloc _
  have hWs : W.heap.size = w.heap.size + 1 + 1 := by rw [← hW]; simp
  have hbx : Box4 W w.heap.size (.mk lv ng ds cs) (.slice A0 n0 c0) (.slice A cs.length c) := by rw [← hW]; exact (Box4.new w (.mk lv ng ds cs) _ _ _).ext ((Ext.refl _).alloc _) (by simp)
  have hmx : MoAt W (w.heap.size + 1) m := by
    have := MoAt.new (w.alloc (.cells #[.int .i64 lv, .bool ng, .slice A0 n0 c0, .slice A cs.length c] 31)) m 194
    rw [hW] at this
    simpa using this
  obtain ⟨b0, b1, b2, b3⟩ := hbx
  obtain ⟨d0, d1, d2, d3⟩ := hmx
  simp only [Pl.lv, Pl.neg] at b0 b1
  have hx0s := hx0.size
  have hcf : Cf W (some L) (.agg #[.bool ng, .slice A0 n0 c0]) (sgn ng (val ds)) := ⟨ng, _, ds, rfl, hnat.ext (hx0.trans hWx), rfl, by omega⟩
  obtain ⟨v4, w4, hrun, t4, g4, n4, o4⟩ := (ht.ext hWx).push (by have := hWx.size; omega) hcf m (by omega) 73
  have HF : Hid (RetTs (some L) w0.heap.size tv (l ++ [(sgn ng (val ds), m)]) w (.returned v4) w4) := by
    refine ⟨v4, rfl, t4, ⟨g4.os.trans hWx.below.os, g4.tape.trans hWx.below.tape, g4.output.trans hWx.below.output, Nat.le_trans hWx.size g4.size, fun i hi hne => (World.grownBy.block g4 i (Nat.lt_of_lt_of_le hi hWx.size) hne).trans (hWx.below.block i hi)⟩, fun v ds hv => n4 v ds (hv.ext hWx), ?_⟩
    rcases o4 with o4 | o4
    · exact .inl o4
    · right
      intro R hR
      rw [o4] at hR
      injection hR with hR
      have := hWx.size
      omega
  have hlq : decide (lv ≤ 0) = true := decide_eq_true hl
  obtain ⟨At, ct, rfl, -, -⟩ := ht.len
  clear t4 g4 n4 o4 ht h hnat h4 hcf
  unfold moV
  rw [hWs] at hrun
  go_enter Tryz.func174, Tryz.ntmps174
  go_wp2_with (at_builtin
               refine wpList_append_run rfl (.tmp 14) (.tmp 19) _ _ rfl _ _ _ _ rfl rfl hrun ?_)
  clear hrun
  go_ret
  exact HF.out

set_option maxRecDepth 100000 in
set_option maxHeartbeats 4000000 in
theorem collect_high {w0 w : World} {q : Nat → Prop} {L : Nat} (p : Pl) (v : Value) (m : Mo) (l : Sp) (tv : Value) (h : PlV w0 q p v) (hx0 : Ext w0 w) (ht : TsV (some L) w0.heap.size w tv l) (hl : 4 < p.lv) : Calls Tryz.prog 174 #[tv, v, moV m] w (RetTs (some L) w0.heap.size tv (l ++ p.terms m) w) := by
  obtain ⟨A0, n0, c0, A, c, rfl, hnat, hl1, hl2, h4⟩ := h.open_
  obtain ⟨lv, ng, ds, cs⟩ := p
  simp only [Pl.cs, Pl.ds, Pl.lv, Pl.neg, plV] at *
  have hte : (Pl.mk lv ng ds cs).terms m = [] := by rw [Pl.terms, if_neg (by omega), if_pos hl]
  rw [hte, List.append_nil]
  have HF : Hid (∀ o o', RetTs (some L) w0.heap.size tv l w (.returned tv) ((w.alloc o).alloc o')) := fun o o' => by
    have hWx : Ext w ((w.alloc o).alloc o') := ((Ext.refl w).alloc _).alloc _
    refine ⟨tv, rfl, ht.ext hWx, ⟨hWx.below.os, hWx.below.tape, hWx.below.output, hWx.size, fun i hi _ => hWx.below.block i hi⟩, fun v ds hv => hv.ext hWx, .inl rfl⟩
  have hlq : decide (lv ≤ 0) = false := decide_eq_false (by omega)
  have hlq2 : decide (lv > 4) = true := decide_eq_true (by omega)
  obtain ⟨At, ct, rfl, -, -⟩ := ht.len
  clear ht h hnat h4
  unfold moV
  go_enter Tryz.func174, Tryz.ntmps174
  go_wp2_with fail
  go_ret
  exact HF.out _ _

/-- What holds in the loop of collect. -/
def ColInv (w0 w : World) (L : Nat) (p : Pl) (s A : Value) (m : Mo) (tv : Value) (l0 : Sp) (k : Nat) (tvk : Value) (wr : World) : Prop :=
  TsV (some L) w0.heap.size wr tvk (l0 ++ plTerms m p.lv (m.get p.lv) (p.cs.take k)) ∧ (∃ e, MoAt wr (w.heap.size + 1) (m.put p.lv e)) ∧ (∀ i, wr.frozen? ⟨w.heap.size + 1, i, none⟩ = false) ∧ Box4 wr w.heap.size p s A ∧ w.grownBy wr tv.ownBlock ∧ (∀ v ds, NatV w v ds → NatV wr v ds) ∧ (tvk.ownBlock = tv.ownBlock ∨ ∀ R, tvk.ownBlock = some R → w.heap.size + 2 ≤ R) ∧ w.heap.size + 2 ≤ wr.heap.size
theorem ColInv.ext0 {w0 w : World} {L : Nat} {p : Pl} {s A : Value} {m : Mo} {tv : Value} {l0 l1 : Sp} {k : Nat} {tvk : Value} {wr : World} (h : ColInv w0 w L p s A m tv l0 k tvk wr) (hx : Ext w0 w) (ht : TsV (some L) w0.heap.size w tv l1) : Ext w0 wr := by
  obtain ⟨-, -, -, -, h5, -⟩ := h
  exact Below.grown hx h5 hx.size (fun g e => (ht.own e).1)
/-- A store into the box of the monomial. -/
theorem MoAt.set_ {w : World} {g : Nat} {m : Mo} {l e : Int} (h : MoAt w g (m.put l e)) (hl : l = 1 ∨ l = 2 ∨ l = 3 ∨ l = 4) (e' : Int) : MoAt (w.setCell ⟨g, (l - 1).toNat, none⟩ (.int .i64 e')) g (m.put l e') ∧ (∀ v ds, NatV w v ds → NatV (w.setCell ⟨g, (l - 1).toNat, none⟩ (.int .i64 e')) v ds) := by
  obtain ⟨h0, h1, h2, h3⟩ := h
  rcases hl with rfl | rfl | rfl | rfl
  · refine ⟨⟨World.cell?_setCell_same _ _ _ h0, ?_, ?_, ?_⟩, fun v ds hv => hv.box h0 rfl _⟩ <;> (rw [World.cell?_setCell_other _ _ _ _ (by simp)]; first | exact h1 | exact h2 | exact h3)
  · refine ⟨⟨?_, World.cell?_setCell_same _ _ _ h1, ?_, ?_⟩, fun v ds hv => hv.box h1 rfl _⟩ <;> (rw [World.cell?_setCell_other _ _ _ _ (by simp)]; first | exact h0 | exact h2 | exact h3)
  · refine ⟨⟨?_, ?_, World.cell?_setCell_same _ _ _ h2, ?_⟩, fun v ds hv => hv.box h2 rfl _⟩ <;> (rw [World.cell?_setCell_other _ _ _ _ (by simp)]; first | exact h0 | exact h1 | exact h3)
  · refine ⟨⟨?_, ?_, ?_, World.cell?_setCell_same _ _ _ h3⟩, fun v ds hv => hv.box h3 rfl _⟩ <;> (rw [World.cell?_setCell_other _ _ _ _ (by simp)]; first | exact h0 | exact h1 | exact h2)
/-- One round: behind the store, and behind the call. -/
theorem ColInv.step {w0 w : World} {L : Nat} {p : Pl} {s A : Value} {m : Mo} {tv : Value} {l0 : Sp} {k : Nat} {tvk : Value} {wr : World} (h : ColInv w0 w L p s A m tv l0 k tvk wr) (hx : Ext w0 w) (ht : TsV (some L) w0.heap.size w tv l0) (hl : p.lv = 1 ∨ p.lv = 2 ∨ p.lv = 3 ∨ p.lv = 4) (hk : k < p.cs.length) (o : Obj) :
    ∀ W1, W1 = (wr.alloc o).setCell ⟨w.heap.size + 1, (p.lv - 1).toNat, none⟩ (.int .i64 (m.get p.lv + k)) → TsV (some L) w0.heap.size W1 tvk (l0 ++ plTerms m p.lv (m.get p.lv) (p.cs.take k)) ∧ MoAt W1 (w.heap.size + 1) (m.put p.lv (m.get p.lv + k)) ∧ Ext w0 W1 ∧ (∀ i, W1.cell? ⟨wr.heap.size, i, none⟩ = (wr.alloc o).cell? ⟨wr.heap.size, i, none⟩) ∧
      ∀ e w2, RetTs (some L) w0.heap.size tvk ((l0 ++ plTerms m p.lv (m.get p.lv) (p.cs.take k)) ++ p.cs[k].terms (m.put p.lv (m.get p.lv + k))) W1 e w2 → ∃ tv2 A2 c2, e = .returned tv2 ∧ tv2 = .slice A2 (l0 ++ plTerms m p.lv (m.get p.lv) (p.cs.take (k + 1))).length c2 ∧ ColInv w0 w L p s A m tv l0 (k + 1) tv2 w2 := by
  intro W1 hW1
  have hx0 := h.ext0 hx ht
  obtain ⟨h1, ⟨e, h2⟩, h3, h4, h5, h6, h7, h8⟩ := h
  have hxa : Ext wr (wr.alloc o) := (Ext.refl wr).alloc o
  obtain ⟨m1, m2⟩ := (h2.ext hxa (by omega)).set_ hl (m.get p.lv + k)
  rw [← hW1] at m1 m2
  have hsz : W1.heap.size = wr.heap.size + 1 := by rw [hW1]; simp [World.setCell]
  have hown : ∀ R, tvk.ownBlock = some R → R ≠ w.heap.size + 1 ∧ R ≠ w.heap.size ∧ R < wr.heap.size := by
    intro R hR
    have hlt := (h1.own hR).2
    rcases h7 with h7 | h7
    · rw [h7] at hR
      have := (ht.own hR).2
      omega
    · have := h7 R hR; omega
  have hblk : ∀ b, b ≠ w.heap.size + 1 → b < wr.heap.size → W1.heap[b]? = wr.heap[b]? := fun b hb hlt => by
    rw [hW1, Below.heap_setCell _ _ _ b hb]
    exact hxa.below.block b hlt
  have hnat : ∀ v ds, NatV wr v ds → NatV W1 v ds := fun v ds hv => m2 v ds (hv.ext hxa)
  have hxs := hx.size
  refine ⟨h1.turn (fun R hR => hblk R (hown R hR).1 (hown R hR).2.2) hnat, m1, ?_, ?_, ?_⟩
  · rw [hW1]; exact (hx0.alloc o).setCell (by show w0.heap.size ≤ w.heap.size + 1; omega) _
  · intro i
    rw [hW1, World.cell?_setCell_other _ _ _ _ (by intro e; injection e; omega)]
  · rintro e w2 ⟨tv2, rfl, t2, g2, n2, o2⟩
    rw [List.append_assoc, ← plTerms_take _ _ _ _ k hk] at t2
    have hg2 := g2.size
    obtain ⟨A2, c2, e2, -, -⟩ := t2.len
    have hkeep : ∀ b, b < W1.heap.size → tvk.ownBlock ≠ some b → w2.heap[b]? = W1.heap[b]? := fun b hb hne => World.grownBy.block g2 b hb (fun e => hne e.symm)
    refine ⟨tv2, A2, c2, rfl, e2, t2, ⟨_, m1.turn (hkeep _ (by omega) (fun e => (hown _ e).1 rfl))⟩, fun i => ?_, h4.turn ((hkeep _ (by omega) (fun e => (hown _ e).2.1 rfl)).trans (hblk _ (by omega) (by omega))), ⟨?_, ?_, ?_, by omega, fun b hb hne => ?_⟩, fun v ds hv => n2 v ds (hnat v ds (h6 v ds hv)), ?_, by omega⟩
    · have : w2.frozen? ⟨w.heap.size + 1, i, none⟩ = W1.frozen? ⟨w.heap.size + 1, i, none⟩ := World.frozen?_of_block (a := ⟨w.heap.size + 1, i, none⟩) (hkeep _ (by show w.heap.size + 1 < _; omega) (fun e => (hown _ e).1 rfl))
      rw [this, hW1, World.frozen?_setCell, hxa.frozen (p := ⟨w.heap.size + 1, i, none⟩) (by show w.heap.size + 1 < _; omega)]
      exact h3 i
    · rw [g2.os, hW1]; exact h5.os
    · rw [g2.tape, hW1]; exact h5.tape
    · rw [g2.output, hW1]; exact h5.output
    · have hgs := h5.size
      by_cases hbk : tvk.ownBlock = some b
      · rcases h7 with h7 | h7
        · exact absurd (h7.symm.trans hbk).symm hne
        · have := h7 b hbk; omega
      · rw [hkeep b (by omega) hbk, hblk b (by omega) (by omega)]
        exact World.grownBy.block h5 b hb hne
    · rcases o2 with o2 | o2
      · rcases h7 with h7 | h7
        · exact .inl (o2.trans h7)
        · exact .inr (fun R hR => h7 R (o2.symm.trans hR))
      · exact .inr (fun R hR => by have := o2 R hR; omega)
end Go.Proofs.YtbanhcaahabboaaGreatDoor
