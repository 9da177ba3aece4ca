/- Layers 4 and 5: division.Exact, rational.Integer. -/
import Derived.Test.YtofbfplpbffpfaaGreatRat2

namespace Go.Proofs.YtofbfplpbffpfaaGreat
open Go.RowKit

/-- The call returns the quotient, if there is no rest, and an error otherwise. -/
def RetExact (q r : Int) (w : World) (e : Ending) (w' : World) : Prop :=
  ∃ x, e = .returned (.tuple #[x, .int .i64 (if r = 0 then 0 else 3)]) ∧ IntN w' x (if r = 0 then q else 0) ∧ Ext w w'
theorem close_exact {w W : World} {g : Nat} {q r : Int} {b s u0 u1 : Value} (hx : Ext w W) (hg : w.heap.size ≤ g) (h0 : W.cell? ⟨g, 0, none⟩ = some u0) (h1 : W.cell? ⟨g, 1, none⟩ = some u1) (d0 : isDig u0 = false) (d1 : isDig u1 = false) (n : Int) (hN : IntN W (.agg #[b, s]) (if r = 0 then q else 0)) (hn : n = if r = 0 then 0 else 3) :
    RetExact q r w (.returned (.tuple #[.agg #[b, s], .int .i64 n])) ((W.setCell ⟨g, 0, none⟩ b).setCell ⟨g, 1, none⟩ s) := by
  have k1 : (W.setCell ⟨g, 0, none⟩ b).cell? ⟨g, 1, none⟩ = some u1 := by rw [World.cell?_setCell_other _ _ _ _ (by simp), h1]
  subst hn
  exact ⟨_, rfl, (hN.box h0 d0 _).box k1 d1 _, (hx.setCell (by simpa using hg) _).setCell (by simpa using hg) _⟩

set_option maxRecDepth 100000 in
set_option maxHeartbeats 2000000 in
theorem exact_int (x y : Value) (a b : Int) (L M : Nat) (w : World) (h : IntR w x a L) (k : IntR w y b M) (hs : L ≤ 17592186044416) (hs' : M ≤ 17592186044416) (hb0 : b ≠ 0) :
    Calls Tryz.prog 83 #[x, y] w (RetExact (a.tdiv b) (a.tmod b) w) := by
  have H := Lib.hid h
  have K := Lib.hid k
  obtain ⟨neg, v, ds, rfl, ⟨A, c, rfl, -, -, -⟩, -, -⟩ := h
  obtain ⟨neg', v', ds', rfl, ⟨A', c', rfl, -, -, -⟩, -, -⟩ := k
  go_enter Tryz.func83, Tryz.ntmps83
  go_wp2_with fail
  generalize hW : ((w.alloc (Obj.cells #[.bool neg, .slice A ds.length c] 25)).alloc (Obj.cells #[.bool neg', .slice A' ds'.length c'] 25)).alloc (Obj.cells #[.bool false, .slice none 0 0] 25) = W
  have HX0 : Hid (Ext w W) := by
    have : Ext w W := by rw [← hW]; exact (((Ext.refl w).alloc _).alloc _).alloc _
    exact this
  have HWS : Hid (W.heap.size = w.heap.size + 1 + 1 + 1) := by
    have : W.heap.size = w.heap.size + 1 + 1 + 1 := by rw [← hW]; simp
    exact this
  have HR : Hid (∀ W', Ext W W' → (W'.cell? ⟨w.heap.size + 1 + 1, 0, none⟩ = some (.bool false) ∧ W'.cell? ⟨w.heap.size + 1 + 1, 1, none⟩ = some (.slice none 0 0) ∧ W'.frozen? ⟨w.heap.size + 1 + 1, 0, none⟩ = false ∧ W'.frozen? ⟨w.heap.size + 1 + 1, 1, none⟩ = false)) := by
    intro W' hx
    obtain ⟨hc, hf⟩ := hx.cells
    have hsz := HWS.out
    refine ⟨?_, ?_, ?_, ?_⟩ <;> first | (rw [hc _ _ (by omega), ← hW]; simp [go_sem]; done) | (rw [hf _ _ (by omega), ← hW]; simp [go_sem]; done)
  clear hW
  refine (quo_int _ _ a b L M _ (H.out.ext HX0.out) (K.out.ext HX0.out) hs hs' hb0).mono ?_
  rintro e w1 ⟨xq, xr, rfl, iq, ir, y1⟩
  have Y1 := Lib.hid y1
  have IQ := Lib.hid iq
  have IR := Lib.hid ir
  obtain ⟨vq, rfl, Aq, cq, rfl, -⟩ := iq
  obtain ⟨vr, rfl, Ar, cr, rfl, -⟩ := ir
  clear y1 H K
  generalize a.tdiv b = q at *
  generalize a.tmod b = r at *
  go_wp2_with fail
  have x2 : Ext w1 ((w1.alloc (Obj.cells #[.bool (decide (q < 0)), .slice Aq (dg q.natAbs).length cq] 25)).alloc (Obj.cells #[.bool (decide (r < 0)), .slice Ar (dg r.natAbs).length cr] 25)) := ((Ext.refl w1).alloc _).alloc _
  have q0 : ∀ i, ((w1.alloc (Obj.cells #[.bool (decide (q < 0)), .slice Aq (dg q.natAbs).length cq] 25)).alloc (Obj.cells #[.bool (decide (r < 0)), .slice Ar (dg r.natAbs).length cr] 25)).cell? ⟨w1.heap.size, i, none⟩ = (#[Value.bool (decide (q < 0)), .slice Aq (dg q.natAbs).length cq])[i]? := by intro i; simp [go_sem]
  have hsz2 : w1.heap.size < ((w1.alloc (Obj.cells #[.bool (decide (q < 0)), .slice Aq (dg q.natAbs).length cq] 25)).alloc (Obj.cells #[.bool (decide (r < 0)), .slice Ar (dg r.natAbs).length cr] 25)).heap.size := by simp; omega
  generalize (w1.alloc (Obj.cells #[.bool (decide (q < 0)), .slice Aq (dg q.natAbs).length cq] 25)).alloc (Obj.cells #[.bool (decide (r < 0)), .slice Ar (dg r.natAbs).length cr] 25) = w2 at *
  refine (isZero_int _ r _ w2 ((IR.out.ext x2).raw)).mono ?_
  rintro e w3 ⟨rfl, x3⟩
  have c0 : w3.cell? ⟨w1.heap.size, 0, none⟩ = some (.bool (decide (q < 0))) := (x3.cell (p := ⟨w1.heap.size, 0, none⟩) hsz2).trans (q0 0)
  have c1 : w3.cell? ⟨w1.heap.size, 1, none⟩ = some (.slice Aq (dg q.natAbs).length cq) := (x3.cell (p := ⟨w1.heap.size, 1, none⟩) hsz2).trans (q0 1)
  obtain ⟨r0, r1, f0, f1⟩ := HR.out w3 (Y1.out.trans (x2.trans x3))
  have hx3 := HX0.out.trans (Y1.out.trans (x2.trans x3))
  by_cases hr : r = 0
  · have HF := Lib.hid (close_exact (q := q) (r := r) (g := w.heap.size + 1 + 1) hx3 (by omega) r0 r1 rfl rfl 0 (by rw [if_pos hr]; exact IQ.out.ext (x2.trans x3)) (by rw [if_pos hr]))
    have hrb : (r == 0) = true := by simpa using hr
    rw [hrb]
    clear x2 x3 hx3 hr hrb q0 IR IQ
    go_wp2_with fail
    exact bodyPost_ret (v := .tuple #[.agg #[.bool (decide (q < 0)), .slice Aq (dg q.natAbs).length cq], .int .i64 0]) (by simp [results, Tryz.results83, go_sem, r0, r1]) rfl HF.out
  · have HF := Lib.hid (close_exact (q := q) (r := r) (g := w.heap.size + 1 + 1) (b := .bool false) (s := .slice none 0 0) hx3 (by omega) r0 r1 rfl rfl 3 (by rw [if_neg hr]; exact ⟨_, rfl, by show NatV _ _ (dg 0); rw [dg_zero]; exact NatV.nil _⟩) (by rw [if_neg hr]))
    have hrb : (r == 0) = false := by simpa using hr
    rw [hrb]
    clear x2 x3 hx3 hr hrb q0 IR IQ
    go_wp2_with fail
    exact bodyPost_ret (v := .tuple #[.agg #[.bool false, .slice none 0 0], .int .i64 3]) (by simp [results, Tryz.results83, go_sem, r0, r1]) rfl HF.out

/-- The call returns the integer, if it is one. -/
def RetInteger (q : Rat) (w : World) (e : Ending) (w' : World) : Prop :=
  ∃ x, e = .returned (.tuple #[x, .bool (decide (q.den = 1))]) ∧ IntN w' x (if q.den = 1 then q.num else 0) ∧ Ext w w'
theorem mkRat_int {n : Int} {d : Nat} (hd : 0 < d) : (n.tmod d = 0 ↔ (mkRat n d).den = 1) ∧ ((mkRat n d).den = 1 → n.tdiv d = (mkRat n d).num) := by
  have hG0 : 0 < Nat.gcd n.natAbs d := Nat.gcd_pos_of_pos_right _ hd
  obtain ⟨e1, e2⟩ := reduce_num n d hd
  have hden : (mkRat n d).den = d / Nat.gcd n.natAbs d := by
    have : ((d : Int).tdiv (Nat.gcd n.natAbs d : Nat)) = ((d / Nat.gcd n.natAbs d : Nat) : Int) := by
      rw [Int.tdiv_eq_ediv_of_nonneg (by omega)]; rfl
    rw [this] at e2
    exact (Int.ofNat_inj.1 e2).symm
  have hone : (mkRat n d).den = 1 ↔ d ∣ n.natAbs := by
    rw [hden]
    constructor
    · intro h
      have h1 := Nat.div_mul_cancel (Nat.gcd_dvd_right n.natAbs d)
      rw [h, Nat.one_mul] at h1
      rw [← h1]; exact Nat.gcd_dvd_left _ _
    · intro h
      rw [Nat.gcd_eq_right h, Nat.div_self hd]
  refine ⟨?_, ?_⟩
  · rw [hone]
    constructor
    · intro h
      have := Int.dvd_of_tmod_eq_zero h
      exact Int.ofNat_dvd_left.1 this
    · intro h
      exact Int.tmod_eq_zero_of_dvd (Int.ofNat_dvd_left.2 h)
  · intro h
    rw [← e1, Nat.gcd_eq_right (hone.1 h)]

set_option maxRecDepth 100000 in
set_option maxHeartbeats 2000000 in
theorem integer_rat (x : Value) (q : Rat) (L : Nat) (w : World) (h : RatR w x q L) (hL : 1 ≤ L) (hs : L ≤ 17592186044416) : Calls Tryz.prog 46 #[x] w (RetInteger q w) := by
  have H := Lib.hid h
  obtain ⟨neg, s1, s2, ds, es, rfl, ⟨A, c, rfl, -, -, -⟩, ⟨B, b, rfl, -, -, -⟩, -⟩ := h
  go_enter Tryz.func46, Tryz.ntmps46
  go_wp2_with fail
  generalize hW : (w.alloc (Obj.cells #[.bool neg, .slice A ds.length c, .slice B es.length b] 49)).alloc (Obj.cells #[.bool false, .slice none 0 0] 25) = W
  have HX0 : Hid (Ext w W) := by
    have : Ext w W := by rw [← hW]; exact ((Ext.refl w).alloc _).alloc _
    exact this
  have HWS : Hid (W.heap.size = w.heap.size + 1 + 1) := by
    have : W.heap.size = w.heap.size + 1 + 1 := by rw [← hW]; simp
    exact this
  have HR : Hid (∀ W', Ext W W' → (W'.cell? ⟨w.heap.size + 1, 0, none⟩ = some (.bool false) ∧ W'.cell? ⟨w.heap.size + 1, 1, none⟩ = some (.slice none 0 0) ∧ W'.frozen? ⟨w.heap.size + 1, 0, none⟩ = false ∧ W'.frozen? ⟨w.heap.size + 1, 1, none⟩ = false)) := by
    intro W' hx
    obtain ⟨hc, hf⟩ := hx.cells
    have hsz := HWS.out
    refine ⟨?_, ?_, ?_, ?_⟩ <;> first | (rw [hc _ _ (by omega), ← hW]; simp [go_sem]; done) | (rw [hf _ _ (by omega), ← hW]; simp [go_sem]; done)
  clear hW
  refine (parts_rat _ q L _ (H.out.ext HX0.out) hL).mono ?_
  rintro e w1 ⟨xn, xd, n1, d1, rfl, in1, id1, hd1, hq1, y1⟩
  have HE := Lib.hid (exact_int _ _ n1 d1 L L _ in1 id1 hs hs (by omega))
  have Y1 := Lib.hid y1
  obtain ⟨m1, m2⟩ := mkRat_int (n := n1) hd1
  rw [← hq1] at m1 m2
  have M1 := Lib.hid m1
  have M2 := Lib.hid m2
  clear in1 id1 hq1 y1 m1 m2 H
  generalize n1.tdiv d1 = qq at *
  generalize n1.tmod d1 = rr at *
  go_wp2_with fail
  refine HE.out.mono ?_
  rintro e w2 ⟨x2, rfl, i2, y2⟩
  have hN : (if rr = 0 then qq else 0) = (if q.den = 1 then q.num else 0) := by
    by_cases hq : q.den = 1
    · rw [if_pos hq, if_pos (M1.out.2 hq), M2.out hq]
    · rw [if_neg hq, if_neg (fun e => hq (M1.out.1 e))]
  rw [hN] at i2
  have hB : decide ((if rr = 0 then (0 : Int) else 3) = 0) = decide (q.den = 1) := by
    by_cases hq : q.den = 1
    · rw [if_pos (M1.out.2 hq)]; simp [hq]
    · rw [if_neg (fun e => hq (M1.out.1 e))]; simp [hq]
  generalize (if rr = 0 then (0 : Int) else 3) = er at *
  obtain ⟨v2, rfl, h2⟩ := i2
  have H2 := Lib.hid h2
  obtain ⟨A2, c2, rfl, -⟩ := h2
  generalize hqn : (if q.den = 1 then q.num else 0) = qn at *
  have HQN := Lib.hid hqn
  clear hqn
  have HB := Lib.hid hB
  have x3 : Ext w2 (w2.alloc (Obj.cells #[.bool (decide (qn < 0)), .slice A2 (dg qn.natAbs).length c2] 25)) := (Ext.refl w2).alloc _
  obtain ⟨r0, r1, f0, f1⟩ := HR.out _ (Y1.out.trans (y2.trans x3))
  have hx3 := HX0.out.trans (Y1.out.trans (y2.trans x3))
  have hin : IntN (w2.alloc (Obj.cells #[.bool (decide (qn < 0)), .slice A2 (dg qn.natAbs).length c2] 25)) (.agg #[.bool (decide (qn < 0)), .slice A2 (dg qn.natAbs).length c2]) qn := ⟨_, rfl, H2.out.ext x3⟩
  have k1 : ((w2.alloc (Obj.cells #[.bool (decide (qn < 0)), .slice A2 (dg qn.natAbs).length c2] 25)).setCell ⟨w.heap.size + 1, 0, none⟩ (.bool (decide (qn < 0)))).cell? ⟨w.heap.size + 1, 1, none⟩ = some (.slice none 0 0) := by rw [World.cell?_setCell_other _ _ _ _ (by simp), r1]
  have HI := Lib.hid ((hin.box r0 rfl (.bool (decide (qn < 0)))).box k1 rfl (.slice A2 (dg qn.natAbs).length c2))
  have HXX := Lib.hid ((hx3.setCell (p := ⟨w.heap.size + 1, 0, none⟩) (Nat.le_succ _) (.bool (decide (qn < 0)))).setCell (p := ⟨w.heap.size + 1, 1, none⟩) (Nat.le_succ _) (.slice A2 (dg qn.natAbs).length c2))
  clear hin k1 hx3 x3 y2 hN hB HE M1 M2
  go_wp2_with fail
  have hbe : (er == 0) = decide (q.den = 1) := by rw [← HB.out]; rfl
  rw [hbe]
  exact bodyPost_ret (v := .tuple #[.agg #[.bool (decide (qn < 0)), .slice A2 (dg qn.natAbs).length c2], .bool (decide (q.den = 1))]) (by simp [results, Tryz.results46, go_sem, r0, r1]) rfl ⟨_, rfl, by rw [HQN.out]; exact HI.out, HXX.out⟩
end Go.Proofs.YtofbfplpbffpfaaGreat
