/- Layer 38: lists of names: slices.Index, slices.Contains, prenex.different; the reference's last and Names. -/
import Derived.Test.YtkbpnppiadaibaaGreatDoorValid
import Derived.Test.YtkbpnppiadaibaaGreatDoorMg32
import Derived.Test.YtkbpnppiadaibaaGreatDoorMg35
set_option linter.unusedSimpArgs false
set_option linter.unusedVariables false

namespace Go.Proofs.YtkbpnppiadaibaaGreatDoor
open Go.RowKit

theorem slr_at {α : Type} {P : α → Value → Prop} {w : World} {A : Option Addr} {n c : Nat} {l : List α} (h : SlR (fun _ => P) w (.slice A n c) l) (k : Nat) (hk : k < l.length) : ∃ ad x, A = some ad ∧ ad.block < w.heap.size ∧ w.cell? (ad.add k) = some x ∧ P l[k] x := by
  obtain ⟨A', c', e, -, -, h3⟩ := h
  injection e with e1
  obtain ⟨ad, x, e4, hb, a0, hp⟩ := h3 k hk
  exact ⟨ad, x, e1.trans e4, hb, a0, hp⟩
end Go.Proofs.YtkbpnppiadaibaaGreatDoor

/- Reference 38: EqualForms of two prenex forms that are the same. -/
namespace Go.Proofs.YtkbpnppiadaibaaGreatDoor
open Go.RowKit

set_option maxRecDepth 100000 in
set_option maxHeartbeats 4000000 in
theorem eqForms_any {w : World} {q1 q2 : Nat → Prop} {fr : Int} {all : List Bool} {nms : List ByteArray} {m : Mx} {v u : Value} (hsz : m.sz ≤ 1000000) (hea : m.each (fun r => r.sz ≤ 1099511627776)) (h : PxV w q1 fr all nms m v) (k : PxV w q2 fr all nms m u) : Calls Tryz.prog 14 #[v, u] w (RetB true w) := by
  obtain ⟨A1, c1, A2, c2, A0, n0, c0, B, n1, c3, K, n2, c4, rfl, hb1, hs1, hm1⟩ := h
  obtain ⟨S1, d1, S2, d2, P0, l0, h0, P, l1, h1, R, l2, h2, rfl, hb2, hs2, hm2⟩ := k
  have HBO := Lib.hid hb1
  have HST := Lib.hid hs1
  have HQB := Lib.hid hb2
  have HQS := Lib.hid hs2
  have HE : Hid (∀ W', Ext w W' → Calls Tryz.prog 50 #[.agg #[.int .i64 m.kind, .int .i64 m.rel, .int .i64 m.p.lv, .bool m.p.neg, .slice A0 n0 c0, .slice B n1 c3, .slice K n2 c4], .agg #[.int .i64 m.kind, .int .i64 m.rel, .int .i64 m.p.lv, .bool m.p.neg, .slice P0 l0 h0, .slice P l1 h1, .slice R l2 h2]] W' (RetB true W')) := Lib.hid (fun W' hx => by
    have h1 := meq_any m m _ _ hsz hea (hm1.ext hx) (hm2.ext hx)
    rw [eqB_eq rfl] at h1
    exact h1)
  obtain ⟨A', c', e', l3, l4, -⟩ := id hs1
  injection e' with e1 e2 e3
  subst e1 e3
  obtain ⟨A', c', e', l5, l6, -⟩ := id hb1
  injection e' with e1 e2' e3
  subst e1 e3
  clear e2 e2' hs1 hb1 hm1 hs2 hb2 hm2
  unfold pxC
  obtain ⟨W, hW⟩ : ∃ W, (w.alloc (.cells #[.int .i64 fr, .slice A1 all.length c1, .slice A2 nms.length c2, .int .i64 m.kind, .int .i64 m.rel, .int .i64 m.p.lv, .bool m.p.neg, .slice A0 n0 c0, .slice B n1 c3, .slice K n2 c4] 47)).alloc (.cells #[.int .i64 fr, .slice S1 all.length d1, .slice S2 nms.length d2, .int .i64 m.kind, .int .i64 m.rel, .int .i64 m.p.lv, .bool m.p.neg, .slice P0 l0 h0, .slice P l1 h1, .slice R l2 h2] 47) = W := ⟨_, rfl⟩
  obtain ⟨hX1, hZ1, a0, a1, a2, a3, a4, a5, a6, a7, a8, a9⟩ := box10 w 47 (.int .i64 fr) (.slice A1 all.length c1) (.slice A2 nms.length c2) (.int .i64 m.kind) (.int .i64 m.rel) (.int .i64 m.p.lv) (.bool m.p.neg) (.slice A0 n0 c0) (.slice B n1 c3) (.slice K n2 c4) _ rfl
  obtain ⟨hX2, hZ2, b0, b1, b2, b3, b4, b5, b6, b7, b8, b9⟩ := box10 _ 47 (.int .i64 fr) (.slice S1 all.length d1) (.slice S2 nms.length d2) (.int .i64 m.kind) (.int .i64 m.rel) (.int .i64 m.p.lv) (.bool m.p.neg) (.slice P0 l0 h0) (.slice P l1 h1) (.slice R l2 h2) W hW
  rw [hZ1] at b0 b1 b2 b3 b4 b5 b6 b7 b8 b9 hZ2
  have HWX := Lib.hid (hX1.trans hX2)
  have HB : Hid (∀ wr, Ext W wr → wr.cell? ⟨w.heap.size, 0, none⟩ = some (.int .i64 fr) ∧ wr.cell? ⟨w.heap.size, 1, none⟩ = some (.slice A1 all.length c1) ∧ wr.cell? ⟨w.heap.size, 2, none⟩ = some (.slice A2 nms.length c2) ∧ wr.cell? ⟨w.heap.size, 3, none⟩ = some (.int .i64 m.kind) ∧ wr.cell? ⟨w.heap.size, 4, none⟩ = some (.int .i64 m.rel) ∧ wr.cell? ⟨w.heap.size, 5, none⟩ = some (.int .i64 m.p.lv) ∧ wr.cell? ⟨w.heap.size, 6, none⟩ = some (.bool m.p.neg) ∧ wr.cell? ⟨w.heap.size, 7, none⟩ = some (.slice A0 n0 c0) ∧ wr.cell? ⟨w.heap.size, 8, none⟩ = some (.slice B n1 c3) ∧ wr.cell? ⟨w.heap.size, 9, none⟩ = some (.slice K n2 c4)) := Lib.hid (by
    intro wr hxx
    have k : ∀ j, wr.cell? ⟨w.heap.size, j, none⟩ = (w.alloc (.cells #[.int .i64 fr, .slice A1 all.length c1, .slice A2 nms.length c2, .int .i64 m.kind, .int .i64 m.rel, .int .i64 m.p.lv, .bool m.p.neg, .slice A0 n0 c0, .slice B n1 c3, .slice K n2 c4] 47)).cell? ⟨w.heap.size, j, none⟩ := fun j => (hX2.trans hxx).cell (p := ⟨w.heap.size, j, none⟩) (by show w.heap.size < _; omega)
    exact ⟨(k 0).trans a0, (k 1).trans a1, (k 2).trans a2, (k 3).trans a3, (k 4).trans a4, (k 5).trans a5, (k 6).trans a6, (k 7).trans a7, (k 8).trans a8, (k 9).trans a9⟩)
  have HC : Hid (∀ wr, Ext W wr → wr.cell? ⟨w.heap.size + 1, 0, none⟩ = some (.int .i64 fr) ∧ wr.cell? ⟨w.heap.size + 1, 1, none⟩ = some (.slice S1 all.length d1) ∧ wr.cell? ⟨w.heap.size + 1, 2, none⟩ = some (.slice S2 nms.length d2) ∧ wr.cell? ⟨w.heap.size + 1, 3, none⟩ = some (.int .i64 m.kind) ∧ wr.cell? ⟨w.heap.size + 1, 4, none⟩ = some (.int .i64 m.rel) ∧ wr.cell? ⟨w.heap.size + 1, 5, none⟩ = some (.int .i64 m.p.lv) ∧ wr.cell? ⟨w.heap.size + 1, 6, none⟩ = some (.bool m.p.neg) ∧ wr.cell? ⟨w.heap.size + 1, 7, none⟩ = some (.slice P0 l0 h0) ∧ wr.cell? ⟨w.heap.size + 1, 8, none⟩ = some (.slice P l1 h1) ∧ wr.cell? ⟨w.heap.size + 1, 9, none⟩ = some (.slice R l2 h2)) := Lib.hid (by
    intro wr hxx
    have k : ∀ j, wr.cell? ⟨w.heap.size + 1, j, none⟩ = W.cell? ⟨w.heap.size + 1, j, none⟩ := fun j => hxx.cell (p := ⟨w.heap.size + 1, j, none⟩) (by show w.heap.size + 1 < _; omega)
    exact ⟨(k 0).trans b0, (k 1).trans b1, (k 2).trans b2, (k 3).trans b3, (k 4).trans b4, (k 5).trans b5, (k 6).trans b6, (k 7).trans b7, (k 8).trans b8, (k 9).trans b9⟩)
  clear hX1 hX2 hZ1 hZ2 a0 a1 a2 a3 a4 a5 a6 a7 a8 a9 b0 b1 b2 b3 b4 b5 b6 b7 b8 b9
  obtain ⟨a0, a1, a2, a3, a4, a5, a6, a7, a8, a9⟩ := HB.out W (Ext.refl W)
  obtain ⟨b0, b1, b2, b3, b4, b5, b6, b7, b8, b9⟩ := HC.out W (Ext.refl W)
  go_enter Tryz.func14, Tryz.ntmps14
  go_wp2_with fail
  clear hW a0 a1 a2 a3 a4 a5 a6 a7 a8 a9 b0 b1 b2 b3 b4 b5 b6 b7 b8 b9
  refine (HE.out _ HWX.out).mono ?_
  rintro e w1 ⟨rfl, x1⟩
  have X1 := Lib.hid x1
  obtain ⟨a0, a1, a2, a3, a4, a5, a6, a7, a8, a9⟩ := HB.out w1 x1
  clear x1 HE
  go_wp2_with fail
  clear a0 a1 a2 a3 a4 a5 a6 a7 a8 a9
  go_loopw [41] (fun iv wr => ∃ k : Nat, k ≤ all.length ∧ iv = .int .i64 k ∧ Hid (Ext W wr)) (fun iv _ => all.length - (intOf iv).toNat)
  case atStart => exact ⟨0, Nat.zero_le _, rfl, X1⟩
  case round =>
    obtain ⟨k, hk, rfl, HX⟩ := hrel
    by_cases hlt : k < all.length
    · obtain ⟨ad, x, hA, hadb, hcx, hxx⟩ := slr_at HBO.out k hlt
      obtain ⟨ad', x', hA', hadb', hcx', hxx'⟩ := slr_at HQB.out k hlt
      subst hA hA' hxx hxx'
      have HS4 : Hid (∀ W2, Ext wr W2 → (Ext wr W2 ∧ W2.cell? ⟨w.heap.size, 1, none⟩ = some (.slice (some ad) all.length c1) ∧ W2.cell? ⟨w.heap.size + 1, 1, none⟩ = some (.slice (some ad') all.length d1) ∧ W2.cell? (ad.add k) = some (.bool all[k]) ∧ W2.cell? (ad'.add k) = some (.bool all[k]))) := Lib.hid (fun W2 hx2 =>
        ⟨hx2, (HB.out W2 (HX.out.trans hx2)).2.1, (HC.out W2 (HX.out.trans hx2)).2.1, ((HWX.out.trans (HX.out.trans hx2)).cell (p := ad.add k) (by rw [block_of_add]; exact hadb)).trans hcx, ((HWX.out.trans (HX.out.trans hx2)).cell (p := ad'.add k) (by rw [block_of_add]; exact hadb')).trans hcx'⟩)
      have hhl : (k : Int) < (all.length : Int) := by omega
      clear hcx hcx' hadb hadb'
      generalize all[k] = b at *
      have XN := Lib.hid (HX.out.drew)
      go_upto_region 6 with fail
      have hq := HS4.out _ ((Ext.refl wr).drew)
      go_region_held3 (fun W2 => Ext wr W2 ∧ W2.cell? ⟨w.heap.size, 1, none⟩ = some (.slice (some ad) all.length c1) ∧ W2.cell? ⟨w.heap.size + 1, 1, none⟩ = some (.slice (some ad') all.length d1) ∧ W2.cell? (ad.add k) = some (.bool b) ∧ W2.cell? (ad'.add k) = some (.bool b))
        (first | with_reducible exact hq)
        (fail)
      all_goals
        clear hq HS4
        cases b
        all_goals
          go_wp2_with fail
          go_roundw
          case rel => exact ⟨k + 1, by omega, by go_num, XN⟩
          case measure => simp [intOf]; omega
    · obtain ⟨w8, rfl⟩ : ∃ w8, w8 = wr := ⟨wr, rfl⟩
      obtain ⟨a0, a1, a2, a3, a4, a5, a6, a7, a8, a9⟩ := HB.out _ HX.out
      clear HBO HQB
      go_wp2_with fail
      clear a0 a1 a2 a3 a4 a5 a6 a7 a8 a9
      go_loopw [59] (fun iv wr => ∃ k : Nat, k ≤ nms.length ∧ iv = .int .i64 k ∧ Hid (Ext W wr)) (fun iv _ => nms.length - (intOf iv).toNat)
      case atStart => exact ⟨0, Nat.zero_le _, rfl, HX⟩
      case round =>
        obtain ⟨k, hk, rfl, HX⟩ := hrel
        by_cases hlt : k < nms.length
        · obtain ⟨ad, x, hA, hadb, hcx, hxx⟩ := slr_at HST.out k hlt
          obtain ⟨ad', x', hA', hadb', hcx', hxx'⟩ := slr_at HQS.out k hlt
          subst hA hA' hxx hxx'
          have HS4 : Hid (∀ W2, Ext wr W2 → (Ext wr W2 ∧ W2.cell? ⟨w.heap.size, 2, none⟩ = some (.slice (some ad) nms.length c2) ∧ W2.cell? ⟨w.heap.size + 1, 2, none⟩ = some (.slice (some ad') nms.length d2) ∧ W2.cell? (ad.add k) = some (.string nms[k]) ∧ W2.cell? (ad'.add k) = some (.string nms[k]))) := Lib.hid (fun W2 hx2 =>
            ⟨hx2, (HB.out W2 (HX.out.trans hx2)).2.2.1, (HC.out W2 (HX.out.trans hx2)).2.2.1, ((HWX.out.trans (HX.out.trans hx2)).cell (p := ad.add k) (by rw [block_of_add]; exact hadb)).trans hcx, ((HWX.out.trans (HX.out.trans hx2)).cell (p := ad'.add k) (by rw [block_of_add]; exact hadb')).trans hcx'⟩)
          have hhl : (k : Int) < (nms.length : Int) := by omega
          clear hcx hcx' hadb hadb'
          generalize nms[k] = s at *
          have XN := Lib.hid (HX.out.drew)
          go_upto_region 12 with fail
          have hq := HS4.out _ ((Ext.refl wr).drew)
          go_region_held3 (fun W2 => Ext wr W2 ∧ W2.cell? ⟨w.heap.size, 2, none⟩ = some (.slice (some ad) nms.length c2) ∧ W2.cell? ⟨w.heap.size + 1, 2, none⟩ = some (.slice (some ad') nms.length d2) ∧ W2.cell? (ad.add k) = some (.string s) ∧ W2.cell? (ad'.add k) = some (.string s))
            (first | with_reducible exact hq)
            (fail)
          all_goals
            go_wp2_with fail
            go_roundw
            case rel => exact ⟨k + 1, by omega, by go_num, XN⟩
            case measure => simp [intOf]; omega
        · have XF := Lib.hid (HWX.out.trans HX.out)
          go_wp2_with fail
          go_ret
          exact ⟨rfl, XF.out⟩
end Go.Proofs.YtkbpnppiadaibaaGreatDoor
