/- PrenexBack: for every prenex form the law answers true, and it reads as before. No condition but the listed tables, which this road never looks into. The row and the tied card. -/
import Derived.Test.YtaedbimbbeploaaGreatDoorMk46
import Derived.Test.YtaedbimbbeploaaGreatDoorFold
import Derived.Test.YtaedbimbbeploaaGreatDoorMk40
import Derived.Test.YtaedbimbbeploaaGreatDoorMk36
import Derived.Test.YtaedbimbbeploaaGreatDoorVPx
import Derived.Test.YtaedbimbbeploaaGreatDoorMk32
import Derived.Test.YtaedbimbbeploaaGreatDoorMk51
import Derived.Test.YtaedbimbbeploaaGreatDoorMk52
import Derived.Test.YtaedbimbbeploaaGreatDoorMk0
import Derived.WalkKit
import Derived.ProofKit
import Derived.OpenShut
import Derived.Below
import Derived.ChangeSame
import Derived.Test.YtaedbimbbeploaaGreatDoorRows
import Derived.Test.YtaedbimbbeploaaGreatDoorChecked
import Derived.LaidMore
import Derived.LaidLaws
import Derived.LaidHandle
import Derived.ChangeArms
import Derived.Test.YtaedbimbbeploaaGreatDoorCards
import Derived.Test.YtaedbimbbeploaaGreatDoorTie
import Derived.SevenTiedAt
set_option linter.unusedSimpArgs false
set_option linter.unusedVariables false

set_option maxRecDepth 100000
set_option maxHeartbeats 8000000
namespace Go.Proofs.YtaedbimbbeploaaGreatDoor
open Go.RowKit
theorem Fm.terms_all (f : Fm) : f.terms (fun _ => True) := by
 induction f <;> simp_all [Fm.terms]
def jcs (base : Nat) (er : Int) (all : List Bool) (nms : List ByteArray) (m : Mx) (w : World) (e : Ending) (w' : World) : Prop :=
 ∃ z0 U1 u1 k1 U2 u2 k2 z3 z4 z5 z6 U7 u7 k7 U8 u8 k8 U9 u9 k9, e = .returned (.tuple #[.agg #[.int .i64 z0, .slice U1 u1 k1, .slice U2 u2 k2, .int .i64 z3, .int .i64 z4, .int .i64 z5, .bool z6, .slice U7 u7 k7, .slice U8 u8 k8, .slice U9 u9 k9], .int .i64 er]) /\ Ext w w' /\
   (er = 0 -> PxV w' (fun b => base <= b) 0 all nms m (.agg #[.int .i64 z0, .slice U1 u1 k1, .slice U2 u2 k2, .int .i64 z3, .int .i64 z4, .int .i64 z5, .bool z6, .slice U7 u7 k7, .slice U8 u8 k8, .slice U9 u9 k9]) /\ zbf base (.agg #[.int .i64 z0, .slice U1 u1 k1, .slice U2 u2 k2, .int .i64 z3, .int .i64 z4, .int .i64 z5, .bool z6, .slice U7 u7 k7, .slice U8 u8 k8, .slice U9 u9 k9]))
theorem gco {w0 w : World} {all : List Bool} {nms : List ByteArray} {m : Mx} {fv : Value} (hal : all.length = nms.length) (hn : kz nms = true) (hlv : m.lvl <= (nms.length : Int)) (hsm : m.small) (hsz : m.sz <= 400) (base : Nat) (hbase : base <= w.heap.size) (hx : Ext w0 w) (hf : FmV w0 20 (toF 0 all nms (m.bodyF nms) nms.length) fv) :
 Calls Tryz.prog 13 #[fv] w (jcs base (toF 0 all nms (m.bodyF nms) nms.length).nmE all nms m.nrm.fold w) /\ ((toF 0 all nms (m.bodyF nms) nms.length).nmE = 0 \/ (toF 0 all nms (m.bodyF nms) nms.length).nmE = 8) /\ (toF 0 all nms (m.bodyF nms) nms.length).free = [] /\ (toF 0 all nms (m.bodyF nms) nms.length).bound = nms /\ (toF 0 all nms (m.bodyF nms) nms.length).sz <= 1099511627776 /\ ((toF 0 all nms (m.bodyF nms) nms.length).nmE = 0 -> m.nrm.fold.sz <= 1000000 /\ m.nrm.fold.each (fun r => r.sz <= 1099511627776)) := by
 have h4 : nms.length <= 4 := (of_decide_eq_true (show decide _ = true from hn)).1;have hd := (of_decide_eq_true (show decide _ = true from hn)).2;obtain ⟨hfl, hfs⟩ := wb6 (P := fun s => ∃ k, k < nms.length /\ s = nms.getD k ByteArray.empty) (nms := nms) (fun k hk => ⟨k, hk, rfl⟩) (m.sz + 1) m (Nat.lt_succ_self _) hsm hlv;obtain ⟨hb0, hi0⟩ := Fm.flat_bound _ hfl;have hfree := jbf (all := all) hal hfl;have hbound := waw (all := all) hal hb0 nms.length (Nat.le_refl _);rw [Nat.sub_self, List.drop_zero] at hbound;obtain ⟨hno, hfz⟩ := ka3 (all := all) (nms := nms) (f := m.bodyF nms) nms.length;have hnm := gcj (all := all) hal hn hfl;have hmat : jd (toF 0 all nms (m.bodyF nms) nms.length) true (toF 0 all nms (m.bodyF nms) nms.length).st = (m.nrm.fold, stK all nms nms.length) := by
  have h1 : (toF 0 all nms (m.bodyF nms) nms.length).st = stK all nms (nms.length - nms.length) := by
   unfold Fm.st stK;rw [hfree, Nat.sub_self]
   rfl
  rw [h1, wbz hal _ _ (Nat.le_refl _)];exact uch (fun k hk => ybk (fun i h => (hd i h).2) nms.length (Nat.le_refl _) k hk) (m.sz + 1) m (Nat.lt_succ_self _) hlv
 have hst : (stK all nms nms.length).all = all /\ (stK all nms nms.length).names = nms := by
  unfold stK;exact ⟨by show all.take nms.length = all; rw [<- hal, List.take_length], by show nms.take nms.length = nms; rw [List.take_length]⟩
 have hz : (toF 0 all nms (m.bodyF nms) nms.length).sz <= 1099511627776 := by omega
 refine ⟨?_, hnm, hfree, hbound, hz, fun h0 => ?_⟩;rotate_left
 · have h1 := ycm (toF 0 all nms (m.bodyF nms) nms.length) true (toF 0 all nms (m.bodyF nms) nms.length).st;have h2 := vcd (toF 0 all nms (m.bodyF nms) nms.length) ub7 true (toF 0 all nms (m.bodyF nms) nms.length).st (Fm.chk_light _ h0);rw [hmat] at h1 h2;exact ⟨by have h1' : m.nrm.fold.sz <= (toF 0 all nms (m.bodyF nms) nms.length).sz := h1; omega, Mx.each_mono (fun p hp => hp.2.1) _ h2⟩
 rcases hnm with h0 | h8
 · refine (ub3 (P := fun _ => True) (by omega) _ hx hf hz (by rw [hno]; exact hi0) h0 (Fm.chk_light _ h0) (by rw [hfree, hbound, List.length_nil]; omega) (fun w gb bl t _ g => vb6 (by omega) t) (Fm.terms_all _)).mono ?_;rintro e w' ⟨u, rfl, hx', hp, ho⟩;rw [hmat, hfree] at hp;simp only [hst.1, hst.2, List.length_nil] at hp;obtain ⟨A1, c1, A2, c2, A0, n0, c0, B, n1, c3, K, n2, c4, rfl, -⟩ := id hp;rw [h0];refine ⟨_, _, _, _, _, _, _, _, _, _, _, _, _, _, _, _, _, _, _, _, rfl, hx', fun _ => ⟨?_, ?_⟩⟩
   · obtain ⟨A1, c1, A2, c2, A0, n0, c0, B, n1, c3, K, n2, c4, e, g1, g2, g3⟩ := hp;exact ⟨A1, c1, A2, c2, A0, n0, c0, B, n1, c3, K, n2, c4, e, g1, g2, g3.mono (fun b hb => Nat.le_trans hbase hb)⟩
   · obtain ⟨x0, B1, m1, d1, B2, m2, d2, x3, x4, x5, x6, x7, x8, x9, e, g1, g2⟩ := ho;exact ⟨x0, B1, m1, d1, B2, m2, d2, x3, x4, x5, x6, x7, x8, x9, e, fun ad h1 h2 => Nat.le_trans hbase (g1 ad h1 h2), fun ad h1 h2 => Nat.le_trans hbase (g2 ad h1 h2)⟩
 · refine (ycr (by omega) _ hx hf hz (by omega)).mono ?_;rintro e w' ⟨rfl, hx'⟩;rw [h8];exact ⟨0, none, 0, 0, none, 0, 0, 0, 0, 0, false, none, 0, 0, none, 0, 0, none, 0, 0, rfl, hx', fun h => absurd h (by decide)⟩
theorem gb7 {w5 w7 w9 : World} {base g : Nat} (hx : Ext w5 w7) (hs : w7.heap.size <= w9.heap.size) (hnat : ∀ x ds, jb w7 x ds -> jb w9 x ds) (hblk : ∀ b, b ≠ g -> w9.heap[b]? = w7.heap[b]?) (hg : g < base) {all : List Bool} {nms : List ByteArray} {m : Mx} {u : Value} (hp : PxV w5 (fun b => base <= b) 0 all nms m u) (ho : zbf base u) : PxV w9 (fun b => base <= b) 0 all nms m u := by
 obtain ⟨A1, c1, A2, c2, A0, n0, c0, B, n1, c3, K, n2, c4, rfl, i1, i2, i3⟩ := hp;obtain ⟨x0, F1, m1, p1, F2, m2, p2, x3, x4, x5, x6, x7, x8, x9, e, o1, o2⟩ := ho;unfold pxC at e;cases e;refine ⟨A1, c1, A2, c2, A0, n0, c0, B, n1, c3, K, n2, c4, rfl, SlR.turn (SlR.ext i1 (fun _ _ h => h) hx) hs (fun ad h1 h2 => hblk _ ?_), SlR.turn (SlR.ext i2 (fun _ _ h => h) hx) hs (fun ad h1 h2 => hblk _ ?_), MxV.turn_ hs hnat (fun b _ hq => ⟨hq, hblk b ?_⟩) (i3.ext hx)⟩
 · have := o1 ad h1 h2; omega
 · have := o2 ad h1 h2; omega
 · have h : base <= b := hq;omega
theorem qbp {w : World} {q : Nat -> Prop} {fr : Int} {all : List Bool} {nms : List ByteArray} {m : Mx} {v : Value} (h : PxV w q fr all nms m v) (hfr : fr <= 9223372036854775807) : Calls Tryz.prog 5 #[v] w (wah true w) := by
 have HPX := Lib.hid h;obtain ⟨A1, c1, A2, c2, A0, n0, c0, B, n1, c3, K, n2, c4, rfl, hb1, hs1, hm1⟩ := h;have HBO := Lib.hid hb1;have HST := Lib.hid hs1;have HMX := Lib.hid hm1;clear hb1 hs1 hm1;unfold pxC at HPX;unfold pxC;unfold mxV at HMX;obtain ⟨W, hW⟩ : ∃ W, (w.alloc (.cells #[.int .i64 fr, .slice A1 all.length c1, .slice A2 nms.length c2, .int .i64 m.kind, .int .i64 m.rel, .int .i64 m.p.lv, .bool m.p.neg, .slice A0 n0 c0, .slice B n1 c3, .slice K n2 c4] 47)) = W := ⟨_, rfl⟩;obtain ⟨hWx, hWs, a0, a1, a2, a3, a4, a5, a6, a7, a8, a9⟩ := gas w _ _ _ _ _ _ _ _ _ _ _ W hW;have HWX := Lib.hid hWx;have hfz : ∀ i, W.frozen? ⟨w.heap.size, i, none⟩ = false := fun i => by rw [<- hW]; simp [go_sem]
 have HFZ := Lib.hid hfz;have HB : Hid (∀ wr, Ext W wr -> wr.cell? ⟨w.heap.size, 0, none⟩ = some (.int .i64 fr) /\ wr.cell? ⟨w.heap.size, 1, none⟩ = some (.slice A1 all.length c1) /\ wr.cell? ⟨w.heap.size, 2, none⟩ = some (.slice A2 nms.length c2) /\ wr.cell? ⟨w.heap.size, 3, none⟩ = some (.int .i64 m.kind) /\ wr.cell? ⟨w.heap.size, 4, none⟩ = some (.int .i64 m.rel) /\ wr.cell? ⟨w.heap.size, 5, none⟩ = some (.int .i64 m.p.lv) /\ wr.cell? ⟨w.heap.size, 6, none⟩ = some (.bool m.p.neg) /\ wr.cell? ⟨w.heap.size, 7, none⟩ = some (.slice A0 n0 c0) /\ wr.cell? ⟨w.heap.size, 8, none⟩ = some (.slice B n1 c3) /\ wr.cell? ⟨w.heap.size, 9, none⟩ = some (.slice K n2 c4)) := Lib.hid (by
  intro wr hxx;have k : ∀ j, wr.cell? ⟨w.heap.size, j, none⟩ = W.cell? ⟨w.heap.size, j, none⟩ := fun j => hxx.cell (p := ⟨w.heap.size, j, none⟩) (by show w.heap.size < _; omega)
  exact ⟨(k 0).trans a0, (k 1).trans a1, (k 2).trans a2, (k 3).trans a3, (k 4).trans a4, (k 5).trans a5, (k 6).trans a6, (k 7).trans a7, (k 8).trans a8, (k 9).trans a9⟩)
 clear hWx a0 a1 a2 a3 a4 a5 a6 a7 a8 a9 hfz;go_enter Tryz.func5, Tryz.ntmps5;go_wp2_with fail;clear hW;refine (qan _).mono ?_;rintro e w1 ⟨rfl, x1⟩;have X1 := Lib.hid x1;have HFE := Lib.hid (xcg 40 (by omega) (HPX.out.ext (HWX.out.trans x1)));obtain ⟨a0, a1, a2, a3, a4, a5, a6, a7, a8, a9⟩ := HB.out w1 x1;clear x1;go_wp2_with fail;clear a0 a1 a2 a3 a4 a5 a6 a7 a8 a9;refine HFE.out.mono ?_;rintro e w2 ⟨rfl, x2⟩;have X2 := Lib.hid (X1.out.trans x2);clear x2 HFE
 by_cases hf : jah all nms m 40 = true
 case neg =>
  rw [show jah all nms m 40 = false by simpa using hf];clear hf;go_wp2_with fail;refine (qan _).mono ?_;rintro e w9 ⟨rfl, x9⟩;have X9 := Lib.hid (HWX.out.trans (X2.out.trans x9));clear x9;go_wp2_with fail;go_ret;exact ⟨rfl, X9.out⟩
 rw [hf];have hff : (nms.length <= 8 /\ all.length <= 8) /\ m.few 40 = true := by
  unfold jah at hf;simp only [Bool.and_eq_true, decide_eq_true_eq] at hf;exact ⟨⟨hf.1.1, hf.2.1⟩, hf.2.2⟩
 obtain ⟨⟨hnl, hal8⟩, hfm⟩ := hff;obtain ⟨hsz, hsm⟩ := Mx.few_le hfm;have HRV := Lib.hid (fun W' (hx : Ext W W') => kb9 (by omega) hsm (HPX.out.ext (HWX.out.trans hx)));obtain ⟨a0, a1, a2, a3, a4, a5, a6, a7, a8, a9⟩ := HB.out w2 X2.out;clear hf hfm;go_wp2_with fail;clear a0 a1 a2 a3 a4 a5 a6 a7 a8 a9;refine (HRV.out _ X2.out).mono ?_;rintro e w3 ⟨rfl, x3⟩;have X3 := Lib.hid (X2.out.trans x3);obtain ⟨a0, a1, a2, a3, a4, a5, a6, a7, a8, a9⟩ := HB.out w3 X3.out;clear x3 HRV
 by_cases hv : yl fr all nms m = true
 case neg =>
  rw [show yl fr all nms m = false by simpa using hv];clear hv a0 a1 a2 a3 a4 a5 a6 a7 a8 a9;go_wp2_with fail;refine (qan _).mono ?_;rintro e w9 ⟨rfl, x9⟩;have X9 := Lib.hid (HWX.out.trans (X3.out.trans x9));clear x9;go_wp2_with fail;go_ret;exact ⟨rfl, X9.out⟩
 obtain ⟨⟨f0, hf0, hsum⟩, hlv, hn4⟩ := ga5 hv hfr (by omega);have hnb : kz nms = true := by
  unfold yl at hv;simp only [Bool.and_eq_true] at hv;exact hv.1
 by_cases hf1 : fr <= 0
 case neg =>
  have hd0 : decide ((0 : Int) < fr) = true := decide_eq_true (by omega);rw [hv];clear hv hf1 hf0 hsum;go_wp2_with fail;refine (qan _).mono ?_;rintro e w9 ⟨rfl, x9⟩;have X9 := Lib.hid (HWX.out.trans (X3.out.trans x9));clear x9;go_wp2_with fail;go_ret;exact ⟨rfl, X9.out⟩
 obtain rfl : fr = 0 := by omega
 have hal : all.length = nms.length := by omega
 have hd0 : decide ((0 : Int) < 0) = false := rfl;have HTO := Lib.hid (wck (L := 20) (by omega) (by omega) hsm hfr (by omega) (HPX.out.ext (HWX.out.trans X3.out)));have HV := Lib.hid hv;have HALL := Lib.hid (fun (wf w' : World) (fv : Value) (hx : Ext wf w') (hf : FmV wf 20 (toF 0 all nms (m.bodyF nms) nms.length) fv) => gco hal hnb hlv hsm (by omega) wf.heap.size hx.size hx hf);rw [hv];rw [hal] at HPX HB HTO HBO;clear hv hf0 hsum hf1 hfr;go_wp2_with fail;clear a0 a1 a2 a3 a4 a5 a6 a7 a8 a9 hd0;refine HTO.out.mono ?_;rintro e w4 (⟨-, fv, rfl, hf, x4⟩ | ⟨hv0, rfl, x4⟩)
 case inr => rw [HV.out] at hv0; cases hv0
 have X4 := Lib.hid (X3.out.trans x4);obtain ⟨FT, fx, rfl⟩ := hf.iface;have HFV : Hid (FmV w4 20 (toF 0 all nms (m.bodyF nms) nms.length) (.iface FT fx)) := Lib.hid (by
  have h1 := hf;rw [hal] at h1
  exact h1)
 have HAF := Lib.hid (fun w' (hx : Ext w4 w') => (HALL.out w4 w' _ hx HFV.out).1);obtain ⟨hnm, hfree, hbound, hfz, hbig⟩ := (HALL.out w4 w4 _ (Ext.refl w4) HFV.out).2;have HBIG := Lib.hid hbig;have HFR := Lib.hid (fun (w' : World) => xa5 (w0 := w4) (w := w') _ HFV.out hfz);have HBN := Lib.hid (fun (w' : World) => zaz (w0 := w4) (w := w') _ HFV.out hfz);rw [hfree] at HFR;rw [hbound] at HBN;have HMX4 := Lib.hid (HMX.out.ext (HWX.out.trans X4.out));have HBO4 := Lib.hid (SlR.ext HBO.out (fun _ _ h => h) (HWX.out.trans X4.out));have HST4 := Lib.hid (SlR.ext HST.out (fun _ _ h => h) (HWX.out.trans X4.out));have hs4 := X4.out.size;clear hf x4 hfree hbound hfz hbig HTO HALL HFV hnb hn4;generalize (toF 0 all nms (m.bodyF nms) nms.length).nmE = er at *;have hnel : (((nms.length : Nat) : Int) != ((nms.length : Nat) : Int)) = false := by simp
 have HSS : Hid (∀ W', Ext w4 W' -> (Ext w4 W' /\ W'.cell? ⟨w.heap.size, 1, none⟩ = some (.slice A1 nms.length c1))) := Lib.hid (fun W' hx => ⟨hx, (HB.out W' (X4.out.trans hx)).2.1⟩);have yy : Ext w4 w4.drew := (Ext.refl w4).drew;have Y0 := Lib.hid yy;clear yy;go_upto_region 4 with fail
 go_region_held3 (fun W' => Ext w4 W' /\ W'.cell? ⟨w.heap.size, 1, none⟩ = some (.slice A1 nms.length c1))
  (first | with_reducible exact HSS.out _ Y0.out | with_reducible exact HSS.out _ y1 | with_reducible exact HSS.out _ y2)
  ((first
    | (go_at_call 29
       refine (HFR.out _).mono ?_;rintro e v1 ⟨s1, rfl, r1, x1'⟩;obtain ⟨FA, fc, rfl⟩ := r1.slr.len;have y1 : Ext w4 v1 := Y0.out.trans x1';simp only [List.length_nil]
       clear r1 x1')
    | (go_at_call 30
       refine (HBN.out _).mono ?_;rintro e v2 ⟨s2, rfl, r2, x2'⟩;obtain ⟨BA, bc, rfl⟩ := r2.slr.len;have y2 : Ext w4 v2 := Ext.trans y1 x2'
       clear r2 x2')))
 all_goals
  have Y2 := Lib.hid y2;clear y1 y2;go_wp2_with fail;refine (HAF.out _ Y2.out).mono ?_;rintro e w5 ⟨z0, U1, u1, k1, U2, u2, k2, z3, z4, z5, z6, U7, u7, k7, U8, u8, k8, U9, u9, k9, rfl, x5, hu⟩;have HU := Lib.hid hu;have X5 := Lib.hid (Y2.out.trans x5);obtain ⟨V, hV⟩ : ∃ V, (w5.alloc (.cells #[.int .i64 z0, .slice U1 u1 k1, .slice U2 u2 k2, .int .i64 z3, .int .i64 z4, .int .i64 z5, .bool z6, .slice U7 u7 k7, .slice U8 u8 k8, .slice U9 u9 k9] 47)) = V := ⟨_, rfl⟩;obtain ⟨hVx, hVs, t0, t1, t2, t3, t4, t5, t6, t7, t8, t9⟩ := gas w5 _ _ _ _ _ _ _ _ _ _ _ V hV;have XV := Lib.hid (X4.out.trans (X5.out.trans hVx));have hs5 := X5.out.size;obtain ⟨a0, a1, a2, a3, a4, a5, a6, a7, a8, a9⟩ := HB.out V XV.out;have hVs5 := hVx.size;have HMV := Lib.hid (HMX4.out.ext (X5.out.trans hVx));obtain ⟨mf, hmf⟩ : ∃ mf, m.nrm.fold = mf := ⟨_, rfl⟩;have HFO := Lib.hid (fun (w' : World) (v : Value) (h : MxV w' (fun b => V.heap.size <= b) m.nrm v) => gcf m.nrm v w' (by have := m.nrm_sz; omega) h);rw [hmf] at HFO HU HBIG;have HT : Hid (∀ w' : World, w'.heap[w5.heap.size]? = V.heap[w5.heap.size]? -> w'.cell? ⟨w5.heap.size, 0, none⟩ = some (.int .i64 z0) /\ w'.cell? ⟨w5.heap.size, 1, none⟩ = some (.slice U1 u1 k1) /\ w'.cell? ⟨w5.heap.size, 2, none⟩ = some (.slice U2 u2 k2) /\ w'.cell? ⟨w5.heap.size, 3, none⟩ = some (.int .i64 z3) /\ w'.cell? ⟨w5.heap.size, 4, none⟩ = some (.int .i64 z4) /\ w'.cell? ⟨w5.heap.size, 5, none⟩ = some (.int .i64 z5) /\ w'.cell? ⟨w5.heap.size, 6, none⟩ = some (.bool z6) /\ w'.cell? ⟨w5.heap.size, 7, none⟩ = some (.slice U7 u7 k7) /\ w'.cell? ⟨w5.heap.size, 8, none⟩ = some (.slice U8 u8 k8) /\ w'.cell? ⟨w5.heap.size, 9, none⟩ = some (.slice U9 u9 k9)) := Lib.hid (by
   intro w' h;have k : ∀ j, w'.cell? ⟨w5.heap.size, j, none⟩ = V.cell? ⟨w5.heap.size, j, none⟩ := fun j => World.cell?_of_block (a := ⟨w5.heap.size, j, none⟩) h
   exact ⟨(k 0).trans t0, (k 1).trans t1, (k 2).trans t2, (k 3).trans t3, (k 4).trans t4, (k 5).trans t5, (k 6).trans t6, (k 7).trans t7, (k 8).trans t8, (k 9).trans t9⟩)
  have HVX := Lib.hid hVx;clear hmf hu x5 hVx;go_wp2_with fail;clear hV a0 a1 a2 a3 a4 a5 a6 a7 a8 a9 t0 t1 t2 t3 t4 t5 t6 t7 t8 t9;refine (gbc m _ V (by omega) hsm HMV.out).mono ?_;rintro e w6 ⟨v6, rfl, m6, x6⟩;obtain ⟨C0, j0, f0', C1, j1, f1, C2, f2, rfl, -⟩ := id m6.open_;have HF6 := Lib.hid (HFO.out w6 _ m6);have X6 := Lib.hid x6;obtain ⟨a0, a1, a2, a3, a4, a5, a6, a7, a8, a9⟩ := HB.out w6 (XV.out.trans x6);clear m6 x6 HFO HMV;unfold mxV at HF6 ⊢;go_wp2_with fail;clear a0 a1 a2 a3 a4 a5 a6 a7 a8 a9;refine HF6.out.mono ?_;rintro e w7 ⟨v7, rfl, m7, x7⟩;obtain ⟨P0, l0, h0, P, l1, h1, R, h2, rfl, -⟩ := id m7.open_;obtain ⟨l2, hl2⟩ : ∃ l2, mf.ks.length = l2 := ⟨_, rfl⟩;rw [hl2] at m7 ⊢;have hxw7 : Ext W w7 := XV.out.trans (X6.out.trans x7);obtain ⟨a0, a1, a2, a3, a4, a5, a6, a7, a8, a9⟩ := HB.out w7 hxw7;have frz : ∀ i, w7.frozen? ⟨w.heap.size, i, none⟩ = false := fun i => (hxw7.frozen (p := ⟨w.heap.size, i, none⟩) (by show w.heap.size < _; omega)).trans (HFZ.out i)
  obtain ⟨W9, hW9⟩ : ∃ W9, (((((((w7.setCell ⟨w.heap.size, 3, none⟩ (.int .i64 mf.kind)).setCell ⟨w.heap.size, 4, none⟩ (.int .i64 mf.rel)).setCell ⟨w.heap.size, 5, none⟩ (.int .i64 mf.p.lv)).setCell ⟨w.heap.size, 6, none⟩ (.bool mf.p.neg)).setCell ⟨w.heap.size, 7, none⟩ (.slice P0 l0 h0)).setCell ⟨w.heap.size, 8, none⟩ (.slice P l1 h1)).setCell ⟨w.heap.size, 9, none⟩ (.slice R l2 h2)) = W9 := ⟨_, rfl⟩;have hX9 : Ext w W9 := by
   rw [<- hW9];exact jal (Nat.le_refl _) [.int .i64 mf.kind, .int .i64 mf.rel, .int .i64 mf.p.lv, .bool mf.p.neg, .slice P0 l0 h0, .slice P l1 h1, .slice R l2 h2] 3 w7 (HWX.out.trans hxw7)
  have hblk : ∀ b, b ≠ w.heap.size -> W9.heap[b]? = w7.heap[b]? := fun b hb => by
   rw [<- hW9];exact zaj hb [.int .i64 mf.kind, .int .i64 mf.rel, .int .i64 mf.p.lv, .bool mf.p.neg, .slice P0 l0 h0, .slice P l1 h1, .slice R l2 h2] 3 w7
  have hsz9 : W9.heap.size = w7.heap.size := by
   rw [<- hW9];exact size_setCells [.int .i64 mf.kind, .int .i64 mf.rel, .int .i64 mf.p.lv, .bool mf.p.neg, .slice P0 l0 h0, .slice P l1 h1, .slice R l2 h2] 3 w7
  have hnat : ∀ x ds, jb w7 x ds -> jb W9 x ds := by
   rw [<- hW9];exact vao w.heap.size [.int .i64 mf.kind, .int .i64 mf.rel, .int .i64 mf.p.lv, .bool mf.p.neg, .slice P0 l0 h0, .slice P l1 h1, .slice R l2 h2] 3 w7 (fun j hj => by
    simp only [List.length_cons, List.length_nil] at hj;rcases (show j = 0 \/ j = 1 \/ j = 2 \/ j = 3 \/ j = 4 \/ j = 5 \/ j = 6 by omega) with rfl | rfl | rfl | rfl | rfl | rfl | rfl
    · exact ⟨_, a3, rfl⟩
    · exact ⟨_, a4, rfl⟩
    · exact ⟨_, a5, rfl⟩
    · exact ⟨_, a6, rfl⟩
    · exact ⟨_, a7, rfl⟩
    · exact ⟨_, a8, rfl⟩
    · exact ⟨_, a9, rfl⟩)
  have r0 : W9.cell? ⟨w.heap.size, 0, none⟩ = some (.int .i64 0) := by
   rw [<- hW9]
   iterate 7 rw [World.cell?_setCell_other _ _ _ _ (by simp)]
   exact a0
  have r1 : W9.cell? ⟨w.heap.size, 1, none⟩ = some (.slice A1 nms.length c1) := by
   rw [<- hW9]
   iterate 7 rw [World.cell?_setCell_other _ _ _ _ (by simp)]
   exact a1
  have r2 : W9.cell? ⟨w.heap.size, 2, none⟩ = some (.slice A2 nms.length c2) := by
   rw [<- hW9]
   iterate 7 rw [World.cell?_setCell_other _ _ _ _ (by simp)]
   exact a2
  have r3 : W9.cell? ⟨w.heap.size, 3, none⟩ = some (.int .i64 mf.kind) := by
   rw [<- hW9]
   iterate 6 rw [World.cell?_setCell_other _ _ _ _ (by simp)]
   exact World.cell?_setCell_same _ _ _ a3
  have r4 : W9.cell? ⟨w.heap.size, 4, none⟩ = some (.int .i64 mf.rel) := by
   rw [<- hW9]
   iterate 5 rw [World.cell?_setCell_other _ _ _ _ (by simp)]
   refine World.cell?_setCell_same _ _ _ (u := .int .i64 m.rel) ?_
   iterate 1 rw [World.cell?_setCell_other _ _ _ _ (by simp)]
   exact a4
  have r5 : W9.cell? ⟨w.heap.size, 5, none⟩ = some (.int .i64 mf.p.lv) := by
   rw [<- hW9]
   iterate 4 rw [World.cell?_setCell_other _ _ _ _ (by simp)]
   refine World.cell?_setCell_same _ _ _ (u := .int .i64 m.p.lv) ?_
   iterate 2 rw [World.cell?_setCell_other _ _ _ _ (by simp)]
   exact a5
  have r6 : W9.cell? ⟨w.heap.size, 6, none⟩ = some (.bool mf.p.neg) := by
   rw [<- hW9]
   iterate 3 rw [World.cell?_setCell_other _ _ _ _ (by simp)]
   refine World.cell?_setCell_same _ _ _ (u := .bool m.p.neg) ?_
   iterate 3 rw [World.cell?_setCell_other _ _ _ _ (by simp)]
   exact a6
  have r7 : W9.cell? ⟨w.heap.size, 7, none⟩ = some (.slice P0 l0 h0) := by
   rw [<- hW9]
   iterate 2 rw [World.cell?_setCell_other _ _ _ _ (by simp)]
   refine World.cell?_setCell_same _ _ _ (u := .slice A0 n0 c0) ?_
   iterate 4 rw [World.cell?_setCell_other _ _ _ _ (by simp)]
   exact a7
  have r8 : W9.cell? ⟨w.heap.size, 8, none⟩ = some (.slice P l1 h1) := by
   rw [<- hW9]
   iterate 1 rw [World.cell?_setCell_other _ _ _ _ (by simp)]
   refine World.cell?_setCell_same _ _ _ (u := .slice B n1 c3) ?_
   iterate 5 rw [World.cell?_setCell_other _ _ _ _ (by simp)]
   exact a8
  have r9 : W9.cell? ⟨w.heap.size, 9, none⟩ = some (.slice R l2 h2) := by
   rw [<- hW9];refine World.cell?_setCell_same _ _ _ (u := .slice K n2 c4) ?_
   iterate 6 rw [World.cell?_setCell_other _ _ _ _ (by simp)]
   exact a9
  have hs6 := X6.out.size;have hs7 := x7.size;have HT9 := Lib.hid (HT.out W9 ((hblk _ (by omega)).trans (((X6.out.trans x7).below.block _ (by omega)))));have HEQ : Hid (er = 0 -> Calls Tryz.prog 14 #[.agg #[.int .i64 0, .slice A1 nms.length c1, .slice A2 nms.length c2, .int .i64 mf.kind, .int .i64 mf.rel, .int .i64 mf.p.lv, .bool mf.p.neg, .slice P0 l0 h0, .slice P l1 h1, .slice R l2 h2], .agg #[.int .i64 z0, .slice U1 u1 k1, .slice U2 u2 k2, .int .i64 z3, .int .i64 z4, .int .i64 z5, .bool z6, .slice U7 u7 k7, .slice U8 u8 k8, .slice U9 u9 k9]] W9 (wah true W9)) := Lib.hid (fun he => by
   obtain ⟨hp, ho⟩ := HU.out he;obtain ⟨hb1, hb2⟩ := HBIG.out he;refine xbq (fr := 0) (all := all) (nms := nms) (m := mf) (q1 := fun b => V.heap.size <= b) (q2 := fun b => w4.heap.size <= b) hb1 hb2 ?_ ?_
   · refine ⟨A1, c1, A2, c2, P0, l0, h0, P, l1, h1, R, l2, h2, by unfold pxC; rw [hal], by rw [hal]; exact SlR.ext HBO.out (fun _ _ h => h) hX9, SlR.ext HST.out (fun _ _ h => h) hX9, MxV.turn_ (by omega) hnat (fun b _ hq => ⟨?_, hblk b ?_⟩) m7⟩
     · rcases hq with h | h
       · exact h.1
       · exact Nat.le_trans hs6 h
     · rcases hq with h | h
       · have := h.1; omega
       · have : w6.heap.size <= b := h; omega
   · exact gb7 (HVX.out.trans (X6.out.trans x7)) (by omega) hnat hblk (by omega) hp ho)
  have HX9 := Lib.hid hX9;have hC := And.intro r0 (And.intro r1 (And.intro r2 (And.intro r3 (And.intro r4 (And.intro r5 (And.intro r6 (And.intro r7 (And.intro r8 r9))))))));have HC9 := Lib.hid hC;clear hC r0 r1 r2 r3 r4 r5 r6 r7 r8 r9 m7 hblk hsz9 hnat hX9 hxw7 hl2 HU HBIG x7 HF6;unfold mxV;rcases hnm with rfl | rfl
  · have HE := Lib.hid (HEQ.out rfl);obtain ⟨t0, t1, t2, t3, t4, t5, t6, t7, t8, t9⟩ := HT9.out;obtain ⟨r0, r1, r2, r3, r4, r5, r6, r7, r8, r9⟩ := HC9.out;clear HEQ;go_wp2_with fail;refine HE.out.mono ?_;rintro e w10 ⟨rfl, x10⟩;go_wp2_with fail;go_ret;exact ⟨rfl, HX9.out.trans x10⟩
  · clear HEQ HT9 HC9;go_wp2_with fail;go_ret;exact ⟨rfl, HX9.out⟩
end Go.Proofs.YtaedbimbbeploaaGreatDoor

/- Reading the arguments: a prenex form that came in. -/
set_option maxRecDepth 100000
set_option maxHeartbeats 8000000
namespace Go.Proofs.YtaedbimbbeploaaGreatDoor
open Go.ChangeShapes Go.WideShapes Go.RowKit
section
variable {H : Type} {enc : TypeId × Value -> H} {w : World} {sp : Nat -> Bool} {held : Bool}
theorem za1 {α : Type} {P : α -> Value -> Prop} {S T : TypeId} (dflt : α) (hS : Tryz.prog.underlying S = some (.slice T)) (hk : Tryz.prog.cellsOf T = 1)
 (hel : ∀ (fuel : Nat) (cs : List Value) (x : DataW H × List MemPlace), DataW.trod enc Tryz.prog w 0 sp held fuel T cs = some x -> ∃ a v, cs = [v] /\ P a v)
 {fuel : Nat} {cs : List Value} {x : DataW H × List MemPlace} (h : DataW.trod enc Tryz.prog w 0 sp held fuel S cs = some x) : ∃ (l : List α) (A : Option Addr) (c : Nat), cs = [.slice A l.length c] /\ SlR (fun _ => P) w (.slice A l.length c) l := by
 rcases DataW.trod_slice hS h with ⟨e8, -⟩ | ⟨a, len, cap, elems, rest, n', hfu, e8, -, -, hlc, hcm, hel', hat, -⟩
 · exact ⟨[], none, 0, e8, none, 0, rfl, by simp, by omega, fun j hj => absurd hj (by simp)⟩
 · rw [hk] at hat;have each : ∀ i : Nat, ∃ t : α, i < len -> ∃ v, w.cell? (a.add i) = some v /\ a.block < w.heap.size /\ P t v := by
    intro i
    by_cases hi : i < len
    · have h1 := hat i hi;rw [List.getElem?_eq_getElem (by omega), Nat.mul_one] at h1;obtain ⟨cs', hc, ht⟩ := Option.bind_eq_some_iff.1 h1;obtain ⟨t, v, rfl, hp⟩ := hel n' cs' _ ht;have c0 := (World.cells?_some hc).2.2 0 (by omega);rw [yao] at c0;have h3 := cell_lt c0;rw [ja] at h3;exact ⟨t, fun _ => ⟨v, c0, h3, hp⟩⟩
    · exact ⟨dflt, fun h => absurd h hi⟩
   refine ⟨(List.range len).map (fun i => Classical.choose (each i)), some a, cap, by simpa using e8, some a, cap, rfl, by simpa using hlc, by unfold maxLen at hcm; omega, fun j hj => ?_⟩;simp only [List.length_map, List.length_range] at hj;obtain ⟨v, h1, h2, h3⟩ := Classical.choose_spec (each j) hj;simp only [List.getElem_map, List.getElem_range];exact ⟨a, v, rfl, h2, h1, h3⟩
theorem vct {α : Type} {l : List α} (h : l.length = 10) : ∃ a b c d e f g i j k, l = [a, b, c, d, e, f, g, i, j, k] := by
 cases l with
 | nil => simp at h
 | cons x r =>
   obtain ⟨a, b, c, d, e, f, g, i, j, rfl⟩ := zcu (l := r) (by simpa using h);exact ⟨x, a, b, c, d, e, f, g, i, j, rfl⟩
theorem ybj {r : Reach} {b0 : Nat} {v : Value} {d : DataW H} {ps : List MemPlace} (hval : Value.okWide Tryz.prog w r b0 47 v) (h : DataW.Trod enc Tryz.prog w 0 sp held 47 v d ps) : ∃ fr all nms m, PxV w (fun _ => True) fr all nms m v /\ fr <= 9223372036854775807 := by
 obtain ⟨fuel, h⟩ := h;simp only [Value.okWide, Tryz.underlying47] at hval;obtain ⟨cs, rfl, -⟩ := hval;obtain ⟨xs, n, rfl, -, hl, hx, hf⟩ := DataW.trod_struct Tryz.underlying47 h;have hk : Tryz.prog.cellsOf 47 = 10 := by kernel_rfl
 have hx2 : xs.length = 4 := hx;obtain ⟨x0, x1, x2, x3, rfl⟩ := xba hx2;have hl2 : cs.toList.length = 10 := hl.trans hk;obtain ⟨c0, c1, c2, c3, c4, c5, c6, c7, c8, c9, hcs⟩ := vct hl2;obtain rfl : cs = #[c0, c1, c2, c3, c4, c5, c6, c7, c8, c9] := Array.toList_inj.1 hcs;have f0 : DataW.trod enc Tryz.prog w 0 sp held n 3 ((List.drop 0 [c0, c1, c2, c3, c4, c5, c6, c7, c8, c9]).take (Tryz.prog.cellsOf 3)) = some x0 := hf 0 _ rfl;have f1 : DataW.trod enc Tryz.prog w 0 sp held n 38 ((List.drop 1 [c0, c1, c2, c3, c4, c5, c6, c7, c8, c9]).take (Tryz.prog.cellsOf 38)) = some x1 := hf 1 _ rfl;have f2 : DataW.trod enc Tryz.prog w 0 sp held n 39 ((List.drop 2 [c0, c1, c2, c3, c4, c5, c6, c7, c8, c9]).take (Tryz.prog.cellsOf 39)) = some x2 := hf 2 _ rfl;have f3 : DataW.trod enc Tryz.prog w 0 sp held n 45 ((List.drop 3 [c0, c1, c2, c3, c4, c5, c6, c7, c8, c9]).take (Tryz.prog.cellsOf 45)) = some x3 := hf 3 _ rfl;rw [show Tryz.prog.cellsOf 3 = 1 by kernel_rfl] at f0;rw [show Tryz.prog.cellsOf 38 = 1 by kernel_rfl] at f1;rw [show Tryz.prog.cellsOf 39 = 1 by kernel_rfl] at f2;rw [show Tryz.prog.cellsOf 45 = 7 by kernel_rfl] at f3;simp only [List.drop_zero, List.drop_succ_cons, List.take_succ_cons, List.take_zero, List.getElem?_cons_zero, List.getElem?_cons_succ] at f0 f1 f2 f3;obtain ⟨fr, e0, -, hwf⟩ := DataW.trod_int Tryz.underlying3 f0;have hfr : fr <= 9223372036854775807 := by
  simp only [Lit.wf, Bool.and_eq_true, decide_eq_true_eq] at hwf;exact hwf.2
 obtain ⟨all, A1, k1, e1, h1⟩ := za1 (P := fun (s : Bool) x => x = .bool s) false Tryz.underlying38 (by kernel_rfl) (fun fuel cs x h => by
  obtain ⟨b, e, -⟩ := DataW.trod_bool Tryz.underlying4 h
  exact ⟨b, _, e, rfl⟩) f1
 obtain ⟨nms, A2, k2, e2, h2⟩ := za1 (P := fun (s : ByteArray) x => x = .string s) ByteArray.empty Tryz.underlying39 (by kernel_rfl) (fun fuel cs x h => by
  obtain ⟨b, e, -⟩ := DataW.trod_string Tryz.underlying9 h
  exact ⟨b, _, e, rfl⟩) f2
 obtain ⟨⟨m, s, A, K⟩, e3, hm⟩ := xbn n _ _ f3;simp only [mxC, List.cons.injEq, and_true] at e0 e1 e2 e3;obtain ⟨e3, e4, e5, e6, e7, e8, e9⟩ := e3;subst e0 e1 e2 e3 e4 e5 e6 e7 e8 e9;obtain ⟨B0, n0, d0, B1, n1, d1, B2, d2, ee, -⟩ := hm.open_;simp only [mxV, Value.agg.injEq, Array.mk.injEq, List.cons.injEq, and_true, true_and] at ee;obtain ⟨rfl, rfl, rfl⟩ := ee;exact ⟨fr, all, nms, m, ⟨A1, k1, A2, k2, B0, n0, d0, B1, n1, d1, B2, m.ks.length, d2, rfl, h1, h2, hm⟩, hfr⟩
end
end Go.Proofs.YtaedbimbbeploaaGreatDoor

/- The last step of every law that leaves its arguments alone. -/
namespace Go.Proofs.YtaedbimbbeploaaGreatDoor
open Go.ChangeShapes Go.WideShapes Go.ChangeAt Go.RowKit
theorem gca {H : Type} {enc : TypeId × Value -> H} {P : Program} {f : Func} {s : ChangeSpec} {apart fresh handsOn again : Bool} {W W' : World} {args : Array Value} {v : Value} {ds gs : List (DataW H)} {before pa pv : List MemPlace}
 (hW : DataW.Whole enc P f.params.toList s.vars apart W args.toList ds gs before) (hx : Ext W W')
 (hres : ∀ (b : Nat) (sp : Nat -> Bool) (hd : Bool), DataW.TrodAll enc P W' b sp hd f.resultTypes.toList (v.resultList f.resultTypes.size) (s.fn H (ds ++ gs)).results [])
 (hargs : ∀ sp : Nat -> Bool, (∀ p ∈ before, sp p.block = true) -> DataW.TrodAll enc P W' 0 sp true f.params.toList args.toList (s.fn H (ds ++ gs)).args pa)
 (hvars : ∀ sp : Nat -> Bool, (∀ p ∈ before, sp p.block = true) -> DataW.TrodVars enc P W' sp s.vars (s.fn H (ds ++ gs)).vars pv) (hps : before = pa ++ pv)
 (hok : ∀ (j : Nat) (t : TypeId) (r : Value), f.resultTypes[j]? = some t -> (v.resultList f.resultTypes.size)[j]? = some r -> Value.okWide P W' .any 0 t r) :
 s.post enc P f apart fresh handsOn again W args v W' := by
 have low : ∀ p ∈ before, p.block < W.heap.size := fun p hp => hW.lt p hp
 have old : ∀ p ∈ before, (fun b => decide (b < W.heap.size)) p.block = true := fun p hp => by simpa using low p hp
 refine ⟨ds, gs, before, [], pa, pv, hW, hres _ _ _, hargs _ old, hvars _ old, World.keptBut_mono (fun p hp => ⟨hp, ?_⟩) (Below.frame hx (· ∈ before)), fun _ => ?_⟩
 · exact .inr (List.mem_append.1 (hps ▸ hp))
 · obtain ⟨_, _, _, _, _, hz, hn⟩ := hW;refine ⟨hok, _, _, ([] ++ pa) ++ pv, ⟨[] ++ pa, pv, trodAll_append (hargs _ (fun _ _ => rfl)) (hres _ _ _), hvars _ (fun _ _ => rfl), rfl, fun b off hp => ?_, fun ha => ?_⟩, ?_⟩
   · have hin : MemPlace.cell b off ∈ before := by rw [hps]; simpa using hp
     rw [hx.frozen (low _ hin)];exact hz b off hin
   · have h := hn ha;rw [hps] at h;simpa using h
   · exact fun p hp _ => by rw [hps]; simpa using hp
theorem wcb : ownKnob Tryz.prog.godebug = none := by kernel_rfl
theorem xce : laidOutB Tryz.prog = true := by kernel_rfl
theorem xb7 {H : Type} {enc : TypeId × Value -> H} {W W' : World} {t : TypeId} (hr : Tryz.prog.readableRec t = true) (hrow : t < Tryz.prog.types.size) {v : Value} {d : DataW H} {ps : List MemPlace} (h : DataW.Trod enc Tryz.prog W 0 (fun _ => true) true t v d ps) (hx : Ext W W') (hlt : ∀ x ∈ ps, x.block < W.heap.size) {sp : Nat -> Bool} (hs : ∀ x ∈ ps, sp x.block = true) : DataW.Trod enc Tryz.prog W' 0 sp true t v d ps :=
 WideElems.Trod_stays xce hr hrow h (fun x hx' => Below.same hx (hlt x hx')) hs
end Go.Proofs.YtaedbimbbeploaaGreatDoor

/- The world that the door's own run leaves meets the three listed tables' condition: the witness of the rows that list them. -/
namespace Go.Proofs.YtaedbimbbeploaaGreatDoor
open Go.ChangeShapes Go.WideShapes Go.ChangeAt Go.RowKit
def wbe : List (String × DataW Unit) := [("math/bits.deBruijn32tab", Rows.laid_math_bits_deBruijn32tab), ("math/bits.deBruijn64tab", Rows.laid_math_bits_deBruijn64tab), ("internal/strconv.uint64pow10", Rows.laid_internal_strconv_uint64pow10)]
theorem door_met (os : Os) (args : Array Value) : laidMetH Tryz.prog wbe ((World.doorLaid Tryz.prog 2000 os).forCall (fun _ _ => 0) ⟨#[], args, []⟩).memory :=
 laidMetH_of_parts3 (fuel := 8) (laidMet_of_run' 80 (by kernel_rfl) (by kernel_rfl)) (by kernel_rfl) (by kernel_rfl)
end Go.Proofs.YtaedbimbbeploaaGreatDoor

/- PrenexBack: for every prenex form the law answers true, and it reads as before. No condition but the listed tables, which this road never looks into. The row and the tied card. -/
set_option maxRecDepth 100000
set_option maxHeartbeats 8000000
namespace Go.Proofs.YtaedbimbbeploaaGreatDoor
open Go.ChangeShapes Go.WideShapes Go.ChangeAt Go.RowKit
theorem wcq : Tryz.prog.readableRec 47 = true := by kernel_rfl
theorem gcq : 47 < Tryz.prog.types.size := of_decide_eq_true (by kernel_rfl)
theorem ubq (os : Os) (started : os.Started) (H : Type) (enc : TypeId × Value -> H) :
 ReturnsInHanded {} Tryz.checked os 5 .any (fun w args => (Rows.prenexBackSpec.pre enc Tryz.prog Tryz.f5 [] false w args /\ laidMetH Tryz.prog wbe w) /\ sizedMet enc Tryz.prog Tryz.f5 (OpenSpec.ofChange Rows.prenexBackSpec) false w args)
  (Rows.prenexBackSpec.post enc Tryz.prog Tryz.f5 false true false false) := by
 refine returnsInHanded_of_change_and (C := Tryz.checked) (X := fun w _ => laidMetH Tryz.prog wbe w) (fun _ _ _ hh h => h.of_heap hh) wcb started (by kernel_rfl) Tryz.func5
  (ChangeSpec.witness_shaped (enc := enc) (C := Tryz.checked) (os := os) (X := fun w _ => laidMetH Tryz.prog wbe w) false (World.doorLaid Tryz.prog 2000 os) #[.agg #[.int .i64 0, .slice none 0 0, .slice none 0 0, .int .i64 0, .int .i64 0, .int .i64 0, .bool false, .slice none 0 0, .slice none 0 0, .slice none 0 0]] 8 rfl (World.shaped_of_RefB (by kernel_rfl) (by kernel_rfl)) (by kernel_rfl) (by kernel_rfl) (by kernel_rfl) (door_met os _)) ?_
 intro W base args ds gs before hval0 hW _ _ _ _;have hval : ∀ (j : Nat) t v, Tryz.f5.params[j]? = some t -> args[j]? = some v -> Value.okWide Tryz.prog W .any base t v := hval0;have hW' := hW;have low : ∀ p ∈ before, p.block < W.heap.size := fun p hp => hW.lt p hp
 obtain ⟨p, q, hA0, hV, rfl, -, -⟩ := hW;have hA : DataW.TrodAll enc Tryz.prog W 0 (fun _ => true) true Tryz.f5.params.toList args.toList ds p := hA0;rw [Tryz.params5] at hA hval;obtain ⟨v0, vs0, d0, ds0, p0, q0, hargs, rfl, rfl, h0, r0⟩ := trodAll_cons hA;obtain ⟨rfl, rfl, rfl⟩ := trodAll_nil r0;obtain rfl : args = #[v0] := by cases args; simp_all
 obtain ⟨rfl, rfl⟩ := trodVars_none hV;obtain ⟨fr, all, nms, m, hp, hfr⟩ := ybj (hval 0 47 v0 rfl rfl) h0;clear hA0 hval0;simp only [List.append_nil] at hW' low;refine (qbp hp hfr).mono fun e W' ⟨he, hx⟩ => ?_
 subst he
 exact ⟨_, rfl, gca (pa := p0) (pv := []) hW' hx (fun _ _ _ => (trodAll_cons_mk (shut_bool Tryz.underlying4 _) trodAll_mk0))
  (fun sp hs => by
    have := trodAll_cons_mk (xb7 wcq gcq h0 hx (fun x hx' => low x hx') (fun x hx' => hs x hx')) trodAll_mk0;simp only [List.append_nil] at this
    exact this) (fun _ _ => rfl) (by simp)
  (ok_one (by kernel_rfl) rfl (okWide_bool_mk Tryz.underlying4 _))⟩
theorem gbq : joinedFacts Tryz.pinned.checked.prog 5 Tryz.f5 Rows.prenexBackSpec Rows.prenexBackRow = true := by kernel_rfl
theorem yci (os : Os) (started : os.Started) (H : Type) (enc : TypeId × Value -> H) :
 ReturnsInHanded Rows.prenexBackRow.assume Tryz.pinned.checked os 5 .any (Rows.prenexBackRow.pre enc Tryz.pinned.checked.prog Tryz.f5 (OpenSpec.ofChange Rows.prenexBackSpec)) (Rows.prenexBackSpec.post enc Tryz.pinned.checked.prog Tryz.f5 Rows.prenexBackRow.apart Rows.prenexBackRow.fresh Rows.prenexBackRow.handsOn Rows.prenexBackRow.again) :=
 ubq os started H enc
theorem zb7 : Rows.prenexBackRow.holds Tryz.pinned (OpenSpec.ofChange Rows.prenexBackSpec) :=
 OpenClaim.holds_of_wide 5 Tryz.f5 rfl rfl rfl rfl rfl rfl rfl ⟨rfl, rfl, rfl, rfl, rfl⟩ rfl rfl rfl rfl rfl (by kernel_rfl) Tryz.func5 gbq
  (of_decide_eq_true (by kernel_rfl)) (by unfold Func.isWrapper; first | (rw [if_pos (by decide +kernel)]; kernel_rfl) | (rw [if_neg (by decide +kernel)]; exact ⟨rfl, rfl⟩))
  (fun os started H enc _ => yci os started H enc)
theorem back_proved : Rows.PrenexBackCardSaid :=
 Claim7.holds_tied_plain_at .later [] [.data, .data, .data] true (true, "4038e01535e211f261e9d55ee65fe8a95351db20c49877f250a7a0cd09ddf2e8") true
  zb7 (fun _ h => by cases h) (by kernel_rfl) (fun _ h => by cases h) prenexBack_row_tie rfl ⟨rfl, rfl⟩ (by kernel_rfl) rfl
  (fun f fn hf hfn => by
    obtain rfl : f = 5 := Option.some.inj ((show Tryz.prog.funcNamed "cylinder/cylinderlaw38.PrenexBack" = some 5 by kernel_rfl).symm.trans hf) |>.symm;obtain rfl : fn = Tryz.f5 := (Option.some.inj (Tryz.func5.symm.trans hfn)).symm;exact ⟨by kernel_rfl, fun j t ht => by
     rw [Tryz.params5] at ht;have h3 : t = 47 := by
      rcases j with _ | j
      · simpa using ht.symm
      · simp at ht
     subst h3
     exact (show Tryz.prog.wantsStandIn 47 = false by kernel_rfl)⟩)
  (by kernel_rfl)
#print axioms back_proved
end Go.Proofs.YtaedbimbbeploaaGreatDoor
