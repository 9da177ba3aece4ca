/- Layer 38: prenex.To. -/
import Derived.Test.YtaedbimbbeploaaGreatDoorBodyF
import Derived.Test.YtaedbimbbeploaaGreatDoorVPx
import Derived.Test.YtaedbimbbeploaaGreatDoorMk40
import Derived.Test.YtaedbimbbeploaaGreatDoorMk41
import Derived.Test.YtaedbimbbeploaaGreatDoorMk36
set_option linter.unusedSimpArgs false
set_option linter.unusedVariables false

set_option maxRecDepth 100000
set_option maxHeartbeats 8000000
namespace Go.Proofs.YtaedbimbbeploaaGreatDoor
open Go.RowKit
def toF (fr : Nat) (all : List Bool) (nms : List ByteArray) (f : Fm) : Nat -> Fm
 | 0 => f
 | j + 1 => .quant (all.getD (all.length - 1 - j) false) (nms.getD (fr + (all.length - 1 - j)) ByteArray.empty) (toF fr all nms f j)
theorem ga5 {fr : Int} {all : List Bool} {nms : List ByteArray} {m : Mx} (h : yl fr all nms m = true) (hfr : fr <= 9223372036854775807) (hal : all.length <= 1000000) : (∃ f0 : Nat, fr = f0 /\ f0 + all.length = nms.length) /\ m.lvl <= (nms.length : Int) /\ nms.length <= 4 := by
 unfold yl at h;simp only [Bool.and_eq_true, decide_eq_true_eq] at h;obtain ⟨hn, h0, hs, hl⟩ := h;have h4 : nms.length <= 4 := by
  unfold kz at hn;exact (of_decide_eq_true hn).1
 rw [IntKind.wrap_i64] at hs;refine ⟨⟨fr.toNat, by omega, ?_⟩, hl, h4⟩;omega
def jby (L : Nat) (fr : Int) (all : List Bool) (nms : List ByteArray) (m : Mx) (w : World) (e : Ending) (w' : World) : Prop :=
 (yl fr all nms m = true /\ ∃ v, e = .returned (.tuple #[v, .int .i64 0]) /\ FmV w' L (toF fr.toNat all nms (m.bodyF nms) all.length) v /\ Ext w w') \/ (yl fr all nms m = false /\ e = .returned (.tuple #[.nilIface, .int .i64 9]) /\ Ext w w')
theorem wck {L : Nat} (hL : 5 <= L) {w : World} {q : Nat -> Prop} {fr : Int} {all : List Bool} {nms : List ByteArray} {m : Mx} {v : Value} (hbig : m.sz <= 1000000) (hsm : m.small) (hfr : fr <= 9223372036854775807) (hal : all.length <= 1000000) (h : PxV w q fr all nms m v) : Calls Tryz.prog 28 #[v] w (jby L fr all nms m w) := by
 have HPX := Lib.hid h;obtain ⟨A1, c1, A2, c2, A0, n0, c0, B, n1, c3, K, n2, c4, rfl, hb1, hs1, hm1⟩ := h;have HBO := Lib.hid hb1;have HST := Lib.hid hs1;have HT := Lib.hid hm1;obtain ⟨A', c', e', l3, l4, -⟩ := id hs1;injection e' with e1 e2 e3
 subst e1 e3;obtain ⟨A', c', e', l5, l6, -⟩ := id hb1;injection e' with e1 e2' e3
 subst e1 e3;clear e2 e2' hs1 hb1 hm1;unfold mxV at HT;unfold pxC at HPX;unfold pxC;obtain ⟨W, hW⟩ : ∃ W, (w.alloc (.cells #[.int .i64 fr, .slice A1 all.length c1, .slice A2 nms.length c2, .int .i64 m.kind, .int .i64 m.rel, .int .i64 m.p.lv, .bool m.p.neg, .slice A0 n0 c0, .slice B n1 c3, .slice K n2 c4] 47)) = W := ⟨_, rfl⟩;obtain ⟨hWx, hWs, a0, a1, a2, a3, a4, a5, a6, a7, a8, a9⟩ := gas w _ _ _ _ _ _ _ _ _ _ _ W hW;have HWX := Lib.hid hWx;have HB : Hid (∀ wr, Ext W wr -> wr.cell? ⟨w.heap.size, 0, none⟩ = some (.int .i64 fr) /\ wr.cell? ⟨w.heap.size, 1, none⟩ = some (.slice A1 all.length c1) /\ wr.cell? ⟨w.heap.size, 2, none⟩ = some (.slice A2 nms.length c2) /\ wr.cell? ⟨w.heap.size, 3, none⟩ = some (.int .i64 m.kind) /\ wr.cell? ⟨w.heap.size, 4, none⟩ = some (.int .i64 m.rel) /\ wr.cell? ⟨w.heap.size, 5, none⟩ = some (.int .i64 m.p.lv) /\ wr.cell? ⟨w.heap.size, 6, none⟩ = some (.bool m.p.neg) /\ wr.cell? ⟨w.heap.size, 7, none⟩ = some (.slice A0 n0 c0) /\ wr.cell? ⟨w.heap.size, 8, none⟩ = some (.slice B n1 c3) /\ wr.cell? ⟨w.heap.size, 9, none⟩ = some (.slice K n2 c4)) := Lib.hid (by
  intro wr hxx;have k : ∀ j, wr.cell? ⟨w.heap.size, j, none⟩ = W.cell? ⟨w.heap.size, j, none⟩ := fun j => hxx.cell (p := ⟨w.heap.size, j, none⟩) (by show w.heap.size < _; omega)
  exact ⟨(k 0).trans a0, (k 1).trans a1, (k 2).trans a2, (k 3).trans a3, (k 4).trans a4, (k 5).trans a5, (k 6).trans a6, (k 7).trans a7, (k 8).trans a8, (k 9).trans a9⟩)
 have HV := Lib.hid (qcj hbig hsm (HPX.out.ext hWx));clear hWx hWs;go_enter Tryz.func28, Tryz.ntmps28;go_wp2_with fail;clear hW a0 a1 a2 a3 a4 a5 a6 a7 a8 a9;refine HV.out.mono ?_;rintro e w1 ⟨rfl, x1⟩;have X1 := Lib.hid x1;clear x1 HV
 by_cases hv : yl fr all nms m = true
 case neg =>
  have hv' : yl fr all nms m = false := by simpa using hv
  have HR : Hid (jby L fr all nms m w (.returned (.tuple #[.nilIface, .int .i64 9])) w1) := Lib.hid (.inr ⟨hv', rfl, HWX.out.trans X1.out⟩);rw [hv'];clear hv hv';go_wp2_with fail;exact bodyPost_ret (v := .tuple #[.nilIface, .int .i64 9]) (by simp [results, Tryz.results28, go_sem]) rfl HR.out
 have HVT := Lib.hid hv;rw [hv];obtain ⟨⟨f0, rfl, hfn⟩, hlv, hn4⟩ := ga5 hv hfr hal;have HBD := Lib.hid (fun W' (hx : Ext W W') => wch hL m _ _ W' hbig hsm hlv (HT.out.ext (HWX.out.trans hx)) (SlR.ext HST.out (fun _ _ h => h) (HWX.out.trans hx)));unfold mxV at HBD;obtain ⟨a0, a1, a2, a3, a4, a5, a6, a7, a8, a9⟩ := HB.out w1 X1.out;clear hv hlv hsm hfr;go_wp2_with fail;clear a0 a1 a2 a3 a4 a5 a6 a7 a8 a9;refine (HBD.out _ X1.out).mono ?_;rintro e w2 ⟨v2, rfl, f2, x2⟩;obtain ⟨T2, u2, rfl⟩ := f2.iface;have F2 := Lib.hid f2;have X2 := Lib.hid (X1.out.trans x2);obtain ⟨a0, a1, a2, a3, a4, a5, a6, a7, a8, a9⟩ := HB.out w2 X2.out;clear f2 x2 HBD;go_wp2_with fail;clear a0 a1 a2 a3 a4 a5 a6 a7 a8 a9
 go_loopw [4, 5] (fun u4 iv wr => ∃ k : Nat, k <= all.length /\ iv = .int .i64 ((k : Int) - 1) /\ Hid (FmV wr L (toF f0 all nms (m.bodyF nms) (all.length - k)) u4 /\ Ext W wr)) (fun _ iv _ => (intOf iv + 1).toNat)
 case atStart => exact ⟨all.length, Nat.le_refl _, by first | rfl | go_num, Lib.hid ⟨by rw [Nat.sub_self]; exact F2.out, X2.out⟩⟩
 case round =>
  obtain ⟨k, hk, rfl, HG⟩ := hrel;obtain ⟨T4, y4, rfl⟩ := FmV.iface HG.out.1;cases k with
  | succ i =>
    have e1 : ((i + 1 : Nat) : Int) - 1 = (i : Int) := by omega
    rw [e1];have hi : i < all.length := by omega
    obtain ⟨r, hr⟩ : ∃ r, f0 + i = r := ⟨_, rfl⟩;have hrn : r < nms.length := by omega
    have hwrap : IntKind.i64.wrap ((f0 : Int) + (i : Int)) = (r : Int) := by rw [IntKind.wrap_i64]; omega
    obtain ⟨ad, x, hA, hadb, hcx, hxx⟩ := qaq HBO.out i hi;obtain ⟨ad', x', hA', hadb', hcx', hxx'⟩ := qaq HST.out r hrn;subst hA hA' hxx hxx';have HN : Hid (∀ W', FmV W' L (toF f0 all nms (m.bodyF nms) (all.length - (i + 1))) (.iface T4 y4) -> FmV W' L (toF f0 all nms (m.bodyF nms) (all.length - i)) (.iface 95 (.agg #[.bool all[i], .string nms[r], .iface T4 y4]))) := Lib.hid (fun W' hf => by
     rw [show all.length - i = (all.length - (i + 1)) + 1 by omega];simp only [toF];rw [show all.length - 1 - (all.length - (i + 1)) = i by omega, hr, List.getD_eq_getElem?_getD, List.getD_eq_getElem?_getD, List.getElem?_eq_getElem hi, List.getElem?_eq_getElem hrn]
     exact ⟨_, rfl, hf⟩)
    have HS4 : Hid (∀ W2, Ext wr W2 -> (Ext wr W2 /\ W2.cell? ⟨w.heap.size, 0, none⟩ = some (.int .i64 f0) /\ W2.cell? ⟨w.heap.size, 1, none⟩ = some (.slice (some ad) all.length c1) /\ W2.cell? ⟨w.heap.size, 2, none⟩ = some (.slice (some ad') nms.length c2) /\ W2.cell? (ad.add i) = some (.bool all[i]) /\ W2.cell? (ad'.add r) = some (.string nms[r]))) := Lib.hid (fun W2 hx2 => by
     have hx := HG.out.2.trans hx2;obtain ⟨a0, a1, a2, -⟩ := HB.out W2 hx
     exact ⟨hx2, a0, a1, a2, ((HWX.out.trans hx).cell (p := ad.add i) (by rw [ja]; exact hadb)).trans hcx, ((HWX.out.trans hx).cell (p := ad'.add r) (by rw [ja]; exact hadb')).trans hcx'⟩)
    have hil : (i : Int) < (all.length : Int) := by omega
    have hrl : (r : Int) < (nms.length : Int) := by omega
    have HX := Lib.hid (HG.out.2.drew);have HGF := Lib.hid (FmV.ext (Ext.refl wr).drew HG.out.1);clear hcx hcx' hadb hadb' e1 hr;generalize all[i] = b at *;generalize nms[r] = s at *;go_upto_region 7 with fail;have hq := HS4.out _ ((Ext.refl wr).drew)
    go_region_held3 (fun W2 => Ext wr W2 /\ W2.cell? ⟨w.heap.size, 0, none⟩ = some (.int .i64 f0) /\ W2.cell? ⟨w.heap.size, 1, none⟩ = some (.slice (some ad) all.length c1) /\ W2.cell? ⟨w.heap.size, 2, none⟩ = some (.slice (some ad') nms.length c2) /\ W2.cell? (ad.add i) = some (.bool b) /\ W2.cell? (ad'.add r) = some (.string s))
     (first | with_reducible exact hq)
     (fail)
    all_goals
     have HF := Lib.hid (HN.out _ HGF.out);clear hq HS4 HN HGF;go_wp2_with fail
     go_roundw
     case rel => exact ⟨i, by omega, by first | rfl | go_num, Lib.hid ⟨HF.out, HX.out⟩⟩
     case measure => simp [intOf]
  | zero =>
    have e1 : ((0 : Nat) : Int) - 1 = -1 := by omega
    rw [e1];have HR : Hid (jby L (f0 : Int) all nms m w (.returned (.tuple #[.iface T4 y4, .int .i64 0])) wr) := Lib.hid (.inl ⟨HVT.out, _, rfl, HG.out.1, HWX.out.trans HG.out.2⟩);clear e1;go_wp2_with fail;exact bodyPost_ret (v := .tuple #[.iface T4 y4, .int .i64 0]) (by simp [results, Tryz.results28, go_sem]) rfl HR.out
end Go.Proofs.YtaedbimbbeploaaGreatDoor

/- Layer 38: the prenex form of what To returns, plain. -/
namespace Go.Proofs.YtaedbimbbeploaaGreatDoor
theorem Pl.var_val (ρ : Int -> Rat) {n : Int} (h1 : 1 <= n) (h4 : n <= 4) : (Pl.var n).val ρ = ρ n := by
 rw [<- Pl.sp_val, Pl.sp_var h1 h4];have hv := Mo.val_put ρ Mo.one n 0 (by omega) h4 (Int.le_refl _);have h0 : Mo.one.put n 0 = Mo.one := by unfold Mo.put Mo.one; split <;> (try split) <;> (try split) <;> rfl
 rw [h0, Mo.val_one] at hv;simp only [jk, Mo.var];rw [show (1 : Int) = 0 + 1 from rfl, hv]
 push_cast
 grind
def Mo.upto (ρ : Int -> Rat) (m : Mo) : Nat -> Rat
 | 0 => 1
 | k + 1 => m.upto ρ k * ρ ((k : Int) + 1) ^ (m.get ((k : Int) + 1)).toNat
theorem Mo.upto4 (ρ : Int -> Rat) (m : Mo) : m.upto ρ 4 = m.val ρ := by
 have g1 : m.get 1 = m.a := rfl;have g2 : m.get 2 = m.b := rfl;have g3 : m.get 3 = m.c := rfl;have g4 : m.get 4 = m.d := rfl;show 1 * ρ 1 ^ (m.get 1).toNat * ρ 2 ^ (m.get 2).toNat * ρ 3 ^ (m.get 3).toNat * ρ 4 ^ (m.get 4).toNat = _;rw [g1, g2, g3, g4, Mo.val]
 grind
section
variable {ρ : Int -> Rat} {g : ByteArray -> Int} {nms : List ByteArray}
theorem qcn {k : Nat} {n : Int} (hg : g (nms.getD k ByteArray.empty) = (k : Int) + 1) (hk : k < 4) (hn : 1 <= n) : (qh g (xu nms k n)).val ρ = ρ ((k : Int) + 1) ^ n.toNat := by
 unfold xu
 split
 · simp only [qh];rw [Pl.pow_val, hg, Pl.var_val ρ (by omega) (by omega)]
 · obtain rfl : n = 1 := by omega
   simp only [qh];rw [hg, Pl.var_val ρ (by omega) (by omega)];show _ = ρ ((k : Int) + 1) ^ 1;rw [Rat.pow_succ, Rat.pow_zero, Rat.one_mul]
def va9 (ρ : Int -> Rat) (g : ByteArray -> Int) : Option Tm -> Rat
 | none => 1
 | some t => (qh g t).val ρ
theorem wbj {c : Int} {m : Mo} (hv : ∀ k : Nat, k < 4 -> 0 < m.get ((k : Int) + 1) -> g (nms.getD k ByteArray.empty) = (k : Int) + 1) : ∀ k, k <= 4 -> va9 ρ g (kac c m nms k) = (c : Rat) * m.upto ρ k
 | 0, _ => by
   unfold kac
   split
   · rename_i h; rw [h]; simp [va9, Mo.upto]
   · simp only [va9, qh, Mo.upto]; rw [Pl.const_val]; grind
 | k + 1, hk => by
   have ih := wbj (c := c) hv k (by omega);unfold kac
   split
   · rename_i h;rw [ih, Mo.upto, show (m.get ((k : Int) + 1)).toNat = 0 by omega, Rat.pow_zero, Rat.mul_one]
   · rename_i h;have hf := qcn (ρ := ρ) (hv k (by omega) (by omega)) (by omega) (show 1 <= m.get ((k : Int) + 1) by omega);rw [Mo.upto];cases hq : kac c m nms k with
     | none =>
       rw [hq] at ih;simp only [va9, ga9] at ih ⊢;rw [hf]
       grind
     | some p =>
       rw [hq] at ih;simp only [va9, ga9, qh] at ih ⊢;rw [Pl.mul_val, ih, hf]
       grind
theorem ubc {c : Int} {m : Mo} : ∀ k, kac c m nms k = none -> c = 1
 | 0, h => by
   unfold kac at h
   split at h
   · assumption
   · cases h
 | k + 1, h => by
   unfold kac at h
   split at h
   · exact ubc k h
   · cases h
theorem zcd {c : Int} {m : Mo} (hv : ∀ k : Nat, k < 4 -> 0 < m.get ((k : Int) + 1) -> g (nms.getD k ByteArray.empty) = (k : Int) + 1) : (qh g (monT c m nms)).val ρ = (c : Rat) * m.val ρ := by
 have h := wbj (ρ := ρ) (c := c) hv 4 (by omega);rw [Mo.upto4] at h;unfold monT;cases hq : kac c m nms 4 with
 | none =>
   rw [hq] at h;have hc := ubc 4 hq;simp only [va9] at h;simp only [Option.getD_none, qh];rw [Pl.const_val, <- h, hc]
   rfl
 | some p => rw [hq] at h; exact h
def xap (ρ : Int -> Rat) (g : ByteArray -> Int) : Option Tm -> Rat
 | none => 0
 | some t => (qh g t).val ρ
theorem kci (c : Int) : ((c.natAbs : Int) : Rat) = if c < 0 then -(c : Rat) else (c : Rat) := by
 split
 · rw [show ((c.natAbs : Int)) = -c by omega]; push_cast; rfl
 · rw [show ((c.natAbs : Int)) = c by omega]
theorem ybg : ∀ (l : Sp) (o : Option Tm), (∀ x ∈ l, ∀ k : Nat, k < 4 -> 0 < x.2.get ((k : Int) + 1) -> g (nms.getD k ByteArray.empty) = (k : Int) + 1) -> xap ρ g (l.foldl (zaa nms) o) = xap ρ g o + jk ρ l
 | [], o, _ => by simp only [List.foldl_nil, jk]; grind
 | (c, m) :: r, o, h => by
   have hm := zcd (ρ := ρ) (c := (c.natAbs : Int)) (h (c, m) (by simp));rw [kci] at hm;rw [List.foldl_cons, ybg r _ (fun x hx => h x (by simp [hx]))];simp only [jk];cases o with
   | none =>
     simp only [zaa]
     split <;> rename_i hc
     · rw [if_pos hc] at hm;simp only [xap, qh];rw [Pl.opp_val, hm]
       grind
     · rw [if_neg hc] at hm;simp only [xap];rw [hm]
       grind
   | some a =>
     simp only [zaa]
     split <;> rename_i hc
     · rw [if_pos hc] at hm;simp only [xap, qh];rw [Pl.add_val, Pl.opp_val, hm]
       grind
     · rw [if_neg hc] at hm;simp only [xap, qh];rw [Pl.add_val, hm]
       grind
end
theorem zck {g : ByteArray -> Int} {nms : List ByteArray} (hg : ∀ k : Nat, k < nms.length -> g (nms.getD k ByteArray.empty) = (k : Int) + 1) {p : Pl} (h : p.nf.lv <= (nms.length : Int)) : qh g (sumT (je (p.terms Mo.one)) nms) = p.nf := by
 refine Pl.val_uniq (kcb _ _) p.nf_can fun ρ => ?_
 have h1 := ybg (ρ := ρ) (g := g) (nms := nms) (je (p.terms Mo.one)) none (fun x hx k hk hp => hg k (jbl h x hx k hk hp));have h2 : jk ρ (je (p.terms Mo.one)) = p.nf.val ρ := by rw [Pl.nf_val]; exact Pl.sp_val ρ p
 rw [h2] at h1;simp only [xap] at h1;unfold sumT waj;cases hq : List.foldl (zaa nms) none (je (p.terms Mo.one)) with
 | none =>
   rw [hq] at h1;simp only [xap] at h1;simp only [Option.getD_none, qh];rw [Pl.const_val]
   push_cast
   grind
 | some t =>
   rw [hq] at h1;simp only [xap] at h1;simp only [Option.getD_some]
   grind
theorem qbn {p : Pl} (h : p.Can) : p.add (Pl.const 0).opp = p := Pl.val_uniq (Pl.add_can _ _) h fun ρ => by
 rw [Pl.add_val, Pl.opp_val, Pl.const_val]; push_cast; grind
mutual
def Mx.fold : Mx -> Mx
 | .mk k r p ks => if k = 3 \/ k = 4 then (match jay ks with | [] => uat (k == 3) | x :: l => l.foldl (xaa k) x) else .mk k r p ks
def jay : List Mx -> List Mx
 | [] => []
 | t :: r => t.fold :: jay r
end
theorem va7 (l : List Mx) : jay l = l.map Mx.fold := by
 induction l with
 | nil => rfl
 | cons t r ih => rw [jay, ih]; rfl
theorem vbd {k : Int} (hk : k = 3 \/ k = 4) (s : PSt) : ∀ (fs : List Fm) (f : Fm) (m : Mx) (ms : List Mx), jd f true s = (m, s) -> fs.map (fun f => jd f true s) = ms.map (fun m => (m, s)) -> jd (fs.foldl (fun a g => if k = 3 then .and a g else .or a g) f) true s = (ms.foldl (xaa k) m, s)
 | [], f, m, ms, h, h2 => by
   cases ms with
   | nil => exact h
   | cons x r => simp at h2
 | g :: r, f, m, ms, h, h2 => by
   cases ms with
   | nil => simp at h2
   | cons x q =>
     simp only [List.map_cons, List.cons.injEq] at h2;rw [List.foldl_cons, List.foldl_cons];refine vbd hk s r _ _ q ?_ h2.2;rcases hk with rfl | rfl
     · rw [if_pos rfl]; simp only [jd, h, h2.1, if_true]
     · rw [if_neg (by omega)]; simp only [jd, h, h2.1, if_true]
theorem uch {nms : List ByteArray} {s : PSt} (hg : ∀ k : Nat, k < nms.length -> s.lev (nms.getD k ByteArray.empty) = (k : Int) + 1) (n : Nat) : ∀ (t : Mx), t.sz < n -> t.lvl <= (nms.length : Int) -> jd (t.bodyF nms) true s = (t.nrm.fold, s) := by
 induction n with
 | zero => intro t h; omega
 | succ n ih =>
   intro t hsz hl;rw [Mx.bodyF_eq, Mx.nrm_eq];rw [Mx.lvl_eq] at hl
   by_cases k1 : t.kind = 1
   · rw [if_pos k1, if_pos k1, Mx.fold, if_neg (by omega)]; rfl
   rw [if_neg k1, if_neg k1]
   by_cases k2 : t.kind = 2
   · rw [if_pos k2, if_pos k2, Mx.fold, if_neg (by omega)];rw [if_pos k2] at hl;simp only [jd, if_true, ubb, ka4];rw [zck hg hl];simp only [qh];rw [qbn t.p.nf_can]
   rw [if_neg k2, if_neg k2];rw [if_neg k2] at hl
   by_cases k34 : t.kind = 3 \/ t.kind = 4
   · rw [if_pos k34, if_pos k34, Mx.fold, if_pos k34, va7];rw [if_pos k34] at hl;have hks := (yba t.ks _ 0 hl).2;have hk : ∀ x ∈ t.ks, jd (x.bodyF nms) true s = (x.nrm.fold, s) := fun x hx => ih x (by
      obtain ⟨i, hi, rfl⟩ := List.getElem_of_mem hx;have := Mx.kid_le t i hi
      omega) (hks x hx)
     generalize t.ks = ks at *;cases ks with
     | nil => simp only [List.map_nil, vad, jd]; rcases k34 with h | h <;> rw [h] <;> rfl
     | cons x r =>
       simp only [List.map_cons, vad];refine vbd k34 s _ _ _ _ (hk x (by simp)) ?_;rw [List.map_map, List.map_map, List.map_map];refine List.map_congr_left fun y hy => ?_
       exact hk y (by simp [hy])
   · rw [if_neg k34, if_neg k34, Mx.fold, if_neg (by omega)]; rfl
def stK (all : List Bool) (nms : List ByteArray) (k : Nat) : PSt := ⟨nms.take k, all.take k, uao nms k⟩
theorem vb8 {all : List Bool} {nms : List ByteArray} (hal : all.length = nms.length) {k : Nat} (hk : k < nms.length) : (stK all nms k).bind (all.getD k false == true) (nms.getD k ByteArray.empty) = stK all nms (k + 1) := by
 unfold stK PSt.bind;have h1 : nms.take (k + 1) = nms.take k ++ [nms.getD k ByteArray.empty] := by
  rw [List.take_succ_eq_append_getElem hk, List.getD_eq_getElem?_getD, List.getElem?_eq_getElem hk]; rfl
 have h2 : all.take (k + 1) = all.take k ++ [all.getD k false] := by
  rw [List.take_succ_eq_append_getElem (by omega), List.getD_eq_getElem?_getD, List.getElem?_eq_getElem (by omega)]; rfl
 rw [h1, h2];simp only [PSt.mk.injEq];refine ⟨trivial, by cases all.getD k false <;> rfl, ?_⟩
 funext t
 rw [List.length_take, Nat.min_eq_left (by omega)]
 rfl
theorem wbz {all : List Bool} {nms : List ByteArray} (hal : all.length = nms.length) (f : Fm) : ∀ j, j <= nms.length -> jd (toF 0 all nms f j) true (stK all nms (nms.length - j)) = jd f true (stK all nms nms.length)
 | 0, _ => rfl
 | j + 1, hj => by
   rw [toF, jd, Nat.zero_add, hal, show nms.length - 1 - j = nms.length - (j + 1) by omega, vb8 hal (by omega), show nms.length - (j + 1) + 1 = nms.length - j by omega];exact wbz hal f j (by omega)
theorem ybk {nms : List ByteArray} (hd : ∀ i (h : i < nms.length), hasB (nms.take i) nms[i] = false) : ∀ n, n <= nms.length -> ∀ k, k < n -> uao nms n (nms.getD k ByteArray.empty) = (k : Int) + 1
 | 0, _, k, hk => by omega
 | n + 1, hn, k, hk => by
   rw [zbd nms n (by omega)];have hkl : nms.getD k ByteArray.empty = nms[k]'(by omega) := by rw [List.getD_eq_getElem?_getD, List.getElem?_eq_getElem (by omega)]; rfl
   by_cases he : k = n
   · subst he;simp only [hkl, if_true];omega
   · have hne : ¬ nms.getD k ByteArray.empty = nms[n] := fun e => by
      have h1 := hd n (by omega);have h2 : hasB (nms.take n) nms[n] = true := (kbk _ _).2 (by
       rw [<- e, hkl]
       exact List.mem_take_iff_getElem.2 ⟨k, by omega, rfl⟩)
      rw [h1] at h2;cases h2
     simp only [if_neg hne];exact ybk hd n (by omega) k (by omega)
end Go.Proofs.YtaedbimbbeploaaGreatDoor

/- Layer 38: the formula that To returns: names, quantifiers, sizes, Check; plain. -/
set_option maxRecDepth 100000
set_option maxHeartbeats 8000000
namespace Go.Proofs.YtaedbimbbeploaaGreatDoor
def Tm.allN (P : ByteArray -> Prop) : Tm -> Prop
 | .num _ => True
 | .name s => P s
 | .add a b => a.allN P /\ b.allN P
 | .sub a b => a.allN P /\ b.allN P
 | .mul a b => a.allN P /\ b.allN P
 | .neg a => a.allN P
 | .pow a _ => a.allN P
def Fm.flat (P : ByteArray -> Prop) : Fm -> Prop
 | .truth _ => True
 | .atom l _ k => l.allN P /\ k.allN P
 | .and f g => f.flat P /\ g.flat P
 | .or f g => f.flat P /\ g.flat P
 | _ => False
section
variable {P : ByteArray -> Prop}
theorem Tm.fold_skip {a : ByteArray -> Int} (ha : ∀ s, P s -> a s ≠ 0) (t : Tm) : ∀ acc, t.allN P -> t.fold (um a) acc = acc := by
 induction t with
 | num z => intro acc _; rfl
 | name s => intro acc h; rw [Tm.fold, um, if_neg (fun e => ha s h e.1)]
 | add x y ihx ihy => intro acc h; rw [Tm.fold, ihx _ h.1, ihy _ h.2]
 | sub x y ihx ihy => intro acc h; rw [Tm.fold, ihx _ h.1, ihy _ h.2]
 | mul x y ihx ihy => intro acc h; rw [Tm.fold, ihx _ h.1, ihy _ h.2]
 | neg x ihx => intro acc h; rw [Tm.fold, ihx _ h]
 | pow x e ihx => intro acc h; rw [Tm.fold, ihx _ h]
theorem Fm.fold_skip {a : ByteArray -> Int} (ha : ∀ s, P s -> a s ≠ 0) (f : Fm) : ∀ acc, f.flat P -> f.fold um a acc = acc := by
 induction f with
 | truth b => intro acc _; rfl
 | atom l r k => intro acc h; rw [Fm.fold, Tm.fold_skip ha _ _ h.1, Tm.fold_skip ha _ _ h.2]
 | and x y ihx ihy => intro acc h; rw [Fm.fold, ihx _ h.1, ihy _ h.2]
 | or x y ihx ihy => intro acc h; rw [Fm.fold, ihx _ h.1, ihy _ h.2]
 | not _ _ => intro _ h; exact h.elim
 | imp _ _ _ _ => intro _ h; exact h.elim
 | iff _ _ _ _ => intro _ h; exact h.elim
 | quant _ _ _ _ => intro _ h; exact h.elim
theorem Tm.fold_chk {a : ByteArray -> Int} (hP : ∀ s, P s -> ql s = true) (t : Tm) : ∀ x : List ByteArray × Bool, t.allN P -> x.2 = true -> (t.fold (qae a) x).2 = true := by
 induction t with
 | num z => intro x _ h; exact h
 | name s => intro x h hx; rw [Tm.fold]; simp only [qae]; rw [hx, hP s h]; rfl
 | add x y ihx ihy => intro acc h hx; rw [Tm.fold]; exact ihy _ h.2 (ihx _ h.1 hx)
 | sub x y ihx ihy => intro acc h hx; rw [Tm.fold]; exact ihy _ h.2 (ihx _ h.1 hx)
 | mul x y ihx ihy => intro acc h hx; rw [Tm.fold]; exact ihy _ h.2 (ihx _ h.1 hx)
 | neg x ihx => intro acc h hx; rw [Tm.fold]; exact ihx _ h hx
 | pow x e ihx => intro acc h hx; rw [Tm.fold]; exact ihx _ h hx
theorem Fm.fold_chk (hP : ∀ s, P s -> ql s = true) (f : Fm) : ∀ (a : ByteArray -> Int) (x : List ByteArray × Bool), f.flat P -> x.2 = true -> (f.fold qae a x).2 = true := by
 induction f with
 | truth b => intro a x _ h; exact h
 | atom l r k => intro a x h hx; rw [Fm.fold]; exact Tm.fold_chk hP _ _ h.2 (Tm.fold_chk hP _ _ h.1 hx)
 | and x y ihx ihy => intro a acc h hx; rw [Fm.fold]; exact ihy _ _ h.2 (ihx _ _ h.1 hx)
 | or x y ihx ihy => intro a acc h hx; rw [Fm.fold]; exact ihy _ _ h.2 (ihx _ _ h.1 hx)
 | not _ _ => intro _ _ h; exact h.elim
 | imp _ _ _ _ => intro _ _ h; exact h.elim
 | iff _ _ _ _ => intro _ _ h; exact h.elim
 | quant _ _ _ _ => intro _ _ h; exact h.elim
theorem Fm.flat_bound (f : Fm) : f.flat P -> f.bound = [] /\ f.noIff = true := by
 induction f with
 | truth b => intro _; exact ⟨rfl, rfl⟩
 | atom l r k => intro _; exact ⟨rfl, rfl⟩
 | and x y ihx ihy => intro h; simp only [Fm.bound, Fm.noIff, (ihx h.1).1, (ihx h.1).2, (ihy h.2).1, (ihy h.2).2]; exact ⟨rfl, rfl⟩
 | or x y ihx ihy => intro h; simp only [Fm.bound, Fm.noIff, (ihx h.1).1, (ihx h.1).2, (ihy h.2).1, (ihy h.2).2]; exact ⟨rfl, rfl⟩
 | not _ _ => intro h; exact h.elim
 | imp _ _ _ _ => intro h; exact h.elim
 | iff _ _ _ _ => intro h; exact h.elim
 | quant _ _ _ _ => intro h; exact h.elim
variable {nms : List ByteArray}
theorem jcn {k : Nat} {n : Int} (h : P (nms.getD k ByteArray.empty)) : (xu nms k n).allN P /\ (xu nms k n).sz <= 2 := by
 unfold xu; split <;> exact ⟨h, by simp [Tm.sz]⟩
theorem ua4 {c : Int} {m : Mo} (hv : ∀ k : Nat, k < 4 -> 0 < m.get ((k : Int) + 1) -> P (nms.getD k ByteArray.empty)) : ∀ k, k <= 4 -> ∀ t, kac c m nms k = some t -> t.allN P /\ t.sz <= 1 + 3 * k
 | 0, _, t, h => by
   unfold kac at h
   split at h
   · cases h
   · injection h with h; subst h; exact ⟨trivial, by simp [Tm.sz]⟩
 | k + 1, hk, t, h => by
   unfold kac at h
   split at h
   · have := ua4 hv k (by omega) t h;exact ⟨this.1, by omega⟩
   · rename_i hp;injection h with h
     have hf := jcn (n := m.get ((k : Int) + 1)) (hv k (by omega) (by omega));cases hq : kac c m nms k with
     | none => rw [hq] at h; subst h; exact ⟨hf.1, by have := hf.2; simp only [ga9]; omega⟩
     | some p =>
       rw [hq] at h; subst h;have := ua4 hv k (by omega) p hq;exact ⟨⟨this.1, hf.1⟩, by have := hf.2; simp only [ga9, Tm.sz]; omega⟩
theorem ycd {c : Int} {m : Mo} (hv : ∀ k : Nat, k < 4 -> 0 < m.get ((k : Int) + 1) -> P (nms.getD k ByteArray.empty)) : (monT c m nms).allN P /\ (monT c m nms).sz <= 13 := by
 unfold monT;cases hq : kac c m nms 4 with
 | none => exact ⟨trivial, by simp [Tm.sz]⟩
 | some p => exact ua4 hv 4 (by omega) p hq
theorem xbg : ∀ (l : Sp) (o : Option Tm) (n : Nat), (∀ x ∈ l, ∀ k : Nat, k < 4 -> 0 < x.2.get ((k : Int) + 1) -> P (nms.getD k ByteArray.empty)) -> (∀ t, o = some t -> t.allN P /\ t.sz <= n) -> ∀ t, l.foldl (zaa nms) o = some t -> t.allN P /\ t.sz <= n + 15 * l.length
 | [], o, n, _, ho, t, ht => by have := ho t ht; exact ⟨this.1, by simpa using this.2⟩
 | (c, m) :: r, o, n, h, ho, t, ht => by
   have hm := ycd (P := P) (nms := nms) (c := (c.natAbs : Int)) (m := m) (fun k hk hp => h (c, m) (by simp) k hk hp);rw [List.foldl_cons] at ht;have := xbg r _ (n + 15) (fun x hx => h x (by simp [hx])) (fun u hu => ?_) t ht
   · exact ⟨this.1, by simp only [List.length_cons]; omega⟩
   · cases o with
     | none =>
       simp only [zaa] at hu;injection hu with hu
       subst hu
       split
       · exact ⟨hm.1, by simp only [Tm.sz]; omega⟩
       · exact ⟨hm.1, by omega⟩
     | some a =>
       have ha := ho a rfl;simp only [zaa] at hu;injection hu with hu
       subst hu
       split
       · exact ⟨⟨ha.1, hm.1⟩, by simp only [Tm.sz]; omega⟩
       · exact ⟨⟨ha.1, hm.1⟩, by simp only [Tm.sz]; omega⟩
theorem qb8 {l : Sp} (h : ∀ x ∈ l, ∀ k : Nat, k < 4 -> 0 < x.2.get ((k : Int) + 1) -> P (nms.getD k ByteArray.empty)) : (sumT l nms).allN P /\ (sumT l nms).sz <= 1 + 15 * l.length := by
 unfold sumT waj;cases hq : List.foldl (zaa nms) none l with
 | none => exact ⟨trivial, by simp [Tm.sz]⟩
 | some t => have := xbg l none 0 h (by simp) t hq; exact ⟨this.1, by simp only [Option.getD_some]; omega⟩
theorem foldl_flat {k : Int} : ∀ (fs : List Fm) (f : Fm), f.flat P -> (∀ g ∈ fs, g.flat P) -> (fs.foldl (fun a g => if k = 3 then .and a g else .or a g) f).flat P /\ (fs.foldl (fun a g => if k = 3 then .and a g else .or a g) f).sz = f.sz + (fs.map Fm.sz).sum + fs.length
 | [], f, h, _ => ⟨h, by simp⟩
 | g :: r, f, h, h2 => by
   rw [List.foldl_cons];have := foldl_flat (k := k) r (if k = 3 then .and f g else .or f g) (by split <;> exact ⟨h, h2 g (by simp)⟩) (fun x hx => h2 x (by simp [hx]));refine ⟨this.1, ?_⟩;rw [this.2];have : (if k = 3 then Fm.and f g else Fm.or f g).sz = f.sz + g.sz + 1 := by split <;> rfl
   rw [this];simp only [List.map_cons, List.sum_cons, List.length_cons];omega
theorem wb6 (hP : ∀ k, k < nms.length -> P (nms.getD k ByteArray.empty)) (n : Nat) : ∀ (t : Mx), t.sz < n -> t.small -> t.lvl <= (nms.length : Int) -> (t.bodyF nms).flat P /\ (t.bodyF nms).sz + 1000 <= 2000 * t.sz := by
 induction n with
 | zero => intro t h; omega
 | succ n ih =>
   intro t hsz hsm hl;have ht1 : 1 <= t.sz := by cases t; simp [Mx.sz]
   rw [Mx.bodyF_eq];rw [Mx.lvl_eq] at hl
   by_cases k1 : t.kind = 1
   · rw [if_pos k1]; exact ⟨trivial, by simp only [Fm.sz]; omega⟩
   rw [if_neg k1]
   by_cases k2 : t.kind = 2
   · rw [if_pos k2];rw [if_pos k2] at hl;obtain ⟨h1, h2⟩ := qb8 (P := P) (l := je (t.p.terms Mo.one)) (fun x hx k hk hp => hP k (jbl hl x hx k hk hp));have h3 := xbb (t.p.terms Mo.one);have h4 := Pl.terms_len t.p Mo.one;have h5 := (Mx.p_small hsm).1;exact ⟨⟨h1, trivial⟩, by simp only [Fm.sz, Tm.sz]; omega⟩
   rw [if_neg k2];rw [if_neg k2] at hl
   by_cases k34 : t.kind = 3 \/ t.kind = 4
   · rw [if_pos k34];rw [if_pos k34] at hl;have hks := (yba t.ks _ 0 hl).2;have hsk := Mx.ks_small hsm;have hk : ∀ x ∈ t.ks, (x.bodyF nms).flat P /\ (x.bodyF nms).sz + 1000 <= 2000 * x.sz := fun x hx => ih x (by
      obtain ⟨i, hi, rfl⟩ := List.getElem_of_mem hx;have := Mx.kid_le t i hi
      omega) (wae hsk hx) (hks x hx)
     have hsum : ∀ l : List Mx, (∀ x ∈ l, (x.bodyF nms).flat P /\ (x.bodyF nms).sz + 1000 <= 2000 * x.sz) -> ((l.map (Mx.bodyF nms)).map Fm.sz).sum + 1000 * l.length <= 2000 * jr l := by
      intro l
      induction l with
      | nil => intro _; simp [jr]
      | cons x r ihl =>
        intro h;have h1 := (h x (by simp)).2;have h2 := ihl (fun y hy => h y (by simp [hy]));simp only [List.map_cons, List.sum_cons, List.length_cons, jr];omega
     have hts : t.sz = jr t.ks + 1 := by cases t; rfl
     have hsum' := hsum t.ks hk;generalize t.ks = ks at *;cases ks with
     | nil => simp only [List.map_nil, vad]; exact ⟨trivial, by simp only [Fm.sz]; omega⟩
     | cons x r =>
       simp only [List.map_cons, vad];have := foldl_flat (P := P) (k := t.kind) (r.map (Mx.bodyF nms)) (x.bodyF nms) (hk x (by simp)).1 (fun g hg => by
        obtain ⟨y, hy, rfl⟩ := List.mem_map.1 hg
        exact (hk y (by simp [hy])).1)
       refine ⟨this.1, ?_⟩;rw [this.2];simp only [List.map_cons, List.sum_cons, List.length_cons, List.length_map] at hsum' ⊢;omega
   · rw [if_neg k34]; exact ⟨trivial, by simp only [Fm.sz]; omega⟩
variable {all : List Bool} {f : Fm}
theorem kbf (hal : all.length = nms.length) (hf : f.flat (fun s => ∃ k, k < nms.length /\ s = nms.getD k ByteArray.empty)) (acc : List ByteArray) : ∀ j, j <= nms.length -> ∀ a : ByteArray -> Int, (∀ s, 0 <= a s) -> (∀ i, i < nms.length - j -> 0 < a (nms.getD i ByteArray.empty)) -> (toF 0 all nms f j).fold um a acc = acc
 | 0, _, a, h0, h1 => by
   rw [toF];refine Fm.fold_skip (fun s hs => ?_) f acc hf;obtain ⟨k, hk, rfl⟩ := hs;have := h1 k (by omega);omega
 | j + 1, hj, a, h0, h1 => by
   rw [toF, Fm.fold];refine kbf hal hf acc j (by omega) _ (fun s => ?_) (fun i hi => ?_)
   · have := h0 s;unfold bump; split <;> omega
   · unfold bump;have h2 := h0 (nms.getD i ByteArray.empty)
     split
     · omega
     · rename_i hne;rw [Nat.zero_add, hal] at hne
       by_cases he : i = nms.length - 1 - j
       · subst he; exact absurd rfl hne
       · exact h1 i (by omega)
theorem jbf (hal : all.length = nms.length) (hf : f.flat (fun s => ∃ k, k < nms.length /\ s = nms.getD k ByteArray.empty)) : (toF 0 all nms f nms.length).free = [] :=
 kbf hal hf [] nms.length (Nat.le_refl _) _ (fun _ => Int.le_refl _) (fun i hi => by omega)
theorem waw (hal : all.length = nms.length) (hf : f.bound = []) : ∀ j, j <= nms.length -> (toF 0 all nms f j).bound = nms.drop (nms.length - j)
 | 0, _ => by rw [toF, hf, Nat.sub_zero, List.drop_length]
 | j + 1, hj => by
   rw [toF, Fm.bound, waw hal hf j (by omega), Nat.zero_add, hal];have hk : nms.length - (j + 1) < nms.length := by omega
   rw [List.drop_eq_getElem_cons hk, show nms.length - 1 - j = nms.length - (j + 1) by omega, show nms.length - (j + 1) + 1 = nms.length - j by omega, List.getD_eq_getElem?_getD, List.getElem?_eq_getElem hk]
   rfl
theorem ka3 : ∀ j, (toF 0 all nms f j).noIff = f.noIff /\ (toF 0 all nms f j).sz = f.sz + j
 | 0 => ⟨rfl, rfl⟩
 | j + 1 => by rw [toF, Fm.noIff, Fm.sz, (ka3 j).1, (ka3 j).2]; exact ⟨rfl, by omega⟩
theorem qbf (hf : f.flat P) (hP : ∀ s, P s -> ql s = true) : ∀ j (a : ByteArray -> Int), ((toF 0 all nms f j).fold qae a ([], true)).2 = true
 | 0, a => Fm.fold_chk hP f a _ hf rfl
 | j + 1, a => by rw [toF, Fm.fold]; exact qbf hf hP j _
theorem ucq (hv : ∀ i (h : i < nms.length), ql nms[i] = true /\ hasB (nms.take i) nms[i] = false) (n0 : List ByteArray × Bool) (h0 : n0.2 = true) : ∀ k, k <= nms.length -> (((nms.take k).foldl kad (n0, [])).1.2 = true /\ ∀ s, has ((nms.take k).foldl kad (n0, [])).2 s = hasB (nms.take k) s)
 | 0, _ => ⟨h0, fun s => rfl⟩
 | k + 1, hk => by
   obtain ⟨h1, h2⟩ := ucq hv n0 h0 k (by omega);obtain ⟨h3, h4⟩ := hv k (by omega);rw [List.take_succ_eq_append_getElem (show k < nms.length by omega), List.foldl_append];simp only [List.foldl_cons, List.foldl_nil, kad];refine ⟨by rw [h1, h3, h2, h4]; rfl, fun s => ?_⟩;rw [jbm, h2];unfold hasB;rw [List.any_append];simp only [List.any_cons, List.any_nil, Bool.or_false]
   congr 1
   by_cases e : nms[k] = s
   · rw [decide_eq_true e, (MapKept.bytes_beq _ _).2 e]
   · rw [decide_eq_false e]
     symm
     rw [Bool.eq_false_iff];exact fun h => e ((MapKept.bytes_beq _ _).1 h)
theorem gcj (hal : all.length = nms.length) (hn : kz nms = true) (hf : f.flat (fun s => ∃ k, k < nms.length /\ s = nms.getD k ByteArray.empty)) : (toF 0 all nms f nms.length).nmE = 0 \/ (toF 0 all nms f nms.length).nmE = 8 := by
 have hnm := (of_decide_eq_true (show decide _ = true from hn)).2;have hb := waw hal (Fm.flat_bound f hf).1 nms.length (Nat.le_refl _);rw [Nat.sub_self, List.drop_zero] at hb;have hnote : (toF 0 all nms f nms.length).note.2 = true := qbf hf (fun s hs => by
  obtain ⟨k, hk, rfl⟩ := hs;rw [List.getD_eq_getElem?_getD, List.getElem?_eq_getElem hk]
  exact (hnm k hk).1) _ _
 have hq := (ucq hnm _ hnote nms.length (Nat.le_refl _)).1;rw [List.take_length] at hq;have hchk : (toF 0 all nms f nms.length).chk = 0 \/ (toF 0 all nms f nms.length).chk = 8 := by
  have hfree : (toF 0 all nms f nms.length).free = [] := jbf hal hf;have hno : ¬ ((toF 0 all nms f nms.length).free.foldl (gai ((toF 0 all nms f nms.length).bound.foldl kad ((toF 0 all nms f nms.length).note, [])).2) ((toF 0 all nms f nms.length).bound.foldl kad ((toF 0 all nms f nms.length).note, [])).1.2 = false) := by
   rw [hfree, hb];simp only [List.foldl_nil];rw [hq]
   decide
  unfold Fm.chk;rw [if_neg hno]
  split
  · exact .inr rfl
  · exact .inl rfl
 unfold Fm.nmE;rcases hchk with h | h
 · rw [h, if_pos rfl]
   split
   · exact .inl rfl
   · exact .inr rfl
 · rw [h, if_neg (by omega)];exact .inr rfl
end
end Go.Proofs.YtaedbimbbeploaaGreatDoor
