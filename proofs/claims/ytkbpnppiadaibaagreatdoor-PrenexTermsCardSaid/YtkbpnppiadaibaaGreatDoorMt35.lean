/- Layer 20: sparse.Mul at sparse forms of canonical polynomials. -/
import Derived.Test.YtkbpnppiadaibaaGreatDoorSOps
import Derived.Test.YtkbpnppiadaibaaGreatDoorMt34
set_option linter.unusedSimpArgs false
set_option linter.unusedVariables false

set_option maxRecDepth 100000
set_option maxHeartbeats 8000000
namespace Go.Proofs.YtkbpnppiadaibaaGreatDoor
open Go.RowKit
theorem smul_append (a b l : Sp) : smul (a ++ b) l = smul a l ++ smul b l := by
 induction a with
 | nil => rfl
 | cons x a ih => obtain ⟨c, m⟩ := x; simp only [List.cons_append, smul, ih, List.append_assoc]
theorem smul_take (a l : Sp) (k : Nat) (hk : k < a.length) : smul (a.take (k + 1)) l = smul (a.take k) l ++ stm a[k].1 a[k].2 l := by
 rw [List.take_succ_eq_append_getElem hk, smul_append]
 simp [smul]
theorem stm_len (c : Int) (m : Mo) (l : Sp) : (stm c m l).length = l.length := by simp [stm]
theorem stm_get (c : Int) (m : Mo) (l : Sp) (j : Nat) (hj : j < l.length) : (stm c m l)[j]'(by rw [stm_len]; exact hj) = (c * l[j].1, m.mul l[j].2) := by simp [stm]
theorem GatJ.mul {p q : Pl} {E D F G : Nat} (hp : Fit p E D) (hq : Fit q F G) (hE : E + F ≤ 900) (hD : D + G ≤ 17592186044000) (w : World) (k : Nat) (hk : k < p.sp.length) : GatJ w (smul (p.sp.take k) q.sp) (stm p.sp[k].1 p.sp[k].2 q.sp) (D + G) := by
 have hle : ∀ x ∈ smul (p.sp.take (k + 1)) q.sp, x.2.le ((900 : Nat) : Int) := fun x hx => by
  obtain ⟨y, hy, z, hz, rfl⟩ := smul_mem hx
  exact (Mo.mul_le (hp.sp_le y (List.mem_of_mem_take hy)) (hq.sp_le z hz)).mono (by omega)
 have hn : snrm (smul (p.sp.take (k + 1)) q.sp) < B32 ^ (D + G) := by
  rw [smul_nrm, Nat.pow_add]
  exact Nat.mul_lt_mul_of_lt_of_le (Nat.lt_of_le_of_lt (snrm_take _ _) hp.sp_nrm) (Nat.le_of_lt hq.sp_nrm) (Nat.pow_pos (by decide))
 rw [smul_take _ _ k hk] at hle hn
 refine ⟨hle, fun x hx => ?_, dg_length_le_of_lt hn, by omega⟩
 have h1 := snrm_mem (List.mem_append.2 (.inr hx) : x ∈ smul (p.sp.take k) q.sp ++ stm p.sp[k].1 p.sp[k].2 q.sp)
 exact dg_length_le_of_lt (Nat.lt_of_le_of_lt h1 hn)
theorem GatJ.mulAll {p q : Pl} {E D F G : Nat} (hp : Fit p E D) (hq : Fit q F G) (hE : E + F ≤ 900) (hD : D + G ≤ 17592186044000) (w : World) : GatJ w [] (smul p.sp q.sp) (D + G) := by
 have hn : snrm (smul p.sp q.sp) < B32 ^ (D + G) := by
  rw [smul_nrm, Nat.pow_add]
  exact Nat.mul_lt_mul_of_lt_of_le hp.sp_nrm (Nat.le_of_lt hq.sp_nrm) (Nat.pow_pos (by decide))
 refine ⟨fun x hx => ?_, fun x hx => ?_, dg_length_le_of_lt hn, by omega⟩
 · rw [List.nil_append] at hx
   obtain ⟨y, hy, z, hz, rfl⟩ := smul_mem hx
   exact (Mo.mul_le (hp.sp_le y hy) (hq.sp_le z hz)).mono (by omega)
 · exact dg_length_le_of_lt (Nat.lt_of_le_of_lt (snrm_mem hx) hn)
theorem exp_wrap {m n : Mo} (hm : m.nonneg) (hn : n.nonneg) (h : (m.mul n).le ((900 : Nat) : Int)) : IntKind.i64.wrap (m.a + n.a) = m.a + n.a ∧ IntKind.i64.wrap (m.b + n.b) = m.b + n.b ∧ IntKind.i64.wrap (m.c + n.c) = m.c + n.c ∧ IntKind.i64.wrap (m.d + n.d) = m.d + n.d := by
 unfold Mo.nonneg at hm hn
 unfold Mo.le Mo.mul at h
 simp only at h
 simp only [IntKind.wrap_i64]
 omega
def SMulIn (w2 Wa : World) (g7 : Nat) (acc st : Sp) (j : Nat) (wq : World) : Prop :=
 (∃ gv, GaV w2.heap.size wq (w2.heap.size + 1) w2.heap.size gv (gfold [] (acc ++ st.take j)) ∧ gv.ownBlock ≠ some g7) ∧ Ext w2 wq ∧ g7 < wq.heap.size ∧ w2.heap.size + 1 < g7 ∧ wq.heap[g7]? = Wa.heap[g7]?
theorem sMul_any {w : World} {p q : Pl} {E D F G : Nat} (v u : Value) (h : SpV w none v p.sp) (k : SpV w none u q.sp) (hp : Fit p E D) (hq : Fit q F G) (hE : E + F ≤ 900) (hD : D + G ≤ 8796093022000) : Calls Tryz.prog 69 #[v, u] w (RetSp (p.mul q).sp w) := by
 have HV := Lib.hid h
 have HU := Lib.hid k
 have HJ := Lib.hid (fun k hk => GatJ.mul hp hq hE (by omega) w k hk)
 have HJA := Lib.hid (GatJ.mulAll hp hq hE (by omega) w)
 have HRES := Lib.hid (Pl.sp_mul p q)
 have HNP := Lib.hid (fun (w' : World) (hx : Ext w w') => sNormal_any D (HV.out.ext hx) (fun z ⟨x, hx, e⟩ => by rw [← e]; exact hp.sp_dg x hx) (by have := dg_length_le_of_lt hp.sp_nrm; omega) (by have := Nat.le_trans hp.sp_len (pow4_le (show E ≤ 900 by omega)); omega))
 have HNQ := Lib.hid (fun (w' : World) (hx : Ext w w') => sNormal_any G (HU.out.ext hx) (fun z ⟨x, hx, e⟩ => by rw [← e]; exact hq.sp_dg x hx) (by have := dg_length_le_of_lt hq.sp_nrm; omega) (by have := Nat.le_trans hq.sp_len (pow4_le (show F ≤ 900 by omega)); omega))
 rw [Pl.sp_self] at HNP HNQ
 have HDP := Lib.hid hp.sp_dg
 have HDQ := Lib.hid hq.sp_dg
 have HPN := Lib.hid p.sp_nn
 have HQN := Lib.hid q.sp_nn
 have hsl := Nat.le_trans hp.sp_len (pow4_le (show E ≤ 900 by omega))
 have hsm := Nat.le_trans hq.sp_len (pow4_le (show F ≤ 900 by omega))
 obtain ⟨A0, c0, rfl, -⟩ := h
 obtain ⟨B0, d0, rfl, -⟩ := k
 clear hp hq
 generalize p.sp = lp at *
 generalize q.sp = lq at *
 generalize (p.mul q).sp = lr at *
 go_enter Tryz.func69, Tryz.ntmps69
 go_wp2_with fail
 refine (HNP.out w (Ext.refl w)).mono ?_
 rintro e w1 ⟨v1, rfl, s1, x1⟩
 obtain ⟨A1, c1, rfl, -, -, -⟩ := id s1
 have S1 := Lib.hid s1
 have X1 := Lib.hid x1
 clear s1 x1 HNP
 go_wp2_with fail
 refine (HNQ.out w1 X1.out).mono ?_
 rintro e w2 ⟨v2, rfl, s2, x2⟩
 obtain ⟨A2, c2, rfl, hc2, hc3, hat2⟩ := s2
 obtain ⟨A1', c1', e1, hc4, hc5, hat1⟩ := S1.out.ext x2
 injection e1 with e1 e2 e3
 subst e1 e3
 have HAT1 := Lib.hid hat1
 have HAT2 := Lib.hid hat2
 have X2 := Lib.hid (X1.out.trans x2)
 clear hat1 hat2 x2 HNQ S1 e2
 go_wp2_with fail
 refine (newGather_any w2).mono ?_
 rintro e w3 ⟨rfl, g3, x3⟩
 have HX3 := Lib.hid x3
 have HG3 := Lib.hid g3
 clear g3 x3
 go_wp2_with fail
 go_loopw [20] (fun iv wr => ∃ k : Nat, k ≤ lp.length ∧ iv = .int .i64 k ∧ Hid ((∃ gv, GaV w2.heap.size wr (w2.heap.size + 1) w2.heap.size gv (gfold [] (smul (lp.take k) lq))) ∧ Ext w2 wr)) (fun iv _ => lp.length - (intOf iv).toNat)
 case atStart => exact ⟨0, Nat.zero_le _, rfl, ⟨_, HG3.out⟩, HX3.out⟩
 case round =>
  obtain ⟨k, hk, rfl, ⟨⟨gv, hg⟩, hx⟩⟩ := hrel
  have HG := Lib.hid hg
  have HX := Lib.hid hx
  by_cases hlt : k < lp.length
  · obtain ⟨ad, b, B, n, d, rfl, hadb0, htm, hcf⟩ := HAT1.out k hlt
    have htm := htm.ext hx (by rw [block_of_add]; exact hadb0)
    have hadb := Nat.lt_of_lt_of_le hadb0 hx.size
    obtain ⟨t0, t1, t2, t3, t4, t5⟩ := htm
    obtain ⟨st, hst⟩ : ∃ st, stm lp[k].1 lp[k].2 lq = st := ⟨_, rfl⟩
    have hlst : st.length = lq.length := by rw [← hst, stm_len]
    have HSG : Hid (∀ j (hj : j < lq.length), st[j]'(by omega) = (lp[k].1 * lq[j].1, lp[k].2.mul lq[j].2)) := Lib.hid (by
     subst hst
     exact fun j hj => stm_get _ _ _ j hj)
    have HJK : Hid (GatJ w (smul (lp.take k) lq) st (D + G)) := Lib.hid (by rw [← hst]; exact HJ.out k hlt)
    have HTK : Hid (smul (lp.take (k + 1)) lq = smul (lp.take k) lq ++ st) := Lib.hid (by rw [← hst]; exact smul_take lp lq k hlt)
    have HMN := Lib.hid (HPN.out lp[k] (List.getElem_mem hlt))
    have hcd := HDP.out lp[k] (List.getElem_mem hlt)
    clear hst
    generalize lp[k] = lk at *
    obtain ⟨c, m⟩ := lk
    simp only at t2 t3 t4 t5 hcf HMN hcd HSG
    have HCF := Lib.hid (show IntN w2 (.agg #[.bool b, .slice B n d]) c from hcf)
    obtain ⟨Wa, hWa⟩ : ∃ Wa, wr.alloc (.cells #[.bool b, .slice B n d, .int .i64 m.a, .int .i64 m.b, .int .i64 m.c, .int .i64 m.d] 190) = Wa := ⟨_, rfl⟩
    have hWx : Ext wr Wa := by rw [← hWa]; exact (Ext.refl wr).alloc _
    have hTA : TmAt Wa ⟨wr.heap.size, 0, none⟩ b (.slice B n d) m := by
     rw [← hWa]; exact ⟨by simp [go_sem], by simp [go_sem], by simp [go_sem], by simp [go_sem], by simp [go_sem], by simp [go_sem]⟩
    have HTM : Hid (∀ wq : World, wq.heap[wr.heap.size]? = Wa.heap[wr.heap.size]? → TmAt wq ⟨wr.heap.size, 0, none⟩ b (.slice B n d) m) := Lib.hid (fun wq h => hTA.same (World.cell?_of_block (a := ⟨wr.heap.size, 0, none⟩) h) (fun i _ => World.cell?_of_block (a := ⟨wr.heap.size, 0 + i, none⟩) h))
    have HIN : Hid (SMulIn w2 Wa wr.heap.size (smul (lp.take k) lq) st 0 Wa) := Lib.hid (by
     have hgs := hg.2.2.2.2.2.1.2.2.2
     refine ⟨⟨gv, by simpa using hg.ext hWx, fun e => ?_⟩, hx.trans hWx, by rw [← hWa]; simp, hgs, rfl⟩
     have := (hg.2.2.2.2.1.own e).2
     omega)
    clear hg hx hcf hWx hTA hadb0
    go_wp2_with fail
    clear hWa t0 t1 t2 t3 t4 t5
    obtain ⟨w4, rfl⟩ : ∃ w4, w4 = wr := ⟨wr, rfl⟩
    go_loopw [26] (fun iv wr => ∃ j : Nat, j ≤ lq.length ∧ iv = .int .i64 j ∧ Hid (SMulIn w2 Wa w4.heap.size (smul (lp.take k) lq) st j wr)) (fun iv _ => lq.length - (intOf iv).toNat)
    case atStart => exact ⟨0, Nat.zero_le _, rfl, HIN.out⟩
    case round =>
     obtain ⟨j, hj, rfl, ⟨⟨gv, hg, hgo⟩, hx, hg7, hg8, hbk⟩⟩ := hrel
     have HBK := Lib.hid hbk
     have HG := Lib.hid hg
     have HGO := Lib.hid hgo
     have HX := Lib.hid hx
     by_cases hltj : j < lq.length
     · obtain ⟨ad2, b2, B2, n2, d2, rfl, hadb2, htm, hcf⟩ := HAT2.out j hltj
       have htm := htm.ext hx (by rw [block_of_add]; exact hadb2)
       have hadb2' := Nat.lt_of_lt_of_le hadb2 hx.size
       obtain ⟨t0, t1, t2, t3, t4, t5⟩ := htm
       obtain ⟨r0, r1, r2, r3, r4, r5⟩ := HTM.out _ hbk
       simp only [Nat.zero_add] at r0 r1 r2 r3 r4 r5
       have hSG := HSG.out j hltj
       have HQ := Lib.hid (HQN.out lq[j] (List.getElem_mem hltj))
       have hcq := HDQ.out lq[j] (List.getElem_mem hltj)
       have hle := HJK.out.le (st[j]'(by omega)) (List.mem_append.2 (.inr (List.getElem_mem _)))
       rw [hSG] at hle
       obtain ⟨e1, e2, e3, e4⟩ := exp_wrap HMN.out HQ.out hle
       have HADD : Hid (∀ W' x, Ext wr W' → IntN W' x (c * lq[j].1) → Calls Tryz.prog 126 #[.pointer (some ⟨w2.heap.size + 1, 0, none⟩), moV (m.mul lq[j].2), x] W' (GaPost w2.heap.size (w2.heap.size + 1) w2.heap.size gv (gfold [] (smul (lp.take k) lq ++ st.take (j + 1))) W')) := Lib.hid (by
        intro W' x hx' hi
        have h1 := HJK.out.add (k := j) (by omega) (HG.out.ext hx') (by have := HX.out.size; have := hx'.size; omega) (x := x) (by rw [hSG]; exact IntN.raw hi)
        rw [hSG] at h1
        exact h1)
       have HCG := Lib.hid (show IntN w2 (.agg #[.bool b2, .slice B2 n2 d2]) lq[j].1 from hcf)
       clear hg hgo hx hbk hcf hSG hle hadb2
       generalize lq[j] = l2 at *
       obtain ⟨c2, mn⟩ := l2
       simp only at t2 t3 t4 t5 e1 e2 e3 e4 HADD HCG hcq HQ
       obtain ⟨W5, hW5⟩ : ∃ W5, (wr.alloc (.cells #[.bool b2, .slice B2 n2 d2, .int .i64 mn.a, .int .i64 mn.b, .int .i64 mn.c, .int .i64 mn.d] 190)).alloc (.cells #[.int .i64 (m.a + mn.a), .int .i64 (m.b + mn.b), .int .i64 (m.c + mn.c), .int .i64 (m.d + mn.d)] 188) = W5 := ⟨_, rfl⟩
       simp only [moV, Mo.mul] at HADD
       have hi := fun w => index_mo mn.a mn.b mn.c mn.d w
       have hi0 := fun w => (hi w).1
       have hi1 := fun w => (hi w).2.1
       have hi2 := fun w => (hi w).2.2.1
       have hi3 := fun w => (hi w).2.2.2
       clear hi
       go_wp2_with fail
       refine wp_loop_rounds 5 ?_
       rw [rounds_succ]
       go_wp2_with fail
       rw [rounds_succ]
       go_wp2_with fail
       rw [rounds_succ]
       go_wp2_with fail
       rw [rounds_succ]
       go_wp2_with fail
       rw [rounds_succ]
       go_wp2_with fail
       have x5 : Ext wr W5 := by rw [← hW5]; exact ((Ext.refl wr).alloc _).alloc _
       have hs5 : W5.heap.size = wr.heap.size + 1 + 1 := by rw [← hW5]; simp
       have f0 : ∀ i, W5.cell? ⟨w4.heap.size, i, none⟩ = wr.cell? ⟨w4.heap.size, i, none⟩ := fun i => x5.cell (p := ⟨w4.heap.size, i, none⟩) hg7
       have f1 : W5.cell? ⟨wr.heap.size, 0, none⟩ = some (.bool b2) ∧ W5.cell? ⟨wr.heap.size, 1, none⟩ = some (.slice B2 n2 d2) := by rw [← hW5]; exact ⟨by simp [go_sem], by simp [go_sem]⟩
       have f2 : W5.cell? ⟨wr.heap.size + 1, 0, none⟩ = some (.int .i64 (m.a + mn.a)) ∧ W5.cell? ⟨wr.heap.size + 1, 1, none⟩ = some (.int .i64 (m.b + mn.b)) ∧ W5.cell? ⟨wr.heap.size + 1, 2, none⟩ = some (.int .i64 (m.c + mn.c)) ∧ W5.cell? ⟨wr.heap.size + 1, 3, none⟩ = some (.int .i64 (m.d + mn.d)) := by rw [← hW5]; exact ⟨by simp [go_sem], by simp [go_sem], by simp [go_sem], by simp [go_sem]⟩
       have HSS : Hid (∀ W', Ext w2 W' → W'.heap[w4.heap.size]? = W5.heap[w4.heap.size]? → W'.heap[wr.heap.size]? = W5.heap[wr.heap.size]? → W'.heap[wr.heap.size + 1]? = W5.heap[wr.heap.size + 1]? → (Ext w2 W' ∧ W'.cell? ⟨w4.heap.size, 0, none⟩ = some (.bool b) ∧ W'.cell? ⟨w4.heap.size, 1, none⟩ = some (.slice B n d) ∧ W'.cell? ⟨wr.heap.size, 0, none⟩ = some (.bool b2) ∧ W'.cell? ⟨wr.heap.size, 1, none⟩ = some (.slice B2 n2 d2) ∧ W'.cell? ⟨wr.heap.size + 1, 0, none⟩ = some (.int .i64 (m.a + mn.a)) ∧ W'.cell? ⟨wr.heap.size + 1, 1, none⟩ = some (.int .i64 (m.b + mn.b)) ∧ W'.cell? ⟨wr.heap.size + 1, 2, none⟩ = some (.int .i64 (m.c + mn.c)) ∧ W'.cell? ⟨wr.heap.size + 1, 3, none⟩ = some (.int .i64 (m.d + mn.d)))) := Lib.hid (by
        intro W' hx' h7 h9 h10
        have c7 : ∀ i, W'.cell? ⟨w4.heap.size, i, none⟩ = W5.cell? ⟨w4.heap.size, i, none⟩ := fun i => World.cell?_of_block (a := ⟨w4.heap.size, i, none⟩) h7
        have c9 : ∀ i, W'.cell? ⟨wr.heap.size, i, none⟩ = W5.cell? ⟨wr.heap.size, i, none⟩ := fun i => World.cell?_of_block (a := ⟨wr.heap.size, i, none⟩) h9
        have c10 : ∀ i, W'.cell? ⟨wr.heap.size + 1, i, none⟩ = W5.cell? ⟨wr.heap.size + 1, i, none⟩ := fun i => World.cell?_of_block (a := ⟨wr.heap.size + 1, i, none⟩) h10
        exact ⟨hx', (c7 0).trans ((f0 0).trans r0), (c7 1).trans ((f0 1).trans r1), (c9 0).trans f1.1, (c9 1).trans f1.2, (c10 0).trans f2.1, (c10 1).trans f2.2.1, (c10 2).trans f2.2.2.1, (c10 3).trans f2.2.2.2⟩)
       have HSE : Hid (∀ W', Ext W5 W' → (Ext w2 W' ∧ W'.cell? ⟨w4.heap.size, 0, none⟩ = some (.bool b) ∧ W'.cell? ⟨w4.heap.size, 1, none⟩ = some (.slice B n d) ∧ W'.cell? ⟨wr.heap.size, 0, none⟩ = some (.bool b2) ∧ W'.cell? ⟨wr.heap.size, 1, none⟩ = some (.slice B2 n2 d2) ∧ W'.cell? ⟨wr.heap.size + 1, 0, none⟩ = some (.int .i64 (m.a + mn.a)) ∧ W'.cell? ⟨wr.heap.size + 1, 1, none⟩ = some (.int .i64 (m.b + mn.b)) ∧ W'.cell? ⟨wr.heap.size + 1, 2, none⟩ = some (.int .i64 (m.c + mn.c)) ∧ W'.cell? ⟨wr.heap.size + 1, 3, none⟩ = some (.int .i64 (m.d + mn.d)))) := Lib.hid (fun W' hx' => HSS.out W' (HX.out.trans (x5.trans hx')) (hx'.below.block _ (by omega)) (hx'.below.block _ (by omega)) (hx'.below.block _ (by omega)))
       have HFIN : Hid (∀ W' w6 v', Ext W5 W' → GaV w2.heap.size w6 (w2.heap.size + 1) w2.heap.size v' (gfold [] (smul (lp.take k) lq ++ st.take (j + 1))) → Below w2.heap.size W' w6 → GaFar (w2.heap.size + 1) w2.heap.size gv v' W' w6 → (Ext w2 w6 ∧ w6.cell? ⟨w4.heap.size, 0, none⟩ = some (.bool b) ∧ w6.cell? ⟨w4.heap.size, 1, none⟩ = some (.slice B n d) ∧ w6.cell? ⟨wr.heap.size, 0, none⟩ = some (.bool b2) ∧ w6.cell? ⟨wr.heap.size, 1, none⟩ = some (.slice B2 n2 d2) ∧ w6.cell? ⟨wr.heap.size + 1, 0, none⟩ = some (.int .i64 (m.a + mn.a)) ∧ w6.cell? ⟨wr.heap.size + 1, 1, none⟩ = some (.int .i64 (m.b + mn.b)) ∧ w6.cell? ⟨wr.heap.size + 1, 2, none⟩ = some (.int .i64 (m.c + mn.c)) ∧ w6.cell? ⟨wr.heap.size + 1, 3, none⟩ = some (.int .i64 (m.d + mn.d))) ∧ SMulIn w2 Wa w4.heap.size (smul (lp.take k) lq) st (j + 1) w6) := Lib.hid (by
        intro W' w6 v' hx' hg' hb' hf'
        have hs' := hx'.size
        have hown : ∀ R, gv.ownBlock = some R → R < wr.heap.size := fun R hR => (HG.out.2.2.2.2.1.own hR).2
        have h7 := (hf'.1 w4.heap.size (by omega) (by omega) (by omega) HGO.out).trans (hx'.below.block _ (by omega))
        have h9 := (hf'.1 wr.heap.size (by omega) (by omega) (by omega) (fun e => by have := hown _ e; omega)).trans (hx'.below.block _ (by omega))
        have h10 := (hf'.1 (wr.heap.size + 1) (by omega) (by omega) (by omega) (fun e => by have := hown _ e; omega)).trans (hx'.below.block _ (by omega))
        have hx6 : Ext w2 w6 := Below.trans (HX.out.trans (x5.trans hx')) hb'
        refine ⟨HSS.out w6 hx6 h7 h9 h10, ⟨v', hg', fun e => ?_⟩, hx6, ?_, hg8, h7.trans ((x5.below.block _ hg7).trans HBK.out)⟩
        · rcases hf'.2 with h | ⟨R, h, hR⟩
          · exact HGO.out (h.symm.trans e)
          · rw [h] at e; injection e with e; omega
        · have h0 : W5.heap[w4.heap.size]? ≠ none := by rw [Ne, Array.getElem?_eq_none_iff]; omega
          rw [← hx'.below.block _ (show w4.heap.size < W5.heap.size by omega), ← hf'.1 w4.heap.size (by omega) (by omega) (by omega) HGO.out, Ne, Array.getElem?_eq_none_iff] at h0
          omega)
       have HMI : Hid (∀ W', Ext W5 W' → IntR W' (.agg #[.bool b, .slice B n d]) c (dg c.natAbs).length ∧ IntR W' (.agg #[.bool b2, .slice B2 n2 d2]) c2 (dg c2.natAbs).length) := Lib.hid (fun W' hx' => ⟨IntN.raw (HCF.out.ext (HX.out.trans (x5.trans hx'))), IntN.raw (HCG.out.ext (HX.out.trans (x5.trans hx')))⟩)
       have X5 := Lib.hid x5
       have y0 : Ext W5 W5.drew := (Ext.refl W5).drew
       have Y0 := Lib.hid y0
       clear y0 x5 hW5 t0 t1 t2 t3 t4 t5 r0 r1 r2 r3 r4 r5 f0 f1 f2 htm hi0 hi1 hi2 hi3 e1 e2 e3 e4
       go_region_held3 (fun W' => Ext w2 W' ∧ W'.cell? ⟨w4.heap.size, 0, none⟩ = some (.bool b) ∧ W'.cell? ⟨w4.heap.size, 1, none⟩ = some (.slice B n d) ∧ W'.cell? ⟨wr.heap.size, 0, none⟩ = some (.bool b2) ∧ W'.cell? ⟨wr.heap.size, 1, none⟩ = some (.slice B2 n2 d2) ∧ W'.cell? ⟨wr.heap.size + 1, 0, none⟩ = some (.int .i64 (m.a + mn.a)) ∧ W'.cell? ⟨wr.heap.size + 1, 1, none⟩ = some (.int .i64 (m.b + mn.b)) ∧ W'.cell? ⟨wr.heap.size + 1, 2, none⟩ = some (.int .i64 (m.c + mn.c)) ∧ W'.cell? ⟨wr.heap.size + 1, 3, none⟩ = some (.int .i64 (m.d + mn.d)))
        (first | with_reducible exact HSE.out _ Y0.out | with_reducible exact HSE.out _ y1 | with_reducible exact s6)
        ((first
          | (go_at_call 128
             refine (mul_int _ _ c c2 _ _ _ (HMI.out _ Y0.out).1 (HMI.out _ Y0.out).2 (by omega)).mono ?_
             rintro e v1 ⟨x1, rfl, n1, x1'⟩
             have N1 := Lib.hid n1
             have y1 : Ext W5 v1 := Y0.out.trans x1'
             clear n1 x1')
          | (go_at_call 126
             refine (HADD.out _ _ (X5.out.trans y1) N1.out).mono ?_
             rintro e v2 ⟨rfl, v', g', b', -, f'⟩
             obtain ⟨s6, q6⟩ := HFIN.out _ v2 v' y1 g' b' f'
             have Q6 := Lib.hid q6
             clear g' b' f' q6)))
       all_goals
        clear y1 s6
        go_wp2_with fail
        go_roundw
        case rel => exact ⟨j + 1, by omega, by go_num, Q6.out⟩
        case measure => simp [intOf]; omega
     · have HF : Hid ((∃ gv, GaV w2.heap.size wr (w2.heap.size + 1) w2.heap.size gv (gfold [] (smul (lp.take (k + 1)) lq))) ∧ Ext w2 wr) := Lib.hid (by
        refine ⟨⟨gv, ?_⟩, hx⟩
        rw [HTK.out]
        rw [show st.take j = st by rw [show j = st.length by omega, List.take_length]] at hg
        exact hg)
       clear hg hgo hx hbk HG HGO HX HBK
       go_wp2_with fail
       go_roundw
       case rel => exact ⟨k + 1, by omega, by go_num, HF.out⟩
       case measure => simp [intOf]; omega
  · have hke : lp.take k = lp := by rw [show k = lp.length by omega, List.take_length]
    rw [hke] at HG
    have HCALL := Lib.hid (HJA.out.poly (acc := []) HG.out)
    rw [List.nil_append, HRES.out] at HCALL
    clear hg hx hke
    go_wp2_with fail
    refine HCALL.out.mono ?_
    rintro e w5 ⟨v5, rfl, s5, x5⟩
    have HF : Hid (SpV w5 none v5 lr ∧ Ext w w5) := Lib.hid ⟨s5, X2.out.trans (HX.out.trans x5)⟩
    obtain ⟨A5, c5, rfl, -⟩ := id s5
    clear s5 x5
    go_wp2_with fail
    go_ret
    exact ⟨_, rfl, HF.out⟩
end Go.Proofs.YtkbpnppiadaibaaGreatDoor

/- Layer 20: sparse.Pow at the sparse form of a canonical polynomial; layer 21: recpoly.Of. -/
set_option maxRecDepth 100000
set_option maxHeartbeats 8000000
namespace Go.Proofs.YtkbpnppiadaibaaGreatDoor
open Go.RowKit
theorem sPow_any {w : World} {p : Pl} {E D : Nat} {n : Int} (v0 : Value) (h0 : SpV w none v0 p.sp) (hp : Fit p E D) (hE1 : E ≤ 450) (hE : n.toNat * E ≤ 450) (hD1 : D ≤ 4398046511000) (hD : n.toNat * D + 1 ≤ 4398046511000) (hn : n ≤ 1000000) :
 Calls Tryz.prog 66 #[v0, .int .i64 n] w (RetSp (p.pow n.toNat).sp w) := by
 have HF : Hid (∀ k, k ≤ n.toNat → Fit (p.pow k) 450 4398046511000) := Lib.hid fun k hk => (hp.pow_le hk).mono hE hD
 have HP := Lib.hid (hp.mono hE1 hD1)
 have H0 := Lib.hid h0
 have HN : Hid (∀ w', Ext w w' → Calls Tryz.prog 72 #[v0] w' (RetSp p.sp w')) := Lib.hid (fun w' hx => by
  have := sNormal_any D (H0.out.ext hx) (fun z ⟨x, hx, e⟩ => by rw [← e]; exact hp.sp_dg x hx) (by have := dg_length_le_of_lt hp.sp_nrm; omega) (by have := Nat.le_trans hp.sp_len (pow4_le (show E ≤ 900 by omega)); omega)
  rw [Pl.sp_self] at this
  exact this)
 obtain ⟨A0, c0, rfl, -⟩ := h0
 clear hp hE hD
 go_enter Tryz.func66, Tryz.ntmps66
 go_wp2_with fail
 refine (of_int 1 w (by omega) (by omega)).mono ?_
 rintro e w1 ⟨z1, rfl, m1, x1⟩
 have HI : Hid (IntR w1 z1 1 1) := Lib.hid (by
  obtain ⟨y1, rfl, n1⟩ := m1
  exact intR_of n1 (show (dg (1 : Int).natAbs).length ≤ 1 from dg_length_le_of_lt (by decide)))
 obtain ⟨y1, rfl, n1⟩ := m1
 obtain ⟨C1, k1, rfl, -⟩ := n1
 have X1 := Lib.hid x1
 clear x1
 go_wp2_with fail
 refine (sConst_any _ HI.out (by omega)).mono ?_
 rintro e w2 ⟨v2, rfl, s2, x2⟩
 have s2' : SpV w2 none v2 (p.pow 0).sp := s2
 obtain ⟨A2, c2, rfl, -⟩ := id s2'
 have S2 := Lib.hid s2'
 have X2 := Lib.hid (X1.out.trans x2)
 clear s2 s2' x2
 go_wp2_with fail
 refine (HN.out _ X2.out).mono ?_
 rintro e w3 ⟨v3, rfl, s3, x3⟩
 obtain ⟨A3, c3, rfl, -⟩ := id s3
 have S3 := Lib.hid s3
 have S2' := Lib.hid (S2.out.ext x3)
 have X3 := Lib.hid (X2.out.trans x3)
 clear s3 x3 S2 HN
 go_wp2_with fail
 go_loopw [6] (fun hv wr => ∃ m : Nat, hv = .int .i64 m ∧ Hid ((∃ k, m = 2 ^ k) ∧ Ext w3 wr) ∧ 1 ≤ m ∧ (m ≤ n.toNat ∨ m = 1) ∧ (n ≤ 0 → m = 1)) (fun hv _ => n.toNat + 1 - (intOf hv).toNat)
 case atStart => exact ⟨1, rfl, ⟨⟨0, rfl⟩, Ext.refl _⟩, Nat.le_refl _, .inr rfl, fun _ => rfl⟩
 case round =>
  obtain ⟨m, rfl, hh0, hm1, hm2, hm3⟩ := hrel
  have HH := Lib.hid hh0.out
  clear hh0
  by_cases hgo : 0 < n ∧ m ≤ n.toNat / 2
  · obtain ⟨h0, hle⟩ := hgo
    have hle' : (m : Int) ≤ n / 2 := by omega
    have hw : IntKind.i64.wrap ((m : Int) * 2) = ((m * 2 : Nat) : Int) := by rw [IntKind.wrap_i64]; omega
    have HL := Lib.hid hle
    clear hle
    go_wp2_with fail
    go_roundw
    case rel =>
     obtain ⟨⟨k, hk⟩, hj⟩ := HH.out
     have hle := HL.out
     exact ⟨m * 2, by rw [Int.natCast_mul]; rfl, ⟨⟨k + 1, by rw [hk, Nat.pow_succ]⟩, hj⟩, by omega, .inl (by omega), fun h => by omega⟩
    case measure => have hle := HL.out; simp [intOf]; omega
  · have HE : Hid (PowE n m 0) := Lib.hid (by
     by_cases h0 : 0 < n
     · obtain ⟨⟨k, hk⟩, -⟩ := HH.out
       have hle : ¬ m ≤ n.toNat / 2 := fun e => hgo ⟨h0, e⟩
       refine .inr ⟨h0, .inl ⟨k, hk, (Nat.div_eq_of_lt ?_).symm⟩⟩
       rw [Nat.pow_succ, ← hk]
       omega
     · exact .inl ⟨by omega, rfl⟩)
    have hmn : m ≤ n.toNat + 1 := by omega
    have HM := Lib.hid hmn
    obtain ⟨w4, rfl⟩ : ∃ w4, w4 = wr := ⟨wr, rfl⟩
    have S4 := Lib.hid (S2'.out.ext HH.out.2)
    by_cases h0 : 0 < n
    focus
     have hle' : ¬ (m : Int) ≤ n / 2 := by omega
     clear hgo hm1 hm2 hm3 hmn
     go_wp2_with fail
     clear hle'
    rotate_left
    focus
     clear hgo hm1 hm2 hm3 hmn
     go_wp2_with fail
    all_goals
     go_loopw [5, 7] (fun rv tv wr => ∃ b e : Nat, tv = .int .i64 b ∧ (∃ A c, rv = .slice A (p.pow e).sp.length c) ∧ Hid (PowE n b e ∧ SpV wr none rv (p.pow e).sp ∧ Ext w3 wr) ∧ b ≤ n.toNat + 1) (fun _ tv _ => (intOf tv).toNat)
     case atStart => exact ⟨m, 0, rfl, ⟨A2, c2, rfl⟩, ⟨HE.out, S4.out, HH.out.2⟩, HM.out⟩
     case round =>
      obtain ⟨b, e, rfl, ⟨Ar, cr, rfl⟩, hh1, hb⟩ := hrel
      have HSR := Lib.hid hh1.out.2.1
      have HXR := Lib.hid hh1.out.2.2
      have hpe := hh1.out.1
      clear hh1 HE HH HM S4
      by_cases hdo : 0 < n ∧ 0 < b
      · first
        | (exfalso; omega)
        | (obtain ⟨hn0, hb0⟩ := hdo
           obtain ⟨j, hbj, hej⟩ : ∃ j, b = 2 ^ j ∧ e = n.toNat / 2 ^ (j + 1) := by
            rcases hpe with ⟨h, -⟩ | ⟨-, h | ⟨h, -⟩⟩
            · omega
            · exact h
            · omega
           have HNX := Lib.hid (PowE.next hn0 hbj hej)
           have hbn : b ≤ 1000001 := by omega
           obtain ⟨c, hc⟩ : ∃ c, b / 2 = c := ⟨_, rfl⟩
           have hq : (b : Int) / 2 = (c : Int) := by omega
           have hcb : c < b := by omega
           rw [hc] at HNX
           clear hc
           have hand0 : bits .and .i64 n (b : Int) = ((b * (n.toNat / 2 ^ j % 2) : Nat) : Int) := by
            have h1 := i64_and_nat n.toNat b (by omega) (by omega)
            rw [show ((n.toNat : Nat) : Int) = n by omega] at h1
            rw [h1, hbj, bit_and]
           have hbt : n.toNat / 2 ^ j % 2 < 2 := Nat.mod_lt _ (by decide)
           clear hbj hej hpe
           generalize n.toNat / 2 ^ j % 2 = bt at *
           go_wp2_with fail
           refine (sMul_any _ _ HSR.out HSR.out (HF.out e HNX.out.2.2) (HF.out e HNX.out.2.2) (by omega) (by omega)).mono ?_
           rintro _ w5 ⟨v5, rfl, m5, x5⟩
           rw [Pl.pow_twice] at m5
           obtain ⟨A5, c5, rfl, -⟩ := id m5
           have HS5 := Lib.hid m5
           have HX5 := Lib.hid (HXR.out.trans x5)
           clear m5 x5
           rcases (show bt = 0 ∨ bt = 1 by omega) with rfl | rfl
           · have hand : bits .and .i64 n (b : Int) = 0 := by rw [hand0]; simp
             clear hand0
             go_wp2_with fail
             go_roundw
             case rel => exact ⟨c, 2 * e, rfl, ⟨A5, c5, rfl⟩, ⟨HNX.out.1, HS5.out, HX5.out⟩, by omega⟩
             case measure => simp [intOf]; omega
           · have hand : bits .and .i64 n (b : Int) = (b : Int) := by rw [hand0]; simp
             have hne : ((b : Int) != 0) = true := by simp; omega
             clear hand0
             go_wp2_with fail
             refine (sMul_any _ _ HS5.out (S3.out.ext HX5.out) (HF.out (2 * e) (by have := HNX.out.2.1; omega)) HP.out (by omega) (by omega)).mono ?_
             rintro _ w6 ⟨v6, rfl, m6, x6⟩
             rw [show (p.pow (2 * e)).mul p = p.pow (2 * e + 1) from rfl] at m6
             obtain ⟨A6, c6, rfl, -⟩ := id m6
             have HS6 := Lib.hid m6
             have HX6 := Lib.hid (HX5.out.trans x6)
             clear m6 x6
             go_wp2_with fail
             go_roundw
             case rel => exact ⟨c, 2 * e + 1, rfl, ⟨A6, c6, rfl⟩, ⟨HNX.out.1, HS6.out, HX6.out⟩, by omega⟩
             case measure => simp [intOf]; omega)
      · have HEQ : Hid (p.pow e = p.pow n.toNat) := Lib.hid (by
         rcases hpe with ⟨h1, h2⟩ | ⟨h1, ⟨j, h2, -⟩ | ⟨h2, h3⟩⟩
         · rw [h2, show n.toNat = 0 by omega]
         · have : 0 < b := by rw [h2]; exact Nat.pow_pos (by decide)
           exact absurd ⟨h1, this⟩ hdo
         · rw [h3])
        have hex : n ≤ 0 ∨ (0 < n ∧ b = 0) := by omega
        clear hdo hpe
        rw [HEQ.out] at HSR
        rcases hex with h1 | ⟨h1, rfl⟩
        all_goals first
          | (exfalso; omega)
          | (go_wp2_with fail
             go_ret
             exact ⟨_, rfl, by have := HSR.out; rw [HEQ.out]; exact this, X3.out.trans HXR.out⟩)
theorem rOf_any {w : World} {p : Pl} {E D : Nat} (v : Value) (h : SpV w none v p.sp) (hp : Fit p E D) (hE : E ≤ 900) (hD : D ≤ 17592186044000) : Calls Tryz.prog 25 #[v] w (RetPl (fun b => w.heap.size ≤ b) p w) := by
 have H0 := Lib.hid h
 have HN : Hid (∀ w', Ext w w' → Calls Tryz.prog 72 #[v] w' (RetSp p.sp w')) := Lib.hid (fun w' hx => by
  have := sNormal_any D (H0.out.ext hx) (fun z ⟨x, hx, e⟩ => by rw [← e]; exact hp.sp_dg x hx) (by have := dg_length_le_of_lt hp.sp_nrm; omega) (by have := Nat.le_trans hp.sp_len (pow4_le (show E ≤ 900 by omega)); omega)
  rw [Pl.sp_self] at this
  exact this)
 have HBO : Hid (BldOk 4 p.sp) := Lib.hid ⟨p.sp_can, p.sp_nn, ⟨Mo.one, fun x _ i h1 h2 => by omega⟩, fun x hx => (hp.sp_le x hx).mono (by omega)⟩
 have HBP : Hid (bld 4 p.sp = p) := Lib.hid (by have := Pl.sp_ofS hp.can; unfold Pl.ofS at this; rw [Pl.sp_self] at this; exact this)
 have HCAN := Lib.hid hp.can
 have HSZ := Lib.hid (Nat.le_trans hp.sz (Nat.le_trans (Nat.pow_le_pow_left (show E + 2 ≤ 1002 by omega) 4) (show 1002 ^ 4 ≤ 1099511627776 by decide)))
 have HDM := Lib.hid (Nat.le_trans hp.dm (show D ≤ 35184372088832 by omega))
 obtain ⟨A0, c0, rfl, -⟩ := h
 obtain ⟨W, hW⟩ : ∃ W, w.alloc (.cells #[.int .i64 0, .bool false, .slice none 0 0, .slice none 0 0] 42) = W := ⟨_, rfl⟩
 have HWX : Hid (Ext w W) := Lib.hid (by rw [← hW]; exact (Ext.refl w).alloc _)
 have HZ : Hid (Zero4 W w.heap.size) := Lib.hid (by rw [← hW]; exact Zero4.new w _)
 have hWs : W.heap.size = w.heap.size + 1 := by rw [← hW]; simp
 clear hp
 go_enter Tryz.func25, Tryz.ntmps25
 go_wp2_with fail
 clear hW
 refine (HN.out _ HWX.out).mono ?_
 rintro e w1 ⟨v1, rfl, ⟨A1, c1, rfl, hl1, hl2, hat1⟩, x1⟩
 have HB := Lib.hid (build_ih w1 4 (Nat.le_refl _) p.sp A1 c1 w1 hat1 hl1 hl2 HBO.out (Ext.refl w1))
 rw [HBP.out] at HB
 have X1 := Lib.hid (HWX.out.trans x1)
 have HZ1 := Lib.hid (HZ.out.ext x1 (by omega))
 have hs1 := x1.size
 clear x1 hat1 HBO HN
 go_wp2_with fail
 refine HB.out.mono ?_
 rintro e w2 ⟨v2, rfl, p2, x2⟩
 have HC := Lib.hid (copy_any p v2 HCAN.out HSZ.out HDM.out p2)
 obtain ⟨C0, j0, f0, C1, f1, rfl, -⟩ := id p2.open_
 have X2 := Lib.hid (X1.out.trans x2)
 have HZ2 := Lib.hid (HZ1.out.ext x2 (by omega))
 have hs2 := x2.size
 clear p2 x2 HB
 unfold plV at *
 go_wp2_with fail
 refine HC.out.mono ?_
 rintro e w3 ⟨v3, rfl, p3, x3⟩
 obtain ⟨D0, j1, g0, D1, g1, rfl, -⟩ := id p3.open_
 obtain ⟨⟨z0, z1, z2, z3⟩, zf⟩ := HZ2.out.ext x3 (by omega)
 have HF := Lib.hid (close_pl (q' := fun b => w.heap.size ≤ b) (X2.out.trans x3) (Nat.le_refl _) (HZ2.out.ext x3 (by omega)) p3 (fun b _ hb => ⟨by omega, by omega⟩))
 clear p3 x3 HC HZ2
 unfold plV
 go_wp2_with fail
 exact bodyPost_ret (v := plV p (.slice D0 j1 g0) (.slice D1 p.cs.length g1)) (by simp [results, Tryz.results25, go_sem, z0, z1, z2, z3, plV]) rfl HF.out
end Go.Proofs.YtkbpnppiadaibaaGreatDoor
