/- Layer 20: newGather, (*gather).poly. -/
import Derived.Test.YtkbpnppiadaibaaGreatDoorMt22
set_option linter.unusedSimpArgs false
set_option linter.unusedVariables false

set_option maxRecDepth 100000
set_option maxHeartbeats 8000000
namespace Go.Proofs.YtkbpnppiadaibaaGreatDoor
open Go.RowKit
theorem newGather_any (w : World) : Calls Tryz.prog 125 #[] w fun e w' => e = .returned (.pointer (some ⟨w.heap.size + 1, 0, none⟩)) ∧ GaV w.heap.size w' (w.heap.size + 1) w.heap.size (.slice none 0 0) [] ∧ Ext w w' := by
 obtain ⟨W, hW⟩ : ∃ W, (w.alloc (.map #[] 0)).alloc (.cells #[.map (some w.heap.size), .slice none 0 0] 231) = W := ⟨_, rfl⟩
 have hx1 : Ext w (w.alloc (.map #[] 0)) := (Ext.refl w).alloc _
 have hx2 : Ext (w.alloc (.map #[] 0)) W := by rw [← hW]; exact (Ext.refl _).alloc _
 have hg : GaV w.heap.size W (w.heap.size + 1) w.heap.size (.slice none 0 0) [] := by
  refine ⟨?_, ?_, fun i => ?_, (MMap.made w).ext hx2, TsV.nil _ _ _, ⟨by omega, Nat.le_refl _, by omega, by rw [← hW]; simp⟩, fun R e => by cases e⟩
  · rw [← hW]; simp [go_sem]
  · rw [← hW]; simp [go_sem]
  · rw [← hW]; simp [go_sem]
 have HG := Lib.hid hg
 have HX := Lib.hid (hx1.trans hx2)
 clear hg hx1 hx2
 have hmm := @run_makeMap Tryz.prog
 go_enter Tryz.func125, Tryz.ntmps125
 go_wp2_with fail
 go_ret
 exact ⟨rfl, HG.out, HX.out⟩
def nz (l : Sp) : Sp := l.filter fun x => decide (x.1 ≠ 0)
theorem nz_take_zero (l : Sp) (k : Nat) (hk : k < l.length) (h : l[k].1 = 0) : nz (l.take (k + 1)) = nz (l.take k) := by
 unfold nz
 rw [List.take_succ_eq_append_getElem hk, List.filter_append, List.filter_cons]
 simp [h]
theorem nz_take_pos (l : Sp) (k : Nat) (hk : k < l.length) (h : l[k].1 ≠ 0) : nz (l.take (k + 1)) = nz (l.take k) ++ [l[k]] := by
 unfold nz
 rw [List.take_succ_eq_append_getElem hk, List.filter_append, List.filter_cons]
 simp [h]
theorem nz_len (l : Sp) : (nz l).length ≤ l.length := List.length_filter_le _ _
theorem nz_coef (l : Sp) (k : Mo) : scoef (nz l) k = scoef l k := by
 induction l with
 | nil => rfl
 | cons x r ih =>
   obtain ⟨c, m⟩ := x
   unfold nz at ih ⊢
   rw [List.filter_cons]
   by_cases h : c = 0
   · rw [if_neg (by simpa using h), ih, scoef, h]; split <;> omega
   · rw [if_pos (by simpa using h), scoef, scoef, ih]
theorem scoef_perm {l l' : Sp} (h : l'.Perm l) (k : Mo) : scoef l' k = scoef l k := by
 induction h with
 | nil => rfl
 | cons x _ ih => obtain ⟨c, m⟩ := x; simp only [scoef, ih]
 | swap x y l => obtain ⟨c, m⟩ := x; obtain ⟨d, n⟩ := y; simp only [scoef]; omega
 | trans _ _ ih1 ih2 => exact ih1.trans ih2
theorem scan_of {l : Sp} (h0 : ∀ x ∈ l, x.1 ≠ 0) (h : l.Pairwise fun x y => y.2.lt x.2) : SCan l := by
 induction l with
 | nil => exact trivial
 | cons x r ih =>
   obtain ⟨c, m⟩ := x
   rw [List.pairwise_cons] at h
   exact ⟨h0 (c, m) (by simp), fun y hy => h.1 y hy, ih (fun y hy => h0 y (by simp [hy])) h.2⟩
theorem sorted_snorm {l l' : Sp} (hp : l'.Perm (nz l)) (ha : Apart l) (hn : ∀ x ∈ l, x.2.nonneg) (hs : ∀ i j (hi : i < l'.length) (hj : j < l'.length), i < j → ¬ (l'[i].2).lt l'[j].2) : l' = snorm l := by
 have hmem : ∀ x ∈ l', x ∈ l ∧ x.1 ≠ 0 := fun x hx => by
  have := hp.mem_iff.1 hx
  unfold nz at this
  obtain ⟨h1, h2⟩ := List.mem_filter.1 this
  exact ⟨h1, by simpa using h2⟩
 have hap : Apart l' := by
  unfold Apart at ha ⊢
  have h1 : (nz l).Pairwise fun x y => x.2 ≠ y.2 := List.Pairwise.filter _ ha
  exact (hp.pairwise_iff (fun {x y} h => fun e => h e.symm)).2 h1
 have hpw : l'.Pairwise fun x y => y.2.lt x.2 := by
  rw [List.pairwise_iff_getElem]
  unfold Apart at hap
  rw [List.pairwise_iff_getElem] at hap
  intro i j hi hj hij
  rcases Mo.tri l'[i].2 l'[j].2 with h | h | h
  · exact absurd h (hs i j hi hj hij)
  · exact absurd h (hap i j hi hj hij)
  · exact h
 exact snorm_eq (scan_of (fun x hx => (hmem x hx).2) hpw) (fun x hx => hn x (hmem x hx).1) (fun k _ => by rw [scoef_perm hp, nz_coef])
theorem polyO_any {base G M : Nat} {v : Value} {l : Sp} {w : World} (h : GaV base w G M v l) (ha : Apart l) (hnn : ∀ x ∈ l, x.2.nonneg) (hlen : l.length ≤ 1099511627776) : Calls Tryz.prog 127 #[.pointer (some ⟨G, 0, none⟩)] w fun e w' => ∃ v', e = .returned v' ∧ SpO w.heap.size w' v' (snorm l) ∧ Ext w w' := by
 obtain ⟨g0, g1, gf, -, gt, -, -⟩ := h
 obtain ⟨At, ct, e, hl1, hl2, hat⟩ := gt.sp
 subst e
 have HAT := Lib.hid hat
 have HA := Lib.hid ha
 have HNN := Lib.hid hnn
 clear hat gt ha hnn gf
 go_enter Tryz.func127, Tryz.ntmps127
 go_wp2_with fail
 go_loopw [3, 11] (fun rv iv wr => ∃ k : Nat, k ≤ l.length ∧ iv = .int .i64 k ∧ (∃ Ak ck, rv = .slice Ak (nz (l.take k)).length ck) ∧ Hid (TsV none w.heap.size wr rv (nz (l.take k)) ∧ Ext w wr)) (fun _ iv _ => l.length - (intOf iv).toNat)
 case atStart => exact ⟨0, Nat.zero_le _, rfl, ⟨none, 0, rfl⟩, TsV.nil _ _ _, Ext.refl _⟩
 case round =>
  obtain ⟨k, hk, rfl, ⟨Ak, ck, rfl⟩, ⟨ht, hx⟩⟩ := hrel
  have HT := Lib.hid ht
  have HX := Lib.hid hx
  by_cases hlt : k < l.length
  · obtain ⟨ad, b, B, n, c, rfl, hadb, htm, hcf⟩ := HAT.out.ext hx k hlt
    obtain ⟨t0, t1, t2, t3, t4, t5⟩ := htm
    have HCF := Lib.hid hcf
    have hnzl : (nz (l.take k)).length ≤ k := by have := nz_len (l.take k); rw [List.length_take] at this; omega
    have HTZ := Lib.hid (nz_take_zero l k hlt)
    have HTP := Lib.hid (nz_take_pos l k hlt)
    have HEQ : Hid (l[k] = (l[k].1, l[k].2)) := rfl
    clear ht hx hcf
    generalize l[k] = lk at *
    go_wp2_with fail
    refine (sign_int _ lk.1 _ _ ((Cf.raw HCF.out).ext ((Ext.refl _).alloc _))).mono ?_
    rintro e w2 ⟨rfl, x2⟩
    have y2 : Ext wr w2 := ((Ext.refl wr).alloc _).trans x2
    have hb2 : ∀ i, w2.cell? ⟨wr.heap.size, i, none⟩ = (wr.alloc (.cells #[.bool b, .slice B n c, .int .i64 lk.2.a, .int .i64 lk.2.b, .int .i64 lk.2.c, .int .i64 lk.2.d] 190)).cell? ⟨wr.heap.size, i, none⟩ := fun i => x2.cell (p := ⟨wr.heap.size, i, none⟩) (by simp)
    have e0 : w2.cell? ⟨wr.heap.size, 0, none⟩ = some (.bool b) := by rw [hb2]; simp [go_sem]
    have e1 : w2.cell? ⟨wr.heap.size, 1, none⟩ = some (.slice B n c) := by rw [hb2]; simp [go_sem]
    have e2 : w2.cell? ⟨wr.heap.size, 2, none⟩ = some (.int .i64 lk.2.a) := by rw [hb2]; simp [go_sem]
    have e3 : w2.cell? ⟨wr.heap.size, 3, none⟩ = some (.int .i64 lk.2.b) := by rw [hb2]; simp [go_sem]
    have e4 : w2.cell? ⟨wr.heap.size, 4, none⟩ = some (.int .i64 lk.2.c) := by rw [hb2]; simp [go_sem]
    have e5 : w2.cell? ⟨wr.heap.size, 5, none⟩ = some (.int .i64 lk.2.d) := by rw [hb2]; simp [go_sem]
    by_cases hz : lk.1 = 0
    · have hq : (sgI lk.1 != 0) = false := by rw [hz]; rfl
      have HT2 : Hid (TsV none w.heap.size w2 (.slice Ak (nz (l.take k)).length ck) (nz (l.take k))) := HT.out.ext y2
      have HX2 := Lib.hid (HX.out.trans y2)
      have HZ := Lib.hid (HTZ.out hz)
      clear hb2 x2 y2
      go_wp2_with fail
      go_roundw
      case rel => exact ⟨k + 1, by omega, by go_num, ⟨Ak, ck, by rw [HZ.out]⟩, by rw [HZ.out]; exact HT2.out, HX2.out⟩
      case measure => simp [intOf]; omega
    · have hq : (sgI lk.1 != 0) = true := cmpI_ne hz
      have hws := HX.out.size
      have hws2 := y2.size
      obtain ⟨v4, w4, hrun, t4, gg4, nn4, oo4⟩ := (HT.out.ext y2).push (by omega) (HCF.out.ext y2) lk.2 (by omega) 66
      have htp := HTP.out hz
      have t4' : TsV none w.heap.size w4 v4 (nz (l.take (k + 1))) := by rw [htp]; exact t4
      obtain ⟨A4, c4, rfl, -, -⟩ := t4'.len
      have x4 : Ext w w4 := Below.grown (HX.out.trans y2) gg4 (by omega) (fun bb hb => (HT.out.own hb).1)
      have T4 := Lib.hid t4'
      have X4 := Lib.hid x4
      clear t4 t4' gg4 nn4 oo4 x4 hb2 x2 y2 htp
      go_wp2_with (at_builtin
                   refine wpList_append_run rfl (.tmp 19) (.tmp 21) _ _ rfl _ _ _ _ rfl rfl hrun ?_)
      clear hrun
      go_roundw
      case rel => exact ⟨k + 1, by omega, by go_num, ⟨A4, c4, rfl⟩, T4.out, X4.out⟩
      case measure => simp [intOf]; omega
  · have hke : l.take k = l := by rw [show k = l.length by omega, List.take_length]
    rw [hke] at HT
    rw [hke]
    have hsort := sort_any HT.out (Nat.le_trans (nz_len l) hlen)
    have HS := Lib.hid hsort
    clear ht hx hsort
    go_wp2_with fail
    refine HS.out.mono ?_
    rintro e w2 ⟨rfl, l', hp, hs, hv, hb, hsz⟩
    have hle := sorted_snorm hp HA.out HNN.out hs
    subst hle
    have HV := Lib.hid hv
    have X2 : Hid (Ext w w2) := Below.trans HX.out hb
    clear hp hs hv hb
    go_wp2_with fail
    go_ret
    exact ⟨_, rfl, HV.out, X2.out⟩
theorem poly_any {base G M : Nat} {v : Value} {l : Sp} {w : World} (h : GaV base w G M v l) (ha : Apart l) (hnn : ∀ x ∈ l, x.2.nonneg) (hlen : l.length ≤ 1099511627776) : Calls Tryz.prog 127 #[.pointer (some ⟨G, 0, none⟩)] w fun e w' => ∃ v', e = .returned v' ∧ SpV w' none v' (snorm l) ∧ Ext w w' :=
 (polyO_any h ha hnn hlen).mono fun _ _ ⟨v, e, hs, hx⟩ => ⟨v, e, hs.1, hx⟩
end Go.Proofs.YtkbpnppiadaibaaGreatDoor

/- Layer 20: sparse.Normal. -/
set_option maxRecDepth 100000
set_option maxHeartbeats 8000000
namespace Go.Proofs.YtkbpnppiadaibaaGreatDoor
open Go.RowKit
def gfold : Sp → Sp → Sp
 | acc, [] => acc
 | acc, (c, m) :: r => gfold (if m.nonneg then gput c m acc else acc) r
theorem gfold_append (acc l r : Sp) : gfold acc (l ++ r) = gfold (gfold acc l) r := by
 induction l generalizing acc with
 | nil => rfl
 | cons x l ih => obtain ⟨c, m⟩ := x; simp only [List.cons_append, gfold, ih]
theorem gfold_take (l : Sp) (k : Nat) (hk : k < l.length) : gfold [] (l.take (k + 1)) = if l[k].2.nonneg then gput l[k].1 l[k].2 (gfold [] (l.take k)) else gfold [] (l.take k) := by
 rw [List.take_succ_eq_append_getElem hk, gfold_append]; rfl
theorem gfold_coef (k : Mo) (hk : k.nonneg) : ∀ (l acc : Sp), scoef (gfold acc l) k = scoef acc k + scoef l k
 | [], acc => by simp [gfold, scoef]
 | (c, m) :: r, acc => by
   rw [gfold, gfold_coef k hk r]
   simp only [scoef]
   by_cases hm : m.nonneg
   · rw [if_pos hm, gput_coef]; omega
   · rw [if_neg hm, if_neg (fun (e : m = k) => hm (e ▸ hk))]; omega
theorem gfold_nrm : ∀ (l acc : Sp), snrm (gfold acc l) ≤ snrm acc + snrm l
 | [], acc => by simp [gfold, snrm]
 | (c, m) :: r, acc => by
   rw [gfold]
   have h1 := gfold_nrm r (if m.nonneg then gput c m acc else acc)
   have h2 := gput_nrm c m acc
   simp only [snrm]
   split at h1 <;> split <;> first | omega | contradiction
theorem gfold_len : ∀ (l acc : Sp), (gfold acc l).length ≤ acc.length + l.length
 | [], acc => by simp [gfold]
 | (c, m) :: r, acc => by
   rw [gfold]
   have h1 := gfold_len r (if m.nonneg then gput c m acc else acc)
   have h2 := gput_len c m acc
   simp only [List.length_cons]
   split at h1 <;> split <;> first | omega | contradiction
theorem gfold_apart : ∀ (l acc : Sp), Apart acc → Apart (gfold acc l)
 | [], acc, h => h
 | (c, m) :: r, acc, h => by
   rw [gfold]
   refine gfold_apart r _ ?_
   split
   · exact gput_apart c m acc h
   · exact h
theorem gfold_nn : ∀ (l acc : Sp), (∀ x ∈ acc, x.2.nonneg) → ∀ x ∈ gfold acc l, x.2.nonneg
 | [], acc, h => h
 | (c, m) :: r, acc, h => by
   rw [gfold]
   refine gfold_nn r _ ?_
   split
   · rename_i hm
     intro x hx
     rcases gput_mem hx with e | ⟨y, hy, e⟩
     · rw [e]; exact hm
     · rw [← e]; exact h y hy
   · exact h
theorem gfold_snorm (l : Sp) : snorm (gfold [] l) = snorm l := snorm_congr fun k hk => by rw [gfold_coef k hk]; simp [scoef]
theorem snrm_take (l : Sp) (k : Nat) : snrm (l.take k) ≤ snrm l := by
 have : snrm l = snrm (l.take k) + snrm (l.drop k) := by rw [← snrm_append, List.take_append_drop]
 omega
theorem SpO.less {b b' : Nat} {w : World} {v : Value} {l : Sp} (h : SpO b w v l) (hb : b' ≤ b) : SpO b' w v l := ⟨h.1, fun hp => by
 obtain ⟨g, c, e, h1, h2⟩ := h.2 hp
 exact ⟨g, c, e, Nat.le_trans hb h1, h2⟩⟩
def RetSpO (l : Sp) (w : World) (e : Ending) (w' : World) : Prop := ∃ v, e = .returned v ∧ SpO w.heap.size w' v l ∧ Ext w w'
def RetSp (l : Sp) (w : World) (e : Ending) (w' : World) : Prop := ∃ v, e = .returned v ∧ SpV w' none v l ∧ Ext w w'
theorem sNormalO_any {w : World} {ko : Option Nat} {v : Value} {l : Sp} (L : Nat) (h : SpV w ko v l) (hk : ∀ z : Int, (∃ x ∈ l, x.1 = z) → ko.getD (dg z.natAbs).length ≤ L) (hL : L + (dg (snrm l)).length ≤ 35184372088000) (hlen : l.length ≤ 1099511627776) : Calls Tryz.prog 72 #[v] w (RetSpO (snorm l) w) := by
 obtain ⟨A, c, rfl, hl1, hl2, hat⟩ := h
 have HAT := Lib.hid hat
 have HKO := Lib.hid hk
 clear hat hk
 go_enter Tryz.func72, Tryz.ntmps72
 go_wp2_with fail
 refine (newGather_any w).mono ?_
 rintro e w1 ⟨rfl, g1, x1⟩
 have HX1 := Lib.hid x1
 have HG1 := Lib.hid g1
 clear g1 x1
 go_wp2_with fail
 go_loopw [9] (fun iv wr => ∃ k : Nat, k ≤ l.length ∧ iv = .int .i64 k ∧ Hid ((∃ gv, GaV w.heap.size wr (w.heap.size + 1) w.heap.size gv (gfold [] (l.take k))) ∧ Ext w wr)) (fun iv _ => l.length - (intOf iv).toNat)
 case atStart => exact ⟨0, Nat.zero_le _, rfl, ⟨_, HG1.out⟩, HX1.out⟩
 case round =>
  obtain ⟨k, hk, rfl, ⟨⟨gv, hg⟩, hx⟩⟩ := hrel
  have HG := Lib.hid hg
  have HX := Lib.hid hx
  by_cases hlt : k < l.length
  · obtain ⟨ad, b, B, n, d, rfl, hadb, htm, hcf⟩ := HAT.out.ext hx k hlt
    obtain ⟨t0, t1, t2, t3, t4, t5⟩ := htm
    have hs := hx.size
    have hko := HKO.out l[k].1 ⟨_, List.getElem_mem hlt, rfl⟩
    have hnr : (dg (snrm (gfold [] (l.take k)))).length ≤ (dg (snrm l)).length := dg_length_mono (Nat.le_trans (gfold_nrm (l.take k) []) (by have := snrm_take l k; simp only [snrm]; omega))
    have hgl := gfold_len (l.take k) []
    rw [List.length_take] at hgl
    simp only [List.length_nil] at hgl
    have hcall := fun W (hW : Ext wr W) => gadd_any (hg.ext hW) l[k].2 (.agg #[.bool b, .slice B n d]) L l[k].1 ((hcf.ext hW).raw.mono hko) (by have := hW.size; omega) (by omega) (by omega)
    rw [← gfold_take l k hlt] at hcall
    have HCALL := Lib.hid hcall
    clear hcall hg hx hcf hko hnr hgl
    generalize l[k] = lk at *
    go_wp2_with fail
    refine (HCALL.out _ ((Ext.refl _).alloc _)).mono ?_
    rintro e w2 ⟨rfl, v2, g2, b2, n2, -⟩
    have X2 : Hid (Ext w w2) := Below.trans (HX.out.alloc _) b2
    have G2 := Lib.hid g2
    clear g2 b2 n2 HCALL
    go_wp2_with fail
    go_roundw
    case rel => exact ⟨k + 1, by omega, by go_num, ⟨_, G2.out⟩, X2.out⟩
    case measure => simp [intOf]; omega
  · have hke : l.take k = l := by rw [show k = l.length by omega, List.take_length]
    rw [hke] at HG
    have hgl := gfold_len l []
    simp only [List.length_nil] at hgl
    have hcall := polyO_any HG.out (gfold_apart l [] List.Pairwise.nil) (gfold_nn l [] (by simp)) (by omega)
    rw [gfold_snorm] at hcall
    have HCALL := Lib.hid hcall
    clear hcall hg hx hke
    go_wp2_with fail
    refine HCALL.out.mono ?_
    rintro e w2 ⟨v2, rfl, s2, x2⟩
    have S2 := Lib.hid (s2.less HX.out.size)
    have X2 := Lib.hid (HX.out.trans x2)
    clear s2 x2
    go_wp2_with fail
    go_ret
    exact ⟨_, rfl, S2.out, X2.out⟩
theorem sNormal_any {w : World} {ko : Option Nat} {v : Value} {l : Sp} (L : Nat) (h : SpV w ko v l) (hk : ∀ z : Int, (∃ x ∈ l, x.1 = z) → ko.getD (dg z.natAbs).length ≤ L) (hL : L + (dg (snrm l)).length ≤ 35184372088000) (hlen : l.length ≤ 1099511627776) : Calls Tryz.prog 72 #[v] w (RetSp (snorm l) w) :=
 (sNormalO_any L h hk hL hlen).mono fun _ _ ⟨v, e, hs, hx⟩ => ⟨v, e, hs.1, hx⟩
end Go.Proofs.YtkbpnppiadaibaaGreatDoor
