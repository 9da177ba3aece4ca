/- Layer 20: a coefficient of a row of terms is overwritten. -/
import Derived.Test.YtdcapcpchcnidaaGreatMm38
import Derived.Test.YtdcapcpchcnidaaGreatGath

namespace Go.Proofs.YtdcapcpchcnidaaGreat
open Go.RowKit

theorem GRow.set_ {T k base : Nat} {W : World} {g c n : Nat} {xs : List Value} (h : GRow T k base W (.slice (some ⟨g, 0, none⟩) n c) n xs) (j : Nat) (hj : j < n * k) (u : Value) (hu : isDig u = false) :
    GRow T k base (W.setCell ⟨g, j, none⟩ u) (.slice (some ⟨g, 0, none⟩) n c) n (xs.set j u) := by
  obtain ⟨⟨h1, h2⟩, h3⟩ := h
  rcases h2 with ⟨h2, -⟩ | ⟨g', cap, cur, e, hb, hg, hc, hm, hs, ht⟩
  · cases h2
  injection e with e1 e2 e3
  injection e1 with e1
  injection e1 with e1
  subst e1 e3
  have hheap : (W.setCell ⟨g, j, none⟩ u).heap[g]? = some (.cells (cur.setIfInBounds j u) T (0, 0)) := by
    simp [World.setCell, Array.getElem?_modify, hg]
  refine ⟨⟨by rw [List.length_set]; exact h1, .inr ⟨g, c, cur.setIfInBounds j u, rfl, hb, hheap, hc, hm, by simpa using hs, ?_⟩⟩, ?_⟩
  · rw [Array.toList_setIfInBounds, List.take_set, ht]
  · intro R cur' T' fr e hb' u' hu'
    have hR : g = R := by simpa [Value.ownBlock] using e
    rw [← hR, hheap] at hb'
    injection hb' with hb'
    injection hb' with hb'
    rw [← hb', Array.toList_setIfInBounds] at hu'
    rcases List.mem_or_eq_of_mem_set hu' with hu' | rfl
    · exact h3 g cur T (0, 0) rfl hg u' hu'
    · exact hu
theorem flatT_set (rs : List (Bool × Value × Int × Mo)) : ∀ (k : Nat) (hk : k < rs.length) (b : Bool) (s : Value) (z : Int), flatT (rs.set k (b, s, z, rs[k].2.2.2)) = ((flatT rs).set (k * 6) (.bool b)).set (k * 6 + 1) s := by
  induction rs with
  | nil => intro k hk; simp at hk
  | cons r rs ih =>
    intro k hk b s z
    have hl : (tmC r.1 r.2.1 r.2.2.2).length = 6 := rfl
    cases k with
    | zero => simp [flatT, tmC]
    | succ k =>
      have := ih k (by simpa using hk) b s z
      simp only [List.set_cons_succ, List.getElem_cons_succ, flatT, List.flatMap_cons] at this ⊢
      rw [this, List.set_append_right _ _ (by rw [hl]; omega), List.set_append_right _ _ (by rw [hl]; omega), hl]
      congr 3 <;> omega
/-- A coefficient is overwritten. -/
theorem TsV.set_ {base : Nat} {W : World} {g c : Nat} {l : Sp} (h : TsV none base W (.slice (some ⟨g, 0, none⟩) l.length c) l) (k : Nat) (hk : k < l.length) {b : Bool} {A : Option Addr} {n d : Nat} {z : Int} (hc : Cf W none (.agg #[.bool b, .slice A n d]) z) :
    TsV none base ((W.setCell ⟨g, k * 6, none⟩ (.bool b)).setCell ⟨g, k * 6 + 1, none⟩ (.slice A n d)) (.slice (some ⟨g, 0, none⟩) l.length c) (l.set k (z, l[k].2)) ∧ (∀ v ds, NatV W v ds → NatV ((W.setCell ⟨g, k * 6, none⟩ (.bool b)).setCell ⟨g, k * 6 + 1, none⟩ (.slice A n d)) v ds) := by
  obtain ⟨rs, rfl, h2, h3⟩ := h
  rw [List.length_map] at hk
  simp only [List.length_map] at h2 ⊢
  have q0 := h2.cell (k * 6) (by omega)
  have q1 := h2.cell (k * 6 + 1) (by omega)
  have f0 := flatT_get rs k hk 0 (by omega)
  have f1 := flatT_get rs k hk 1 (by omega)
  rw [Nat.add_zero] at f0
  rw [f0] at q0
  rw [f1] at q1
  obtain ⟨b', B', n', c', e'⟩ := (h3 rs[k] (List.getElem_mem hk)).unpack
  simp only [Value.agg.injEq, Array.mk.injEq, List.cons.injEq, and_true] at e'
  have q1' : W.cell? ⟨g, k * 6 + 1, none⟩ = some (.slice B' n' c') := by rw [q1, ← e'.2]; rfl
  have hnat : ∀ v ds, NatV W v ds → NatV ((W.setCell ⟨g, k * 6, none⟩ (.bool b)).setCell ⟨g, k * 6 + 1, none⟩ (.slice A n d)) v ds := fun v ds hv =>
    (hv.box q0 rfl _).box (u := .slice B' n' c') (by rw [World.cell?_setCell_other _ _ _ _ (by simp)]; exact q1') rfl _
  refine ⟨⟨rs.set k (b, .slice A n d, z, rs[k].2.2.2), ?_, ?_, fun r hr => ?_⟩, hnat⟩
  · rw [List.map_set]; simp
  · rw [List.length_set, flatT_set rs k hk]
    exact (h2.set_ (k * 6) (by omega) _ rfl).set_ (k * 6 + 1) (by omega) _ rfl
  · rcases List.mem_or_eq_of_mem_set hr with hr | rfl
    · exact (h3 r hr).turn hnat
    · exact hc.turn hnat
end Go.Proofs.YtdcapcpchcnidaaGreat

/- Layer 20: (*gather).add of a monomial that is there; the whole. -/
namespace Go.Proofs.YtdcapcpchcnidaaGreat
open Go.RowKit

set_option maxRecDepth 100000 in
set_option maxHeartbeats 4000000 in
theorem gadd_old {base G M : Nat} {v : Value} {l : Sp} {w : World} (h : GaV base w G M v l) (m : Mo) (x : Value) (L : Nat) (z : Int) (hc : IntR w x z L) (hm : m.nonneg) (hb : base ≤ w.heap.size) (k : Nat) (hk : k < l.length) (hL : L + (dg l[k].1.natAbs).length ≤ 35184372088000) (hlen : l.length < 1099511627776) (hn : mog (gent 0 l) m = some (.int .i64 (0 + k : Nat))) (hlk : l[k].2 = m) (hge : gent 0 (l.set k (l[k].1 + z, m)) = gent 0 l) : Calls Tryz.prog 107 #[.pointer (some ⟨G, 0, none⟩), moV m, x] w (GaPost base G M (l.set k (l[k].1 + z, m)) w) := by
  have HC := Lib.hid hc
  obtain ⟨b, B, n, c, rfl⟩ := hc.unpack
  have HQ : Hid (decide (¬ m.nonneg) = false) := by
    have : decide (¬ m.nonneg) = false := decide_eq_false (fun h => h hm)
    exact this
  have H := Lib.hid h
  obtain ⟨W, hW⟩ : ∃ W, (w.alloc (.cells #[.int .i64 m.a, .int .i64 m.b, .int .i64 m.c, .int .i64 m.d] 141)).alloc (.cells #[.bool b, .slice B n c] 26) = W := ⟨_, rfl⟩
  have hWx : Ext w W := by rw [← hW]; exact ((Ext.refl w).alloc _).alloc _
  have hWs : W.heap.size = w.heap.size + 1 + 1 := by rw [← hW]; simp
  have hmx : MoAt W w.heap.size m := by rw [← hW]; exact (MoAt.new w m _).ext ((Ext.refl _).alloc _) (by simp)
  have hc0 : W.cell? ⟨w.heap.size + 1, 0, none⟩ = some (.bool b) := by rw [← hW]; simp [go_sem]
  have hc1 : W.cell? ⟨w.heap.size + 1, 1, none⟩ = some (.slice B n c) := by rw [← hW]; simp [go_sem]
  obtain ⟨d0, d1, d2, d3⟩ := id hmx
  have HMX := Lib.hid hmx
  have HC0 := Lib.hid hc0
  have HC1 := Lib.hid hc1
  have HWX := Lib.hid hWx
  have HN := Lib.hid hn
  have HLK := Lib.hid hlk
  have HGE := Lib.hid hge
  clear h hc hWx hmx hn hc0 hc1 hlk hge
  unfold moV
  go_enter Tryz.func107, Tryz.ntmps107
  go_wp2_with fail
  refine (negative_any m W).mono ?_
  rintro e w1 ⟨rfl, x1⟩
  rw [HQ.out]
  have h1 := H.out.ext (HWX.out.trans x1)
  have hw1 := x1.size
  obtain ⟨d0, d1, d2, d3⟩ := HMX.out.ext x1 (by omega)
  have c0 := (x1.cell (p := ⟨w.heap.size + 1, 0, none⟩) (by show w.heap.size + 1 < _; omega)).trans HC0.out
  have c1 := (x1.cell (p := ⟨w.heap.size + 1, 1, none⟩) (by show w.heap.size + 1 < _; omega)).trans HC1.out
  have X1 := Lib.hid (HWX.out.trans x1)
  obtain ⟨g0, g1, gf, gm, gt, ⟨gb1, gb2, gne, glt⟩, gown⟩ := h1
  have hlook := MMap.look (w := w1.drew) gm m true
  rw [HN.out] at hlook
  simp only [Option.getD_some, Option.isSome_some, if_true, moV, Nat.zero_add] at hlook
  obtain ⟨At, ct, rfl, -, -⟩ := gt.len
  -- the term
  have hsp := gt.sp
  obtain ⟨A', c', e', -, -, hat⟩ := hsp
  injection e' with e1 e2 e3
  subst e1 e3
  obtain ⟨ad, b1, B1, n1, c2, rfl, hadb, htm, hcf⟩ := hat k hk
  obtain ⟨rs, hrs, hgr, hrc⟩ := id gt
  have hrl : rs.length = l.length := by rw [← hrs, List.length_map]
  rw [hrl] at hgr
  obtain ⟨R, cR, eR, -, -, hbR, hltR, hfrR⟩ := hgr.pos (by omega)
  injection eR with eR1 eR2 eR3
  injection eR1 with eR1
  subst eR1
  have hRne := gown R rfl
  rw [add_mk, Nat.zero_add] at htm
  obtain ⟨t0, t1, -⟩ := htm
  simp only at t0 t1
  have GM := Lib.hid gm
  have GT := Lib.hid gt
  have GOWN := Lib.hid gown
  have HCF := Lib.hid hcf
  clear gm gt gown x1 hW hgr hrc hrs hcf hat
  go_upto_region 2 with fail
  go_region
  all_goals
    clear hlook d0 d1 d2 d3
    have HSTEP : Hid (∀ (w3 : World) (x3 : Value), IntN w3 x3 (l[k].1 + z) → Ext w1.drew.drew w3 → ∃ A3 n3 c3, x3 = .agg #[.bool (decide (l[k].1 + z < 0)), .slice A3 n3 c3] ∧ (w3.cell? ⟨G, 0, none⟩ = some (.map (some M)) ∧ w3.cell? ⟨G, 1, none⟩ = some (.slice (some ⟨R, 0, none⟩) l.length ct)) ∧ (w3.cell? ⟨R, k * 6, none⟩ = some (.bool b1) ∧ w3.cell? ⟨R, k * 6 + 1, none⟩ = some (.slice B1 n1 c2) ∧ (∀ i, w3.frozen? ⟨R, i, none⟩ = false)) ∧ GaPost base G M (l.set k (l[k].1 + z, m)) w (.returned (.tuple #[])) ((w3.setCell ⟨R, k * 6, none⟩ (.bool (decide (l[k].1 + z < 0)))).setCell ⟨R, k * 6 + 1, none⟩ (.slice A3 n3 c3))) := by
      intro w3 x3 n3 y3
      obtain ⟨s3, rfl, nv⟩ := id n3
      obtain ⟨A3, c3, rfl, -⟩ := id nv
      have y3' : Ext w1 w3 := Ext.trans (((Ext.refl w1).drew).drew) y3
      have hs3 := y3'.size
      have ev : ∀ bb i, bb < w1.heap.size → w3.cell? ⟨bb, i, none⟩ = w1.cell? ⟨bb, i, none⟩ := fun bb i h => y3'.cell (p := ⟨bb, i, none⟩) h
      refine ⟨A3, _, c3, rfl, ⟨(ev G 0 glt).trans g0, (ev G 1 glt).trans g1⟩, ⟨(ev R _ hltR).trans t0, (ev R _ hltR).trans t1, fun i => (y3'.frozen (p := ⟨R, i, none⟩) hltR).trans (hfrR i)⟩, ?_⟩
      obtain ⟨ts, tn⟩ := (GT.out.ext y3').set_ k hk (b := decide (l[k].1 + z < 0)) (A := A3) (d := c3) n3
      rw [HLK.out] at ts
      refine ⟨rfl, .slice (some ⟨R, 0, none⟩) l.length ct, ⟨?_, ?_, fun i => ?_, ?_, ?_, ⟨gb1, gb2, gne, ?_⟩, GOWN.out⟩, ?_, fun x ds hx => tn x ds ((hx.ext X1.out).ext y3')⟩
      · rw [World.cell?_setCell_other _ _ _ _ (by intro e; injection e with e; exact hRne.1 e), World.cell?_setCell_other _ _ _ _ (by intro e; injection e with e; exact hRne.1 e)]; exact (ev G 0 glt).trans g0
      · rw [World.cell?_setCell_other _ _ _ _ (by intro e; injection e with e; exact hRne.1 e), World.cell?_setCell_other _ _ _ _ (by intro e; injection e with e; exact hRne.1 e)]; exact (ev G 1 glt).trans g1
      · rw [World.frozen?_setCell, World.frozen?_setCell]; exact (y3'.frozen (p := ⟨G, i, none⟩) glt).trans (gf i)
      · rw [HGE.out]
        exact (GM.out.ext y3').block ((Below.heap_setCell _ _ _ M (fun e => hRne.2 e.symm)).trans (Below.heap_setCell _ _ _ M (fun e => hRne.2 e.symm)))
      · have : (l.set k (l[k].1 + z, m)).length = l.length := List.length_set
        exact ts
      · simp only [World.setCell, Array.size_modify]; omega
      · exact Below.setCell (Below.setCell (Below.mono (X1.out.trans y3') hb) hbR _) hbR _
    have hnew : ∀ w3 x3, IntN w3 x3 (l[k].1 + z) → Ext w1.drew.drew w3 → True := fun _ _ _ _ => trivial
    have HARG1 := Lib.hid (HCF.out.ext (((Ext.refl w1).drew).drew))
    have HARG2 := Lib.hid (HC.out.ext (X1.out.trans (((Ext.refl w1).drew).drew)))
    have hq : (⟨R, 0, none⟩ : Addr).add (k * 6) = ⟨R, k * 6, none⟩ := by rw [add_mk, Nat.zero_add]
    clear GM GT GOWN HCF HC HGE HLK HN HWX X1 HMX HC0 HC1 H
    go_upto_region 4 with fail
    go_region_law (first
      | (go_simp
         go_at_call 60
         refine (add_int _ _ (l[k].1) z _ L _ (IntN.raw HARG1.out) HARG2.out (by omega)).mono ?_
         rintro e w3 ⟨x3, rfl, n3, y3⟩
         obtain ⟨A3, n3', c3, rfl, ⟨G0, G1⟩, ⟨T0, T1, TF⟩, hfin⟩ := HSTEP.out _ _ n3 y3
         have HFIN := Lib.hid hfin
         clear n3 y3 hfin))
    all_goals
      clear G0 G1 T0 T1 TF
      go_wp2_with fail
      exact bodyPost_ret (results_none rfl _ _ _) rfl HFIN.out
/-- The whole. -/
theorem gadd_any {base G M : Nat} {v : Value} {l : Sp} {w : World} (h : GaV base w G M v l) (m : Mo) (x : Value) (L : Nat) (z : Int) (hc : IntR w x z L) (hb : base ≤ w.heap.size) (hL : L + (dg (snrm l)).length ≤ 35184372088000) (hlen : l.length < 1099511627776) : Calls Tryz.prog 107 #[.pointer (some ⟨G, 0, none⟩), moV m, x] w (GaPost base G M (if m.nonneg then gput z m l else l) w) := by
  by_cases hm : m.nonneg
  · rw [if_pos hm]
    rcases gput_cases z m l 0 with ⟨h1, h2, h3⟩ | ⟨k, hk, h1, h2, h3, h4⟩
    · rw [h2]; exact gadd_new h m x L z hc (by omega) hm hb hlen h1 h3
    · rw [h3]
      have hd := dg_length_mono (snrm_mem (List.getElem_mem hk))
      exact gadd_old h m x L z hc hm hb k hk (by omega) hlen h1 h2 h4
  · rw [if_neg hm]; exact gadd_neg h m x (some L) z hc hm hb
end Go.Proofs.YtdcapcpchcnidaaGreat
