/- Layer 20: a coefficient of a row of terms is overwritten. -/
import Derived.Test.YtkbpnppiadaibaaGreatDoorMt12
import Derived.Test.YtkbpnppiadaibaaGreatDoorMt21
import Derived.Shelf.SlSortCmp.WholeK
set_option linter.unusedSimpArgs false
set_option linter.unusedVariables false

namespace Go.Proofs.YtkbpnppiadaibaaGreatDoor
open Go.RowKit
theorem GRow.set_ {T k base : Nat} {W : World} {g c n : Nat} {xs : List Value} (h : GRow T k base W (.slice (some ⟨g, 0, none⟩) n c) n xs) (j : Nat) (hj : j < n * k) (u : Value) (hu : isDig u = false) :
 GRow T k base (W.setCell ⟨g, j, none⟩ u) (.slice (some ⟨g, 0, none⟩) n c) n (xs.set j u) := by
 obtain ⟨⟨h1, h2⟩, h3⟩ := h
 rcases h2 with ⟨h2, -⟩ | ⟨g', cap, cur, e, hb, hg, hc, hm, hs, ht⟩
 · cases h2
 injection e with e1 e2 e3
 injection e1 with e1
 injection e1 with e1
 subst e1 e3
 have hheap : (W.setCell ⟨g, j, none⟩ u).heap[g]? = some (.cells (cur.setIfInBounds j u) T (0, 0)) := by
  simp [World.setCell, Array.getElem?_modify, hg]
 refine ⟨⟨by rw [List.length_set]; exact h1, .inr ⟨g, c, cur.setIfInBounds j u, rfl, hb, hheap, hc, hm, by simpa using hs, ?_⟩⟩, ?_⟩
 · rw [Array.toList_setIfInBounds, List.take_set, ht]
 · intro R cur' T' fr e hb' u' hu'
   have hR : g = R := by simpa [Value.ownBlock] using e
   rw [← hR, hheap] at hb'
   injection hb' with hb'
   injection hb' with hb'
   rw [← hb', Array.toList_setIfInBounds] at hu'
   rcases List.mem_or_eq_of_mem_set hu' with hu' | rfl
   · exact h3 g cur T (0, 0) rfl hg u' hu'
   · exact hu
theorem flatT_set (rs : List (Bool × Value × Int × Mo)) : ∀ (k : Nat) (hk : k < rs.length) (b : Bool) (s : Value) (z : Int), flatT (rs.set k (b, s, z, rs[k].2.2.2)) = ((flatT rs).set (k * 6) (.bool b)).set (k * 6 + 1) s := by
 induction rs with
 | nil => intro k hk; simp at hk
 | cons r rs ih =>
   intro k hk b s z
   have hl : (tmC r.1 r.2.1 r.2.2.2).length = 6 := rfl
   cases k with
   | zero => simp [flatT, tmC]
   | succ k =>
     have := ih k (by simpa using hk) b s z
     simp only [List.set_cons_succ, List.getElem_cons_succ, flatT, List.flatMap_cons] at this ⊢
     rw [this, List.set_append_right _ _ (by rw [hl]; omega), List.set_append_right _ _ (by rw [hl]; omega), hl]
     congr 3 <;> omega
theorem TsV.set_ {base : Nat} {W : World} {g c : Nat} {l : Sp} (h : TsV none base W (.slice (some ⟨g, 0, none⟩) l.length c) l) (k : Nat) (hk : k < l.length) {b : Bool} {A : Option Addr} {n d : Nat} {z : Int} (hc : Cf W none (.agg #[.bool b, .slice A n d]) z) :
 TsV none base ((W.setCell ⟨g, k * 6, none⟩ (.bool b)).setCell ⟨g, k * 6 + 1, none⟩ (.slice A n d)) (.slice (some ⟨g, 0, none⟩) l.length c) (l.set k (z, l[k].2)) ∧ (∀ v ds, NatV W v ds → NatV ((W.setCell ⟨g, k * 6, none⟩ (.bool b)).setCell ⟨g, k * 6 + 1, none⟩ (.slice A n d)) v ds) := by
 obtain ⟨rs, rfl, h2, h3⟩ := h
 rw [List.length_map] at hk
 simp only [List.length_map] at h2 ⊢
 have q0 := h2.cell (k * 6) (by omega)
 have q1 := h2.cell (k * 6 + 1) (by omega)
 have f0 := flatT_get rs k hk 0 (by omega)
 have f1 := flatT_get rs k hk 1 (by omega)
 rw [Nat.add_zero] at f0
 rw [f0] at q0
 rw [f1] at q1
 obtain ⟨b', B', n', c', e'⟩ := (h3 rs[k] (List.getElem_mem hk)).unpack
 simp only [Value.agg.injEq, Array.mk.injEq, List.cons.injEq, and_true] at e'
 have q1' : W.cell? ⟨g, k * 6 + 1, none⟩ = some (.slice B' n' c') := by rw [q1, ← e'.2]; rfl
 have hnat : ∀ v ds, NatV W v ds → NatV ((W.setCell ⟨g, k * 6, none⟩ (.bool b)).setCell ⟨g, k * 6 + 1, none⟩ (.slice A n d)) v ds := fun v ds hv =>
  (hv.box q0 rfl _).box (u := .slice B' n' c') (by rw [World.cell?_setCell_other _ _ _ _ (by simp)]; exact q1') rfl _
 refine ⟨⟨rs.set k (b, .slice A n d, z, rs[k].2.2.2), ?_, ?_, fun r hr => ?_⟩, hnat⟩
 · rw [List.map_set]; simp
 · rw [List.length_set, flatT_set rs k hk]
   exact (h2.set_ (k * 6) (by omega) _ rfl).set_ (k * 6 + 1) (by omega) _ rfl
 · rcases List.mem_or_eq_of_mem_set hr with hr | rfl
   · exact (h3 r hr).turn hnat
   · exact hc.turn hnat
end Go.Proofs.YtkbpnppiadaibaaGreatDoor

/- Layer 20: (*gather).add of a monomial that is there; the whole. -/
set_option maxRecDepth 100000
set_option maxHeartbeats 8000000
namespace Go.Proofs.YtkbpnppiadaibaaGreatDoor
open Go.RowKit
theorem gadd_old {base G M : Nat} {v : Value} {l : Sp} {w : World} (h : GaV base w G M v l) (m : Mo) (x : Value) (L : Nat) (z : Int) (hc : IntR w x z L) (hm : m.nonneg) (hb : base ≤ w.heap.size) (k : Nat) (hk : k < l.length) (hL : L + (dg l[k].1.natAbs).length ≤ 35184372088000) (hlen : l.length < 1099511627776) (hn : mog (gent 0 l) m = some (.int .i64 (0 + k : Nat))) (hlk : l[k].2 = m) (hge : gent 0 (l.set k (l[k].1 + z, m)) = gent 0 l) : Calls Tryz.prog 126 #[.pointer (some ⟨G, 0, none⟩), moV m, x] w (GaPost base G M v (l.set k (l[k].1 + z, m)) w) := by
 have HC := Lib.hid hc
 obtain ⟨b, B, n, c, rfl⟩ := hc.unpack
 have HQ : Hid (decide (¬ m.nonneg) = false) := by
  have : decide (¬ m.nonneg) = false := decide_eq_false (fun h => h hm)
  exact this
 have H := Lib.hid h
 obtain ⟨W, hW⟩ : ∃ W, (w.alloc (.cells #[.int .i64 m.a, .int .i64 m.b, .int .i64 m.c, .int .i64 m.d] 188)).alloc (.cells #[.bool b, .slice B n c] 25) = W := ⟨_, rfl⟩
 have hWx : Ext w W := by rw [← hW]; exact ((Ext.refl w).alloc _).alloc _
 have hWs : W.heap.size = w.heap.size + 1 + 1 := by rw [← hW]; simp
 have hmx : MoAt W w.heap.size m := by rw [← hW]; exact (MoAt.new w m _).ext ((Ext.refl _).alloc _) (by simp)
 have hc0 : W.cell? ⟨w.heap.size + 1, 0, none⟩ = some (.bool b) := by rw [← hW]; simp [go_sem]
 have hc1 : W.cell? ⟨w.heap.size + 1, 1, none⟩ = some (.slice B n c) := by rw [← hW]; simp [go_sem]
 obtain ⟨d0, d1, d2, d3⟩ := id hmx
 have HMX := Lib.hid hmx
 have HC0 := Lib.hid hc0
 have HC1 := Lib.hid hc1
 have HWX := Lib.hid hWx
 have HN := Lib.hid hn
 have HLK := Lib.hid hlk
 have HGE := Lib.hid hge
 clear h hc hWx hmx hn hc0 hc1 hlk hge
 unfold moV
 go_enter Tryz.func126, Tryz.ntmps126
 go_wp2_with fail
 refine (negative_any m W).mono ?_
 rintro e w1 ⟨rfl, x1⟩
 rw [HQ.out]
 have h1 := H.out.ext (HWX.out.trans x1)
 have hw1 := x1.size
 obtain ⟨d0, d1, d2, d3⟩ := HMX.out.ext x1 (by omega)
 have c0 := (x1.cell (p := ⟨w.heap.size + 1, 0, none⟩) (by show w.heap.size + 1 < _; omega)).trans HC0.out
 have c1 := (x1.cell (p := ⟨w.heap.size + 1, 1, none⟩) (by show w.heap.size + 1 < _; omega)).trans HC1.out
 have X1 := Lib.hid (HWX.out.trans x1)
 obtain ⟨g0, g1, gf, gm, gt, ⟨gb1, gb2, gne, glt⟩, gown⟩ := h1
 have hlook := MMap.look (w := w1.drew) gm m true
 rw [HN.out] at hlook
 simp only [Option.getD_some, Option.isSome_some, if_true, moV, Nat.zero_add] at hlook
 obtain ⟨At, ct, rfl, -, -⟩ := gt.len
 have hsp := gt.sp
 obtain ⟨A', c', e', -, -, hat⟩ := hsp
 injection e' with e1 e2 e3
 subst e1 e3
 obtain ⟨ad, b1, B1, n1, c2, rfl, hadb, htm, hcf⟩ := hat k hk
 obtain ⟨rs, hrs, hgr, hrc⟩ := id gt
 have hrl : rs.length = l.length := by rw [← hrs, List.length_map]
 rw [hrl] at hgr
 obtain ⟨R, cR, eR, -, -, hbR, hltR, hfrR⟩ := hgr.pos (by omega)
 injection eR with eR1 eR2 eR3
 injection eR1 with eR1
 subst eR1
 have hRne := gown R rfl
 rw [add_mk, Nat.zero_add] at htm
 obtain ⟨t0, t1, -⟩ := htm
 simp only at t0 t1
 have GM := Lib.hid gm
 have GT := Lib.hid gt
 have GOWN := Lib.hid gown
 have HCF := Lib.hid hcf
 clear gm gt gown x1 hW hgr hrc hrs hcf hat
 go_upto_region 2 with fail
 go_region
 all_goals
  clear hlook d0 d1 d2 d3
  have HSTEP : Hid (∀ (w3 : World) (x3 : Value), IntN w3 x3 (l[k].1 + z) → Ext w1.drew.drew w3 → ∃ A3 n3 c3, x3 = .agg #[.bool (decide (l[k].1 + z < 0)), .slice A3 n3 c3] ∧ (w3.cell? ⟨G, 0, none⟩ = some (.map (some M)) ∧ w3.cell? ⟨G, 1, none⟩ = some (.slice (some ⟨R, 0, none⟩) l.length ct)) ∧ (w3.cell? ⟨R, k * 6, none⟩ = some (.bool b1) ∧ w3.cell? ⟨R, k * 6 + 1, none⟩ = some (.slice B1 n1 c2) ∧ (∀ i, w3.frozen? ⟨R, i, none⟩ = false)) ∧ GaPost base G M (.slice (some ⟨R, 0, none⟩) l.length ct) (l.set k (l[k].1 + z, m)) w (.returned (.tuple #[])) ((w3.setCell ⟨R, k * 6, none⟩ (.bool (decide (l[k].1 + z < 0)))).setCell ⟨R, k * 6 + 1, none⟩ (.slice A3 n3 c3))) := by
   intro w3 x3 n3 y3
   obtain ⟨s3, rfl, nv⟩ := id n3
   obtain ⟨A3, c3, rfl, -⟩ := id nv
   have y3' : Ext w1 w3 := Ext.trans (((Ext.refl w1).drew).drew) y3
   have hs3 := y3'.size
   have ev : ∀ bb i, bb < w1.heap.size → w3.cell? ⟨bb, i, none⟩ = w1.cell? ⟨bb, i, none⟩ := fun bb i h => y3'.cell (p := ⟨bb, i, none⟩) h
   refine ⟨A3, _, c3, rfl, ⟨(ev G 0 glt).trans g0, (ev G 1 glt).trans g1⟩, ⟨(ev R _ hltR).trans t0, (ev R _ hltR).trans t1, fun i => (y3'.frozen (p := ⟨R, i, none⟩) hltR).trans (hfrR i)⟩, ?_⟩
   obtain ⟨ts, tn⟩ := (GT.out.ext y3').set_ k hk (b := decide (l[k].1 + z < 0)) (A := A3) (d := c3) n3
   rw [HLK.out] at ts
   refine ⟨rfl, .slice (some ⟨R, 0, none⟩) l.length ct, ⟨?_, ?_, fun i => ?_, ?_, ?_, ⟨gb1, gb2, gne, ?_⟩, GOWN.out⟩, ?_, fun x ds hx => tn x ds ((hx.ext X1.out).ext y3'), fun b h1 h2 h3 h4 => ?_, .inl rfl⟩
   · rw [World.cell?_setCell_other _ _ _ _ (by intro e; injection e with e; exact hRne.1 e), World.cell?_setCell_other _ _ _ _ (by intro e; injection e with e; exact hRne.1 e)]; exact (ev G 0 glt).trans g0
   · rw [World.cell?_setCell_other _ _ _ _ (by intro e; injection e with e; exact hRne.1 e), World.cell?_setCell_other _ _ _ _ (by intro e; injection e with e; exact hRne.1 e)]; exact (ev G 1 glt).trans g1
   · rw [World.frozen?_setCell, World.frozen?_setCell]; exact (y3'.frozen (p := ⟨G, i, none⟩) glt).trans (gf i)
   · rw [HGE.out]
     exact (GM.out.ext y3').block ((Below.heap_setCell _ _ _ M (fun e => hRne.2 e.symm)).trans (Below.heap_setCell _ _ _ M (fun e => hRne.2 e.symm)))
   · have : (l.set k (l[k].1 + z, m)).length = l.length := List.length_set
     exact ts
   · simp only [World.setCell, Array.size_modify]; omega
   · exact Below.setCell (Below.setCell (Below.mono (X1.out.trans y3') hb) hbR _) hbR _
   · have hbR' : b ≠ R := fun e => h4 (by rw [e]; rfl)
     exact ((Below.heap_setCell _ _ _ b hbR').trans (Below.heap_setCell _ _ _ b hbR')).trans ((X1.out.trans y3').below.block b h1)
  have hnew : ∀ w3 x3, IntN w3 x3 (l[k].1 + z) → Ext w1.drew.drew w3 → True := fun _ _ _ _ => trivial
  have HARG1 := Lib.hid (HCF.out.ext (((Ext.refl w1).drew).drew))
  have HARG2 := Lib.hid (HC.out.ext (X1.out.trans (((Ext.refl w1).drew).drew)))
  have hq : (⟨R, 0, none⟩ : Addr).add (k * 6) = ⟨R, k * 6, none⟩ := by rw [add_mk, Nat.zero_add]
  clear GM GT GOWN HCF HC HGE HLK HN HWX X1 HMX HC0 HC1 H
  go_upto_region 4 with fail
  go_region_law (first
   | (go_simp
      go_at_call 160
      refine (add_int _ _ (l[k].1) z _ L _ (IntN.raw HARG1.out) HARG2.out (by omega)).mono ?_
      rintro e w3 ⟨x3, rfl, n3, y3⟩
      obtain ⟨A3, n3', c3, rfl, ⟨G0, G1⟩, ⟨T0, T1, TF⟩, hfin⟩ := HSTEP.out _ _ n3 y3
      have HFIN := Lib.hid hfin
      clear n3 y3 hfin))
  all_goals
   clear G0 G1 T0 T1 TF
   go_wp2_with fail
   exact bodyPost_ret (results_none rfl _ _ _) rfl HFIN.out
theorem gadd_any {base G M : Nat} {v : Value} {l : Sp} {w : World} (h : GaV base w G M v l) (m : Mo) (x : Value) (L : Nat) (z : Int) (hc : IntR w x z L) (hb : base ≤ w.heap.size) (hL : L + (dg (snrm l)).length ≤ 35184372088000) (hlen : l.length < 1099511627776) : Calls Tryz.prog 126 #[.pointer (some ⟨G, 0, none⟩), moV m, x] w (GaPost base G M v (if m.nonneg then gput z m l else l) w) := by
 by_cases hm : m.nonneg
 · rw [if_pos hm]
   rcases gput_cases z m l 0 with ⟨h1, h2, h3⟩ | ⟨k, hk, h1, h2, h3, h4⟩
   · rw [h2]; exact gadd_new h m x L z hc (by omega) hm hb hlen h1 h3
   · rw [h3]
     have hd := dg_length_mono (snrm_mem (List.getElem_mem hk))
     exact gadd_old h m x L z hc hm hb k hk (by omega) hlen h1 h2 h4
 · rw [if_neg hm]; exact gadd_neg h m x (some L) z hc hm hb
end Go.Proofs.YtkbpnppiadaibaaGreatDoor

/- The library's sort at terms: the kit's contract of slices.pdqsortCmpFunc laid at this program. (The lines of sortTm are those that the kit's laying command writes.) -/
namespace Go.Proofs.YtkbpnppiadaibaaGreatDoor
def sortTm_ren : Go.Shelf.Ren := ⟨fun | 14 => 197 | 20 => 211 | 21 => 212 | 22 => 213 | 23 => 214 | 24 => 215 | 25 => 216 | 26 => 217 | 27 => 218 | 46 => 229 | 47 => 230 | 48 => 231 | 49 => 232 | 50 => 233 | 15 => 198 | 57 => 248 | 28 => 219 | 29 => 220 | n => n, fun | 24 => 190 | 22 => 65 | 3 => 3 | 25 => 235 | 4 => 4 | 0 => 0 | 46 => 268 | 45 => 267 | 50 => 112 | 66 => 283 | 39 => 179 | 55 => 178 | 70 => 287 | 76 => 303 | 77 => 304 | 53 => 180 | 5 => 5 | 9 => 9 | n => n, fun | n => n⟩
theorem sortTm : Go.Proofs.SlLaysF0.n14 Tryz.prog sortTm_ren := {
 mixed := by kernel_rfl,
 f14 := ⟨Tryz.f197.name, by decide, Tryz.func197.trans (congrArg some (by kernel_rfl))⟩,
 f15 := Tryz.func198.trans (congrArg some (by kernel_rfl)),
 f20 := ⟨Tryz.f211.name, by decide, Tryz.func211.trans (congrArg some (by kernel_rfl))⟩,
 f21 := ⟨Tryz.f212.name, by decide, Tryz.func212.trans (congrArg some (by kernel_rfl))⟩,
 f22 := ⟨Tryz.f213.name, by decide, Tryz.func213.trans (congrArg some (by kernel_rfl))⟩,
 f23 := ⟨Tryz.f214.name, by decide, Tryz.func214.trans (congrArg some (by kernel_rfl))⟩,
 f24 := ⟨Tryz.f215.name, by decide, Tryz.func215.trans (congrArg some (by kernel_rfl))⟩,
 f25 := ⟨Tryz.f216.name, by decide, Tryz.func216.trans (congrArg some (by kernel_rfl))⟩,
 f26 := ⟨Tryz.f217.name, by decide, Tryz.func217.trans (congrArg some (by kernel_rfl))⟩,
 f27 := ⟨Tryz.f218.name, by decide, Tryz.func218.trans (congrArg some (by kernel_rfl))⟩,
 f28 := Tryz.func219.trans (congrArg some (by kernel_rfl)),
 f29 := Tryz.func220.trans (congrArg some (by kernel_rfl)),
 f46 := ⟨Tryz.f229.name, by decide, Tryz.func229.trans (congrArg some (by kernel_rfl))⟩,
 f47 := Tryz.func230.trans (congrArg some (by kernel_rfl)),
 f48 := Tryz.func231.trans (congrArg some (by kernel_rfl)),
 f49 := ⟨Tryz.f232.name, by decide, Tryz.func232.trans (congrArg some (by kernel_rfl))⟩,
 f50 := ⟨Tryz.f233.name, by decide, Tryz.func233.trans (congrArg some (by kernel_rfl))⟩,
 f57 := ⟨Tryz.f248.name, by decide, Tryz.func248.trans (congrArg some (by kernel_rfl))⟩,
 t0 := Tryz.underlying0,
 a0 := Tryz.isAgg0,
 z0 := Tryz.sizeOf0,
 v0 := Tryz.zeroValue0,
 t3 := Tryz.underlying3,
 a3 := Tryz.isAgg3,
 z3 := Tryz.sizeOf3,
 v3 := Tryz.zeroValue3,
 t4 := Tryz.underlying4,
 a4 := Tryz.isAgg4,
 z4 := Tryz.sizeOf4,
 v4 := Tryz.zeroValue4,
 t5 := Tryz.underlying5,
 a5 := Tryz.isAgg5,
 z5 := Tryz.sizeOf5,
 v5 := Tryz.zeroValue5,
 t9 := Tryz.underlying9,
 a9 := Tryz.isAgg9,
 z9 := Tryz.sizeOf9,
 v9 := Tryz.zeroValue9,
 t22 := Tryz.underlying65,
 a22 := Tryz.isAgg65,
 z22 := Tryz.sizeOf65,
 v22 := Tryz.zeroValue65,
 t25 := Tryz.underlying235,
 a25 := Tryz.isAgg235,
 z25 := Tryz.sizeOf235,
 v25 := Tryz.zeroValue235,
 t39 := Tryz.underlying179,
 a39 := Tryz.isAgg179,
 z39 := Tryz.sizeOf179,
 v39 := Tryz.zeroValue179,
 t45 := Tryz.underlying267,
 a45 := Tryz.isAgg267,
 z45 := Tryz.sizeOf267,
 v45 := Tryz.zeroValue267,
 t46 := Tryz.underlying268,
 a46 := Tryz.isAgg268,
 z46 := Tryz.sizeOf268,
 v46 := Tryz.zeroValue268,
 t50 := Tryz.underlying112,
 a50 := Tryz.isAgg112,
 z50 := Tryz.sizeOf112,
 v50 := Tryz.zeroValue112,
 t53 := Tryz.underlying180,
 a53 := Tryz.isAgg180,
 z53 := Tryz.sizeOf180,
 v53 := Tryz.zeroValue180,
 t55 := Tryz.underlying178,
 a55 := Tryz.isAgg178,
 z55 := Tryz.sizeOf178,
 v55 := Tryz.zeroValue178,
 t66 := Tryz.underlying283,
 a66 := Tryz.isAgg283,
 z66 := Tryz.sizeOf283,
 v66 := Tryz.zeroValue283,
 t70 := Tryz.underlying287,
 a70 := Tryz.isAgg287,
 z70 := Tryz.sizeOf287,
 v70 := Tryz.zeroValue287,
 t76 := Tryz.underlying303,
 a76 := Tryz.isAgg303,
 z76 := Tryz.sizeOf303,
 v76 := Tryz.zeroValue303,
 t77 := Tryz.underlying304,
 a77 := Tryz.isAgg304,
 z77 := Tryz.sizeOf304,
 v77 := Tryz.zeroValue304 }
theorem sortLen : Go.Proofs.SlLaysF0.n15 Tryz.prog sortTm_ren := { sortTm with }
end Go.Proofs.YtkbpnppiadaibaaGreatDoor

/- The library's sort at terms: slices.SortFunc with the order of (*gather).poly: descending monomials. -/
set_option maxRecDepth 100000
set_option maxHeartbeats 8000000
namespace Go.Proofs.YtkbpnppiadaibaaGreatDoor
open Go.RowKit Go.Sort Go.Shelf
structure TmE where
 neg : Bool
 A : Option Addr
 n : Nat
 c : Nat
 z : Int
 mo : Mo
instance : Inhabited TmE := ⟨⟨false, none, 0, 0, 0, Mo.one⟩⟩
def TmE.enc (x : TmE) : List Value := tmC x.neg (.slice x.A x.n x.c) x.mo
def tmOrd (x y : TmE) : Int := cmpMo y.mo x.mo
theorem tmOrd_lt (x y : TmE) : ltOf tmOrd x y = decide (y.mo.lt x.mo) := by
 unfold ltOf tmOrd cmpMo
 by_cases h1 : y.mo.lt x.mo
 · rw [if_pos h1]; simp [h1]
 · rw [if_neg h1]
   by_cases h2 : x.mo.lt y.mo
   · rw [if_pos h2]; simp [h1]
   · rw [if_neg h2]; simp [h1]
theorem tmSwo : SWO (ltOf tmOrd) where
 irrefl x := by rw [tmOrd_lt]; simp [Mo.lt_irrefl]
 trans x y z h1 h2 := by
  rw [tmOrd_lt] at *
  simp only [decide_eq_true_eq] at *
  exact Mo.lt_trans h2 h1
 ntrans x y z h1 h2 := by
  rw [tmOrd_lt] at *
  simp only [decide_eq_false_iff_not] at *
  unfold Mo.lt at *; omega
theorem polyCmp_any (x y : TmE) (W : World) : Calls Tryz.prog 174 #[.agg x.enc.toArray, .agg y.enc.toArray] W fun e w' => e = .returned (.int .i64 (tmOrd x y)) ∧ ∃ q os', w' = grow (W.drewN q) os' := by
 unfold tmOrd TmE.enc tmC
 have hcon := fun W' => compareMono_any y.mo x.mo W'
 generalize cmpMo y.mo x.mo = r at hcon ⊢
 have HC := Lib.hid hcon
 have HG : Hid (∀ o o' q os, ∃ q' os', grow (((W.alloc o).alloc o').drewN q) os = grow (W.drewN q') os') := fun o o' q os => ⟨q, #[o] ++ #[o'] ++ os, by rw [alloc_eq_grow, alloc_eq_grow, grow_grow, ← grow_grow _ _ os]; rfl⟩
 clear hcon
 go_enter Tryz.func174, Tryz.ntmps174
 go_wp2_with fail
 refine (HC.out _).mono ?_
 rintro e w1 ⟨rfl, q, os, rfl⟩
 go_wp2_with fail
 go_ret
 exact ⟨rfl, HG.out _ _ q os⟩
theorem polyCmp_lays (blk off size : Nat) (w : World) : CmpLays Tryz.prog 174 #[] TmE.enc 6 tmOrd blk off size w := fun _ _ _ _ x y => polyCmp_any x y _
theorem insNone_any (v : Value) (w : World) : Calls Tryz.prog 211 #[v, .int .i64 0, .int .i64 0, .func (.func 174) #[] #[]] w fun e w' => e = .returned (.tuple #[]) ∧ w' = w := by
 go_enter Tryz.func211, Tryz.ntmps211
 go_wp2_with fail
 refine wp_loop_rounds 1 ?_
 rw [rounds_succ]
 go_wp2_with fail
 go_end0
 exact ⟨rfl, rfl⟩
theorem bitsLen_any (n : Nat) (w : World) (h : n < 4611686018427387904) : Calls Tryz.prog 198 #[.int .u64 (n : Int)] w fun e w' => e = .returned (.int .i64 (Lib.bitLen n : Nat)) ∧ w' = w := by
 have h := Go.Proofs.Any.bits_Len (Go.Proofs.SlLaysF0.n15.bits (P := Tryz.prog) (ρ := sortTm_ren) sortLen) (n : Int) w (by omega) (by omega)
 rwa [Int.toNat_natCast] at h
theorem pdqNone_any (v : Value) (limit : Int) (w : World) : Calls Tryz.prog 197 #[v, .int .i64 0, .int .i64 0, .int .i64 limit, .func (.func 174) #[] #[]] w fun e w' => e = .returned (.tuple #[]) ∧ w' = w := by
 go_enter Tryz.func197, Tryz.ntmps197
 go_wp2_with fail
 refine wp_loop_rounds 1 ?_
 rw [rounds_succ]
 go_wp2_with fail
 refine (insNone_any _ _).mono ?_
 rintro e w1 ⟨rfl, rfl⟩
 go_wp2_with fail
 exact bodyPost_ret (results_none rfl _ _ _) rfl ⟨rfl, rfl⟩
theorem sortNone_any (A : Option Addr) (c : Nat) (w : World) : Calls Tryz.prog 173 #[.slice A 0 c, .func (.func 174) #[] #[]] w fun e w' => e = .returned (.tuple #[]) ∧ w' = w := by
 have wr : IntKind.u64.wrap (0 : Int) = 0 := by decide
 have hb := bitsLen_any 0 w (by omega)
 have HB := Lib.hid hb
 clear hb
 go_enter Tryz.func173, Tryz.ntmps173
 go_wp2_with fail
 refine HB.out.mono ?_
 rintro e w1 ⟨rfl, rfl⟩
 go_wp2_with fail
 refine (pdqNone_any _ _ _).mono ?_
 rintro e w1 ⟨rfl, rfl⟩
 go_wp2_with fail
 go_end0
 exact ⟨rfl, rfl⟩
theorem sortRow_any (blk cap : Nat) (d : Array TmE) (w : World) (hH : HoldsK TmE.enc 6 w blk 0 d) (hblk : blk < w.heap.size) (hsz : d.size < 4611686018427387904) :
 Calls Tryz.prog 173 #[.slice (some ⟨blk, 0, none⟩) d.size cap, .func (.func 174) #[] #[]] w fun e w' => e = .returned (.tuple #[]) ∧ ∃ d' n os, PermIn 0 d.size d d' ∧ SortedIn (ltOf tmOrd) 0 d.size d' ∧ w' = sortWorldK TmE.enc 6 w blk 0 n d' os := by
 have hlim : Lib.bitLen d.size < 4611686018427387904 := Nat.lt_of_le_of_lt (Lib.bitLen_le d.size 62 (by omega) (by omega)) (by omega)
 have eg : ∀ args w, (callFunc 174 args).run Tryz.prog w = .ok (.enter 174 args) w := enters_of Tryz.func174 (by kernel_rfl) rfl
 have hp := Go.Proofs.AnyQ.pdqsortCmpFunc_all (P := Tryz.prog) (ρ := sortTm_ren) sortTm 6 Tryz.isAgg190 Tryz.sizeOf190 TmE.enc tmOrd 174 #[] tmSwo blk 0 cap d w eg (polyCmp_lays blk 0 d.size w) ⟨fun _ => rfl, fun x v hv => by
  simp only [TmE.enc, tmC, List.mem_cons, List.not_mem_nil, or_false] at hv
  rcases hv with rfl | rfl | rfl | rfl | rfl | rfl <;> rfl, hH, hblk⟩ (d.size + 1) 0 d.size (Lib.bitLen d.size) d w (by omega) rfl (Go.Proofs.SWK.start hH) (Nat.zero_le _) (Nat.le_refl _) hsz hlim (Or.inl rfl)
 have hs := pdq_sorts (ltOf tmOrd) tmSwo d 0 d.size (Lib.bitLen d.size) true true (Nat.zero_le _) (Nat.le_refl _) (Or.inl rfl)
 generalize pdq (ltOf tmOrd) d 0 d.size (Lib.bitLen d.size) true true = d' at hp hs
 change Calls Tryz.prog 197 _ _ _ at hp
 have HP := Lib.hid hp
 have HS := Lib.hid hs
 have HB := Lib.hid (bitsLen_any d.size w hsz)
 have wr : IntKind.u64.wrap (d.size : Int) = d.size := by simp [IntKind.wrap, IntKind.bits, IntKind.signed]; omega
 clear hH hp hs eg
 go_enter Tryz.func173, Tryz.ntmps173
 go_wp2_with fail
 refine HB.out.mono ?_
 rintro e w1 ⟨rfl, rfl⟩
 go_wp2_with fail
 refine HP.out.mono ?_
 rintro e w1 ⟨rfl, n, os, rfl⟩
 go_wp2_with fail
 go_end0
 exact ⟨rfl, d', n, os, HS.out.1, HS.out.2, rfl⟩
def TmE.pair (x : TmE) : Int × Mo := (x.z, x.mo)
theorem flatK_terms (d : Array TmE) (j : Nat) (hj : j < d.size * 6) : (flatK TmE.enc 6 d)[j]! = (tmC d[j / 6]!.neg (.slice d[j / 6]!.A d[j / 6]!.n d[j / 6]!.c) d[j / 6]!.mo)[j % 6]! := by
 rw [get_flatK _ _ _ _ hj]; rfl
def SpO (base : Nat) (w : World) (v : Value) (l : Sp) : Prop := SpV w none v l ∧ (0 < l.length → ∃ g c, v = .slice (some ⟨g, 0, none⟩) l.length c ∧ base ≤ g ∧ g < w.heap.size ∧ ∀ i, i < l.length * 6 → w.frozen? ⟨g, i, none⟩ = false)
theorem sort_any {base : Nat} {W : World} {v : Value} {l : Sp} (h : TsV none base W v l) (hlen : l.length ≤ 1099511627776) : Calls Tryz.prog 173 #[v, .func (.func 174) #[] #[]] W fun e w' => e = .returned (.tuple #[]) ∧ ∃ l' : Sp, l'.Perm l ∧ (∀ i j (hi : i < l'.length) (hj : j < l'.length), i < j → ¬ (l'[i].2).lt l'[j].2) ∧ SpO base w' v l' ∧ Below base W w' ∧ W.heap.size ≤ w'.heap.size := by
 obtain ⟨Av, cv, rfl, hl1, hl2⟩ := h.len
 by_cases h0 : l = []
 · subst h0
   refine (sortNone_any _ _ _).mono ?_
   rintro e w' ⟨he, rfl⟩
   exact ⟨he, [], List.Perm.refl _, fun i j hi => absurd hi (by simp), ⟨⟨Av, cv, rfl, hl1, hl2, fun i hi => absurd hi (by simp)⟩, fun h => absurd h (by simp)⟩, Below.refl _ _, Nat.le_refl _⟩
 have hpos : 0 < l.length := List.length_pos_iff.2 h0
 obtain ⟨rs, rfl, hg, hcf⟩ := h
 rw [List.length_map] at hpos hl1 hlen
 rw [List.length_map] at hg
 rw [List.length_map]
 obtain ⟨g, c', e, -, -, hbg, hglt, hfr⟩ := hg.pos hpos
 injection e with e1 e2 e3
 subst e1 e3
 have hun : ∀ r ∈ rs, ∃ A n c, r.2.1 = .slice A n c := fun r hr => by
  obtain ⟨b, A, n, c, e⟩ := (hcf r hr).unpack
  simp only [Value.agg.injEq, Array.mk.injEq, List.cons.injEq, and_true] at e
  exact ⟨A, n, c, e.2⟩
 obtain ⟨es, hes⟩ : ∃ es : List TmE, es.map (fun x => (x.neg, Value.slice x.A x.n x.c, x.z, x.mo)) = rs := by
  clear hcf hg hpos hl1 hlen h0 e2
  induction rs with
  | nil => exact ⟨[], rfl⟩
  | cons r rs ih =>
    obtain ⟨es, he⟩ := ih (fun r hr => hun r (by simp [hr]))
    obtain ⟨A, n, c, e⟩ := hun r (by simp)
    obtain ⟨b, s, z, m⟩ := r
    simp only at e
    subst e
    exact ⟨⟨b, A, n, c, z, m⟩ :: es, by simp [he]⟩
 have hel : es.length = rs.length := by rw [← hes, List.length_map]
 have hgetr : ∀ i (hi : i < es.length), rs[i]'(by omega) = (es[i].neg, Value.slice es[i].A es[i].n es[i].c, es[i].z, es[i].mo) := fun i hi => by
  simp only [← hes, List.getElem_map]
 have hH : HoldsK TmE.enc 6 W g 0 es.toArray := by
  intro j hj
  rw [size_flatK] at hj
  simp only [List.size_toArray] at hj
  have hq : j / 6 < es.length := Nat.div_lt_of_lt_mul (by omega)
  have hc := hg.cell j (by omega)
  have hm : j % 6 < 6 := Nat.mod_lt _ (by omega)
  have hj2 : j / 6 * 6 + j % 6 = j := by omega
  have hf := flatT_get rs (j / 6) (by omega) (j % 6) hm
  rw [hj2] at hf
  rw [hf, hgetr _ hq] at hc
  refine ⟨?_, hfr _⟩
  rw [Nat.zero_add, hc, flatK_terms _ _ (by simpa using hj)]
  have hgt : es.toArray[j / 6]! = es[j / 6] := by rw [getElem!_pos es.toArray (j / 6) (by simpa using hq)]; simp
  rw [hgt]
  have hlt : j % 6 < (tmC es[j / 6].neg (.slice es[j / 6].A es[j / 6].n es[j / 6].c) es[j / 6].mo).length := hm
  rw [List.getElem?_eq_getElem hlt, getElem!_pos (tmC es[j / 6].neg (.slice es[j / 6].A es[j / 6].n es[j / 6].c) es[j / 6].mo) (j % 6) hlt]
  rfl
 have hcall := sortRow_any g cv es.toArray W hH hglt (by simp; omega)
 simp only [List.size_toArray] at hcall
 rw [hel] at hcall
 refine hcall.mono ?_
 rintro e w' ⟨he, d', n, os, ⟨hsz, -, hperm⟩, hsort, rfl⟩
 simp only [List.size_toArray] at hsz
 have hperm' : d'.toList.Perm es := by
  rw [Array.extract_eq_self_of_le (by omega)] at hperm
  have : es.toArray.extract 0 rs.length = es.toArray := Array.extract_eq_self_of_le (by simp; omega)
  rw [this] at hperm
  simpa using hperm
 have hgrow : W.grownBy (sortWorldK TmE.enc 6 W g 0 n d' os) (some g) := by
  refine ⟨rfl, rfl, rfl, ?_, fun b hb hne => ?_⟩
  · simp [sortWorldK, grow, putRowK, putRow, mapBlock, Go.Sort.ahead]
  · have hne' : ¬ g = b := fun e => hne (by rw [e])
    simp [sortWorldK, grow, putRowK, putRow, mapBlock, Go.Sort.ahead, Array.getElem?_append, hb, Array.getElem_modify, hne']
 have hnat : ∀ v ds, NatV W v ds → NatV (sortWorldK TmE.enc 6 W g 0 n d' os) v ds := fun v ds hv => natV_grown hv (v := .slice (some ⟨g, 0, none⟩) rs.length cv) hgrow hg.2 (ownsRow_obj hg.1)
 have hH' : HoldsK TmE.enc 6 (sortWorldK TmE.enc 6 W g 0 n d' os) g 0 d' :=
  holdsK_grow TmE.enc 6 _ os g 0 d' (by simp only [putRowK, size_putRow]; exact hglt) (holdsK_putRowK TmE.enc 6 (Go.Sort.ahead W n) g 0 es.toArray d' (holdsK_ahead TmE.enc 6 W n g 0 es.toArray hH) (by simpa using hsz))
 refine ⟨he, d'.toList.map TmE.pair, ?_, ?_, ?_, ?_, ?_⟩
 · have h1 := hperm'.map TmE.pair
   have h2 : es.map TmE.pair = rs.map (fun r => r.2.2) := by rw [← hes, List.map_map]; rfl
   rw [← h2]; exact h1
 · intro i j hi hj hij
   rw [List.length_map, Array.length_toList] at hi hj
   have := hsort i j (Nat.zero_le _) hij (by omega)
   rw [tmOrd_lt, decide_eq_false_iff_not] at this
   simp only [List.getElem_map, Array.getElem_toList]
   rw [getElem!_pos d' i hi, getElem!_pos d' j hj] at this
   exact this
 · have hld : (d'.toList.map TmE.pair).length = rs.length := by rw [List.length_map, Array.length_toList]; omega
   refine ⟨⟨some ⟨g, 0, none⟩, cv, by rw [hld], by omega, hl2, fun i hi => ?_⟩, fun _ => ⟨g, cv, by rw [hld], hbg, Nat.lt_of_lt_of_le hglt hgrow.size, fun i hi => ?_⟩⟩
   rotate_left
   · rw [hld] at hi
     have h1 := (HoldsK.cell hH' (show i / 6 < d'.size from Nat.div_lt_of_lt_mul (by omega)) (Nat.mod_lt i (show 0 < 6 by omega))).2
     rw [show 0 + i / 6 * 6 + i % 6 = i by omega] at h1
     exact h1
   rw [List.length_map, Array.length_toList] at hi
   have hcell := fun c (hc : c < 6) => (HoldsK.cell hH' hi hc).1
   simp only [Nat.zero_add] at hcell
   have hmem : d'[i]! ∈ es := hperm'.mem_iff.1 (by rw [getElem!_pos d' i hi]; simp)
   obtain ⟨k, hk, hke⟩ := List.getElem_of_mem hmem
   have hcfk := hcf rs[k] (List.getElem_mem (by omega))
   rw [hgetr k hk, hke] at hcfk
   have hpi : (d'.toList.map TmE.pair)[i]'(by rw [List.length_map, Array.length_toList]; exact hi) = (d'[i]!.z, d'[i]!.mo) := by
    rw [List.getElem_map, Array.getElem_toList, getElem!_pos d' i hi]; rfl
   refine ⟨⟨g, 0, none⟩, d'[i]!.neg, d'[i]!.A, d'[i]!.n, d'[i]!.c, rfl, Nat.lt_of_lt_of_le hglt hgrow.size, ?_, ?_⟩
   · rw [add_mk, Nat.zero_add, hpi]
     exact ⟨hcell 0 (by omega), hcell 1 (by omega), hcell 2 (by omega), hcell 3 (by omega), hcell 4 (by omega), hcell 5 (by omega)⟩
   · rw [hpi]
     exact Cf.turn hcfk hnat
 · exact Below.grown (Below.refl _ _) hgrow (by omega) (fun b e => by injection e with e; omega)
 · exact hgrow.size
end Go.Proofs.YtkbpnppiadaibaaGreatDoor
