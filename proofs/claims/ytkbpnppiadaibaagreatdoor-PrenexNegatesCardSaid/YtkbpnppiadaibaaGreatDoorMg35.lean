/- Layer 38: prenex.Negate. -/
import Derived.Test.YtkbpnppiadaibaaGreatDoorMg32
import Derived.Test.YtkbpnppiadaibaaGreatDoorMg34
import Derived.Deep.RegionLaw
import Derived.Test.YtkbpnppiadaibaaGreatDoorMg33
import Derived.Test.YtkbpnppiadaibaaGreatDoorMg23
set_option linter.unusedSimpArgs false
set_option linter.unusedVariables false

namespace Go.Proofs.YtkbpnppiadaibaaGreatDoor
open Go.RowKit

set_option maxRecDepth 100000 in
set_option maxHeartbeats 4000000 in
theorem negate_of {w : World} {q : Nat → Prop} {fr : Int} {all : List Bool} {nms : List ByteArray} {m : Mx} {v : Value} (hbig : m.sz ≤ 1000000) (hpn : ∀ (w' : World) (q : Nat → Prop) (v : Value), MxV w' q m v → Calls Tryz.prog 51 #[v] w' (RetMx (fun b => w'.heap.size ≤ b) m.not w')) (hal : all.length ≤ 1000) (hnl : nms.length ≤ 1000) (h : PxV w q fr all nms m v) : Calls Tryz.prog 15 #[v] w fun e w' => ∃ v', e = .returned v' ∧ PxV w' (fun b => w.heap.size ≤ b) fr (all.map not) nms m.not v' ∧ Ext w w' := by
  obtain ⟨A1, c1, A2, c2, A0, n0, c0, B, n1, c3, K, n2, c4, rfl, hb1, hs1, hm1⟩ := h
  have HA := Lib.hid hb1
  have HC : Hid (∀ w', Ext w w' → Calls Tryz.prog 48 #[.slice A2 nms.length c2] w' fun e w'' => ∃ v', e = .returned v' ∧ GRow 9 1 w'.heap.size w'' v' nms.length (strs nms) ∧ Ext w' w'') := Lib.hid (fun w' hx => clone_any (hs1.ext hx) (by omega))
  have HN : Hid (∀ w', Ext w w' → Calls Tryz.prog 51 #[mxV m (.slice A0 n0 c0) (.slice B n1 c3) (.slice K n2 c4)] w' (RetMx (fun b => w'.heap.size ≤ b) m.not w')) := Lib.hid (fun w' hx => hpn w' _ _ (hm1.ext hx))
  unfold mxV at HN
  clear hs1 hb1 hm1
  obtain ⟨W, hW⟩ : ∃ W, (w.alloc (.cells #[.int .i64 fr, .slice A1 all.length c1, .slice A2 nms.length c2, .int .i64 m.kind, .int .i64 m.rel, .int .i64 m.p.lv, .bool m.p.neg, .slice A0 n0 c0, .slice B n1 c3, .slice K n2 c4] 47)).alloc (.cells #[.int .i64 0, .slice none 0 0, .slice none 0 0, .int .i64 0, .int .i64 0, .int .i64 0, .bool false, .slice none 0 0, .slice none 0 0, .slice none 0 0] 47) = W := ⟨_, rfl⟩
  obtain ⟨hx, hsz, b0, b1, b2, b3, b4, b5, b6, b7, b8, b9⟩ := box10 w _ _ _ _ _ _ _ _ _ _ _ _ rfl
  obtain ⟨hx', hsz', -⟩ := box10 (w.alloc (.cells #[.int .i64 fr, .slice A1 all.length c1, .slice A2 nms.length c2, .int .i64 m.kind, .int .i64 m.rel, .int .i64 m.p.lv, .bool m.p.neg, .slice A0 n0 c0, .slice B n1 c3, .slice K n2 c4] 47)) _ _ _ _ _ _ _ _ _ _ _ W hW
  rw [hsz] at hsz'
  have hS : ∀ W' : World, Ext W W' → Ext w W' ∧ W'.cell? ⟨w.heap.size, 0, none⟩ = some (.int .i64 fr) ∧ W'.cell? ⟨w.heap.size, 1, none⟩ = some (.slice A1 all.length c1) ∧ W'.cell? ⟨w.heap.size, 2, none⟩ = some (.slice A2 nms.length c2) ∧ (W'.cell? ⟨w.heap.size, 3, none⟩ = some (.int .i64 m.kind) ∧ W'.cell? ⟨w.heap.size, 4, none⟩ = some (.int .i64 m.rel) ∧ W'.cell? ⟨w.heap.size, 5, none⟩ = some (.int .i64 m.p.lv) ∧ W'.cell? ⟨w.heap.size, 6, none⟩ = some (.bool m.p.neg) ∧ W'.cell? ⟨w.heap.size, 7, none⟩ = some (.slice A0 n0 c0) ∧ W'.cell? ⟨w.heap.size, 8, none⟩ = some (.slice B n1 c3) ∧ W'.cell? ⟨w.heap.size, 9, none⟩ = some (.slice K n2 c4)) := by
    intro W' hxx
    have k : ∀ j, W'.cell? ⟨w.heap.size, j, none⟩ = (w.alloc (.cells #[.int .i64 fr, .slice A1 all.length c1, .slice A2 nms.length c2, .int .i64 m.kind, .int .i64 m.rel, .int .i64 m.p.lv, .bool m.p.neg, .slice A0 n0 c0, .slice B n1 c3, .slice K n2 c4] 47)).cell? ⟨w.heap.size, j, none⟩ := fun j => (hx'.trans hxx).cell (p := ⟨w.heap.size, j, none⟩) (by show w.heap.size < _; omega)
    exact ⟨(hx.trans hx').trans hxx, (k 0).trans b0, (k 1).trans b1, (k 2).trans b2, (k 3).trans b3, (k 4).trans b4, (k 5).trans b5, (k 6).trans b6, (k 7).trans b7, (k 8).trans b8, (k 9).trans b9⟩
  have HSS := Lib.hid hS
  have HWS : Hid (W.heap.size = w.heap.size + 1 + 1) := Lib.hid hsz'
  have HZ : Hid (Zero10 W (w.heap.size + 1)) := Lib.hid (by
    have h1 := Zero10.new (w.alloc (.cells #[.int .i64 fr, .slice A1 all.length c1, .slice A2 nms.length c2, .int .i64 m.kind, .int .i64 m.rel, .int .i64 m.p.lv, .bool m.p.neg, .slice A0 n0 c0, .slice B n1 c3, .slice K n2 c4] 47)) 47
    rw [hW, hsz] at h1
    exact h1)
  clear hx hx' hsz hsz' b0 b1 b2 b3 b4 b5 b6 b7 b8 b9 hS
  unfold pxC
  go_enter Tryz.func15, Tryz.ntmps15
  go_upto_region 1 with fail
  refine wp_region_held_drew (S := fun W2 => Ext w W2 ∧ W2.cell? ⟨w.heap.size, 0, none⟩ = some (.int .i64 fr) ∧ W2.cell? ⟨w.heap.size, 1, none⟩ = some (.slice A1 all.length c1) ∧ W2.cell? ⟨w.heap.size, 2, none⟩ = some (.slice A2 nms.length c2) ∧ (W2.cell? ⟨w.heap.size, 3, none⟩ = some (.int .i64 m.kind) ∧ W2.cell? ⟨w.heap.size, 4, none⟩ = some (.int .i64 m.rel) ∧ W2.cell? ⟨w.heap.size, 5, none⟩ = some (.int .i64 m.p.lv) ∧ W2.cell? ⟨w.heap.size, 6, none⟩ = some (.bool m.p.neg) ∧ W2.cell? ⟨w.heap.size, 7, none⟩ = some (.slice A0 n0 c0) ∧ W2.cell? ⟨w.heap.size, 8, none⟩ = some (.slice B n1 c3) ∧ W2.cell? ⟨w.heap.size, 9, none⟩ = some (.slice K n2 c4))) (by kernel_rfl) (HSS.out _ (Ext.refl W).drew) (fun hHeld => ?_)
  refine wpAnyH_take (i := 0) (v := ?v0) rfl (by kernel_rfl) (by kernel_rfl) (by kernel_rfl) (fun _ _ _ h => h) (Or.inl ⟨by rfl, ?hy0⟩) (by assumption) ?rest0
  case hy0 =>
    intro w' hSw
    try dsimp only at hSw
    go_simp
    try (with_reducible rfl)
  try simp only [Act.put, List.getElem_toArray, List.getElem_cons_zero, List.getElem_cons_succ, List.setIfInBounds_toArray, List.set_cons_zero, List.set_cons_succ]
  refine wpAnyH_take (i := 2) (v := ?v2) rfl (by kernel_rfl) (by kernel_rfl) (by kernel_rfl) (fun _ _ _ h => h) (Or.inl ⟨by rfl, ?hy2⟩) (by assumption) ?rest2
  case hy2 =>
    intro w' hSw
    try dsimp only at hSw
    go_simp
    try (with_reducible rfl)
  try simp only [Act.put, List.getElem_toArray, List.getElem_cons_zero, List.getElem_cons_succ, List.setIfInBounds_toArray, List.set_cons_zero, List.set_cons_succ]
  refine wpAnyH_take (i := 5) (v := ?v5) rfl (by kernel_rfl) (by kernel_rfl) (by kernel_rfl) (fun _ _ _ h => h) (Or.inl ⟨by rfl, ?hy5⟩) (by assumption) ?rest5
  case hy5 =>
    intro w' hSw
    try dsimp only at hSw
    go_simp
    try (with_reducible rfl)
  try simp only [Act.put, List.getElem_toArray, List.getElem_cons_zero, List.getElem_cons_succ, List.setIfInBounds_toArray, List.set_cons_zero, List.set_cons_succ]
  refine wpAnyH_take (i := 1) (v := ?v1) rfl (by kernel_rfl) (by kernel_rfl) (by kernel_rfl) (fun _ _ _ h => h) (Or.inl ⟨by rfl, ?hy1⟩) (by assumption) ?rest1
  case hy1 =>
    intro w' hSw
    try dsimp only at hSw
    go_simp
    try (with_reducible rfl)
  try simp only [Act.put, List.getElem_toArray, List.getElem_cons_zero, List.getElem_cons_succ, List.setIfInBounds_toArray, List.set_cons_zero, List.set_cons_succ]
  refine wpAnyH_take (i := 3) (v := ?v3) rfl (by kernel_rfl) (by kernel_rfl) (by kernel_rfl) (fun _ _ _ h => h) (Or.inl ⟨by rfl, ?hy3⟩) (by assumption) ?rest3
  case hy3 =>
    intro w' hSw
    try dsimp only at hSw
    go_simp
    try (with_reducible rfl)
  try simp only [Act.put, List.getElem_toArray, List.getElem_cons_zero, List.getElem_cons_succ, List.setIfInBounds_toArray, List.set_cons_zero, List.set_cons_succ]
  refine wpAnyH_take (i := 6) (v := ?v6) rfl (by kernel_rfl) (by kernel_rfl) (by kernel_rfl) (fun _ _ _ h => h) (Or.inl ⟨by rfl, ?hy6⟩) (by assumption) ?rest6
  case hy6 =>
    intro w' hSw
    try dsimp only at hSw
    go_simp
    try (with_reducible rfl)
  try simp only [Act.put, List.getElem_toArray, List.getElem_cons_zero, List.getElem_cons_succ, List.setIfInBounds_toArray, List.set_cons_zero, List.set_cons_succ]
  refine wpAnyH_ready (rs := [4, 9]) (by kernel_rfl) (by simp) ?_
  refine AllReadyH.cons rfl (fun K hK => ?brP) (AllReadyH.cons rfl (fun K hK => ?brC) AllReadyH.nil)
  case' brP =>
    go_simp
    go_at_call 48
    refine (HC.out _ hHeld.1).mono ?_
    rintro e w2 ⟨v2, rfl, r2, x2⟩
    obtain ⟨E0, g0, rfl, hg1, hg2⟩ := r2.len
    refine hK.out _ _ (HSS.out _ ((Ext.refl W).drew.trans x2)) (fun hHeld => ?_)
    clear hK K
    try simp only [Act.put, List.getElem_toArray, List.getElem_cons_zero, List.getElem_cons_succ, List.setIfInBounds_toArray, List.set_cons_zero, List.set_cons_succ]
    have y2 := Ext.trans (Ext.refl W).drew x2
    refine wpAnyH_ready (rs := [7, 9]) (by kernel_rfl) (by simp) ?_
    refine AllReadyH.cons rfl (fun K hK => ?brA) (AllReadyH.cons rfl (fun K hK => ?brB) AllReadyH.nil)
    case' brA =>
      go_simp
      go_at_call 51
      refine (HN.out _ hHeld.1).mono ?_
      rintro e w3 ⟨v3, rfl, r3, x3⟩
      have y3 := Ext.trans y2 x3
      obtain ⟨D0, j0, f0, D1, j1, f1, D2, f2, rfl, -⟩ := id r3.open_
      unfold mxV
      refine hK.out _ _ (HSS.out _ y3) (fun hHeld => ?_)
      clear hK K
      try simp only [Act.put, List.getElem_toArray, List.getElem_cons_zero, List.getElem_cons_succ, List.setIfInBounds_toArray, List.set_cons_zero, List.set_cons_succ]
      refine wpAnyH_take (i := 8) (v := ?v8a) rfl (by kernel_rfl) (by kernel_rfl) (by kernel_rfl) (fun _ _ _ h => h) (Or.inl ⟨by rfl, ?hy8a⟩) (by assumption) ?rest8a
      case hy8a =>
        intro w' hSw
        try dsimp only at hSw
        go_simp
        try (with_reducible rfl)
      try simp only [Act.put, List.getElem_toArray, List.getElem_cons_zero, List.getElem_cons_succ, List.setIfInBounds_toArray, List.set_cons_zero, List.set_cons_succ]
      refine wpAnyH_ready (rs := [9]) (by kernel_rfl) (by simp) ?_
      refine AllReadyH.cons rfl (fun K hK => ?_) AllReadyH.nil
      go_simp
      have y4 := Ext.alloc y3 (.cells #[.int .i64 0, .slice none 0 0, .slice none 0 0, .int .i64 0, .int .i64 0, .int .i64 0, .bool false, .slice none 0 0, .slice none 0 0, .slice none 0 0] 47)
      refine hK.out _ _ (HSS.out _ y4) (fun hHeld => ?_)
      clear hK K
      try simp only [Act.put, List.getElem_toArray, List.getElem_cons_zero, List.getElem_cons_succ, List.setIfInBounds_toArray, List.set_cons_zero, List.set_cons_succ]
      refine wpAnyH_ready (rs := [10]) (by kernel_rfl) (by simp) ?_
      refine AllReadyH.cons rfl (fun K hK => ?_) AllReadyH.nil
      go_simp
      refine (?finA : ∀ W3, (Ext W W3 ∧ NegG w w3.heap.size fr nms m.not E0 g0 D0 j0 f0 D1 j1 f1 D2 m.not.ks.length f2 [] W3) → K _ W3) _ ⟨Ext.alloc y3 _, ?negA⟩
      case' negA =>
        have hxw : Ext w w3 := (HSS.out _ (Ext.refl W)).1.trans y3
        have hws := HWS.out
        have hsd : ∀ w' : World, w'.drew.heap.size = w'.heap.size := fun _ => rfl
        have hs3 := y3.size
        have hs2 := y2.size
        have hx3 := x3.size
        have hx2 := x2.size
        try simp only [World.size_alloc, hsd] at hx2 hx3
        try simp only [World.size_alloc, hsd] at r3
        have hfar := names_far r2
        try simp only [World.size_alloc, hsd] at hfar
        exact NegG.start (q := fun b => w2.heap.size ≤ b ∧ b < w3.heap.size) (hxw.alloc _) ⟨by omega, by simp⟩ (HZ.out.ext (y3.alloc _) (by omega)) (box10 w3 47 _ _ _ _ _ _ _ _ _ _ _ rfl).2.2 (fun i => by simp [go_sem]) (((row_strs r2).ext x3).ext ((Ext.refl w3).alloc _)) (fun ad e h => by have := hfar ad e h; simp; omega) (MxV.turn_ (by simp) (fun v ds hv => hv.ext ((Ext.refl w3).alloc _)) (fun b hlt hq => ⟨⟨hq, hlt⟩, ((Ext.refl w3).alloc _).below.block b hlt⟩) r3) (fun b hlt hqb => ⟨by omega, by omega⟩)
      case' finA =>
        intro W3 hN
        generalize w3.heap.size = o at hN ⊢
    case' brB =>
      go_simp
      have y5 := Ext.alloc y2 (.cells #[.int .i64 0, .slice none 0 0, .slice none 0 0, .int .i64 0, .int .i64 0, .int .i64 0, .bool false, .slice none 0 0, .slice none 0 0, .slice none 0 0] 47)
      refine hK.out _ _ (HSS.out _ y5) (fun hHeld => ?_)
      clear hK K
      try simp only [Act.put, List.getElem_toArray, List.getElem_cons_zero, List.getElem_cons_succ, List.setIfInBounds_toArray, List.set_cons_zero, List.set_cons_succ]
      refine wpAnyH_ready (rs := [7]) (by kernel_rfl) (by simp) ?_
      refine AllReadyH.cons rfl (fun K hK => ?_) AllReadyH.nil
      go_simp
      go_at_call 51
      refine (HN.out _ hHeld.1).mono ?_
      rintro e w3 ⟨v3, rfl, r3, x3⟩
      have y3 := Ext.trans y5 x3
      obtain ⟨D0, j0, f0, D1, j1, f1, D2, f2, rfl, -⟩ := id r3.open_
      unfold mxV
      refine hK.out _ _ (HSS.out _ y3) (fun hHeld => ?_)
      clear hK K
      try simp only [Act.put, List.getElem_toArray, List.getElem_cons_zero, List.getElem_cons_succ, List.setIfInBounds_toArray, List.set_cons_zero, List.set_cons_succ]
      refine wpAnyH_take (i := 8) (v := ?v8b) rfl (by kernel_rfl) (by kernel_rfl) (by kernel_rfl) (fun _ _ _ h => h) (Or.inl ⟨by rfl, ?hy8b⟩) (by assumption) ?rest8b
      case hy8b =>
        intro w' hSw
        try dsimp only at hSw
        go_simp
        try (with_reducible rfl)
      try simp only [Act.put, List.getElem_toArray, List.getElem_cons_zero, List.getElem_cons_succ, List.setIfInBounds_toArray, List.set_cons_zero, List.set_cons_succ]
      refine wpAnyH_ready (rs := [10]) (by kernel_rfl) (by simp) ?_
      refine AllReadyH.cons rfl (fun K hK => ?_) AllReadyH.nil
      obtain ⟨⟨t0, t1, t2, t3, t4, t5, t6, t7, t8, t9⟩, tf⟩ := (Zero10.new w2 47).ext x3 (by simp)
      go_simp
      refine (?finB : ∀ W3, (Ext W W3 ∧ NegG w w2.heap.size fr nms m.not E0 g0 D0 j0 f0 D1 j1 f1 D2 m.not.ks.length f2 [] W3) → K _ W3) (set10 w3 w2.heap.size (.int .i64 fr) (.slice none 0 0) (.slice E0 nms.length g0) (.int .i64 m.not.kind) (.int .i64 m.not.rel) (.int .i64 m.not.p.lv) (.bool m.not.p.neg) (.slice D0 j0 f0) (.slice D1 j1 f1) (.slice D2 m.not.ks.length f2)) ⟨?extB, ?negB⟩
      case' extB =>
        rw [set10_cells]
        exact ext_setCells y2.size _ _ _ y3
      case' negB =>
        have hxw : Ext w w3 := (HSS.out _ (Ext.refl W)).1.trans y3
        have hws := HWS.out
        have hsd : ∀ w' : World, w'.drew.heap.size = w'.heap.size := fun _ => rfl
        have hs3 := y3.size
        have hs2 := y2.size
        have hx3 := x3.size
        have hx2 := x2.size
        try simp only [World.size_alloc, hsd] at hx2 hx3
        try simp only [World.size_alloc, hsd] at r3
        have hfar := names_far r2
        try simp only [World.size_alloc, hsd] at hfar
        exact NegG.start_set (q := fun b => w2.heap.size + 1 ≤ b) hxw ⟨by omega, by omega⟩ (HZ.out.ext y3 (by omega)) ((Zero10.new w2 47).ext x3 (by simp)) ((row_strs r2).ext (((Ext.refl w2).alloc _).trans x3)) (fun ad e h => by have := hfar ad e h; omega) r3 (fun b hlt hqb => ⟨by omega, by omega⟩)
      case' finB =>
        intro W3 hN
        generalize w2.heap.size = o at hN ⊢
  case' brC =>
    go_simp
    have y6 := Ext.alloc (Ext.refl W).drew (.cells #[.int .i64 0, .slice none 0 0, .slice none 0 0, .int .i64 0, .int .i64 0, .int .i64 0, .bool false, .slice none 0 0, .slice none 0 0, .slice none 0 0] 47)
    refine hK.out _ _ (HSS.out _ y6) (fun hHeld => ?_)
    clear hK K
    try simp only [Act.put, List.getElem_toArray, List.getElem_cons_zero, List.getElem_cons_succ, List.setIfInBounds_toArray, List.set_cons_zero, List.set_cons_succ]
    refine wpAnyH_ready (rs := [4]) (by kernel_rfl) (by simp) ?_
    refine AllReadyH.cons rfl (fun K hK => ?_) AllReadyH.nil
    go_simp
    go_at_call 48
    refine (HC.out _ hHeld.1).mono ?_
    rintro e w2 ⟨v2, rfl, r2, x2⟩
    obtain ⟨E0, g0, rfl, hg1, hg2⟩ := r2.len
    have y2 := Ext.trans y6 x2
    refine hK.out _ _ (HSS.out _ y2) (fun hHeld => ?_)
    clear hK K
    try simp only [Act.put, List.getElem_toArray, List.getElem_cons_zero, List.getElem_cons_succ, List.setIfInBounds_toArray, List.set_cons_zero, List.set_cons_succ]
    refine wpAnyH_ready (rs := [7]) (by kernel_rfl) (by simp) ?_
    refine AllReadyH.cons rfl (fun K hK => ?_) AllReadyH.nil
    go_simp
    go_at_call 51
    refine (HN.out _ hHeld.1).mono ?_
    rintro e w3 ⟨v3, rfl, r3, x3⟩
    have y3 := Ext.trans y2 x3
    obtain ⟨D0, j0, f0, D1, j1, f1, D2, f2, rfl, -⟩ := id r3.open_
    unfold mxV
    refine hK.out _ _ (HSS.out _ y3) (fun hHeld => ?_)
    clear hK K
    try simp only [Act.put, List.getElem_toArray, List.getElem_cons_zero, List.getElem_cons_succ, List.setIfInBounds_toArray, List.set_cons_zero, List.set_cons_succ]
    refine wpAnyH_take (i := 8) (v := ?v8c) rfl (by kernel_rfl) (by kernel_rfl) (by kernel_rfl) (fun _ _ _ h => h) (Or.inl ⟨by rfl, ?hy8c⟩) (by assumption) ?rest8c
    case hy8c =>
      intro w' hSw
      try dsimp only at hSw
      go_simp
      try (with_reducible rfl)
    try simp only [Act.put, List.getElem_toArray, List.getElem_cons_zero, List.getElem_cons_succ, List.setIfInBounds_toArray, List.set_cons_zero, List.set_cons_succ]
    refine wpAnyH_ready (rs := [10]) (by kernel_rfl) (by simp) ?_
    refine AllReadyH.cons rfl (fun K hK => ?_) AllReadyH.nil
    obtain ⟨⟨t0, t1, t2, t3, t4, t5, t6, t7, t8, t9⟩, tf⟩ := (show Zero10 w3 W.heap.size from ((Zero10.new W.drew 47).ext x2 (by simp)).ext x3 (by have := x2.size; simp at this; show W.heap.size < _; omega))
    go_simp
    refine (?finC : ∀ W3, (Ext W W3 ∧ NegG w W.heap.size fr nms m.not E0 g0 D0 j0 f0 D1 j1 f1 D2 m.not.ks.length f2 [] W3) → K _ W3) (set10 w3 W.heap.size (.int .i64 fr) (.slice none 0 0) (.slice E0 nms.length g0) (.int .i64 m.not.kind) (.int .i64 m.not.rel) (.int .i64 m.not.p.lv) (.bool m.not.p.neg) (.slice D0 j0 f0) (.slice D1 j1 f1) (.slice D2 m.not.ks.length f2)) ⟨?extC, ?negC⟩
    case' extC =>
      rw [set10_cells]
      exact ext_setCells (Nat.le_refl _) _ _ _ y3
    case' negC =>
      have hxw : Ext w w3 := (HSS.out _ (Ext.refl W)).1.trans y3
      have hws := HWS.out
      have hsd : ∀ w' : World, w'.drew.heap.size = w'.heap.size := fun _ => rfl
      have hs3 := y3.size
      have hs2 := y2.size
      have hx3 := x3.size
      have hx2 := x2.size
      try simp only [World.size_alloc, hsd] at hx2 hx3
      try simp only [World.size_alloc, hsd] at r3
      have hfar := names_far r2
      try simp only [World.size_alloc, hsd] at hfar
      exact NegG.start_set (q := fun b => w2.heap.size ≤ b) hxw ⟨by omega, by omega⟩ (HZ.out.ext y3 (by omega)) (((Zero10.new W.drew 47).ext x2 (by simp)).ext x3 (by show W.heap.size < _; omega)) ((row_strs r2).ext x3) (fun ad e h => by have := hfar ad e h; omega) r3 (fun b hlt hqb => ⟨by omega, by omega⟩)
    case' finC =>
      intro W3 hN
      generalize W.heap.size = o at hN ⊢
  all_goals
    have hSw := HSS.out _ hN.1
    refine hK.out _ _ hSw (fun hHeld => ?_)
    have HNG := Lib.hid hN.2
    clear hN hK K hHeld
    refine wpAnyH_done (by kernel_rfl) ?_ _
    obtain ⟨hxw, p0, p1, p2, -⟩ := hSw
    clear hxw
    go_wp2_with fail
    clear p0 p1 p2
    go_loopw [18] (fun iv wr => ∃ k : Nat, k ≤ all.length ∧ iv = .int .i64 k ∧ Hid (NegG w o fr nms m.not E0 g0 D0 j0 f0 D1 j1 f1 D2 m.not.ks.length f2 ((all.take k).map not) wr)) (fun iv _ => all.length - (intOf iv).toNat)
    case atStart => exact ⟨0, Nat.zero_le _, rfl, HNG⟩
    case round =>
      obtain ⟨k, hk, rfl, HG⟩ := hrel
      by_cases hlt : k < all.length
      · have hln : ((all.take k).map not).length = k := by rw [List.length_map, List.length_take]; omega
        obtain ⟨AL, cL, hc1, hl1, hl2, hnext⟩ := HG.out.step (by omega)
        obtain ⟨hxw, ⟨hwo, hos⟩, -⟩ := HG.out
        obtain ⟨A', c', e', -, -, h3⟩ := HA.out.ext hxw
        injection e' with e1 e2 e3
        obtain ⟨ad, x, e4, hb, a0, rfl⟩ := h3 k hlt
        obtain rfl : A1 = some ad := e1.trans e4
        have HTK : Hid ((all.take (k + 1)).map not = (all.take k).map not ++ [!all[k]]) := by
          have : (all.take (k + 1)).map not = (all.take k).map not ++ [!all[k]] := by rw [List.take_succ_eq_append_getElem hlt, List.map_append]; rfl
          exact this
        obtain ⟨AL', cL', w4, hrun, h6, hf6, hgn⟩ := hnext (!all[k]) 38
        rw [hln] at hc1 hl1 hrun h6 hgn
        rw [← HTK.out] at hgn
        have hc2 : (wr.alloc (.cells #[.bool (!all[k])] 4)).cell? ⟨o, 1, none⟩ = some (.slice AL k cL) := (((Ext.refl wr).alloc _).cell (p := ⟨o, 1, none⟩) hos).trans hc1
        have HRUN := Lib.hid hrun
        have HGN := Lib.hid hgn
        clear hnext hxw h3 e1 e2 e3 e4 hln hrun hgn HTK hwo hos
        generalize all[k] = b at *
        go_upto_region 5 with fail
        clear a0
        iterate 30 (first | at_builtin | go_values | go_skip | go_guarded | go_step | go_upon | go_back | go_simp)
        refine wpList_append_run rfl (.tmp 23) (.tmp 26) _ _ rfl _ _ _ _ rfl rfl HRUN.out ?_
        clear HRUN hc1 hc2
        go_wp2_with fail
        go_roundw
        case rel => exact ⟨k + 1, by omega, by go_num, HGN⟩
        case measure => simp [intOf]; omega
      · have hke : k = all.length := by omega
        have HG2 : Hid (NegG w o fr nms m.not E0 g0 D0 j0 f0 D1 j1 f1 D2 m.not.ks.length f2 (all.map not) wr) := Lib.hid (by
          have h1 := HG.out
          rw [hke, List.take_length] at h1
          exact h1)
        obtain ⟨AL, cL, ⟨t0, t1, t2, t3, t4, t5, t6, t7, t8, t9⟩, ⟨⟨z0, z1, z2, z3, z4, z5, z6, z7, z8, z9⟩, zf⟩, hfx, hfp⟩ := HG2.out.fin
        rw [List.length_map] at t1 hfx hfp
        unfold set10 at hfx hfp
        have HFX := Lib.hid hfx
        have HFP := Lib.hid hfp
        clear hfx hfp hke HG HG2
        go_wp2_with fail
        exact bodyPost_ret (v := pxC fr (.slice AL all.length cL) (.slice E0 nms.length g0) m.not (.slice D0 j0 f0) (.slice D1 j1 f1) (.slice D2 m.not.ks.length f2)) (by simp [results, Tryz.results15, go_sem, z0, z1, z2, z3, z4, z5, z6, z7, z8, z9, pxC]) rfl ⟨_, rfl, HFP.out, HFX.out⟩
theorem negate_can {w : World} {q : Nat → Prop} {fr : Int} {all : List Bool} {nms : List ByteArray} {m : Mx} {v : Value} (hbig : m.sz ≤ 1000000) (hsm : m.each CanN) (hal : all.length ≤ 1000) (hnl : nms.length ≤ 1000) (h : PxV w q fr all nms m v) : Calls Tryz.prog 15 #[v] w fun e w' => ∃ v', e = .returned v' ∧ PxV w' (fun b => w.heap.size ≤ b) fr (all.map not) nms m.not v' ∧ Ext w w' :=
  negate_of hbig (fun w' _ v h => pnot_can m v w' hbig hsm h) hal hnl h
end Go.Proofs.YtkbpnppiadaibaaGreatDoor

/- Reference 38: Equal: equality of matrices, field by field. -/
namespace Go.Proofs.YtkbpnppiadaibaaGreatDoor
open Go.RowKit

def meqIH (w0 : World) (n : Nat) : Prop := ∀ (p q : Mx) (v u : Value) (w : World), p.sz < n → p.sz ≤ 1000000 → p.each (fun r => r.sz ≤ 1099511627776) → MxV w0 (fun _ => True) p v → MxV w0 (fun _ => True) q u → Ext w0 w → Calls Tryz.prog 50 #[v, u] w (RetB (eqB p q) w)

set_option maxRecDepth 100000 in
set_option maxHeartbeats 4000000 in
theorem meq_ih (w0 : World) (n : Nat) : meqIH w0 n := by
  induction n with
  | zero => intro p q v u w h; omega
  | succ n ih =>
  intro p q v u w hn hsz hea h h' hx0
  have IH := Lib.hid ih
  have HX0 := Lib.hid hx0
  have HSZ : Hid (∀ k (hk : k < p.ks.length), p.ks[k].sz < n ∧ p.ks[k].sz ≤ 1000000 ∧ p.ks[k].each (fun r => r.sz ≤ 1099511627776)) := by
    have : ∀ k (hk : k < p.ks.length), p.ks[k].sz < n ∧ p.ks[k].sz ≤ 1000000 ∧ p.ks[k].each (fun r => r.sz ≤ 1099511627776) := fun k hk => by
      have := p.kid_le k hk
      exact ⟨by omega, by omega, eachM_mem (Mx.each_ks hea) (List.getElem_mem hk)⟩
    exact this
  have hkl : p.ks.length ≤ 1000000 := by have := p.ks_len; omega
  obtain ⟨A0, n0, c0, A, n1, c1, K, c, rfl, hp, hl1, hl2, h4⟩ := h.open_
  obtain ⟨B0, m0, d0, B, m1, d1, K', d, rfl, hp', hl1', hl2', h4'⟩ := h'.open_
  have H4 := Lib.hid h4
  have H4' := Lib.hid h4'
  have HPS : Hid (p.p.sz ≤ 1099511627776) := Lib.hid (Mx.each_p hea)
  have HP := Lib.hid hp
  have HP' := Lib.hid hp'
  obtain ⟨W, hW⟩ : ∃ W, (w.alloc (.cells #[.int .i64 p.kind, .int .i64 p.rel, .int .i64 p.p.lv, .bool p.p.neg, .slice A0 n0 c0, .slice A n1 c1, .slice K p.ks.length c] 45)).alloc (.cells #[.int .i64 q.kind, .int .i64 q.rel, .int .i64 q.p.lv, .bool q.p.neg, .slice B0 m0 d0, .slice B m1 d1, .slice K' q.ks.length d] 45) = W := ⟨_, rfl⟩
  have hWx : Ext w W := by rw [← hW]; exact ((Ext.refl w).alloc _).alloc _
  have hWs : W.heap.size = w.heap.size + 1 + 1 := by rw [← hW]; simp
  have hbx : Box7 W w.heap.size p (.slice A0 n0 c0) (.slice A n1 c1) (.slice K p.ks.length c) := by rw [← hW]; exact (Box7.new w p _ _ _ _).ext ((Ext.refl _).alloc _) (by simp)
  have hby : Box7 W (w.heap.size + 1) q (.slice B0 m0 d0) (.slice B m1 d1) (.slice K' q.ks.length d) := by
    rw [← hW]
    have h1 := Box7.new (w.alloc (.cells #[.int .i64 p.kind, .int .i64 p.rel, .int .i64 p.p.lv, .bool p.p.neg, .slice A0 n0 c0, .slice A n1 c1, .slice K p.ks.length c] 45)) q (.slice B0 m0 d0) (.slice B m1 d1) (.slice K' q.ks.length d) 45
    simpa using h1
  have HWX := Lib.hid hWx
  have HBX := Lib.hid hbx
  have HBY := Lib.hid hby
  obtain ⟨b0, b1, b2, b3, b4, b5, b6⟩ := hbx
  obtain ⟨e0, e1, e2, e3, e4, e5, e6⟩ := hby
  clear h h' ih h4 h4' hx0 hp hp' hWx hea
  obtain ⟨res, hres⟩ : ∃ res, eqB p q = res := ⟨_, rfl⟩
  rw [hres]
  have HRES := Lib.hid hres
  clear hres
  unfold mxV
  go_enter Tryz.func50, Tryz.ntmps50
  by_cases hlv : p.kind = q.kind
  case neg =>
    have HF : Hid (res = false) := Lib.hid (HRES.out.symm.trans (eqB_ne fun e => hlv (by rw [e])))
    have hlv2 : (p.kind != q.kind) = true := by simpa using hlv
    go_wp2_with fail
    go_ret
    exact ⟨by rw [HF.out]; rfl, HWX.out⟩
  have HLV := Lib.hid hlv
  rw [← hlv] at e0 hW
  rw [← hlv]
  clear hlv
  by_cases hre : p.rel = q.rel
  case neg =>
    have HF : Hid (res = false) := Lib.hid (HRES.out.symm.trans (eqB_ne fun e => hre (by rw [e])))
    have hre2 : (p.rel != q.rel) = true := by simpa using hre
    go_wp2_with fail
    go_ret
    exact ⟨by rw [HF.out]; rfl, HWX.out⟩
  have HRE := Lib.hid hre
  rw [← hre] at e1 hW
  rw [← hre]
  clear hre
  by_cases hl : p.ks.length = q.ks.length
  case neg =>
    have HF : Hid (res = false) := Lib.hid (HRES.out.symm.trans (eqB_ne fun e => hl (by rw [e])))
    go_wp2_with fail
    go_ret
    exact ⟨by rw [HF.out]; rfl, HWX.out⟩
  have HL := Lib.hid hl
  have HBY2 : Hid (∀ w1, Ext W w1 → w1.cell? ⟨w.heap.size + 1, 6, none⟩ = some (.slice K' p.ks.length d)) := Lib.hid (fun w1 hx => by rw [hl]; exact (HBY.out.ext hx (by omega)).2.2.2.2.2.2)
  rw [← hl] at e6 hW hl1'
  rw [← hl]
  clear hl
  have hsp := sp_any p.p q.p _ _ HPS.out (HP.out.ext (HX0.out.trans HWX.out)) (HP'.out.ext (HX0.out.trans HWX.out))
  unfold plV at hsp
  have HSI := Lib.hid hsp
  clear hsp
  go_wp2_with fail
  clear hW b0 b1 b2 b3 b4 b5 b6 e0 e1 e2 e3 e4 e5 e6
  refine HSI.out.mono ?_
  rintro e w1 ⟨rfl, x1⟩
  have b6 : w1.cell? ⟨w.heap.size, 6, none⟩ = some (.slice K p.ks.length c) := (HBX.out.ext x1 (by omega)).2.2.2.2.2.2
  have e6 := HBY2.out w1 x1
  have X1 := Lib.hid (HWX.out.trans x1)
  have XW := Lib.hid x1
  have hws := x1.size
  clear x1 HSI
  by_cases hsi : p.p = q.p
  case neg =>
    have HF : Hid (res = false) := Lib.hid (HRES.out.symm.trans (eqB_ne fun e => hsi (by rw [e])))
    rw [eqB_ne hsi]
    clear hsi
    go_wp2_with fail
    go_ret
    exact ⟨by rw [HF.out]; rfl, X1.out⟩
  rw [eqB_eq hsi]
  have HND := Lib.hid hsi
  clear hsi
  go_wp2_with fail
  clear b6 e6
  go_loopw [38] (fun iv wr => ∃ k : Nat, k ≤ p.ks.length ∧ iv = .int .i64 k ∧ Hid (p.ks.take k = q.ks.take k ∧ Ext w1 wr)) (fun iv _ => p.ks.length - (intOf iv).toNat)
  case atStart => exact ⟨0, Nat.zero_le _, rfl, ⟨by simp, Ext.refl _⟩⟩
  case round =>
    obtain ⟨k, hk, rfl, ⟨htk, hx⟩⟩ := hrel
    have HX := Lib.hid hx
    have HT := Lib.hid htk
    have b6 : wr.cell? ⟨w.heap.size, 6, none⟩ = some (.slice K p.ks.length c) := (HBX.out.ext (XW.out.trans hx) (by omega)).2.2.2.2.2.2
    have e6 := HBY2.out wr (XW.out.trans hx)
    have hws2 := hx.size
    clear hx htk
    by_cases hlt : k < p.ks.length
    · have hlt' : k < q.ks.length := by have := HL.out; omega
      obtain ⟨ad, C0, j0, f0, C1, j1, f1, C2, j2, f2, hA, hadb, hnd, hkt⟩ := MxsAt.kid H4.out k hlt
      obtain ⟨ad', D0, i0, g0, D1, i1, g1, D2, i2, g2, hA', hadb', hnd', hkt'⟩ := MxsAt.kid H4'.out k hlt'
      subst hA hA'
      have hxx : Ext w0 wr := (HX0.out.trans X1.out).trans HX.out
      have HNA := Lib.hid (hnd.ext hxx (by rw [block_of_add]; exact hadb))
      have HNB := Lib.hid (hnd'.ext hxx (by rw [block_of_add]; exact hadb'))
      have hb1 : ad.block < wr.heap.size := Nat.lt_of_lt_of_le hadb hxx.size
      have hb2 : ad'.block < wr.heap.size := Nat.lt_of_lt_of_le hadb' hxx.size
      have HKID := Lib.hid (fun W' (hW' : Ext wr W') => IH.out p.ks[k] q.ks[k] _ _ W' (HSZ.out k hlt).1 (HSZ.out k hlt).2.1 (HSZ.out k hlt).2.2 hkt hkt' (hxx.trans hW'))
      have HSTEP : Hid (p.ks[k] = q.ks[k] → p.ks.take (k + 1) = q.ks.take (k + 1)) := Lib.hid (take_next HT.out hlt hlt')
      have HNE : Hid (p.ks[k] ≠ q.ks[k] → res = false) := Lib.hid (fun hne => HRES.out.symm.trans (eqB_ne fun e => hne (by subst e; rfl)))
      unfold mxV at HKID
      generalize p.ks[k] = pk at *
      generalize q.ks[k] = qk at *
      have HSS : Hid (∀ W2, Ext wr W2 → (Ext wr W2 ∧ W2.cell? ⟨w.heap.size, 6, none⟩ = some (.slice (some ad) p.ks.length c) ∧ W2.cell? ⟨w.heap.size + 1, 6, none⟩ = some (.slice (some ad') p.ks.length d) ∧ W2.cell? (Addr.add ad (k * 7)) = some (.int .i64 pk.kind) ∧ W2.cell? ⟨(Addr.add ad (k * 7)).block, (Addr.add ad (k * 7)).off + 1, none⟩ = some (.int .i64 pk.rel) ∧ W2.cell? ⟨(Addr.add ad (k * 7)).block, (Addr.add ad (k * 7)).off + 2, none⟩ = some (.int .i64 pk.p.lv) ∧ W2.cell? ⟨(Addr.add ad (k * 7)).block, (Addr.add ad (k * 7)).off + 3, none⟩ = some (.bool pk.p.neg) ∧ W2.cell? ⟨(Addr.add ad (k * 7)).block, (Addr.add ad (k * 7)).off + 4, none⟩ = some (.slice C0 j0 f0) ∧ W2.cell? ⟨(Addr.add ad (k * 7)).block, (Addr.add ad (k * 7)).off + 5, none⟩ = some (.slice C1 j1 f1) ∧ W2.cell? ⟨(Addr.add ad (k * 7)).block, (Addr.add ad (k * 7)).off + 6, none⟩ = some (.slice C2 j2 f2) ∧ W2.cell? (Addr.add ad' (k * 7)) = some (.int .i64 qk.kind) ∧ W2.cell? ⟨(Addr.add ad' (k * 7)).block, (Addr.add ad' (k * 7)).off + 1, none⟩ = some (.int .i64 qk.rel) ∧ W2.cell? ⟨(Addr.add ad' (k * 7)).block, (Addr.add ad' (k * 7)).off + 2, none⟩ = some (.int .i64 qk.p.lv) ∧ W2.cell? ⟨(Addr.add ad' (k * 7)).block, (Addr.add ad' (k * 7)).off + 3, none⟩ = some (.bool qk.p.neg) ∧ W2.cell? ⟨(Addr.add ad' (k * 7)).block, (Addr.add ad' (k * 7)).off + 4, none⟩ = some (.slice D0 i0 g0) ∧ W2.cell? ⟨(Addr.add ad' (k * 7)).block, (Addr.add ad' (k * 7)).off + 5, none⟩ = some (.slice D1 i1 g1) ∧ W2.cell? ⟨(Addr.add ad' (k * 7)).block, (Addr.add ad' (k * 7)).off + 6, none⟩ = some (.slice D2 i2 g2))) := by
        have : ∀ W2, Ext wr W2 → (Ext wr W2 ∧ W2.cell? ⟨w.heap.size, 6, none⟩ = some (.slice (some ad) p.ks.length c) ∧ W2.cell? ⟨w.heap.size + 1, 6, none⟩ = some (.slice (some ad') p.ks.length d) ∧ W2.cell? (Addr.add ad (k * 7)) = some (.int .i64 pk.kind) ∧ W2.cell? ⟨(Addr.add ad (k * 7)).block, (Addr.add ad (k * 7)).off + 1, none⟩ = some (.int .i64 pk.rel) ∧ W2.cell? ⟨(Addr.add ad (k * 7)).block, (Addr.add ad (k * 7)).off + 2, none⟩ = some (.int .i64 pk.p.lv) ∧ W2.cell? ⟨(Addr.add ad (k * 7)).block, (Addr.add ad (k * 7)).off + 3, none⟩ = some (.bool pk.p.neg) ∧ W2.cell? ⟨(Addr.add ad (k * 7)).block, (Addr.add ad (k * 7)).off + 4, none⟩ = some (.slice C0 j0 f0) ∧ W2.cell? ⟨(Addr.add ad (k * 7)).block, (Addr.add ad (k * 7)).off + 5, none⟩ = some (.slice C1 j1 f1) ∧ W2.cell? ⟨(Addr.add ad (k * 7)).block, (Addr.add ad (k * 7)).off + 6, none⟩ = some (.slice C2 j2 f2) ∧ W2.cell? (Addr.add ad' (k * 7)) = some (.int .i64 qk.kind) ∧ W2.cell? ⟨(Addr.add ad' (k * 7)).block, (Addr.add ad' (k * 7)).off + 1, none⟩ = some (.int .i64 qk.rel) ∧ W2.cell? ⟨(Addr.add ad' (k * 7)).block, (Addr.add ad' (k * 7)).off + 2, none⟩ = some (.int .i64 qk.p.lv) ∧ W2.cell? ⟨(Addr.add ad' (k * 7)).block, (Addr.add ad' (k * 7)).off + 3, none⟩ = some (.bool qk.p.neg) ∧ W2.cell? ⟨(Addr.add ad' (k * 7)).block, (Addr.add ad' (k * 7)).off + 4, none⟩ = some (.slice D0 i0 g0) ∧ W2.cell? ⟨(Addr.add ad' (k * 7)).block, (Addr.add ad' (k * 7)).off + 5, none⟩ = some (.slice D1 i1 g1) ∧ W2.cell? ⟨(Addr.add ad' (k * 7)).block, (Addr.add ad' (k * 7)).off + 6, none⟩ = some (.slice D2 i2 g2)) := fun W2 hx2 => by
          obtain ⟨a0, a1, a2, a3, a4, a5, a6⟩ := HNA.out.ext hx2 (by rw [block_of_add]; exact hb1)
          obtain ⟨a0', a1', a2', a3', a4', a5', a6'⟩ := HNB.out.ext hx2 (by rw [block_of_add]; exact hb2)
          exact ⟨hx2, (hx2.cell (p := ⟨w.heap.size, 6, none⟩) (by show w.heap.size < _; omega)).trans b6, (hx2.cell (p := ⟨w.heap.size + 1, 6, none⟩) (by show w.heap.size + 1 < _; omega)).trans e6, a0, a1, a2, a3, a4, a5, a6, a0', a1', a2', a3', a4', a5', a6'⟩
        exact this
      clear hnd hnd' hkt hkt' hxx hadb hadb'
      have y0 : Ext wr wr.drew := (Ext.refl wr).drew
      have Y0 := Lib.hid y0
      clear y0
      go_upto_region 6 with fail
      clear b6 e6
      go_region_held3 (fun W2 => Ext wr W2 ∧ W2.cell? ⟨w.heap.size, 6, none⟩ = some (.slice (some ad) p.ks.length c) ∧ W2.cell? ⟨w.heap.size + 1, 6, none⟩ = some (.slice (some ad') p.ks.length d) ∧ W2.cell? (Addr.add ad (k * 7)) = some (.int .i64 pk.kind) ∧ W2.cell? ⟨(Addr.add ad (k * 7)).block, (Addr.add ad (k * 7)).off + 1, none⟩ = some (.int .i64 pk.rel) ∧ W2.cell? ⟨(Addr.add ad (k * 7)).block, (Addr.add ad (k * 7)).off + 2, none⟩ = some (.int .i64 pk.p.lv) ∧ W2.cell? ⟨(Addr.add ad (k * 7)).block, (Addr.add ad (k * 7)).off + 3, none⟩ = some (.bool pk.p.neg) ∧ W2.cell? ⟨(Addr.add ad (k * 7)).block, (Addr.add ad (k * 7)).off + 4, none⟩ = some (.slice C0 j0 f0) ∧ W2.cell? ⟨(Addr.add ad (k * 7)).block, (Addr.add ad (k * 7)).off + 5, none⟩ = some (.slice C1 j1 f1) ∧ W2.cell? ⟨(Addr.add ad (k * 7)).block, (Addr.add ad (k * 7)).off + 6, none⟩ = some (.slice C2 j2 f2) ∧ W2.cell? (Addr.add ad' (k * 7)) = some (.int .i64 qk.kind) ∧ W2.cell? ⟨(Addr.add ad' (k * 7)).block, (Addr.add ad' (k * 7)).off + 1, none⟩ = some (.int .i64 qk.rel) ∧ W2.cell? ⟨(Addr.add ad' (k * 7)).block, (Addr.add ad' (k * 7)).off + 2, none⟩ = some (.int .i64 qk.p.lv) ∧ W2.cell? ⟨(Addr.add ad' (k * 7)).block, (Addr.add ad' (k * 7)).off + 3, none⟩ = some (.bool qk.p.neg) ∧ W2.cell? ⟨(Addr.add ad' (k * 7)).block, (Addr.add ad' (k * 7)).off + 4, none⟩ = some (.slice D0 i0 g0) ∧ W2.cell? ⟨(Addr.add ad' (k * 7)).block, (Addr.add ad' (k * 7)).off + 5, none⟩ = some (.slice D1 i1 g1) ∧ W2.cell? ⟨(Addr.add ad' (k * 7)).block, (Addr.add ad' (k * 7)).off + 6, none⟩ = some (.slice D2 i2 g2))
        (first | with_reducible exact HSS.out _ Y0.out | with_reducible exact HSS.out _ y1)
        ((go_at_call 50
          refine (HKID.out _ Y0.out).mono ?_
          rintro e v1 ⟨rfl, x1⟩
          have y1 : Ext wr v1 := Ext.trans Y0.out x1))
      all_goals
        have X2 := Lib.hid (HX.out.trans y1)
        clear y1 x1 HKID HSS Y0
        by_cases hpq : pk = qk
        · have HT2 := Lib.hid (HSTEP.out hpq)
          rw [eqB_eq hpq]
          clear hpq
          go_wp2_with fail
          go_roundw
          case rel => exact ⟨k + 1, by omega, by go_num, ⟨HT2.out, X2.out⟩⟩
          case measure => simp [intOf]; omega
        · have HF := Lib.hid (HNE.out hpq)
          rw [eqB_ne hpq]
          clear hpq
          go_wp2_with fail
          go_ret
          exact ⟨by rw [HF.out]; rfl, X1.out.trans X2.out⟩
    · have HF : Hid (res = true) := Lib.hid (HRES.out.symm.trans (eqB_eq (by
        have h1 := HT.out
        rw [show k = p.ks.length by omega] at h1
        exact Mx.ext_ HLV.out HRE.out HND.out (take_all HL.out h1))))
      clear b6 e6
      go_wp2_with fail
      go_ret
      exact ⟨by rw [HF.out]; rfl, X1.out.trans HX.out⟩

theorem meq_any {w : World} {q1 q2 : Nat → Prop} (p q : Mx) (v u : Value) (hsz : p.sz ≤ 1000000) (hea : p.each (fun r => r.sz ≤ 1099511627776)) (h : MxV w q1 p v) (k : MxV w q2 q u) : Calls Tryz.prog 50 #[v, u] w (RetB (eqB p q) w) :=
  meq_ih w (p.sz + 1) p q v u w (Nat.lt_succ_self _) hsz hea (h.mono fun _ _ => trivial) (k.mono fun _ _ => trivial) (Ext.refl w)
end Go.Proofs.YtkbpnppiadaibaaGreatDoor
