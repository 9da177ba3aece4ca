/- Layer 27: prenex.appendPolys, Polys. -/
import Derived.Test.YtbanhcaahabboaaGreatDoorMv32
import Derived.Test.YtbanhcaahabboaaGreatDoorMv22
import Derived.Test.YtbanhcaahabboaaGreatDoorMv27
import Derived.Test.YtbanhcaahabboaaGreatDoorPNorm
set_option linter.unusedSimpArgs false
set_option linter.unusedVariables false

namespace Go.Proofs.YtbanhcaahabboaaGreatDoor
open Go.RowKit

mutual
/-- prenex.Polys -/
def Mx.pols : Mx → List Pl
  | .mk k _ p ks => if k = 2 then [p.nf] else if k = 3 ∨ k = 4 then polsM ks else []
def polsM : List Mx → List Pl
  | [] => []
  | t :: r => t.pols ++ polsM r
end
theorem polsM_append (a b : List Mx) : polsM (a ++ b) = polsM a ++ polsM b := by
  induction a with
  | nil => rfl
  | cons x r ih => simp only [List.cons_append, polsM, ih, List.append_assoc]
theorem polsM_take (l : List Mx) (k : Nat) (hk : k < l.length) : polsM (l.take (k + 1)) = polsM (l.take k) ++ l[k].pols := by
  rw [List.take_succ_eq_append_getElem hk, polsM_append]; simp [polsM]
theorem Mx.pols_eq (t : Mx) : t.pols = if t.kind = 2 then [t.p.nf] else if t.kind = 3 ∨ t.kind = 4 then polsM t.ks else [] := by
  cases t; rw [Mx.pols]; rfl
mutual
theorem Mx.pols_len : ∀ t : Mx, t.pols.length ≤ t.sz
  | .mk k r p ks => by
    have := polsM_len ks
    rw [Mx.pols, Mx.sz]
    split
    · simp
    · split
      · omega
      · simp
theorem polsM_len : ∀ l : List Mx, (polsM l).length ≤ mxSz l
  | [] => by simp [polsM]
  | t :: r => by
    have h1 := t.pols_len
    have h2 := polsM_len r
    rw [polsM, mxSz, List.length_append]; omega
end
theorem mxSz_take_le (l : List Mx) (k : Nat) : mxSz (l.take k) ≤ mxSz l := by
  have h : mxSz l = mxSz (l.take k) + mxSz (l.drop k) := by rw [← mxSz_append, List.take_append_drop]
  omega
/-- What appendPolys leaves: its row alone has turned. -/
def RetQs (base : Nat) (tv : Value) (l : List Pl) (w : World) (e : Ending) (w' : World) : Prop :=
  ∃ tv', e = .returned tv' ∧ QRow base (fun _ => True) w' tv' l ∧ w.grownBy w' tv.ownBlock ∧ (∀ v ds, NatV w v ds → NatV w' v ds) ∧ (tv'.ownBlock = tv.ownBlock ∨ ∀ R, tv'.ownBlock = some R → w.heap.size ≤ R)
theorem RetQs.congr {base : Nat} {tv : Value} {l l' : List Pl} {w w' : World} {e : Ending} (h : l = l') (hr : RetQs base tv l' w e w') : RetQs base tv l w e w' := by rw [h]; exact hr
theorem RetQs.late {base : Nat} {tv : Value} {l : List Pl} {w W w' : World} {e : Ending} (hx : Ext w W) (h : RetQs base tv l W e w') : RetQs base tv l w e w' := by
  obtain ⟨tv', he, h1, h2, h3, h4⟩ := h
  refine ⟨tv', he, h1, ⟨h2.os.trans hx.below.os, h2.tape.trans hx.below.tape, h2.output.trans hx.below.output, Nat.le_trans hx.size h2.size, fun i hi hne => (World.grownBy.block h2 i (Nat.lt_of_lt_of_le hi hx.size) hne).trans (hx.below.block i hi)⟩, fun v ds hv => h3 v ds (hv.ext hx), ?_⟩
  rcases h4 with h4 | h4
  · exact .inl h4
  · exact .inr fun R hR => Nat.le_trans hx.size (h4 R hR)
/-- One after the other. -/
theorem RetQs.trans {base : Nat} {tv tv1 : Value} {l l' : List Pl} {w w1 w2 : World} {e : Ending} (h1 : RetQs base tv l w (.returned tv1) w1) (h2 : RetQs base tv1 l' w1 e w2) : RetQs base tv l' w e w2 := by
  obtain ⟨tv', e1, a1, a2, a3, a4⟩ := h1
  injection e1 with e1
  subst e1
  obtain ⟨tv2, he, b1, b2, b3, b4⟩ := h2
  have s1 := a2.size
  refine ⟨tv2, he, b1, ⟨b2.os.trans a2.os, b2.tape.trans a2.tape, b2.output.trans a2.output, Nat.le_trans a2.size b2.size, fun i hi hne => ?_⟩, fun v ds hv => b3 v ds (a3 v ds hv), ?_⟩
  · refine (World.grownBy.block b2 i (by omega) (fun e => ?_)).trans (World.grownBy.block a2 i hi hne)
    rcases a4 with a4 | a4
    · exact hne (e.trans a4)
    · have := a4 i e.symm; omega
  · rcases b4 with b4 | b4
    · rcases a4 with a4 | a4
      · exact .inl (b4.trans a4)
      · exact .inr fun R hR => a4 R (b4.symm.trans hR)
    · exact .inr fun R hR => Nat.le_trans s1 (b4 R hR)
theorem RetQs.same {base : Nat} {tv : Value} {l : List Pl} {w W : World} (h : QRow base (fun _ => True) w tv l) (hx : Ext w W) : RetQs base tv l w (.returned tv) W :=
  ⟨tv, rfl, h.ext hx, ⟨hx.below.os, hx.below.tape, hx.below.output, hx.size, fun i hi _ => hx.below.block i hi⟩, fun v ds hv => hv.ext hx, .inl rfl⟩
def APolIH (w0 : World) (q : Nat → Prop) (n : Nat) : Prop := ∀ (t : Mx) (v : Value) (l : List Pl) (tv : Value) (w : World), t.sz < n → t.small → MxV w0 q t v → Ext w0 w → QRow w0.heap.size (fun _ => True) w tv l → l.length + t.sz ≤ 1000000 → Calls Tryz.prog 62 #[tv, v] w (RetQs w0.heap.size tv (l ++ t.pols) w)

set_option maxRecDepth 100000 in
set_option maxHeartbeats 4000000 in
theorem apol_ih (w0 : World) (q : Nat → Prop) (n : Nat) : APolIH w0 q n := by
  induction n with
  | zero => intro t v l tv w h; omega
  | succ n ih =>
  intro t v l tv w hn hsm h hx0 hrow hlen
  have hkl : t.ks.length ≤ 1000000 := by have := t.ks_len; omega
  have IH := Lib.hid ih
  have HSZ := Lib.hid (fun k hk => t.kid_le k hk)
  have HKS : Hid (∀ (k : Nat) (hk : k < t.ks.length), (polsM (t.ks.take k)).length + t.ks[k].sz ≤ t.sz) := by
    have : ∀ (k : Nat) (hk : k < t.ks.length), (polsM (t.ks.take k)).length + t.ks[k].sz ≤ t.sz := by
      intro k hk
      have h1 := polsM_len (t.ks.take k)
      have h2 := mxSz_take t.ks k hk
      have h3 := mxSz_take_le t.ks (k + 1)
      have h4 : mxSz t.ks < t.sz := by cases t; simp only [Mx.sz, Mx.ks]; omega
      omega
    exact this
  have HSM := Lib.hid (Mx.ks_small hsm)
  have hps := Mx.p_small hsm
  obtain ⟨A0, n0, c0, A, n1, c1, K, c, rfl, hp, hl1, hl2, h4⟩ := h.open_
  have HP := Lib.hid hp
  have H4 := Lib.hid h4
  have HPO := Lib.hid t.pols_eq
  have HX0 := Lib.hid hx0
  have HROW := Lib.hid hrow
  have hx0s := hx0.size
  obtain ⟨TA, Tc, rfl, -, -⟩ := hrow.len
  obtain ⟨W, hW⟩ : ∃ W, w.alloc (.cells #[.int .i64 t.kind, .int .i64 t.rel, .int .i64 t.p.lv, .bool t.p.neg, .slice A0 n0 c0, .slice A n1 c1, .slice K t.ks.length c] 34) = W := ⟨_, rfl⟩
  have hWx : Ext w W := by rw [← hW]; exact (Ext.refl w).alloc _
  have hWs : W.heap.size = w.heap.size + 1 := by rw [← hW]; simp
  have hbx : Box7 W w.heap.size t (.slice A0 n0 c0) (.slice A n1 c1) (.slice K t.ks.length c) := by rw [← hW]; exact Box7.new w t _ _ _ _
  have HWX := Lib.hid hWx
  have HBX := Lib.hid hbx
  have HKIND := Lib.hid (kind_any (w := W) t (.slice A0 n0 c0) (.slice A n1 c1) (.slice K t.ks.length c))
  obtain ⟨b0, b1, b2, b3, b4, b5, b6⟩ := hbx
  have hk2 := kindN_iff t.kind 2 (by omega) (by omega)
  have hk3 := kindN_iff t.kind 3 (by omega) (by omega)
  have hk4 := kindN_iff t.kind 4 (by omega) (by omega)
  clear h ih h4 hWx hp hsm hrow hx0
  unfold mxV at *
  go_enter Tryz.func62, Tryz.ntmps62
  go_wp2_with fail
  clear hW b0 b1 b2 b3 b4 b5 b6
  refine HKIND.out.mono ?_
  rintro e w1 ⟨rfl, x1⟩
  generalize kindN t.kind = kd at *
  have X1 := Lib.hid (HWX.out.trans x1)
  obtain ⟨b0, b1, b2, b3, b4, b5, b6⟩ := HBX.out.ext x1 (by omega)
  have hs1 := x1.size
  clear x1 HKIND HWX HBX
  by_cases k2 : t.kind = 2
  · have hlv := HPO.out
    rw [if_pos k2] at hlv
    have q2 : (kd == 2) = true := by rw [hk2]; simpa using k2
    have hnf : t.p.nf.sz ≤ 1099511627776 := Nat.le_trans (Pl.nf_sz t.p) (Nat.le_trans (Nat.pow_le_pow_left (show t.p.sz + 2 ≤ 42 by omega) 4) (by decide))
    have HC := Lib.hid (rNormal_any t.p _ (HP.out.ext (HX0.out.trans X1.out)) (by omega) hnf (by omega))
    unfold plV at HC
    have HL := Lib.hid hlv
    clear k2 hk2 hk3 hk4 hlv HPO hnf
    generalize t.p.nf = P at *
    have HAPP : Hid (∀ w2 C0 j0 f0 C1 n2 f1, PlV w2 (fun b => w1.heap.size ≤ b) P (plV P (.slice C0 j0 f0) (.slice C1 n2 f1)) → Ext w1 w2 → ∃ v4 w4, (Builtin.append_ #[29, 29] 29 #[.slice TA l.length Tc, .slice (some ⟨w2.heap.size, 0, none⟩) 1 1]).run Tryz.prog (w2.alloc (.cells #[.int .i64 P.lv, .bool P.neg, .slice C0 j0 f0, .slice C1 n2 f1] 31)) = .ok v4 w4 ∧ RetQs w0.heap.size (.slice TA l.length Tc) (l ++ t.pols) w (.returned v4) w4) := by
      intro w2 C0 j0 f0 C1 n2 f1 hpl hx2
      have hxx := X1.out.trans hx2
      have hs2 := hxx.size
      have hr2 := HROW.out.ext hxx
      have hx1s := X1.out.size
      obtain ⟨v4, w4, hrun, g4, n4, r4, o4⟩ := hr2.push (by omega) (hpl.mono fun b hb => ⟨fun e => by have := (HROW.out.own e).2; omega, trivial⟩) (by omega) 29
      refine ⟨v4, w4, hrun, RetQs.congr (by rw [HL.out]) (RetQs.late hxx ⟨v4, rfl, r4, g4, n4, ?_⟩)⟩
      rcases o4 with o4 | o4
      · exact .inl o4
      · right
        intro R hR
        rw [o4] at hR
        injection hR with hR
        omega
    go_wp2_with fail
    refine HC.out.mono ?_
    rintro e w2 ⟨v2, rfl, p2, x2⟩
    obtain ⟨C0, j0, f0, C1, f1, rfl, -⟩ := id p2.open_
    obtain ⟨v4, w4, hrun, hfin⟩ := HAPP.out w2 _ _ _ _ _ _ p2 x2
    have HF := Lib.hid hfin
    unfold plV
    clear x2 HC b0 b1 b2 b3 b4 b5 b6 p2 hfin HAPP
    go_wp2_with (at_builtin
                 refine wpList_append_run rfl (.tmp 11) (.tmp 15) _ _ rfl _ _ _ _ rfl rfl hrun ?_)
    clear hrun
    go_ret
    exact HF.out
  by_cases k34 : t.kind = 3 ∨ t.kind = 4
  · have hlv := HPO.out
    rw [if_neg k2, if_pos k34] at hlv
    have HL := Lib.hid hlv
    have q2 : (kd == 2) = false := by rw [hk2]; simpa using k2
    clear hlv HPO hk2 k2 HP
    rcases k34 with k3 | k4
    · have q3 : (kd == 3) = true := by rw [hk3]; simpa using k3
      clear k3 hk3 hk4
      go_wp2_with fail
      clear b0 b1 b2 b3 b4 b5 b6
      go_loopw [0, 23] (fun ov iv wr => ∃ (k : Nat), k ≤ t.ks.length ∧ iv = .int .i64 k ∧ Hid (RetQs w0.heap.size (.slice TA l.length Tc) (l ++ polsM (t.ks.take k)) w (.returned ov) wr ∧ w.heap.size + 1 ≤ wr.heap.size)) (fun _ iv _ => t.ks.length - (intOf iv).toNat)
      case atStart => exact ⟨0, Nat.zero_le _, rfl, ⟨by simpa [polsM] using RetQs.same HROW.out X1.out, by omega⟩⟩
      case round =>
        obtain ⟨k, hk, rfl, ⟨hret, hws⟩⟩ := hrel
        have HRET := Lib.hid hret
        by_cases hlt : k < t.ks.length
        · obtain ⟨tv', e1, r1, g1, m1, o1⟩ := id hret
          injection e1 with e1
          subst e1
          have hxr : Ext w0 wr := Below.grown HX0.out g1 HX0.out.size (fun g e => (HROW.out.own e).1)
          obtain ⟨ad, B0, m0, d0, B1, m1', d1, K2, n2, c2, rfl, hadb, hnd, hkt⟩ := MxsAt.kid H4.out k hlt
          obtain ⟨e0, e1, e2, e3, e4, e5, e6⟩ := hnd.ext hxr (by rw [block_of_add]; exact hadb)
          obtain ⟨TB, Td, rfl, -, -⟩ := r1.len
          have hks := HKS.out k hlt
          have hxa := (Ext.refl wr).alloc (.cells #[.int .i64 t.ks[k].kind, .int .i64 t.ks[k].rel, .int .i64 t.ks[k].p.lv, .bool t.ks[k].p.neg, .slice B0 m0 d0, .slice B1 m1' d1, .slice K2 n2 c2] 34)
          have hkid := IH.out t.ks[k] _ (l ++ polsM (t.ks.take k)) _ (wr.alloc (.cells #[.int .i64 t.ks[k].kind, .int .i64 t.ks[k].rel, .int .i64 t.ks[k].p.lv, .bool t.ks[k].p.neg, .slice B0 m0 d0, .slice B1 m1' d1, .slice K2 n2 c2] 34)) (by have := HSZ.out k hlt; omega) (mxSmall_mem HSM.out (List.getElem_mem hlt)) hkt (hxr.trans hxa) (r1.ext hxa) (by rw [List.length_append]; omega)
          have HKID := Lib.hid hkid
          have HXA := Lib.hid hxa
          have HNX : Hid (l ++ polsM (t.ks.take (k + 1)) = l ++ polsM (t.ks.take k) ++ t.ks[k].pols) := by
            have : l ++ polsM (t.ks.take (k + 1)) = l ++ polsM (t.ks.take k) ++ t.ks[k].pols := by rw [polsM_take _ _ hlt, List.append_assoc]
            exact this
          clear hkid hxa hks hkt hnd hadb r1 g1 m1 o1 hret hxr
          generalize t.ks[k].pols = pk at *
          generalize l ++ polsM (t.ks.take k) = lk at *
          unfold mxV at HKID
          go_wp2_with fail
          refine HKID.out.mono ?_
          rintro e w2 hr2
          have hfin := HRET.out.trans (hr2.late HXA.out)
          rw [← HNX.out] at hfin
          obtain ⟨tv2, rfl, -⟩ := id hr2
          have hs2 : w.heap.size + 1 ≤ w2.heap.size := by
            obtain ⟨_, _, _, g, _, _⟩ := id hr2
            have h1 := g.size
            have h2 := HXA.out.size
            omega
          obtain ⟨_, e9, r9, -⟩ := id hr2
          injection e9 with e9
          subst e9
          obtain ⟨TE, Te, rfl, -, -⟩ := r9.len
          generalize (lk ++ pk).length = llen at *
          have HFIN := Lib.hid hfin
          clear hr2 hfin r9 HKID HRET e0 e1 e2 e3 e4 e5 e6
          go_wp2_with fail
          go_roundw
          case rel => exact ⟨k + 1, by omega, by go_num, ⟨HFIN.out, hs2⟩⟩
          case measure => simp [intOf]; omega
        · have hke : k = t.ks.length := by omega
          subst hke
          have hf := HRET.out
          rw [List.take_length, ← HL.out] at hf
          have HF := Lib.hid hf
          obtain ⟨tv', e1, r1, -⟩ := id hf
          injection e1 with e1
          subst e1
          generalize l ++ t.pols = lf at *
          obtain ⟨TB, Td, rfl, -, -⟩ := r1.len
          clear hret HRET r1 hf
          go_wp2_with fail
          go_ret
          exact HF.out
    · have q3 : (kd == 3) = false := by rw [hk3]; simp; omega
      have q4 : (kd == 4) = true := by rw [hk4]; simpa using k4
      clear k4 hk3 hk4
      go_wp2_with fail
      clear b0 b1 b2 b3 b4 b5 b6
      go_loopw [0, 23] (fun ov iv wr => ∃ (k : Nat), k ≤ t.ks.length ∧ iv = .int .i64 k ∧ Hid (RetQs w0.heap.size (.slice TA l.length Tc) (l ++ polsM (t.ks.take k)) w (.returned ov) wr ∧ w.heap.size + 1 ≤ wr.heap.size)) (fun _ iv _ => t.ks.length - (intOf iv).toNat)
      case atStart => exact ⟨0, Nat.zero_le _, rfl, ⟨by simpa [polsM] using RetQs.same HROW.out X1.out, by omega⟩⟩
      case round =>
        obtain ⟨k, hk, rfl, ⟨hret, hws⟩⟩ := hrel
        have HRET := Lib.hid hret
        by_cases hlt : k < t.ks.length
        · obtain ⟨tv', e1, r1, g1, m1, o1⟩ := id hret
          injection e1 with e1
          subst e1
          have hxr : Ext w0 wr := Below.grown HX0.out g1 HX0.out.size (fun g e => (HROW.out.own e).1)
          obtain ⟨ad, B0, m0, d0, B1, m1', d1, K2, n2, c2, rfl, hadb, hnd, hkt⟩ := MxsAt.kid H4.out k hlt
          obtain ⟨e0, e1, e2, e3, e4, e5, e6⟩ := hnd.ext hxr (by rw [block_of_add]; exact hadb)
          obtain ⟨TB, Td, rfl, -, -⟩ := r1.len
          have hks := HKS.out k hlt
          have hxa := (Ext.refl wr).alloc (.cells #[.int .i64 t.ks[k].kind, .int .i64 t.ks[k].rel, .int .i64 t.ks[k].p.lv, .bool t.ks[k].p.neg, .slice B0 m0 d0, .slice B1 m1' d1, .slice K2 n2 c2] 34)
          have hkid := IH.out t.ks[k] _ (l ++ polsM (t.ks.take k)) _ (wr.alloc (.cells #[.int .i64 t.ks[k].kind, .int .i64 t.ks[k].rel, .int .i64 t.ks[k].p.lv, .bool t.ks[k].p.neg, .slice B0 m0 d0, .slice B1 m1' d1, .slice K2 n2 c2] 34)) (by have := HSZ.out k hlt; omega) (mxSmall_mem HSM.out (List.getElem_mem hlt)) hkt (hxr.trans hxa) (r1.ext hxa) (by rw [List.length_append]; omega)
          have HKID := Lib.hid hkid
          have HXA := Lib.hid hxa
          have HNX : Hid (l ++ polsM (t.ks.take (k + 1)) = l ++ polsM (t.ks.take k) ++ t.ks[k].pols) := by
            have : l ++ polsM (t.ks.take (k + 1)) = l ++ polsM (t.ks.take k) ++ t.ks[k].pols := by rw [polsM_take _ _ hlt, List.append_assoc]
            exact this
          clear hkid hxa hks hkt hnd hadb r1 g1 m1 o1 hret hxr
          generalize t.ks[k].pols = pk at *
          generalize l ++ polsM (t.ks.take k) = lk at *
          unfold mxV at HKID
          go_wp2_with fail
          refine HKID.out.mono ?_
          rintro e w2 hr2
          have hfin := HRET.out.trans (hr2.late HXA.out)
          rw [← HNX.out] at hfin
          obtain ⟨tv2, rfl, -⟩ := id hr2
          have hs2 : w.heap.size + 1 ≤ w2.heap.size := by
            obtain ⟨_, _, _, g, _, _⟩ := id hr2
            have h1 := g.size
            have h2 := HXA.out.size
            omega
          obtain ⟨_, e9, r9, -⟩ := id hr2
          injection e9 with e9
          subst e9
          obtain ⟨TE, Te, rfl, -, -⟩ := r9.len
          generalize (lk ++ pk).length = llen at *
          have HFIN := Lib.hid hfin
          clear hr2 hfin r9 HKID HRET e0 e1 e2 e3 e4 e5 e6
          go_wp2_with fail
          go_roundw
          case rel => exact ⟨k + 1, by omega, by go_num, ⟨HFIN.out, hs2⟩⟩
          case measure => simp [intOf]; omega
        · have hke : k = t.ks.length := by omega
          subst hke
          have hf := HRET.out
          rw [List.take_length, ← HL.out] at hf
          have HF := Lib.hid hf
          obtain ⟨tv', e1, r1, -⟩ := id hf
          injection e1 with e1
          subst e1
          generalize l ++ t.pols = lf at *
          obtain ⟨TB, Td, rfl, -, -⟩ := r1.len
          clear hret HRET r1 hf
          go_wp2_with fail
          go_ret
          exact HF.out
  · have hlv := HPO.out
    rw [if_neg k2, if_neg k34] at hlv
    have HF := Lib.hid (RetQs.congr (show l ++ t.pols = l by rw [hlv, List.append_nil]) (RetQs.same HROW.out X1.out))
    have q2 : (kd == 2) = false := by rw [hk2]; simpa using k2
    have q3 : (kd == 3) = false := by rw [hk3]; simp; omega
    have q4 : (kd == 4) = false := by rw [hk4]; simp; omega
    clear hlv HPO hk2 hk3 hk4 k2 k34
    go_wp2_with fail
    go_ret
    exact HF.out
/-- The polynomials of a matrix, in a new row. -/
theorem pols_any {q : Nat → Prop} (t : Mx) (v : Value) (w : World) (hbig : t.sz ≤ 1000000) (hsm : t.small) (h : MxV w q t v) : Calls Tryz.prog 20 #[v] w fun e w' => ∃ tv, e = .returned tv ∧ QRow w.heap.size (fun _ => True) w' tv t.pols ∧ Ext w w' := by
  have HH := Lib.hid h
  obtain ⟨A0, n0, c0, A, n1, c1, K, c, rfl, hp, hl1, hl2, h4⟩ := h.open_
  obtain ⟨W, hW⟩ : ∃ W, w.alloc (.cells #[.int .i64 t.kind, .int .i64 t.rel, .int .i64 t.p.lv, .bool t.p.neg, .slice A0 n0 c0, .slice A n1 c1, .slice K t.ks.length c] 34) = W := ⟨_, rfl⟩
  have hWx : Ext w W := by rw [← hW]; exact (Ext.refl w).alloc _
  obtain ⟨b0, b1, b2, b3, b4, b5, b6⟩ : Box7 W w.heap.size t (.slice A0 n0 c0) (.slice A n1 c1) (.slice K t.ks.length c) := by rw [← hW]; exact Box7.new w t _ _ _ _
  have HWX := Lib.hid hWx
  have HC := Lib.hid (apol_ih W q (t.sz + 1) t _ [] (.slice none 0 0) W (Nat.lt_succ_self _) hsm (HH.out.ext hWx) (Ext.refl W) (QRow.nil _ _ _) (by simpa using hbig))
  clear h hp h4 hWx
  unfold mxV at *
  go_enter Tryz.func20, Tryz.ntmps20
  go_wp2_with fail
  clear hW b0 b1 b2 b3 b4 b5 b6
  refine HC.out.mono ?_
  rintro e w2 ⟨tv, rfl, r2, g2, -, -⟩
  have hx2 : Ext W w2 := ⟨g2.os, g2.tape, g2.output, g2.size, fun i hi => g2.block i hi (by simp [Value.ownBlock])⟩
  have HR := Lib.hid r2
  have X2 := Lib.hid (HWX.out.trans hx2)
  obtain ⟨TA, Tc, rfl, -, -⟩ := r2.len
  clear r2 g2 hx2
  go_wp2_with fail
  go_ret
  exact ⟨_, rfl, by simpa using HR.out.less HWX.out.size, X2.out⟩
end Go.Proofs.YtbanhcaahabboaaGreatDoor

/- Reference 38: Polys, Level. -/
namespace Go.Proofs.YtbanhcaahabboaaGreatDoor
open Go.RowKit

mutual
/-- cylinderref38.Polys -/
def Mx.raw : Mx → List Pl
  | .mk k _ p ks => if k = 2 then [p] else rawM ks
def rawM : List Mx → List Pl
  | [] => []
  | t :: r => t.raw ++ rawM r
end
theorem rawM_append (a b : List Mx) : rawM (a ++ b) = rawM a ++ rawM b := by
  induction a with
  | nil => rfl
  | cons x r ih => simp only [List.cons_append, rawM, ih, List.append_assoc]
theorem rawM_take (l : List Mx) (k : Nat) (hk : k < l.length) : rawM (l.take (k + 1)) = rawM (l.take k) ++ l[k].raw := by
  rw [List.take_succ_eq_append_getElem hk, rawM_append]; simp [rawM]
theorem Mx.raw_eq (t : Mx) : t.raw = if t.kind = 2 then [t.p] else rawM t.ks := by
  cases t; rw [Mx.raw]; rfl
mutual
theorem Mx.raw_len : ∀ t : Mx, t.raw.length ≤ t.sz
  | .mk k r p ks => by
    have := rawM_len ks
    rw [Mx.raw, Mx.sz]
    split
    · simp
    · omega
theorem rawM_len : ∀ l : List Mx, (rawM l).length ≤ mxSz l
  | [] => by simp [rawM]
  | t :: r => by
    have h1 := t.raw_len
    have h2 := rawM_len r
    rw [rawM, mxSz, List.length_append]; omega
end
/-- A row of polynomials that lie in old memory, or in the call's. -/
def RetAt (w0 : World) (l : List Pl) (w : World) (e : Ending) (w' : World) : Prop := ∃ A c, e = .returned (.slice A l.length c) ∧ PlsAt w' (fun b => b < w0.heap.size ∨ w.heap.size ≤ b) l A 0 ∧ Ext w w'
theorem RetAt.congr {w0 : World} {l l' : List Pl} {w w' : World} {e : Ending} (h : l = l') (hr : RetAt w0 l' w e w') : RetAt w0 l w e w' := by rw [h]; exact hr
def RPolIH (w0 : World) (q : Nat → Prop) (n : Nat) : Prop := ∀ (t : Mx) (v : Value) (w : World), t.sz < n → t.sz ≤ 1000000 → MxV w0 q t v → Ext w0 w → Calls Tryz.prog 21 #[v] w (RetAt w0 t.raw w)

set_option maxRecDepth 100000 in
set_option maxHeartbeats 4000000 in
theorem rpol_ih (w0 : World) (q : Nat → Prop) (n : Nat) : RPolIH w0 q n := by
  induction n with
  | zero => intro t v w h; omega
  | succ n ih =>
  intro t v w hn hbig h hx0
  have hkl : t.ks.length ≤ 1000000 := by have := t.ks_len; omega
  have IH := Lib.hid ih
  have HSZ := Lib.hid (fun k hk => t.kid_le k hk)
  have HKS : Hid (∀ (k : Nat) (hk : k < t.ks.length), (rawM (t.ks.take k)).length + t.ks[k].sz ≤ t.sz) := by
    have : ∀ (k : Nat) (hk : k < t.ks.length), (rawM (t.ks.take k)).length + t.ks[k].sz ≤ t.sz := by
      intro k hk
      have h1 := rawM_len (t.ks.take k)
      have h2 := mxSz_take t.ks k hk
      have h3 := mxSz_take_le t.ks (k + 1)
      have h4 : mxSz t.ks < t.sz := by cases t; simp only [Mx.sz, Mx.ks]; omega
      omega
    exact this
  obtain ⟨A0, n0, c0, A, n1, c1, K, c, rfl, hp, hl1, hl2, h4⟩ := h.open_
  have hp0 : PlV w0 (fun b => b < w0.heap.size) t.p (plV t.p (.slice A0 n0 c0) (.slice A n1 c1)) := PlV.turn_ (Nat.le_refl _) (fun _ _ h => h) (fun b hb _ => ⟨hb, rfl⟩) hp
  have HP := Lib.hid hp0
  have H4 := Lib.hid h4
  have HRW := Lib.hid t.raw_eq
  have HX0 := Lib.hid hx0
  have hx0s := hx0.size
  obtain ⟨W, hW⟩ : ∃ W, w.alloc (.cells #[.int .i64 t.kind, .int .i64 t.rel, .int .i64 t.p.lv, .bool t.p.neg, .slice A0 n0 c0, .slice A n1 c1, .slice K t.ks.length c] 34) = W := ⟨_, rfl⟩
  have hWx : Ext w W := by rw [← hW]; exact (Ext.refl w).alloc _
  have hWs : W.heap.size = w.heap.size + 1 := by rw [← hW]; simp
  have hbx : Box7 W w.heap.size t (.slice A0 n0 c0) (.slice A n1 c1) (.slice K t.ks.length c) := by rw [← hW]; exact Box7.new w t _ _ _ _
  have HWX := Lib.hid hWx
  have HBX := Lib.hid hbx
  obtain ⟨b0, b1, b2, b3, b4, b5, b6⟩ := hbx
  clear h ih h4 hWx hp hx0 hp0
  unfold mxV at *
  go_enter Tryz.func21, Tryz.ntmps21
  by_cases k2 : t.kind = 2
  · have hlv := HRW.out
    rw [if_pos k2] at hlv
    have q2 : (t.kind == 2) = true := by simpa using k2
    have HF : Hid (RetAt w0 t.raw w (.returned (.slice (some ⟨W.heap.size, 0, none⟩) 1 1)) (W.alloc (.cells #[.int .i64 t.p.lv, .bool t.p.neg, .slice A0 n0 c0, .slice A n1 c1] 31))) := by
      have hxa : Ext w (W.alloc (.cells #[.int .i64 t.p.lv, .bool t.p.neg, .slice A0 n0 c0, .slice A n1 c1] 31)) := HWX.out.alloc _
      refine RetAt.congr hlv ⟨_, 1, rfl, ?_, hxa⟩
      unfold PlsAt
      refine ⟨⟨⟨W.heap.size, 0, none⟩, _, _, rfl, by simp, .inr HWX.out.size, ?_, (HP.out.ext (HX0.out.trans hxa)).mono fun b hb => .inl hb⟩, by unfold PlsAt; trivial⟩
      rw [Nat.zero_mul, add_mk, Nat.zero_add]
      refine ⟨?_, ?_, ?_, ?_⟩ <;> simp [go_sem]
    rw [hWs] at HF
    clear hlv HRW k2
    go_wp2_with fail
    go_ret
    exact HF.out
  · have hlv := HRW.out
    rw [if_neg k2] at hlv
    have HL := Lib.hid hlv
    have q2 : (t.kind == 2) = false := by simpa using k2
    clear hlv HRW k2
    go_wp2_with fail
    clear hW b0 b1 b2 b3 b4 b5 b6
    go_loopw [3, 14] (fun ov iv wr => ∃ (k : Nat), k ≤ t.ks.length ∧ iv = .int .i64 k ∧ Hid (QRow (w.heap.size + 1) (fun b => b < w0.heap.size ∨ w.heap.size ≤ b) wr ov (rawM (t.ks.take k)) ∧ Ext W wr)) (fun _ iv _ => t.ks.length - (intOf iv).toNat)
    case atStart => exact ⟨0, Nat.zero_le _, rfl, ⟨by simpa [rawM] using QRow.nil _ _ _, Ext.refl W⟩⟩
    case round =>
      obtain ⟨k, hk, rfl, ⟨hrow, hxw⟩⟩ := hrel
      have HROW := Lib.hid hrow
      have HXW := Lib.hid hxw
      obtain ⟨b0, b1, b2, b3, b4, b5, b6⟩ := HBX.out.ext hxw (by omega)
      obtain ⟨TB, Td, rfl, -, -⟩ := hrow.len
      by_cases hlt : k < t.ks.length
      · have hxr : Ext w0 wr := (HX0.out.trans HWX.out).trans hxw
        have hxs := hxw.size
        obtain ⟨ad, B0, m0, d0, B1, m1, d1, K2, n2, c2, rfl, hadb, hnd, hkt⟩ := MxsAt.kid H4.out k hlt
        obtain ⟨e0, e1, e2, e3, e4, e5, e6⟩ := hnd.ext hxr (by rw [block_of_add]; exact hadb)
        have hks := HKS.out k hlt
        have hkid := IH.out t.ks[k] _ wr (by have := HSZ.out k hlt; omega) (by have := HSZ.out k hlt; omega) hkt hxr
        have HKID := Lib.hid hkid
        have hrl := t.ks[k].raw_len
        have HNX : Hid (rawM (t.ks.take (k + 1)) = rawM (t.ks.take k) ++ t.ks[k].raw) := by
          have : rawM (t.ks.take (k + 1)) = rawM (t.ks.take k) ++ t.ks[k].raw := rawM_take _ _ hlt
          exact this
        have hlen : (rawM (t.ks.take k)).length + t.ks[k].raw.length ≤ 1000000000 := by omega
        clear hkid hks hkt hnd hadb hrow hxr hxw hrl
        generalize t.ks[k].raw = pk at *
        generalize rawM (t.ks.take k) = lk at *
        have HAPP : Hid (∀ w2 A2 c2, PlsAt w2 (fun b => b < w0.heap.size ∨ wr.heap.size ≤ b) pk A2 0 → Ext wr w2 → ∃ v4 w4, (Builtin.append_ #[29, 29] 29 #[.slice TB lk.length Td, .slice A2 pk.length c2]).run Tryz.prog w2 = .ok v4 w4 ∧ QRow (w.heap.size + 1) (fun b => b < w0.heap.size ∨ w.heap.size ≤ b) w4 v4 (rawM (t.ks.take (k + 1))) ∧ Ext W w4) := by
          intro w2 A2 c2 hat hx2
          have hx2s := hx2.size
          obtain ⟨v4, w4, hrun, g4, n4, r4, o4⟩ := (HROW.out.ext hx2).append (by omega) (PlsAt.turn (Nat.le_refl _) (fun _ _ h => h) (fun b hb hp => ⟨⟨fun e => by have := HROW.out.own e; omega, by omega⟩, rfl⟩) _ _ _ hat) hlen c2 29
          refine ⟨v4, w4, hrun, by rw [HNX.out]; exact r4, Below.grown (HXW.out.trans hx2).below g4 (by omega) (fun b e => by have := HROW.out.own e; omega)⟩
        unfold mxV at HKID
        clear HXW HROW HNX hlen
        go_wp2_with fail
        refine HKID.out.mono ?_
        rintro e w2 ⟨A2, c2', rfl, hat, x2⟩
        obtain ⟨v4, w4, hrun, hr4, hx4⟩ := HAPP.out w2 A2 c2' hat x2
        have HR4 := Lib.hid hr4
        have HX4 := Lib.hid hx4
        clear hat x2 HAPP HKID hr4 hx4 e0 e1 e2 e3 e4 e5 e6 b0 b1 b2 b3 b4 b5 b6
        go_wp2_with (at_builtin
                     refine wpList_append_run rfl (.tmp 17) (.tmp 23) _ _ rfl _ _ _ _ rfl rfl hrun ?_)
        clear hrun
        go_wp2_with fail
        go_roundw
        case rel => exact ⟨k + 1, by omega, by go_num, ⟨HR4.out, HX4.out⟩⟩
        case measure => simp [intOf]; omega
      · have hke : k = t.ks.length := by omega
        subst hke
        have hf : RetAt w0 t.raw w (.returned (.slice TB (rawM (t.ks.take t.ks.length)).length Td)) wr := by
          have hr := HROW.out
          rw [List.take_length] at hr ⊢
          exact RetAt.congr HL.out ⟨_, _, rfl, PlsAt.turn (Nat.le_refl _) (fun _ _ h => h) (fun b hb hp => ⟨by omega, rfl⟩) _ _ _ hr.at_, HWX.out.trans HXW.out⟩
        have HF := Lib.hid hf
        clear hf HROW hrow hxw
        generalize (rawM (t.ks.take t.ks.length)).length = ll at *
        go_wp2_with fail
        go_ret
        exact HF.out
/-- cylinderref38.Level -/
def lvR (a : Int) : List Pl → Int
  | [] => a
  | p :: r => lvR (max a p.lv) r
theorem lvR_append (a : Int) (l r : List Pl) : lvR a (l ++ r) = lvR (lvR a l) r := by
  induction l generalizing a with
  | nil => rfl
  | cons t l ih => simp only [List.cons_append, lvR]; exact ih _
theorem lvR_take (a : Int) (l : List Pl) (k : Nat) (hk : k < l.length) : lvR a (l.take (k + 1)) = max (lvR a (l.take k)) l[k].lv := by
  rw [List.take_succ_eq_append_getElem hk, lvR_append]; rfl

set_option maxRecDepth 100000 in
set_option maxHeartbeats 2000000 in
theorem refLev_any {q : Nat → Prop} (t : Mx) (v : Value) (w : World) (hbig : t.sz ≤ 1000000) (h : MxV w q t v) : Calls Tryz.prog 23 #[v] w (RetI (lvR 0 t.raw) w) := by
  have HH := Lib.hid h
  have hrl := t.raw_len
  obtain ⟨A0, n0, c0, A, n1, c1, K, c, rfl, hp, hl1, hl2, h4⟩ := h.open_
  obtain ⟨W, hW⟩ : ∃ W, w.alloc (.cells #[.int .i64 t.kind, .int .i64 t.rel, .int .i64 t.p.lv, .bool t.p.neg, .slice A0 n0 c0, .slice A n1 c1, .slice K t.ks.length c] 34) = W := ⟨_, rfl⟩
  have hWx : Ext w W := by rw [← hW]; exact (Ext.refl w).alloc _
  obtain ⟨b0, b1, b2, b3, b4, b5, b6⟩ : Box7 W w.heap.size t (.slice A0 n0 c0) (.slice A n1 c1) (.slice K t.ks.length c) := by rw [← hW]; exact Box7.new w t _ _ _ _
  have HWX := Lib.hid hWx
  have HC := Lib.hid (rpol_ih w q (t.sz + 1) t _ W (Nat.lt_succ_self _) hbig HH.out hWx)
  clear h hp h4 hWx
  generalize t.raw = l at *
  unfold mxV at *
  go_enter Tryz.func23, Tryz.ntmps23
  go_wp2_with fail
  clear hW b0 b1 b2 b3 b4 b5 b6
  refine HC.out.mono ?_
  rintro e w2 ⟨A2, c2, rfl, hat, x2⟩
  have HAT := Lib.hid hat
  have X2 := Lib.hid (HWX.out.trans x2)
  clear hat x2 HC
  go_wp2_with fail
  go_loopw [3, 10] (fun mv iv wr => ∃ (k : Nat), k ≤ l.length ∧ iv = .int .i64 k ∧ wr = w2 ∧ Hid (mv = .int .i64 (lvR 0 (l.take k)))) (fun _ iv _ => l.length - (intOf iv).toNat)
  case atStart => exact ⟨0, Nat.zero_le _, rfl, rfl, by simp [lvR]; exact Lib.hid trivial⟩
  case round =>
    obtain ⟨k, hk, rfl, rfl, ⟨rfl⟩⟩ := hrel
    by_cases hlt : k < l.length
    · obtain ⟨ad, s, K2, rfl, hadb, -, ⟨e0, e1, e2, e3⟩, -⟩ := PlsAt.get_ l A2 0 HAT.out k hlt
      rw [Nat.zero_add] at e0 e1 e2 e3
      have HSTEP : Hid (lvR 0 (l.take (k + 1)) = max (lvR 0 (l.take k)) l[k].lv) := by
        have : lvR 0 (l.take (k + 1)) = max (lvR 0 (l.take k)) l[k].lv := lvR_take _ _ _ hlt
        exact this
      generalize lvR 0 (l.take k) = mm at *
      generalize l[k].lv = lk at *
      go_wp2_with fail
      go_roundw
      case rel => exact ⟨k + 1, by omega, by go_num, trivial, Lib.hid (by rw [HSTEP.out])⟩
      case measure => simp [intOf]; omega
    · have hke : k = l.length := by omega
      have HF : Hid (lvR 0 l = lvR 0 (l.take k)) := by
        rw [hke, List.take_length]
        exact Lib.hid rfl
      clear hke
      generalize lvR 0 (l.take k) = mm at *
      go_wp2_with fail
      go_ret
      exact ⟨by rw [HF.out]; rfl, X2.out⟩
end Go.Proofs.YtbanhcaahabboaaGreatDoor

/- Matrices: what holds of every polynomial in them. -/
namespace Go.Proofs.YtbanhcaahabboaaGreatDoor
open Go.RowKit

mutual
/-- All polynomials of a matrix are such. -/
def Mx.each (P : Pl → Prop) : Mx → Prop
  | .mk _ _ p ks => P p ∧ eachM P ks
def eachM (P : Pl → Prop) : List Mx → Prop
  | [] => True
  | t :: r => t.each P ∧ eachM P r
end
theorem eachM_mem {P : Pl → Prop} {l : List Mx} {t : Mx} (h : eachM P l) (ht : t ∈ l) : t.each P := by
  induction l with
  | nil => cases ht
  | cons x r ih =>
    rw [eachM] at h
    rcases List.mem_cons.1 ht with rfl | ht
    · exact h.1
    · exact ih h.2 ht
theorem Mx.each_ks {P : Pl → Prop} {t : Mx} (h : t.each P) : eachM P t.ks := by cases t; rw [Mx.each] at h; exact h.2
theorem Mx.each_p {P : Pl → Prop} {t : Mx} (h : t.each P) : P t.p := by cases t; rw [Mx.each] at h; exact h.1
mutual
theorem Mx.each_mono {P Q : Pl → Prop} (hq : ∀ p, P p → Q p) : ∀ t : Mx, t.each P → t.each Q
  | .mk _ _ p ks, h => by rw [Mx.each] at h ⊢; exact ⟨hq p h.1, eachM_mono hq ks h.2⟩
theorem eachM_mono {P Q : Pl → Prop} (hq : ∀ p, P p → Q p) : ∀ l : List Mx, eachM P l → eachM Q l
  | [], _ => by rw [eachM]; trivial
  | t :: r, h => by rw [eachM] at h ⊢; exact ⟨Mx.each_mono hq t h.1, eachM_mono hq r h.2⟩
end
mutual
theorem Mx.each_all {P : Pl → Prop} (h : ∀ p, P p) : ∀ t : Mx, t.each P
  | .mk _ _ p ks => by rw [Mx.each]; exact ⟨h p, eachM_all h ks⟩
theorem eachM_all {P : Pl → Prop} (h : ∀ p, P p) : ∀ l : List Mx, eachM P l
  | [] => by rw [eachM]; trivial
  | t :: r => by rw [eachM]; exact ⟨t.each_all h, eachM_all h r⟩
end
mutual
theorem Mx.each_and {P Q : Pl → Prop} : ∀ t : Mx, t.each P → t.each Q → t.each (fun p => P p ∧ Q p)
  | .mk _ _ p ks, h, k => by rw [Mx.each] at h k ⊢; exact ⟨⟨h.1, k.1⟩, eachM_and ks h.2 k.2⟩
theorem eachM_and {P Q : Pl → Prop} : ∀ l : List Mx, eachM P l → eachM Q l → eachM (fun p => P p ∧ Q p) l
  | [], _, _ => by rw [eachM]; trivial
  | t :: r, h, k => by rw [eachM] at h k ⊢; exact ⟨t.each_and h.1 k.1, eachM_and r h.2 k.2⟩
end
mutual
theorem MxV.dig {w : World} {q : Nat → Prop} : ∀ (t : Mx) (v : Value), MxV w q t v → t.each Pl.dig
  | .mk k r p ks, v, h => by
    unfold MxV at h
    obtain ⟨s, A, K, c, e, h1, h2, h3, h4⟩ := h
    rw [Mx.each]
    exact ⟨h1.dig, MxsAt.dig ks K 0 h4⟩
theorem MxsAt.dig {w : World} {q : Nat → Prop} : ∀ (l : List Mx) (A : Option Addr) (j : Nat), MxsAt w q l A j → eachM Pl.dig l
  | [], A, j, h => by rw [eachM]; trivial
  | t :: r, A, j, h => by
    unfold MxsAt at h
    obtain ⟨⟨ad, s, B, K, e, hb, hpb, h1, h2⟩, h3⟩ := h
    rw [eachM]
    exact ⟨MxV.dig t _ h2, MxsAt.dig r A (j + 1) h3⟩
end
mutual
theorem Mx.nrm_each {P : Pl → Prop} (hz : P Pl.zero) : ∀ t : Mx, t.each (fun p => P p.nf) → t.nrm.each P
  | .mk k r p ks, h => by
    rw [Mx.each] at h
    rw [Mx.nrm]
    split
    · rw [Mx.each, eachM]; exact ⟨hz, trivial⟩
    · split
      · rw [Mx.each, eachM]; exact ⟨h.1, trivial⟩
      · split
        · rw [Mx.each]; exact ⟨hz, nrmM_each hz ks h.2⟩
        · rw [Mx.each, eachM]; exact ⟨hz, trivial⟩
theorem nrmM_each {P : Pl → Prop} (hz : P Pl.zero) : ∀ l : List Mx, eachM (fun p => P p.nf) l → eachM P (nrmM l)
  | [], _ => by rw [nrmM, eachM]; trivial
  | t :: r, h => by rw [eachM] at h; rw [nrmM, eachM]; exact ⟨t.nrm_each hz h.1, nrmM_each hz r h.2⟩
end
mutual
theorem Mx.nrm_sz : ∀ t : Mx, t.nrm.sz ≤ t.sz
  | .mk k r p ks => by
    have := nrmM_sz ks
    rw [Mx.nrm, Mx.sz]
    split
    · rw [Mx.sz, mxSz]; omega
    · split
      · rw [Mx.sz, mxSz]; omega
      · split
        · rw [Mx.sz]; omega
        · rw [Mx.sz, mxSz]; omega
theorem nrmM_sz : ∀ l : List Mx, mxSz (nrmM l) ≤ mxSz l
  | [] => by rw [nrmM]; omega
  | t :: r => by
    have h1 := t.nrm_sz
    have h2 := nrmM_sz r
    rw [nrmM, mxSz, mxSz]; omega
end
end Go.Proofs.YtbanhcaahabboaaGreatDoor

/- Small matrices: their polynomials, and those of their normal forms. -/
namespace Go.Proofs.YtbanhcaahabboaaGreatDoor
open Go.RowKit
mutual
theorem Mx.small_each : ∀ t : Mx, t.small → t.each (fun p => p.sz ≤ 40 ∧ p.dm ≤ 4)
  | .mk _ _ p ks, h => by rw [Mx.small] at h; rw [Mx.each]; exact ⟨h.1, mxSmall_each ks h.2⟩
theorem mxSmall_each : ∀ l : List Mx, mxSmall l → eachM (fun p => p.sz ≤ 40 ∧ p.dm ≤ 4) l
  | [], _ => by rw [eachM]; trivial
  | t :: r, h => by rw [mxSmall] at h; rw [eachM]; exact ⟨t.small_each h.1, mxSmall_each r h.2⟩
end
theorem Mx.nrm_small {t : Mx} (hs : t.small) (hd : t.each Pl.dig) : t.nrm.each (fun p => p.sz ≤ 3111696 ∧ p.dm ≤ 5) := by
  refine t.nrm_each ⟨by decide, by decide⟩ (Mx.each_mono (fun p hp => ?_) t (t.each_and (t.small_each hs) hd))
  obtain ⟨⟨hsz, hdm⟩, hdg⟩ := hp
  have e1 := Pl.nf_sz p
  have e2 := Pl.nf_dm p hdg (by omega)
  have e3 : (p.sz + 2) ^ 4 ≤ 42 ^ 4 := Nat.pow_le_pow_left (by omega) 4
  have e4 : (42 : Nat) ^ 4 = 3111696 := by decide
  exact ⟨by omega, by omega⟩
end Go.Proofs.YtbanhcaahabboaaGreatDoor

/- The plain law of matrices: levels and polynomials of a matrix and of its normal form. -/
namespace Go.Proofs.YtbanhcaahabboaaGreatDoor
open Go.RowKit
mutual
theorem Mx.pols_of {P : Pl → Prop} : ∀ t : Mx, t.each P → ∀ p ∈ t.pols, ∃ p0, P p0 ∧ p = p0.nf
  | .mk k r p ks, h, x, hx => by
    rw [Mx.each] at h
    rw [Mx.pols] at hx
    split at hx
    · exact ⟨p, h.1, by simpa using hx⟩
    · split at hx
      · exact polsM_of ks h.2 x hx
      · simp at hx
theorem polsM_of {P : Pl → Prop} : ∀ l : List Mx, eachM P l → ∀ p ∈ polsM l, ∃ p0, P p0 ∧ p = p0.nf
  | [], _, x, hx => by rw [polsM] at hx; simp at hx
  | t :: r, h, x, hx => by
    rw [eachM] at h
    rw [polsM] at hx
    rcases List.mem_append.1 hx with hx | hx
    · exact t.pols_of h.1 x hx
    · exact polsM_of r h.2 x hx
end
mutual
theorem Mx.nrm_raw : ∀ t : Mx, t.nrm.raw = t.pols
  | .mk k r p ks => by
    rw [Mx.nrm, Mx.pols]
    by_cases h1 : k = 1
    · rw [if_pos h1, if_neg (by omega), if_neg (by omega), Mx.raw, if_neg (by omega), rawM]
    · rw [if_neg h1]
      by_cases h2 : k = 2
      · rw [if_pos h2, if_pos h2, Mx.raw, if_pos rfl]
      · rw [if_neg h2, if_neg h2]
        by_cases h3 : k = 3 ∨ k = 4
        · rw [if_pos h3, if_pos h3, Mx.raw, if_neg h2, nrmM_raw ks]
        · rw [if_neg h3, if_neg h3, Mx.raw, if_neg (by omega), rawM]
theorem nrmM_raw : ∀ l : List Mx, rawM (nrmM l) = polsM l
  | [] => by rw [nrmM, rawM, polsM]
  | t :: r => by rw [nrmM, rawM, polsM, t.nrm_raw, nrmM_raw r]
end
mutual
theorem Mx.lvl_pols : ∀ (t : Mx) (a : Int), 0 ≤ a → t.each (fun p => 0 ≤ p.nf.lv) → lvR a t.pols = max a t.lvl ∧ 0 ≤ t.lvl
  | .mk k r p ks, a, ha, h => by
    rw [Mx.each] at h
    rw [Mx.pols, Mx.lvl]
    by_cases h2 : k = 2
    · rw [if_pos h2, if_pos h2]
      exact ⟨rfl, h.1⟩
    · rw [if_neg h2, if_neg h2]
      by_cases h3 : k = 3 ∨ k = 4
      · rw [if_pos h3, if_pos h3]
        have h0 := lvlM_pols ks 0 (by omega) h.2
        have h1 := lvlM_pols ks a ha h.2
        have hm := lvlM_max ks a ha h.2
        omega
      · rw [if_neg h3, if_neg h3, lvR]
        omega
theorem lvlM_pols : ∀ (l : List Mx) (a : Int), 0 ≤ a → eachM (fun p => 0 ≤ p.nf.lv) l → lvR a (polsM l) = lvlM a l ∧ 0 ≤ lvlM a l
  | [], a, ha, _ => by rw [polsM, lvR, lvlM]; exact ⟨rfl, ha⟩
  | t :: r, a, ha, h => by
    rw [eachM] at h
    rw [polsM, lvlM, lvR_append]
    have h1 := t.lvl_pols a ha h.1
    rw [h1.1]
    exact lvlM_pols r (max a t.lvl) (by omega) h.2
theorem lvlM_max : ∀ (l : List Mx) (a : Int), 0 ≤ a → eachM (fun p => 0 ≤ p.nf.lv) l → lvlM a l = max a (lvlM 0 l)
  | [], a, ha, _ => by rw [lvlM, lvlM]; omega
  | t :: r, a, ha, h => by
    rw [eachM] at h
    rw [lvlM, lvlM]
    have h0 := t.lvl_pols a ha h.1
    have h1 := lvlM_max r (max a t.lvl) (by omega) h.2
    have h2 := lvlM_max r (max 0 t.lvl) (by omega) h.2
    omega
end
mutual
theorem Mx.nrm_lv (n : Int) (hn : 0 ≤ n) : ∀ t : Mx, t.lvl ≤ n → t.nrm.each (fun p => p.lv ≤ n)
  | .mk k r p ks, h => by
    rw [Mx.lvl] at h
    rw [Mx.nrm]
    by_cases h1 : k = 1
    · rw [if_pos h1, Mx.each, eachM]; exact ⟨hn, trivial⟩
    · rw [if_neg h1]
      by_cases h2 : k = 2
      · rw [if_pos h2] at h ⊢
        rw [Mx.each, eachM]; exact ⟨h, trivial⟩
      · rw [if_neg h2] at h ⊢
        by_cases h3 : k = 3 ∨ k = 4
        · rw [if_pos h3] at h ⊢
          rw [Mx.each]; exact ⟨hn, nrmM_lv n hn ks 0 (by omega) h⟩
        · rw [if_neg h3, Mx.each, eachM]; exact ⟨hn, trivial⟩
theorem nrmM_lv (n : Int) (hn : 0 ≤ n) : ∀ (l : List Mx) (a : Int), 0 ≤ a → lvlM a l ≤ n → eachM (fun p => p.lv ≤ n) (nrmM l)
  | [], _, _, _ => by rw [nrmM, eachM]; trivial
  | t :: r, a, ha, h => by
    rw [lvlM] at h
    have hm := lvlM_max r (max a t.lvl) (by omega) (eachM_all (fun p => p.nf_can.lv_nonneg.1) r)
    rw [nrmM, eachM]
    exact ⟨t.nrm_lv n hn (by omega), nrmM_lv n hn r (max a t.lvl) (by omega) h⟩
end
/-- The level of a matrix is that of its normal form's polynomials. -/
theorem Mx.lvl_nrm (t : Mx) : lvR 0 t.nrm.raw = t.lvl := by
  have h := t.lvl_pols 0 (by omega) (t.each_all fun p => p.nf_can.lv_nonneg.1)
  rw [t.nrm_raw, h.1]; omega
/-- What is known of a small matrix's polynomials in normal form. -/
theorem Mx.pols_small {t : Mx} (hs : t.small) (hd : t.each Pl.dig) : ∀ p ∈ t.pols, p.Can ∧ p.sz ≤ 3111696 ∧ p.dm ≤ 5 := by
  intro p hp
  obtain ⟨p0, ⟨⟨hsz, hdm⟩, hdg⟩, rfl⟩ := t.pols_of (t.each_and (t.small_each hs) hd) p hp
  have e1 := Pl.nf_sz p0
  have e2 := Pl.nf_dm p0 hdg (by omega)
  have e3 : (p0.sz + 2) ^ 4 ≤ 42 ^ 4 := Nat.pow_le_pow_left (by omega) 4
  have e4 : (42 : Nat) ^ 4 = 3111696 := by decide
  exact ⟨p0.nf_can, by omega, by omega⟩
end Go.Proofs.YtbanhcaahabboaaGreatDoor
