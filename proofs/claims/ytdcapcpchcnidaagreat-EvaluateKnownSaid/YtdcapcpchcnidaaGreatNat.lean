/- Layer 1 (natural): what each function returns, of digit lists. -/
import Derived.Test.YtdcapcpchcnidaaGreatBits

namespace Go.Proofs.YtdcapcpchcnidaaGreat
open Go.RowKit

set_option maxHeartbeats 400000 in
theorem trim_any (A : Option Addr) (c n : Nat) (ds : List Nat) (w : World) (hd : DigAt w A ds) (hl : ds.length = n) (hn : n ≤ c) (hc : c ≤ 9223372036854775807) :
    Calls Tryz.prog 80 #[.slice A n c] w fun e w' => e = .returned (.slice A (tlen ds n) c) ∧ w = w' := by
  have HD := Lib.hid hd; clear hd
  have HN := Lib.hid hl; clear hl
  go_enter Tryz.func80, Tryz.ntmps80
  go_wp2
  go_loop [3] (fun i => ∃ k : Nat, k ≤ n ∧ i = .int .i64 k ∧ tlen ds k = tlen ds n) (fun i => (intOf i).toNat)
  case atStart => exact ⟨n, Nat.le_refl _, rfl, rfl⟩
  case round =>
    obtain ⟨k, hk, rfl, ht⟩ := hrel
    have HT := Lib.hid ht; clear ht
    rcases k with _ | k
    · go_wp2
      go_ret
      exact ⟨by rw [← HT.out]; rfl, rfl⟩
    · have hkl : k < ds.length := by have := HN.out; omega
      obtain ⟨ad, rfl, hb, hcell, hlt⟩ := HD.out.at_ k hkl
      by_cases h0 : ds[k]'hkl = 0
      · rw [h0] at hcell
        go_wp2
        go_round
        case rel => exact ⟨k, by omega, rfl, by rw [← HT.out, tlen, if_pos]; rw [List.getD_eq_getElem?_getD, List.getElem?_eq_getElem hkl]; exact h0⟩
        case measure => simp [intOf]
      · go_wp2
        go_ret
        exact ⟨by rw [← HT.out, tlen, if_neg]; rfl; rw [List.getD_eq_getElem?_getD, List.getElem?_eq_getElem hkl]; exact h0, rfl⟩

/-- trim, of a value: the same number in normal form, no world turned. -/
theorem trim_nat (v : Value) (ds : List Nat) (w : World) (h : NatV w v ds) :
    Calls Tryz.prog 80 #[v] w fun e w' => ∃ v', e = .returned v' ∧ NatV w v' (dg (val ds)) ∧ w = w' := by
  obtain ⟨A, c, rfl, h1, h2, h3⟩ := h
  refine (trim_any A c ds.length ds w h3 rfl h1 h2).mono ?_
  rintro e w' ⟨rfl, rfl⟩
  refine ⟨_, rfl, ⟨A, c, ?_, ?_, h2, ?_⟩, rfl⟩
  · rw [dg_val_length h3.1]
  · rw [dg_val_length h3.1]; exact Nat.le_trans (tlen_le _ _) h1
  · rw [dg_val h3.1]; exact h3.take _

/-- trim leaves the slice where it lies. -/
theorem trim_natF (B : Nat) (v : Value) (ds : List Nat) (w : World) (h : NatV w v ds) (hf : Fresh B v) :
    Calls Tryz.prog 80 #[v] w fun e w' => ∃ v', e = .returned v' ∧ NatV w v' (dg (val ds)) ∧ Fresh B v' ∧ w = w' := by
  obtain ⟨A, c, rfl, h1, h2, h3⟩ := h
  refine (trim_any A c ds.length ds w h3 rfl h1 h2).mono ?_
  rintro e w' ⟨rfl, rfl⟩
  refine ⟨_, rfl, ⟨A, c, ?_, ?_, h2, ?_⟩, ?_, rfl⟩
  · rw [dg_val_length h3.1]
  · rw [dg_val_length h3.1]; exact Nat.le_trans (tlen_le _ _) h1
  · rw [dg_val h3.1]; exact h3.take _
  · rcases A with _ | ad
    · exact Fresh.nil _ _ _
    · exact Fresh.mk _ _ _ _ (hf ad _ _ rfl)

set_option maxHeartbeats 400000 in
theorem isZero_nat (v : Value) (ds : List Nat) (w : World) (h : NatV w v ds) :
    Calls Tryz.prog 54 #[v] w fun e w' => e = .returned (.bool (val ds == 0)) ∧ w = w' := by
  obtain ⟨A, c, rfl, h1, h2, h3⟩ := h
  have ht := tlen_le ds ds.length
  have hz : (tlen ds ds.length == 0) = (val ds == 0) := by
    rw [← dg_val_length h3.1, Bool.eq_iff_iff, beq_iff_eq, beq_iff_eq]
    exact ⟨dg_length_zero, fun e => by rw [e, dg_zero]; rfl⟩
  have H3 := Lib.hid h3; clear h3
  have HZ := Lib.hid hz; clear hz
  go_enter Tryz.func54, Tryz.ntmps54
  go_wp2_with fail
  refine (trim_any A c ds.length ds _ H3.out rfl h1 h2).mono ?_
  rintro e w' ⟨rfl, rfl⟩
  go_wp2
  go_ret
  refine ⟨?_, rfl⟩
  have := HZ.out
  rw [Bool.eq_iff_iff, beq_iff_eq, beq_iff_eq] at this
  show Ending.returned (Value.bool _) = _
  congr 2
  rw [Bool.eq_iff_iff, beq_iff_eq, beq_iff_eq, ← this]
  omega

set_option maxHeartbeats 400000 in
theorem normal_nat (v : Value) (ds : List Nat) (w : World) (h : NatV w v ds) (hs : ds.length ≤ 35184372088832) :
    Calls Tryz.prog 85 #[v] w (RetNat (val ds) w) := by
  have ht : (dg (val ds)).length ≤ ds.length := dg_length_val_le h.digs
  go_enter Tryz.func85, Tryz.ntmps85
  go_wp2_with fail
  refine (trim_nat v ds _ h).mono ?_
  rintro e w' ⟨v', rfl, hv, rfl⟩
  obtain ⟨A, c, rfl, h1, h2, h3⟩ := hv
  have hmk := fun W => run_makeNat ((dg (val ds)).length : Nat) (by omega) (by omega) W
  have H3 := Lib.hid h3
  have HD := Lib.hid (dg_digs (val ds))
  clear h3
  generalize hE : dg (val ds) = E at *
  have HE := Lib.hid hE
  clear hE
  go_wp2_with (with_reducible refine wpList_copy_splice rfl (.tmp 9) (.tmp 10) _ _ rfl 57 Tryz.underlying24 size_u32 _ _ _ _ _ _ rfl rfl w.heap.size 0 (u32s (List.replicate E.length 0)) 57 ?_ (u32s E) ?_ ?_ ?_ ?_ w.heap.size w ?_ ?_ ?_)
  · exact heap_alloc_new _ _
  · rw [u32s_length]; simp
  · intro hp
    rw [u32s_length] at hp
    obtain ⟨ad, e, hb, hc⟩ := H3.out.2 hp
    refine ⟨ad, e, fun j x hx => ?_⟩
    have hj : j < E.length := by
      rcases Nat.lt_or_ge j E.length with hj | hj
      · exact hj
      · rw [List.getElem?_eq_none (by rw [u32s_length]; exact hj)] at hx; cases hx
    rw [u32s_get E j hj] at hx
    rw [World.cell?_alloc_lt _ _ _ (by rw [block_of_add]; exact hb), hc j hj, hx]
  · rw [u32s_length, u32s_length]; simp
  · exact u32s_one E
  · exact (Below.refl _ _).alloc (Nat.le_refl _) _
  · exact Nat.le_refl _
  · intro w' hrow hb
    have hsp : splice (u32s (List.replicate E.length 0)) 0 (u32s E) = u32s E := by
      simp [splice, u32s]
    rw [hsp] at hrow
    have HR : Hid (Row w' w.heap.size E) := hrow
    have HB : Hid (Ext w w') := hb
    clear hrow hb hsp
    go_wp2
    go_ret
    refine ⟨_, rfl, ?_, HB.out⟩
    rw [HE.out]
    exact HR.out.natV HD.out _ (Nat.le_refl _) (by omega)

set_option maxHeartbeats 400000 in
theorem natOf_nat (n : Nat) (w : World) (hn : n < 18446744073709551616) :
    Calls Tryz.prog 58 #[.int .u64 n] w (RetNat n w) := by
  go_enter Tryz.func58, Tryz.ntmps58
  go_wp2_with fail
  have hr : Row (w.alloc (Obj.cells #[Value.int IntKind.u32 (↑n % 4294967296), Value.int IntKind.u32 (↑n / 4294967296)] 57)) w.heap.size [n % 4294967296, n / 4294967296] := by
    have := Row.new w [n % 4294967296, n / 4294967296]
    simpa [u32s] using this
  have hd : Digs [n % 4294967296, n / 4294967296] := Digs.cons (Nat.mod_lt _ (by decide)) (Digs.cons (by rw [B32_eq]; omega) Digs.nil)
  refine (normal_nat _ _ _ (hr.natV hd 2 (Nat.le_refl _) (by omega)) (by simp)).mono ?_
  rintro e w' ⟨v, rfl, hv, hx⟩
  have hval : val [n % 4294967296, n / 4294967296] = n := by simp [val, B32_eq]; omega
  rw [hval] at hv
  have HV := Lib.hid hv
  have HX := Lib.hid hx
  clear hv hx hval hr
  go_wp2
  go_ret
  exact ⟨_, rfl, HV.out, ((Ext.refl w).alloc _).trans HX.out⟩

set_option maxHeartbeats 1000000 in
theorem cmp_nat (u v : Value) (ds es : List Nat) (w : World) (h : NatV w u ds) (k : NatV w v es) :
    Calls Tryz.prog 81 #[u, v] w fun e w' => e = .returned (.int .i64 (cmpI (val ds) (val es))) ∧ ∃ n, w' = w.drewN n := by
  go_enter Tryz.func81, Tryz.ntmps81
  go_wp2_with fail
  refine (trim_nat u ds _ h).mono ?_
  rintro e w' ⟨u', rfl, hu, rfl⟩
  go_wp2_with fail
  refine (trim_nat v es _ k).mono ?_
  rintro e w' ⟨v', rfl, hv, rfl⟩
  obtain ⟨A, c, rfl, h1, h2, h3⟩ := hu
  obtain ⟨A', c', rfl, h1', h2', h3'⟩ := hv
  generalize hM : val ds = M at *
  generalize hN : val es = N at *
  have H3 := Lib.hid h3
  have H3' := Lib.hid h3'
  have HM := Lib.hid hM
  have HN := Lib.hid hN
  clear h3 h3' hM hN h k
  rcases Nat.lt_trichotomy (dg M).length (dg N).length with hlt | heq | hgt
  · go_wp2
    go_ret
    exact ⟨by rw [HM.out, HN.out, cmpI_lt (by have := lt_of_dg_length_lt hlt; omega)]; rfl, 0, rfl⟩
  · generalize hL : (dg N).length = L at *
    rw [heq] at h1 ⊢
    have HL := Lib.hid hL
    have HEQ := Lib.hid heq
    clear heq hL
    have HMd := Lib.hid (dg_digs M)
    have HNd := Lib.hid (dg_digs N)
    go_wp2
    go_loopw [5] (fun i wr => ∃ k n : Nat, k ≤ L ∧ i = .int .i64 ((k : Int) - 1) ∧ Hid ((dg M).drop k = (dg N).drop k) ∧ wr = w.drewN n) (fun i _ => (intOf i + 1).toNat)
    case atStart => exact ⟨L, 0, Nat.le_refl _, rfl, Lib.hid (by rw [List.drop_eq_nil_of_le (by have := HEQ.out; omega), List.drop_eq_nil_of_le (by have := HL.out; omega)]), rfl⟩
    case round =>
      obtain ⟨k, n, hk, rfl, HK, rfl⟩ := hrel
      rcases k with _ | k
      · go_wp2
        go_ret
        refine ⟨?_, _, rfl⟩
        have hMN : M = N := by
          have := HK.out
          rw [List.drop_zero, List.drop_zero] at this
          rw [← val_dg M, this, val_dg]
        rw [HM.out, HN.out, cmpI_eq (by rw [hMN])]
        rfl
      · have hkM : k < (dg M).length := by have := HEQ.out; omega
        have hkN : k < (dg N).length := by have := HL.out; omega
        obtain ⟨ad, rfl, hb, hcell, hlt⟩ := H3.out.at_ k hkM
        obtain ⟨ad', rfl, hb', hcell', hlt'⟩ := H3'.out.at_ k hkN
        obtain ⟨x, hx⟩ : ∃ x, x = (dg M)[k] := ⟨_, rfl⟩
        obtain ⟨y, hy⟩ : ∃ y, y = (dg N)[k] := ⟨_, rfl⟩
        rw [← hx] at hcell hlt
        rw [← hy] at hcell' hlt'
        have HX := Lib.hid hx
        have HY := Lib.hid hy
        clear hx hy
        have hk0 : (0 : Int) ≤ k := by omega
        rcases Nat.lt_trichotomy x y with hxy | hxy | hxy
        · go_wp2
          go_quiet (fail)
          go_wp2
          go_ret
          refine ⟨?_, _, World.drewN_drewN _ _ _⟩
          have := val_cmp_top k HMd.out hkM hkN (HEQ.out.trans HL.out.symm) HK.out (by rw [← HX.out, ← HY.out]; exact hxy)
          rw [val_dg, val_dg] at this
          rw [HM.out, HN.out, cmpI_lt (by omega)]
          rfl
        · subst hxy
          go_wp2
          go_quiet (fail)
          go_wp2
          go_quiet (fail)
          go_wp2
          go_roundw
          case rel => exact ⟨k, _, by omega, by go_num, Lib.hid (by rw [List.drop_eq_getElem_cons hkM, List.drop_eq_getElem_cons hkN, HK.out, ← HX.out, ← HY.out]), rfl⟩
          case measure => simp [intOf]
        · go_wp2
          go_quiet (fail)
          go_wp2
          go_quiet (fail)
          go_wp2
          go_ret
          refine ⟨?_, _, by rw [World.drewN_drewN, World.drewN_drewN]⟩
          have := val_cmp_top k HNd.out hkN hkM (HL.out.trans HEQ.out.symm) HK.out.symm (by rw [← HX.out, ← HY.out]; exact hxy)
          rw [val_dg, val_dg] at this
          rw [HM.out, HN.out, cmpI_gt (by omega)]
          rfl
  · go_wp2
    go_ret
    exact ⟨by rw [HM.out, HN.out, cmpI_gt (by have := lt_of_dg_length_lt hgt; omega)]; rfl, 0, rfl⟩
end Go.Proofs.YtdcapcpchcnidaaGreat
