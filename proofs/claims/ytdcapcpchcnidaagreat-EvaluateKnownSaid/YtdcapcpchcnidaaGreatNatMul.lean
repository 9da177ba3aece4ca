/- Layer 1 (natural): products, digit by digit. -/
import Derived.Test.YtdcapcpchcnidaaGreatMm5

namespace Go.Proofs.YtdcapcpchcnidaaGreat
open Go.RowKit

/-- The call returns a number of exactly l digits. -/
def RetProd (l n : Nat) (w : World) (e : Ending) (w' : World) : Prop := ∃ v zs, e = .returned v ∧ NatV w' v zs ∧ zs.length = l ∧ val zs = n ∧ Fresh w.heap.size v ∧ Ext w w'

/-- Before row i: the product of the first i digits, and zeros above. -/
def MulOut (w0 : World) (g : Nat) (ds es : List Nat) (i : Nat) (wr : World) : Prop :=
  ∃ zs : List Nat, Row wr g zs ∧ zs.length = ds.length + es.length ∧ Digs zs ∧ val (zs.take (i + es.length)) = val (ds.take i) * val es ∧ zs.drop (i + es.length) = List.replicate (ds.length - i) 0 ∧ Ext w0 wr

/-- Inside row i, after j digits. -/
def MulIn (w0 : World) (g : Nat) (z0 : List Nat) (i x : Nat) (es : List Nat) (j : Nat) (c : Nat) (wr : World) : Prop :=
  ∃ zs : List Nat, Row wr g zs ∧ zs.length = z0.length ∧ Digs zs ∧ val (zs.take (i + j)) + B32 ^ (i + j) * c = val (z0.take (i + j)) + B32 ^ i * (x * val (es.take j)) ∧ zs.drop (i + j) = z0.drop (i + j) ∧ Ext w0 wr

theorem mul_step (Z Z0 P Q c x y r E s : Nat) (hz : Z + P * Q * c = Z0 + P * (x * E)) (hs : s = x * y + r + c) :
    (Z + P * Q * (s % B32)) + P * Q * B32 * (s / B32) = (Z0 + P * Q * r) + P * (x * (E + Q * y)) := by
  have e : P * Q * (s % B32) + P * Q * B32 * (s / B32) = P * Q * s := by rw [Nat.mul_assoc (P * Q), ← Nat.mul_add, Nat.mod_add_div]
  have e2 : P * Q * s = P * Q * (x * y) + P * Q * r + P * Q * c := by rw [hs, Nat.mul_add, Nat.mul_add]
  have e3 : P * (x * (E + Q * y)) = P * (x * E) + P * Q * (x * y) := by
    rw [Nat.mul_add, Nat.mul_add, Nat.mul_left_comm x Q y, Nat.mul_assoc P Q]
  omega

theorem MulIn.step {w0 wr : World} {g : Nat} {z0 es zs : List Nat} {i x j c y r d c' : Nat} (hr : Row wr g zs) (hl : zs.length = z0.length) (hd : Digs zs)
    (he : val (zs.take (i + j)) + B32 ^ (i + j) * c = val (z0.take (i + j)) + B32 ^ i * (x * val (es.take j))) (hdr : zs.drop (i + j) = z0.drop (i + j)) (hx : Ext w0 wr)
    (hg : w0.heap.size ≤ g) (hlt : i + j < zs.length) (hrd : Hid (zs[i + j]? = some r)) (hy : Hid (es[j]? = some y)) (hd1 : d = (x * y + r + c) % B32) (hc1 : c' = (x * y + r + c) / B32) :
    MulIn w0 g z0 i x es (j + 1) c' (wr.setCell ⟨g, i + j, none⟩ (.int .u32 (d : Int))) := by
  refine ⟨zs.set (i + j) d, hr.set_ _ _, by rw [List.length_set, hl], hd.set _ _ (by rw [hd1]; exact Nat.mod_lt _ B32_pos), ?_, ?_, hx.setCell (by simpa using hg) _⟩
  · have hr0 : Hid (z0[i + j]? = some r) := by
      have h1 := hrd.out
      have h2 : zs[i + j]? = (zs.drop (i + j))[0]? := by rw [List.getElem?_drop]; simp
      have h3 : z0[i + j]? = (z0.drop (i + j))[0]? := by rw [List.getElem?_drop]; simp
      rw [h2, hdr, ← h3] at h1
      exact h1
    rw [show i + (j + 1) = (i + j) + 1 from by omega, set_take_succ zs (i + j) d hlt, val_snoc, List.length_take, Nat.min_eq_left (by omega), val_take_succ hr0, val_take_succ hy, Nat.pow_succ, Nat.pow_add]
    rw [Nat.pow_add] at he
    rw [hd1, hc1]
    exact mul_step _ _ _ _ _ _ _ _ _ _ he rfl
  · rw [show i + (j + 1) = (i + j) + 1 from by omega, ← List.drop_drop (i := 1) (j := i + j), ← List.drop_drop (i := 1) (j := i + j), ← hdr, List.drop_set]
    rw [if_neg (by omega), Nat.sub_self, List.drop_drop]
    rcases hq : zs.drop (i + j) with _ | ⟨a, q⟩
    · have := congrArg List.length hq; simp at this; omega
    · rw [← List.drop_drop, hq]; rfl

set_option maxRecDepth 100000 in
set_option maxHeartbeats 2000000 in
theorem schoolbook_nat (u v : Value) (ds es : List Nat) (w : World) (h : NatV w u ds) (k : NatV w v es) (hs : ds.length + es.length ≤ 35184372088000) :
    Calls Tryz.prog 133 #[u, v] w (RetProd (ds.length + es.length) (val ds * val es) w) := by
  obtain ⟨A, c, rfl, h1, h2, h3⟩ := h
  obtain ⟨A', c', rfl, h1', h2', h3'⟩ := k
  have G5 := Lib.hid h3
  have G6 := Lib.hid h3'
  clear h3 h3'
  have hmk := fun W => run_makeNat ((ds.length : Int) + es.length) (by omega) (by omega) W
  go_enter Tryz.func133, Tryz.ntmps133
  go_wp2_with fail
  have hinv : MulOut w w.heap.size ds es 0 (w.alloc (Obj.cells (u32s (List.replicate (ds.length + es.length) 0)).toArray 57)) :=
    ⟨List.replicate (ds.length + es.length) 0, Row.new w _, by simp, Digs.replicate _, by simp [val_replicate_zero], by simp, (Ext.refl _).alloc _⟩
  have HINV := Lib.hid hinv
  clear hinv
  go_loopw [23] (fun i wr => ∃ k : Nat, k ≤ ds.length ∧ i = .int .i64 k ∧ Hid (MulOut w w.heap.size ds es k wr)) (fun i _ => ds.length - (intOf i).toNat)
  case atStart => exact ⟨0, by omega, rfl, HINV⟩
  case round =>
    clear HINV
    obtain ⟨i, hi, rfl, HI⟩ := hrel
    by_cases hlt : i < ds.length
    · obtain ⟨zs, hrow, hzl, hzd, hval, hzero, hext⟩ := HI.out
      obtain ⟨ad, x, rfl, hb, hcell, hx1, HX⟩ := (G5.out.ext hext).get_ i hlt
      by_cases hx0 : x = 0
      · have HS : Hid (MulOut w w.heap.size ds es (i + 1) wr) := by
          refine ⟨zs, hrow, hzl, hzd, ?_, ?_, hext⟩
          · have hz : Hid (zs[i + es.length]? = some 0) := by
              have h2 : zs[i + es.length]? = (zs.drop (i + es.length))[0]? := by rw [List.getElem?_drop]; simp
              have : zs[i + es.length]? = some 0 := by
                rw [h2, hzero]
                simp [List.getElem?_replicate]; omega
              exact this
            rw [show i + 1 + es.length = (i + es.length) + 1 from by omega, val_take_succ hz, hval, val_take_succ HX, hx0]
            simp
          · rw [show i + 1 + es.length = (i + es.length) + 1 from by omega, ← List.drop_drop (i := 1) (j := i + es.length), hzero]
            simp; omega
        subst hx0
        clear HI hrow hzl hzd hval hzero hext
        go_wp2_with fail
        go_roundw
        case rel => exact ⟨i + 1, by omega, by go_num, HS⟩
        case measure => simp [intOf]; omega
      · have hcap : ¬ (ds.length + es.length = i) := by omega
        have hxb : ((x : Int) == 0) = false := by simp; omega
        have hin : MulIn w w.heap.size zs i x es 0 0 wr := ⟨zs, hrow, rfl, hzd, by simp, rfl, hext⟩
        have HIN := Lib.hid hin
        have HVAL := Lib.hid hval
        have HZERO := Lib.hid hzero
        have HZL := Lib.hid hzl
        clear HI hrow hzl hzd hval hzero hext hin
        go_wp2_with fail
        obtain ⟨wo, rfl⟩ : ∃ wo : World, wo = wr := ⟨_, rfl⟩
        go_loopw [9, 35] (fun cv jv wq => ∃ j cc : Nat, j ≤ es.length ∧ jv = .int .i64 j ∧ cv = .int .u32 cc ∧ cc < 4294967296 ∧ Hid (MulIn w w.heap.size zs i x es j cc wq)) (fun _ jv _ => es.length - (intOf jv).toNat)
        case atStart => exact ⟨0, 0, by omega, rfl, rfl, by omega, HIN⟩
        case round =>
          clear HIN
          obtain ⟨j, cc, hj, rfl, rfl, hcc, HJ⟩ := hrel
          obtain ⟨ys, hrow, hyl, hyd, hval, hdr, hext⟩ := HJ.out
          have hyl2 : ys.length = ds.length + es.length := hyl.trans HZL.out
          by_cases hjl : j < es.length
          · obtain ⟨ad', y, rfl, hb', hcell', hy1, HY⟩ := (G6.out.ext hext).get_ j hjl
            obtain ⟨r, hrc, hrf, HR⟩ := hrow.get_ (i + j) (by omega)
            have hr1 : r < 4294967296 := hyd _ (List.mem_of_getElem? HR.out)
            have hp0 : (0 : Int) ≤ x * y := Int.mul_nonneg (by omega) (by omega)
            have hp1 : (x : Int) * y ≤ 4294967295 * 4294967295 := Int.mul_le_mul (by omega) (by omega) (by omega) (by omega)
            have HS := fun d c' => MulIn.step (d := d) (c' := c') hrow hyl hyd hval hdr hext (Nat.le_refl _) (by omega) HR HY
            have HS2 := Lib.hid HS
            clear HJ hrow hyl hyd hval hdr hext hyl2 HS
            go_wp2_with (first
              | (go_at_call 149; refine (mul32 _ _ _ (by omega) (by omega) (by omega) (by omega)).mono ?_; rintro e w' ⟨rfl, rfl⟩)
              | (go_at_call 114; refine (add32 _ _ 0 _ (by omega) (by omega) (by omega) (by omega) (by omega) (by omega)).mono ?_; rintro e w' ⟨rfl, rfl⟩))
            go_roundw
            case rel =>
              have e1 : (x : Int) * y = ((x * y : Nat) : Int) := by simp
              have hcc' : (x * y + r + cc) / B32 < 4294967296 := by
                rw [B32_eq]; rw [e1] at hp1; omega
              refine ⟨j + 1, (x * y + r + cc) / B32, by omega, by go_num, ?_, hcc', ?_⟩
              · rw [e1, B32_eq]; congr 1; omega
              · have := HS2.out _ _ rfl rfl
                rw [e1, show ((((x * y : Nat) : Int) + r + cc) % 4294967296) = (((x * y + r + cc) % B32 : Nat) : Int) from by rw [B32_eq]; omega]
                exact this
            case measure => simp [intOf]; omega
          · obtain rfl : j = es.length := by omega
            obtain ⟨r, hrc, hrf, HR⟩ := hrow.get_ (i + es.length) (by omega)
            have HS : Hid (MulOut w w.heap.size ds es (i + 1) (wr.setCell ⟨w.heap.size, i + es.length, none⟩ (.int .u32 (cc : Int)))) := by
              refine ⟨ys.set (i + es.length) cc, hrow.set_ _ _, by rw [List.length_set]; exact hyl2, hyd.set _ _ (by rw [B32_eq]; exact hcc), ?_, ?_, hext.setCell (by simp) _⟩
              · rw [show i + 1 + es.length = (i + es.length) + 1 from by omega, set_take_succ ys _ _ (by omega), val_snoc, List.length_take, Nat.min_eq_left (by omega), hval, HVAL.out, val_take_succ HX,
                  List.take_of_length_le (Nat.le_refl _), Nat.add_mul, Nat.mul_assoc]
              · rw [show i + 1 + es.length = (i + es.length) + 1 from by omega, ← List.drop_drop (i := 1) (j := i + es.length), List.drop_set, if_neg (by omega), Nat.sub_self, hdr, HZERO.out]
                obtain ⟨q, hq⟩ : ∃ q, ds.length - i = q + 1 := ⟨ds.length - i - 1, by omega⟩
                rw [hq, List.replicate_succ, show ds.length - (i + 1) = q from by omega]
                rfl
            clear HJ hrow hyl hyd hval hdr hext hyl2
            go_wp2_with fail
            go_roundw
            case rel => exact ⟨i + 1, by omega, by go_num, HS⟩
            case measure => simp [intOf]; omega
    · obtain rfl : i = ds.length := by omega
      obtain ⟨zs, hrow, hzl, hzd, hval, hzero, hext⟩ := HI.out
      have HN : Hid (NatV wr (.slice (some ⟨w.heap.size, 0, none⟩) (ds.length + es.length) (ds.length + es.length)) zs) := by
        have := hrow.natV hzd (ds.length + es.length) (by omega) (by omega)
        rw [hzl] at this
        exact this
      have HV : Hid (val zs = val ds * val es) := by
        have := hval
        rw [List.take_of_length_le (by omega), List.take_of_length_le (by omega)] at this
        exact this
      have HL := Lib.hid hzl
      have HX := Lib.hid hext
      clear HI hrow hzl hzd hval hzero hext
      go_wp2_with fail
      go_ret
      exact ⟨_, zs, rfl, HN.out, HL.out, HV.out, Fresh.mk _ _ _ _ (Nat.le_refl _), HX.out⟩
end Go.Proofs.YtdcapcpchcnidaaGreat
