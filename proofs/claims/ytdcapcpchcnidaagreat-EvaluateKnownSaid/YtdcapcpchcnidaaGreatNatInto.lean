/- Layer 1 (natural): adding into digits, the only function that writes into what it is given. -/
import Derived.Test.YtdcapcpchcnidaaGreatNatMul

namespace Go.Proofs.YtdcapcpchcnidaaGreat
open Go.RowKit

/-- After k digits of adding xs into the digits zs from off on. -/
def IntoInv (w0 : World) (g off : Nat) (zs xs : List Nat) (k c : Nat) (wr : World) : Prop :=
  ∃ ys : List Nat, Row wr g ys ∧ ys.length = zs.length ∧ Digs ys ∧ ys.take off = zs.take off ∧ ys.drop (off + k) = zs.drop (off + k) ∧
    val ((ys.drop off).take k) + B32 ^ k * c = val ((zs.drop off).take k) + val (xs.take k) ∧ Only g w0 wr

theorem IntoInv.step {w0 wr : World} {g off : Nat} {zs xs ys : List Nat} {k c r y d c' : Nat} (hr : Row wr g ys) (hl : ys.length = zs.length) (hd : Digs ys) (ht : ys.take off = zs.take off)
    (hdr : ys.drop (off + k) = zs.drop (off + k)) (he : val ((ys.drop off).take k) + B32 ^ k * c = val ((zs.drop off).take k) + val (xs.take k)) (ho : Only g w0 wr)
    (hlt : off + k < ys.length) (hrd : Hid (ys[off + k]? = some r)) (hy : val (xs.take (k + 1)) = val (xs.take k) + B32 ^ k * y) (hd1 : d = (r + y + c) % B32) (hc1 : c' = (r + y + c) / B32) :
    IntoInv w0 g off zs xs (k + 1) c' (wr.setCell ⟨g, off + k, none⟩ (.int .u32 (d : Int))) := by
  have hr0 : Hid ((zs.drop off)[k]? = some r) := by
    have h1 := hrd.out
    have h2 : ys[off + k]? = (ys.drop (off + k))[0]? := by rw [List.getElem?_drop]; simp
    have h3 : (zs.drop off)[k]? = (zs.drop (off + k))[0]? := by rw [List.getElem?_drop, List.getElem?_drop]; simp
    rw [h2, hdr, ← h3] at h1
    exact h1
  refine ⟨ys.set (off + k) d, hr.set_ _ _, by rw [List.length_set, hl], hd.set _ _ (by rw [hd1]; exact Nat.mod_lt _ B32_pos), ?_, ?_, ?_, ho.setCell _ _⟩
  · rw [List.take_set_of_le (by omega), ht]
  · rw [show off + (k + 1) = (off + k) + 1 from by omega, ← List.drop_drop (i := 1) (j := off + k), ← List.drop_drop (i := 1) (j := off + k), ← hdr, List.drop_set, if_neg (by omega), Nat.sub_self]
    rcases hq : ys.drop (off + k) with _ | ⟨a, q⟩
    · rfl
    · rfl
  · have hlk : k < (ys.drop off).length := by rw [List.length_drop]; omega
    rw [List.drop_set, if_neg (by omega), Nat.add_sub_cancel_left, set_take_succ _ _ _ hlk, val_snoc, List.length_take, Nat.min_eq_left (by omega), val_take_succ hr0, hy, Nat.pow_succ, hd1, hc1]
    exact sum_step _ _ _ _ _ _ _ _ he rfl

def RetInto (g off : Nat) (zs : List Nat) (n : Nat) (w : World) (e : Ending) (w' : World) : Prop :=
  ∃ ys : List Nat, e = .returned (.tuple #[]) ∧ Row w' g ys ∧ ys.length = zs.length ∧ Digs ys ∧ ys.take off = zs.take off ∧ val (ys.drop off) = n ∧ Only g w w'

set_option maxRecDepth 100000 in
set_option maxHeartbeats 2000000 in
theorem addInto_nat (g off zl zc : Nat) (zs xs : List Nat) (X : Option Addr) (xc : Nat) (w : World) (hrow : Row w g zs) (hzd : Digs zs) (hzl : zs.length = off + zl) (hzc : zl ≤ zc) (hzc' : zc ≤ 35184372088832)
    (hx : DigAt w X xs) (hxa : ∀ ad, X = some ad → ad.block ≠ g) (hlx : xs.length ≤ zl) (hxc : xs.length ≤ xc) (hxc' : xc ≤ 9223372036854775807) (hfit : val (zs.drop off) + val xs < B32 ^ zl) :
    Calls Tryz.prog 134 #[.slice (some ⟨g, off, none⟩) zl zc, .slice X xs.length xc] w (RetInto g off zs (val (zs.drop off) + val xs) w) := by
  have HINV : Hid (IntoInv w g off zs xs 0 0 w) := ⟨zs, hrow, rfl, hzd, rfl, rfl, by simp, Only.refl _ _⟩
  have HX := Lib.hid hx
  have HXA := Lib.hid hxa
  have HFIT := Lib.hid hfit
  have HZL := Lib.hid hzl
  clear hx hxa hfit hrow hzd hzl
  go_enter Tryz.func134, Tryz.ntmps134
  go_wp2_with fail
  go_loopw [4, 10] (fun cv iv wr => ∃ k c : Nat, k ≤ xs.length ∧ iv = .int .i64 k ∧ cv = .int .u32 c ∧ c ≤ 1 ∧ Hid (IntoInv w g off zs xs k c wr)) (fun _ iv _ => xs.length - (intOf iv).toNat)
  case atStart => exact ⟨0, 0, by omega, rfl, rfl, by omega, HINV⟩
  case round =>
    clear HINV
    obtain ⟨k, c, hk, rfl, rfl, hc1, HI⟩ := hrel
    by_cases hlt : k < xs.length
    · obtain ⟨ys, hrow, hyl, hyd, htk, hdr, hsum, honly⟩ := HI.out
      have hlen : off + k < ys.length := by have := HZL.out; omega
      obtain ⟨ad, y, rfl, hb, hcell, hy1, HY⟩ := (HX.out.only honly HXA.out).get_ k hlt
      obtain ⟨r, hrc, hrf, HR⟩ := hrow.get_ (off + k) hlen
      have hr1 : r < 4294967296 := hyd _ (List.mem_of_getElem? HR.out)
      have HS := Lib.hid (fun d c' => IntoInv.step (d := d) (c' := c') hrow hyl hyd htk hdr hsum honly hlen HR (val_take_succ HY))
      clear HI hrow hyl hyd htk hdr hsum honly hlen
      go_wp2_with (go_at_call 114; refine (add32 _ _ _ _ (by omega) (by omega) (by omega) (by omega) (by omega) (by omega)).mono ?_; rintro e w' ⟨rfl, rfl⟩)
      go_roundw
      case rel =>
        refine ⟨k + 1, (r + y + c) / B32, by omega, by go_num, by rw [B32_eq]; congr 1, by rw [B32_eq]; omega, ?_⟩
        have := HS.out _ _ rfl rfl
        rw [show (((r : Int) + y + c) % 4294967296) = (((r + y + c) % B32 : Nat) : Int) from by rw [B32_eq]; omega]
        exact this
      case measure => simp [intOf]; omega
    · obtain rfl : k = xs.length := by omega
      go_wp2_with fail
      go_loopw [4, 7] (fun cv iv wr => ∃ k c : Nat, xs.length ≤ k ∧ k ≤ zl ∧ iv = .int .i64 k ∧ cv = .int .u32 c ∧ c ≤ 1 ∧ Hid (IntoInv w g off zs xs k c wr)) (fun _ iv _ => zl - (intOf iv).toNat)
      case atStart => exact ⟨xs.length, c, Nat.le_refl _, hlx, rfl, rfl, hc1, HI⟩
      case round =>
        clear HI hc1
        obtain ⟨k, c, hk0, hk, rfl, rfl, hc1, HI⟩ := hrel
        obtain ⟨ys, hrow, hyl, hyd, htk, hdr, hsum, honly⟩ := HI.out
        have hdone : c = 0 → RetInto g off zs (val (zs.drop off) + val xs) w (.returned (.tuple #[])) wr := by
          intro hc0
          refine ⟨ys, rfl, hrow, hyl, hyd, htk, ?_, honly⟩
          have hl2 : k ≤ (ys.drop off).length := by rw [List.length_drop]; have := HZL.out; omega
          have hl3 : k ≤ (zs.drop off).length := by rw [List.length_drop]; have := HZL.out; omega
          have e1 := val_take_drop (ys.drop off) k hl2
          have e2 := val_take_drop (zs.drop off) k hl3
          rw [List.drop_drop] at e1 e2
          rw [hc0, Nat.mul_zero, Nat.add_zero, List.take_of_length_le hk0] at hsum
          rw [e1, e2, hdr, hsum]
          omega
        by_cases hc0 : c = 0
        · have HD := Lib.hid (hdone hc0)
          have hcb : ((c : Int) != 0) = false := by simp [hc0]
          clear HI hrow hyl hyd htk hdr hsum honly hdone
          subst hc0
          go_wp2_with fail
          go_end0
          exact HD.out
        · obtain rfl : c = 1 := by omega
          have hklt : k < zl := by
            rcases Nat.lt_or_ge k zl with h | h
            · exact h
            · exfalso
              obtain rfl : k = zl := by omega
              have hb := HFIT.out
              have hzl := HZL.out
              rw [Nat.mul_one, List.take_of_length_le (by rw [List.length_drop]; omega), List.take_of_length_le (by rw [List.length_drop]; omega), List.take_of_length_le hk0] at hsum
              omega
          have hlen : off + k < ys.length := by have := HZL.out; omega
          obtain ⟨r, hrc, hrf, HR⟩ := hrow.get_ (off + k) hlen
          have hr1 : r < 4294967296 := hyd _ (List.mem_of_getElem? HR.out)
          have HS := Lib.hid (fun d c' => IntoInv.step (d := d) (c' := c') hrow hyl hyd htk hdr hsum honly hlen HR (val_take_past hk0))
          clear HI hrow hyl hyd htk hdr hsum honly hlen hdone
          go_wp2_with (go_at_call 114; refine (add32 _ 0 _ _ (by omega) (by omega) (by omega) (by omega) (by omega) (by omega)).mono ?_; rintro e w' ⟨rfl, rfl⟩)
          go_roundw
          case rel =>
            refine ⟨k + 1, (r + 0 + 1) / B32, by omega, by omega, by go_num, by rw [B32_eq]; congr 1, by rw [B32_eq]; omega, ?_⟩
            have := HS.out _ _ rfl rfl
            rw [show (((r : Int) + 1) % 4294967296) = (((r + 0 + 1) % B32 : Nat) : Int) from by rw [B32_eq]; omega]
            exact this
          case measure => simp [intOf]; omega
end Go.Proofs.YtdcapcpchcnidaaGreat
