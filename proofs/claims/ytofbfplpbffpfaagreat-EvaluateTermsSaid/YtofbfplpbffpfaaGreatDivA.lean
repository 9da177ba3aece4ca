/- Layer 3 (division): the parts of long division. -/
import Derived.Test.YtofbfplpbffpfaaGreatNatShr
import Derived.Test.YtofbfplpbffpfaaGreatKnuth

namespace Go.Proofs.YtofbfplpbffpfaaGreat
open Go.RowKit

def EstCut (B U2 U V v1 : Nat) (w : World) (s11 s12 s13 : Value) (wx : World) : Prop :=
  ∃ q r o : Nat, s11 = .int .u32 (q : Nat) ∧ s12 = .int .u32 (r : Nat) ∧ s13 = .int .u32 (o : Nat) ∧ EstInv B U2 U V v1 q r o ∧ ∃ n, wx = w.drewN n

set_option maxRecDepth 100000 in
set_option maxHeartbeats 1000000 in
theorem estimate_any (u2 u1 u0 v1 v2 : Nat) (w : World) (hu2 : u2 ≤ v1) (hu1 : u1 < 4294967296) (hu0 : u0 < 4294967296) (hv1 : v1 < 4294967296) (hv2 : v2 < 4294967296) (hv10 : 2147483648 ≤ v1) :
    Calls Tryz.prog 126 #[.int .u32 (u2 : Nat), .int .u32 (u1 : Nat), .int .u32 (u0 : Nat), .int .u32 (v1 : Nat), .int .u32 (v2 : Nat)] w fun e w' =>
      e = .returned (.int .u32 (estD B32 (u2 * B32 * B32 + u1 * B32 + u0) (v1 * B32 + v2) : Nat)) ∧ ∃ n, w' = w.drewN n := by
  go_enter Tryz.func126, Tryz.ntmps126
  go_upto_if 18 with (fail)
  go_cut [11, 12, 13] (fun s11 s12 s13 wx => EstCut B32 (u2 * B32 + u1) (u2 * B32 * B32 + u1 * B32 + u0) (v1 * B32 + v2) v1 w s11 s12 s13 wx)
  case first =>
    by_cases h : u2 < v1
    · have hi := Lib.hid (est_init (u0 := u0) (v2 := v2) B32_pos (show u1 < B32 from hu1) (show u0 < B32 from hu0) (show v1 < B32 from hv1) h)
      go_wp2_with fail
      refine (div32 _ _ _ _ (by omega) (by omega) (by omega) (by omega) (by omega)).mono ?_
      rintro e w2 ⟨rfl, n2, rfl⟩
      go_wp2_with fail
      go_meet
      refine ⟨_, _, 0, ?_, ?_, rfl, hi.out, n2, rfl⟩
      · rw [B32_eq]; simp
      · rw [B32_eq]; simp
    · have he : u2 = v1 := by omega
      have hi := Lib.hid (est_init_top (u0 := u0) (v2 := v2) B32_pos (show u1 < B32 from hu1) (show v1 < B32 from hv1) he)
      clear he
      go_wp2_with fail
      refine (add32 _ _ 0 _ (by omega) (by omega) (by omega) (by omega) (by omega) (by omega)).mono ?_
      rintro e w2 ⟨rfl, rfl⟩
      go_wp2_with fail
      go_meet
      refine ⟨_, _, _, ?_, ?_, ?_, hi.out, 0, rfl⟩
      · rfl
      · rw [B32_eq]; simp
      · rw [B32_eq]; simp
  case rest =>
    obtain ⟨q, r, o, rfl, rfl, rfl, hinv, n, rfl⟩ := hcut
    have HI0 := Lib.hid hinv
    clear hinv
    go_wp2_with fail
    go_loopw [11, 12, 13] (fun s11 s12 s13 wx => EstCut B32 (u2 * B32 + u1) (u2 * B32 * B32 + u1 * B32 + u0) (v1 * B32 + v2) v1 w s11 s12 s13 wx) (fun s11 _ _ _ => (intOf s11).toNat)
    case atStart => exact ⟨q, r, o, rfl, rfl, rfl, HI0.out, n, rfl⟩
    case round =>
      clear HI0
      obtain ⟨q, r, o, rfl, rfl, rfl, hinv, n, rfl⟩ := hrel
      have hq := hinv.1
      have hr := hinv.2.1
      have ho := hinv.2.2.1
      have HI := Lib.hid hinv
      rw [B32_eq] at hq hr
      clear hinv
      by_cases ho0 : o = 0
      · subst ho0
        go_wp2_with fail
        refine (mul32 _ _ _ (by omega) (by omega) (by omega) (by omega)).mono ?_
        rintro e w2 ⟨rfl, rfl⟩
        obtain ⟨H, hH⟩ : ∃ H : Nat, H = q * v2 / 4294967296 := ⟨_, rfl⟩
        obtain ⟨Lo, hLo⟩ : ∃ Lo : Nat, Lo = q * v2 % 4294967296 := ⟨_, rfl⟩
        have e1 : (q : Int) * v2 / 4294967296 = H := by rw [hH]; simp
        have e2 : (q : Int) * v2 % 4294967296 = Lo := by rw [hLo]; simp
        have hdec : q * v2 = H * 4294967296 + Lo := by omega
        have hLo1 : Lo < 4294967296 := by omega
        have HDEC := Lib.hid hdec
        rw [e1, e2]
        clear e1 e2 hH hLo hdec
        have hdone : q * v2 ≤ r * B32 + u0 → q = estD B32 (u2 * B32 * B32 + u1 * B32 + u0) (v1 * B32 + v2) := fun h => est_done B32_pos HI.out (by omega) (.inr h) hv2
        have HDONE := Lib.hid hdone
        clear hdone
        rcases Nat.lt_trichotomy H r with hlt | heq | hgt
        · have b1 : decide (H < r) = true := by simp [hlt]
          go_wp2_with fail
          go_ret
          refine ⟨?_, _, rfl⟩
          have := HDONE.out (by rw [B32_eq]; have := HDEC.out; omega)
          rw [← this]
          rfl
        · subst heq
          have b1 : decide (H < H) = false := by simp
          have b2 : ((H : Int) == (H : Int)) = true := by simp
          by_cases hl : Lo ≤ u0
          · have b3 : decide (Lo ≤ u0) = true := by simp [hl]
            go_wp2_with fail
            go_ret
            refine ⟨?_, _, rfl⟩
            have := HDONE.out (by rw [B32_eq]; have := HDEC.out; omega)
            rw [← this]
            rfl
          · have b3 : decide (Lo ≤ u0) = false := by simp [hl]
            obtain ⟨hq0, hst⟩ := est_step B32_pos HI.out (by omega) (show v1 < B32 from hv1) (by rw [B32_eq]; have := HDEC.out; omega)
            have HST := Lib.hid hst
            clear hst
            go_wp2_with fail
            refine (add32 _ _ 0 _ (by omega) (by omega) (by omega) (by omega) (by omega) (by omega)).mono ?_
            rintro e w2 ⟨rfl, rfl⟩
            go_wp2_with fail
            go_roundw
            case rel => exact ⟨q - 1, _, _, by congr 1; omega, by rw [B32_eq]; simp, by rw [B32_eq]; simp, HST.out, _, rfl⟩
            case measure => simp [intOf]; omega
        · have b1 : decide (H < r) = false := by simp; omega
          have b2 : ((H : Int) == (r : Int)) = false := beq_eq_false_iff_ne.2 (by omega)
          obtain ⟨hq0, hst⟩ := est_step B32_pos HI.out (by omega) (show v1 < B32 from hv1) (by rw [B32_eq]; have := HDEC.out; omega)
          have HST := Lib.hid hst
          clear hst
          go_wp2_with fail
          refine (add32 _ _ 0 _ (by omega) (by omega) (by omega) (by omega) (by omega) (by omega)).mono ?_
          rintro e w2 ⟨rfl, rfl⟩
          go_wp2_with fail
          go_roundw
          case rel => exact ⟨q - 1, _, _, by congr 1; omega, by rw [B32_eq]; simp, by rw [B32_eq]; simp, HST.out, _, rfl⟩
          case measure => simp [intOf]; omega
      · obtain rfl : o = 1 := by omega
        have hd := est_done B32_pos HI.out (by omega) (.inl rfl) hv2
        have HD := Lib.hid hd
        clear hd
        go_wp2_with fail
        go_ret
        refine ⟨?_, _, rfl⟩
        rw [← HD.out]
        rfl
end Go.Proofs.YtofbfplpbffpfaaGreat
