/- math/bits.Len32 and LeadingZeros32 (the walk is the kit's template for math/bits.Len32, filled for this program). -/
import Derived.Test.YtopddaabiinboaaGreatRows
import Derived.Lib.Strings
import Derived.Lib.Slices
import Derived.Lib.Small
import Derived.Lib.Walk
import Derived.Lib.BitFns
import Derived.Lib.Hide
set_option linter.unusedSimpArgs false
set_option linter.unusedVariables false

set_option maxRecDepth 100000
set_option maxHeartbeats 8000000
namespace Go.Proofs.YtopddaabiinboaaGreat
theorem bits_Len32 (x:Int) (w:World) (h0:0<=x) (h1:x<=4294967295) :
 Calls Tryz.prog 216 #[.int .u32 x] w fun e w'=>e=.returned (.int .i64 (Lib.bitLen x.toNat))/\w'=w:=by
 go_enter Tryz.func216,Tryz.ntmps216
 go_wp2
 all_goals (go_ret; refine ⟨congrArg Ending.returned (congrArg (Value.int IntKind.i64) ?_),rfl⟩)
 all_goals first
   | (rw [Lib.len8_of (x / 65536 / 256 % 256) (by omega) (by omega)]
      have e:(x / 65536 / 256 % 256).toNat=x.toNat / 16777216:=by omega
      have l:=Lib.bitLen_le8' (x / 65536 / 256 % 256) (by omega) (by omega);have s:=Lib.bitLen_shift24 x.toNat (by omega) (by omega);rw [e] at l ⊢
      omega)
   | (rw [Lib.len8_of (x / 65536 % 256) (by omega) (by omega)]
      have e:(x / 65536 % 256).toNat=x.toNat / 65536:=by omega
      have l:=Lib.bitLen_le8' (x / 65536 % 256) (by omega) (by omega);have s:=Lib.bitLen_shift16 x.toNat (by omega) (by omega);rw [e] at l ⊢
      omega)
   | (rw [Lib.len8_of (x / 256 % 256) (by omega) (by omega)]
      have e:(x / 256 % 256).toNat=x.toNat / 256:=by omega
      have l:=Lib.bitLen_le8' (x / 256 % 256) (by omega) (by omega);have s:=Lib.bitLen_shift8 x.toNat (by omega) (by omega);rw [e] at l ⊢
      omega)
   | (rw [Lib.len8_of (x % 256) (by omega) (by omega)]
      have e:(x % 256).toNat=x.toNat:=by omega
      have l:=Lib.bitLen_le8' (x % 256) (by omega) (by omega);rw [e] at l ⊢
      omega)
theorem khr (n:Nat):∀ x:Nat,x < 2 ^ n->n<=64->x < 2 ^ Lib.bitLen x/\(x ≠ 0->2 ^ Lib.bitLen x<=2 * x):=by
 induction n with
 | zero => intro x hx _; have : x = 0 := by simpa using hx
           subst this; exact ⟨by decide,fun h=>absurd rfl h⟩
 | succ n ih =>
   intro x hx hn
   by_cases h0:x=0
   · subst h0; exact ⟨by decide,fun h=>absurd rfl h⟩
   · have h64:x < 2 ^ 64:=Nat.lt_of_lt_of_le hx (Nat.pow_le_pow_right (by omega) hn);have hh:x / 2 < 2 ^ n:=by rw [Nat.pow_succ] at hx; omega
     obtain ⟨i1,i2⟩:=ih (x / 2) hh (by omega);rw [Lib.bitLen_half x h0 h64,Nat.add_comm,Nat.pow_succ];refine ⟨by omega,fun _=>?_⟩
     by_cases h1:x / 2=0
     · have hx1:x=1:=by omega
       subst hx1
       decide
     · have:=i2 h1;omega
theorem zhx (x:Nat) (w:World) (h0:x ≠ 0) (h1:x < 4294967296) :
 Calls Tryz.prog 238 #[.int .u32 (x:Nat)] w fun e w'=>(∃ s:Nat,s < 32/\2147483648<=x * 2 ^ s/\x * 2 ^ s < 4294967296/\e=.returned (.int .i64 (s:Nat)))/\w'=w:=by
 have hb:=khr 32 x h1 (by omega);have hl:=Lib.bitLen_le x 32 (by omega) h1;have hl0:1<=Lib.bitLen x:=by
  rcases Nat.eq_zero_or_pos (Lib.bitLen x) with e | e
  · rw [e] at hb; have:=hb.1; simp at this; exact absurd this h0
  · exact e
 obtain ⟨s,hs⟩:∃ s,s=32 - Lib.bitLen x:=⟨_,rfl⟩;have hp:2 ^ Lib.bitLen x * 2 ^ s=4294967296:=by rw [<- Nat.pow_add,show Lib.bitLen x+s=32 from by omega]
 have hpos:0 < 2 ^ s:=Nat.pow_pos (by omega);have k1:2147483648<=x * 2 ^ s:=by
  have h3:2 ^ Lib.bitLen x * 2 ^ s<=2 * x * 2 ^ s:=Nat.mul_le_mul_right _ (hb.2 h0);rw [hp,Nat.mul_assoc] at h3;omega
 have k2:x * 2 ^ s < 4294967296:=by
  rw [<- hp]; exact Nat.mul_lt_mul_of_pos_right hb.1 hpos
 have K:RowKit.Hid (∃ s:Nat,s < 32/\2147483648<=x * 2 ^ s/\x * 2 ^ s < 4294967296/\Ending.returned (Value.int .i64 (32 - (Lib.bitLen x:Int)))=.returned (.int .i64 (s:Nat))):=
  ⟨s,by omega,k1,k2,by rw [show (32 - (Lib.bitLen x:Int))=(s:Int) from by omega]⟩
 have hc:=fun w=>bits_Len32 (x:Int) w (by omega) (by omega)
 rw [Int.toNat_natCast] at hc;have HC:=Lib.hid hc;clear hb hp hs k1 k2 hc;have e8:(32 - (Lib.bitLen x:Int)+9223372036854775808) % 18446744073709551616 - 9223372036854775808=32 - (Lib.bitLen x:Int):=by omega
 have E8:=Lib.hid e8;clear e8;go_enter Tryz.func238,Tryz.ntmps238;go_wp2_with (go_at_call 216; refine (HC.out _).mono ?_; rintro e w' ⟨rfl,rfl⟩)
 go_ret;refine ⟨?_,rfl⟩;rw [<- E8.out] at K;exact K.out
end Go.Proofs.YtopddaabiinboaaGreat
