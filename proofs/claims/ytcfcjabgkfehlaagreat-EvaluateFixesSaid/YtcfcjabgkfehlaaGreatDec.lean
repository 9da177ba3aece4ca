/- Layer 4 (decimal): how many digits a number has. -/
import Derived.Test.YtcfcjabgkfehlaaGreatMf5
import Derived.Test.YtcfcjabgkfehlaaGreatInt3
import Derived.Maps.AppendAt
set_option linter.unusedSimpArgs false
set_option linter.unusedVariables false

set_option maxRecDepth 100000
set_option maxHeartbeats 8000000
namespace Go.Proofs.YtcfcjabgkfehlaaGreat
open Go.RowKit
theorem vcr (w:World):Calls Tryz.prog 246 #[.int .i64 10] w fun e w'=>e=.returned (.tuple #[.int .u32 1000000000,.int .i64 9])/\w=w':=by
 go_enter Tryz.func246,Tryz.ntmps246;go_wp2_with fail
 go_loop [4,5] (fun p c=>∃ k:Nat,k<=8/\p=.int .u64 ((10 ^ (k+1):Nat):Int)/\c=.int .i64 ((k+1:Nat):Int)) (fun _ c=>9 - (intOf c).toNat)
 case atStart=>exact ⟨0,by omega,rfl,rfl⟩
 case round =>
  obtain ⟨k,hk,rfl,rfl⟩:=hrel;have hcases:k=0\/k=1\/k=2\/k=3\/k=4\/k=5\/k=6\/k=7\/k=8:=by omega
  rcases hcases with rfl | rfl | rfl | rfl | rfl | rfl | rfl | rfl | rfl
  all_goals
   go_wp2_with fail
   first
    | (go_ret2; exact ⟨rfl,rfl⟩)
    | (go_round
       case rel=>first | exact ⟨1,by omega,rfl,rfl⟩ | exact ⟨2,by omega,rfl,rfl⟩ | exact ⟨3,by omega,rfl,rfl⟩ | exact ⟨4,by omega,rfl,rfl⟩ | exact ⟨5,by omega,rfl,rfl⟩ | exact ⟨6,by omega,rfl,rfl⟩ | exact ⟨7,by omega,rfl,rfl⟩ | exact ⟨8,by omega,rfl,rfl⟩
       case measure=>simp [intOf])
def uad (w:World) (g n:Nat):Prop:=∃ arr:Array Value,w.heap[g]?=some (.cells arr 5 (0,0))/\n<=arr.size/\∀ i,i < n->∃ b:Nat,b < 256/\arr[i]?=some (.int .u8 (b:Nat))
theorem uad.get {w:World} {g n:Nat} (h:uad w g n) (i:Nat) (hi:i < n):∃ b:Nat,b < 256/\w.cell? ⟨g,i,none⟩=some (.int .u8 (b:Nat))/\w.frozen? ⟨g,i,none⟩=false:=by
 obtain ⟨arr,h1,h2,h3⟩:=h;obtain ⟨b,hb,hg⟩:=h3 i hi;exact ⟨b,hb,by rw [cell_of_row w g i arr _ (0,0) h1,hg],by simp [World.frozen?,h1]⟩
theorem uad.set {w:World} {g n:Nat} (h:uad w g n) (i b:Nat) (hb:b < 256):uad (w.setCell ⟨g,i,none⟩ (.int .u8 (b:Nat))) g n:=by
 obtain ⟨arr,h1,h2,h3⟩:=h;refine ⟨arr.setIfInBounds i (.int .u8 (b:Nat)),by simp [World.setCell,Array.getElem?_modify,h1],by simpa using h2,fun k hk=>?_⟩;rw [Array.getElem?_setIfInBounds]
 by_cases hik:i=k
 · subst hik;rw [if_pos rfl,if_pos (by omega)];exact ⟨b,hb,rfl⟩
 · rw [if_neg hik];exact h3 k hk
theorem uad.drewN {w:World} {g n:Nat} (h:uad w g n) (k:Nat):uad (w.drewN k) g n:=h
theorem kbp (g n cap:Nat) (w:World) (h:uad w g n) (hc:n<=cap) (hc':cap<=9223372036854775807) :
 Calls Tryz.prog 247 #[.slice (some ⟨g,0,none⟩) n cap] w fun e w'=>e=.returned (.tuple #[])/\uad w' g n/\Only g w w':=by
 have H:=Lib.hid h;clear h;go_enter Tryz.func247,Tryz.ntmps247;go_wp2_with fail
 go_loopw [2,3] (fun iv jv wr=>∃ i j:Nat,i+j=n/\iv=.int .i64 i/\jv=.int .i64 ((j:Int) - 1)/\Hid (uad wr g n/\Only g w wr)) (fun iv jv _=>n - (intOf iv).toNat)
 case atStart=>exact ⟨0,n,by omega,rfl,rfl,Lib.hid ⟨H.out,Only.refl _ _⟩⟩
 case round =>
  obtain ⟨i,j,hij,rfl,rfl,HI⟩:=hrel
  by_cases hlt:i+1 < j
  · obtain ⟨j,rfl⟩:∃ k,j=k+1:=⟨j - 1,by omega⟩;rw [show (((j+1:Nat):Int) - 1)=(j:Int) from by omega];have hjn:j < n:=by omega
    obtain ⟨x,hx,cx,fx⟩:=HI.out.1.get i (by omega);obtain ⟨y,hy,cy,fy⟩:=HI.out.1.get j (by omega);have hne:¬ (i=j):=by omega
    go_wp2_with fail
    go_region
    go_wp2_with fail
    go_roundw
    case rel=>exact ⟨i+1,j,by omega,by go_num,by go_num,Lib.hid ⟨((HI.out.1.drewN 1).set i y hy).set j x hx,((HI.out.2.drewN 1).setCell i _).setCell j _⟩⟩
    case measure=>simp [intOf]; omega
  · go_wp2_with fail
    go_end0
    exact ⟨rfl,HI.out.1,HI.out.2⟩
end Go.Proofs.YtcfcjabgkfehlaaGreat
