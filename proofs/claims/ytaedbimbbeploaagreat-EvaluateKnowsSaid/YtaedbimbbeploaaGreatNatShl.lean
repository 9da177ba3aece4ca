/- Layer 1 (natural): shifts. -/
import Derived.Test.YtaedbimbbeploaaGreatNatDiv
set_option linter.unusedSimpArgs false
set_option linter.unusedVariables false

set_option maxRecDepth 100000
set_option maxHeartbeats 8000000
namespace Go.Proofs.YtaedbimbbeploaaGreat
open Go.RowKit
def kbj (w0:World) (g words s:Nat) (E:List Nat) (k:Nat) (wr:World):Prop:=
 ∃ (ys:List Nat) (cy:Nat),Row wr g (List.replicate words 0 ++ ys)/\ys.length=E.length+1/\ve ys/\Hid (ys[k]?=some cy)/\cy < 2 ^ s/\val (ys.take k)+B32 ^ k * cy=val (E.take k) * 2 ^ s/\Ext w0 wr
theorem kbn (u:Value) (ds:List Nat) (n:Nat) (w:World) (h:ja w u ds) (hs:ds.length<=35184371500000) (hn:n<=16777216) :
 Calls Tryz.prog 141 #[u,.int .i64 (n:Nat)] w (zao (val ds * 2 ^ n) w):=by
 have hls:(dg (val ds)).length<=ds.length:=jd h.digs;go_enter Tryz.func141,Tryz.ntmps141;go_wp2_with fail;refine (wu u ds _ h).mono ?_;rintro e w' ⟨u',rfl,hu,rfl⟩;obtain ⟨A,c,rfl,h1,h2,h3⟩:=hu;have G5:=Lib.hid h3;have HVD:=Lib.hid (je (val ds));clear h3 h;generalize hE:dg (val ds)=E at *;have HE:=Lib.hid hE;clear hE;obtain ⟨words,s,hs1,hnw⟩:∃ words s:Nat,s < 32/\n=32 * words+s:=⟨n / 32,n % 32,by omega,by omega⟩;have HNW:=Lib.hid hnw;have e1:(n:Int) / 32=words:=by omega
 have e2:(n:Int) % 32=s:=by omega
 have hw1:32 * words+s<=16777216:=by omega
 have hmk:=fun W=>jy ((words:Int)+E.length+1) (by omega) (by omega) W
 clear hnw
 by_cases h0:E.length=0
 · have h0b:((E.length:Int) == 0)=true:=beq_iff_eq.2 (by omega);have HV:Hid (val ds=0):=by
    have:=HVD.out;rw [List.eq_nil_of_length_eq_zero h0] at this;exact this.symm
   clear h0 hmk e1 e2;go_wp2_with fail;go_ret;exact ⟨_,rfl,by rw [HV.out,Nat.zero_mul,jm]; exact ja.nil w,Ext.refl w⟩
 · have h0b:((E.length:Int) == 0)=false:=beq_eq_false_iff_ne.2 (by omega);go_wp2_with fail;have HINV:Hid (kbj w w.heap.size words s E 0 (w.alloc (Obj.cells (jr (List.replicate (words+E.length+1) 0)).toArray 62))):=by
    refine ⟨List.replicate (E.length+1) 0,0,?_,by simp,ve.replicate _,Lib.hid (by simp),Nat.pow_pos (by omega),by simp,(Ext.refl _).alloc _⟩;have:=Row.new w (List.replicate (words+E.length+1) 0);rw [Nat.add_assoc,<- List.replicate_append_replicate] at this;rw [Nat.add_assoc,<- List.replicate_append_replicate];exact this
   have hbl:words+E.length+1 - words=E.length+1:=by omega
   rw [hbl];clear hbl e1 e2 hmk
   go_loopw [36] (fun iv wr=>∃ k:Nat,k<=E.length/\iv=.int .i64 k/\Hid (kbj w w.heap.size words s E k wr)) (fun iv _=>E.length - (intOf iv).toNat)
   case atStart=>exact ⟨0,by omega,rfl,HINV⟩
   case round =>
    clear HINV;obtain ⟨k,hk,rfl,HI⟩:=hrel;obtain ⟨ys,cy,hrow,hyl,hyd,HCY,hcy,hval,hext⟩:=HI.out
    by_cases hlt:k < E.length
    · obtain ⟨ad,x,rfl,hb,hcell,hx1,HX⟩:=(G5.out.ext hext).get_ k hlt;have hc1:wr.cell? ⟨w.heap.size,words+k,none⟩=some (.int .u32 (cy:Nat)):=by
       rw [hrow.cell (words+k) (by simp; omega)];have:=HCY.out;rw [List.getElem_append_right (by simp)];simp at this ⊢;obtain ⟨_,h⟩:=List.getElem?_eq_some_iff.1 this;rw [h]
      have hc2:wr.frozen? ⟨w.heap.size,words+k,none⟩=false:=hrow.frozen _;obtain ⟨z,hz1,hz2,_⟩:=hrow.get_ (words+(k+1)) (by simp; omega);have hxe:=jf HX;have hp31:2 ^ s<=2147483648:=Nat.pow_le_pow_right (n:=2) (by omega) (show s<=31 by omega);have hpd:∃ q,4294967296=2 ^ s * q:=⟨2 ^ (32 - s),by rw [<- Nat.pow_add,show s+(32 - s)=32 from by omega]⟩;have hp0:x * 2 ^ s<=4294967295 * 2147483648:=Nat.mul_le_mul (by omega) hp31;have hi0:(0:Int)<=(x:Int) * 2 ^ s:=by (have:(x:Int) * 2 ^ s=((x * 2 ^ s:Nat):Int):=by simp); omega
      have hi1:(x:Int) * 2 ^ s<=4294967295 * 2147483648:=by (have:(x:Int) * 2 ^ s=((x * 2 ^ s:Nat):Int):=by simp); omega
      obtain ⟨q,hq⟩:=hpd;have hlow:x * 2 ^ s % 4294967296 % 2 ^ s=0:=by
       rw [hq,Nat.mod_mul_right_mod,Nat.mul_mod_left]
      have hlow2:x * 2 ^ s % 4294967296+cy < 4294967296:=by
       have h1:x * 2 ^ s % 4294967296 < 2 ^ s * q:=by rw [<- hq]; exact Nat.mod_lt _ (by omega)
       obtain ⟨m,hm⟩:=Nat.dvd_of_mod_eq_zero hlow;rw [hm] at h1 ⊢;have h2:=Nat.lt_of_mul_lt_mul_left h1;have h3:2 ^ s * (m+1)<=2 ^ s * q:=Nat.mul_le_mul_left _ h2;rw [Nat.mul_add,Nat.mul_one] at h3;omega
      have hor:bits .or .u32 (cy:Int) ((x:Int) * 2 ^ s % 4294967296)=((x * 2 ^ s % B32+cy:Nat):Int):=by
       have e:(x:Int) * 2 ^ s % 4294967296=((x * 2 ^ s % 4294967296:Nat):Int):=by simp
       rw [e,u32_or_nat _ _ (by omega) (by omega),Nat.or_comm,nat_join s _ _ hlow hcy,yf]
      have HS:Hid (kbj w w.heap.size words s E (k+1) ((wr.setCell ⟨w.heap.size,words+k,none⟩ (.int .u32 ((x * 2 ^ s % B32+cy:Nat):Int))).setCell ⟨w.heap.size,words+(k+1),none⟩ (.int .u32 ((x * 2 ^ s / B32:Nat):Int)))):=by
       have r1:=(hrow.set_ (words+k) (x * 2 ^ s % B32+cy)).set_ (words+(k+1)) (x * 2 ^ s / B32);rw [List.set_append_right _ _ (by simp),List.set_append_right _ _ (by simp),List.length_replicate,Nat.add_sub_cancel_left,Nat.add_sub_cancel_left] at r1;refine ⟨_,x * 2 ^ s / B32,r1,by rw [List.length_set,List.length_set,hyl],(hyd.set _ _ (by rw [yf]; exact hlow2)).set _ _ (by rw [yf]; omega),Lib.hid (by rw [List.getElem?_set_self (by rw [List.length_set]; omega)]),?_,?_,(hext.setCell (by simp) _).setCell (by simp) _⟩
       · rw [yf];exact Nat.div_lt_of_lt_mul (Nat.mul_lt_mul_of_pos_right hx1 (Nat.pow_pos (by omega)))
       · rw [List.take_set_of_le (Nat.le_refl _),uw ys k _ (by omega),uad,List.length_take,Nat.min_eq_left (by omega),hxe,Nat.add_mul,Nat.pow_succ,<- hval];have e:=Nat.mod_add_div (x * 2 ^ s) B32;have e2:B32 ^ k * (x * 2 ^ s)=B32 ^ k * (x * 2 ^ s % B32)+B32 ^ k * B32 * (x * 2 ^ s / B32):=by
          rw [Nat.mul_assoc (B32 ^ k) B32,<- Nat.mul_add,e]
         rw [Nat.mul_assoc (B32 ^ k) x,e2,Nat.mul_add];omega
      have he:(x:Int) * 2 ^ s / 4294967296=((x * 2 ^ s / B32:Nat):Int):=by rw [yf]; simp
      have HEE:=Lib.hid he;have hbd:(x:Int) * 2 ^ s / 4294967296 < 4294967296:=by omega
      clear HI hrow hyl hyd HCY hval hext hxe hq hlow he;go_wp2_with fail
      go_roundw
      case rel =>
       refine ⟨k+1,by omega,by go_num,?_⟩;rw [HEE.out,show ((x:Int) * 2 ^ s % B32+cy)=((x * 2 ^ s % B32+cy:Nat):Int) from by simp];exact HS
      case measure=>simp [intOf]; omega
    · obtain rfl:k=E.length:=by omega
      have hyt:ys=ys.take E.length ++ [cy]:=by
       obtain ⟨h,e⟩:=List.getElem?_eq_some_iff.1 HCY.out;have:=vau ys E.length h;rw [List.take_of_length_le (by omega),e] at this;exact this
      have hvy:val ys=val ds * 2 ^ s:=by
       rw [hyt,uad,List.length_take,Nat.min_eq_left (by omega),hval,List.take_of_length_le (Nat.le_refl _),HVD.out]
      have HV:Hid (val (List.replicate words 0 ++ ys)=val ds * 2 ^ n):=by
       have:val (List.replicate words 0 ++ ys)=val ds * 2 ^ n:=by
        rw [val_append,uaa,List.length_replicate,Nat.zero_add,hvy,HNW.out,show B32=2 ^ 32 from rfl,<- Nat.pow_mul,Nat.pow_add,Nat.mul_left_comm]
       exact this
      have HN:Hid (ja wr (.slice (some ⟨w.heap.size,0,none⟩) (words+E.length+1) (words+E.length+1)) (List.replicate words 0 ++ ys)):=
       hrow.natVn ((ve.replicate _).append hyd) _ _ (by simp; omega) (Nat.le_refl _) (by omega)
      have HX:=Lib.hid hext;clear HI hrow hyl hyd HCY hval hext hyt hvy;go_wp2_with fail;refine (wu _ _ _ HN.out).mono ?_;rintro e w' ⟨v',rfl,hv,rfl⟩;rw [HV.out] at hv;have HV2:=Lib.hid hv;clear hv;go_wp2_with fail;go_ret;exact ⟨v',rfl,HV2.out,HX.out⟩
end Go.Proofs.YtaedbimbbeploaaGreat
