/- Layer 1 (natural): products, digit by digit. -/
import Derived.Test.YtopddaabiinboaaGreatMp0
set_option linter.unusedSimpArgs false
set_option linter.unusedVariables false
set_option maxRecDepth 100000
set_option maxHeartbeats 8000000
namespace Go.Proofs.YtopddaabiinboaaGreat
open Go.RowKit
def vg1 (l n:Nat) (w:World) (e:Ending) (w':World):Prop:=∃ v zs,e=.returned v/\vc2 w' v zs/\zs.length=l/\val zs=n/\wc6 w.heap.size v/\Ext w w'
def khl (w0:World) (g:Nat) (ds es:List Nat) (i:Nat) (wr:World):Prop:=
 ∃ zs:List Nat,Row wr g zs/\zs.length=ds.length+es.length/\uc3 zs/\val (zs.take (i+es.length))=val (ds.take i) * val es/\zs.drop (i+es.length)=List.replicate (ds.length - i) 0/\Ext w0 wr
def vhl (w0:World) (g:Nat) (z0:List Nat) (i x:Nat) (es:List Nat) (j:Nat) (c:Nat) (wr:World):Prop:=
 ∃ zs:List Nat,Row wr g zs/\zs.length=z0.length/\uc3 zs/\val (zs.take (i+j))+B32 ^ (i+j) * c=val (z0.take (i+j))+B32 ^ i * (x * val (es.take j))/\zs.drop (i+j)=z0.drop (i+j)/\Ext w0 wr
theorem qir (Z Z0 P Q c x y r E s:Nat) (hz:Z+P * Q * c=Z0+P * (x * E)) (hs:s=x * y+r+c) :
 (Z+P * Q * (s % B32))+P * Q * B32 * (s / B32)=(Z0+P * Q * r)+P * (x * (E+Q * y)):=by
 have e:P * Q * (s % B32)+P * Q * B32 * (s / B32)=P * Q * s:=by rw [Nat.mul_assoc (P * Q),<- Nat.mul_add,Nat.mod_add_div]
 have e2:P * Q * s=P * Q * (x * y)+P * Q * r+P * Q * c:=by rw [hs,Nat.mul_add,Nat.mul_add]
 have e3:P * (x * (E+Q * y))=P * (x * E)+P * Q * (x * y):=by
  rw [Nat.mul_add,Nat.mul_add,Nat.mul_left_comm x Q y,Nat.mul_assoc P Q]
 omega
theorem vhl.step {w0 wr : World} {g : Nat} {z0 es zs : List Nat} {i x j c y r d c' : Nat} (hr : Row wr g zs) (hl : zs.length = z0.length) (hd : uc3 zs)
 (he:val (zs.take (i+j))+B32 ^ (i+j) * c=val (z0.take (i+j))+B32 ^ i * (x * val (es.take j))) (hdr:zs.drop (i+j)=z0.drop (i+j)) (hx:Ext w0 wr)
 (hg:w0.heap.size<=g) (hlt:i+j < zs.length) (hrd:Hid (zs[i+j]?=some r)) (hy:Hid (es[j]?=some y)) (hd1:d=(x * y+r+c) % B32) (hc1:c'=(x * y+r+c) / B32) :
 vhl w0 g z0 i x es (j+1) c' (wr.setCell ⟨g,i+j,none⟩ (.int .u32 (d:Int))):=by
 refine ⟨zs.set (i+j) d,hr.set_ _ _,by rw [List.length_set,hl],hd.set _ _ (by rw [hd1]; exact Nat.mod_lt _ zc5),?_,?_,hx.setCell (by simpa using hg) _⟩
 · have hr0:Hid (z0[i+j]?=some r):=by
    have h1:=hrd.out;have h2:zs[i+j]?=(zs.drop (i+j))[0]?:=by rw [List.getElem?_drop]; simp
    have h3:z0[i+j]?=(z0.drop (i+j))[0]?:=by rw [List.getElem?_drop]; simp
    rw [h2,hdr,<- h3] at h1;exact h1
   rw [show i+(j+1)=(i+j)+1 from by omega,yda zs (i+j) d hlt,wdf,List.length_take,Nat.min_eq_left (by omega),wc3 hr0,wc3 hy,Nat.pow_succ,Nat.pow_add];rw [Nat.pow_add] at he;rw [hd1,hc1];exact qir _ _ _ _ _ _ _ _ _ _ he rfl
 · rw [show i+(j+1)=(i+j)+1 from by omega,<- List.drop_drop (i:=1) (j:=i+j),<- List.drop_drop (i:=1) (j:=i+j),<- hdr,List.drop_set];rw [if_neg (by omega),Nat.sub_self,List.drop_drop];rcases hq:zs.drop (i+j) with _ | ⟨a,q⟩
   · have:=congrArg List.length hq; simp at this; omega
   · rw [<- List.drop_drop,hq]; rfl
theorem whl (u v:Value) (ds es:List Nat) (w:World) (h:vc2 w u ds) (k:vc2 w v es) (hs:ds.length+es.length<=35184372088000) :
 Calls Tryz.prog 175 #[u,v] w (vg1 (ds.length+es.length) (val ds * val es) w):=by
 obtain ⟨A,c,rfl,h1,h2,h3⟩:=h;obtain ⟨A',c',rfl,h1',h2',h3'⟩:=k;have G5:=Lib.hid h3;have G6:=Lib.hid h3';clear h3 h3';have hmk:=fun W=>gda ((ds.length:Int)+es.length) (by omega) (by omega) W
 go_enter Tryz.func175,Tryz.ntmps175;go_wp2_with fail
 have hinv:khl w w.heap.size ds es 0 (w.alloc (Obj.cells (jc8 (List.replicate (ds.length+es.length) 0)).toArray 61)):=
  ⟨List.replicate (ds.length+es.length) 0,Row.new w _,by simp,uc3.replicate _,by simp [jdc],by simp,(Ext.refl _).alloc _⟩
 have HINV:=Lib.hid hinv;clear hinv
 go_loopw [23] (fun i wr=>∃ k:Nat,k<=ds.length/\i=.int .i64 k/\Hid (khl w w.heap.size ds es k wr)) (fun i _=>ds.length - (intOf i).toNat)
 case atStart=>exact ⟨0,by omega,rfl,HINV⟩
 case round =>
  clear HINV;obtain ⟨i,hi,rfl,HI⟩:=hrel
  by_cases hlt:i < ds.length
  · obtain ⟨zs,hrow,hzl,hzd,hval,hzero,hext⟩:=HI.out;obtain ⟨ad,x,rfl,hb,hcell,hx1,HX⟩:=(G5.out.ext hext).get_ i hlt
    by_cases hx0:x=0
    · have HS:Hid (khl w w.heap.size ds es (i+1) wr):=by
       refine ⟨zs,hrow,hzl,hzd,?_,?_,hext⟩
       · have hz:Hid (zs[i+es.length]?=some 0):=by
          have h2:zs[i+es.length]?=(zs.drop (i+es.length))[0]?:=by rw [List.getElem?_drop]; simp
          have:zs[i+es.length]?=some 0:=by
           rw [h2,hzero];simp [List.getElem?_replicate]; omega
          exact this
         rw [show i+1+es.length=(i+es.length)+1 from by omega,wc3 hz,hval,wc3 HX,hx0];simp
       · rw [show i+1+es.length=(i+es.length)+1 from by omega,<- List.drop_drop (i:=1) (j:=i+es.length),hzero];simp; omega
      subst hx0;clear HI hrow hzl hzd hval hzero hext;go_wp2_with fail
      go_roundw
      case rel=>exact ⟨i+1,by omega,by go_num,HS⟩
      case measure=>simp [intOf]; omega
    · have hcap:¬ (ds.length+es.length=i):=by omega
      have hxb:((x:Int) == 0)=false:=by simp; omega
      have hin:vhl w w.heap.size zs i x es 0 0 wr:=⟨zs,hrow,rfl,hzd,by simp,rfl,hext⟩;have HIN:=Lib.hid hin;have HVAL:=Lib.hid hval;have HZERO:=Lib.hid hzero;have HZL:=Lib.hid hzl;clear HI hrow hzl hzd hval hzero hext hin;go_wp2_with fail;obtain ⟨wo,rfl⟩:∃ wo:World,wo=wr:=⟨_,rfl⟩
      go_loopw [9,35] (fun cv jv wq=>∃ j cc:Nat,j<=es.length/\jv=.int .i64 j/\cv=.int .u32 cc/\cc < 4294967296/\Hid (vhl w w.heap.size zs i x es j cc wq)) (fun _ jv _=>es.length - (intOf jv).toNat)
      case atStart=>exact ⟨0,0,by omega,rfl,rfl,by omega,HIN⟩
      case round =>
       clear HIN;obtain ⟨j,cc,hj,rfl,rfl,hcc,HJ⟩:=hrel;obtain ⟨ys,hrow,hyl,hyd,hval,hdr,hext⟩:=HJ.out;have hyl2:ys.length=ds.length+es.length:=hyl.trans HZL.out
       by_cases hjl:j < es.length
       · obtain ⟨ad',y,rfl,hb',hcell',hy1,HY⟩:=(G6.out.ext hext).get_ j hjl;obtain ⟨r,hrc,hrf,HR⟩:=hrow.get_ (i+j) (by omega);have hr1:r < 4294967296:=hyd _ (List.mem_of_getElem? HR.out);have hp0:(0:Int)<=x * y:=Int.mul_nonneg (by omega) (by omega);have hp1:(x:Int) * y<=4294967295 * 4294967295:=Int.mul_le_mul (by omega) (by omega) (by omega) (by omega);have HS:=fun d c'=>vhl.step (d:=d) (c':=c') hrow hyl hyd hval hdr hext (Nat.le_refl _) (by omega) HR HY
         have HS2:=Lib.hid HS;clear HJ hrow hyl hyd hval hdr hext hyl2 HS
         go_wp2_with (first
          | (go_at_call 219; refine (uh9 _ _ _ (by omega) (by omega) (by omega) (by omega)).mono ?_; rintro e w' ⟨rfl,rfl⟩)
          | (go_at_call 169; refine (add32 _ _ 0 _ (by omega) (by omega) (by omega) (by omega) (by omega) (by omega)).mono ?_; rintro e w' ⟨rfl,rfl⟩))
         go_roundw
         case rel =>
          have e1:(x:Int) * y=((x * y:Nat):Int):=by simp
          have hcc':(x * y+r+cc) / B32 < 4294967296:=by
           rw [gc3]; rw [e1] at hp1; omega
          refine ⟨j+1,(x * y+r+cc) / B32,by omega,by go_num,?_,hcc',?_⟩
          · rw [e1,gc3]; congr 1; omega
          · have:=HS2.out _ _ rfl rfl;rw [e1,show ((((x * y:Nat):Int)+r+cc) % 4294967296)=(((x * y+r+cc) % B32:Nat):Int) from by rw [gc3]; omega];exact this
         case measure=>simp [intOf]; omega
       · obtain rfl:j=es.length:=by omega
         obtain ⟨r,hrc,hrf,HR⟩:=hrow.get_ (i+es.length) (by omega);have HS:Hid (khl w w.heap.size ds es (i+1) (wr.setCell ⟨w.heap.size,i+es.length,none⟩ (.int .u32 (cc:Int)))):=by
          refine ⟨ys.set (i+es.length) cc,hrow.set_ _ _,by rw [List.length_set]; exact hyl2,hyd.set _ _ (by rw [gc3]; exact hcc),?_,?_,hext.setCell (by simp) _⟩
          · rw [show i+1+es.length=(i+es.length)+1 from by omega,yda ys _ _ (by omega),wdf,List.length_take,Nat.min_eq_left (by omega),hval,HVAL.out,wc3 HX,
             List.take_of_length_le (Nat.le_refl _),Nat.add_mul,Nat.mul_assoc]
          · rw [show i+1+es.length=(i+es.length)+1 from by omega,<- List.drop_drop (i:=1) (j:=i+es.length),List.drop_set,if_neg (by omega),Nat.sub_self,hdr,HZERO.out];obtain ⟨q,hq⟩:∃ q,ds.length - i=q+1:=⟨ds.length - i - 1,by omega⟩;rw [hq,List.replicate_succ,show ds.length - (i+1)=q from by omega]
            rfl
         clear HJ hrow hyl hyd hval hdr hext hyl2;go_wp2_with fail
         go_roundw
         case rel=>exact ⟨i+1,by omega,by go_num,HS⟩
         case measure=>simp [intOf]; omega
  · obtain rfl:i=ds.length:=by omega
    obtain ⟨zs,hrow,hzl,hzd,hval,hzero,hext⟩:=HI.out;have HN:Hid (vc2 wr (.slice (some ⟨w.heap.size,0,none⟩) (ds.length+es.length) (ds.length+es.length)) zs):=by
     have:=hrow.natV hzd (ds.length+es.length) (by omega) (by omega);rw [hzl] at this;exact this
    have HV:Hid (val zs=val ds * val es):=by
     have:=hval;rw [List.take_of_length_le (by omega),List.take_of_length_le (by omega)] at this;exact this
    have HL:=Lib.hid hzl;have HX:=Lib.hid hext;clear HI hrow hzl hzd hval hzero hext;go_wp2_with fail;go_ret;exact ⟨_,zs,rfl,HN.out,HL.out,HV.out,wc6.mk _ _ _ _ (Nat.le_refl _),HX.out⟩
/- Layer 1 (natural): adding into digits, the only function that writes into what it is given. -/
set_option maxRecDepth 100000
set_option maxHeartbeats 8000000
def zgz (w0:World) (g off:Nat) (zs xs:List Nat) (k c:Nat) (wr:World):Prop:=
 ∃ ys:List Nat,Row wr g ys/\ys.length=zs.length/\uc3 ys/\ys.take off=zs.take off/\ys.drop (off+k)=zs.drop (off+k) /\
   val ((ys.drop off).take k)+B32 ^ k * c=val ((zs.drop off).take k)+val (xs.take k)/\Only g w0 wr
theorem zgz.step {w0 wr : World} {g off : Nat} {zs xs ys : List Nat} {k c r y d c' : Nat} (hr : Row wr g ys) (hl : ys.length = zs.length) (hd : uc3 ys) (ht : ys.take off = zs.take off)
 (hdr:ys.drop (off+k)=zs.drop (off+k)) (he:val ((ys.drop off).take k)+B32 ^ k * c=val ((zs.drop off).take k)+val (xs.take k)) (ho:Only g w0 wr)
 (hlt:off+k < ys.length) (hrd:Hid (ys[off+k]?=some r)) (hy:val (xs.take (k+1))=val (xs.take k)+B32 ^ k * y) (hd1:d=(r+y+c) % B32) (hc1:c'=(r+y+c) / B32) :
 zgz w0 g off zs xs (k+1) c' (wr.setCell ⟨g,off+k,none⟩ (.int .u32 (d:Int))):=by
 have hr0:Hid ((zs.drop off)[k]?=some r):=by
  have h1:=hrd.out;have h2:ys[off+k]?=(ys.drop (off+k))[0]?:=by rw [List.getElem?_drop]; simp
  have h3:(zs.drop off)[k]?=(zs.drop (off+k))[0]?:=by rw [List.getElem?_drop,List.getElem?_drop]; simp
  rw [h2,hdr,<- h3] at h1;exact h1
 refine ⟨ys.set (off+k) d,hr.set_ _ _,by rw [List.length_set,hl],hd.set _ _ (by rw [hd1]; exact Nat.mod_lt _ zc5),?_,?_,?_,ho.setCell _ _⟩
 · rw [List.take_set_of_le (by omega),ht]
 · rw [show off+(k+1)=(off+k)+1 from by omega,<- List.drop_drop (i:=1) (j:=off+k),<- List.drop_drop (i:=1) (j:=off+k),<- hdr,List.drop_set,if_neg (by omega),Nat.sub_self];rcases hq:ys.drop (off+k) with _ | ⟨a,q⟩
   · rfl
   · rfl
 · have hlk:k < (ys.drop off).length:=by rw [List.length_drop]; omega
   rw [List.drop_set,if_neg (by omega),Nat.add_sub_cancel_left,yda _ _ _ hlk,wdf,List.length_take,Nat.min_eq_left (by omega),wc3 hr0,hy,Nat.pow_succ,hd1,hc1];exact vhs _ _ _ _ _ _ _ _ he rfl
def gh6 (g off:Nat) (zs:List Nat) (n:Nat) (w:World) (e:Ending) (w':World):Prop:=
 ∃ ys:List Nat,e=.returned (.tuple #[])/\Row w' g ys/\ys.length=zs.length/\uc3 ys/\ys.take off=zs.take off/\val (ys.drop off)=n/\Only g w w'
theorem xhg (g off zl zc : Nat) (zs xs : List Nat) (X : Option Addr) (xc : Nat) (w : World) (hrow : Row w g zs) (hzd : uc3 zs) (hzl : zs.length = off + zl) (hzc : zl <= zc) (hzc' : zc <= 35184372088832)
 (hx:wc4 w X xs) (hxa:∀ ad,X=some ad->ad.block ≠ g) (hlx:xs.length<=zl) (hxc:xs.length<=xc) (hxc':xc<=9223372036854775807) (hfit:val (zs.drop off)+val xs < B32 ^ zl) :
 Calls Tryz.prog 176 #[.slice (some ⟨g,off,none⟩) zl zc,.slice X xs.length xc] w (gh6 g off zs (val (zs.drop off)+val xs) w):=by
 have HINV:Hid (zgz w g off zs xs 0 0 w):=⟨zs,hrow,rfl,hzd,rfl,rfl,by simp,Only.refl _ _⟩;have HX:=Lib.hid hx;have HXA:=Lib.hid hxa;have HFIT:=Lib.hid hfit;have HZL:=Lib.hid hzl;clear hx hxa hfit hrow hzd hzl;go_enter Tryz.func176,Tryz.ntmps176;go_wp2_with fail
 go_loopw [4,10] (fun cv iv wr=>∃ k c:Nat,k<=xs.length/\iv=.int .i64 k/\cv=.int .u32 c/\c<=1/\Hid (zgz w g off zs xs k c wr)) (fun _ iv _=>xs.length - (intOf iv).toNat)
 case atStart=>exact ⟨0,0,by omega,rfl,rfl,by omega,HINV⟩
 case round =>
  clear HINV;obtain ⟨k,c,hk,rfl,rfl,hc1,HI⟩:=hrel
  by_cases hlt:k < xs.length
  · obtain ⟨ys,hrow,hyl,hyd,htk,hdr,hsum,honly⟩:=HI.out;have hlen:off+k < ys.length:=by have:=HZL.out; omega
    obtain ⟨ad,y,rfl,hb,hcell,hy1,HY⟩:=(HX.out.only honly HXA.out).get_ k hlt;obtain ⟨r,hrc,hrf,HR⟩:=hrow.get_ (off+k) hlen;have hr1:r < 4294967296:=hyd _ (List.mem_of_getElem? HR.out);have HS:=Lib.hid (fun d c'=>zgz.step (d:=d) (c':=c') hrow hyl hyd htk hdr hsum honly hlen HR (wc3 HY));clear HI hrow hyl hyd htk hdr hsum honly hlen;go_wp2_with (go_at_call 169; refine (add32 _ _ _ _ (by omega) (by omega) (by omega) (by omega) (by omega) (by omega)).mono ?_; rintro e w' ⟨rfl,rfl⟩)
    go_roundw
    case rel =>
     refine ⟨k+1,(r+y+c) / B32,by omega,by go_num,by rw [gc3]; congr 1,by rw [gc3]; omega,?_⟩;have:=HS.out _ _ rfl rfl;rw [show (((r:Int)+y+c) % 4294967296)=(((r+y+c) % B32:Nat):Int) from by rw [gc3]; omega];exact this
    case measure=>simp [intOf]; omega
  · obtain rfl:k=xs.length:=by omega
    go_wp2_with fail
    go_loopw [4,7] (fun cv iv wr=>∃ k c:Nat,xs.length<=k/\k<=zl/\iv=.int .i64 k/\cv=.int .u32 c/\c<=1/\Hid (zgz w g off zs xs k c wr)) (fun _ iv _=>zl - (intOf iv).toNat)
    case atStart=>exact ⟨xs.length,c,Nat.le_refl _,hlx,rfl,rfl,hc1,HI⟩
    case round =>
     clear HI hc1;obtain ⟨k,c,hk0,hk,rfl,rfl,hc1,HI⟩:=hrel;obtain ⟨ys,hrow,hyl,hyd,htk,hdr,hsum,honly⟩:=HI.out;have hdone:c=0->gh6 g off zs (val (zs.drop off)+val xs) w (.returned (.tuple #[])) wr:=by
      intro hc0;refine ⟨ys,rfl,hrow,hyl,hyd,htk,?_,honly⟩;have hl2:k<=(ys.drop off).length:=by rw [List.length_drop]; have:=HZL.out; omega
      have hl3:k<=(zs.drop off).length:=by rw [List.length_drop]; have:=HZL.out; omega
      have e1:=wc5 (ys.drop off) k hl2;have e2:=wc5 (zs.drop off) k hl3;rw [List.drop_drop] at e1 e2;rw [hc0,Nat.mul_zero,Nat.add_zero,List.take_of_length_le hk0] at hsum;rw [e1,e2,hdr,hsum];omega
     by_cases hc0:c=0
     · have HD:=Lib.hid (hdone hc0);have hcb:((c:Int) != 0)=false:=by simp [hc0]
       clear HI hrow hyl hyd htk hdr hsum honly hdone;subst hc0;go_wp2_with fail
       go_end0
       exact HD.out
     · obtain rfl:c=1:=by omega
       have hklt:k < zl:=by
        rcases Nat.lt_or_ge k zl with h | h
        · exact h
        · exfalso
          obtain rfl:k=zl:=by omega
          have hb:=HFIT.out;have hzl:=HZL.out;rw [Nat.mul_one,List.take_of_length_le (by rw [List.length_drop]; omega),List.take_of_length_le (by rw [List.length_drop]; omega),List.take_of_length_le hk0] at hsum;omega
       have hlen:off+k < ys.length:=by have:=HZL.out; omega
       obtain ⟨r,hrc,hrf,HR⟩:=hrow.get_ (off+k) hlen;have hr1:r < 4294967296:=hyd _ (List.mem_of_getElem? HR.out);have HS:=Lib.hid (fun d c'=>zgz.step (d:=d) (c':=c') hrow hyl hyd htk hdr hsum honly hlen HR (zg0 hk0));clear HI hrow hyl hyd htk hdr hsum honly hlen hdone;go_wp2_with (go_at_call 169; refine (add32 _ 0 _ _ (by omega) (by omega) (by omega) (by omega) (by omega) (by omega)).mono ?_; rintro e w' ⟨rfl,rfl⟩)
       go_roundw
       case rel =>
        refine ⟨k+1,(r+0+1) / B32,by omega,by omega,by go_num,by rw [gc3]; congr 1,by rw [gc3]; omega,?_⟩;have:=HS.out _ _ rfl rfl;rw [show (((r:Int)+1) % 4294967296)=(((r+0+1) % B32:Nat):Int) from by rw [gc3]; omega];exact this
       case measure=>simp [intOf]; omega
/- Layer 1 (natural): copying digits; the product, divided into three. -/
theorem Only.setRow {g:Nat} (w:World) (cs:Array Value):Only g w (w.setRow g cs):=
 ⟨rfl,rfl,rfl,by simp [World.setRow],fun i _ hne=>setRow_other w g i cs (fun e=>hne (by rw [e]))⟩
theorem ygt {w : World} {ops : Array Oper} {rest : List Oper} {o : Oper} {a : Act} {Q : Exit -> Act -> World -> Prop} (hgd : o.guard = none) (d s : Operand)
 (ho:o.op=.call { callee:=.builtin .copy,args:=#[d,s],argTypes:=#[25,25] })
 (g off dLen dCap:Nat) (S:Option Addr) (sCap:Nat) (xs zs:List Nat) (hd:a.eval d=.slice (some ⟨g,off,none⟩) dLen dCap) (hs:a.eval s=.slice S xs.length sCap)
 (hrow:Row w g zs) (hx:wc4 w S xs) (hle:xs.length<=dLen) (hfit:off+xs.length<=zs.length)
 (h:∀ w',Row w' g (zs.take off ++ (xs ++ zs.drop (off+xs.length)))->Only g w w'->wpList Tryz.prog ops Q rest (a.put o.dst (goInt xs.length)) w'):wpList Tryz.prog ops Q (o :: rest) a w:=by
 by_cases h0:xs.length=0
 · have hxs:xs=[]:=List.eq_nil_of_length_eq_zero h0;subst hxs;refine wpList_copy_nothing hgd d s _ _ ho 61 Tryz.underlying25 vhg _ _ _ _ _ _ hd hs (by simp) ?_;exact h w (by simpa using hrow) (Only.refl _ _)
 · obtain ⟨ad,e,hb,hc⟩:=hx.2 (by omega);subst e
   have hcopy := wpList_copy_own (P := Tryz.prog) (w := w) (ops := ops) (rest := rest) (o := o) (a := a) (Q := Q) hgd d s _ _ ho 61 Tryz.underlying25 vhg g off dLen dCap ad xs.length sCap hd hs
    (jc8 zs).toArray 61 hrow (jc8 xs) (by rw [uda]; exact (Nat.min_eq_left hle).symm)
    (fun j v hj=>by
      have hjl:j < xs.length:=by
       rcases Nat.lt_or_ge j xs.length with hj' | hj'
       · exact hj'
       · rw [List.getElem?_eq_none (by rw [uda]; exact hj')] at hj; cases hj
      rw [gg6 xs j hjl] at hj
      rw [hc j hjl,hj])
    (by rw [uda]; simpa [uda] using hfit) (ghr xs)
   apply hcopy;rw [uda];refine h _ ?_ (Only.setRow _ _);have:=setRow_heap w g _ ((jc8 zs).toArray.toList.take off ++ (jc8 xs ++ (jc8 zs).toArray.toList.drop (off+xs.length))).toArray 61 _ hrow;unfold Row;rw [this];simp [jc8]
theorem wc4.natTake {w:World} {A:Option Addr} {ds:List Nat} (h:wc4 w A ds) (k c:Nat) (hk:k<=ds.length) (hc:ds.length<=c) (hc':c<=9223372036854775807):vc2 w (.slice A k c) (ds.take k):=
 ⟨A,c,by rw [List.length_take,Nat.min_eq_left hk],by rw [List.length_take]; omega,hc',h.take k⟩
theorem wc4.natDrop {w:World} {ad:Addr} {ds:List Nat} (h:wc4 w (some ad) ds) (k c:Nat) (hk:k < ds.length) (hc:ds.length<=c) (hc':c<=9223372036854775807) :
 vc2 w (.slice (some (ad.add k)) (ds.length - k) (c - k)) (ds.drop k):=by
 have:=h.drop k c (by omega) hc;rw [if_neg (by omega)] at this;exact ⟨_,c - k,by rw [List.length_drop]; rfl,by rw [List.length_drop]; omega,by omega,this⟩
def ug1 (W w':World) (v:Value) (l n:Nat):Prop:=∃ zs,vc2 w' v zs/\zs.length=l/\val zs=n/\wc6 W.heap.size v/\Ext W w'
theorem ug1.ext {W w' w'':World} {v:Value} {l n:Nat} (h:ug1 W w' v l n) (hx:Ext w' w''):ug1 W w'' v l n:=by
 obtain ⟨zs,h1,h2,h3,h4,h5⟩:=h;exact ⟨zs,h1.ext hx,h2,h3,h4,h5.trans hx⟩
theorem xhh {zs:List Nat} {half L mid total:Nat} (hl:zs.length=L) (hh:half<=L) (he:val zs+B32 ^ half * mid=total) (ht:total < B32 ^ L) :
 val (zs.drop half)+mid < B32 ^ (L - half):=by
 have e:=wc5 zs half (by omega);have e2:B32 ^ L=B32 ^ half * B32 ^ (L - half):=by rw [<- Nat.pow_add]; congr 1; omega
 have:B32 ^ half * (val (zs.drop half)+mid) < B32 ^ half * B32 ^ (L - half):=by
  rw [<- e2,Nat.mul_add]; omega
 exact Nat.lt_of_mul_lt_mul_left this
theorem yhx {zs ys : List Nat} {half L mid total : Nat} (hl : zs.length = L) (hl' : ys.length = L) (hh : half <= L) (he : val zs + B32 ^ half * mid = total) (htk : ys.take half = zs.take half)
 (hv:val (ys.drop half)=val (zs.drop half)+mid):val ys=total:=by
 have e:=wc5 zs half (by omega);have e':=wc5 ys half (by omega);rw [e',htk,hv,Nat.mul_add];omega
/- Layer 1 (natural): the product, divided into three. -/
set_option maxRecDepth 100000
set_option maxHeartbeats 8000000
def qi5 (w:World) (m L K:Nat) (s0 s1:Value) (wx:World):Prop:=
 ∃ A c A' c' E F,s0=.slice A E.length c/\s1=.slice A' F.length c'/\F.length<=E.length/\E.length<=c/\c<=9223372036854775807/\F.length<=c'/\c'<=9223372036854775807 /\
   wc4 w A E/\wc4 w A' F/\val E * val F=m/\E.length+F.length=L/\E.length<=K/\wx=w
def ghh (K:Nat):Prop:=∀ (u v:Value) (ds es:List Nat) (w:World),vc2 w u ds->vc2 w v es->ds.length<=K->es.length<=K->ds.length+es.length<=35184372088000 ->
    Calls Tryz.prog 131 #[u,v] w (vg1 (ds.length+es.length) (val ds * val es) w)
theorem zhv (K:Nat) (ih:∀ K',K' < K->ghh K'):ghh K:=by
 intro u v ds es w h k hd1 hd2 hs;have IH:=Lib.hid ih;obtain ⟨A,c,rfl,h1,h2,h3⟩:=h;obtain ⟨A',c',rfl,h1',h2',h3'⟩:=k;have H3:=Lib.hid h3;have H3':=Lib.hid h3';clear h3 h3' ih;go_enter Tryz.func131,Tryz.ntmps131
 go_upto_if 14 with (fail)
 go_cut [0,1] (fun s0 s1 wx=>qi5 w (val ds * val es) (ds.length+es.length) K s0 s1 wx)
 case first =>
  by_cases hlt:ds.length < es.length
  · go_wp2
    go_meet
    exact ⟨_,_,_,_,_,_,rfl,rfl,by omega,h1',h2',h1,h2,H3'.out,H3.out,Nat.mul_comm _ _,by omega,by omega,rfl⟩
  · go_wp2
    go_meet
    exact ⟨_,_,_,_,_,_,rfl,rfl,by omega,h1,h2,h1',h2',H3.out,H3'.out,rfl,rfl,hd1,rfl⟩
 case rest =>
  obtain ⟨A,c,A',c',E,F,rfl,rfl,hFE,g1,g2,g3,g4,g5,g6,g7,g8,g9,rfl⟩:=hcut;have G5:=Lib.hid g5;have G6:=Lib.hid g6;have G7:=Lib.hid g7;have G8:=Lib.hid g8;have hs':E.length+F.length<=35184372088000:=by omega
  clear g5 g6 g7 g8 H3 H3' h1 h2 h1' h2' hd1 hd2 hs
  by_cases hF:F.length < 48
  · go_wp2_with fail;refine (whl _ _ F E _ ⟨A',c',rfl,g3,g4,G6.out⟩ ⟨A,c,rfl,g1,g2,G5.out⟩ (by omega)).mono ?_;rintro e w' ⟨v,zs,rfl,hv1,hv2,hv3,hv4,hv5⟩
    have HR:Hid (vg1 (ds.length+es.length) (val ds * val es) wc (.returned v) w'):=
     ⟨v,zs,rfl,hv1,by rw [hv2]; have:=G8.out; omega,by rw [hv3,Nat.mul_comm]; exact G7.out,hv4,hv5⟩
    clear hv1 hv2 hv3 hv4 hv5;go_wp2_with fail;go_ret;exact HR.out
  · have hmk:=fun W=>gda ((E.length:Int)+F.length) (by omega) (by omega) W
    have HR0:Hid (Row (wc.alloc (Obj.cells (jc8 (List.replicate (E.length+F.length) 0)).toArray 61)) wc.heap.size (List.replicate (E.length+F.length) 0)):=Row.new wc _;have HX0:Hid (Ext wc (wc.alloc (Obj.cells (jc8 (List.replicate (E.length+F.length) 0)).toArray 61))):=(Ext.refl wc).alloc _;have HZ:Hid (val E=0\/val F=0->vg1 (ds.length+es.length) (val ds * val es) wc (.returned (.slice (some ⟨wc.heap.size,0,none⟩) (E.length+F.length) (E.length+F.length))) (wc.alloc (Obj.cells (jc8 (List.replicate (E.length+F.length) 0)).toArray 61))):=by
     intro hz;refine ⟨_,_,rfl,HR0.out.natVn (uc3.replicate _) _ _ (by simp) (Nat.le_refl _) (by omega),by rw [List.length_replicate]; exact G8.out,?_,wc6.mk _ _ _ _ (Nat.le_refl _),HX0.out⟩;rw [jdc,<- G7.out];rcases hz with hz | hz <;> rw [hz] <;> simp
    go_wp2_with fail;refine (qdi _ E _ ⟨A,c,rfl,g1,g2,G5.out.ext HX0.out⟩).mono ?_;rintro e w' ⟨rfl,rfl⟩
    by_cases hz:val E=0
    · have hzb:(val E == 0)=true:=by simp [hz]
      have hz':=Lib.hid hz;clear hz;go_wp2_with fail;go_ret;exact HZ.out (.inl hz'.out)
    · have hzb:(val E == 0)=false:=by simp [hz]
      go_wp2_with fail;refine (qdi _ F _ ⟨A',c',rfl,g3,g4,G6.out.ext HX0.out⟩).mono ?_;rintro e w' ⟨rfl,rfl⟩
      by_cases hz2:val F=0
      · have hzb2:(val F == 0)=true:=by simp [hz2]
        have hz':=Lib.hid hz2;clear hz2;go_wp2_with fail;go_ret;exact HZ.out (.inr hz'.out)
      · have hzb2:(val F == 0)=false:=by simp [hz2]
        clear HZ;obtain ⟨half,hh⟩:∃ half:Nat,half=(E.length+1) / 2:=⟨_,rfl⟩;have hh1:E.length<=2 * half:=by omega
        have hh2:2 * half<=E.length+1:=by omega
        have hhalf:((E.length:Int)+1) / 2=(half:Int):=by omega
        clear hh;obtain ⟨ad,rfl,-,-⟩:=G5.out.2 (by omega);obtain ⟨ad',rfl,-,-⟩:=G6.out.2 (by omega);have b1:(0:Int)<=half:=by omega
        have b2:(half:Int)<=c:=by omega
        have b4:(half:Int)<=E.length:=by omega
        have b6:¬ (c=half):=by omega
        have hb:¬ (E.length+F.length=half):=by omega
        by_cases hFh:F.length<=half
        · have b5:(F.length:Int)<=half:=by omega
          go_wp2_with fail;rw [hhalf];clear hhalf hzb hzb2 hz hz2;generalize hW:wc.alloc (Obj.cells (jc8 (List.replicate (E.length+F.length) 0)).toArray 61)=W at *;have hWs:W.heap.size=wc.heap.size+1:=by rw [<- hW]; simp
          have HWS:=Lib.hid hWs;clear hW hWs;have hl:(E.take half).length=half:=by rw [List.length_take,Nat.min_eq_left (by omega)]
          have Hp:=IH.out half (by omega) _ _ _ _ W ((G5.out.ext HX0.out).natTake half c (by omega) g1 g2) ⟨_,_,rfl,g3,g4,G6.out.ext HX0.out⟩ (by omega) (by omega) (by omega);rw [hl] at Hp;refine Hp.mono ?_;clear Hp hl;rintro e w7 ⟨v7,l7,rfl,p1,p2,p3,p4,p5⟩;obtain ⟨A7,c7,rfl,i1,i2,i3⟩:=p1;have R1':=Lib.hid (HR0.out.ext p5);have X1':=Lib.hid (HX0.out.trans p5);have I3:=Lib.hid i3;have P2:=Lib.hid p2;have P3:=Lib.hid p3;have q1:l7.length<=E.length+F.length:=by omega
          have q2:0+l7.length<=(List.replicate (E.length+F.length) 0).length:=by rw [List.length_replicate]; omega
          have P5:=Lib.hid p5;clear p2 p3 p4 p5 i3
          go_wp2_with (with_reducible refine ygt rfl (.tmp 44) (.tmp 49) rfl wc.heap.size 0 (E.length + F.length) (E.length + F.length) A7 c7 l7 (List.replicate (E.length + F.length) 0) rfl rfl R1'.out I3.out q1 q2 ?_
                       intro wp R2 O2;have R2':=Lib.hid R2;have O2':=Lib.hid O2
                       clear R2 O2)
          go_frame
          have hbA:∀ a,some ad=some a->a.block ≠ wc.heap.size:=fun a e=>by
           obtain ⟨ad2,e2,hb2,-⟩:=G5.out.2 (by omega);injection e with e; injection e2 with e2; subst e; subst e2; omega
          have hbB:∀ a,some ad'=some a->a.block ≠ wc.heap.size:=fun a e=>by
           obtain ⟨ad2,e2,hb2,-⟩:=G6.out.2 (by omega);injection e with e; injection e2 with e2; subst e; subst e2; omega
          have HBA:=Lib.hid hbA;have HBB:=Lib.hid hbB;clear hbA hbB
          have Hhigh : Hid (∀ W', Only wc.heap.size wp W' -> Calls Tryz.prog 131 #[.slice (some (ad.add half)) (E.length - half) (c - half), .slice (some ad') F.length c'] W'
           (fun e w'=>∃ v,e=.returned v/\ug1 W' w' v (E.length - half+F.length) (val (E.drop half) * val F)/\Only wc.heap.size wp w')):=by
           intro W' hx;have hx':=O2'.out.trans hx;refine (IH.out half (by omega) _ _ _ _ W' (((G5.out.ext X1'.out).only hx' HBA.out).natDrop half c (by omega) g1 g2) ⟨_,_,rfl,g3,g4,(G6.out.ext X1'.out).only hx' HBB.out⟩ (by rw [List.length_drop]; omega) (by omega) (by rw [List.length_drop]; omega)).mono ?_;rintro e w' ⟨v,zs,rfl,p1,p2,p3,p4,p5⟩;exact ⟨v,rfl,⟨zs,p1,by rw [p2,List.length_drop],p3,p4,p5⟩,hx.trans (Only.of_ext p5)⟩
          have b8:(half:Int)<=(E.length:Int)+F.length:=by omega
          have b9:(half:Int)<=((E.length+F.length:Nat):Int):=by omega
          have HZ:Hid (Row wp wc.heap.size (l7 ++ List.replicate (E.length+F.length - l7.length) 0)):=by
           have:=R2'.out;rw [List.take_zero,List.nil_append,Nat.zero_add,List.drop_replicate] at this;exact this
          have hEs:=wc5 E half (by omega);have HJ:Hid (val (l7 ++ List.replicate (E.length+F.length - l7.length) 0)+B32 ^ half * (val (E.drop half) * val F)=val E * val F):=by
           have:val (l7 ++ List.replicate (E.length+F.length - l7.length) 0)+B32 ^ half * (val (E.drop half) * val F)=val E * val F:=by
            rw [val_append,jdc,P3.out,hEs,Nat.mul_zero,Nat.add_zero,Nat.add_mul,Nat.mul_assoc]
           exact this
          have HT:Hid (val E * val F < B32 ^ (E.length+F.length)):=by
           have:val E * val F < B32 ^ (E.length+F.length):=by
            rw [Nat.pow_add];exact Nat.mul_lt_mul_of_lt_of_le (gc9 G5.out.1) (Nat.le_of_lt (gc9 G6.out.1)) (Nat.pow_pos zc5)
           exact this
          have HZL:Hid ((l7 ++ List.replicate (E.length+F.length - l7.length) 0).length=E.length+F.length):=by
           have:(l7 ++ List.replicate (E.length+F.length - l7.length) 0).length=E.length+F.length:=by simp; omega
           exact this
          have HZD:Hid (uc3 (l7 ++ List.replicate (E.length+F.length - l7.length) 0)):=I3.out.1.append (uc3.replicate _);clear hEs R2';generalize l7 ++ List.replicate (E.length+F.length - l7.length) 0=Z at *;have hmo:wc.heap.size < wp.heap.size:=HZ.out.lt
          go_region_held3 (fun W' => Only wc.heap.size wp W') (first | exact (Only.refl _ wp).drewN 1 | assumption)
           (first
             | (go_at_call 131; refine (Hhigh.out _ ?_).mono ?_; assumption; rintro e w8 ⟨v8,rfl,P8,x8⟩; have P8':=Lib.hid P8; clear P8)
             | (go_at_call 95; obtain ⟨l8,n8,len8,val8,fr8,xx8⟩:=P8'.out; refine (yha _ _ _ _ n8 fr8).mono ?_; rintro e w9 ⟨v9,rfl,n9,fr9,rfl⟩; obtain ⟨A9,c9,rfl,m1,m2,m3⟩:=n9; have M3:=Lib.hid m3; have FR9:=Lib.hid fr9; have VAL8:=Lib.hid val8; have XX8:=Lib.hid xx8; clear m3 fr9 val8 xx8 n8 fr8 len8)
             | (go_at_call 176
                refine (xhg wc.heap.size half (E.length + F.length - half) (E.length + F.length - half) Z _ A9 c9 _ (Row.ext (w := World.drew wp) HZ.out XX8.out) HZD.out (by have := HZL.out; omega) (Nat.le_refl _) (by omega) M3.out
                 (fun a e=>by subst e; have h1:=FR9.out a _ _ rfl; have h2:wp.heap.size<=a.block:=h1; omega)
                 (by have:=xhh HZL.out (show half<=E.length+F.length by omega) HJ.out HT.out; exact zc4 (by rw [VAL8.out]; omega)) m1 m2
                 (by rw [jc3,VAL8.out]; exact xhh HZL.out (by omega) HJ.out HT.out)).mono ?_
                rintro e w' ⟨ys,rfl,t1,t2,t3,t4,t5,t6⟩;rw [jc3,VAL8.out] at t5;have t7:Only wc.heap.size wp w':=Only.trans x8 t6;have HFIN:Hid (vg1 (ds.length+es.length) (val ds * val es) wc (.returned (.slice (some ⟨wc.heap.size,0,none⟩) (E.length+F.length) (E.length+F.length))) w'):=by
                 refine ⟨_,ys,rfl,t1.natVn t3 _ _ (by have:=HZL.out; omega) (Nat.le_refl _) (by omega),by rw [t2,HZL.out]; exact G8.out,?_,wc6.mk _ _ _ _ (Nat.le_refl _),?_⟩
                 · rw [yhx HZL.out (by have:=HZL.out; omega) (by omega) HJ.out t4 t5];exact G7.out
                 · exact (O2'.out.trans t7).ext X1'.out (Nat.le_refl _)
                clear t1 t2 t3 t4 t5 t6))
          go_wp2_with fail;go_ret;exact HFIN.out
        · have b3:(half:Int)<=c':=by omega
          have b5:(half:Int)<=F.length:=by omega
          have b7:¬ (c'=half):=by omega
          go_wp2_with fail;rw [hhalf];clear hhalf hzb hzb2 hz hz2;generalize hW:wc.alloc (Obj.cells (jc8 (List.replicate (E.length+F.length) 0)).toArray 61)=W at *;have hWs:W.heap.size=wc.heap.size+1:=by rw [<- hW]; simp
          have HWS:=Lib.hid hWs;clear hW hWs;have Hlow:Hid (∀ W',Ext W W'->Calls Tryz.prog 131 #[.slice (some ad) half c,.slice (some ad') half c'] W' (fun e w'=>∃ v,e=.returned v/\ug1 W w' v (half+half) (val (E.take half) * val (F.take half))/\Ext W' w')):=by
           intro W' hx;have hx':=HX0.out.trans hx;have hl:(E.take half).length=half:=by rw [List.length_take,Nat.min_eq_left (by omega)]
           have hl':(F.take half).length=half:=by rw [List.length_take,Nat.min_eq_left (by omega)]
           refine (IH.out half (by omega) _ _ _ _ W' ((G5.out.ext hx').natTake half c (by omega) g1 g2) ((G6.out.ext hx').natTake half c' (by omega) g3 g4) (by omega) (by omega) (by omega)).mono ?_;rintro e w' ⟨v,zs,rfl,p1,p2,p3,p4,p5⟩;exact ⟨v,rfl,⟨zs,p1,by rw [p2,hl,hl'],p3,p4.mono hx.size,hx.trans p5⟩,p5⟩
          have Hhigh : Hid (∀ W', Ext W W' -> Calls Tryz.prog 131 #[.slice (some (ad.add half)) (E.length - half) (c - half), .slice (some (ad'.add half)) (F.length - half) (c' - half)] W'
           (fun e w'=>∃ v,e=.returned v/\ug1 W w' v (E.length - half+(F.length - half)) (val (E.drop half) * val (F.drop half))/\Ext W' w')):=by
           intro W' hx;have hx':=HX0.out.trans hx;refine (IH.out half (by omega) _ _ _ _ W' ((G5.out.ext hx').natDrop half c (by omega) g1 g2) ((G6.out.ext hx').natDrop half c' (by omega) g3 g4) (by rw [List.length_drop]; omega) (by rw [List.length_drop]; omega) (by rw [List.length_drop,List.length_drop]; omega)).mono ?_;rintro e w' ⟨v,zs,rfl,p1,p2,p3,p4,p5⟩;exact ⟨v,rfl,⟨zs,p1,by rw [p2,List.length_drop,List.length_drop],p3,p4.mono hx.size,hx.trans p5⟩,p5⟩
          have HsumA:Hid (∀ W',Ext W W'->Calls Tryz.prog 124 #[.slice (some ad) half c,.slice (some (ad.add half)) (E.length - half) (c - half)] W' (ugz (val (E.take half)+val (E.drop half)) W')):=by
           intro W' hx;have hx':=HX0.out.trans hx;exact xhd _ _ _ _ _ ((G5.out.ext hx').natTake half c (by omega) g1 g2) ((G5.out.ext hx').natDrop half c (by omega) g1 g2) (by rw [List.length_take,List.length_drop]; omega)
          have HsumB:Hid (∀ W',Ext W W'->Calls Tryz.prog 124 #[.slice (some ad') half c',.slice (some (ad'.add half)) (F.length - half) (c' - half)] W' (ugz (val (F.take half)+val (F.drop half)) W')):=by
           intro W' hx;have hx':=HX0.out.trans hx;exact xhd _ _ _ _ _ ((G6.out.ext hx').natTake half c' (by omega) g3 g4) ((G6.out.ext hx').natDrop half c' (by omega) g3 g4) (by rw [List.length_take,List.length_drop]; omega)
          have HlenA:Hid ((dg (val (E.take half)+val (E.drop half))).length<=half+1):=by
           refine Nat.le_trans (zgv _ _) ?_;have l1:=vc3 (G5.out.1.take half);have l2:=vc3 (G5.out.1.drop half);rw [List.length_take] at l1;rw [List.length_drop] at l2;omega
          have HlenB:Hid ((dg (val (F.take half)+val (F.drop half))).length<=half+1):=by
           refine Nat.le_trans (zgv _ _) ?_;have l1:=vc3 (G6.out.1.take half);have l2:=vc3 (G6.out.1.drop half);rw [List.length_take] at l1;rw [List.length_drop] at l2;omega
          go_region_held3 (fun W'=>Ext W W') (first | exact (Ext.refl W).drew | assumption) ((go_at_call 131; refine (Hlow.out _ ?_).mono ?_; assumption; rintro e w7 ⟨v7,rfl,P7,x7⟩; have y7:Ext W w7:=Ext.trans (by assumption) x7))
          have P7':=Lib.hid P7;have Y7:=Lib.hid y7;clear P7 x7 y7;go_wp2_with fail
          go_region_held3 (fun W'=>Ext w7 W') (first | exact (Ext.refl w7).drew | assumption) ((go_at_call 131; refine (Hhigh.out _ ?_).mono ?_; (exact Ext.trans Y7.out (by assumption)); rintro e w8 ⟨v8,rfl,P8,x8⟩; have y8:Ext w7 w8:=Ext.trans (by assumption) x8))
          have P8':=Lib.hid P8;have P7'':=Lib.hid (P7'.out.ext y8);have Y8:=Lib.hid (Y7.out.trans y8);clear P8 x8 y8 P7' Y7 Hlow Hhigh;go_wp2_with fail
          go_region_held3 (fun W' => Ext w8 W') (first | exact (Ext.refl w8).drew | assumption)
           (first
             | (go_at_call_of 124 (Value.slice (some ad) half c); refine (HsumA.out _ ?_).mono ?_; (exact Ext.trans Y8.out (by assumption)); rintro e wa ⟨va,rfl,pa1,pa2⟩; have ya:Ext w8 wa:=Ext.trans (by assumption) pa2)
             | (go_at_call_of 124 (Value.slice (some ad') half c'); refine (HsumB.out _ ?_).mono ?_; (exact Ext.trans Y8.out (by assumption)); rintro e wb ⟨vb,rfl,pb1,pb2⟩; have yb:Ext w8 wb:=Ext.trans (by assumption) pb2)
             | (go_at_call 131; refine (IH.out (half+1) (by omega) _ _ _ _ _ (pa1.ext pb2) pb1 HlenA.out HlenB.out (by have:=HlenA.out; have:=HlenB.out; omega)).mono ?_; rintro e w9 ⟨v9,l9,rfl,p1,p2,p3,p4,p5⟩; have y9:Ext w8 w9:=Ext.trans yb p5))
          have N9:=Lib.hid p1;have V9:=Lib.hid p3;have L9:Hid (l9.length<=35184372088000):=Lib.hid (by rw [p2]; have:=HlenA.out; have:=HlenB.out; omega);have Q7:=Lib.hid (P7''.out.ext y9);have Q8:=Lib.hid (P8'.out.ext y9);have Y9:=Lib.hid (Y8.out.trans y9);clear p1 p2 p3 p4 p5 pa1 pa2 ya pb1 pb2 yb y9 P7'' P8' Y8 HsumA HsumB HlenA HlenB;rw [jc3,jc3] at V9;obtain ⟨l7,n7,xg5,val7,fr7,-⟩:=Q7.out;obtain ⟨l8,n8,len8,val8,fr8,-⟩:=Q8.out;go_wp2_with fail;refine (xhd _ _ _ _ _ n7 n8 (by omega)).mono ?_;rintro e wa ⟨va,rfl,na,xa⟩;have hgeq:val l7+val l8<=val l9:=by
           rw [val7,val8,V9.out,Nat.add_mul,Nat.mul_add,Nat.mul_add];omega
          have hmid:val l9 - (val l7+val l8)=val (E.take half) * val (F.drop half)+val (E.drop half) * val (F.take half):=by
           rw [val7,val8,V9.out,Nat.add_mul,Nat.mul_add,Nat.mul_add];omega
          have HGE:=Lib.hid hgeq;have HMID:=Lib.hid hmid;have M7:=Lib.hid (n7.ext xa);have M8:=Lib.hid (n8.ext xa);have M9:=Lib.hid (N9.out.ext xa);have NA:=Lib.hid na;have XA:=Lib.hid xa;clear Q7 Q8 N9 n7 n8 na xa hgeq hmid;have K7:=Lib.hid (And.intro xg5 (And.intro val7 fr7));have K8:=Lib.hid (And.intro len8 (And.intro val8 fr8));clear xg5 val7 fr7 len8 val8 fr8;go_wp2_with fail;refine (ghl _ _ _ _ _ M9.out NA.out L9.out (by rw [jc3]; exact HGE.out)).mono ?_;rintro e wm ⟨vm,rfl,nm,fm,xm⟩;rw [jc3,HMID.out] at nm;have R1:=HR0.out.ext (Y9.out.trans (XA.out.trans xm));have X1:=HX0.out.trans (Y9.out.trans (XA.out.trans xm));have hws:=HWS.out;have fm':wc6 (wc.heap.size+1) vm:=fm.mono (by have:=Y9.out.size; have:=XA.out.size; omega);obtain ⟨A7,c7,rfl,i1,i2,i3⟩:=M7.out.ext xm;obtain ⟨A8,c8,rfl,j1,j2,j3⟩:=M8.out.ext xm;obtain ⟨Am,cm,rfl,k1,k2,k3⟩:=nm;obtain ⟨xg5,val7,fr7⟩:=K7.out;obtain ⟨len8,val8,fr8⟩:=K8.out;have ne7:∀ a,A7=some a->a.block ≠ wc.heap.size:=fun a e=>by subst e; have:=fr7 a _ _ rfl; omega
          have ne8:∀ a,A8=some a->a.block ≠ wc.heap.size:=fun a e=>by subst e; have:=fr8 a _ _ rfl; omega
          have nem:∀ a,Am=some a->a.block ≠ wc.heap.size:=fun a e=>by subst e; have:=fm' a _ _ rfl; omega
          have q1:l7.length<=E.length+F.length:=by omega
          have q2:0+l7.length<=(List.replicate (E.length+F.length) 0).length:=by rw [List.length_replicate]; omega
          have q3:¬ (E.length+F.length=2 * half):=by omega
          have q4:l8.length<=E.length+F.length - 2 * half:=by omega
          have q5:2 * half+l8.length<=(List.take 0 (List.replicate (E.length+F.length) 0) ++ (l7 ++ List.drop (0+l7.length) (List.replicate (E.length+F.length) 0))).length:=by
           simp; omega
          have q6:(2:Int) * half<=E.length+F.length:=by omega
          have R1':=Lib.hid R1;have X1':=Lib.hid X1;have I3:=Lib.hid i3;have J3:=Lib.hid j3;have K3:=Lib.hid k3;have NE:=Lib.hid (And.intro ne7 (And.intro ne8 nem));have LV:=Lib.hid (And.intro (And.intro xg5 val7) (And.intro len8 val8));clear R1 X1 i3 j3 k3 ne7 ne8 nem xg5 val7 len8 val8 fr7 fr8 fm fm' xm hws K7 K8 M7 M8 M9 NA
          go_wp2_with (first
           | (with_reducible refine ygt rfl (.tmp 99) (.tmp 100) rfl wc.heap.size 0 (E.length+F.length) (E.length+F.length) A7 c7 l7 (List.replicate (E.length+F.length) 0) rfl rfl R1'.out I3.out q1 q2 ?_
              intro wp R2 O2;have R2':=Lib.hid R2;have O2':=Lib.hid O2
              clear R2 O2)
           | (with_reducible refine ygt rfl (.tmp 105) (.tmp 106) rfl wc.heap.size (2 * half) (E.length+F.length - 2 * half) (E.length+F.length - 2 * half) A8 c8 l8 _ rfl rfl R2'.out (J3.out.only O2'.out NE.out.2.1) q4 q5 ?_
              intro wq R3 O3;have R3':=Lib.hid R3;have O3':=Lib.hid O3
              clear R3 O3))
          obtain ⟨⟨xg5,val7⟩,len8,val8⟩:=LV.out
          have hZ : List.take (2 * half) (List.take 0 (List.replicate (E.length + F.length) 0) ++ (l7 ++ List.drop (0 + l7.length) (List.replicate (E.length + F.length) 0))) ++
           (l8 ++ List.drop (2 * half+l8.length) (List.take 0 (List.replicate (E.length+F.length) 0) ++ (l7 ++ List.drop (0+l7.length) (List.replicate (E.length+F.length) 0))))=l7 ++ l8:=by
           have e1:2 * half=l7.length:=by omega
           rw [List.take_zero,List.nil_append,e1,List.take_left,List.drop_eq_nil_of_le (by simp; omega),List.append_nil]
          have R4:=R3'.out;rw [hZ] at R4;have hZl:(l7 ++ l8).length=E.length+F.length:=by rw [List.length_append]; omega
          have hEs:=wc5 E half (by omega);have hFs:=wc5 F half (by omega);have hjoin:val (l7 ++ l8)+B32 ^ half * (val (E.take half) * val (F.drop half)+val (E.drop half) * val (F.take half))=val E * val F:=by
           rw [val_append,xg5,val7,val8,hEs,hFs,Nat.pow_add];generalize val (E.take half)=a0;generalize val (E.drop half)=a1;generalize val (F.take half)=b0;generalize val (F.drop half)=b1;generalize B32 ^ half=P;rw [Nat.add_mul,Nat.mul_add,Nat.mul_add,Nat.mul_add];rw [show P * a1 * (P * b1)=P * P * (a1 * b1) from by rw [Nat.mul_assoc,Nat.mul_left_comm a1,<- Nat.mul_assoc],show a0 * (P * b1)=P * (a0 * b1) from Nat.mul_left_comm _ _ _,show P * a1 * b0=P * (a1 * b0) from Nat.mul_assoc _ _ _];omega
          have htot:val E * val F < B32 ^ (E.length+F.length):=by
           rw [Nat.pow_add];exact Nat.mul_lt_mul_of_lt_of_le (gc9 G5.out.1) (Nat.le_of_lt (gc9 G6.out.1)) (Nat.pow_pos zc5)
          have hfit:=xhh hZl (by omega) hjoin htot;have hd78:uc3 (l7 ++ l8):=I3.out.1.append J3.out.1;have hml:(dg (val (E.take half) * val (F.drop half)+val (E.drop half) * val (F.take half))).length<=E.length+F.length - half:=zc4 (by omega);have o13:=O2'.out.trans O3'.out
          refine (xhg wc.heap.size half (E.length + F.length - half) (E.length + F.length - half) (l7 ++ l8) _ Am cm wq R4 hd78 (by omega) (Nat.le_refl _) (by omega)
           (K3.out.only o13 NE.out.2.2) NE.out.2.2 hml k1 k2 (by rw [jc3]; exact hfit)).mono ?_
          rintro e w' ⟨ys,rfl,t1,t2,t3,t4,t5,t6⟩;rw [jc3] at t5;have HFIN:Hid (vg1 (ds.length+es.length) (val ds * val es) wc (.returned (.slice (some ⟨wc.heap.size,0,none⟩) (E.length+F.length) (E.length+F.length))) w'):=by
           refine ⟨_,ys,rfl,t1.natVn t3 _ _ (by omega) (Nat.le_refl _) (by omega),by rw [t2,hZl]; exact G8.out,?_,wc6.mk _ _ _ _ (Nat.le_refl _),?_⟩
           · rw [yhx hZl (by omega) (by omega) hjoin t4 t5];exact G7.out
           · exact (o13.trans t6).ext X1'.out (Nat.le_refl _)
          clear t1 t2 t3 t4 t5 t6 o13 hml hd78 hfit htot hjoin hEs hFs hZl R4 hZ xg5 val7 len8 val8;go_wp2_with fail;go_ret;exact HFIN.out
theorem gh1 (K:Nat):ghh K:=by
 induction K using Nat.strongRecOn with
 | _ K ih=>exact zhv K ih
theorem ui1 (u v:Value) (ds es:List Nat) (w:World) (h:vc2 w u ds) (k:vc2 w v es) (hs:ds.length+es.length<=35184372088000) :
 Calls Tryz.prog 94 #[u,v] w (ugz (val ds * val es) w):=by
 have l1:=vc3 h.digs;have l2:=vc3 k.digs;go_enter Tryz.func94,Tryz.ntmps94;go_wp2_with fail;refine (jc9 u ds _ h).mono ?_;rintro e w' ⟨u',rfl,hu,rfl⟩;go_wp2_with fail;refine (jc9 v es _ k).mono ?_;rintro e w' ⟨v',rfl,hv,rfl⟩;go_wp2_with fail;refine (gh1 (ds.length+es.length) _ _ _ _ _ hu hv (by omega) (by omega) (by omega)).mono ?_;rw [jc3,jc3];rintro e w' ⟨p,zs,rfl,p1,p2,p3,p4,p5⟩;have P3:=Lib.hid p3;have P5:=Lib.hid p5;clear p3 p5 p2 hu hv;go_wp2_with fail;refine (jc9 _ _ _ p1).mono ?_;rintro e w2 ⟨q,rfl,hq,rfl⟩;rw [P3.out] at hq;have HQ:=Lib.hid hq;clear hq;go_wp2_with fail;go_ret;exact ⟨_,rfl,HQ.out,P5.out⟩
/- Layer 2 (integer): what each function returns. -/
set_option maxRecDepth 100000
set_option maxHeartbeats 8000000
def sgn (neg:Bool) (n:Nat):Int:=if neg then -(n:Int) else n
theorem qc7 (neg:Bool) (n:Nat):(sgn neg n).natAbs=n:=by cases neg <;> simp [sgn]
def xc4 (w:World) (x:Value) (z:Int) (L:Nat):Prop:=∃ neg v ds,x=.agg #[.bool neg,v]/\vc2 w v ds/\z=sgn neg (val ds)/\ds.length<=L
def kdb (w:World) (x:Value) (z:Int):Prop:=∃ v,x=.agg #[.bool (decide (z < 0)),v]/\vc2 w v (dg z.natAbs)
theorem zgs (z:Int):sgn (decide (z < 0)) z.natAbs=z:=by
 unfold sgn
 by_cases h:z < 0
 · simp [h]; omega
 · simp [h]; omega
theorem kdb.raw {w:World} {x:Value} {z:Int} (h:kdb w x z):xc4 w x z (dg z.natAbs).length:=by
 obtain ⟨v,e,hv⟩:=h;exact ⟨_,v,_,e,hv,by rw [jc3,zgs],Nat.le_refl _⟩
theorem xc4.mono {w:World} {x:Value} {z:Int} {L L':Nat} (h:xc4 w x z L) (hl:L<=L'):xc4 w x z L':=by
 obtain ⟨neg,v,ds,e,hv,hz,hl'⟩:=h;exact ⟨neg,v,ds,e,hv,hz,Nat.le_trans hl' hl⟩
theorem xc4.ext {w w':World} {x:Value} {z:Int} {L:Nat} (h:xc4 w x z L) (hx:Ext w w'):xc4 w' x z L:=by
 obtain ⟨neg,v,ds,e,hv,hz,hl'⟩:=h;exact ⟨neg,v,ds,e,hv.ext hx,hz,hl'⟩
theorem kdb.ext {w w':World} {x:Value} {z:Int} (h:kdb w x z) (hx:Ext w w'):kdb w' x z:=by
 obtain ⟨v,e,hv⟩:=h;exact ⟨v,e,hv.ext hx⟩
theorem xc4.len {w:World} {x:Value} {z:Int} {L:Nat} (h:xc4 w x z L):(dg z.natAbs).length<=L:=by
 obtain ⟨neg,v,ds,e,hv,rfl,hl'⟩:=h;rw [qc7];exact Nat.le_trans (vc3 hv.digs) hl'
def gc6 : Value -> Bool
 | .int .u32 _=>true
 | _=>false
theorem wc4.box {w:World} {A:Option Addr} {ds:List Nat} {p:Addr} {u:Value} (h:wc4 w A ds) (hp:w.cell? p=some u) (hu:gc6 u=false) (v:Value):wc4 (w.setCell p v) A ds:=
 ⟨h.1,fun hl=>by
   obtain ⟨ad,e,hb,hc⟩:=h.2 hl;refine ⟨ad,e,by simpa [World.setCell] using hb,fun j hj=>?_⟩;rw [World.cell?_setCell_other w p _ v (fun e=>by rw [e,hc j hj] at hp; injection hp with hp; rw [<- hp] at hu; cases hu)]
   exact hc j hj⟩
theorem vc2.box {w:World} {x:Value} {ds:List Nat} {p:Addr} {u:Value} (h:vc2 w x ds) (hp:w.cell? p=some u) (hu:gc6 u=false) (v:Value):vc2 (w.setCell p v) x ds:=by
 obtain ⟨A,c,e,h1,h2,h3⟩:=h;exact ⟨A,c,e,h1,h2,h3.box hp hu v⟩
theorem kdb.box {w:World} {x:Value} {z:Int} {p:Addr} {u:Value} (h:kdb w x z) (hp:w.cell? p=some u) (hu:gc6 u=false) (v:Value):kdb (w.setCell p v) x z:=by
 obtain ⟨y,e,hy⟩:=h;exact ⟨y,e,hy.box hp hu v⟩
theorem xc4.box {w:World} {x:Value} {z:Int} {L:Nat} {p:Addr} {u:Value} (h:xc4 w x z L) (hp:w.cell? p=some u) (hu:gc6 u=false) (v:Value):xc4 (w.setCell p v) x z L:=by
 obtain ⟨neg,y,ds,e,hv,hz,hl'⟩:=h;exact ⟨neg,y,ds,e,hv.box hp hu v,hz,hl'⟩
def vdh (z:Int) (w:World) (e:Ending) (w':World):Prop:=∃ x,e=.returned x/\kdb w' x z/\Ext w w'
theorem yc9 {w W : World} {g : Nat} {z : Int} {b s u0 u1 : Value} (hx : Ext w W) (hg : w.heap.size <= g) (h0 : W.cell? ⟨g, 0, none⟩ = some u0) (h1 : W.cell? ⟨g, 1, none⟩ = some u1)
 (d0:gc6 u0=false) (d1:gc6 u1=false) (hN:kdb W (.agg #[b,s]) z):vdh z w (.returned (.agg #[b,s])) ((W.setCell ⟨g,0,none⟩ b).setCell ⟨g,1,none⟩ s):=by
 refine ⟨_,rfl,(hN.box h0 d0 b).box (u:=u1) ?_ d1 s,(hx.setCell (by simpa using hg) _).setCell (by simpa using hg) _⟩;rw [World.cell?_setCell_other _ _ _ _ (by simp),h1]
theorem yhe (neg:Bool) (n:Nat):decide (sgn neg n < 0)=(neg && decide (0 < (dg n).length)):=by
 have h:0 < (dg n).length ↔ 0 < n:=by
  constructor
  · intro h; rcases Nat.eq_zero_or_pos n with e | e
    · subst e; rw [uc5] at h; simp at h
    · exact e
  · intro h; exact yg0 (by omega)
 cases neg
 · simp [sgn]
 · simp only [sgn,if_true,Bool.true_and];rw [Bool.eq_iff_iff,decide_eq_true_eq,decide_eq_true_eq,h]; omega
theorem zgx (neg:Bool) (v:Value) (n:Nat) (w:World) (h:vc2 w v (dg n)):Calls Tryz.prog 93 #[.bool neg,v] w (vdh (sgn neg n) w):=by
 obtain ⟨A,c,rfl,h1,h2,h3⟩:=h;have H3:=Lib.hid h3;clear h3;have HS:=Lib.hid (yhe neg n);generalize hE:dg n=E at *;have HE:=Lib.hid hE;clear hE;have HF:Hid (∀ b,b=(neg && decide (0 < E.length))->vdh (sgn neg n) w (.returned (.agg #[.bool b,.slice A E.length c])) (w.alloc (Obj.cells #[.bool b,.slice A E.length c] 27))):=by
  intro b hb;refine ⟨_,rfl,⟨.slice A E.length c,?_,A,c,?_,?_,h2,?_⟩,(Ext.refl w).alloc _⟩
  · rw [hb,HS.out]
  · rw [qc7,HE.out]
  · rw [qc7,HE.out]; exact h1
  · rw [qc7,HE.out]; exact H3.out.ext ((Ext.refl w).alloc _)
 cases neg
 · go_enter Tryz.func93,Tryz.ntmps93
   go_wp2
   exact bodyPost_ret (v:=.agg #[.bool false,.slice A E.length c]) (by simp [results,Tryz.results93,go_sem]) rfl (HF.out _ rfl)
 · by_cases hl:0 < E.length
   · have hlb:decide ((E.length:Int) > 0)=true:=by simp; omega
     go_enter Tryz.func93,Tryz.ntmps93
     go_wp2
     exact bodyPost_ret (v:=.agg #[.bool true,.slice A E.length c]) (by simp [results,Tryz.results93,go_sem]) rfl (HF.out _ (by simp [hl]))
   · go_enter Tryz.func93,Tryz.ntmps93
     go_wp2
     exact bodyPost_ret (v:=.agg #[.bool false,.slice A E.length c]) (by simp [results,Tryz.results93,go_sem]) rfl (HF.out _ (by simp [hl]))
theorem kgs (neg:Bool) (v:Value) (ds:List Nat) (w:World) (h:vc2 w v ds) (hs:ds.length<=35184372088832):Calls Tryz.prog 59 #[.bool neg,v] w (vdh (sgn neg (val ds)) w):=by
 go_enter Tryz.func59,Tryz.ntmps59;go_wp2_with fail;refine (xdc _ _ _ (h.ext ((Ext.refl w).alloc _)) hs).mono ?_;rintro e w1 ⟨v1,rfl,hv,hx⟩;go_wp2_with fail;refine (zgx _ _ _ _ hv).mono ?_;rintro e w2 ⟨x,rfl,⟨v2,rfl,hv2⟩,hx2⟩;obtain ⟨A2,c2,rfl,q1,q2,q3⟩:=hv2;have hx3:=hx.trans hx2;obtain ⟨hc,hf⟩:=hx3.cells;have hz:=hx3.size;have HF:=Lib.hid (yc9 (g:=w.heap.size) (z:=sgn neg (val ds)) (u0:=.bool false) (u1:=.slice none 0 0) (((Ext.refl w).alloc (Obj.cells #[.bool false,.slice none 0 0] 27)).trans hx3) (Nat.le_refl _) (by rw [hc _ _ (by simp)]; simp [World.cell?_alloc_new]) (by rw [hc _ _ (by simp)]; simp [World.cell?_alloc_new]) rfl rfl ⟨_,rfl,A2,c2,rfl,q1,q2,q3⟩);clear hv hx hx2 hx3 q3;rw [World.size_alloc] at hz;go_wp2_with fail;exact bodyPost_ret (v:=.agg #[.bool (decide (sgn neg (val ds) < 0)),.slice A2 (dg (sgn neg (val ds)).natAbs).length c2]) (by simp [results,Tryz.results59,go_sem,hc]) rfl HF.out
theorem xdi (x:Value) (z:Int) (L:Nat) (w:World) (h:xc4 w x z L) (hs:L<=35184372088832):Calls Tryz.prog 28 #[x] w (vdh (z) w):=by
 obtain ⟨neg,v,ds,rfl,⟨A,c,rfl,h1,h2,h3⟩,hz,hl⟩:=h;have hzz:z=sgn (neg) (val ds):=by rw [hz]
 rw [hzz];clear hz hzz;have hx0:Ext w ((w.alloc (Obj.cells #[.bool neg,.slice A ds.length c] 27)).alloc (Obj.cells #[.bool false,.slice none 0 0] 27)):=((Ext.refl w).alloc _).alloc _;have HX0:=Lib.hid hx0;have H3:=Lib.hid h3;clear hx0 h3;go_enter Tryz.func28,Tryz.ntmps28;go_wp2_with fail;refine (kgs _ _ _ _ ⟨A,c,rfl,h1,h2,H3.out.ext HX0.out⟩ (by omega)).mono ?_;rintro e w2 ⟨x,rfl,⟨v2,rfl,A2,c2,rfl,q1,q2,q3⟩,hx2⟩;obtain ⟨hc,hf⟩:=hx2.cells;have hz:=hx2.size;have HF:=Lib.hid (yc9 (g:=w.heap.size+1) (z:=sgn (neg) (val ds)) (u0:=.bool false) (u1:=.slice none 0 0) (HX0.out.trans hx2) (by omega) (by rw [hc _ _ (by simp)]; simp [go_sem]) (by rw [hc _ _ (by simp)]; simp [go_sem]) rfl rfl ⟨_,rfl,A2,c2,rfl,q1,q2,q3⟩);clear hx2 q3;rw [World.size_alloc,World.size_alloc] at hz;go_wp2_with fail;exact bodyPost_ret (v:=.agg #[.bool (decide (sgn (neg) (val ds) < 0)),.slice A2 (dg (sgn (neg) (val ds)).natAbs).length c2]) (by simp [results,Tryz.results28,go_sem,hc]) rfl HF.out
theorem vi1 (x:Value) (z:Int) (L:Nat) (w:World) (h:xc4 w x z L) (hs:L<=35184372088832):Calls Tryz.prog 167 #[x] w (vdh (-z) w):=by
 obtain ⟨neg,v,ds,rfl,⟨A,c,rfl,h1,h2,h3⟩,hz,hl⟩:=h;have hzz:-z=sgn (!neg) (val ds):=by rw [hz]; cases neg <;> simp [sgn]
 rw [hzz];clear hz hzz;have hx0:Ext w ((w.alloc (Obj.cells #[.bool neg,.slice A ds.length c] 27)).alloc (Obj.cells #[.bool false,.slice none 0 0] 27)):=((Ext.refl w).alloc _).alloc _;have HX0:=Lib.hid hx0;have H3:=Lib.hid h3;clear hx0 h3;go_enter Tryz.func167,Tryz.ntmps167;go_wp2_with fail;refine (kgs _ _ _ _ ⟨A,c,rfl,h1,h2,H3.out.ext HX0.out⟩ (by omega)).mono ?_;rintro e w2 ⟨x,rfl,⟨v2,rfl,A2,c2,rfl,q1,q2,q3⟩,hx2⟩;obtain ⟨hc,hf⟩:=hx2.cells;have hz:=hx2.size;have HF:=Lib.hid (yc9 (g:=w.heap.size+1) (z:=sgn (!neg) (val ds)) (u0:=.bool false) (u1:=.slice none 0 0) (HX0.out.trans hx2) (by omega) (by rw [hc _ _ (by simp)]; simp [go_sem]) (by rw [hc _ _ (by simp)]; simp [go_sem]) rfl rfl ⟨_,rfl,A2,c2,rfl,q1,q2,q3⟩);clear hx2 q3;rw [World.size_alloc,World.size_alloc] at hz;go_wp2_with fail;exact bodyPost_ret (v:=.agg #[.bool (decide (sgn (!neg) (val ds) < 0)),.slice A2 (dg (sgn (!neg) (val ds)).natAbs).length c2]) (by simp [results,Tryz.results167,go_sem,hc]) rfl HF.out
theorem yi5 (x:Value) (z:Int) (L:Nat) (w:World) (h:xc4 w x z L) (hs:L<=35184372088832):Calls Tryz.prog 165 #[x] w (vdh ((z.natAbs:Int)) w):=by
 obtain ⟨neg,v,ds,rfl,⟨A,c,rfl,h1,h2,h3⟩,hz,hl⟩:=h;have hzz:(z.natAbs:Int)=sgn (false) (val ds):=by rw [hz]; rw [qc7]; rfl
 rw [hzz];clear hz hzz;have hx0:Ext w ((w.alloc (Obj.cells #[.bool neg,.slice A ds.length c] 27)).alloc (Obj.cells #[.bool false,.slice none 0 0] 27)):=((Ext.refl w).alloc _).alloc _;have HX0:=Lib.hid hx0;have H3:=Lib.hid h3;clear hx0 h3;go_enter Tryz.func165,Tryz.ntmps165;go_wp2_with fail;refine (kgs _ _ _ _ ⟨A,c,rfl,h1,h2,H3.out.ext HX0.out⟩ (by omega)).mono ?_;rintro e w2 ⟨x,rfl,⟨v2,rfl,A2,c2,rfl,q1,q2,q3⟩,hx2⟩;obtain ⟨hc,hf⟩:=hx2.cells;have hz:=hx2.size;have HF:=Lib.hid (yc9 (g:=w.heap.size+1) (z:=sgn (false) (val ds)) (u0:=.bool false) (u1:=.slice none 0 0) (HX0.out.trans hx2) (by omega) (by rw [hc _ _ (by simp)]; simp [go_sem]) (by rw [hc _ _ (by simp)]; simp [go_sem]) rfl rfl ⟨_,rfl,A2,c2,rfl,q1,q2,q3⟩);clear hx2 q3;rw [World.size_alloc,World.size_alloc] at hz;go_wp2_with fail;exact bodyPost_ret (v:=.agg #[.bool (decide (sgn (false) (val ds) < 0)),.slice A2 (dg (sgn (false) (val ds)).natAbs).length c2]) (by simp [results,Tryz.results165,go_sem,hc]) rfl HF.out
end Go.Proofs.YtopddaabiinboaaGreat
