/- Layer 1 (natural): products, digit by digit. -/
import Derived.Test.YtklnlgnnlmdibaaGreatMr1
set_option linter.unusedSimpArgs false
set_option linter.unusedVariables false
set_option maxRecDepth 100000
set_option maxHeartbeats 8000000
namespace Go.Proofs.YtklnlgnnlmdibaaGreat
open Go.RowKit
def qan (l n:Nat) (w:World) (e:Ending) (w':World):Prop:=∃ v zs,e=.returned v/\jc w' v zs/\zs.length=l/\val zs=n/\yz w.heap.size v/\Ext w w'
def qa8 (w0:World) (g:Nat) (ds es:List Nat) (i:Nat) (wr:World):Prop:=
 ∃ zs:List Nat,Row wr g zs/\zs.length=ds.length+es.length/\qg zs/\val (zs.take (i+es.length))=val (ds.take i) * val es/\zs.drop (i+es.length)=List.replicate (ds.length - i) 0/\Ext w0 wr
def ja8 (w0:World) (g:Nat) (z0:List Nat) (i x:Nat) (es:List Nat) (j:Nat) (c:Nat) (wr:World):Prop:=
 ∃ zs:List Nat,Row wr g zs/\zs.length=z0.length/\qg zs/\val (zs.take (i+j))+B32 ^ (i+j) * c=val (z0.take (i+j))+B32 ^ i * (x * val (es.take j))/\zs.drop (i+j)=z0.drop (i+j)/\Ext w0 wr
theorem kca (Z Z0 P Q c x y r E s:Nat) (hz:Z+P * Q * c=Z0+P * (x * E)) (hs:s=x * y+r+c) :
 (Z+P * Q * (s % B32))+P * Q * B32 * (s / B32)=(Z0+P * Q * r)+P * (x * (E+Q * y)):=by
 have e:P * Q * (s % B32)+P * Q * B32 * (s / B32)=P * Q * s:=by rw [Nat.mul_assoc (P * Q),<- Nat.mul_add,Nat.mod_add_div]
 have e2:P * Q * s=P * Q * (x * y)+P * Q * r+P * Q * c:=by rw [hs,Nat.mul_add,Nat.mul_add]
 have e3:P * (x * (E+Q * y))=P * (x * E)+P * Q * (x * y):=by
  rw [Nat.mul_add,Nat.mul_add,Nat.mul_left_comm x Q y,Nat.mul_assoc P Q]
 omega
theorem ja8.step {w0 wr : World} {g : Nat} {z0 es zs : List Nat} {i x j c y r d c' : Nat} (hr : Row wr g zs) (hl : zs.length = z0.length) (hd : qg zs)
 (he:val (zs.take (i+j))+B32 ^ (i+j) * c=val (z0.take (i+j))+B32 ^ i * (x * val (es.take j))) (hdr:zs.drop (i+j)=z0.drop (i+j)) (hx:Ext w0 wr)
 (hg:w0.heap.size<=g) (hlt:i+j < zs.length) (hrd:Hid (zs[i+j]?=some r)) (hy:Hid (es[j]?=some y)) (hd1:d=(x * y+r+c) % B32) (hc1:c'=(x * y+r+c) / B32) :
 ja8 w0 g z0 i x es (j+1) c' (wr.setCell ⟨g,i+j,none⟩ (.int .u32 (d:Int))):=by
 refine ⟨zs.set (i+j) d,hr.set_ _ _,by rw [List.length_set,hl],hd.set _ _ (by rw [hd1]; exact Nat.mod_lt _ zi),?_,?_,hx.setCell (by simpa using hg) _⟩
 · have hr0:Hid (z0[i+j]?=some r):=by
    have h1:=hrd.out;have h2:zs[i+j]?=(zs.drop (i+j))[0]?:=by rw [List.getElem?_drop]; simp
    have h3:z0[i+j]?=(z0.drop (i+j))[0]?:=by rw [List.getElem?_drop]; simp
    rw [h2,hdr,<- h3] at h1;exact h1
   rw [show i+(j+1)=(i+j)+1 from by omega,qw zs (i+j) d hlt,xac,List.length_take,Nat.min_eq_left (by omega),vg hr0,vg hy,Nat.pow_succ,Nat.pow_add];rw [Nat.pow_add] at he;rw [hd1,hc1];exact kca _ _ _ _ _ _ _ _ _ _ he rfl
 · rw [show i+(j+1)=(i+j)+1 from by omega,<- List.drop_drop (i:=1) (j:=i+j),<- List.drop_drop (i:=1) (j:=i+j),<- hdr,List.drop_set];rw [if_neg (by omega),Nat.sub_self,List.drop_drop];rcases hq:zs.drop (i+j) with _ | ⟨a,q⟩
   · have:=congrArg List.length hq; simp at this; omega
   · rw [<- List.drop_drop,hq]; rfl
theorem qa9 (u v:Value) (ds es:List Nat) (w:World) (h:jc w u ds) (k:jc w v es) (hs:ds.length+es.length<=35184372088000) :
 Calls Tryz.prog 153 #[u,v] w (qan (ds.length+es.length) (val ds * val es) w):=by
 obtain ⟨A,c,rfl,h1,h2,h3⟩:=h;obtain ⟨A',c',rfl,h1',h2',h3'⟩:=k;have G5:=Lib.hid h3;have G6:=Lib.hid h3';clear h3 h3';have hmk:=fun W=>zy ((ds.length:Int)+es.length) (by omega) (by omega) W
 go_enter Tryz.func153,Tryz.ntmps153;go_wp2_with fail
 have hinv:qa8 w w.heap.size ds es 0 (w.alloc (Obj.cells (qo (List.replicate (ds.length+es.length) 0)).toArray 90)):=
  ⟨List.replicate (ds.length+es.length) 0,Row.new w _,by simp,qg.replicate _,by simp [yaa],by simp,(Ext.refl _).alloc _⟩
 have HINV:=Lib.hid hinv;clear hinv
 go_loopw [23] (fun i wr=>∃ k:Nat,k<=ds.length/\i=.int .i64 k/\Hid (qa8 w w.heap.size ds es k wr)) (fun i _=>ds.length - (intOf i).toNat)
 case atStart=>exact ⟨0,by omega,rfl,HINV⟩
 case round =>
  clear HINV;obtain ⟨i,hi,rfl,HI⟩:=hrel
  by_cases hlt:i < ds.length
  · obtain ⟨zs,hrow,hzl,hzd,hval,hzero,hext⟩:=HI.out;obtain ⟨ad,x,rfl,hb,hcell,hx1,HX⟩:=(G5.out.ext hext).get_ i hlt
    by_cases hx0:x=0
    · have HS:Hid (qa8 w w.heap.size ds es (i+1) wr):=by
       refine ⟨zs,hrow,hzl,hzd,?_,?_,hext⟩
       · have hz:Hid (zs[i+es.length]?=some 0):=by
          have h2:zs[i+es.length]?=(zs.drop (i+es.length))[0]?:=by rw [List.getElem?_drop]; simp
          have:zs[i+es.length]?=some 0:=by
           rw [h2,hzero];simp [List.getElem?_replicate]; omega
          exact this
         rw [show i+1+es.length=(i+es.length)+1 from by omega,vg hz,hval,vg HX,hx0];simp
       · rw [show i+1+es.length=(i+es.length)+1 from by omega,<- List.drop_drop (i:=1) (j:=i+es.length),hzero];simp; omega
      subst hx0;clear HI hrow hzl hzd hval hzero hext;go_wp2_with fail
      go_roundw
      case rel=>exact ⟨i+1,by omega,by go_num,HS⟩
      case measure=>simp [intOf]; omega
    · have hcap:¬ (ds.length+es.length=i):=by omega
      have hxb:((x:Int) == 0)=false:=by simp; omega
      have hin:ja8 w w.heap.size zs i x es 0 0 wr:=⟨zs,hrow,rfl,hzd,by simp,rfl,hext⟩;have HIN:=Lib.hid hin;have HVAL:=Lib.hid hval;have HZERO:=Lib.hid hzero;have HZL:=Lib.hid hzl;clear HI hrow hzl hzd hval hzero hext hin;go_wp2_with fail;obtain ⟨wo,rfl⟩:∃ wo:World,wo=wr:=⟨_,rfl⟩
      go_loopw [9,35] (fun cv jv wq=>∃ j cc:Nat,j<=es.length/\jv=.int .i64 j/\cv=.int .u32 cc/\cc < 4294967296/\Hid (ja8 w w.heap.size zs i x es j cc wq)) (fun _ jv _=>es.length - (intOf jv).toNat)
      case atStart=>exact ⟨0,0,by omega,rfl,rfl,by omega,HIN⟩
      case round =>
       clear HIN;obtain ⟨j,cc,hj,rfl,rfl,hcc,HJ⟩:=hrel;obtain ⟨ys,hrow,hyl,hyd,hval,hdr,hext⟩:=HJ.out;have hyl2:ys.length=ds.length+es.length:=hyl.trans HZL.out
       by_cases hjl:j < es.length
       · obtain ⟨ad',y,rfl,hb',hcell',hy1,HY⟩:=(G6.out.ext hext).get_ j hjl;obtain ⟨r,hrc,hrf,HR⟩:=hrow.get_ (i+j) (by omega);have hr1:r < 4294967296:=hyd _ (List.mem_of_getElem? HR.out);have hp0:(0:Int)<=x * y:=Int.mul_nonneg (by omega) (by omega);have hp1:(x:Int) * y<=4294967295 * 4294967295:=Int.mul_le_mul (by omega) (by omega) (by omega) (by omega);have HS:=fun d c'=>ja8.step (d:=d) (c':=c') hrow hyl hyd hval hdr hext (Nat.le_refl _) (by omega) HR HY
         have HS2:=Lib.hid HS;clear HJ hrow hyl hyd hval hdr hext hyl2 HS
         go_wp2_with (first
          | (go_at_call 168; refine (vbv _ _ _ (by omega) (by omega) (by omega) (by omega)).mono ?_; rintro e w' ⟨rfl,rfl⟩)
          | (go_at_call 142; refine (add32 _ _ 0 _ (by omega) (by omega) (by omega) (by omega) (by omega) (by omega)).mono ?_; rintro e w' ⟨rfl,rfl⟩))
         go_roundw
         case rel =>
          have e1:(x:Int) * y=((x * y:Nat):Int):=by simp
          have hcc':(x * y+r+cc) / B32 < 4294967296:=by
           rw [jg]; rw [e1] at hp1; omega
          refine ⟨j+1,(x * y+r+cc) / B32,by omega,by go_num,?_,hcc',?_⟩
          · rw [e1,jg]; congr 1; omega
          · have:=HS2.out _ _ rfl rfl;rw [e1,show ((((x * y:Nat):Int)+r+cc) % 4294967296)=(((x * y+r+cc) % B32:Nat):Int) from by rw [jg]; omega];exact this
         case measure=>simp [intOf]; omega
       · obtain rfl:j=es.length:=by omega
         obtain ⟨r,hrc,hrf,HR⟩:=hrow.get_ (i+es.length) (by omega);have HS:Hid (qa8 w w.heap.size ds es (i+1) (wr.setCell ⟨w.heap.size,i+es.length,none⟩ (.int .u32 (cc:Int)))):=by
          refine ⟨ys.set (i+es.length) cc,hrow.set_ _ _,by rw [List.length_set]; exact hyl2,hyd.set _ _ (by rw [jg]; exact hcc),?_,?_,hext.setCell (by simp) _⟩
          · rw [show i+1+es.length=(i+es.length)+1 from by omega,qw ys _ _ (by omega),xac,List.length_take,Nat.min_eq_left (by omega),hval,HVAL.out,vg HX,
             List.take_of_length_le (Nat.le_refl _),Nat.add_mul,Nat.mul_assoc]
          · rw [show i+1+es.length=(i+es.length)+1 from by omega,<- List.drop_drop (i:=1) (j:=i+es.length),List.drop_set,if_neg (by omega),Nat.sub_self,hdr,HZERO.out];obtain ⟨q,hq⟩:∃ q,ds.length - i=q+1:=⟨ds.length - i - 1,by omega⟩;rw [hq,List.replicate_succ,show ds.length - (i+1)=q from by omega]
            rfl
         clear HJ hrow hyl hyd hval hdr hext hyl2;go_wp2_with fail
         go_roundw
         case rel=>exact ⟨i+1,by omega,by go_num,HS⟩
         case measure=>simp [intOf]; omega
  · obtain rfl:i=ds.length:=by omega
    obtain ⟨zs,hrow,hzl,hzd,hval,hzero,hext⟩:=HI.out;have HN:Hid (jc wr (.slice (some ⟨w.heap.size,0,none⟩) (ds.length+es.length) (ds.length+es.length)) zs):=by
     have:=hrow.natV hzd (ds.length+es.length) (by omega) (by omega);rw [hzl] at this;exact this
    have HV:Hid (val zs=val ds * val es):=by
     have:=hval;rw [List.take_of_length_le (by omega),List.take_of_length_le (by omega)] at this;exact this
    have HL:=Lib.hid hzl;have HX:=Lib.hid hext;clear HI hrow hzl hzd hval hzero hext;go_wp2_with fail;go_ret;exact ⟨_,zs,rfl,HN.out,HL.out,HV.out,yz.mk _ _ _ _ (Nat.le_refl _),HX.out⟩
/- Layer 1 (natural): adding into digits, the only function that writes into what it is given. -/
set_option maxRecDepth 100000
set_option maxHeartbeats 8000000
def vak (w0:World) (g off:Nat) (zs xs:List Nat) (k c:Nat) (wr:World):Prop:=
 ∃ ys:List Nat,Row wr g ys/\ys.length=zs.length/\qg ys/\ys.take off=zs.take off/\ys.drop (off+k)=zs.drop (off+k) /\
   val ((ys.drop off).take k)+B32 ^ k * c=val ((zs.drop off).take k)+val (xs.take k)/\Only g w0 wr
theorem vak.step {w0 wr : World} {g off : Nat} {zs xs ys : List Nat} {k c r y d c' : Nat} (hr : Row wr g ys) (hl : ys.length = zs.length) (hd : qg ys) (ht : ys.take off = zs.take off)
 (hdr:ys.drop (off+k)=zs.drop (off+k)) (he:val ((ys.drop off).take k)+B32 ^ k * c=val ((zs.drop off).take k)+val (xs.take k)) (ho:Only g w0 wr)
 (hlt:off+k < ys.length) (hrd:Hid (ys[off+k]?=some r)) (hy:val (xs.take (k+1))=val (xs.take k)+B32 ^ k * y) (hd1:d=(r+y+c) % B32) (hc1:c'=(r+y+c) / B32) :
 vak w0 g off zs xs (k+1) c' (wr.setCell ⟨g,off+k,none⟩ (.int .u32 (d:Int))):=by
 have hr0:Hid ((zs.drop off)[k]?=some r):=by
  have h1:=hrd.out;have h2:ys[off+k]?=(ys.drop (off+k))[0]?:=by rw [List.getElem?_drop]; simp
  have h3:(zs.drop off)[k]?=(zs.drop (off+k))[0]?:=by rw [List.getElem?_drop,List.getElem?_drop]; simp
  rw [h2,hdr,<- h3] at h1;exact h1
 refine ⟨ys.set (off+k) d,hr.set_ _ _,by rw [List.length_set,hl],hd.set _ _ (by rw [hd1]; exact Nat.mod_lt _ zi),?_,?_,?_,ho.setCell _ _⟩
 · rw [List.take_set_of_le (by omega),ht]
 · rw [show off+(k+1)=(off+k)+1 from by omega,<- List.drop_drop (i:=1) (j:=off+k),<- List.drop_drop (i:=1) (j:=off+k),<- hdr,List.drop_set,if_neg (by omega),Nat.sub_self];rcases hq:ys.drop (off+k) with _ | ⟨a,q⟩
   · rfl
   · rfl
 · have hlk:k < (ys.drop off).length:=by rw [List.length_drop]; omega
   rw [List.drop_set,if_neg (by omega),Nat.add_sub_cancel_left,qw _ _ _ hlk,xac,List.length_take,Nat.min_eq_left (by omega),vg hr0,hy,Nat.pow_succ,hd1,hc1];exact ybf _ _ _ _ _ _ _ _ he rfl
def vbs (g off:Nat) (zs:List Nat) (n:Nat) (w:World) (e:Ending) (w':World):Prop:=
 ∃ ys:List Nat,e=.returned (.tuple #[])/\Row w' g ys/\ys.length=zs.length/\qg ys/\ys.take off=zs.take off/\val (ys.drop off)=n/\Only g w w'
theorem ya2 (g off zl zc : Nat) (zs xs : List Nat) (X : Option Addr) (xc : Nat) (w : World) (hrow : Row w g zs) (hzd : qg zs) (hzl : zs.length = off + zl) (hzc : zl <= zc) (hzc' : zc <= 35184372088832)
 (hx:qi w X xs) (hxa:∀ ad,X=some ad->ad.block ≠ g) (hlx:xs.length<=zl) (hxc:xs.length<=xc) (hxc':xc<=9223372036854775807) (hfit:val (zs.drop off)+val xs < B32 ^ zl) :
 Calls Tryz.prog 154 #[.slice (some ⟨g,off,none⟩) zl zc,.slice X xs.length xc] w (vbs g off zs (val (zs.drop off)+val xs) w):=by
 have HINV:Hid (vak w g off zs xs 0 0 w):=⟨zs,hrow,rfl,hzd,rfl,rfl,by simp,Only.refl _ _⟩;have HX:=Lib.hid hx;have HXA:=Lib.hid hxa;have HFIT:=Lib.hid hfit;have HZL:=Lib.hid hzl;clear hx hxa hfit hrow hzd hzl;go_enter Tryz.func154,Tryz.ntmps154;go_wp2_with fail
 go_loopw [4,10] (fun cv iv wr=>∃ k c:Nat,k<=xs.length/\iv=.int .i64 k/\cv=.int .u32 c/\c<=1/\Hid (vak w g off zs xs k c wr)) (fun _ iv _=>xs.length - (intOf iv).toNat)
 case atStart=>exact ⟨0,0,by omega,rfl,rfl,by omega,HINV⟩
 case round =>
  clear HINV;obtain ⟨k,c,hk,rfl,rfl,hc1,HI⟩:=hrel
  by_cases hlt:k < xs.length
  · obtain ⟨ys,hrow,hyl,hyd,htk,hdr,hsum,honly⟩:=HI.out;have hlen:off+k < ys.length:=by have:=HZL.out; omega
    obtain ⟨ad,y,rfl,hb,hcell,hy1,HY⟩:=(HX.out.only honly HXA.out).get_ k hlt;obtain ⟨r,hrc,hrf,HR⟩:=hrow.get_ (off+k) hlen;have hr1:r < 4294967296:=hyd _ (List.mem_of_getElem? HR.out);have HS:=Lib.hid (fun d c'=>vak.step (d:=d) (c':=c') hrow hyl hyd htk hdr hsum honly hlen HR (vg HY));clear HI hrow hyl hyd htk hdr hsum honly hlen;go_wp2_with (go_at_call 142; refine (add32 _ _ _ _ (by omega) (by omega) (by omega) (by omega) (by omega) (by omega)).mono ?_; rintro e w' ⟨rfl,rfl⟩)
    go_roundw
    case rel =>
     refine ⟨k+1,(r+y+c) / B32,by omega,by go_num,by rw [jg]; congr 1,by rw [jg]; omega,?_⟩;have:=HS.out _ _ rfl rfl;rw [show (((r:Int)+y+c) % 4294967296)=(((r+y+c) % B32:Nat):Int) from by rw [jg]; omega];exact this
    case measure=>simp [intOf]; omega
  · obtain rfl:k=xs.length:=by omega
    go_wp2_with fail
    go_loopw [4,7] (fun cv iv wr=>∃ k c:Nat,xs.length<=k/\k<=zl/\iv=.int .i64 k/\cv=.int .u32 c/\c<=1/\Hid (vak w g off zs xs k c wr)) (fun _ iv _=>zl - (intOf iv).toNat)
    case atStart=>exact ⟨xs.length,c,Nat.le_refl _,hlx,rfl,rfl,hc1,HI⟩
    case round =>
     clear HI hc1;obtain ⟨k,c,hk0,hk,rfl,rfl,hc1,HI⟩:=hrel;obtain ⟨ys,hrow,hyl,hyd,htk,hdr,hsum,honly⟩:=HI.out;have hdone:c=0->vbs g off zs (val (zs.drop off)+val xs) w (.returned (.tuple #[])) wr:=by
      intro hc0;refine ⟨ys,rfl,hrow,hyl,hyd,htk,?_,honly⟩;have hl2:k<=(ys.drop off).length:=by rw [List.length_drop]; have:=HZL.out; omega
      have hl3:k<=(zs.drop off).length:=by rw [List.length_drop]; have:=HZL.out; omega
      have e1:=ui (ys.drop off) k hl2;have e2:=ui (zs.drop off) k hl3;rw [List.drop_drop] at e1 e2;rw [hc0,Nat.mul_zero,Nat.add_zero,List.take_of_length_le hk0] at hsum;rw [e1,e2,hdr,hsum];omega
     by_cases hc0:c=0
     · have HD:=Lib.hid (hdone hc0);have hcb:((c:Int) != 0)=false:=by simp [hc0]
       clear HI hrow hyl hyd htk hdr hsum honly hdone;subst hc0;go_wp2_with fail
       go_end0
       exact HD.out
     · obtain rfl:c=1:=by omega
       have hklt:k < zl:=by
        rcases Nat.lt_or_ge k zl with h | h
        · exact h
        · exfalso
          obtain rfl:k=zl:=by omega
          have hb:=HFIT.out;have hzl:=HZL.out;rw [Nat.mul_one,List.take_of_length_le (by rw [List.length_drop]; omega),List.take_of_length_le (by rw [List.length_drop]; omega),List.take_of_length_le hk0] at hsum;omega
       have hlen:off+k < ys.length:=by have:=HZL.out; omega
       obtain ⟨r,hrc,hrf,HR⟩:=hrow.get_ (off+k) hlen;have hr1:r < 4294967296:=hyd _ (List.mem_of_getElem? HR.out);have HS:=Lib.hid (fun d c'=>vak.step (d:=d) (c':=c') hrow hyl hyd htk hdr hsum honly hlen HR (yam hk0));clear HI hrow hyl hyd htk hdr hsum honly hlen hdone;go_wp2_with (go_at_call 142; refine (add32 _ 0 _ _ (by omega) (by omega) (by omega) (by omega) (by omega) (by omega)).mono ?_; rintro e w' ⟨rfl,rfl⟩)
       go_roundw
       case rel =>
        refine ⟨k+1,(r+0+1) / B32,by omega,by omega,by go_num,by rw [jg]; congr 1,by rw [jg]; omega,?_⟩;have:=HS.out _ _ rfl rfl;rw [show (((r:Int)+1) % 4294967296)=(((r+0+1) % B32:Nat):Int) from by rw [jg]; omega];exact this
       case measure=>simp [intOf]; omega
/- Layer 1 (natural): copying digits; the product, divided into three. -/
theorem Only.setRow {g:Nat} (w:World) (cs:Array Value):Only g w (w.setRow g cs):=
 ⟨rfl,rfl,rfl,by simp [World.setRow],fun i _ hne=>setRow_other w g i cs (fun e=>hne (by rw [e]))⟩
theorem jaf {w : World} {ops : Array Oper} {rest : List Oper} {o : Oper} {a : Act} {Q : Exit -> Act -> World -> Prop} (hgd : o.guard = none) (d s : Operand)
 (ho:o.op=.call { callee:=.builtin .copy,args:=#[d,s],argTypes:=#[31,31] })
 (g off dLen dCap:Nat) (S:Option Addr) (sCap:Nat) (xs zs:List Nat) (hd:a.eval d=.slice (some ⟨g,off,none⟩) dLen dCap) (hs:a.eval s=.slice S xs.length sCap)
 (hrow:Row w g zs) (hx:qi w S xs) (hle:xs.length<=dLen) (hfit:off+xs.length<=zs.length)
 (h:∀ w',Row w' g (zs.take off ++ (xs ++ zs.drop (off+xs.length)))->Only g w w'->wpList Tryz.prog ops Q rest (a.put o.dst (goInt xs.length)) w'):wpList Tryz.prog ops Q (o :: rest) a w:=by
 by_cases h0:xs.length=0
 · have hxs:xs=[]:=List.eq_nil_of_length_eq_zero h0;subst hxs;refine wpList_copy_nothing hgd d s _ _ ho 90 Tryz.underlying31 za3 _ _ _ _ _ _ hd hs (by simp) ?_;exact h w (by simpa using hrow) (Only.refl _ _)
 · obtain ⟨ad,e,hb,hc⟩:=hx.2 (by omega);subst e
   have hcopy := wpList_copy_own (P := Tryz.prog) (w := w) (ops := ops) (rest := rest) (o := o) (a := a) (Q := Q) hgd d s _ _ ho 90 Tryz.underlying31 za3 g off dLen dCap ad xs.length sCap hd hs
    (qo zs).toArray 90 hrow (qo xs) (by rw [qx]; exact (Nat.min_eq_left hle).symm)
    (fun j v hj=>by
      have hjl:j < xs.length:=by
       rcases Nat.lt_or_ge j xs.length with hj' | hj'
       · exact hj'
       · rw [List.getElem?_eq_none (by rw [qx]; exact hj')] at hj; cases hj
      rw [zat xs j hjl] at hj
      rw [hc j hjl,hj])
    (by rw [qx]; simpa [qx] using hfit) (ube xs)
   apply hcopy;rw [qx];refine h _ ?_ (Only.setRow _ _);have:=setRow_heap w g _ ((qo zs).toArray.toList.take off ++ (qo xs ++ (qo zs).toArray.toList.drop (off+xs.length))).toArray 90 _ hrow;unfold Row;rw [this];simp [qo]
theorem qi.natTake {w:World} {A:Option Addr} {ds:List Nat} (h:qi w A ds) (k c:Nat) (hk:k<=ds.length) (hc:ds.length<=c) (hc':c<=9223372036854775807):jc w (.slice A k c) (ds.take k):=
 ⟨A,c,by rw [List.length_take,Nat.min_eq_left hk],by rw [List.length_take]; omega,hc',h.take k⟩
theorem qi.natDrop {w:World} {ad:Addr} {ds:List Nat} (h:qi w (some ad) ds) (k c:Nat) (hk:k < ds.length) (hc:ds.length<=c) (hc':c<=9223372036854775807) :
 jc w (.slice (some (ad.add k)) (ds.length - k) (c - k)) (ds.drop k):=by
 have:=h.drop k c (by omega) hc;rw [if_neg (by omega)] at this;exact ⟨_,c - k,by rw [List.length_drop]; rfl,by rw [List.length_drop]; omega,by omega,this⟩
def jan (W w':World) (v:Value) (l n:Nat):Prop:=∃ zs,jc w' v zs/\zs.length=l/\val zs=n/\yz W.heap.size v/\Ext W w'
theorem jan.ext {W w' w'':World} {v:Value} {l n:Nat} (h:jan W w' v l n) (hx:Ext w' w''):jan W w'' v l n:=by
 obtain ⟨zs,h1,h2,h3,h4,h5⟩:=h;exact ⟨zs,h1.ext hx,h2,h3,h4,h5.trans hx⟩
theorem ya4 {zs:List Nat} {half L mid total:Nat} (hl:zs.length=L) (hh:half<=L) (he:val zs+B32 ^ half * mid=total) (ht:total < B32 ^ L) :
 val (zs.drop half)+mid < B32 ^ (L - half):=by
 have e:=ui zs half (by omega);have e2:B32 ^ L=B32 ^ half * B32 ^ (L - half):=by rw [<- Nat.pow_add]; congr 1; omega
 have:B32 ^ half * (val (zs.drop half)+mid) < B32 ^ half * B32 ^ (L - half):=by
  rw [<- e2,Nat.mul_add]; omega
 exact Nat.lt_of_mul_lt_mul_left this
theorem qbj {zs ys : List Nat} {half L mid total : Nat} (hl : zs.length = L) (hl' : ys.length = L) (hh : half <= L) (he : val zs + B32 ^ half * mid = total) (htk : ys.take half = zs.take half)
 (hv:val (ys.drop half)=val (zs.drop half)+mid):val ys=total:=by
 have e:=ui zs half (by omega);have e':=ui ys half (by omega);rw [e',htk,hv,Nat.mul_add];omega
end Go.Proofs.YtklnlgnnlmdibaaGreat
