/- Layer 1 (natural): products, digit by digit. -/
import Derived.Test.YtheefiaoimbeiaaGreatDoorMp1
set_option linter.unusedSimpArgs false
set_option linter.unusedVariables false
set_option maxRecDepth 100000
set_option maxHeartbeats 8000000
namespace Go.Proofs.YtheefiaoimbeiaaGreatDoor
open Lib (hid)
open Go.RowKit
def web (l n:Nat) (w:World) (e:Ending) (w':World):Prop:=∃ v zs,e=.returned v/\zb1 w' v zs/\zs.length=l/\val zs=n/\zdo w.heap.size v/\Ext w w'
def qeu (w0:World) (g:Nat) (ds es:List Nat) (i:Nat) (wr:World):Prop:=
 ∃ zs:List Nat,Row wr g zs/\zs.length=ds.length+es.length/\kdk zs/\val (zs.take (i+es.length))=val (ds.take i) * val es/\zs.drop (i+es.length)=List.replicate (ds.length - i) 0/\Ext w0 wr
def jeu (w0:World) (g:Nat) (z0:List Nat) (i x:Nat) (es:List Nat) (j:Nat) (c:Nat) (wr:World):Prop:=
 ∃ zs:List Nat,Row wr g zs/\zs.length=z0.length/\kdk zs/\val (zs.take (i+j))+B32 ^ (i+j) * c=val (z0.take (i+j))+B32 ^ i * (x * val (es.take j))/\zs.drop (i+j)=z0.drop (i+j)/\Ext w0 wr
theorem jf1 (Z Z0 P Q c x y r E s:Nat) (hz:Z+P * Q * c=Z0+P * (x * E)) (hs:s=x * y+r+c) :
 (Z+P * Q * (s % B32))+P * Q * B32 * (s / B32)=(Z0+P * Q * r)+P * (x * (E+Q * y)):=by
 have e:P * Q * (s % B32)+P * Q * B32 * (s / B32)=P * Q * s:=by rw [pS (P * Q),<- pD,rT]
 have e2:P * Q * s=P * Q * (x * y)+P * Q * r+P * Q * c:=by rw [hs,pD,pD]
 have e3:P * (x * (E+Q * y))=P * (x * E)+P * Q * (x * y):=by
  rw [pD,pD,sT x Q y,pS P Q]
 omega
theorem jeu.step {w0 wr : World} {g : Nat} {z0 es zs : List Nat} {i x j c y r d c' : Nat} (hr : Row wr g zs) (hl : zs.length = z0.length) (hd : kdk zs)
 (he:val (zs.take (i+j))+B32 ^ (i+j) * c=val (z0.take (i+j))+B32 ^ i * (x * val (es.take j))) (hdr:zs.drop (i+j)=z0.drop (i+j)) (hx:Ext w0 wr)
 (hg:w0.heap.size<=g) (hlt:i+j < zs.length) (hrd:Hid (zs[i+j]?=some r)) (hy:Hid (es[j]?=some y)) (hd1:d=(x * y+r+c) % B32) (hc1:c'=(x * y+r+c) / B32) :
 jeu w0 g z0 i x es (j+1) c' (wr.setCell ⟨g,i+j,none⟩ (.int .u32 (d:Int))):=by
 refine ⟨zs.set (i+j) d,hr.qG _ _,by rw [pN,hl],hd.set _ _ (by rw [hd1]; exact rN _ kdm),?_,?_,hx.setCell (by simpa using hg) _⟩
 · have hr0:Hid (z0[i+j]?=some r):=by
    have h1:=hrd.out;have h2:zs[i+j]?=(zs.drop (i+j))[0]?:=by rw [se]; simp
    have h3:z0[i+j]?=(z0.drop (i+j))[0]?:=by rw [se]; simp
    rw [h2,hdr,<- h3] at h1;exact h1
   rw [show i+(j+1)=(i+j)+1 from by omega,kdt zs (i+j) d hlt,xdy,px,rh (by omega),udk hr0,udk hy,pP,su];rw [su] at he;rw [hd1,hc1];exact jf1 _ _ _ _ _ _ _ _ _ _ he rfl
 · rw [show i+(j+1)=(i+j)+1 from by omega,<- sj (i:=1) (j:=i+j),<- sj (i:=1) (j:=i+j),<- hdr,tF];rw [if_neg (by omega),Nat.sub_self,sj];rcases hq:zs.drop (i+j) with _ | ⟨a,q⟩
   · have:=congrArg List.length hq; simp at this; omega
   · rw [<- sj,hq]; rfl
theorem geu (u v:Value) (ds es:List Nat) (w:World) (h:zb1 w u ds) (k:zb1 w v es) (hs:ds.length+es.length<=35184372088000) :
 Calls Tryz.prog 156 #[u,v] w (web (ds.length+es.length) (val ds * val es) w):=by
 obtain ⟨A,c,rfl,h1,h2,h3⟩:=h;obtain ⟨A',c',rfl,h1',h2',h3'⟩:=k;have G5:=hid h3;have G6:=hid h3';clear h3 h3';have hmk:=fun W=>xdu ((ds.length:Int)+es.length) (by omega) (by omega) W
 go_enter Tryz.func156,Tryz.ntmps156;go_wp2_with fail
 have hinv:qeu w w.heap.size ds es 0 (w.alloc (Obj.cells (jdq (List.replicate (ds.length+es.length) 0)).toArray 108)):=
  ⟨List.replicate (ds.length+es.length) 0,Row.new w _,by simp,kdk.replicate _,by simp [wdv],by simp,(Ext.refl _).alloc _⟩
 have ace:=hid hinv;clear hinv
 go_loopw [23] (fun i wr=>∃ k:Nat,k<=ds.length/\i=.int .i64 k/\Hid (qeu w w.heap.size ds es k wr)) (fun i _=>ds.length - (intOf i).toNat)
 case atStart=>exact ⟨0,by omega,rfl,ace⟩
 case round =>
  clear ace;obtain ⟨i,hi,rfl,HI⟩:=hrel
  by_cases hlt:i < ds.length
  · obtain ⟨zs,aaC,hzl,hzd,ab2,hzero,ab1⟩:=HI.out;obtain ⟨ad,x,rfl,hb,abZ,hx1,HX⟩:=(G5.out.ext ab1).qt i hlt
    by_cases hx0:x=0
    · have HS:Hid (qeu w w.heap.size ds es (i+1) wr):=by
       refine ⟨zs,aaC,hzl,hzd,?_,?_,ab1⟩
       · have hz:Hid (zs[i+es.length]?=some 0):=by
          have h2:zs[i+es.length]?=(zs.drop (i+es.length))[0]?:=by rw [se]; simp
          have:zs[i+es.length]?=some 0:=by
           rw [h2,hzero];simp [List.getElem?_replicate]; omega
          exact this
         rw [show i+1+es.length=(i+es.length)+1 from by omega,udk hz,ab2,udk HX,hx0];simp
       · rw [show i+1+es.length=(i+es.length)+1 from by omega,<- sj (i:=1) (j:=i+es.length),hzero];simp; omega
      subst hx0;clear HI aaC hzl hzd ab2 hzero ab1;go_wp2_with fail
      go_roundw
      case rel=>exact ⟨i+1,by omega,by go_num,HS⟩
      case measure=>simp [intOf]; omega
    · have aBr:¬ (ds.length+es.length=i):=by omega
      have hxb:((x:Int) == 0)=false:=by simp; omega
      have hin:jeu w w.heap.size zs i x es 0 0 wr:=⟨zs,aaC,rfl,hzd,by simp,rfl,ab1⟩;have HIN:=hid hin;have ajX:=hid ab2;have asM:=hid hzero;have HZL:=hid hzl;clear HI aaC hzl hzd ab2 hzero ab1 hin;go_wp2_with fail;obtain ⟨wo,rfl⟩:∃ wo:World,wo=wr:=⟨_,rfl⟩
      go_loopw [9,35] (fun cv jv wq=>∃ j cc:Nat,j<=es.length/\jv=.int .i64 j/\cv=.int .u32 cc/\cc < 4294967296/\Hid (jeu w w.heap.size zs i x es j cc wq)) (fun _ jv _=>es.length - (intOf jv).toNat)
      case atStart=>exact ⟨0,0,by omega,rfl,rfl,by omega,HIN⟩
      case round =>
       clear HIN;obtain ⟨j,cc,hj,rfl,rfl,hcc,HJ⟩:=hrel;obtain ⟨ys,aaC,hyl,hyd,ab2,hdr,ab1⟩:=HJ.out;have aou:ys.length=ds.length+es.length:=hyl.trans HZL.out
       by_cases hjl:j < es.length
       · obtain ⟨ad',y,rfl,hb',aej,hy1,HY⟩:=(G6.out.ext ab1).qt j hjl;obtain ⟨r,hrc,hrf,HR⟩:=aaC.qt (i+j) (by omega);have hr1:r < 4294967296:=hyd _ (rH HR.out);have hp0:(0:Int)<=x * y:=Int.mul_nonneg (by omega) (by omega);have hp1:(x:Int) * y<=4294967295 * 4294967295:=tQ (by omega) (by omega) (by omega) (by omega);have HS:=fun d c'=>jeu.step (d:=d) (c':=c') aaC hyl hyd ab2 hdr ab1 (pf _) (by omega) HR HY
         have HS2:=hid HS;clear HJ aaC hyl hyd ab2 hdr ab1 aou HS
         go_wp2_with (first
          | (go_at_call 172; refine (ufi _ _ _ (by omega) (by omega) (by omega) (by omega)).mono ?_; rintro e w' ⟨rfl,rfl⟩)
          | (go_at_call 141; refine (add32 _ _ 0 _ (by omega) (by omega) (by omega) (by omega) (by omega) (by omega)).mono ?_; rintro e w' ⟨rfl,rfl⟩))
         go_roundw
         case rel =>
          have e1:(x:Int) * y=((x * y:Nat):Int):=by simp
          have av3:(x * y+r+cc) / B32 < 4294967296:=by
           rw [vdk]; rw [e1] at hp1; omega
          refine ⟨j+1,(x * y+r+cc) / B32,by omega,by go_num,?_,av3,?_⟩
          · rw [e1,vdk]; congr 1; omega
          · have:=HS2.out _ _ rfl rfl;rw [e1,show ((((x * y:Nat):Int)+r+cc) % 4294967296)=(((x * y+r+cc) % B32:Nat):Int) from by rw [vdk]; omega];exact this
         case measure=>simp [intOf]; omega
       · obtain rfl:j=es.length:=by omega
         obtain ⟨r,hrc,hrf,HR⟩:=aaC.qt (i+es.length) (by omega);have HS:Hid (qeu w w.heap.size ds es (i+1) (wr.setCell ⟨w.heap.size,i+es.length,none⟩ (.int .u32 (cc:Int)))):=by
          refine ⟨ys.set (i+es.length) cc,aaC.qG _ _,by rw [pN]; exact aou,hyd.set _ _ (by rw [vdk]; exact hcc),?_,?_,ab1.setCell (by simp) _⟩
          · rw [show i+1+es.length=(i+es.length)+1 from by omega,kdt ys _ _ (by omega),xdy,px,rh (by omega),ab2,ajX.out,udk HX,
             pA (pf _),pT,pS]
          · rw [show i+1+es.length=(i+es.length)+1 from by omega,<- sj (i:=1) (j:=i+es.length),tF,if_neg (by omega),Nat.sub_self,hdr,asM.out];obtain ⟨q,hq⟩:∃ q,ds.length - i=q+1:=⟨ds.length - i - 1,by omega⟩;rw [hq,List.replicate_succ,show ds.length - (i+1)=q from by omega]
            rfl
         clear HJ aaC hyl hyd ab2 hdr ab1 aou;go_wp2_with fail
         go_roundw
         case rel=>exact ⟨i+1,by omega,by go_num,HS⟩
         case measure=>simp [intOf]; omega
  · obtain rfl:i=ds.length:=by omega
    obtain ⟨zs,aaC,hzl,hzd,ab2,hzero,ab1⟩:=HI.out;have HN:Hid (zb1 wr (.slice (some ⟨w.heap.size,0,none⟩) (ds.length+es.length) (ds.length+es.length)) zs):=by
     have:=aaC.zA hzd (ds.length+es.length) (by omega) (by omega);rw [hzl] at this;exact this
    have HV:Hid (val zs=val ds * val es):=by
     have:=ab2;rw [pA (by omega),pA (by omega)] at this;exact this
    have HL:=hid hzl;have HX:=hid ab1;clear HI aaC hzl hzd ab2 hzero ab1;go_wp2_with fail;go_ret;exact ⟨_,zs,rfl,HN.out,HL.out,HV.out,zdo.mk _ _ _ _ (pf _),HX.out⟩
def xd9 (w0:World) (g off:Nat) (zs xs:List Nat) (k c:Nat) (wr:World):Prop:=
 ∃ ys:List Nat,Row wr g ys/\ys.length=zs.length/\kdk ys/\ys.take off=zs.take off/\ys.drop (off+k)=zs.drop (off+k) /\
   val ((ys.drop off).take k)+B32 ^ k * c=val ((zs.drop off).take k)+val (xs.take k)/\Only g w0 wr
theorem xd9.step {w0 wr : World} {g off : Nat} {zs xs ys : List Nat} {k c r y d c' : Nat} (hr : Row wr g ys) (hl : ys.length = zs.length) (hd : kdk ys) (ht : ys.take off = zs.take off)
 (hdr:ys.drop (off+k)=zs.drop (off+k)) (he:val ((ys.drop off).take k)+B32 ^ k * c=val ((zs.drop off).take k)+val (xs.take k)) (ho:Only g w0 wr)
 (hlt:off+k < ys.length) (hrd:Hid (ys[off+k]?=some r)) (hy:val (xs.take (k+1))=val (xs.take k)+B32 ^ k * y) (hd1:d=(r+y+c) % B32) (hc1:c'=(r+y+c) / B32) :
 xd9 w0 g off zs xs (k+1) c' (wr.setCell ⟨g,off+k,none⟩ (.int .u32 (d:Int))):=by
 have hr0:Hid ((zs.drop off)[k]?=some r):=by
  have h1:=hrd.out;have h2:ys[off+k]?=(ys.drop (off+k))[0]?:=by rw [se]; simp
  have h3:(zs.drop off)[k]?=(zs.drop (off+k))[0]?:=by rw [se,se]; simp
  rw [h2,hdr,<- h3] at h1;exact h1
 refine ⟨ys.set (off+k) d,hr.qG _ _,by rw [pN,hl],hd.set _ _ (by rw [hd1]; exact rN _ kdm),?_,?_,?_,ho.setCell _ _⟩
 · rw [tU (by omega),ht]
 · rw [show off+(k+1)=(off+k)+1 from by omega,<- sj (i:=1) (j:=off+k),<- sj (i:=1) (j:=off+k),<- hdr,tF,if_neg (by omega),Nat.sub_self];rcases hq:ys.drop (off+k) with _ | ⟨a,q⟩
   · rfl
   · rfl
 · have hlk:k < (ys.drop off).length:=by rw [pL]; omega
   rw [tF,if_neg (by omega),ug,kdt _ _ _ hlk,xdy,px,rh (by omega),udk hr0,hy,pP,hd1,hc1];exact qe2 _ _ _ _ _ _ _ _ he rfl
def wfe (g off:Nat) (zs:List Nat) (n:Nat) (w:World) (e:Ending) (w':World):Prop:=
 ∃ ys:List Nat,e=.returned (.tuple #[])/\Row w' g ys/\ys.length=zs.length/\kdk ys/\ys.take off=zs.take off/\val (ys.drop off)=n/\Only g w w'
theorem keo (g off zl zc : Nat) (zs xs : List Nat) (X : Option Addr) (xc : Nat) (w : World) (aaC : Row w g zs) (hzd : kdk zs) (hzl : zs.length = off + zl) (hzc : zl <= zc) (aqy : zc <= 35184372088832)
 (hx:ydm w X xs) (hxa:∀ ad,X=some ad->ad.block ≠ g) (hlx:xs.length<=zl) (hxc:xs.length<=xc) (aAb:xc<=9223372036854775807) (agk:val (zs.drop off)+val xs < B32 ^ zl) :
 Calls Tryz.prog 157 #[.slice (some ⟨g,off,none⟩) zl zc,.slice X xs.length xc] w (wfe g off zs (val (zs.drop off)+val xs) w):=by
 have ace:Hid (xd9 w g off zs xs 0 0 w):=⟨zs,aaC,rfl,hzd,rfl,rfl,by simp,Only.refl _ _⟩;have HX:=hid hx;have HXA:=hid hxa;have aw9:=hid agk;have HZL:=hid hzl;clear hx hxa agk aaC hzd hzl;go_enter Tryz.func157,Tryz.ntmps157;go_wp2_with fail
 go_loopw [4,10] (fun cv iv wr=>∃ k c:Nat,k<=xs.length/\iv=.int .i64 k/\cv=.int .u32 c/\c<=1/\Hid (xd9 w g off zs xs k c wr)) (fun _ iv _=>xs.length - (intOf iv).toNat)
 case atStart=>exact ⟨0,0,by omega,rfl,rfl,by omega,ace⟩
 case round =>
  clear ace;obtain ⟨k,c,hk,rfl,rfl,hc1,HI⟩:=hrel
  by_cases hlt:k < xs.length
  · obtain ⟨ys,aaC,hyl,hyd,htk,hdr,hsum,agb⟩:=HI.out;have hlen:off+k < ys.length:=by have:=HZL.out; omega
    obtain ⟨ad,y,rfl,hb,abZ,hy1,HY⟩:=(HX.out.only agb HXA.out).qt k hlt;obtain ⟨r,hrc,hrf,HR⟩:=aaC.qt (off+k) hlen;have hr1:r < 4294967296:=hyd _ (rH HR.out);have HS:=hid (fun d c'=>xd9.step (d:=d) (c':=c') aaC hyl hyd htk hdr hsum agb hlen HR (udk HY));clear HI aaC hyl hyd htk hdr hsum agb hlen;go_wp2_with (go_at_call 141; refine (add32 _ _ _ _ (by omega) (by omega) (by omega) (by omega) (by omega) (by omega)).mono ?_; rintro e w' ⟨rfl,rfl⟩)
    go_roundw
    case rel =>
     refine ⟨k+1,(r+y+c) / B32,by omega,by go_num,by rw [vdk]; congr 1,by rw [vdk]; omega,?_⟩;have:=HS.out _ _ rfl rfl;rw [show (((r:Int)+y+c) % 4294967296)=(((r+y+c) % B32:Nat):Int) from by rw [vdk]; omega];exact this
    case measure=>simp [intOf]; omega
  · obtain rfl:k=xs.length:=by omega
    go_wp2_with fail
    go_loopw [4,7] (fun cv iv wr=>∃ k c:Nat,xs.length<=k/\k<=zl/\iv=.int .i64 k/\cv=.int .u32 c/\c<=1/\Hid (xd9 w g off zs xs k c wr)) (fun _ iv _=>zl - (intOf iv).toNat)
    case atStart=>exact ⟨xs.length,c,pf _,hlx,rfl,rfl,hc1,HI⟩
    case round =>
     clear HI hc1;obtain ⟨k,c,hk0,hk,rfl,rfl,hc1,HI⟩:=hrel;obtain ⟨ys,aaC,hyl,hyd,htk,hdr,hsum,agb⟩:=HI.out;have ag5:c=0->wfe g off zs (val (zs.drop off)+val xs) w (.returned (.tuple #[])) wr:=by
      intro hc0;refine ⟨ys,rfl,aaC,hyl,hyd,htk,?_,agb⟩;have hl2:k<=(ys.drop off).length:=by rw [pL]; have:=HZL.out; omega
      have hl3:k<=(zs.drop off).length:=by rw [pL]; have:=HZL.out; omega
      have e1:=ydn (ys.drop off) k hl2;have e2:=ydn (zs.drop off) k hl3;rw [sj] at e1 e2;rw [hc0,sQ,sx,pA hk0] at hsum;rw [e1,e2,hdr,hsum];omega
     by_cases hc0:c=0
     · have HD:=hid (ag5 hc0);have hcb:((c:Int) != 0)=false:=by simp [hc0]
       clear HI aaC hyl hyd htk hdr hsum agb ag5;subst hc0;go_wp2_with fail
       go_end0
       exact HD.out
     · obtain rfl:c=1:=by omega
       have aA6:k < zl:=by
        rcases rz k zl with h | h
        · exact h
        · exfalso
          obtain rfl:k=zl:=by omega
          have hb:=aw9.out;have hzl:=HZL.out;rw [th,pA (by rw [pL]; omega),pA (by rw [pL]; omega),pA hk0] at hsum;omega
       have hlen:off+k < ys.length:=by have:=HZL.out; omega
       obtain ⟨r,hrc,hrf,HR⟩:=aaC.qt (off+k) hlen;have hr1:r < 4294967296:=hyd _ (rH HR.out);have HS:=hid (fun d c'=>xd9.step (d:=d) (c':=c') aaC hyl hyd htk hdr hsum agb hlen HR (uea hk0));clear HI aaC hyl hyd htk hdr hsum agb hlen ag5;go_wp2_with (go_at_call 141; refine (add32 _ 0 _ _ (by omega) (by omega) (by omega) (by omega) (by omega) (by omega)).mono ?_; rintro e w' ⟨rfl,rfl⟩)
       go_roundw
       case rel =>
        refine ⟨k+1,(r+0+1) / B32,by omega,by omega,by go_num,by rw [vdk]; congr 1,by rw [vdk]; omega,?_⟩;have:=HS.out _ _ rfl rfl;rw [show (((r:Int)+1) % 4294967296)=(((r+0+1) % B32:Nat):Int) from by rw [vdk]; omega];exact this
       case measure=>simp [intOf]; omega
theorem Only.setRow {g:Nat} (w:World) (cs:Array Value):Only g w (w.setRow g cs):=
 ⟨rfl,rfl,rfl,by simp [World.setRow],fun i _ hne=>setRow_other w g i cs (fun e=>hne (by rw [e]))⟩
theorem ud3 {w : World} {ops : Array Oper} {rest : List Oper} {o : Oper} {a : Act} {Q : Exit -> Act -> World -> Prop} (hgd : o.guard = none) (d s : Operand)
 (ho:o.op=.call { callee:=.builtin .copy,args:=#[d,s],argTypes:=#[23,23] })
 (g off dLen dCap:Nat) (S:Option Addr) (sCap:Nat) (xs zs:List Nat) (hd:a.eval d=.slice (some ⟨g,off,none⟩) dLen dCap) (hs:a.eval s=.slice S xs.length sCap)
 (aaC:Row w g zs) (hx:ydm w S xs) (hle:xs.length<=dLen) (agk:off+xs.length<=zs.length)
 (h:∀ w',Row w' g (zs.take off ++ (xs ++ zs.drop (off+xs.length)))->Only g w w'->wpList Tryz.prog ops Q rest (a.put o.dst (goInt xs.length)) w'):wpList Tryz.prog ops Q (o :: rest) a w:=by
 by_cases h0:xs.length=0
 · have hxs:xs=[]:=pV h0;subst hxs;refine wpList_copy_nothing hgd d s _ _ ho 108 uz zep _ _ _ _ _ _ hd hs (by simp) ?_;exact h w (by simpa using aaC) (Only.refl _ _)
 · obtain ⟨ad,e,hb,hc⟩:=hx.2 (by omega);subst e
   have ar2 := wpList_copy_own (P := Tryz.prog) (w := w) (ops := ops) (rest := rest) (o := o) (a := a) (Q := Q) hgd d s _ _ ho 108 uz zep g off dLen dCap ad xs.length sCap hd hs
    (jdq zs).toArray 108 aaC (jdq xs) (by rw [ydu]; exact (rh hle).symm)
    (fun j v hj=>by
      have hjl:j < xs.length:=by
       rcases rz j xs.length with hj' | hj'
       · exact hj'
       · rw [sA (by rw [ydu]; exact hj')] at hj; cases hj
      rw [keg xs j hjl] at hj
      rw [hc j hjl,hj])
    (by rw [ydu]; simpa [ydu] using agk) (ze1 xs)
   apply ar2;rw [ydu];refine h _ ?_ (Only.setRow _ _);have:=setRow_heap w g _ ((jdq zs).toArray.toList.take off ++ (jdq xs ++ (jdq zs).toArray.toList.drop (off+xs.length))).toArray 108 _ aaC;unfold Row;rw [this];simp [jdq]
theorem ydm.xC {w:World} {A:Option Addr} {ds:List Nat} (h:ydm w A ds) (k c:Nat) (hk:k<=ds.length) (hc:ds.length<=c) (hc':c<=9223372036854775807):zb1 w (.slice A k c) (ds.take k):=
 ⟨A,c,by rw [px,rh hk],by rw [px]; omega,hc',h.take k⟩
theorem ydm.xD {w:World} {ad:Addr} {ds:List Nat} (h:ydm w (some ad) ds) (k c:Nat) (hk:k < ds.length) (hc:ds.length<=c) (hc':c<=9223372036854775807) :
 zb1 w (.slice (some (ad.add k)) (ds.length - k) (c - k)) (ds.drop k):=by
 have:=h.drop k c (by omega) hc;rw [if_neg (by omega)] at this;exact ⟨_,c - k,by rw [pL]; rfl,by rw [pL]; omega,by omega,this⟩
def zec (W w':World) (v:Value) (l n:Nat):Prop:=∃ zs,zb1 w' v zs/\zs.length=l/\val zs=n/\zdo W.heap.size v/\Ext W w'
theorem zec.ext {W w' w'':World} {v:Value} {l n:Nat} (h:zec W w' v l n) (hx:Ext w' w''):zec W w'' v l n:=by
 obtain ⟨zs,h1,h2,h3,h4,h5⟩:=h;exact ⟨zs,h1.ext hx,h2,h3,h4,h5.trans hx⟩
theorem wep {zs:List Nat} {half L mid total:Nat} (hl:zs.length=L) (hh:half<=L) (he:val zs+B32 ^ half * mid=total) (ht:total < B32 ^ L) :
 val (zs.drop half)+mid < B32 ^ (L - half):=by
 have e:=ydn zs half (by omega);have e2:B32 ^ L=B32 ^ half * B32 ^ (L - half):=by rw [<- su]; congr 1; omega
 have:B32 ^ half * (val (zs.drop half)+mid) < B32 ^ half * B32 ^ (L - half):=by
  rw [<- e2,pD]; omega
 exact Nat.lt_of_mul_lt_mul_left this
theorem ze6 {zs ys : List Nat} {half L mid total : Nat} (hl : zs.length = L) (hl' : ys.length = L) (hh : half <= L) (he : val zs + B32 ^ half * mid = total) (htk : ys.take half = zs.take half)
 (hv:val (ys.drop half)=val (zs.drop half)+mid):val ys=total:=by
 have e:=ydn zs half (by omega);have e':=ydn ys half (by omega);rw [e',htk,hv,pD];omega
end Go.Proofs.YtheefiaoimbeiaaGreatDoor
