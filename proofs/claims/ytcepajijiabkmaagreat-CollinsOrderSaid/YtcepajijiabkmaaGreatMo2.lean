/- Layer 1 (natural): products, digit by digit. -/
import Derived.Test.YtcepajijiabkmaaGreatMo1
set_option linter.all false
set_option maxRecDepth 100000
set_option maxHeartbeats 8000000
namespace Go.Proofs.YtcepajijiabkmaaGreat
open Lib (hid)
open Go.RowKit
def vav (l n:Nat) (w:World) (e:Ending) (w':World):Prop:=∃ v zs,e=.returned v/\jc w' v zs/\zs.length=l/\val zs=n/\wab w.heap.size v/\Ext w w'
def ubn (w0:World) (g:Nat) (ds es:List Nat) (i:Nat) (wr:World):Prop:=
 ∃ zs:List Nat,Row wr g zs/\zs.length=ds.length+es.length/\ug zs/\val (zs.take (i+es.length))=val (ds.take i) * val es/\zs.drop (i+es.length)=List.replicate (ds.length - i) 0/\Ext w0 wr
def gbn (w0:World) (g:Nat) (z0:List Nat) (i x:Nat) (es:List Nat) (j:Nat) (c:Nat) (wr:World):Prop:=
 ∃ zs:List Nat,Row wr g zs/\zs.length=z0.length/\ug zs/\val (zs.take (i+j))+B32 ^ (i+j) * c=val (z0.take (i+j))+B32 ^ i * (x * val (es.take j))/\zs.drop (i+j)=z0.drop (i+j)/\Ext w0 wr
theorem jc3 (Z Z0 P Q c x y r E s:Nat) (hz:Z+P * Q * c=Z0+P * (x * E)) (hs:s=x * y+r+c) :
 (Z+P * Q * (s % B32))+P * Q * B32 * (s / B32)=(Z0+P * Q * r)+P * (x * (E+Q * y)):=by
 have e:P * Q * (s % B32)+P * Q * B32 * (s / B32)=P * Q * s:=by rw [r9 (P * Q),<- rk,tw]
 have e2:P * Q * s=P * Q * (x * y)+P * Q * r+P * Q * c:=by rw [hs,rk,rk]
 have e3:P * (x * (E+Q * y))=P * (x * E)+P * Q * (x * y):=by
  rw [rk,rk,Pc x Q y,r9 P Q]
 omega
theorem gbn.step {w0 wr : World} {g : Nat} {z0 es zs : List Nat} {i x j c y r d c' : Nat} (hr : Row wr g zs) (hl : zs.length = z0.length) (hd : ug zs)
 (he:val (zs.take (i+j))+B32 ^ (i+j) * c=val (z0.take (i+j))+B32 ^ i * (x * val (es.take j))) (hdr:zs.drop (i+j)=z0.drop (i+j)) (hx:Ext w0 wr)
 (hg:w0.heap.size<=g) (af:i+j < zs.length) (Ha:Hid (zs[i+j]?=some r)) (hy:Hid (es[j]?=some y)) (eH:d=(x * y+r+c) % B32) (bY:c'=(x * y+r+c) / B32) :
 gbn w0 g z0 i x es (j+1) c' (wr.setCell ⟨g,i+j,none⟩ (.int .u32 (d:Int))):=by
 refine ⟨zs.set (i+j) d,hr.xD _ _,by rw [pL,hl],hd.set _ _ (by rw [eH]; exact tg _ yj),?_,?_,hx.setCell (by simpa using hg) _⟩
 · have hr0:Hid (z0[i+j]?=some r):=by
    have h1:=Ha.out;have h2:zs[i+j]?=(zs.drop (i+j))[0]?:=by rw [tW]; simp
    have h3:z0[i+j]?=(z0.drop (i+j))[0]?:=by rw [tW]; simp
    rw [h2,hdr,<- h3] at h1;exact h1
   rw [show i+(j+1)=(i+j)+1 from by omega,yaa zs (i+j) d af,uaf,pA,so (by omega),xh hr0,xh hy,si,wT];rw [wT] at he;rw [eH,bY];exact jc3 _ _ _ _ _ _ _ _ _ _ he rfl
 · rw [show i+(j+1)=(i+j)+1 from by omega,<- tQ (i:=1) (j:=i+j),<- tQ (i:=1) (j:=i+j),<- hdr,RW];rw [if_neg (by omega),Pw,tQ];rcases hq:zs.drop (i+j) with _ | ⟨a,q⟩
   · have:=congrArg List.length hq; simp at this; omega
   · rw [<- tQ,hq]; rfl
theorem qbo (u v:Value) (ds es:List Nat) (w:World) (h:jc w u ds) (k:jc w v es) (hs:ds.length+es.length<=35184372088000) :
 Calls Tryz.prog 139 #[u,v] w (vav (ds.length+es.length) (val ds * val es) w):=by
 obtain ⟨A,c,rfl,h1,h2,h3⟩:=h;obtain ⟨A',c',rfl,jR,mD,kZ⟩:=k;have G5:=hid h3;have G6:=hid kZ;clear h3 kZ;have dA:=fun W=>qab ((ds.length:Int)+es.length) (by omega) (by omega) W
 go_enter Tryz.func139,Tryz.ntmps139;go_wp2_with fail
 have hinv:ubn w w.heap.size ds es 0 (w.alloc (Obj.cells (yu (List.replicate (ds.length+es.length) 0)).toArray 84)):=
  ⟨List.replicate (ds.length+es.length) 0,Row.new w _,by simp,ug.replicate _,by simp [uac],by simp,(Ext.refl _).alloc _⟩
 have cZ:=hid hinv;clear hinv
 go_loopw [23] (fun i wr=>∃ k:Nat,k<=ds.length/\i=.int .i64 k/\Hid (ubn w w.heap.size ds es k wr)) (fun i _=>ds.length - (intOf i).toNat)
 case atStart=>exact ⟨0,by omega,rfl,cZ⟩
 case round =>
  clear cZ;obtain ⟨i,hi,rfl,HI⟩:=hrel
  by_cases af:i < ds.length
  · obtain ⟨zs,ae,eF,fA,aJ,hzero,aA⟩:=HI.out;obtain ⟨ad,x,rfl,hb,aj,hx1,HX⟩:=(G5.out.ext aA).xS i af
    by_cases aC:x=0
    · have HS:Hid (ubn w w.heap.size ds es (i+1) wr):=by
       refine ⟨zs,ae,eF,fA,?_,?_,aA⟩
       · have hz:Hid (zs[i+es.length]?=some 0):=by
          have h2:zs[i+es.length]?=(zs.drop (i+es.length))[0]?:=by rw [tW]; simp
          have:zs[i+es.length]?=some 0:=by
           rw [h2,hzero];simp [pbl]; omega
          exact this
         rw [show i+1+es.length=(i+es.length)+1 from by omega,xh hz,aJ,xh HX,aC];simp
       · rw [show i+1+es.length=(i+es.length)+1 from by omega,<- tQ (i:=1) (j:=i+es.length),hzero];simp; omega
      subst aC;clear HI ae eF fA aJ hzero aA;go_wp2_with fail
      go_roundw
      case rel=>exact ⟨i+1,by omega,by go_num,HS⟩
      case measure=>simp [intOf]; omega
    · have abk:¬ (ds.length+es.length=i):=by omega
      have nP:((x:Int) == 0)=false:=by simp; omega
      have qA:gbn w w.heap.size zs i x es 0 0 wr:=⟨zs,ae,rfl,fA,by simp,rfl,aA⟩;have Js:=hid qA;have vP:=hid aJ;have Vg:=hid hzero;have tK:=hid eF;clear HI ae eF fA aJ hzero aA qA;go_wp2_with fail;obtain ⟨wo,rfl⟩:∃ wo:World,wo=wr:=⟨_,rfl⟩
      go_loopw [9,35] (fun cv jv wq=>∃ j cc:Nat,j<=es.length/\jv=.int .i64 j/\cv=.int .u32 cc/\cc < 4294967296/\Hid (gbn w w.heap.size zs i x es j cc wq)) (fun _ jv _=>es.length - (intOf jv).toNat)
      case atStart=>exact ⟨0,0,by omega,rfl,rfl,by omega,Js⟩
      case round =>
       clear Js;obtain ⟨j,cc,hj,rfl,rfl,kV,HJ⟩:=hrel;obtain ⟨ys,ae,oV,pU,aJ,hdr,aA⟩:=HJ.out;have JI:ys.length=ds.length+es.length:=oV.trans tK.out
       by_cases qQ:j < es.length
       · obtain ⟨ad',y,rfl,eP,iF,DZ,HY⟩:=(G6.out.ext aA).xS j qQ;obtain ⟨r,Ec,J4,HR⟩:=ae.xS (i+j) (by omega);have nS:r < 4294967296:=pU _ (te HR.out);have Fa:(0:Int)<=x * y:=pa9 (by omega) (by omega);have pX:(x:Int) * y<=4294967295 * 4294967295:=pba (by omega) (by omega) (by omega) (by omega);have HS:=fun d c'=>gbn.step (d:=d) (c':=c') ae oV pU aJ hdr aA (pj _) (by omega) HR HY
         have bC:=hid HS;clear HJ ae oV pU aJ hdr aA JI HS
         go_wp2_with (first
          | (go_at_call 154; refine (xcj _ _ _ (by omega) (by omega) (by omega) (by omega)).mono ?_; rintro e w' ⟨rfl,rfl⟩)
          | (go_at_call 125; refine (add32 _ _ 0 _ (by omega) (by omega) (by omega) (by omega) (by omega) (by omega)).mono ?_; rintro e w' ⟨rfl,rfl⟩))
         go_roundw
         case rel =>
          have e1:(x:Int) * y=((x * y:Nat):Int):=by simp
          have abj:(x * y+r+cc) / B32 < 4294967296:=by
           rw [yh]; rw [e1] at pX; omega
          refine ⟨j+1,(x * y+r+cc) / B32,by omega,by go_num,?_,abj,?_⟩
          · rw [e1,yh]; congr 1; omega
          · have:=bC.out _ _ rfl rfl;rw [e1,show ((((x * y:Nat):Int)+r+cc) % 4294967296)=(((x * y+r+cc) % B32:Nat):Int) from by rw [yh]; omega];exact this
         case measure=>simp [intOf]; omega
       · obtain rfl:j=es.length:=by omega
         obtain ⟨r,Ec,J4,HR⟩:=ae.xS (i+es.length) (by omega);have HS:Hid (ubn w w.heap.size ds es (i+1) (wr.setCell ⟨w.heap.size,i+es.length,none⟩ (.int .u32 (cc:Int)))):=by
          refine ⟨ys.set (i+es.length) cc,ae.xD _ _,by rw [pL]; exact JI,pU.set _ _ (by rw [yh]; exact kV),?_,?_,aA.setCell (by simp) _⟩
          · rw [show i+1+es.length=(i+es.length)+1 from by omega,yaa ys _ _ (by omega),uaf,pA,so (by omega),aJ,vP.out,xh HX,
             p8 (pj _),r5,r9]
          · rw [show i+1+es.length=(i+es.length)+1 from by omega,<- tQ (i:=1) (j:=i+es.length),RW,if_neg (by omega),Pw,hdr,Vg.out];obtain ⟨q,hq⟩:∃ q,ds.length - i=q+1:=⟨ds.length - i - 1,by omega⟩;rw [hq,Sn,show ds.length - (i+1)=q from by omega]
            rfl
         clear HJ ae oV pU aJ hdr aA JI;go_wp2_with fail
         go_roundw
         case rel=>exact ⟨i+1,by omega,by go_num,HS⟩
         case measure=>simp [intOf]; omega
  · obtain rfl:i=ds.length:=by omega
    obtain ⟨zs,ae,eF,fA,aJ,hzero,aA⟩:=HI.out;have HN:Hid (jc wr (.slice (some ⟨w.heap.size,0,none⟩) (ds.length+es.length) (ds.length+es.length)) zs):=by
     have:=ae.qaD fA (ds.length+es.length) (by omega) (by omega);rw [eF] at this;exact this
    have HV:Hid (val zs=val ds * val es):=by
     have:=aJ;rw [p8 (by omega),p8 (by omega)] at this;exact this
    have HL:=hid eF;have HX:=hid aA;clear HI ae eF fA aJ hzero aA;go_wp2_with fail;go_ret;exact ⟨_,zs,rfl,HN.out,HL.out,HV.out,wab.mk _ _ _ _ (pj _),HX.out⟩
def yas (w0:World) (g off:Nat) (zs xs:List Nat) (k c:Nat) (wr:World):Prop:=
 ∃ ys:List Nat,Row wr g ys/\ys.length=zs.length/\ug ys/\ys.take off=zs.take off/\ys.drop (off+k)=zs.drop (off+k) /\
   val ((ys.drop off).take k)+B32 ^ k * c=val ((zs.drop off).take k)+val (xs.take k)/\Only g w0 wr
theorem yas.step {w0 wr : World} {g off : Nat} {zs xs ys : List Nat} {k c r y d c' : Nat} (hr : Row wr g ys) (hl : ys.length = zs.length) (hd : ug ys) (ht : ys.take off = zs.take off)
 (hdr:ys.drop (off+k)=zs.drop (off+k)) (he:val ((ys.drop off).take k)+B32 ^ k * c=val ((zs.drop off).take k)+val (xs.take k)) (ho:Only g w0 wr)
 (af:off+k < ys.length) (Ha:Hid (ys[off+k]?=some r)) (hy:val (xs.take (k+1))=val (xs.take k)+B32 ^ k * y) (eH:d=(r+y+c) % B32) (bY:c'=(r+y+c) / B32) :
 yas w0 g off zs xs (k+1) c' (wr.setCell ⟨g,off+k,none⟩ (.int .u32 (d:Int))):=by
 have hr0:Hid ((zs.drop off)[k]?=some r):=by
  have h1:=Ha.out;have h2:ys[off+k]?=(ys.drop (off+k))[0]?:=by rw [tW]; simp
  have h3:(zs.drop off)[k]?=(zs.drop (off+k))[0]?:=by rw [tW,tW]; simp
  rw [h2,hdr,<- h3] at h1;exact h1
 refine ⟨ys.set (off+k) d,hr.xD _ _,by rw [pL,hl],hd.set _ _ (by rw [eH]; exact tg _ yj),?_,?_,?_,ho.setCell _ _⟩
 · rw [Sk (by omega),ht]
 · rw [show off+(k+1)=(off+k)+1 from by omega,<- tQ (i:=1) (j:=off+k),<- tQ (i:=1) (j:=off+k),<- hdr,RW,if_neg (by omega),Pw];rcases hq:ys.drop (off+k) with _ | ⟨a,q⟩
   · rfl
   · rfl
 · have Cm:k < (ys.drop off).length:=by rw [re]; omega
   rw [RW,if_neg (by omega),Rm,yaa _ _ _ Cm,uaf,pA,so (by omega),xh hr0,hy,si,eH,bY];exact jbw _ _ _ _ _ _ _ _ he rfl
def ycg (g off:Nat) (zs:List Nat) (n:Nat) (w:World) (e:Ending) (w':World):Prop:=
 ∃ ys:List Nat,e=.returned (.tuple #[])/\Row w' g ys/\ys.length=zs.length/\ug ys/\ys.take off=zs.take off/\val (ys.drop off)=n/\Only g w w'
theorem gbe (g off zl zc : Nat) (zs xs : List Nat) (X : Option Addr) (xc : Nat) (w : World) (ae : Row w g zs) (fA : ug zs) (eF : zs.length = off + zl) (GK : zl <= zc) (Qj : zc <= 35184372088832)
 (hx:uj w X xs) (eU:∀ ad,X=some ad->ad.block ≠ g) (hlx:xs.length<=zl) (AA:xs.length<=xc) (ah6:xc<=9223372036854775807) (aF:val (zs.drop off)+val xs < B32 ^ zl) :
 Calls Tryz.prog 140 #[.slice (some ⟨g,off,none⟩) zl zc,.slice X xs.length xc] w (ycg g off zs (val (zs.drop off)+val xs) w):=by
 have cZ:Hid (yas w g off zs xs 0 0 w):=⟨zs,ae,rfl,fA,rfl,rfl,by simp,Only.refl _ _⟩;have HX:=hid hx;have Vk:=hid eU;have fE:=hid aF;have tK:=hid eF;clear hx eU aF ae fA eF;go_enter Tryz.func140,Tryz.ntmps140;go_wp2_with fail
 go_loopw [4,10] (fun cv iv wr=>∃ k c:Nat,k<=xs.length/\iv=.int .i64 k/\cv=.int .u32 c/\c<=1/\Hid (yas w g off zs xs k c wr)) (fun _ iv _=>xs.length - (intOf iv).toNat)
 case atStart=>exact ⟨0,0,by omega,rfl,rfl,by omega,cZ⟩
 case round =>
  clear cZ;obtain ⟨k,c,hk,rfl,rfl,bY,HI⟩:=hrel
  by_cases af:k < xs.length
  · obtain ⟨ys,ae,oV,pU,ed,hdr,hsum,lU⟩:=HI.out;have hlen:off+k < ys.length:=by have:=tK.out; omega
    obtain ⟨ad,y,rfl,hb,aj,DZ,HY⟩:=(HX.out.only lU Vk.out).xS k af;obtain ⟨r,Ec,J4,HR⟩:=ae.xS (off+k) hlen;have nS:r < 4294967296:=pU _ (te HR.out);have HS:=hid (fun d c'=>yas.step (d:=d) (c':=c') ae oV pU ed hdr hsum lU hlen HR (xh HY));clear HI ae oV pU ed hdr hsum lU hlen;go_wp2_with (go_at_call 125; refine (add32 _ _ _ _ (by omega) (by omega) (by omega) (by omega) (by omega) (by omega)).mono ?_; rintro e w' ⟨rfl,rfl⟩)
    go_roundw
    case rel =>
     refine ⟨k+1,(r+y+c) / B32,by omega,by go_num,by rw [yh]; congr 1,by rw [yh]; omega,?_⟩;have:=HS.out _ _ rfl rfl;rw [show (((r:Int)+y+c) % 4294967296)=(((r+y+c) % B32:Nat):Int) from by rw [yh]; omega];exact this
    case measure=>simp [intOf]; omega
  · obtain rfl:k=xs.length:=by omega
    go_wp2_with fail
    go_loopw [4,7] (fun cv iv wr=>∃ k c:Nat,xs.length<=k/\k<=zl/\iv=.int .i64 k/\cv=.int .u32 c/\c<=1/\Hid (yas w g off zs xs k c wr)) (fun _ iv _=>zl - (intOf iv).toNat)
    case atStart=>exact ⟨xs.length,c,pj _,hlx,rfl,rfl,bY,HI⟩
    case round =>
     clear HI bY;obtain ⟨k,c,qP,hk,rfl,rfl,bY,HI⟩:=hrel;obtain ⟨ys,ae,oV,pU,ed,hdr,hsum,lU⟩:=HI.out;have iM:c=0->ycg g off zs (val (zs.drop off)+val xs) w (.returned (.tuple #[])) wr:=by
      intro pG;refine ⟨ys,rfl,ae,oV,pU,ed,?_,lU⟩;have dK:k<=(ys.drop off).length:=by rw [re]; have:=tK.out; omega
      have hl3:k<=(zs.drop off).length:=by rw [re]; have:=tK.out; omega
      have e1:=jk (ys.drop off) k dK;have e2:=jk (zs.drop off) k hl3;rw [tQ] at e1 e2;rw [pG,wy,s9,p8 qP] at hsum;rw [e1,e2,hdr,hsum];omega
     by_cases pG:c=0
     · have HD:=hid (iM pG);have OQ:((c:Int) != 0)=false:=by simp [pG]
       clear HI ae oV pU ed hdr hsum lU iM;subst pG;go_wp2_with fail
       go_end0
       exact HD.out
     · obtain rfl:c=1:=by omega
       have ajc:k < zl:=by
        rcases tM k zl with h | h
        · exact h
        · exfalso
          obtain rfl:k=zl:=by omega
          have hb:=fE.out;have eF:=tK.out;rw [ur,p8 (by rw [re]; omega),p8 (by rw [re]; omega),p8 qP] at hsum;omega
       have hlen:off+k < ys.length:=by have:=tK.out; omega
       obtain ⟨r,Ec,J4,HR⟩:=ae.xS (off+k) hlen;have nS:r < 4294967296:=pU _ (te HR.out);have HS:=hid (fun d c'=>yas.step (d:=d) (c':=c') ae oV pU ed hdr hsum lU hlen HR (jat qP));clear HI ae oV pU ed hdr hsum lU hlen iM;go_wp2_with (go_at_call 125; refine (add32 _ 0 _ _ (by omega) (by omega) (by omega) (by omega) (by omega) (by omega)).mono ?_; rintro e w' ⟨rfl,rfl⟩)
       go_roundw
       case rel =>
        refine ⟨k+1,(r+0+1) / B32,by omega,by omega,by go_num,by rw [yh]; congr 1,by rw [yh]; omega,?_⟩;have:=HS.out _ _ rfl rfl;rw [show (((r:Int)+1) % 4294967296)=(((r+0+1) % B32:Nat):Int) from by rw [yh]; omega];exact this
       case measure=>simp [intOf]; omega
theorem Only.setRow {g:Nat} (w:World) (cs:Array Value):Only g w (w.setRow g cs):=
 ⟨rfl,rfl,rfl,by simp [World.setRow],fun i _ au=>setRow_other w g i cs (fun e=>au (by rw [e]))⟩
theorem kak {w : World} {ops : Array Oper} {rest : List Oper} {o : Oper} {a : Act} {Q : Exit -> Act -> World -> Prop} (jJ : o.guard = none) (d s : Operand)
 (ho:o.op=.call { callee:=.builtin .copy,args:=#[d,s],argTypes:=#[28,28] })
 (g off dLen dCap:Nat) (S:Option Addr) (sCap:Nat) (xs zs:List Nat) (hd:a.eval d=.slice (some ⟨g,off,none⟩) dLen dCap) (hs:a.eval s=.slice S xs.length sCap)
 (ae:Row w g zs) (hx:uj w S xs) (hle:xs.length<=dLen) (aF:off+xs.length<=zs.length)
 (h:∀ w',Row w' g (zs.take off ++ (xs ++ zs.drop (off+xs.length)))->Only g w w'->wpList Tryz.prog ops Q rest (a.put o.dst (goInt xs.length)) w'):wpList Tryz.prog ops Q (o :: rest) a w:=by
 by_cases h0:xs.length=0
 · have wI:xs=[]:=rT h0;subst wI;refine wpList_copy_nothing jJ d s _ _ ho 84 SR vbf _ _ _ _ _ _ hd hs (by simp) ?_;exact h w (by simpa using ae) (Only.refl _ _)
 · obtain ⟨ad,e,hb,hc⟩:=hx.2 (by omega);subst e
   have TU := wpList_copy_own (P := Tryz.prog) (w := w) (ops := ops) (rest := rest) (o := o) (a := a) (Q := Q) jJ d s _ _ ho 84 SR vbf g off dLen dCap ad xs.length sCap hd hs
    (yu zs).toArray 84 ae (yu xs) (by rw [xab]; exact (so hle).symm)
    (fun j v hj=>by
      have qQ:j < xs.length:=by
       rcases tM j xs.length with Ic | Ic
       · exact Ic
       · rw [sE (by rw [xab]; exact Ic)] at hj; cases hj
      rw [ja3 xs j qQ] at hj
      rw [hc j qQ,hj])
    (by rw [xab]; simpa [xab] using aF) (zbw xs)
   apply TU;rw [xab];refine h _ ?_ (Only.setRow _ _);have:=setRow_heap w g _ ((yu zs).toArray.toList.take off ++ (yu xs ++ (yu zs).toArray.toList.drop (off+xs.length))).toArray 84 _ ae;unfold Row;rw [this];simp [yu]
theorem uj.kp {w:World} {A:Option Addr} {ds:List Nat} (h:uj w A ds) (k c:Nat) (hk:k<=ds.length) (hc:ds.length<=c) (lD:c<=9223372036854775807):jc w (.slice A k c) (ds.take k):=
 ⟨A,c,by rw [pA,so hk],by rw [pA]; omega,lD,h.take k⟩
theorem uj.kq {w:World} {ad:Addr} {ds:List Nat} (h:uj w (some ad) ds) (k c:Nat) (hk:k < ds.length) (hc:ds.length<=c) (lD:c<=9223372036854775807) :
 jc w (.slice (some (ad.add k)) (ds.length - k) (c - k)) (ds.drop k):=by
 have:=h.drop k c (by omega) hc;rw [if_neg (by omega)] at this;exact ⟨_,c - k,by rw [re]; rfl,by rw [re]; omega,by omega,this⟩
def uav (W w':World) (v:Value) (l n:Nat):Prop:=∃ zs,jc w' v zs/\zs.length=l/\val zs=n/\wab W.heap.size v/\Ext W w'
theorem uav.ext {W w' w'':World} {v:Value} {l n:Nat} (h:uav W w' v l n) (hx:Ext w' w''):uav W w'' v l n:=by
 obtain ⟨zs,h1,h2,h3,h4,h5⟩:=h;exact ⟨zs,h1.ext hx,h2,h3,h4,h5.trans hx⟩
theorem xbh {zs:List Nat} {half L mid total:Nat} (hl:zs.length=L) (hh:half<=L) (he:val zs+B32 ^ half * mid=total) (ht:total < B32 ^ L) :
 val (zs.drop half)+mid < B32 ^ (L - half):=by
 have e:=jk zs half (by omega);have e2:B32 ^ L=B32 ^ half * B32 ^ (L - half):=by rw [<- wT]; congr 1; omega
 have:B32 ^ half * (val (zs.drop half)+mid) < B32 ^ half * B32 ^ (L - half):=by
  rw [<- e2,rk]; omega
 exact TX this
theorem ub2 {zs ys : List Nat} {half L mid total : Nat} (hl : zs.length = L) (mX : ys.length = L) (hh : half <= L) (he : val zs + B32 ^ half * mid = total) (ed : ys.take half = zs.take half)
 (hv:val (ys.drop half)=val (zs.drop half)+mid):val ys=total:=by
 have e:=jk zs half (by omega);have e':=jk ys half (by omega);rw [e',ed,hv,rk];omega
end Go.Proofs.YtcepajijiabkmaaGreat
