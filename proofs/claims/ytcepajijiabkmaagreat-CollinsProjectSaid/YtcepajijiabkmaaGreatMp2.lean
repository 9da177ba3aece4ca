/- Layer 1 (natural): products, digit by digit. -/
import Derived.Test.YtcepajijiabkmaaGreatMp1
set_option linter.unusedSimpArgs false
set_option linter.unusedVariables false
set_option maxRecDepth 100000
set_option maxHeartbeats 8000000
namespace Go.Proofs.YtcepajijiabkmaaGreat
open Lib (hid)
open Go.RowKit
def qau (l n:Nat) (w:World) (e:Ending) (w':World):Prop:=∃ v zs,e=.returned v/\jc w' v zs/\zs.length=l/\val zs=n/\waa w.heap.size v/\Ext w w'
def qbk (w0:World) (g:Nat) (ds es:List Nat) (i:Nat) (wr:World):Prop:=
 ∃ zs:List Nat,Row wr g zs/\zs.length=ds.length+es.length/\vg zs/\val (zs.take (i+es.length))=val (ds.take i) * val es/\zs.drop (i+es.length)=List.replicate (ds.length - i) 0/\Ext w0 wr
def jbk (w0:World) (g:Nat) (z0:List Nat) (i x:Nat) (es:List Nat) (j:Nat) (c:Nat) (wr:World):Prop:=
 ∃ zs:List Nat,Row wr g zs/\zs.length=z0.length/\vg zs/\val (zs.take (i+j))+B32 ^ (i+j) * c=val (z0.take (i+j))+B32 ^ i * (x * val (es.take j))/\zs.drop (i+j)=z0.drop (i+j)/\Ext w0 wr
theorem qcw (Z Z0 P Q c x y r E s:Nat) (hz:Z+P * Q * c=Z0+P * (x * E)) (hs:s=x * y+r+c) :
 (Z+P * Q * (s % B32))+P * Q * B32 * (s / B32)=(Z0+P * Q * r)+P * (x * (E+Q * y)):=by
 have e:P * Q * (s % B32)+P * Q * B32 * (s / B32)=P * Q * s:=by rw [rT (P * Q),<- ri,tw]
 have e2:P * Q * s=P * Q * (x * y)+P * Q * r+P * Q * c:=by rw [hs,ri,ri]
 have e3:P * (x * (E+Q * y))=P * (x * E)+P * Q * (x * y):=by
  rw [ri,ri,Pa x Q y,rT P Q]
 omega
theorem jbk.step {w0 wr : World} {g : Nat} {z0 es zs : List Nat} {i x j c y r d c' : Nat} (hr : Row wr g zs) (hl : zs.length = z0.length) (hd : vg zs)
 (he:val (zs.take (i+j))+B32 ^ (i+j) * c=val (z0.take (i+j))+B32 ^ i * (x * val (es.take j))) (hdr:zs.drop (i+j)=z0.drop (i+j)) (hx:Ext w0 wr)
 (hg:w0.heap.size<=g) (af:i+j < zs.length) (GR:Hid (zs[i+j]?=some r)) (hy:Hid (es[j]?=some y)) (eH:d=(x * y+r+c) % B32) (bZ:c'=(x * y+r+c) / B32) :
 jbk w0 g z0 i x es (j+1) c' (wr.setCell ⟨g,i+j,none⟩ (.int .u32 (d:Int))):=by
 refine ⟨zs.set (i+j) d,hr.xD _ _,by rw [pH,hl],hd.set _ _ (by rw [eH]; exact te _ yj),?_,?_,hx.setCell (by simpa using hg) _⟩
 · have hr0:Hid (z0[i+j]?=some r):=by
    have h1:=GR.out;have h2:zs[i+j]?=(zs.drop (i+j))[0]?:=by rw [tS]; simp
    have h3:z0[i+j]?=(z0.drop (i+j))[0]?:=by rw [tS]; simp
    rw [h2,hdr,<- h3] at h1;exact h1
   rw [show i+(j+1)=(i+j)+1 from by omega,gy zs (i+j) d af,wae,pA,sh (by omega),yh hr0,yh hy,se,wk];rw [wk] at he;rw [eH,bZ];exact qcw _ _ _ _ _ _ _ _ _ _ he rfl
 · rw [show i+(j+1)=(i+j)+1 from by omega,<- tM (i:=1) (j:=i+j),<- tM (i:=1) (j:=i+j),<- hdr,RL];rw [if_neg (by omega),Ps,tM];rcases hq:zs.drop (i+j) with _ | ⟨a,q⟩
   · have:=congrArg List.length hq; simp at this; omega
   · rw [<- tM,hq]; rfl
theorem zbl (u v:Value) (ds es:List Nat) (w:World) (h:jc w u ds) (k:jc w v es) (hs:ds.length+es.length<=35184372088000) :
 Calls Tryz.prog 139 #[u,v] w (qau (ds.length+es.length) (val ds * val es) w):=by
 obtain ⟨A,c,rfl,h1,h2,h3⟩:=h;obtain ⟨A',c',rfl,jV,mi,lg⟩:=k;have G5:=hid h3;have G6:=hid lg;clear h3 lg;have dw:=fun W=>qaa ((ds.length:Int)+es.length) (by omega) (by omega) W
 go_enter Tryz.func139,Tryz.ntmps139;go_wp2_with fail
 have hinv:qbk w w.heap.size ds es 0 (w.alloc (Obj.cells (jr (List.replicate (ds.length+es.length) 0)).toArray 84)):=
  ⟨List.replicate (ds.length+es.length) 0,Row.new w _,by simp,vg.replicate _,by simp [uab],by simp,(Ext.refl _).alloc _⟩
 have cZ:=hid hinv;clear hinv
 go_loopw [23] (fun i wr=>∃ k:Nat,k<=ds.length/\i=.int .i64 k/\Hid (qbk w w.heap.size ds es k wr)) (fun i _=>ds.length - (intOf i).toNat)
 case atStart=>exact ⟨0,by omega,rfl,cZ⟩
 case round =>
  clear cZ;obtain ⟨i,hi,rfl,HI⟩:=hrel
  by_cases af:i < ds.length
  · obtain ⟨zs,ae,eG,eY,aJ,hzero,aA⟩:=HI.out;obtain ⟨ad,x,rfl,hb,aj,hx1,HX⟩:=(G5.out.ext aA).xS i af
    by_cases aC:x=0
    · have HS:Hid (qbk w w.heap.size ds es (i+1) wr):=by
       refine ⟨zs,ae,eG,eY,?_,?_,aA⟩
       · have hz:Hid (zs[i+es.length]?=some 0):=by
          have h2:zs[i+es.length]?=(zs.drop (i+es.length))[0]?:=by rw [tS]; simp
          have:zs[i+es.length]?=some 0:=by
           rw [h2,hzero];simp [List.getElem?_replicate]; omega
          exact this
         rw [show i+1+es.length=(i+es.length)+1 from by omega,yh hz,aJ,yh HX,aC];simp
       · rw [show i+1+es.length=(i+es.length)+1 from by omega,<- tM (i:=1) (j:=i+es.length),hzero];simp; omega
      subst aC;clear HI ae eG eY aJ hzero aA;go_wp2_with fail
      go_roundw
      case rel=>exact ⟨i+1,by omega,by go_num,HS⟩
      case measure=>simp [intOf]; omega
    · have abg:¬ (ds.length+es.length=i):=by omega
      have nO:((x:Int) == 0)=false:=by simp; omega
      have pY:jbk w w.heap.size zs i x es 0 0 wr:=⟨zs,ae,rfl,eY,by simp,rfl,aA⟩;have Jl:=hid pY;have vU:=hid aJ;have Vf:=hid hzero;have tJ:=hid eG;clear HI ae eG eY aJ hzero aA pY;go_wp2_with fail;obtain ⟨wo,rfl⟩:∃ wo:World,wo=wr:=⟨_,rfl⟩
      go_loopw [9,35] (fun cv jv wq=>∃ j cc:Nat,j<=es.length/\jv=.int .i64 j/\cv=.int .u32 cc/\cc < 4294967296/\Hid (jbk w w.heap.size zs i x es j cc wq)) (fun _ jv _=>es.length - (intOf jv).toNat)
      case atStart=>exact ⟨0,0,by omega,rfl,rfl,by omega,Jl⟩
      case round =>
       clear Jl;obtain ⟨j,cc,hj,rfl,rfl,kW,HJ⟩:=hrel;obtain ⟨ys,ae,oV,pR,aJ,hdr,aA⟩:=HJ.out;have JC:ys.length=ds.length+es.length:=oV.trans tJ.out
       by_cases qR:j < es.length
       · obtain ⟨ad',y,rfl,eP,iC,DW,HY⟩:=(G6.out.ext aA).xS j qR;obtain ⟨r,DZ,JS,HR⟩:=ae.xS (i+j) (by omega);have qL:r < 4294967296:=pR _ (td HR.out);have EW:(0:Int)<=x * y:=Int.mul_nonneg (by omega) (by omega);have pW:(x:Int) * y<=4294967295 * 4294967295:=Int.mul_le_mul (by omega) (by omega) (by omega) (by omega);have HS:=fun d c'=>jbk.step (d:=d) (c':=c') ae oV pR aJ hdr aA (pj _) (by omega) HR HY
         have aY:=hid HS;clear HJ ae oV pR aJ hdr aA JC HS
         go_wp2_with (first
          | (go_at_call 154; refine (gce _ _ _ (by omega) (by omega) (by omega) (by omega)).mono ?_; rintro e w' ⟨rfl,rfl⟩)
          | (go_at_call 125; refine (add32 _ _ 0 _ (by omega) (by omega) (by omega) (by omega) (by omega) (by omega)).mono ?_; rintro e w' ⟨rfl,rfl⟩))
         go_roundw
         case rel =>
          have e1:(x:Int) * y=((x * y:Nat):Int):=by simp
          have abf:(x * y+r+cc) / B32 < 4294967296:=by
           rw [zh]; rw [e1] at pW; omega
          refine ⟨j+1,(x * y+r+cc) / B32,by omega,by go_num,?_,abf,?_⟩
          · rw [e1,zh]; congr 1; omega
          · have:=aY.out _ _ rfl rfl;rw [e1,show ((((x * y:Nat):Int)+r+cc) % 4294967296)=(((x * y+r+cc) % B32:Nat):Int) from by rw [zh]; omega];exact this
         case measure=>simp [intOf]; omega
       · obtain rfl:j=es.length:=by omega
         obtain ⟨r,DZ,JS,HR⟩:=ae.xS (i+es.length) (by omega);have HS:Hid (qbk w w.heap.size ds es (i+1) (wr.setCell ⟨w.heap.size,i+es.length,none⟩ (.int .u32 (cc:Int)))):=by
          refine ⟨ys.set (i+es.length) cc,ae.xD _ _,by rw [pH]; exact JC,pR.set _ _ (by rw [zh]; exact kW),?_,?_,aA.setCell (by simp) _⟩
          · rw [show i+1+es.length=(i+es.length)+1 from by omega,gy ys _ _ (by omega),wae,pA,sh (by omega),aJ,vU.out,yh HX,
             pT (pj _),rN,rT]
          · rw [show i+1+es.length=(i+es.length)+1 from by omega,<- tM (i:=1) (j:=i+es.length),RL,if_neg (by omega),Ps,hdr,Vf.out];obtain ⟨q,hq⟩:∃ q,ds.length - i=q+1:=⟨ds.length - i - 1,by omega⟩;rw [hq,Se,show ds.length - (i+1)=q from by omega]
            rfl
         clear HJ ae oV pR aJ hdr aA JC;go_wp2_with fail
         go_roundw
         case rel=>exact ⟨i+1,by omega,by go_num,HS⟩
         case measure=>simp [intOf]; omega
  · obtain rfl:i=ds.length:=by omega
    obtain ⟨zs,ae,eG,eY,aJ,hzero,aA⟩:=HI.out;have HN:Hid (jc wr (.slice (some ⟨w.heap.size,0,none⟩) (ds.length+es.length) (ds.length+es.length)) zs):=by
     have:=ae.qaC eY (ds.length+es.length) (by omega) (by omega);rw [eG] at this;exact this
    have HV:Hid (val zs=val ds * val es):=by
     have:=aJ;rw [pT (by omega),pT (by omega)] at this;exact this
    have HL:=hid eG;have HX:=hid aA;clear HI ae eG eY aJ hzero aA;go_wp2_with fail;go_ret;exact ⟨_,zs,rfl,HN.out,HL.out,HV.out,waa.mk _ _ _ _ (pj _),HX.out⟩
def waq (w0:World) (g off:Nat) (zs xs:List Nat) (k c:Nat) (wr:World):Prop:=
 ∃ ys:List Nat,Row wr g ys/\ys.length=zs.length/\vg ys/\ys.take off=zs.take off/\ys.drop (off+k)=zs.drop (off+k) /\
   val ((ys.drop off).take k)+B32 ^ k * c=val ((zs.drop off).take k)+val (xs.take k)/\Only g w0 wr
theorem waq.step {w0 wr : World} {g off : Nat} {zs xs ys : List Nat} {k c r y d c' : Nat} (hr : Row wr g ys) (hl : ys.length = zs.length) (hd : vg ys) (ht : ys.take off = zs.take off)
 (hdr:ys.drop (off+k)=zs.drop (off+k)) (he:val ((ys.drop off).take k)+B32 ^ k * c=val ((zs.drop off).take k)+val (xs.take k)) (ho:Only g w0 wr)
 (af:off+k < ys.length) (GR:Hid (ys[off+k]?=some r)) (hy:val (xs.take (k+1))=val (xs.take k)+B32 ^ k * y) (eH:d=(r+y+c) % B32) (bZ:c'=(r+y+c) / B32) :
 waq w0 g off zs xs (k+1) c' (wr.setCell ⟨g,off+k,none⟩ (.int .u32 (d:Int))):=by
 have hr0:Hid ((zs.drop off)[k]?=some r):=by
  have h1:=GR.out;have h2:ys[off+k]?=(ys.drop (off+k))[0]?:=by rw [tS]; simp
  have h3:(zs.drop off)[k]?=(zs.drop (off+k))[0]?:=by rw [tS,tS]; simp
  rw [h2,hdr,<- h3] at h1;exact h1
 refine ⟨ys.set (off+k) d,hr.xD _ _,by rw [pH,hl],hd.set _ _ (by rw [eH]; exact te _ yj),?_,?_,?_,ho.setCell _ _⟩
 · rw [Sd (by omega),ht]
 · rw [show off+(k+1)=(off+k)+1 from by omega,<- tM (i:=1) (j:=off+k),<- tM (i:=1) (j:=off+k),<- hdr,RL,if_neg (by omega),Ps];rcases hq:ys.drop (off+k) with _ | ⟨a,q⟩
   · rfl
   · rfl
 · have Cm:k < (ys.drop off).length:=by rw [re]; omega
   rw [RL,if_neg (by omega),P4,gy _ _ _ Cm,wae,pA,sh (by omega),yh hr0,hy,se,eH,bZ];exact xbt _ _ _ _ _ _ _ _ he rfl
def vcb (g off:Nat) (zs:List Nat) (n:Nat) (w:World) (e:Ending) (w':World):Prop:=
 ∃ ys:List Nat,e=.returned (.tuple #[])/\Row w' g ys/\ys.length=zs.length/\vg ys/\ys.take off=zs.take off/\val (ys.drop off)=n/\Only g w w'
theorem vbc (g off zl zc : Nat) (zs xs : List Nat) (X : Option Addr) (xc : Nat) (w : World) (ae : Row w g zs) (eY : vg zs) (eG : zs.length = off + zl) (Gx : zl <= zc) (Qi : zc <= 35184372088832)
 (hx:uj w X xs) (eU:∀ ad,X=some ad->ad.block ≠ g) (hlx:xs.length<=zl) (AO:xs.length<=xc) (ahZ:xc<=9223372036854775807) (aF:val (zs.drop off)+val xs < B32 ^ zl) :
 Calls Tryz.prog 140 #[.slice (some ⟨g,off,none⟩) zl zc,.slice X xs.length xc] w (vcb g off zs (val (zs.drop off)+val xs) w):=by
 have cZ:Hid (waq w g off zs xs 0 0 w):=⟨zs,ae,rfl,eY,rfl,rfl,by simp,Only.refl _ _⟩;have HX:=hid hx;have Vj:=hid eU;have iG:=hid aF;have tJ:=hid eG;clear hx eU aF ae eY eG;go_enter Tryz.func140,Tryz.ntmps140;go_wp2_with fail
 go_loopw [4,10] (fun cv iv wr=>∃ k c:Nat,k<=xs.length/\iv=.int .i64 k/\cv=.int .u32 c/\c<=1/\Hid (waq w g off zs xs k c wr)) (fun _ iv _=>xs.length - (intOf iv).toNat)
 case atStart=>exact ⟨0,0,by omega,rfl,rfl,by omega,cZ⟩
 case round =>
  clear cZ;obtain ⟨k,c,hk,rfl,rfl,bZ,HI⟩:=hrel
  by_cases af:k < xs.length
  · obtain ⟨ys,ae,oV,pR,eu,hdr,hsum,lT⟩:=HI.out;have hlen:off+k < ys.length:=by have:=tJ.out; omega
    obtain ⟨ad,y,rfl,hb,aj,DW,HY⟩:=(HX.out.only lT Vj.out).xS k af;obtain ⟨r,DZ,JS,HR⟩:=ae.xS (off+k) hlen;have qL:r < 4294967296:=pR _ (td HR.out);have HS:=hid (fun d c'=>waq.step (d:=d) (c':=c') ae oV pR eu hdr hsum lT hlen HR (yh HY));clear HI ae oV pR eu hdr hsum lT hlen;go_wp2_with (go_at_call 125; refine (add32 _ _ _ _ (by omega) (by omega) (by omega) (by omega) (by omega) (by omega)).mono ?_; rintro e w' ⟨rfl,rfl⟩)
    go_roundw
    case rel =>
     refine ⟨k+1,(r+y+c) / B32,by omega,by go_num,by rw [zh]; congr 1,by rw [zh]; omega,?_⟩;have:=HS.out _ _ rfl rfl;rw [show (((r:Int)+y+c) % 4294967296)=(((r+y+c) % B32:Nat):Int) from by rw [zh]; omega];exact this
    case measure=>simp [intOf]; omega
  · obtain rfl:k=xs.length:=by omega
    go_wp2_with fail
    go_loopw [4,7] (fun cv iv wr=>∃ k c:Nat,xs.length<=k/\k<=zl/\iv=.int .i64 k/\cv=.int .u32 c/\c<=1/\Hid (waq w g off zs xs k c wr)) (fun _ iv _=>zl - (intOf iv).toNat)
    case atStart=>exact ⟨xs.length,c,pj _,hlx,rfl,rfl,bZ,HI⟩
    case round =>
     clear HI bZ;obtain ⟨k,c,qQ,hk,rfl,rfl,bZ,HI⟩:=hrel;obtain ⟨ys,ae,oV,pR,eu,hdr,hsum,lT⟩:=HI.out;have iL:c=0->vcb g off zs (val (zs.drop off)+val xs) w (.returned (.tuple #[])) wr:=by
      intro pF;refine ⟨ys,rfl,ae,oV,pR,eu,?_,lT⟩;have dC:k<=(ys.drop off).length:=by rw [re]; have:=tJ.out; omega
      have hl3:k<=(zs.drop off).length:=by rw [re]; have:=tJ.out; omega
      have e1:=jk (ys.drop off) k dC;have e2:=jk (zs.drop off) k hl3;rw [tM] at e1 e2;rw [pF,wy,s8,pT qQ] at hsum;rw [e1,e2,hdr,hsum];omega
     by_cases pF:c=0
     · have HD:=hid (iL pF);have OJ:((c:Int) != 0)=false:=by simp [pF]
       clear HI ae oV pR eu hdr hsum lT iL;subst pF;go_wp2_with fail
       go_end0
       exact HD.out
     · obtain rfl:c=1:=by omega
       have ai3:k < zl:=by
        rcases tG k zl with h | h
        · exact h
        · exfalso
          obtain rfl:k=zl:=by omega
          have hb:=iG.out;have eG:=tJ.out;rw [ua,pT (by rw [re]; omega),pT (by rw [re]; omega),pT qQ] at hsum;omega
       have hlen:off+k < ys.length:=by have:=tJ.out; omega
       obtain ⟨r,DZ,JS,HR⟩:=ae.xS (off+k) hlen;have qL:r < 4294967296:=pR _ (td HR.out);have HS:=hid (fun d c'=>waq.step (d:=d) (c':=c') ae oV pR eu hdr hsum lT hlen HR (yas qQ));clear HI ae oV pR eu hdr hsum lT hlen iL;go_wp2_with (go_at_call 125; refine (add32 _ 0 _ _ (by omega) (by omega) (by omega) (by omega) (by omega) (by omega)).mono ?_; rintro e w' ⟨rfl,rfl⟩)
       go_roundw
       case rel =>
        refine ⟨k+1,(r+0+1) / B32,by omega,by omega,by go_num,by rw [zh]; congr 1,by rw [zh]; omega,?_⟩;have:=HS.out _ _ rfl rfl;rw [show (((r:Int)+1) % 4294967296)=(((r+0+1) % B32:Nat):Int) from by rw [zh]; omega];exact this
       case measure=>simp [intOf]; omega
theorem Only.setRow {g:Nat} (w:World) (cs:Array Value):Only g w (w.setRow g cs):=
 ⟨rfl,rfl,rfl,by simp [World.setRow],fun i _ ax=>setRow_other w g i cs (fun e=>ax (by rw [e]))⟩
theorem kaj {w : World} {ops : Array Oper} {rest : List Oper} {o : Oper} {a : Act} {Q : Exit -> Act -> World -> Prop} (jB : o.guard = none) (d s : Operand)
 (ho:o.op=.call { callee:=.builtin .copy,args:=#[d,s],argTypes:=#[28,28] })
 (g off dLen dCap:Nat) (S:Option Addr) (sCap:Nat) (xs zs:List Nat) (hd:a.eval d=.slice (some ⟨g,off,none⟩) dLen dCap) (hs:a.eval s=.slice S xs.length sCap)
 (ae:Row w g zs) (hx:uj w S xs) (hle:xs.length<=dLen) (aF:off+xs.length<=zs.length)
 (h:∀ w',Row w' g (zs.take off ++ (xs ++ zs.drop (off+xs.length)))->Only g w w'->wpList Tryz.prog ops Q rest (a.put o.dst (goInt xs.length)) w'):wpList Tryz.prog ops Q (o :: rest) a w:=by
 by_cases h0:xs.length=0
 · have wK:xs=[]:=rL h0;subst wK;refine wpList_copy_nothing jB d s _ _ ho 84 SD jbd _ _ _ _ _ _ hd hs (by simp) ?_;exact h w (by simpa using ae) (Only.refl _ _)
 · obtain ⟨ad,e,hb,hc⟩:=hx.2 (by omega);subst e
   have TU := wpList_copy_own (P := Tryz.prog) (w := w) (ops := ops) (rest := rest) (o := o) (a := a) (Q := Q) jB d s _ _ ho 84 SD jbd g off dLen dCap ad xs.length sCap hd hs
    (jr zs).toArray 84 ae (jr xs) (by rw [xaa]; exact (sh hle).symm)
    (fun j v hj=>by
      have qR:j < xs.length:=by
       rcases tG j xs.length with Hz | Hz
       · exact Hz
       · rw [sA (by rw [xaa]; exact Hz)] at hj; cases hj
      rw [va1 xs j qR] at hj
      rw [hc j qR,hj])
    (by rw [xaa]; simpa [xaa] using aF) (gbs xs)
   apply TU;rw [xaa];refine h _ ?_ (Only.setRow _ _);have:=setRow_heap w g _ ((jr zs).toArray.toList.take off ++ (jr xs ++ (jr zs).toArray.toList.drop (off+xs.length))).toArray 84 _ ae;unfold Row;rw [this];simp [jr]
theorem uj.kn {w:World} {A:Option Addr} {ds:List Nat} (h:uj w A ds) (k c:Nat) (hk:k<=ds.length) (hc:ds.length<=c) (lD:c<=9223372036854775807):jc w (.slice A k c) (ds.take k):=
 ⟨A,c,by rw [pA,sh hk],by rw [pA]; omega,lD,h.take k⟩
theorem uj.kp {w:World} {ad:Addr} {ds:List Nat} (h:uj w (some ad) ds) (k c:Nat) (hk:k < ds.length) (hc:ds.length<=c) (lD:c<=9223372036854775807) :
 jc w (.slice (some (ad.add k)) (ds.length - k) (c - k)) (ds.drop k):=by
 have:=h.drop k c (by omega) hc;rw [if_neg (by omega)] at this;exact ⟨_,c - k,by rw [re]; rfl,by rw [re]; omega,by omega,this⟩
def jau (W w':World) (v:Value) (l n:Nat):Prop:=∃ zs,jc w' v zs/\zs.length=l/\val zs=n/\waa W.heap.size v/\Ext W w'
theorem jau.ext {W w' w'':World} {v:Value} {l n:Nat} (h:jau W w' v l n) (hx:Ext w' w''):jau W w'' v l n:=by
 obtain ⟨zs,h1,h2,h3,h4,h5⟩:=h;exact ⟨zs,h1.ext hx,h2,h3,h4,h5.trans hx⟩
theorem gbe {zs:List Nat} {half L mid total:Nat} (hl:zs.length=L) (hh:half<=L) (he:val zs+B32 ^ half * mid=total) (ht:total < B32 ^ L) :
 val (zs.drop half)+mid < B32 ^ (L - half):=by
 have e:=jk zs half (by omega);have e2:B32 ^ L=B32 ^ half * B32 ^ (L - half):=by rw [<- wk]; congr 1; omega
 have:B32 ^ half * (val (zs.drop half)+mid) < B32 ^ half * B32 ^ (L - half):=by
  rw [<- e2,ri]; omega
 exact Nat.lt_of_mul_lt_mul_left this
theorem wbx {zs ys : List Nat} {half L mid total : Nat} (hl : zs.length = L) (mQ : ys.length = L) (hh : half <= L) (he : val zs + B32 ^ half * mid = total) (eu : ys.take half = zs.take half)
 (hv:val (ys.drop half)=val (zs.drop half)+mid):val ys=total:=by
 have e:=jk zs half (by omega);have e':=jk ys half (by omega);rw [e',eu,hv,ri];omega
end Go.Proofs.YtcepajijiabkmaaGreat
