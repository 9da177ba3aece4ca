/- Layer 1 (natural): products, digit by digit. -/
import Derived.Test.YtklnlgnnlmdibaaGreatMq1
set_option linter.unusedSimpArgs false
set_option linter.unusedVariables false
set_option maxRecDepth 100000
set_option maxHeartbeats 8000000
namespace Go.Proofs.YtklnlgnnlmdibaaGreat
open Lib (hid)
open Go.RowKit
def jar (l n:Nat) (w:World) (e:Ending) (w':World):Prop:=∃ v zs,e=.returned v/\jd w' v zs/\zs.length=l/\val zs=n/\waa w.heap.size v/\Ext w w'
def ubf (w0:World) (g:Nat) (ds es:List Nat) (i:Nat) (wr:World):Prop:=
 ∃ zs:List Nat,Row wr g zs/\zs.length=ds.length+es.length/\jg zs/\val (zs.take (i+es.length))=val (ds.take i) * val es/\zs.drop (i+es.length)=List.replicate (ds.length - i) 0/\Ext w0 wr
def gbf (w0:World) (g:Nat) (z0:List Nat) (i x:Nat) (es:List Nat) (j:Nat) (c:Nat) (wr:World):Prop:=
 ∃ zs:List Nat,Row wr g zs/\zs.length=z0.length/\jg zs/\val (zs.take (i+j))+B32 ^ (i+j) * c=val (z0.take (i+j))+B32 ^ i * (x * val (es.take j))/\zs.drop (i+j)=z0.drop (i+j)/\Ext w0 wr
theorem gcl (Z Z0 P Q c x y r E s:Nat) (hz:Z+P * Q * c=Z0+P * (x * E)) (hs:s=x * y+r+c) :
 (Z+P * Q * (s % B32))+P * Q * B32 * (s / B32)=(Z0+P * Q * r)+P * (x * (E+Q * y)):=by
 have e:P * Q * (s % B32)+P * Q * B32 * (s / B32)=P * Q * s:=by rw [Nat.mul_assoc (P * Q),<- Nat.mul_add,Nat.mod_add_div]
 have e2:P * Q * s=P * Q * (x * y)+P * Q * r+P * Q * c:=by rw [hs,Nat.mul_add,Nat.mul_add]
 have e3:P * (x * (E+Q * y))=P * (x * E)+P * Q * (x * y):=by
  rw [Nat.mul_add,Nat.mul_add,Nat.mul_left_comm x Q y,Nat.mul_assoc P Q]
 omega
theorem gbf.step {w0 wr : World} {g : Nat} {z0 es zs : List Nat} {i x j c y r d c' : Nat} (hr : Row wr g zs) (hl : zs.length = z0.length) (hd : jg zs)
 (he:val (zs.take (i+j))+B32 ^ (i+j) * c=val (z0.take (i+j))+B32 ^ i * (x * val (es.take j))) (hdr:zs.drop (i+j)=z0.drop (i+j)) (hx:Ext w0 wr)
 (hg:w0.heap.size<=g) (af:i+j < zs.length) (sF:Hid (zs[i+j]?=some r)) (hy:Hid (es[j]?=some y)) (eG:d=(x * y+r+c) % B32) (dh:c'=(x * y+r+c) / B32) :
 gbf w0 g z0 i x es (j+1) c' (wr.setCell ⟨g,i+j,none⟩ (.int .u32 (d:Int))):=by
 refine ⟨zs.set (i+j) d,hr.set_ _ _,by rw [List.length_set,hl],hd.set _ _ (by rw [eG]; exact Nat.mod_lt _ yj),?_,?_,hx.setCell (by simpa using hg) _⟩
 · have hr0:Hid (z0[i+j]?=some r):=by
    have h1:=sF.out;have h2:zs[i+j]?=(zs.drop (i+j))[0]?:=by rw [List.getElem?_drop]; simp
    have h3:z0[i+j]?=(z0.drop (i+j))[0]?:=by rw [List.getElem?_drop]; simp
    rw [h2,hdr,<- h3] at h1;exact h1
   rw [show i+(j+1)=(i+j)+1 from by omega,gy zs (i+j) d af,kae,List.length_take,Nat.min_eq_left (by omega),yh hr0,yh hy,Nat.pow_succ,Nat.pow_add];rw [Nat.pow_add] at he;rw [eG,dh];exact gcl _ _ _ _ _ _ _ _ _ _ he rfl
 · rw [show i+(j+1)=(i+j)+1 from by omega,<- List.drop_drop (i:=1) (j:=i+j),<- List.drop_drop (i:=1) (j:=i+j),<- hdr,List.drop_set];rw [if_neg (by omega),Nat.sub_self,List.drop_drop];rcases hq:zs.drop (i+j) with _ | ⟨a,q⟩
   · have:=congrArg List.length hq; simp at this; omega
   · rw [<- List.drop_drop,hq]; rfl
theorem jbg (u v:Value) (ds es:List Nat) (w:World) (h:jd w u ds) (k:jd w v es) (hs:ds.length+es.length<=35184372088000) :
 Calls Tryz.prog 153 #[u,v] w (jar (ds.length+es.length) (val ds * val es) w):=by
 obtain ⟨A,c,rfl,h1,h2,h3⟩:=h;obtain ⟨A',c',rfl,jO,mD,kW⟩:=k;have G5:=hid h3;have G6:=hid kW;clear h3 kW;have cu:=fun W=>xaa ((ds.length:Int)+es.length) (by omega) (by omega) W
 go_enter Tryz.func153,Tryz.ntmps153;go_wp2_with fail
 have hinv:ubf w w.heap.size ds es 0 (w.alloc (Obj.cells (yt (List.replicate (ds.length+es.length) 0)).toArray 90)):=
  ⟨List.replicate (ds.length+es.length) 0,Row.new w _,by simp,jg.replicate _,by simp [wab],by simp,(Ext.refl _).alloc _⟩
 have df:=hid hinv;clear hinv
 go_loopw [23] (fun i wr=>∃ k:Nat,k<=ds.length/\i=.int .i64 k/\Hid (ubf w w.heap.size ds es k wr)) (fun i _=>ds.length - (intOf i).toNat)
 case atStart=>exact ⟨0,by omega,rfl,df⟩
 case round =>
  clear df;obtain ⟨i,hi,rfl,HI⟩:=hrel
  by_cases af:i < ds.length
  · obtain ⟨zs,ae,eu,fA,aJ,hzero,ay⟩:=HI.out;obtain ⟨ad,x,rfl,hb,aj,hx1,HX⟩:=(G5.out.ext ay).get_ i af
    by_cases aC:x=0
    · have HS:Hid (ubf w w.heap.size ds es (i+1) wr):=by
       refine ⟨zs,ae,eu,fA,?_,?_,ay⟩
       · have hz:Hid (zs[i+es.length]?=some 0):=by
          have h2:zs[i+es.length]?=(zs.drop (i+es.length))[0]?:=by rw [List.getElem?_drop]; simp
          have:zs[i+es.length]?=some 0:=by
           rw [h2,hzero];simp [List.getElem?_replicate]; omega
          exact this
         rw [show i+1+es.length=(i+es.length)+1 from by omega,yh hz,aJ,yh HX,aC];simp
       · rw [show i+1+es.length=(i+es.length)+1 from by omega,<- List.drop_drop (i:=1) (j:=i+es.length),hzero];simp; omega
      subst aC;clear HI ae eu fA aJ hzero ay;go_wp2_with fail
      go_roundw
      case rel=>exact ⟨i+1,by omega,by go_num,HS⟩
      case measure=>simp [intOf]; omega
    · have ab2:¬ (ds.length+es.length=i):=by omega
      have qL:((x:Int) == 0)=false:=by simp; omega
      have nC:gbf w w.heap.size zs i x es 0 0 wr:=⟨zs,ae,rfl,fA,by simp,rfl,ay⟩;have JC:=hid nC;have wG:=hid aJ;have VI:=hid hzero;have tX:=hid eu;clear HI ae eu fA aJ hzero ay nC;go_wp2_with fail;obtain ⟨wo,rfl⟩:∃ wo:World,wo=wr:=⟨_,rfl⟩
      go_loopw [9,35] (fun cv jv wq=>∃ j cc:Nat,j<=es.length/\jv=.int .i64 j/\cv=.int .u32 cc/\cc < 4294967296/\Hid (gbf w w.heap.size zs i x es j cc wq)) (fun _ jv _=>es.length - (intOf jv).toNat)
      case atStart=>exact ⟨0,0,by omega,rfl,rfl,by omega,JC⟩
      case round =>
       clear JC;obtain ⟨j,cc,hj,rfl,rfl,kR,HJ⟩:=hrel;obtain ⟨ys,ae,pg,pV,aJ,hdr,ay⟩:=HJ.out;have JS:ys.length=ds.length+es.length:=pg.trans tX.out
       by_cases qU:j < es.length
       · obtain ⟨ad',y,rfl,dL,iC,Ej,HY⟩:=(G6.out.ext ay).get_ j qU;obtain ⟨r,Eo,rD,HR⟩:=ae.get_ (i+j) (by omega);have lT:r < 4294967296:=pV _ (List.mem_of_getElem? HR.out);have Fv:(0:Int)<=x * y:=Int.mul_nonneg (by omega) (by omega);have mY:(x:Int) * y<=4294967295 * 4294967295:=Int.mul_le_mul (by omega) (by omega) (by omega) (by omega);have HS:=fun d c'=>gbf.step (d:=d) (c':=c') ae pg pV aJ hdr ay (Nat.le_refl _) (by omega) HR HY
         have bK:=hid HS;clear HJ ae pg pV aJ hdr ay JS HS
         go_wp2_with (first
          | (go_at_call 168; refine (kb4 _ _ _ (by omega) (by omega) (by omega) (by omega)).mono ?_; rintro e w' ⟨rfl,rfl⟩)
          | (go_at_call 142; refine (add32 _ _ 0 _ (by omega) (by omega) (by omega) (by omega) (by omega) (by omega)).mono ?_; rintro e w' ⟨rfl,rfl⟩))
         go_roundw
         case rel =>
          have e1:(x:Int) * y=((x * y:Nat):Int):=by simp
          have ab1:(x * y+r+cc) / B32 < 4294967296:=by
           rw [zh]; rw [e1] at mY; omega
          refine ⟨j+1,(x * y+r+cc) / B32,by omega,by go_num,?_,ab1,?_⟩
          · rw [e1,zh]; congr 1; omega
          · have:=bK.out _ _ rfl rfl;rw [e1,show ((((x * y:Nat):Int)+r+cc) % 4294967296)=(((x * y+r+cc) % B32:Nat):Int) from by rw [zh]; omega];exact this
         case measure=>simp [intOf]; omega
       · obtain rfl:j=es.length:=by omega
         obtain ⟨r,Eo,rD,HR⟩:=ae.get_ (i+es.length) (by omega);have HS:Hid (ubf w w.heap.size ds es (i+1) (wr.setCell ⟨w.heap.size,i+es.length,none⟩ (.int .u32 (cc:Int)))):=by
          refine ⟨ys.set (i+es.length) cc,ae.set_ _ _,by rw [List.length_set]; exact JS,pV.set _ _ (by rw [zh]; exact kR),?_,?_,ay.setCell (by simp) _⟩
          · rw [show i+1+es.length=(i+es.length)+1 from by omega,gy ys _ _ (by omega),kae,List.length_take,Nat.min_eq_left (by omega),aJ,wG.out,yh HX,
             List.take_of_length_le (Nat.le_refl _),Nat.add_mul,Nat.mul_assoc]
          · rw [show i+1+es.length=(i+es.length)+1 from by omega,<- List.drop_drop (i:=1) (j:=i+es.length),List.drop_set,if_neg (by omega),Nat.sub_self,hdr,VI.out];obtain ⟨q,hq⟩:∃ q,ds.length - i=q+1:=⟨ds.length - i - 1,by omega⟩;rw [hq,List.replicate_succ,show ds.length - (i+1)=q from by omega]
            rfl
         clear HJ ae pg pV aJ hdr ay JS;go_wp2_with fail
         go_roundw
         case rel=>exact ⟨i+1,by omega,by go_num,HS⟩
         case measure=>simp [intOf]; omega
  · obtain rfl:i=ds.length:=by omega
    obtain ⟨zs,ae,eu,fA,aJ,hzero,ay⟩:=HI.out;have HN:Hid (jd wr (.slice (some ⟨w.heap.size,0,none⟩) (ds.length+es.length) (ds.length+es.length)) zs):=by
     have:=ae.natV fA (ds.length+es.length) (by omega) (by omega);rw [eu] at this;exact this
    have HV:Hid (val zs=val ds * val es):=by
     have:=aJ;rw [List.take_of_length_le (by omega),List.take_of_length_le (by omega)] at this;exact this
    have HL:=hid eu;have HX:=hid ay;clear HI ae eu fA aJ hzero ay;go_wp2_with fail;go_ret;exact ⟨_,zs,rfl,HN.out,HL.out,HV.out,waa.mk _ _ _ _ (Nat.le_refl _),HX.out⟩
def jao (w0:World) (g off:Nat) (zs xs:List Nat) (k c:Nat) (wr:World):Prop:=
 ∃ ys:List Nat,Row wr g ys/\ys.length=zs.length/\jg ys/\ys.take off=zs.take off/\ys.drop (off+k)=zs.drop (off+k) /\
   val ((ys.drop off).take k)+B32 ^ k * c=val ((zs.drop off).take k)+val (xs.take k)/\Only g w0 wr
theorem jao.step {w0 wr : World} {g off : Nat} {zs xs ys : List Nat} {k c r y d c' : Nat} (hr : Row wr g ys) (hl : ys.length = zs.length) (hd : jg ys) (ht : ys.take off = zs.take off)
 (hdr:ys.drop (off+k)=zs.drop (off+k)) (he:val ((ys.drop off).take k)+B32 ^ k * c=val ((zs.drop off).take k)+val (xs.take k)) (ho:Only g w0 wr)
 (af:off+k < ys.length) (sF:Hid (ys[off+k]?=some r)) (hy:val (xs.take (k+1))=val (xs.take k)+B32 ^ k * y) (eG:d=(r+y+c) % B32) (dh:c'=(r+y+c) / B32) :
 jao w0 g off zs xs (k+1) c' (wr.setCell ⟨g,off+k,none⟩ (.int .u32 (d:Int))):=by
 have hr0:Hid ((zs.drop off)[k]?=some r):=by
  have h1:=sF.out;have h2:ys[off+k]?=(ys.drop (off+k))[0]?:=by rw [List.getElem?_drop]; simp
  have h3:(zs.drop off)[k]?=(zs.drop (off+k))[0]?:=by rw [List.getElem?_drop,List.getElem?_drop]; simp
  rw [h2,hdr,<- h3] at h1;exact h1
 refine ⟨ys.set (off+k) d,hr.set_ _ _,by rw [List.length_set,hl],hd.set _ _ (by rw [eG]; exact Nat.mod_lt _ yj),?_,?_,?_,ho.setCell _ _⟩
 · rw [List.take_set_of_le (by omega),ht]
 · rw [show off+(k+1)=(off+k)+1 from by omega,<- List.drop_drop (i:=1) (j:=off+k),<- List.drop_drop (i:=1) (j:=off+k),<- hdr,List.drop_set,if_neg (by omega),Nat.sub_self];rcases hq:ys.drop (off+k) with _ | ⟨a,q⟩
   · rfl
   · rfl
 · have zB:k < (ys.drop off).length:=by rw [List.length_drop]; omega
   rw [List.drop_set,if_neg (by omega),Nat.add_sub_cancel_left,gy _ _ _ zB,kae,List.length_take,Nat.min_eq_left (by omega),yh hr0,hy,Nat.pow_succ,eG,dh];exact wbm _ _ _ _ _ _ _ _ he rfl
def ub0 (g off:Nat) (zs:List Nat) (n:Nat) (w:World) (e:Ending) (w':World):Prop:=
 ∃ ys:List Nat,e=.returned (.tuple #[])/\Row w' g ys/\ys.length=zs.length/\jg ys/\ys.take off=zs.take off/\val (ys.drop off)=n/\Only g w w'
theorem ya9 (g off zl zc : Nat) (zs xs : List Nat) (X : Option Addr) (xc : Nat) (w : World) (ae : Row w g zs) (fA : jg zs) (eu : zs.length = off + zl) (Hr : zl <= zc) (QC : zc <= 35184372088832)
 (hx:zk w X xs) (fZ:∀ ad,X=some ad->ad.block ≠ g) (hlx:xs.length<=zl) (Hw:xs.length<=xc) (ai3:xc<=9223372036854775807) (aB:val (zs.drop off)+val xs < B32 ^ zl) :
 Calls Tryz.prog 154 #[.slice (some ⟨g,off,none⟩) zl zc,.slice X xs.length xc] w (ub0 g off zs (val (zs.drop off)+val xs) w):=by
 have df:Hid (jao w g off zs xs 0 0 w):=⟨zs,ae,rfl,fA,rfl,rfl,by simp,Only.refl _ _⟩;have HX:=hid hx;have Na:=hid fZ;have jH:=hid aB;have tX:=hid eu;clear hx fZ aB ae fA eu;go_enter Tryz.func154,Tryz.ntmps154;go_wp2_with fail
 go_loopw [4,10] (fun cv iv wr=>∃ k c:Nat,k<=xs.length/\iv=.int .i64 k/\cv=.int .u32 c/\c<=1/\Hid (jao w g off zs xs k c wr)) (fun _ iv _=>xs.length - (intOf iv).toNat)
 case atStart=>exact ⟨0,0,by omega,rfl,rfl,by omega,df⟩
 case round =>
  clear df;obtain ⟨k,c,hk,rfl,rfl,dh,HI⟩:=hrel
  by_cases af:k < xs.length
  · obtain ⟨ys,ae,pg,pV,eP,hdr,hsum,lV⟩:=HI.out;have hlen:off+k < ys.length:=by have:=tX.out; omega
    obtain ⟨ad,y,rfl,hb,aj,Ej,HY⟩:=(HX.out.only lV Na.out).get_ k af;obtain ⟨r,Eo,rD,HR⟩:=ae.get_ (off+k) hlen;have lT:r < 4294967296:=pV _ (List.mem_of_getElem? HR.out);have HS:=hid (fun d c'=>jao.step (d:=d) (c':=c') ae pg pV eP hdr hsum lV hlen HR (yh HY));clear HI ae pg pV eP hdr hsum lV hlen;go_wp2_with (go_at_call 142; refine (add32 _ _ _ _ (by omega) (by omega) (by omega) (by omega) (by omega) (by omega)).mono ?_; rintro e w' ⟨rfl,rfl⟩)
    go_roundw
    case rel =>
     refine ⟨k+1,(r+y+c) / B32,by omega,by go_num,by rw [zh]; congr 1,by rw [zh]; omega,?_⟩;have:=HS.out _ _ rfl rfl;rw [show (((r:Int)+y+c) % 4294967296)=(((r+y+c) % B32:Nat):Int) from by rw [zh]; omega];exact this
    case measure=>simp [intOf]; omega
  · obtain rfl:k=xs.length:=by omega
    go_wp2_with fail
    go_loopw [4,7] (fun cv iv wr=>∃ k c:Nat,xs.length<=k/\k<=zl/\iv=.int .i64 k/\cv=.int .u32 c/\c<=1/\Hid (jao w g off zs xs k c wr)) (fun _ iv _=>zl - (intOf iv).toNat)
    case atStart=>exact ⟨xs.length,c,Nat.le_refl _,hlx,rfl,rfl,dh,HI⟩
    case round =>
     clear HI dh;obtain ⟨k,c,xH,hk,rfl,rfl,dh,HI⟩:=hrel;obtain ⟨ys,ae,pg,pV,eP,hdr,hsum,lV⟩:=HI.out;have iL:c=0->ub0 g off zs (val (zs.drop off)+val xs) w (.returned (.tuple #[])) wr:=by
      intro pJ;refine ⟨ys,rfl,ae,pg,pV,eP,?_,lV⟩;have eF:k<=(ys.drop off).length:=by rw [List.length_drop]; have:=tX.out; omega
      have hl3:k<=(zs.drop off).length:=by rw [List.length_drop]; have:=tX.out; omega
      have e1:=vk (ys.drop off) k eF;have e2:=vk (zs.drop off) k hl3;rw [List.drop_drop] at e1 e2;rw [pJ,Nat.mul_zero,Nat.add_zero,List.take_of_length_le xH] at hsum;rw [e1,e2,hdr,hsum];omega
     by_cases pJ:c=0
     · have HD:=hid (iL pJ);have ED:((c:Int) != 0)=false:=by simp [pJ]
       clear HI ae pg pV eP hdr hsum lV iL;subst pJ;go_wp2_with fail
       go_end0
       exact HD.out
     · obtain rfl:c=1:=by omega
       have aj9:k < zl:=by
        rcases Nat.lt_or_ge k zl with h | h
        · exact h
        · exfalso
          obtain rfl:k=zl:=by omega
          have hb:=jH.out;have eu:=tX.out;rw [Nat.mul_one,List.take_of_length_le (by rw [List.length_drop]; omega),List.take_of_length_le (by rw [List.length_drop]; omega),List.take_of_length_le xH] at hsum;omega
       have hlen:off+k < ys.length:=by have:=tX.out; omega
       obtain ⟨r,Eo,rD,HR⟩:=ae.get_ (off+k) hlen;have lT:r < 4294967296:=pV _ (List.mem_of_getElem? HR.out);have HS:=hid (fun d c'=>jao.step (d:=d) (c':=c') ae pg pV eP hdr hsum lV hlen HR (vap xH));clear HI ae pg pV eP hdr hsum lV hlen iL;go_wp2_with (go_at_call 142; refine (add32 _ 0 _ _ (by omega) (by omega) (by omega) (by omega) (by omega) (by omega)).mono ?_; rintro e w' ⟨rfl,rfl⟩)
       go_roundw
       case rel =>
        refine ⟨k+1,(r+0+1) / B32,by omega,by omega,by go_num,by rw [zh]; congr 1,by rw [zh]; omega,?_⟩;have:=HS.out _ _ rfl rfl;rw [show (((r:Int)+1) % 4294967296)=(((r+0+1) % B32:Nat):Int) from by rw [zh]; omega];exact this
       case measure=>simp [intOf]; omega
theorem Only.setRow {g:Nat} (w:World) (cs:Array Value):Only g w (w.setRow g cs):=
 ⟨rfl,rfl,rfl,by simp [World.setRow],fun i _ ak=>setRow_other w g i cs (fun e=>ak (by rw [e]))⟩
theorem gai {w : World} {ops : Array Oper} {rest : List Oper} {o : Oper} {a : Act} {Q : Exit -> Act -> World -> Prop} (jG : o.guard = none) (d s : Operand)
 (ho:o.op=.call { callee:=.builtin .copy,args:=#[d,s],argTypes:=#[31,31] })
 (g off dLen dCap:Nat) (S:Option Addr) (sCap:Nat) (xs zs:List Nat) (hd:a.eval d=.slice (some ⟨g,off,none⟩) dLen dCap) (hs:a.eval s=.slice S xs.length sCap)
 (ae:Row w g zs) (hx:zk w S xs) (hle:xs.length<=dLen) (aB:off+xs.length<=zs.length)
 (h:∀ w',Row w' g (zs.take off ++ (xs ++ zs.drop (off+xs.length)))->Only g w w'->wpList Tryz.prog ops Q rest (a.put o.dst (goInt xs.length)) w'):wpList Tryz.prog ops Q (o :: rest) a w:=by
 by_cases h0:xs.length=0
 · have Ht:xs=[]:=List.eq_nil_of_length_eq_zero h0;subst Ht;refine wpList_copy_nothing jG d s _ _ ho 90 Tryz.underlying31 ga9 _ _ _ _ _ _ hd hs (by simp) ?_;exact h w (by simpa using ae) (Only.refl _ _)
 · obtain ⟨ad,e,hb,hc⟩:=hx.2 (by omega);subst e
   have Ur := wpList_copy_own (P := Tryz.prog) (w := w) (ops := ops) (rest := rest) (o := o) (a := a) (Q := Q) jG d s _ _ ho 90 Tryz.underlying31 ga9 g off dLen dCap ad xs.length sCap hd hs
    (yt zs).toArray 90 ae (yt xs) (by rw [yaa]; exact (Nat.min_eq_left hle).symm)
    (fun j v hj=>by
      have qU:j < xs.length:=by
       rcases Nat.lt_or_ge j xs.length with Ey | Ey
       · exact Ey
       · rw [List.getElem?_eq_none (by rw [yaa]; exact Ey)] at hj; cases hj
      rw [zay xs j qU] at hj
      rw [hc j qU,hj])
    (by rw [yaa]; simpa [yaa] using aB) (kbm xs)
   apply Ur;rw [yaa];refine h _ ?_ (Only.setRow _ _);have:=setRow_heap w g _ ((yt zs).toArray.toList.take off ++ (yt xs ++ (yt zs).toArray.toList.drop (off+xs.length))).toArray 90 _ ae;unfold Row;rw [this];simp [yt]
theorem zk.natTake {w:World} {A:Option Addr} {ds:List Nat} (h:zk w A ds) (k c:Nat) (hk:k<=ds.length) (hc:ds.length<=c) (lw:c<=9223372036854775807):jd w (.slice A k c) (ds.take k):=
 ⟨A,c,by rw [List.length_take,Nat.min_eq_left hk],by rw [List.length_take]; omega,lw,h.take k⟩
theorem zk.natDrop {w:World} {ad:Addr} {ds:List Nat} (h:zk w (some ad) ds) (k c:Nat) (hk:k < ds.length) (hc:ds.length<=c) (lw:c<=9223372036854775807) :
 jd w (.slice (some (ad.add k)) (ds.length - k) (c - k)) (ds.drop k):=by
 have:=h.drop k c (by omega) hc;rw [if_neg (by omega)] at this;exact ⟨_,c - k,by rw [List.length_drop]; rfl,by rw [List.length_drop]; omega,by omega,this⟩
def kar (W w':World) (v:Value) (l n:Nat):Prop:=∃ zs,jd w' v zs/\zs.length=l/\val zs=n/\waa W.heap.size v/\Ext W w'
theorem kar.ext {W w' w'':World} {v:Value} {l n:Nat} (h:kar W w' v l n) (hx:Ext w' w''):kar W w'' v l n:=by
 obtain ⟨zs,h1,h2,h3,h4,h5⟩:=h;exact ⟨zs,h1.ext hx,h2,h3,h4,h5.trans hx⟩
theorem gba {zs:List Nat} {half L mid total:Nat} (hl:zs.length=L) (hh:half<=L) (he:val zs+B32 ^ half * mid=total) (ht:total < B32 ^ L) :
 val (zs.drop half)+mid < B32 ^ (L - half):=by
 have e:=vk zs half (by omega);have e2:B32 ^ L=B32 ^ half * B32 ^ (L - half):=by rw [<- Nat.pow_add]; congr 1; omega
 have:B32 ^ half * (val (zs.drop half)+mid) < B32 ^ half * B32 ^ (L - half):=by
  rw [<- e2,Nat.mul_add]; omega
 exact Nat.lt_of_mul_lt_mul_left this
theorem zbr {zs ys : List Nat} {half L mid total : Nat} (hl : zs.length = L) (nY : ys.length = L) (hh : half <= L) (he : val zs + B32 ^ half * mid = total) (eP : ys.take half = zs.take half)
 (hv:val (ys.drop half)=val (zs.drop half)+mid):val ys=total:=by
 have e:=vk zs half (by omega);have e':=vk ys half (by omega);rw [e',eP,hv,Nat.mul_add];omega
end Go.Proofs.YtklnlgnnlmdibaaGreat
