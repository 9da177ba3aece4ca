/- Layer 1 (natural): products, digit by digit. -/
import Derived.Test.YtcepajijiabkmaaGreatMq1
set_option linter.unusedSimpArgs false
set_option linter.unusedVariables false
set_option maxRecDepth 100000
set_option maxHeartbeats 8000000
namespace Go.Proofs.YtcepajijiabkmaaGreat
open Lib (hid)
open Go.RowKit
def jas (l n:Nat) (w:World) (e:Ending) (w':World):Prop:=∃ v zs,e=.returned v/\jb w' v zs/\zs.length=l/\val zs=n/\waa w.heap.size v/\Ext w w'
def ybi (w0:World) (g:Nat) (ds es:List Nat) (i:Nat) (wr:World):Prop:=
 ∃ zs:List Nat,Row wr g zs/\zs.length=ds.length+es.length/\vg zs/\val (zs.take (i+es.length))=val (ds.take i) * val es/\zs.drop (i+es.length)=List.replicate (ds.length - i) 0/\Ext w0 wr
def xbi (w0:World) (g:Nat) (z0:List Nat) (i x:Nat) (es:List Nat) (j:Nat) (c:Nat) (wr:World):Prop:=
 ∃ zs:List Nat,Row wr g zs/\zs.length=z0.length/\vg zs/\val (zs.take (i+j))+B32 ^ (i+j) * c=val (z0.take (i+j))+B32 ^ i * (x * val (es.take j))/\zs.drop (i+j)=z0.drop (i+j)/\Ext w0 wr
theorem wcs (Z Z0 P Q c x y r E s:Nat) (hz:Z+P * Q * c=Z0+P * (x * E)) (hs:s=x * y+r+c) :
 (Z+P * Q * (s % B32))+P * Q * B32 * (s / B32)=(Z0+P * Q * r)+P * (x * (E+Q * y)):=by
 have e:P * Q * (s % B32)+P * Q * B32 * (s / B32)=P * Q * s:=by rw [Nat.mul_assoc (P * Q),<- Nat.mul_add,Nat.mod_add_div]
 have e2:P * Q * s=P * Q * (x * y)+P * Q * r+P * Q * c:=by rw [hs,Nat.mul_add,Nat.mul_add]
 have e3:P * (x * (E+Q * y))=P * (x * E)+P * Q * (x * y):=by
  rw [Nat.mul_add,Nat.mul_add,Nat.mul_left_comm x Q y,Nat.mul_assoc P Q]
 omega
theorem xbi.step {w0 wr : World} {g : Nat} {z0 es zs : List Nat} {i x j c y r d c' : Nat} (hr : Row wr g zs) (hl : zs.length = z0.length) (hd : vg zs)
 (he:val (zs.take (i+j))+B32 ^ (i+j) * c=val (z0.take (i+j))+B32 ^ i * (x * val (es.take j))) (hdr:zs.drop (i+j)=z0.drop (i+j)) (hx:Ext w0 wr)
 (hg:w0.heap.size<=g) (af:i+j < zs.length) (EP:Hid (zs[i+j]?=some r)) (hy:Hid (es[j]?=some y)) (dO:d=(x * y+r+c) % B32) (bZ:c'=(x * y+r+c) / B32) :
 xbi w0 g z0 i x es (j+1) c' (wr.setCell ⟨g,i+j,none⟩ (.int .u32 (d:Int))):=by
 refine ⟨zs.set (i+j) d,hr.set_ _ _,by rw [List.length_set,hl],hd.set _ _ (by rw [dO]; exact Nat.mod_lt _ ui),?_,?_,hx.setCell (by simpa using hg) _⟩
 · have hr0:Hid (z0[i+j]?=some r):=by
    have h1:=EP.out;have h2:zs[i+j]?=(zs.drop (i+j))[0]?:=by rw [List.getElem?_drop]; simp
    have h3:z0[i+j]?=(z0.drop (i+j))[0]?:=by rw [List.getElem?_drop]; simp
    rw [h2,hdr,<- h3] at h1;exact h1
   rw [show i+(j+1)=(i+j)+1 from by omega,qy zs (i+j) d af,gad,List.length_take,Nat.min_eq_left (by omega),zh hr0,zh hy,Nat.pow_succ,Nat.pow_add];rw [Nat.pow_add] at he;rw [dO,bZ];exact wcs _ _ _ _ _ _ _ _ _ _ he rfl
 · rw [show i+(j+1)=(i+j)+1 from by omega,<- List.drop_drop (i:=1) (j:=i+j),<- List.drop_drop (i:=1) (j:=i+j),<- hdr,List.drop_set];rw [if_neg (by omega),Nat.sub_self,List.drop_drop];rcases hq:zs.drop (i+j) with _ | ⟨a,q⟩
   · have:=congrArg List.length hq; simp at this; omega
   · rw [<- List.drop_drop,hq]; rfl
theorem ubi (u v:Value) (ds es:List Nat) (w:World) (h:jb w u ds) (k:jb w v es) (hs:ds.length+es.length<=35184372088000) :
 Calls Tryz.prog 139 #[u,v] w (jas (ds.length+es.length) (val ds * val es) w):=by
 obtain ⟨A,c,rfl,h1,h2,h3⟩:=h;obtain ⟨A',c',rfl,iI,kC,jG⟩:=k;have G5:=hid h3;have G6:=hid jG;clear h3 jG;have dB:=fun W=>qaa ((ds.length:Int)+es.length) (by omega) (by omega) W
 go_enter Tryz.func139,Tryz.ntmps139;go_wp2_with fail
 have hinv:ybi w w.heap.size ds es 0 (w.alloc (Obj.cells (zt (List.replicate (ds.length+es.length) 0)).toArray 84)):=
  ⟨List.replicate (ds.length+es.length) 0,Row.new w _,by simp,vg.replicate _,by simp [kab],by simp,(Ext.refl _).alloc _⟩
 have bI:=hid hinv;clear hinv
 go_loopw [23] (fun i wr=>∃ k:Nat,k<=ds.length/\i=.int .i64 k/\Hid (ybi w w.heap.size ds es k wr)) (fun i _=>ds.length - (intOf i).toNat)
 case atStart=>exact ⟨0,by omega,rfl,bI⟩
 case round =>
  clear bI;obtain ⟨i,hi,rfl,HI⟩:=hrel
  by_cases af:i < ds.length
  · obtain ⟨zs,ae,dR,dM,aH,hzero,aA⟩:=HI.out;obtain ⟨ad,x,rfl,hb,ai,hx1,HX⟩:=(G5.out.ext aA).get_ i af
    by_cases aF:x=0
    · have HS:Hid (ybi w w.heap.size ds es (i+1) wr):=by
       refine ⟨zs,ae,dR,dM,?_,?_,aA⟩
       · have hz:Hid (zs[i+es.length]?=some 0):=by
          have h2:zs[i+es.length]?=(zs.drop (i+es.length))[0]?:=by rw [List.getElem?_drop]; simp
          have:zs[i+es.length]?=some 0:=by
           rw [h2,hzero];simp [List.getElem?_replicate]; omega
          exact this
         rw [show i+1+es.length=(i+es.length)+1 from by omega,zh hz,aH,zh HX,aF];simp
       · rw [show i+1+es.length=(i+es.length)+1 from by omega,<- List.drop_drop (i:=1) (j:=i+es.length),hzero];simp; omega
      subst aF;clear HI ae dR dM aH hzero aA;go_wp2_with fail
      go_roundw
      case rel=>exact ⟨i+1,by omega,by go_num,HS⟩
      case measure=>simp [intOf]; omega
    · have Yj:¬ (ds.length+es.length=i):=by omega
      have Hq:((x:Int) == 0)=false:=by simp; omega
      have nK:xbi w w.heap.size zs i x es 0 0 wr:=⟨zs,ae,rfl,dM,by simp,rfl,aA⟩;have MN:=hid nK;have tC:=hid aH;have Rk:=hid hzero;have qV:=hid dR;clear HI ae dR dM aH hzero aA nK;go_wp2_with fail;obtain ⟨wo,rfl⟩:∃ wo:World,wo=wr:=⟨_,rfl⟩
      go_loopw [9,35] (fun cv jv wq=>∃ j cc:Nat,j<=es.length/\jv=.int .i64 j/\cv=.int .u32 cc/\cc < 4294967296/\Hid (xbi w w.heap.size zs i x es j cc wq)) (fun _ jv _=>es.length - (intOf jv).toNat)
      case atStart=>exact ⟨0,0,by omega,rfl,rfl,by omega,MN⟩
      case round =>
       clear MN;obtain ⟨j,cc,hj,rfl,rfl,jO,HJ⟩:=hrel;obtain ⟨ys,ae,mi,nH,aH,hdr,aA⟩:=HJ.out;have Hf:ys.length=ds.length+es.length:=mi.trans qV.out
       by_cases oK:j < es.length
       · obtain ⟨ad',y,rfl,dX,eQ,BP,HY⟩:=(G6.out.ext aA).get_ j oK;obtain ⟨r,BR,H9,HR⟩:=ae.get_ (i+j) (by omega);have uF:r < 4294967296:=nH _ (List.mem_of_getElem? HR.out);have yL:(0:Int)<=x * y:=Int.mul_nonneg (by omega) (by omega);have pR:(x:Int) * y<=4294967295 * 4294967295:=Int.mul_le_mul (by omega) (by omega) (by omega) (by omega);have HS:=fun d c'=>xbi.step (d:=d) (c':=c') ae mi nH aH hdr aA (Nat.le_refl _) (by omega) HR HY
         have aW:=hid HS;clear HJ ae mi nH aH hdr aA Hf HS
         go_wp2_with (first
          | (go_at_call 154; refine (gcb _ _ _ (by omega) (by omega) (by omega) (by omega)).mono ?_; rintro e w' ⟨rfl,rfl⟩)
          | (go_at_call 125; refine (add32 _ _ 0 _ (by omega) (by omega) (by omega) (by omega) (by omega) (by omega)).mono ?_; rintro e w' ⟨rfl,rfl⟩))
         go_roundw
         case rel =>
          have e1:(x:Int) * y=((x * y:Nat):Int):=by simp
          have Yi:(x * y+r+cc) / B32 < 4294967296:=by
           rw [ug]; rw [e1] at pR; omega
          refine ⟨j+1,(x * y+r+cc) / B32,by omega,by go_num,?_,Yi,?_⟩
          · rw [e1,ug]; congr 1; omega
          · have:=aW.out _ _ rfl rfl;rw [e1,show ((((x * y:Nat):Int)+r+cc) % 4294967296)=(((x * y+r+cc) % B32:Nat):Int) from by rw [ug]; omega];exact this
         case measure=>simp [intOf]; omega
       · obtain rfl:j=es.length:=by omega
         obtain ⟨r,BR,H9,HR⟩:=ae.get_ (i+es.length) (by omega);have HS:Hid (ybi w w.heap.size ds es (i+1) (wr.setCell ⟨w.heap.size,i+es.length,none⟩ (.int .u32 (cc:Int)))):=by
          refine ⟨ys.set (i+es.length) cc,ae.set_ _ _,by rw [List.length_set]; exact Hf,nH.set _ _ (by rw [ug]; exact jO),?_,?_,aA.setCell (by simp) _⟩
          · rw [show i+1+es.length=(i+es.length)+1 from by omega,qy ys _ _ (by omega),gad,List.length_take,Nat.min_eq_left (by omega),aH,tC.out,zh HX,
             List.take_of_length_le (Nat.le_refl _),Nat.add_mul,Nat.mul_assoc]
          · rw [show i+1+es.length=(i+es.length)+1 from by omega,<- List.drop_drop (i:=1) (j:=i+es.length),List.drop_set,if_neg (by omega),Nat.sub_self,hdr,Rk.out];obtain ⟨q,hq⟩:∃ q,ds.length - i=q+1:=⟨ds.length - i - 1,by omega⟩;rw [hq,List.replicate_succ,show ds.length - (i+1)=q from by omega]
            rfl
         clear HJ ae mi nH aH hdr aA Hf;go_wp2_with fail
         go_roundw
         case rel=>exact ⟨i+1,by omega,by go_num,HS⟩
         case measure=>simp [intOf]; omega
  · obtain rfl:i=ds.length:=by omega
    obtain ⟨zs,ae,dR,dM,aH,hzero,aA⟩:=HI.out;have HN:Hid (jb wr (.slice (some ⟨w.heap.size,0,none⟩) (ds.length+es.length) (ds.length+es.length)) zs):=by
     have:=ae.natV dM (ds.length+es.length) (by omega) (by omega);rw [dR] at this;exact this
    have HV:Hid (val zs=val ds * val es):=by
     have:=aH;rw [List.take_of_length_le (by omega),List.take_of_length_le (by omega)] at this;exact this
    have HL:=hid dR;have HX:=hid aA;clear HI ae dR dM aH hzero aA;go_wp2_with fail;go_ret;exact ⟨_,zs,rfl,HN.out,HL.out,HV.out,waa.mk _ _ _ _ (Nat.le_refl _),HX.out⟩
def uao (w0:World) (g off:Nat) (zs xs:List Nat) (k c:Nat) (wr:World):Prop:=
 ∃ ys:List Nat,Row wr g ys/\ys.length=zs.length/\vg ys/\ys.take off=zs.take off/\ys.drop (off+k)=zs.drop (off+k) /\
   val ((ys.drop off).take k)+B32 ^ k * c=val ((zs.drop off).take k)+val (xs.take k)/\Only g w0 wr
theorem uao.step {w0 wr : World} {g off : Nat} {zs xs ys : List Nat} {k c r y d c' : Nat} (hr : Row wr g ys) (hl : ys.length = zs.length) (hd : vg ys) (ht : ys.take off = zs.take off)
 (hdr:ys.drop (off+k)=zs.drop (off+k)) (he:val ((ys.drop off).take k)+B32 ^ k * c=val ((zs.drop off).take k)+val (xs.take k)) (ho:Only g w0 wr)
 (af:off+k < ys.length) (EP:Hid (ys[off+k]?=some r)) (hy:val (xs.take (k+1))=val (xs.take k)+B32 ^ k * y) (dO:d=(r+y+c) % B32) (bZ:c'=(r+y+c) / B32) :
 uao w0 g off zs xs (k+1) c' (wr.setCell ⟨g,off+k,none⟩ (.int .u32 (d:Int))):=by
 have hr0:Hid ((zs.drop off)[k]?=some r):=by
  have h1:=EP.out;have h2:ys[off+k]?=(ys.drop (off+k))[0]?:=by rw [List.getElem?_drop]; simp
  have h3:(zs.drop off)[k]?=(zs.drop (off+k))[0]?:=by rw [List.getElem?_drop,List.getElem?_drop]; simp
  rw [h2,hdr,<- h3] at h1;exact h1
 refine ⟨ys.set (off+k) d,hr.set_ _ _,by rw [List.length_set,hl],hd.set _ _ (by rw [dO]; exact Nat.mod_lt _ ui),?_,?_,?_,ho.setCell _ _⟩
 · rw [List.take_set_of_le (by omega),ht]
 · rw [show off+(k+1)=(off+k)+1 from by omega,<- List.drop_drop (i:=1) (j:=off+k),<- List.drop_drop (i:=1) (j:=off+k),<- hdr,List.drop_set,if_neg (by omega),Nat.sub_self];rcases hq:ys.drop (off+k) with _ | ⟨a,q⟩
   · rfl
   · rfl
 · have Ai:k < (ys.drop off).length:=by rw [List.length_drop]; omega
   rw [List.drop_set,if_neg (by omega),Nat.add_sub_cancel_left,qy _ _ _ Ai,gad,List.length_take,Nat.min_eq_left (by omega),zh hr0,hy,Nat.pow_succ,dO,bZ];exact zbq _ _ _ _ _ _ _ _ he rfl
def vb8 (g off:Nat) (zs:List Nat) (n:Nat) (w:World) (e:Ending) (w':World):Prop:=
 ∃ ys:List Nat,e=.returned (.tuple #[])/\Row w' g ys/\ys.length=zs.length/\vg ys/\ys.take off=zs.take off/\val (ys.drop off)=n/\Only g w w'
theorem uba (g off zl zc : Nat) (zs xs : List Nat) (X : Option Addr) (xc : Nat) (w : World) (ae : Row w g zs) (dM : vg zs) (dR : zs.length = off + zl) (EF : zl <= zc) (Np : zc <= 35184372088832)
 (hx:yj w X xs) (iM:∀ ad,X=some ad->ad.block ≠ g) (hlx:xs.length<=zl) (yF:xs.length<=xc) (aeK:xc<=9223372036854775807) (aI:val (zs.drop off)+val xs < B32 ^ zl) :
 Calls Tryz.prog 140 #[.slice (some ⟨g,off,none⟩) zl zc,.slice X xs.length xc] w (vb8 g off zs (val (zs.drop off)+val xs) w):=by
 have bI:Hid (uao w g off zs xs 0 0 w):=⟨zs,ae,rfl,dM,rfl,rfl,by simp,Only.refl _ _⟩;have HX:=hid hx;have Rl:=hid iM;have nC:=hid aI;have qV:=hid dR;clear hx iM aI ae dM dR;go_enter Tryz.func140,Tryz.ntmps140;go_wp2_with fail
 go_loopw [4,10] (fun cv iv wr=>∃ k c:Nat,k<=xs.length/\iv=.int .i64 k/\cv=.int .u32 c/\c<=1/\Hid (uao w g off zs xs k c wr)) (fun _ iv _=>xs.length - (intOf iv).toNat)
 case atStart=>exact ⟨0,0,by omega,rfl,rfl,by omega,bI⟩
 case round =>
  clear bI;obtain ⟨k,c,hk,rfl,rfl,bZ,HI⟩:=hrel
  by_cases af:k < xs.length
  · obtain ⟨ys,ae,mi,nH,dD,hdr,hsum,jW⟩:=HI.out;have hlen:off+k < ys.length:=by have:=qV.out; omega
    obtain ⟨ad,y,rfl,hb,ai,BP,HY⟩:=(HX.out.only jW Rl.out).get_ k af;obtain ⟨r,BR,H9,HR⟩:=ae.get_ (off+k) hlen;have uF:r < 4294967296:=nH _ (List.mem_of_getElem? HR.out);have HS:=hid (fun d c'=>uao.step (d:=d) (c':=c') ae mi nH dD hdr hsum jW hlen HR (zh HY));clear HI ae mi nH dD hdr hsum jW hlen;go_wp2_with (go_at_call 125; refine (add32 _ _ _ _ (by omega) (by omega) (by omega) (by omega) (by omega) (by omega)).mono ?_; rintro e w' ⟨rfl,rfl⟩)
    go_roundw
    case rel =>
     refine ⟨k+1,(r+y+c) / B32,by omega,by go_num,by rw [ug]; congr 1,by rw [ug]; omega,?_⟩;have:=HS.out _ _ rfl rfl;rw [show (((r:Int)+y+c) % 4294967296)=(((r+y+c) % B32:Nat):Int) from by rw [ug]; omega];exact this
    case measure=>simp [intOf]; omega
  · obtain rfl:k=xs.length:=by omega
    go_wp2_with fail
    go_loopw [4,7] (fun cv iv wr=>∃ k c:Nat,xs.length<=k/\k<=zl/\iv=.int .i64 k/\cv=.int .u32 c/\c<=1/\Hid (uao w g off zs xs k c wr)) (fun _ iv _=>zl - (intOf iv).toNat)
    case atStart=>exact ⟨xs.length,c,Nat.le_refl _,hlx,rfl,rfl,bZ,HI⟩
    case round =>
     clear HI bZ;obtain ⟨k,c,oJ,hk,rfl,rfl,bZ,HI⟩:=hrel;obtain ⟨ys,ae,mi,nH,dD,hdr,hsum,jW⟩:=HI.out;have fB:c=0->vb8 g off zs (val (zs.drop off)+val xs) w (.returned (.tuple #[])) wr:=by
      intro nS;refine ⟨ys,rfl,ae,mi,nH,dD,?_,jW⟩;have dK:k<=(ys.drop off).length:=by rw [List.length_drop]; have:=qV.out; omega
      have Xk:k<=(zs.drop off).length:=by rw [List.length_drop]; have:=qV.out; omega
      have e1:=zk (ys.drop off) k dK;have e2:=zk (zs.drop off) k Xk;rw [List.drop_drop] at e1 e2;rw [nS,Nat.mul_zero,Nat.add_zero,List.take_of_length_le oJ] at hsum;rw [e1,e2,hdr,hsum];omega
     by_cases nS:c=0
     · have HD:=hid (fB nS);have LC:((c:Int) != 0)=false:=by simp [nS]
       clear HI ae mi nH dD hdr hsum jW fB;subst nS;go_wp2_with fail
       go_end0
       exact HD.out
     · obtain rfl:c=1:=by omega
       have afD:k < zl:=by
        rcases Nat.lt_or_ge k zl with h | h
        · exact h
        · exfalso
          obtain rfl:k=zl:=by omega
          have hb:=nC.out;have dR:=qV.out;rw [Nat.mul_one,List.take_of_length_le (by rw [List.length_drop]; omega),List.take_of_length_le (by rw [List.length_drop]; omega),List.take_of_length_le oJ] at hsum;omega
       have hlen:off+k < ys.length:=by have:=qV.out; omega
       obtain ⟨r,BR,H9,HR⟩:=ae.get_ (off+k) hlen;have uF:r < 4294967296:=nH _ (List.mem_of_getElem? HR.out);have HS:=hid (fun d c'=>uao.step (d:=d) (c':=c') ae mi nH dD hdr hsum jW hlen HR (zaq oJ));clear HI ae mi nH dD hdr hsum jW hlen fB;go_wp2_with (go_at_call 125; refine (add32 _ 0 _ _ (by omega) (by omega) (by omega) (by omega) (by omega) (by omega)).mono ?_; rintro e w' ⟨rfl,rfl⟩)
       go_roundw
       case rel =>
        refine ⟨k+1,(r+0+1) / B32,by omega,by omega,by go_num,by rw [ug]; congr 1,by rw [ug]; omega,?_⟩;have:=HS.out _ _ rfl rfl;rw [show (((r:Int)+1) % 4294967296)=(((r+0+1) % B32:Nat):Int) from by rw [ug]; omega];exact this
       case measure=>simp [intOf]; omega
theorem Only.setRow {g:Nat} (w:World) (cs:Array Value):Only g w (w.setRow g cs):=
 ⟨rfl,rfl,rfl,by simp [World.setRow],fun i _ au=>setRow_other w g i cs (fun e=>au (by rw [e]))⟩
theorem xai {w : World} {ops : Array Oper} {rest : List Oper} {o : Oper} {a : Act} {Q : Exit -> Act -> World -> Prop} (qI : o.guard = none) (d s : Operand)
 (ho:o.op=.call { callee:=.builtin .copy,args:=#[d,s],argTypes:=#[28,28] })
 (g off dLen dCap:Nat) (S:Option Addr) (sCap:Nat) (xs zs:List Nat) (hd:a.eval d=.slice (some ⟨g,off,none⟩) dLen dCap) (hs:a.eval s=.slice S xs.length sCap)
 (ae:Row w g zs) (hx:yj w S xs) (hle:xs.length<=dLen) (aI:off+xs.length<=zs.length)
 (h:∀ w',Row w' g (zs.take off ++ (xs ++ zs.drop (off+xs.length)))->Only g w w'->wpList Tryz.prog ops Q rest (a.put o.dst (goInt xs.length)) w'):wpList Tryz.prog ops Q (o :: rest) a w:=by
 by_cases h0:xs.length=0
 · have zF:xs=[]:=List.eq_nil_of_length_eq_zero h0;subst zF;refine wpList_copy_nothing qI d s _ _ ho 84 Tryz.underlying28 qbb _ _ _ _ _ _ hd hs (by simp) ?_;exact h w (by simpa using ae) (Only.refl _ _)
 · obtain ⟨ad,e,hb,hc⟩:=hx.2 (by omega);subst e
   have Qd := wpList_copy_own (P := Tryz.prog) (w := w) (ops := ops) (rest := rest) (o := o) (a := a) (Q := Q) qI d s _ _ ho 84 Tryz.underlying28 qbb g off dLen dCap ad xs.length sCap hd hs
    (zt zs).toArray 84 ae (zt xs) (by rw [xaa]; exact (Nat.min_eq_left hle).symm)
    (fun j v hj=>by
      have oK:j < xs.length:=by
       rcases Nat.lt_or_ge j xs.length with Ff | Ff
       · exact Ff
       · rw [List.getElem?_eq_none (by rw [xaa]; exact Ff)] at hj; cases hj
      rw [vaz xs j oK] at hj
      rw [hc j oK,hj])
    (by rw [xaa]; simpa [xaa] using aI) (vbp xs)
   apply Qd;rw [xaa];refine h _ ?_ (Only.setRow _ _);have:=setRow_heap w g _ ((zt zs).toArray.toList.take off ++ (zt xs ++ (zt zs).toArray.toList.drop (off+xs.length))).toArray 84 _ ae;unfold Row;rw [this];simp [zt]
theorem yj.natTake {w:World} {A:Option Addr} {ds:List Nat} (h:yj w A ds) (k c:Nat) (hk:k<=ds.length) (hc:ds.length<=c) (jH:c<=9223372036854775807):jb w (.slice A k c) (ds.take k):=
 ⟨A,c,by rw [List.length_take,Nat.min_eq_left hk],by rw [List.length_take]; omega,jH,h.take k⟩
theorem yj.natDrop {w:World} {ad:Addr} {ds:List Nat} (h:yj w (some ad) ds) (k c:Nat) (hk:k < ds.length) (hc:ds.length<=c) (jH:c<=9223372036854775807) :
 jb w (.slice (some (ad.add k)) (ds.length - k) (c - k)) (ds.drop k):=by
 have:=h.drop k c (by omega) hc;rw [if_neg (by omega)] at this;exact ⟨_,c - k,by rw [List.length_drop]; rfl,by rw [List.length_drop]; omega,by omega,this⟩
def kas (W w':World) (v:Value) (l n:Nat):Prop:=∃ zs,jb w' v zs/\zs.length=l/\val zs=n/\waa W.heap.size v/\Ext W w'
theorem kas.ext {W w' w'':World} {v:Value} {l n:Nat} (h:kas W w' v l n) (hx:Ext w' w''):kas W w'' v l n:=by
 obtain ⟨zs,h1,h2,h3,h4,h5⟩:=h;exact ⟨zs,h1.ext hx,h2,h3,h4,h5.trans hx⟩
theorem ybd {zs:List Nat} {half L mid total:Nat} (hl:zs.length=L) (hh:half<=L) (he:val zs+B32 ^ half * mid=total) (ht:total < B32 ^ L) :
 val (zs.drop half)+mid < B32 ^ (L - half):=by
 have e:=zk zs half (by omega);have e2:B32 ^ L=B32 ^ half * B32 ^ (L - half):=by rw [<- Nat.pow_add]; congr 1; omega
 have:B32 ^ half * (val (zs.drop half)+mid) < B32 ^ half * B32 ^ (L - half):=by
  rw [<- e2,Nat.mul_add]; omega
 exact Nat.lt_of_mul_lt_mul_left this
theorem xbv {zs ys : List Nat} {half L mid total : Nat} (hl : zs.length = L) (kL : ys.length = L) (hh : half <= L) (he : val zs + B32 ^ half * mid = total) (dD : ys.take half = zs.take half)
 (hv:val (ys.drop half)=val (zs.drop half)+mid):val ys=total:=by
 have e:=zk zs half (by omega);have e':=zk ys half (by omega);rw [e',dD,hv,Nat.mul_add];omega
end Go.Proofs.YtcepajijiabkmaaGreat
