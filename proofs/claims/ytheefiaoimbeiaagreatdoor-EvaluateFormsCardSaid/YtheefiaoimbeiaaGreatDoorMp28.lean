/- Layer 3 (division): the parts of long division. -/
import Derived.Test.YtheefiaoimbeiaaGreatDoorMp27
import Derived.Test.YtheefiaoimbeiaaGreatDoorLen
set_option linter.unusedSimpArgs false
set_option linter.unusedVariables false
set_option maxRecDepth 100000
set_option maxHeartbeats 8000000
namespace Go.Proofs.YtheefiaoimbeiaaGreatDoor
open Lib (hid)
open Go.RowKit
def gfu (B U2 U V v1:Nat) (w:World) (s11 s12 s13:Value) (wx:World):Prop:=
 ∃ q r o:Nat,s11=.int .u32 (q:Nat)/\s12=.int .u32 (r:Nat)/\s13=.int .u32 (o:Nat)/\jeg B U2 U V v1 q r o/\∃ n,wx=w.drewN n
theorem ze7 (u2 u1 u0 v1 v2:Nat) (w:World) (hu2:u2<=v1) (hu1:u1 < 4294967296) (hu0:u0 < 4294967296) (hv1:v1 < 4294967296) (hv2:v2 < 4294967296) (aAo:2147483648<=v1) :
 Calls Tryz.prog 168 #[.int .u32 (u2:Nat),.int .u32 (u1:Nat),.int .u32 (u0:Nat),.int .u32 (v1:Nat),.int .u32 (v2:Nat)] w fun e w' =>
  e=.returned (.int .u32 (yd2 B32 (u2 * B32 * B32+u1 * B32+u0) (v1 * B32+v2):Nat))/\∃ n,w'=w.drewN n:=by
 go_enter Tryz.func168,Tryz.ntmps168
 go_upto_if 18 with (fail)
 go_cut [11,12,13] (fun s11 s12 s13 wx=>gfu B32 (u2 * B32+u1) (u2 * B32 * B32+u1 * B32+u0) (v1 * B32+v2) v1 w s11 s12 s13 wx)
 case first =>
  by_cases h:u2 < v1
  · have hi:=hid (yf5 (u0:=u0) (v2:=v2) kdm (show u1 < B32 from hu1) (show u0 < B32 from hu0) (show v1 < B32 from hv1) h);go_wp2_with fail;refine (kf7 _ _ _ _ (by omega) (by omega) (by omega) (by omega) (by omega)).mono ?_;rintro e w2 ⟨rfl,n2,rfl⟩;go_wp2_with fail
    go_meet
    refine ⟨_,_,0,?_,?_,rfl,hi.out,n2,rfl⟩
    · rw [vdk]; simp
    · rw [vdk]; simp
  · have he:u2=v1:=by omega
    have hi:=hid (xe7 (u0:=u0) (v2:=v2) kdm (show u1 < B32 from hu1) (show v1 < B32 from hv1) he);clear he;go_wp2_with fail;refine (add32 _ _ 0 _ (by omega) (by omega) (by omega) (by omega) (by omega) (by omega)).mono ?_;rintro e w2 ⟨rfl,rfl⟩;go_wp2_with fail
    go_meet
    refine ⟨_,_,_,?_,?_,?_,hi.out,0,rfl⟩
    · rfl
    · rw [vdk]; simp
    · rw [vdk]; simp
 case rest =>
  obtain ⟨q,r,o,rfl,rfl,rfl,hinv,n,rfl⟩:=hcut;have HI0:=hid hinv;clear hinv;go_wp2_with fail
  go_loopw [11,12,13] (fun s11 s12 s13 wx=>gfu B32 (u2 * B32+u1) (u2 * B32 * B32+u1 * B32+u0) (v1 * B32+v2) v1 w s11 s12 s13 wx) (fun s11 _ _ _=>(intOf s11).toNat)
  case atStart=>exact ⟨q,r,o,rfl,rfl,rfl,HI0.out,n,rfl⟩
  case round =>
   clear HI0;obtain ⟨q,r,o,rfl,rfl,rfl,hinv,n,rfl⟩:=hrel;have hq:=hinv.1;have hr:=hinv.2.1;have ho:=hinv.2.2.1;have HI:=hid hinv;rw [vdk] at hq hr;clear hinv
   by_cases ho0:o=0
   · subst ho0;go_wp2_with fail;refine (ufi _ _ _ (by omega) (by omega) (by omega) (by omega)).mono ?_;rintro e w2 ⟨rfl,rfl⟩;obtain ⟨H,hH⟩:∃ H:Nat,H=q * v2 / 4294967296:=⟨_,rfl⟩;obtain ⟨Lo,hLo⟩:∃ Lo:Nat,Lo=q * v2 % 4294967296:=⟨_,rfl⟩;have e1:(q:Int) * v2 / 4294967296=H:=by rw [hH]; simp
     have e2:(q:Int) * v2 % 4294967296=Lo:=by rw [hLo]; simp
     have arX:q * v2=H * 4294967296+Lo:=by omega
     have aBM:Lo < 4294967296:=by omega
     have ano:=hid arX;rw [e1,e2];clear e1 e2 hH hLo arX;have ag5:q * v2<=r * B32+u0->q=yd2 B32 (u2 * B32 * B32+u1 * B32+u0) (v1 * B32+v2):=fun h=>qe7 kdm HI.out (by omega) (.inr h) hv2
     have aoo:=hid ag5;clear ag5;rcases Nat.lt_trichotomy H r with hlt | heq | hgt
     · have b1:decide (H < r)=true:=by simp [hlt]
       go_wp2_with fail;go_ret;refine ⟨?_,_,rfl⟩;have:=aoo.out (by rw [vdk]; have:=ano.out; omega);rw [<- this]
       rfl
     · subst heq;have b1:decide (H < H)=false:=by simp
       have b2:((H:Int) == (H:Int))=true:=by simp
       by_cases hl:Lo<=u0
       · have b3:decide (Lo<=u0)=true:=by simp [hl]
         go_wp2_with fail;go_ret;refine ⟨?_,_,rfl⟩;have:=aoo.out (by rw [vdk]; have:=ano.out; omega);rw [<- this]
         rfl
       · have b3:decide (Lo<=u0)=false:=by simp [hl]
         obtain ⟨hq0,hst⟩:=ye7 kdm HI.out (by omega) (show v1 < B32 from hv1) (by rw [vdk]; have:=ano.out; omega);have HST:=hid hst;clear hst;go_wp2_with fail;refine (add32 _ _ 0 _ (by omega) (by omega) (by omega) (by omega) (by omega) (by omega)).mono ?_;rintro e w2 ⟨rfl,rfl⟩;go_wp2_with fail
         go_roundw
         case rel=>exact ⟨q - 1,_,_,by congr 1; omega,by rw [vdk]; simp,by rw [vdk]; simp,HST.out,_,rfl⟩
         case measure=>simp [intOf]; omega
     · have b1:decide (H < r)=false:=by simp; omega
       have b2:((H:Int) == (r:Int))=false:=beq_eq_false_iff_ne.2 (by omega);obtain ⟨hq0,hst⟩:=ye7 kdm HI.out (by omega) (show v1 < B32 from hv1) (by rw [vdk]; have:=ano.out; omega);have HST:=hid hst;clear hst;go_wp2_with fail;refine (add32 _ _ 0 _ (by omega) (by omega) (by omega) (by omega) (by omega) (by omega)).mono ?_;rintro e w2 ⟨rfl,rfl⟩;go_wp2_with fail
       go_roundw
       case rel=>exact ⟨q - 1,_,_,by congr 1; omega,by rw [vdk]; simp,by rw [vdk]; simp,HST.out,_,rfl⟩
       case measure=>simp [intOf]; omega
   · obtain rfl:o=1:=by omega
     have hd:=qe7 kdm HI.out (by omega) (.inl rfl) hv2;have HD:=hid hd;clear hd;go_wp2_with fail;go_ret;refine ⟨?_,_,rfl⟩;rw [<- HD.out]
     rfl
def seg (zs:List Nat) (off k:Nat):List Nat:=(zs.drop off).take k
theorem weg {zs:List Nat} {off k r:Nat} (h:Hid (zs[off+k]?=some r)):val (seg zs off (k+1))=val (seg zs off k)+B32 ^ k * r:=by
 have h1:Hid ((zs.drop off)[k]?=some r):=by
  have:=h.out;rw [<- se] at this;exact this
 exact udk h1
theorem yga {zs:List Nat} {off k d:Nat} (h:off+k < zs.length):val (seg (zs.set (off+k) d) off (k+1))=val (seg zs off k)+B32 ^ k * d:=by
 unfold seg;have hlk:k < (zs.drop off).length:=by rw [pL]; omega
 rw [tF,if_neg (by omega),ug,kdt _ _ _ hlk,xdy,px,rh (by omega)]
theorem qe0 {zs:List Nat} {i d:Nat}:(zs.set i d).drop (i+1)=zs.drop (i+1):=by
 rw [tF,if_pos (by omega)]
def qd3 (g off:Nat) (zs:List Nat) (k:Nat) (w0 wr:World) (ys:List Nat):Prop:=
 Row wr g ys/\ys.length=zs.length/\kdk ys/\ys.take off=zs.take off/\ys.drop (off+k)=zs.drop (off+k)/\Only g w0 wr
theorem qd3.get {g off k:Nat} {zs ys:List Nat} {w0 wr:World} (h:qd3 g off zs k w0 wr ys) (hk:off+k < zs.length) :
 ∃ r:Nat,wr.cell? ⟨g,off+k,none⟩=some (.int .u32 (r:Nat))/\wr.frozen? ⟨g,off+k,none⟩=false/\r < 4294967296/\Hid (zs[off+k]?=some r):=by
 obtain ⟨h1,h2,h3,h4,h5,h6⟩:=h;obtain ⟨r,c1,c2,c3⟩:=h1.qt (off+k) (by omega);refine ⟨r,c1,c2,h3 _ (rH c3.out),?_⟩;have e1:ys[off+k]?=(ys.drop (off+k))[0]?:=by rw [se]; simp
 have e2:zs[off+k]?=(zs.drop (off+k))[0]?:=by rw [se]; simp
 have:=c3.out;rw [e1,h5,<- e2] at this;exact this
theorem qd3.set {g off k d:Nat} {zs ys:List Nat} {w0 wr:World} (h:qd3 g off zs k w0 wr ys) (hk:off+k < zs.length) (hd:d < B32) :
 qd3 g off zs (k+1) w0 (wr.setCell ⟨g,off+k,none⟩ (.int .u32 (d:Nat))) (ys.set (off+k) d)/\val (seg (ys.set (off+k) d) off (k+1))=val (seg ys off k)+B32 ^ k * d:=by
 obtain ⟨h1,h2,h3,h4,h5,h6⟩:=h;refine ⟨⟨h1.qG _ _,by rw [pN,h2],h3.set _ _ hd,by rw [tU (by omega),h4],?_,h6.setCell _ _⟩,yga (by omega)⟩;rw [show off+(k+1)=(off+k)+1 from by omega,qe0,<- sj (i:=1) (j:=off+k),h5,sj]
theorem jfn (Sy Sz P c b d low c' b' p z D X:Nat) (h:Sy+D * X=Sz+P * (c+b)) (y:Nat) (hp:p=D * y) (h1:p+c=low+B32 * c') (h2:d+low+b=z+B32 * b') :
 (Sy+P * d)+D * (X+P * y)=(Sz+P * z)+P * B32 * (c'+b'):=by
 have e1:D * (X+P * y)=D * X+P * p:=by rw [pD,hp,sT]
 have e2:P * (d+p+c+b)=P * (z+B32 * (c'+b')):=by congr 1; rw [pD]; omega
 rw [pD,pD,pD,pD,<- pS] at e2;rw [pD] at h;omega
def gew (g off:Nat) (zs xs:List Nat) (D k c b:Nat) (w0 wr:World):Prop:=
 ∃ ys,qd3 g off zs k w0 wr ys/\val (seg ys off k)+D * val (xs.take k)=val (seg zs off k)+B32 ^ k * (c+b)
def gfe (g off n:Nat) (zs xs:List Nat) (D:Nat) (w:World) (e:Ending) (w':World):Prop:=
 ∃ (ys:List Nat) (b:Nat),b<=1/\e=.returned (.bool ((b:Int) != 0))/\qd3 g off zs (n+1) w w' ys/\val (seg ys off (n+1))+D * val xs=val (seg zs off (n+1))+B32 ^ (n+1) * b
theorem zfw (g off zc n xc D : Nat) (zs xs : List Nat) (X : Option Addr) (w : World) (aaC : Row w g zs) (hzd : kdk zs) (hzl : off + n + 1 <= zs.length) (hzc : n + 1 <= zc) (aqy : zc <= 35184372088832)
 (hx:ydm w X xs) (hxn:xs.length=n) (hxa:∀ ad,X=some ad->ad.block ≠ g) (hxc:n<=xc) (_hxc':xc<=9223372036854775807) (hD:D < 4294967296) :
 Calls Tryz.prog 169 #[.slice (some ⟨g,off,none⟩) (n+1) zc,.slice X n xc,.int .u32 (D:Nat)] w (gfe g off n zs xs D w):=by
 have ace:Hid (gew g off zs xs D 0 0 0 w w):=⟨zs,⟨aaC,rfl,hzd,rfl,rfl,Only.refl _ _⟩,by simp [seg]⟩;have HX:=hid hx;have HXN:=hid hxn;have HXA:=hid hxa;clear hx hxa aaC hzd hxn;go_enter Tryz.func169,Tryz.ntmps169;go_wp2_with fail
 go_loopw [7,8,17] (fun cv bv iv wr=>∃ k c b:Nat,k<=n/\iv=.int .i64 k/\cv=.int .u32 c/\bv=.int .u32 b/\c < 4294967296/\b<=1/\Hid (gew g off zs xs D k c b w wr)) (fun _ _ iv _=>n - (intOf iv).toNat)
 case atStart=>exact ⟨0,0,0,by omega,rfl,rfl,rfl,by omega,by omega,ace⟩
 case round =>
  clear ace;obtain ⟨k,c,b,hk,rfl,rfl,rfl,hc,hb,HI⟩:=hrel;obtain ⟨ys,aem,ab2⟩:=HI.out;obtain ⟨r,hrc,hrf,hr1,HR⟩:=aem.get (by omega)
  by_cases hlt:k < n
  · obtain ⟨ad,y,rfl,hbk,abZ,hy1,HY⟩:=(HX.out.only aem.2.2.2.2.2 HXA.out).qt k (by have:=HXN.out; omega);have hp0:(0:Int)<=(y:Int) * D:=Int.mul_nonneg (by omega) (by omega);have hp1:(y:Int) * D<=4294967295 * 4294967295:=tQ (by omega) (by omega) (by omega) (by omega);have al9:=hid aem;have ajX:=hid ab2;clear HI aem ab2;go_wp2_with fail;refine (ufi _ _ _ (by omega) (by omega) (by omega) (by omega)).mono ?_;rintro e w2 ⟨rfl,rfl⟩;go_wp2_with fail;refine (add32 _ _ 0 _ (by omega) (by omega) (by omega) (by omega) (by omega) (by omega)).mono ?_;rintro e w2 ⟨rfl,rfl⟩;go_wp2_with fail;obtain ⟨p,hp⟩:∃ p:Nat,p=D * y:=⟨_,rfl⟩;have hpI:(y:Int) * D=(p:Int):=by rw [hp]; simp [Int.mul_comm]
    rw [hpI] at hp1 ⊢;obtain ⟨low,agB⟩:∃ low:Nat,low=(p+c) % 4294967296:=⟨_,rfl⟩;obtain ⟨cc,hcc⟩:∃ cc:Nat,cc=(p+c) / 4294967296:=⟨_,rfl⟩;have e1:((p:Int)+c) % 4294967296=low:=by omega
    have e2:(p:Int) / 4294967296+((p:Int) % 4294967296+c) / 4294967296=cc:=by omega
    have av2:cc < 4294967296:=by omega
    have hl1:low < 4294967296:=by omega
    rw [e1,e2];have HPC:Hid (p+c=low+B32 * cc):=by
     have:p+c=low+B32 * cc:=by rw [vdk]; omega
     exact this
    have HP:=hid hp;clear agB hcc e1 e2 hpI hp0 hp1 hp;refine (zfg _ _ _ _ (by omega) (by omega) (by omega) (by omega) (by omega) (by omega)).mono ?_;rintro e w2 ⟨rfl,rfl⟩;obtain ⟨d,hd1⟩:=ry (show 0<=((r:Int) - low - b) % 4294967296 by omega);obtain ⟨b',hb'⟩:=ry (xeg r low b).1;have hb2:=(xeg r low b).2;rw [hb'] at hb2;have hdc:d+low+b=r+B32 * b':=by
     rw [vdk];unfold bor at hb'
     split at hb' <;> omega
    have ao1:d < B32:=by rw [vdk]; omega
    rw [hd1,hb'];have HS:Hid (gew g off zs xs D (k+1) cc b' w (wr.setCell ⟨g,off+k,none⟩ (.int .u32 (d:Nat)))):=by
     obtain ⟨s1,s2⟩:=al9.out.set (d:=d) (by omega) ao1;refine ⟨_,s1,?_⟩;rw [s2,udk HY,weg HR,pP];exact jfn _ _ _ _ _ _ _ _ _ _ _ _ _ ajX.out y HP.out HPC.out hdc
    clear hd1 hb' hdc al9 ajX HR;go_wp2_with fail
    go_roundw
    case rel=>exact ⟨k+1,cc,b',by omega,by go_num,rfl,rfl,av2,by omega,HS⟩
    case measure=>simp [intOf]; omega
  · obtain rfl:k=n:=by omega
    have al9:=hid aem;have ajX:=hid ab2;clear HI aem ab2;go_wp2_with fail;refine (zfg _ _ _ _ (by omega) (by omega) (by omega) (by omega) (by omega) (by omega)).mono ?_;rintro e w2 ⟨rfl,rfl⟩;obtain ⟨d,hd1⟩:=ry (show 0<=((r:Int) - c - b) % 4294967296 by omega);obtain ⟨b',hb'⟩:=ry (xeg r c b).1;have hb2:=(xeg r c b).2;rw [hb'] at hb2;have hdc:d+c+b=r+B32 * b':=by
     rw [vdk];unfold bor at hb'
     split at hb' <;> omega
    have ao1:d < B32:=by rw [vdk]; omega
    rw [hd1,hb'];have hbb:b'<=1:=by omega
    have HF:Hid (gfe g off k zs xs D w (.returned (.bool ((b':Int) != 0))) (wr.setCell ⟨g,off+k,none⟩ (.int .u32 (d:Nat)))):=by
     obtain ⟨s1,s2⟩:=al9.out.set (d:=d) (by omega) ao1;refine ⟨_,b',hbb,rfl,s1,?_⟩;rw [s2,weg HR,pP];have h3:=ajX.out;rw [pA (by have:=HXN.out; omega)] at h3;have e2:B32 ^ k * (d+c+b)=B32 ^ k * (r+B32 * b'):=by rw [hdc]
     rw [pD,pD,pD,<- pS] at e2;rw [pD] at h3;omega
    clear hd1 hb' hdc al9 ajX HR;go_wp2_with fail;go_ret;exact HF.out
theorem ze0 (Sy Sz P c d r y c' X:Nat) (h:Sy+P * c=Sz+X) (h1:r+y+c=d+B32 * c'):(Sy+P * d)+P * B32 * c'=(Sz+P * r)+(X+P * y):=by
 have e2:P * (r+y+c)=P * (d+B32 * c'):=by rw [h1]
 rw [pD,pD,pD,<- pS] at e2;omega
def xex (g off:Nat) (zs xs:List Nat) (k c:Nat) (w0 wr:World):Prop:=
 ∃ ys,qd3 g off zs k w0 wr ys/\val (seg ys off k)+B32 ^ k * c=val (seg zs off k)+val (xs.take k)
def zff (g off n:Nat) (zs xs:List Nat) (w:World) (e:Ending) (w':World):Prop:=
 ∃ (ys:List Nat) (c:Nat),e=.returned (.tuple #[])/\qd3 g off zs (n+1) w w' ys/\val (seg ys off (n+1))+B32 ^ (n+1) * c=val (seg zs off (n+1))+val xs
theorem wf6 (g off zc n xc : Nat) (zs xs : List Nat) (X : Option Addr) (w : World) (aaC : Row w g zs) (hzd : kdk zs) (hzl : off + n + 1 <= zs.length) (hzc : n + 1 <= zc) (aqy : zc <= 35184372088832)
 (hx:ydm w X xs) (hxn:xs.length=n) (hxa:∀ ad,X=some ad->ad.block ≠ g) (hxc:n<=xc) (_hxc':xc<=9223372036854775807) :
 Calls Tryz.prog 170 #[.slice (some ⟨g,off,none⟩) (n+1) zc,.slice X n xc] w (zff g off n zs xs w):=by
 have ace:Hid (xex g off zs xs 0 0 w w):=⟨zs,⟨aaC,rfl,hzd,rfl,rfl,Only.refl _ _⟩,by simp [seg]⟩;have HX:=hid hx;have HXN:=hid hxn;have HXA:=hid hxa;clear hx hxa aaC hzd hxn;go_enter Tryz.func170,Tryz.ntmps170;go_wp2_with fail
 go_loopw [4,9] (fun cv iv wr=>∃ k c:Nat,k<=n/\iv=.int .i64 k/\cv=.int .u32 c/\c<=1/\Hid (xex g off zs xs k c w wr)) (fun _ iv _=>n - (intOf iv).toNat)
 case atStart=>exact ⟨0,0,by omega,rfl,rfl,by omega,ace⟩
 case round =>
  clear ace;obtain ⟨k,c,hk,rfl,rfl,hc,HI⟩:=hrel;obtain ⟨ys,aem,ab2⟩:=HI.out;obtain ⟨r,hrc,hrf,hr1,HR⟩:=aem.get (by omega)
  by_cases hlt:k < n
  · obtain ⟨ad,y,rfl,hbk,abZ,hy1,HY⟩:=(HX.out.only aem.2.2.2.2.2 HXA.out).qt k (by have:=HXN.out; omega);have HS:Hid (xex g off zs xs (k+1) ((r+y+c) / B32) w (wr.setCell ⟨g,off+k,none⟩ (.int .u32 (((r+y+c) % B32:Nat):Int)))):=by
     obtain ⟨s1,s2⟩:=aem.set (d:=(r+y+c) % B32) (by omega) (rN _ kdm);refine ⟨_,s1,?_⟩;rw [s2,udk HY,weg HR,pP];exact ze0 _ _ _ _ _ _ _ _ _ ab2 (rT _ _).symm
    clear HI aem ab2;go_wp2_with fail;refine (add32 _ _ _ _ (by omega) (by omega) (by omega) (by omega) (by omega) (by omega)).mono ?_;rintro e w2 ⟨rfl,rfl⟩;go_wp2_with fail
    go_roundw
    case rel =>
     refine ⟨k+1,(r+y+c) / B32,by omega,by go_num,by rw [vdk]; congr 1,by rw [vdk]; omega,?_⟩;rw [show (((r:Int)+y+c) % 4294967296)=(((r+y+c) % B32:Nat):Int) from by rw [vdk]; omega];exact HS
    case measure=>simp [intOf]; omega
  · obtain rfl:k=n:=by omega
    have HF:Hid (zff g off k zs xs w (.returned (.tuple #[])) (wr.setCell ⟨g,off+k,none⟩ (.int .u32 (((r+c) % B32:Nat):Int)))):=by
     obtain ⟨s1,s2⟩:=aem.set (d:=(r+c) % B32) (by omega) (rN _ kdm);refine ⟨_,(r+c) / B32,rfl,s1,?_⟩;rw [s2,weg HR,pP];have h3:=ab2;rw [pA (by have:=HXN.out; omega)] at h3;have:=ze0 _ _ _ _ _ _ 0 _ _ h3 (rT (r+0+c) _).symm;simpa using this
    clear HI aem ab2;go_wp2_with fail
    go_end0
    rw [show (((r:Int)+c) % 4294967296)=(((r+c) % B32:Nat):Int) from by rw [vdk]; omega];exact HF.out
def ve0 (q r:Nat) (w:World) (e:Ending) (w':World):Prop:=∃ vq vr,e=.returned (.tuple #[vq,vr])/\zb1 w' vq (dg q)/\zb1 w' vr (dg r)/\Ext w w'
theorem je7 (u v:Value) (ds es:List Nat) (w:World) (h:zb1 w u ds) (k:zb1 w v es) (hs:ds.length<=17592186044416) (hs':es.length<=17592186044416) (hlt:val ds < val es) :
 Calls Tryz.prog 153 #[u,v] w (ve0 (val ds / val es) (val ds % val es) w):=by
 have H:=hid h;have K:=hid k;have HLT:=hid hlt;clear h k hlt;go_enter Tryz.func153,Tryz.ntmps153;go_wp2_with fail
 go_step3
 go_wp2_with fail;refine (vdv _ _ _ K.out (by omega)).mono ?_;rintro e w1 ⟨v1,rfl,hv1,x1⟩;go_wp2_with fail;refine (gd8 _ _ _ _ _ (H.out.ext x1) hv1).mono ?_;rw [zdk,zd2 (by have:=HLT.out; omega)];rintro e w2 ⟨rfl,n2,hw2⟩;have x2:Ext w w2:=by rw [hw2]; exact x1.drewN n2
 have X2:=hid x2;clear hw2 hv1 x1 x2;go_wp2_with fail;refine (vdv _ _ _ (H.out.ext X2.out) (by omega)).mono ?_;rintro e w3 ⟨v3,rfl,hv3,x3⟩;have HV3:=hid hv3;have X3:=hid x3;clear hv3 x3;go_wp2_with fail;rw [Exit.noGoto_ret]
 go_ret2
 refine ⟨_,_,rfl,?_,?_,X2.out.trans X3.out⟩
 · rw [sE HLT.out,jdn]; exact zb1.nil _
 · rw [tS HLT.out]; exact HV3.out
theorem wfk (u v:Value) (ds es:List Nat) (w:World) (h:zb1 w u ds) (k:zb1 w v es) (hs:ds.length<=17592186044416) (hs':es.length<=17592186044416) (hge:val es<=val ds) (h0:val es ≠ 0) (alv:val es < B32) :
 Calls Tryz.prog 153 #[u,v] w (ve0 (val ds / val es) (val ds % val es) w):=by
 have H:=hid h;have K:=hid k;have HGE:=hid hge;have H0:=hid h0;have awT:=hid alv;clear h k hge h0 alv;go_enter Tryz.func153,Tryz.ntmps153;go_wp2_with fail
 go_step3
 go_wp2_with fail;refine (vdv _ _ _ K.out (by omega)).mono ?_;rintro e w1 ⟨v1,rfl,hv1,x1⟩;go_wp2_with fail;refine (gd8 _ _ _ _ _ (H.out.ext x1) hv1).mono ?_;rw [zdk];have hcm:0<=xdq (val ds) (val es):=by have:=HGE.out; unfold xdq; split <;> (try split) <;> omega
 have amW:=(xd6 (val ds) (val es)).2;generalize xdq (val ds) (val es)=cm at *;rintro e w2 ⟨rfl,n2,hw2⟩;have y2:Ext w1 w2:=by rw [hw2]; exact (Ext.refl w1).drewN n2
 have X2:=hid (x1.trans y2);have hv2:=hv1.ext y2;rw [gd5 H0.out awT.out] at hv2;clear hw2 hv1 x1 y2;obtain ⟨A,c,rfl,q1,q2,q3⟩:=hv2;obtain ⟨ad,rfl,hb,abZ,hd1⟩:=q3.at_ 0 (by simp);rw [show ad.add 0=ad from by simp [Addr.add]] at abZ
 change w2.cell? ad=some (.int .u32 (val es:Nat)) at abZ
 change val es < 4294967296 at hd1
 clear q3;go_wp2_with fail;refine (gek _ _ _ _ (H.out.ext X2.out) (by omega) (uf H0.out) hd1).mono ?_;rintro e w3 ⟨v3,rfl,hv3,-,x3⟩;have HV3:=hid hv3;have X3:=hid x3;have hm:val ds % val es < 4294967296:=Nat.lt_trans (rN _ (uf H0.out)) hd1;clear hv3 x3;generalize val ds % val es=M at *;go_wp2_with fail;refine (gd9 _ _ (by omega)).mono ?_;rintro e w4 ⟨v4,rfl,hv4,x4⟩;have HV4:=hid hv4;have X4:=hid x4;clear hv4 x4;go_wp2_with fail;rw [Exit.noGoto_ret]
 go_ret2
 exact ⟨_,_,rfl,HV3.out.ext X4.out,HV4.out,X2.out.trans (X3.out.trans X4.out)⟩
theorem zfv {zs:List Nat} {m a b c:Nat} (h:zs.length=m+3) (ha:zs[m]?=some a) (hb:zs[m+1]?=some b) (hc:zs[m+2]?=some c) :
 val zs=(c * B32 * B32+b * B32+a) * B32 ^ m+val (zs.take m):=by
 have e1:=udk (E:=zs) (k:=m) (x:=a) ha;have e2:=udk (E:=zs) (k:=m+1) (x:=b) hb;have e3:=udk (E:=zs) (k:=m+2) (x:=c) hc;rw [pA (by omega)] at e3;rw [e3,e2,e1,show B32 ^ (m+2)=B32 ^ m * B32 * B32 from by rw [pP,pP],pP];generalize B32 ^ m=P;generalize B32=B;rw [pT,pT,show c * B * B * P=P * B * B * c from by ac_rfl,show b * B * P=P * B * b from by rw [re (P * B) b,re P B,pS],re a P];omega
theorem yfv {zs:List Nat} {m a b:Nat} (h:zs.length=m+2) (ha:zs[m]?=some a) (hb:zs[m+1]?=some b) :
 val zs=(b * B32+a) * B32 ^ m+val (zs.take m):=by
 have e1:=udk (E:=zs) (k:=m) (x:=a) ha;have e2:=udk (E:=zs) (k:=m+1) (x:=b) hb;rw [pA (by omega)] at e2;rw [e2,e1,pP];generalize B32 ^ m=P;generalize B32=B;rw [pT,re P B,show b * B * P=B * P * b from by rw [re (B * P) b,pS],re a P];omega
theorem zfb {us vs : List Nat} {j m u2 u1 u0 v1 v2 : Nat} (hd : kdk us) (hvd : kdk vs) (hvl : vs.length = m + 2) (hjl : j + m + 3 <= us.length) (hlt : val (us.drop (j + 1)) < val vs)
 (a2:us[j+(m+2)]?=some u2) (a1:us[j+(m+1)]?=some u1) (a0:us[j+m]?=some u0) (b1:vs[m+1]?=some v1) (b2:vs[m]?=some v2) (hn:2147483648 * B32 ^ (m+1)<=val vs) :
 val (us.drop j) < val vs * B32/\val (seg us j (m+3))=val (us.drop j)/\val (us.drop (j+(m+3)))=0/\u2<=v1/\2147483648<=v1 /\
  val (us.drop j) / val vs<=yd2 B32 (u2 * B32 * B32+u1 * B32+u0) (v1 * B32+v2)/\yd2 B32 (u2 * B32 * B32+u1 * B32+u0) (v1 * B32+v2)<=val (us.drop j) / val vs+1:=by
 have hB:=kdm;have hj:j < us.length:=by omega
 have hP:val (us.drop j) < val vs * B32:=by
  rw [pY hj,val_cons];have h1:us[j] < B32:=hd _ (pt hj);have h2:B32 * (val (us.drop (j+1))+1)<=B32 * val vs:=pX _ hlt;rw [pD,th] at h2;rw [re (val vs)];omega
 have hV:=qdu hvd;rw [hvl] at hV;have hPB:val (us.drop j) < B32 ^ (m+3):=by
  refine pr hP ?_;rw [pP B32 (m+2)];exact pE _ (tq hV)
 have ai7:=ydn (us.drop j) (m+3) (by rw [pL]; omega);rw [sj] at ai7;have hzero:val (us.drop (j+(m+3)))=0:=by
  rcases rO (val (us.drop (j+(m+3)))) with e | e
  · exact e
  · have:=pX (B32 ^ (m+3)) e;rw [th] at this;omega
 rw [hzero,sQ,sx] at ai7;have aem:val (seg us j (m+3))=val (us.drop j):=ai7.symm;have sl:(seg us j (m+3)).length=m+3:=by unfold seg; rw [px,pL]; omega
 have sd:kdk (seg us j (m+3)):=(hd.drop _).take _;have g:∀ i,i < m+3->(seg us j (m+3))[i]?=us[j+i]?:=fun i hi=>by
  unfold seg; rw [List.getElem?_take_of_lt hi,se]
 have t3:=zfv sl (by rw [g _ (by omega)]; exact a0) (by rw [g _ (by omega)]; exact a1) (by rw [g _ (by omega)]; exact a2);have t2:=yfv hvl b2 b1;have r3:=qdu (sd.take m);have r2:=qdu (hvd.take m);rw [px,rh (by omega)] at r3 r2;have aAm:v2 < B32:=hvd _ (rH b2);have aAs:u0 < B32:=hd _ (rH a0);have aAr:u1 < B32:=hd _ (rH a1);have asr:0 < B32 ^ m:=rF hB;have hv1:2147483648<=v1:=by
  rcases rz v1 2147483648 with h | h
  · exfalso
    have h1:val vs < 2147483648 * B32 ^ (m+1):=by
     rw [t2,pP];have h2:v1 * B32+v2+1<=2147483648 * B32:=by
      have:(v1+1) * B32<=2147483648 * B32:=pE _ h;rw [pT,sw] at this;omega
     have h3:=pE (B32 ^ m) h2;rw [pT,sw] at h3;rw [re (B32 ^ m) B32,<- pS];omega
    omega
  · exact h
 rw [aem] at t3;refine ⟨hP,aem,hzero,?_,hv1,gfk hB asr t3 r3 t2 r2 ?_ hP⟩
 · rcases rz v1 u2 with h | h
   · exfalso
     have h1:(v1 * B32+v2+1) * B32<=u2 * B32 * B32+u1 * B32+u0:=by
      have h2:v1 * B32+v2+1<=u2 * B32:=by
       have:(v1+1) * B32<=u2 * B32:=pE _ h;rw [pT,sw] at this;omega
      have:=pE B32 h2;omega
     have h3:=pE (B32 ^ m) h1;have h4:val vs < (v1 * B32+v2+1) * B32 ^ m:=by rw [t2,pT (v1 * B32+v2) 1 (B32 ^ m),sw]; omega
     have h5:=sV h4 hB;rw [Nat.mul_right_comm] at h5;omega
   · exact h
 · have:=pE B32 (show 1<=v1 by omega);omega
def xf7 (U V:Nat) (us qs:List Nat) (k:Nat):Prop:=U=val us+V * (B32 ^ k * val (qs.drop k))/\val (us.drop k) < V
theorem qes {U V : Nat} {us ys qs : List Nat} {j n q : Nat} (h : xf7 U V us qs (j + 1)) (hV : 0 < V) (hjl : j < us.length) (hl : ys.length = us.length) (hq : j < qs.length)
 (htk:ys.take j=us.take j) (hdr:ys.drop (j+n)=us.drop (j+n)) (hz:val (us.drop (j+n))=0) (hn:j+n<=us.length) (aem:val (seg ys j n)=val (us.drop j) % V) (hqv:q=val (us.drop j) / V) :
 xf7 U V ys (qs.set j q) j:=by
 obtain ⟨h1,h2⟩:=h;have e1:=ydn us j (by omega);have e2:=ydn ys j (by omega);have e3:=ydn (ys.drop j) n (by rw [pL]; omega);rw [sj,hdr,hz,sQ,sx] at e3;have e4:val (ys.drop j)=val (us.drop j) % V:=by rw [e3]; exact aem
 refine ⟨?_,by rw [e4]; exact rN _ hV⟩;rw [tF,if_neg (by omega),Nat.sub_self,pY hq,tx,val_cons,h1,e2,e4,htk,e1,hqv];generalize val (us.drop j)=P;generalize val (qs.drop (j+1))=Q;have e5:=rT P V;have e6:B32 ^ j * P=B32 ^ j * (P % V)+V * (B32 ^ j * (P / V)):=by
  have:B32 ^ j * (P % V+V * (P / V))=B32 ^ j * P:=by rw [e5]
  rw [pD,sT] at this;omega
 rw [pP,pD,pD,e6,pS];omega
theorem xfw {P V S qh D:Nat} (hV:0 < V) (h:S+qh * V=P+D * 0) (h1:P / V<=qh):qh=P / V/\S=P % V:=by
 have h2:qh<=P / V:=(td hV).2 (by omega);have h3:qh=P / V:=by omega
 refine ⟨h3,?_⟩;have h4:=rT P V;rw [h3,re] at h;omega
theorem yfw {P V S qh D S2 c:Nat} (hV:0 < V) (hVD:V<=D) (hS:S < D) (hS2:S2 < D) (h:S+qh * V=P+D * 1) (h2:qh<=P / V+1) (hc:S2+D * c=S+V):qh - 1=P / V/\0 < qh/\S2=P % V:=by
 have h4:=rT P V;have h5:=rN P hV;generalize P / V=Q at *;generalize P % V=R at *;have h6:Q < qh:=by
  rcases rz Q qh with h7 | h7
  · exact h7
  · have h8:=pE V h7;rw [re Q] at h8;omega
 have h7:qh=Q+1:=by omega
 refine ⟨by omega,by omega,?_⟩;rw [h7,pT,sw,re Q] at h;have h8:S2+D * c=R+D:=by omega
 rcases c with _ | _ | c
 · omega
 · omega
 · exfalso
   have:D * (c+1+1)=D * c+D+D:=by rw [pD,pD,th]
   omega
end Go.Proofs.YtheefiaoimbeiaaGreatDoor
