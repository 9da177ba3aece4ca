/- Plain arithmetic of long division. No program in sight. -/
import Derived.Test.YtcepajijiabkmaaGreatMp4
set_option linter.unusedSimpArgs false
set_option linter.unusedVariables false
namespace Go.Proofs.YtcepajijiabkmaaGreat
open Lib (hid)
def xai (B U V:Nat):Nat:=min (B - 1) (U / V)
theorem gc7 {B:Nat} (hB:0 < B) (U V:Nat):xai B U V < B:=by
 unfold xai; omega
theorem kcg {B:Nat} (hB:0 < B) {u v U V K r r':Nat} (hK:0 < K) (hu:u=U * K+r) (hr:r < K) (hv:v=V * K+r') (JX:r' < K) (hV:B<=V) (hq:u < v * B) :
 u / v<=xai B U V/\xai B U V<=u / v+1:=by
 have fV:0 < V:=pw hB hV;have Bv:0 < v:=by rw [hv]; have:=S6 fV hK; omega
 have hqB:u / v < B:=tQ hq
 constructor
 · have h1:u / v * v<=u:=Nat.div_mul_le_self u v;have h2:u / v * V * K<=u / v * v:=by rw [hv,rT]; exact sE _ (by omega)
   have h3:u / v * V * K < (U+1) * K:=by rw [rN,tr]; omega
   have h4:u / v * V < U+1:=RM h3;have h5:u / v<=U / V:=(Rs fV).2 (by omega);unfold xai; omega
 · rcases tG (u / v+1) (U / V) with h | h
   · exfalso
     generalize hQ:u / v=Q at *;have h1:(Q+2) * V<=U:=(Rs fV).1 h;have h2:(Q+2) * V * K<=u:=by
      have:=pE K h1;omega
     have h3:u < (Q+1) * v:=by
      rw [rN,tr,sj,<- hQ];have h7:=te u Bv;have h8:=Nat.div_add_mod u v;omega
     have h4:(Q+1) * v < (Q+1) * ((V+1) * K):=Te (by rw [hv,rN,tr]; omega) (by omega);have h5:(Q+2) * V * K < (Q+1) * (V+1) * K:=by rw [rT (Q+1)]; omega
     have h6:=RM h5;rw [rN,rN,tr,ri,ua] at h6;omega
   · unfold xai; omega
def qa1 (B U2 U V v1 q r o:Nat):Prop:=q < B/\r < B/\o<=1/\r+B * o+q * v1=U2/\xai B U V<=q
theorem ubz {B:Nat} (hB:0 < B) {u2 u1 u0 v1 v2:Nat} (h1:u1 < B) (bD:v1 < B) (he:u2=v1):qa1 B (u2 * B+u1) (u2 * B * B+u1 * B+u0) (v1 * B+v2) v1 (B - 1) ((u1+v1) % B) ((u1+v1) / B):=by
 refine ⟨by omega,te _ hB,by have:=(Nat.div_lt_iff_lt_mul hB).2 (show u1+v1 < 2 * B by omega); omega,?_,by unfold xai; omega⟩;rw [tw,he,Nat.sub_mul,tr,sj B v1];have:v1<=v1 * B:=Nat.le_mul_of_pos_right _ hB;omega
theorem xcz {B:Nat} (hB:0 < B) {u2 u1 u0 v1 v2:Nat} (h1:u1 < B) (h0:u0 < B) (bD:v1 < B) (af:u2 < v1) :
 qa1 B (u2 * B+u1) (u2 * B * B+u1 * B+u0) (v1 * B+v2) v1 ((u2 * B+u1) / v1) ((u2 * B+u1) % v1) 0:=by
 have Bv:0 < v1:=by omega
 have hm:=te (u2 * B+u1) Bv;have hq:u2 * B+u1 < v1 * B:=by
  have:(u2+1) * B<=v1 * B:=pE _ af;rw [rN,tr] at this; omega
 refine ⟨tQ hq,by omega,by omega,?_,?_⟩
 · rw [wy,s8,sj _ v1,Nat.add_comm]; exact Nat.div_add_mod _ _
 · have fV:0 < v1 * B+v2:=by have:=S6 Bv hB; omega
   have h2:(u2 * B * B+u1 * B+u0) / (v1 * B+v2)<=(u2 * B+u1) / v1:=by
    rw [Rs Bv];have h3:=Nat.div_mul_le_self (u2 * B * B+u1 * B+u0) (v1 * B+v2);generalize (u2 * B * B+u1 * B+u0) / (v1 * B+v2)=t at *;have h4:t * v1 * B<=t * (v1 * B+v2):=by rw [rT]; exact sE _ (by omega)
    have h5:t * v1 * B < (u2 * B+u1+1) * B:=by rw [rN,rN,tr]; omega
    have:=RM h5;omega
   unfold xai; omega
theorem gbz {B:Nat} (hB:0 < B) {u2 u1 u0 v1 v2 q r o:Nat} (h:qa1 B (u2 * B+u1) (u2 * B * B+u1 * B+u0) (v1 * B+v2) v1 q r o) (bD:0 < v1) (QG:o=1\/q * v2<=r * B+u0) (uQ:v2 < B) :
 q=xai B (u2 * B * B+u1 * B+u0) (v1 * B+v2):=by
 obtain ⟨hq,hr,ho,he,hle⟩:=h;have fV:0 < v1 * B+v2:=by have:=S6 bD hB; omega
 have hU:u2 * B * B+u1 * B+u0=(r+B * o) * B+q * v1 * B+u0:=by
  rw [<- rN,<- he,rN]
 have hqv:q * v2<=(r+B * o) * B+u0:=by
  rcases QG with ry | h1
  · subst ry;have h2:q * v2<=B * B:=Re (by omega) (by omega);rw [rN,ua]; omega
  · rw [rN]; omega
 have h3:q<=(u2 * B * B+u1 * B+u0) / (v1 * B+v2):=by
  rw [Rs fV,hU,ri,<- rT];omega
 unfold xai at *; omega
theorem vbz {B:Nat} (hB:0 < B) {u2 u1 u0 v1 v2 q r:Nat} (h:qa1 B (u2 * B+u1) (u2 * B * B+u1 * B+u0) (v1 * B+v2) v1 q r 0) (bD:0 < v1) (aif:v1 < B) (CE:r * B+u0 < q * v2) :
 0 < q/\qa1 B (u2 * B+u1) (u2 * B * B+u1 * B+u0) (v1 * B+v2) v1 (q - 1) ((r+v1) % B) ((r+v1) / B):=by
 obtain ⟨hq,hr,ho,he,hle⟩:=h;have fV:0 < v1 * B+v2:=by have:=S6 bD hB; omega
 have kH:0 < q:=by
  rcases tR q with e | e
  · rw [e,sY] at CE; omega
  · exact e
 have hU:u2 * B * B+u1 * B+u0=r * B+q * v1 * B+u0:=by
  rw [<- rN,<- he,wy,s8,rN]
 have h3:(u2 * B * B+u1 * B+u0) / (v1 * B+v2) < q:=by
  rw [Nat.div_lt_iff_lt_mul fV,hU,ri,<- rT];omega
 refine ⟨kH,by omega,te _ hB,by have:=(Nat.div_lt_iff_lt_mul hB).2 (show r+v1 < 2 * B by omega); omega,?_,by unfold xai; omega⟩;rw [tw,Nat.sub_mul,tr];have:v1<=q * v1:=St _ kH;omega
set_option maxRecDepth 100000
set_option maxHeartbeats 8000000
open Go.RowKit
def jcr (B U2 U V v1:Nat) (w:World) (s11 s12 s13:Value) (wx:World):Prop:=
 ∃ q r o:Nat,s11=.int .u32 (q:Nat)/\s12=.int .u32 (r:Nat)/\s13=.int .u32 (o:Nat)/\qa1 B U2 U V v1 q r o/\∃ n,wx=w.drewN n
theorem kbz (u2 u1 u0 v1 v2:Nat) (w:World) (hu2:u2<=v1) (WW:u1 < 4294967296) (ZF:u0 < 4294967296) (bD:v1 < 4294967296) (uQ:v2 < 4294967296) (aig:2147483648<=v1) :
 Calls Tryz.prog 144 #[.int .u32 (u2:Nat),.int .u32 (u1:Nat),.int .u32 (u0:Nat),.int .u32 (v1:Nat),.int .u32 (v2:Nat)] w fun e w' =>
  e=.returned (.int .u32 (xai B32 (u2 * B32 * B32+u1 * B32+u0) (v1 * B32+v2):Nat))/\∃ n,w'=w.drewN n:=by
 go_enter Tryz.func144,Tryz.ntmps144
 go_upto_if 18 with (fail)
 go_cut [11,12,13] (fun s11 s12 s13 wx=>jcr B32 (u2 * B32+u1) (u2 * B32 * B32+u1 * B32+u0) (v1 * B32+v2) v1 w s11 s12 s13 wx)
 case first =>
  by_cases h:u2 < v1
  · have hi:=hid (xcz (u0:=u0) (v2:=v2) yj (show u1 < B32 from WW) (show u0 < B32 from ZF) (show v1 < B32 from bD) h);go_wp2_with fail;refine (wc2 _ _ _ _ (by omega) (by omega) (by omega) (by omega) (by omega)).mono ?_;rintro e w2 ⟨rfl,n2,rfl⟩;go_wp2_with fail
    go_meet
    refine ⟨_,_,0,?_,?_,rfl,hi.out,n2,rfl⟩
    · rw [zh]; simp
    · rw [zh]; simp
  · have he:u2=v1:=by omega
    have hi:=hid (ubz (u0:=u0) (v2:=v2) yj (show u1 < B32 from WW) (show v1 < B32 from bD) he);clear he;go_wp2_with fail;refine (add32 _ _ 0 _ (by omega) (by omega) (by omega) (by omega) (by omega) (by omega)).mono ?_;rintro e w2 ⟨rfl,rfl⟩;go_wp2_with fail
    go_meet
    refine ⟨_,_,_,?_,?_,?_,hi.out,0,rfl⟩
    · rfl
    · rw [zh]; simp
    · rw [zh]; simp
 case rest =>
  obtain ⟨q,r,o,rfl,rfl,rfl,hinv,n,rfl⟩:=hcut;have kK:=hid hinv;clear hinv;go_wp2_with fail
  go_loopw [11,12,13] (fun s11 s12 s13 wx=>jcr B32 (u2 * B32+u1) (u2 * B32 * B32+u1 * B32+u0) (v1 * B32+v2) v1 w s11 s12 s13 wx) (fun s11 _ _ _=>(intOf s11).toNat)
  case atStart=>exact ⟨q,r,o,rfl,rfl,rfl,kK.out,n,rfl⟩
  case round =>
   clear kK;obtain ⟨q,r,o,rfl,rfl,rfl,hinv,n,rfl⟩:=hrel;have hq:=hinv.1;have hr:=hinv.2.1;have ho:=hinv.2.2.1;have HI:=hid hinv;rw [zh] at hq hr;clear hinv
   by_cases ho0:o=0
   · subst ho0;go_wp2_with fail;refine (gce _ _ _ (by omega) (by omega) (by omega) (by omega)).mono ?_;rintro e w2 ⟨rfl,rfl⟩;obtain ⟨H,hH⟩:∃ H:Nat,H=q * v2 / 4294967296:=⟨_,rfl⟩;obtain ⟨Lo,hLo⟩:∃ Lo:Nat,Lo=q * v2 % 4294967296:=⟨_,rfl⟩;have e1:(q:Int) * v2 / 4294967296=H:=by rw [hH]; simp
     have e2:(q:Int) * v2 % 4294967296=Lo:=by rw [hLo]; simp
     have TN:q * v2=H * 4294967296+Lo:=by omega
     have aj0:Lo < 4294967296:=by omega
     have Gn:=hid TN;rw [e1,e2];clear e1 e2 hH hLo TN;have iL:q * v2<=r * B32+u0->q=xai B32 (u2 * B32 * B32+u1 * B32+u0) (v1 * B32+v2):=fun h=>gbz yj HI.out (by omega) (.inr h) uQ
     have Jq:=hid iL;clear iL;rcases Nat.lt_trichotomy H r with af | heq | H9
     · have b1:decide (H < r)=true:=by simp [af]
       go_wp2_with fail;go_ret;refine ⟨?_,_,rfl⟩;have:=Jq.out (by rw [zh]; have:=Gn.out; omega);rw [<- this]
       rfl
     · subst heq;have b1:decide (H < H)=false:=by simp
       have b2:((H:Int) == (H:Int))=true:=by simp
       by_cases hl:Lo<=u0
       · have b3:decide (Lo<=u0)=true:=by simp [hl]
         go_wp2_with fail;go_ret;refine ⟨?_,_,rfl⟩;have:=Jq.out (by rw [zh]; have:=Gn.out; omega);rw [<- this]
         rfl
       · have b3:decide (Lo<=u0)=false:=by simp [hl]
         obtain ⟨kH,dV⟩:=vbz yj HI.out (by omega) (show v1 < B32 from bD) (by rw [zh]; have:=Gn.out; omega);have dS:=hid dV;clear dV;go_wp2_with fail;refine (add32 _ _ 0 _ (by omega) (by omega) (by omega) (by omega) (by omega) (by omega)).mono ?_;rintro e w2 ⟨rfl,rfl⟩;go_wp2_with fail
         go_roundw
         case rel=>exact ⟨q - 1,_,_,by congr 1; omega,by rw [zh]; simp,by rw [zh]; simp,dS.out,_,rfl⟩
         case measure=>simp [intOf]; omega
     · have b1:decide (H < r)=false:=by simp; omega
       have b2:((H:Int) == (r:Int))=false:=beq_eq_false_iff_ne.2 (by omega);obtain ⟨kH,dV⟩:=vbz yj HI.out (by omega) (show v1 < B32 from bD) (by rw [zh]; have:=Gn.out; omega);have dS:=hid dV;clear dV;go_wp2_with fail;refine (add32 _ _ 0 _ (by omega) (by omega) (by omega) (by omega) (by omega) (by omega)).mono ?_;rintro e w2 ⟨rfl,rfl⟩;go_wp2_with fail
       go_roundw
       case rel=>exact ⟨q - 1,_,_,by congr 1; omega,by rw [zh]; simp,by rw [zh]; simp,dS.out,_,rfl⟩
       case measure=>simp [intOf]; omega
   · obtain rfl:o=1:=by omega
     have hd:=gbz yj HI.out (by omega) (.inl rfl) uQ;have HD:=hid hd;clear hd;go_wp2_with fail;go_ret;refine ⟨?_,_,rfl⟩;rw [<- HD.out]
     rfl
def seg (zs:List Nat) (off k:Nat):List Nat:=(zs.drop off).take k
theorem wa1 {zs:List Nat} {off k r:Nat} (h:Hid (zs[off+k]?=some r)):val (seg zs off (k+1))=val (seg zs off k)+B32 ^ k * r:=by
 have h1:Hid ((zs.drop off)[k]?=some r):=by
  have:=h.out;rw [<- tS] at this;exact this
 exact yh h1
theorem gc5 {zs:List Nat} {off k d:Nat} (h:off+k < zs.length):val (seg (zs.set (off+k) d) off (k+1))=val (seg zs off k)+B32 ^ k * d:=by
 unfold seg;have Cm:k < (zs.drop off).length:=by rw [re]; omega
 rw [RL,if_neg (by omega),P4,gy _ _ _ Cm,wae,pA,sh (by omega)]
theorem wbr {zs:List Nat} {i d:Nat}:(zs.set i d).drop (i+1)=zs.drop (i+1):=by
 rw [RL,if_pos (by omega)]
def qaj (g off:Nat) (zs:List Nat) (k:Nat) (w0 wr:World) (ys:List Nat):Prop:=
 Row wr g ys/\ys.length=zs.length/\vg ys/\ys.take off=zs.take off/\ys.drop (off+k)=zs.drop (off+k)/\Only g w0 wr
theorem qaj.get {g off k:Nat} {zs ys:List Nat} {w0 wr:World} (h:qaj g off zs k w0 wr ys) (hk:off+k < zs.length) :
 ∃ r:Nat,wr.cell? ⟨g,off+k,none⟩=some (.int .u32 (r:Nat))/\wr.frozen? ⟨g,off+k,none⟩=false/\r < 4294967296/\Hid (zs[off+k]?=some r):=by
 obtain ⟨h1,h2,h3,h4,h5,h6⟩:=h;obtain ⟨r,c1,c2,c3⟩:=h1.xS (off+k) (by omega);refine ⟨r,c1,c2,h3 _ (td c3.out),?_⟩;have e1:ys[off+k]?=(ys.drop (off+k))[0]?:=by rw [tS]; simp
 have e2:zs[off+k]?=(zs.drop (off+k))[0]?:=by rw [tS]; simp
 have:=c3.out;rw [e1,h5,<- e2] at this;exact this
theorem qaj.set {g off k d:Nat} {zs ys:List Nat} {w0 wr:World} (h:qaj g off zs k w0 wr ys) (hk:off+k < zs.length) (hd:d < B32) :
 qaj g off zs (k+1) w0 (wr.setCell ⟨g,off+k,none⟩ (.int .u32 (d:Nat))) (ys.set (off+k) d)/\val (seg (ys.set (off+k) d) off (k+1))=val (seg ys off k)+B32 ^ k * d:=by
 obtain ⟨h1,h2,h3,h4,h5,h6⟩:=h;refine ⟨⟨h1.xD _ _,by rw [pH,h2],h3.set _ _ hd,by rw [Sd (by omega),h4],?_,h6.setCell _ _⟩,gc5 (by omega)⟩;rw [show off+(k+1)=(off+k)+1 from by omega,wbr,<- tM (i:=1) (j:=off+k),h5,tM]
theorem vcj (Sy Sz P c b d low c' b' p z D X:Nat) (h:Sy+D * X=Sz+P * (c+b)) (y:Nat) (hp:p=D * y) (h1:p+c=low+B32 * c') (h2:d+low+b=z+B32 * b') :
 (Sy+P * d)+D * (X+P * y)=(Sz+P * z)+P * B32 * (c'+b'):=by
 have e1:D * (X+P * y)=D * X+P * p:=by rw [ri,hp,Pa]
 have e2:P * (d+p+c+b)=P * (z+B32 * (c'+b')):=by congr 1; rw [ri]; omega
 rw [ri,ri,ri,ri,<- rT] at e2;rw [ri] at h;omega
def zbn (g off:Nat) (zs xs:List Nat) (D k c b:Nat) (w0 wr:World):Prop:=
 ∃ ys,qaj g off zs k w0 wr ys/\val (seg ys off k)+D * val (xs.take k)=val (seg zs off k)+B32 ^ k * (c+b)
def kcb (g off n:Nat) (zs xs:List Nat) (D:Nat) (w:World) (e:Ending) (w':World):Prop:=
 ∃ (ys:List Nat) (b:Nat),b<=1/\e=.returned (.bool ((b:Int) != 0))/\qaj g off zs (n+1) w w' ys/\val (seg ys off (n+1))+D * val xs=val (seg zs off (n+1))+B32 ^ (n+1) * b
theorem kcs (g off zc n xc D : Nat) (zs xs : List Nat) (X : Option Addr) (w : World) (ae : Row w g zs) (eY : vg zs) (eG : off + n + 1 <= zs.length) (Gx : n + 1 <= zc) (Qi : zc <= 35184372088832)
 (hx:uj w X xs) (Gy:xs.length=n) (eU:∀ ad,X=some ad->ad.block ≠ g) (AO:n<=xc) (_hxc':xc<=9223372036854775807) (hD:D < 4294967296) :
 Calls Tryz.prog 145 #[.slice (some ⟨g,off,none⟩) (n+1) zc,.slice X n xc,.int .u32 (D:Nat)] w (kcb g off n zs xs D w):=by
 have cZ:Hid (zbn g off zs xs D 0 0 0 w w):=⟨zs,⟨ae,rfl,eY,rfl,rfl,Only.refl _ _⟩,by simp [seg]⟩;have HX:=hid hx;have Dn:=hid Gy;have Vj:=hid eU;clear hx eU ae eY Gy;go_enter Tryz.func145,Tryz.ntmps145;go_wp2_with fail
 go_loopw [7,8,17] (fun cv bv iv wr=>∃ k c b:Nat,k<=n/\iv=.int .i64 k/\cv=.int .u32 c/\bv=.int .u32 b/\c < 4294967296/\b<=1/\Hid (zbn g off zs xs D k c b w wr)) (fun _ _ iv _=>n - (intOf iv).toNat)
 case atStart=>exact ⟨0,0,0,by omega,rfl,rfl,rfl,by omega,by omega,cZ⟩
 case round =>
  clear cZ;obtain ⟨k,c,b,hk,rfl,rfl,rfl,hc,hb,HI⟩:=hrel;obtain ⟨ys,fA,aJ⟩:=HI.out;obtain ⟨r,DZ,JS,qL,HR⟩:=fA.get (by omega)
  by_cases af:k < n
  · obtain ⟨ad,y,rfl,Ug,aj,DW,HY⟩:=(HX.out.only fA.2.2.2.2.2 Vj.out).xS k (by have:=Dn.out; omega);have EW:(0:Int)<=(y:Int) * D:=Int.mul_nonneg (by omega) (by omega);have pW:(y:Int) * D<=4294967295 * 4294967295:=Int.mul_le_mul (by omega) (by omega) (by omega) (by omega);have iD:=hid fA;have vU:=hid aJ;clear HI fA aJ;go_wp2_with fail;refine (gce _ _ _ (by omega) (by omega) (by omega) (by omega)).mono ?_;rintro e w2 ⟨rfl,rfl⟩;go_wp2_with fail;refine (add32 _ _ 0 _ (by omega) (by omega) (by omega) (by omega) (by omega) (by omega)).mono ?_;rintro e w2 ⟨rfl,rfl⟩;go_wp2_with fail;obtain ⟨p,hp⟩:∃ p:Nat,p=D * y:=⟨_,rfl⟩;have hpI:(y:Int) * D=(p:Int):=by rw [hp]; simp [Int.mul_comm]
    rw [hpI] at pW ⊢;obtain ⟨low,kV⟩:∃ low:Nat,low=(p+c) % 4294967296:=⟨_,rfl⟩;obtain ⟨cc,kW⟩:∃ cc:Nat,cc=(p+c) / 4294967296:=⟨_,rfl⟩;have e1:((p:Int)+c) % 4294967296=low:=by omega
    have e2:(p:Int) / 4294967296+((p:Int) % 4294967296+c) / 4294967296=cc:=by omega
    have abe:cc < 4294967296:=by omega
    have dP:low < 4294967296:=by omega
    rw [e1,e2];have Dy:Hid (p+c=low+B32 * cc):=by
     have:p+c=low+B32 * cc:=by rw [zh]; omega
     exact this
    have HP:=hid hp;clear kV kW e1 e2 hpI EW pW hp;refine (xcc _ _ _ _ (by omega) (by omega) (by omega) (by omega) (by omega) (by omega)).mono ?_;rintro e w2 ⟨rfl,rfl⟩;obtain ⟨d,eH⟩:=sI (show 0<=((r:Int) - low - b) % 4294967296 by omega);obtain ⟨b',eP⟩:=sI (za1 r low b).1;have dE:=(za1 r low b).2;rw [eP] at dE;have KZ:d+low+b=r+B32 * b':=by
     rw [zh];unfold bor at eP
     split at eP <;> omega
    have KY:d < B32:=by rw [zh]; omega
    rw [eH,eP];have HS:Hid (zbn g off zs xs D (k+1) cc b' w (wr.setCell ⟨g,off+k,none⟩ (.int .u32 (d:Nat)))):=by
     obtain ⟨s1,s2⟩:=iD.out.set (d:=d) (by omega) KY;refine ⟨_,s1,?_⟩;rw [s2,yh HY,wa1 HR,se];exact vcj _ _ _ _ _ _ _ _ _ _ _ _ _ vU.out y HP.out Dy.out KZ
    clear eH eP KZ iD vU HR;go_wp2_with fail
    go_roundw
    case rel=>exact ⟨k+1,cc,b',by omega,by go_num,rfl,rfl,abe,by omega,HS⟩
    case measure=>simp [intOf]; omega
  · obtain rfl:k=n:=by omega
    have iD:=hid fA;have vU:=hid aJ;clear HI fA aJ;go_wp2_with fail;refine (xcc _ _ _ _ (by omega) (by omega) (by omega) (by omega) (by omega) (by omega)).mono ?_;rintro e w2 ⟨rfl,rfl⟩;obtain ⟨d,eH⟩:=sI (show 0<=((r:Int) - c - b) % 4294967296 by omega);obtain ⟨b',eP⟩:=sI (za1 r c b).1;have dE:=(za1 r c b).2;rw [eP] at dE;have KZ:d+c+b=r+B32 * b':=by
     rw [zh];unfold bor at eP
     split at eP <;> omega
    have KY:d < B32:=by rw [zh]; omega
    rw [eH,eP];have CV:b'<=1:=by omega
    have HF:Hid (kcb g off k zs xs D w (.returned (.bool ((b':Int) != 0))) (wr.setCell ⟨g,off+k,none⟩ (.int .u32 (d:Nat)))):=by
     obtain ⟨s1,s2⟩:=iD.out.set (d:=d) (by omega) KY;refine ⟨_,b',CV,rfl,s1,?_⟩;rw [s2,wa1 HR,se];have h3:=vU.out;rw [pT (by have:=Dn.out; omega)] at h3;have e2:B32 ^ k * (d+c+b)=B32 ^ k * (r+B32 * b'):=by rw [KZ]
     rw [ri,ri,ri,<- rT] at e2;rw [ri] at h3;omega
    clear eH eP KZ iD vU HR;go_wp2_with fail;go_ret;exact HF.out
theorem wbq (Sy Sz P c d r y c' X:Nat) (h:Sy+P * c=Sz+X) (h1:r+y+c=d+B32 * c'):(Sy+P * d)+P * B32 * c'=(Sz+P * r)+(X+P * y):=by
 have e2:P * (r+y+c)=P * (d+B32 * c'):=by rw [h1]
 rw [ri,ri,ri,<- rT] at e2;omega
def jbn (g off:Nat) (zs xs:List Nat) (k c:Nat) (w0 wr:World):Prop:=
 ∃ ys,qaj g off zs k w0 wr ys/\val (seg ys off k)+B32 ^ k * c=val (seg zs off k)+val (xs.take k)
def ucb (g off n:Nat) (zs xs:List Nat) (w:World) (e:Ending) (w':World):Prop:=
 ∃ (ys:List Nat) (c:Nat),e=.returned (.tuple #[])/\qaj g off zs (n+1) w w' ys/\val (seg ys off (n+1))+B32 ^ (n+1) * c=val (seg zs off (n+1))+val xs
theorem vc1 (g off zc n xc : Nat) (zs xs : List Nat) (X : Option Addr) (w : World) (ae : Row w g zs) (eY : vg zs) (eG : off + n + 1 <= zs.length) (Gx : n + 1 <= zc) (Qi : zc <= 35184372088832)
 (hx:uj w X xs) (Gy:xs.length=n) (eU:∀ ad,X=some ad->ad.block ≠ g) (AO:n<=xc) (_hxc':xc<=9223372036854775807) :
 Calls Tryz.prog 146 #[.slice (some ⟨g,off,none⟩) (n+1) zc,.slice X n xc] w (ucb g off n zs xs w):=by
 have cZ:Hid (jbn g off zs xs 0 0 w w):=⟨zs,⟨ae,rfl,eY,rfl,rfl,Only.refl _ _⟩,by simp [seg]⟩;have HX:=hid hx;have Dn:=hid Gy;have Vj:=hid eU;clear hx eU ae eY Gy;go_enter Tryz.func146,Tryz.ntmps146;go_wp2_with fail
 go_loopw [4,9] (fun cv iv wr=>∃ k c:Nat,k<=n/\iv=.int .i64 k/\cv=.int .u32 c/\c<=1/\Hid (jbn g off zs xs k c w wr)) (fun _ iv _=>n - (intOf iv).toNat)
 case atStart=>exact ⟨0,0,by omega,rfl,rfl,by omega,cZ⟩
 case round =>
  clear cZ;obtain ⟨k,c,hk,rfl,rfl,hc,HI⟩:=hrel;obtain ⟨ys,fA,aJ⟩:=HI.out;obtain ⟨r,DZ,JS,qL,HR⟩:=fA.get (by omega)
  by_cases af:k < n
  · obtain ⟨ad,y,rfl,Ug,aj,DW,HY⟩:=(HX.out.only fA.2.2.2.2.2 Vj.out).xS k (by have:=Dn.out; omega);have HS:Hid (jbn g off zs xs (k+1) ((r+y+c) / B32) w (wr.setCell ⟨g,off+k,none⟩ (.int .u32 (((r+y+c) % B32:Nat):Int)))):=by
     obtain ⟨s1,s2⟩:=fA.set (d:=(r+y+c) % B32) (by omega) (te _ yj);refine ⟨_,s1,?_⟩;rw [s2,yh HY,wa1 HR,se];exact wbq _ _ _ _ _ _ _ _ _ aJ (tw _ _).symm
    clear HI fA aJ;go_wp2_with fail;refine (add32 _ _ _ _ (by omega) (by omega) (by omega) (by omega) (by omega) (by omega)).mono ?_;rintro e w2 ⟨rfl,rfl⟩;go_wp2_with fail
    go_roundw
    case rel =>
     refine ⟨k+1,(r+y+c) / B32,by omega,by go_num,by rw [zh]; congr 1,by rw [zh]; omega,?_⟩;rw [show (((r:Int)+y+c) % 4294967296)=(((r+y+c) % B32:Nat):Int) from by rw [zh]; omega];exact HS
    case measure=>simp [intOf]; omega
  · obtain rfl:k=n:=by omega
    have HF:Hid (ucb g off k zs xs w (.returned (.tuple #[])) (wr.setCell ⟨g,off+k,none⟩ (.int .u32 (((r+c) % B32:Nat):Int)))):=by
     obtain ⟨s1,s2⟩:=fA.set (d:=(r+c) % B32) (by omega) (te _ yj);refine ⟨_,(r+c) / B32,rfl,s1,?_⟩;rw [s2,wa1 HR,se];have h3:=aJ;rw [pT (by have:=Dn.out; omega)] at h3;have:=wbq _ _ _ _ _ _ 0 _ _ h3 (tw (r+0+c) _).symm;simpa using this
    clear HI fA aJ;go_wp2_with fail
    go_end0
    rw [show (((r:Int)+c) % 4294967296)=(((r+c) % B32:Nat):Int) from by rw [zh]; omega];exact HF.out
end Go.Proofs.YtcepajijiabkmaaGreat
