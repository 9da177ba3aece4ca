/- Plain arithmetic of long division. No program in sight. -/
import Derived.Test.YtcepajijiabkmaaGreatMo4
set_option linter.all false
namespace Go.Proofs.YtcepajijiabkmaaGreat
open Lib (hid)
def jaj (B U V:Nat):Nat:=min (B - 1) (U / V)
theorem jdd {B:Nat} (hB:0 < B) (U V:Nat):jaj B U V < B:=by
 unfold jaj; omega
theorem ycl {B:Nat} (hB:0 < B) {u v U V K r r':Nat} (hK:0 < K) (hu:u=U * K+r) (hr:r < K) (hv:v=V * K+r') (EX:r' < K) (hV:B<=V) (hq:u < v * B) :
 u / v<=jaj B U V/\jaj B U V<=u / v+1:=by
 have gI:0 < V:=px hB hV;have Bq:0 < v:=by rw [hv]; have:=Te gI hK; omega
 have hqB:u / v < B:=tT hq
 constructor
 · have h1:u / v * v<=u:=Nat.div_mul_le_self u v;have h2:u / v * V * K<=u / v * v:=by rw [hv,r9]; exact sL _ (by omega)
   have h3:u / v * V * K < (U+1) * K:=by rw [r5,tr]; omega
   have h4:u / v * V < U+1:=R8 h3;have h5:u / v<=U / V:=(RL gI).2 (by omega);unfold jaj; omega
 · rcases tM (u / v+1) (U / V) with h | h
   · exfalso
     generalize hQ:u / v=Q at *;have h1:(Q+2) * V<=U:=(RL gI).1 h;have h2:(Q+2) * V * K<=u:=by
      have:=pE K h1;omega
     have h3:u < (Q+1) * v:=by
      rw [r5,tr,sj,<- hQ];have h7:=tg u Bq;have h8:=Wz u v;omega
     have h4:(Q+1) * v < (Q+1) * ((V+1) * K):=Tp (by rw [hv,r5,tr]; omega) (by omega);have h5:(Q+2) * V * K < (Q+1) * (V+1) * K:=by rw [r9 (Q+1)]; omega
     have h6:=R8 h5;rw [r5,r5,tr,rk,ur] at h6;omega
   · unfold jaj; omega
def xa3 (B U2 U V v1 q r o:Nat):Prop:=q < B/\r < B/\o<=1/\r+B * o+q * v1=U2/\jaj B U V<=q
theorem wb4 {B:Nat} (hB:0 < B) {u2 u1 u0 v1 v2:Nat} (h1:u1 < B) (bD:v1 < B) (he:u2=v1):xa3 B (u2 * B+u1) (u2 * B * B+u1 * B+u0) (v1 * B+v2) v1 (B - 1) ((u1+v1) % B) ((u1+v1) / B):=by
 refine ⟨by omega,tg _ hB,by have:=(Ww hB).2 (show u1+v1 < 2 * B by omega); omega,?_,by unfold jaj; omega⟩;rw [tw,he,Nat.sub_mul,tr,sj B v1];have:v1<=v1 * B:=US _ hB;omega
theorem vc6 {B:Nat} (hB:0 < B) {u2 u1 u0 v1 v2:Nat} (h1:u1 < B) (h0:u0 < B) (bD:v1 < B) (af:u2 < v1) :
 xa3 B (u2 * B+u1) (u2 * B * B+u1 * B+u0) (v1 * B+v2) v1 ((u2 * B+u1) / v1) ((u2 * B+u1) % v1) 0:=by
 have Bq:0 < v1:=by omega
 have hm:=tg (u2 * B+u1) Bq;have hq:u2 * B+u1 < v1 * B:=by
  have:(u2+1) * B<=v1 * B:=pE _ af;rw [r5,tr] at this; omega
 refine ⟨tT hq,by omega,by omega,?_,?_⟩
 · rw [wy,s9,sj _ v1,Nat.add_comm]; exact Wz _ _
 · have gI:0 < v1 * B+v2:=by have:=Te Bq hB; omega
   have h2:(u2 * B * B+u1 * B+u0) / (v1 * B+v2)<=(u2 * B+u1) / v1:=by
    rw [RL Bq];have h3:=Nat.div_mul_le_self (u2 * B * B+u1 * B+u0) (v1 * B+v2);generalize (u2 * B * B+u1 * B+u0) / (v1 * B+v2)=t at *;have h4:t * v1 * B<=t * (v1 * B+v2):=by rw [r9]; exact sL _ (by omega)
    have h5:t * v1 * B < (u2 * B+u1+1) * B:=by rw [r5,r5,tr]; omega
    have:=R8 h5;omega
   unfold jaj; omega
theorem zb5 {B:Nat} (hB:0 < B) {u2 u1 u0 v1 v2 q r o:Nat} (h:xa3 B (u2 * B+u1) (u2 * B * B+u1 * B+u0) (v1 * B+v2) v1 q r o) (bD:0 < v1) (QH:o=1\/q * v2<=r * B+u0) (uQ:v2 < B) :
 q=jaj B (u2 * B * B+u1 * B+u0) (v1 * B+v2):=by
 obtain ⟨hq,hr,ho,he,hle⟩:=h;have gI:0 < v1 * B+v2:=by have:=Te bD hB; omega
 have hU:u2 * B * B+u1 * B+u0=(r+B * o) * B+q * v1 * B+u0:=by
  rw [<- r5,<- he,r5]
 have hqv:q * v2<=(r+B * o) * B+u0:=by
  rcases QH with BZ | h1
  · subst BZ;have h2:q * v2<=B * B:=RB (by omega) (by omega);rw [r5,ur]; omega
  · rw [r5]; omega
 have h3:q<=(u2 * B * B+u1 * B+u0) / (v1 * B+v2):=by
  rw [RL gI,hU,rk,<- r9];omega
 unfold jaj at *; omega
theorem gb4 {B:Nat} (hB:0 < B) {u2 u1 u0 v1 v2 q r:Nat} (h:xa3 B (u2 * B+u1) (u2 * B * B+u1 * B+u0) (v1 * B+v2) v1 q r 0) (bD:0 < v1) (aim:v1 < B) (CE:r * B+u0 < q * v2) :
 0 < q/\xa3 B (u2 * B+u1) (u2 * B * B+u1 * B+u0) (v1 * B+v2) v1 (q - 1) ((r+v1) % B) ((r+v1) / B):=by
 obtain ⟨hq,hr,ho,he,hle⟩:=h;have gI:0 < v1 * B+v2:=by have:=Te bD hB; omega
 have kD:0 < q:=by
  rcases tU q with e | e
  · rw [e,s8] at CE; omega
  · exact e
 have hU:u2 * B * B+u1 * B+u0=r * B+q * v1 * B+u0:=by
  rw [<- r5,<- he,wy,s9,r5]
 have h3:(u2 * B * B+u1 * B+u0) / (v1 * B+v2) < q:=by
  rw [Ww gI,hU,rk,<- r9];omega
 refine ⟨kD,by omega,tg _ hB,by have:=(Ww hB).2 (show r+v1 < 2 * B by omega); omega,?_,by unfold jaj; omega⟩;rw [tw,Nat.sub_mul,tr];have:v1<=q * v1:=SM _ kD;omega
set_option maxRecDepth 100000
set_option maxHeartbeats 8000000
open Go.RowKit
def ucw (B U2 U V v1:Nat) (w:World) (s11 s12 s13:Value) (wx:World):Prop:=
 ∃ q r o:Nat,s11=.int .u32 (q:Nat)/\s12=.int .u32 (r:Nat)/\s13=.int .u32 (o:Nat)/\xa3 B U2 U V v1 q r o/\∃ n,wx=w.drewN n
theorem ub4 (u2 u1 u0 v1 v2:Nat) (w:World) (hu2:u2<=v1) (WV:u1 < 4294967296) (ZK:u0 < 4294967296) (bD:v1 < 4294967296) (uQ:v2 < 4294967296) (ain:2147483648<=v1) :
 Calls Tryz.prog 144 #[.int .u32 (u2:Nat),.int .u32 (u1:Nat),.int .u32 (u0:Nat),.int .u32 (v1:Nat),.int .u32 (v2:Nat)] w fun e w' =>
  e=.returned (.int .u32 (jaj B32 (u2 * B32 * B32+u1 * B32+u0) (v1 * B32+v2):Nat))/\∃ n,w'=w.drewN n:=by
 go_enter Tryz.func144,Tryz.ntmps144
 go_upto_if 18 with (fail)
 go_cut [11,12,13] (fun s11 s12 s13 wx=>ucw B32 (u2 * B32+u1) (u2 * B32 * B32+u1 * B32+u0) (v1 * B32+v2) v1 w s11 s12 s13 wx)
 case first =>
  by_cases h:u2 < v1
  · have hi:=hid (vc6 (u0:=u0) (v2:=v2) yj (show u1 < B32 from WV) (show u0 < B32 from ZK) (show v1 < B32 from bD) h);go_wp2_with fail;refine (zc9 _ _ _ _ (by omega) (by omega) (by omega) (by omega) (by omega)).mono ?_;rintro e w2 ⟨rfl,n2,rfl⟩;go_wp2_with fail
    go_meet
    refine ⟨_,_,0,?_,?_,rfl,hi.out,n2,rfl⟩
    · rw [yh]; simp
    · rw [yh]; simp
  · have he:u2=v1:=by omega
    have hi:=hid (wb4 (u0:=u0) (v2:=v2) yj (show u1 < B32 from WV) (show v1 < B32 from bD) he);clear he;go_wp2_with fail;refine (add32 _ _ 0 _ (by omega) (by omega) (by omega) (by omega) (by omega) (by omega)).mono ?_;rintro e w2 ⟨rfl,rfl⟩;go_wp2_with fail
    go_meet
    refine ⟨_,_,_,?_,?_,?_,hi.out,0,rfl⟩
    · rfl
    · rw [yh]; simp
    · rw [yh]; simp
 case rest =>
  obtain ⟨q,r,o,rfl,rfl,rfl,hinv,n,rfl⟩:=hcut;have kH:=hid hinv;clear hinv;go_wp2_with fail
  go_loopw [11,12,13] (fun s11 s12 s13 wx=>ucw B32 (u2 * B32+u1) (u2 * B32 * B32+u1 * B32+u0) (v1 * B32+v2) v1 w s11 s12 s13 wx) (fun s11 _ _ _=>(intOf s11).toNat)
  case atStart=>exact ⟨q,r,o,rfl,rfl,rfl,kH.out,n,rfl⟩
  case round =>
   clear kH;obtain ⟨q,r,o,rfl,rfl,rfl,hinv,n,rfl⟩:=hrel;have hq:=hinv.1;have hr:=hinv.2.1;have ho:=hinv.2.2.1;have HI:=hid hinv;rw [yh] at hq hr;clear hinv
   by_cases ho0:o=0
   · subst ho0;go_wp2_with fail;refine (xcj _ _ _ (by omega) (by omega) (by omega) (by omega)).mono ?_;rintro e w2 ⟨rfl,rfl⟩;obtain ⟨H,hH⟩:∃ H:Nat,H=q * v2 / 4294967296:=⟨_,rfl⟩;obtain ⟨Lo,hLo⟩:∃ Lo:Nat,Lo=q * v2 % 4294967296:=⟨_,rfl⟩;have e1:(q:Int) * v2 / 4294967296=H:=by rw [hH]; simp
     have e2:(q:Int) * v2 % 4294967296=Lo:=by rw [hLo]; simp
     have TN:q * v2=H * 4294967296+Lo:=by omega
     have aka:Lo < 4294967296:=by omega
     have Gv:=hid TN;rw [e1,e2];clear e1 e2 hH hLo TN;have iM:q * v2<=r * B32+u0->q=jaj B32 (u2 * B32 * B32+u1 * B32+u0) (v1 * B32+v2):=fun h=>zb5 yj HI.out (by omega) (.inr h) uQ
     have Jw:=hid iM;clear iM;rcases pax H r with af | heq | Ii
     · have b1:decide (H < r)=true:=by simp [af]
       go_wp2_with fail;go_ret;refine ⟨?_,_,rfl⟩;have:=Jw.out (by rw [yh]; have:=Gv.out; omega);rw [<- this]
       rfl
     · subst heq;have b1:decide (H < H)=false:=by simp
       have b2:((H:Int) == (H:Int))=true:=by simp
       by_cases hl:Lo<=u0
       · have b3:decide (Lo<=u0)=true:=by simp [hl]
         go_wp2_with fail;go_ret;refine ⟨?_,_,rfl⟩;have:=Jw.out (by rw [yh]; have:=Gv.out; omega);rw [<- this]
         rfl
       · have b3:decide (Lo<=u0)=false:=by simp [hl]
         obtain ⟨kD,dV⟩:=gb4 yj HI.out (by omega) (show v1 < B32 from bD) (by rw [yh]; have:=Gv.out; omega);have dS:=hid dV;clear dV;go_wp2_with fail;refine (add32 _ _ 0 _ (by omega) (by omega) (by omega) (by omega) (by omega) (by omega)).mono ?_;rintro e w2 ⟨rfl,rfl⟩;go_wp2_with fail
         go_roundw
         case rel=>exact ⟨q - 1,_,_,by congr 1; omega,by rw [yh]; simp,by rw [yh]; simp,dS.out,_,rfl⟩
         case measure=>simp [intOf]; omega
     · have b1:decide (H < r)=false:=by simp; omega
       have b2:((H:Int) == (r:Int))=false:=beq_eq_false_iff_ne.2 (by omega);obtain ⟨kD,dV⟩:=gb4 yj HI.out (by omega) (show v1 < B32 from bD) (by rw [yh]; have:=Gv.out; omega);have dS:=hid dV;clear dV;go_wp2_with fail;refine (add32 _ _ 0 _ (by omega) (by omega) (by omega) (by omega) (by omega) (by omega)).mono ?_;rintro e w2 ⟨rfl,rfl⟩;go_wp2_with fail
       go_roundw
       case rel=>exact ⟨q - 1,_,_,by congr 1; omega,by rw [yh]; simp,by rw [yh]; simp,dS.out,_,rfl⟩
       case measure=>simp [intOf]; omega
   · obtain rfl:o=1:=by omega
     have hd:=zb5 yj HI.out (by omega) (.inl rfl) uQ;have HD:=hid hd;clear hd;go_wp2_with fail;go_ret;refine ⟨?_,_,rfl⟩;rw [<- HD.out]
     rfl
def seg (zs:List Nat) (off k:Nat):List Nat:=(zs.drop off).take k
theorem ua3 {zs:List Nat} {off k r:Nat} (h:Hid (zs[off+k]?=some r)):val (seg zs off (k+1))=val (seg zs off k)+B32 ^ k * r:=by
 have h1:Hid ((zs.drop off)[k]?=some r):=by
  have:=h.out;rw [<- tW] at this;exact this
 exact xh h1
theorem qdb {zs:List Nat} {off k d:Nat} (h:off+k < zs.length):val (seg (zs.set (off+k) d) off (k+1))=val (seg zs off k)+B32 ^ k * d:=by
 unfold seg;have Cm:k < (zs.drop off).length:=by rw [re]; omega
 rw [RW,if_neg (by omega),Rm,yaa _ _ _ Cm,uaf,pA,so (by omega)]
theorem zbv {zs:List Nat} {i d:Nat}:(zs.set i d).drop (i+1)=zs.drop (i+1):=by
 rw [RW,if_pos (by omega)]
def qak (g off:Nat) (zs:List Nat) (k:Nat) (w0 wr:World) (ys:List Nat):Prop:=
 Row wr g ys/\ys.length=zs.length/\ug ys/\ys.take off=zs.take off/\ys.drop (off+k)=zs.drop (off+k)/\Only g w0 wr
theorem qak.get {g off k:Nat} {zs ys:List Nat} {w0 wr:World} (h:qak g off zs k w0 wr ys) (hk:off+k < zs.length) :
 ∃ r:Nat,wr.cell? ⟨g,off+k,none⟩=some (.int .u32 (r:Nat))/\wr.frozen? ⟨g,off+k,none⟩=false/\r < 4294967296/\Hid (zs[off+k]?=some r):=by
 obtain ⟨h1,h2,h3,h4,h5,h6⟩:=h;obtain ⟨r,c1,c2,c3⟩:=h1.xS (off+k) (by omega);refine ⟨r,c1,c2,h3 _ (te c3.out),?_⟩;have e1:ys[off+k]?=(ys.drop (off+k))[0]?:=by rw [tW]; simp
 have e2:zs[off+k]?=(zs.drop (off+k))[0]?:=by rw [tW]; simp
 have:=c3.out;rw [e1,h5,<- e2] at this;exact this
theorem qak.set {g off k d:Nat} {zs ys:List Nat} {w0 wr:World} (h:qak g off zs k w0 wr ys) (hk:off+k < zs.length) (hd:d < B32) :
 qak g off zs (k+1) w0 (wr.setCell ⟨g,off+k,none⟩ (.int .u32 (d:Nat))) (ys.set (off+k) d)/\val (seg (ys.set (off+k) d) off (k+1))=val (seg ys off k)+B32 ^ k * d:=by
 obtain ⟨h1,h2,h3,h4,h5,h6⟩:=h;refine ⟨⟨h1.xD _ _,by rw [pL,h2],h3.set _ _ hd,by rw [Sk (by omega),h4],?_,h6.setCell _ _⟩,qdb (by omega)⟩;rw [show off+(k+1)=(off+k)+1 from by omega,zbv,<- tQ (i:=1) (j:=off+k),h5,tQ]
theorem qco (Sy Sz P c b d low c' b' p z D X:Nat) (h:Sy+D * X=Sz+P * (c+b)) (y:Nat) (hp:p=D * y) (h1:p+c=low+B32 * c') (h2:d+low+b=z+B32 * b') :
 (Sy+P * d)+D * (X+P * y)=(Sz+P * z)+P * B32 * (c'+b'):=by
 have e1:D * (X+P * y)=D * X+P * p:=by rw [rk,hp,Pc]
 have e2:P * (d+p+c+b)=P * (z+B32 * (c'+b')):=by congr 1; rw [rk]; omega
 rw [rk,rk,rk,rk,<- r9] at e2;rw [rk] at h;omega
def wbp (g off:Nat) (zs xs:List Nat) (D k c b:Nat) (w0 wr:World):Prop:=
 ∃ ys,qak g off zs k w0 wr ys/\val (seg ys off k)+D * val (xs.take k)=val (seg zs off k)+B32 ^ k * (c+b)
def zcg (g off n:Nat) (zs xs:List Nat) (D:Nat) (w:World) (e:Ending) (w':World):Prop:=
 ∃ (ys:List Nat) (b:Nat),b<=1/\e=.returned (.bool ((b:Int) != 0))/\qak g off zs (n+1) w w' ys/\val (seg ys off (n+1))+D * val xs=val (seg zs off (n+1))+B32 ^ (n+1) * b
theorem gcx (g off zc n xc D : Nat) (zs xs : List Nat) (X : Option Addr) (w : World) (ae : Row w g zs) (fA : ug zs) (eF : off + n + 1 <= zs.length) (GK : n + 1 <= zc) (Qj : zc <= 35184372088832)
 (hx:uj w X xs) (GL:xs.length=n) (eU:∀ ad,X=some ad->ad.block ≠ g) (AA:n<=xc) (_hxc':xc<=9223372036854775807) (hD:D < 4294967296) :
 Calls Tryz.prog 145 #[.slice (some ⟨g,off,none⟩) (n+1) zc,.slice X n xc,.int .u32 (D:Nat)] w (zcg g off n zs xs D w):=by
 have cZ:Hid (wbp g off zs xs D 0 0 0 w w):=⟨zs,⟨ae,rfl,fA,rfl,rfl,Only.refl _ _⟩,by simp [seg]⟩;have HX:=hid hx;have Dl:=hid GL;have Vk:=hid eU;clear hx eU ae fA GL;go_enter Tryz.func145,Tryz.ntmps145;go_wp2_with fail
 go_loopw [7,8,17] (fun cv bv iv wr=>∃ k c b:Nat,k<=n/\iv=.int .i64 k/\cv=.int .u32 c/\bv=.int .u32 b/\c < 4294967296/\b<=1/\Hid (wbp g off zs xs D k c b w wr)) (fun _ _ iv _=>n - (intOf iv).toNat)
 case atStart=>exact ⟨0,0,0,by omega,rfl,rfl,rfl,by omega,by omega,cZ⟩
 case round =>
  clear cZ;obtain ⟨k,c,b,hk,rfl,rfl,rfl,hc,hb,HI⟩:=hrel;obtain ⟨ys,fB,aJ⟩:=HI.out;obtain ⟨r,Ec,J4,nS,HR⟩:=fB.get (by omega)
  by_cases af:k < n
  · obtain ⟨ad,y,rfl,Ug,aj,DZ,HY⟩:=(HX.out.only fB.2.2.2.2.2 Vk.out).xS k (by have:=Dl.out; omega);have Fa:(0:Int)<=(y:Int) * D:=pa9 (by omega) (by omega);have pX:(y:Int) * D<=4294967295 * 4294967295:=pba (by omega) (by omega) (by omega) (by omega);have iG:=hid fB;have vP:=hid aJ;clear HI fB aJ;go_wp2_with fail;refine (xcj _ _ _ (by omega) (by omega) (by omega) (by omega)).mono ?_;rintro e w2 ⟨rfl,rfl⟩;go_wp2_with fail;refine (add32 _ _ 0 _ (by omega) (by omega) (by omega) (by omega) (by omega) (by omega)).mono ?_;rintro e w2 ⟨rfl,rfl⟩;go_wp2_with fail;obtain ⟨p,hp⟩:∃ p:Nat,p=D * y:=⟨_,rfl⟩;have hpI:(y:Int) * D=(p:Int):=by rw [hp]; simp [Int.mul_comm]
    rw [hpI] at pX ⊢;obtain ⟨low,kT⟩:∃ low:Nat,low=(p+c) % 4294967296:=⟨_,rfl⟩;obtain ⟨cc,kV⟩:∃ cc:Nat,cc=(p+c) / 4294967296:=⟨_,rfl⟩;have e1:((p:Int)+c) % 4294967296=low:=by omega
    have e2:(p:Int) / 4294967296+((p:Int) % 4294967296+c) / 4294967296=cc:=by omega
    have abh:cc < 4294967296:=by omega
    have fC:low < 4294967296:=by omega
    rw [e1,e2];have Dz:Hid (p+c=low+B32 * cc):=by
     have:p+c=low+B32 * cc:=by rw [yh]; omega
     exact this
    have HP:=hid hp;clear kT kV e1 e2 hpI Fa pX hp;refine (ucg _ _ _ _ (by omega) (by omega) (by omega) (by omega) (by omega) (by omega)).mono ?_;rintro e w2 ⟨rfl,rfl⟩;obtain ⟨d,eH⟩:=sM (show 0<=((r:Int) - low - b) % 4294967296 by omega);obtain ⟨b',eP⟩:=sM (wa2 r low b).1;have dE:=(wa2 r low b).2;rw [eP] at dE;have Lm:d+low+b=r+B32 * b':=by
     rw [yh];unfold bor at eP
     split at eP <;> omega
    have Ll:d < B32:=by rw [yh]; omega
    rw [eH,eP];have HS:Hid (wbp g off zs xs D (k+1) cc b' w (wr.setCell ⟨g,off+k,none⟩ (.int .u32 (d:Nat)))):=by
     obtain ⟨s1,s2⟩:=iG.out.set (d:=d) (by omega) Ll;refine ⟨_,s1,?_⟩;rw [s2,xh HY,ua3 HR,si];exact qco _ _ _ _ _ _ _ _ _ _ _ _ _ vP.out y HP.out Dz.out Lm
    clear eH eP Lm iG vP HR;go_wp2_with fail
    go_roundw
    case rel=>exact ⟨k+1,cc,b',by omega,by go_num,rfl,rfl,abh,by omega,HS⟩
    case measure=>simp [intOf]; omega
  · obtain rfl:k=n:=by omega
    have iG:=hid fB;have vP:=hid aJ;clear HI fB aJ;go_wp2_with fail;refine (ucg _ _ _ _ (by omega) (by omega) (by omega) (by omega) (by omega) (by omega)).mono ?_;rintro e w2 ⟨rfl,rfl⟩;obtain ⟨d,eH⟩:=sM (show 0<=((r:Int) - c - b) % 4294967296 by omega);obtain ⟨b',eP⟩:=sM (wa2 r c b).1;have dE:=(wa2 r c b).2;rw [eP] at dE;have Lm:d+c+b=r+B32 * b':=by
     rw [yh];unfold bor at eP
     split at eP <;> omega
    have Ll:d < B32:=by rw [yh]; omega
    rw [eH,eP];have CU:b'<=1:=by omega
    have HF:Hid (zcg g off k zs xs D w (.returned (.bool ((b':Int) != 0))) (wr.setCell ⟨g,off+k,none⟩ (.int .u32 (d:Nat)))):=by
     obtain ⟨s1,s2⟩:=iG.out.set (d:=d) (by omega) Ll;refine ⟨_,b',CU,rfl,s1,?_⟩;rw [s2,ua3 HR,si];have h3:=vP.out;rw [p8 (by have:=Dl.out; omega)] at h3;have e2:B32 ^ k * (d+c+b)=B32 ^ k * (r+B32 * b'):=by rw [Lm]
     rw [rk,rk,rk,<- r9] at e2;rw [rk] at h3;omega
    clear eH eP Lm iG vP HR;go_wp2_with fail;go_ret;exact HF.out
theorem zbu (Sy Sz P c d r y c' X:Nat) (h:Sy+P * c=Sz+X) (h1:r+y+c=d+B32 * c'):(Sy+P * d)+P * B32 * c'=(Sz+P * r)+(X+P * y):=by
 have e2:P * (r+y+c)=P * (d+B32 * c'):=by rw [h1]
 rw [rk,rk,rk,<- r9] at e2;omega
def qbq (g off:Nat) (zs xs:List Nat) (k c:Nat) (w0 wr:World):Prop:=
 ∃ ys,qak g off zs k w0 wr ys/\val (seg ys off k)+B32 ^ k * c=val (seg zs off k)+val (xs.take k)
def xcg (g off n:Nat) (zs xs:List Nat) (w:World) (e:Ending) (w':World):Prop:=
 ∃ (ys:List Nat) (c:Nat),e=.returned (.tuple #[])/\qak g off zs (n+1) w w' ys/\val (seg ys off (n+1))+B32 ^ (n+1) * c=val (seg zs off (n+1))+val xs
theorem zc8 (g off zc n xc : Nat) (zs xs : List Nat) (X : Option Addr) (w : World) (ae : Row w g zs) (fA : ug zs) (eF : off + n + 1 <= zs.length) (GK : n + 1 <= zc) (Qj : zc <= 35184372088832)
 (hx:uj w X xs) (GL:xs.length=n) (eU:∀ ad,X=some ad->ad.block ≠ g) (AA:n<=xc) (_hxc':xc<=9223372036854775807) :
 Calls Tryz.prog 146 #[.slice (some ⟨g,off,none⟩) (n+1) zc,.slice X n xc] w (xcg g off n zs xs w):=by
 have cZ:Hid (qbq g off zs xs 0 0 w w):=⟨zs,⟨ae,rfl,fA,rfl,rfl,Only.refl _ _⟩,by simp [seg]⟩;have HX:=hid hx;have Dl:=hid GL;have Vk:=hid eU;clear hx eU ae fA GL;go_enter Tryz.func146,Tryz.ntmps146;go_wp2_with fail
 go_loopw [4,9] (fun cv iv wr=>∃ k c:Nat,k<=n/\iv=.int .i64 k/\cv=.int .u32 c/\c<=1/\Hid (qbq g off zs xs k c w wr)) (fun _ iv _=>n - (intOf iv).toNat)
 case atStart=>exact ⟨0,0,by omega,rfl,rfl,by omega,cZ⟩
 case round =>
  clear cZ;obtain ⟨k,c,hk,rfl,rfl,hc,HI⟩:=hrel;obtain ⟨ys,fB,aJ⟩:=HI.out;obtain ⟨r,Ec,J4,nS,HR⟩:=fB.get (by omega)
  by_cases af:k < n
  · obtain ⟨ad,y,rfl,Ug,aj,DZ,HY⟩:=(HX.out.only fB.2.2.2.2.2 Vk.out).xS k (by have:=Dl.out; omega);have HS:Hid (qbq g off zs xs (k+1) ((r+y+c) / B32) w (wr.setCell ⟨g,off+k,none⟩ (.int .u32 (((r+y+c) % B32:Nat):Int)))):=by
     obtain ⟨s1,s2⟩:=fB.set (d:=(r+y+c) % B32) (by omega) (tg _ yj);refine ⟨_,s1,?_⟩;rw [s2,xh HY,ua3 HR,si];exact zbu _ _ _ _ _ _ _ _ _ aJ (tw _ _).symm
    clear HI fB aJ;go_wp2_with fail;refine (add32 _ _ _ _ (by omega) (by omega) (by omega) (by omega) (by omega) (by omega)).mono ?_;rintro e w2 ⟨rfl,rfl⟩;go_wp2_with fail
    go_roundw
    case rel =>
     refine ⟨k+1,(r+y+c) / B32,by omega,by go_num,by rw [yh]; congr 1,by rw [yh]; omega,?_⟩;rw [show (((r:Int)+y+c) % 4294967296)=(((r+y+c) % B32:Nat):Int) from by rw [yh]; omega];exact HS
    case measure=>simp [intOf]; omega
  · obtain rfl:k=n:=by omega
    have HF:Hid (xcg g off k zs xs w (.returned (.tuple #[])) (wr.setCell ⟨g,off+k,none⟩ (.int .u32 (((r+c) % B32:Nat):Int)))):=by
     obtain ⟨s1,s2⟩:=fB.set (d:=(r+c) % B32) (by omega) (tg _ yj);refine ⟨_,(r+c) / B32,rfl,s1,?_⟩;rw [s2,ua3 HR,si];have h3:=aJ;rw [p8 (by have:=Dl.out; omega)] at h3;have:=zbu _ _ _ _ _ _ 0 _ _ h3 (tw (r+0+c) _).symm;simpa using this
    clear HI fB aJ;go_wp2_with fail
    go_end0
    rw [show (((r:Int)+c) % 4294967296)=(((r+c) % B32:Nat):Int) from by rw [yh]; omega];exact HF.out
end Go.Proofs.YtcepajijiabkmaaGreat
