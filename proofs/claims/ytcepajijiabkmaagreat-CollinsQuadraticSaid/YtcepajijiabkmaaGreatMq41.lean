/- Plain arithmetic of long division. No program in sight. -/
import Derived.Test.YtcepajijiabkmaaGreatMq4
set_option linter.unusedSimpArgs false
set_option linter.unusedVariables false
namespace Go.Proofs.YtcepajijiabkmaaGreat
open Lib (hid)
def vag (B U V:Nat):Nat:=min (B - 1) (U / V)
theorem kc2 {B:Nat} (hB:0 < B) (U V:Nat):vag B U V < B:=by
 unfold vag; omega
theorem xcd {B:Nat} (hB:0 < B) {u v U V K r r':Nat} (hK:0 < K) (hu:u=U * K+r) (hr:r < K) (hv:v=V * K+r') (Oh:r' < K) (hV:B<=V) (hq:u < v * B) :
 u / v<=vag B U V/\vag B U V<=u / v+1:=by
 have fK:0 < V:=Nat.lt_of_lt_of_le hB hV;have zG:0 < v:=by rw [hv]; have:=Nat.mul_pos fK hK; omega
 have hqB:u / v < B:=Nat.div_lt_of_lt_mul hq
 constructor
 · have h1:u / v * v<=u:=Nat.div_mul_le_self u v;have h2:u / v * V * K<=u / v * v:=by rw [hv,Nat.mul_assoc]; exact Nat.mul_le_mul_left _ (by omega)
   have h3:u / v * V * K < (U+1) * K:=by rw [Nat.add_mul,Nat.one_mul]; omega
   have h4:u / v * V < U+1:=Nat.lt_of_mul_lt_mul_right h3;have h5:u / v<=U / V:=(Nat.le_div_iff_mul_le fK).2 (by omega);unfold vag; omega
 · rcases Nat.lt_or_ge (u / v+1) (U / V) with h | h
   · exfalso
     generalize hQ:u / v=Q at *;have h1:(Q+2) * V<=U:=(Nat.le_div_iff_mul_le fK).1 h;have h2:(Q+2) * V * K<=u:=by
      have:=Nat.mul_le_mul_right K h1;omega
     have h3:u < (Q+1) * v:=by
      rw [Nat.add_mul,Nat.one_mul,Nat.mul_comm,<- hQ];have h7:=Nat.mod_lt u zG;have h8:=Nat.div_add_mod u v;omega
     have h4:(Q+1) * v < (Q+1) * ((V+1) * K):=Nat.mul_lt_mul_of_pos_left (by rw [hv,Nat.add_mul,Nat.one_mul]; omega) (by omega);have h5:(Q+2) * V * K < (Q+1) * (V+1) * K:=by rw [Nat.mul_assoc (Q+1)]; omega
     have h6:=Nat.lt_of_mul_lt_mul_right h5;rw [Nat.add_mul,Nat.add_mul,Nat.one_mul,Nat.mul_add,Nat.mul_one] at h6;omega
   · unfold vag; omega
def jaz (B U2 U V v1 q r o:Nat):Prop:=q < B/\r < B/\o<=1/\r+B * o+q * v1=U2/\vag B U V<=q
theorem qbx {B:Nat} (hB:0 < B) {u2 u1 u0 v1 v2:Nat} (h1:u1 < B) (aU:v1 < B) (he:u2=v1):jaz B (u2 * B+u1) (u2 * B * B+u1 * B+u0) (v1 * B+v2) v1 (B - 1) ((u1+v1) % B) ((u1+v1) / B):=by
 refine ⟨by omega,Nat.mod_lt _ hB,by have:=(Nat.div_lt_iff_lt_mul hB).2 (show u1+v1 < 2 * B by omega); omega,?_,by unfold vag; omega⟩;rw [Nat.mod_add_div,he,Nat.sub_mul,Nat.one_mul,Nat.mul_comm B v1];have:v1<=v1 * B:=Nat.le_mul_of_pos_right _ hB;omega
theorem ucv {B:Nat} (hB:0 < B) {u2 u1 u0 v1 v2:Nat} (h1:u1 < B) (h0:u0 < B) (aU:v1 < B) (af:u2 < v1) :
 jaz B (u2 * B+u1) (u2 * B * B+u1 * B+u0) (v1 * B+v2) v1 ((u2 * B+u1) / v1) ((u2 * B+u1) % v1) 0:=by
 have zG:0 < v1:=by omega
 have hm:=Nat.mod_lt (u2 * B+u1) zG;have hq:u2 * B+u1 < v1 * B:=by
  have:(u2+1) * B<=v1 * B:=Nat.mul_le_mul_right _ af;rw [Nat.add_mul,Nat.one_mul] at this; omega
 refine ⟨Nat.div_lt_of_lt_mul hq,by omega,by omega,?_,?_⟩
 · rw [Nat.mul_zero,Nat.add_zero,Nat.mul_comm _ v1,Nat.add_comm]; exact Nat.div_add_mod _ _
 · have fK:0 < v1 * B+v2:=by have:=Nat.mul_pos zG hB; omega
   have h2:(u2 * B * B+u1 * B+u0) / (v1 * B+v2)<=(u2 * B+u1) / v1:=by
    rw [Nat.le_div_iff_mul_le zG];have h3:=Nat.div_mul_le_self (u2 * B * B+u1 * B+u0) (v1 * B+v2);generalize (u2 * B * B+u1 * B+u0) / (v1 * B+v2)=t at *;have h4:t * v1 * B<=t * (v1 * B+v2):=by rw [Nat.mul_assoc]; exact Nat.mul_le_mul_left _ (by omega)
    have h5:t * v1 * B < (u2 * B+u1+1) * B:=by rw [Nat.add_mul,Nat.add_mul,Nat.one_mul]; omega
    have:=Nat.lt_of_mul_lt_mul_right h5;omega
   unfold vag; omega
theorem jbx {B:Nat} (hB:0 < B) {u2 u1 u0 v1 v2 q r o:Nat} (h:jaz B (u2 * B+u1) (u2 * B * B+u1 * B+u0) (v1 * B+v2) v1 q r o) (aU:0 < v1) (NU:o=1\/q * v2<=r * B+u0) (rW:v2 < B) :
 q=vag B (u2 * B * B+u1 * B+u0) (v1 * B+v2):=by
 obtain ⟨hq,hr,ho,he,hle⟩:=h;have fK:0 < v1 * B+v2:=by have:=Nat.mul_pos aU hB; omega
 have hU:u2 * B * B+u1 * B+u0=(r+B * o) * B+q * v1 * B+u0:=by
  rw [<- Nat.add_mul,<- he,Nat.add_mul]
 have hqv:q * v2<=(r+B * o) * B+u0:=by
  rcases NU with Ua | h1
  · subst Ua;have h2:q * v2<=B * B:=Nat.mul_le_mul (by omega) (by omega);rw [Nat.add_mul,Nat.mul_one]; omega
  · rw [Nat.add_mul]; omega
 have h3:q<=(u2 * B * B+u1 * B+u0) / (v1 * B+v2):=by
  rw [Nat.le_div_iff_mul_le fK,hU,Nat.mul_add,<- Nat.mul_assoc];omega
 unfold vag at *; omega
theorem xbx {B:Nat} (hB:0 < B) {u2 u1 u0 v1 v2 q r:Nat} (h:jaz B (u2 * B+u1) (u2 * B * B+u1 * B+u0) (v1 * B+v2) v1 q r 0) (aU:0 < v1) (aeW:v1 < B) (Ap:r * B+u0 < q * v2) :
 0 < q/\jaz B (u2 * B+u1) (u2 * B * B+u1 * B+u0) (v1 * B+v2) v1 (q - 1) ((r+v1) % B) ((r+v1) / B):=by
 obtain ⟨hq,hr,ho,he,hle⟩:=h;have fK:0 < v1 * B+v2:=by have:=Nat.mul_pos aU hB; omega
 have BX:0 < q:=by
  rcases Nat.eq_zero_or_pos q with e | e
  · rw [e,Nat.zero_mul] at Ap; omega
  · exact e
 have hU:u2 * B * B+u1 * B+u0=r * B+q * v1 * B+u0:=by
  rw [<- Nat.add_mul,<- he,Nat.mul_zero,Nat.add_zero,Nat.add_mul]
 have h3:(u2 * B * B+u1 * B+u0) / (v1 * B+v2) < q:=by
  rw [Nat.div_lt_iff_lt_mul fK,hU,Nat.mul_add,<- Nat.mul_assoc];omega
 refine ⟨BX,by omega,Nat.mod_lt _ hB,by have:=(Nat.div_lt_iff_lt_mul hB).2 (show r+v1 < 2 * B by omega); omega,?_,by unfold vag; omega⟩;rw [Nat.mod_add_div,Nat.sub_mul,Nat.one_mul];have:v1<=q * v1:=Nat.le_mul_of_pos_left _ BX;omega
set_option maxRecDepth 100000
set_option maxHeartbeats 8000000
open Go.RowKit
def kcn (B U2 U V v1:Nat) (w:World) (s11 s12 s13:Value) (wx:World):Prop:=
 ∃ q r o:Nat,s11=.int .u32 (q:Nat)/\s12=.int .u32 (r:Nat)/\s13=.int .u32 (o:Nat)/\jaz B U2 U V v1 q r o/\∃ n,wx=w.drewN n
theorem ybx (u2 u1 u0 v1 v2:Nat) (w:World) (hu2:u2<=v1) (TM:u1 < 4294967296) (VZ:u0 < 4294967296) (aU:v1 < 4294967296) (rW:v2 < 4294967296) (aeX:2147483648<=v1) :
 Calls Tryz.prog 144 #[.int .u32 (u2:Nat),.int .u32 (u1:Nat),.int .u32 (u0:Nat),.int .u32 (v1:Nat),.int .u32 (v2:Nat)] w fun e w' =>
  e=.returned (.int .u32 (vag B32 (u2 * B32 * B32+u1 * B32+u0) (v1 * B32+v2):Nat))/\∃ n,w'=w.drewN n:=by
 go_enter Tryz.func144,Tryz.ntmps144
 go_upto_if 18 with (fail)
 go_cut [11,12,13] (fun s11 s12 s13 wx=>kcn B32 (u2 * B32+u1) (u2 * B32 * B32+u1 * B32+u0) (v1 * B32+v2) v1 w s11 s12 s13 wx)
 case first =>
  by_cases h:u2 < v1
  · have hi:=hid (ucv (u0:=u0) (v2:=v2) ui (show u1 < B32 from TM) (show u0 < B32 from VZ) (show v1 < B32 from aU) h);go_wp2_with fail;refine (wcx _ _ _ _ (by omega) (by omega) (by omega) (by omega) (by omega)).mono ?_;rintro e w2 ⟨rfl,n2,rfl⟩;go_wp2_with fail
    go_meet
    refine ⟨_,_,0,?_,?_,rfl,hi.out,n2,rfl⟩
    · rw [ug]; simp
    · rw [ug]; simp
  · have he:u2=v1:=by omega
    have hi:=hid (qbx (u0:=u0) (v2:=v2) ui (show u1 < B32 from TM) (show v1 < B32 from aU) he);clear he;go_wp2_with fail;refine (add32 _ _ 0 _ (by omega) (by omega) (by omega) (by omega) (by omega) (by omega)).mono ?_;rintro e w2 ⟨rfl,rfl⟩;go_wp2_with fail
    go_meet
    refine ⟨_,_,_,?_,?_,?_,hi.out,0,rfl⟩
    · rfl
    · rw [ug]; simp
    · rw [ug]; simp
 case rest =>
  obtain ⟨q,r,o,rfl,rfl,rfl,hinv,n,rfl⟩:=hcut;have kE:=hid hinv;clear hinv;go_wp2_with fail
  go_loopw [11,12,13] (fun s11 s12 s13 wx=>kcn B32 (u2 * B32+u1) (u2 * B32 * B32+u1 * B32+u0) (v1 * B32+v2) v1 w s11 s12 s13 wx) (fun s11 _ _ _=>(intOf s11).toNat)
  case atStart=>exact ⟨q,r,o,rfl,rfl,rfl,kE.out,n,rfl⟩
  case round =>
   clear kE;obtain ⟨q,r,o,rfl,rfl,rfl,hinv,n,rfl⟩:=hrel;have hq:=hinv.1;have hr:=hinv.2.1;have ho:=hinv.2.2.1;have HI:=hid hinv;rw [ug] at hq hr;clear hinv
   by_cases ho0:o=0
   · subst ho0;go_wp2_with fail;refine (gcb _ _ _ (by omega) (by omega) (by omega) (by omega)).mono ?_;rintro e w2 ⟨rfl,rfl⟩;obtain ⟨H,hH⟩:∃ H:Nat,H=q * v2 / 4294967296:=⟨_,rfl⟩;obtain ⟨Lo,hLo⟩:∃ Lo:Nat,Lo=q * v2 % 4294967296:=⟨_,rfl⟩;have e1:(q:Int) * v2 / 4294967296=H:=by rw [hH]; simp
     have e2:(q:Int) * v2 % 4294967296=Lo:=by rw [hLo]; simp
     have PZ:q * v2=H * 4294967296+Lo:=by omega
     have agz:Lo < 4294967296:=by omega
     have Et:=hid PZ;rw [e1,e2];clear e1 e2 hH hLo PZ;have fB:q * v2<=r * B32+u0->q=vag B32 (u2 * B32 * B32+u1 * B32+u0) (v1 * B32+v2):=fun h=>jbx ui HI.out (by omega) (.inr h) rW
     have GX:=hid fB;clear fB;rcases Nat.lt_trichotomy H r with af | heq | Lm
     · have b1:decide (H < r)=true:=by simp [af]
       go_wp2_with fail;go_ret;refine ⟨?_,_,rfl⟩;have:=GX.out (by rw [ug]; have:=Et.out; omega);rw [<- this]
       rfl
     · subst heq;have b1:decide (H < H)=false:=by simp
       have b2:((H:Int) == (H:Int))=true:=by simp
       by_cases hl:Lo<=u0
       · have b3:decide (Lo<=u0)=true:=by simp [hl]
         go_wp2_with fail;go_ret;refine ⟨?_,_,rfl⟩;have:=GX.out (by rw [ug]; have:=Et.out; omega);rw [<- this]
         rfl
       · have b3:decide (Lo<=u0)=false:=by simp [hl]
         obtain ⟨BX,dF⟩:=xbx ui HI.out (by omega) (show v1 < B32 from aU) (by rw [ug]; have:=Et.out; omega);have dP:=hid dF;clear dF;go_wp2_with fail;refine (add32 _ _ 0 _ (by omega) (by omega) (by omega) (by omega) (by omega) (by omega)).mono ?_;rintro e w2 ⟨rfl,rfl⟩;go_wp2_with fail
         go_roundw
         case rel=>exact ⟨q - 1,_,_,by congr 1; omega,by rw [ug]; simp,by rw [ug]; simp,dP.out,_,rfl⟩
         case measure=>simp [intOf]; omega
     · have b1:decide (H < r)=false:=by simp; omega
       have b2:((H:Int) == (r:Int))=false:=beq_eq_false_iff_ne.2 (by omega);obtain ⟨BX,dF⟩:=xbx ui HI.out (by omega) (show v1 < B32 from aU) (by rw [ug]; have:=Et.out; omega);have dP:=hid dF;clear dF;go_wp2_with fail;refine (add32 _ _ 0 _ (by omega) (by omega) (by omega) (by omega) (by omega) (by omega)).mono ?_;rintro e w2 ⟨rfl,rfl⟩;go_wp2_with fail
       go_roundw
       case rel=>exact ⟨q - 1,_,_,by congr 1; omega,by rw [ug]; simp,by rw [ug]; simp,dP.out,_,rfl⟩
       case measure=>simp [intOf]; omega
   · obtain rfl:o=1:=by omega
     have hd:=jbx ui HI.out (by omega) (.inl rfl) rW;have HD:=hid hd;clear hd;go_wp2_with fail;go_ret;refine ⟨?_,_,rfl⟩;rw [<- HD.out]
     rfl
def seg (zs:List Nat) (off k:Nat):List Nat:=(zs.drop off).take k
theorem za0 {zs:List Nat} {off k r:Nat} (h:Hid (zs[off+k]?=some r)):val (seg zs off (k+1))=val (seg zs off k)+B32 ^ k * r:=by
 have h1:Hid ((zs.drop off)[k]?=some r):=by
  have:=h.out;rw [<- List.getElem?_drop] at this;exact this
 exact zh h1
theorem wcz {zs:List Nat} {off k d:Nat} (h:off+k < zs.length):val (seg (zs.set (off+k) d) off (k+1))=val (seg zs off k)+B32 ^ k * d:=by
 unfold seg;have Ai:k < (zs.drop off).length:=by rw [List.length_drop]; omega
 rw [List.drop_set,if_neg (by omega),Nat.add_sub_cancel_left,qy _ _ _ Ai,gad,List.length_take,Nat.min_eq_left (by omega)]
theorem gbo {zs:List Nat} {i d:Nat}:(zs.set i d).drop (i+1)=zs.drop (i+1):=by
 rw [List.drop_set,if_pos (by omega)]
def zai (g off:Nat) (zs:List Nat) (k:Nat) (w0 wr:World) (ys:List Nat):Prop:=
 Row wr g ys/\ys.length=zs.length/\vg ys/\ys.take off=zs.take off/\ys.drop (off+k)=zs.drop (off+k)/\Only g w0 wr
theorem zai.get {g off k:Nat} {zs ys:List Nat} {w0 wr:World} (h:zai g off zs k w0 wr ys) (hk:off+k < zs.length) :
 ∃ r:Nat,wr.cell? ⟨g,off+k,none⟩=some (.int .u32 (r:Nat))/\wr.frozen? ⟨g,off+k,none⟩=false/\r < 4294967296/\Hid (zs[off+k]?=some r):=by
 obtain ⟨h1,h2,h3,h4,h5,h6⟩:=h;obtain ⟨r,c1,c2,c3⟩:=h1.get_ (off+k) (by omega);refine ⟨r,c1,c2,h3 _ (List.mem_of_getElem? c3.out),?_⟩;have e1:ys[off+k]?=(ys.drop (off+k))[0]?:=by rw [List.getElem?_drop]; simp
 have e2:zs[off+k]?=(zs.drop (off+k))[0]?:=by rw [List.getElem?_drop]; simp
 have:=c3.out;rw [e1,h5,<- e2] at this;exact this
theorem zai.set {g off k d:Nat} {zs ys:List Nat} {w0 wr:World} (h:zai g off zs k w0 wr ys) (hk:off+k < zs.length) (hd:d < B32) :
 zai g off zs (k+1) w0 (wr.setCell ⟨g,off+k,none⟩ (.int .u32 (d:Nat))) (ys.set (off+k) d)/\val (seg (ys.set (off+k) d) off (k+1))=val (seg ys off k)+B32 ^ k * d:=by
 obtain ⟨h1,h2,h3,h4,h5,h6⟩:=h;refine ⟨⟨h1.set_ _ _,by rw [List.length_set,h2],h3.set _ _ hd,by rw [List.take_set_of_le (by omega),h4],?_,h6.setCell _ _⟩,wcz (by omega)⟩;rw [show off+(k+1)=(off+k)+1 from by omega,gbo,<- List.drop_drop (i:=1) (j:=off+k),h5,List.drop_drop]
theorem jcg (Sy Sz P c b d low c' b' p z D X:Nat) (h:Sy+D * X=Sz+P * (c+b)) (y:Nat) (hp:p=D * y) (h1:p+c=low+B32 * c') (h2:d+low+b=z+B32 * b') :
 (Sy+P * d)+D * (X+P * y)=(Sz+P * z)+P * B32 * (c'+b'):=by
 have e1:D * (X+P * y)=D * X+P * p:=by rw [Nat.mul_add,hp,Nat.mul_left_comm]
 have e2:P * (d+p+c+b)=P * (z+B32 * (c'+b')):=by congr 1; rw [Nat.mul_add]; omega
 rw [Nat.mul_add,Nat.mul_add,Nat.mul_add,Nat.mul_add,<- Nat.mul_assoc] at e2;rw [Nat.mul_add] at h;omega
def jbk (g off:Nat) (zs xs:List Nat) (D k c b:Nat) (w0 wr:World):Prop:=
 ∃ ys,zai g off zs k w0 wr ys/\val (seg ys off k)+D * val (xs.take k)=val (seg zs off k)+B32 ^ k * (c+b)
def jb8 (g off n:Nat) (zs xs:List Nat) (D:Nat) (w:World) (e:Ending) (w':World):Prop:=
 ∃ (ys:List Nat) (b:Nat),b<=1/\e=.returned (.bool ((b:Int) != 0))/\zai g off zs (n+1) w w' ys/\val (seg ys off (n+1))+D * val xs=val (seg zs off (n+1))+B32 ^ (n+1) * b
theorem vco (g off zc n xc D : Nat) (zs xs : List Nat) (X : Option Addr) (w : World) (ae : Row w g zs) (dM : vg zs) (dR : off + n + 1 <= zs.length) (EF : n + 1 <= zc) (Np : zc <= 35184372088832)
 (hx:yj w X xs) (EG:xs.length=n) (iM:∀ ad,X=some ad->ad.block ≠ g) (yF:n<=xc) (_hxc':xc<=9223372036854775807) (hD:D < 4294967296) :
 Calls Tryz.prog 145 #[.slice (some ⟨g,off,none⟩) (n+1) zc,.slice X n xc,.int .u32 (D:Nat)] w (jb8 g off n zs xs D w):=by
 have bI:Hid (jbk g off zs xs D 0 0 0 w w):=⟨zs,⟨ae,rfl,dM,rfl,rfl,Only.refl _ _⟩,by simp [seg]⟩;have HX:=hid hx;have Bg:=hid EG;have Rl:=hid iM;clear hx iM ae dM EG;go_enter Tryz.func145,Tryz.ntmps145;go_wp2_with fail
 go_loopw [7,8,17] (fun cv bv iv wr=>∃ k c b:Nat,k<=n/\iv=.int .i64 k/\cv=.int .u32 c/\bv=.int .u32 b/\c < 4294967296/\b<=1/\Hid (jbk g off zs xs D k c b w wr)) (fun _ _ iv _=>n - (intOf iv).toNat)
 case atStart=>exact ⟨0,0,0,by omega,rfl,rfl,rfl,by omega,by omega,bI⟩
 case round =>
  clear bI;obtain ⟨k,c,b,hk,rfl,rfl,rfl,hc,hb,HI⟩:=hrel;obtain ⟨ys,dN,aH⟩:=HI.out;obtain ⟨r,BR,H9,uF,HR⟩:=dN.get (by omega)
  by_cases af:k < n
  · obtain ⟨ad,y,rfl,Qp,ai,BP,HY⟩:=(HX.out.only dN.2.2.2.2.2 Rl.out).get_ k (by have:=Bg.out; omega);have yL:(0:Int)<=(y:Int) * D:=Int.mul_nonneg (by omega) (by omega);have pR:(y:Int) * D<=4294967295 * 4294967295:=Int.mul_le_mul (by omega) (by omega) (by omega) (by omega);have eX:=hid dN;have tC:=hid aH;clear HI dN aH;go_wp2_with fail;refine (gcb _ _ _ (by omega) (by omega) (by omega) (by omega)).mono ?_;rintro e w2 ⟨rfl,rfl⟩;go_wp2_with fail;refine (add32 _ _ 0 _ (by omega) (by omega) (by omega) (by omega) (by omega) (by omega)).mono ?_;rintro e w2 ⟨rfl,rfl⟩;go_wp2_with fail;obtain ⟨p,hp⟩:∃ p:Nat,p=D * y:=⟨_,rfl⟩;have hpI:(y:Int) * D=(p:Int):=by rw [hp]; simp [Int.mul_comm]
    rw [hpI] at pR ⊢;obtain ⟨low,lw⟩:∃ low:Nat,low=(p+c) % 4294967296:=⟨_,rfl⟩;obtain ⟨cc,jO⟩:∃ cc:Nat,cc=(p+c) / 4294967296:=⟨_,rfl⟩;have e1:((p:Int)+c) % 4294967296=low:=by omega
    have e2:(p:Int) / 4294967296+((p:Int) % 4294967296+c) / 4294967296=cc:=by omega
    have Yh:cc < 4294967296:=by omega
    have dY:low < 4294967296:=by omega
    rw [e1,e2];have BC:Hid (p+c=low+B32 * cc):=by
     have:p+c=low+B32 * cc:=by rw [ug]; omega
     exact this
    have HP:=hid hp;clear lw jO e1 e2 hpI yL pR hp;refine (jb9 _ _ _ _ (by omega) (by omega) (by omega) (by omega) (by omega) (by omega)).mono ?_;rintro e w2 ⟨rfl,rfl⟩;obtain ⟨d,dO⟩:=Int.eq_ofNat_of_zero_le (show 0<=((r:Int) - low - b) % 4294967296 by omega);obtain ⟨b',dX⟩:=Int.eq_ofNat_of_zero_le (xaz r low b).1;have bT:=(xaz r low b).2;rw [dX] at bT;have I8:d+low+b=r+B32 * b':=by
     rw [ug];unfold bor at dX
     split at dX <;> omega
    have I7:d < B32:=by rw [ug]; omega
    rw [dO,dX];have HS:Hid (jbk g off zs xs D (k+1) cc b' w (wr.setCell ⟨g,off+k,none⟩ (.int .u32 (d:Nat)))):=by
     obtain ⟨s1,s2⟩:=eX.out.set (d:=d) (by omega) I7;refine ⟨_,s1,?_⟩;rw [s2,zh HY,za0 HR,Nat.pow_succ];exact jcg _ _ _ _ _ _ _ _ _ _ _ _ _ tC.out y HP.out BC.out I8
    clear dO dX I8 eX tC HR;go_wp2_with fail
    go_roundw
    case rel=>exact ⟨k+1,cc,b',by omega,by go_num,rfl,rfl,Yh,by omega,HS⟩
    case measure=>simp [intOf]; omega
  · obtain rfl:k=n:=by omega
    have eX:=hid dN;have tC:=hid aH;clear HI dN aH;go_wp2_with fail;refine (jb9 _ _ _ _ (by omega) (by omega) (by omega) (by omega) (by omega) (by omega)).mono ?_;rintro e w2 ⟨rfl,rfl⟩;obtain ⟨d,dO⟩:=Int.eq_ofNat_of_zero_le (show 0<=((r:Int) - c - b) % 4294967296 by omega);obtain ⟨b',dX⟩:=Int.eq_ofNat_of_zero_le (xaz r c b).1;have bT:=(xaz r c b).2;rw [dX] at bT;have I8:d+c+b=r+B32 * b':=by
     rw [ug];unfold bor at dX
     split at dX <;> omega
    have I7:d < B32:=by rw [ug]; omega
    rw [dO,dX];have AP:b'<=1:=by omega
    have HF:Hid (jb8 g off k zs xs D w (.returned (.bool ((b':Int) != 0))) (wr.setCell ⟨g,off+k,none⟩ (.int .u32 (d:Nat)))):=by
     obtain ⟨s1,s2⟩:=eX.out.set (d:=d) (by omega) I7;refine ⟨_,b',AP,rfl,s1,?_⟩;rw [s2,za0 HR,Nat.pow_succ];have h3:=tC.out;rw [List.take_of_length_le (by have:=Bg.out; omega)] at h3;have e2:B32 ^ k * (d+c+b)=B32 ^ k * (r+B32 * b'):=by rw [I8]
     rw [Nat.mul_add,Nat.mul_add,Nat.mul_add,<- Nat.mul_assoc] at e2;rw [Nat.mul_add] at h3;omega
    clear dO dX I8 eX tC HR;go_wp2_with fail;go_ret;exact HF.out
theorem wbn (Sy Sz P c d r y c' X:Nat) (h:Sy+P * c=Sz+X) (h1:r+y+c=d+B32 * c'):(Sy+P * d)+P * B32 * c'=(Sz+P * r)+(X+P * y):=by
 have e2:P * (r+y+c)=P * (d+B32 * c'):=by rw [h1]
 rw [Nat.mul_add,Nat.mul_add,Nat.mul_add,<- Nat.mul_assoc] at e2;omega
def vbk (g off:Nat) (zs xs:List Nat) (k c:Nat) (w0 wr:World):Prop:=
 ∃ ys,zai g off zs k w0 wr ys/\val (seg ys off k)+B32 ^ k * c=val (seg zs off k)+val (xs.take k)
def ub8 (g off n:Nat) (zs xs:List Nat) (w:World) (e:Ending) (w':World):Prop:=
 ∃ (ys:List Nat) (c:Nat),e=.returned (.tuple #[])/\zai g off zs (n+1) w w' ys/\val (seg ys off (n+1))+B32 ^ (n+1) * c=val (seg zs off (n+1))+val xs
theorem zcx (g off zc n xc : Nat) (zs xs : List Nat) (X : Option Addr) (w : World) (ae : Row w g zs) (dM : vg zs) (dR : off + n + 1 <= zs.length) (EF : n + 1 <= zc) (Np : zc <= 35184372088832)
 (hx:yj w X xs) (EG:xs.length=n) (iM:∀ ad,X=some ad->ad.block ≠ g) (yF:n<=xc) (_hxc':xc<=9223372036854775807) :
 Calls Tryz.prog 146 #[.slice (some ⟨g,off,none⟩) (n+1) zc,.slice X n xc] w (ub8 g off n zs xs w):=by
 have bI:Hid (vbk g off zs xs 0 0 w w):=⟨zs,⟨ae,rfl,dM,rfl,rfl,Only.refl _ _⟩,by simp [seg]⟩;have HX:=hid hx;have Bg:=hid EG;have Rl:=hid iM;clear hx iM ae dM EG;go_enter Tryz.func146,Tryz.ntmps146;go_wp2_with fail
 go_loopw [4,9] (fun cv iv wr=>∃ k c:Nat,k<=n/\iv=.int .i64 k/\cv=.int .u32 c/\c<=1/\Hid (vbk g off zs xs k c w wr)) (fun _ iv _=>n - (intOf iv).toNat)
 case atStart=>exact ⟨0,0,by omega,rfl,rfl,by omega,bI⟩
 case round =>
  clear bI;obtain ⟨k,c,hk,rfl,rfl,hc,HI⟩:=hrel;obtain ⟨ys,dN,aH⟩:=HI.out;obtain ⟨r,BR,H9,uF,HR⟩:=dN.get (by omega)
  by_cases af:k < n
  · obtain ⟨ad,y,rfl,Qp,ai,BP,HY⟩:=(HX.out.only dN.2.2.2.2.2 Rl.out).get_ k (by have:=Bg.out; omega);have HS:Hid (vbk g off zs xs (k+1) ((r+y+c) / B32) w (wr.setCell ⟨g,off+k,none⟩ (.int .u32 (((r+y+c) % B32:Nat):Int)))):=by
     obtain ⟨s1,s2⟩:=dN.set (d:=(r+y+c) % B32) (by omega) (Nat.mod_lt _ ui);refine ⟨_,s1,?_⟩;rw [s2,zh HY,za0 HR,Nat.pow_succ];exact wbn _ _ _ _ _ _ _ _ _ aH (Nat.mod_add_div _ _).symm
    clear HI dN aH;go_wp2_with fail;refine (add32 _ _ _ _ (by omega) (by omega) (by omega) (by omega) (by omega) (by omega)).mono ?_;rintro e w2 ⟨rfl,rfl⟩;go_wp2_with fail
    go_roundw
    case rel =>
     refine ⟨k+1,(r+y+c) / B32,by omega,by go_num,by rw [ug]; congr 1,by rw [ug]; omega,?_⟩;rw [show (((r:Int)+y+c) % 4294967296)=(((r+y+c) % B32:Nat):Int) from by rw [ug]; omega];exact HS
    case measure=>simp [intOf]; omega
  · obtain rfl:k=n:=by omega
    have HF:Hid (ub8 g off k zs xs w (.returned (.tuple #[])) (wr.setCell ⟨g,off+k,none⟩ (.int .u32 (((r+c) % B32:Nat):Int)))):=by
     obtain ⟨s1,s2⟩:=dN.set (d:=(r+c) % B32) (by omega) (Nat.mod_lt _ ui);refine ⟨_,(r+c) / B32,rfl,s1,?_⟩;rw [s2,za0 HR,Nat.pow_succ];have h3:=aH;rw [List.take_of_length_le (by have:=Bg.out; omega)] at h3;have:=wbn _ _ _ _ _ _ 0 _ _ h3 (Nat.mod_add_div (r+0+c) _).symm;simpa using this
    clear HI dN aH;go_wp2_with fail
    go_end0
    rw [show (((r:Int)+c) % 4294967296)=(((r+c) % B32:Nat):Int) from by rw [ug]; omega];exact HF.out
end Go.Proofs.YtcepajijiabkmaaGreat
