/- Plain arithmetic of long division. No program in sight. -/
import Derived.Test.YtklnlgnnlmdibaaGreatMq4
set_option linter.unusedSimpArgs false
set_option linter.unusedVariables false
namespace Go.Proofs.YtklnlgnnlmdibaaGreat
open Lib (hid)
def kah (B U V:Nat):Nat:=min (B - 1) (U / V)
theorem gcu {B:Nat} (hB:0 < B) (U V:Nat):kah B U V < B:=by
 unfold kah; omega
theorem vb5 {B:Nat} (hB:0 < B) {u v U V K r r':Nat} (hK:0 < K) (hu:u=U * K+r) (hr:r < K) (hv:v=V * K+r') (Ba:r' < K) (hV:B<=V) (hq:u < v * B) :
 u / v<=kah B U V/\kah B U V<=u / v+1:=by
 have fU:0 < V:=Nat.lt_of_lt_of_le hB hV;have QR:0 < v:=by rw [hv]; have:=Nat.mul_pos fU hK; omega
 have hqB:u / v < B:=Nat.div_lt_of_lt_mul hq
 constructor
 · have h1:u / v * v<=u:=Nat.div_mul_le_self u v;have h2:u / v * V * K<=u / v * v:=by rw [hv,Nat.mul_assoc]; exact Nat.mul_le_mul_left _ (by omega)
   have h3:u / v * V * K < (U+1) * K:=by rw [Nat.add_mul,Nat.one_mul]; omega
   have h4:u / v * V < U+1:=Nat.lt_of_mul_lt_mul_right h3;have h5:u / v<=U / V:=(Nat.le_div_iff_mul_le fU).2 (by omega);unfold kah; omega
 · rcases Nat.lt_or_ge (u / v+1) (U / V) with h | h
   · exfalso
     generalize hQ:u / v=Q at *;have h1:(Q+2) * V<=U:=(Nat.le_div_iff_mul_le fU).1 h;have h2:(Q+2) * V * K<=u:=by
      have:=Nat.mul_le_mul_right K h1;omega
     have h3:u < (Q+1) * v:=by
      rw [Nat.add_mul,Nat.one_mul,Nat.mul_comm,<- hQ];have h7:=Nat.mod_lt u QR;have h8:=Nat.div_add_mod u v;omega
     have h4:(Q+1) * v < (Q+1) * ((V+1) * K):=Nat.mul_lt_mul_of_pos_left (by rw [hv,Nat.add_mul,Nat.one_mul]; omega) (by omega);have h5:(Q+2) * V * K < (Q+1) * (V+1) * K:=by rw [Nat.mul_assoc (Q+1)]; omega
     have h6:=Nat.lt_of_mul_lt_mul_right h5;rw [Nat.add_mul,Nat.add_mul,Nat.one_mul,Nat.mul_add,Nat.mul_one] at h6;omega
   · unfold kah; omega
def gax (B U2 U V v1 q r o:Nat):Prop:=q < B/\r < B/\o<=1/\r+B * o+q * v1=U2/\kah B U V<=q
theorem zbs {B:Nat} (hB:0 < B) {u2 u1 u0 v1 v2:Nat} (h1:u1 < B) (aY:v1 < B) (he:u2=v1):gax B (u2 * B+u1) (u2 * B * B+u1 * B+u0) (v1 * B+v2) v1 (B - 1) ((u1+v1) % B) ((u1+v1) / B):=by
 refine ⟨by omega,Nat.mod_lt _ hB,by have:=(Nat.div_lt_iff_lt_mul hB).2 (show u1+v1 < 2 * B by omega); omega,?_,by unfold kah; omega⟩;rw [Nat.mod_add_div,he,Nat.sub_mul,Nat.one_mul,Nat.mul_comm B v1];have:v1<=v1 * B:=Nat.le_mul_of_pos_right _ hB;omega
theorem gcn {B:Nat} (hB:0 < B) {u2 u1 u0 v1 v2:Nat} (h1:u1 < B) (h0:u0 < B) (aY:v1 < B) (af:u2 < v1) :
 gax B (u2 * B+u1) (u2 * B * B+u1 * B+u0) (v1 * B+v2) v1 ((u2 * B+u1) / v1) ((u2 * B+u1) % v1) 0:=by
 have QR:0 < v1:=by omega
 have hm:=Nat.mod_lt (u2 * B+u1) QR;have hq:u2 * B+u1 < v1 * B:=by
  have:(u2+1) * B<=v1 * B:=Nat.mul_le_mul_right _ af;rw [Nat.add_mul,Nat.one_mul] at this; omega
 refine ⟨Nat.div_lt_of_lt_mul hq,by omega,by omega,?_,?_⟩
 · rw [Nat.mul_zero,Nat.add_zero,Nat.mul_comm _ v1,Nat.add_comm]; exact Nat.div_add_mod _ _
 · have fU:0 < v1 * B+v2:=by have:=Nat.mul_pos QR hB; omega
   have h2:(u2 * B * B+u1 * B+u0) / (v1 * B+v2)<=(u2 * B+u1) / v1:=by
    rw [Nat.le_div_iff_mul_le QR];have h3:=Nat.div_mul_le_self (u2 * B * B+u1 * B+u0) (v1 * B+v2);generalize (u2 * B * B+u1 * B+u0) / (v1 * B+v2)=t at *;have h4:t * v1 * B<=t * (v1 * B+v2):=by rw [Nat.mul_assoc]; exact Nat.mul_le_mul_left _ (by omega)
    have h5:t * v1 * B < (u2 * B+u1+1) * B:=by rw [Nat.add_mul,Nat.add_mul,Nat.one_mul]; omega
    have:=Nat.lt_of_mul_lt_mul_right h5;omega
   unfold kah; omega
theorem ybs {B:Nat} (hB:0 < B) {u2 u1 u0 v1 v2 q r o:Nat} (h:gax B (u2 * B+u1) (u2 * B * B+u1 * B+u0) (v1 * B+v2) v1 q r o) (aY:0 < v1) (QZ:o=1\/q * v2<=r * B+u0) (ry:v2 < B) :
 q=kah B (u2 * B * B+u1 * B+u0) (v1 * B+v2):=by
 obtain ⟨hq,hr,ho,he,hle⟩:=h;have fU:0 < v1 * B+v2:=by have:=Nat.mul_pos aY hB; omega
 have hU:u2 * B * B+u1 * B+u0=(r+B * o) * B+q * v1 * B+u0:=by
  rw [<- Nat.add_mul,<- he,Nat.add_mul]
 have hqv:q * v2<=(r+B * o) * B+u0:=by
  rcases QZ with XX | h1
  · subst XX;have h2:q * v2<=B * B:=Nat.mul_le_mul (by omega) (by omega);rw [Nat.add_mul,Nat.mul_one]; omega
  · rw [Nat.add_mul]; omega
 have h3:q<=(u2 * B * B+u1 * B+u0) / (v1 * B+v2):=by
  rw [Nat.le_div_iff_mul_le fU,hU,Nat.mul_add,<- Nat.mul_assoc];omega
 unfold kah at *; omega
theorem wbr {B:Nat} (hB:0 < B) {u2 u1 u0 v1 v2 q r:Nat} (h:gax B (u2 * B+u1) (u2 * B * B+u1 * B+u0) (v1 * B+v2) v1 q r 0) (aY:0 < v1) (ajk:v1 < B) (Df:r * B+u0 < q * v2) :
 0 < q/\gax B (u2 * B+u1) (u2 * B * B+u1 * B+u0) (v1 * B+v2) v1 (q - 1) ((r+v1) % B) ((r+v1) / B):=by
 obtain ⟨hq,hr,ho,he,hle⟩:=h;have fU:0 < v1 * B+v2:=by have:=Nat.mul_pos aY hB; omega
 have kC:0 < q:=by
  rcases Nat.eq_zero_or_pos q with e | e
  · rw [e,Nat.zero_mul] at Df; omega
  · exact e
 have hU:u2 * B * B+u1 * B+u0=r * B+q * v1 * B+u0:=by
  rw [<- Nat.add_mul,<- he,Nat.mul_zero,Nat.add_zero,Nat.add_mul]
 have h3:(u2 * B * B+u1 * B+u0) / (v1 * B+v2) < q:=by
  rw [Nat.div_lt_iff_lt_mul fU,hU,Nat.mul_add,<- Nat.mul_assoc];omega
 refine ⟨kC,by omega,Nat.mod_lt _ hB,by have:=(Nat.div_lt_iff_lt_mul hB).2 (show r+v1 < 2 * B by omega); omega,?_,by unfold kah; omega⟩;rw [Nat.mod_add_div,Nat.sub_mul,Nat.one_mul];have:v1<=q * v1:=Nat.le_mul_of_pos_left _ kC;omega
set_option maxRecDepth 100000
set_option maxHeartbeats 8000000
open Go.RowKit
def xcg (B U2 U V v1:Nat) (w:World) (s11 s12 s13:Value) (wx:World):Prop:=
 ∃ q r o:Nat,s11=.int .u32 (q:Nat)/\s12=.int .u32 (r:Nat)/\s13=.int .u32 (o:Nat)/\gax B U2 U V v1 q r o/\∃ n,wx=w.drewN n
theorem gbr (u2 u1 u0 v1 v2:Nat) (w:World) (hu2:u2<=v1) (XC:u1 < 4294967296) (hu0:u0 < 4294967296) (aY:v1 < 4294967296) (ry:v2 < 4294967296) (ajl:2147483648<=v1) :
 Calls Tryz.prog 158 #[.int .u32 (u2:Nat),.int .u32 (u1:Nat),.int .u32 (u0:Nat),.int .u32 (v1:Nat),.int .u32 (v2:Nat)] w fun e w' =>
  e=.returned (.int .u32 (kah B32 (u2 * B32 * B32+u1 * B32+u0) (v1 * B32+v2):Nat))/\∃ n,w'=w.drewN n:=by
 go_enter Tryz.func158,Tryz.ntmps158
 go_upto_if 18 with (fail)
 go_cut [11,12,13] (fun s11 s12 s13 wx=>xcg B32 (u2 * B32+u1) (u2 * B32 * B32+u1 * B32+u0) (v1 * B32+v2) v1 w s11 s12 s13 wx)
 case first =>
  by_cases h:u2 < v1
  · have hi:=hid (gcn (u0:=u0) (v2:=v2) yj (show u1 < B32 from XC) (show u0 < B32 from hu0) (show v1 < B32 from aY) h);go_wp2_with fail;refine (ycq _ _ _ _ (by omega) (by omega) (by omega) (by omega) (by omega)).mono ?_;rintro e w2 ⟨rfl,n2,rfl⟩;go_wp2_with fail
    go_meet
    refine ⟨_,_,0,?_,?_,rfl,hi.out,n2,rfl⟩
    · rw [zh]; simp
    · rw [zh]; simp
  · have he:u2=v1:=by omega
    have hi:=hid (zbs (u0:=u0) (v2:=v2) yj (show u1 < B32 from XC) (show v1 < B32 from aY) he);clear he;go_wp2_with fail;refine (add32 _ _ 0 _ (by omega) (by omega) (by omega) (by omega) (by omega) (by omega)).mono ?_;rintro e w2 ⟨rfl,rfl⟩;go_wp2_with fail
    go_meet
    refine ⟨_,_,_,?_,?_,?_,hi.out,0,rfl⟩
    · rfl
    · rw [zh]; simp
    · rw [zh]; simp
 case rest =>
  obtain ⟨q,r,o,rfl,rfl,rfl,hinv,n,rfl⟩:=hcut;have iV:=hid hinv;clear hinv;go_wp2_with fail
  go_loopw [11,12,13] (fun s11 s12 s13 wx=>xcg B32 (u2 * B32+u1) (u2 * B32 * B32+u1 * B32+u0) (v1 * B32+v2) v1 w s11 s12 s13 wx) (fun s11 _ _ _=>(intOf s11).toNat)
  case atStart=>exact ⟨q,r,o,rfl,rfl,rfl,iV.out,n,rfl⟩
  case round =>
   clear iV;obtain ⟨q,r,o,rfl,rfl,rfl,hinv,n,rfl⟩:=hrel;have hq:=hinv.1;have hr:=hinv.2.1;have ho:=hinv.2.2.1;have HI:=hid hinv;rw [zh] at hq hr;clear hinv
   by_cases ho0:o=0
   · subst ho0;go_wp2_with fail;refine (kb4 _ _ _ (by omega) (by omega) (by omega) (by omega)).mono ?_;rintro e w2 ⟨rfl,rfl⟩;obtain ⟨H,hH⟩:∃ H:Nat,H=q * v2 / 4294967296:=⟨_,rfl⟩;obtain ⟨Lo,hLo⟩:∃ Lo:Nat,Lo=q * v2 % 4294967296:=⟨_,rfl⟩;have e1:(q:Int) * v2 / 4294967296=H:=by rw [hH]; simp
     have e2:(q:Int) * v2 % 4294967296=Lo:=by rw [hLo]; simp
     have Uj:q * v2=H * 4294967296+Lo:=by omega
     have ak6:Lo < 4294967296:=by omega
     have He:=hid Uj;rw [e1,e2];clear e1 e2 hH hLo Uj;have iL:q * v2<=r * B32+u0->q=kah B32 (u2 * B32 * B32+u1 * B32+u0) (v1 * B32+v2):=fun h=>ybs yj HI.out (by omega) (.inr h) ry
     have JE:=hid iL;clear iL;rcases Nat.lt_trichotomy H r with af | heq | II
     · have b1:decide (H < r)=true:=by simp [af]
       go_wp2_with fail;go_ret;refine ⟨?_,_,rfl⟩;have:=JE.out (by rw [zh]; have:=He.out; omega);rw [<- this]
       rfl
     · subst heq;have b1:decide (H < H)=false:=by simp
       have b2:((H:Int) == (H:Int))=true:=by simp
       by_cases hl:Lo<=u0
       · have b3:decide (Lo<=u0)=true:=by simp [hl]
         go_wp2_with fail;go_ret;refine ⟨?_,_,rfl⟩;have:=JE.out (by rw [zh]; have:=He.out; omega);rw [<- this]
         rfl
       · have b3:decide (Lo<=u0)=false:=by simp [hl]
         obtain ⟨kC,dR⟩:=wbr yj HI.out (by omega) (show v1 < B32 from aY) (by rw [zh]; have:=He.out; omega);have dN:=hid dR;clear dR;go_wp2_with fail;refine (add32 _ _ 0 _ (by omega) (by omega) (by omega) (by omega) (by omega) (by omega)).mono ?_;rintro e w2 ⟨rfl,rfl⟩;go_wp2_with fail
         go_roundw
         case rel=>exact ⟨q - 1,_,_,by congr 1; omega,by rw [zh]; simp,by rw [zh]; simp,dN.out,_,rfl⟩
         case measure=>simp [intOf]; omega
     · have b1:decide (H < r)=false:=by simp; omega
       have b2:((H:Int) == (r:Int))=false:=beq_eq_false_iff_ne.2 (by omega);obtain ⟨kC,dR⟩:=wbr yj HI.out (by omega) (show v1 < B32 from aY) (by rw [zh]; have:=He.out; omega);have dN:=hid dR;clear dR;go_wp2_with fail;refine (add32 _ _ 0 _ (by omega) (by omega) (by omega) (by omega) (by omega) (by omega)).mono ?_;rintro e w2 ⟨rfl,rfl⟩;go_wp2_with fail
       go_roundw
       case rel=>exact ⟨q - 1,_,_,by congr 1; omega,by rw [zh]; simp,by rw [zh]; simp,dN.out,_,rfl⟩
       case measure=>simp [intOf]; omega
   · obtain rfl:o=1:=by omega
     have hd:=ybs yj HI.out (by omega) (.inl rfl) ry;have HD:=hid hd;clear hd;go_wp2_with fail;go_ret;refine ⟨?_,_,rfl⟩;rw [<- HD.out]
     rfl
def seg (zs:List Nat) (off k:Nat):List Nat:=(zs.drop off).take k
theorem qay {zs:List Nat} {off k r:Nat} (h:Hid (zs[off+k]?=some r)):val (seg zs off (k+1))=val (seg zs off k)+B32 ^ k * r:=by
 have h1:Hid ((zs.drop off)[k]?=some r):=by
  have:=h.out;rw [<- List.getElem?_drop] at this;exact this
 exact yh h1
theorem jcs {zs:List Nat} {off k d:Nat} (h:off+k < zs.length):val (seg (zs.set (off+k) d) off (k+1))=val (seg zs off k)+B32 ^ k * d:=by
 unfold seg;have zB:k < (zs.drop off).length:=by rw [List.length_drop]; omega
 rw [List.drop_set,if_neg (by omega),Nat.add_sub_cancel_left,gy _ _ _ zB,kae,List.length_take,Nat.min_eq_left (by omega)]
theorem vbl {zs:List Nat} {i d:Nat}:(zs.set i d).drop (i+1)=zs.drop (i+1):=by
 rw [List.drop_set,if_pos (by omega)]
def uai (g off:Nat) (zs:List Nat) (k:Nat) (w0 wr:World) (ys:List Nat):Prop:=
 Row wr g ys/\ys.length=zs.length/\jg ys/\ys.take off=zs.take off/\ys.drop (off+k)=zs.drop (off+k)/\Only g w0 wr
theorem uai.get {g off k:Nat} {zs ys:List Nat} {w0 wr:World} (h:uai g off zs k w0 wr ys) (hk:off+k < zs.length) :
 ∃ r:Nat,wr.cell? ⟨g,off+k,none⟩=some (.int .u32 (r:Nat))/\wr.frozen? ⟨g,off+k,none⟩=false/\r < 4294967296/\Hid (zs[off+k]?=some r):=by
 obtain ⟨h1,h2,h3,h4,h5,h6⟩:=h;obtain ⟨r,c1,c2,c3⟩:=h1.get_ (off+k) (by omega);refine ⟨r,c1,c2,h3 _ (List.mem_of_getElem? c3.out),?_⟩;have e1:ys[off+k]?=(ys.drop (off+k))[0]?:=by rw [List.getElem?_drop]; simp
 have e2:zs[off+k]?=(zs.drop (off+k))[0]?:=by rw [List.getElem?_drop]; simp
 have:=c3.out;rw [e1,h5,<- e2] at this;exact this
theorem uai.set {g off k d:Nat} {zs ys:List Nat} {w0 wr:World} (h:uai g off zs k w0 wr ys) (hk:off+k < zs.length) (hd:d < B32) :
 uai g off zs (k+1) w0 (wr.setCell ⟨g,off+k,none⟩ (.int .u32 (d:Nat))) (ys.set (off+k) d)/\val (seg (ys.set (off+k) d) off (k+1))=val (seg ys off k)+B32 ^ k * d:=by
 obtain ⟨h1,h2,h3,h4,h5,h6⟩:=h;refine ⟨⟨h1.set_ _ _,by rw [List.length_set,h2],h3.set _ _ hd,by rw [List.take_set_of_le (by omega),h4],?_,h6.setCell _ _⟩,jcs (by omega)⟩;rw [show off+(k+1)=(off+k)+1 from by omega,vbl,<- List.drop_drop (i:=1) (j:=off+k),h5,List.drop_drop]
theorem yb8 (Sy Sz P c b d low c' b' p z D X:Nat) (h:Sy+D * X=Sz+P * (c+b)) (y:Nat) (hp:p=D * y) (h1:p+c=low+B32 * c') (h2:d+low+b=z+B32 * b') :
 (Sy+P * d)+D * (X+P * y)=(Sz+P * z)+P * B32 * (c'+b'):=by
 have e1:D * (X+P * y)=D * X+P * p:=by rw [Nat.mul_add,hp,Nat.mul_left_comm]
 have e2:P * (d+p+c+b)=P * (z+B32 * (c'+b')):=by congr 1; rw [Nat.mul_add]; omega
 rw [Nat.mul_add,Nat.mul_add,Nat.mul_add,Nat.mul_add,<- Nat.mul_assoc] at e2;rw [Nat.mul_add] at h;omega
def wbh (g off:Nat) (zs xs:List Nat) (D k c b:Nat) (w0 wr:World):Prop:=
 ∃ ys,uai g off zs k w0 wr ys/\val (seg ys off k)+D * val (xs.take k)=val (seg zs off k)+B32 ^ k * (c+b)
def jb0 (g off n:Nat) (zs xs:List Nat) (D:Nat) (w:World) (e:Ending) (w':World):Prop:=
 ∃ (ys:List Nat) (b:Nat),b<=1/\e=.returned (.bool ((b:Int) != 0))/\uai g off zs (n+1) w w' ys/\val (seg ys off (n+1))+D * val xs=val (seg zs off (n+1))+B32 ^ (n+1) * b
theorem ych (g off zc n xc D : Nat) (zs xs : List Nat) (X : Option Addr) (w : World) (ae : Row w g zs) (fA : jg zs) (eu : off + n + 1 <= zs.length) (Hr : n + 1 <= zc) (QC : zc <= 35184372088832)
 (hx:zk w X xs) (Hu:xs.length=n) (fZ:∀ ad,X=some ad->ad.block ≠ g) (Hw:n<=xc) (_hxc':xc<=9223372036854775807) (hD:D < 4294967296) :
 Calls Tryz.prog 159 #[.slice (some ⟨g,off,none⟩) (n+1) zc,.slice X n xc,.int .u32 (D:Nat)] w (jb0 g off n zs xs D w):=by
 have df:Hid (wbh g off zs xs D 0 0 0 w w):=⟨zs,⟨ae,rfl,fA,rfl,rfl,Only.refl _ _⟩,by simp [seg]⟩;have HX:=hid hx;have DK:=hid Hu;have Na:=hid fZ;clear hx fZ ae fA Hu;go_enter Tryz.func159,Tryz.ntmps159;go_wp2_with fail
 go_loopw [7,8,17] (fun cv bv iv wr=>∃ k c b:Nat,k<=n/\iv=.int .i64 k/\cv=.int .u32 c/\bv=.int .u32 b/\c < 4294967296/\b<=1/\Hid (wbh g off zs xs D k c b w wr)) (fun _ _ iv _=>n - (intOf iv).toNat)
 case atStart=>exact ⟨0,0,0,by omega,rfl,rfl,rfl,by omega,by omega,df⟩
 case round =>
  clear df;obtain ⟨k,c,b,hk,rfl,rfl,rfl,hc,hb,HI⟩:=hrel;obtain ⟨ys,fB,aJ⟩:=HI.out;obtain ⟨r,Eo,rD,lT,HR⟩:=fB.get (by omega)
  by_cases af:k < n
  · obtain ⟨ad,y,rfl,UC,aj,Ej,HY⟩:=(HX.out.only fB.2.2.2.2.2 Na.out).get_ k (by have:=DK.out; omega);have Fv:(0:Int)<=(y:Int) * D:=Int.mul_nonneg (by omega) (by omega);have mY:(y:Int) * D<=4294967295 * 4294967295:=Int.mul_le_mul (by omega) (by omega) (by omega) (by omega);have iE:=hid fB;have wG:=hid aJ;clear HI fB aJ;go_wp2_with fail;refine (kb4 _ _ _ (by omega) (by omega) (by omega) (by omega)).mono ?_;rintro e w2 ⟨rfl,rfl⟩;go_wp2_with fail;refine (add32 _ _ 0 _ (by omega) (by omega) (by omega) (by omega) (by omega) (by omega)).mono ?_;rintro e w2 ⟨rfl,rfl⟩;go_wp2_with fail;obtain ⟨p,hp⟩:∃ p:Nat,p=D * y:=⟨_,rfl⟩;have hpI:(y:Int) * D=(p:Int):=by rw [hp]; simp [Int.mul_comm]
    rw [hpI] at mY ⊢;obtain ⟨low,nV⟩:∃ low:Nat,low=(p+c) % 4294967296:=⟨_,rfl⟩;obtain ⟨cc,kR⟩:∃ cc:Nat,cc=(p+c) / 4294967296:=⟨_,rfl⟩;have e1:((p:Int)+c) % 4294967296=low:=by omega
    have e2:(p:Int) / 4294967296+((p:Int) % 4294967296+c) / 4294967296=cc:=by omega
    have abZ:cc < 4294967296:=by omega
    have dY:low < 4294967296:=by omega
    rw [e1,e2];have DX:Hid (p+c=low+B32 * cc):=by
     have:p+c=low+B32 * cc:=by rw [zh]; omega
     exact this
    have HP:=hid hp;clear nV kR e1 e2 hpI Fv mY hp;refine (ub1 _ _ _ _ (by omega) (by omega) (by omega) (by omega) (by omega) (by omega)).mono ?_;rintro e w2 ⟨rfl,rfl⟩;obtain ⟨d,eG⟩:=Int.eq_ofNat_of_zero_le (show 0<=((r:Int) - low - b) % 4294967296 by omega);obtain ⟨b',dL⟩:=Int.eq_ofNat_of_zero_le (kax r low b).1;have dA:=(kax r low b).2;rw [dL] at dA;have LH:d+low+b=r+B32 * b':=by
     rw [zh];unfold bor at dL
     split at dL <;> omega
    have LG:d < B32:=by rw [zh]; omega
    rw [eG,dL];have HS:Hid (wbh g off zs xs D (k+1) cc b' w (wr.setCell ⟨g,off+k,none⟩ (.int .u32 (d:Nat)))):=by
     obtain ⟨s1,s2⟩:=iE.out.set (d:=d) (by omega) LG;refine ⟨_,s1,?_⟩;rw [s2,yh HY,qay HR,Nat.pow_succ];exact yb8 _ _ _ _ _ _ _ _ _ _ _ _ _ wG.out y HP.out DX.out LH
    clear eG dL LH iE wG HR;go_wp2_with fail
    go_roundw
    case rel=>exact ⟨k+1,cc,b',by omega,by go_num,rfl,rfl,abZ,by omega,HS⟩
    case measure=>simp [intOf]; omega
  · obtain rfl:k=n:=by omega
    have iE:=hid fB;have wG:=hid aJ;clear HI fB aJ;go_wp2_with fail;refine (ub1 _ _ _ _ (by omega) (by omega) (by omega) (by omega) (by omega) (by omega)).mono ?_;rintro e w2 ⟨rfl,rfl⟩;obtain ⟨d,eG⟩:=Int.eq_ofNat_of_zero_le (show 0<=((r:Int) - c - b) % 4294967296 by omega);obtain ⟨b',dL⟩:=Int.eq_ofNat_of_zero_le (kax r c b).1;have dA:=(kax r c b).2;rw [dL] at dA;have LH:d+c+b=r+B32 * b':=by
     rw [zh];unfold bor at dL
     split at dL <;> omega
    have LG:d < B32:=by rw [zh]; omega
    rw [eG,dL];have uI:b'<=1:=by omega
    have HF:Hid (jb0 g off k zs xs D w (.returned (.bool ((b':Int) != 0))) (wr.setCell ⟨g,off+k,none⟩ (.int .u32 (d:Nat)))):=by
     obtain ⟨s1,s2⟩:=iE.out.set (d:=d) (by omega) LG;refine ⟨_,b',uI,rfl,s1,?_⟩;rw [s2,qay HR,Nat.pow_succ];have h3:=wG.out;rw [List.take_of_length_le (by have:=DK.out; omega)] at h3;have e2:B32 ^ k * (d+c+b)=B32 ^ k * (r+B32 * b'):=by rw [LH]
     rw [Nat.mul_add,Nat.mul_add,Nat.mul_add,<- Nat.mul_assoc] at e2;rw [Nat.mul_add] at h3;omega
    clear eG dL LH iE wG HR;go_wp2_with fail;go_ret;exact HF.out
theorem wbk (Sy Sz P c d r y c' X:Nat) (h:Sy+P * c=Sz+X) (h1:r+y+c=d+B32 * c'):(Sy+P * d)+P * B32 * c'=(Sz+P * r)+(X+P * y):=by
 have e2:P * (r+y+c)=P * (d+B32 * c'):=by rw [h1]
 rw [Nat.mul_add,Nat.mul_add,Nat.mul_add,<- Nat.mul_assoc] at e2;omega
def xbi (g off:Nat) (zs xs:List Nat) (k c:Nat) (w0 wr:World):Prop:=
 ∃ ys,uai g off zs k w0 wr ys/\val (seg ys off k)+B32 ^ k * c=val (seg zs off k)+val (xs.take k)
def gb0 (g off n:Nat) (zs xs:List Nat) (w:World) (e:Ending) (w':World):Prop:=
 ∃ (ys:List Nat) (c:Nat),e=.returned (.tuple #[])/\uai g off zs (n+1) w w' ys/\val (seg ys off (n+1))+B32 ^ (n+1) * c=val (seg zs off (n+1))+val xs
theorem ycp (g off zc n xc : Nat) (zs xs : List Nat) (X : Option Addr) (w : World) (ae : Row w g zs) (fA : jg zs) (eu : off + n + 1 <= zs.length) (Hr : n + 1 <= zc) (QC : zc <= 35184372088832)
 (hx:zk w X xs) (Hu:xs.length=n) (fZ:∀ ad,X=some ad->ad.block ≠ g) (Hw:n<=xc) (_hxc':xc<=9223372036854775807) :
 Calls Tryz.prog 160 #[.slice (some ⟨g,off,none⟩) (n+1) zc,.slice X n xc] w (gb0 g off n zs xs w):=by
 have df:Hid (xbi g off zs xs 0 0 w w):=⟨zs,⟨ae,rfl,fA,rfl,rfl,Only.refl _ _⟩,by simp [seg]⟩;have HX:=hid hx;have DK:=hid Hu;have Na:=hid fZ;clear hx fZ ae fA Hu;go_enter Tryz.func160,Tryz.ntmps160;go_wp2_with fail
 go_loopw [4,9] (fun cv iv wr=>∃ k c:Nat,k<=n/\iv=.int .i64 k/\cv=.int .u32 c/\c<=1/\Hid (xbi g off zs xs k c w wr)) (fun _ iv _=>n - (intOf iv).toNat)
 case atStart=>exact ⟨0,0,by omega,rfl,rfl,by omega,df⟩
 case round =>
  clear df;obtain ⟨k,c,hk,rfl,rfl,hc,HI⟩:=hrel;obtain ⟨ys,fB,aJ⟩:=HI.out;obtain ⟨r,Eo,rD,lT,HR⟩:=fB.get (by omega)
  by_cases af:k < n
  · obtain ⟨ad,y,rfl,UC,aj,Ej,HY⟩:=(HX.out.only fB.2.2.2.2.2 Na.out).get_ k (by have:=DK.out; omega);have HS:Hid (xbi g off zs xs (k+1) ((r+y+c) / B32) w (wr.setCell ⟨g,off+k,none⟩ (.int .u32 (((r+y+c) % B32:Nat):Int)))):=by
     obtain ⟨s1,s2⟩:=fB.set (d:=(r+y+c) % B32) (by omega) (Nat.mod_lt _ yj);refine ⟨_,s1,?_⟩;rw [s2,yh HY,qay HR,Nat.pow_succ];exact wbk _ _ _ _ _ _ _ _ _ aJ (Nat.mod_add_div _ _).symm
    clear HI fB aJ;go_wp2_with fail;refine (add32 _ _ _ _ (by omega) (by omega) (by omega) (by omega) (by omega) (by omega)).mono ?_;rintro e w2 ⟨rfl,rfl⟩;go_wp2_with fail
    go_roundw
    case rel =>
     refine ⟨k+1,(r+y+c) / B32,by omega,by go_num,by rw [zh]; congr 1,by rw [zh]; omega,?_⟩;rw [show (((r:Int)+y+c) % 4294967296)=(((r+y+c) % B32:Nat):Int) from by rw [zh]; omega];exact HS
    case measure=>simp [intOf]; omega
  · obtain rfl:k=n:=by omega
    have HF:Hid (gb0 g off k zs xs w (.returned (.tuple #[])) (wr.setCell ⟨g,off+k,none⟩ (.int .u32 (((r+c) % B32:Nat):Int)))):=by
     obtain ⟨s1,s2⟩:=fB.set (d:=(r+c) % B32) (by omega) (Nat.mod_lt _ yj);refine ⟨_,(r+c) / B32,rfl,s1,?_⟩;rw [s2,qay HR,Nat.pow_succ];have h3:=aJ;rw [List.take_of_length_le (by have:=DK.out; omega)] at h3;have:=wbk _ _ _ _ _ _ 0 _ _ h3 (Nat.mod_add_div (r+0+c) _).symm;simpa using this
    clear HI fB aJ;go_wp2_with fail
    go_end0
    rw [show (((r:Int)+c) % 4294967296)=(((r+c) % B32:Nat):Int) from by rw [zh]; omega];exact HF.out
end Go.Proofs.YtklnlgnnlmdibaaGreat
