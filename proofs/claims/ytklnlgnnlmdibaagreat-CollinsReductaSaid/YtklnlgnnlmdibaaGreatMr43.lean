/- Plain arithmetic of long division. No program in sight. -/
import Derived.Test.YtklnlgnnlmdibaaGreatMr0
import Derived.Test.YtklnlgnnlmdibaaGreatMr4
set_option linter.unusedSimpArgs false
set_option linter.unusedVariables false
namespace Go.Proofs.YtklnlgnnlmdibaaGreat
def kae (B U V:Nat):Nat:=min (B - 1) (U / V)
theorem xcj {B:Nat} (hB:0 < B) (U V:Nat):kae B U V < B:=by
 unfold kae; omega
theorem kbw {B:Nat} (hB:0 < B) {u v U V K r r':Nat} (hK:0 < K) (hu:u=U * K+r) (hr:r < K) (hv:v=V * K+r') (hr':r' < K) (hV:B<=V) (hq:u < v * B) :
 u / v<=kae B U V/\kae B U V<=u / v+1:=by
 have hV0:0 < V:=Nat.lt_of_lt_of_le hB hV;have hv0:0 < v:=by rw [hv]; have:=Nat.mul_pos hV0 hK; omega
 have hqB:u / v < B:=Nat.div_lt_of_lt_mul hq
 constructor
 · have h1:u / v * v<=u:=Nat.div_mul_le_self u v;have h2:u / v * V * K<=u / v * v:=by rw [hv,Nat.mul_assoc]; exact Nat.mul_le_mul_left _ (by omega)
   have h3:u / v * V * K < (U+1) * K:=by rw [Nat.add_mul,Nat.one_mul]; omega
   have h4:u / v * V < U+1:=Nat.lt_of_mul_lt_mul_right h3;have h5:u / v<=U / V:=(Nat.le_div_iff_mul_le hV0).2 (by omega);unfold kae; omega
 · rcases Nat.lt_or_ge (u / v+1) (U / V) with h | h
   · exfalso
     generalize hQ:u / v=Q at *;have h1:(Q+2) * V<=U:=(Nat.le_div_iff_mul_le hV0).1 h;have h2:(Q+2) * V * K<=u:=by
      have:=Nat.mul_le_mul_right K h1;omega
     have h3:u < (Q+1) * v:=by
      rw [Nat.add_mul,Nat.one_mul,Nat.mul_comm,<- hQ];have h7:=Nat.mod_lt u hv0;have h8:=Nat.div_add_mod u v;omega
     have h4:(Q+1) * v < (Q+1) * ((V+1) * K):=Nat.mul_lt_mul_of_pos_left (by rw [hv,Nat.add_mul,Nat.one_mul]; omega) (by omega);have h5:(Q+2) * V * K < (Q+1) * (V+1) * K:=by rw [Nat.mul_assoc (Q+1)]; omega
     have h6:=Nat.lt_of_mul_lt_mul_right h5;rw [Nat.add_mul,Nat.add_mul,Nat.one_mul,Nat.mul_add,Nat.mul_one] at h6;omega
   · unfold kae; omega
def uas (B U2 U V v1 q r o:Nat):Prop:=q < B/\r < B/\o<=1/\r+B * o+q * v1=U2/\kae B U V<=q
theorem xbk {B:Nat} (hB:0 < B) {u2 u1 u0 v1 v2:Nat} (h1:u1 < B) (hv1:v1 < B) (he:u2=v1):uas B (u2 * B+u1) (u2 * B * B+u1 * B+u0) (v1 * B+v2) v1 (B - 1) ((u1+v1) % B) ((u1+v1) / B):=by
 refine ⟨by omega,Nat.mod_lt _ hB,by have:=(Nat.div_lt_iff_lt_mul hB).2 (show u1+v1 < 2 * B by omega); omega,?_,by unfold kae; omega⟩;rw [Nat.mod_add_div,he,Nat.sub_mul,Nat.one_mul,Nat.mul_comm B v1];have:v1<=v1 * B:=Nat.le_mul_of_pos_right _ hB;omega
theorem ucc {B:Nat} (hB:0 < B) {u2 u1 u0 v1 v2:Nat} (h1:u1 < B) (h0:u0 < B) (hv1:v1 < B) (hlt:u2 < v1) :
 uas B (u2 * B+u1) (u2 * B * B+u1 * B+u0) (v1 * B+v2) v1 ((u2 * B+u1) / v1) ((u2 * B+u1) % v1) 0:=by
 have hv0:0 < v1:=by omega
 have hm:=Nat.mod_lt (u2 * B+u1) hv0;have hq:u2 * B+u1 < v1 * B:=by
  have:(u2+1) * B<=v1 * B:=Nat.mul_le_mul_right _ hlt;rw [Nat.add_mul,Nat.one_mul] at this; omega
 refine ⟨Nat.div_lt_of_lt_mul hq,by omega,by omega,?_,?_⟩
 · rw [Nat.mul_zero,Nat.add_zero,Nat.mul_comm _ v1,Nat.add_comm]; exact Nat.div_add_mod _ _
 · have hV0:0 < v1 * B+v2:=by have:=Nat.mul_pos hv0 hB; omega
   have h2:(u2 * B * B+u1 * B+u0) / (v1 * B+v2)<=(u2 * B+u1) / v1:=by
    rw [Nat.le_div_iff_mul_le hv0];have h3:=Nat.div_mul_le_self (u2 * B * B+u1 * B+u0) (v1 * B+v2);generalize (u2 * B * B+u1 * B+u0) / (v1 * B+v2)=t at *;have h4:t * v1 * B<=t * (v1 * B+v2):=by rw [Nat.mul_assoc]; exact Nat.mul_le_mul_left _ (by omega)
    have h5:t * v1 * B < (u2 * B+u1+1) * B:=by rw [Nat.add_mul,Nat.add_mul,Nat.one_mul]; omega
    have:=Nat.lt_of_mul_lt_mul_right h5;omega
   unfold kae; omega
theorem qbk {B:Nat} (hB:0 < B) {u2 u1 u0 v1 v2 q r o:Nat} (h:uas B (u2 * B+u1) (u2 * B * B+u1 * B+u0) (v1 * B+v2) v1 q r o) (hv1:0 < v1) (hstop:o=1\/q * v2<=r * B+u0) (hv2:v2 < B) :
 q=kae B (u2 * B * B+u1 * B+u0) (v1 * B+v2):=by
 obtain ⟨hq,hr,ho,he,hle⟩:=h;have hV0:0 < v1 * B+v2:=by have:=Nat.mul_pos hv1 hB; omega
 have hU:u2 * B * B+u1 * B+u0=(r+B * o) * B+q * v1 * B+u0:=by
  rw [<- Nat.add_mul,<- he,Nat.add_mul]
 have hqv:q * v2<=(r+B * o) * B+u0:=by
  rcases hstop with ho1 | h1
  · subst ho1;have h2:q * v2<=B * B:=Nat.mul_le_mul (by omega) (by omega);rw [Nat.add_mul,Nat.mul_one]; omega
  · rw [Nat.add_mul]; omega
 have h3:q<=(u2 * B * B+u1 * B+u0) / (v1 * B+v2):=by
  rw [Nat.le_div_iff_mul_le hV0,hU,Nat.mul_add,<- Nat.mul_assoc];omega
 unfold kae at *; omega
theorem ybk {B:Nat} (hB:0 < B) {u2 u1 u0 v1 v2 q r:Nat} (h:uas B (u2 * B+u1) (u2 * B * B+u1 * B+u0) (v1 * B+v2) v1 q r 0) (hv1:0 < v1) (hv1B:v1 < B) (hgo:r * B+u0 < q * v2) :
 0 < q/\uas B (u2 * B+u1) (u2 * B * B+u1 * B+u0) (v1 * B+v2) v1 (q - 1) ((r+v1) % B) ((r+v1) / B):=by
 obtain ⟨hq,hr,ho,he,hle⟩:=h;have hV0:0 < v1 * B+v2:=by have:=Nat.mul_pos hv1 hB; omega
 have hq0:0 < q:=by
  rcases Nat.eq_zero_or_pos q with e | e
  · rw [e,Nat.zero_mul] at hgo; omega
  · exact e
 have hU:u2 * B * B+u1 * B+u0=r * B+q * v1 * B+u0:=by
  rw [<- Nat.add_mul,<- he,Nat.mul_zero,Nat.add_zero,Nat.add_mul]
 have h3:(u2 * B * B+u1 * B+u0) / (v1 * B+v2) < q:=by
  rw [Nat.div_lt_iff_lt_mul hV0,hU,Nat.mul_add,<- Nat.mul_assoc];omega
 refine ⟨hq0,by omega,Nat.mod_lt _ hB,by have:=(Nat.div_lt_iff_lt_mul hB).2 (show r+v1 < 2 * B by omega); omega,?_,by unfold kae; omega⟩;rw [Nat.mod_add_div,Nat.sub_mul,Nat.one_mul];have:v1<=q * v1:=Nat.le_mul_of_pos_left _ hq0;omega
/- Layer 3 (division): the parts of long division. -/
set_option maxRecDepth 100000
set_option maxHeartbeats 8000000
open Go.RowKit
def vb5 (B U2 U V v1:Nat) (w:World) (s11 s12 s13:Value) (wx:World):Prop:=
 ∃ q r o:Nat,s11=.int .u32 (q:Nat)/\s12=.int .u32 (r:Nat)/\s13=.int .u32 (o:Nat)/\uas B U2 U V v1 q r o/\∃ n,wx=w.drewN n
theorem zbk (u2 u1 u0 v1 v2:Nat) (w:World) (hu2:u2<=v1) (hu1:u1 < 4294967296) (hu0:u0 < 4294967296) (hv1:v1 < 4294967296) (hv2:v2 < 4294967296) (hv10:2147483648<=v1) :
 Calls Tryz.prog 158 #[.int .u32 (u2:Nat),.int .u32 (u1:Nat),.int .u32 (u0:Nat),.int .u32 (v1:Nat),.int .u32 (v2:Nat)] w fun e w' =>
  e=.returned (.int .u32 (kae B32 (u2 * B32 * B32+u1 * B32+u0) (v1 * B32+v2):Nat))/\∃ n,w'=w.drewN n:=by
 go_enter Tryz.func158,Tryz.ntmps158
 go_upto_if 18 with (fail)
 go_cut [11,12,13] (fun s11 s12 s13 wx=>vb5 B32 (u2 * B32+u1) (u2 * B32 * B32+u1 * B32+u0) (v1 * B32+v2) v1 w s11 s12 s13 wx)
 case first =>
  by_cases h:u2 < v1
  · have hi:=Lib.hid (ucc (u0:=u0) (v2:=v2) zi (show u1 < B32 from hu1) (show u0 < B32 from hu0) (show v1 < B32 from hv1) h);go_wp2_with fail;refine (gce _ _ _ _ (by omega) (by omega) (by omega) (by omega) (by omega)).mono ?_;rintro e w2 ⟨rfl,n2,rfl⟩;go_wp2_with fail
    go_meet
    refine ⟨_,_,0,?_,?_,rfl,hi.out,n2,rfl⟩
    · rw [jg]; simp
    · rw [jg]; simp
  · have he:u2=v1:=by omega
    have hi:=Lib.hid (xbk (u0:=u0) (v2:=v2) zi (show u1 < B32 from hu1) (show v1 < B32 from hv1) he);clear he;go_wp2_with fail;refine (add32 _ _ 0 _ (by omega) (by omega) (by omega) (by omega) (by omega) (by omega)).mono ?_;rintro e w2 ⟨rfl,rfl⟩;go_wp2_with fail
    go_meet
    refine ⟨_,_,_,?_,?_,?_,hi.out,0,rfl⟩
    · rfl
    · rw [jg]; simp
    · rw [jg]; simp
 case rest =>
  obtain ⟨q,r,o,rfl,rfl,rfl,hinv,n,rfl⟩:=hcut;have HI0:=Lib.hid hinv;clear hinv;go_wp2_with fail
  go_loopw [11,12,13] (fun s11 s12 s13 wx=>vb5 B32 (u2 * B32+u1) (u2 * B32 * B32+u1 * B32+u0) (v1 * B32+v2) v1 w s11 s12 s13 wx) (fun s11 _ _ _=>(intOf s11).toNat)
  case atStart=>exact ⟨q,r,o,rfl,rfl,rfl,HI0.out,n,rfl⟩
  case round =>
   clear HI0;obtain ⟨q,r,o,rfl,rfl,rfl,hinv,n,rfl⟩:=hrel;have hq:=hinv.1;have hr:=hinv.2.1;have ho:=hinv.2.2.1;have HI:=Lib.hid hinv;rw [jg] at hq hr;clear hinv
   by_cases ho0:o=0
   · subst ho0;go_wp2_with fail;refine (vbv _ _ _ (by omega) (by omega) (by omega) (by omega)).mono ?_;rintro e w2 ⟨rfl,rfl⟩;obtain ⟨H,hH⟩:∃ H:Nat,H=q * v2 / 4294967296:=⟨_,rfl⟩;obtain ⟨Lo,hLo⟩:∃ Lo:Nat,Lo=q * v2 % 4294967296:=⟨_,rfl⟩;have e1:(q:Int) * v2 / 4294967296=H:=by rw [hH]; simp
     have e2:(q:Int) * v2 % 4294967296=Lo:=by rw [hLo]; simp
     have hdec:q * v2=H * 4294967296+Lo:=by omega
     have hLo1:Lo < 4294967296:=by omega
     have HDEC:=Lib.hid hdec;rw [e1,e2];clear e1 e2 hH hLo hdec;have hdone:q * v2<=r * B32+u0->q=kae B32 (u2 * B32 * B32+u1 * B32+u0) (v1 * B32+v2):=fun h=>qbk zi HI.out (by omega) (.inr h) hv2
     have HDONE:=Lib.hid hdone;clear hdone;rcases Nat.lt_trichotomy H r with hlt | heq | hgt
     · have b1:decide (H < r)=true:=by simp [hlt]
       go_wp2_with fail;go_ret;refine ⟨?_,_,rfl⟩;have:=HDONE.out (by rw [jg]; have:=HDEC.out; omega);rw [<- this]
       rfl
     · subst heq;have b1:decide (H < H)=false:=by simp
       have b2:((H:Int) == (H:Int))=true:=by simp
       by_cases hl:Lo<=u0
       · have b3:decide (Lo<=u0)=true:=by simp [hl]
         go_wp2_with fail;go_ret;refine ⟨?_,_,rfl⟩;have:=HDONE.out (by rw [jg]; have:=HDEC.out; omega);rw [<- this]
         rfl
       · have b3:decide (Lo<=u0)=false:=by simp [hl]
         obtain ⟨hq0,hst⟩:=ybk zi HI.out (by omega) (show v1 < B32 from hv1) (by rw [jg]; have:=HDEC.out; omega);have HST:=Lib.hid hst;clear hst;go_wp2_with fail;refine (add32 _ _ 0 _ (by omega) (by omega) (by omega) (by omega) (by omega) (by omega)).mono ?_;rintro e w2 ⟨rfl,rfl⟩;go_wp2_with fail
         go_roundw
         case rel=>exact ⟨q - 1,_,_,by congr 1; omega,by rw [jg]; simp,by rw [jg]; simp,HST.out,_,rfl⟩
         case measure=>simp [intOf]; omega
     · have b1:decide (H < r)=false:=by simp; omega
       have b2:((H:Int) == (r:Int))=false:=beq_eq_false_iff_ne.2 (by omega);obtain ⟨hq0,hst⟩:=ybk zi HI.out (by omega) (show v1 < B32 from hv1) (by rw [jg]; have:=HDEC.out; omega);have HST:=Lib.hid hst;clear hst;go_wp2_with fail;refine (add32 _ _ 0 _ (by omega) (by omega) (by omega) (by omega) (by omega) (by omega)).mono ?_;rintro e w2 ⟨rfl,rfl⟩;go_wp2_with fail
       go_roundw
       case rel=>exact ⟨q - 1,_,_,by congr 1; omega,by rw [jg]; simp,by rw [jg]; simp,HST.out,_,rfl⟩
       case measure=>simp [intOf]; omega
   · obtain rfl:o=1:=by omega
     have hd:=qbk zi HI.out (by omega) (.inl rfl) hv2;have HD:=Lib.hid hd;clear hd;go_wp2_with fail;go_ret;refine ⟨?_,_,rfl⟩;rw [<- HD.out]
     rfl
/- Layer 3 (division): subtracting a multiple, adding back, in place. -/
set_option maxRecDepth 100000
set_option maxHeartbeats 8000000
def seg (zs:List Nat) (off k:Nat):List Nat:=(zs.drop off).take k
theorem qat {zs:List Nat} {off k r:Nat} (h:Hid (zs[off+k]?=some r)):val (seg zs off (k+1))=val (seg zs off k)+B32 ^ k * r:=by
 have h1:Hid ((zs.drop off)[k]?=some r):=by
  have:=h.out;rw [<- List.getElem?_drop] at this;exact this
 exact vg h1
theorem wcg {zs:List Nat} {off k d:Nat} (h:off+k < zs.length):val (seg (zs.set (off+k) d) off (k+1))=val (seg zs off k)+B32 ^ k * d:=by
 unfold seg;have hlk:k < (zs.drop off).length:=by rw [List.length_drop]; omega
 rw [List.drop_set,if_neg (by omega),Nat.add_sub_cancel_left,qw _ _ _ hlk,xac,List.length_take,Nat.min_eq_left (by omega)]
theorem wbd {zs:List Nat} {i d:Nat}:(zs.set i d).drop (i+1)=zs.drop (i+1):=by
 rw [List.drop_set,if_pos (by omega)]
def xaf (g off:Nat) (zs:List Nat) (k:Nat) (w0 wr:World) (ys:List Nat):Prop:=
 Row wr g ys/\ys.length=zs.length/\qg ys/\ys.take off=zs.take off/\ys.drop (off+k)=zs.drop (off+k)/\Only g w0 wr
theorem xaf.get {g off k:Nat} {zs ys:List Nat} {w0 wr:World} (h:xaf g off zs k w0 wr ys) (hk:off+k < zs.length) :
 ∃ r:Nat,wr.cell? ⟨g,off+k,none⟩=some (.int .u32 (r:Nat))/\wr.frozen? ⟨g,off+k,none⟩=false/\r < 4294967296/\Hid (zs[off+k]?=some r):=by
 obtain ⟨h1,h2,h3,h4,h5,h6⟩:=h;obtain ⟨r,c1,c2,c3⟩:=h1.get_ (off+k) (by omega);refine ⟨r,c1,c2,h3 _ (List.mem_of_getElem? c3.out),?_⟩;have e1:ys[off+k]?=(ys.drop (off+k))[0]?:=by rw [List.getElem?_drop]; simp
 have e2:zs[off+k]?=(zs.drop (off+k))[0]?:=by rw [List.getElem?_drop]; simp
 have:=c3.out;rw [e1,h5,<- e2] at this;exact this
theorem xaf.set {g off k d:Nat} {zs ys:List Nat} {w0 wr:World} (h:xaf g off zs k w0 wr ys) (hk:off+k < zs.length) (hd:d < B32) :
 xaf g off zs (k+1) w0 (wr.setCell ⟨g,off+k,none⟩ (.int .u32 (d:Nat))) (ys.set (off+k) d)/\val (seg (ys.set (off+k) d) off (k+1))=val (seg ys off k)+B32 ^ k * d:=by
 obtain ⟨h1,h2,h3,h4,h5,h6⟩:=h;refine ⟨⟨h1.set_ _ _,by rw [List.length_set,h2],h3.set _ _ hd,by rw [List.take_set_of_le (by omega),h4],?_,h6.setCell _ _⟩,wcg (by omega)⟩;rw [show off+(k+1)=(off+k)+1 from by omega,wbd,<- List.drop_drop (i:=1) (j:=off+k),h5,List.drop_drop]
theorem zbz (Sy Sz P c b d low c' b' p z D X:Nat) (h:Sy+D * X=Sz+P * (c+b)) (y:Nat) (hp:p=D * y) (h1:p+c=low+B32 * c') (h2:d+low+b=z+B32 * b') :
 (Sy+P * d)+D * (X+P * y)=(Sz+P * z)+P * B32 * (c'+b'):=by
 have e1:D * (X+P * y)=D * X+P * p:=by rw [Nat.mul_add,hp,Nat.mul_left_comm]
 have e2:P * (d+p+c+b)=P * (z+B32 * (c'+b')):=by congr 1; rw [Nat.mul_add]; omega
 rw [Nat.mul_add,Nat.mul_add,Nat.mul_add,Nat.mul_add,<- Nat.mul_assoc] at e2;rw [Nat.mul_add] at h;omega
def uba (g off:Nat) (zs xs:List Nat) (D k c b:Nat) (w0 wr:World):Prop:=
 ∃ ys,xaf g off zs k w0 wr ys/\val (seg ys off k)+D * val (xs.take k)=val (seg zs off k)+B32 ^ k * (c+b)
def kbs (g off n:Nat) (zs xs:List Nat) (D:Nat) (w:World) (e:Ending) (w':World):Prop:=
 ∃ (ys:List Nat) (b:Nat),b<=1/\e=.returned (.bool ((b:Int) != 0))/\xaf g off zs (n+1) w w' ys/\val (seg ys off (n+1))+D * val xs=val (seg zs off (n+1))+B32 ^ (n+1) * b
theorem kb6 (g off zc n xc D : Nat) (zs xs : List Nat) (X : Option Addr) (w : World) (hrow : Row w g zs) (hzd : qg zs) (hzl : off + n + 1 <= zs.length) (hzc : n + 1 <= zc) (hzc' : zc <= 35184372088832)
 (hx:qi w X xs) (hxn:xs.length=n) (hxa:∀ ad,X=some ad->ad.block ≠ g) (hxc:n<=xc) (_hxc':xc<=9223372036854775807) (hD:D < 4294967296) :
 Calls Tryz.prog 159 #[.slice (some ⟨g,off,none⟩) (n+1) zc,.slice X n xc,.int .u32 (D:Nat)] w (kbs g off n zs xs D w):=by
 have HINV:Hid (uba g off zs xs D 0 0 0 w w):=⟨zs,⟨hrow,rfl,hzd,rfl,rfl,Only.refl _ _⟩,by simp [seg]⟩;have HX:=Lib.hid hx;have HXN:=Lib.hid hxn;have HXA:=Lib.hid hxa;clear hx hxa hrow hzd hxn;go_enter Tryz.func159,Tryz.ntmps159;go_wp2_with fail
 go_loopw [7,8,17] (fun cv bv iv wr=>∃ k c b:Nat,k<=n/\iv=.int .i64 k/\cv=.int .u32 c/\bv=.int .u32 b/\c < 4294967296/\b<=1/\Hid (uba g off zs xs D k c b w wr)) (fun _ _ iv _=>n - (intOf iv).toNat)
 case atStart=>exact ⟨0,0,0,by omega,rfl,rfl,rfl,by omega,by omega,HINV⟩
 case round =>
  clear HINV;obtain ⟨k,c,b,hk,rfl,rfl,rfl,hc,hb,HI⟩:=hrel;obtain ⟨ys,hseg,hval⟩:=HI.out;obtain ⟨r,hrc,hrf,hr1,HR⟩:=hseg.get (by omega)
  by_cases hlt:k < n
  · obtain ⟨ad,y,rfl,hbk,hcell,hy1,HY⟩:=(HX.out.only hseg.2.2.2.2.2 HXA.out).get_ k (by have:=HXN.out; omega);have hp0:(0:Int)<=(y:Int) * D:=Int.mul_nonneg (by omega) (by omega);have hp1:(y:Int) * D<=4294967295 * 4294967295:=Int.mul_le_mul (by omega) (by omega) (by omega) (by omega);have HSEG:=Lib.hid hseg;have HVAL:=Lib.hid hval;clear HI hseg hval;go_wp2_with fail;refine (vbv _ _ _ (by omega) (by omega) (by omega) (by omega)).mono ?_;rintro e w2 ⟨rfl,rfl⟩;go_wp2_with fail;refine (add32 _ _ 0 _ (by omega) (by omega) (by omega) (by omega) (by omega) (by omega)).mono ?_;rintro e w2 ⟨rfl,rfl⟩;go_wp2_with fail;obtain ⟨p,hp⟩:∃ p:Nat,p=D * y:=⟨_,rfl⟩;have hpI:(y:Int) * D=(p:Int):=by rw [hp]; simp [Int.mul_comm]
    rw [hpI] at hp1 ⊢;obtain ⟨low,hlow⟩:∃ low:Nat,low=(p+c) % 4294967296:=⟨_,rfl⟩;obtain ⟨cc,hcc⟩:∃ cc:Nat,cc=(p+c) / 4294967296:=⟨_,rfl⟩;have e1:((p:Int)+c) % 4294967296=low:=by omega
    have e2:(p:Int) / 4294967296+((p:Int) % 4294967296+c) / 4294967296=cc:=by omega
    have hcc1:cc < 4294967296:=by omega
    have hl1:low < 4294967296:=by omega
    rw [e1,e2];have HPC:Hid (p+c=low+B32 * cc):=by
     have:p+c=low+B32 * cc:=by rw [jg]; omega
     exact this
    have HP:=Lib.hid hp;clear hlow hcc e1 e2 hpI hp0 hp1 hp;refine (qbt _ _ _ _ (by omega) (by omega) (by omega) (by omega) (by omega) (by omega)).mono ?_;rintro e w2 ⟨rfl,rfl⟩;obtain ⟨d,hd1⟩:=Int.eq_ofNat_of_zero_le (show 0<=((r:Int) - low - b) % 4294967296 by omega);obtain ⟨b',hb'⟩:=Int.eq_ofNat_of_zero_le (kas r low b).1;have hb2:=(kas r low b).2;rw [hb'] at hb2;have hdc:d+low+b=r+B32 * b':=by
     rw [jg];unfold bor at hb'
     split at hb' <;> omega
    have hdlt:d < B32:=by rw [jg]; omega
    rw [hd1,hb'];have HS:Hid (uba g off zs xs D (k+1) cc b' w (wr.setCell ⟨g,off+k,none⟩ (.int .u32 (d:Nat)))):=by
     obtain ⟨s1,s2⟩:=HSEG.out.set (d:=d) (by omega) hdlt;refine ⟨_,s1,?_⟩;rw [s2,vg HY,qat HR,Nat.pow_succ];exact zbz _ _ _ _ _ _ _ _ _ _ _ _ _ HVAL.out y HP.out HPC.out hdc
    clear hd1 hb' hdc HSEG HVAL HR;go_wp2_with fail
    go_roundw
    case rel=>exact ⟨k+1,cc,b',by omega,by go_num,rfl,rfl,hcc1,by omega,HS⟩
    case measure=>simp [intOf]; omega
  · obtain rfl:k=n:=by omega
    have HSEG:=Lib.hid hseg;have HVAL:=Lib.hid hval;clear HI hseg hval;go_wp2_with fail;refine (qbt _ _ _ _ (by omega) (by omega) (by omega) (by omega) (by omega) (by omega)).mono ?_;rintro e w2 ⟨rfl,rfl⟩;obtain ⟨d,hd1⟩:=Int.eq_ofNat_of_zero_le (show 0<=((r:Int) - c - b) % 4294967296 by omega);obtain ⟨b',hb'⟩:=Int.eq_ofNat_of_zero_le (kas r c b).1;have hb2:=(kas r c b).2;rw [hb'] at hb2;have hdc:d+c+b=r+B32 * b':=by
     rw [jg];unfold bor at hb'
     split at hb' <;> omega
    have hdlt:d < B32:=by rw [jg]; omega
    rw [hd1,hb'];have hbb:b'<=1:=by omega
    have HF:Hid (kbs g off k zs xs D w (.returned (.bool ((b':Int) != 0))) (wr.setCell ⟨g,off+k,none⟩ (.int .u32 (d:Nat)))):=by
     obtain ⟨s1,s2⟩:=HSEG.out.set (d:=d) (by omega) hdlt;refine ⟨_,b',hbb,rfl,s1,?_⟩;rw [s2,qat HR,Nat.pow_succ];have h3:=HVAL.out;rw [List.take_of_length_le (by have:=HXN.out; omega)] at h3;have e2:B32 ^ k * (d+c+b)=B32 ^ k * (r+B32 * b'):=by rw [hdc]
     rw [Nat.mul_add,Nat.mul_add,Nat.mul_add,<- Nat.mul_assoc] at e2;rw [Nat.mul_add] at h3;omega
    clear hd1 hb' hdc HSEG HVAL HR;go_wp2_with fail;go_ret;exact HF.out
theorem kbd (Sy Sz P c d r y c' X:Nat) (h:Sy+P * c=Sz+X) (h1:r+y+c=d+B32 * c'):(Sy+P * d)+P * B32 * c'=(Sz+P * r)+(X+P * y):=by
 have e2:P * (r+y+c)=P * (d+B32 * c'):=by rw [h1]
 rw [Nat.mul_add,Nat.mul_add,Nat.mul_add,<- Nat.mul_assoc] at e2;omega
def wba (g off:Nat) (zs xs:List Nat) (k c:Nat) (w0 wr:World):Prop:=
 ∃ ys,xaf g off zs k w0 wr ys/\val (seg ys off k)+B32 ^ k * c=val (seg zs off k)+val (xs.take k)
def ubs (g off n:Nat) (zs xs:List Nat) (w:World) (e:Ending) (w':World):Prop:=
 ∃ (ys:List Nat) (c:Nat),e=.returned (.tuple #[])/\xaf g off zs (n+1) w w' ys/\val (seg ys off (n+1))+B32 ^ (n+1) * c=val (seg zs off (n+1))+val xs
theorem vcd (g off zc n xc : Nat) (zs xs : List Nat) (X : Option Addr) (w : World) (hrow : Row w g zs) (hzd : qg zs) (hzl : off + n + 1 <= zs.length) (hzc : n + 1 <= zc) (hzc' : zc <= 35184372088832)
 (hx:qi w X xs) (hxn:xs.length=n) (hxa:∀ ad,X=some ad->ad.block ≠ g) (hxc:n<=xc) (_hxc':xc<=9223372036854775807) :
 Calls Tryz.prog 160 #[.slice (some ⟨g,off,none⟩) (n+1) zc,.slice X n xc] w (ubs g off n zs xs w):=by
 have HINV:Hid (wba g off zs xs 0 0 w w):=⟨zs,⟨hrow,rfl,hzd,rfl,rfl,Only.refl _ _⟩,by simp [seg]⟩;have HX:=Lib.hid hx;have HXN:=Lib.hid hxn;have HXA:=Lib.hid hxa;clear hx hxa hrow hzd hxn;go_enter Tryz.func160,Tryz.ntmps160;go_wp2_with fail
 go_loopw [4,9] (fun cv iv wr=>∃ k c:Nat,k<=n/\iv=.int .i64 k/\cv=.int .u32 c/\c<=1/\Hid (wba g off zs xs k c w wr)) (fun _ iv _=>n - (intOf iv).toNat)
 case atStart=>exact ⟨0,0,by omega,rfl,rfl,by omega,HINV⟩
 case round =>
  clear HINV;obtain ⟨k,c,hk,rfl,rfl,hc,HI⟩:=hrel;obtain ⟨ys,hseg,hval⟩:=HI.out;obtain ⟨r,hrc,hrf,hr1,HR⟩:=hseg.get (by omega)
  by_cases hlt:k < n
  · obtain ⟨ad,y,rfl,hbk,hcell,hy1,HY⟩:=(HX.out.only hseg.2.2.2.2.2 HXA.out).get_ k (by have:=HXN.out; omega);have HS:Hid (wba g off zs xs (k+1) ((r+y+c) / B32) w (wr.setCell ⟨g,off+k,none⟩ (.int .u32 (((r+y+c) % B32:Nat):Int)))):=by
     obtain ⟨s1,s2⟩:=hseg.set (d:=(r+y+c) % B32) (by omega) (Nat.mod_lt _ zi);refine ⟨_,s1,?_⟩;rw [s2,vg HY,qat HR,Nat.pow_succ];exact kbd _ _ _ _ _ _ _ _ _ hval (Nat.mod_add_div _ _).symm
    clear HI hseg hval;go_wp2_with fail;refine (add32 _ _ _ _ (by omega) (by omega) (by omega) (by omega) (by omega) (by omega)).mono ?_;rintro e w2 ⟨rfl,rfl⟩;go_wp2_with fail
    go_roundw
    case rel =>
     refine ⟨k+1,(r+y+c) / B32,by omega,by go_num,by rw [jg]; congr 1,by rw [jg]; omega,?_⟩;rw [show (((r:Int)+y+c) % 4294967296)=(((r+y+c) % B32:Nat):Int) from by rw [jg]; omega];exact HS
    case measure=>simp [intOf]; omega
  · obtain rfl:k=n:=by omega
    have HF:Hid (ubs g off k zs xs w (.returned (.tuple #[])) (wr.setCell ⟨g,off+k,none⟩ (.int .u32 (((r+c) % B32:Nat):Int)))):=by
     obtain ⟨s1,s2⟩:=hseg.set (d:=(r+c) % B32) (by omega) (Nat.mod_lt _ zi);refine ⟨_,(r+c) / B32,rfl,s1,?_⟩;rw [s2,qat HR,Nat.pow_succ];have h3:=hval;rw [List.take_of_length_le (by have:=HXN.out; omega)] at h3;have:=kbd _ _ _ _ _ _ 0 _ _ h3 (Nat.mod_add_div (r+0+c) _).symm;simpa using this
    clear HI hseg hval;go_wp2_with fail
    go_end0
    rw [show (((r:Int)+c) % 4294967296)=(((r+c) % B32:Nat):Int) from by rw [jg]; omega];exact HF.out
end Go.Proofs.YtklnlgnnlmdibaaGreat
