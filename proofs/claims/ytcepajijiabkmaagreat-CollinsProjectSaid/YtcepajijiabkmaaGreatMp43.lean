/- Layer 3 (division): long division. -/
import Derived.Test.YtcepajijiabkmaaGreatMp41
import Derived.Test.YtcepajijiabkmaaGreatMp42
set_option linter.unusedSimpArgs false
set_option linter.unusedVariables false
set_option maxRecDepth 100000
set_option maxHeartbeats 8000000
namespace Go.Proofs.YtcepajijiabkmaaGreat
open Lib (hid)
open Go.RowKit
def kbs (q r:Nat) (w:World) (e:Ending) (w':World):Prop:=∃ vq vr,e=.returned (.tuple #[vq,vr])/\jc w' vq (dg q)/\jc w' vr (dg r)/\Ext w w'
theorem yb0 (u v:Value) (ds es:List Nat) (w:World) (h:jc w u ds) (k:jc w v es) (hs:ds.length<=17592186044416) (BM:es.length<=17592186044416) (af:val ds < val es) :
 Calls Tryz.prog 116 #[u,v] w (kbs (val ds / val es) (val ds % val es) w):=by
 have H:=hid h;have K:=hid k;have kJ:=hid af;clear h k af;go_enter Tryz.func116,Tryz.ntmps116;go_wp2_with fail
 go_step3
 go_wp2_with fail;refine (jab _ _ _ K.out (by omega)).mono ?_;rintro e w1 ⟨v1,rfl,bD,x1⟩;go_wp2_with fail;refine (xaq _ _ _ _ _ (H.out.ext x1) bD).mono ?_;rw [qg,yag (by have:=kJ.out; omega)];rintro e w2 ⟨rfl,n2,yH⟩;have x2:Ext w w2:=by rw [yH]; exact x1.drewN n2
 have X2:=hid x2;clear yH bD x1 x2;go_wp2_with fail;refine (jab _ _ _ (H.out.ext X2.out) (by omega)).mono ?_;rintro e w3 ⟨v3,rfl,GH,x3⟩;have HV3:=hid GH;have X3:=hid x3;clear GH x3;go_wp2_with fail;rw [Exit.noGoto_ret]
 go_ret2
 refine ⟨_,_,rfl,?_,?_,X2.out.trans X3.out⟩
 · rw [Pk kJ.out,qm]; exact jc.nil _
 · rw [Sa kJ.out]; exact HV3.out
theorem vcg (u v:Value) (ds es:List Nat) (w:World) (h:jc w u ds) (k:jc w v es) (hs:ds.length<=17592186044416) (BM:es.length<=17592186044416) (oJ:val es<=val ds) (h0:val es ≠ 0) (jZ:val es < B32) :
 Calls Tryz.prog 116 #[u,v] w (kbs (val ds / val es) (val ds % val es) w):=by
 have H:=hid h;have K:=hid k;have oh:=hid oJ;have H0:=hid h0;have Ae:=hid jZ;clear h k oJ h0 jZ;go_enter Tryz.func116,Tryz.ntmps116;go_wp2_with fail
 go_step3
 go_wp2_with fail;refine (jab _ _ _ K.out (by omega)).mono ?_;rintro e w1 ⟨v1,rfl,bD,x1⟩;go_wp2_with fail;refine (xaq _ _ _ _ _ (H.out.ext x1) bD).mono ?_;rw [qg];have gU:0<=jh (val ds) (val es):=by have:=oh.out; unfold jh; split <;> (try split) <;> omega
 have FI:=(zak (val ds) (val es)).2;generalize jh (val ds) (val es)=cm at *;rintro e w2 ⟨rfl,n2,yH⟩;have y2:Ext w1 w2:=by rw [yH]; exact (Ext.refl w1).drewN n2
 have X2:=hid (x1.trans y2);have uQ:=bD.ext y2;rw [va3 H0.out Ae.out] at uQ;clear yH bD x1 y2;obtain ⟨A,c,rfl,q1,q2,q3⟩:=uQ;obtain ⟨ad,rfl,hb,aj,eH⟩:=q3.at_ 0 (by simp);rw [show ad.add 0=ad from by simp [Addr.add]] at aj
 change w2.cell? ad=some (.int .u32 (val es:Nat)) at aj
 change val es < 4294967296 at eH
 clear q3;go_wp2_with fail;refine (xb0 _ _ _ _ (H.out.ext X2.out) (by omega) (Nat.pos_of_ne_zero H0.out) eH).mono ?_;rintro e w3 ⟨v3,rfl,GH,-,x3⟩;have HV3:=hid GH;have X3:=hid x3;have hm:val ds % val es < 4294967296:=Nat.lt_trans (te _ (Nat.pos_of_ne_zero H0.out)) eH;clear GH x3;generalize val ds % val es=M at *;go_wp2_with fail;refine (xax _ _ (by omega)).mono ?_;rintro e w4 ⟨v4,rfl,uP,x4⟩;have HV4:=hid uP;have X4:=hid x4;clear uP x4;go_wp2_with fail;rw [Exit.noGoto_ret]
 go_ret2
 exact ⟨_,_,rfl,HV3.out.ext X4.out,HV4.out,X2.out.trans (X3.out.trans X4.out)⟩
theorem vcr {zs:List Nat} {m a b c:Nat} (h:zs.length=m+3) (ha:zs[m]?=some a) (hb:zs[m+1]?=some b) (hc:zs[m+2]?=some c) :
 val zs=(c * B32 * B32+b * B32+a) * B32 ^ m+val (zs.take m):=by
 have e1:=yh (E:=zs) (k:=m) (x:=a) ha;have e2:=yh (E:=zs) (k:=m+1) (x:=b) hb;have e3:=yh (E:=zs) (k:=m+2) (x:=c) hc;rw [pT (by omega)] at e3;rw [e3,e2,e1,show B32 ^ (m+2)=B32 ^ m * B32 * B32 from by rw [se,se],se];generalize B32 ^ m=P;generalize B32=B;rw [rN,rN,show c * B * B * P=P * B * B * c from by ac_rfl,show b * B * P=P * B * b from by rw [sj (P * B) b,sj P B,rT],sj a P];omega
theorem ucr {zs:List Nat} {m a b:Nat} (h:zs.length=m+2) (ha:zs[m]?=some a) (hb:zs[m+1]?=some b) :
 val zs=(b * B32+a) * B32 ^ m+val (zs.take m):=by
 have e1:=yh (E:=zs) (k:=m) (x:=a) ha;have e2:=yh (E:=zs) (k:=m+1) (x:=b) hb;rw [pT (by omega)] at e2;rw [e2,e1,se];generalize B32 ^ m=P;generalize B32=B;rw [rN,sj P B,show b * B * P=B * P * b from by rw [sj (B * P) b,rT],sj a P];omega
theorem yb6 {us vs : List Nat} {j m u2 u1 u0 v1 v2 : Nat} (hd : vg us) (Qw : vg vs) (Qv : vs.length = m + 2) (qR : j + m + 3 <= us.length) (af : val (us.drop (j + 1)) < val vs)
 (a2:us[j+(m+2)]?=some u2) (a1:us[j+(m+1)]?=some u1) (a0:us[j+m]?=some u0) (b1:vs[m+1]?=some v1) (b2:vs[m]?=some v2) (hn:2147483648 * B32 ^ (m+1)<=val vs) :
 val (us.drop j) < val vs * B32/\val (seg us j (m+3))=val (us.drop j)/\val (us.drop (j+(m+3)))=0/\u2<=v1/\2147483648<=v1 /\
  val (us.drop j) / val vs<=xai B32 (u2 * B32 * B32+u1 * B32+u0) (v1 * B32+v2)/\xai B32 (u2 * B32 * B32+u1 * B32+u0) (v1 * B32+v2)<=val (us.drop j) / val vs+1:=by
 have hB:=yj;have hj:j < us.length:=by omega
 have hP:val (us.drop j) < val vs * B32:=by
  rw [r9 hj,val_cons];have h1:us[j] < B32:=hd _ (pt hj);have h2:B32 * (val (us.drop (j+1))+1)<=B32 * val vs:=sE _ af;rw [ri,ua] at h2;rw [sj (val vs)];omega
 have hV:=jy Qw;rw [Qv] at hV;have hPB:val (us.drop j) < B32 ^ (m+3):=by
  refine pw hP ?_;rw [se B32 (m+2)];exact pE _ (Sf hV)
 have uT:=jk (us.drop j) (m+3) (by rw [re]; omega);rw [tM] at uT;have hzero:val (us.drop (j+(m+3)))=0:=by
  rcases tR (val (us.drop (j+(m+3)))) with e | e
  · exact e
  · have:=sE (B32 ^ (m+3)) e;rw [ua] at this;omega
 rw [hzero,wy,s8] at uT;have fA:val (seg us j (m+3))=val (us.drop j):=uT.symm;have sl:(seg us j (m+3)).length=m+3:=by unfold seg; rw [pA,re]; omega
 have sd:vg (seg us j (m+3)):=(hd.drop _).take _;have g:∀ i,i < m+3->(seg us j (m+3))[i]?=us[j+i]?:=fun i hi=>by
  unfold seg; rw [List.getElem?_take_of_lt hi,tS]
 have t3:=vcr sl (by rw [g _ (by omega)]; exact a0) (by rw [g _ (by omega)]; exact a1) (by rw [g _ (by omega)]; exact a2);have t2:=ucr Qv b2 b1;have r3:=jy (sd.take m);have r2:=jy (Qw.take m);rw [pA,sh (by omega)] at r3 r2;have aie:v2 < B32:=Qw _ (td b2);have aik:u0 < B32:=hd _ (td a0);have aij:u1 < B32:=hd _ (td a1);have UK:0 < B32 ^ m:=tp hB;have bD:2147483648<=v1:=by
  rcases tG v1 2147483648 with h | h
  · exfalso
    have h1:val vs < 2147483648 * B32 ^ (m+1):=by
     rw [t2,se];have h2:v1 * B32+v2+1<=2147483648 * B32:=by
      have:(v1+1) * B32<=2147483648 * B32:=pE _ h;rw [rN,tr] at this;omega
     have h3:=pE (B32 ^ m) h2;rw [rN,tr] at h3;rw [sj (B32 ^ m) B32,<- rT];omega
    omega
  · exact h
 rw [fA] at t3;refine ⟨hP,fA,hzero,?_,bD,kcg hB UK t3 r3 t2 r2 ?_ hP⟩
 · rcases tG v1 u2 with h | h
   · exfalso
     have h1:(v1 * B32+v2+1) * B32<=u2 * B32 * B32+u1 * B32+u0:=by
      have h2:v1 * B32+v2+1<=u2 * B32:=by
       have:(v1+1) * B32<=u2 * B32:=pE _ h;rw [rN,tr] at this;omega
      have:=pE B32 h2;omega
     have h3:=pE (B32 ^ m) h1;have h4:val vs < (v1 * B32+v2+1) * B32 ^ m:=by rw [t2,rN (v1 * B32+v2) 1 (B32 ^ m),tr]; omega
     have h5:=Pd h4 hB;rw [Nat.mul_right_comm] at h5;omega
   · exact h
 · have:=pE B32 (show 1<=v1 by omega);omega
def jc2 (U V:Nat) (us qs:List Nat) (k:Nat):Prop:=U=val us+V * (B32 ^ k * val (qs.drop k))/\val (us.drop k) < V
theorem jbi {U V : Nat} {us ys qs : List Nat} {j n q : Nat} (h : jc2 U V us qs (j + 1)) (hV : 0 < V) (qR : j < us.length) (hl : ys.length = us.length) (hq : j < qs.length)
 (eu:ys.take j=us.take j) (hdr:ys.drop (j+n)=us.drop (j+n)) (hz:val (us.drop (j+n))=0) (hn:j+n<=us.length) (fA:val (seg ys j n)=val (us.drop j) % V) (hqv:q=val (us.drop j) / V) :
 jc2 U V ys (qs.set j q) j:=by
 obtain ⟨h1,h2⟩:=h;have e1:=jk us j (by omega);have e2:=jk ys j (by omega);have e3:=jk (ys.drop j) n (by rw [re]; omega);rw [tM,hdr,hz,wy,s8] at e3;have e4:val (ys.drop j)=val (us.drop j) % V:=by rw [e3]; exact fA
 refine ⟨?_,by rw [e4]; exact te _ hV⟩;rw [RL,if_neg (by omega),Ps,r9 hq,uv,val_cons,h1,e2,e4,eu,e1,hqv];generalize val (us.drop j)=P;generalize val (qs.drop (j+1))=Q;have e5:=tw P V;have e6:B32 ^ j * P=B32 ^ j * (P % V)+V * (B32 ^ j * (P / V)):=by
  have:B32 ^ j * (P % V+V * (P / V))=B32 ^ j * P:=by rw [e5]
  rw [ri,Pa] at this;omega
 rw [se,ri,ri,e6,rT];omega
theorem ucs {P V S qh D:Nat} (hV:0 < V) (h:S+qh * V=P+D * 0) (h1:P / V<=qh):qh=P / V/\S=P % V:=by
 have h2:qh<=P / V:=(Rs hV).2 (by omega);have h3:qh=P / V:=by omega
 refine ⟨h3,?_⟩;have h4:=tw P V;rw [h3,sj] at h;omega
theorem vcs {P V S qh D S2 c:Nat} (hV:0 < V) (hVD:V<=D) (hS:S < D) (hS2:S2 < D) (h:S+qh * V=P+D * 1) (h2:qh<=P / V+1) (hc:S2+D * c=S+V):qh - 1=P / V/\0 < qh/\S2=P % V:=by
 have h4:=tw P V;have h5:=te P hV;generalize P / V=Q at *;generalize P % V=R at *;have h6:Q < qh:=by
  rcases tG Q qh with h7 | h7
  · exact h7
  · have h8:=pE V h7;rw [sj Q] at h8;omega
 have h7:qh=Q+1:=by omega
 refine ⟨by omega,by omega,?_⟩;rw [h7,rN,tr,sj Q] at h;have h8:S2+D * c=R+D:=by omega
 rcases c with _ | _ | c
 · omega
 · omega
 · exfalso
   have:D * (c+1+1)=D * c+D+D:=by rw [ri,ri,ua]
   omega
end Go.Proofs.YtcepajijiabkmaaGreat
