/- Layer 3 (division): long division. -/
import Derived.Test.YtcepajijiabkmaaGreatMo36
import Derived.Test.YtcepajijiabkmaaGreatMo37
set_option linter.all false
set_option maxRecDepth 100000
set_option maxHeartbeats 8000000
namespace Go.Proofs.YtcepajijiabkmaaGreat
open Lib (hid)
open Go.RowKit
def ubv (q r:Nat) (w:World) (e:Ending) (w':World):Prop:=∃ vq vr,e=.returned (.tuple #[vq,vr])/\jc w' vq (dg q)/\jc w' vr (dg r)/\Ext w w'
theorem jb5 (u v:Value) (ds es:List Nat) (w:World) (h:jc w u ds) (k:jc w v es) (hs:ds.length<=17592186044416) (yJ:es.length<=17592186044416) (af:val ds < val es) :
 Calls Tryz.prog 116 #[u,v] w (ubv (val ds / val es) (val ds % val es) w):=by
 have H:=hid h;have K:=hid k;have kG:=hid af;clear h k af;go_enter Tryz.func116,pbg;go_wp2_with fail
 go_step3
 go_wp2_with fail;refine (jac _ _ _ K.out (by omega)).mono ?_;rintro e w1 ⟨v1,rfl,bD,x1⟩;go_wp2_with fail;refine (jar _ _ _ _ _ (H.out.ext x1) bD).mono ?_;rw [jg,jah (by have:=kG.out; omega)];rintro e w2 ⟨rfl,n2,yD⟩;have x2:Ext w w2:=by rw [yD]; exact x1.drewN n2
 have X2:=hid x2;clear yD bD x1 x2;go_wp2_with fail;refine (jac _ _ _ (H.out.ext X2.out) (by omega)).mono ?_;rintro e w3 ⟨v3,rfl,GV,x3⟩;have HV3:=hid GV;have X3:=hid x3;clear GV x3;go_wp2_with fail;rw [WK]
 go_ret2
 refine ⟨_,_,rfl,?_,?_,X2.out.trans X3.out⟩
 · rw [Ps kG.out,zo]; exact jc.nil _
 · rw [Sf kG.out]; exact HV3.out
theorem qcl (u v:Value) (ds es:List Nat) (w:World) (h:jc w u ds) (k:jc w v es) (hs:ds.length<=17592186044416) (yJ:es.length<=17592186044416) (oL:val es<=val ds) (h0:val es ≠ 0) (jV:val es < B32) :
 Calls Tryz.prog 116 #[u,v] w (ubv (val ds / val es) (val ds % val es) w):=by
 have H:=hid h;have K:=hid k;have ou:=hid oL;have H0:=hid h0;have zY:=hid jV;clear h k oL h0 jV;go_enter Tryz.func116,pbg;go_wp2_with fail
 go_step3
 go_wp2_with fail;refine (jac _ _ _ K.out (by omega)).mono ?_;rintro e w1 ⟨v1,rfl,bD,x1⟩;go_wp2_with fail;refine (jar _ _ _ _ _ (H.out.ext x1) bD).mono ?_;rw [jg];have gY:0<=uh (val ds) (val es):=by have:=ou.out; unfold uh; split <;> (try split) <;> omega
 have FP:=(xal (val ds) (val es)).2;generalize uh (val ds) (val es)=cm at *;rintro e w2 ⟨rfl,n2,yD⟩;have y2:Ext w1 w2:=by rw [yD]; exact (Ext.refl w1).drewN n2
 have X2:=hid (x1.trans y2);have uQ:=bD.ext y2;rw [ja5 H0.out zY.out] at uQ;clear yD bD x1 y2;obtain ⟨A,c,rfl,q1,q2,q3⟩:=uQ;obtain ⟨ad,rfl,hb,aj,eH⟩:=q3.at_ 0 (by simp);rw [show ad.add 0=ad from by simp [Addr.add]] at aj
 change w2.cell? ad=some (.int .u32 (val es:Nat)) at aj
 change val es < 4294967296 at eH
 clear q3;go_wp2_with fail;refine (kb5 _ _ _ _ (H.out.ext X2.out) (by omega) (TH H0.out) eH).mono ?_;rintro e w3 ⟨v3,rfl,GV,-,x3⟩;have HV3:=hid GV;have X3:=hid x3;have hm:val ds % val es < 4294967296:=Nat.lt_trans (tg _ (TH H0.out)) eH;clear GV x3;generalize val ds % val es=M at *;go_wp2_with fail;refine (uay _ _ (by omega)).mono ?_;rintro e w4 ⟨v4,rfl,uP,x4⟩;have HV4:=hid uP;have X4:=hid x4;clear uP x4;go_wp2_with fail;rw [WK]
 go_ret2
 exact ⟨_,_,rfl,HV3.out.ext X4.out,HV4.out,X2.out.trans (X3.out.trans X4.out)⟩
theorem wcw {zs:List Nat} {m a b c:Nat} (h:zs.length=m+3) (ha:zs[m]?=some a) (hb:zs[m+1]?=some b) (hc:zs[m+2]?=some c) :
 val zs=(c * B32 * B32+b * B32+a) * B32 ^ m+val (zs.take m):=by
 have e1:=xh (E:=zs) (k:=m) (x:=a) ha;have e2:=xh (E:=zs) (k:=m+1) (x:=b) hb;have e3:=xh (E:=zs) (k:=m+2) (x:=c) hc;rw [p8 (by omega)] at e3;rw [e3,e2,e1,show B32 ^ (m+2)=B32 ^ m * B32 * B32 from by rw [si,si],si];generalize B32 ^ m=P;generalize B32=B;rw [r5,r5,show c * B * B * P=P * B * B * c from by ac_rfl,show b * B * P=P * B * b from by rw [sj (P * B) b,sj P B,r9],sj a P];omega
theorem zcx {zs:List Nat} {m a b:Nat} (h:zs.length=m+2) (ha:zs[m]?=some a) (hb:zs[m+1]?=some b) :
 val zs=(b * B32+a) * B32 ^ m+val (zs.take m):=by
 have e1:=xh (E:=zs) (k:=m) (x:=a) ha;have e2:=xh (E:=zs) (k:=m+1) (x:=b) hb;rw [p8 (by omega)] at e2;rw [e2,e1,si];generalize B32 ^ m=P;generalize B32=B;rw [r5,sj P B,show b * B * P=B * P * b from by rw [sj (B * P) b,r9],sj a P];omega
theorem xca {us vs : List Nat} {j m u2 u1 u0 v1 v2 : Nat} (hd : ug us) (Qx : ug vs) (Qw : vs.length = m + 2) (qQ : j + m + 3 <= us.length) (af : val (us.drop (j + 1)) < val vs)
 (a2:us[j+(m+2)]?=some u2) (a1:us[j+(m+1)]?=some u1) (a0:us[j+m]?=some u0) (b1:vs[m+1]?=some v1) (b2:vs[m]?=some v2) (hn:2147483648 * B32 ^ (m+1)<=val vs) :
 val (us.drop j) < val vs * B32/\val (seg us j (m+3))=val (us.drop j)/\val (us.drop (j+(m+3)))=0/\u2<=v1/\2147483648<=v1 /\
  val (us.drop j) / val vs<=jaj B32 (u2 * B32 * B32+u1 * B32+u0) (v1 * B32+v2)/\jaj B32 (u2 * B32 * B32+u1 * B32+u0) (v1 * B32+v2)<=val (us.drop j) / val vs+1:=by
 have hB:=yj;have hj:j < us.length:=by omega
 have hP:val (us.drop j) < val vs * B32:=by
  rw [sh hj,val_cons];have h1:us[j] < B32:=hd _ (pt hj);have h2:B32 * (val (us.drop (j+1))+1)<=B32 * val vs:=sL _ af;rw [rk,ur] at h2;rw [sj (val vs)];omega
 have hV:=wz Qx;rw [Qw] at hV;have hPB:val (us.drop j) < B32 ^ (m+3):=by
  refine px hP ?_;rw [si B32 (m+2)];exact pE _ (Sq hV)
 have eG:=jk (us.drop j) (m+3) (by rw [re]; omega);rw [tQ] at eG;have hzero:val (us.drop (j+(m+3)))=0:=by
  rcases tU (val (us.drop (j+(m+3)))) with e | e
  · exact e
  · have:=sL (B32 ^ (m+3)) e;rw [ur] at this;omega
 rw [hzero,wy,s9] at eG;have fB:val (seg us j (m+3))=val (us.drop j):=eG.symm;have sl:(seg us j (m+3)).length=m+3:=by unfold seg; rw [pA,re]; omega
 have sd:ug (seg us j (m+3)):=(hd.drop _).take _;have g:∀ i,i < m+3->(seg us j (m+3))[i]?=us[j+i]?:=fun i hi=>by
  unfold seg; rw [List.getElem?_take_of_lt hi,tW]
 have t3:=wcw sl (by rw [g _ (by omega)]; exact a0) (by rw [g _ (by omega)]; exact a1) (by rw [g _ (by omega)]; exact a2);have t2:=zcx Qw b2 b1;have r3:=wz (sd.take m);have r2:=wz (Qx.take m);rw [pA,so (by omega)] at r3 r2;have ail:v2 < B32:=Qx _ (te b2);have air:u0 < B32:=hd _ (te a0);have aiq:u1 < B32:=hd _ (te a1);have UL:0 < B32 ^ m:=tp hB;have bD:2147483648<=v1:=by
  rcases tM v1 2147483648 with h | h
  · exfalso
    have h1:val vs < 2147483648 * B32 ^ (m+1):=by
     rw [t2,si];have h2:v1 * B32+v2+1<=2147483648 * B32:=by
      have:(v1+1) * B32<=2147483648 * B32:=pE _ h;rw [r5,tr] at this;omega
     have h3:=pE (B32 ^ m) h2;rw [r5,tr] at h3;rw [sj (B32 ^ m) B32,<- r9];omega
    omega
  · exact h
 rw [fB] at t3;refine ⟨hP,fB,hzero,?_,bD,ycl hB UL t3 r3 t2 r2 ?_ hP⟩
 · rcases tM v1 u2 with h | h
   · exfalso
     have h1:(v1 * B32+v2+1) * B32<=u2 * B32 * B32+u1 * B32+u0:=by
      have h2:v1 * B32+v2+1<=u2 * B32:=by
       have:(v1+1) * B32<=u2 * B32:=pE _ h;rw [r5,tr] at this;omega
      have:=pE B32 h2;omega
     have h3:=pE (B32 ^ m) h1;have h4:val vs < (v1 * B32+v2+1) * B32 ^ m:=by rw [t2,r5 (v1 * B32+v2) 1 (B32 ^ m),tr]; omega
     have h5:=Pk h4 hB;rw [Nat.mul_right_comm] at h5;omega
   · exact h
 · have:=pE B32 (show 1<=v1 by omega);omega
def jc8 (U V:Nat) (us qs:List Nat) (k:Nat):Prop:=U=val us+V * (B32 ^ k * val (qs.drop k))/\val (us.drop k) < V
theorem ubl {U V : Nat} {us ys qs : List Nat} {j n q : Nat} (h : jc8 U V us qs (j + 1)) (hV : 0 < V) (qQ : j < us.length) (hl : ys.length = us.length) (hq : j < qs.length)
 (ed:ys.take j=us.take j) (hdr:ys.drop (j+n)=us.drop (j+n)) (hz:val (us.drop (j+n))=0) (hn:j+n<=us.length) (fB:val (seg ys j n)=val (us.drop j) % V) (hqv:q=val (us.drop j) / V) :
 jc8 U V ys (qs.set j q) j:=by
 obtain ⟨h1,h2⟩:=h;have e1:=jk us j (by omega);have e2:=jk ys j (by omega);have e3:=jk (ys.drop j) n (by rw [re]; omega);rw [tQ,hdr,hz,wy,s9] at e3;have e4:val (ys.drop j)=val (us.drop j) % V:=by rw [e3]; exact fB
 refine ⟨?_,by rw [e4]; exact tg _ hV⟩;rw [RW,if_neg (by omega),Pw,sh hq,uW,val_cons,h1,e2,e4,ed,e1,hqv];generalize val (us.drop j)=P;generalize val (qs.drop (j+1))=Q;have e5:=tw P V;have e6:B32 ^ j * P=B32 ^ j * (P % V)+V * (B32 ^ j * (P / V)):=by
  have:B32 ^ j * (P % V+V * (P / V))=B32 ^ j * P:=by rw [e5]
  rw [rk,Pc] at this;omega
 rw [si,rk,rk,e6,r9];omega
theorem zcy {P V S qh D:Nat} (hV:0 < V) (h:S+qh * V=P+D * 0) (h1:P / V<=qh):qh=P / V/\S=P % V:=by
 have h2:qh<=P / V:=(RL hV).2 (by omega);have h3:qh=P / V:=by omega
 refine ⟨h3,?_⟩;have h4:=tw P V;rw [h3,sj] at h;omega
theorem wcx {P V S qh D S2 c:Nat} (hV:0 < V) (hVD:V<=D) (hS:S < D) (hS2:S2 < D) (h:S+qh * V=P+D * 1) (h2:qh<=P / V+1) (hc:S2+D * c=S+V):qh - 1=P / V/\0 < qh/\S2=P % V:=by
 have h4:=tw P V;have h5:=tg P hV;generalize P / V=Q at *;generalize P % V=R at *;have h6:Q < qh:=by
  rcases tM Q qh with h7 | h7
  · exact h7
  · have h8:=pE V h7;rw [sj Q] at h8;omega
 have h7:qh=Q+1:=by omega
 refine ⟨by omega,by omega,?_⟩;rw [h7,r5,tr,sj Q] at h;have h8:S2+D * c=R+D:=by omega
 rcases c with _ | _ | c
 · omega
 · omega
 · exfalso
   have:D * (c+1+1)=D * c+D+D:=by rw [rk,rk,ur]
   omega
theorem jcp {V s m t:Nat} (hl:(dg V).length=m+2) (ht:(dg V)[m+1]?=some t) (h1:2147483648<=t * 2 ^ s) (h2:t * 2 ^ s < 4294967296) (hs:s < 32) :
 2147483648 * B32 ^ (m+1)<=V * 2 ^ s/\(dg (V * 2 ^ s)).length=m+2:=by
 have hB:=yj;have e:=xh (E:=dg V) (k:=m+1) (x:=t) ht;rw [p8 (by omega),jg] at e;have af:=wz ((kan V).take (m+1));rw [pA,so (by omega)] at af;have g1:2147483648 * B32 ^ (m+1)<=V * 2 ^ s:=by
  have h3:=pE (B32 ^ (m+1)) h1;rw [e,r5,r9 (B32 ^ (m+1)),sj (B32 ^ (m+1)) (t * 2 ^ s)];omega
 refine ⟨g1,?_⟩;have g2:V * 2 ^ s < B32 ^ (m+2):=by
  have hq:(t+1) * 2 ^ s<=B32:=by
   obtain ⟨q,hq⟩:∃ q,B32=q * 2 ^ s:=⟨2 ^ (32 - s),by rw [<- wT,show 32 - s+s=32 from by omega]; rfl⟩;rw [hq];have h4:t * 2 ^ s < q * 2 ^ s:=by rw [<- hq]; exact h2
   exact pE _ (R8 h4)
  have h5:V * 2 ^ s < (t+1) * B32 ^ (m+1) * 2 ^ s:=Pk (by rw [e,r5,tr,sj t]; omega) (tp (by omega));have h6:=pE (B32 ^ (m+1)) hq;rw [si,sj (B32 ^ (m+1))];rw [Nat.mul_right_comm] at h5;omega
 have g3:=yf g2;rcases tM (dg (V * 2 ^ s)).length (m+2) with h | h
 · exfalso
   have h7:=yaf (V * 2 ^ s);have h8:B32 ^ (dg (V * 2 ^ s)).length<=B32 ^ (m+1):=r8 hB (by omega);have h9:B32 ^ (m+1)<=2147483648 * B32 ^ (m+1):=SM _ (by omega);omega
 · omega
def vbb (w0:World) (gu gq La nq:Nat) (A:Option Addr) (vs:List Nat) (U k:Nat) (wr:World):Prop:=
 ∃ us qs:List Nat,Row wr gu us/\us.length=La+1/\ug us/\Row wr gq qs/\qs.length=nq/\ug qs/\jc8 U (val vs) us qs k/\uj wr A vs/\Ext w0 wr
theorem qcb (u v:Value) (ds es:List Nat) (w:World) (h:jc w u ds) (k:jc w v es) (hs:ds.length<=17592186044416) (yJ:es.length<=17592186044416) (oL:val es<=val ds) (zC:2<=(dg (val es)).length) :
 Calls Tryz.prog 116 #[u,v] w (ubv (val ds / val es) (val ds % val es) w):=by
 have H:=hid h;have K:=hid k;have ou:=hid oL;have hla:(dg (val ds)).length<=ds.length:=zi h.kr;have ru:(dg (val es)).length<=es.length:=zi k.kr;have kF:(dg (val es)).length<=(dg (val ds)).length:=wu oL;clear h k oL;obtain ⟨m,hm⟩:∃ m,(dg (val es)).length=m+2:=⟨(dg (val es)).length - 2,by omega⟩;have HM:=hid hm;rw [hm] at ru kF zC;clear hm;obtain ⟨La,UI⟩:=n_m ((dg (val ds)).length);have VS:=hid UI;rw [UI] at hla kF;clear UI;go_enter Tryz.func116,pbg;go_wp2_with fail
 go_step3
 go_wp2_with fail;refine (jac _ _ _ K.out (by omega)).mono ?_;rintro e w1 ⟨v1,rfl,bD,x1⟩;go_wp2_with fail;refine (jar _ _ _ _ _ (H.out.ext x1) bD).mono ?_;rw [jg];have gY:0<=uh (val ds) (val es):=by have:=ou.out; unfold uh; split <;> (try split) <;> omega
 have FP:=(xal (val ds) (val es)).2;generalize uh (val ds) (val es)=cm at *;rintro e w2 ⟨rfl,n2,yD⟩;have y2:Ext w1 w2:=by rw [yD]; exact (Ext.refl w1).drewN n2
 have X2:=hid (x1.trans y2);have uQ:=bD.ext y2;clear yD bD x1 y2;obtain ⟨A,c,rfl,q1,q2,q3⟩:=uQ;rw [HM.out] at q1 ⊢;obtain ⟨ad,t,rfl,hb,aj,ht1,HT⟩:=q3.xS (m+1) (by have:=HM.out; omega);have ht0:t ≠ 0:=by
  intro e;have h1:=kbz (n:=val es) (by intro e0; have:=HM.out; rw [e0,zo] at this; simp at this);have e1:=xh HT;rw [p8 (by have:=HM.out; omega),jg,e,wy,s9] at e1;have af:=wz ((kan (val es)).take (m+1));rw [pA,so (by have:=HM.out; omega),<- e1] at af;rw [HM.out] at h1;exact absurd af (Nat.not_lt.2 h1)
 rw [jb6] at aj;have Q3:=hid q3;have jV:(((m:Int)+2) == 1)=false:=beq_eq_false_iff_ne.2 (by omega);clear q3;go_wp2_with fail;refine (yb2 t _ ht0 ht1).mono ?_;rintro e w3 ⟨⟨s,bW,ZM,ht3,rfl⟩,rfl⟩;obtain ⟨jH,rD⟩:=jcp HM.out HT.out ZM ht3 bW;have HV1:=hid jH;have uJ:=hid rD;clear ZM ht3 jH rD ht0;go_wp2_with fail;refine (gcc _ (dg (val es)) s _ ⟨some ad,c,by rw [HM.out],by rw [HM.out]; exact q1,q2,Q3.out⟩ (by rw [HM.out]; omega) (by omega)).mono ?_;rw [jg];rintro e w4 ⟨v4,rfl,uP,x4⟩;have X4:=hid (X2.out.trans x4);obtain ⟨A4,c4,rfl,p1,p2,p3⟩:=uP;rw [uJ.out] at p1 ⊢;have P3:=hid p3;clear p3 x4 Q3 aj HT jV;go_wp2_with fail;refine (jac _ _ _ (H.out.ext X4.out) (by omega)).mono ?_;rintro e w5 ⟨v5,rfl,⟨A5,c5,rfl,-,-,-⟩,x5⟩;rw [VS.out];have X5:=hid (X4.out.trans x5);have P5:=hid (P3.out.ext x5);clear x5 P3;have dA:=fun W=>qab ((La:Int)+1) (by omega) (by omega) W
 go_wp2_with fail;have HU:Hid (val ds * 2 ^ s < 2147483648 * B32 ^ La):=by
  have h1:=yaf (val ds);rw [VS.out] at h1;have h2:2 ^ s<=2 ^ 31:=r8 (by omega) (by omega);have h3:val ds * 2 ^ s < B32 ^ La * 2 ^ s:=Pk h1 (tp (by omega));have h4:B32 ^ La * 2 ^ s<=B32 ^ La * 2147483648:=sL _ h2;have:val ds * 2 ^ s < 2147483648 * B32 ^ La:=by rw [sj 2147483648]; omega
  exact this
 have HUL:Hid ((dg (val ds * 2 ^ s)).length<=La+1):=by
  have:(dg (val ds * 2 ^ s)).length<=La+1:=by
   apply yf;have:=HU.out;have h5:2147483648 * B32 ^ La<=B32 * B32 ^ La:=pE _ (by decide);rw [si,sj (B32 ^ La)];omega
  exact this
 have WM:Ext w5 (w5.alloc (Obj.cells (yu (List.replicate (La+1) 0)).toArray 84)):=(Ext.refl _).alloc _;refine (gcc _ ds s _ (H.out.ext (X5.out.trans WM)) (by omega) (by omega)).mono ?_;rintro e w6 ⟨v6,rfl,JQ,x6⟩;have R6:=hid ((Row.new w5 (List.replicate (La+1) 0)).ext x6);have X6:=hid (X5.out.trans (WM.trans x6));have P6:=hid (P5.out.ext (WM.trans x6));have ai0:w5.heap.size < w6.heap.size:=R6.out.lt;have NB4:Hid (∀ a,A4=some a->a.block < w5.heap.size):=by
  intro a e;subst e;obtain ⟨a',e',eP,-⟩:=P5.out.2 (by have:=uJ.out; omega);injection e' with e'
  subst e';omega
 have NB:Hid (∀ a,A4=some a->a.block ≠ w5.heap.size):=fun a e=>by have:=NB4.out a e; omega
 obtain ⟨A6,c6,rfl,s1,s2,s3⟩:=JQ;have S3:=hid s3;clear s3 x6 WM dA;obtain ⟨nq,hnq,aiN⟩:∃ nq,La=m+1+nq/\1<=nq:=⟨La - m - 1,by omega,by omega⟩;have yF:=HUL.out;generalize hUE:dg (val ds * 2 ^ s)=UE at *;have HUE:=hid hUE;clear hUE;have k1:UE.length<=La+1:=yF;have k2:0+UE.length<=(List.replicate (La+1) 0).length:=by rw [ra]; omega
 have eq1:(La:Int)+1 - ((m:Int)+2)=nq:=by omega
 have sH:=fun W=>qab (nq:Int) (by omega) (by omega) W
 have DJ:=hid hnq;have aiM:nq<=La:=by omega
 clear hnq
 go_wp2_with (with_reducible refine kak rfl (.tmp 56) (.tmp 59) rfl w5.heap.size 0 (La + 1) (La + 1) A6 c6 UE (List.replicate (La + 1) 0) rfl rfl R6.out S3.out k1 k2 ?_
              intro w7 R7 O7;have R7':=hid R7;have Yl:=hid O7
              clear R7 O7)
 have cZ:Hid (vbb w w5.heap.size w7.heap.size La nq A4 (dg (val es * 2 ^ s)) (val ds * 2 ^ s) nq (w7.alloc (Obj.cells (yu (List.replicate nq 0)).toArray 84))):=by
  have r7:=R7'.out;rw [td,tz,ri,List.drop_replicate] at r7;have yF:(UE ++ List.replicate (La+1 - UE.length) 0).length=La+1:=by simp; omega
  have hvu:val (UE ++ List.replicate (La+1 - UE.length) 0)=val ds * 2 ^ s:=by
   rw [val_append,uac,wy,s9,<- HUE.out,jg]
  have x7:Ext w w7:=Yl.out.ext X6.out (by have:=X5.out.size; omega);refine ⟨UE ++ List.replicate (La+1 - UE.length) 0,List.replicate nq 0,r7.alloc _,yF,S3.out.1.append (ug.replicate _),Row.new w7 _,by simp,ug.replicate _,⟨?_,?_⟩,(P6.out.only Yl.out NB.out).ext ((Ext.refl _).alloc _),x7.alloc _⟩
  · rw [hvu,ub (by simp)]; simp
  · rw [jg];refine px ?_ HV1.out;have e1:=jk (UE ++ List.replicate (La+1 - UE.length) 0) nq (by omega);have h1:=HU.out;have h2:=DJ.out;rw [<- hvu,e1,show B32 ^ La=B32 ^ (m+1+nq) from by rw [<- h2],wT,<- r9,sj _ (B32 ^ nq)] at h1;exact TX (sB (Nat.le_add_left _ _) h1)
 have GU:Hid (w5.heap.size < w7.heap.size):=by
  have:=Yl.out.size;have h2:w5.heap.size < w7.heap.size:=by omega
  exact h2
 clear R7' Yl S3 R6 P6 X6 P5 eq1 sH;generalize hgu:w5.heap.size=gu at *;generalize hgq:w7.heap.size=gq at *;generalize w7.alloc (Obj.cells (yu (List.replicate nq 0)).toArray 84)=W8 at *;have Ti:w.heap.size<=gu:=by have:=X5.out.size; omega
 have ajm:gu < gq:=GU.out;clear hgu hgq GU HU HUL HUE
 go_step3
 go_wp2_with fail
 go_loopw [13] (fun iv wr=>∃ k:Nat,k<=nq/\iv=.int .i64 ((k:Int) - 1)/\Hid (vbb w gu gq La nq A4 (dg (val es * 2 ^ s)) (val ds * 2 ^ s) k wr)) (fun iv _=>(intOf iv+1).toNat)
 case atStart=>exact ⟨nq,pj _,rfl,cZ⟩
 case round =>
  clear cZ;obtain ⟨k,hk,rfl,HI⟩:=hrel;obtain ⟨us,qs,uV,yF,wJ,AO,rY,yL,sK,Qy,aA⟩:=HI.out;rcases k with _ | j
  · have DK:Hid (jc wr (.slice (some ⟨gq,0,none⟩) nq nq) qs):=AO.kO yL _ _ rY (pj _) (by omega);have Jn:Hid (jc wr (.slice (some ⟨gu,0,none⟩) (La+1) (La+1)) us):=uV.kO wJ _ _ yF (pj _) (by omega);have HQR:Hid (val qs=val ds / val es/\val us / 2 ^ s=val ds % val es):=by
     obtain ⟨k1,k2⟩:=sK;rw [jg,Wt,tr,PJ] at k1;rw [jg,PJ] at k2;have hp:0 < 2 ^ s:=tp (by omega);have gI:0 < val es * 2 ^ s:=by omega
     have d1:val ds * 2 ^ s / (val es * 2 ^ s)=val qs:=by rw [k1,Sa _ _ gI,Ps k2,ri]
     have d2:val ds * 2 ^ s % (val es * 2 ^ s)=val us:=by rw [k1,Sd,Sf k2]
     rw [Nat.mul_div_mul_right _ _ hp] at d1;rw [Nat.mul_mod_mul_right] at d2;exact ⟨d1.symm,by rw [<- d2,Nat.mul_div_cancel _ hp]⟩
    have HX:=hid aA;clear HI uV yF wJ AO rY yL sK Qy aA;go_wp2_with fail;refine (jac _ _ _ DK.out (by have:=DK.out; obtain ⟨_,_,e,-⟩:=this; injection e with _ e; omega)).mono ?_;rw [HQR.out.1];rintro e wE ⟨vE,rfl,hvE,xE⟩;have HVE:=hid hvE;have XE:=hid xE;clear hvE xE;go_wp2_with fail;refine (ydb _ _ _ _ (Jn.out.ext XE.out) (by have:=Jn.out; obtain ⟨_,_,e,-⟩:=this; injection e with _ e; omega) (by omega)).mono ?_;rw [HQR.out.2];rintro e wF ⟨vF,rfl,hvF,xF⟩;have HVF:=hid hvF;have XF:=hid xF;clear hvF xF;go_wp2_with fail;rw [WK]
    go_ret2
    exact ⟨_,_,rfl,HVE.out.ext XF.out,HVF.out,HX.out.trans (XE.out.trans XF.out)⟩
  · have hjm:j+m+2<=La:=by have:=DJ.out; omega
    have Qw:=uJ.out;obtain ⟨uH,v1,rfl,bF,FM,bD,HVa⟩:=Qy.xS (m+1) (by omega);obtain ⟨_,v2,e0,dE,Lp,uQ,HVb⟩:=Qy.xS m (by omega);injection e0 with e0
    subst e0;obtain ⟨u2,FN,_,HU2⟩:=uV.xS (j+(m+2)) (by omega);obtain ⟨u1,FO,_,HU1⟩:=uV.xS (j+(m+1)) (by omega);obtain ⟨u0,Lt,_,HU0⟩:=uV.xS (j+m) (by omega);obtain ⟨q0,TR,TE,_⟩:=AO.xS j (by omega);obtain ⟨z1,z2,z3,z4,z5,z6,z7⟩:=xca wJ (kan _) Qw (by omega) sK.2 HU2.out HU1.out HU0.out HVa.out HVb.out (by rw [jg]; exact HV1.out);have hu2:u2 < 4294967296:=wJ _ (te HU2.out);have WV:u1 < 4294967296:=wJ _ (te HU1.out);have ZK:u0 < 4294967296:=wJ _ (te HU0.out);have Z:=hid (And.intro z1 (And.intro z2 (And.intro z3 (And.intro z6 z7))));have Nc:=hid (And.intro uV (And.intro yF wJ));have qX:=hid (And.intro AO (And.intro rY yL));have HKI:=hid sK;have HVA:=hid Qy;have mJ:=hid aA;clear HI z1 z2 z3 z6 z7 uV yF wJ AO rY yL sK Qy aA Qw;rw [show (((j+1:Nat):Int) - 1)=(j:Int) from by omega];go_wp2_with fail;rw [show j+(m+2)+1 - j=m+2+1 from by omega]
    have Wl:Hid (∀ W',Calls Tryz.prog 144 #[.int .u32 (u2:Nat),.int .u32 (u1:Nat),.int .u32 (u0:Nat),.int .u32 (v1:Nat),.int .u32 (v2:Nat)] W' fun e w' =>
     e=.returned (.int .u32 (jaj B32 (u2 * B32 * B32+u1 * B32+u0) (v1 * B32+v2):Nat))/\∃ n,w'=W'.drewN n):=fun W'=>ub4 u2 u1 u0 v1 v2 W' z4 WV ZK bD uQ z5
    have CO:=jdd yj (u2 * B32 * B32+u1 * B32+u0) (v1 * B32+v2);rw [yh] at CO;rw [<- yh] at CO;generalize jaj B32 (u2 * B32 * B32+u1 * B32+u0) (v1 * B32+v2)=qh at *;obtain ⟨n,hn⟩:∃ n,n=m+2:=⟨_,rfl⟩;obtain ⟨n3,RG⟩:∃ n3,n3=m+2+1:=⟨_,rfl⟩;obtain ⟨n1,sG⟩:∃ n1,n1=m+1:=⟨_,rfl⟩;have en:(m:Int)+2=n:=by omega
    rw [<- RG,<- hn,en];rw [<- sG] at FM FO;rw [<- hn] at FN;have HN:=hid (And.intro hn (And.intro RG sG));have i0:(0:Int)<=(n:Int):=by omega
    have i1:(n:Int) < n3:=by omega
    have i3:(n1:Int) < n3:=by omega
    have i5:(m:Int) < n3:=by omega
    have i6:(n1:Int) < n:=by omega
    have i7:(m:Int) < n:=by omega
    have i9:(j:Int) < nq:=by omega
    have aas:n<=17592186044416:=by omega
    have wp1:IntKind.i64.wrap ((n:Int) - 1)=n1:=by rw [IntWalk.i64_in _ (by omega)]; omega
    have wp2:IntKind.i64.wrap ((n:Int) - 2)=m:=by rw [IntWalk.i64_in _ (by omega)]; omega
    clear en hn RG sG;have Uk:=NB4.out uH rfl
    have aH:Hid (∀ n',((wr.drewN n').cell? ⟨gu,j+n,none⟩=some (.int .u32 (u2:Nat))/\(wr.drewN n').cell? ⟨gu,j+n1,none⟩=some (.int .u32 (u1:Nat))/\(wr.drewN n').cell? ⟨gu,j+m,none⟩=some (.int .u32 (u0:Nat)) /\
     (wr.drewN n').cell? (uH.add n1)=some (.int .u32 (v1:Nat))/\(wr.drewN n').cell? (uH.add m)=some (.int .u32 (v2:Nat)))):=
     fun n'=>⟨FN,FO,Lt,FM,Lp⟩
    have Vs:Hid (∀ n' x,(((wr.drewN n').setCell ⟨gq,j,none⟩ x).cell? ⟨gu,j+n,none⟩=some (.int .u32 (u2:Nat))/\((wr.drewN n').setCell ⟨gq,j,none⟩ x).cell? ⟨gu,j+n1,none⟩=some (.int .u32 (u1:Nat))/\((wr.drewN n').setCell ⟨gq,j,none⟩ x).cell? ⟨gu,j+m,none⟩=some (.int .u32 (u0:Nat)) /\
     ((wr.drewN n').setCell ⟨gq,j,none⟩ x).cell? (uH.add n1)=some (.int .u32 (v1:Nat))/\((wr.drewN n').setCell ⟨gq,j,none⟩ x).cell? (uH.add m)=some (.int .u32 (v2:Nat)))):=by
     intro n' x;refine ⟨?_,?_,?_,?_,?_⟩ <;> rw [ph _ _ _ _ (fun e=>by have:=congrArg Addr.block e; simp [ja] at this; omega)]
     · exact FN
     · exact FO
     · exact Lt
     · exact FM
     · exact Lp
    have abd:∀ n',(wr.drewN n').cell? ⟨gq,j,none⟩=some (.int .u32 (q0:Nat)):=fun _=>TR
    have aaV:∀ n',(wr.drewN n').frozen? ⟨gq,j,none⟩=false:=fun _=>TE
    go_region_held3 (fun W'=>W'.cell? ⟨gu,j+n,none⟩=some (.int .u32 (u2:Nat))/\W'.cell? ⟨gu,j+n1,none⟩=some (.int .u32 (u1:Nat))/\W'.cell? ⟨gu,j+m,none⟩=some (.int .u32 (u0:Nat)) /\
     W'.cell? (uH.add n1)=some (.int .u32 (v1:Nat))/\W'.cell? (uH.add m)=some (.int .u32 (v2:Nat)))
     (first | exact aH.out 1 | exact aH.out _ | exact Vs.out _ _)
     ((go_at_call 144; refine (Wl.out _).mono ?_; rintro e w' ⟨rfl,n9,rfl⟩))
    obtain ⟨hn,RG,sG⟩:=HN.out;subst hn;subst RG;subst sG;rw [show ((m+2:Nat):Int)=(m:Int)+2 from by simp];clear aH Vs Wl wp1 wp2 i0 i1 i3 i5 i6 i7 i9 aas FM Lp FN FO Lt TR abd TE aaV HN bF dE;obtain ⟨uV,yF,wJ⟩:=Nc.out;obtain ⟨AO,rY,yL⟩:=qX.out;have hA:Row ((wr.drewN (1+n9)).setCell ⟨gq,j,none⟩ (.int .u32 (qh:Nat))) gu us:=(uV.drewN (1+n9)).far (by simp; omega) _;have hB:Row ((wr.drewN (1+n9)).setCell ⟨gq,j,none⟩ (.int .u32 (qh:Nat))) gq (qs.set j qh):=(AO.drewN (1+n9)).xD _ _;have aaQ:w.heap.size<=gq:=by omega
    have hC:Ext w ((wr.drewN (1+n9)).setCell ⟨gq,j,none⟩ (.int .u32 (qh:Nat))):=(mJ.out.drewN (1+n9)).setCell (by simpa using aaQ) _;have hD:uj ((wr.drewN (1+n9)).setCell ⟨gq,j,none⟩ (.int .u32 (qh:Nat))) (some uH) (dg (val es * 2 ^ s)):=by
     have o1:Only gq wr ((wr.drewN (1+n9)).setCell ⟨gq,j,none⟩ (.int .u32 (qh:Nat))):=((Only.refl gq wr).drewN (1+n9)).setCell _ _;exact HVA.out.only o1 (fun a e=>by injection e with e; subst e; omega)
    generalize (wr.drewN (1+n9)).setCell ⟨gq,j,none⟩ (.int .u32 (qh:Nat))=wA at *;have hcq:=hB.cell j (by rw [pL]; omega);rw [r6] at hcq;have Eh:=hB.frozen j;have HA:=hid hA;have HB:=hid hB;have HC:=hid hC;have HD:=hid hD;clear hA hB hC hD uV AO yF wJ rY yL;go_wp2_with fail;obtain ⟨-,yF,wJ⟩:=Nc.out;obtain ⟨-,rY,yL⟩:=qX.out;have yM:∀ a,some uH=some a->a.block ≠ gu:=fun a e=>by injection e with e; subst e; omega
    refine (gcx gu j (La+1 - j) (m+2) c4 qh us (dg (val es * 2 ^ s)) (some uH) wA HA.out wJ (by omega) (by omega) (by omega) HD.out uJ.out yM p1 p2 CO).mono ?_;rintro e wB ⟨ys,b,hb,rfl,QK,BD⟩
    change qak gu j us (m+3) wA wB ys at QK
    change val (seg ys j (m+3))+qh * val (dg (val es * 2 ^ s))=val (seg us j (m+3))+B32 ^ (m+3) * b at BD
    obtain ⟨t1,t2,t3,t4,t5,t6⟩:=QK;obtain ⟨z1,z2,z3,z6,z7⟩:=Z.out;rw [z2,jg] at BD;rw [jg] at z1 z6 z7;have tC:0 < val es * 2 ^ s:=by
     have h1:=HV1.out;have h2:0 < 2147483648 * B32 ^ (m+1):=Te (by omega) (tp yj);omega
    have Ia:=HKI.out;rw [jg] at Ia;have O5:Row wB gq (qs.set j qh):=HB.out.only t6 (by omega);have Yb:uj wB (some uH) (dg (val es * 2 ^ s)):=HD.out.only t6 yM;have Ya:Ext w wB:=t6.ext HC.out Ti;rcases tU b with aX | bF
    · subst aX;obtain ⟨f1,f2⟩:=zcy tC BD z6;have HS:Hid (vbb w gu gq La nq (some uH) (dg (val es * 2 ^ s)) (val ds * 2 ^ s) j wB):=by
       refine ⟨ys,qs.set j qh,t1,by omega,t3,O5,by rw [pL]; exact rY,yL.set _ _ CO,?_,Yb,Ya⟩;rw [jg];exact ubl (n:=m+3) Ia tC (by omega) t2 (by omega) t4 t5 z3 (by omega) f2 f1
      clear BD t1 t2 t3 t4 t5 t6 z1 z2 z3 z6 z7 Ia O5 Yb Ya f1 f2 HA HB HC HD Nc qX HKI HVA mJ Z yF wJ rY yL tC yM;go_wp2_with fail
      go_roundw
      case rel=>exact ⟨j,by omega,rfl,HS⟩
      case measure=>simp [intOf]
    · obtain rfl:b=1:=by omega
      have TS:=O5.cell j (by rw [pL]; omega);rw [r6] at TS;have aaW:=O5.frozen j;have hV4:=wz (kan (val es * 2 ^ s));rw [jg,uJ.out] at hV4;have hVD:val es * 2 ^ s<=B32 ^ (m+3):=py (Sq hV4) (r8 yj (by omega));have hS1:val (seg ys j (m+3)) < B32 ^ (m+3):=by
       have:=wz ((t3.drop j).take (m+3));rw [pA,re,so (by omega)] at this;exact this
      have aiE:0 < qh:=by
       rcases tU qh with e | e
       · exfalso
         rw [e,s8,ur,s9] at BD;exact absurd hS1 (by rw [BD]; exact Nat.not_lt.2 (Nat.le_add_left _ _))
       · exact e
      have G:=hid (And.intro BD (And.intro z7 (And.intro hVD (And.intro hS1 tC))));have T:=hid (And.intro t1 (And.intro t2 (And.intro t3 (And.intro t4 (And.intro t5 t6)))));have HBQ:=hid O5;have PT:=hid Yb;have kJ:=hid Ya;have VU:=hid Ia;have AZ:=hid z3;rw [yh] at CO;clear BD t1 t2 t3 t4 t5 t6 z1 z2 z3 z6 z7 Ia O5 Yb Ya tC hVD hS1 hV4 HA HB HC HD hcq Eh;go_wp2_with fail;obtain ⟨t1,t2,t3,t4,t5,t6⟩:=T.out;have aaR:w.heap.size<=gq:=by omega
      have Hf:((qh:Int) - 1)=((qh - 1:Nat):Int):=by omega
      rw [Hf];have hA:Row (wB.setCell ⟨gq,j,none⟩ (.int .u32 ((qh - 1:Nat):Int))) gu ys:=t1.far (by simp; omega) _;have hB:Row (wB.setCell ⟨gq,j,none⟩ (.int .u32 ((qh - 1:Nat):Int))) gq (qs.set j (qh - 1)):=by
       have:=HBQ.out.xD j (qh - 1);rw [paC] at this;exact this
      have hC:Ext w (wB.setCell ⟨gq,j,none⟩ (.int .u32 ((qh - 1:Nat):Int))):=kJ.out.setCell (by simpa using aaR) _
      have hD:uj (wB.setCell ⟨gq,j,none⟩ (.int .u32 ((qh - 1:Nat):Int))) (some uH) (dg (val es * 2 ^ s)):=
       PT.out.only ((Only.refl gq wB).setCell _ _) (fun a e=>by injection e with e; subst e; omega)
      generalize wB.setCell ⟨gq,j,none⟩ (.int .u32 ((qh - 1:Nat):Int))=wC at *;refine (zc8 gu j (La+1 - j) (m+2) c4 ys (dg (val es * 2 ^ s)) (some uH) wC hA t3 (by omega) (by omega) (by omega) hD uJ.out yM p1 p2).mono ?_;rintro e wD ⟨xs,cc,rfl,QK,Lr⟩
      change qak gu j ys (m+3) wC wD xs at QK
      change val (seg xs j (m+3))+B32 ^ (m+3) * cc=val (seg ys j (m+3))+val (dg (val es * 2 ^ s)) at Lr
      rw [jg] at Lr;obtain ⟨s1,s2,s3,s4,s5,s6⟩:=QK;obtain ⟨g1,g2,g3,g4,g5⟩:=G.out;have hS2:val (seg xs j (m+3)) < B32 ^ (m+3):=by
       have:=wz ((s3.drop j).take (m+3));rw [pA,re,so (by omega)] at this;exact this
      obtain ⟨f1,-,f3⟩:=wcx g5 g3 g4 hS2 g1 g2 Lr;have HS:Hid (vbb w gu gq La nq (some uH) (dg (val es * 2 ^ s)) (val ds * 2 ^ s) j wD):=by
       refine ⟨xs,qs.set j (qh - 1),s1,by omega,s3,hB.only s6 (by omega),by rw [pL]; exact rY,yL.set _ _ (by rw [yh]; omega),?_,hD.only s6 yM,s6.ext hC Ti⟩;rw [jg];exact ubl (n:=m+3) VU.out g5 (by omega) (s2.trans t2) (by omega) (s4.trans t4) (s5.trans t5) AZ.out (by omega) f3 f1
      clear Lr s1 s2 s3 s4 s5 s6 g1 g2 g3 g4 g5 hS2 f1 f3 t1 t2 t3 t4 t5 t6 hA hB hC hD Hf G T HBQ PT kJ VU AZ Nc qX HKI HVA mJ Z yF wJ rY yL yM TS aaW;go_wp2_with fail
      go_roundw
      case rel=>exact ⟨j,by omega,rfl,HS⟩
      case measure=>simp [intOf]
theorem ubm (u v:Value) (ds es:List Nat) (w:World) (h:jc w u ds) (k:jc w v es) (hs:ds.length<=17592186044416) (yJ:es.length<=17592186044416) (h0:val es ≠ 0) :
 Calls Tryz.prog 116 #[u,v] w (ubv (val ds / val es) (val ds % val es) w):=by
 rcases tM (val ds) (val es) with af | oL
 · exact jb5 u v ds es w h k hs yJ af
 · rcases tM (dg (val es)).length 2 with h1 | h2
   · have h3:=yaf (val es);have h4:B32 ^ (dg (val es)).length<=B32 ^ 1:=r8 yj (by omega);rw [paR] at h4;exact qcl u v ds es w h k hs yJ oL h0 (px h3 h4)
   · exact qcb u v ds es w h k hs yJ oL h2
end Go.Proofs.YtcepajijiabkmaaGreat
