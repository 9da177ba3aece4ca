/- Layer 3 (division): long division. -/
import Derived.Test.YtcepajijiabkmaaGreatMq41
import Derived.Test.YtcepajijiabkmaaGreatLen
set_option linter.unusedSimpArgs false
set_option linter.unusedVariables false
set_option maxRecDepth 100000
set_option maxHeartbeats 8000000
namespace Go.Proofs.YtcepajijiabkmaaGreat
open Lib (hid)
open Go.RowKit
def qbp (q r:Nat) (w:World) (e:Ending) (w':World):Prop:=∃ vq vr,e=.returned (.tuple #[vq,vr])/\jb w' vq (dg q)/\jb w' vr (dg r)/\Ext w w'
theorem ubx (u v:Value) (ds es:List Nat) (w:World) (h:jb w u ds) (k:jb w v es) (hs:ds.length<=17592186044416) (zQ:es.length<=17592186044416) (af:val ds < val es) :
 Calls Tryz.prog 116 #[u,v] w (qbp (val ds / val es) (val ds % val es) w):=by
 have H:=hid h;have K:=hid k;have kR:=hid af;clear h k af;go_enter Tryz.func116,Tryz.ntmps116;go_wp2_with fail
 go_step3
 go_wp2_with fail;refine (jab _ _ _ K.out (by omega)).mono ?_;rintro e w1 ⟨v1,rfl,aU,x1⟩;go_wp2_with fail;refine (xao _ _ _ _ _ (H.out.ext x1) aU).mono ?_;rw [qg,uae (by have:=kR.out; omega)];rintro e w2 ⟨rfl,n2,wM⟩;have x2:Ext w w2:=by rw [wM]; exact x1.drewN n2
 have X2:=hid x2;clear wM aU x1 x2;go_wp2_with fail;refine (jab _ _ _ (H.out.ext X2.out) (by omega)).mono ?_;rintro e w3 ⟨v3,rfl,EI,x3⟩;have ZB:=hid EI;have X3:=hid x3;clear EI x3;go_wp2_with fail;rw [Exit.noGoto_ret]
 go_ret2
 refine ⟨_,_,rfl,?_,?_,X2.out.trans X3.out⟩
 · rw [Nat.div_eq_of_lt kR.out,xn]; exact jb.nil _
 · rw [Nat.mod_eq_of_lt kR.out]; exact ZB.out
theorem qcd (u v:Value) (ds es:List Nat) (w:World) (h:jb w u ds) (k:jb w v es) (hs:ds.length<=17592186044416) (zQ:es.length<=17592186044416) (lS:val es<=val ds) (h0:val es ≠ 0) (pV:val es < B32) :
 Calls Tryz.prog 116 #[u,v] w (qbp (val ds / val es) (val ds % val es) w):=by
 have H:=hid h;have K:=hid k;have nX:=hid lS;have H0:=hid h0;have ZX:=hid pV;clear h k lS h0 pV;go_enter Tryz.func116,Tryz.ntmps116;go_wp2_with fail
 go_step3
 go_wp2_with fail;refine (jab _ _ _ K.out (by omega)).mono ?_;rintro e w1 ⟨v1,rfl,aU,x1⟩;go_wp2_with fail;refine (xao _ _ _ _ _ (H.out.ext x1) aU).mono ?_;rw [qg];have fC:0<=xh (val ds) (val es):=by have:=nX.out; unfold xh; split <;> (try split) <;> omega
 have DT:=(yaj (val ds) (val es)).2;generalize xh (val ds) (val es)=cm at *;rintro e w2 ⟨rfl,n2,wM⟩;have y2:Ext w1 w2:=by rw [wM]; exact (Ext.refl w1).drewN n2
 have X2:=hid (x1.trans y2);have rW:=aU.ext y2;rw [ya2 H0.out ZX.out] at rW;clear wM aU x1 y2;obtain ⟨A,c,rfl,q1,q2,q3⟩:=rW;obtain ⟨ad,rfl,hb,ai,dO⟩:=q3.at_ 0 (by simp);rw [show ad.add 0=ad from by simp [Addr.add]] at ai
 change w2.cell? ad=some (.int .u32 (val es:Nat)) at ai
 change val es < 4294967296 at dO
 clear q3;go_wp2_with fail;refine (gbx _ _ _ _ (H.out.ext X2.out) (by omega) (Nat.pos_of_ne_zero H0.out) dO).mono ?_;rintro e w3 ⟨v3,rfl,EI,-,x3⟩;have ZB:=hid EI;have X3:=hid x3;have hm:val ds % val es < 4294967296:=Nat.lt_trans (Nat.mod_lt _ (Nat.pos_of_ne_zero H0.out)) dO;clear EI x3;generalize val ds % val es=M at *;go_wp2_with fail;refine (jav _ _ (by omega)).mono ?_;rintro e w4 ⟨v4,rfl,rV,x4⟩;have HV4:=hid rV;have X4:=hid x4;clear rV x4;go_wp2_with fail;rw [Exit.noGoto_ret]
 go_ret2
 exact ⟨_,_,rfl,ZB.out.ext X4.out,HV4.out,X2.out.trans (X3.out.trans X4.out)⟩
theorem ucn {zs:List Nat} {m a b c:Nat} (h:zs.length=m+3) (ha:zs[m]?=some a) (hb:zs[m+1]?=some b) (hc:zs[m+2]?=some c) :
 val zs=(c * B32 * B32+b * B32+a) * B32 ^ m+val (zs.take m):=by
 have e1:=zh (E:=zs) (k:=m) (x:=a) ha;have e2:=zh (E:=zs) (k:=m+1) (x:=b) hb;have e3:=zh (E:=zs) (k:=m+2) (x:=c) hc;rw [List.take_of_length_le (by omega)] at e3;rw [e3,e2,e1,show B32 ^ (m+2)=B32 ^ m * B32 * B32 from by rw [Nat.pow_succ,Nat.pow_succ],Nat.pow_succ];generalize B32 ^ m=P;generalize B32=B;rw [Nat.add_mul,Nat.add_mul,show c * B * B * P=P * B * B * c from by ac_rfl,show b * B * P=P * B * b from by rw [Nat.mul_comm (P * B) b,Nat.mul_comm P B,Nat.mul_assoc],Nat.mul_comm a P];omega
theorem gcn {zs:List Nat} {m a b:Nat} (h:zs.length=m+2) (ha:zs[m]?=some a) (hb:zs[m+1]?=some b) :
 val zs=(b * B32+a) * B32 ^ m+val (zs.take m):=by
 have e1:=zh (E:=zs) (k:=m) (x:=a) ha;have e2:=zh (E:=zs) (k:=m+1) (x:=b) hb;rw [List.take_of_length_le (by omega)] at e2;rw [e2,e1,Nat.pow_succ];generalize B32 ^ m=P;generalize B32=B;rw [Nat.add_mul,Nat.mul_comm P B,show b * B * P=B * P * b from by rw [Nat.mul_comm (B * P) b,Nat.mul_assoc],Nat.mul_comm a P];omega
theorem yb3 {us vs : List Nat} {j m u2 u1 u0 v1 v2 : Nat} (hd : vg us) (NG : vg vs) (NF : vs.length = m + 2) (oK : j + m + 3 <= us.length) (af : val (us.drop (j + 1)) < val vs)
 (a2:us[j+(m+2)]?=some u2) (a1:us[j+(m+1)]?=some u1) (a0:us[j+m]?=some u0) (b1:vs[m+1]?=some v1) (b2:vs[m]?=some v2) (hn:2147483648 * B32 ^ (m+1)<=val vs) :
 val (us.drop j) < val vs * B32/\val (seg us j (m+3))=val (us.drop j)/\val (us.drop (j+(m+3)))=0/\u2<=v1/\2147483648<=v1 /\
  val (us.drop j) / val vs<=vag B32 (u2 * B32 * B32+u1 * B32+u0) (v1 * B32+v2)/\vag B32 (u2 * B32 * B32+u1 * B32+u0) (v1 * B32+v2)<=val (us.drop j) / val vs+1:=by
 have hB:=ui;have hj:j < us.length:=by omega
 have hP:val (us.drop j) < val vs * B32:=by
  rw [List.drop_eq_getElem_cons hj,val_cons];have h1:us[j] < B32:=hd _ (List.getElem_mem hj);have h2:B32 * (val (us.drop (j+1))+1)<=B32 * val vs:=Nat.mul_le_mul_left _ af;rw [Nat.mul_add,Nat.mul_one] at h2;rw [Nat.mul_comm (val vs)];omega
 have hV:=zy NG;rw [NF] at hV;have hPB:val (us.drop j) < B32 ^ (m+3):=by
  refine Nat.lt_of_lt_of_le hP ?_;rw [Nat.pow_succ B32 (m+2)];exact Nat.mul_le_mul_right _ (Nat.le_of_lt hV)
 have rY:=zk (us.drop j) (m+3) (by rw [List.length_drop]; omega);rw [List.drop_drop] at rY;have hzero:val (us.drop (j+(m+3)))=0:=by
  rcases Nat.eq_zero_or_pos (val (us.drop (j+(m+3)))) with e | e
  · exact e
  · have:=Nat.mul_le_mul_left (B32 ^ (m+3)) e;rw [Nat.mul_one] at this;omega
 rw [hzero,Nat.mul_zero,Nat.add_zero] at rY;have dN:val (seg us j (m+3))=val (us.drop j):=rY.symm;have sl:(seg us j (m+3)).length=m+3:=by unfold seg; rw [List.length_take,List.length_drop]; omega
 have sd:vg (seg us j (m+3)):=(hd.drop _).take _;have g:∀ i,i < m+3->(seg us j (m+3))[i]?=us[j+i]?:=fun i hi=>by
  unfold seg; rw [List.getElem?_take_of_lt hi,List.getElem?_drop]
 have t3:=ucn sl (by rw [g _ (by omega)]; exact a0) (by rw [g _ (by omega)]; exact a1) (by rw [g _ (by omega)]; exact a2);have t2:=gcn NF b2 b1;have r3:=zy (sd.take m);have r2:=zy (NG.take m);rw [List.length_take,Nat.min_eq_left (by omega)] at r3 r2;have aeV:v2 < B32:=NG _ (List.mem_of_getElem? b2);have ae1:u0 < B32:=hd _ (List.mem_of_getElem? a0);have ae0:u1 < B32:=hd _ (List.mem_of_getElem? a1);have QM:0 < B32 ^ m:=Nat.pow_pos hB;have aU:2147483648<=v1:=by
  rcases Nat.lt_or_ge v1 2147483648 with h | h
  · exfalso
    have h1:val vs < 2147483648 * B32 ^ (m+1):=by
     rw [t2,Nat.pow_succ];have h2:v1 * B32+v2+1<=2147483648 * B32:=by
      have:(v1+1) * B32<=2147483648 * B32:=Nat.mul_le_mul_right _ h;rw [Nat.add_mul,Nat.one_mul] at this;omega
     have h3:=Nat.mul_le_mul_right (B32 ^ m) h2;rw [Nat.add_mul,Nat.one_mul] at h3;rw [Nat.mul_comm (B32 ^ m) B32,<- Nat.mul_assoc];omega
    omega
  · exact h
 rw [dN] at t3;refine ⟨hP,dN,hzero,?_,aU,xcd hB QM t3 r3 t2 r2 ?_ hP⟩
 · rcases Nat.lt_or_ge v1 u2 with h | h
   · exfalso
     have h1:(v1 * B32+v2+1) * B32<=u2 * B32 * B32+u1 * B32+u0:=by
      have h2:v1 * B32+v2+1<=u2 * B32:=by
       have:(v1+1) * B32<=u2 * B32:=Nat.mul_le_mul_right _ h;rw [Nat.add_mul,Nat.one_mul] at this;omega
      have:=Nat.mul_le_mul_right B32 h2;omega
     have h3:=Nat.mul_le_mul_right (B32 ^ m) h1;have h4:val vs < (v1 * B32+v2+1) * B32 ^ m:=by rw [t2,Nat.add_mul (v1 * B32+v2) 1 (B32 ^ m),Nat.one_mul]; omega
     have h5:=Nat.mul_lt_mul_of_pos_right h4 hB;rw [Nat.mul_right_comm] at h5;omega
   · exact h
 · have:=Nat.mul_le_mul_right B32 (show 1<=v1 by omega);omega
def jcx (U V:Nat) (us qs:List Nat) (k:Nat):Prop:=U=val us+V * (B32 ^ k * val (qs.drop k))/\val (us.drop k) < V
theorem qbg {U V : Nat} {us ys qs : List Nat} {j n q : Nat} (h : jcx U V us qs (j + 1)) (hV : 0 < V) (oK : j < us.length) (hl : ys.length = us.length) (hq : j < qs.length)
 (dD:ys.take j=us.take j) (hdr:ys.drop (j+n)=us.drop (j+n)) (hz:val (us.drop (j+n))=0) (hn:j+n<=us.length) (dN:val (seg ys j n)=val (us.drop j) % V) (hqv:q=val (us.drop j) / V) :
 jcx U V ys (qs.set j q) j:=by
 obtain ⟨h1,h2⟩:=h;have e1:=zk us j (by omega);have e2:=zk ys j (by omega);have e3:=zk (ys.drop j) n (by rw [List.length_drop]; omega);rw [List.drop_drop,hdr,hz,Nat.mul_zero,Nat.add_zero] at e3;have e4:val (ys.drop j)=val (us.drop j) % V:=by rw [e3]; exact dN
 refine ⟨?_,by rw [e4]; exact Nat.mod_lt _ hV⟩;rw [List.drop_set,if_neg (by omega),Nat.sub_self,List.drop_eq_getElem_cons hq,List.set_cons_zero,val_cons,h1,e2,e4,dD,e1,hqv];generalize val (us.drop j)=P;generalize val (qs.drop (j+1))=Q;have e5:=Nat.mod_add_div P V;have e6:B32 ^ j * P=B32 ^ j * (P % V)+V * (B32 ^ j * (P / V)):=by
  have:B32 ^ j * (P % V+V * (P / V))=B32 ^ j * P:=by rw [e5]
  rw [Nat.mul_add,Nat.mul_left_comm] at this;omega
 rw [Nat.pow_succ,Nat.mul_add,Nat.mul_add,e6,Nat.mul_assoc];omega
theorem gco {P V S qh D:Nat} (hV:0 < V) (h:S+qh * V=P+D * 0) (h1:P / V<=qh):qh=P / V/\S=P % V:=by
 have h2:qh<=P / V:=(Nat.le_div_iff_mul_le hV).2 (by omega);have h3:qh=P / V:=by omega
 refine ⟨h3,?_⟩;have h4:=Nat.mod_add_div P V;rw [h3,Nat.mul_comm] at h;omega
theorem uco {P V S qh D S2 c:Nat} (hV:0 < V) (Yz:V<=D) (hS:S < D) (YF:S2 < D) (h:S+qh * V=P+D * 1) (h2:qh<=P / V+1) (hc:S2+D * c=S+V):qh - 1=P / V/\0 < qh/\S2=P % V:=by
 have h4:=Nat.mod_add_div P V;have h5:=Nat.mod_lt P hV;generalize P / V=Q at *;generalize P % V=R at *;have h6:Q < qh:=by
  rcases Nat.lt_or_ge Q qh with h7 | h7
  · exact h7
  · have h8:=Nat.mul_le_mul_right V h7;rw [Nat.mul_comm Q] at h8;omega
 have h7:qh=Q+1:=by omega
 refine ⟨by omega,by omega,?_⟩;rw [h7,Nat.add_mul,Nat.one_mul,Nat.mul_comm Q] at h;have h8:S2+D * c=R+D:=by omega
 rcases c with _ | _ | c
 · omega
 · omega
 · exfalso
   have:D * (c+1+1)=D * c+D+D:=by rw [Nat.mul_add,Nat.mul_add,Nat.mul_one]
   omega
end Go.Proofs.YtcepajijiabkmaaGreat
