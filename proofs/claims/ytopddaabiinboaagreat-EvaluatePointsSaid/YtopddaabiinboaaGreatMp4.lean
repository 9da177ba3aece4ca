/- Layer 3 (division): long division. -/
import Derived.Test.YtopddaabiinboaaGreatMp2
import Derived.Test.YtopddaabiinboaaGreatMp3
import Derived.Test.YtopddaabiinboaaGreatMp1
set_option linter.unusedSimpArgs false
set_option linter.unusedVariables false
set_option maxRecDepth 100000
set_option maxHeartbeats 8000000
namespace Go.Proofs.YtopddaabiinboaaGreat
open Go.RowKit
def vhr (q r:Nat) (w:World) (e:Ending) (w':World):Prop:=∃ vq vr,e=.returned (.tuple #[vq,vr])/\vc2 w' vq (dg q)/\vc2 w' vr (dg r)/\Ext w w'
theorem vhy (u v:Value) (ds es:List Nat) (w:World) (h:vc2 w u ds) (k:vc2 w v es) (hs:ds.length<=17592186044416) (hs':es.length<=17592186044416) (hlt:val ds < val es) :
 Calls Tryz.prog 203 #[u,v] w (vhr (val ds / val es) (val ds % val es) w):=by
 have H:=Lib.hid h;have K:=Lib.hid k;have HLT:=Lib.hid hlt;clear h k hlt;go_enter Tryz.func203,Tryz.ntmps203;go_wp2_with fail
 go_step3
 go_wp2_with fail;refine (xdc _ _ _ K.out (by omega)).mono ?_;rintro e w1 ⟨v1,rfl,hv1,x1⟩;go_wp2_with fail;refine (wgy _ _ _ _ _ (H.out.ext x1) hv1).mono ?_;rw [jc3,kdg (by have:=HLT.out; omega)];rintro e w2 ⟨rfl,n2,hw2⟩;have x2:Ext w w2:=by rw [hw2]; exact x1.drewN n2
 have X2:=Lib.hid x2;clear hw2 hv1 x1 x2;go_wp2_with fail;refine (xdc _ _ _ (H.out.ext X2.out) (by omega)).mono ?_;rintro e w3 ⟨v3,rfl,hv3,x3⟩;have HV3:=Lib.hid hv3;have X3:=Lib.hid x3;clear hv3 x3;go_wp2_with fail;rw [Exit.noGoto_ret]
 go_ret2
 refine ⟨_,_,rfl,?_,?_,X2.out.trans X3.out⟩
 · rw [Nat.div_eq_of_lt HLT.out,uc5]; exact vc2.nil _
 · rw [Nat.mod_eq_of_lt HLT.out]; exact HV3.out
theorem yic (u v:Value) (ds es:List Nat) (w:World) (h:vc2 w u ds) (k:vc2 w v es) (hs:ds.length<=17592186044416) (hs':es.length<=17592186044416) (hge:val es<=val ds) (h0:val es ≠ 0) (hone:val es < B32) :
 Calls Tryz.prog 203 #[u,v] w (vhr (val ds / val es) (val ds % val es) w):=by
 have H:=Lib.hid h;have K:=Lib.hid k;have HGE:=Lib.hid hge;have H0:=Lib.hid h0;have HONE:=Lib.hid hone;clear h k hge h0 hone;go_enter Tryz.func203,Tryz.ntmps203;go_wp2_with fail
 go_step3
 go_wp2_with fail;refine (xdc _ _ _ K.out (by omega)).mono ?_;rintro e w1 ⟨v1,rfl,hv1,x1⟩;go_wp2_with fail;refine (wgy _ _ _ _ _ (H.out.ext x1) hv1).mono ?_;rw [jc3];have hcm:0<=kc4 (val ds) (val es):=by have:=HGE.out; unfold kc4; split <;> (try split) <;> omega
 have hcm2:=(jgw (val ds) (val es)).2;generalize kc4 (val ds) (val es)=cm at *;rintro e w2 ⟨rfl,n2,hw2⟩;have y2:Ext w1 w2:=by rw [hw2]; exact (Ext.refl w1).drewN n2
 have X2:=Lib.hid (x1.trans y2);have hv2:=hv1.ext y2;rw [ugy H0.out HONE.out] at hv2;clear hw2 hv1 x1 y2;obtain ⟨A,c,rfl,q1,q2,q3⟩:=hv2;obtain ⟨ad,rfl,hb,hcell,hd1⟩:=q3.at_ 0 (by simp);rw [show ad.add 0=ad from by simp [Addr.add]] at hcell
 change w2.cell? ad=some (.int .u32 (val es:Nat)) at hcell
 change val es < 4294967296 at hd1
 clear q3;go_wp2_with fail;refine (zhc _ _ _ _ (H.out.ext X2.out) (by omega) (Nat.pos_of_ne_zero H0.out) hd1).mono ?_;rintro e w3 ⟨v3,rfl,hv3,-,x3⟩;have HV3:=Lib.hid hv3;have X3:=Lib.hid x3;have hm:val ds % val es < 4294967296:=Nat.lt_trans (Nat.mod_lt _ (Nat.pos_of_ne_zero H0.out)) hd1;clear hv3 x3;generalize val ds % val es=M at *;go_wp2_with fail;refine (jgz _ _ (by omega)).mono ?_;rintro e w4 ⟨v4,rfl,hv4,x4⟩;have HV4:=Lib.hid hv4;have X4:=Lib.hid x4;clear hv4 x4;go_wp2_with fail;rw [Exit.noGoto_ret]
 go_ret2
 exact ⟨_,_,rfl,HV3.out.ext X4.out,HV4.out,X2.out.trans (X3.out.trans X4.out)⟩
/- Plain arithmetic of one digit of long division, on digit lists. No program in sight. -/
theorem jim {zs:List Nat} {m a b c:Nat} (h:zs.length=m+3) (ha:zs[m]?=some a) (hb:zs[m+1]?=some b) (hc:zs[m+2]?=some c) :
 val zs=(c * B32 * B32+b * B32+a) * B32 ^ m+val (zs.take m):=by
 have e1:=wc3 (E:=zs) (k:=m) (x:=a) ha;have e2:=wc3 (E:=zs) (k:=m+1) (x:=b) hb;have e3:=wc3 (E:=zs) (k:=m+2) (x:=c) hc;rw [List.take_of_length_le (by omega)] at e3;rw [e3,e2,e1,show B32 ^ (m+2)=B32 ^ m * B32 * B32 from by rw [Nat.pow_succ,Nat.pow_succ],Nat.pow_succ];generalize B32 ^ m=P;generalize B32=B;rw [Nat.add_mul,Nat.add_mul,show c * B * B * P=P * B * B * c from by ac_rfl,show b * B * P=P * B * b from by rw [Nat.mul_comm (P * B) b,Nat.mul_comm P B,Nat.mul_assoc],Nat.mul_comm a P];omega
theorem kim {zs:List Nat} {m a b:Nat} (h:zs.length=m+2) (ha:zs[m]?=some a) (hb:zs[m+1]?=some b) :
 val zs=(b * B32+a) * B32 ^ m+val (zs.take m):=by
 have e1:=wc3 (E:=zs) (k:=m) (x:=a) ha;have e2:=wc3 (E:=zs) (k:=m+1) (x:=b) hb;rw [List.take_of_length_le (by omega)] at e2;rw [e2,e1,Nat.pow_succ];generalize B32 ^ m=P;generalize B32=B;rw [Nat.add_mul,Nat.mul_comm P B,show b * B * P=B * P * b from by rw [Nat.mul_comm (B * P) b,Nat.mul_assoc],Nat.mul_comm a P];omega
theorem wh2 {us vs : List Nat} {j m u2 u1 u0 v1 v2 : Nat} (hd : uc3 us) (hvd : uc3 vs) (hvl : vs.length = m + 2) (hjl : j + m + 3 <= us.length) (hlt : val (us.drop (j + 1)) < val vs)
 (a2:us[j+(m+2)]?=some u2) (a1:us[j+(m+1)]?=some u1) (a0:us[j+m]?=some u0) (b1:vs[m+1]?=some v1) (b2:vs[m]?=some v2) (hn:2147483648 * B32 ^ (m+1)<=val vs) :
 val (us.drop j) < val vs * B32/\val (seg us j (m+3))=val (us.drop j)/\val (us.drop (j+(m+3)))=0/\u2<=v1/\2147483648<=v1 /\
  val (us.drop j) / val vs<=jdj B32 (u2 * B32 * B32+u1 * B32+u0) (v1 * B32+v2)/\jdj B32 (u2 * B32 * B32+u1 * B32+u0) (v1 * B32+v2)<=val (us.drop j) / val vs+1:=by
 have hB:=zc5;have hj:j < us.length:=by omega
 have hP:val (us.drop j) < val vs * B32:=by
  rw [List.drop_eq_getElem_cons hj,val_cons];have h1:us[j] < B32:=hd _ (List.getElem_mem hj);have h2:B32 * (val (us.drop (j+1))+1)<=B32 * val vs:=Nat.mul_le_mul_left _ hlt;rw [Nat.mul_add,Nat.mul_one] at h2;rw [Nat.mul_comm (val vs)];omega
 have hV:=gc9 hvd;rw [hvl] at hV;have hPB:val (us.drop j) < B32 ^ (m+3):=by
  refine Nat.lt_of_lt_of_le hP ?_;rw [Nat.pow_succ B32 (m+2)];exact Nat.mul_le_mul_right _ (Nat.le_of_lt hV)
 have hsplit:=wc5 (us.drop j) (m+3) (by rw [List.length_drop]; omega);rw [List.drop_drop] at hsplit;have hzero:val (us.drop (j+(m+3)))=0:=by
  rcases Nat.eq_zero_or_pos (val (us.drop (j+(m+3)))) with e | e
  · exact e
  · have:=Nat.mul_le_mul_left (B32 ^ (m+3)) e;rw [Nat.mul_one] at this;omega
 rw [hzero,Nat.mul_zero,Nat.add_zero] at hsplit;have hseg:val (seg us j (m+3))=val (us.drop j):=hsplit.symm;have sl:(seg us j (m+3)).length=m+3:=by unfold seg; rw [List.length_take,List.length_drop]; omega
 have sd:uc3 (seg us j (m+3)):=(hd.drop _).take _;have g:∀ i,i < m+3->(seg us j (m+3))[i]?=us[j+i]?:=fun i hi=>by
  unfold seg; rw [List.getElem?_take_of_lt hi,List.getElem?_drop]
 have t3:=jim sl (by rw [g _ (by omega)]; exact a0) (by rw [g _ (by omega)]; exact a1) (by rw [g _ (by omega)]; exact a2);have t2:=kim hvl b2 b1;have r3:=gc9 (sd.take m);have r2:=gc9 (hvd.take m);rw [List.length_take,Nat.min_eq_left (by omega)] at r3 r2;have hv2B:v2 < B32:=hvd _ (List.mem_of_getElem? b2);have hu0B:u0 < B32:=hd _ (List.mem_of_getElem? a0);have hu1B:u1 < B32:=hd _ (List.mem_of_getElem? a1);have hKpos:0 < B32 ^ m:=Nat.pow_pos hB;have hv1:2147483648<=v1:=by
  rcases Nat.lt_or_ge v1 2147483648 with h | h
  · exfalso
    have h1:val vs < 2147483648 * B32 ^ (m+1):=by
     rw [t2,Nat.pow_succ];have h2:v1 * B32+v2+1<=2147483648 * B32:=by
      have:(v1+1) * B32<=2147483648 * B32:=Nat.mul_le_mul_right _ h;rw [Nat.add_mul,Nat.one_mul] at this;omega
     have h3:=Nat.mul_le_mul_right (B32 ^ m) h2;rw [Nat.add_mul,Nat.one_mul] at h3;rw [Nat.mul_comm (B32 ^ m) B32,<- Nat.mul_assoc];omega
    omega
  · exact h
 rw [hseg] at t3;refine ⟨hP,hseg,hzero,?_,hv1,zic hB hKpos t3 r3 t2 r2 ?_ hP⟩
 · rcases Nat.lt_or_ge v1 u2 with h | h
   · exfalso
     have h1:(v1 * B32+v2+1) * B32<=u2 * B32 * B32+u1 * B32+u0:=by
      have h2:v1 * B32+v2+1<=u2 * B32:=by
       have:(v1+1) * B32<=u2 * B32:=Nat.mul_le_mul_right _ h;rw [Nat.add_mul,Nat.one_mul] at this;omega
      have:=Nat.mul_le_mul_right B32 h2;omega
     have h3:=Nat.mul_le_mul_right (B32 ^ m) h1;have h4:val vs < (v1 * B32+v2+1) * B32 ^ m:=by rw [t2,Nat.add_mul (v1 * B32+v2) 1 (B32 ^ m),Nat.one_mul]; omega
     have h5:=Nat.mul_lt_mul_of_pos_right h4 hB;rw [Nat.mul_right_comm] at h5;omega
   · exact h
 · have:=Nat.mul_le_mul_right B32 (show 1<=v1 by omega);omega
def jiw (U V:Nat) (us qs:List Nat) (k:Nat):Prop:=U=val us+V * (B32 ^ k * val (qs.drop k))/\val (us.drop k) < V
theorem xhj {U V : Nat} {us ys qs : List Nat} {j n q : Nat} (h : jiw U V us qs (j + 1)) (hV : 0 < V) (hjl : j < us.length) (hl : ys.length = us.length) (hq : j < qs.length)
 (htk:ys.take j=us.take j) (hdr:ys.drop (j+n)=us.drop (j+n)) (hz:val (us.drop (j+n))=0) (hn:j+n<=us.length) (hseg:val (seg ys j n)=val (us.drop j) % V) (hqv:q=val (us.drop j) / V) :
 jiw U V ys (qs.set j q) j:=by
 obtain ⟨h1,h2⟩:=h;have e1:=wc5 us j (by omega);have e2:=wc5 ys j (by omega);have e3:=wc5 (ys.drop j) n (by rw [List.length_drop]; omega);rw [List.drop_drop,hdr,hz,Nat.mul_zero,Nat.add_zero] at e3;have e4:val (ys.drop j)=val (us.drop j) % V:=by rw [e3]; exact hseg
 refine ⟨?_,by rw [e4]; exact Nat.mod_lt _ hV⟩;rw [List.drop_set,if_neg (by omega),Nat.sub_self,List.drop_eq_getElem_cons hq,List.set_cons_zero,val_cons,h1,e2,e4,htk,e1,hqv];generalize val (us.drop j)=P;generalize val (qs.drop (j+1))=Q;have e5:=Nat.mod_add_div P V;have e6:B32 ^ j * P=B32 ^ j * (P % V)+V * (B32 ^ j * (P / V)):=by
  have:B32 ^ j * (P % V+V * (P / V))=B32 ^ j * P:=by rw [e5]
  rw [Nat.mul_add,Nat.mul_left_comm] at this;omega
 rw [Nat.pow_succ,Nat.mul_add,Nat.mul_add,e6,Nat.mul_assoc];omega
theorem gin {P V S qh D:Nat} (hV:0 < V) (h:S+qh * V=P+D * 0) (h1:P / V<=qh):qh=P / V/\S=P % V:=by
 have h2:qh<=P / V:=(Nat.le_div_iff_mul_le hV).2 (by omega);have h3:qh=P / V:=by omega
 refine ⟨h3,?_⟩;have h4:=Nat.mod_add_div P V;rw [h3,Nat.mul_comm] at h;omega
theorem uin {P V S qh D S2 c:Nat} (hV:0 < V) (hVD:V<=D) (hS:S < D) (hS2:S2 < D) (h:S+qh * V=P+D * 1) (h2:qh<=P / V+1) (hc:S2+D * c=S+V):qh - 1=P / V/\0 < qh/\S2=P % V:=by
 have h4:=Nat.mod_add_div P V;have h5:=Nat.mod_lt P hV;generalize P / V=Q at *;generalize P % V=R at *;have h6:Q < qh:=by
  rcases Nat.lt_or_ge Q qh with h7 | h7
  · exact h7
  · have h8:=Nat.mul_le_mul_right V h7;rw [Nat.mul_comm Q] at h8;omega
 have h7:qh=Q+1:=by omega
 refine ⟨by omega,by omega,?_⟩;rw [h7,Nat.add_mul,Nat.one_mul,Nat.mul_comm Q] at h;have h8:S2+D * c=R+D:=by omega
 rcases c with _ | _ | c
 · omega
 · omega
 · exfalso
   have:D * (c+1+1)=D * c+D+D:=by rw [Nat.mul_add,Nat.mul_add,Nat.mul_one]
   omega
/- Layer 3 (division): long division, the main case. -/
set_option maxRecDepth 100000
set_option maxHeartbeats 8000000
theorem vif {V s m t:Nat} (hl:(dg V).length=m+2) (ht:(dg V)[m+1]?=some t) (h1:2147483648<=t * 2 ^ s) (h2:t * 2 ^ s < 4294967296) (hs:s < 32) :
 2147483648 * B32 ^ (m+1)<=V * 2 ^ s/\(dg (V * 2 ^ s)).length=m+2:=by
 have hB:=zc5;have e:=wc3 (E:=dg V) (k:=m+1) (x:=t) ht;rw [List.take_of_length_le (by omega),jc3] at e;have hlt:=gc9 ((qdj V).take (m+1));rw [List.length_take,Nat.min_eq_left (by omega)] at hlt;have g1:2147483648 * B32 ^ (m+1)<=V * 2 ^ s:=by
  have h3:=Nat.mul_le_mul_right (B32 ^ (m+1)) h1;rw [e,Nat.add_mul,Nat.mul_assoc (B32 ^ (m+1)),Nat.mul_comm (B32 ^ (m+1)) (t * 2 ^ s)];omega
 refine ⟨g1,?_⟩;have g2:V * 2 ^ s < B32 ^ (m+2):=by
  have hq:(t+1) * 2 ^ s<=B32:=by
   obtain ⟨q,hq⟩:∃ q,B32=q * 2 ^ s:=⟨2 ^ (32 - s),by rw [<- Nat.pow_add,show 32 - s+s=32 from by omega]; rfl⟩;rw [hq];have h4:t * 2 ^ s < q * 2 ^ s:=by rw [<- hq]; exact h2
   exact Nat.mul_le_mul_right _ (Nat.lt_of_mul_lt_mul_right h4)
  have h5:V * 2 ^ s < (t+1) * B32 ^ (m+1) * 2 ^ s:=Nat.mul_lt_mul_of_pos_right (by rw [e,Nat.add_mul,Nat.one_mul,Nat.mul_comm t]; omega) (Nat.pow_pos (by omega));have h6:=Nat.mul_le_mul_right (B32 ^ (m+1)) hq;rw [Nat.pow_succ,Nat.mul_comm (B32 ^ (m+1))];rw [Nat.mul_right_comm] at h5;omega
 have g3:=zc4 g2;rcases Nat.lt_or_ge (dg (V * 2 ^ s)).length (m+2) with h | h
 · exfalso
   have h7:=ydb (V * 2 ^ s);have h8:B32 ^ (dg (V * 2 ^ s)).length<=B32 ^ (m+1):=Nat.pow_le_pow_right hB (by omega);have h9:B32 ^ (m+1)<=2147483648 * B32 ^ (m+1):=Nat.le_mul_of_pos_left _ (by omega);omega
 · omega
def khd (w0:World) (gu gq La nq:Nat) (A:Option Addr) (vs:List Nat) (U k:Nat) (wr:World):Prop:=
 ∃ us qs:List Nat,Row wr gu us/\us.length=La+1/\uc3 us/\Row wr gq qs/\qs.length=nq/\uc3 qs/\jiw U (val vs) us qs k/\wc4 wr A vs/\Ext w0 wr
theorem gh3 (u v:Value) (ds es:List Nat) (w:World) (h:vc2 w u ds) (k:vc2 w v es) (hs:ds.length<=17592186044416) (hs':es.length<=17592186044416) (hge:val es<=val ds) (hbig:2<=(dg (val es)).length) :
 Calls Tryz.prog 203 #[u,v] w (vhr (val ds / val es) (val ds % val es) w):=by
 have H:=Lib.hid h;have K:=Lib.hid k;have HGE:=Lib.hid hge;have hla:(dg (val ds)).length<=ds.length:=vc3 h.digs;have hlb:(dg (val es)).length<=es.length:=vc3 k.digs;have hab:(dg (val es)).length<=(dg (val ds)).length:=xc6 hge;clear h k hge;obtain ⟨m,hm⟩:∃ m,(dg (val es)).length=m+2:=⟨(dg (val es)).length - 2,by omega⟩;have HM:=Lib.hid hm;rw [hm] at hlb hab hbig;clear hm;obtain ⟨La,hLa⟩:=n_m ((dg (val ds)).length);have HLA:=Lib.hid hLa;rw [hLa] at hla hab;clear hLa;go_enter Tryz.func203,Tryz.ntmps203;go_wp2_with fail
 go_step3
 go_wp2_with fail;refine (xdc _ _ _ K.out (by omega)).mono ?_;rintro e w1 ⟨v1,rfl,hv1,x1⟩;go_wp2_with fail;refine (wgy _ _ _ _ _ (H.out.ext x1) hv1).mono ?_;rw [jc3];have hcm:0<=kc4 (val ds) (val es):=by have:=HGE.out; unfold kc4; split <;> (try split) <;> omega
 have hcm2:=(jgw (val ds) (val es)).2;generalize kc4 (val ds) (val es)=cm at *;rintro e w2 ⟨rfl,n2,hw2⟩;have y2:Ext w1 w2:=by rw [hw2]; exact (Ext.refl w1).drewN n2
 have X2:=Lib.hid (x1.trans y2);have hv2:=hv1.ext y2;clear hw2 hv1 x1 y2;obtain ⟨A,c,rfl,q1,q2,q3⟩:=hv2;rw [HM.out] at q1 ⊢;obtain ⟨ad,t,rfl,hb,hcell,ht1,HT⟩:=q3.get_ (m+1) (by have:=HM.out; omega);have ht0:t ≠ 0:=by
  intro e;have h1:=yhv (n:=val es) (by intro e0; have:=HM.out; rw [e0,uc5] at this; simp at this);have e1:=wc3 HT;rw [List.take_of_length_le (by have:=HM.out; omega),jc3,e,Nat.mul_zero,Nat.add_zero] at e1;have hlt:=gc9 ((qdj (val es)).take (m+1));rw [List.length_take,Nat.min_eq_left (by have:=HM.out; omega),<- e1] at hlt;rw [HM.out] at h1;exact absurd hlt (Nat.not_lt.2 h1)
 rw [ghz] at hcell;have Q3:=Lib.hid q3;have hone:(((m:Int)+2) == 1)=false:=beq_eq_false_iff_ne.2 (by omega);clear q3;go_wp2_with fail;refine (zhx t _ ht0 ht1).mono ?_;rintro e w3 ⟨⟨s,hs1,ht2,ht3,rfl⟩,rfl⟩;obtain ⟨hV1,hV2⟩:=vif HM.out HT.out ht2 ht3 hs1;have HV1:=Lib.hid hV1;have HV2:=Lib.hid hV2;clear ht2 ht3 hV1 hV2 ht0;go_wp2_with fail;refine (yh5 _ (dg (val es)) s _ ⟨some ad,c,by rw [HM.out],by rw [HM.out]; exact q1,q2,Q3.out⟩ (by rw [HM.out]; omega) (by omega)).mono ?_;rw [jc3];rintro e w4 ⟨v4,rfl,hv4,x4⟩;have X4:=Lib.hid (X2.out.trans x4);obtain ⟨A4,c4,rfl,p1,p2,p3⟩:=hv4;rw [HV2.out] at p1 ⊢;have P3:=Lib.hid p3;clear p3 x4 Q3 hcell HT hone;go_wp2_with fail;refine (xdc _ _ _ (H.out.ext X4.out) (by omega)).mono ?_;rintro e w5 ⟨v5,rfl,⟨A5,c5,rfl,-,-,-⟩,x5⟩;rw [HLA.out];have X5:=Lib.hid (X4.out.trans x5);have P5:=Lib.hid (P3.out.ext x5);clear x5 P3;have hmk:=fun W=>gda ((La:Int)+1) (by omega) (by omega) W
 go_wp2_with fail;have HU:Hid (val ds * 2 ^ s < 2147483648 * B32 ^ La):=by
  have h1:=ydb (val ds);rw [HLA.out] at h1;have h2:2 ^ s<=2 ^ 31:=Nat.pow_le_pow_right (by omega) (by omega);have h3:val ds * 2 ^ s < B32 ^ La * 2 ^ s:=Nat.mul_lt_mul_of_pos_right h1 (Nat.pow_pos (by omega));have h4:B32 ^ La * 2 ^ s<=B32 ^ La * 2147483648:=Nat.mul_le_mul_left _ h2;have:val ds * 2 ^ s < 2147483648 * B32 ^ La:=by rw [Nat.mul_comm 2147483648]; omega
  exact this
 have HUL:Hid ((dg (val ds * 2 ^ s)).length<=La+1):=by
  have:(dg (val ds * 2 ^ s)).length<=La+1:=by
   apply zc4;have:=HU.out;have h5:2147483648 * B32 ^ La<=B32 * B32 ^ La:=Nat.mul_le_mul_right _ (by decide);rw [Nat.pow_succ,Nat.mul_comm (B32 ^ La)];omega
  exact this
 have x50:Ext w5 (w5.alloc (Obj.cells (jc8 (List.replicate (La+1) 0)).toArray 61)):=(Ext.refl _).alloc _;refine (yh5 _ ds s _ (H.out.ext (X5.out.trans x50)) (by omega) (by omega)).mono ?_;rintro e w6 ⟨v6,rfl,hv6,x6⟩;have R6:=Lib.hid ((Row.new w5 (List.replicate (La+1) 0)).ext x6);have X6:=Lib.hid (X5.out.trans (x50.trans x6));have P6:=Lib.hid (P5.out.ext (x50.trans x6));have hlt5:w5.heap.size < w6.heap.size:=R6.out.lt;have NB4:Hid (∀ a,A4=some a->a.block < w5.heap.size):=by
  intro a e;subst e;obtain ⟨a',e',hb',-⟩:=P5.out.2 (by have:=HV2.out; omega);injection e' with e'
  subst e';omega
 have NB:Hid (∀ a,A4=some a->a.block ≠ w5.heap.size):=fun a e=>by have:=NB4.out a e; omega
 obtain ⟨A6,c6,rfl,s1,s2,s3⟩:=hv6;have S3:=Lib.hid s3;clear s3 x6 x50 hmk;obtain ⟨nq,hnq,hnq1⟩:∃ nq,La=m+1+nq/\1<=nq:=⟨La - m - 1,by omega,by omega⟩;have hul:=HUL.out;generalize hUE:dg (val ds * 2 ^ s)=UE at *;have HUE:=Lib.hid hUE;clear hUE;have k1:UE.length<=La+1:=hul;have k2:0+UE.length<=(List.replicate (La+1) 0).length:=by rw [List.length_replicate]; omega
 have eq1:(La:Int)+1 - ((m:Int)+2)=nq:=by omega
 have hmk2:=fun W=>gda (nq:Int) (by omega) (by omega) W
 have HNQ:=Lib.hid hnq;have hnq2:nq<=La:=by omega
 clear hnq
 go_wp2_with (with_reducible refine ygt rfl (.tmp 56) (.tmp 59) rfl w5.heap.size 0 (La + 1) (La + 1) A6 c6 UE (List.replicate (La + 1) 0) rfl rfl R6.out S3.out k1 k2 ?_
              intro w7 R7 O7;have R7':=Lib.hid R7;have O7':=Lib.hid O7
              clear R7 O7)
 have HINV:Hid (khd w w5.heap.size w7.heap.size La nq A4 (dg (val es * 2 ^ s)) (val ds * 2 ^ s) nq (w7.alloc (Obj.cells (jc8 (List.replicate nq 0)).toArray 61))):=by
  have r7:=R7'.out;rw [List.take_zero,List.nil_append,Nat.zero_add,List.drop_replicate] at r7;have hul:(UE ++ List.replicate (La+1 - UE.length) 0).length=La+1:=by simp; omega
  have hvu:val (UE ++ List.replicate (La+1 - UE.length) 0)=val ds * 2 ^ s:=by
   rw [val_append,jdc,Nat.mul_zero,Nat.add_zero,<- HUE.out,jc3]
  have x7:Ext w w7:=O7'.out.ext X6.out (by have:=X5.out.size; omega);refine ⟨UE ++ List.replicate (La+1 - UE.length) 0,List.replicate nq 0,r7.alloc _,hul,S3.out.1.append (uc3.replicate _),Row.new w7 _,by simp,uc3.replicate _,⟨?_,?_⟩,(P6.out.only O7'.out NB.out).ext ((Ext.refl _).alloc _),x7.alloc _⟩
  · rw [hvu,List.drop_eq_nil_of_le (by simp)]; simp
  · rw [jc3];refine Nat.lt_of_lt_of_le ?_ HV1.out;have e1:=wc5 (UE ++ List.replicate (La+1 - UE.length) 0) nq (by omega);have h1:=HU.out;have h2:=HNQ.out;rw [<- hvu,e1,show B32 ^ La=B32 ^ (m+1+nq) from by rw [<- h2],Nat.pow_add,<- Nat.mul_assoc,Nat.mul_comm _ (B32 ^ nq)] at h1;exact Nat.lt_of_mul_lt_mul_left (Nat.lt_of_le_of_lt (Nat.le_add_left _ _) h1)
 have GU:Hid (w5.heap.size < w7.heap.size):=by
  have:=O7'.out.size;have h2:w5.heap.size < w7.heap.size:=by omega
  exact h2
 clear R7' O7' S3 R6 P6 X6 P5 eq1 hmk2;generalize hgu:w5.heap.size=gu at *;generalize hgq:w7.heap.size=gq at *;generalize w7.alloc (Obj.cells (jc8 (List.replicate nq 0)).toArray 61)=W8 at *;have hgu0:w.heap.size<=gu:=by have:=X5.out.size; omega
 have hguq:gu < gq:=GU.out;clear hgu hgq GU HU HUL HUE
 go_step3
 go_wp2_with fail
 go_loopw [13] (fun iv wr=>∃ k:Nat,k<=nq/\iv=.int .i64 ((k:Int) - 1)/\Hid (khd w gu gq La nq A4 (dg (val es * 2 ^ s)) (val ds * 2 ^ s) k wr)) (fun iv _=>(intOf iv+1).toNat)
 case atStart=>exact ⟨nq,Nat.le_refl _,rfl,HINV⟩
 case round =>
  clear HINV;obtain ⟨k,hk,rfl,HI⟩:=hrel;obtain ⟨us,qs,hru,hul,hud,hrq,hql,hqd,hkinv,hva,hext⟩:=HI.out;rcases k with _ | j
  · have HN1:Hid (vc2 wr (.slice (some ⟨gq,0,none⟩) nq nq) qs):=hrq.natVn hqd _ _ hql (Nat.le_refl _) (by omega);have HN2:Hid (vc2 wr (.slice (some ⟨gu,0,none⟩) (La+1) (La+1)) us):=hru.natVn hud _ _ hul (Nat.le_refl _) (by omega);have HQR:Hid (val qs=val ds / val es/\val us / 2 ^ s=val ds % val es):=by
     obtain ⟨k1,k2⟩:=hkinv;rw [jc3,Nat.pow_zero,Nat.one_mul,List.drop_zero] at k1;rw [jc3,List.drop_zero] at k2;have hp:0 < 2 ^ s:=Nat.pow_pos (by omega);have hV0:0 < val es * 2 ^ s:=by omega
     have d1:val ds * 2 ^ s / (val es * 2 ^ s)=val qs:=by rw [k1,Nat.add_mul_div_left _ _ hV0,Nat.div_eq_of_lt k2,Nat.zero_add]
     have d2:val ds * 2 ^ s % (val es * 2 ^ s)=val us:=by rw [k1,Nat.add_mul_mod_self_left,Nat.mod_eq_of_lt k2]
     rw [Nat.mul_div_mul_right _ _ hp] at d1;rw [Nat.mul_mod_mul_right] at d2;exact ⟨d1.symm,by rw [<- d2,Nat.mul_div_cancel _ hp]⟩
    have HX:=Lib.hid hext;clear HI hru hul hud hrq hql hqd hkinv hva hext;go_wp2_with fail;refine (xdc _ _ _ HN1.out (by have:=HN1.out; obtain ⟨_,_,e,-⟩:=this; injection e with _ e; omega)).mono ?_;rw [HQR.out.1];rintro e wE ⟨vE,rfl,hvE,xE⟩;have HVE:=Lib.hid hvE;have XE:=Lib.hid xE;clear hvE xE;go_wp2_with fail;refine (giy _ _ _ _ (HN2.out.ext XE.out) (by have:=HN2.out; obtain ⟨_,_,e,-⟩:=this; injection e with _ e; omega) (by omega)).mono ?_;rw [HQR.out.2];rintro e wF ⟨vF,rfl,hvF,xF⟩;have HVF:=Lib.hid hvF;have XF:=Lib.hid xF;clear hvF xF;go_wp2_with fail;rw [Exit.noGoto_ret]
    go_ret2
    exact ⟨_,_,rfl,HVE.out.ext XF.out,HVF.out,HX.out.trans (XE.out.trans XF.out)⟩
  · have hjm:j+m+2<=La:=by have:=HNQ.out; omega
    have hvl:=HV2.out;obtain ⟨ad4,v1,rfl,hb1,hcv1,hv1,HVa⟩:=hva.get_ (m+1) (by omega);obtain ⟨_,v2,e0,hb2,hcv2,hv2,HVb⟩:=hva.get_ m (by omega);injection e0 with e0
    subst e0;obtain ⟨u2,hcu2,_,HU2⟩:=hru.get_ (j+(m+2)) (by omega);obtain ⟨u1,hcu1,_,HU1⟩:=hru.get_ (j+(m+1)) (by omega);obtain ⟨u0,hcu0,_,HU0⟩:=hru.get_ (j+m) (by omega);obtain ⟨q0,hcq0,hfq0,_⟩:=hrq.get_ j (by omega);obtain ⟨z1,z2,z3,z4,z5,z6,z7⟩:=wh2 hud (qdj _) hvl (by omega) hkinv.2 HU2.out HU1.out HU0.out HVa.out HVb.out (by rw [jc3]; exact HV1.out);have hu2:u2 < 4294967296:=hud _ (List.mem_of_getElem? HU2.out);have hu1:u1 < 4294967296:=hud _ (List.mem_of_getElem? HU1.out);have hu0:u0 < 4294967296:=hud _ (List.mem_of_getElem? HU0.out);have Z:=Lib.hid (And.intro z1 (And.intro z2 (And.intro z3 (And.intro z6 z7))));have HRU:=Lib.hid (And.intro hru (And.intro hul hud));have HRQ:=Lib.hid (And.intro hrq (And.intro hql hqd));have HKI:=Lib.hid hkinv;have HVA:=Lib.hid hva;have HEX:=Lib.hid hext;clear HI z1 z2 z3 z6 z7 hru hul hud hrq hql hqd hkinv hva hext hvl;rw [show (((j+1:Nat):Int) - 1)=(j:Int) from by omega];go_wp2_with fail;rw [show j+(m+2)+1 - j=m+2+1 from by omega]
    have HEST:Hid (∀ W',Calls Tryz.prog 239 #[.int .u32 (u2:Nat),.int .u32 (u1:Nat),.int .u32 (u0:Nat),.int .u32 (v1:Nat),.int .u32 (v2:Nat)] W' fun e w' =>
     e=.returned (.int .u32 (jdj B32 (u2 * B32 * B32+u1 * B32+u0) (v1 * B32+v2):Nat))/\∃ n,w'=W'.drewN n):=fun W'=>xhy u2 u1 u0 v1 v2 W' z4 hu1 hu0 hv1 hv2 z5
    have hest:=qi3 zc5 (u2 * B32 * B32+u1 * B32+u0) (v1 * B32+v2);rw [gc3] at hest;rw [<- gc3] at hest;generalize jdj B32 (u2 * B32 * B32+u1 * B32+u0) (v1 * B32+v2)=qh at *;obtain ⟨n,hn⟩:∃ n,n=m+2:=⟨_,rfl⟩;obtain ⟨n3,hn3⟩:∃ n3,n3=m+2+1:=⟨_,rfl⟩;obtain ⟨n1,hn1⟩:∃ n1,n1=m+1:=⟨_,rfl⟩;have en:(m:Int)+2=n:=by omega
    rw [<- hn3,<- hn,en];rw [<- hn1] at hcv1 hcu1;rw [<- hn] at hcu2;have HN:=Lib.hid (And.intro hn (And.intro hn3 hn1));have i0:(0:Int)<=(n:Int):=by omega
    have i1:(n:Int) < n3:=by omega
    have i3:(n1:Int) < n3:=by omega
    have i5:(m:Int) < n3:=by omega
    have i6:(n1:Int) < n:=by omega
    have i7:(m:Int) < n:=by omega
    have i9:(j:Int) < nq:=by omega
    have hn44:n<=17592186044416:=by omega
    have wp1:IntKind.i64.wrap ((n:Int) - 1)=n1:=by rw [IntWalk.i64_in _ (by omega)]; omega
    have wp2:IntKind.i64.wrap ((n:Int) - 2)=m:=by rw [IntWalk.i64_in _ (by omega)]; omega
    clear en hn hn3 hn1;have hb4:=NB4.out ad4 rfl
    have HSS:Hid (∀ n',((wr.drewN n').cell? ⟨gu,j+n,none⟩=some (.int .u32 (u2:Nat))/\(wr.drewN n').cell? ⟨gu,j+n1,none⟩=some (.int .u32 (u1:Nat))/\(wr.drewN n').cell? ⟨gu,j+m,none⟩=some (.int .u32 (u0:Nat)) /\
     (wr.drewN n').cell? (ad4.add n1)=some (.int .u32 (v1:Nat))/\(wr.drewN n').cell? (ad4.add m)=some (.int .u32 (v2:Nat)))):=
     fun n'=>⟨hcu2,hcu1,hcu0,hcv1,hcv2⟩
    have HSS2:Hid (∀ n' x,(((wr.drewN n').setCell ⟨gq,j,none⟩ x).cell? ⟨gu,j+n,none⟩=some (.int .u32 (u2:Nat))/\((wr.drewN n').setCell ⟨gq,j,none⟩ x).cell? ⟨gu,j+n1,none⟩=some (.int .u32 (u1:Nat))/\((wr.drewN n').setCell ⟨gq,j,none⟩ x).cell? ⟨gu,j+m,none⟩=some (.int .u32 (u0:Nat)) /\
     ((wr.drewN n').setCell ⟨gq,j,none⟩ x).cell? (ad4.add n1)=some (.int .u32 (v1:Nat))/\((wr.drewN n').setCell ⟨gq,j,none⟩ x).cell? (ad4.add m)=some (.int .u32 (v2:Nat)))):=by
     intro n' x;refine ⟨?_,?_,?_,?_,?_⟩ <;> rw [World.cell?_setCell_other _ _ _ _ (fun e=>by have:=congrArg Addr.block e; simp [uc2] at this; omega)]
     · exact hcu2
     · exact hcu1
     · exact hcu0
     · exact hcv1
     · exact hcv2
    have hcq1:∀ n',(wr.drewN n').cell? ⟨gq,j,none⟩=some (.int .u32 (q0:Nat)):=fun _=>hcq0
    have hfq1:∀ n',(wr.drewN n').frozen? ⟨gq,j,none⟩=false:=fun _=>hfq0
    go_region_held3 (fun W'=>W'.cell? ⟨gu,j+n,none⟩=some (.int .u32 (u2:Nat))/\W'.cell? ⟨gu,j+n1,none⟩=some (.int .u32 (u1:Nat))/\W'.cell? ⟨gu,j+m,none⟩=some (.int .u32 (u0:Nat)) /\
     W'.cell? (ad4.add n1)=some (.int .u32 (v1:Nat))/\W'.cell? (ad4.add m)=some (.int .u32 (v2:Nat)))
     (first | exact HSS.out 1 | exact HSS.out _ | exact HSS2.out _ _)
     ((go_at_call 239; refine (HEST.out _).mono ?_; rintro e w' ⟨rfl,n9,rfl⟩))
    obtain ⟨hn,hn3,hn1⟩:=HN.out;subst hn;subst hn3;subst hn1;rw [show ((m+2:Nat):Int)=(m:Int)+2 from by simp];clear HSS HSS2 HEST wp1 wp2 i0 i1 i3 i5 i6 i7 i9 hn44 hcv1 hcv2 hcu2 hcu1 hcu0 hcq0 hcq1 hfq0 hfq1 HN hb1 hb2;obtain ⟨hru,hul,hud⟩:=HRU.out;obtain ⟨hrq,hql,hqd⟩:=HRQ.out;have hA:Row ((wr.drewN (1+n9)).setCell ⟨gq,j,none⟩ (.int .u32 (qh:Nat))) gu us:=(hru.drewN (1+n9)).far (by simp; omega) _;have hB:Row ((wr.drewN (1+n9)).setCell ⟨gq,j,none⟩ (.int .u32 (qh:Nat))) gq (qs.set j qh):=(hrq.drewN (1+n9)).set_ _ _;have hgqw:w.heap.size<=gq:=by omega
    have hC:Ext w ((wr.drewN (1+n9)).setCell ⟨gq,j,none⟩ (.int .u32 (qh:Nat))):=(HEX.out.drewN (1+n9)).setCell (by simpa using hgqw) _;have hD:wc4 ((wr.drewN (1+n9)).setCell ⟨gq,j,none⟩ (.int .u32 (qh:Nat))) (some ad4) (dg (val es * 2 ^ s)):=by
     have o1:Only gq wr ((wr.drewN (1+n9)).setCell ⟨gq,j,none⟩ (.int .u32 (qh:Nat))):=((Only.refl gq wr).drewN (1+n9)).setCell _ _;exact HVA.out.only o1 (fun a e=>by injection e with e; subst e; omega)
    generalize (wr.drewN (1+n9)).setCell ⟨gq,j,none⟩ (.int .u32 (qh:Nat))=wA at *;have hcq:=hB.cell j (by rw [List.length_set]; omega);rw [List.getElem_set_self] at hcq;have hfq:=hB.frozen j;have HA:=Lib.hid hA;have HB:=Lib.hid hB;have HC:=Lib.hid hC;have HD:=Lib.hid hD;clear hA hB hC hD hru hrq hul hud hql hqd;go_wp2_with fail;obtain ⟨-,hul,hud⟩:=HRU.out;obtain ⟨-,hql,hqd⟩:=HRQ.out;have hnb4:∀ a,some ad4=some a->a.block ≠ gu:=fun a e=>by injection e with e; subst e; omega
    refine (vin gu j (La+1 - j) (m+2) c4 qh us (dg (val es * 2 ^ s)) (some ad4) wA HA.out hud (by omega) (by omega) (by omega) HD.out HV2.out hnb4 p1 p2 hest).mono ?_;rintro e wB ⟨ys,b,hb,rfl,hsi,hsv⟩
    change vgs gu j us (m+3) wA wB ys at hsi
    change val (seg ys j (m+3))+qh * val (dg (val es * 2 ^ s))=val (seg us j (m+3))+B32 ^ (m+3) * b at hsv
    obtain ⟨t1,t2,t3,t4,t5,t6⟩:=hsi;obtain ⟨z1,z2,z3,z6,z7⟩:=Z.out;rw [z2,jc3] at hsv;rw [jc3] at z1 z6 z7;have hVpos:0 < val es * 2 ^ s:=by
     have h1:=HV1.out;have h2:0 < 2147483648 * B32 ^ (m+1):=Nat.mul_pos (by omega) (Nat.pow_pos zc5);omega
    have hki:=HKI.out;rw [jc3] at hki;have hBq:Row wB gq (qs.set j qh):=HB.out.only t6 (by omega);have hBv:wc4 wB (some ad4) (dg (val es * 2 ^ s)):=HD.out.only t6 hnb4;have hBx:Ext w wB:=t6.ext HC.out hgu0;rcases Nat.eq_zero_or_pos b with hb0 | hb1
    · subst hb0;obtain ⟨f1,f2⟩:=gin hVpos hsv z6;have HS:Hid (khd w gu gq La nq (some ad4) (dg (val es * 2 ^ s)) (val ds * 2 ^ s) j wB):=by
       refine ⟨ys,qs.set j qh,t1,by omega,t3,hBq,by rw [List.length_set]; exact hql,hqd.set _ _ hest,?_,hBv,hBx⟩;rw [jc3];exact xhj (n:=m+3) hki hVpos (by omega) t2 (by omega) t4 t5 z3 (by omega) f2 f1
      clear hsv t1 t2 t3 t4 t5 t6 z1 z2 z3 z6 z7 hki hBq hBv hBx f1 f2 HA HB HC HD HRU HRQ HKI HVA HEX Z hul hud hql hqd hVpos hnb4;go_wp2_with fail
      go_roundw
      case rel=>exact ⟨j,by omega,rfl,HS⟩
      case measure=>simp [intOf]
    · obtain rfl:b=1:=by omega
      have hcq':=hBq.cell j (by rw [List.length_set]; omega);rw [List.getElem_set_self] at hcq';have hfq':=hBq.frozen j;have hV4:=gc9 (qdj (val es * 2 ^ s));rw [jc3,HV2.out] at hV4;have hVD:val es * 2 ^ s<=B32 ^ (m+3):=Nat.le_trans (Nat.le_of_lt hV4) (Nat.pow_le_pow_right zc5 (by omega));have hS1:val (seg ys j (m+3)) < B32 ^ (m+3):=by
       have:=gc9 ((t3.drop j).take (m+3));rw [List.length_take,List.length_drop,Nat.min_eq_left (by omega)] at this;exact this
      have hqh0:0 < qh:=by
       rcases Nat.eq_zero_or_pos qh with e | e
       · exfalso
         rw [e,Nat.zero_mul,Nat.mul_one,Nat.add_zero] at hsv;exact absurd hS1 (by rw [hsv]; exact Nat.not_lt.2 (Nat.le_add_left _ _))
       · exact e
      have G:=Lib.hid (And.intro hsv (And.intro z7 (And.intro hVD (And.intro hS1 hVpos))));have T:=Lib.hid (And.intro t1 (And.intro t2 (And.intro t3 (And.intro t4 (And.intro t5 t6)))));have HBQ:=Lib.hid hBq;have HBV:=Lib.hid hBv;have HBX:=Lib.hid hBx;have HKI2:=Lib.hid hki;have HZ3:=Lib.hid z3;rw [gc3] at hest;clear hsv t1 t2 t3 t4 t5 t6 z1 z2 z3 z6 z7 hki hBq hBv hBx hVpos hVD hS1 hV4 HA HB HC HD hcq hfq;go_wp2_with fail;obtain ⟨t1,t2,t3,t4,t5,t6⟩:=T.out;have hgq2:w.heap.size<=gq:=by omega
      have hq1:((qh:Int) - 1)=((qh - 1:Nat):Int):=by omega
      rw [hq1];have hA:Row (wB.setCell ⟨gq,j,none⟩ (.int .u32 ((qh - 1:Nat):Int))) gu ys:=t1.far (by simp; omega) _;have hB:Row (wB.setCell ⟨gq,j,none⟩ (.int .u32 ((qh - 1:Nat):Int))) gq (qs.set j (qh - 1)):=by
       have:=HBQ.out.set_ j (qh - 1);rw [List.set_set] at this;exact this
      have hC:Ext w (wB.setCell ⟨gq,j,none⟩ (.int .u32 ((qh - 1:Nat):Int))):=HBX.out.setCell (by simpa using hgq2) _
      have hD:wc4 (wB.setCell ⟨gq,j,none⟩ (.int .u32 ((qh - 1:Nat):Int))) (some ad4) (dg (val es * 2 ^ s)):=
       HBV.out.only ((Only.refl gq wB).setCell _ _) (fun a e=>by injection e with e; subst e; omega)
      generalize wB.setCell ⟨gq,j,none⟩ (.int .u32 ((qh - 1:Nat):Int))=wC at *;refine (xiw gu j (La+1 - j) (m+2) c4 ys (dg (val es * 2 ^ s)) (some ad4) wC hA t3 (by omega) (by omega) (by omega) hD HV2.out hnb4 p1 p2).mono ?_;rintro e wD ⟨xs,cc,rfl,hsi,hcv⟩
      change vgs gu j ys (m+3) wC wD xs at hsi
      change val (seg xs j (m+3))+B32 ^ (m+3) * cc=val (seg ys j (m+3))+val (dg (val es * 2 ^ s)) at hcv
      rw [jc3] at hcv;obtain ⟨s1,s2,s3,s4,s5,s6⟩:=hsi;obtain ⟨g1,g2,g3,g4,g5⟩:=G.out;have hS2:val (seg xs j (m+3)) < B32 ^ (m+3):=by
       have:=gc9 ((s3.drop j).take (m+3));rw [List.length_take,List.length_drop,Nat.min_eq_left (by omega)] at this;exact this
      obtain ⟨f1,-,f3⟩:=uin g5 g3 g4 hS2 g1 g2 hcv;have HS:Hid (khd w gu gq La nq (some ad4) (dg (val es * 2 ^ s)) (val ds * 2 ^ s) j wD):=by
       refine ⟨xs,qs.set j (qh - 1),s1,by omega,s3,hB.only s6 (by omega),by rw [List.length_set]; exact hql,hqd.set _ _ (by rw [gc3]; omega),?_,hD.only s6 hnb4,s6.ext hC hgu0⟩;rw [jc3];exact xhj (n:=m+3) HKI2.out g5 (by omega) (s2.trans t2) (by omega) (s4.trans t4) (s5.trans t5) HZ3.out (by omega) f3 f1
      clear hcv s1 s2 s3 s4 s5 s6 g1 g2 g3 g4 g5 hS2 f1 f3 t1 t2 t3 t4 t5 t6 hA hB hC hD hq1 G T HBQ HBV HBX HKI2 HZ3 HRU HRQ HKI HVA HEX Z hul hud hql hqd hnb4 hcq' hfq';go_wp2_with fail
      go_roundw
      case rel=>exact ⟨j,by omega,rfl,HS⟩
      case measure=>simp [intOf]
theorem jhk (u v:Value) (ds es:List Nat) (w:World) (h:vc2 w u ds) (k:vc2 w v es) (hs:ds.length<=17592186044416) (hs':es.length<=17592186044416) (h0:val es ≠ 0) :
 Calls Tryz.prog 203 #[u,v] w (vhr (val ds / val es) (val ds % val es) w):=by
 rcases Nat.lt_or_ge (val ds) (val es) with hlt | hge
 · exact vhy u v ds es w h k hs hs' hlt
 · rcases Nat.lt_or_ge (dg (val es)).length 2 with h1 | h2
   · have h3:=ydb (val es);have h4:B32 ^ (dg (val es)).length<=B32 ^ 1:=Nat.pow_le_pow_right zc5 (by omega);rw [Nat.pow_one] at h4;exact yic u v ds es w h k hs hs' hge h0 (Nat.lt_of_lt_of_le h3 h4)
   · exact gh3 u v ds es w h k hs hs' hge h2
/- Layer 2 (integer): sign, comparison, sums, products. -/
set_option maxRecDepth 100000
set_option maxHeartbeats 8000000
def sgI (z:Int):Int:=kc4 z 0
theorem wgr (x:Value) (z:Int) (L:Nat) (w:World) (h:xc4 w x z L):Calls Tryz.prog 68 #[x] w fun e w'=>e=.returned (.int .i64 (sgI z))/\Ext w w':=by
 obtain ⟨neg,v,ds,rfl,⟨A,c,rfl,h1,h2,h3⟩,hz,hl⟩:=h;have HX0:Hid (Ext w (w.alloc (Obj.cells #[.bool neg,.slice A ds.length c] 27))):=(Ext.refl w).alloc _;have H3:=Lib.hid h3;have HZ:=Lib.hid hz;clear h3 hz;go_enter Tryz.func68,Tryz.ntmps68;go_wp2_with fail;refine (qdi _ _ _ ⟨A,c,rfl,h1,h2,H3.out.ext HX0.out⟩).mono ?_;rintro e w2 ⟨rfl,rfl⟩
 by_cases h0:val ds=0
 · have hb:(val ds == 0)=true:=by simp [h0]
   have H0:=Lib.hid h0;clear h0;go_wp2_with fail;go_ret;exact ⟨qgy (by rw [HZ.out,H0.out]; cases neg <;> rfl),HX0.out⟩
 · have hb:(val ds == 0)=false:=by simp [h0]
   cases neg
   · go_wp2_with fail;go_ret;exact ⟨qgy (by rw [HZ.out]; exact (qgw (by simp [sgn]; omega)).symm),HX0.out⟩
   · go_wp2_with fail;go_ret;exact ⟨qgy (by rw [HZ.out]; exact (kdg (by simp [sgn]; omega)).symm),HX0.out⟩
theorem of_int (z:Int) (w:World) (h0:-9223372036854775808<=z) (h1:z<=9223372036854775807):Calls Tryz.prog 10 #[.int .i64 z] w (vdh z w):=by
 have HX0:Hid (Ext w (w.alloc (Obj.cells #[.bool false,.slice none 0 0] 27))):=(Ext.refl w).alloc _
 by_cases hn:z < 0
 · go_enter Tryz.func10,Tryz.ntmps10;go_wp2_with fail;have e1:IntKind.u64.wrap (-IntKind.u64.wrap z)=((z.natAbs:Nat):Int):=by
    rw [IntKind.wrap_u64,IntKind.wrap_u64]; omega
   rw [e1];refine (jgz _ _ (by omega)).mono ?_;rintro e w2 ⟨v,rfl,⟨A2,c2,rfl,q1,q2,q3⟩,hx2⟩;obtain ⟨hc,hf⟩:=hx2.cells;have hz:=hx2.size;have HF:=Lib.hid (yc9 (g:=w.heap.size) (z:=z) (u0:=.bool false) (u1:=.slice none 0 0) (HX0.out.trans hx2) (by omega) (by rw [hc _ _ (by simp)]; simp [World.cell?_alloc_new]) (by rw [hc _ _ (by simp)]; simp [World.cell?_alloc_new]) rfl rfl ⟨_,by rw [decide_eq_true hn],A2,c2,rfl,q1,q2,q3⟩);clear hx2 q3 e1;rw [World.size_alloc] at hz;go_wp2_with fail;exact bodyPost_ret (v:=.agg #[.bool true,.slice A2 (dg z.natAbs).length c2]) (by simp [results,Tryz.results10,go_sem,hc]) rfl HF.out
 · obtain ⟨n,rfl⟩:=Int.eq_ofNat_of_zero_le (show 0<=z by omega);go_enter Tryz.func10,Tryz.ntmps10;go_wp2_with fail;refine (jgz _ _ (by omega)).mono ?_;rintro e w2 ⟨v,rfl,⟨A2,c2,rfl,q1,q2,q3⟩,hx2⟩;obtain ⟨hc,hf⟩:=hx2.cells;have hz:=hx2.size;have HF:=Lib.hid (yc9 (g:=w.heap.size) (z:=(n:Int)) (b:=.bool false) (u0:=.bool false) (u1:=.slice none 0 0) (HX0.out.trans hx2) (by omega) (by rw [hc _ _ (by simp)]; simp [World.cell?_alloc_new]) (by rw [hc _ _ (by simp)]; simp [World.cell?_alloc_new]) rfl rfl ⟨_,by rw [decide_eq_false (by omega)],A2,c2,rfl,q1,q2,q3⟩);clear hx2 q3;rw [World.size_alloc] at hz;go_wp2_with fail;exact bodyPost_ret (v:=.agg #[.bool false,.slice A2 (dg n).length c2]) (by simp [results,Tryz.results10,go_sem,hc]) rfl HF.out
theorem jdf (x y:Value) (a b:Int) (L M:Nat) (w:World) (h:xc4 w x a L) (k:xc4 w y b M) (hs:L+M<=35184372088000) :
 Calls Tryz.prog 57 #[x,y] w (vdh (a * b) w):=by
 obtain ⟨neg,v,ds,rfl,⟨A,c,rfl,h1,h2,h3⟩,hz,hl⟩:=h;obtain ⟨neg',v',ds',rfl,⟨A',c',rfl,h1',h2',h3'⟩,hz',hl'⟩:=k;have hab:a * b=sgn (!neg == neg') (val ds * val ds'):=by
  rw [hz,hz']; cases neg <;> cases neg' <;> simp [sgn,Int.neg_mul,Int.mul_neg]
 rw [hab];have H3:=Lib.hid h3;have H3':=Lib.hid h3';clear h3 h3' hz hz' hab;go_enter Tryz.func57,Tryz.ntmps57;go_wp2_with fail;generalize hW:((w.alloc (Obj.cells #[.bool neg,.slice A ds.length c] 27)).alloc (Obj.cells #[.bool neg',.slice A' ds'.length c'] 27)).alloc (Obj.cells #[.bool false,.slice none 0 0] 27)=W;have HX0:Hid (Ext w W):=by
  have:Ext w W:=by rw [<- hW]; exact (((Ext.refl w).alloc _).alloc _).alloc _
  exact this
 have HS:Hid (∀ W',Ext W W'->(Ext w W'/\W'.cell? ⟨w.heap.size,0,none⟩=some (.bool neg)/\W'.cell? ⟨w.heap.size,1,none⟩=some (.slice A ds.length c)/\W'.cell? ⟨w.heap.size+1,0,none⟩=some (.bool neg')/\W'.cell? ⟨w.heap.size+1,1,none⟩=some (.slice A' ds'.length c'))):=by
  intro W' hx;obtain ⟨hc,hf⟩:=hx.cells;have hsz:W.heap.size=w.heap.size+1+1+1:=by rw [<- hW]; simp
  refine ⟨HX0.out.trans hx,?_,?_,?_,?_⟩ <;> (rw [hc _ _ (by omega),<- hW]; simp [go_sem])
 have HR:Hid (∀ W',Ext W W'->(W'.cell? ⟨w.heap.size+1+1,0,none⟩=some (.bool false)/\W'.cell? ⟨w.heap.size+1+1,1,none⟩=some (.slice none 0 0)/\W'.frozen? ⟨w.heap.size+1+1,0,none⟩=false/\W'.frozen? ⟨w.heap.size+1+1,1,none⟩=false)):=by
  intro W' hx;obtain ⟨hc,hf⟩:=hx.cells;have hsz:W.heap.size=w.heap.size+1+1+1:=by rw [<- hW]; simp
  refine ⟨?_,?_,?_,?_⟩ <;> first | (rw [hc _ _ (by omega),<- hW]; simp [go_sem]; done) | (rw [hf _ _ (by omega),<- hW]; simp [go_sem]; done)
 have HS2:Hid (∀ W'' u v,Ext W W''->∀ W',W'=(W''.setCell ⟨w.heap.size+1+1,0,none⟩ u).setCell ⟨w.heap.size+1+1,1,none⟩ v->(Ext w W'/\W'.cell? ⟨w.heap.size,0,none⟩=some (.bool neg)/\W'.cell? ⟨w.heap.size,1,none⟩=some (.slice A ds.length c)/\W'.cell? ⟨w.heap.size+1,0,none⟩=some (.bool neg')/\W'.cell? ⟨w.heap.size+1,1,none⟩=some (.slice A' ds'.length c'))):=by
  intro W'' u v hx W' hW';obtain ⟨s1,s2,s3,s4,s5⟩:=HS.out W'' hx;rw [hW'];refine ⟨(s1.setCell (by simp; omega) _).setCell (by simp; omega) _,?_,?_,?_,?_⟩ <;> rw [World.cell?_setCell_other _ _ _ _ (by simp),World.cell?_setCell_other _ _ _ _ (by simp)] <;> assumption
 clear hW
 go_region_held3 (fun W' => Ext w W' /\ W'.cell? ⟨w.heap.size, 0, none⟩ = some (.bool neg) /\ W'.cell? ⟨w.heap.size, 1, none⟩ = some (.slice A ds.length c) /\ W'.cell? ⟨w.heap.size + 1, 0, none⟩ = some (.bool neg') /\ W'.cell? ⟨w.heap.size + 1, 1, none⟩ = some (.slice A' ds'.length c'))
  (first | exact HS.out _ ((Ext.refl W).drew) | exact HS.out _ (by assumption) | exact HS2.out _ _ _ (by assumption) _ rfl)
  (first
    | (go_at_call 94
       have hxx:=(‹Ext w _/\_›).1;refine (ui1 _ _ ds ds' _ ⟨A,c,rfl,h1,h2,H3.out.ext hxx⟩ ⟨A',c',rfl,h1',h2',H3'.out.ext hxx⟩ (by omega)).mono ?_;rintro e w2 ⟨v2,rfl,nv2,x2⟩
       have y2:Ext W w2:=Ext.trans ((Ext.refl W).drew) x2)
    | (go_at_call 93
       refine (zgx _ _ _ _ nv2).mono ?_;rintro e w3 ⟨v3,rfl,⟨v4,rfl,A2,c2,rfl,q1,q2,q3⟩,x3⟩;have y3:Ext W w3:=Ext.trans y2 x3
       obtain ⟨r1,r2,r3,r4⟩:=HR.out w3 y3))
 have HF:=Lib.hid (yc9 (g:=w.heap.size+1+1) (z:=sgn (!neg == neg') (val ds * val ds')) (u0:=.bool false) (u1:=.slice none 0 0) (HX0.out.trans y3) (by omega) r1 r2 rfl rfl ⟨_,rfl,A2,c2,rfl,q1,q2,q3⟩);clear HS HS2 HR y3 y2 x2 x3 q3 nv2;go_wp2_with fail;exact bodyPost_ret (v:=.agg #[.bool (decide (sgn (!neg == neg') (val ds * val ds') < 0)),.slice A2 (dg (sgn (!neg == neg') (val ds * val ds')).natAbs).length c2]) (by simp [results,Tryz.results57,go_sem,r1,r2]) rfl HF.out
end Go.Proofs.YtopddaabiinboaaGreat
