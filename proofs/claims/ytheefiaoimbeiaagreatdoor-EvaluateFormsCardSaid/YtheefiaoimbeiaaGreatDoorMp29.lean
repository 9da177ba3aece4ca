/- Layer 3 (division): long division, the main case. -/
import Derived.Test.YtheefiaoimbeiaaGreatDoorMp28
set_option linter.unusedSimpArgs false
set_option linter.unusedVariables false
set_option maxRecDepth 100000
set_option maxHeartbeats 8000000
namespace Go.Proofs.YtheefiaoimbeiaaGreatDoor
open Lib (hid)
open Go.RowKit
theorem yfo {V s m t:Nat} (hl:(dg V).length=m+2) (ht:(dg V)[m+1]?=some t) (h1:2147483648<=t * 2 ^ s) (h2:t * 2 ^ s < 4294967296) (hs:s < 32) :
 2147483648 * B32 ^ (m+1)<=V * 2 ^ s/\(dg (V * 2 ^ s)).length=m+2:=by
 have hB:=kdm;have e:=udk (E:=dg V) (k:=m+1) (x:=t) ht;rw [pA (by omega),zdk] at e;have hlt:=qdu ((yd6 V).take (m+1));rw [px,rh (by omega)] at hlt;have g1:2147483648 * B32 ^ (m+1)<=V * 2 ^ s:=by
  have h3:=pE (B32 ^ (m+1)) h1;rw [e,pT,pS (B32 ^ (m+1)),re (B32 ^ (m+1)) (t * 2 ^ s)];omega
 refine ⟨g1,?_⟩;have g2:V * 2 ^ s < B32 ^ (m+2):=by
  have hq:(t+1) * 2 ^ s<=B32:=by
   obtain ⟨q,hq⟩:∃ q,B32=q * 2 ^ s:=⟨2 ^ (32 - s),by rw [<- su,show 32 - s+s=32 from by omega]; rfl⟩;rw [hq];have h4:t * 2 ^ s < q * 2 ^ s:=by rw [<- hq]; exact h2
   exact pE _ (tI h4)
  have h5:V * 2 ^ s < (t+1) * B32 ^ (m+1) * 2 ^ s:=sV (by rw [e,pT,sw,re t]; omega) (rF (by omega));have h6:=pE (B32 ^ (m+1)) hq;rw [pP,re (B32 ^ (m+1))];rw [Nat.mul_right_comm] at h5;omega
 have g3:=gdk g2;rcases rz (dg (V * 2 ^ s)).length (m+2) with h | h
 · exfalso
   have h7:=gdu (V * 2 ^ s);have h8:B32 ^ (dg (V * 2 ^ s)).length<=B32 ^ (m+1):=pK hB (by omega);have h9:B32 ^ (m+1)<=2147483648 * B32 ^ (m+1):=sG _ (by omega);omega
 · omega
def qem (w0:World) (gu gq La nq:Nat) (A:Option Addr) (vs:List Nat) (U k:Nat) (wr:World):Prop:=
 ∃ us qs:List Nat,Row wr gu us/\us.length=La+1/\kdk us/\Row wr gq qs/\qs.length=nq/\kdk qs/\xf7 U (val vs) us qs k/\ydm wr A vs/\Ext w0 wr
theorem wfb (u v:Value) (ds es:List Nat) (w:World) (h:zb1 w u ds) (k:zb1 w v es) (hs:ds.length<=17592186044416) (hs':es.length<=17592186044416) (hge:val es<=val ds) (agD:2<=(dg (val es)).length) :
 Calls Tryz.prog 153 #[u,v] w (ve0 (val ds / val es) (val ds % val es) w):=by
 have H:=hid h;have K:=hid k;have HGE:=hid hge;have hla:(dg (val ds)).length<=ds.length:=xdk h.xi;have hlb:(dg (val es)).length<=es.length:=xdk k.xi;have hab:(dg (val es)).length<=(dg (val ds)).length:=ydq hge;clear h k hge;obtain ⟨m,hm⟩:∃ m,(dg (val es)).length=m+2:=⟨(dg (val es)).length - 2,by omega⟩;have HM:=hid hm;rw [hm] at hlb hab agD;clear hm;obtain ⟨La,hLa⟩:=n_m ((dg (val ds)).length);have HLA:=hid hLa;rw [hLa] at hla hab;clear hLa;go_enter Tryz.func153,Tryz.ntmps153;go_wp2_with fail
 go_step3
 go_wp2_with fail;refine (vdv _ _ _ K.out (by omega)).mono ?_;rintro e w1 ⟨v1,rfl,hv1,x1⟩;go_wp2_with fail;refine (gd8 _ _ _ _ _ (H.out.ext x1) hv1).mono ?_;rw [zdk];have hcm:0<=xdq (val ds) (val es):=by have:=HGE.out; unfold xdq; split <;> (try split) <;> omega
 have amW:=(xd6 (val ds) (val es)).2;generalize xdq (val ds) (val es)=cm at *;rintro e w2 ⟨rfl,n2,hw2⟩;have y2:Ext w1 w2:=by rw [hw2]; exact (Ext.refl w1).drewN n2
 have X2:=hid (x1.trans y2);have hv2:=hv1.ext y2;clear hw2 hv1 x1 y2;obtain ⟨A,c,rfl,q1,q2,q3⟩:=hv2;rw [HM.out] at q1 ⊢;obtain ⟨ad,t,rfl,hb,abZ,ht1,HT⟩:=q3.qt (m+1) (by have:=HM.out; omega);have ht0:t ≠ 0:=by
  intro e;have h1:=ue4 (n:=val es) (by intro e0; have:=HM.out; rw [e0,jdn] at this; simp at this);have e1:=udk HT;rw [pA (by have:=HM.out; omega),zdk,e,sQ,sx] at e1;have hlt:=qdu ((yd6 (val es)).take (m+1));rw [px,rh (by have:=HM.out; omega),<- e1] at hlt;rw [HM.out] at h1;exact absurd hlt (Nat.not_lt.2 h1)
 rw [we7] at abZ;have Q3:=hid q3;have alv:(((m:Int)+2) == 1)=false:=beq_eq_false_iff_ne.2 (by omega);clear q3;go_wp2_with fail;refine (ge5 t _ ht0 ht1).mono ?_;rintro e w3 ⟨⟨s,hs1,ht2,ht3,rfl⟩,rfl⟩;obtain ⟨hV1,hV2⟩:=yfo HM.out HT.out ht2 ht3 hs1;have HV1:=hid hV1;have HV2:=hid hV2;clear ht2 ht3 hV1 hV2 ht0;go_wp2_with fail;refine (vfc _ (dg (val es)) s _ ⟨some ad,c,by rw [HM.out],by rw [HM.out]; exact q1,q2,Q3.out⟩ (by rw [HM.out]; omega) (by omega)).mono ?_;rw [zdk];rintro e w4 ⟨v4,rfl,hv4,x4⟩;have X4:=hid (X2.out.trans x4);obtain ⟨A4,c4,rfl,p1,p2,p3⟩:=hv4;rw [HV2.out] at p1 ⊢;have P3:=hid p3;clear p3 x4 Q3 abZ HT alv;go_wp2_with fail;refine (vdv _ _ _ (H.out.ext X4.out) (by omega)).mono ?_;rintro e w5 ⟨v5,rfl,⟨A5,c5,rfl,-,-,-⟩,x5⟩;rw [HLA.out];have X5:=hid (X4.out.trans x5);have P5:=hid (P3.out.ext x5);clear x5 P3;have hmk:=fun W=>xdu ((La:Int)+1) (by omega) (by omega) W
 go_wp2_with fail;have HU:Hid (val ds * 2 ^ s < 2147483648 * B32 ^ La):=by
  have h1:=gdu (val ds);rw [HLA.out] at h1;have h2:2 ^ s<=2 ^ 31:=pK (by omega) (by omega);have h3:val ds * 2 ^ s < B32 ^ La * 2 ^ s:=sV h1 (rF (by omega));have h4:B32 ^ La * 2 ^ s<=B32 ^ La * 2147483648:=pX _ h2;have:val ds * 2 ^ s < 2147483648 * B32 ^ La:=by rw [re 2147483648]; omega
  exact this
 have HUL:Hid ((dg (val ds * 2 ^ s)).length<=La+1):=by
  have:(dg (val ds * 2 ^ s)).length<=La+1:=by
   apply gdk;have:=HU.out;have h5:2147483648 * B32 ^ La<=B32 * B32 ^ La:=pE _ (by decide);rw [pP,re (B32 ^ La)];omega
  exact this
 have x50:Ext w5 (w5.alloc (Obj.cells (jdq (List.replicate (La+1) 0)).toArray 108)):=(Ext.refl _).alloc _;refine (vfc _ ds s _ (H.out.ext (X5.out.trans x50)) (by omega) (by omega)).mono ?_;rintro e w6 ⟨v6,rfl,hv6,x6⟩;have R6:=hid ((Row.new w5 (List.replicate (La+1) 0)).ext x6);have X6:=hid (X5.out.trans (x50.trans x6));have P6:=hid (P5.out.ext (x50.trans x6));have aAW:w5.heap.size < w6.heap.size:=R6.out.lt;have NB4:Hid (∀ a,A4=some a->a.block < w5.heap.size):=by
  intro a e;subst e;obtain ⟨a',e',hb',-⟩:=P5.out.2 (by have:=HV2.out; omega);injection e' with e'
  subst e';omega
 have NB:Hid (∀ a,A4=some a->a.block ≠ w5.heap.size):=fun a e=>by have:=NB4.out a e; omega
 obtain ⟨A6,c6,rfl,s1,s2,s3⟩:=hv6;have S3:=hid s3;clear s3 x6 x50 hmk;obtain ⟨nq,hnq,aAP⟩:∃ nq,La=m+1+nq/\1<=nq:=⟨La - m - 1,by omega,by omega⟩;have hul:=HUL.out;generalize hUE:dg (val ds * 2 ^ s)=UE at *;have HUE:=hid hUE;clear hUE;have k1:UE.length<=La+1:=hul;have k2:0+UE.length<=(List.replicate (La+1) 0).length:=by rw [rp]; omega
 have eq1:(La:Int)+1 - ((m:Int)+2)=nq:=by omega
 have amL:=fun W=>xdu (nq:Int) (by omega) (by omega) W
 have HNQ:=hid hnq;have aAO:nq<=La:=by omega
 clear hnq
 go_wp2_with (with_reducible refine ud3 rfl (.tmp 56) (.tmp 59) rfl w5.heap.size 0 (La + 1) (La + 1) A6 c6 UE (List.replicate (La + 1) 0) rfl rfl R6.out S3.out k1 k2 ?_
              intro w7 R7 O7;have R7':=hid R7;have O7':=hid O7
              clear R7 O7)
 have ace:Hid (qem w w5.heap.size w7.heap.size La nq A4 (dg (val es * 2 ^ s)) (val ds * 2 ^ s) nq (w7.alloc (Obj.cells (jdq (List.replicate nq 0)).toArray 108))):=by
  have r7:=R7'.out;rw [sR,uj,pH,List.drop_replicate] at r7;have hul:(UE ++ List.replicate (La+1 - UE.length) 0).length=La+1:=by simp; omega
  have hvu:val (UE ++ List.replicate (La+1 - UE.length) 0)=val ds * 2 ^ s:=by
   rw [val_append,wdv,sQ,sx,<- HUE.out,zdk]
  have x7:Ext w w7:=O7'.out.ext X6.out (by have:=X5.out.size; omega);refine ⟨UE ++ List.replicate (La+1 - UE.length) 0,List.replicate nq 0,r7.alloc _,hul,S3.out.1.append (kdk.replicate _),Row.new w7 _,by simp,kdk.replicate _,⟨?_,?_⟩,(P6.out.only O7'.out NB.out).ext ((Ext.refl _).alloc _),x7.alloc _⟩
  · rw [hvu,ux (by simp)]; simp
  · rw [zdk];refine pr ?_ HV1.out;have e1:=ydn (UE ++ List.replicate (La+1 - UE.length) 0) nq (by omega);have h1:=HU.out;have h2:=HNQ.out;rw [<- hvu,e1,show B32 ^ La=B32 ^ (m+1+nq) from by rw [<- h2],su,<- pS,re _ (B32 ^ nq)] at h1;exact Nat.lt_of_mul_lt_mul_left (sC (Nat.le_add_left _ _) h1)
 have GU:Hid (w5.heap.size < w7.heap.size):=by
  have:=O7'.out.size;have h2:w5.heap.size < w7.heap.size:=by omega
  exact h2
 clear R7' O7' S3 R6 P6 X6 P5 eq1 amL;generalize hgu:w5.heap.size=gu at *;generalize hgq:w7.heap.size=gq at *;generalize w7.alloc (Obj.cells (jdq (List.replicate nq 0)).toArray 108)=W8 at *;have arL:w.heap.size<=gu:=by have:=X5.out.size; omega
 have aA9:gu < gq:=GU.out;clear hgu hgq GU HU HUL HUE
 go_step3
 go_wp2_with fail
 go_loopw [13] (fun iv wr=>∃ k:Nat,k<=nq/\iv=.int .i64 ((k:Int) - 1)/\Hid (qem w gu gq La nq A4 (dg (val es * 2 ^ s)) (val ds * 2 ^ s) k wr)) (fun iv _=>(intOf iv+1).toNat)
 case atStart=>exact ⟨nq,pf _,rfl,ace⟩
 case round =>
  clear ace;obtain ⟨k,hk,rfl,HI⟩:=hrel;obtain ⟨us,qs,hru,hul,hud,hrq,hql,hqd,ahB,hva,ab1⟩:=HI.out;rcases k with _ | j
  · have HN1:Hid (zb1 wr (.slice (some ⟨gq,0,none⟩) nq nq) qs):=hrq.xO hqd _ _ hql (pf _) (by omega);have HN2:Hid (zb1 wr (.slice (some ⟨gu,0,none⟩) (La+1) (La+1)) us):=hru.xO hud _ _ hul (pf _) (by omega);have HQR:Hid (val qs=val ds / val es/\val us / 2 ^ s=val ds % val es):=by
     obtain ⟨k1,k2⟩:=ahB;rw [zdk,Nat.pow_zero,sw,rU] at k1;rw [zdk,rU] at k2;have hp:0 < 2 ^ s:=rF (by omega);have hV0:0 < val es * 2 ^ s:=by omega
     have d1:val ds * 2 ^ s / (val es * 2 ^ s)=val qs:=by rw [k1,tK _ _ hV0,sE k2,pH]
     have d2:val ds * 2 ^ s % (val es * 2 ^ s)=val us:=by rw [k1,tO,tS k2]
     rw [Nat.mul_div_mul_right _ _ hp] at d1;rw [Nat.mul_mod_mul_right] at d2;exact ⟨d1.symm,by rw [<- d2,Nat.mul_div_cancel _ hp]⟩
    have HX:=hid ab1;clear HI hru hul hud hrq hql hqd ahB hva ab1;go_wp2_with fail;refine (vdv _ _ _ HN1.out (by have:=HN1.out; obtain ⟨_,_,e,-⟩:=this; injection e with _ e; omega)).mono ?_;rw [HQR.out.1];rintro e wE ⟨vE,rfl,hvE,xE⟩;have HVE:=hid hvE;have XE:=hid xE;clear hvE xE;go_wp2_with fail;refine (gf9 _ _ _ _ (HN2.out.ext XE.out) (by have:=HN2.out; obtain ⟨_,_,e,-⟩:=this; injection e with _ e; omega) (by omega)).mono ?_;rw [HQR.out.2];rintro e wF ⟨vF,rfl,hvF,xF⟩;have HVF:=hid hvF;have XF:=hid xF;clear hvF xF;go_wp2_with fail;rw [Exit.noGoto_ret]
    go_ret2
    exact ⟨_,_,rfl,HVE.out.ext XF.out,HVF.out,HX.out.trans (XE.out.trans XF.out)⟩
  · have hjm:j+m+2<=La:=by have:=HNQ.out; omega
    have hvl:=HV2.out;obtain ⟨ad4,v1,rfl,hb1,amT,hv1,HVa⟩:=hva.qt (m+1) (by omega);obtain ⟨_,v2,e0,hb2,ao6,hv2,HVb⟩:=hva.qt m (by omega);injection e0 with e0
    subst e0;obtain ⟨u2,amU,_,HU2⟩:=hru.qt (j+(m+2)) (by omega);obtain ⟨u1,amV,_,HU1⟩:=hru.qt (j+(m+1)) (by omega);obtain ⟨u0,ao7,_,HU0⟩:=hru.qt (j+m) (by omega);obtain ⟨q0,arZ,arT,_⟩:=hrq.qt j (by omega);obtain ⟨z1,z2,z3,z4,z5,z6,z7⟩:=zfb hud (yd6 _) hvl (by omega) ahB.2 HU2.out HU1.out HU0.out HVa.out HVb.out (by rw [zdk]; exact HV1.out);have hu2:u2 < 4294967296:=hud _ (rH HU2.out);have hu1:u1 < 4294967296:=hud _ (rH HU1.out);have hu0:u0 < 4294967296:=hud _ (rH HU0.out);have Z:=hid (And.intro z1 (And.intro z2 (And.intro z3 (And.intro z6 z7))));have HRU:=hid (And.intro hru (And.intro hul hud));have HRQ:=hid (And.intro hrq (And.intro hql hqd));have HKI:=hid ahB;have HVA:=hid hva;have HEX:=hid ab1;clear HI z1 z2 z3 z6 z7 hru hul hud hrq hql hqd ahB hva ab1 hvl;rw [show (((j+1:Nat):Int) - 1)=(j:Int) from by omega];go_wp2_with fail;rw [show j+(m+2)+1 - j=m+2+1 from by omega]
    have atp:Hid (∀ W',Calls Tryz.prog 168 #[.int .u32 (u2:Nat),.int .u32 (u1:Nat),.int .u32 (u0:Nat),.int .u32 (v1:Nat),.int .u32 (v2:Nat)] W' fun e w' =>
     e=.returned (.int .u32 (yd2 B32 (u2 * B32 * B32+u1 * B32+u0) (v1 * B32+v2):Nat))/\∃ n,w'=W'.drewN n):=fun W'=>ze7 u2 u1 u0 v1 v2 W' z4 hu1 hu0 hv1 hv2 z5
    have alL:=wgg kdm (u2 * B32 * B32+u1 * B32+u0) (v1 * B32+v2);rw [vdk] at alL;rw [<- vdk] at alL;generalize yd2 B32 (u2 * B32 * B32+u1 * B32+u0) (v1 * B32+v2)=qh at *;obtain ⟨n,hn⟩:∃ n,n=m+2:=⟨_,rfl⟩;obtain ⟨n3,hn3⟩:∃ n3,n3=m+2+1:=⟨_,rfl⟩;obtain ⟨n1,hn1⟩:∃ n1,n1=m+1:=⟨_,rfl⟩;have en:(m:Int)+2=n:=by omega
    rw [<- hn3,<- hn,en];rw [<- hn1] at amT amV;rw [<- hn] at amU;have HN:=hid (And.intro hn (And.intro hn3 hn1));have i0:(0:Int)<=(n:Int):=by omega
    have i1:(n:Int) < n3:=by omega
    have i3:(n1:Int) < n3:=by omega
    have i5:(m:Int) < n3:=by omega
    have i6:(n1:Int) < n:=by omega
    have i7:(m:Int) < n:=by omega
    have i9:(j:Int) < nq:=by omega
    have avo:n<=17592186044416:=by omega
    have wp1:IntKind.i64.wrap ((n:Int) - 1)=n1:=by rw [so _ (by omega)]; omega
    have wp2:IntKind.i64.wrap ((n:Int) - 2)=m:=by rw [so _ (by omega)]; omega
    clear en hn hn3 hn1;have hb4:=NB4.out ad4 rfl
    have HSS:Hid (∀ n',((wr.drewN n').cell? ⟨gu,j+n,none⟩=some (.int .u32 (u2:Nat))/\(wr.drewN n').cell? ⟨gu,j+n1,none⟩=some (.int .u32 (u1:Nat))/\(wr.drewN n').cell? ⟨gu,j+m,none⟩=some (.int .u32 (u0:Nat)) /\
     (wr.drewN n').cell? (ad4.add n1)=some (.int .u32 (v1:Nat))/\(wr.drewN n').cell? (ad4.add m)=some (.int .u32 (v2:Nat)))):=
     fun n'=>⟨amU,amV,ao7,amT,ao6⟩
    have asZ:Hid (∀ n' x,(((wr.drewN n').setCell ⟨gq,j,none⟩ x).cell? ⟨gu,j+n,none⟩=some (.int .u32 (u2:Nat))/\((wr.drewN n').setCell ⟨gq,j,none⟩ x).cell? ⟨gu,j+n1,none⟩=some (.int .u32 (u1:Nat))/\((wr.drewN n').setCell ⟨gq,j,none⟩ x).cell? ⟨gu,j+m,none⟩=some (.int .u32 (u0:Nat)) /\
     ((wr.drewN n').setCell ⟨gq,j,none⟩ x).cell? (ad4.add n1)=some (.int .u32 (v1:Nat))/\((wr.drewN n').setCell ⟨gq,j,none⟩ x).cell? (ad4.add m)=some (.int .u32 (v2:Nat)))):=by
     intro n' x;refine ⟨?_,?_,?_,?_,?_⟩ <;> rw [pe _ _ _ _ (fun e=>by have:=congrArg Addr.block e; simp [zc1] at this; omega)]
     · exact amU
     · exact amV
     · exact ao7
     · exact amT
     · exact ao6
    have av1:∀ n',(wr.drewN n').cell? ⟨gq,j,none⟩=some (.int .u32 (q0:Nat)):=fun _=>arZ
    have avL:∀ n',(wr.drewN n').frozen? ⟨gq,j,none⟩=false:=fun _=>arT
    go_region_held3 (fun W'=>W'.cell? ⟨gu,j+n,none⟩=some (.int .u32 (u2:Nat))/\W'.cell? ⟨gu,j+n1,none⟩=some (.int .u32 (u1:Nat))/\W'.cell? ⟨gu,j+m,none⟩=some (.int .u32 (u0:Nat)) /\
     W'.cell? (ad4.add n1)=some (.int .u32 (v1:Nat))/\W'.cell? (ad4.add m)=some (.int .u32 (v2:Nat)))
     (first | exact HSS.out 1 | exact HSS.out _ | exact asZ.out _ _)
     ((go_at_call 168; refine (atp.out _).mono ?_; rintro e w' ⟨rfl,n9,rfl⟩))
    obtain ⟨hn,hn3,hn1⟩:=HN.out;subst hn;subst hn3;subst hn1;rw [show ((m+2:Nat):Int)=(m:Int)+2 from by simp];clear HSS asZ atp wp1 wp2 i0 i1 i3 i5 i6 i7 i9 avo amT ao6 amU amV ao7 arZ av1 arT avL HN hb1 hb2;obtain ⟨hru,hul,hud⟩:=HRU.out;obtain ⟨hrq,hql,hqd⟩:=HRQ.out;have hA:Row ((wr.drewN (1+n9)).setCell ⟨gq,j,none⟩ (.int .u32 (qh:Nat))) gu us:=(hru.drewN (1+n9)).yj (by simp; omega) _;have hB:Row ((wr.drewN (1+n9)).setCell ⟨gq,j,none⟩ (.int .u32 (qh:Nat))) gq (qs.set j qh):=(hrq.drewN (1+n9)).qG _ _;have avI:w.heap.size<=gq:=by omega
    have hC:Ext w ((wr.drewN (1+n9)).setCell ⟨gq,j,none⟩ (.int .u32 (qh:Nat))):=(HEX.out.drewN (1+n9)).setCell (by simpa using avI) _;have hD:ydm ((wr.drewN (1+n9)).setCell ⟨gq,j,none⟩ (.int .u32 (qh:Nat))) (some ad4) (dg (val es * 2 ^ s)):=by
     have o1:Only gq wr ((wr.drewN (1+n9)).setCell ⟨gq,j,none⟩ (.int .u32 (qh:Nat))):=((Only.refl gq wr).drewN (1+n9)).setCell _ _;exact HVA.out.only o1 (fun a e=>by injection e with e; subst e; omega)
    generalize (wr.drewN (1+n9)).setCell ⟨gq,j,none⟩ (.int .u32 (qh:Nat))=wA at *;have hcq:=hB.cell j (by rw [pN]; omega);rw [sy] at hcq;have hfq:=hB.frozen j;have HA:=hid hA;have HB:=hid hB;have HC:=hid hC;have HD:=hid hD;clear hA hB hC hD hru hrq hul hud hql hqd;go_wp2_with fail;obtain ⟨-,hul,hud⟩:=HRU.out;obtain ⟨-,hql,hqd⟩:=HRQ.out;have akH:∀ a,some ad4=some a->a.block ≠ gu:=fun a e=>by injection e with e; subst e; omega
    refine (zfw gu j (La+1 - j) (m+2) c4 qh us (dg (val es * 2 ^ s)) (some ad4) wA HA.out hud (by omega) (by omega) (by omega) HD.out HV2.out akH p1 p2 alL).mono ?_;rintro e wB ⟨ys,b,hb,rfl,hsi,hsv⟩
    change qd3 gu j us (m+3) wA wB ys at hsi
    change val (seg ys j (m+3))+qh * val (dg (val es * 2 ^ s))=val (seg us j (m+3))+B32 ^ (m+3) * b at hsv
    obtain ⟨t1,t2,t3,t4,t5,t6⟩:=hsi;obtain ⟨z1,z2,z3,z6,z7⟩:=Z.out;rw [z2,zdk] at hsv;rw [zdk] at z1 z6 z7;have ahG:0 < val es * 2 ^ s:=by
     have h1:=HV1.out;have h2:0 < 2147483648 * B32 ^ (m+1):=tg (by omega) (rF kdm);omega
    have hki:=HKI.out;rw [zdk] at hki;have hBq:Row wB gq (qs.set j qh):=HB.out.only t6 (by omega);have hBv:ydm wB (some ad4) (dg (val es * 2 ^ s)):=HD.out.only t6 akH;have hBx:Ext w wB:=t6.ext HC.out arL;rcases rO b with hb0 | hb1
    · subst hb0;obtain ⟨f1,f2⟩:=xfw ahG hsv z6;have HS:Hid (qem w gu gq La nq (some ad4) (dg (val es * 2 ^ s)) (val ds * 2 ^ s) j wB):=by
       refine ⟨ys,qs.set j qh,t1,by omega,t3,hBq,by rw [pN]; exact hql,hqd.set _ _ alL,?_,hBv,hBx⟩;rw [zdk];exact qes (n:=m+3) hki ahG (by omega) t2 (by omega) t4 t5 z3 (by omega) f2 f1
      clear hsv t1 t2 t3 t4 t5 t6 z1 z2 z3 z6 z7 hki hBq hBv hBx f1 f2 HA HB HC HD HRU HRQ HKI HVA HEX Z hul hud hql hqd ahG akH;go_wp2_with fail
      go_roundw
      case rel=>exact ⟨j,by omega,rfl,HS⟩
      case measure=>simp [intOf]
    · obtain rfl:b=1:=by omega
      have ar0:=hBq.cell j (by rw [pN]; omega);rw [sy] at ar0;have avM:=hBq.frozen j;have hV4:=qdu (yd6 (val es * 2 ^ s));rw [zdk,HV2.out] at hV4;have hVD:val es * 2 ^ s<=B32 ^ (m+3):=po (tq hV4) (pK kdm (by omega));have hS1:val (seg ys j (m+3)) < B32 ^ (m+3):=by
       have:=qdu ((t3.drop j).take (m+3));rw [px,pL,rh (by omega)] at this;exact this
      have aAD:0 < qh:=by
       rcases rO qh with e | e
       · exfalso
         rw [e,tc,th,sx] at hsv;exact absurd hS1 (by rw [hsv]; exact Nat.not_lt.2 (Nat.le_add_left _ _))
       · exact e
      have G:=hid (And.intro hsv (And.intro z7 (And.intro hVD (And.intro hS1 ahG))));have T:=hid (And.intro t1 (And.intro t2 (And.intro t3 (And.intro t4 (And.intro t5 t6)))));have HBQ:=hid hBq;have HBV:=hid hBv;have HBX:=hid hBx;have atg:=hid hki;have HZ3:=hid z3;rw [vdk] at alL;clear hsv t1 t2 t3 t4 t5 t6 z1 z2 z3 z6 z7 hki hBq hBv hBx ahG hVD hS1 hV4 HA HB HC HD hcq hfq;go_wp2_with fail;obtain ⟨t1,t2,t3,t4,t5,t6⟩:=T.out;have avJ:w.heap.size<=gq:=by omega
      have hq1:((qh:Int) - 1)=((qh - 1:Nat):Int):=by omega
      rw [hq1];have hA:Row (wB.setCell ⟨gq,j,none⟩ (.int .u32 ((qh - 1:Nat):Int))) gu ys:=t1.yj (by simp; omega) _;have hB:Row (wB.setCell ⟨gq,j,none⟩ (.int .u32 ((qh - 1:Nat):Int))) gq (qs.set j (qh - 1)):=by
       have:=HBQ.out.qG j (qh - 1);rw [List.set_set] at this;exact this
      have hC:Ext w (wB.setCell ⟨gq,j,none⟩ (.int .u32 ((qh - 1:Nat):Int))):=HBX.out.setCell (by simpa using avJ) _
      have hD:ydm (wB.setCell ⟨gq,j,none⟩ (.int .u32 ((qh - 1:Nat):Int))) (some ad4) (dg (val es * 2 ^ s)):=
       HBV.out.only ((Only.refl gq wB).setCell _ _) (fun a e=>by injection e with e; subst e; omega)
      generalize wB.setCell ⟨gq,j,none⟩ (.int .u32 ((qh - 1:Nat):Int))=wC at *;refine (wf6 gu j (La+1 - j) (m+2) c4 ys (dg (val es * 2 ^ s)) (some ad4) wC hA t3 (by omega) (by omega) (by omega) hD HV2.out akH p1 p2).mono ?_;rintro e wD ⟨xs,cc,rfl,hsi,hcv⟩
      change qd3 gu j ys (m+3) wC wD xs at hsi
      change val (seg xs j (m+3))+B32 ^ (m+3) * cc=val (seg ys j (m+3))+val (dg (val es * 2 ^ s)) at hcv
      rw [zdk] at hcv;obtain ⟨s1,s2,s3,s4,s5,s6⟩:=hsi;obtain ⟨g1,g2,g3,g4,g5⟩:=G.out;have hS2:val (seg xs j (m+3)) < B32 ^ (m+3):=by
       have:=qdu ((s3.drop j).take (m+3));rw [px,pL,rh (by omega)] at this;exact this
      obtain ⟨f1,-,f3⟩:=yfw g5 g3 g4 hS2 g1 g2 hcv;have HS:Hid (qem w gu gq La nq (some ad4) (dg (val es * 2 ^ s)) (val ds * 2 ^ s) j wD):=by
       refine ⟨xs,qs.set j (qh - 1),s1,by omega,s3,hB.only s6 (by omega),by rw [pN]; exact hql,hqd.set _ _ (by rw [vdk]; omega),?_,hD.only s6 akH,s6.ext hC arL⟩;rw [zdk];exact qes (n:=m+3) atg.out g5 (by omega) (s2.trans t2) (by omega) (s4.trans t4) (s5.trans t5) HZ3.out (by omega) f3 f1
      clear hcv s1 s2 s3 s4 s5 s6 g1 g2 g3 g4 g5 hS2 f1 f3 t1 t2 t3 t4 t5 t6 hA hB hC hD hq1 G T HBQ HBV HBX atg HZ3 HRU HRQ HKI HVA HEX Z hul hud hql hqd akH ar0 avM;go_wp2_with fail
      go_roundw
      case rel=>exact ⟨j,by omega,rfl,HS⟩
      case measure=>simp [intOf]
theorem jet (u v:Value) (ds es:List Nat) (w:World) (h:zb1 w u ds) (k:zb1 w v es) (hs:ds.length<=17592186044416) (hs':es.length<=17592186044416) (h0:val es ≠ 0) :
 Calls Tryz.prog 153 #[u,v] w (ve0 (val ds / val es) (val ds % val es) w):=by
 rcases rz (val ds) (val es) with hlt | hge
 · exact je7 u v ds es w h k hs hs' hlt
 · rcases rz (dg (val es)).length 2 with h1 | h2
   · have h3:=gdu (val es);have h4:B32 ^ (dg (val es)).length<=B32 ^ 1:=pK kdm (by omega);rw [Nat.pow_one] at h4;exact wfk u v ds es w h k hs hs' hge h0 (pr h3 h4)
   · exact wfb u v ds es w h k hs hs' hge h2
theorem kfj (x:Value) (z:Int) (L:Nat) (w:World) (h:wdl w x z L):Calls Tryz.prog 155 #[x] w fun e w'=>e=.returned (.bool (z == 0))/\Ext w w':=by
 obtain ⟨neg,v,ds,rfl,⟨A,c,rfl,h1,h2,h3⟩,hz,hl⟩:=h;have HX0:Hid (Ext w (w.alloc (Obj.cells #[.bool neg,.slice A ds.length c] 25))):=(Ext.refl w).alloc _;have H3:=hid h3;have HZ:=hid hz;clear h3 hz;go_enter Tryz.func155,Tryz.ntmps155;go_wp2_with fail;refine (wd7 _ z L _ ⟨neg,_,ds,rfl,⟨A,c,rfl,h1,h2,H3.out.ext HX0.out⟩,HZ.out,hl⟩).mono ?_;rintro e w2 ⟨rfl,x2⟩;have X2:=hid (HX0.out.trans x2);clear x2;have HB:Hid ((sgI z == 0)=(z == 0)):=by
  have:(sgI z == 0)=(z == 0):=by
   unfold sgI;rcases sU z 0 with h | h | h
   · rw [zd2 h,sX,beq_iff_eq,beq_iff_eq]; omega
   · rw [yeg h,sX,beq_iff_eq,beq_iff_eq]; omega
   · rw [wd8 h,sX,beq_iff_eq,beq_iff_eq]; omega
  exact this
 generalize sgI z=sz at *;go_wp2_with fail;go_ret;exact ⟨by rw [<- HB.out]; rfl,X2.out⟩
theorem yfx (neg abR:Bool) (m n:Nat):sgn (!neg == abR) (m / n)=(sgn neg m).tdiv (sgn abR n):=by
 cases neg <;> cases abR <;> simp [sgn,Int.neg_tdiv,Int.tdiv_neg]
theorem zfx (neg abR:Bool) (m n:Nat):sgn neg (m % n)=(sgn neg m).tmod (sgn abR n):=by
 have e:((m % n:Nat):Int)=(m:Int).tmod n:=rfl;cases neg <;> cases abR <;> simp only [sgn,Int.neg_tmod,Int.tmod_neg,e,if_true,if_false,tf]
def vfu (q r:Int) (w:World) (e:Ending) (w':World):Prop:=∃ x y,e=.returned (.tuple #[x,y,.int .i64 0])/\udy w' x q/\udy w' y r/\Ext w w'
theorem xfl {w W : World} {g g' : Nat} {q r : Int} {b s b' s' u0 u1 u2 u3 : Value} (hx : Ext w W) (hg : w.heap.size <= g) (hg' : w.heap.size <= g') (hne : g ≠ g') (h0 : W.cell? ⟨g, 0, none⟩ = some u0) (h1 : W.cell? ⟨g, 1, none⟩ = some u1)
 (h2:W.cell? ⟨g',0,none⟩=some u2) (h3:W.cell? ⟨g',1,none⟩=some u3) (d0:wdo u0=false) (d1:wdo u1=false) (d2:wdo u2=false) (d3:wdo u3=false) (hN:udy W (.agg #[b,s]) q) (hM:udy W (.agg #[b',s']) r) :
 vfu q r w (.returned (.tuple #[.agg #[b,s],.agg #[b',s'],.int .i64 0])) ((((W.setCell ⟨g,0,none⟩ b).setCell ⟨g,1,none⟩ s).setCell ⟨g',0,none⟩ b').setCell ⟨g',1,none⟩ s'):=by
 have k1:(W.setCell ⟨g,0,none⟩ b).cell? ⟨g,1,none⟩=some u1:=by rw [pe _ _ _ _ (by simp),h1]
 have k2:((W.setCell ⟨g,0,none⟩ b).setCell ⟨g,1,none⟩ s).cell? ⟨g',0,none⟩=some u2:=by
  rw [pe _ _ _ _ (by simp),pe _ _ _ _ (by simp),h2]
 have k3:(((W.setCell ⟨g,0,none⟩ b).setCell ⟨g,1,none⟩ s).setCell ⟨g',0,none⟩ b').cell? ⟨g',1,none⟩=some u3:=by
  rw [pe _ _ _ _ (by simp),pe _ _ _ _ (by simp),pe _ _ _ _ (by simp),h3]
 exact ⟨_,_,rfl,(((hN.box h0 d0 _).box k1 d1 _).box k2 d2 _).box k3 d3 _,(((hM.box h0 d0 _).box k1 d1 _).box k2 d2 _).box k3 d3 _,(((hx.setCell (by simpa using hg) _).setCell (by simpa using hg) _).setCell (by simpa using hg') _).setCell (by simpa using hg') _⟩
theorem ufc (x y:Value) (a b:Int) (L M:Nat) (w:World) (h:wdl w x a L) (k:wdl w y b M) (hs:L<=17592186044416) (hs':M<=17592186044416) (hb0:b ≠ 0) :
 Calls Tryz.prog 138 #[x,y] w (vfu (a.tdiv b) (a.tmod b) w):=by
 obtain ⟨neg,v,ds,rfl,⟨A,c,rfl,h1,h2,h3⟩,hz,hl⟩:=h;obtain ⟨abR,v',ds',rfl,⟨A',c',rfl,h1',h2',h3'⟩,hz',hl'⟩:=k;have hd0:val ds' ≠ 0:=by
  intro e;apply hb0;rw [hz',e]; cases abR <;> rfl
 have HQ:Hid (a.tdiv b=sgn (!neg == abR) (val ds / val ds')/\a.tmod b=sgn neg (val ds % val ds')):=
  ⟨by rw [hz,hz',yfx],by rw [hz,hz',zfx neg abR]⟩
 rw [HQ.out.1,HQ.out.2];have H3:=hid h3;have H3':=hid h3';have HZ':=hid hz';have hbb:(b == 0)=false:=beq_eq_false_iff_ne.2 hb0;clear h3 h3' hz hz' hb0 HQ;go_enter Tryz.func138,Tryz.ntmps138;go_wp2_with fail;generalize hW:(((w.alloc (Obj.cells #[.bool neg,.slice A ds.length c] 25)).alloc (Obj.cells #[.bool abR,.slice A' ds'.length c'] 25)).alloc (Obj.cells #[.bool false,.slice none 0 0] 25)).alloc (Obj.cells #[.bool false,.slice none 0 0] 25)=W;have HX0:Hid (Ext w W):=by
  have:Ext w W:=by rw [<- hW]; exact ((((Ext.refl w).alloc _).alloc _).alloc _).alloc _
  exact this
 have HWS:Hid (W.heap.size=w.heap.size+1+1+1+1):=by
  have:W.heap.size=w.heap.size+1+1+1+1:=by rw [<- hW]; simp
  exact this
 have HS:Hid (∀ W',Ext W W'->(Ext w W'/\W'.cell? ⟨w.heap.size,0,none⟩=some (.bool neg)/\W'.cell? ⟨w.heap.size,1,none⟩=some (.slice A ds.length c)/\W'.cell? ⟨w.heap.size+1,0,none⟩=some (.bool abR)/\W'.cell? ⟨w.heap.size+1,1,none⟩=some (.slice A' ds'.length c'))):=by
  intro W' hx;obtain ⟨hc,hf⟩:=hx.cells;have hsz:=HWS.out;refine ⟨HX0.out.trans hx,?_,?_,?_,?_⟩ <;> (rw [hc _ _ (by omega),<- hW]; simp [go_sem])
 have HR:Hid (∀ W',Ext W W'->(W'.cell? ⟨w.heap.size+1+1,0,none⟩=some (.bool false)/\W'.cell? ⟨w.heap.size+1+1,1,none⟩=some (.slice none 0 0)/\W'.cell? ⟨w.heap.size+1+1+1,0,none⟩=some (.bool false)/\W'.cell? ⟨w.heap.size+1+1+1,1,none⟩=some (.slice none 0 0)/\W'.frozen? ⟨w.heap.size+1+1,0,none⟩=false/\W'.frozen? ⟨w.heap.size+1+1,1,none⟩=false/\W'.frozen? ⟨w.heap.size+1+1+1,0,none⟩=false/\W'.frozen? ⟨w.heap.size+1+1+1,1,none⟩=false)):=by
  intro W' hx;obtain ⟨hc,hf⟩:=hx.cells;have hsz:=HWS.out;refine ⟨?_,?_,?_,?_,?_,?_,?_,?_⟩ <;> first | (rw [hc _ _ (by omega),<- hW]; simp [go_sem]; done) | (rw [hf _ _ (by omega),<- hW]; simp [go_sem]; done)
 have ahK:Hid (∀ W'' v0 v1,Ext W W''->∀ W',W'=(W''.setCell ⟨w.heap.size+1+1,0,none⟩ v0).setCell ⟨w.heap.size+1+1,1,none⟩ v1->(Ext w W'/\W'.cell? ⟨w.heap.size,0,none⟩=some (.bool neg)/\W'.cell? ⟨w.heap.size,1,none⟩=some (.slice A ds.length c)/\W'.cell? ⟨w.heap.size+1,0,none⟩=some (.bool abR)/\W'.cell? ⟨w.heap.size+1,1,none⟩=some (.slice A' ds'.length c'))):=by
  intro W'' v0 v1 hx W' hW';obtain ⟨s1,c0,c1,c2,c3⟩:=HS.out W'' hx;rw [hW'];refine ⟨(s1.setCell (by simp; try omega) _).setCell (by simp; try omega) _,?_,?_,?_,?_⟩ <;> rw [pe _ _ _ _ (by simp; try omega),pe _ _ _ _ (by simp; try omega)] <;> assumption
 have HS2:Hid (∀ W'' v0 v1 v2 v3,Ext W W''->∀ W',W'=(((W''.setCell ⟨w.heap.size+1+1,0,none⟩ v0).setCell ⟨w.heap.size+1+1,1,none⟩ v1).setCell ⟨w.heap.size+1+1+1,0,none⟩ v2).setCell ⟨w.heap.size+1+1+1,1,none⟩ v3->(Ext w W'/\W'.cell? ⟨w.heap.size,0,none⟩=some (.bool neg)/\W'.cell? ⟨w.heap.size,1,none⟩=some (.slice A ds.length c)/\W'.cell? ⟨w.heap.size+1,0,none⟩=some (.bool abR)/\W'.cell? ⟨w.heap.size+1,1,none⟩=some (.slice A' ds'.length c'))):=by
  intro W'' v0 v1 v2 v3 hx W' hW';obtain ⟨s1,c0,c1,c2,c3⟩:=HS.out W'' hx;rw [hW'];refine ⟨(((s1.setCell (by simp; try omega) _).setCell (by simp; try omega) _).setCell (by simp; try omega) _).setCell (by simp; try omega) _,?_,?_,?_,?_⟩ <;> rw [pe _ _ _ _ (by simp; try omega),pe _ _ _ _ (by simp; try omega),pe _ _ _ _ (by simp; try omega),pe _ _ _ _ (by simp; try omega)] <;> assumption
 clear hW;obtain ⟨e0,b0,b1,b2,b3⟩:=HS.out W (Ext.refl W);refine (kfj _ b M _ ⟨abR,_,ds',rfl,⟨A',c',rfl,h1',h2',H3'.out.ext e0⟩,HZ'.out,hl'⟩).mono ?_;rintro e w1 ⟨rfl,y1⟩;have Y1:=hid y1;clear e0 b0 b1 b2 b3;obtain ⟨e0,b0,b1,b2,b3⟩:=HS.out w1 y1;have E0:=hid e0;clear e0 y1;go_wp2_with fail;refine (jet _ _ ds ds' _ ⟨A,c,rfl,h1,h2,H3.out.ext E0.out⟩ ⟨A',c',rfl,h1',h2',H3'.out.ext E0.out⟩ (by omega) (by omega) hd0).mono ?_;rintro e w2 ⟨vq,vr,rfl,nq,nr,x2⟩;have y2:=Y1.out.trans x2;have Y2:=hid y2;have NQ:=hid nq;have NR:=hid nr;have hlq:(dg (val ds / val ds')).length<=17592186044416:=po (ydq (Nat.div_le_self _ _)) (po (xdk H3.out.1) (by omega));have hlr:(dg (val ds % val ds')).length<=17592186044416:=po (ydq (Nat.mod_le _ _)) (po (xdk H3.out.1) (by omega));clear nq nr x2 y2 b0 b1 b2 b3 hd0;go_wp2_with fail
 go_region_held3 (fun W' => Ext w W' /\ W'.cell? ⟨w.heap.size, 0, none⟩ = some (.bool neg) /\ W'.cell? ⟨w.heap.size, 1, none⟩ = some (.slice A ds.length c) /\ W'.cell? ⟨w.heap.size + 1, 0, none⟩ = some (.bool abR) /\ W'.cell? ⟨w.heap.size + 1, 1, none⟩ = some (.slice A' ds'.length c'))
  (first | exact HS.out _ (Y2.out.drew) | exact HS.out _ (by assumption) | exact ahK.out _ _ _ (by assumption) _ rfl | exact HS2.out _ _ _ _ _ (by assumption) _ rfl)
  (first
    | (go_at_call_of 110 (Value.bool (!neg == abR))
       refine (ud5 _ _ _ _ (NQ.out.ext ((Ext.refl w2).drew)) (by omega)).mono ?_;rw [zdk];rintro e w3 ⟨x3,rfl,⟨v3,rfl,A3,c3,rfl,q1,q2,q3⟩,z3⟩;have y3:Ext W w3:=Ext.trans Y2.out.drew z3
       have z3':Ext w2 w3:=Ext.trans (Ext.refl w2).drew z3)
    | (go_at_call_of 110 (Value.bool neg)
       refine (ud5 _ _ _ _ (NR.out.ext z3') (by omega)).mono ?_;rw [zdk];rintro e w4 ⟨x4,rfl,⟨v4,rfl,A4,c4,rfl,p1,p2,p3⟩,z4⟩;have y4:Ext W w4:=Ext.trans y3 z4
       obtain ⟨r0,r1,r2,r3,f0,f1,f2,f3⟩:=HR.out w4 y4))
 have n3:udy w4 (.agg #[.bool (decide (sgn (!neg == abR) (val ds / val ds') < 0)),.slice A3 (dg (sgn (!neg == abR) (val ds / val ds')).natAbs).length c3]) (sgn (!neg == abR) (val ds / val ds')):=udy.ext ⟨_,rfl,A3,c3,rfl,q1,q2,q3⟩ z4;have HF:=hid (xfl (g:=w.heap.size+1+1) (g':=w.heap.size+1+1+1) (HX0.out.trans y4) (by omega) (by omega) (by omega) r0 r1 r2 r3 rfl rfl rfl rfl n3 ⟨_,rfl,A4,c4,rfl,p1,p2,p3⟩);clear HS HS2 ahK HR y3 y4 z3 z3' z4 q3 p3 n3;go_wp2_with fail;exact bodyPost_ret (v:=.tuple #[.agg #[.bool (decide (sgn (!neg == abR) (val ds / val ds') < 0)),.slice A3 (dg (sgn (!neg == abR) (val ds / val ds')).natAbs).length c3],.agg #[.bool (decide (sgn neg (val ds % val ds') < 0)),.slice A4 (dg (sgn neg (val ds % val ds')).natAbs).length c4],.int .i64 0]) (by simp [results,Tryz.results138,go_sem,r0,r1,r2,r3]) rfl HF.out
end Go.Proofs.YtheefiaoimbeiaaGreatDoor
