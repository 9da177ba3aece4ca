/- Layer 3 (division): long division, the main case. -/
import Derived.Test.YtcepajijiabkmaaGreatMp43
set_option linter.unusedSimpArgs false
set_option linter.unusedVariables false

set_option maxRecDepth 100000
set_option maxHeartbeats 8000000
namespace Go.Proofs.YtcepajijiabkmaaGreat
open Lib (hid)
open Go.RowKit
theorem vck {V s m t:Nat} (hl:(dg V).length=m+2) (ht:(dg V)[m+1]?=some t) (h1:2147483648<=t * 2 ^ s) (h2:t * 2 ^ s < 4294967296) (hs:s < 32) :
 2147483648 * B32 ^ (m+1)<=V * 2 ^ s/\(dg (V * 2 ^ s)).length=m+2:=by
 have hB:=yj;have e:=yh (E:=dg V) (k:=m+1) (x:=t) ht;rw [pT (by omega),qg] at e;have af:=jy ((qam V).take (m+1));rw [pA,sh (by omega)] at af;have g1:2147483648 * B32 ^ (m+1)<=V * 2 ^ s:=by
  have h3:=pE (B32 ^ (m+1)) h1;rw [e,rN,rT (B32 ^ (m+1)),sj (B32 ^ (m+1)) (t * 2 ^ s)];omega
 refine ⟨g1,?_⟩;have g2:V * 2 ^ s < B32 ^ (m+2):=by
  have hq:(t+1) * 2 ^ s<=B32:=by
   obtain ⟨q,hq⟩:∃ q,B32=q * 2 ^ s:=⟨2 ^ (32 - s),by rw [<- wk,show 32 - s+s=32 from by omega]; rfl⟩;rw [hq];have h4:t * 2 ^ s < q * 2 ^ s:=by rw [<- hq]; exact h2
   exact pE _ (RM h4)
  have h5:V * 2 ^ s < (t+1) * B32 ^ (m+1) * 2 ^ s:=Pd (by rw [e,rN,tr,sj t]; omega) (tp (by omega));have h6:=pE (B32 ^ (m+1)) hq;rw [se,sj (B32 ^ (m+1))];rw [Nat.mul_right_comm] at h5;omega
 have g3:=yf g2;rcases tG (dg (V * 2 ^ s)).length (m+2) with h | h
 · exfalso
   have h7:=xae (V * 2 ^ s);have h8:B32 ^ (dg (V * 2 ^ s)).length<=B32 ^ (m+1):=rS hB (by omega);have h9:B32 ^ (m+1)<=2147483648 * B32 ^ (m+1):=St _ (by omega);omega
 · omega
def ja9 (w0:World) (gu gq La nq:Nat) (A:Option Addr) (vs:List Nat) (U k:Nat) (wr:World):Prop:=
 ∃ us qs:List Nat,Row wr gu us/\us.length=La+1/\vg us/\Row wr gq qs/\qs.length=nq/\vg qs/\jc2 U (val vs) us qs k/\uj wr A vs/\Ext w0 wr
theorem xb7 (u v:Value) (ds es:List Nat) (w:World) (h:jc w u ds) (k:jc w v es) (hs:ds.length<=17592186044416) (BM:es.length<=17592186044416) (oJ:val es<=val ds) (zG:2<=(dg (val es)).length) :
 Calls Tryz.prog 116 #[u,v] w (kbs (val ds / val es) (val ds % val es) w):=by
 have H:=hid h;have K:=hid k;have oh:=hid oJ;have hla:(dg (val ds)).length<=ds.length:=zi h.kq;have rC:(dg (val es)).length<=es.length:=zi k.kq;have oK:(dg (val es)).length<=(dg (val ds)).length:=yu oJ;clear h k oJ;obtain ⟨m,hm⟩:∃ m,(dg (val es)).length=m+2:=⟨(dg (val es)).length - 2,by omega⟩;have HM:=hid hm;rw [hm] at rC oK zG;clear hm;obtain ⟨La,UI⟩:=n_m ((dg (val ds)).length);have VS:=hid UI;rw [UI] at hla oK;clear UI;go_enter Tryz.func116,Tryz.ntmps116;go_wp2_with fail
 go_step3
 go_wp2_with fail;refine (jab _ _ _ K.out (by omega)).mono ?_;rintro e w1 ⟨v1,rfl,bD,x1⟩;go_wp2_with fail;refine (xaq _ _ _ _ _ (H.out.ext x1) bD).mono ?_;rw [qg];have gU:0<=jh (val ds) (val es):=by have:=oh.out; unfold jh; split <;> (try split) <;> omega
 have FI:=(zak (val ds) (val es)).2;generalize jh (val ds) (val es)=cm at *;rintro e w2 ⟨rfl,n2,yH⟩;have y2:Ext w1 w2:=by rw [yH]; exact (Ext.refl w1).drewN n2
 have X2:=hid (x1.trans y2);have uQ:=bD.ext y2;clear yH bD x1 y2;obtain ⟨A,c,rfl,q1,q2,q3⟩:=uQ;rw [HM.out] at q1 ⊢;obtain ⟨ad,t,rfl,hb,aj,ht1,HT⟩:=q3.xS (m+1) (by have:=HM.out; omega);have ht0:t ≠ 0:=by
  intro e;have h1:=gbv (n:=val es) (by intro e0; have:=HM.out; rw [e0,qm] at this; simp at this);have e1:=yh HT;rw [pT (by have:=HM.out; omega),qg,e,wy,s8] at e1;have af:=jy ((qam (val es)).take (m+1));rw [pA,sh (by have:=HM.out; omega),<- e1] at af;rw [HM.out] at h1;exact absurd af (Nat.not_lt.2 h1)
 rw [yb2] at aj;have Q3:=hid q3;have jZ:(((m:Int)+2) == 1)=false:=beq_eq_false_iff_ne.2 (by omega);clear q3;go_wp2_with fail;refine (ubx t _ ht0 ht1).mono ?_;rintro e w3 ⟨⟨s,bW,ZH,ht3,rfl⟩,rfl⟩;obtain ⟨jK,rF⟩:=vck HM.out HT.out ZH ht3 bW;have HV1:=hid jK;have uJ:=hid rF;clear ZH ht3 jK rF ht0;go_wp2_with fail;refine (vb8 _ (dg (val es)) s _ ⟨some ad,c,by rw [HM.out],by rw [HM.out]; exact q1,q2,Q3.out⟩ (by rw [HM.out]; omega) (by omega)).mono ?_;rw [qg];rintro e w4 ⟨v4,rfl,uP,x4⟩;have X4:=hid (X2.out.trans x4);obtain ⟨A4,c4,rfl,p1,p2,p3⟩:=uP;rw [uJ.out] at p1 ⊢;have P3:=hid p3;clear p3 x4 Q3 aj HT jZ;go_wp2_with fail;refine (jab _ _ _ (H.out.ext X4.out) (by omega)).mono ?_;rintro e w5 ⟨v5,rfl,⟨A5,c5,rfl,-,-,-⟩,x5⟩;rw [VS.out];have X5:=hid (X4.out.trans x5);have P5:=hid (P3.out.ext x5);clear x5 P3;have dw:=fun W=>qaa ((La:Int)+1) (by omega) (by omega) W
 go_wp2_with fail;have HU:Hid (val ds * 2 ^ s < 2147483648 * B32 ^ La):=by
  have h1:=xae (val ds);rw [VS.out] at h1;have h2:2 ^ s<=2 ^ 31:=rS (by omega) (by omega);have h3:val ds * 2 ^ s < B32 ^ La * 2 ^ s:=Pd h1 (tp (by omega));have h4:B32 ^ La * 2 ^ s<=B32 ^ La * 2147483648:=sE _ h2;have:val ds * 2 ^ s < 2147483648 * B32 ^ La:=by rw [sj 2147483648]; omega
  exact this
 have HUL:Hid ((dg (val ds * 2 ^ s)).length<=La+1):=by
  have:(dg (val ds * 2 ^ s)).length<=La+1:=by
   apply yf;have:=HU.out;have h5:2147483648 * B32 ^ La<=B32 * B32 ^ La:=pE _ (by decide);rw [se,sj (B32 ^ La)];omega
  exact this
 have WM:Ext w5 (w5.alloc (Obj.cells (jr (List.replicate (La+1) 0)).toArray 84)):=(Ext.refl _).alloc _;refine (vb8 _ ds s _ (H.out.ext (X5.out.trans WM)) (by omega) (by omega)).mono ?_;rintro e w6 ⟨v6,rfl,JI,x6⟩;have R6:=hid ((Row.new w5 (List.replicate (La+1) 0)).ext x6);have X6:=hid (X5.out.trans (WM.trans x6));have P6:=hid (P5.out.ext (WM.trans x6));have aiR:w5.heap.size < w6.heap.size:=R6.out.lt;have NB4:Hid (∀ a,A4=some a->a.block < w5.heap.size):=by
  intro a e;subst e;obtain ⟨a',e',eP,-⟩:=P5.out.2 (by have:=uJ.out; omega);injection e' with e'
  subst e';omega
 have NB:Hid (∀ a,A4=some a->a.block ≠ w5.heap.size):=fun a e=>by have:=NB4.out a e; omega
 obtain ⟨A6,c6,rfl,s1,s2,s3⟩:=JI;have S3:=hid s3;clear s3 x6 WM dw;obtain ⟨nq,hnq,aiF⟩:∃ nq,La=m+1+nq/\1<=nq:=⟨La - m - 1,by omega,by omega⟩;have yI:=HUL.out;generalize hUE:dg (val ds * 2 ^ s)=UE at *;have HUE:=hid hUE;clear hUE;have k1:UE.length<=La+1:=yI;have k2:0+UE.length<=(List.replicate (La+1) 0).length:=by rw [p8]; omega
 have eq1:(La:Int)+1 - ((m:Int)+2)=nq:=by omega
 have sG:=fun W=>qaa (nq:Int) (by omega) (by omega) W
 have DD:=hid hnq;have aiE:nq<=La:=by omega
 clear hnq
 go_wp2_with (with_reducible refine kaj rfl (.tmp 56) (.tmp 59) rfl w5.heap.size 0 (La + 1) (La + 1) A6 c6 UE (List.replicate (La + 1) 0) rfl rfl R6.out S3.out k1 k2 ?_
              intro w7 R7 O7;have R7':=hid R7;have Yj:=hid O7
              clear R7 O7)
 have cZ:Hid (ja9 w w5.heap.size w7.heap.size La nq A4 (dg (val es * 2 ^ s)) (val ds * 2 ^ s) nq (w7.alloc (Obj.cells (jr (List.replicate nq 0)).toArray 84))):=by
  have r7:=R7'.out;rw [s9,tI,rh,List.drop_replicate] at r7;have yI:(UE ++ List.replicate (La+1 - UE.length) 0).length=La+1:=by simp; omega
  have hvu:val (UE ++ List.replicate (La+1 - UE.length) 0)=val ds * 2 ^ s:=by
   rw [val_append,uab,wy,s8,<- HUE.out,qg]
  have x7:Ext w w7:=Yj.out.ext X6.out (by have:=X5.out.size; omega);refine ⟨UE ++ List.replicate (La+1 - UE.length) 0,List.replicate nq 0,r7.alloc _,yI,S3.out.1.append (vg.replicate _),Row.new w7 _,by simp,vg.replicate _,⟨?_,?_⟩,(P6.out.only Yj.out NB.out).ext ((Ext.refl _).alloc _),x7.alloc _⟩
  · rw [hvu,tU (by simp)]; simp
  · rw [qg];refine pw ?_ HV1.out;have e1:=jk (UE ++ List.replicate (La+1 - UE.length) 0) nq (by omega);have h1:=HU.out;have h2:=DD.out;rw [<- hvu,e1,show B32 ^ La=B32 ^ (m+1+nq) from by rw [<- h2],wk,<- rT,sj _ (B32 ^ nq)] at h1;exact Nat.lt_of_mul_lt_mul_left (sw (Nat.le_add_left _ _) h1)
 have GU:Hid (w5.heap.size < w7.heap.size):=by
  have:=Yj.out.size;have h2:w5.heap.size < w7.heap.size:=by omega
  exact h2
 clear R7' Yj S3 R6 P6 X6 P5 eq1 sG;generalize hgu:w5.heap.size=gu at *;generalize hgq:w7.heap.size=gq at *;generalize w7.alloc (Obj.cells (jr (List.replicate nq 0)).toArray 84)=W8 at *;have Ti:w.heap.size<=gu:=by have:=X5.out.size; omega
 have ajd:gu < gq:=GU.out;clear hgu hgq GU HU HUL HUE
 go_step3
 go_wp2_with fail
 go_loopw [13] (fun iv wr=>∃ k:Nat,k<=nq/\iv=.int .i64 ((k:Int) - 1)/\Hid (ja9 w gu gq La nq A4 (dg (val es * 2 ^ s)) (val ds * 2 ^ s) k wr)) (fun iv _=>(intOf iv+1).toNat)
 case atStart=>exact ⟨nq,pj _,rfl,cZ⟩
 case round =>
  clear cZ;obtain ⟨k,hk,rfl,HI⟩:=hrel;obtain ⟨us,qs,uX,yI,wL,AU,rY,yN,sJ,Qx,aA⟩:=HI.out;rcases k with _ | j
  · have DF:Hid (jc wr (.slice (some ⟨gq,0,none⟩) nq nq) qs):=AU.kO yN _ _ rY (pj _) (by omega);have Jg:Hid (jc wr (.slice (some ⟨gu,0,none⟩) (La+1) (La+1)) us):=uX.kO wL _ _ yI (pj _) (by omega);have HQR:Hid (val qs=val ds / val es/\val us / 2 ^ s=val ds % val es):=by
     obtain ⟨k1,k2⟩:=sJ;rw [qg,Nat.pow_zero,tr,Pw] at k1;rw [qg,Pw] at k2;have hp:0 < 2 ^ s:=tp (by omega);have fV:0 < val es * 2 ^ s:=by omega
     have d1:val ds * 2 ^ s / (val es * 2 ^ s)=val qs:=by rw [k1,RR _ _ fV,Pk k2,rh]
     have d2:val ds * 2 ^ s % (val es * 2 ^ s)=val us:=by rw [k1,R8,Sa k2]
     rw [Nat.mul_div_mul_right _ _ hp] at d1;rw [Nat.mul_mod_mul_right] at d2;exact ⟨d1.symm,by rw [<- d2,Nat.mul_div_cancel _ hp]⟩
    have HX:=hid aA;clear HI uX yI wL AU rY yN sJ Qx aA;go_wp2_with fail;refine (jab _ _ _ DF.out (by have:=DF.out; obtain ⟨_,_,e,-⟩:=this; injection e with _ e; omega)).mono ?_;rw [HQR.out.1];rintro e wE ⟨vE,rfl,hvE,xE⟩;have HVE:=hid hvE;have XE:=hid xE;clear hvE xE;go_wp2_with fail;refine (vc5 _ _ _ _ (Jg.out.ext XE.out) (by have:=Jg.out; obtain ⟨_,_,e,-⟩:=this; injection e with _ e; omega) (by omega)).mono ?_;rw [HQR.out.2];rintro e wF ⟨vF,rfl,hvF,xF⟩;have HVF:=hid hvF;have XF:=hid xF;clear hvF xF;go_wp2_with fail;rw [Exit.noGoto_ret]
    go_ret2
    exact ⟨_,_,rfl,HVE.out.ext XF.out,HVF.out,HX.out.trans (XE.out.trans XF.out)⟩
  · have hjm:j+m+2<=La:=by have:=DD.out; omega
    have Qv:=uJ.out;obtain ⟨uI,v1,rfl,bF,FC,bD,HVa⟩:=Qx.xS (m+1) (by omega);obtain ⟨_,v2,e0,dE,Ld,uQ,HVb⟩:=Qx.xS m (by omega);injection e0 with e0
    subst e0;obtain ⟨u2,FD,_,HU2⟩:=uX.xS (j+(m+2)) (by omega);obtain ⟨u1,FH,_,HU1⟩:=uX.xS (j+(m+1)) (by omega);obtain ⟨u0,Lh,_,HU0⟩:=uX.xS (j+m) (by omega);obtain ⟨q0,TR,TE,_⟩:=AU.xS j (by omega);obtain ⟨z1,z2,z3,z4,z5,z6,z7⟩:=yb6 wL (qam _) Qv (by omega) sJ.2 HU2.out HU1.out HU0.out HVa.out HVb.out (by rw [qg]; exact HV1.out);have hu2:u2 < 4294967296:=wL _ (td HU2.out);have WW:u1 < 4294967296:=wL _ (td HU1.out);have ZF:u0 < 4294967296:=wL _ (td HU0.out);have Z:=hid (And.intro z1 (And.intro z2 (And.intro z3 (And.intro z6 z7))));have MV:=hid (And.intro uX (And.intro yI wL));have qY:=hid (And.intro AU (And.intro rY yN));have HKI:=hid sJ;have HVA:=hid Qx;have mF:=hid aA;clear HI z1 z2 z3 z6 z7 uX yI wL AU rY yN sJ Qx aA Qv;rw [show (((j+1:Nat):Int) - 1)=(j:Int) from by omega];go_wp2_with fail;rw [show j+(m+2)+1 - j=m+2+1 from by omega]
    have Wl:Hid (∀ W',Calls Tryz.prog 144 #[.int .u32 (u2:Nat),.int .u32 (u1:Nat),.int .u32 (u0:Nat),.int .u32 (v1:Nat),.int .u32 (v2:Nat)] W' fun e w' =>
     e=.returned (.int .u32 (xai B32 (u2 * B32 * B32+u1 * B32+u0) (v1 * B32+v2):Nat))/\∃ n,w'=W'.drewN n):=fun W'=>kbz u2 u1 u0 v1 v2 W' z4 WW ZF bD uQ z5
    have CO:=gc7 yj (u2 * B32 * B32+u1 * B32+u0) (v1 * B32+v2);rw [zh] at CO;rw [<- zh] at CO;generalize xai B32 (u2 * B32 * B32+u1 * B32+u0) (v1 * B32+v2)=qh at *;obtain ⟨n,hn⟩:∃ n,n=m+2:=⟨_,rfl⟩;obtain ⟨n3,RG⟩:∃ n3,n3=m+2+1:=⟨_,rfl⟩;obtain ⟨n1,sF⟩:∃ n1,n1=m+1:=⟨_,rfl⟩;have en:(m:Int)+2=n:=by omega
    rw [<- RG,<- hn,en];rw [<- sF] at FC FH;rw [<- hn] at FD;have HN:=hid (And.intro hn (And.intro RG sF));have i0:(0:Int)<=(n:Int):=by omega
    have i1:(n:Int) < n3:=by omega
    have i3:(n1:Int) < n3:=by omega
    have i5:(m:Int) < n3:=by omega
    have i6:(n1:Int) < n:=by omega
    have i7:(m:Int) < n:=by omega
    have i9:(j:Int) < nq:=by omega
    have aam:n<=17592186044416:=by omega
    have wp1:IntKind.i64.wrap ((n:Int) - 1)=n1:=by rw [IntWalk.i64_in _ (by omega)]; omega
    have wp2:IntKind.i64.wrap ((n:Int) - 2)=m:=by rw [IntWalk.i64_in _ (by omega)]; omega
    clear en hn RG sF;have Uk:=NB4.out uI rfl
    have aH:Hid (∀ n',((wr.drewN n').cell? ⟨gu,j+n,none⟩=some (.int .u32 (u2:Nat))/\(wr.drewN n').cell? ⟨gu,j+n1,none⟩=some (.int .u32 (u1:Nat))/\(wr.drewN n').cell? ⟨gu,j+m,none⟩=some (.int .u32 (u0:Nat)) /\
     (wr.drewN n').cell? (uI.add n1)=some (.int .u32 (v1:Nat))/\(wr.drewN n').cell? (uI.add m)=some (.int .u32 (v2:Nat)))):=
     fun n'=>⟨FD,FH,Lh,FC,Ld⟩
    have Vq:Hid (∀ n' x,(((wr.drewN n').setCell ⟨gq,j,none⟩ x).cell? ⟨gu,j+n,none⟩=some (.int .u32 (u2:Nat))/\((wr.drewN n').setCell ⟨gq,j,none⟩ x).cell? ⟨gu,j+n1,none⟩=some (.int .u32 (u1:Nat))/\((wr.drewN n').setCell ⟨gq,j,none⟩ x).cell? ⟨gu,j+m,none⟩=some (.int .u32 (u0:Nat)) /\
     ((wr.drewN n').setCell ⟨gq,j,none⟩ x).cell? (uI.add n1)=some (.int .u32 (v1:Nat))/\((wr.drewN n').setCell ⟨gq,j,none⟩ x).cell? (uI.add m)=some (.int .u32 (v2:Nat)))):=by
     intro n' x;refine ⟨?_,?_,?_,?_,?_⟩ <;> rw [ph _ _ _ _ (fun e=>by have:=congrArg Addr.block e; simp [ja] at this; omega)]
     · exact FD
     · exact FH
     · exact Lh
     · exact FC
     · exact Ld
    have aa9:∀ n',(wr.drewN n').cell? ⟨gq,j,none⟩=some (.int .u32 (q0:Nat)):=fun _=>TR
    have aaP:∀ n',(wr.drewN n').frozen? ⟨gq,j,none⟩=false:=fun _=>TE
    go_region_held3 (fun W'=>W'.cell? ⟨gu,j+n,none⟩=some (.int .u32 (u2:Nat))/\W'.cell? ⟨gu,j+n1,none⟩=some (.int .u32 (u1:Nat))/\W'.cell? ⟨gu,j+m,none⟩=some (.int .u32 (u0:Nat)) /\
     W'.cell? (uI.add n1)=some (.int .u32 (v1:Nat))/\W'.cell? (uI.add m)=some (.int .u32 (v2:Nat)))
     (first | exact aH.out 1 | exact aH.out _ | exact Vq.out _ _)
     ((go_at_call 144; refine (Wl.out _).mono ?_; rintro e w' ⟨rfl,n9,rfl⟩))
    obtain ⟨hn,RG,sF⟩:=HN.out;subst hn;subst RG;subst sF;rw [show ((m+2:Nat):Int)=(m:Int)+2 from by simp];clear aH Vq Wl wp1 wp2 i0 i1 i3 i5 i6 i7 i9 aam FC Ld FD FH Lh TR aa9 TE aaP HN bF dE;obtain ⟨uX,yI,wL⟩:=MV.out;obtain ⟨AU,rY,yN⟩:=qY.out;have hA:Row ((wr.drewN (1+n9)).setCell ⟨gq,j,none⟩ (.int .u32 (qh:Nat))) gu us:=(uX.drewN (1+n9)).far (by simp; omega) _;have hB:Row ((wr.drewN (1+n9)).setCell ⟨gq,j,none⟩ (.int .u32 (qh:Nat))) gq (qs.set j qh):=(AU.drewN (1+n9)).xD _ _;have aaK:w.heap.size<=gq:=by omega
    have hC:Ext w ((wr.drewN (1+n9)).setCell ⟨gq,j,none⟩ (.int .u32 (qh:Nat))):=(mF.out.drewN (1+n9)).setCell (by simpa using aaK) _;have hD:uj ((wr.drewN (1+n9)).setCell ⟨gq,j,none⟩ (.int .u32 (qh:Nat))) (some uI) (dg (val es * 2 ^ s)):=by
     have o1:Only gq wr ((wr.drewN (1+n9)).setCell ⟨gq,j,none⟩ (.int .u32 (qh:Nat))):=((Only.refl gq wr).drewN (1+n9)).setCell _ _;exact HVA.out.only o1 (fun a e=>by injection e with e; subst e; omega)
    generalize (wr.drewN (1+n9)).setCell ⟨gq,j,none⟩ (.int .u32 (qh:Nat))=wA at *;have hcq:=hB.cell j (by rw [pH]; omega);rw [rR] at hcq;have Ec:=hB.frozen j;have HA:=hid hA;have HB:=hid hB;have HC:=hid hC;have HD:=hid hD;clear hA hB hC hD uX AU yI wL rY yN;go_wp2_with fail;obtain ⟨-,yI,wL⟩:=MV.out;obtain ⟨-,rY,yN⟩:=qY.out;have yR:∀ a,some uI=some a->a.block ≠ gu:=fun a e=>by injection e with e; subst e; omega
    refine (kcs gu j (La+1 - j) (m+2) c4 qh us (dg (val es * 2 ^ s)) (some uI) wA HA.out wL (by omega) (by omega) (by omega) HD.out uJ.out yR p1 p2 CO).mono ?_;rintro e wB ⟨ys,b,hb,rfl,QJ,BF⟩
    change qaj gu j us (m+3) wA wB ys at QJ
    change val (seg ys j (m+3))+qh * val (dg (val es * 2 ^ s))=val (seg us j (m+3))+B32 ^ (m+3) * b at BF
    obtain ⟨t1,t2,t3,t4,t5,t6⟩:=QJ;obtain ⟨z1,z2,z3,z6,z7⟩:=Z.out;rw [z2,qg] at BF;rw [qg] at z1 z6 z7;have tu:0 < val es * 2 ^ s:=by
     have h1:=HV1.out;have h2:0 < 2147483648 * B32 ^ (m+1):=S6 (by omega) (tp yj);omega
    have Hw:=HKI.out;rw [qg] at Hw;have O0:Row wB gq (qs.set j qh):=HB.out.only t6 (by omega);have X8:uj wB (some uI) (dg (val es * 2 ^ s)):=HD.out.only t6 yR;have XZ:Ext w wB:=t6.ext HC.out Ti;rcases tR b with aX | bF
    · subst aX;obtain ⟨f1,f2⟩:=ucs tu BF z6;have HS:Hid (ja9 w gu gq La nq (some uI) (dg (val es * 2 ^ s)) (val ds * 2 ^ s) j wB):=by
       refine ⟨ys,qs.set j qh,t1,by omega,t3,O0,by rw [pH]; exact rY,yN.set _ _ CO,?_,X8,XZ⟩;rw [qg];exact jbi (n:=m+3) Hw tu (by omega) t2 (by omega) t4 t5 z3 (by omega) f2 f1
      clear BF t1 t2 t3 t4 t5 t6 z1 z2 z3 z6 z7 Hw O0 X8 XZ f1 f2 HA HB HC HD MV qY HKI HVA mF Z yI wL rY yN tu yR;go_wp2_with fail
      go_roundw
      case rel=>exact ⟨j,by omega,rfl,HS⟩
      case measure=>simp [intOf]
    · obtain rfl:b=1:=by omega
      have TS:=O0.cell j (by rw [pH]; omega);rw [rR] at TS;have aaQ:=O0.frozen j;have hV4:=jy (qam (val es * 2 ^ s));rw [qg,uJ.out] at hV4;have hVD:val es * 2 ^ s<=B32 ^ (m+3):=py (Sf hV4) (rS yj (by omega));have hS1:val (seg ys j (m+3)) < B32 ^ (m+3):=by
       have:=jy ((t3.drop j).take (m+3));rw [pA,re,sh (by omega)] at this;exact this
      have aiw:0 < qh:=by
       rcases tR qh with e | e
       · exfalso
         rw [e,sY,ua,s8] at BF;exact absurd hS1 (by rw [BF]; exact Nat.not_lt.2 (Nat.le_add_left _ _))
       · exact e
      have G:=hid (And.intro BF (And.intro z7 (And.intro hVD (And.intro hS1 tu))));have T:=hid (And.intro t1 (And.intro t2 (And.intro t3 (And.intro t4 (And.intro t5 t6)))));have HBQ:=hid O0;have PR:=hid X8;have kL:=hid XZ;have VU:=hid Hw;have Be:=hid z3;rw [zh] at CO;clear BF t1 t2 t3 t4 t5 t6 z1 z2 z3 z6 z7 Hw O0 X8 XZ tu hVD hS1 hV4 HA HB HC HD hcq Ec;go_wp2_with fail;obtain ⟨t1,t2,t3,t4,t5,t6⟩:=T.out;have aaL:w.heap.size<=gq:=by omega
      have D7:((qh:Int) - 1)=((qh - 1:Nat):Int):=by omega
      rw [D7];have hA:Row (wB.setCell ⟨gq,j,none⟩ (.int .u32 ((qh - 1:Nat):Int))) gu ys:=t1.far (by simp; omega) _;have hB:Row (wB.setCell ⟨gq,j,none⟩ (.int .u32 ((qh - 1:Nat):Int))) gq (qs.set j (qh - 1)):=by
       have:=HBQ.out.xD j (qh - 1);rw [List.set_set] at this;exact this
      have hC:Ext w (wB.setCell ⟨gq,j,none⟩ (.int .u32 ((qh - 1:Nat):Int))):=kL.out.setCell (by simpa using aaL) _
      have hD:uj (wB.setCell ⟨gq,j,none⟩ (.int .u32 ((qh - 1:Nat):Int))) (some uI) (dg (val es * 2 ^ s)):=
       PR.out.only ((Only.refl gq wB).setCell _ _) (fun a e=>by injection e with e; subst e; omega)
      generalize wB.setCell ⟨gq,j,none⟩ (.int .u32 ((qh - 1:Nat):Int))=wC at *;refine (vc1 gu j (La+1 - j) (m+2) c4 ys (dg (val es * 2 ^ s)) (some uI) wC hA t3 (by omega) (by omega) (by omega) hD uJ.out yR p1 p2).mono ?_;rintro e wD ⟨xs,cc,rfl,QJ,Le⟩
      change qaj gu j ys (m+3) wC wD xs at QJ
      change val (seg xs j (m+3))+B32 ^ (m+3) * cc=val (seg ys j (m+3))+val (dg (val es * 2 ^ s)) at Le
      rw [qg] at Le;obtain ⟨s1,s2,s3,s4,s5,s6⟩:=QJ;obtain ⟨g1,g2,g3,g4,g5⟩:=G.out;have hS2:val (seg xs j (m+3)) < B32 ^ (m+3):=by
       have:=jy ((s3.drop j).take (m+3));rw [pA,re,sh (by omega)] at this;exact this
      obtain ⟨f1,-,f3⟩:=vcs g5 g3 g4 hS2 g1 g2 Le;have HS:Hid (ja9 w gu gq La nq (some uI) (dg (val es * 2 ^ s)) (val ds * 2 ^ s) j wD):=by
       refine ⟨xs,qs.set j (qh - 1),s1,by omega,s3,hB.only s6 (by omega),by rw [pH]; exact rY,yN.set _ _ (by rw [zh]; omega),?_,hD.only s6 yR,s6.ext hC Ti⟩;rw [qg];exact jbi (n:=m+3) VU.out g5 (by omega) (s2.trans t2) (by omega) (s4.trans t4) (s5.trans t5) Be.out (by omega) f3 f1
      clear Le s1 s2 s3 s4 s5 s6 g1 g2 g3 g4 g5 hS2 f1 f3 t1 t2 t3 t4 t5 t6 hA hB hC hD D7 G T HBQ PR kL VU Be MV qY HKI HVA mF Z yI wL rY yN yR TS aaQ;go_wp2_with fail
      go_roundw
      case rel=>exact ⟨j,by omega,rfl,HS⟩
      case measure=>simp [intOf]
theorem jbj (u v:Value) (ds es:List Nat) (w:World) (h:jc w u ds) (k:jc w v es) (hs:ds.length<=17592186044416) (BM:es.length<=17592186044416) (h0:val es ≠ 0) :
 Calls Tryz.prog 116 #[u,v] w (kbs (val ds / val es) (val ds % val es) w):=by
 rcases tG (val ds) (val es) with af | oJ
 · exact yb0 u v ds es w h k hs BM af
 · rcases tG (dg (val es)).length 2 with h1 | h2
   · have h3:=xae (val es);have h4:B32 ^ (dg (val es)).length<=B32 ^ 1:=rS yj (by omega);rw [Nat.pow_one] at h4;exact vcg u v ds es w h k hs BM oJ h0 (pw h3 h4)
   · exact xb7 u v ds es w h k hs BM oJ h2
end Go.Proofs.YtcepajijiabkmaaGreat
