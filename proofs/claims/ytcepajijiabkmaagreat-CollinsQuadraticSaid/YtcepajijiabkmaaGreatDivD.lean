/- Layer 3 (division): long division, the main case. -/
import Derived.Test.YtcepajijiabkmaaGreatMq43
set_option linter.unusedSimpArgs false
set_option linter.unusedVariables false

set_option maxRecDepth 100000
set_option maxHeartbeats 8000000
namespace Go.Proofs.YtcepajijiabkmaaGreat
open Lib (hid)
open Go.RowKit
theorem vch {V s m t:Nat} (hl:(dg V).length=m+2) (ht:(dg V)[m+1]?=some t) (h1:2147483648<=t * 2 ^ s) (h2:t * 2 ^ s < 4294967296) (hs:s < 32) :
 2147483648 * B32 ^ (m+1)<=V * 2 ^ s/\(dg (V * 2 ^ s)).length=m+2:=by
 have hB:=ui;have e:=zh (E:=dg V) (k:=m+1) (x:=t) ht;rw [List.take_of_length_le (by omega),qg] at e;have af:=zy ((zal V).take (m+1));rw [List.length_take,Nat.min_eq_left (by omega)] at af;have g1:2147483648 * B32 ^ (m+1)<=V * 2 ^ s:=by
  have h3:=Nat.mul_le_mul_right (B32 ^ (m+1)) h1;rw [e,Nat.add_mul,Nat.mul_assoc (B32 ^ (m+1)),Nat.mul_comm (B32 ^ (m+1)) (t * 2 ^ s)];omega
 refine ⟨g1,?_⟩;have g2:V * 2 ^ s < B32 ^ (m+2):=by
  have hq:(t+1) * 2 ^ s<=B32:=by
   obtain ⟨q,hq⟩:∃ q,B32=q * 2 ^ s:=⟨2 ^ (32 - s),by rw [<- Nat.pow_add,show 32 - s+s=32 from by omega]; rfl⟩;rw [hq];have h4:t * 2 ^ s < q * 2 ^ s:=by rw [<- hq]; exact h2
   exact Nat.mul_le_mul_right _ (Nat.lt_of_mul_lt_mul_right h4)
  have h5:V * 2 ^ s < (t+1) * B32 ^ (m+1) * 2 ^ s:=Nat.mul_lt_mul_of_pos_right (by rw [e,Nat.add_mul,Nat.one_mul,Nat.mul_comm t]; omega) (Nat.pow_pos (by omega));have h6:=Nat.mul_le_mul_right (B32 ^ (m+1)) hq;rw [Nat.pow_succ,Nat.mul_comm (B32 ^ (m+1))];rw [Nat.mul_right_comm] at h5;omega
 have g3:=ve g2;rcases Nat.lt_or_ge (dg (V * 2 ^ s)).length (m+2) with h | h
 · exfalso
   have h7:=qad (V * 2 ^ s);have h8:B32 ^ (dg (V * 2 ^ s)).length<=B32 ^ (m+1):=Nat.pow_le_pow_right hB (by omega);have h9:B32 ^ (m+1)<=2147483648 * B32 ^ (m+1):=Nat.le_mul_of_pos_left _ (by omega);omega
 · omega
def va7 (w0:World) (gu gq La nq:Nat) (A:Option Addr) (vs:List Nat) (U k:Nat) (wr:World):Prop:=
 ∃ us qs:List Nat,Row wr gu us/\us.length=La+1/\vg us/\Row wr gq qs/\qs.length=nq/\vg qs/\jcx U (val vs) us qs k/\yj wr A vs/\Ext w0 wr
theorem yb4 (u v:Value) (ds es:List Nat) (w:World) (h:jb w u ds) (k:jb w v es) (hs:ds.length<=17592186044416) (zQ:es.length<=17592186044416) (lS:val es<=val ds) (xJ:2<=(dg (val es)).length) :
 Calls Tryz.prog 116 #[u,v] w (qbp (val ds / val es) (val ds % val es) w):=by
 have H:=hid h;have K:=hid k;have nX:=hid lS;have hla:(dg (val ds)).length<=ds.length:=uh h.digs;have oV:(dg (val es)).length<=es.length:=uh k.digs;have kZ:(dg (val es)).length<=(dg (val ds)).length:=ku lS;clear h k lS;obtain ⟨m,hm⟩:∃ m,(dg (val es)).length=m+2:=⟨(dg (val es)).length - 2,by omega⟩;have HM:=hid hm;rw [hm] at oV kZ xJ;clear hm;obtain ⟨La,QK⟩:=n_m ((dg (val ds)).length);have Sr:=hid QK;rw [QK] at hla kZ;clear QK;go_enter Tryz.func116,Tryz.ntmps116;go_wp2_with fail
 go_step3
 go_wp2_with fail;refine (jab _ _ _ K.out (by omega)).mono ?_;rintro e w1 ⟨v1,rfl,aU,x1⟩;go_wp2_with fail;refine (xao _ _ _ _ _ (H.out.ext x1) aU).mono ?_;rw [qg];have fC:0<=xh (val ds) (val es):=by have:=nX.out; unfold xh; split <;> (try split) <;> omega
 have DT:=(yaj (val ds) (val es)).2;generalize xh (val ds) (val es)=cm at *;rintro e w2 ⟨rfl,n2,wM⟩;have y2:Ext w1 w2:=by rw [wM]; exact (Ext.refl w1).drewN n2
 have X2:=hid (x1.trans y2);have rW:=aU.ext y2;clear wM aU x1 y2;obtain ⟨A,c,rfl,q1,q2,q3⟩:=rW;rw [HM.out] at q1 ⊢;obtain ⟨ad,t,rfl,hb,ai,ht1,HT⟩:=q3.get_ (m+1) (by have:=HM.out; omega);have ht0:t ≠ 0:=by
  intro e;have h1:=jbt (n:=val es) (by intro e0; have:=HM.out; rw [e0,xn] at this; simp at this);have e1:=zh HT;rw [List.take_of_length_le (by have:=HM.out; omega),qg,e,Nat.mul_zero,Nat.add_zero] at e1;have af:=zy ((zal (val es)).take (m+1));rw [List.length_take,Nat.min_eq_left (by have:=HM.out; omega),<- e1] at af;rw [HM.out] at h1;exact absurd af (Nat.not_lt.2 h1)
 rw [uby] at ai;have Q3:=hid q3;have pV:(((m:Int)+2) == 1)=false:=beq_eq_false_iff_ne.2 (by omega);clear q3;go_wp2_with fail;refine (ybv t _ ht0 ht1).mono ?_;rintro e w3 ⟨⟨s,bW,ht2,ht3,rfl⟩,rfl⟩;obtain ⟨jI,uV⟩:=vch HM.out HT.out ht2 ht3 bW;have ZC:=hid jI;have rH:=hid uV;clear ht2 ht3 jI uV ht0;go_wp2_with fail;refine (kb5 _ (dg (val es)) s _ ⟨some ad,c,by rw [HM.out],by rw [HM.out]; exact q1,q2,Q3.out⟩ (by rw [HM.out]; omega) (by omega)).mono ?_;rw [qg];rintro e w4 ⟨v4,rfl,rV,x4⟩;have X4:=hid (X2.out.trans x4);obtain ⟨A4,c4,rfl,p1,p2,p3⟩:=rV;rw [rH.out] at p1 ⊢;have P3:=hid p3;clear p3 x4 Q3 ai HT pV;go_wp2_with fail;refine (jab _ _ _ (H.out.ext X4.out) (by omega)).mono ?_;rintro e w5 ⟨v5,rfl,⟨A5,c5,rfl,-,-,-⟩,x5⟩;rw [Sr.out];have X5:=hid (X4.out.trans x5);have P5:=hid (P3.out.ext x5);clear x5 P3;have dB:=fun W=>qaa ((La:Int)+1) (by omega) (by omega) W
 go_wp2_with fail;have HU:Hid (val ds * 2 ^ s < 2147483648 * B32 ^ La):=by
  have h1:=qad (val ds);rw [Sr.out] at h1;have h2:2 ^ s<=2 ^ 31:=Nat.pow_le_pow_right (by omega) (by omega);have h3:val ds * 2 ^ s < B32 ^ La * 2 ^ s:=Nat.mul_lt_mul_of_pos_right h1 (Nat.pow_pos (by omega));have h4:B32 ^ La * 2 ^ s<=B32 ^ La * 2147483648:=Nat.mul_le_mul_left _ h2;have:val ds * 2 ^ s < 2147483648 * B32 ^ La:=by rw [Nat.mul_comm 2147483648]; omega
  exact this
 have HUL:Hid ((dg (val ds * 2 ^ s)).length<=La+1):=by
  have:(dg (val ds * 2 ^ s)).length<=La+1:=by
   apply ve;have:=HU.out;have h5:2147483648 * B32 ^ La<=B32 * B32 ^ La:=Nat.mul_le_mul_right _ (by decide);rw [Nat.pow_succ,Nat.mul_comm (B32 ^ La)];omega
  exact this
 have TC:Ext w5 (w5.alloc (Obj.cells (zt (List.replicate (La+1) 0)).toArray 84)):=(Ext.refl _).alloc _;refine (kb5 _ ds s _ (H.out.ext (X5.out.trans TC)) (by omega) (by omega)).mono ?_;rintro e w6 ⟨v6,rfl,Hy,x6⟩;have R6:=hid ((Row.new w5 (List.replicate (La+1) 0)).ext x6);have X6:=hid (X5.out.trans (TC.trans x6));have P6:=hid (P5.out.ext (TC.trans x6));have OU:w5.heap.size < w6.heap.size:=R6.out.lt;have NB4:Hid (∀ a,A4=some a->a.block < w5.heap.size):=by
  intro a e;subst e;obtain ⟨a',e',dX,-⟩:=P5.out.2 (by have:=rH.out; omega);injection e' with e'
  subst e';omega
 have NB:Hid (∀ a,A4=some a->a.block ≠ w5.heap.size):=fun a e=>by have:=NB4.out a e; omega
 obtain ⟨A6,c6,rfl,s1,s2,s3⟩:=Hy;have S3:=hid s3;clear s3 x6 TC dB;obtain ⟨nq,hnq,afk⟩:∃ nq,La=m+1+nq/\1<=nq:=⟨La - m - 1,by omega,by omega⟩;have wO:=HUL.out;generalize hUE:dg (val ds * 2 ^ s)=UE at *;have HUE:=hid hUE;clear hUE;have k1:UE.length<=La+1:=wO;have k2:0+UE.length<=(List.replicate (La+1) 0).length:=by rw [List.length_replicate]; omega
 have eq1:(La:Int)+1 - ((m:Int)+2)=nq:=by omega
 have qC:=fun W=>qaa (nq:Int) (by omega) (by omega) W
 have HNQ:=hid hnq;have afj:nq<=La:=by omega
 clear hnq
 go_wp2_with (with_reducible refine xai rfl (.tmp 56) (.tmp 59) rfl w5.heap.size 0 (La + 1) (La + 1) A6 c6 UE (List.replicate (La + 1) 0) rfl rfl R6.out S3.out k1 k2 ?_
              intro w7 R7 O7;have R7':=hid R7;have UX:=hid O7
              clear R7 O7)
 have bI:Hid (va7 w w5.heap.size w7.heap.size La nq A4 (dg (val es * 2 ^ s)) (val ds * 2 ^ s) nq (w7.alloc (Obj.cells (zt (List.replicate nq 0)).toArray 84))):=by
  have r7:=R7'.out;rw [List.take_zero,List.nil_append,Nat.zero_add,List.drop_replicate] at r7;have wO:(UE ++ List.replicate (La+1 - UE.length) 0).length=La+1:=by simp; omega
  have hvu:val (UE ++ List.replicate (La+1 - UE.length) 0)=val ds * 2 ^ s:=by
   rw [val_append,kab,Nat.mul_zero,Nat.add_zero,<- HUE.out,qg]
  have x7:Ext w w7:=UX.out.ext X6.out (by have:=X5.out.size; omega);refine ⟨UE ++ List.replicate (La+1 - UE.length) 0,List.replicate nq 0,r7.alloc _,wO,S3.out.1.append (vg.replicate _),Row.new w7 _,by simp,vg.replicate _,⟨?_,?_⟩,(P6.out.only UX.out NB.out).ext ((Ext.refl _).alloc _),x7.alloc _⟩
  · rw [hvu,List.drop_eq_nil_of_le (by simp)]; simp
  · rw [qg];refine Nat.lt_of_lt_of_le ?_ ZC.out;have e1:=zk (UE ++ List.replicate (La+1 - UE.length) 0) nq (by omega);have h1:=HU.out;have h2:=HNQ.out;rw [<- hvu,e1,show B32 ^ La=B32 ^ (m+1+nq) from by rw [<- h2],Nat.pow_add,<- Nat.mul_assoc,Nat.mul_comm _ (B32 ^ nq)] at h1;exact Nat.lt_of_mul_lt_mul_left (Nat.lt_of_le_of_lt (Nat.le_add_left _ _) h1)
 have GU:Hid (w5.heap.size < w7.heap.size):=by
  have:=UX.out.size;have h2:w5.heap.size < w7.heap.size:=by omega
  exact h2
 clear R7' UX S3 R6 P6 X6 P5 eq1 qC;generalize hgu:w5.heap.size=gu at *;generalize hgq:w7.heap.size=gq at *;generalize w7.alloc (Obj.cells (zt (List.replicate nq 0)).toArray 84)=W8 at *;have Py:w.heap.size<=gu:=by have:=X5.out.size; omega
 have afL:gu < gq:=GU.out;clear hgu hgq GU HU HUL HUE
 go_step3
 go_wp2_with fail
 go_loopw [13] (fun iv wr=>∃ k:Nat,k<=nq/\iv=.int .i64 ((k:Int) - 1)/\Hid (va7 w gu gq La nq A4 (dg (val es * 2 ^ s)) (val ds * 2 ^ s) k wr)) (fun iv _=>(intOf iv+1).toNat)
 case atStart=>exact ⟨nq,Nat.le_refl _,rfl,bI⟩
 case round =>
  clear bI;obtain ⟨k,hk,rfl,HI⟩:=hrel;obtain ⟨us,qs,sD,wO,uB,yI,zT,zU,qF,NH,aA⟩:=HI.out;rcases k with _ | j
  · have MH:Hid (jb wr (.slice (some ⟨gq,0,none⟩) nq nq) qs):=yI.natVn zU _ _ zT (Nat.le_refl _) (by omega);have GG:Hid (jb wr (.slice (some ⟨gu,0,none⟩) (La+1) (La+1)) us):=sD.natVn uB _ _ wO (Nat.le_refl _) (by omega);have HQR:Hid (val qs=val ds / val es/\val us / 2 ^ s=val ds % val es):=by
     obtain ⟨k1,k2⟩:=qF;rw [qg,Nat.pow_zero,Nat.one_mul,List.drop_zero] at k1;rw [qg,List.drop_zero] at k2;have hp:0 < 2 ^ s:=Nat.pow_pos (by omega);have fK:0 < val es * 2 ^ s:=by omega
     have d1:val ds * 2 ^ s / (val es * 2 ^ s)=val qs:=by rw [k1,Nat.add_mul_div_left _ _ fK,Nat.div_eq_of_lt k2,Nat.zero_add]
     have d2:val ds * 2 ^ s % (val es * 2 ^ s)=val us:=by rw [k1,Nat.add_mul_mod_self_left,Nat.mod_eq_of_lt k2]
     rw [Nat.mul_div_mul_right _ _ hp] at d1;rw [Nat.mul_mod_mul_right] at d2;exact ⟨d1.symm,by rw [<- d2,Nat.mul_div_cancel _ hp]⟩
    have HX:=hid aA;clear HI sD wO uB yI zT zU qF NH aA;go_wp2_with fail;refine (jab _ _ _ MH.out (by have:=MH.out; obtain ⟨_,_,e,-⟩:=this; injection e with _ e; omega)).mono ?_;rw [HQR.out.1];rintro e wE ⟨vE,rfl,hvE,xE⟩;have HVE:=hid hvE;have XE:=hid xE;clear hvE xE;go_wp2_with fail;refine (ucz _ _ _ _ (GG.out.ext XE.out) (by have:=GG.out; obtain ⟨_,_,e,-⟩:=this; injection e with _ e; omega) (by omega)).mono ?_;rw [HQR.out.2];rintro e wF ⟨vF,rfl,hvF,xF⟩;have HVF:=hid hvF;have XF:=hid xF;clear hvF xF;go_wp2_with fail;rw [Exit.noGoto_ret]
    go_ret2
    exact ⟨_,_,rfl,HVE.out.ext XF.out,HVF.out,HX.out.trans (XE.out.trans XF.out)⟩
  · have hjm:j+m+2<=La:=by have:=HNQ.out; omega
    have NF:=rH.out;obtain ⟨rF,v1,rfl,cO,DL,aU,HVa⟩:=NH.get_ (m+1) (by omega);obtain ⟨_,v2,e0,bT,I9,rW,HVb⟩:=NH.get_ m (by omega);injection e0 with e0
    subst e0;obtain ⟨u2,DN,_,HU2⟩:=sD.get_ (j+(m+2)) (by omega);obtain ⟨u1,DR,_,HU1⟩:=sD.get_ (j+(m+1)) (by omega);obtain ⟨u0,Jb,_,HU0⟩:=sD.get_ (j+m) (by omega);obtain ⟨q0,Qb,PP,_⟩:=yI.get_ j (by omega);obtain ⟨z1,z2,z3,z4,z5,z6,z7⟩:=yb3 uB (zal _) NF (by omega) qF.2 HU2.out HU1.out HU0.out HVa.out HVb.out (by rw [qg]; exact ZC.out);have hu2:u2 < 4294967296:=uB _ (List.mem_of_getElem? HU2.out);have TM:u1 < 4294967296:=uB _ (List.mem_of_getElem? HU1.out);have VZ:u0 < 4294967296:=uB _ (List.mem_of_getElem? HU0.out);have Z:=hid (And.intro z1 (And.intro z2 (And.intro z3 (And.intro z6 z7))));have JK:=hid (And.intro sD (And.intro wO uB));have nV:=hid (And.intro yI (And.intro zT zU));have HKI:=hid qF;have ZA:=hid NH;have vY:=hid aA;clear HI z1 z2 z3 z6 z7 sD wO uB yI zT zU qF NH aA NF;rw [show (((j+1:Nat):Int) - 1)=(j:Int) from by omega];go_wp2_with fail;rw [show j+(m+2)+1 - j=m+2+1 from by omega]
    have SV:Hid (∀ W',Calls Tryz.prog 144 #[.int .u32 (u2:Nat),.int .u32 (u1:Nat),.int .u32 (u0:Nat),.int .u32 (v1:Nat),.int .u32 (v2:Nat)] W' fun e w' =>
     e=.returned (.int .u32 (vag B32 (u2 * B32 * B32+u1 * B32+u0) (v1 * B32+v2):Nat))/\∃ n,w'=W'.drewN n):=fun W'=>ybx u2 u1 u0 v1 v2 W' z4 TM VZ aU rW z5
    have AC:=kc2 ui (u2 * B32 * B32+u1 * B32+u0) (v1 * B32+v2);rw [ug] at AC;rw [<- ug] at AC;generalize vag B32 (u2 * B32 * B32+u1 * B32+u0) (v1 * B32+v2)=qh at *;obtain ⟨n,hn⟩:∃ n,n=m+2:=⟨_,rfl⟩;obtain ⟨n3,OJ⟩:∃ n3,n3=m+2+1:=⟨_,rfl⟩;obtain ⟨n1,sH⟩:∃ n1,n1=m+1:=⟨_,rfl⟩;have en:(m:Int)+2=n:=by omega
    rw [<- OJ,<- hn,en];rw [<- sH] at DL DR;rw [<- hn] at DN;have HN:=hid (And.intro hn (And.intro OJ sH));have i0:(0:Int)<=(n:Int):=by omega
    have i1:(n:Int) < n3:=by omega
    have i3:(n1:Int) < n3:=by omega
    have i5:(m:Int) < n3:=by omega
    have i6:(n1:Int) < n:=by omega
    have i7:(m:Int) < n:=by omega
    have i9:(j:Int) < nq:=by omega
    have WZ:n<=17592186044416:=by omega
    have wp1:IntKind.i64.wrap ((n:Int) - 1)=n1:=by rw [IntWalk.i64_in _ (by omega)]; omega
    have wp2:IntKind.i64.wrap ((n:Int) - 2)=m:=by rw [IntWalk.i64_in _ (by omega)]; omega
    clear en hn OJ sH;have Qu:=NB4.out rF rfl
    have aN:Hid (∀ n',((wr.drewN n').cell? ⟨gu,j+n,none⟩=some (.int .u32 (u2:Nat))/\(wr.drewN n').cell? ⟨gu,j+n1,none⟩=some (.int .u32 (u1:Nat))/\(wr.drewN n').cell? ⟨gu,j+m,none⟩=some (.int .u32 (u0:Nat)) /\
     (wr.drewN n').cell? (rF.add n1)=some (.int .u32 (v1:Nat))/\(wr.drewN n').cell? (rF.add m)=some (.int .u32 (v2:Nat)))):=
     fun n'=>⟨DN,DR,Jb,DL,I9⟩
    have Rx:Hid (∀ n' x,(((wr.drewN n').setCell ⟨gq,j,none⟩ x).cell? ⟨gu,j+n,none⟩=some (.int .u32 (u2:Nat))/\((wr.drewN n').setCell ⟨gq,j,none⟩ x).cell? ⟨gu,j+n1,none⟩=some (.int .u32 (u1:Nat))/\((wr.drewN n').setCell ⟨gq,j,none⟩ x).cell? ⟨gu,j+m,none⟩=some (.int .u32 (u0:Nat)) /\
     ((wr.drewN n').setCell ⟨gq,j,none⟩ x).cell? (rF.add n1)=some (.int .u32 (v1:Nat))/\((wr.drewN n').setCell ⟨gq,j,none⟩ x).cell? (rF.add m)=some (.int .u32 (v2:Nat)))):=by
     intro n' x;refine ⟨?_,?_,?_,?_,?_⟩ <;> rw [World.cell?_setCell_other _ _ _ _ (fun e=>by have:=congrArg Addr.block e; simp [ja] at this; omega)]
     · exact DN
     · exact DR
     · exact Jb
     · exact DL
     · exact I9
    have Ye:∀ n',(wr.drewN n').cell? ⟨gq,j,none⟩=some (.int .u32 (q0:Nat)):=fun _=>Qb
    have XG:∀ n',(wr.drewN n').frozen? ⟨gq,j,none⟩=false:=fun _=>PP
    go_region_held3 (fun W'=>W'.cell? ⟨gu,j+n,none⟩=some (.int .u32 (u2:Nat))/\W'.cell? ⟨gu,j+n1,none⟩=some (.int .u32 (u1:Nat))/\W'.cell? ⟨gu,j+m,none⟩=some (.int .u32 (u0:Nat)) /\
     W'.cell? (rF.add n1)=some (.int .u32 (v1:Nat))/\W'.cell? (rF.add m)=some (.int .u32 (v2:Nat)))
     (first | exact aN.out 1 | exact aN.out _ | exact Rx.out _ _)
     ((go_at_call 144; refine (SV.out _).mono ?_; rintro e w' ⟨rfl,n9,rfl⟩))
    obtain ⟨hn,OJ,sH⟩:=HN.out;subst hn;subst OJ;subst sH;rw [show ((m+2:Nat):Int)=(m:Int)+2 from by simp];clear aN Rx SV wp1 wp2 i0 i1 i3 i5 i6 i7 i9 WZ DL I9 DN DR Jb Qb Ye PP XG HN cO bT;obtain ⟨sD,wO,uB⟩:=JK.out;obtain ⟨yI,zT,zU⟩:=nV.out;have hA:Row ((wr.drewN (1+n9)).setCell ⟨gq,j,none⟩ (.int .u32 (qh:Nat))) gu us:=(sD.drewN (1+n9)).far (by simp; omega) _;have hB:Row ((wr.drewN (1+n9)).setCell ⟨gq,j,none⟩ (.int .u32 (qh:Nat))) gq (qs.set j qh):=(yI.drewN (1+n9)).set_ _ _;have Xx:w.heap.size<=gq:=by omega
    have hC:Ext w ((wr.drewN (1+n9)).setCell ⟨gq,j,none⟩ (.int .u32 (qh:Nat))):=(vY.out.drewN (1+n9)).setCell (by simpa using Xx) _;have hD:yj ((wr.drewN (1+n9)).setCell ⟨gq,j,none⟩ (.int .u32 (qh:Nat))) (some rF) (dg (val es * 2 ^ s)):=by
     have o1:Only gq wr ((wr.drewN (1+n9)).setCell ⟨gq,j,none⟩ (.int .u32 (qh:Nat))):=((Only.refl gq wr).drewN (1+n9)).setCell _ _;exact ZA.out.only o1 (fun a e=>by injection e with e; subst e; omega)
    generalize (wr.drewN (1+n9)).setCell ⟨gq,j,none⟩ (.int .u32 (qh:Nat))=wA at *;have hcq:=hB.cell j (by rw [List.length_set]; omega);rw [List.getElem_set_self] at hcq;have Cc:=hB.frozen j;have HA:=hid hA;have HB:=hid hB;have HC:=hid hC;have HD:=hid hD;clear hA hB hC hD sD yI wO uB zT zU;go_wp2_with fail;obtain ⟨-,wO,uB⟩:=JK.out;obtain ⟨-,zT,zU⟩:=nV.out;have wW:∀ a,some rF=some a->a.block ≠ gu:=fun a e=>by injection e with e; subst e; omega
    refine (vco gu j (La+1 - j) (m+2) c4 qh us (dg (val es * 2 ^ s)) (some rF) wA HA.out uB (by omega) (by omega) (by omega) HD.out rH.out wW p1 p2 AC).mono ?_;rintro e wB ⟨ys,b,hb,rfl,NZ,zL⟩
    change zai gu j us (m+3) wA wB ys at NZ
    change val (seg ys j (m+3))+qh * val (dg (val es * 2 ^ s))=val (seg us j (m+3))+B32 ^ (m+3) * b at zL
    obtain ⟨t1,t2,t3,t4,t5,t6⟩:=NZ;obtain ⟨z1,z2,z3,z6,z7⟩:=Z.out;rw [z2,qg] at zL;rw [qg] at z1 z6 z7;have qP:0 < val es * 2 ^ s:=by
     have h1:=ZC.out;have h2:0 < 2147483648 * B32 ^ (m+1):=Nat.mul_pos (by omega) (Nat.pow_pos ui);omega
    have Pe:=HKI.out;rw [qg] at Pe;have LW:Row wB gq (qs.set j qh):=HB.out.only t6 (by omega);have UQ:yj wB (some rF) (dg (val es * 2 ^ s)):=HD.out.only t6 wW;have UO:Ext w wB:=t6.ext HC.out Py;rcases Nat.eq_zero_or_pos b with bU | cO
    · subst bU;obtain ⟨f1,f2⟩:=gco qP zL z6;have HS:Hid (va7 w gu gq La nq (some rF) (dg (val es * 2 ^ s)) (val ds * 2 ^ s) j wB):=by
       refine ⟨ys,qs.set j qh,t1,by omega,t3,LW,by rw [List.length_set]; exact zT,zU.set _ _ AC,?_,UQ,UO⟩;rw [qg];exact qbg (n:=m+3) Pe qP (by omega) t2 (by omega) t4 t5 z3 (by omega) f2 f1
      clear zL t1 t2 t3 t4 t5 t6 z1 z2 z3 z6 z7 Pe LW UQ UO f1 f2 HA HB HC HD JK nV HKI ZA vY Z wO uB zT zU qP wW;go_wp2_with fail
      go_roundw
      case rel=>exact ⟨j,by omega,rfl,HS⟩
      case measure=>simp [intOf]
    · obtain rfl:b=1:=by omega
      have Qc:=LW.cell j (by rw [List.length_set]; omega);rw [List.getElem_set_self] at Qc;have XH:=LW.frozen j;have YB:=zy (zal (val es * 2 ^ s));rw [qg,rH.out] at YB;have Yz:val es * 2 ^ s<=B32 ^ (m+3):=Nat.le_trans (Nat.le_of_lt YB) (Nat.pow_le_pow_right ui (by omega));have YG:val (seg ys j (m+3)) < B32 ^ (m+3):=by
       have:=zy ((t3.drop j).take (m+3));rw [List.length_take,List.length_drop,Nat.min_eq_left (by omega)] at this;exact this
      have afb:0 < qh:=by
       rcases Nat.eq_zero_or_pos qh with e | e
       · exfalso
         rw [e,Nat.zero_mul,Nat.mul_one,Nat.add_zero] at zL;exact absurd YG (by rw [zL]; exact Nat.not_lt.2 (Nat.le_add_left _ _))
       · exact e
      have G:=hid (And.intro zL (And.intro z7 (And.intro Yz (And.intro YG qP))));have T:=hid (And.intro t1 (And.intro t2 (And.intro t3 (And.intro t4 (And.intro t5 t6)))));have HBQ:=hid LW;have MS:=hid UQ;have eY:=hid UO;have Su:=hid Pe;have Cj:=hid z3;rw [ug] at AC;clear zL t1 t2 t3 t4 t5 t6 z1 z2 z3 z6 z7 Pe LW UQ UO qP Yz YG YB HA HB HC HD hcq Cc;go_wp2_with fail;obtain ⟨t1,t2,t3,t4,t5,t6⟩:=T.out;have Xy:w.heap.size<=gq:=by omega
      have BU:((qh:Int) - 1)=((qh - 1:Nat):Int):=by omega
      rw [BU];have hA:Row (wB.setCell ⟨gq,j,none⟩ (.int .u32 ((qh - 1:Nat):Int))) gu ys:=t1.far (by simp; omega) _;have hB:Row (wB.setCell ⟨gq,j,none⟩ (.int .u32 ((qh - 1:Nat):Int))) gq (qs.set j (qh - 1)):=by
       have:=HBQ.out.set_ j (qh - 1);rw [List.set_set] at this;exact this
      have hC:Ext w (wB.setCell ⟨gq,j,none⟩ (.int .u32 ((qh - 1:Nat):Int))):=eY.out.setCell (by simpa using Xy) _
      have hD:yj (wB.setCell ⟨gq,j,none⟩ (.int .u32 ((qh - 1:Nat):Int))) (some rF) (dg (val es * 2 ^ s)):=
       MS.out.only ((Only.refl gq wB).setCell _ _) (fun a e=>by injection e with e; subst e; omega)
      generalize wB.setCell ⟨gq,j,none⟩ (.int .u32 ((qh - 1:Nat):Int))=wC at *;refine (zcx gu j (La+1 - j) (m+2) c4 ys (dg (val es * 2 ^ s)) (some rF) wC hA t3 (by omega) (by omega) (by omega) hD rH.out wW p1 p2).mono ?_;rintro e wD ⟨xs,cc,rfl,NZ,Ja⟩
      change zai gu j ys (m+3) wC wD xs at NZ
      change val (seg xs j (m+3))+B32 ^ (m+3) * cc=val (seg ys j (m+3))+val (dg (val es * 2 ^ s)) at Ja
      rw [qg] at Ja;obtain ⟨s1,s2,s3,s4,s5,s6⟩:=NZ;obtain ⟨g1,g2,g3,g4,g5⟩:=G.out;have YF:val (seg xs j (m+3)) < B32 ^ (m+3):=by
       have:=zy ((s3.drop j).take (m+3));rw [List.length_take,List.length_drop,Nat.min_eq_left (by omega)] at this;exact this
      obtain ⟨f1,-,f3⟩:=uco g5 g3 g4 YF g1 g2 Ja;have HS:Hid (va7 w gu gq La nq (some rF) (dg (val es * 2 ^ s)) (val ds * 2 ^ s) j wD):=by
       refine ⟨xs,qs.set j (qh - 1),s1,by omega,s3,hB.only s6 (by omega),by rw [List.length_set]; exact zT,zU.set _ _ (by rw [ug]; omega),?_,hD.only s6 wW,s6.ext hC Py⟩;rw [qg];exact qbg (n:=m+3) Su.out g5 (by omega) (s2.trans t2) (by omega) (s4.trans t4) (s5.trans t5) Cj.out (by omega) f3 f1
      clear Ja s1 s2 s3 s4 s5 s6 g1 g2 g3 g4 g5 YF f1 f3 t1 t2 t3 t4 t5 t6 hA hB hC hD BU G T HBQ MS eY Su Cj JK nV HKI ZA vY Z wO uB zT zU wW Qc XH;go_wp2_with fail
      go_roundw
      case rel=>exact ⟨j,by omega,rfl,HS⟩
      case measure=>simp [intOf]
theorem xbh (u v:Value) (ds es:List Nat) (w:World) (h:jb w u ds) (k:jb w v es) (hs:ds.length<=17592186044416) (zQ:es.length<=17592186044416) (h0:val es ≠ 0) :
 Calls Tryz.prog 116 #[u,v] w (qbp (val ds / val es) (val ds % val es) w):=by
 rcases Nat.lt_or_ge (val ds) (val es) with af | lS
 · exact ubx u v ds es w h k hs zQ af
 · rcases Nat.lt_or_ge (dg (val es)).length 2 with h1 | h2
   · have h3:=qad (val es);have h4:B32 ^ (dg (val es)).length<=B32 ^ 1:=Nat.pow_le_pow_right ui (by omega);rw [Nat.pow_one] at h4;exact qcd u v ds es w h k hs zQ lS h0 (Nat.lt_of_lt_of_le h3 h4)
   · exact yb4 u v ds es w h k hs zQ lS h2
end Go.Proofs.YtcepajijiabkmaaGreat
