/- Layer 3 (division): long division, the main case. -/
import Derived.Test.YtklnlgnnlmdibaaGreatMq44
set_option linter.unusedSimpArgs false
set_option linter.unusedVariables false

set_option maxRecDepth 100000
set_option maxHeartbeats 8000000
namespace Go.Proofs.YtklnlgnnlmdibaaGreat
open Lib (hid)
open Go.RowKit
theorem xb9 {V s m t:Nat} (hl:(dg V).length=m+2) (ht:(dg V)[m+1]?=some t) (h1:2147483648<=t * 2 ^ s) (h2:t * 2 ^ s < 4294967296) (hs:s < 32) :
 2147483648 * B32 ^ (m+1)<=V * 2 ^ s/\(dg (V * 2 ^ s)).length=m+2:=by
 have hB:=yj;have e:=yh (E:=dg V) (k:=m+1) (x:=t) ht;rw [List.take_of_length_le (by omega),xg] at e;have af:=jy ((gak V).take (m+1));rw [List.length_take,Nat.min_eq_left (by omega)] at af;have g1:2147483648 * B32 ^ (m+1)<=V * 2 ^ s:=by
  have h3:=Nat.mul_le_mul_right (B32 ^ (m+1)) h1;rw [e,Nat.add_mul,Nat.mul_assoc (B32 ^ (m+1)),Nat.mul_comm (B32 ^ (m+1)) (t * 2 ^ s)];omega
 refine ⟨g1,?_⟩;have g2:V * 2 ^ s < B32 ^ (m+2):=by
  have hq:(t+1) * 2 ^ s<=B32:=by
   obtain ⟨q,hq⟩:∃ q,B32=q * 2 ^ s:=⟨2 ^ (32 - s),by rw [<- Nat.pow_add,show 32 - s+s=32 from by omega]; rfl⟩;rw [hq];have h4:t * 2 ^ s < q * 2 ^ s:=by rw [<- hq]; exact h2
   exact Nat.mul_le_mul_right _ (Nat.lt_of_mul_lt_mul_right h4)
  have h5:V * 2 ^ s < (t+1) * B32 ^ (m+1) * 2 ^ s:=Nat.mul_lt_mul_of_pos_right (by rw [e,Nat.add_mul,Nat.one_mul,Nat.mul_comm t]; omega) (Nat.pow_pos (by omega));have h6:=Nat.mul_le_mul_right (B32 ^ (m+1)) hq;rw [Nat.pow_succ,Nat.mul_comm (B32 ^ (m+1))];rw [Nat.mul_right_comm] at h5;omega
 have g3:=zg g2;rcases Nat.lt_or_ge (dg (V * 2 ^ s)).length (m+2) with h | h
 · exfalso
   have h7:=wad (V * 2 ^ s);have h8:B32 ^ (dg (V * 2 ^ s)).length<=B32 ^ (m+1):=Nat.pow_le_pow_right hB (by omega);have h9:B32 ^ (m+1)<=2147483648 * B32 ^ (m+1):=Nat.le_mul_of_pos_left _ (by omega);omega
 · omega
def za6 (w0:World) (gu gq La nq:Nat) (A:Option Addr) (vs:List Nat) (U k:Nat) (wr:World):Prop:=
 ∃ us qs:List Nat,Row wr gu us/\us.length=La+1/\jg us/\Row wr gq qs/\qs.length=nq/\jg qs/\ucp U (val vs) us qs k/\zk wr A vs/\Ext w0 wr
theorem zbx (u v:Value) (ds es:List Nat) (w:World) (h:jd w u ds) (k:jd w v es) (hs:ds.length<=17592186044416) (Ce:es.length<=17592186044416) (oN:val es<=val ds) (zL:2<=(dg (val es)).length) :
 Calls Tryz.prog 131 #[u,v] w (qbm (val ds / val es) (val ds % val es) w):=by
 have H:=hid h;have K:=hid k;have oI:=hid oN;have hla:(dg (val ds)).length<=ds.length:=jh h.digs;have rE:(dg (val es)).length<=es.length:=jh k.digs;have oO:(dg (val es)).length<=(dg (val ds)).length:=yu oN;clear h k oN;obtain ⟨m,hm⟩:∃ m,(dg (val es)).length=m+2:=⟨(dg (val es)).length - 2,by omega⟩;have HM:=hid hm;rw [hm] at rE oO zL;clear hm;obtain ⟨La,Vh⟩:=n_m ((dg (val ds)).length);have WG:=hid Vh;rw [Vh] at hla oO;clear Vh;go_enter Tryz.func131,Tryz.ntmps131;go_wp2_with fail
 go_step3
 go_wp2_with fail;refine (vab _ _ _ K.out (by omega)).mono ?_;rintro e w1 ⟨v1,rfl,aY,x1⟩;go_wp2_with fail;refine (gan _ _ _ _ _ (H.out.ext x1) aY).mono ?_;rw [xg];have iT:0<=qi (val ds) (val es):=by have:=oI.out; unfold qi; split <;> (try split) <;> omega
 have Gf:=(wak (val ds) (val es)).2;generalize qi (val ds) (val es)=cm at *;rintro e w2 ⟨rfl,n2,AX⟩;have y2:Ext w1 w2:=by rw [AX]; exact (Ext.refl w1).drewN n2
 have X2:=hid (x1.trans y2);have ry:=aY.ext y2;clear AX aY x1 y2;obtain ⟨A,c,rfl,q1,q2,q3⟩:=ry;rw [HM.out] at q1 ⊢;obtain ⟨ad,t,rfl,hb,aj,ht1,HT⟩:=q3.get_ (m+1) (by have:=HM.out; omega);have ht0:t ≠ 0:=by
  intro e;have h1:=qbp (n:=val es) (by intro e0; have:=HM.out; rw [e0,jm] at this; simp at this);have e1:=yh HT;rw [List.take_of_length_le (by have:=HM.out; omega),xg,e,Nat.mul_zero,Nat.add_zero] at e1;have af:=jy ((gak (val es)).take (m+1));rw [List.length_take,Nat.min_eq_left (by have:=HM.out; omega),<- e1] at af;rw [HM.out] at h1;exact absurd af (Nat.not_lt.2 h1)
 rw [xbt] at aj;have Q3:=hid q3;have kL:(((m:Int)+2) == 1)=false:=beq_eq_false_iff_ne.2 (by omega);clear q3;go_wp2_with fail;refine (gbq t _ ht0 ht1).mono ?_;rintro e w3 ⟨⟨s,bU,XH,ht3,rfl⟩,rfl⟩;obtain ⟨jY,zT⟩:=xb9 HM.out HT.out XH ht3 bU;have HV1:=hid jY;have uP:=hid zT;clear XH ht3 jY zT ht0;go_wp2_with fail;refine (yby _ (dg (val es)) s _ ⟨some ad,c,by rw [HM.out],by rw [HM.out]; exact q1,q2,Q3.out⟩ (by rw [HM.out]; omega) (by omega)).mono ?_;rw [xg];rintro e w4 ⟨v4,rfl,pW,x4⟩;have X4:=hid (X2.out.trans x4);obtain ⟨A4,c4,rfl,p1,p2,p3⟩:=pW;rw [uP.out] at p1 ⊢;have P3:=hid p3;clear p3 x4 Q3 aj HT kL;go_wp2_with fail;refine (vab _ _ _ (H.out.ext X4.out) (by omega)).mono ?_;rintro e w5 ⟨v5,rfl,⟨A5,c5,rfl,-,-,-⟩,x5⟩;rw [WG.out];have X5:=hid (X4.out.trans x5);have P5:=hid (P3.out.ext x5);clear x5 P3;have cu:=fun W=>xaa ((La:Int)+1) (by omega) (by omega) W
 go_wp2_with fail;have HU:Hid (val ds * 2 ^ s < 2147483648 * B32 ^ La):=by
  have h1:=wad (val ds);rw [WG.out] at h1;have h2:2 ^ s<=2 ^ 31:=Nat.pow_le_pow_right (by omega) (by omega);have h3:val ds * 2 ^ s < B32 ^ La * 2 ^ s:=Nat.mul_lt_mul_of_pos_right h1 (Nat.pow_pos (by omega));have h4:B32 ^ La * 2 ^ s<=B32 ^ La * 2147483648:=Nat.mul_le_mul_left _ h2;have:val ds * 2 ^ s < 2147483648 * B32 ^ La:=by rw [Nat.mul_comm 2147483648]; omega
  exact this
 have HUL:Hid ((dg (val ds * 2 ^ s)).length<=La+1):=by
  have:(dg (val ds * 2 ^ s)).length<=La+1:=by
   apply zg;have:=HU.out;have h5:2147483648 * B32 ^ La<=B32 * B32 ^ La:=Nat.mul_le_mul_right _ (by decide);rw [Nat.pow_succ,Nat.mul_comm (B32 ^ La)];omega
  exact this
 have Xp:Ext w5 (w5.alloc (Obj.cells (yt (List.replicate (La+1) 0)).toArray 90)):=(Ext.refl _).alloc _;refine (yby _ ds s _ (H.out.ext (X5.out.trans Xp)) (by omega) (by omega)).mono ?_;rintro e w6 ⟨v6,rfl,hv6,x6⟩;have R6:=hid ((Row.new w5 (List.replicate (La+1) 0)).ext x6);have X6:=hid (X5.out.trans (Xp.trans x6));have P6:=hid (P5.out.ext (Xp.trans x6));have ajV:w5.heap.size < w6.heap.size:=R6.out.lt;have NB4:Hid (∀ a,A4=some a->a.block < w5.heap.size):=by
  intro a e;subst e;obtain ⟨a',e',dL,-⟩:=P5.out.2 (by have:=uP.out; omega);injection e' with e'
  subst e';omega
 have NB:Hid (∀ a,A4=some a->a.block ≠ w5.heap.size):=fun a e=>by have:=NB4.out a e; omega
 obtain ⟨A6,c6,rfl,s1,s2,s3⟩:=hv6;have S3:=hid s3;clear s3 x6 Xp cu;obtain ⟨nq,hnq,ajK⟩:∃ nq,La=m+1+nq/\1<=nq:=⟨La - m - 1,by omega,by omega⟩;have yP:=HUL.out;generalize hUE:dg (val ds * 2 ^ s)=UE at *;have HUE:=hid hUE;clear hUE;have k1:UE.length<=La+1:=yP;have k2:0+UE.length<=(List.replicate (La+1) 0).length:=by rw [List.length_replicate]; omega
 have eq1:(La:Int)+1 - ((m:Int)+2)=nq:=by omega
 have sO:=fun W=>xaa (nq:Int) (by omega) (by omega) W
 have DZ:=hid hnq;have ajJ:nq<=La:=by omega
 clear hnq
 go_wp2_with (with_reducible refine gai rfl (.tmp 56) (.tmp 59) rfl w5.heap.size 0 (La + 1) (La + 1) A6 c6 UE (List.replicate (La + 1) 0) rfl rfl R6.out S3.out k1 k2 ?_
              intro w7 R7 O7;have R7':=hid R7;have YX:=hid O7
              clear R7 O7)
 have df:Hid (za6 w w5.heap.size w7.heap.size La nq A4 (dg (val es * 2 ^ s)) (val ds * 2 ^ s) nq (w7.alloc (Obj.cells (yt (List.replicate nq 0)).toArray 90))):=by
  have r7:=R7'.out;rw [List.take_zero,List.nil_append,Nat.zero_add,List.drop_replicate] at r7;have yP:(UE ++ List.replicate (La+1 - UE.length) 0).length=La+1:=by simp; omega
  have hvu:val (UE ++ List.replicate (La+1 - UE.length) 0)=val ds * 2 ^ s:=by
   rw [val_append,wab,Nat.mul_zero,Nat.add_zero,<- HUE.out,xg]
  have x7:Ext w w7:=YX.out.ext X6.out (by have:=X5.out.size; omega);refine ⟨UE ++ List.replicate (La+1 - UE.length) 0,List.replicate nq 0,r7.alloc _,yP,S3.out.1.append (jg.replicate _),Row.new w7 _,by simp,jg.replicate _,⟨?_,?_⟩,(P6.out.only YX.out NB.out).ext ((Ext.refl _).alloc _),x7.alloc _⟩
  · rw [hvu,List.drop_eq_nil_of_le (by simp)]; simp
  · rw [xg];refine Nat.lt_of_lt_of_le ?_ HV1.out;have e1:=vk (UE ++ List.replicate (La+1 - UE.length) 0) nq (by omega);have h1:=HU.out;have h2:=DZ.out;rw [<- hvu,e1,show B32 ^ La=B32 ^ (m+1+nq) from by rw [<- h2],Nat.pow_add,<- Nat.mul_assoc,Nat.mul_comm _ (B32 ^ nq)] at h1;exact Nat.lt_of_mul_lt_mul_left (Nat.lt_of_le_of_lt (Nat.le_add_left _ _) h1)
 have GU:Hid (w5.heap.size < w7.heap.size):=by
  have:=YX.out.size;have h2:w5.heap.size < w7.heap.size:=by omega
  exact h2
 clear R7' YX S3 R6 P6 X6 P5 eq1 sO;generalize hgu:w5.heap.size=gu at *;generalize hgq:w7.heap.size=gq at *;generalize w7.alloc (Obj.cells (yt (List.replicate nq 0)).toArray 90)=W8 at *;have TS:w.heap.size<=gu:=by have:=X5.out.size; omega
 have akh:gu < gq:=GU.out;clear hgu hgq GU HU HUL HUE
 go_step3
 go_wp2_with fail
 go_loopw [13] (fun iv wr=>∃ k:Nat,k<=nq/\iv=.int .i64 ((k:Int) - 1)/\Hid (za6 w gu gq La nq A4 (dg (val es * 2 ^ s)) (val ds * 2 ^ s) k wr)) (fun iv _=>(intOf iv+1).toNat)
 case atStart=>exact ⟨nq,Nat.le_refl _,rfl,df⟩
 case round =>
  clear df;obtain ⟨k,hk,rfl,HI⟩:=hrel;obtain ⟨us,qs,vH,yP,wW,AZ,sG,yR,sW,QQ,ay⟩:=HI.out;rcases k with _ | j
  · have GX:Hid (jd wr (.slice (some ⟨gq,0,none⟩) nq nq) qs):=AZ.natVn yR _ _ sG (Nat.le_refl _) (by omega);have PY:Hid (jd wr (.slice (some ⟨gu,0,none⟩) (La+1) (La+1)) us):=vH.natVn wW _ _ yP (Nat.le_refl _) (by omega);have HQR:Hid (val qs=val ds / val es/\val us / 2 ^ s=val ds % val es):=by
     obtain ⟨k1,k2⟩:=sW;rw [xg,Nat.pow_zero,Nat.one_mul,List.drop_zero] at k1;rw [xg,List.drop_zero] at k2;have hp:0 < 2 ^ s:=Nat.pow_pos (by omega);have fU:0 < val es * 2 ^ s:=by omega
     have d1:val ds * 2 ^ s / (val es * 2 ^ s)=val qs:=by rw [k1,Nat.add_mul_div_left _ _ fU,Nat.div_eq_of_lt k2,Nat.zero_add]
     have d2:val ds * 2 ^ s % (val es * 2 ^ s)=val us:=by rw [k1,Nat.add_mul_mod_self_left,Nat.mod_eq_of_lt k2]
     rw [Nat.mul_div_mul_right _ _ hp] at d1;rw [Nat.mul_mod_mul_right] at d2;exact ⟨d1.symm,by rw [<- d2,Nat.mul_div_cancel _ hp]⟩
    have HX:=hid ay;clear HI vH yP wW AZ sG yR sW QQ ay;go_wp2_with fail;refine (vab _ _ _ GX.out (by have:=GX.out; obtain ⟨_,_,e,-⟩:=this; injection e with _ e; omega)).mono ?_;rw [HQR.out.1];rintro e wE ⟨vE,rfl,hvE,xE⟩;have HVE:=hid hvE;have XE:=hid xE;clear hvE xE;go_wp2_with fail;refine (xcs _ _ _ _ (PY.out.ext XE.out) (by have:=PY.out; obtain ⟨_,_,e,-⟩:=this; injection e with _ e; omega) (by omega)).mono ?_;rw [HQR.out.2];rintro e wF ⟨vF,rfl,hvF,xF⟩;have HVF:=hid hvF;have XF:=hid xF;clear hvF xF;go_wp2_with fail;rw [Exit.noGoto_ret]
    go_ret2
    exact ⟨_,_,rfl,HVE.out.ext XF.out,HVF.out,HX.out.trans (XE.out.trans XF.out)⟩
  · have hjm:j+m+2<=La:=by have:=DZ.out; omega
    have QO:=uP.out;obtain ⟨uN,v1,rfl,aX,F7,aY,HVa⟩:=QQ.get_ (m+1) (by omega);obtain ⟨_,v2,e0,dA,LK,ry,HVb⟩:=QQ.get_ m (by omega);injection e0 with e0
    subst e0;obtain ⟨u2,F8,_,HU2⟩:=vH.get_ (j+(m+2)) (by omega);obtain ⟨u1,F9,_,HU1⟩:=vH.get_ (j+(m+1)) (by omega);obtain ⟨u0,LQ,_,HU0⟩:=vH.get_ (j+m) (by omega);obtain ⟨q0,Um,Ud,_⟩:=AZ.get_ j (by omega);obtain ⟨z1,z2,z3,z4,z5,z6,z7⟩:=ybw wW (gak _) QO (by omega) sW.2 HU2.out HU1.out HU0.out HVa.out HVb.out (by rw [xg]; exact HV1.out);have hu2:u2 < 4294967296:=wW _ (List.mem_of_getElem? HU2.out);have XC:u1 < 4294967296:=wW _ (List.mem_of_getElem? HU1.out);have hu0:u0 < 4294967296:=wW _ (List.mem_of_getElem? HU0.out);have Z:=hid (And.intro z1 (And.intro z2 (And.intro z3 (And.intro z6 z7))));have Ns:=hid (And.intro vH (And.intro yP wW));have rO:=hid (And.intro AZ (And.intro sG yR));have HKI:=hid sW;have HVA:=hid QQ;have mM:=hid ay;clear HI z1 z2 z3 z6 z7 vH yP wW AZ sG yR sW QQ ay QO;rw [show (((j+1:Nat):Int) - 1)=(j:Int) from by omega];go_wp2_with fail;rw [show j+(m+2)+1 - j=m+2+1 from by omega]
    have WW:Hid (∀ W',Calls Tryz.prog 158 #[.int .u32 (u2:Nat),.int .u32 (u1:Nat),.int .u32 (u0:Nat),.int .u32 (v1:Nat),.int .u32 (v2:Nat)] W' fun e w' =>
     e=.returned (.int .u32 (kah B32 (u2 * B32 * B32+u1 * B32+u0) (v1 * B32+v2):Nat))/\∃ n,w'=W'.drewN n):=fun W'=>gbr u2 u1 u0 v1 v2 W' z4 XC hu0 aY ry z5
    have Dn:=gcu yj (u2 * B32 * B32+u1 * B32+u0) (v1 * B32+v2);rw [zh] at Dn;rw [<- zh] at Dn;generalize kah B32 (u2 * B32 * B32+u1 * B32+u0) (v1 * B32+v2)=qh at *;obtain ⟨n,hn⟩:∃ n,n=m+2:=⟨_,rfl⟩;obtain ⟨n3,SC⟩:∃ n3,n3=m+2+1:=⟨_,rfl⟩;obtain ⟨n1,sN⟩:∃ n1,n1=m+1:=⟨_,rfl⟩;have en:(m:Int)+2=n:=by omega
    rw [<- SC,<- hn,en];rw [<- sN] at F7 F9;rw [<- hn] at F8;have HN:=hid (And.intro hn (And.intro SC sN));have i0:(0:Int)<=(n:Int):=by omega
    have i1:(n:Int) < n3:=by omega
    have i3:(n1:Int) < n3:=by omega
    have i5:(m:Int) < n3:=by omega
    have i6:(n1:Int) < n:=by omega
    have i7:(m:Int) < n:=by omega
    have i9:(j:Int) < nq:=by omega
    have aba:n<=17592186044416:=by omega
    have wp1:IntKind.i64.wrap ((n:Int) - 1)=n1:=by rw [IntWalk.i64_in _ (by omega)]; omega
    have wp2:IntKind.i64.wrap ((n:Int) - 2)=m:=by rw [IntWalk.i64_in _ (by omega)]; omega
    clear en hn SC sN;have Gj:=NB4.out uN rfl
    have aG:Hid (∀ n',((wr.drewN n').cell? ⟨gu,j+n,none⟩=some (.int .u32 (u2:Nat))/\(wr.drewN n').cell? ⟨gu,j+n1,none⟩=some (.int .u32 (u1:Nat))/\(wr.drewN n').cell? ⟨gu,j+m,none⟩=some (.int .u32 (u0:Nat)) /\
     (wr.drewN n').cell? (uN.add n1)=some (.int .u32 (v1:Nat))/\(wr.drewN n').cell? (uN.add m)=some (.int .u32 (v2:Nat)))):=
     fun n'=>⟨F8,F9,LQ,F7,LK⟩
    have VS:Hid (∀ n' x,(((wr.drewN n').setCell ⟨gq,j,none⟩ x).cell? ⟨gu,j+n,none⟩=some (.int .u32 (u2:Nat))/\((wr.drewN n').setCell ⟨gq,j,none⟩ x).cell? ⟨gu,j+n1,none⟩=some (.int .u32 (u1:Nat))/\((wr.drewN n').setCell ⟨gq,j,none⟩ x).cell? ⟨gu,j+m,none⟩=some (.int .u32 (u0:Nat)) /\
     ((wr.drewN n').setCell ⟨gq,j,none⟩ x).cell? (uN.add n1)=some (.int .u32 (v1:Nat))/\((wr.drewN n').setCell ⟨gq,j,none⟩ x).cell? (uN.add m)=some (.int .u32 (v2:Nat)))):=by
     intro n' x;refine ⟨?_,?_,?_,?_,?_⟩ <;> rw [World.cell?_setCell_other _ _ _ _ (fun e=>by have:=congrArg Addr.block e; simp [ja] at this; omega)]
     · exact F8
     · exact F9
     · exact LQ
     · exact F7
     · exact LK
    have abV:∀ n',(wr.drewN n').cell? ⟨gq,j,none⟩=some (.int .u32 (q0:Nat)):=fun _=>Um
    have abG:∀ n',(wr.drewN n').frozen? ⟨gq,j,none⟩=false:=fun _=>Ud
    go_region_held3 (fun W'=>W'.cell? ⟨gu,j+n,none⟩=some (.int .u32 (u2:Nat))/\W'.cell? ⟨gu,j+n1,none⟩=some (.int .u32 (u1:Nat))/\W'.cell? ⟨gu,j+m,none⟩=some (.int .u32 (u0:Nat)) /\
     W'.cell? (uN.add n1)=some (.int .u32 (v1:Nat))/\W'.cell? (uN.add m)=some (.int .u32 (v2:Nat)))
     (first | exact aG.out 1 | exact aG.out _ | exact VS.out _ _)
     ((go_at_call 158; refine (WW.out _).mono ?_; rintro e w' ⟨rfl,n9,rfl⟩))
    obtain ⟨hn,SC,sN⟩:=HN.out;subst hn;subst SC;subst sN;rw [show ((m+2:Nat):Int)=(m:Int)+2 from by simp];clear aG VS WW wp1 wp2 i0 i1 i3 i5 i6 i7 i9 aba F7 LK F8 F9 LQ Um abV Ud abG HN aX dA;obtain ⟨vH,yP,wW⟩:=Ns.out;obtain ⟨AZ,sG,yR⟩:=rO.out;have hA:Row ((wr.drewN (1+n9)).setCell ⟨gq,j,none⟩ (.int .u32 (qh:Nat))) gu us:=(vH.drewN (1+n9)).far (by simp; omega) _;have hB:Row ((wr.drewN (1+n9)).setCell ⟨gq,j,none⟩ (.int .u32 (qh:Nat))) gq (qs.set j qh):=(AZ.drewN (1+n9)).set_ _ _;have abA:w.heap.size<=gq:=by omega
    have hC:Ext w ((wr.drewN (1+n9)).setCell ⟨gq,j,none⟩ (.int .u32 (qh:Nat))):=(mM.out.drewN (1+n9)).setCell (by simpa using abA) _;have hD:zk ((wr.drewN (1+n9)).setCell ⟨gq,j,none⟩ (.int .u32 (qh:Nat))) (some uN) (dg (val es * 2 ^ s)):=by
     have o1:Only gq wr ((wr.drewN (1+n9)).setCell ⟨gq,j,none⟩ (.int .u32 (qh:Nat))):=((Only.refl gq wr).drewN (1+n9)).setCell _ _;exact HVA.out.only o1 (fun a e=>by injection e with e; subst e; omega)
    generalize (wr.drewN (1+n9)).setCell ⟨gq,j,none⟩ (.int .u32 (qh:Nat))=wA at *;have hcq:=hB.cell j (by rw [List.length_set]; omega);rw [List.getElem_set_self] at hcq;have EC:=hB.frozen j;have HA:=hid hA;have HB:=hid hB;have HC:=hid hC;have HD:=hid hD;clear hA hB hC hD vH AZ yP wW sG yR;go_wp2_with fail;obtain ⟨-,yP,wW⟩:=Ns.out;obtain ⟨-,sG,yR⟩:=rO.out;have yY:∀ a,some uN=some a->a.block ≠ gu:=fun a e=>by injection e with e; subst e; omega
    refine (ych gu j (La+1 - j) (m+2) c4 qh us (dg (val es * 2 ^ s)) (some uN) wA HA.out wW (by omega) (by omega) (by omega) HD.out uP.out yY p1 p2 Dn).mono ?_;rintro e wB ⟨ys,b,hb,rfl,Q5,BX⟩
    change uai gu j us (m+3) wA wB ys at Q5
    change val (seg ys j (m+3))+qh * val (dg (val es * 2 ^ s))=val (seg us j (m+3))+B32 ^ (m+3) * b at BX
    obtain ⟨t1,t2,t3,t4,t5,t6⟩:=Q5;obtain ⟨z1,z2,z3,z6,z7⟩:=Z.out;rw [z2,xg] at BX;rw [xg] at z1 z6 z7;have tJ:0 < val es * 2 ^ s:=by
     have h1:=HV1.out;have h2:0 < 2147483648 * B32 ^ (m+1):=Nat.mul_pos (by omega) (Nat.pow_pos yj);omega
    have IA:=HKI.out;rw [xg] at IA;have Pz:Row wB gq (qs.set j qh):=HB.out.only t6 (by omega);have YK:zk wB (some uN) (dg (val es * 2 ^ s)):=HD.out.only t6 yY;have YJ:Ext w wB:=t6.ext HC.out TS;rcases Nat.eq_zero_or_pos b with aV | aX
    · subst aV;obtain ⟨f1,f2⟩:=qch tJ BX z6;have HS:Hid (za6 w gu gq La nq (some uN) (dg (val es * 2 ^ s)) (val ds * 2 ^ s) j wB):=by
       refine ⟨ys,qs.set j qh,t1,by omega,t3,Pz,by rw [List.length_set]; exact sG,yR.set _ _ Dn,?_,YK,YJ⟩;rw [xg];exact gbd (n:=m+3) IA tJ (by omega) t2 (by omega) t4 t5 z3 (by omega) f2 f1
      clear BX t1 t2 t3 t4 t5 t6 z1 z2 z3 z6 z7 IA Pz YK YJ f1 f2 HA HB HC HD Ns rO HKI HVA mM Z yP wW sG yR tJ yY;go_wp2_with fail
      go_roundw
      case rel=>exact ⟨j,by omega,rfl,HS⟩
      case measure=>simp [intOf]
    · obtain rfl:b=1:=by omega
      have Un:=Pz.cell j (by rw [List.length_set]; omega);rw [List.getElem_set_self] at Un;have abH:=Pz.frozen j;have hV4:=jy (gak (val es * 2 ^ s));rw [xg,uP.out] at hV4;have hVD:val es * 2 ^ s<=B32 ^ (m+3):=Nat.le_trans (Nat.le_of_lt hV4) (Nat.pow_le_pow_right yj (by omega));have hS1:val (seg ys j (m+3)) < B32 ^ (m+3):=by
       have:=jy ((t3.drop j).take (m+3));rw [List.length_take,List.length_drop,Nat.min_eq_left (by omega)] at this;exact this
      have ajB:0 < qh:=by
       rcases Nat.eq_zero_or_pos qh with e | e
       · exfalso
         rw [e,Nat.zero_mul,Nat.mul_one,Nat.add_zero] at BX;exact absurd hS1 (by rw [BX]; exact Nat.not_lt.2 (Nat.le_add_left _ _))
       · exact e
      have G:=hid (And.intro BX (And.intro z7 (And.intro hVD (And.intro hS1 tJ))));have T:=hid (And.intro t1 (And.intro t2 (And.intro t3 (And.intro t4 (And.intro t5 t6)))));have HBQ:=hid Pz;have JG:=hid YK;have iG:=hid YJ;have WI:=hid IA;have BF:=hid z3;rw [zh] at Dn;clear BX t1 t2 t3 t4 t5 t6 z1 z2 z3 z6 z7 IA Pz YK YJ tJ hVD hS1 hV4 HA HB HC HD hcq EC;go_wp2_with fail;obtain ⟨t1,t2,t3,t4,t5,t6⟩:=T.out;have abB:w.heap.size<=gq:=by omega
      have Fh:((qh:Int) - 1)=((qh - 1:Nat):Int):=by omega
      rw [Fh];have hA:Row (wB.setCell ⟨gq,j,none⟩ (.int .u32 ((qh - 1:Nat):Int))) gu ys:=t1.far (by simp; omega) _;have hB:Row (wB.setCell ⟨gq,j,none⟩ (.int .u32 ((qh - 1:Nat):Int))) gq (qs.set j (qh - 1)):=by
       have:=HBQ.out.set_ j (qh - 1);rw [List.set_set] at this;exact this
      have hC:Ext w (wB.setCell ⟨gq,j,none⟩ (.int .u32 ((qh - 1:Nat):Int))):=iG.out.setCell (by simpa using abB) _
      have hD:zk (wB.setCell ⟨gq,j,none⟩ (.int .u32 ((qh - 1:Nat):Int))) (some uN) (dg (val es * 2 ^ s)):=
       JG.out.only ((Only.refl gq wB).setCell _ _) (fun a e=>by injection e with e; subst e; omega)
      generalize wB.setCell ⟨gq,j,none⟩ (.int .u32 ((qh - 1:Nat):Int))=wC at *;refine (ycp gu j (La+1 - j) (m+2) c4 ys (dg (val es * 2 ^ s)) (some uN) wC hA t3 (by omega) (by omega) (by omega) hD uP.out yY p1 p2).mono ?_;rintro e wD ⟨xs,cc,rfl,Q5,LM⟩
      change uai gu j ys (m+3) wC wD xs at Q5
      change val (seg xs j (m+3))+B32 ^ (m+3) * cc=val (seg ys j (m+3))+val (dg (val es * 2 ^ s)) at LM
      rw [xg] at LM;obtain ⟨s1,s2,s3,s4,s5,s6⟩:=Q5;obtain ⟨g1,g2,g3,g4,g5⟩:=G.out;have hS2:val (seg xs j (m+3)) < B32 ^ (m+3):=by
       have:=jy ((s3.drop j).take (m+3));rw [List.length_take,List.length_drop,Nat.min_eq_left (by omega)] at this;exact this
      obtain ⟨f1,-,f3⟩:=xch g5 g3 g4 hS2 g1 g2 LM;have HS:Hid (za6 w gu gq La nq (some uN) (dg (val es * 2 ^ s)) (val ds * 2 ^ s) j wD):=by
       refine ⟨xs,qs.set j (qh - 1),s1,by omega,s3,hB.only s6 (by omega),by rw [List.length_set]; exact sG,yR.set _ _ (by rw [zh]; omega),?_,hD.only s6 yY,s6.ext hC TS⟩;rw [xg];exact gbd (n:=m+3) WI.out g5 (by omega) (s2.trans t2) (by omega) (s4.trans t4) (s5.trans t5) BF.out (by omega) f3 f1
      clear LM s1 s2 s3 s4 s5 s6 g1 g2 g3 g4 g5 hS2 f1 f3 t1 t2 t3 t4 t5 t6 hA hB hC hD Fh G T HBQ JG iG WI BF Ns rO HKI HVA mM Z yP wW sG yR yY Un abH;go_wp2_with fail
      go_roundw
      case rel=>exact ⟨j,by omega,rfl,HS⟩
      case measure=>simp [intOf]
theorem ube (u v:Value) (ds es:List Nat) (w:World) (h:jd w u ds) (k:jd w v es) (hs:ds.length<=17592186044416) (Ce:es.length<=17592186044416) (h0:val es ≠ 0) :
 Calls Tryz.prog 131 #[u,v] w (qbm (val ds / val es) (val ds % val es) w):=by
 rcases Nat.lt_or_ge (val ds) (val es) with af | oN
 · exact jbs u v ds es w h k hs Ce af
 · rcases Nat.lt_or_ge (dg (val es)).length 2 with h1 | h2
   · have h3:=wad (val es);have h4:B32 ^ (dg (val es)).length<=B32 ^ 1:=Nat.pow_le_pow_right yj (by omega);rw [Nat.pow_one] at h4;exact gb5 u v ds es w h k hs Ce oN h0 (Nat.lt_of_lt_of_le h3 h4)
   · exact zbx u v ds es w h k hs Ce oN h2
end Go.Proofs.YtklnlgnnlmdibaaGreat
