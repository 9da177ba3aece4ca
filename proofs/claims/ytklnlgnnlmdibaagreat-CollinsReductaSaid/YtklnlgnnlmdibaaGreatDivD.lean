/- Layer 3 (division): long division, the main case. -/
import Derived.Test.YtklnlgnnlmdibaaGreatMr45
set_option linter.unusedSimpArgs false
set_option linter.unusedVariables false

set_option maxRecDepth 100000
set_option maxHeartbeats 8000000
namespace Go.Proofs.YtklnlgnnlmdibaaGreat
open Go.RowKit
theorem vbz {V s m t:Nat} (hl:(dg V).length=m+2) (ht:(dg V)[m+1]?=some t) (h1:2147483648<=t * 2 ^ s) (h2:t * 2 ^ s < 4294967296) (hs:s < 32) :
 2147483648 * B32 ^ (m+1)<=V * 2 ^ s/\(dg (V * 2 ^ s)).length=m+2:=by
 have hB:=zi;have e:=vg (E:=dg V) (k:=m+1) (x:=t) ht;rw [List.take_of_length_le (by omega),zg] at e;have hlt:=wu ((yah V).take (m+1));rw [List.length_take,Nat.min_eq_left (by omega)] at hlt;have g1:2147483648 * B32 ^ (m+1)<=V * 2 ^ s:=by
  have h3:=Nat.mul_le_mul_right (B32 ^ (m+1)) h1;rw [e,Nat.add_mul,Nat.mul_assoc (B32 ^ (m+1)),Nat.mul_comm (B32 ^ (m+1)) (t * 2 ^ s)];omega
 refine ⟨g1,?_⟩;have g2:V * 2 ^ s < B32 ^ (m+2):=by
  have hq:(t+1) * 2 ^ s<=B32:=by
   obtain ⟨q,hq⟩:∃ q,B32=q * 2 ^ s:=⟨2 ^ (32 - s),by rw [<- Nat.pow_add,show 32 - s+s=32 from by omega]; rfl⟩;rw [hq];have h4:t * 2 ^ s < q * 2 ^ s:=by rw [<- hq]; exact h2
   exact Nat.mul_le_mul_right _ (Nat.lt_of_mul_lt_mul_right h4)
  have h5:V * 2 ^ s < (t+1) * B32 ^ (m+1) * 2 ^ s:=Nat.mul_lt_mul_of_pos_right (by rw [e,Nat.add_mul,Nat.one_mul,Nat.mul_comm t]; omega) (Nat.pow_pos (by omega));have h6:=Nat.mul_le_mul_right (B32 ^ (m+1)) hq;rw [Nat.pow_succ,Nat.mul_comm (B32 ^ (m+1))];rw [Nat.mul_right_comm] at h5;omega
 have g3:=qf g2;rcases Nat.lt_or_ge (dg (V * 2 ^ s)).length (m+2) with h | h
 · exfalso
   have h7:=gab (V * 2 ^ s);have h8:B32 ^ (dg (V * 2 ^ s)).length<=B32 ^ (m+1):=Nat.pow_le_pow_right hB (by omega);have h9:B32 ^ (m+1)<=2147483648 * B32 ^ (m+1):=Nat.le_mul_of_pos_left _ (by omega);omega
 · omega
def zaz (w0:World) (gu gq La nq:Nat) (A:Option Addr) (vs:List Nat) (U k:Nat) (wr:World):Prop:=
 ∃ us qs:List Nat,Row wr gu us/\us.length=La+1/\qg us/\Row wr gq qs/\qs.length=nq/\qg qs/\jce U (val vs) us qs k/\qi wr A vs/\Ext w0 wr
theorem kbp (u v:Value) (ds es:List Nat) (w:World) (h:jc w u ds) (k:jc w v es) (hs:ds.length<=17592186044416) (hs':es.length<=17592186044416) (hge:val es<=val ds) (hbig:2<=(dg (val es)).length) :
 Calls Tryz.prog 131 #[u,v] w (jbe (val ds / val es) (val ds % val es) w):=by
 have H:=Lib.hid h;have K:=Lib.hid k;have HGE:=Lib.hid hge;have hla:(dg (val ds)).length<=ds.length:=ug h.digs;have hlb:(dg (val es)).length<=es.length:=ug k.digs;have hab:(dg (val es)).length<=(dg (val ds)).length:=gp hge;clear h k hge;obtain ⟨m,hm⟩:∃ m,(dg (val es)).length=m+2:=⟨(dg (val es)).length - 2,by omega⟩;have HM:=Lib.hid hm;rw [hm] at hlb hab hbig;clear hm;obtain ⟨La,hLa⟩:∃ La,(dg (val ds)).length=La:=⟨_,rfl⟩;have HLA:=Lib.hid hLa;rw [hLa] at hla hab;clear hLa;go_enter Tryz.func131,Tryz.ntmps131;go_wp2_with fail
 go_step3
 go_wp2_with fail;refine (zaa _ _ _ K.out (by omega)).mono ?_;rintro e w1 ⟨v1,rfl,hv1,x1⟩;go_wp2_with fail;refine (xak _ _ _ _ _ (H.out.ext x1) hv1).mono ?_;rw [zg];have hcm:0<=zh (val ds) (val es):=by have:=HGE.out; unfold zh; split <;> (try split) <;> omega
 have hcm2:=(xah (val ds) (val es)).2;generalize zh (val ds) (val es)=cm at *;rintro e w2 ⟨rfl,n2,hw2⟩;have y2:Ext w1 w2:=by rw [hw2]; exact (Ext.refl w1).drewN n2
 have X2:=Lib.hid (x1.trans y2);have hv2:=hv1.ext y2;clear hw2 hv1 x1 y2;obtain ⟨A,c,rfl,q1,q2,q3⟩:=hv2;rw [HM.out] at q1 ⊢;obtain ⟨ad,t,rfl,hb,hcell,ht1,HT⟩:=q3.get_ (m+1) (by have:=HM.out; omega);have ht0:t ≠ 0:=by
  intro e;have h1:=wbh (n:=val es) (by intro e0; have:=HM.out; rw [e0,uk] at this; simp at this);have e1:=vg HT;rw [List.take_of_length_le (by have:=HM.out; omega),zg,e,Nat.mul_zero,Nat.add_zero] at e1;have hlt:=wu ((yah (val es)).take (m+1));rw [List.length_take,Nat.min_eq_left (by have:=HM.out; omega),<- e1] at hlt;rw [HM.out] at h1;exact absurd hlt (Nat.not_lt.2 h1)
 rw [wbl] at hcell;have Q3:=Lib.hid q3;have hone:(((m:Int)+2) == 1)=false:=beq_eq_false_iff_ne.2 (by omega);clear q3;go_wp2_with fail;refine (xbj t _ ht0 ht1).mono ?_;rintro e w3 ⟨⟨s,hs1,ht2,ht3,rfl⟩,rfl⟩;obtain ⟨hV1,hV2⟩:=vbz HM.out HT.out ht2 ht3 hs1;have HV1:=Lib.hid hV1;have HV2:=Lib.hid hV2;clear ht2 ht3 hV1 hV2 ht0;go_wp2_with fail;refine (vbq _ (dg (val es)) s _ ⟨some ad,c,by rw [HM.out],by rw [HM.out]; exact q1,q2,Q3.out⟩ (by rw [HM.out]; omega) (by omega)).mono ?_;rw [zg];rintro e w4 ⟨v4,rfl,hv4,x4⟩;have X4:=Lib.hid (X2.out.trans x4);obtain ⟨A4,c4,rfl,p1,p2,p3⟩:=hv4;rw [HV2.out] at p1 ⊢;have P3:=Lib.hid p3;clear p3 x4 Q3 hcell HT hone;go_wp2_with fail;refine (zaa _ _ _ (H.out.ext X4.out) (by omega)).mono ?_;rintro e w5 ⟨v5,rfl,⟨A5,c5,rfl,-,-,-⟩,x5⟩;rw [HLA.out];have X5:=Lib.hid (X4.out.trans x5);have P5:=Lib.hid (P3.out.ext x5);clear x5 P3;have hmk:=fun W=>zy ((La:Int)+1) (by omega) (by omega) W
 go_wp2_with fail;have HU:Hid (val ds * 2 ^ s < 2147483648 * B32 ^ La):=by
  have h1:=gab (val ds);rw [HLA.out] at h1;have h2:2 ^ s<=2 ^ 31:=Nat.pow_le_pow_right (by omega) (by omega);have h3:val ds * 2 ^ s < B32 ^ La * 2 ^ s:=Nat.mul_lt_mul_of_pos_right h1 (Nat.pow_pos (by omega));have h4:B32 ^ La * 2 ^ s<=B32 ^ La * 2147483648:=Nat.mul_le_mul_left _ h2;have:val ds * 2 ^ s < 2147483648 * B32 ^ La:=by rw [Nat.mul_comm 2147483648]; omega
  exact this
 have HUL:Hid ((dg (val ds * 2 ^ s)).length<=La+1):=by
  have:(dg (val ds * 2 ^ s)).length<=La+1:=by
   apply qf;have:=HU.out;have h5:2147483648 * B32 ^ La<=B32 * B32 ^ La:=Nat.mul_le_mul_right _ (by decide);rw [Nat.pow_succ,Nat.mul_comm (B32 ^ La)];omega
  exact this
 have x50:Ext w5 (w5.alloc (Obj.cells (qo (List.replicate (La+1) 0)).toArray 90)):=(Ext.refl _).alloc _;refine (vbq _ ds s _ (H.out.ext (X5.out.trans x50)) (by omega) (by omega)).mono ?_;rintro e w6 ⟨v6,rfl,hv6,x6⟩;have R6:=Lib.hid ((Row.new w5 (List.replicate (La+1) 0)).ext x6);have X6:=Lib.hid (X5.out.trans (x50.trans x6));have P6:=Lib.hid (P5.out.ext (x50.trans x6));have hlt5:w5.heap.size < w6.heap.size:=R6.out.lt;have NB4:Hid (∀ a,A4=some a->a.block < w5.heap.size):=by
  intro a e;subst e;obtain ⟨a',e',hb',-⟩:=P5.out.2 (by have:=HV2.out; omega);injection e' with e'
  subst e';omega
 have NB:Hid (∀ a,A4=some a->a.block ≠ w5.heap.size):=fun a e=>by have:=NB4.out a e; omega
 obtain ⟨A6,c6,rfl,s1,s2,s3⟩:=hv6;have S3:=Lib.hid s3;clear s3 x6 x50 hmk;obtain ⟨nq,hnq,hnq1⟩:∃ nq,La=m+1+nq/\1<=nq:=⟨La - m - 1,by omega,by omega⟩;have hul:=HUL.out;generalize hUE:dg (val ds * 2 ^ s)=UE at *;have HUE:=Lib.hid hUE;clear hUE;have k1:UE.length<=La+1:=hul;have k2:0+UE.length<=(List.replicate (La+1) 0).length:=by rw [List.length_replicate]; omega
 have eq1:(La:Int)+1 - ((m:Int)+2)=nq:=by omega
 have hmk2:=fun W=>zy (nq:Int) (by omega) (by omega) W
 have HNQ:=Lib.hid hnq;have hnq2:nq<=La:=by omega
 clear hnq
 go_wp2_with (with_reducible refine jaf rfl (.tmp 56) (.tmp 59) rfl w5.heap.size 0 (La + 1) (La + 1) A6 c6 UE (List.replicate (La + 1) 0) rfl rfl R6.out S3.out k1 k2 ?_
              intro w7 R7 O7;have R7':=Lib.hid R7;have O7':=Lib.hid O7
              clear R7 O7)
 have HINV:Hid (zaz w w5.heap.size w7.heap.size La nq A4 (dg (val es * 2 ^ s)) (val ds * 2 ^ s) nq (w7.alloc (Obj.cells (qo (List.replicate nq 0)).toArray 90))):=by
  have r7:=R7'.out;rw [List.take_zero,List.nil_append,Nat.zero_add,List.drop_replicate] at r7;have hul:(UE ++ List.replicate (La+1 - UE.length) 0).length=La+1:=by simp; omega
  have hvu:val (UE ++ List.replicate (La+1 - UE.length) 0)=val ds * 2 ^ s:=by
   rw [val_append,yaa,Nat.mul_zero,Nat.add_zero,<- HUE.out,zg]
  have x7:Ext w w7:=O7'.out.ext X6.out (by have:=X5.out.size; omega);refine ⟨UE ++ List.replicate (La+1 - UE.length) 0,List.replicate nq 0,r7.alloc _,hul,S3.out.1.append (qg.replicate _),Row.new w7 _,by simp,qg.replicate _,⟨?_,?_⟩,(P6.out.only O7'.out NB.out).ext ((Ext.refl _).alloc _),x7.alloc _⟩
  · rw [hvu,List.drop_eq_nil_of_le (by simp)]; simp
  · rw [zg];refine Nat.lt_of_lt_of_le ?_ HV1.out;have e1:=ui (UE ++ List.replicate (La+1 - UE.length) 0) nq (by omega);have h1:=HU.out;have h2:=HNQ.out;rw [<- hvu,e1,show B32 ^ La=B32 ^ (m+1+nq) from by rw [<- h2],Nat.pow_add,<- Nat.mul_assoc,Nat.mul_comm _ (B32 ^ nq)] at h1;exact Nat.lt_of_mul_lt_mul_left (Nat.lt_of_le_of_lt (Nat.le_add_left _ _) h1)
 have GU:Hid (w5.heap.size < w7.heap.size):=by
  have:=O7'.out.size;have h2:w5.heap.size < w7.heap.size:=by omega
  exact h2
 clear R7' O7' S3 R6 P6 X6 P5 eq1 hmk2;generalize hgu:w5.heap.size=gu at *;generalize hgq:w7.heap.size=gq at *;generalize w7.alloc (Obj.cells (qo (List.replicate nq 0)).toArray 90)=W8 at *;have hgu0:w.heap.size<=gu:=by have:=X5.out.size; omega
 have hguq:gu < gq:=GU.out;clear hgu hgq GU HU HUL HUE
 go_step3
 go_wp2_with fail
 go_loopw [13] (fun iv wr=>∃ k:Nat,k<=nq/\iv=.int .i64 ((k:Int) - 1)/\Hid (zaz w gu gq La nq A4 (dg (val es * 2 ^ s)) (val ds * 2 ^ s) k wr)) (fun iv _=>(intOf iv+1).toNat)
 case atStart=>exact ⟨nq,Nat.le_refl _,rfl,HINV⟩
 case round =>
  clear HINV;obtain ⟨k,hk,rfl,HI⟩:=hrel;obtain ⟨us,qs,hru,hul,hud,hrq,hql,hqd,hkinv,hva,hext⟩:=HI.out;rcases k with _ | j
  · have HN1:Hid (jc wr (.slice (some ⟨gq,0,none⟩) nq nq) qs):=hrq.natVn hqd _ _ hql (Nat.le_refl _) (by omega);have HN2:Hid (jc wr (.slice (some ⟨gu,0,none⟩) (La+1) (La+1)) us):=hru.natVn hud _ _ hul (Nat.le_refl _) (by omega);have HQR:Hid (val qs=val ds / val es/\val us / 2 ^ s=val ds % val es):=by
     obtain ⟨k1,k2⟩:=hkinv;rw [zg,Nat.pow_zero,Nat.one_mul,List.drop_zero] at k1;rw [zg,List.drop_zero] at k2;have hp:0 < 2 ^ s:=Nat.pow_pos (by omega);have hV0:0 < val es * 2 ^ s:=by omega
     have d1:val ds * 2 ^ s / (val es * 2 ^ s)=val qs:=by rw [k1,Nat.add_mul_div_left _ _ hV0,Nat.div_eq_of_lt k2,Nat.zero_add]
     have d2:val ds * 2 ^ s % (val es * 2 ^ s)=val us:=by rw [k1,Nat.add_mul_mod_self_left,Nat.mod_eq_of_lt k2]
     rw [Nat.mul_div_mul_right _ _ hp] at d1;rw [Nat.mul_mod_mul_right] at d2;exact ⟨d1.symm,by rw [<- d2,Nat.mul_div_cancel _ hp]⟩
    have HX:=Lib.hid hext;clear HI hru hul hud hrq hql hqd hkinv hva hext;go_wp2_with fail;refine (zaa _ _ _ HN1.out (by have:=HN1.out; obtain ⟨_,_,e,-⟩:=this; injection e with _ e; omega)).mono ?_;rw [HQR.out.1];rintro e wE ⟨vE,rfl,hvE,xE⟩;have HVE:=Lib.hid hvE;have XE:=Lib.hid xE;clear hvE xE;go_wp2_with fail;refine (ucg _ _ _ _ (HN2.out.ext XE.out) (by have:=HN2.out; obtain ⟨_,_,e,-⟩:=this; injection e with _ e; omega) (by omega)).mono ?_;rw [HQR.out.2];rintro e wF ⟨vF,rfl,hvF,xF⟩;have HVF:=Lib.hid hvF;have XF:=Lib.hid xF;clear hvF xF;go_wp2_with fail;rw [Exit.noGoto_ret]
    go_ret2
    exact ⟨_,_,rfl,HVE.out.ext XF.out,HVF.out,HX.out.trans (XE.out.trans XF.out)⟩
  · have hjm:j+m+2<=La:=by have:=HNQ.out; omega
    have hvl:=HV2.out;obtain ⟨ad4,v1,rfl,hb1,hcv1,hv1,HVa⟩:=hva.get_ (m+1) (by omega);obtain ⟨_,v2,e0,hb2,hcv2,hv2,HVb⟩:=hva.get_ m (by omega);injection e0 with e0
    subst e0;obtain ⟨u2,hcu2,_,HU2⟩:=hru.get_ (j+(m+2)) (by omega);obtain ⟨u1,hcu1,_,HU1⟩:=hru.get_ (j+(m+1)) (by omega);obtain ⟨u0,hcu0,_,HU0⟩:=hru.get_ (j+m) (by omega);obtain ⟨q0,hcq0,hfq0,_⟩:=hrq.get_ j (by omega);obtain ⟨z1,z2,z3,z4,z5,z6,z7⟩:=ubo hud (yah _) hvl (by omega) hkinv.2 HU2.out HU1.out HU0.out HVa.out HVb.out (by rw [zg]; exact HV1.out);have hu2:u2 < 4294967296:=hud _ (List.mem_of_getElem? HU2.out);have hu1:u1 < 4294967296:=hud _ (List.mem_of_getElem? HU1.out);have hu0:u0 < 4294967296:=hud _ (List.mem_of_getElem? HU0.out);have Z:=Lib.hid (And.intro z1 (And.intro z2 (And.intro z3 (And.intro z6 z7))));have HRU:=Lib.hid (And.intro hru (And.intro hul hud));have HRQ:=Lib.hid (And.intro hrq (And.intro hql hqd));have HKI:=Lib.hid hkinv;have HVA:=Lib.hid hva;have HEX:=Lib.hid hext;clear HI z1 z2 z3 z6 z7 hru hul hud hrq hql hqd hkinv hva hext hvl;rw [show (((j+1:Nat):Int) - 1)=(j:Int) from by omega];go_wp2_with fail;rw [show j+(m+2)+1 - j=m+2+1 from by omega]
    have HEST:Hid (∀ W',Calls Tryz.prog 158 #[.int .u32 (u2:Nat),.int .u32 (u1:Nat),.int .u32 (u0:Nat),.int .u32 (v1:Nat),.int .u32 (v2:Nat)] W' fun e w' =>
     e=.returned (.int .u32 (kae B32 (u2 * B32 * B32+u1 * B32+u0) (v1 * B32+v2):Nat))/\∃ n,w'=W'.drewN n):=fun W'=>zbk u2 u1 u0 v1 v2 W' z4 hu1 hu0 hv1 hv2 z5
    have hest:=xcj zi (u2 * B32 * B32+u1 * B32+u0) (v1 * B32+v2);rw [jg] at hest;rw [<- jg] at hest;generalize kae B32 (u2 * B32 * B32+u1 * B32+u0) (v1 * B32+v2)=qh at *;obtain ⟨n,hn⟩:∃ n,n=m+2:=⟨_,rfl⟩;obtain ⟨n3,hn3⟩:∃ n3,n3=m+2+1:=⟨_,rfl⟩;obtain ⟨n1,hn1⟩:∃ n1,n1=m+1:=⟨_,rfl⟩;have en:(m:Int)+2=n:=by omega
    rw [<- hn3,<- hn,en];rw [<- hn1] at hcv1 hcu1;rw [<- hn] at hcu2;have HN:=Lib.hid (And.intro hn (And.intro hn3 hn1));have i0:(0:Int)<=(n:Int):=by omega
    have i1:(n:Int) < n3:=by omega
    have i3:(n1:Int) < n3:=by omega
    have i5:(m:Int) < n3:=by omega
    have i6:(n1:Int) < n:=by omega
    have i7:(m:Int) < n:=by omega
    have i9:(j:Int) < nq:=by omega
    have hn44:n<=17592186044416:=by omega
    have wp1:IntKind.i64.wrap ((n:Int) - 1)=n1:=by rw [IntWalk.i64_in _ (by omega)]; omega
    have wp2:IntKind.i64.wrap ((n:Int) - 2)=m:=by rw [IntWalk.i64_in _ (by omega)]; omega
    clear en hn hn3 hn1;have hb4:=NB4.out ad4 rfl
    have HSS:Hid (∀ n',((wr.drewN n').cell? ⟨gu,j+n,none⟩=some (.int .u32 (u2:Nat))/\(wr.drewN n').cell? ⟨gu,j+n1,none⟩=some (.int .u32 (u1:Nat))/\(wr.drewN n').cell? ⟨gu,j+m,none⟩=some (.int .u32 (u0:Nat)) /\
     (wr.drewN n').cell? (ad4.add n1)=some (.int .u32 (v1:Nat))/\(wr.drewN n').cell? (ad4.add m)=some (.int .u32 (v2:Nat)))):=
     fun n'=>⟨hcu2,hcu1,hcu0,hcv1,hcv2⟩
    have HSS2:Hid (∀ n' x,(((wr.drewN n').setCell ⟨gq,j,none⟩ x).cell? ⟨gu,j+n,none⟩=some (.int .u32 (u2:Nat))/\((wr.drewN n').setCell ⟨gq,j,none⟩ x).cell? ⟨gu,j+n1,none⟩=some (.int .u32 (u1:Nat))/\((wr.drewN n').setCell ⟨gq,j,none⟩ x).cell? ⟨gu,j+m,none⟩=some (.int .u32 (u0:Nat)) /\
     ((wr.drewN n').setCell ⟨gq,j,none⟩ x).cell? (ad4.add n1)=some (.int .u32 (v1:Nat))/\((wr.drewN n').setCell ⟨gq,j,none⟩ x).cell? (ad4.add m)=some (.int .u32 (v2:Nat)))):=by
     intro n' x;refine ⟨?_,?_,?_,?_,?_⟩ <;> rw [World.cell?_setCell_other _ _ _ _ (fun e=>by have:=congrArg Addr.block e; simp [ja] at this; omega)]
     · exact hcu2
     · exact hcu1
     · exact hcu0
     · exact hcv1
     · exact hcv2
    have hcq1:∀ n',(wr.drewN n').cell? ⟨gq,j,none⟩=some (.int .u32 (q0:Nat)):=fun _=>hcq0
    have hfq1:∀ n',(wr.drewN n').frozen? ⟨gq,j,none⟩=false:=fun _=>hfq0
    go_region_held3 (fun W'=>W'.cell? ⟨gu,j+n,none⟩=some (.int .u32 (u2:Nat))/\W'.cell? ⟨gu,j+n1,none⟩=some (.int .u32 (u1:Nat))/\W'.cell? ⟨gu,j+m,none⟩=some (.int .u32 (u0:Nat)) /\
     W'.cell? (ad4.add n1)=some (.int .u32 (v1:Nat))/\W'.cell? (ad4.add m)=some (.int .u32 (v2:Nat)))
     (first | exact HSS.out 1 | exact HSS.out _ | exact HSS2.out _ _)
     ((go_at_call 158; refine (HEST.out _).mono ?_; rintro e w' ⟨rfl,n9,rfl⟩))
    obtain ⟨hn,hn3,hn1⟩:=HN.out;subst hn;subst hn3;subst hn1;rw [show ((m+2:Nat):Int)=(m:Int)+2 from by simp];clear HSS HSS2 HEST wp1 wp2 i0 i1 i3 i5 i6 i7 i9 hn44 hcv1 hcv2 hcu2 hcu1 hcu0 hcq0 hcq1 hfq0 hfq1 HN hb1 hb2;obtain ⟨hru,hul,hud⟩:=HRU.out;obtain ⟨hrq,hql,hqd⟩:=HRQ.out;have hA:Row ((wr.drewN (1+n9)).setCell ⟨gq,j,none⟩ (.int .u32 (qh:Nat))) gu us:=(hru.drewN (1+n9)).far (by simp; omega) _;have hB:Row ((wr.drewN (1+n9)).setCell ⟨gq,j,none⟩ (.int .u32 (qh:Nat))) gq (qs.set j qh):=(hrq.drewN (1+n9)).set_ _ _;have hgqw:w.heap.size<=gq:=by omega
    have hC:Ext w ((wr.drewN (1+n9)).setCell ⟨gq,j,none⟩ (.int .u32 (qh:Nat))):=(HEX.out.drewN (1+n9)).setCell (by simpa using hgqw) _;have hD:qi ((wr.drewN (1+n9)).setCell ⟨gq,j,none⟩ (.int .u32 (qh:Nat))) (some ad4) (dg (val es * 2 ^ s)):=by
     have o1:Only gq wr ((wr.drewN (1+n9)).setCell ⟨gq,j,none⟩ (.int .u32 (qh:Nat))):=((Only.refl gq wr).drewN (1+n9)).setCell _ _;exact HVA.out.only o1 (fun a e=>by injection e with e; subst e; omega)
    generalize (wr.drewN (1+n9)).setCell ⟨gq,j,none⟩ (.int .u32 (qh:Nat))=wA at *;have hcq:=hB.cell j (by rw [List.length_set]; omega);rw [List.getElem_set_self] at hcq;have hfq:=hB.frozen j;have HA:=Lib.hid hA;have HB:=Lib.hid hB;have HC:=Lib.hid hC;have HD:=Lib.hid hD;clear hA hB hC hD hru hrq hul hud hql hqd;go_wp2_with fail;obtain ⟨-,hul,hud⟩:=HRU.out;obtain ⟨-,hql,hqd⟩:=HRQ.out;have hnb4:∀ a,some ad4=some a->a.block ≠ gu:=fun a e=>by injection e with e; subst e; omega
    refine (kb6 gu j (La+1 - j) (m+2) c4 qh us (dg (val es * 2 ^ s)) (some ad4) wA HA.out hud (by omega) (by omega) (by omega) HD.out HV2.out hnb4 p1 p2 hest).mono ?_;rintro e wB ⟨ys,b,hb,rfl,hsi,hsv⟩
    change xaf gu j us (m+3) wA wB ys at hsi
    change val (seg ys j (m+3))+qh * val (dg (val es * 2 ^ s))=val (seg us j (m+3))+B32 ^ (m+3) * b at hsv
    obtain ⟨t1,t2,t3,t4,t5,t6⟩:=hsi;obtain ⟨z1,z2,z3,z6,z7⟩:=Z.out;rw [z2,zg] at hsv;rw [zg] at z1 z6 z7;have hVpos:0 < val es * 2 ^ s:=by
     have h1:=HV1.out;have h2:0 < 2147483648 * B32 ^ (m+1):=Nat.mul_pos (by omega) (Nat.pow_pos zi);omega
    have hki:=HKI.out;rw [zg] at hki;have hBq:Row wB gq (qs.set j qh):=HB.out.only t6 (by omega);have hBv:qi wB (some ad4) (dg (val es * 2 ^ s)):=HD.out.only t6 hnb4;have hBx:Ext w wB:=t6.ext HC.out hgu0;rcases Nat.eq_zero_or_pos b with hb0 | hb1
    · subst hb0;obtain ⟨f1,f2⟩:=ub6 hVpos hsv z6;have HS:Hid (zaz w gu gq La nq (some ad4) (dg (val es * 2 ^ s)) (val ds * 2 ^ s) j wB):=by
       refine ⟨ys,qs.set j qh,t1,by omega,t3,hBq,by rw [List.length_set]; exact hql,hqd.set _ _ hest,?_,hBv,hBx⟩;rw [zg];exact ka6 (n:=m+3) hki hVpos (by omega) t2 (by omega) t4 t5 z3 (by omega) f2 f1
      clear hsv t1 t2 t3 t4 t5 t6 z1 z2 z3 z6 z7 hki hBq hBv hBx f1 f2 HA HB HC HD HRU HRQ HKI HVA HEX Z hul hud hql hqd hVpos hnb4;go_wp2_with fail
      go_roundw
      case rel=>exact ⟨j,by omega,rfl,HS⟩
      case measure=>simp [intOf]
    · obtain rfl:b=1:=by omega
      have hcq':=hBq.cell j (by rw [List.length_set]; omega);rw [List.getElem_set_self] at hcq';have hfq':=hBq.frozen j;have hV4:=wu (yah (val es * 2 ^ s));rw [zg,HV2.out] at hV4;have hVD:val es * 2 ^ s<=B32 ^ (m+3):=Nat.le_trans (Nat.le_of_lt hV4) (Nat.pow_le_pow_right zi (by omega));have hS1:val (seg ys j (m+3)) < B32 ^ (m+3):=by
       have:=wu ((t3.drop j).take (m+3));rw [List.length_take,List.length_drop,Nat.min_eq_left (by omega)] at this;exact this
      have hqh0:0 < qh:=by
       rcases Nat.eq_zero_or_pos qh with e | e
       · exfalso
         rw [e,Nat.zero_mul,Nat.mul_one,Nat.add_zero] at hsv;exact absurd hS1 (by rw [hsv]; exact Nat.not_lt.2 (Nat.le_add_left _ _))
       · exact e
      have G:=Lib.hid (And.intro hsv (And.intro z7 (And.intro hVD (And.intro hS1 hVpos))));have T:=Lib.hid (And.intro t1 (And.intro t2 (And.intro t3 (And.intro t4 (And.intro t5 t6)))));have HBQ:=Lib.hid hBq;have HBV:=Lib.hid hBv;have HBX:=Lib.hid hBx;have HKI2:=Lib.hid hki;have HZ3:=Lib.hid z3;rw [jg] at hest;clear hsv t1 t2 t3 t4 t5 t6 z1 z2 z3 z6 z7 hki hBq hBv hBx hVpos hVD hS1 hV4 HA HB HC HD hcq hfq;go_wp2_with fail;obtain ⟨t1,t2,t3,t4,t5,t6⟩:=T.out;have hgq2:w.heap.size<=gq:=by omega
      have hq1:((qh:Int) - 1)=((qh - 1:Nat):Int):=by omega
      rw [hq1];have hA:Row (wB.setCell ⟨gq,j,none⟩ (.int .u32 ((qh - 1:Nat):Int))) gu ys:=t1.far (by simp; omega) _;have hB:Row (wB.setCell ⟨gq,j,none⟩ (.int .u32 ((qh - 1:Nat):Int))) gq (qs.set j (qh - 1)):=by
       have:=HBQ.out.set_ j (qh - 1);rw [List.set_set] at this;exact this
      have hC:Ext w (wB.setCell ⟨gq,j,none⟩ (.int .u32 ((qh - 1:Nat):Int))):=HBX.out.setCell (by simpa using hgq2) _
      have hD:qi (wB.setCell ⟨gq,j,none⟩ (.int .u32 ((qh - 1:Nat):Int))) (some ad4) (dg (val es * 2 ^ s)):=
       HBV.out.only ((Only.refl gq wB).setCell _ _) (fun a e=>by injection e with e; subst e; omega)
      generalize wB.setCell ⟨gq,j,none⟩ (.int .u32 ((qh - 1:Nat):Int))=wC at *;refine (vcd gu j (La+1 - j) (m+2) c4 ys (dg (val es * 2 ^ s)) (some ad4) wC hA t3 (by omega) (by omega) (by omega) hD HV2.out hnb4 p1 p2).mono ?_;rintro e wD ⟨xs,cc,rfl,hsi,hcv⟩
      change xaf gu j ys (m+3) wC wD xs at hsi
      change val (seg xs j (m+3))+B32 ^ (m+3) * cc=val (seg ys j (m+3))+val (dg (val es * 2 ^ s)) at hcv
      rw [zg] at hcv;obtain ⟨s1,s2,s3,s4,s5,s6⟩:=hsi;obtain ⟨g1,g2,g3,g4,g5⟩:=G.out;have hS2:val (seg xs j (m+3)) < B32 ^ (m+3):=by
       have:=wu ((s3.drop j).take (m+3));rw [List.length_take,List.length_drop,Nat.min_eq_left (by omega)] at this;exact this
      obtain ⟨f1,-,f3⟩:=vb6 g5 g3 g4 hS2 g1 g2 hcv;have HS:Hid (zaz w gu gq La nq (some ad4) (dg (val es * 2 ^ s)) (val ds * 2 ^ s) j wD):=by
       refine ⟨xs,qs.set j (qh - 1),s1,by omega,s3,hB.only s6 (by omega),by rw [List.length_set]; exact hql,hqd.set _ _ (by rw [jg]; omega),?_,hD.only s6 hnb4,s6.ext hC hgu0⟩;rw [zg];exact ka6 (n:=m+3) HKI2.out g5 (by omega) (s2.trans t2) (by omega) (s4.trans t4) (s5.trans t5) HZ3.out (by omega) f3 f1
      clear hcv s1 s2 s3 s4 s5 s6 g1 g2 g3 g4 g5 hS2 f1 f3 t1 t2 t3 t4 t5 t6 hA hB hC hD hq1 G T HBQ HBV HBX HKI2 HZ3 HRU HRQ HKI HVA HEX Z hul hud hql hqd hnb4 hcq' hfq';go_wp2_with fail
      go_roundw
      case rel=>exact ⟨j,by omega,rfl,HS⟩
      case measure=>simp [intOf]
theorem ja7 (u v:Value) (ds es:List Nat) (w:World) (h:jc w u ds) (k:jc w v es) (hs:ds.length<=17592186044416) (hs':es.length<=17592186044416) (h0:val es ≠ 0) :
 Calls Tryz.prog 131 #[u,v] w (jbe (val ds / val es) (val ds % val es) w):=by
 rcases Nat.lt_or_ge (val ds) (val es) with hlt | hge
 · exact gbk u v ds es w h k hs hs' hlt
 · rcases Nat.lt_or_ge (dg (val es)).length 2 with h1 | h2
   · have h3:=gab (val es);have h4:B32 ^ (dg (val es)).length<=B32 ^ 1:=Nat.pow_le_pow_right zi (by omega);rw [Nat.pow_one] at h4;exact ubw u v ds es w h k hs hs' hge h0 (Nat.lt_of_lt_of_le h3 h4)
   · exact kbp u v ds es w h k hs hs' hge h2
end Go.Proofs.YtklnlgnnlmdibaaGreat
