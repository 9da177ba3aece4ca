/- Layer 22: recpoly.add. -/
import Derived.Test.YtklnlgnnlmdibaaGreatMr14
import Derived.Test.YtklnlgnnlmdibaaGreatMr15
import Derived.Lib.MinMax
set_option linter.unusedSimpArgs false
set_option linter.unusedVariables false
set_option maxRecDepth 100000
set_option maxHeartbeats 8000000
namespace Go.Proofs.YtklnlgnnlmdibaaGreat
open Go.RowKit
def wbx (E D:Nat) (n:Int):Prop:=∀ (l:List Pl) (A:Option Addr) (c:Nat) (w:World),(∀ p ∈ l,p.Can/\p.ex E)->(∀ p ∈ l,p.lv < n)->lnr l < B32 ^ D->l.length<=1000000->l.length<=c->c<=9223372036854775807->jd w (fun _=>True) l A 0 ->
 Calls Tryz.prog 54 #[.slice A l.length c] w (jf (fun b=>w.heap.size<=b) (xw l) w)
theorem vaq {V W w4:World} {ov:Value} (hx:Ext V W) (hg:W.grownBy w4 ov.ownBlock) (ho:∀ R,ov.ownBlock=some R->V.heap.size<=R):Ext V w4:=
 Below.grown hx hg hx.size ho
theorem zbm {E D:Nat} (hE:E<=1000000) (hD:D<=17592186044000) (n:Int) (ih:∀ m,0 < m->m < n->wbx E D m):wbx E D n:=by
 intro l A c w hl hlv hnr hlen hc1 hc2 hat;have hcl:∀ p ∈ l,0<=p.lv/\p.lv<=4/\p.cs.length<=E+1/\(0 < p.lv->2<=p.cs.length):=fun p hp=>by
  obtain ⟨h1,h2⟩:=hl p hp;refine ⟨h1.lv_nonneg.1,h1.lv_nonneg.2,?_,fun h0=>?_⟩
  · obtain ⟨lv,ng,ds,cs⟩:=p;rw [Pl.ex] at h2;rcases h2 with h2 | h2
    · unfold Pl.Can at h1;rcases h1 with h | h
      · simp [Pl.cs,h.2.1]
      · omega
    · exact h2.1
  · obtain ⟨lv,ng,ds,cs⟩:=p;exact (h1.kids h0).2.2.1
 obtain ⟨hts,htp⟩:=jby l (E+1) hcl;have HAT:=Lib.hid hat;have HL:=Lib.hid hl;have HLV:=Lib.hid hlv;have HNR:=Lib.hid hnr;have IH:=Lib.hid ih;have HTS:=Lib.hid hts;have HTP:=Lib.hid htp;have HTA:=Lib.hid (vcf l);obtain ⟨W,hW⟩:∃ W,w.alloc (.cells #[.int .i64 0,.bool false,.slice none 0 0,.slice none 0 0] 35)=W:=⟨_,rfl⟩;have hWx:Ext w W:=by rw [<- hW]; exact (Ext.refl w).alloc _
 have hWs:W.heap.size=w.heap.size+1:=by rw [<- hW]; simp
 have hz:yf W w.heap.size:=by rw [<- hW]; exact yf.new w _
 have HWX:=Lib.hid hWx;have HZ:=Lib.hid hz;clear hat hl hlv hnr ih hts htp hWx hz hcl;go_enter Tryz.func54,Tryz.ntmps54;go_wp2_with fail;clear hW
 go_loopw [3,4,17] (fun av bv iv wr=>∃ k:Nat,k<=l.length/\iv=.int .i64 k/\av=.int .i64 (gac (l.take k)).1/\bv=.int .i64 (gac (l.take k)).2/\Hid (Ext W wr)) (fun _ _ iv _=>l.length - (intOf iv).toNat)
 case atStart=>exact ⟨0,Nat.zero_le _,rfl,by simp [gac],by simp [gac],Ext.refl W⟩
 case round =>
  obtain ⟨k,hk,rfl,rfl,rfl,hx0⟩:=hrel;have hx:Ext W wr:=hx0.out;have HX:=Lib.hid hx;have hws:=hx.size;clear hx0 hx
  by_cases hlt:k < l.length
  · obtain ⟨ad,C0,j0,g0,C1,j1,g1,rfl,hadb,hnd,hkt⟩:=jd.kid HAT.out k hlt;obtain ⟨a0,a1,a2,a3⟩:=hnd.ext (HWX.out.trans HX.out) (by rw [ja]; exact hadb);have hj1:j1=l[k].cs.length:=by
     obtain ⟨A1,n1,c1',A2,c2,e,-⟩:=hkt.open_;unfold plV at e;simp only [Value.agg.injEq,Array.mk.injEq,List.cons.injEq,and_true,true_and,Value.slice.injEq] at e;exact e.2.2.1
    subst hj1;have HST:=Lib.hid (qby l k hlt);obtain ⟨U,hU⟩:∃ U,wr.alloc (.cells #[.int .i64 l[k].lv,.bool l[k].neg,.slice C0 j0 g0,.slice C1 l[k].cs.length g1] 35)=U:=⟨_,rfl⟩;have hUx:Ext wr U:=by rw [<- hU]; exact (Ext.refl _).alloc _
    obtain ⟨u0,u1,u2,u3⟩:jb U wr.heap.size l[k] (.slice C0 j0 g0) (.slice C1 l[k].cs.length g1):=by rw [<- hU]; exact jb.new wr l[k] _ _ _
    have XU:=Lib.hid (HX.out.trans hUx);clear hnd hkt hadb hUx;obtain ⟨ta,tb,ht⟩:∃ ta tb,gac (l.take k)=(ta,tb):=⟨_,_,rfl⟩;rw [ht] at HST ⊢;clear ht;simp only at HST ⊢;generalize l[k]=p at *;rcases Int.lt_trichotomy ta p.lv with h | h | h
    · have HS2:=Lib.hid (HST.out.trans (qbf h));have hmx:max (0:Int) (p.cs.length:Int)=(p.cs.length:Int):=by omega
      go_wp2_with fail
      go_roundw
      case rel=>exact ⟨k+1,by omega,by go_num,by rw [HS2.out],by rw [HS2.out],XU⟩
      case measure=>simp [intOf]; omega
    · have HS2:=Lib.hid (HST.out.trans (jbf (a:=(ta,tb)) h.symm));have hnl:¬ ta < p.lv:=by omega
      have heq:(p.lv == ta)=true:=by simp [h]
      have HMX:Hid (max (tb:Int) (p.cs.length:Int)=((max tb p.cs.length:Nat):Int)):=Lib.hid (by omega);clear h;go_wp2_with fail
      go_roundw
      case rel=>exact ⟨k+1,by omega,by go_num,by rw [HS2.out],by rw [HS2.out]; simp only; rw [HMX.out],XU⟩
      case measure=>simp [intOf]; omega
    · have HS2:=Lib.hid (HST.out.trans (xbf (a:=(ta,tb)) h));have hnl:¬ ta < p.lv:=by omega
      have heq:(p.lv == ta)=false:=by simp; omega
      go_wp2_with fail
      go_roundw
      case rel=>exact ⟨k+1,by omega,by go_num,by rw [HS2.out],by rw [HS2.out],XU⟩
      case measure=>simp [intOf]; omega
  · have hke:k=l.length:=by omega
    rw [hke,List.take_length];obtain ⟨lv,sz,hts⟩:∃ lv sz,gac l=(lv,sz):=⟨_,_,rfl⟩;rw [hts] at HTS HTP HTA ⊢;simp only at HTS HTP HTA ⊢;obtain ⟨t1,t2,t3,t4⟩:=HTS.out;have HX2:=Lib.hid (HWX.out.trans HX.out);have HZ2:=Lib.hid (HZ.out.ext HX.out (by omega));have hws2:w.heap.size < wr.heap.size:=by omega
    clear hke hts hlt hk HX HWX HZ hws hWs HTS;obtain ⟨w1,rfl⟩:∃ w1,w1=wr:=⟨wr,rfl⟩
    by_cases h0:lv=0
    · have HLZ:Hid (∀ p ∈ l,p.Can/\p.lv=0):=Lib.hid (fun p hp=>⟨(HL.out p hp).1,by have h1:=(HTP.out p hp).1; have h2:=(HL.out p hp).1.lv_nonneg.1; omega⟩);have hlz2:(lv == 0)=true:=by simp [h0]
      have HAL:=Lib.hid (jb5 HLZ.out);have hnr2:inr (l.map Pl.z) < B32 ^ D:=by rw [zco HLZ.out]; exact HNR.out
      have HN2:=Lib.hid hnr2;obtain ⟨V,hmk,hVx,hVs,hrow⟩:=gbg (l.length:Int) (by omega) (by omega) w1;rw [Int.toNat_natCast] at hmk hrow;have HROW:=Lib.hid hrow;have HVX:=Lib.hid hVx;subst h0;clear hrow hVx hnr2;go_wp2_with fail;clear hmk
      go_loopw [44] (fun iv wx=>∃ k:Nat,k<=l.length/\iv=.int .i64 k/\Hid ((∃ L:List Int,L.length=l.length/\L.take k=(l.map Pl.z).take k/\yar wx w1.heap.size L)/\Ext w1 wx)) (fun iv _=>l.length - (intOf iv).toNat)
      case atStart=>exact ⟨0,Nat.zero_le _,rfl,⟨⟨_,List.length_replicate,by simp,HROW.out⟩,HVX.out⟩⟩
      case round =>
       obtain ⟨k,hk,rfl,⟨⟨L,hLl,hLt,hrow⟩,hx⟩⟩:=hrel;have HX:=Lib.hid hx;have HROWk:=Lib.hid hrow;have HLT:=Lib.hid hLt;have hRlt:w1.heap.size < wr.heap.size:=hrow.1;clear hx hrow hLt HVX HROW
       by_cases hlt:k < l.length
       · obtain ⟨ad,C0,j0,g0,C1,j1,g1,rfl,hadb,hnd,hkt⟩:=jd.kid HAT.out k hlt;obtain ⟨a0,a1,a2,a3⟩:=hnd.ext (HX2.out.trans HX.out) (by rw [ja]; exact hadb);have hcf:=HLZ.out l[k] (List.getElem_mem hlt);have hfl:=kaj hcf.1 hcf.2;have hng:l[k].neg=decide (l[k].z < 0):=congrArg Pl.neg hfl;have hds:l[k].ds=dg l[k].z.natAbs:=congrArg Pl.ds hfl;have hnat:jc wr (.slice C0 j0 g0) (dg l[k].z.natAbs):=by
          obtain ⟨A1,n1,c1',A2,c2,e,hn,-⟩:=hkt.open_;unfold plV at e;simp only [Value.agg.injEq,Array.mk.injEq,List.cons.injEq,and_true,true_and] at e;rw [e.1,<- hds];exact hn.ext (HX2.out.trans HX.out)
         have HSET:Hid ((L.set k l[k].z).take (k+1)=(l.map Pl.z).take (k+1)):=by
          have h1:=vad L (l.map Pl.z) k HLT.out (by omega) (by rw [List.length_map]; exact hlt);rw [List.getElem_map] at h1;exact h1
         obtain ⟨U,hU⟩:∃ U,wr.alloc (.cells #[.int .i64 l[k].lv,.bool (decide (l[k].z < 0)),.slice C0 j0 g0,.slice C1 j1 g1] 35)=U:=⟨_,rfl⟩;have hUx:Ext wr U:=by rw [<- hU]; exact (Ext.refl _).alloc _
         have u1:U.cell? ⟨wr.heap.size,1,none⟩=some (.bool (decide (l[k].z < 0))):=by rw [<- hU]; simp [go_sem]
         have u2:U.cell? ⟨wr.heap.size,2,none⟩=some (.slice C0 j0 g0):=by rw [<- hU]; simp [go_sem]
         have hru:=HROWk.out.ext hUx;have HST:=Lib.hid (hru.set_ k (by omega) l[k].z (hnat.ext hUx));have XU:=Lib.hid (HX.out.trans hUx);obtain ⟨D0,n2,d2,r0,r1,-⟩:=hru.2.2 k (by omega);have hfr:=hru.2.1;rw [hng] at a1;clear hnd hkt hadb hcf hfl hng hds hnat hru hUx HLT HROWk;generalize l[k].z=z at *;generalize l[k]=p at *;go_wp2_with fail
         go_roundw
         case rel=>exact ⟨k+1,by omega,by go_num,⟨_,by rw [List.length_set]; exact hLl,HSET.out,HST.out⟩,(XU.out.setCell (Nat.le_refl _) _).setCell (Nat.le_refl _) _⟩
         case measure=>simp [intOf]; omega
       · have hke:k=l.length:=by omega
         have hLe:L=l.map Pl.z:=by
          have h:=HLT.out;rw [hke,show l.length=(l.map Pl.z).length by rw [List.length_map],List.take_length,List.length_map,<- hLl,List.take_length] at h;exact h
         have hfin:=HROWk.out.fin l.length (by omega) (by omega);rw [hLe,List.length_map] at hfin;have HSU:=Lib.hid (gcf hfin HN2.out hD);have HZ3:=Lib.hid (HZ2.out.ext HX.out hws2);clear hfin HROWk HLT hLe hke;go_wp2_with fail;refine HSU.out.mono ?_;rintro e w2 ⟨z2,rfl,⟨y2,rfl,m2⟩,x2⟩;obtain ⟨C2,k2,rfl,-⟩:=id m2;have hzn:=HZ3.out.ext x2 (by omega);have HF:Hid (jf (fun b=>w.heap.size<=b) (xw l) w (.returned (plV (Pl.const (kw (l.map Pl.z))) (.slice C2 (dg (kw (l.map Pl.z)).natAbs).length k2) (.slice none 0 0))) ((((w2.setCell ⟨w.heap.size,0,none⟩ (.int .i64 0)).setCell ⟨w.heap.size,1,none⟩ (.bool (decide (kw (l.map Pl.z) < 0)))).setCell ⟨w.heap.size,2,none⟩ (.slice C2 (dg (kw (l.map Pl.z)).natAbs).length k2)).setCell ⟨w.heap.size,3,none⟩ (.slice none 0 0))):=by
          rw [HAL.out];exact yg (p:=Pl.const (kw (l.map Pl.z))) (q:=fun _=>False) ((HX2.out.trans HX.out).trans x2) (Nat.le_refl _) hzn (PlV.mk (t:=Pl.const (kw (l.map Pl.z))) (A:=none) (c:=0) m2 (Nat.le_refl _) (by omega) (by unfold Pl.const Pl.cs jd; trivial)) (fun b _ h=>h.elim)
         obtain ⟨⟨z0,z1,z2',z3⟩,zf⟩:=hzn;clear x2 m2 HSU;generalize kw (l.map Pl.z)=S at *;go_wp2_with fail;exact bodyPost_ret (v:=plV (Pl.const S) (.slice C2 (dg S.natAbs).length k2) (.slice none 0 0)) (by simp [results,Tryz.results54,go_sem,z0,z1,z2',z3,plV,Pl.const,Pl.lv,Pl.neg]) rfl HF.out
    · have hlz2:(lv == 0)=false:=by simp [h0]
      have hpos:0 < lv:=by omega
      have hlvn:lv < n:=by
       obtain ⟨p,hp,e⟩:=HTA.out hpos;have:=HLV.out p hp;omega
      have hsz1:1<=sz:=by have:=t4 hpos; omega
      have HLE:=Lib.hid (vbx hpos t2 hsz1 HL.out HTP.out);obtain ⟨V,hmk,hVx,hVs,hrow⟩:=wz (sz:Int) (by omega) (by omega) w1;rw [Int.toNat_natCast] at hmk hrow;have HROW:=Lib.hid (hrow (fun i=>w1.heap.size<=i));have HVX:=Lib.hid hVx;have HH:=Lib.hid h0;have HLN:=Lib.hid hlvn;have hatl:jd w (fun b=>b < w.heap.size) l A 0:=jd.turn (Nat.le_refl _) (fun _ _ h=>h) (fun b hb _=>⟨hb,rfl⟩) l A 0 HAT.out;have HATL:=Lib.hid hatl;clear hrow hVx h0 hlvn hatl;go_wp2_with fail;clear hmk
      go_loopw [62] (fun iv wx=>∃ i:Nat,i<=sz/\iv=.int .i64 i/\Hid ((∃ L:List Pl,L.length=sz/\L.take i=((List.range sz).map fun i=>xw (xk lv i l)).take i/\jh wx (fun b=>w1.heap.size<=b) w1.heap.size L)/\Ext w1 wx)) (fun iv _=>sz - (intOf iv).toNat)
      case atStart=>exact ⟨0,Nat.zero_le _,rfl,⟨⟨_,List.length_replicate,by simp,HROW.out⟩,HVX.out⟩⟩
      case round =>
       obtain ⟨i,hi,rfl,⟨⟨L,hLl,hLt,hrow⟩,hx⟩⟩:=hrel;have HX:=Lib.hid hx;have HROWk:=Lib.hid hrow;have HLT:=Lib.hid hLt;have hRlt:w1.heap.size < wr.heap.size:=hrow.1;clear hx hrow hLt HVX HROW;obtain ⟨w2,rfl⟩:∃ w2,w2=wr:=⟨wr,rfl⟩
       by_cases hlt:i < sz
       · have HX3:=Lib.hid (HX2.out.trans HX.out);have hws3:w.heap.size<=w2.heap.size:=HX3.out.size;go_wp2_with fail
         go_loopw [12,67] (fun pv kv wx=>∃ k:Nat,k<=l.length/\kv=.int .i64 k/\Hid (uh w2.heap.size (fun b=>b < w2.heap.size) wx pv (xk lv i (l.take k))/\Ext w2 wx)) (fun _ kv _=>l.length - (intOf kv).toNat)
         case atStart=>exact ⟨0,Nat.zero_le _,rfl,⟨by simpa [xk] using uh.nil _ _ _,Ext.refl _⟩⟩
         case round =>
          obtain ⟨k,hk,rfl,⟨hq,hx⟩⟩:=hrel;have HQ:=Lib.hid hq;have HXI:=Lib.hid hx;have hws4:=hx.size;obtain ⟨PA,pc,rfl,hp1,hp2⟩:=hq.len;have hpl:=za6 lv i (l.take k);rw [List.length_take] at hpl;clear hx hq
          by_cases hltk:k < l.length
          · obtain ⟨ad,C0,j0,g0,C1,j1,g1,rfl,hadb,hnd,hkt⟩:=jd.kid HATL.out k hltk;have hxx:=HX3.out.trans HXI.out;obtain ⟨a0,a1,a2,a3⟩:=hnd.ext hxx (by rw [ja]; exact hadb);have hj1:j1=l[k].cs.length:=by
             obtain ⟨A1,n1,c1',A2,c2,e,-⟩:=hkt.open_;unfold plV at e;simp only [Value.agg.injEq,Array.mk.injEq,List.cons.injEq,and_true,true_and,Value.slice.injEq] at e;exact e.2.2.1
            subst hj1;have HTK:=Lib.hid (jbo lv i l k hltk);have hple:=(HTP.out l[k] (List.getElem_mem hltk)).1;obtain ⟨U,hU⟩:∃ U,wr.alloc (.cells #[.int .i64 l[k].lv,.bool l[k].neg,.slice C0 j0 g0,.slice C1 l[k].cs.length g1] 35)=U:=⟨_,rfl⟩;have hUx:Ext wr U:=by rw [<- hU]; exact (Ext.refl _).alloc _
            obtain ⟨u0,u1,u2,u3⟩:jb U wr.heap.size l[k] (.slice C0 j0 g0) (.slice C1 l[k].cs.length g1):=by rw [<- hU]; exact jb.new wr l[k] _ _ _
            have XU:=Lib.hid (HXI.out.trans hUx);have HKT:=Lib.hid (hkt.ext (hxx.trans hUx));have HQU:=Lib.hid (HQ.out.ext hUx);have hUs:=hUx.size;have HPUSH:Hid (∀ (x:Pl) (E0 E1:Option Addr) (q0 r0 q1 r1:Nat),PlV U (fun b=>b < w.heap.size) x (plV x (.slice E0 q0 r0) (.slice E1 q1 r1))->partsOf lv i l[k]=[x]->∃ v4 w4,(Builtin.append_ #[24,24] 24 #[.slice PA (xk lv i (l.take k)).length pc,.slice (some ⟨U.heap.size,0,none⟩) 1 1]).run Tryz.prog (U.alloc (.cells #[.int .i64 x.lv,.bool x.neg,.slice E0 q0 r0,.slice E1 q1 r1] 35))=.ok v4 w4/\uh w2.heap.size (fun b=>b < w2.heap.size) w4 v4 (xk lv i (l.take (k+1)))/\Ext w2 w4):=by
             refine Lib.hid ?_;intro x E0 E1 q0 r0 q1 r1 hxv hpo;obtain ⟨v4,w4,hrun,g4,n4,r4,o4⟩:=HQU.out.push (by have:=XU.out.size; omega) (hxv.mono fun b hb=>⟨fun e=>by have:=(HQU.out.own e).1; omega,by omega⟩) (by omega) 24;exact ⟨v4,w4,hrun,by rw [HTK.out,hpo]; exact r4,vaq XU.out g4 (fun R hR=>(HQU.out.own hR).1)⟩
            clear hnd hUx HQ
            by_cases he:l[k].lv=lv
            · have heq:(l[k].lv == lv)=true:=by simp [he]
              by_cases hic:i < l[k].cs.length
              · have hpo:partsOf lv i l[k]=[l[k].cs[i]]:=by unfold partsOf; rw [if_pos he,List.getElem?_eq_getElem hic]; rfl
                obtain ⟨A1,n1,c1',A2,c2,e,-,-,-,hat2⟩:=HKT.out.open_;unfold plV at e;simp only [Value.agg.injEq,Array.mk.injEq,List.cons.injEq,and_true,true_and,Value.slice.injEq] at e;obtain ⟨-,rfl,rfl⟩:=e;obtain ⟨ad2,D0,i0,h0',D1,i1,h1',rfl,hadb2,hnd2,hkt2⟩:=jd.kid hat2 i hic;obtain ⟨v0,v1,v2,v3⟩:=hnd2;obtain ⟨v4,w4,hrun,r4,x4⟩:=HPUSH.out _ _ _ _ _ _ _ hkt2 hpo;obtain ⟨TB,Td,rfl,-,-⟩:=r4.len;have HN:=Lib.hid r4;have HX4:=Lib.hid x4;have HRUN:=Lib.hid hrun;clear hpo hat2 hkt2 r4 x4 HPUSH hkt he hrun;generalize l[k].cs[i]=pk at *;generalize l[k]=p at *;go_upto_region 27 with fail
                iterate 30 (first | at_builtin | go_values | go_skip | go_guarded | go_step | go_upon | go_back | go_simp)
                refine wpList_append_run rfl (.tmp 83) (.tmp 89) _ _ rfl _ _ _ _ rfl rfl HRUN.out ?_;clear HRUN HTK HQU HKT hU
                iterate 18 (first | go_values | go_skip | go_guarded | go_step | go_upon | go_back | go_simp)
                exact ⟨⟨k+1,by omega,by omega,⟨HN.out,HX4.out⟩⟩,by simp [intOf]; omega⟩
              · have hpo:partsOf lv i l[k]=[]:=by unfold partsOf; rw [if_pos he,List.getElem?_eq_none (by omega)]; rfl
                have HN:Hid (uh w2.heap.size (fun b=>b < w2.heap.size) U (.slice PA (xk lv i (l.take k)).length pc) (xk lv i (l.take (k+1)))):=Lib.hid (by rw [HTK.out,hpo,List.append_nil]; exact HQU.out);have hnl:¬ l[k].lv < lv:=by omega
                clear hpo HPUSH hkt he;generalize l[k]=p at *;go_wp2_with fail
                go_roundw
                case rel=>exact ⟨k+1,by omega,by go_num,⟨HN.out,XU.out⟩⟩
                case measure=>simp [intOf]; omega
            · have heq:(l[k].lv == lv)=false:=by simp [he]
              have hnl:l[k].lv < lv:=by omega
              by_cases hi0:i=0
              · have hpo:partsOf lv i l[k]=[l[k]]:=by unfold partsOf; rw [if_neg he,if_pos ⟨hnl,hi0⟩]
                obtain ⟨v4,w4,hrun,r4,x4⟩:=HPUSH.out _ _ _ _ _ _ _ HKT.out hpo;obtain ⟨TB,Td,rfl,-,-⟩:=r4.len;have HN:=Lib.hid r4;have HX4:=Lib.hid x4;have HRUN:=Lib.hid hrun;have hi02:((i:Int) == 0)=true:=by simp [hi0]
                clear hpo r4 x4 HPUSH hkt he hrun hi0;generalize l[k]=p at *;go_upto_region 29 with fail
                iterate 30 (first | at_builtin | go_values | go_skip | go_guarded | go_step | go_upon | go_back | go_simp)
                refine wpList_append_run rfl (.tmp 100) (.tmp 102) _ _ rfl _ _ _ _ rfl rfl HRUN.out ?_;clear HRUN HTK HQU HKT hU
                iterate 18 (first | go_values | go_skip | go_guarded | go_step | go_upon | go_back | go_simp)
                exact ⟨⟨k+1,by omega,by omega,⟨HN.out,HX4.out⟩⟩,by simp [intOf]; omega⟩
              · have hpo:partsOf lv i l[k]=[]:=by unfold partsOf; rw [if_neg he,if_neg (by omega)]
                have HN:Hid (uh w2.heap.size (fun b=>b < w2.heap.size) U (.slice PA (xk lv i (l.take k)).length pc) (xk lv i (l.take (k+1)))):=Lib.hid (by rw [HTK.out,hpo,List.append_nil]; exact HQU.out);have hi02:((i:Int) == 0)=false:=by simp [hi0]
                clear hpo HPUSH hkt he;generalize l[k]=p at *;go_wp2_with fail
                go_roundw
                case rel=>exact ⟨k+1,by omega,by go_num,⟨HN.out,XU.out⟩⟩
                case measure=>simp [intOf]; omega
          · have hke:k=l.length:=by omega
            have hq2:=HQ.out;rw [hke,List.take_length] at hq2 hp1;have hat3:jd wr (fun _=>True) (xk lv i l) PA 0:=jd.turn (Nat.le_refl _) (fun _ _ h=>h) (fun b _ _=>⟨trivial,rfl⟩) _ _ _ hq2.at_;have HC:=Lib.hid (IH.out lv hpos HLN.out (xk lv i l) PA pc wr (fun p hp=>⟨(kai hpos HL.out hp).1,(kai hpos HL.out hp).2.2⟩) (fun p hp=>(kai hpos HL.out hp).2.1) (Nat.lt_of_le_of_lt (jb1 hpos HL.out) HNR.out) (by have:=za6 lv i l; omega) hp1 hp2 hat3);rw [hke,List.take_length];have HSET:Hid ((L.set i (xw (xk lv i l))).take (i+1)=((List.range sz).map fun i=>xw (xk lv i l)).take (i+1)):=by
             have h1:=vad L ((List.range sz).map fun i=>xw (xk lv i l)) i HLT.out (by omega) (by rw [List.length_map,List.length_range]; exact hlt);rw [List.getElem_map,List.getElem_range] at h1;exact h1
            have hltk2:¬ (l.length:Int) < (l.length:Int):=by omega
            have HRW:=Lib.hid (HROWk.out.ext HXI.out);clear hq2 hat3 hke hltk hp1 hpl HQ HROWk HLT hk;generalize (xk lv i l).length=pn at *;generalize xw (xk lv i l)=res at *;go_wp2_with fail;refine HC.out.mono ?_;rintro e w3 ⟨v3,rfl,p3,x3⟩;obtain ⟨C0,j0,f0,C1,f1,rfl,-⟩:=id p3.open_;have hr3:=HRW.out.ext x3;obtain ⟨D0,n2,g0,D1,n3,g1,⟨r0,r1,r2,r3⟩,-⟩:=hr3.2.2 i (by omega);have hfr:=hr3.2.1;have hst:=(hr3.set_ i (by omega) res (p3.mono fun b hb=>by
             have hb':wr.heap.size<=b:=hb
             exact ⟨by omega,by omega⟩)).1
            simp only at r0 r1 r2 r3;have HST:=Lib.hid hst;have X3:=Lib.hid ((HX.out.trans HXI.out).trans x3);unfold plV;clear hr3 hst p3 x3 HC HRW;go_wp2_with fail
            go_roundw
            case rel=>exact ⟨i+1,by omega,by go_num,⟨_,by rw [List.length_set]; exact hLl,HSET.out,HST.out⟩,(((X3.out.setCell (Nat.le_refl _) _).setCell (Nat.le_refl _) _).setCell (Nat.le_refl _) _).setCell (Nat.le_refl _) _⟩
            case measure=>simp [intOf]; omega
       · have hie:i=sz:=by omega
         have hLe:L=(List.range sz).map fun i=>xw (xk lv i l):=by
          have h:=HLT.out;rw [hie,List.take_of_length_le (by omega),List.take_of_length_le (by simp)] at h;exact h
         have hfin:=HROWk.out.fin (Nat.le_refl _);have htr:=jbb lv L _ sz hfin (by omega) (by omega);rw [hLl,hLe,<- HLE.out] at htr;have HTR:=Lib.hid htr;have hz4:=HZ2.out.ext HX.out hws2;have HZ4:=Lib.hid hz4;have hws5:=HX.out.size;clear hfin htr hie hLe HROWk HLT hz4;obtain ⟨res,hres⟩:∃ res,xw l=res:=⟨_,rfl⟩;rw [hres] at HTR;have HRS:=Lib.hid hres;clear hres;go_wp2_with fail;refine HTR.out.mono ?_;rintro e w3 ⟨v3,rfl,p3,x3⟩;obtain ⟨C0,j0,f0,C1,f1,rfl,-⟩:=id p3.open_;have hzn:=HZ4.out.ext x3 (by omega);have hcl:=yg (q':=fun b=>w.heap.size<=b) ((HX2.out.trans HX.out).trans x3) (Nat.le_refl _) hzn p3 (fun b _ hb=>⟨by omega,by omega⟩);have hcl2:=hcl;have HF:Hid (jf (fun b=>w.heap.size<=b) (xw l) w (.returned (plV res (.slice C0 j0 f0) (.slice C1 res.cs.length f1))) ((((w3.setCell ⟨w.heap.size,0,none⟩ (.int .i64 res.lv)).setCell ⟨w.heap.size,1,none⟩ (.bool res.neg)).setCell ⟨w.heap.size,2,none⟩ (.slice C0 j0 f0)).setCell ⟨w.heap.size,3,none⟩ (.slice C1 res.cs.length f1))):=by
          rw [HRS.out];exact hcl2
         clear hcl2;clear hcl;obtain ⟨⟨z0,z1,z2,z3⟩,zf⟩:=hzn;clear x3 p3 HTR;unfold plV;go_wp2_with fail;exact bodyPost_ret (v:=plV res (.slice C0 j0 f0) (.slice C1 res.cs.length f1)) (by simp [results,Tryz.results54,go_sem,z0,z1,z2,z3,plV]) rfl HF.out
theorem gcm {E D:Nat} (hE:E<=1000000) (hD:D<=17592186044000) (k:Nat):∀ n:Int,n<=k->wbx E D n:=by
 induction k with
 | zero=>exact fun n hn=>zbm hE hD n fun m h0 hm=>by omega
 | succ k ih=>exact fun n hn=>zbm hE hD n fun m h0 hm=>ih m (by omega)
theorem xbs {w:World} {q:Nat->Prop} {E D:Nat} (l:List Pl) (A:Option Addr) (c:Nat) (hE:E<=1000000) (hD:D<=17592186044000) (hl:∀ p ∈ l,p.Can/\p.ex E) (hn:lnr l < B32 ^ D) (hlen:l.length<=1000000) (hc1:l.length<=c) (hc2:c<=9223372036854775807) (h:jd w q l A 0) :
 Calls Tryz.prog 54 #[.slice A l.length c] w (jf (fun b=>w.heap.size<=b) (xw l) w):=
 gcm hE hD 5 5 (by omega) l A c w hl (fun p hp=>by have:=(hl p hp).1.lv_nonneg.2; omega) hn hlen hc1 hc2 (jd.turn (Nat.le_refl _) (fun _ _ h=>h) (fun b _ _=>⟨trivial,rfl⟩) l A 0 h)
/- Layer 22: recpoly.present. -/
set_option maxRecDepth 100000
set_option maxHeartbeats 8000000
theorem ub2:(Tryz.prog.info? 3).map (fun i=>(i.zero,i.size,i.bytes))=some (some (.int .i64 0),1,8):=by kernel_rfl
theorem jci : vay 100 3 1 8 (.int .i64 0) where
 und:=Tryz.underlying100
 info:=ub2
 cells:=rfl
 pos:=by omega
 nodig:=by
  intro u hu;simp only [Value.cells,List.mem_singleton] at hu;rw [hu]
  rfl
def kad (base:Nat) (W:World) (v:Value) (l:List Nat):Prop:=xn 3 1 base W v l.length (l.map fun n:Nat=>.int .i64 n)
theorem kad.nil (base:Nat) (W:World):kad base W (.slice none 0 0) []:=xn.nil _ _ _ _
theorem kad.len {base:Nat} {W:World} {v:Value} {l:List Nat} (h:kad base W v l):∃ A c,v=.slice A l.length c/\l.length<=c/\c<=9223372036854775807:=xn.len h
theorem kad.at_ {base:Nat} {W:World} {v:Value} {l:List Nat} (h:kad base W v l) (k:Nat) (hk:k < l.length):∃ g c,v=.slice (some ⟨g,0,none⟩) l.length c/\base<=g/\g < W.heap.size/\W.cell? ⟨g,k,none⟩=some (.int .i64 l[k]):=by
 obtain ⟨g,c,e,h1,h2,h3,h4,-⟩:=xn.pos h (by omega);unfold kad at h;rw [e] at h;refine ⟨g,c,e,h3,h4,?_⟩;rw [xn.cell h k (by omega),List.getElem?_map,List.getElem?_eq_getElem hk]
 rfl
theorem kad.push {base:Nat} {W:World} {ov:Value} {l:List Nat} (h:kad base W ov l) (hbase:base<=W.heap.size) (n:Nat) (hlen:l.length+1<=1000000000) (ty:TypeId) :
 ∃ v4 w4,(Builtin.append_ #[100,100] ty #[ov,.slice (some ⟨W.heap.size,0,none⟩) 1 1]).run Tryz.prog (W.alloc (.cells #[.int .i64 n] 3))=.ok v4 w4/\W.grownBy w4 ov.ownBlock/\kad base w4 v4 (l ++ [n]):=by
 obtain ⟨v4,w4,h1,h2,h3,-,-⟩:=xn.push jci h hbase [.int .i64 n] rfl (by
  intro u hu;rw [List.mem_singleton.1 hu]
  exact ⟨rfl,rfl⟩) (by omega) (by omega) ty
 refine ⟨v4,w4,h1,h3,?_⟩;unfold kad;rw [List.length_append,List.map_append];exact h2
def prs (cs:List Pl) (n:Nat):List Nat:=(List.range n).filter fun i=>match cs[i]? with
 | some c=>!c.isZ
 | none=>false
theorem ja3 (cs:List Pl) (k:Nat) (h:k < cs.length):prs cs (k+1)=prs cs k ++ if cs[k].isZ then [] else [k]:=by
 unfold prs;rw [List.range_succ,List.filter_append]
 congr 1
 simp only [List.filter_cons,List.getElem?_eq_getElem h,List.filter_nil];cases cs[k].isZ <;> rfl
theorem xar (cs:List Pl) (n:Nat):(prs cs n).length<=n:=by
 unfold prs;have:=List.length_filter_le (fun i=>match cs[i]? with | some c=>!c.isZ | none=>false) (List.range n);rw [List.length_range] at this;exact this
theorem ka0 {w:World} {q:Nat->Prop} (cs:List Pl) (A:Option Addr) (c:Nat) (h:jd w q cs A 0) (hlen:cs.length<=1000000):Calls Tryz.prog 77 #[.slice A cs.length c] w fun e w'=>∃ v,e=.returned v/\kad w.heap.size w' v (prs cs cs.length)/\Ext w w':=by
 have HH:=Lib.hid h;clear h;go_enter Tryz.func77,Tryz.ntmps77;go_wp2_with fail
 go_loopw [3,8] (fun rv iv wr=>∃ k:Nat,k<=cs.length/\iv=.int .i64 k/\Hid (kad w.heap.size wr rv (prs cs k)/\Ext w wr)) (fun _ iv _=>cs.length - (intOf iv).toNat)
 case atStart=>exact ⟨0,Nat.zero_le _,rfl,⟨by simpa [prs] using kad.nil _ _,Ext.refl w⟩⟩
 case round =>
  obtain ⟨k,hk,rfl,⟨hr,hx⟩⟩:=hrel;have HR:=Lib.hid hr;have HX:=Lib.hid hx;have hws:=hx.size;obtain ⟨RA,rc,rfl,hc1,hc2⟩:=hr.len;have hpl:=xar cs k;clear hr hx
  by_cases hlt:k < cs.length
  · obtain ⟨ad,C0,j0,g0,C1,j1,g1,rfl,hadb,hnd,hkt⟩:=jd.kid HH.out k hlt;obtain ⟨a0,a1,a2,a3⟩:=hnd.ext HX.out (by rw [ja]; exact hadb);have HST:=Lib.hid (ja3 cs k hlt);obtain ⟨U,hU⟩:∃ U,wr.alloc (.cells #[.int .i64 cs[k].lv,.bool cs[k].neg,.slice C0 j0 g0,.slice C1 j1 g1] 35)=U:=⟨_,rfl⟩;have hUx:Ext wr U:=by rw [<- hU]; exact (Ext.refl _).alloc _
    obtain ⟨u0,u1,u2,u3⟩:jb U wr.heap.size cs[k] (.slice C0 j0 g0) (.slice C1 j1 g1):=by rw [<- hU]; exact jb.new wr cs[k] _ _ _
    have HIZ:=Lib.hid (wab _ _ (hkt.ext (HX.out.trans hUx)));have XU:=Lib.hid (HX.out.trans hUx);have HRU:=Lib.hid (HR.out.ext hUx);unfold plV at HIZ;clear hnd hkt hadb hUx HR;generalize cs[k].isZ=bz at *;generalize cs[k]=p at *;go_wp2_with fail;clear hU u0 u1 u2 u3 a0 a1 a2 a3;refine HIZ.out.mono ?_;rintro e w2 ⟨rfl,x2⟩;have X2:=Lib.hid (XU.out.trans x2);have HR2:=Lib.hid (xn.ext HRU.out x2);clear x2 HIZ HRU;cases bz
    · obtain ⟨v4,w4,hrun,hg,hr4⟩:=kad.push HR2.out X2.out.size k (by omega) 100;obtain ⟨TB,Td,rfl,-,-⟩:=hr4.len;have HN:Hid (kad w.heap.size w4 (.slice TB ((prs cs k).length+1) Td) (prs cs (k+1))):=Lib.hid (by
       rw [HST.out];rw [List.length_append] at hr4
       exact hr4)
      have HX4:=Lib.hid (vaq X2.out hg (fun R hR=>(xn.own HR2.out hR).1));have HRUN:=Lib.hid hrun;clear hrun hg hr4;go_upto_region 6 with fail
      iterate 12 (first | at_builtin | go_values | go_skip | go_guarded | go_step | go_upon | go_back | go_simp)
      refine wpList_append_run rfl (.tmp 16) (.tmp 18) _ _ rfl _ _ _ _ rfl rfl HRUN.out ?_;clear HRUN
      iterate 18 (first | go_values | go_skip | go_guarded | go_step | go_upon | go_back | go_simp)
      exact ⟨⟨k+1,by omega,by omega,⟨HN.out,HX4.out⟩⟩,by simp [intOf]; omega⟩
    · have HN:Hid (kad w.heap.size w2 (.slice RA (prs cs k).length rc) (prs cs (k+1))):=Lib.hid (by rw [HST.out,if_pos rfl,List.append_nil]; exact HR2.out);go_wp2_with fail
      go_roundw
      case rel=>exact ⟨k+1,by omega,by go_num,⟨HN.out,X2.out⟩⟩
      case measure=>simp [intOf]; omega
  · have hke:k=cs.length:=by omega
    subst hke;go_wp2_with fail;go_ret;exact ⟨_,rfl,HR.out,HX.out⟩
end Go.Proofs.YtklnlgnnlmdibaaGreat
