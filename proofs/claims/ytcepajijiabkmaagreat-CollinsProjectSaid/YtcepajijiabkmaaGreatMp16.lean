/- Layer 22: recpoly.add. -/
import Derived.Test.YtcepajijiabkmaaGreatMp15
set_option linter.unusedSimpArgs false
set_option linter.unusedVariables false
set_option maxRecDepth 100000
set_option maxHeartbeats 8000000
namespace Go.Proofs.YtcepajijiabkmaaGreat
open Lib (hid)
open Go.RowKit
def qci (E D:Nat) (n:Int):Prop:=∀ (l:List Pl) (A:Option Addr) (c:Nat) (w:World),(∀ p ∈ l,p.Can/\p.ex E)->(∀ p ∈ l,p.lv < n)->lnr l < B32 ^ D->l.length<=1000000->l.length<=c->c<=9223372036854775807->jd w (fun _=>True) l A 0 ->
 Calls Tryz.prog 37 #[.slice A l.length c] w (uf (fun b=>w.heap.size<=b) (uy l) w)
theorem gax {V W w4:World} {ov:Value} (hx:Ext V W) (hg:W.grownBy w4 ov.ownBlock) (ho:∀ R,ov.ownBlock=some R->V.heap.size<=R):Ext V w4:=
 Below.grown hx hg hx.size ho
theorem jb2 {E D:Nat} (hE:E<=1000000) (hD:D<=17592186044000) (n:Int) (ih:∀ m,0 < m->m < n->qci E D m):qci E D n:=by
 intro l A c w hl fC J9 hlen bZ dO aK;have nV:∀ p ∈ l,0<=p.lv/\p.lv<=4/\p.cs.length<=E+1/\(0 < p.lv->2<=p.cs.length):=fun p hp=>by
  obtain ⟨h1,h2⟩:=hl p hp;refine ⟨h1.qq.1,h1.qq.2,?_,fun h0=>?_⟩
  · obtain ⟨lv,ng,ds,cs⟩:=p;rw [Pl.ex] at h2;rcases h2 with h2 | h2
    · unfold Pl.Can at h1;rcases h1 with h | h
      · simp [Pl.cs,h.2.1]
      · omega
    · exact h2.1
  · obtain ⟨lv,ng,ds,cs⟩:=p;exact (h1.kids h0).2.2.1
 obtain ⟨AQ,Qy⟩:=wci l (E+1) nV;have lQ:=hid aK;have HL:=hid hl;have Eu:=hid fC;have HNR:=hid J9;have IH:=hid ih;have Yp:=hid AQ;have MN:=hid Qy;have HTA:=hid (zc4 l);obtain ⟨W,hW⟩:=n_m (w.alloc (.cells #[.int .i64 0,.bool false,.slice none 0 0,.slice none 0 0] 33));have ai:Ext w W:=by rw [<- hW]; exact (Ext.refl w).alloc _
 have dG:W.heap.size=w.heap.size+1:=by rw [<- hW]; simp
 have hz:jf W w.heap.size:=by rw [<- hW]; exact jf.new w _
 have aG:=hid ai;have HZ:=hid hz;clear aK hl fC J9 ih AQ Qy ai hz nV;go_enter Tryz.func37,Tryz.ntmps37;go_wp2_with fail;clear hW
 go_loopw [3,4,17] (fun av bv iv wr=>∃ k:Nat,k<=l.length/\iv=.int .i64 k/\av=.int .i64 (uaf (l.take k)).1/\bv=.int .i64 (uaf (l.take k)).2/\Hid (Ext W wr)) (fun _ _ iv _=>l.length - (intOf iv).toNat)
 case atStart=>exact ⟨0,pS _,rfl,by simp [uaf],by simp [uaf],Ext.refl W⟩
 case round =>
  obtain ⟨k,hk,rfl,rfl,rfl,aC⟩:=hrel;have hx:Ext W wr:=aC.out;have HX:=hid hx;have oz:=hx.size;clear aC hx
  by_cases af:k < l.length
  · obtain ⟨ad,C0,j0,g0,C1,j1,g1,rfl,ah,bP,bC⟩:=jd.ym lQ.out k af;obtain ⟨a0,a1,a2,a3⟩:=bP.ext (aG.out.trans HX.out) (by rw [ja]; exact ah);have SS:j1=l[k].cs.length:=by
     obtain ⟨A1,n1,c1',A2,c2,e,-⟩:=bC.open_;unfold plV at e;simp only [tm,tD,so,and_true,true_and,Value.slice.injEq] at e;exact e.2.2.1
    subst SS;have dS:=hid (gci l k af);obtain ⟨U,hU⟩:=n_m (wr.alloc (.cells #[.int .i64 l[k].lv,.bool l[k].neg,.slice C0 j0 g0,.slice C1 l[k].cs.length g1] 33));have kZ:Ext wr U:=by rw [<- hU]; exact (Ext.refl _).alloc _
    obtain ⟨u0,u1,u2,u3⟩:jb U wr.heap.size l[k] (.slice C0 j0 g0) (.slice C1 l[k].cs.length g1):=by rw [<- hU]; exact jb.new wr l[k] _ _ _
    have XU:=hid (HX.out.trans kZ);clear bP bC ah kZ;obtain ⟨ta,tb,ht⟩:∃ ta tb,uaf (l.take k)=(ta,tb):=⟨_,_,rfl⟩;rw [ht] at dS ⊢;clear ht;simp only at dS ⊢;generalize l[k]=p at *;rcases wg ta p.lv with h | h | h
    · have aY:=hid (dS.out.trans (jbt h));have iK:max (0:Int) (p.cs.length:Int)=(p.cs.length:Int):=by omega
      go_wp2_with fail
      go_roundw
      case rel=>exact ⟨k+1,by omega,by go_num,by rw [aY.out],by rw [aY.out],XU⟩
      case measure=>simp [intOf]; omega
    · have aY:=hid (dS.out.trans (kbt (a:=(ta,tb)) h.symm));have oG:¬ ta < p.lv:=by omega
      have heq:(p.lv == ta)=true:=by simp [h]
      have Af:Hid (max (tb:Int) (p.cs.length:Int)=((max tb p.cs.length:Nat):Int)):=hid (by omega);clear h;go_wp2_with fail
      go_roundw
      case rel=>exact ⟨k+1,by omega,by go_num,by rw [aY.out],by rw [aY.out]; simp only; rw [Af.out],XU⟩
      case measure=>simp [intOf]; omega
    · have aY:=hid (dS.out.trans (qbt (a:=(ta,tb)) h));have oG:¬ ta < p.lv:=by omega
      have heq:(p.lv == ta)=false:=by simp; omega
      go_wp2_with fail
      go_roundw
      case rel=>exact ⟨k+1,by omega,by go_num,by rw [aY.out],by rw [aY.out],XU⟩
      case measure=>simp [intOf]; omega
  · have df:k=l.length:=by omega
    rw [df,pP];obtain ⟨lv,sz,AQ⟩:∃ lv sz,uaf l=(lv,sz):=⟨_,_,rfl⟩;rw [AQ] at Yp MN HTA ⊢;simp only at Yp MN HTA ⊢;obtain ⟨t1,t2,t3,t4⟩:=Yp.out;have oP:=hid (aG.out.trans HX.out);have nY:=hid (HZ.out.ext HX.out (by omega));have mM:w.heap.size < wr.heap.size:=by omega
    clear df AQ af hk HX aG HZ oz dG Yp;obtain ⟨w1,rfl⟩:∃ w1,w1=wr:=⟨wr,rfl⟩
    by_cases h0:lv=0
    · have Nk:Hid (∀ p ∈ l,p.Can/\p.lv=0):=hid (fun p hp=>⟨(HL.out p hp).1,by have h1:=(MN.out p hp).1; have h2:=(HL.out p hp).1.qq.1; omega⟩);have aao:(lv == 0)=true:=by simp [h0]
      have WH:=hid (xcr Nk.out);have Ri:inr (l.map Pl.z) < B32 ^ D:=by rw [jdd Nk.out]; exact HNR.out
      have Jg:=hid Ri;obtain ⟨V,dw,eQ,xG,ae⟩:=wbu (l.length:Int) (by omega) (by omega) w1;rw [sT] at dw ae;have aW:=hid ae;have lL:=hid eQ;subst h0;clear ae eQ Ri;go_wp2_with fail;clear dw
      go_loopw [44] (fun iv wx=>∃ k:Nat,k<=l.length/\iv=.int .i64 k/\Hid ((∃ L:List Int,L.length=l.length/\L.take k=(l.map Pl.z).take k/\xaz wx w1.heap.size L)/\Ext w1 wx)) (fun iv _=>l.length - (intOf iv).toNat)
      case atStart=>exact ⟨0,pS _,rfl,⟨⟨_,p8,by simp,aW.out⟩,lL.out⟩⟩
      case round =>
       obtain ⟨k,hk,rfl,⟨⟨L,pI,tC,ae⟩,hx⟩⟩:=hrel;have HX:=hid hx;have aB:=hid ae;have kJ:=hid tC;have gV:w1.heap.size < wr.heap.size:=ae.1;clear hx ae tC lL aW
       by_cases af:k < l.length
       · obtain ⟨ad,C0,j0,g0,C1,j1,g1,rfl,ah,bP,bC⟩:=jd.ym lQ.out k af;obtain ⟨a0,a1,a2,a3⟩:=bP.ext (oP.out.trans HX.out) (by rw [ja]; exact ah);have eF:=Nk.out l[k] (pt af);have kD:=gaf eF.1 eF.2;have rZ:l[k].neg=decide (l[k].z < 0):=congrArg Pl.neg kD;have zB:l[k].ds=dg l[k].z.natAbs:=congrArg Pl.ds kD;have au:jc wr (.slice C0 j0 g0) (dg l[k].z.natAbs):=by
          obtain ⟨A1,n1,c1',A2,c2,e,hn,-⟩:=bC.open_;unfold plV at e;simp only [tm,tD,so,and_true,true_and] at e;rw [e.1,<- zB];exact hn.ext (oP.out.trans HX.out)
         have dU:Hid ((L.set k l[k].z).take (k+1)=(l.map Pl.z).take (k+1)):=by
          have h1:=zae L (l.map Pl.z) k kJ.out (by omega) (by rw [px]; exact af);rw [rK] at h1;exact h1
         obtain ⟨U,hU⟩:=n_m (wr.alloc (.cells #[.int .i64 l[k].lv,.bool (decide (l[k].z < 0)),.slice C0 j0 g0,.slice C1 j1 g1] 33));have kZ:Ext wr U:=by rw [<- hU]; exact (Ext.refl _).alloc _
         have u1:U.cell? ⟨wr.heap.size,1,none⟩=some (.bool (decide (l[k].z < 0))):=by rw [<- hU]; simp [go_sem]
         have u2:U.cell? ⟨wr.heap.size,2,none⟩=some (.slice C0 j0 g0):=by rw [<- hU]; simp [go_sem]
         have uX:=aB.out.ext kZ;have dS:=hid (uX.xD k (by omega) l[k].z (au.ext kZ));have XU:=hid (HX.out.trans kZ);obtain ⟨D0,n2,d2,r0,r1,-⟩:=uX.2.2 k (by omega);have bG:=uX.2.1;rw [rZ] at a1;clear bP bC ah eF kD rZ zB au uX kZ kJ aB;generalize l[k].z=z at *;generalize l[k]=p at *;go_wp2_with fail
         go_roundw
         case rel=>exact ⟨k+1,by omega,by go_num,⟨_,by rw [pH]; exact pI,dU.out,dS.out⟩,(XU.out.setCell (pj _) _).setCell (pj _) _⟩
         case measure=>simp [intOf]; omega
       · have df:k=l.length:=by omega
         have pJ:L=l.map Pl.z:=by
          have h:=kJ.out;rw [df,show l.length=(l.map Pl.z).length by rw [px],pP,px,<- pI,pP] at h;exact h
         have aS:=aB.out.fin l.length (by omega) (by omega);rw [pJ,px] at aS;have HSU:=hid (jc4 aS Jg.out hD);have Be:=hid (nY.out.ext HX.out mM);clear aS aB kJ pJ df;go_wp2_with fail;refine HSU.out.mono ?_;rintro e w2 ⟨z2,rfl,⟨y2,rfl,m2⟩,x2⟩;obtain ⟨C2,k2,rfl,-⟩:=id m2;have aQ:=Be.out.ext x2 (by omega);have HF:Hid (uf (fun b=>w.heap.size<=b) (uy l) w (.returned (plV (Pl.const (yz (l.map Pl.z))) (.slice C2 (dg (yz (l.map Pl.z)).natAbs).length k2) (.slice none 0 0))) ((((w2.setCell ⟨w.heap.size,0,none⟩ (.int .i64 0)).setCell ⟨w.heap.size,1,none⟩ (.bool (decide (yz (l.map Pl.z) < 0)))).setCell ⟨w.heap.size,2,none⟩ (.slice C2 (dg (yz (l.map Pl.z)).natAbs).length k2)).setCell ⟨w.heap.size,3,none⟩ (.slice none 0 0))):=by
          rw [WH.out];exact qf (p:=Pl.const (yz (l.map Pl.z))) (q:=fun _=>False) ((oP.out.trans HX.out).trans x2) (pj _) aQ (PlV.mk (t:=Pl.const (yz (l.map Pl.z))) (A:=none) (c:=0) m2 (pj _) (by omega) (by unfold Pl.const Pl.cs jd; trivial)) (fun b _ h=>h.elim)
         obtain ⟨⟨z0,z1,z2',z3⟩,zf⟩:=aQ;clear x2 m2 HSU;generalize yz (l.map Pl.z)=S at *;go_wp2_with fail;exact bodyPost_ret (v:=plV (Pl.const S) (.slice C2 (dg S.natAbs).length k2) (.slice none 0 0)) (by simp [results,Tryz.results37,go_sem,z0,z1,z2',z3,plV,Pl.const,Pl.lv,Pl.neg]) rfl HF.out
    · have aao:(lv == 0)=false:=by simp [h0]
      have di:0 < lv:=by omega
      have RQ:lv < n:=by
       obtain ⟨p,hp,e⟩:=HTA.out di;have:=Eu.out p hp;omega
      have uS:1<=sz:=by have:=t4 di; omega
      have nK:=hid (uch di t2 uS HL.out MN.out);obtain ⟨V,dw,eQ,xG,ae⟩:=uw (sz:Int) (by omega) (by omega) w1;rw [sT] at dw ae;have aW:=hid (ae (fun i=>w1.heap.size<=i));have lL:=hid eQ;have HH:=hid h0;have vZ:=hid RQ;have Um:jd w (fun b=>b < w.heap.size) l A 0:=jd.xl (pj _) (fun _ _ h=>h) (fun b hb _=>⟨hb,rfl⟩) l A 0 lQ.out;have adJ:=hid Um;clear ae eQ h0 RQ Um;go_wp2_with fail;clear dw
      go_loopw [62] (fun iv wx=>∃ i:Nat,i<=sz/\iv=.int .i64 i/\Hid ((∃ L:List Pl,L.length=sz/\L.take i=((List.range sz).map fun i=>uy (jl lv i l)).take i/\xh wx (fun b=>w1.heap.size<=b) w1.heap.size L)/\Ext w1 wx)) (fun iv _=>sz - (intOf iv).toNat)
      case atStart=>exact ⟨0,pS _,rfl,⟨⟨_,p8,by simp,aW.out⟩,lL.out⟩⟩
      case round =>
       obtain ⟨i,hi,rfl,⟨⟨L,pI,tC,ae⟩,hx⟩⟩:=hrel;have HX:=hid hx;have aB:=hid ae;have kJ:=hid tC;have gV:w1.heap.size < wr.heap.size:=ae.1;clear hx ae tC lL aW;obtain ⟨w2,rfl⟩:∃ w2,w2=wr:=⟨wr,rfl⟩
       by_cases af:i < sz
       · have IX:=hid (oP.out.trans HX.out);have ah2:w.heap.size<=w2.heap.size:=IX.out.size;go_wp2_with fail
         go_loopw [12,67] (fun pv kv wx=>∃ k:Nat,k<=l.length/\kv=.int .i64 k/\Hid (jg w2.heap.size (fun b=>b < w2.heap.size) wx pv (jl lv i (l.take k))/\Ext w2 wx)) (fun _ kv _=>l.length - (intOf kv).toNat)
         case atStart=>exact ⟨0,pS _,rfl,⟨by simpa [jl] using jg.nil _ _ _,Ext.refl _⟩⟩
         case round =>
          obtain ⟨k,hk,rfl,⟨hq,hx⟩⟩:=hrel;have HQ:=hid hq;have En:=hid hx;have ah1:=hx.size;obtain ⟨PA,pc,rfl,pW,wR⟩:=hq.len;have jH:=zbi lv i (l.take k);rw [pA] at jH;clear hx hq
          by_cases Fb:k < l.length
          · obtain ⟨ad,C0,j0,g0,C1,j1,g1,rfl,ah,bP,bC⟩:=jd.ym adJ.out k Fb;have bQ:=IX.out.trans En.out;obtain ⟨a0,a1,a2,a3⟩:=bP.ext bQ (by rw [ja]; exact ah);have SS:j1=l[k].cs.length:=by
             obtain ⟨A1,n1,c1',A2,c2,e,-⟩:=bC.open_;unfold plV at e;simp only [tm,tD,so,and_true,true_and,Value.slice.injEq] at e;exact e.2.2.1
            subst SS;have xO:=hid (ub5 lv i l k Fb);have aiy:=(MN.out l[k] (pt Fb)).1;obtain ⟨U,hU⟩:=n_m (wr.alloc (.cells #[.int .i64 l[k].lv,.bool l[k].neg,.slice C0 j0 g0,.slice C1 l[k].cs.length g1] 33));have kZ:Ext wr U:=by rw [<- hU]; exact (Ext.refl _).alloc _
            obtain ⟨u0,u1,u2,u3⟩:jb U wr.heap.size l[k] (.slice C0 j0 g0) (.slice C1 l[k].cs.length g1):=by rw [<- hU]; exact jb.new wr l[k] _ _ _
            have XU:=hid (En.out.trans kZ);have PG:=hid (bC.ext (bQ.trans kZ));have MZ:=hid (HQ.out.ext kZ);have XG:=kZ.size;have jF:Hid (∀ (x:Pl) (E0 E1:Option Addr) (q0 r0 q1 r1:Nat),PlV U (fun b=>b < w.heap.size) x (plV x (.slice E0 q0 r0) (.slice E1 q1 r1))->partsOf lv i l[k]=[x]->∃ v4 w4,(Builtin.append_ #[31,31] 31 #[.slice PA (jl lv i (l.take k)).length pc,.slice (some ⟨U.heap.size,0,none⟩) 1 1]).run Tryz.prog (U.alloc (.cells #[.int .i64 x.lv,.bool x.neg,.slice E0 q0 r0,.slice E1 q1 r1] 33))=.ok v4 w4/\jg w2.heap.size (fun b=>b < w2.heap.size) w4 v4 (jl lv i (l.take (k+1)))/\Ext w2 w4):=by
             refine hid ?_;intro x E0 E1 q0 r0 q1 r1 rQ nR;obtain ⟨v4,w4,ak,g4,n4,r4,o4⟩:=MZ.out.push (by have:=XU.out.size; omega) (rQ.mono fun b hb=>⟨fun e=>by have:=(MZ.out.own e).1; omega,by omega⟩) (by omega) 31;exact ⟨v4,w4,ak,by rw [xO.out,nR]; exact r4,gax XU.out g4 (fun R hR=>(MZ.out.own hR).1)⟩
            clear bP kZ HQ
            by_cases he:l[k].lv=lv
            · have heq:(l[k].lv == lv)=true:=by simp [he]
              by_cases hic:i < l[k].cs.length
              · have nR:partsOf lv i l[k]=[l[k].cs[i]]:=by unfold partsOf; rw [if_pos he,po hic]; rfl
                obtain ⟨A1,n1,c1',A2,c2,e,-,-,-,kF⟩:=PG.out.open_;unfold plV at e;simp only [tm,tD,so,and_true,true_and,Value.slice.injEq] at e;obtain ⟨-,rfl,rfl⟩:=e;obtain ⟨ad2,D0,i0,Dh,D1,i1,jV,rfl,Iq,aak,SH⟩:=jd.ym kF i hic;obtain ⟨v0,v1,v2,v3⟩:=aak;obtain ⟨v4,w4,ak,r4,x4⟩:=jF.out _ _ _ _ _ _ _ SH nR;obtain ⟨TB,Td,rfl,-,-⟩:=r4.len;have HN:=hid r4;have IV:=hid x4;have tN:=hid ak;clear nR kF SH r4 x4 jF bC he ak;generalize l[k].cs[i]=pk at *;generalize l[k]=p at *;go_upto_region 27 with fail
                iterate 30 (first | at_builtin | go_values | go_skip | go_guarded | go_step | go_upon | go_back | go_simp)
                refine wpList_append_run rfl (.tmp 83) (.tmp 89) _ _ rfl _ _ _ _ rfl rfl tN.out ?_;clear tN xO MZ PG hU
                iterate 18 (first | go_values | go_skip | go_guarded | go_step | go_upon | go_back | go_simp)
                exact ⟨⟨k+1,by omega,by omega,⟨HN.out,IV.out⟩⟩,by simp [intOf]; omega⟩
              · have nR:partsOf lv i l[k]=[]:=by unfold partsOf; rw [if_pos he,sA (by omega)]; rfl
                have HN:Hid (jg w2.heap.size (fun b=>b < w2.heap.size) U (.slice PA (jl lv i (l.take k)).length pc) (jl lv i (l.take (k+1)))):=hid (by rw [xO.out,nR,si]; exact MZ.out);have oG:¬ l[k].lv < lv:=by omega
                clear nR jF bC he;generalize l[k]=p at *;go_wp2_with fail
                go_roundw
                case rel=>exact ⟨k+1,by omega,by go_num,⟨HN.out,XU.out⟩⟩
                case measure=>simp [intOf]; omega
            · have heq:(l[k].lv == lv)=false:=by simp [he]
              have oG:l[k].lv < lv:=by omega
              by_cases S9:i=0
              · have nR:partsOf lv i l[k]=[l[k]]:=by unfold partsOf; rw [if_neg he,if_pos ⟨oG,S9⟩]
                obtain ⟨v4,w4,ak,r4,x4⟩:=jF.out _ _ _ _ _ _ _ PG.out nR;obtain ⟨TB,Td,rfl,-,-⟩:=r4.len;have HN:=hid r4;have IV:=hid x4;have tN:=hid ak;have aaH:((i:Int) == 0)=true:=by simp [S9]
                clear nR r4 x4 jF bC he ak S9;generalize l[k]=p at *;go_upto_region 29 with fail
                iterate 30 (first | at_builtin | go_values | go_skip | go_guarded | go_step | go_upon | go_back | go_simp)
                refine wpList_append_run rfl (.tmp 100) (.tmp 102) _ _ rfl _ _ _ _ rfl rfl tN.out ?_;clear tN xO MZ PG hU
                iterate 18 (first | go_values | go_skip | go_guarded | go_step | go_upon | go_back | go_simp)
                exact ⟨⟨k+1,by omega,by omega,⟨HN.out,IV.out⟩⟩,by simp [intOf]; omega⟩
              · have nR:partsOf lv i l[k]=[]:=by unfold partsOf; rw [if_neg he,if_neg (by omega)]
                have HN:Hid (jg w2.heap.size (fun b=>b < w2.heap.size) U (.slice PA (jl lv i (l.take k)).length pc) (jl lv i (l.take (k+1)))):=hid (by rw [xO.out,nR,si]; exact MZ.out);have aaH:((i:Int) == 0)=false:=by simp [S9]
                clear nR jF bC he;generalize l[k]=p at *;go_wp2_with fail
                go_roundw
                case rel=>exact ⟨k+1,by omega,by go_num,⟨HN.out,XU.out⟩⟩
                case measure=>simp [intOf]; omega
          · have df:k=l.length:=by omega
            have qM:=HQ.out;rw [df,pP] at qM pW;have CW:jd wr (fun _=>True) (jl lv i l) PA 0:=jd.xl (pj _) (fun _ _ h=>h) (fun b _ _=>⟨trivial,rfl⟩) _ _ _ qM.at_;have HC:=hid (IH.out lv di vZ.out (jl lv i l) PA pc wr (fun p hp=>⟨(uan di HL.out hp).1,(uan di HL.out hp).2.2⟩) (fun p hp=>(uan di HL.out hp).2.1) (sw (jcm di HL.out) HNR.out) (by have:=zbi lv i l; omega) pW wR CW);rw [df,pP];have dU:Hid ((L.set i (uy (jl lv i l))).take (i+1)=((List.range sz).map fun i=>uy (jl lv i l)).take (i+1)):=by
             have h1:=zae L ((List.range sz).map fun i=>uy (jl lv i l)) i kJ.out (by omega) (by rw [px,tt]; exact af);rw [rK,tF] at h1;exact h1
            have ae2:¬ (l.length:Int) < (l.length:Int):=by omega
            have Pq:=hid (aB.out.ext En.out);clear qM CW df Fb pW jH HQ aB kJ hk;generalize (jl lv i l).length=pn at *;generalize uy (jl lv i l)=res at *;go_wp2_with fail;refine HC.out.mono ?_;rintro e w3 ⟨v3,rfl,p3,x3⟩;obtain ⟨C0,j0,f0,C1,f1,rfl,-⟩:=id p3.open_;have yM:=Pq.out.ext x3;obtain ⟨D0,n2,g0,D1,n3,g1,⟨r0,r1,r2,r3⟩,-⟩:=yM.2.2 i (by omega);have bG:=yM.2.1;have dV:=(yM.xD i (by omega) res (p3.mono fun b hb=>by
             have eP:wr.heap.size<=b:=hb
             exact ⟨by omega,by omega⟩)).1
            simp only at r0 r1 r2 r3;have dS:=hid dV;have X3:=hid ((HX.out.trans En.out).trans x3);unfold plV;clear yM dV p3 x3 HC Pq;go_wp2_with fail
            go_roundw
            case rel=>exact ⟨i+1,by omega,by go_num,⟨_,by rw [pH]; exact pI,dU.out,dS.out⟩,(((X3.out.setCell (pj _) _).setCell (pj _) _).setCell (pj _) _).setCell (pj _) _⟩
            case measure=>simp [intOf]; omega
       · have H5:i=sz:=by omega
         have pJ:L=(List.range sz).map fun i=>uy (jl lv i l):=by
          have h:=kJ.out;rw [H5,pT (by omega),pT (by simp)] at h;exact h
         have aS:=aB.out.fin (pj _);have JJ:=qbo lv L _ sz aS (by omega) (by omega);rw [pI,pJ,<- nK.out] at JJ;have Pj:=hid JJ;have hz4:=nY.out.ext HX.out mM;have HZ4:=hid hz4;have ZA:=HX.out.size;clear aS JJ H5 pJ aB kJ hz4;obtain ⟨res,mO⟩:=n_m (uy l);rw [mO] at Pj;have HRS:=hid mO;clear mO;go_wp2_with fail;refine Pj.out.mono ?_;rintro e w3 ⟨v3,rfl,p3,x3⟩;obtain ⟨C0,j0,f0,C1,f1,rfl,-⟩:=id p3.open_;have aQ:=HZ4.out.ext x3 (by omega);have nV:=qf (q':=fun b=>w.heap.size<=b) ((oP.out.trans HX.out).trans x3) (pj _) aQ p3 (fun b _ hb=>⟨by omega,by omega⟩);have TY:=nV;have HF:Hid (uf (fun b=>w.heap.size<=b) (uy l) w (.returned (plV res (.slice C0 j0 f0) (.slice C1 res.cs.length f1))) ((((w3.setCell ⟨w.heap.size,0,none⟩ (.int .i64 res.lv)).setCell ⟨w.heap.size,1,none⟩ (.bool res.neg)).setCell ⟨w.heap.size,2,none⟩ (.slice C0 j0 f0)).setCell ⟨w.heap.size,3,none⟩ (.slice C1 res.cs.length f1))):=by
          rw [HRS.out];exact TY
         clear TY;clear nV;obtain ⟨⟨z0,z1,z2,z3⟩,zf⟩:=aQ;clear x3 p3 Pj;unfold plV;go_wp2_with fail;exact bodyPost_ret (v:=plV res (.slice C0 j0 f0) (.slice C1 res.cs.length f1)) (by simp [results,Tryz.results37,go_sem,z0,z1,z2,z3,plV]) rfl HF.out
theorem ydc {E D:Nat} (hE:E<=1000000) (hD:D<=17592186044000) (k:Nat):∀ n:Int,n<=k->qci E D n:=by
 induction k with
 | zero=>exact fun n hn=>jb2 hE hD n fun m h0 hm=>by omega
 | succ k ih=>exact fun n hn=>jb2 hE hD n fun m h0 hm=>ih m (by omega)
theorem xcb {w:World} {q:Nat->Prop} {E D:Nat} (l:List Pl) (A:Option Addr) (c:Nat) (hE:E<=1000000) (hD:D<=17592186044000) (hl:∀ p ∈ l,p.Can/\p.ex E) (hn:lnr l < B32 ^ D) (hlen:l.length<=1000000) (bZ:l.length<=c) (dO:c<=9223372036854775807) (h:jd w q l A 0) :
 Calls Tryz.prog 37 #[.slice A l.length c] w (uf (fun b=>w.heap.size<=b) (uy l) w):=
 ydc hE hD 5 5 (by omega) l A c w hl (fun p hp=>by have:=(hl p hp).1.qq.2; omega) hn hlen bZ dO (jd.xl (pj _) (fun _ _ h=>h) (fun b _ _=>⟨trivial,rfl⟩) l A 0 h)
theorem yco:(Tryz.prog.info? 3).map (fun i=>(i.zero,i.size,i.bytes))=some (some (.int .i64 0),1,8):=by kernel_rfl
theorem jc7 : jao 98 3 1 8 (.int .i64 0) where
 und:=Tryz.underlying98
 info:=yco
 cells:=rfl
 pos:=by omega
 nodig:=by
  intro u hu;simp only [Value.cells,pD] at hu;rw [hu]
  rfl
def xah (base:Nat) (W:World) (v:Value) (l:List Nat):Prop:=yl 3 1 base W v l.length (l.map fun n:Nat=>.int .i64 n)
theorem xah.nil (base:Nat) (W:World):xah base W (.slice none 0 0) []:=yl.nil _ _ _ _
theorem xah.len {base:Nat} {W:World} {v:Value} {l:List Nat} (h:xah base W v l):∃ A c,v=.slice A l.length c/\l.length<=c/\c<=9223372036854775807:=yl.len h
theorem xah.at_ {base:Nat} {W:World} {v:Value} {l:List Nat} (h:xah base W v l) (k:Nat) (hk:k < l.length):∃ g c,v=.slice (some ⟨g,0,none⟩) l.length c/\base<=g/\g < W.heap.size/\W.cell? ⟨g,k,none⟩=some (.int .i64 l[k]):=by
 obtain ⟨g,c,e,h1,h2,h3,h4,-⟩:=yl.pos h (by omega);unfold xah at h;rw [e] at h;refine ⟨g,c,e,h3,h4,?_⟩;rw [yl.cell h k (by omega),ue,po hk]
 rfl
theorem xah.push {base:Nat} {W:World} {ov:Value} {l:List Nat} (h:xah base W ov l) (dh:base<=W.heap.size) (n:Nat) (hlen:l.length+1<=1000000000) (ty:TypeId) :
 ∃ v4 w4,(Builtin.append_ #[98,98] ty #[ov,.slice (some ⟨W.heap.size,0,none⟩) 1 1]).run Tryz.prog (W.alloc (.cells #[.int .i64 n] 3))=.ok v4 w4/\W.grownBy w4 ov.ownBlock/\xah base w4 v4 (l ++ [n]):=by
 obtain ⟨v4,w4,h1,h2,h3,-,-⟩:=yl.push jc7 h dh [.int .i64 n] rfl (by
  intro u hu;rw [pD.1 hu]
  exact ⟨rfl,rfl⟩) (by omega) (by omega) ty
 refine ⟨v4,w4,h1,h3,?_⟩;unfold xah;rw [ra,ux];exact h2
def prs (cs:List Pl) (n:Nat):List Nat:=(List.range n).filter fun i=>match cs[i]? with
 | some c=>!c.zp
 | none=>false
theorem zbe (cs:List Pl) (k:Nat) (h:k < cs.length):prs cs (k+1)=prs cs k ++ if cs[k].zp then [] else [k]:=by
 unfold prs;rw [RB,uE]
 congr 1
 simp only [sB,po h,List.filter_nil];cases cs[k].zp <;> rfl
theorem kaz (cs:List Pl) (n:Nat):(prs cs n).length<=n:=by
 unfold prs;have:=uc (fun i=>match cs[i]? with | some c=>!c.zp | none=>false) (List.range n);rw [tt] at this;exact this
theorem gba {w:World} {q:Nat->Prop} (cs:List Pl) (A:Option Addr) (c:Nat) (h:jd w q cs A 0) (hlen:cs.length<=1000000):Calls Tryz.prog 67 #[.slice A cs.length c] w fun e w'=>∃ v,e=.returned v/\xah w.heap.size w' v (prs cs cs.length)/\Ext w w':=by
 have HH:=hid h;clear h;go_enter Tryz.func67,Tryz.ntmps67;go_wp2_with fail
 go_loopw [3,8] (fun rv iv wr=>∃ k:Nat,k<=cs.length/\iv=.int .i64 k/\Hid (xah w.heap.size wr rv (prs cs k)/\Ext w wr)) (fun _ iv _=>cs.length - (intOf iv).toNat)
 case atStart=>exact ⟨0,pS _,rfl,⟨by simpa [prs] using xah.nil _ _,Ext.refl w⟩⟩
 case round =>
  obtain ⟨k,hk,rfl,⟨hr,hx⟩⟩:=hrel;have HR:=hid hr;have HX:=hid hx;have oz:=hx.size;obtain ⟨RA,rc,rfl,bZ,dO⟩:=hr.len;have jH:=kaz cs k;clear hr hx
  by_cases af:k < cs.length
  · obtain ⟨ad,C0,j0,g0,C1,j1,g1,rfl,ah,bP,bC⟩:=jd.ym HH.out k af;obtain ⟨a0,a1,a2,a3⟩:=bP.ext HX.out (by rw [ja]; exact ah);have dS:=hid (zbe cs k af);obtain ⟨U,hU⟩:=n_m (wr.alloc (.cells #[.int .i64 cs[k].lv,.bool cs[k].neg,.slice C0 j0 g0,.slice C1 j1 g1] 33));have kZ:Ext wr U:=by rw [<- hU]; exact (Ext.refl _).alloc _
    obtain ⟨u0,u1,u2,u3⟩:jb U wr.heap.size cs[k] (.slice C0 j0 g0) (.slice C1 j1 g1):=by rw [<- hU]; exact jb.new wr cs[k] _ _ _
    have fZ:=hid (jae _ _ (bC.ext (HX.out.trans kZ)));have XU:=hid (HX.out.trans kZ);have MV:=hid (HR.out.ext kZ);unfold plV at fZ;clear bP bC ah kZ HR;generalize cs[k].zp=bz at *;generalize cs[k]=p at *;go_wp2_with fail;clear hU u0 u1 u2 u3 a0 a1 a2 a3;refine fZ.out.mono ?_;rintro e w2 ⟨rfl,x2⟩;have X2:=hid (XU.out.trans x2);have zZ:=hid (yl.ext MV.out x2);clear x2 fZ MV;cases bz
    · obtain ⟨v4,w4,ak,hg,GV⟩:=xah.push zZ.out X2.out.size k (by omega) 98;obtain ⟨TB,Td,rfl,-,-⟩:=GV.len;have HN:Hid (xah w.heap.size w4 (.slice TB ((prs cs k).length+1) Td) (prs cs (k+1))):=hid (by
       rw [dS.out];rw [ra] at GV
       exact GV)
      have IV:=hid (gax X2.out hg (fun R hR=>(yl.own zZ.out hR).1));have tN:=hid ak;clear ak hg GV;go_upto_region 6 with fail
      iterate 12 (first | at_builtin | go_values | go_skip | go_guarded | go_step | go_upon | go_back | go_simp)
      refine wpList_append_run rfl (.tmp 16) (.tmp 18) _ _ rfl _ _ _ _ rfl rfl tN.out ?_;clear tN
      iterate 18 (first | go_values | go_skip | go_guarded | go_step | go_upon | go_back | go_simp)
      exact ⟨⟨k+1,by omega,by omega,⟨HN.out,IV.out⟩⟩,by simp [intOf]; omega⟩
    · have HN:Hid (xah w.heap.size w2 (.slice RA (prs cs k).length rc) (prs cs (k+1))):=hid (by rw [dS.out,if_pos rfl,si]; exact zZ.out);go_wp2_with fail
      go_roundw
      case rel=>exact ⟨k+1,by omega,by go_num,⟨HN.out,X2.out⟩⟩
      case measure=>simp [intOf]; omega
  · have df:k=cs.length:=by omega
    subst df;go_wp2_with fail;go_ret;exact ⟨_,rfl,HR.out,HX.out⟩
end Go.Proofs.YtcepajijiabkmaaGreat
