/- Layer 22: recpoly.add. -/
import Derived.Test.YtcepajijiabkmaaGreatMq15
set_option linter.unusedSimpArgs false
set_option linter.unusedVariables false
set_option maxRecDepth 100000
set_option maxHeartbeats 8000000
namespace Go.Proofs.YtcepajijiabkmaaGreat
open Lib (hid)
open Go.RowKit
def ycf (E D:Nat) (n:Int):Prop:=∀ (l:List Pl) (A:Option Addr) (c:Nat) (w:World),(∀ p ∈ l,p.Can/\p.ex E)->(∀ p ∈ l,p.lv < n)->lnr l < B32 ^ D->l.length<=1000000->l.length<=c->c<=9223372036854775807->jd w (fun _=>True) l A 0 ->
 Calls Tryz.prog 37 #[.slice A l.length c] w (zg (fun b=>w.heap.size<=b) (xy l) w)
theorem xaw {V W w4:World} {ov:Value} (hx:Ext V W) (hg:W.grownBy w4 ov.ownBlock) (ho:∀ R,ov.ownBlock=some R->V.heap.size<=R):Ext V w4:=
 Below.grown hx hg hx.size ho
theorem gby {E D:Nat} (hE:E<=1000000) (hD:D<=17592186044000) (n:Int) (ih:∀ m,0 < m->m < n->ycf E D m):ycf E D n:=by
 intro l A c w hl dJ Ik hlen bZ dw aK;have mP:∀ p ∈ l,0<=p.lv/\p.lv<=4/\p.cs.length<=E+1/\(0 < p.lv->2<=p.cs.length):=fun p hp=>by
  obtain ⟨h1,h2⟩:=hl p hp;refine ⟨h1.lv_nonneg.1,h1.lv_nonneg.2,?_,fun h0=>?_⟩
  · obtain ⟨lv,ng,ds,cs⟩:=p;rw [Pl.ex] at h2;rcases h2 with h2 | h2
    · unfold Pl.Can at h1;rcases h1 with h | h
      · simp [Pl.cs,h.2.1]
      · omega
    · exact h2.1
  · obtain ⟨lv,ng,ds,cs⟩:=p;exact (h1.kids h0).2.2.1
 obtain ⟨NI,NJ⟩:=ucf l (E+1) mP;have lJ:=hid aK;have HL:=hid hl;have CQ:=hid dJ;have HNR:=hid Ik;have IH:=hid ih;have U1:=hid NI;have JG:=hid NJ;have ZF:=hid (vcy l);obtain ⟨W,hW⟩:=n_m (w.alloc (.cells #[.int .i64 0,.bool false,.slice none 0 0,.slice none 0 0] 33));have ag:Ext w W:=by rw [<- hW]; exact (Ext.refl w).alloc _
 have bY:W.heap.size=w.heap.size+1:=by rw [<- hW]; simp
 have hz:uf W w.heap.size:=by rw [<- hW]; exact uf.new w _
 have aB:=hid ag;have HZ:=hid hz;clear aK hl dJ Ik ih NI NJ ag hz mP;go_enter Tryz.func37,Tryz.ntmps37;go_wp2_with fail;clear hW
 go_loopw [3,4,17] (fun av bv iv wr=>∃ k:Nat,k<=l.length/\iv=.int .i64 k/\av=.int .i64 (kae (l.take k)).1/\bv=.int .i64 (kae (l.take k)).2/\Hid (Ext W wr)) (fun _ _ iv _=>l.length - (intOf iv).toNat)
 case atStart=>exact ⟨0,Nat.zero_le _,rfl,by simp [kae],by simp [kae],Ext.refl W⟩
 case round =>
  obtain ⟨k,hk,rfl,rfl,rfl,aF⟩:=hrel;have hx:Ext W wr:=aF.out;have HX:=hid hx;have lK:=hx.size;clear aF hx
  by_cases af:k < l.length
  · obtain ⟨ad,C0,j0,g0,C1,j1,g1,rfl,ah,bF,aV⟩:=jd.kid lJ.out k af;obtain ⟨a0,a1,a2,a3⟩:=bF.ext (aB.out.trans HX.out) (by rw [ja]; exact ah);have Pj:j1=l[k].cs.length:=by
     obtain ⟨A1,n1,c1',A2,c2,e,-⟩:=aV.open_;unfold plV at e;simp only [Value.agg.injEq,Array.mk.injEq,List.cons.injEq,and_true,true_and,Value.slice.injEq] at e;exact e.2.2.1
    subst Pj;have dP:=hid (vcf l k af);obtain ⟨U,hU⟩:=n_m (wr.alloc (.cells #[.int .i64 l[k].lv,.bool l[k].neg,.slice C0 j0 g0,.slice C1 l[k].cs.length g1] 33));have jF:Ext wr U:=by rw [<- hU]; exact (Ext.refl _).alloc _
    obtain ⟨u0,u1,u2,u3⟩:jc U wr.heap.size l[k] (.slice C0 j0 g0) (.slice C1 l[k].cs.length g1):=by rw [<- hU]; exact jc.new wr l[k] _ _ _
    have XU:=hid (HX.out.trans jF);clear bF aV ah jF;obtain ⟨ta,tb,ht⟩:∃ ta tb,kae (l.take k)=(ta,tb):=⟨_,_,rfl⟩;rw [ht] at dP ⊢;clear ht;simp only at dP ⊢;generalize l[k]=p at *;rcases Int.lt_trichotomy ta p.lv with h | h | h
    · have aW:=hid (dP.out.trans (xbq h));have iw:max (0:Int) (p.cs.length:Int)=(p.cs.length:Int):=by omega
      go_wp2_with fail
      go_roundw
      case rel=>exact ⟨k+1,by omega,by go_num,by rw [aW.out],by rw [aW.out],XU⟩
      case measure=>simp [intOf]; omega
    · have aW:=hid (dP.out.trans (qbq (a:=(ta,tb)) h.symm));have lM:¬ ta < p.lv:=by omega
      have heq:(p.lv == ta)=true:=by simp [h]
      have CO:Hid (max (tb:Int) (p.cs.length:Int)=((max tb p.cs.length:Nat):Int)):=hid (by omega);clear h;go_wp2_with fail
      go_roundw
      case rel=>exact ⟨k+1,by omega,by go_num,by rw [aW.out],by rw [aW.out]; simp only; rw [CO.out],XU⟩
      case measure=>simp [intOf]; omega
    · have aW:=hid (dP.out.trans (ybq (a:=(ta,tb)) h));have lM:¬ ta < p.lv:=by omega
      have heq:(p.lv == ta)=false:=by simp; omega
      go_wp2_with fail
      go_roundw
      case rel=>exact ⟨k+1,by omega,by go_num,by rw [aW.out],by rw [aW.out],XU⟩
      case measure=>simp [intOf]; omega
  · have bV:k=l.length:=by omega
    rw [bV,List.take_length];obtain ⟨lv,sz,NI⟩:∃ lv sz,kae l=(lv,sz):=⟨_,_,rfl⟩;rw [NI] at U1 JG ZF ⊢;simp only at U1 JG ZF ⊢;obtain ⟨t1,t2,t3,t4⟩:=U1.out;have CB:=hid (aB.out.trans HX.out);have mV:=hid (HZ.out.ext HX.out (by omega));have kH:w.heap.size < wr.heap.size:=by omega
    clear bV NI af hk HX aB HZ lK bY U1;obtain ⟨w1,rfl⟩:∃ w1,w1=wr:=⟨wr,rfl⟩
    by_cases h0:lv=0
    · have JW:Hid (∀ p ∈ l,p.Can/\p.lv=0):=hid (fun p hp=>⟨(HL.out p hp).1,by have h1:=(JG.out p hp).1; have h2:=(HL.out p hp).1.lv_nonneg.1; omega⟩);have Xb:(lv == 0)=true:=by simp [h0]
      have Tv:=hid (xcn JW.out);have Oz:inr (l.map Pl.z) < B32 ^ D:=by rw [yc8 JW.out]; exact HNR.out
      have GG:=hid Oz;obtain ⟨V,dB,fD,AV,ae⟩:=jbs (l.length:Int) (by omega) (by omega) w1;rw [Int.toNat_natCast] at dB ae;have aS:=hid ae;have kQ:=hid fD;subst h0;clear ae fD Oz;go_wp2_with fail;clear dB
      go_loopw [44] (fun iv wx=>∃ k:Nat,k<=l.length/\iv=.int .i64 k/\Hid ((∃ L:List Int,L.length=l.length/\L.take k=(l.map Pl.z).take k/\qax wx w1.heap.size L)/\Ext w1 wx)) (fun iv _=>l.length - (intOf iv).toNat)
      case atStart=>exact ⟨0,Nat.zero_le _,rfl,⟨⟨_,List.length_replicate,by simp,aS.out⟩,kQ.out⟩⟩
      case round =>
       obtain ⟨k,hk,rfl,⟨⟨L,rE,AY,ae⟩,hx⟩⟩:=hrel;have HX:=hid hx;have aC:=hid ae;have kR:=hid AY;have oN:w1.heap.size < wr.heap.size:=ae.1;clear hx ae AY kQ aS
       by_cases af:k < l.length
       · obtain ⟨ad,C0,j0,g0,C1,j1,g1,rfl,ah,bF,aV⟩:=jd.kid lJ.out k af;obtain ⟨a0,a1,a2,a3⟩:=bF.ext (CB.out.trans HX.out) (by rw [ja]; exact ah);have dE:=JW.out l[k] (List.getElem_mem af);have qK:=jan dE.1 dE.2;have pY:l[k].neg=decide (l[k].z < 0):=congrArg Pl.neg qK;have xC:l[k].ds=dg l[k].z.natAbs:=congrArg Pl.ds qK;have ak:jb wr (.slice C0 j0 g0) (dg l[k].z.natAbs):=by
          obtain ⟨A1,n1,c1',A2,c2,e,hn,-⟩:=aV.open_;unfold plV at e;simp only [Value.agg.injEq,Array.mk.injEq,List.cons.injEq,and_true,true_and] at e;rw [e.1,<- xC];exact hn.ext (CB.out.trans HX.out)
         have dI:Hid ((L.set k l[k].z).take (k+1)=(l.map Pl.z).take (k+1)):=by
          have h1:=vaf L (l.map Pl.z) k kR.out (by omega) (by rw [List.length_map]; exact af);rw [List.getElem_map] at h1;exact h1
         obtain ⟨U,hU⟩:=n_m (wr.alloc (.cells #[.int .i64 l[k].lv,.bool (decide (l[k].z < 0)),.slice C0 j0 g0,.slice C1 j1 g1] 33));have jF:Ext wr U:=by rw [<- hU]; exact (Ext.refl _).alloc _
         have u1:U.cell? ⟨wr.heap.size,1,none⟩=some (.bool (decide (l[k].z < 0))):=by rw [<- hU]; simp [go_sem]
         have u2:U.cell? ⟨wr.heap.size,2,none⟩=some (.slice C0 j0 g0):=by rw [<- hU]; simp [go_sem]
         have sD:=aC.out.ext jF;have dP:=hid (sD.set_ k (by omega) l[k].z (ak.ext jF));have XU:=hid (HX.out.trans jF);obtain ⟨D0,n2,d2,r0,r1,-⟩:=sD.2.2 k (by omega);have bu:=sD.2.1;rw [pY] at a1;clear bF aV ah dE qK pY xC ak sD jF kR aC;generalize l[k].z=z at *;generalize l[k]=p at *;go_wp2_with fail
         go_roundw
         case rel=>exact ⟨k+1,by omega,by go_num,⟨_,by rw [List.length_set]; exact rE,dI.out,dP.out⟩,(XU.out.setCell (Nat.le_refl _) _).setCell (Nat.le_refl _) _⟩
         case measure=>simp [intOf]; omega
       · have bV:k=l.length:=by omega
         have oZ:L=l.map Pl.z:=by
          have h:=kR.out;rw [bV,show l.length=(l.map Pl.z).length by rw [List.length_map],List.take_length,List.length_map,<- rE,List.take_length] at h;exact h
         have aQ:=aC.out.fin l.length (by omega) (by omega);rw [oZ,List.length_map] at aQ;have vT:=hid (gcy aQ GG.out hD);have Cj:=hid (mV.out.ext HX.out kH);clear aQ aC kR oZ bV;go_wp2_with fail;refine vT.out.mono ?_;rintro e w2 ⟨z2,rfl,⟨y2,rfl,m2⟩,x2⟩;obtain ⟨C2,k2,rfl,-⟩:=id m2;have aX:=Cj.out.ext x2 (by omega);have HF:Hid (zg (fun b=>w.heap.size<=b) (xy l) w (.returned (plV (Pl.const (uy (l.map Pl.z))) (.slice C2 (dg (uy (l.map Pl.z)).natAbs).length k2) (.slice none 0 0))) ((((w2.setCell ⟨w.heap.size,0,none⟩ (.int .i64 0)).setCell ⟨w.heap.size,1,none⟩ (.bool (decide (uy (l.map Pl.z) < 0)))).setCell ⟨w.heap.size,2,none⟩ (.slice C2 (dg (uy (l.map Pl.z)).natAbs).length k2)).setCell ⟨w.heap.size,3,none⟩ (.slice none 0 0))):=by
          rw [Tv.out];exact jg (p:=Pl.const (uy (l.map Pl.z))) (q:=fun _=>False) ((CB.out.trans HX.out).trans x2) (Nat.le_refl _) aX (PlV.mk (t:=Pl.const (uy (l.map Pl.z))) (A:=none) (c:=0) m2 (Nat.le_refl _) (by omega) (by unfold Pl.const Pl.cs jd; trivial)) (fun b _ h=>h.elim)
         obtain ⟨⟨z0,z1,z2',z3⟩,zf⟩:=aX;clear x2 m2 vT;generalize uy (l.map Pl.z)=S at *;go_wp2_with fail;exact bodyPost_ret (v:=plV (Pl.const S) (.slice C2 (dg S.natAbs).length k2) (.slice none 0 0)) (by simp [results,Tryz.results37,go_sem,z0,z1,z2',z3,plV,Pl.const,Pl.lv,Pl.neg]) rfl HF.out
    · have Xb:(lv == 0)=false:=by simp [h0]
      have dh:0 < lv:=by omega
      have OQ:lv < n:=by
       obtain ⟨p,hp,e⟩:=ZF.out dh;have:=CQ.out p hp;omega
      have rX:1<=sz:=by have:=t4 dh; omega
      have zB:=hid (uce dh t2 rX HL.out JG.out);obtain ⟨V,dB,fD,AV,ae⟩:=qab (sz:Int) (by omega) (by omega) w1;rw [Int.toNat_natCast] at dB ae;have aS:=hid (ae (fun i=>w1.heap.size<=i));have kQ:=hid fD;have HH:=hid h0;have tV:=hid OQ;have Qw:jd w (fun b=>b < w.heap.size) l A 0:=jd.turn (Nat.le_refl _) (fun _ _ h=>h) (fun b hb _=>⟨hb,rfl⟩) l A 0 lJ.out;have aaw:=hid Qw;clear ae fD h0 OQ Qw;go_wp2_with fail;clear dB
      go_loopw [62] (fun iv wx=>∃ i:Nat,i<=sz/\iv=.int .i64 i/\Hid ((∃ L:List Pl,L.length=sz/\L.take i=((List.range sz).map fun i=>xy (jl lv i l)).take i/\zi wx (fun b=>w1.heap.size<=b) w1.heap.size L)/\Ext w1 wx)) (fun iv _=>sz - (intOf iv).toNat)
      case atStart=>exact ⟨0,Nat.zero_le _,rfl,⟨⟨_,List.length_replicate,by simp,aS.out⟩,kQ.out⟩⟩
      case round =>
       obtain ⟨i,hi,rfl,⟨⟨L,rE,AY,ae⟩,hx⟩⟩:=hrel;have HX:=hid hx;have aC:=hid ae;have kR:=hid AY;have oN:w1.heap.size < wr.heap.size:=ae.1;clear hx ae AY kQ aS;obtain ⟨w2,rfl⟩:∃ w2,w2=wr:=⟨wr,rfl⟩
       by_cases af:i < sz
       · have Gi:=hid (CB.out.trans HX.out);have aeN:w.heap.size<=w2.heap.size:=Gi.out.size;go_wp2_with fail
         go_loopw [12,67] (fun pv kv wx=>∃ k:Nat,k<=l.length/\kv=.int .i64 k/\Hid (yh w2.heap.size (fun b=>b < w2.heap.size) wx pv (jl lv i (l.take k))/\Ext w2 wx)) (fun _ kv _=>l.length - (intOf kv).toNat)
         case atStart=>exact ⟨0,Nat.zero_le _,rfl,⟨by simpa [jl] using yh.nil _ _ _,Ext.refl _⟩⟩
         case round =>
          obtain ⟨k,hk,rfl,⟨hq,hx⟩⟩:=hrel;have HQ:=hid hq;have Cm:=hid hx;have aeM:=hx.size;obtain ⟨PA,pc,rfl,pR,zZ⟩:=hq.len;have jV:=wbf lv i (l.take k);rw [List.length_take] at jV;clear hx hq
          by_cases Dv:k < l.length
          · obtain ⟨ad,C0,j0,g0,C1,j1,g1,rfl,ah,bF,aV⟩:=jd.kid aaw.out k Dv;have bC:=Gi.out.trans Cm.out;obtain ⟨a0,a1,a2,a3⟩:=bF.ext bC (by rw [ja]; exact ah);have Pj:j1=l[k].cs.length:=by
             obtain ⟨A1,n1,c1',A2,c2,e,-⟩:=aV.open_;unfold plV at e;simp only [Value.agg.injEq,Array.mk.injEq,List.cons.injEq,and_true,true_and,Value.slice.injEq] at e;exact e.2.2.1
            subst Pj;have vP:=hid (vb2 lv i l k Dv);have afd:=(JG.out l[k] (List.getElem_mem Dv)).1;obtain ⟨U,hU⟩:=n_m (wr.alloc (.cells #[.int .i64 l[k].lv,.bool l[k].neg,.slice C0 j0 g0,.slice C1 l[k].cs.length g1] 33));have jF:Ext wr U:=by rw [<- hU]; exact (Ext.refl _).alloc _
            obtain ⟨u0,u1,u2,u3⟩:jc U wr.heap.size l[k] (.slice C0 j0 g0) (.slice C1 l[k].cs.length g1):=by rw [<- hU]; exact jc.new wr l[k] _ _ _
            have XU:=hid (Cm.out.trans jF);have MK:=hid (aV.ext (bC.trans jF));have JP:=hid (HQ.out.ext jF);have Uw:=jF.size;have gJ:Hid (∀ (x:Pl) (E0 E1:Option Addr) (q0 r0 q1 r1:Nat),PlV U (fun b=>b < w.heap.size) x (plV x (.slice E0 q0 r0) (.slice E1 q1 r1))->partsOf lv i l[k]=[x]->∃ v4 w4,(Builtin.append_ #[31,31] 31 #[.slice PA (jl lv i (l.take k)).length pc,.slice (some ⟨U.heap.size,0,none⟩) 1 1]).run Tryz.prog (U.alloc (.cells #[.int .i64 x.lv,.bool x.neg,.slice E0 q0 r0,.slice E1 q1 r1] 33))=.ok v4 w4/\yh w2.heap.size (fun b=>b < w2.heap.size) w4 v4 (jl lv i (l.take (k+1)))/\Ext w2 w4):=by
             refine hid ?_;intro x E0 E1 q0 r0 q1 r1 pF ou;obtain ⟨v4,w4,ax,g4,n4,r4,o4⟩:=JP.out.push (by have:=XU.out.size; omega) (pF.mono fun b hb=>⟨fun e=>by have:=(JP.out.own e).1; omega,by omega⟩) (by omega) 31;exact ⟨v4,w4,ax,by rw [vP.out,ou]; exact r4,xaw XU.out g4 (fun R hR=>(JP.out.own hR).1)⟩
            clear bF jF HQ
            by_cases he:l[k].lv=lv
            · have heq:(l[k].lv == lv)=true:=by simp [he]
              by_cases hic:i < l[k].cs.length
              · have ou:partsOf lv i l[k]=[l[k].cs[i]]:=by unfold partsOf; rw [if_pos he,List.getElem?_eq_getElem hic]; rfl
                obtain ⟨A1,n1,c1',A2,c2,e,-,-,-,iR⟩:=MK.out.open_;unfold plV at e;simp only [Value.agg.injEq,Array.mk.injEq,List.cons.injEq,and_true,true_and,Value.slice.injEq] at e;obtain ⟨-,rfl,rfl⟩:=e;obtain ⟨Zt,D0,i0,Be,D1,i1,iI,rfl,FM,WX,O6⟩:=jd.kid iR i hic;obtain ⟨v0,v1,v2,v3⟩:=WX;obtain ⟨v4,w4,ax,r4,x4⟩:=gJ.out _ _ _ _ _ _ _ O6 ou;obtain ⟨TB,Td,rfl,-,-⟩:=r4.len;have HN:=hid r4;have Gh:=hid x4;have qY:=hid ax;clear ou iR O6 r4 x4 gJ aV he ax;generalize l[k].cs[i]=pk at *;generalize l[k]=p at *;go_upto_region 27 with fail
                iterate 30 (first | at_builtin | go_values | go_skip | go_guarded | go_step | go_upon | go_back | go_simp)
                refine wpList_append_run rfl (.tmp 83) (.tmp 89) _ _ rfl _ _ _ _ rfl rfl qY.out ?_;clear qY vP JP MK hU
                iterate 18 (first | go_values | go_skip | go_guarded | go_step | go_upon | go_back | go_simp)
                exact ⟨⟨k+1,by omega,by omega,⟨HN.out,Gh.out⟩⟩,by simp [intOf]; omega⟩
              · have ou:partsOf lv i l[k]=[]:=by unfold partsOf; rw [if_pos he,List.getElem?_eq_none (by omega)]; rfl
                have HN:Hid (yh w2.heap.size (fun b=>b < w2.heap.size) U (.slice PA (jl lv i (l.take k)).length pc) (jl lv i (l.take (k+1)))):=hid (by rw [vP.out,ou,List.append_nil]; exact JP.out);have lM:¬ l[k].lv < lv:=by omega
                clear ou gJ aV he;generalize l[k]=p at *;go_wp2_with fail
                go_roundw
                case rel=>exact ⟨k+1,by omega,by go_num,⟨HN.out,XU.out⟩⟩
                case measure=>simp [intOf]; omega
            · have heq:(l[k].lv == lv)=false:=by simp [he]
              have lM:l[k].lv < lv:=by omega
              by_cases Pq:i=0
              · have ou:partsOf lv i l[k]=[l[k]]:=by unfold partsOf; rw [if_neg he,if_pos ⟨lM,Pq⟩]
                obtain ⟨v4,w4,ax,r4,x4⟩:=gJ.out _ _ _ _ _ _ _ MK.out ou;obtain ⟨TB,Td,rfl,-,-⟩:=r4.len;have HN:=hid r4;have Gh:=hid x4;have qY:=hid ax;have Xu:((i:Int) == 0)=true:=by simp [Pq]
                clear ou r4 x4 gJ aV he ax Pq;generalize l[k]=p at *;go_upto_region 29 with fail
                iterate 30 (first | at_builtin | go_values | go_skip | go_guarded | go_step | go_upon | go_back | go_simp)
                refine wpList_append_run rfl (.tmp 100) (.tmp 102) _ _ rfl _ _ _ _ rfl rfl qY.out ?_;clear qY vP JP MK hU
                iterate 18 (first | go_values | go_skip | go_guarded | go_step | go_upon | go_back | go_simp)
                exact ⟨⟨k+1,by omega,by omega,⟨HN.out,Gh.out⟩⟩,by simp [intOf]; omega⟩
              · have ou:partsOf lv i l[k]=[]:=by unfold partsOf; rw [if_neg he,if_neg (by omega)]
                have HN:Hid (yh w2.heap.size (fun b=>b < w2.heap.size) U (.slice PA (jl lv i (l.take k)).length pc) (jl lv i (l.take (k+1)))):=hid (by rw [vP.out,ou,List.append_nil]; exact JP.out);have Xu:((i:Int) == 0)=false:=by simp [Pq]
                clear ou gJ aV he;generalize l[k]=p at *;go_wp2_with fail
                go_roundw
                case rel=>exact ⟨k+1,by omega,by go_num,⟨HN.out,XU.out⟩⟩
                case measure=>simp [intOf]; omega
          · have bV:k=l.length:=by omega
            have yJ:=HQ.out;rw [bV,List.take_length] at yJ pR;have AQ:jd wr (fun _=>True) (jl lv i l) PA 0:=jd.turn (Nat.le_refl _) (fun _ _ h=>h) (fun b _ _=>⟨trivial,rfl⟩) _ _ _ yJ.at_;have HC:=hid (IH.out lv dh tV.out (jl lv i l) PA pc wr (fun p hp=>⟨(yam dh HL.out hp).1,(yam dh HL.out hp).2.2⟩) (fun p hp=>(yam dh HL.out hp).2.1) (Nat.lt_of_le_of_lt (kcj dh HL.out) HNR.out) (by have:=wbf lv i l; omega) pR zZ AQ);rw [bV,List.take_length];have dI:Hid ((L.set i (xy (jl lv i l))).take (i+1)=((List.range sz).map fun i=>xy (jl lv i l)).take (i+1)):=by
             have h1:=vaf L ((List.range sz).map fun i=>xy (jl lv i l)) i kR.out (by omega) (by rw [List.length_map,List.length_range]; exact af);rw [List.getElem_map,List.getElem_range] at h1;exact h1
            have abB:¬ (l.length:Int) < (l.length:Int):=by omega
            have MC:=hid (aC.out.ext Cm.out);clear yJ AQ bV Dv pR jV HQ aC kR hk;generalize (jl lv i l).length=pn at *;generalize xy (jl lv i l)=res at *;go_wp2_with fail;refine HC.out.mono ?_;rintro e w3 ⟨v3,rfl,p3,x3⟩;obtain ⟨C0,j0,f0,C1,f1,rfl,-⟩:=id p3.open_;have wU:=MC.out.ext x3;obtain ⟨D0,n2,g0,D1,n3,g1,⟨r0,r1,r2,r3⟩,-⟩:=wU.2.2 i (by omega);have bu:=wU.2.1;have dF:=(wU.set_ i (by omega) res (p3.mono fun b hb=>by
             have dX:wr.heap.size<=b:=hb
             exact ⟨by omega,by omega⟩)).1
            simp only at r0 r1 r2 r3;have dP:=hid dF;have X3:=hid ((HX.out.trans Cm.out).trans x3);unfold plV;clear wU dF p3 x3 HC MC;go_wp2_with fail
            go_roundw
            case rel=>exact ⟨i+1,by omega,by go_num,⟨_,by rw [List.length_set]; exact rE,dI.out,dP.out⟩,(((X3.out.setCell (Nat.le_refl _) _).setCell (Nat.le_refl _) _).setCell (Nat.le_refl _) _).setCell (Nat.le_refl _) _⟩
            case measure=>simp [intOf]; omega
       · have Fg:i=sz:=by omega
         have oZ:L=(List.range sz).map fun i=>xy (jl lv i l):=by
          have h:=kR.out;rw [Fg,List.take_of_length_le (by omega),List.take_of_length_le (by simp)] at h;exact h
         have aQ:=aC.out.fin (Nat.le_refl _);have Hz:=vbl lv L _ sz aQ (by omega) (by omega);rw [rE,oZ,<- zB.out] at Hz;have Md:=hid Hz;have hz4:=mV.out.ext HX.out kH;have HZ4:=hid hz4;have VT:=HX.out.size;clear aQ Hz Fg oZ aC kR hz4;obtain ⟨res,kJ⟩:=n_m (xy l);rw [kJ] at Md;have HRS:=hid kJ;clear kJ;go_wp2_with fail;refine Md.out.mono ?_;rintro e w3 ⟨v3,rfl,p3,x3⟩;obtain ⟨C0,j0,f0,C1,f1,rfl,-⟩:=id p3.open_;have aX:=HZ4.out.ext x3 (by omega);have mP:=jg (q':=fun b=>w.heap.size<=b) ((CB.out.trans HX.out).trans x3) (Nat.le_refl _) aX p3 (fun b _ hb=>⟨by omega,by omega⟩);have Qh:=mP;have HF:Hid (zg (fun b=>w.heap.size<=b) (xy l) w (.returned (plV res (.slice C0 j0 f0) (.slice C1 res.cs.length f1))) ((((w3.setCell ⟨w.heap.size,0,none⟩ (.int .i64 res.lv)).setCell ⟨w.heap.size,1,none⟩ (.bool res.neg)).setCell ⟨w.heap.size,2,none⟩ (.slice C0 j0 f0)).setCell ⟨w.heap.size,3,none⟩ (.slice C1 res.cs.length f1))):=by
          rw [HRS.out];exact Qh
         clear Qh;clear mP;obtain ⟨⟨z0,z1,z2,z3⟩,zf⟩:=aX;clear x3 p3 Md;unfold plV;go_wp2_with fail;exact bodyPost_ret (v:=plV res (.slice C0 j0 f0) (.slice C1 res.cs.length f1)) (by simp [results,Tryz.results37,go_sem,z0,z1,z2,z3,plV]) rfl HF.out
theorem wc6 {E D:Nat} (hE:E<=1000000) (hD:D<=17592186044000) (k:Nat):∀ n:Int,n<=k->ycf E D n:=by
 induction k with
 | zero=>exact fun n hn=>gby hE hD n fun m h0 hm=>by omega
 | succ k ih=>exact fun n hn=>gby hE hD n fun m h0 hm=>ih m (by omega)
theorem yb8 {w:World} {q:Nat->Prop} {E D:Nat} (l:List Pl) (A:Option Addr) (c:Nat) (hE:E<=1000000) (hD:D<=17592186044000) (hl:∀ p ∈ l,p.Can/\p.ex E) (hn:lnr l < B32 ^ D) (hlen:l.length<=1000000) (bZ:l.length<=c) (dw:c<=9223372036854775807) (h:jd w q l A 0) :
 Calls Tryz.prog 37 #[.slice A l.length c] w (zg (fun b=>w.heap.size<=b) (xy l) w):=
 wc6 hE hD 5 5 (by omega) l A c w hl (fun p hp=>by have:=(hl p hp).1.lv_nonneg.2; omega) hn hlen bZ dw (jd.turn (Nat.le_refl _) (fun _ _ h=>h) (fun b _ _=>⟨trivial,rfl⟩) l A 0 h)
theorem uck:(Tryz.prog.info? 3).map (fun i=>(i.zero,i.size,i.bytes))=some (some (.int .i64 0),1,8):=by kernel_rfl
theorem wc1 : xap 98 3 1 8 (.int .i64 0) where
 und:=Tryz.underlying98
 info:=uck
 cells:=rfl
 pos:=by omega
 nodig:=by
  intro u hu;simp only [Value.cells,List.mem_singleton] at hu;rw [hu]
  rfl
def kaf (base:Nat) (W:World) (v:Value) (l:List Nat):Prop:=jm 3 1 base W v l.length (l.map fun n:Nat=>.int .i64 n)
theorem kaf.nil (base:Nat) (W:World):kaf base W (.slice none 0 0) []:=jm.nil _ _ _ _
theorem kaf.len {base:Nat} {W:World} {v:Value} {l:List Nat} (h:kaf base W v l):∃ A c,v=.slice A l.length c/\l.length<=c/\c<=9223372036854775807:=jm.len h
theorem kaf.at_ {base:Nat} {W:World} {v:Value} {l:List Nat} (h:kaf base W v l) (k:Nat) (hk:k < l.length):∃ g c,v=.slice (some ⟨g,0,none⟩) l.length c/\base<=g/\g < W.heap.size/\W.cell? ⟨g,k,none⟩=some (.int .i64 l[k]):=by
 obtain ⟨g,c,e,h1,h2,h3,h4,-⟩:=jm.pos h (by omega);unfold kaf at h;rw [e] at h;refine ⟨g,c,e,h3,h4,?_⟩;rw [jm.cell h k (by omega),List.getElem?_map,List.getElem?_eq_getElem hk]
 rfl
theorem kaf.push {base:Nat} {W:World} {ov:Value} {l:List Nat} (h:kaf base W ov l) (dU:base<=W.heap.size) (n:Nat) (hlen:l.length+1<=1000000000) (ty:TypeId) :
 ∃ v4 w4,(Builtin.append_ #[98,98] ty #[ov,.slice (some ⟨W.heap.size,0,none⟩) 1 1]).run Tryz.prog (W.alloc (.cells #[.int .i64 n] 3))=.ok v4 w4/\W.grownBy w4 ov.ownBlock/\kaf base w4 v4 (l ++ [n]):=by
 obtain ⟨v4,w4,h1,h2,h3,-,-⟩:=jm.push wc1 h dU [.int .i64 n] rfl (by
  intro u hu;rw [List.mem_singleton.1 hu]
  exact ⟨rfl,rfl⟩) (by omega) (by omega) ty
 refine ⟨v4,w4,h1,h3,?_⟩;unfold kaf;rw [List.length_append,List.map_append];exact h2
def prs (cs:List Pl) (n:Nat):List Nat:=(List.range n).filter fun i=>match cs[i]? with
 | some c=>!c.isZ
 | none=>false
theorem xbc (cs:List Pl) (k:Nat) (h:k < cs.length):prs cs (k+1)=prs cs k ++ if cs[k].isZ then [] else [k]:=by
 unfold prs;rw [List.range_succ,List.filter_append]
 congr 1
 simp only [List.filter_cons,List.getElem?_eq_getElem h,List.filter_nil];cases cs[k].isZ <;> rfl
theorem uax (cs:List Pl) (n:Nat):(prs cs n).length<=n:=by
 unfold prs;have:=List.length_filter_le (fun i=>match cs[i]? with | some c=>!c.isZ | none=>false) (List.range n);rw [List.length_range] at this;exact this
theorem za9 {w:World} {q:Nat->Prop} (cs:List Pl) (A:Option Addr) (c:Nat) (h:jd w q cs A 0) (hlen:cs.length<=1000000):Calls Tryz.prog 67 #[.slice A cs.length c] w fun e w'=>∃ v,e=.returned v/\kaf w.heap.size w' v (prs cs cs.length)/\Ext w w':=by
 have HH:=hid h;clear h;go_enter Tryz.func67,Tryz.ntmps67;go_wp2_with fail
 go_loopw [3,8] (fun rv iv wr=>∃ k:Nat,k<=cs.length/\iv=.int .i64 k/\Hid (kaf w.heap.size wr rv (prs cs k)/\Ext w wr)) (fun _ iv _=>cs.length - (intOf iv).toNat)
 case atStart=>exact ⟨0,Nat.zero_le _,rfl,⟨by simpa [prs] using kaf.nil _ _,Ext.refl w⟩⟩
 case round =>
  obtain ⟨k,hk,rfl,⟨hr,hx⟩⟩:=hrel;have HR:=hid hr;have HX:=hid hx;have lK:=hx.size;obtain ⟨RA,rc,rfl,bZ,dw⟩:=hr.len;have jV:=uax cs k;clear hr hx
  by_cases af:k < cs.length
  · obtain ⟨ad,C0,j0,g0,C1,j1,g1,rfl,ah,bF,aV⟩:=jd.kid HH.out k af;obtain ⟨a0,a1,a2,a3⟩:=bF.ext HX.out (by rw [ja]; exact ah);have dP:=hid (xbc cs k af);obtain ⟨U,hU⟩:=n_m (wr.alloc (.cells #[.int .i64 cs[k].lv,.bool cs[k].neg,.slice C0 j0 g0,.slice C1 j1 g1] 33));have jF:Ext wr U:=by rw [<- hU]; exact (Ext.refl _).alloc _
    obtain ⟨u0,u1,u2,u3⟩:jc U wr.heap.size cs[k] (.slice C0 j0 g0) (.slice C1 j1 g1):=by rw [<- hU]; exact jc.new wr cs[k] _ _ _
    have kD:=hid (kad _ _ (aV.ext (HX.out.trans jF)));have XU:=hid (HX.out.trans jF);have JK:=hid (HR.out.ext jF);unfold plV at kD;clear bF aV ah jF HR;generalize cs[k].isZ=bz at *;generalize cs[k]=p at *;go_wp2_with fail;clear hU u0 u1 u2 u3 a0 a1 a2 a3;refine kD.out.mono ?_;rintro e w2 ⟨rfl,x2⟩;have X2:=hid (XU.out.trans x2);have JO:=hid (jm.ext JK.out x2);clear x2 kD JK;cases bz
    · obtain ⟨v4,w4,ax,hg,EQ⟩:=kaf.push JO.out X2.out.size k (by omega) 98;obtain ⟨TB,Td,rfl,-,-⟩:=EQ.len;have HN:Hid (kaf w.heap.size w4 (.slice TB ((prs cs k).length+1) Td) (prs cs (k+1))):=hid (by
       rw [dP.out];rw [List.length_append] at EQ
       exact EQ)
      have Gh:=hid (xaw X2.out hg (fun R hR=>(jm.own JO.out hR).1));have qY:=hid ax;clear ax hg EQ;go_upto_region 6 with fail
      iterate 12 (first | at_builtin | go_values | go_skip | go_guarded | go_step | go_upon | go_back | go_simp)
      refine wpList_append_run rfl (.tmp 16) (.tmp 18) _ _ rfl _ _ _ _ rfl rfl qY.out ?_;clear qY
      iterate 18 (first | go_values | go_skip | go_guarded | go_step | go_upon | go_back | go_simp)
      exact ⟨⟨k+1,by omega,by omega,⟨HN.out,Gh.out⟩⟩,by simp [intOf]; omega⟩
    · have HN:Hid (kaf w.heap.size w2 (.slice RA (prs cs k).length rc) (prs cs (k+1))):=hid (by rw [dP.out,if_pos rfl,List.append_nil]; exact JO.out);go_wp2_with fail
      go_roundw
      case rel=>exact ⟨k+1,by omega,by go_num,⟨HN.out,X2.out⟩⟩
      case measure=>simp [intOf]; omega
  · have bV:k=cs.length:=by omega
    subst bV;go_wp2_with fail;go_ret;exact ⟨_,rfl,HR.out,HX.out⟩
end Go.Proofs.YtcepajijiabkmaaGreat
