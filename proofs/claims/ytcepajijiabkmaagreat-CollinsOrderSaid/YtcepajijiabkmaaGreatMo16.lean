/- Layer 22: recpoly.add. -/
import Derived.Test.YtcepajijiabkmaaGreatMo15
set_option linter.all false
set_option maxRecDepth 100000
set_option maxHeartbeats 8000000
namespace Go.Proofs.YtcepajijiabkmaaGreat
open Lib (hid)
open Go.RowKit
def zcn (E D:Nat) (n:Int):Prop:=∀ (l:List Pl) (A:Option Addr) (c:Nat) (w:World),(∀ p ∈ l,p.Can/\p.ex E)->(∀ p ∈ l,p.lv < n)->lnr l < B32 ^ D->l.length<=1000000->l.length<=c->c<=9223372036854775807->jd w (fun _=>True) l A 0 ->
 Calls Tryz.prog 37 #[.slice A l.length c] w (uf (fun b=>w.heap.size<=b) (zaa l) w)
theorem jaz {V W w4:World} {ov:Value} (hx:Ext V W) (hg:W.grownBy w4 ov.ownBlock) (ho:∀ R,ov.ownBlock=some R->V.heap.size<=R):Ext V w4:=
 Below.grown hx hg hx.size ho
theorem kb6 {E D:Nat} (hE:E<=1000000) (hD:D<=17592186044000) (n:Int) (ih:∀ m,0 < m->m < n->zcn E D m):zcn E D n:=by
 intro l A c w hl fF Kw hlen bY dP aK;have nY:∀ p ∈ l,0<=p.lv/\p.lv<=4/\p.cs.length<=E+1/\(0 < p.lv->2<=p.cs.length):=fun p hp=>by
  obtain ⟨h1,h2⟩:=hl p hp;refine ⟨h1.qq.1,h1.qq.2,?_,fun h0=>?_⟩
  · obtain ⟨lv,ng,ds,cs⟩:=p;rw [Pl.ex] at h2;rcases h2 with h2 | h2
    · unfold Pl.Can at h1;rcases h1 with h | h
      · simp [Pl.cs,h.2.1]
      · omega
    · exact h2.1
  · obtain ⟨lv,ng,ds,cs⟩:=p;exact (h1.kids h0).2.2.1
 obtain ⟨AC,Qz⟩:=vcn l (E+1) nY;have lF:=hid aK;have HL:=hid hl;have ED:=hid fF;have HNR:=hid Kw;have IH:=hid ih;have Yt:=hid AC;have MW:=hid Qz;have HTA:=hid (gc9 l);obtain ⟨W,hW⟩:=n_m (w.alloc (.cells #[.int .i64 0,.bool false,.slice none 0 0,.slice none 0 0] 33));have ai:Ext w W:=by rw [<- hW]; exact (Ext.refl w).alloc _
 have dG:W.heap.size=w.heap.size+1:=by rw [<- hW]; simp
 have hz:jf W w.heap.size:=by rw [<- hW]; exact jf.new w _
 have aG:=hid ai;have HZ:=hid hz;clear aK hl fF Kw ih AC Qz ai hz nY;go_enter Tryz.func37,Tryz.ntmps37;go_wp2_with fail;clear hW
 go_loopw [3,4,17] (fun av bv iv wr=>∃ k:Nat,k<=l.length/\iv=.int .i64 k/\av=.int .i64 (uag (l.take k)).1/\bv=.int .i64 (uag (l.take k)).2/\Hid (Ext W wr)) (fun _ _ iv _=>l.length - (intOf iv).toNat)
 case atStart=>exact ⟨0,pZ _,rfl,by simp [uag],by simp [uag],Ext.refl W⟩
 case round =>
  obtain ⟨k,hk,rfl,rfl,rfl,aC⟩:=hrel;have hx:Ext W wr:=aC.out;have HX:=hid hx;have oH:=hx.size;clear aC hx
  by_cases af:k < l.length
  · obtain ⟨ad,C0,j0,g0,C1,j1,g1,rfl,ah,bP,bu⟩:=jd.ym lF.out k af;obtain ⟨a0,a1,a2,a3⟩:=bP.ext (aG.out.trans HX.out) (by rw [ja]; exact ah);have SS:j1=l[k].cs.length:=by
     obtain ⟨A1,n1,c1',A2,c2,e,-⟩:=bu.open_;unfold plV at e;simp only [tm,tF,sy,and_true,true_and,T3] at e;exact e.2.2.1
    subst SS;have dS:=hid (kcn l k af);obtain ⟨U,hU⟩:=n_m (wr.alloc (.cells #[.int .i64 l[k].lv,.bool l[k].neg,.slice C0 j0 g0,.slice C1 l[k].cs.length g1] 33));have kY:Ext wr U:=by rw [<- hU]; exact (Ext.refl _).alloc _
    obtain ⟨u0,u1,u2,u3⟩:jb U wr.heap.size l[k] (.slice C0 j0 g0) (.slice C1 l[k].cs.length g1):=by rw [<- hU]; exact jb.new wr l[k] _ _ _
    have XU:=hid (HX.out.trans kY);clear bP bu ah kY;obtain ⟨ta,tb,ht⟩:∃ ta tb,uag (l.take k)=(ta,tb):=⟨_,_,rfl⟩;rw [ht] at dS ⊢;clear ht;simp only at dS ⊢;generalize l[k]=p at *;rcases wj ta p.lv with h | h | h
    · have bC:=hid (dS.out.trans (vbw h));have iL:max (0:Int) (p.cs.length:Int)=(p.cs.length:Int):=by omega
      go_wp2_with fail
      go_roundw
      case rel=>exact ⟨k+1,by omega,by go_num,by rw [bC.out],by rw [bC.out],XU⟩
      case measure=>simp [intOf]; omega
    · have bC:=hid (dS.out.trans (ubw (a:=(ta,tb)) h.symm));have oI:¬ ta < p.lv:=by omega
      have heq:(p.lv == ta)=true:=by simp [h]
      have zZ:Hid (max (tb:Int) (p.cs.length:Int)=((max tb p.cs.length:Nat):Int)):=hid (by omega);clear h;go_wp2_with fail
      go_roundw
      case rel=>exact ⟨k+1,by omega,by go_num,by rw [bC.out],by rw [bC.out]; simp only; rw [zZ.out],XU⟩
      case measure=>simp [intOf]; omega
    · have bC:=hid (dS.out.trans (kbw (a:=(ta,tb)) h));have oI:¬ ta < p.lv:=by omega
      have heq:(p.lv == ta)=false:=by simp; omega
      go_wp2_with fail
      go_roundw
      case rel=>exact ⟨k+1,by omega,by go_num,by rw [bC.out],by rw [bC.out],XU⟩
      case measure=>simp [intOf]; omega
  · have dh:k=l.length:=by omega
    rw [dh,pQ];obtain ⟨lv,sz,AC⟩:∃ lv sz,uag l=(lv,sz):=⟨_,_,rfl⟩;rw [AC] at Yt MW HTA ⊢;simp only at Yt MW HTA ⊢;obtain ⟨t1,t2,t3,t4⟩:=Yt.out;have uI:=hid (aG.out.trans HX.out);have og:=hid (HZ.out.ext HX.out (by omega));have mP:w.heap.size < wr.heap.size:=by omega
    clear dh AC af hk HX aG HZ oH dG Yt;obtain ⟨w1,rfl⟩:∃ w1,w1=wr:=⟨wr,rfl⟩
    by_cases h0:lv=0
    · have Ns:Hid (∀ p ∈ l,p.Can/\p.lv=0):=hid (fun p hp=>⟨(HL.out p hp).1,by have h1:=(MW.out p hp).1; have h2:=(HL.out p hp).1.qq.1; omega⟩);have aau:(lv == 0)=true:=by simp [h0]
      have WH:=hid (kcw Ns.out);have Rj:inr (l.map Pl.z) < B32 ^ D:=by rw [gdi Ns.out]; exact HNR.out
      have Jn:=hid Rj;obtain ⟨V,dA,eQ,xB,ae⟩:=vby (l.length:Int) (by omega) (by omega) w1;rw [sX] at dA ae;have aQ:=hid ae;have lM:=hid eQ;subst h0;clear ae eQ Rj;go_wp2_with fail;clear dA
      go_loopw [44] (fun iv wx=>∃ k:Nat,k<=l.length/\iv=.int .i64 k/\Hid ((∃ L:List Int,L.length=l.length/\L.take k=(l.map Pl.z).take k/\za1 wx w1.heap.size L)/\Ext w1 wx)) (fun iv _=>l.length - (intOf iv).toNat)
      case atStart=>exact ⟨0,pZ _,rfl,⟨⟨_,ra,by simp,aQ.out⟩,lM.out⟩⟩
      case round =>
       obtain ⟨k,hk,rfl,⟨⟨L,pJ,tH,ae⟩,hx⟩⟩:=hrel;have HX:=hid hx;have aB:=hid ae;have kG:=hid tH;have gZ:w1.heap.size < wr.heap.size:=ae.1;clear hx ae tH lM aQ
       by_cases af:k < l.length
       · obtain ⟨ad,C0,j0,g0,C1,j1,g1,rfl,ah,bP,bu⟩:=jd.ym lF.out k af;obtain ⟨a0,a1,a2,a3⟩:=bP.ext (uI.out.trans HX.out) (by rw [ja]; exact ah);have eu:=Ns.out l[k] (pt af);have jX:=yah eu.1 eu.2;have su:l[k].neg=decide (l[k].z < 0):=congrArg Pl.neg jX;have yT:l[k].ds=dg l[k].z.natAbs:=congrArg Pl.ds jX;have ax:jc wr (.slice C0 j0 g0) (dg l[k].z.natAbs):=by
          obtain ⟨A1,n1,c1',A2,c2,e,hn,-⟩:=bu.open_;unfold plV at e;simp only [tm,tF,sy,and_true,true_and] at e;rw [e.1,<- yT];exact hn.ext (uI.out.trans HX.out)
         have dU:Hid ((L.set k l[k].z).take (k+1)=(l.map Pl.z).take (k+1)):=by
          have h1:=uae L (l.map Pl.z) k kG.out (by omega) (by rw [pw]; exact af);rw [rN] at h1;exact h1
         obtain ⟨U,hU⟩:=n_m (wr.alloc (.cells #[.int .i64 l[k].lv,.bool (decide (l[k].z < 0)),.slice C0 j0 g0,.slice C1 j1 g1] 33));have kY:Ext wr U:=by rw [<- hU]; exact (Ext.refl _).alloc _
         have u1:U.cell? ⟨wr.heap.size,1,none⟩=some (.bool (decide (l[k].z < 0))):=by rw [<- hU]; simp [go_sem]
         have u2:U.cell? ⟨wr.heap.size,2,none⟩=some (.slice C0 j0 g0):=by rw [<- hU]; simp [go_sem]
         have uV:=aB.out.ext kY;have dS:=hid (uV.xD k (by omega) l[k].z (ax.ext kY));have XU:=hid (HX.out.trans kY);obtain ⟨D0,n2,d2,r0,r1,-⟩:=uV.2.2 k (by omega);have bG:=uV.2.1;rw [su] at a1;clear bP bu ah eu jX su yT ax uV kY kG aB;generalize l[k].z=z at *;generalize l[k]=p at *;go_wp2_with fail
         go_roundw
         case rel=>exact ⟨k+1,by omega,by go_num,⟨_,by rw [pL]; exact pJ,dU.out,dS.out⟩,(XU.out.setCell (pj _) _).setCell (pj _) _⟩
         case measure=>simp [intOf]; omega
       · have dh:k=l.length:=by omega
         have pK:L=l.map Pl.z:=by
          have h:=kG.out;rw [dh,show l.length=(l.map Pl.z).length by rw [pw],pQ,pw,<- pJ,pQ] at h;exact h
         have aT:=aB.out.fin l.length (by omega) (by omega);rw [pK,pw] at aT;have HSU:=hid (zda aT Jn.out hD);have AZ:=hid (og.out.ext HX.out mP);clear aT aB kG pK dh;go_wp2_with fail;refine HSU.out.mono ?_;rintro e w2 ⟨z2,rfl,⟨y2,rfl,m2⟩,x2⟩;obtain ⟨C2,k2,rfl,-⟩:=id m2;have aS:=AZ.out.ext x2 (by omega);have HF:Hid (uf (fun b=>w.heap.size<=b) (zaa l) w (.returned (plV (Pl.const (xaa (l.map Pl.z))) (.slice C2 (dg (xaa (l.map Pl.z)).natAbs).length k2) (.slice none 0 0))) ((((w2.setCell ⟨w.heap.size,0,none⟩ (.int .i64 0)).setCell ⟨w.heap.size,1,none⟩ (.bool (decide (xaa (l.map Pl.z) < 0)))).setCell ⟨w.heap.size,2,none⟩ (.slice C2 (dg (xaa (l.map Pl.z)).natAbs).length k2)).setCell ⟨w.heap.size,3,none⟩ (.slice none 0 0))):=by
          rw [WH.out];exact qf (p:=Pl.const (xaa (l.map Pl.z))) (q:=fun _=>False) ((uI.out.trans HX.out).trans x2) (pj _) aS (PlV.mk (t:=Pl.const (xaa (l.map Pl.z))) (A:=none) (c:=0) m2 (pj _) (by omega) (by unfold Pl.const Pl.cs jd; trivial)) (fun b _ h=>h.elim)
         obtain ⟨⟨z0,z1,z2',z3⟩,zf⟩:=aS;clear x2 m2 HSU;generalize xaa (l.map Pl.z)=S at *;go_wp2_with fail;exact bodyPost_ret (v:=plV (Pl.const S) (.slice C2 (dg S.natAbs).length k2) (.slice none 0 0)) (by simp [results,Tryz.results37,go_sem,z0,z1,z2',z3,plV,Pl.const,Pl.lv,Pl.neg]) rfl HF.out
    · have aau:(lv == 0)=false:=by simp [h0]
      have dw:0 < lv:=by omega
      have RQ:lv < n:=by
       obtain ⟨p,hp,e⟩:=HTA.out dw;have:=ED.out p hp;omega
      have uS:1<=sz:=by have:=t4 dw; omega
      have rG:=hid (kcm dw t2 uS HL.out MW.out);obtain ⟨V,dA,eQ,xB,ae⟩:=xy (sz:Int) (by omega) (by omega) w1;rw [sX] at dA ae;have aQ:=hid (ae (fun i=>w1.heap.size<=i));have lM:=hid eQ;have HH:=hid h0;have vX:=hid RQ;have Um:jd w (fun b=>b < w.heap.size) l A 0:=jd.xl (pj _) (fun _ _ h=>h) (fun b hb _=>⟨hb,rfl⟩) l A 0 lF.out;have adO:=hid Um;clear ae eQ h0 RQ Um;go_wp2_with fail;clear dA
      go_loopw [62] (fun iv wx=>∃ i:Nat,i<=sz/\iv=.int .i64 i/\Hid ((∃ L:List Pl,L.length=sz/\L.take i=((List.range sz).map fun i=>zaa (xn lv i l)).take i/\jh wx (fun b=>w1.heap.size<=b) w1.heap.size L)/\Ext w1 wx)) (fun iv _=>sz - (intOf iv).toNat)
      case atStart=>exact ⟨0,pZ _,rfl,⟨⟨_,ra,by simp,aQ.out⟩,lM.out⟩⟩
      case round =>
       obtain ⟨i,hi,rfl,⟨⟨L,pJ,tH,ae⟩,hx⟩⟩:=hrel;have HX:=hid hx;have aB:=hid ae;have kG:=hid tH;have gZ:w1.heap.size < wr.heap.size:=ae.1;clear hx ae tH lM aQ;obtain ⟨w2,rfl⟩:∃ w2,w2=wr:=⟨wr,rfl⟩
       by_cases af:i < sz
       · have Jb:=hid (uI.out.trans HX.out);have ah9:w.heap.size<=w2.heap.size:=Jb.out.size;go_wp2_with fail
         go_loopw [12,67] (fun pv kv wx=>∃ k:Nat,k<=l.length/\kv=.int .i64 k/\Hid (xg w2.heap.size (fun b=>b < w2.heap.size) wx pv (xn lv i (l.take k))/\Ext w2 wx)) (fun _ kv _=>l.length - (intOf kv).toNat)
         case atStart=>exact ⟨0,pZ _,rfl,⟨by simpa [xn] using xg.nil _ _ _,Ext.refl _⟩⟩
         case round =>
          obtain ⟨k,hk,rfl,⟨hq,hx⟩⟩:=hrel;have HQ:=hid hq;have Ep:=hid hx;have ah8:=hx.size;obtain ⟨PA,pc,rfl,pX,wP⟩:=hq.len;have kE:=ybl lv i (l.take k);rw [pA] at kE;clear hx hq
          by_cases Fj:k < l.length
          · obtain ⟨ad,C0,j0,g0,C1,j1,g1,rfl,ah,bP,bu⟩:=jd.ym adO.out k Fj;have bQ:=Jb.out.trans Ep.out;obtain ⟨a0,a1,a2,a3⟩:=bP.ext bQ (by rw [ja]; exact ah);have SS:j1=l[k].cs.length:=by
             obtain ⟨A1,n1,c1',A2,c2,e,-⟩:=bu.open_;unfold plV at e;simp only [tm,tF,sy,and_true,true_and,T3] at e;exact e.2.2.1
            subst SS;have xM:=hid (ub9 lv i l k Fj);have aiG:=(MW.out l[k] (pt Fj)).1;obtain ⟨U,hU⟩:=n_m (wr.alloc (.cells #[.int .i64 l[k].lv,.bool l[k].neg,.slice C0 j0 g0,.slice C1 l[k].cs.length g1] 33));have kY:Ext wr U:=by rw [<- hU]; exact (Ext.refl _).alloc _
            obtain ⟨u0,u1,u2,u3⟩:jb U wr.heap.size l[k] (.slice C0 j0 g0) (.slice C1 l[k].cs.length g1):=by rw [<- hU]; exact jb.new wr l[k] _ _ _
            have XU:=hid (Ep.out.trans kY);have PH:=hid (bu.ext (bQ.trans kY));have Nk:=hid (HQ.out.ext kY);have XJ:=kY.size;have jE:Hid (∀ (x:Pl) (E0 E1:Option Addr) (q0 r0 q1 r1:Nat),PlV U (fun b=>b < w.heap.size) x (plV x (.slice E0 q0 r0) (.slice E1 q1 r1))->partsOf lv i l[k]=[x]->∃ v4 w4,(Builtin.append_ #[31,31] 31 #[.slice PA (xn lv i (l.take k)).length pc,.slice (some ⟨U.heap.size,0,none⟩) 1 1]).run Tryz.prog (U.alloc (.cells #[.int .i64 x.lv,.bool x.neg,.slice E0 q0 r0,.slice E1 q1 r1] 33))=.ok v4 w4/\xg w2.heap.size (fun b=>b < w2.heap.size) w4 v4 (xn lv i (l.take (k+1)))/\Ext w2 w4):=by
             refine hid ?_;intro x E0 E1 q0 r0 q1 r1 rP nT;obtain ⟨v4,w4,ak,g4,n4,r4,o4⟩:=Nk.out.push (by have:=XU.out.size; omega) (rP.mono fun b hb=>⟨fun e=>by have:=(Nk.out.own e).1; omega,by omega⟩) (by omega) 31;exact ⟨v4,w4,ak,by rw [xM.out,nT]; exact r4,jaz XU.out g4 (fun R hR=>(Nk.out.own hR).1)⟩
            clear bP kY HQ
            by_cases he:l[k].lv=lv
            · have heq:(l[k].lv == lv)=true:=by simp [he]
              by_cases hic:i < l[k].cs.length
              · have nT:partsOf lv i l[k]=[l[k].cs[i]]:=by unfold partsOf; rw [if_pos he,pr hic]; rfl
                obtain ⟨A1,n1,c1',A2,c2,e,-,-,-,jZ⟩:=PH.out.open_;unfold plV at e;simp only [tm,tF,sy,and_true,true_and,T3] at e;obtain ⟨-,rfl,rfl⟩:=e;obtain ⟨ad2,D0,i0,Df,D1,i1,jR,rfl,IA,aap,SH⟩:=jd.ym jZ i hic;obtain ⟨v0,v1,v2,v3⟩:=aap;obtain ⟨v4,w4,ak,r4,x4⟩:=jE.out _ _ _ _ _ _ _ SH nT;obtain ⟨TB,Td,rfl,-,-⟩:=r4.len;have HN:=hid r4;have Ja:=hid x4;have tV:=hid ak;clear nT jZ SH r4 x4 jE bu he ak;generalize l[k].cs[i]=pk at *;generalize l[k]=p at *;go_upto_region 27 with fail
                iterate 30 (first | at_builtin | go_values | go_skip | go_guarded | go_step | go_upon | go_back | go_simp)
                refine wpList_append_run rfl (.tmp 83) (.tmp 89) _ _ rfl _ _ _ _ rfl rfl tV.out ?_;clear tV xM Nk PH hU
                iterate 18 (first | go_values | go_skip | go_guarded | go_step | go_upon | go_back | go_simp)
                exact ⟨⟨k+1,by omega,by omega,⟨HN.out,Ja.out⟩⟩,by simp [intOf]; omega⟩
              · have nT:partsOf lv i l[k]=[]:=by unfold partsOf; rw [if_pos he,sE (by omega)]; rfl
                have HN:Hid (xg w2.heap.size (fun b=>b < w2.heap.size) U (.slice PA (xn lv i (l.take k)).length pc) (xn lv i (l.take (k+1)))):=hid (by rw [xM.out,nT,sq]; exact Nk.out);have oI:¬ l[k].lv < lv:=by omega
                clear nT jE bu he;generalize l[k]=p at *;go_wp2_with fail
                go_roundw
                case rel=>exact ⟨k+1,by omega,by go_num,⟨HN.out,XU.out⟩⟩
                case measure=>simp [intOf]; omega
            · have heq:(l[k].lv == lv)=false:=by simp [he]
              have oI:l[k].lv < lv:=by omega
              by_cases S9:i=0
              · have nT:partsOf lv i l[k]=[l[k]]:=by unfold partsOf; rw [if_neg he,if_pos ⟨oI,S9⟩]
                obtain ⟨v4,w4,ak,r4,x4⟩:=jE.out _ _ _ _ _ _ _ PH.out nT;obtain ⟨TB,Td,rfl,-,-⟩:=r4.len;have HN:=hid r4;have Ja:=hid x4;have tV:=hid ak;have aaN:((i:Int) == 0)=true:=by simp [S9]
                clear nT r4 x4 jE bu he ak S9;generalize l[k]=p at *;go_upto_region 29 with fail
                iterate 30 (first | at_builtin | go_values | go_skip | go_guarded | go_step | go_upon | go_back | go_simp)
                refine wpList_append_run rfl (.tmp 100) (.tmp 102) _ _ rfl _ _ _ _ rfl rfl tV.out ?_;clear tV xM Nk PH hU
                iterate 18 (first | go_values | go_skip | go_guarded | go_step | go_upon | go_back | go_simp)
                exact ⟨⟨k+1,by omega,by omega,⟨HN.out,Ja.out⟩⟩,by simp [intOf]; omega⟩
              · have nT:partsOf lv i l[k]=[]:=by unfold partsOf; rw [if_neg he,if_neg (by omega)]
                have HN:Hid (xg w2.heap.size (fun b=>b < w2.heap.size) U (.slice PA (xn lv i (l.take k)).length pc) (xn lv i (l.take (k+1)))):=hid (by rw [xM.out,nT,sq]; exact Nk.out);have aaN:((i:Int) == 0)=false:=by simp [S9]
                clear nT jE bu he;generalize l[k]=p at *;go_wp2_with fail
                go_roundw
                case rel=>exact ⟨k+1,by omega,by go_num,⟨HN.out,XU.out⟩⟩
                case measure=>simp [intOf]; omega
          · have dh:k=l.length:=by omega
            have rZ:=HQ.out;rw [dh,pQ] at rZ pX;have CV:jd wr (fun _=>True) (xn lv i l) PA 0:=jd.xl (pj _) (fun _ _ h=>h) (fun b _ _=>⟨trivial,rfl⟩) _ _ _ rZ.at_;have HC:=hid (IH.out lv dw vX.out (xn lv i l) PA pc wr (fun p hp=>⟨(gao dw HL.out hp).1,(gao dw HL.out hp).2.2⟩) (fun p hp=>(gao dw HL.out hp).2.1) (sB (jcr dw HL.out) HNR.out) (by have:=ybl lv i l; omega) pX wP CV);rw [dh,pQ];have dU:Hid ((L.set i (zaa (xn lv i l))).take (i+1)=((List.range sz).map fun i=>zaa (xn lv i l)).take (i+1)):=by
             have h1:=uae L ((List.range sz).map fun i=>zaa (xn lv i l)) i kG.out (by omega) (by rw [pw,tt]; exact af);rw [rN,tI] at h1;exact h1
            have ae7:¬ (l.length:Int) < (l.length:Int):=by omega
            have Px:=hid (aB.out.ext Ep.out);clear rZ CV dh Fj pX kE HQ aB kG hk;generalize (xn lv i l).length=pn at *;generalize zaa (xn lv i l)=res at *;go_wp2_with fail;refine HC.out.mono ?_;rintro e w3 ⟨v3,rfl,p3,x3⟩;obtain ⟨C0,j0,f0,C1,f1,rfl,-⟩:=id p3.open_;have yK:=Px.out.ext x3;obtain ⟨D0,n2,g0,D1,n3,g1,⟨r0,r1,r2,r3⟩,-⟩:=yK.2.2 i (by omega);have bG:=yK.2.1;have dV:=(yK.xD i (by omega) res (p3.mono fun b hb=>by
             have eP:wr.heap.size<=b:=hb
             exact ⟨by omega,by omega⟩)).1
            simp only at r0 r1 r2 r3;have dS:=hid dV;have X3:=hid ((HX.out.trans Ep.out).trans x3);unfold plV;clear yK dV p3 x3 HC Px;go_wp2_with fail
            go_roundw
            case rel=>exact ⟨i+1,by omega,by go_num,⟨_,by rw [pL]; exact pJ,dU.out,dS.out⟩,(((X3.out.setCell (pj _) _).setCell (pj _) _).setCell (pj _) _).setCell (pj _) _⟩
            case measure=>simp [intOf]; omega
       · have Ie:i=sz:=by omega
         have pK:L=(List.range sz).map fun i=>zaa (xn lv i l):=by
          have h:=kG.out;rw [Ie,p8 (by omega),p8 (by simp)] at h;exact h
         have aT:=aB.out.fin (pj _);have JR:=qbr lv L _ sz aT (by omega) (by omega);rw [pJ,pK,<- rG.out] at JR;have Pn:=hid JR;have hz4:=og.out.ext HX.out mP;have HZ4:=hid hz4;have ZG:=HX.out.size;clear aT JR Ie pK aB kG hz4;obtain ⟨res,mQ⟩:=n_m (zaa l);rw [mQ] at Pn;have HRS:=hid mQ;clear mQ;go_wp2_with fail;refine Pn.out.mono ?_;rintro e w3 ⟨v3,rfl,p3,x3⟩;obtain ⟨C0,j0,f0,C1,f1,rfl,-⟩:=id p3.open_;have aS:=HZ4.out.ext x3 (by omega);have nY:=qf (q':=fun b=>w.heap.size<=b) ((uI.out.trans HX.out).trans x3) (pj _) aS p3 (fun b _ hb=>⟨by omega,by omega⟩);have TY:=nY;have HF:Hid (uf (fun b=>w.heap.size<=b) (zaa l) w (.returned (plV res (.slice C0 j0 f0) (.slice C1 res.cs.length f1))) ((((w3.setCell ⟨w.heap.size,0,none⟩ (.int .i64 res.lv)).setCell ⟨w.heap.size,1,none⟩ (.bool res.neg)).setCell ⟨w.heap.size,2,none⟩ (.slice C0 j0 f0)).setCell ⟨w.heap.size,3,none⟩ (.slice C1 res.cs.length f1))):=by
          rw [HRS.out];exact TY
         clear TY;clear nY;obtain ⟨⟨z0,z1,z2,z3⟩,zf⟩:=aS;clear x3 p3 Pn;unfold plV;go_wp2_with fail;exact bodyPost_ret (v:=plV res (.slice C0 j0 f0) (.slice C1 res.cs.length f1)) (by simp [results,Tryz.results37,go_sem,z0,z1,z2,z3,plV]) rfl HF.out
theorem kdh {E D:Nat} (hE:E<=1000000) (hD:D<=17592186044000) (k:Nat):∀ n:Int,n<=k->zcn E D n:=by
 induction k with
 | zero=>exact fun n hn=>kb6 hE hD n fun m h0 hm=>by omega
 | succ k ih=>exact fun n hn=>kb6 hE hD n fun m h0 hm=>ih m (by omega)
theorem ucf {w:World} {q:Nat->Prop} {E D:Nat} (l:List Pl) (A:Option Addr) (c:Nat) (hE:E<=1000000) (hD:D<=17592186044000) (hl:∀ p ∈ l,p.Can/\p.ex E) (hn:lnr l < B32 ^ D) (hlen:l.length<=1000000) (bY:l.length<=c) (dP:c<=9223372036854775807) (h:jd w q l A 0) :
 Calls Tryz.prog 37 #[.slice A l.length c] w (uf (fun b=>w.heap.size<=b) (zaa l) w):=
 kdh hE hD 5 5 (by omega) l A c w hl (fun p hp=>by have:=(hl p hp).1.qq.2; omega) hn hlen bY dP (jd.xl (pj _) (fun _ _ h=>h) (fun b _ _=>⟨trivial,rfl⟩) l A 0 h)
theorem qct:(Tryz.prog.info? 3).map (fun i=>(i.zero,i.size,i.bytes))=some (some (.int .i64 0),1,8):=by kernel_rfl
theorem zdd : vap 98 3 1 8 (.int .i64 0) where
 und:=Tryz.underlying98
 info:=qct
 cells:=rfl
 pos:=by omega
 nodig:=by
  intro u hu;simp only [Value.cells,pD] at hu;rw [hu]
  rfl
def kai (base:Nat) (W:World) (v:Value) (l:List Nat):Prop:=jl 3 1 base W v l.length (l.map fun n:Nat=>.int .i64 n)
theorem kai.nil (base:Nat) (W:World):kai base W (.slice none 0 0) []:=jl.nil _ _ _ _
theorem kai.len {base:Nat} {W:World} {v:Value} {l:List Nat} (h:kai base W v l):∃ A c,v=.slice A l.length c/\l.length<=c/\c<=9223372036854775807:=jl.len h
theorem kai.at_ {base:Nat} {W:World} {v:Value} {l:List Nat} (h:kai base W v l) (k:Nat) (hk:k < l.length):∃ g c,v=.slice (some ⟨g,0,none⟩) l.length c/\base<=g/\g < W.heap.size/\W.cell? ⟨g,k,none⟩=some (.int .i64 l[k]):=by
 obtain ⟨g,c,e,h1,h2,h3,h4,-⟩:=jl.pos h (by omega);unfold kai at h;rw [e] at h;refine ⟨g,c,e,h3,h4,?_⟩;rw [jl.cell h k (by omega),tS,pr hk]
 rfl
theorem kai.push {base:Nat} {W:World} {ov:Value} {l:List Nat} (h:kai base W ov l) (di:base<=W.heap.size) (n:Nat) (hlen:l.length+1<=1000000000) (ty:TypeId) :
 ∃ v4 w4,(Builtin.append_ #[98,98] ty #[ov,.slice (some ⟨W.heap.size,0,none⟩) 1 1]).run Tryz.prog (W.alloc (.cells #[.int .i64 n] 3))=.ok v4 w4/\W.grownBy w4 ov.ownBlock/\kai base w4 v4 (l ++ [n]):=by
 obtain ⟨v4,w4,h1,h2,h3,-,-⟩:=jl.push zdd h di [.int .i64 n] rfl (by
  intro u hu;rw [pD.1 hu]
  exact ⟨rfl,rfl⟩) (by omega) (by omega) ty
 refine ⟨v4,w4,h1,h3,?_⟩;unfold kai;rw [rh,uc];exact h2
def prs (cs:List Pl) (n:Nat):List Nat:=(List.range n).filter fun i=>match cs[i]? with
 | some c=>!c.zp
 | none=>false
theorem jbg (cs:List Pl) (k:Nat) (h:k < cs.length):prs cs (k+1)=prs cs k ++ if cs[k].zp then [] else [k]:=by
 unfold prs;rw [tO,tL]
 congr 1
 simp only [rR,pr h,SD];cases cs[k].zp <;> rfl
theorem qa1 (cs:List Pl) (n:Nat):(prs cs n).length<=n:=by
 unfold prs;have:=uE (fun i=>match cs[i]? with | some c=>!c.zp | none=>false) (List.range n);rw [tt] at this;exact this
theorem zbd {w:World} {q:Nat->Prop} (cs:List Pl) (A:Option Addr) (c:Nat) (h:jd w q cs A 0) (hlen:cs.length<=1000000):Calls Tryz.prog 67 #[.slice A cs.length c] w fun e w'=>∃ v,e=.returned v/\kai w.heap.size w' v (prs cs cs.length)/\Ext w w':=by
 have HH:=hid h;clear h;go_enter Tryz.func67,Tryz.ntmps67;go_wp2_with fail
 go_loopw [3,8] (fun rv iv wr=>∃ k:Nat,k<=cs.length/\iv=.int .i64 k/\Hid (kai w.heap.size wr rv (prs cs k)/\Ext w wr)) (fun _ iv _=>cs.length - (intOf iv).toNat)
 case atStart=>exact ⟨0,pZ _,rfl,⟨by simpa [prs] using kai.nil _ _,Ext.refl w⟩⟩
 case round =>
  obtain ⟨k,hk,rfl,⟨hr,hx⟩⟩:=hrel;have HR:=hid hr;have HX:=hid hx;have oH:=hx.size;obtain ⟨RA,rc,rfl,bY,dP⟩:=hr.len;have kE:=qa1 cs k;clear hr hx
  by_cases af:k < cs.length
  · obtain ⟨ad,C0,j0,g0,C1,j1,g1,rfl,ah,bP,bu⟩:=jd.ym HH.out k af;obtain ⟨a0,a1,a2,a3⟩:=bP.ext HX.out (by rw [ja]; exact ah);have dS:=hid (jbg cs k af);obtain ⟨U,hU⟩:=n_m (wr.alloc (.cells #[.int .i64 cs[k].lv,.bool cs[k].neg,.slice C0 j0 g0,.slice C1 j1 g1] 33));have kY:Ext wr U:=by rw [<- hU]; exact (Ext.refl _).alloc _
    obtain ⟨u0,u1,u2,u3⟩:jb U wr.heap.size cs[k] (.slice C0 j0 g0) (.slice C1 j1 g1):=by rw [<- hU]; exact jb.new wr cs[k] _ _ _
    have gJ:=hid (xaf _ _ (bu.ext (HX.out.trans kY)));have XU:=hid (HX.out.trans kY);have Nc:=hid (HR.out.ext kY);unfold plV at gJ;clear bP bu ah kY HR;generalize cs[k].zp=bz at *;generalize cs[k]=p at *;go_wp2_with fail;clear hU u0 u1 u2 u3 a0 a1 a2 a3;refine gJ.out.mono ?_;rintro e w2 ⟨rfl,x2⟩;have X2:=hid (XU.out.trans x2);have Eu:=hid (jl.ext Nc.out x2);clear x2 gJ Nc;cases bz
    · obtain ⟨v4,w4,ak,hg,He⟩:=kai.push Eu.out X2.out.size k (by omega) 98;obtain ⟨TB,Td,rfl,-,-⟩:=He.len;have HN:Hid (kai w.heap.size w4 (.slice TB ((prs cs k).length+1) Td) (prs cs (k+1))):=hid (by
       rw [dS.out];rw [rh] at He
       exact He)
      have Ja:=hid (jaz X2.out hg (fun R hR=>(jl.own Eu.out hR).1));have tV:=hid ak;clear ak hg He;go_upto_region 6 with fail
      iterate 12 (first | at_builtin | go_values | go_skip | go_guarded | go_step | go_upon | go_back | go_simp)
      refine wpList_append_run rfl (.tmp 16) (.tmp 18) _ _ rfl _ _ _ _ rfl rfl tV.out ?_;clear tV
      iterate 18 (first | go_values | go_skip | go_guarded | go_step | go_upon | go_back | go_simp)
      exact ⟨⟨k+1,by omega,by omega,⟨HN.out,Ja.out⟩⟩,by simp [intOf]; omega⟩
    · have HN:Hid (kai w.heap.size w2 (.slice RA (prs cs k).length rc) (prs cs (k+1))):=hid (by rw [dS.out,if_pos rfl,sq]; exact Eu.out);go_wp2_with fail
      go_roundw
      case rel=>exact ⟨k+1,by omega,by go_num,⟨HN.out,X2.out⟩⟩
      case measure=>simp [intOf]; omega
  · have dh:k=cs.length:=by omega
    subst dh;go_wp2_with fail;go_ret;exact ⟨_,rfl,HR.out,HX.out⟩
end Go.Proofs.YtcepajijiabkmaaGreat
