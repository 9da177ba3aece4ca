/- Layer 22: recpoly.add. -/
import Derived.Test.YtklnlgnnlmdibaaGreatMq15
set_option linter.unusedSimpArgs false
set_option linter.unusedVariables false
set_option maxRecDepth 100000
set_option maxHeartbeats 8000000
namespace Go.Proofs.YtklnlgnnlmdibaaGreat
open Lib (hid)
open Go.RowKit
def zb7 (E D:Nat) (n:Int):Prop:=∀ (l:List Pl) (A:Option Addr) (c:Nat) (w:World),(∀ p ∈ l,p.Can/\p.ex E)->(∀ p ∈ l,p.lv < n)->lnr l < B32 ^ D->l.length<=1000000->l.length<=c->c<=9223372036854775807->jc w (fun _=>True) l A 0 ->
 Calls Tryz.prog 54 #[.slice A l.length c] w (uf (fun b=>w.heap.size<=b) (uy l) w)
theorem wau {V W w4:World} {ov:Value} (hx:Ext V W) (hg:W.grownBy w4 ov.ownBlock) (ho:∀ R,ov.ownBlock=some R->V.heap.size<=R):Ext V w4:=
 Below.grown hx hg hx.size ho
theorem qbt {E D:Nat} (hE:E<=1000000) (hD:D<=17592186044000) (n:Int) (ih:∀ m,0 < m->m < n->zb7 E D m):zb7 E D n:=by
 intro l A c w hl cZ yX hlen dh eX aO;have oh:∀ p ∈ l,0<=p.lv/\p.lv<=4/\p.cs.length<=E+1/\(0 < p.lv->2<=p.cs.length):=fun p hp=>by
  obtain ⟨h1,h2⟩:=hl p hp;refine ⟨h1.lv_nonneg.1,h1.lv_nonneg.2,?_,fun h0=>?_⟩
  · obtain ⟨lv,ng,ds,cs⟩:=p;rw [Pl.ex] at h2;rcases h2 with h2 | h2
    · unfold Pl.Can at h1;rcases h1 with h | h
      · simp [Pl.cs,h.2.1]
      · omega
    · exact h2.1
  · obtain ⟨lv,ng,ds,cs⟩:=p;exact (h1.kids h0).2.2.1
 obtain ⟨AY,QS⟩:=kb7 l (E+1) oh;have jQ:=hid aO;have HL:=hid hl;have rq:=hid cZ;have GR:=hid yX;have IH:=hid ih;have Zf:=hid AY;have Nh:=hid QS;have HTA:=hid (zcr l);obtain ⟨W,hW⟩:=n_m (w.alloc (.cells #[.int .i64 0,.bool false,.slice none 0 0,.slice none 0 0] 35));have ai:Ext w W:=by rw [<- hW]; exact (Ext.refl w).alloc _
 have dE:W.heap.size=w.heap.size+1:=by rw [<- hW]; simp
 have hz:jf W w.heap.size:=by rw [<- hW]; exact jf.new w _
 have aF:=hid ai;have HZ:=hid hz;clear aO hl cZ yX ih AY QS ai hz oh;go_enter Tryz.func54,Tryz.ntmps54;go_wp2_with fail;clear hW
 go_loopw [3,4,17] (fun av bv iv wr=>∃ k:Nat,k<=l.length/\iv=.int .i64 k/\av=.int .i64 (yaf (l.take k)).1/\bv=.int .i64 (yaf (l.take k)).2/\Hid (Ext W wr)) (fun _ _ iv _=>l.length - (intOf iv).toNat)
 case atStart=>exact ⟨0,Nat.zero_le _,rfl,by simp [yaf],by simp [yaf],Ext.refl W⟩
 case round =>
  obtain ⟨k,hk,rfl,rfl,rfl,aC⟩:=hrel;have hx:Ext W wr:=aC.out;have HX:=hid hx;have oK:=hx.size;clear aC hx
  by_cases af:k < l.length
  · obtain ⟨ad,C0,j0,g0,C1,j1,g1,rfl,ah,bY,aW⟩:=jc.kid jQ.out k af;obtain ⟨a0,a1,a2,a3⟩:=bY.ext (aF.out.trans HX.out) (by rw [ja]; exact ah);have TJ:j1=l[k].cs.length:=by
     obtain ⟨A1,n1,c1',A2,c2,e,-⟩:=aW.open_;unfold plV at e;simp only [Value.agg.injEq,Array.mk.injEq,List.cons.injEq,and_true,true_and,Value.slice.injEq] at e;exact e.2.2.1
    subst TJ;have dN:=hid (jb7 l k af);obtain ⟨U,hU⟩:=n_m (wr.alloc (.cells #[.int .i64 l[k].lv,.bool l[k].neg,.slice C0 j0 g0,.slice C1 l[k].cs.length g1] 35));have kV:Ext wr U:=by rw [<- hU]; exact (Ext.refl _).alloc _
    obtain ⟨u0,u1,u2,u3⟩:jb U wr.heap.size l[k] (.slice C0 j0 g0) (.slice C1 l[k].cs.length g1):=by rw [<- hU]; exact jb.new wr l[k] _ _ _
    have XU:=hid (HX.out.trans kV);clear bY aW ah kV;obtain ⟨ta,tb,ht⟩:∃ ta tb,yaf (l.take k)=(ta,tb):=⟨_,_,rfl⟩;rw [ht] at dN ⊢;clear ht;simp only at dN ⊢;generalize l[k]=p at *;rcases Int.lt_trichotomy ta p.lv with h | h | h
    · have bK:=hid (dN.out.trans (ybn h));have iI:max (0:Int) (p.cs.length:Int)=(p.cs.length:Int):=by omega
      go_wp2_with fail
      go_roundw
      case rel=>exact ⟨k+1,by omega,by go_num,by rw [bK.out],by rw [bK.out],XU⟩
      case measure=>simp [intOf]; omega
    · have bK:=hid (dN.out.trans (xbn (a:=(ta,tb)) h.symm));have xG:¬ ta < p.lv:=by omega
      have heq:(p.lv == ta)=true:=by simp [h]
      have Ap:Hid (max (tb:Int) (p.cs.length:Int)=((max tb p.cs.length:Nat):Int)):=hid (by omega);clear h;go_wp2_with fail
      go_roundw
      case rel=>exact ⟨k+1,by omega,by go_num,by rw [bK.out],by rw [bK.out]; simp only; rw [Ap.out],XU⟩
      case measure=>simp [intOf]; omega
    · have bK:=hid (dN.out.trans (zbn (a:=(ta,tb)) h));have xG:¬ ta < p.lv:=by omega
      have heq:(p.lv == ta)=false:=by simp; omega
      go_wp2_with fail
      go_roundw
      case rel=>exact ⟨k+1,by omega,by go_num,by rw [bK.out],by rw [bK.out],XU⟩
      case measure=>simp [intOf]; omega
  · have bH:k=l.length:=by omega
    rw [bH,List.take_length];obtain ⟨lv,sz,AY⟩:∃ lv sz,yaf l=(lv,sz):=⟨_,_,rfl⟩;rw [AY] at Zf Nh HTA ⊢;simp only at Zf Nh HTA ⊢;obtain ⟨t1,t2,t3,t4⟩:=Zf.out;have Jp:=hid (aF.out.trans HX.out);have ou:=hid (HZ.out.ext HX.out (by omega));have mV:w.heap.size < wr.heap.size:=by omega
    clear bH AY af hk HX aF HZ oK dE Zf;obtain ⟨w1,rfl⟩:∃ w1,w1=wr:=⟨wr,rfl⟩
    by_cases h0:lv=0
    · have GY:Hid (∀ p ∈ l,p.Can/\p.lv=0):=hid (fun p hp=>⟨(HL.out p hp).1,by have h1:=(Nh.out p hp).1; have h2:=(HL.out p hp).1.lv_nonneg.1; omega⟩);have abf:(lv == 0)=true:=by simp [h0]
      have Xl:=hid (zcg GY.out);have RP:inr (l.map Pl.z) < B32 ^ D:=by rw [wc0 GY.out]; exact GR.out
      have PY:=hid RP;obtain ⟨V,cu,eH,xW,ae⟩:=kbo (l.length:Int) (by omega) (by omega) w1;rw [Int.toNat_natCast] at cu ae;have dF:=hid ae;have lL:=hid eH;subst h0;clear ae eH RP;go_wp2_with fail;clear cu
      go_loopw [44] (fun iv wx=>∃ k:Nat,k<=l.length/\iv=.int .i64 k/\Hid ((∃ L:List Int,L.length=l.length/\L.take k=(l.map Pl.z).take k/\wav wx w1.heap.size L)/\Ext w1 wx)) (fun iv _=>l.length - (intOf iv).toNat)
      case atStart=>exact ⟨0,Nat.zero_le _,rfl,⟨⟨_,List.length_replicate,by simp,dF.out⟩,lL.out⟩⟩
      case round =>
       obtain ⟨k,hk,rfl,⟨⟨L,mr,tK,ae⟩,hx⟩⟩:=hrel;have HX:=hid hx;have aA:=hid ae;have kE:=hid tK;have gZ:w1.heap.size < wr.heap.size:=ae.1;clear hx ae tK lL dF
       by_cases af:k < l.length
       · obtain ⟨ad,C0,j0,g0,C1,j1,g1,rfl,ah,bY,aW⟩:=jc.kid jQ.out k af;obtain ⟨a0,a1,a2,a3⟩:=bY.ext (Jp.out.trans HX.out) (by rw [ja]; exact ah);have dZ:=GY.out l[k] (List.getElem_mem af);have fC:=xaf dZ.1 dZ.2;have sH:l[k].neg=decide (l[k].z < 0):=congrArg Pl.neg fC;have F6:l[k].ds=dg l[k].z.natAbs:=congrArg Pl.ds fC;have au:jd wr (.slice C0 j0 g0) (dg l[k].z.natAbs):=by
          obtain ⟨A1,n1,c1',A2,c2,e,hn,-⟩:=aW.open_;unfold plV at e;simp only [Value.agg.injEq,Array.mk.injEq,List.cons.injEq,and_true,true_and] at e;rw [e.1,<- F6];exact hn.ext (Jp.out.trans HX.out)
         have dO:Hid ((L.set k l[k].z).take (k+1)=(l.map Pl.z).take (k+1)):=by
          have h1:=kad L (l.map Pl.z) k kE.out (by omega) (by rw [List.length_map]; exact af);rw [List.getElem_map] at h1;exact h1
         obtain ⟨U,hU⟩:=n_m (wr.alloc (.cells #[.int .i64 l[k].lv,.bool (decide (l[k].z < 0)),.slice C0 j0 g0,.slice C1 j1 g1] 35));have kV:Ext wr U:=by rw [<- hU]; exact (Ext.refl _).alloc _
         have u1:U.cell? ⟨wr.heap.size,1,none⟩=some (.bool (decide (l[k].z < 0))):=by rw [<- hU]; simp [go_sem]
         have u2:U.cell? ⟨wr.heap.size,2,none⟩=some (.slice C0 j0 g0):=by rw [<- hU]; simp [go_sem]
         have vH:=aA.out.ext kV;have dN:=hid (vH.set_ k (by omega) l[k].z (au.ext kV));have XU:=hid (HX.out.trans kV);obtain ⟨D0,n2,d2,r0,r1,-⟩:=vH.2.2 k (by omega);have bF:=vH.2.1;rw [sH] at a1;clear bY aW ah dZ fC sH F6 au vH kV kE aA;generalize l[k].z=z at *;generalize l[k]=p at *;go_wp2_with fail
         go_roundw
         case rel=>exact ⟨k+1,by omega,by go_num,⟨_,by rw [List.length_set]; exact mr,dO.out,dN.out⟩,(XU.out.setCell (Nat.le_refl _) _).setCell (Nat.le_refl _) _⟩
         case measure=>simp [intOf]; omega
       · have bH:k=l.length:=by omega
         have pM:L=l.map Pl.z:=by
          have h:=kE.out;rw [bH,show l.length=(l.map Pl.z).length by rw [List.length_map],List.take_length,List.length_map,<- mr,List.take_length] at h;exact h
         have aS:=aA.out.fin l.length (by omega) (by omega);rw [pM,List.length_map] at aS;have HSU:=hid (xcr aS PY.out hD);have BF:=hid (ou.out.ext HX.out mV);clear aS aA kE pM bH;go_wp2_with fail;refine HSU.out.mono ?_;rintro e w2 ⟨z2,rfl,⟨y2,rfl,m2⟩,x2⟩;obtain ⟨C2,k2,rfl,-⟩:=id m2;have aQ:=BF.out.ext x2 (by omega);have HF:Hid (uf (fun b=>w.heap.size<=b) (uy l) w (.returned (plV (Pl.const (kz (l.map Pl.z))) (.slice C2 (dg (kz (l.map Pl.z)).natAbs).length k2) (.slice none 0 0))) ((((w2.setCell ⟨w.heap.size,0,none⟩ (.int .i64 0)).setCell ⟨w.heap.size,1,none⟩ (.bool (decide (kz (l.map Pl.z) < 0)))).setCell ⟨w.heap.size,2,none⟩ (.slice C2 (dg (kz (l.map Pl.z)).natAbs).length k2)).setCell ⟨w.heap.size,3,none⟩ (.slice none 0 0))):=by
          rw [Xl.out];exact qf (p:=Pl.const (kz (l.map Pl.z))) (q:=fun _=>False) ((Jp.out.trans HX.out).trans x2) (Nat.le_refl _) aQ (PlV.mk (t:=Pl.const (kz (l.map Pl.z))) (A:=none) (c:=0) m2 (Nat.le_refl _) (by omega) (by unfold Pl.const Pl.cs jc; trivial)) (fun b _ h=>h.elim)
         obtain ⟨⟨z0,z1,z2',z3⟩,zf⟩:=aQ;clear x2 m2 HSU;generalize kz (l.map Pl.z)=S at *;go_wp2_with fail;exact bodyPost_ret (v:=plV (Pl.const S) (.slice C2 (dg S.natAbs).length k2) (.slice none 0 0)) (by simp [results,Tryz.results54,go_sem,z0,z1,z2',z3,plV,Pl.const,Pl.lv,Pl.neg]) rfl HF.out
    · have abf:(lv == 0)=false:=by simp [h0]
      have dX:0 < lv:=by omega
      have SN:lv < n:=by
       obtain ⟨p,hp,e⟩:=HTA.out dX;have:=rq.out p hp;omega
      have uZ:1<=sz:=by have:=t4 dX; omega
      have fV:=hid (vb6 dX t2 uZ HL.out Nh.out);obtain ⟨V,cu,eH,xW,ae⟩:=uw (sz:Int) (by omega) (by omega) w1;rw [Int.toNat_natCast] at cu ae;have dF:=hid (ae (fun i=>w1.heap.size<=i));have lL:=hid eH;have HH:=hid h0;have rQ:=hid SN;have UN:jc w (fun b=>b < w.heap.size) l A 0:=jc.turn (Nat.le_refl _) (fun _ _ h=>h) (fun b hb _=>⟨hb,rfl⟩) l A 0 jQ.out;have aeL:=hid UN;clear ae eH h0 SN UN;go_wp2_with fail;clear cu
      go_loopw [62] (fun iv wx=>∃ i:Nat,i<=sz/\iv=.int .i64 i/\Hid ((∃ L:List Pl,L.length=sz/\L.take i=((List.range sz).map fun i=>uy (qm lv i l)).take i/\xh wx (fun b=>w1.heap.size<=b) w1.heap.size L)/\Ext w1 wx)) (fun iv _=>sz - (intOf iv).toNat)
      case atStart=>exact ⟨0,Nat.zero_le _,rfl,⟨⟨_,List.length_replicate,by simp,dF.out⟩,lL.out⟩⟩
      case round =>
       obtain ⟨i,hi,rfl,⟨⟨L,mr,tK,ae⟩,hx⟩⟩:=hrel;have HX:=hid hx;have aA:=hid ae;have kE:=hid tK;have gZ:w1.heap.size < wr.heap.size:=ae.1;clear hx ae tK lL dF;obtain ⟨w2,rfl⟩:∃ w2,w2=wr:=⟨wr,rfl⟩
       by_cases af:i < sz
       · have HX3:=hid (Jp.out.trans HX.out);have ai6:w.heap.size<=w2.heap.size:=HX3.out.size;go_wp2_with fail
         go_loopw [12,67] (fun pv kv wx=>∃ k:Nat,k<=l.length/\kv=.int .i64 k/\Hid (uh w2.heap.size (fun b=>b < w2.heap.size) wx pv (qm lv i (l.take k))/\Ext w2 wx)) (fun _ kv _=>l.length - (intOf kv).toNat)
         case atStart=>exact ⟨0,Nat.zero_le _,rfl,⟨by simpa [qm] using uh.nil _ _ _,Ext.refl _⟩⟩
         case round =>
          obtain ⟨k,hk,rfl,⟨hq,hx⟩⟩:=hrel;have HQ:=hid hq;have EJ:=hid hx;have ai5:=hx.size;obtain ⟨PA,pc,rfl,mY,vM⟩:=hq.len;have kH:=xbd lv i (l.take k);rw [List.length_take] at kH;clear hx hq
          by_cases FH:k < l.length
          · obtain ⟨ad,C0,j0,g0,C1,j1,g1,rfl,ah,bY,aW⟩:=jc.kid aeL.out k FH;have bW:=HX3.out.trans EJ.out;obtain ⟨a0,a1,a2,a3⟩:=bY.ext bW (by rw [ja]; exact ah);have TJ:j1=l[k].cs.length:=by
             obtain ⟨A1,n1,c1',A2,c2,e,-⟩:=aW.open_;unfold plV at e;simp only [Value.agg.injEq,Array.mk.injEq,List.cons.injEq,and_true,true_and,Value.slice.injEq] at e;exact e.2.2.1
            subst TJ;have oz:=hid (gbv lv i l k FH);have ajD:=(Nh.out l[k] (List.getElem_mem FH)).1;obtain ⟨U,hU⟩:=n_m (wr.alloc (.cells #[.int .i64 l[k].lv,.bool l[k].neg,.slice C0 j0 g0,.slice C1 l[k].cs.length g1] 35));have kV:Ext wr U:=by rw [<- hU]; exact (Ext.refl _).alloc _
            obtain ⟨u0,u1,u2,u3⟩:jb U wr.heap.size l[k] (.slice C0 j0 g0) (.slice C1 l[k].cs.length g1):=by rw [<- hU]; exact jb.new wr l[k] _ _ _
            have XU:=hid (EJ.out.trans kV);have Qa:=hid (aW.ext (bW.trans kV));have Nw:=hid (HQ.out.ext kV);have Yt:=kV.size;have jE:Hid (∀ (x:Pl) (E0 E1:Option Addr) (q0 r0 q1 r1:Nat),PlV U (fun b=>b < w.heap.size) x (plV x (.slice E0 q0 r0) (.slice E1 q1 r1))->partsOf lv i l[k]=[x]->∃ v4 w4,(Builtin.append_ #[24,24] 24 #[.slice PA (qm lv i (l.take k)).length pc,.slice (some ⟨U.heap.size,0,none⟩) 1 1]).run Tryz.prog (U.alloc (.cells #[.int .i64 x.lv,.bool x.neg,.slice E0 q0 r0,.slice E1 q1 r1] 35))=.ok v4 w4/\uh w2.heap.size (fun b=>b < w2.heap.size) w4 v4 (qm lv i (l.take (k+1)))/\Ext w2 w4):=by
             refine hid ?_;intro x E0 E1 q0 r0 q1 r1 rX nU;obtain ⟨v4,w4,aH,g4,n4,r4,o4⟩:=Nw.out.push (by have:=XU.out.size; omega) (rX.mono fun b hb=>⟨fun e=>by have:=(Nw.out.own e).1; omega,by omega⟩) (by omega) 24;exact ⟨v4,w4,aH,by rw [oz.out,nU]; exact r4,wau XU.out g4 (fun R hR=>(Nw.out.own hR).1)⟩
            clear bY kV HQ
            by_cases he:l[k].lv=lv
            · have heq:(l[k].lv == lv)=true:=by simp [he]
              by_cases hic:i < l[k].cs.length
              · have nU:partsOf lv i l[k]=[l[k].cs[i]]:=by unfold partsOf; rw [if_pos he,List.getElem?_eq_getElem hic]; rfl
                obtain ⟨A1,n1,c1',A2,c2,e,-,-,-,nI⟩:=Qa.out.open_;unfold plV at e;simp only [Value.agg.injEq,Array.mk.injEq,List.cons.injEq,and_true,true_and,Value.slice.injEq] at e;obtain ⟨-,rfl,rfl⟩:=e;obtain ⟨ad2,D0,i0,DF,D1,i1,jO,rfl,I9,aa7,Tv⟩:=jc.kid nI i hic;obtain ⟨v0,v1,v2,v3⟩:=aa7;obtain ⟨v4,w4,aH,r4,x4⟩:=jE.out _ _ _ _ _ _ _ Tv nU;obtain ⟨TB,Td,rfl,-,-⟩:=r4.len;have HN:=hid r4;have VM:=hid x4;have tY:=hid aH;clear nU nI Tv r4 x4 jE aW he aH;generalize l[k].cs[i]=pk at *;generalize l[k]=p at *;go_upto_region 27 with fail
                iterate 30 (first | at_builtin | go_values | go_skip | go_guarded | go_step | go_upon | go_back | go_simp)
                refine wpList_append_run rfl (.tmp 83) (.tmp 89) _ _ rfl _ _ _ _ rfl rfl tY.out ?_;clear tY oz Nw Qa hU
                iterate 18 (first | go_values | go_skip | go_guarded | go_step | go_upon | go_back | go_simp)
                exact ⟨⟨k+1,by omega,by omega,⟨HN.out,VM.out⟩⟩,by simp [intOf]; omega⟩
              · have nU:partsOf lv i l[k]=[]:=by unfold partsOf; rw [if_pos he,List.getElem?_eq_none (by omega)]; rfl
                have HN:Hid (uh w2.heap.size (fun b=>b < w2.heap.size) U (.slice PA (qm lv i (l.take k)).length pc) (qm lv i (l.take (k+1)))):=hid (by rw [oz.out,nU,List.append_nil]; exact Nw.out);have xG:¬ l[k].lv < lv:=by omega
                clear nU jE aW he;generalize l[k]=p at *;go_wp2_with fail
                go_roundw
                case rel=>exact ⟨k+1,by omega,by go_num,⟨HN.out,XU.out⟩⟩
                case measure=>simp [intOf]; omega
            · have heq:(l[k].lv == lv)=false:=by simp [he]
              have xG:l[k].lv < lv:=by omega
              by_cases TP:i=0
              · have nU:partsOf lv i l[k]=[l[k]]:=by unfold partsOf; rw [if_neg he,if_pos ⟨xG,TP⟩]
                obtain ⟨v4,w4,aH,r4,x4⟩:=jE.out _ _ _ _ _ _ _ Qa.out nU;obtain ⟨TB,Td,rfl,-,-⟩:=r4.len;have HN:=hid r4;have VM:=hid x4;have tY:=hid aH;have aby:((i:Int) == 0)=true:=by simp [TP]
                clear nU r4 x4 jE aW he aH TP;generalize l[k]=p at *;go_upto_region 29 with fail
                iterate 30 (first | at_builtin | go_values | go_skip | go_guarded | go_step | go_upon | go_back | go_simp)
                refine wpList_append_run rfl (.tmp 100) (.tmp 102) _ _ rfl _ _ _ _ rfl rfl tY.out ?_;clear tY oz Nw Qa hU
                iterate 18 (first | go_values | go_skip | go_guarded | go_step | go_upon | go_back | go_simp)
                exact ⟨⟨k+1,by omega,by omega,⟨HN.out,VM.out⟩⟩,by simp [intOf]; omega⟩
              · have nU:partsOf lv i l[k]=[]:=by unfold partsOf; rw [if_neg he,if_neg (by omega)]
                have HN:Hid (uh w2.heap.size (fun b=>b < w2.heap.size) U (.slice PA (qm lv i (l.take k)).length pc) (qm lv i (l.take (k+1)))):=hid (by rw [oz.out,nU,List.append_nil]; exact Nw.out);have aby:((i:Int) == 0)=false:=by simp [TP]
                clear nU jE aW he;generalize l[k]=p at *;go_wp2_with fail
                go_roundw
                case rel=>exact ⟨k+1,by omega,by go_num,⟨HN.out,XU.out⟩⟩
                case measure=>simp [intOf]; omega
          · have bH:k=l.length:=by omega
            have Ie:=HQ.out;rw [bH,List.take_length] at Ie mY;have Du:jc wr (fun _=>True) (qm lv i l) PA 0:=jc.turn (Nat.le_refl _) (fun _ _ h=>h) (fun b _ _=>⟨trivial,rfl⟩) _ _ _ Ie.at_;have HC:=hid (IH.out lv dX rQ.out (qm lv i l) PA pc wr (fun p hp=>⟨(yam dX HL.out hp).1,(yam dX HL.out hp).2.2⟩) (fun p hp=>(yam dX HL.out hp).2.1) (Nat.lt_of_le_of_lt (qcb dX HL.out) GR.out) (by have:=xbd lv i l; omega) mY vM Du);rw [bH,List.take_length];have dO:Hid ((L.set i (uy (qm lv i l))).take (i+1)=((List.range sz).map fun i=>uy (qm lv i l)).take (i+1)):=by
             have h1:=kad L ((List.range sz).map fun i=>uy (qm lv i l)) i kE.out (by omega) (by rw [List.length_map,List.length_range]; exact af);rw [List.getElem_map,List.getElem_range] at h1;exact h1
            have afW:¬ (l.length:Int) < (l.length:Int):=by omega
            have PQ:=hid (aA.out.ext EJ.out);clear Ie Du bH FH mY kH HQ aA kE hk;generalize (qm lv i l).length=pn at *;generalize uy (qm lv i l)=res at *;go_wp2_with fail;refine HC.out.mono ?_;rintro e w3 ⟨v3,rfl,p3,x3⟩;obtain ⟨C0,j0,f0,C1,f1,rfl,-⟩:=id p3.open_;have yQ:=PQ.out.ext x3;obtain ⟨D0,n2,g0,D1,n3,g1,⟨r0,r1,r2,r3⟩,-⟩:=yQ.2.2 i (by omega);have bF:=yQ.2.1;have dR:=(yQ.set_ i (by omega) res (p3.mono fun b hb=>by
             have dL:wr.heap.size<=b:=hb
             exact ⟨by omega,by omega⟩)).1
            simp only at r0 r1 r2 r3;have dN:=hid dR;have X3:=hid ((HX.out.trans EJ.out).trans x3);unfold plV;clear yQ dR p3 x3 HC PQ;go_wp2_with fail
            go_roundw
            case rel=>exact ⟨i+1,by omega,by go_num,⟨_,by rw [List.length_set]; exact mr,dO.out,dN.out⟩,(((X3.out.setCell (Nat.le_refl _) _).setCell (Nat.le_refl _) _).setCell (Nat.le_refl _) _).setCell (Nat.le_refl _) _⟩
            case measure=>simp [intOf]; omega
       · have xI:i=sz:=by omega
         have pM:L=(List.range sz).map fun i=>uy (qm lv i l):=by
          have h:=kE.out;rw [xI,List.take_of_length_le (by omega),List.take_of_length_le (by simp)] at h;exact h
         have aS:=aA.out.fin (Nat.le_refl _);have JY:=gbi lv L _ sz aS (by omega) (by omega);rw [mr,pM,<- fV.out] at JY;have PN:=hid JY;have hz4:=ou.out.ext HX.out mV;have HZ4:=hid hz4;have aat:=HX.out.size;clear aS JY xI pM aA kE hz4;obtain ⟨res,mW⟩:=n_m (uy l);rw [mW] at PN;have HRS:=hid mW;clear mW;go_wp2_with fail;refine PN.out.mono ?_;rintro e w3 ⟨v3,rfl,p3,x3⟩;obtain ⟨C0,j0,f0,C1,f1,rfl,-⟩:=id p3.open_;have aQ:=HZ4.out.ext x3 (by omega);have oh:=qf (q':=fun b=>w.heap.size<=b) ((Jp.out.trans HX.out).trans x3) (Nat.le_refl _) aQ p3 (fun b _ hb=>⟨by omega,by omega⟩);have Ut:=oh;have HF:Hid (uf (fun b=>w.heap.size<=b) (uy l) w (.returned (plV res (.slice C0 j0 f0) (.slice C1 res.cs.length f1))) ((((w3.setCell ⟨w.heap.size,0,none⟩ (.int .i64 res.lv)).setCell ⟨w.heap.size,1,none⟩ (.bool res.neg)).setCell ⟨w.heap.size,2,none⟩ (.slice C0 j0 f0)).setCell ⟨w.heap.size,3,none⟩ (.slice C1 res.cs.length f1))):=by
          rw [HRS.out];exact Ut
         clear Ut;clear oh;obtain ⟨⟨z0,z1,z2,z3⟩,zf⟩:=aQ;clear x3 p3 PN;unfold plV;go_wp2_with fail;exact bodyPost_ret (v:=plV res (.slice C0 j0 f0) (.slice C1 res.cs.length f1)) (by simp [results,Tryz.results54,go_sem,z0,z1,z2,z3,plV]) rfl HF.out
theorem xcz {E D:Nat} (hE:E<=1000000) (hD:D<=17592186044000) (k:Nat):∀ n:Int,n<=k->zb7 E D n:=by
 induction k with
 | zero=>exact fun n hn=>qbt hE hD n fun m h0 hm=>by omega
 | succ k ih=>exact fun n hn=>qbt hE hD n fun m h0 hm=>ih m (by omega)
theorem zb0 {w:World} {q:Nat->Prop} {E D:Nat} (l:List Pl) (A:Option Addr) (c:Nat) (hE:E<=1000000) (hD:D<=17592186044000) (hl:∀ p ∈ l,p.Can/\p.ex E) (hn:lnr l < B32 ^ D) (hlen:l.length<=1000000) (dh:l.length<=c) (eX:c<=9223372036854775807) (h:jc w q l A 0) :
 Calls Tryz.prog 54 #[.slice A l.length c] w (uf (fun b=>w.heap.size<=b) (uy l) w):=
 xcz hE hD 5 5 (by omega) l A c w hl (fun p hp=>by have:=(hl p hp).1.lv_nonneg.2; omega) hn hlen dh eX (jc.turn (Nat.le_refl _) (fun _ _ h=>h) (fun b _ _=>⟨trivial,rfl⟩) l A 0 h)
theorem vcc:(Tryz.prog.info? 3).map (fun i=>(i.zero,i.size,i.bytes))=some (some (.int .i64 0),1,8):=by kernel_rfl
theorem wct : ga5 100 3 1 8 (.int .i64 0) where
 und:=Tryz.underlying100
 info:=vcc
 cells:=rfl
 pos:=by omega
 nodig:=by
  intro u hu;simp only [Value.cells,List.mem_singleton] at hu;rw [hu]
  rfl
def kag (base:Nat) (W:World) (v:Value) (l:List Nat):Prop:=jr 3 1 base W v l.length (l.map fun n:Nat=>.int .i64 n)
theorem kag.nil (base:Nat) (W:World):kag base W (.slice none 0 0) []:=jr.nil _ _ _ _
theorem kag.len {base:Nat} {W:World} {v:Value} {l:List Nat} (h:kag base W v l):∃ A c,v=.slice A l.length c/\l.length<=c/\c<=9223372036854775807:=jr.len h
theorem kag.at_ {base:Nat} {W:World} {v:Value} {l:List Nat} (h:kag base W v l) (k:Nat) (hk:k < l.length):∃ g c,v=.slice (some ⟨g,0,none⟩) l.length c/\base<=g/\g < W.heap.size/\W.cell? ⟨g,k,none⟩=some (.int .i64 l[k]):=by
 obtain ⟨g,c,e,h1,h2,h3,h4,-⟩:=jr.pos h (by omega);unfold kag at h;rw [e] at h;refine ⟨g,c,e,h3,h4,?_⟩;rw [jr.cell h k (by omega),List.getElem?_map,List.getElem?_eq_getElem hk]
 rfl
theorem kag.push {base:Nat} {W:World} {ov:Value} {l:List Nat} (h:kag base W ov l) (kS:base<=W.heap.size) (n:Nat) (hlen:l.length+1<=1000000000) (ty:TypeId) :
 ∃ v4 w4,(Builtin.append_ #[100,100] ty #[ov,.slice (some ⟨W.heap.size,0,none⟩) 1 1]).run Tryz.prog (W.alloc (.cells #[.int .i64 n] 3))=.ok v4 w4/\W.grownBy w4 ov.ownBlock/\kag base w4 v4 (l ++ [n]):=by
 obtain ⟨v4,w4,h1,h2,h3,-,-⟩:=jr.push wct h kS [.int .i64 n] rfl (by
  intro u hu;rw [List.mem_singleton.1 hu]
  exact ⟨rfl,rfl⟩) (by omega) (by omega) ty
 refine ⟨v4,w4,h1,h3,?_⟩;unfold kag;rw [List.length_append,List.map_append];exact h2
def prs (cs:List Pl) (n:Nat):List Nat:=(List.range n).filter fun i=>match cs[i]? with
 | some c=>!c.isZ
 | none=>false
theorem xba (cs:List Pl) (k:Nat) (h:k < cs.length):prs cs (k+1)=prs cs k ++ if cs[k].isZ then [] else [k]:=by
 unfold prs;rw [List.range_succ,List.filter_append]
 congr 1
 simp only [List.filter_cons,List.getElem?_eq_getElem h,List.filter_nil];cases cs[k].isZ <;> rfl
theorem xaw (cs:List Pl) (n:Nat):(prs cs n).length<=n:=by
 unfold prs;have:=List.length_filter_le (fun i=>match cs[i]? with | some c=>!c.isZ | none=>false) (List.range n);rw [List.length_range] at this;exact this
theorem ja7 {w:World} {q:Nat->Prop} (cs:List Pl) (A:Option Addr) (c:Nat) (h:jc w q cs A 0) (hlen:cs.length<=1000000):Calls Tryz.prog 77 #[.slice A cs.length c] w fun e w'=>∃ v,e=.returned v/\kag w.heap.size w' v (prs cs cs.length)/\Ext w w':=by
 have HH:=hid h;clear h;go_enter Tryz.func77,Tryz.ntmps77;go_wp2_with fail
 go_loopw [3,8] (fun rv iv wr=>∃ k:Nat,k<=cs.length/\iv=.int .i64 k/\Hid (kag w.heap.size wr rv (prs cs k)/\Ext w wr)) (fun _ iv _=>cs.length - (intOf iv).toNat)
 case atStart=>exact ⟨0,Nat.zero_le _,rfl,⟨by simpa [prs] using kag.nil _ _,Ext.refl w⟩⟩
 case round =>
  obtain ⟨k,hk,rfl,⟨hr,hx⟩⟩:=hrel;have HR:=hid hr;have HX:=hid hx;have oK:=hx.size;obtain ⟨RA,rc,rfl,dh,eX⟩:=hr.len;have kH:=xaw cs k;clear hr hx
  by_cases af:k < cs.length
  · obtain ⟨ad,C0,j0,g0,C1,j1,g1,rfl,ah,bY,aW⟩:=jc.kid HH.out k af;obtain ⟨a0,a1,a2,a3⟩:=bY.ext HX.out (by rw [ja]; exact ah);have dN:=hid (xba cs k af);obtain ⟨U,hU⟩:=n_m (wr.alloc (.cells #[.int .i64 cs[k].lv,.bool cs[k].neg,.slice C0 j0 g0,.slice C1 j1 g1] 35));have kV:Ext wr U:=by rw [<- hU]; exact (Ext.refl _).alloc _
    obtain ⟨u0,u1,u2,u3⟩:jb U wr.heap.size cs[k] (.slice C0 j0 g0) (.slice C1 j1 g1):=by rw [<- hU]; exact jb.new wr cs[k] _ _ _
    have gU:=hid (zae _ _ (aW.ext (HX.out.trans kV)));have XU:=hid (HX.out.trans kV);have Ns:=hid (HR.out.ext kV);unfold plV at gU;clear bY aW ah kV HR;generalize cs[k].isZ=bz at *;generalize cs[k]=p at *;go_wp2_with fail;clear hU u0 u1 u2 u3 a0 a1 a2 a3;refine gU.out.mono ?_;rintro e w2 ⟨rfl,x2⟩;have X2:=hid (XU.out.trans x2);have yG:=hid (jr.ext Ns.out x2);clear x2 gU Ns;cases bz
    · obtain ⟨v4,w4,aH,hg,Ic⟩:=kag.push yG.out X2.out.size k (by omega) 100;obtain ⟨TB,Td,rfl,-,-⟩:=Ic.len;have HN:Hid (kag w.heap.size w4 (.slice TB ((prs cs k).length+1) Td) (prs cs (k+1))):=hid (by
       rw [dN.out];rw [List.length_append] at Ic
       exact Ic)
      have VM:=hid (wau X2.out hg (fun R hR=>(jr.own yG.out hR).1));have tY:=hid aH;clear aH hg Ic;go_upto_region 6 with fail
      iterate 12 (first | at_builtin | go_values | go_skip | go_guarded | go_step | go_upon | go_back | go_simp)
      refine wpList_append_run rfl (.tmp 16) (.tmp 18) _ _ rfl _ _ _ _ rfl rfl tY.out ?_;clear tY
      iterate 18 (first | go_values | go_skip | go_guarded | go_step | go_upon | go_back | go_simp)
      exact ⟨⟨k+1,by omega,by omega,⟨HN.out,VM.out⟩⟩,by simp [intOf]; omega⟩
    · have HN:Hid (kag w.heap.size w2 (.slice RA (prs cs k).length rc) (prs cs (k+1))):=hid (by rw [dN.out,if_pos rfl,List.append_nil]; exact yG.out);go_wp2_with fail
      go_roundw
      case rel=>exact ⟨k+1,by omega,by go_num,⟨HN.out,X2.out⟩⟩
      case measure=>simp [intOf]; omega
  · have bH:k=cs.length:=by omega
    subst bH;go_wp2_with fail;go_ret;exact ⟨_,rfl,HR.out,HX.out⟩
end Go.Proofs.YtklnlgnnlmdibaaGreat
