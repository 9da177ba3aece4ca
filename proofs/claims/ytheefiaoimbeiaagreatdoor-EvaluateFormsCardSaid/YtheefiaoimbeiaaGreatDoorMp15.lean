/- Layer 22: recpoly.add. -/
import Derived.Test.YtheefiaoimbeiaaGreatDoorMp14
import Derived.Lib.MinMax
set_option linter.unusedSimpArgs false
set_option linter.unusedVariables false
set_option maxRecDepth 100000
set_option maxHeartbeats 8000000
namespace Go.Proofs.YtheefiaoimbeiaaGreatDoor
open Lib (hid)
open Go.RowKit
def yfm (E D:Nat) (n:Int):Prop:=∀ (l:List Pl) (A:Option Addr) (c:Nat) (w:World),(∀ p ∈ l,p.Can/\p.ex E)->(∀ p ∈ l,p.lv < n)->lnr l < B32 ^ D->l.length<=1000000->l.length<=c->c<=9223372036854775807->jdk w (fun _=>True) l A 0 ->
 Calls Tryz.prog 96 #[.slice A l.length c] w (gdl (fun b=>w.heap.size<=b) (jdt l) w)
theorem zea {V W w4:World} {ov:Value} (hx:Ext V W) (hg:W.grownBy w4 ov.ownBlock) (ho:∀ R,ov.ownBlock=some R->V.heap.size<=R):Ext V w4:=
 Below.grown hx hg hx.size ho
theorem ze8 {E D:Nat} (hE:E<=1000000) (hD:D<=17592186044000) (n:Int) (ih:∀ m,0 < m->m < n->yfm E D m):yfm E D n:=by
 intro l A c w hl hlv hnr hlen hc1 hc2 hat;have hcl:∀ p ∈ l,0<=p.lv/\p.lv<=4/\p.cs.length<=E+1/\(0 < p.lv->2<=p.cs.length):=fun p hp=>by
  obtain ⟨h1,h2⟩:=hl p hp;refine ⟨h1.qp.1,h1.qp.2,?_,fun h0=>?_⟩
  · obtain ⟨lv,ng,ds,cs⟩:=p;rw [Pl.ex] at h2;rcases h2 with h2 | h2
    · unfold Pl.Can at h1;rcases h1 with h | h
      · simp [Pl.cs,h.2.1]
      · omega
    · exact h2.1
  · obtain ⟨lv,ng,ds,cs⟩:=p;exact (h1.kids h0).2.2.1
 obtain ⟨hts,htp⟩:=zfn l (E+1) hcl;have HAT:=hid hat;have HL:=hid hl;have HLV:=hid hlv;have HNR:=hid hnr;have IH:=hid ih;have HTS:=hid hts;have HTP:=hid htp;have HTA:=hid (gf8 l);obtain ⟨W,hW⟩:=n_m (w.alloc (.cells #[.int .i64 0,.bool false,.slice none 0 0,.slice none 0 0] 44));have hWx:Ext w W:=by rw [<- hW]; exact (Ext.refl w).alloc _
 have hWs:W.heap.size=w.heap.size+1:=by rw [<- hW]; simp
 have hz:zdl W w.heap.size:=by rw [<- hW]; exact zdl.new w _
 have HWX:=hid hWx;have HZ:=hid hz;clear hat hl hlv hnr ih hts htp hWx hz hcl;go_enter Tryz.func96,Tryz.ntmps96;go_wp2_with fail;clear hW
 go_loopw [3,4,17] (fun av bv iv wr=>∃ k:Nat,k<=l.length/\iv=.int .i64 k/\av=.int .i64 (xdz (l.take k)).1/\bv=.int .i64 (xdz (l.take k)).2/\Hid (Ext W wr)) (fun _ _ iv _=>l.length - (intOf iv).toNat)
 case atStart=>exact ⟨0,pM _,rfl,by simp [xdz],by simp [xdz],Ext.refl W⟩
 case round =>
  obtain ⟨k,hk,rfl,rfl,rfl,hx0⟩:=hrel;have hx:Ext W wr:=hx0.out;have HX:=hid hx;have hws:=hx.size;clear hx0 hx
  by_cases hlt:k < l.length
  · obtain ⟨ad,C0,j0,g0,C1,j1,g1,rfl,abW,hnd,hkt⟩:=jdk.kid HAT.out k hlt;obtain ⟨a0,a1,a2,a3⟩:=hnd.ext (HWX.out.trans HX.out) (by rw [zc1]; exact abW);have hj1:j1=l[k].cs.length:=by
     obtain ⟨A1,n1,c1',A2,c2,e,-⟩:=hkt.open_;unfold plV at e;simp only [rS,rX,ru,and_true,true_and,Value.slice.injEq] at e;exact e.2.2.1
    subst hj1;have HST:=hid (wfm l k hlt);obtain ⟨U,hU⟩:=n_m (wr.alloc (.cells #[.int .i64 l[k].lv,.bool l[k].neg,.slice C0 j0 g0,.slice C1 l[k].cs.length g1] 44));have hUx:Ext wr U:=by rw [<- hU]; exact (Ext.refl _).alloc _
    obtain ⟨u0,u1,u2,u3⟩:jdm U wr.heap.size l[k] (.slice C0 j0 g0) (.slice C1 l[k].cs.length g1):=by rw [<- hU]; exact jdm.new wr l[k] _ _ _
    have XU:=hid (HX.out.trans hUx);clear hnd hkt abW hUx;obtain ⟨ta,tb,ht⟩:∃ ta tb,xdz (l.take k)=(ta,tb):=⟨_,_,rfl⟩;rw [ht] at HST ⊢;clear ht;simp only at HST ⊢;generalize l[k]=p at *;rcases sU ta p.lv with h | h | h
    · have HS2:=hid (HST.out.trans (xe3 h));have hmx:max (0:Int) (p.cs.length:Int)=(p.cs.length:Int):=by omega
      go_wp2_with fail
      go_roundw
      case rel=>exact ⟨k+1,by omega,by go_num,by rw [HS2.out],by rw [HS2.out],XU⟩
      case measure=>simp [intOf]; omega
    · have HS2:=hid (HST.out.trans (qe3 (a:=(ta,tb)) h.symm));have hnl:¬ ta < p.lv:=by omega
      have heq:(p.lv == ta)=true:=by simp [h]
      have HMX:Hid (max (tb:Int) (p.cs.length:Int)=((max tb p.cs.length:Nat):Int)):=hid (by omega);clear h;go_wp2_with fail
      go_roundw
      case rel=>exact ⟨k+1,by omega,by go_num,by rw [HS2.out],by rw [HS2.out]; simp only; rw [HMX.out],XU⟩
      case measure=>simp [intOf]; omega
    · have HS2:=hid (HST.out.trans (ye3 (a:=(ta,tb)) h));have hnl:¬ ta < p.lv:=by omega
      have heq:(p.lv == ta)=false:=by simp; omega
      go_wp2_with fail
      go_roundw
      case rel=>exact ⟨k+1,by omega,by go_num,by rw [HS2.out],by rw [HS2.out],XU⟩
      case measure=>simp [intOf]; omega
  · have hke:k=l.length:=by omega
    rw [hke,pw];obtain ⟨lv,sz,hts⟩:∃ lv sz,xdz l=(lv,sz):=⟨_,_,rfl⟩;rw [hts] at HTS HTP HTA ⊢;simp only at HTS HTP HTA ⊢;obtain ⟨t1,t2,t3,t4⟩:=HTS.out;have HX2:=hid (HWX.out.trans HX.out);have HZ2:=hid (HZ.out.ext HX.out (by omega));have ahr:w.heap.size < wr.heap.size:=by omega
    clear hke hts hlt hk HX HWX HZ hws hWs HTS;obtain ⟨w1,rfl⟩:∃ w1,w1=wr:=⟨wr,rfl⟩
    by_cases h0:lv=0
    · have HLZ:Hid (∀ p ∈ l,p.Can/\p.lv=0):=hid (fun p hp=>⟨(HL.out p hp).1,by have h1:=(HTP.out p hp).1; have h2:=(HL.out p hp).1.qp.1; omega⟩);have avt:(lv == 0)=true:=by simp [h0]
      have HAL:=hid (xfu HLZ.out);have aq9:inr (l.map Pl.z) < B32 ^ D:=by rw [ygr HLZ.out]; exact HNR.out
      have HN2:=hid aq9;obtain ⟨V,hmk,hVx,hVs,aaC⟩:=we3 (l.length:Int) (by omega) (by omega) w1;rw [rV] at hmk aaC;have aeB:=hid aaC;have HVX:=hid hVx;subst h0;clear aaC hVx aq9;go_wp2_with fail;clear hmk
      go_loopw [44] (fun iv wx=>∃ k:Nat,k<=l.length/\iv=.int .i64 k/\Hid ((∃ L:List Int,L.length=l.length/\L.take k=(l.map Pl.z).take k/\xef wx w1.heap.size L)/\Ext w1 wx)) (fun iv _=>l.length - (intOf iv).toNat)
      case atStart=>exact ⟨0,pM _,rfl,⟨⟨_,rp,by simp,aeB.out⟩,HVX.out⟩⟩
      case round =>
       obtain ⟨k,hk,rfl,⟨⟨L,hLl,hLt,aaC⟩,hx⟩⟩:=hrel;have HX:=hid hx;have acn:=hid aaC;have HLT:=hid hLt;have amZ:w1.heap.size < wr.heap.size:=aaC.1;clear hx aaC hLt HVX aeB
       by_cases hlt:k < l.length
       · obtain ⟨ad,C0,j0,g0,C1,j1,g1,rfl,abW,hnd,hkt⟩:=jdk.kid HAT.out k hlt;obtain ⟨a0,a1,a2,a3⟩:=hnd.ext (HX2.out.trans HX.out) (by rw [zc1]; exact abW);have hcf:=HLZ.out l[k] (pt hlt);have hfl:=kef hcf.1 hcf.2;have hng:l[k].neg=decide (l[k].z < 0):=congrArg Pl.neg hfl;have hds:l[k].ds=dg l[k].z.natAbs:=congrArg Pl.ds hfl;have abM:zb1 wr (.slice C0 j0 g0) (dg l[k].z.natAbs):=by
          obtain ⟨A1,n1,c1',A2,c2,e,hn,-⟩:=hkt.open_;unfold plV at e;simp only [rS,rX,ru,and_true,true_and] at e;rw [e.1,<- hds];exact hn.ext (HX2.out.trans HX.out)
         have ahg:Hid ((L.set k l[k].z).take (k+1)=(l.map Pl.z).take (k+1)):=by
          have h1:=kd1 L (l.map Pl.z) k HLT.out (by omega) (by rw [pC]; exact hlt);rw [rJ] at h1;exact h1
         obtain ⟨U,hU⟩:=n_m (wr.alloc (.cells #[.int .i64 l[k].lv,.bool (decide (l[k].z < 0)),.slice C0 j0 g0,.slice C1 j1 g1] 44));have hUx:Ext wr U:=by rw [<- hU]; exact (Ext.refl _).alloc _
         have u1:U.cell? ⟨wr.heap.size,1,none⟩=some (.bool (decide (l[k].z < 0))):=by rw [<- hU]; simp [go_sem]
         have u2:U.cell? ⟨wr.heap.size,2,none⟩=some (.slice C0 j0 g0):=by rw [<- hU]; simp [go_sem]
         have hru:=acn.out.ext hUx;have HST:=hid (hru.qG k (by omega) l[k].z (abM.ext hUx));have XU:=hid (HX.out.trans hUx);obtain ⟨D0,n2,d2,r0,r1,-⟩:=hru.2.2 k (by omega);have hfr:=hru.2.1;rw [hng] at a1;clear hnd hkt abW hcf hfl hng hds abM hru hUx HLT acn;generalize l[k].z=z at *;generalize l[k]=p at *;go_wp2_with fail
         go_roundw
         case rel=>exact ⟨k+1,by omega,by go_num,⟨_,by rw [pN]; exact hLl,ahg.out,HST.out⟩,(XU.out.setCell (pf _) _).setCell (pf _) _⟩
         case measure=>simp [intOf]; omega
       · have hke:k=l.length:=by omega
         have hLe:L=l.map Pl.z:=by
          have h:=HLT.out;rw [hke,show l.length=(l.map Pl.z).length by rw [pC],pw,pC,<- hLl,pw] at h;exact h
         have acb:=acn.out.fin l.length (by omega) (by omega);rw [hLe,pC] at acb;have HSU:=hid (zf9 acb HN2.out hD);have HZ3:=hid (HZ2.out.ext HX.out ahr);clear acb acn HLT hLe hke;go_wp2_with fail;refine HSU.out.mono ?_;rintro e w2 ⟨z2,rfl,⟨y2,rfl,m2⟩,x2⟩;obtain ⟨C2,k2,rfl,-⟩:=id m2;have hzn:=HZ3.out.ext x2 (by omega);have HF:Hid (gdl (fun b=>w.heap.size<=b) (jdt l) w (.returned (plV (Pl.const (gdt (l.map Pl.z))) (.slice C2 (dg (gdt (l.map Pl.z)).natAbs).length k2) (.slice none 0 0))) ((((w2.setCell ⟨w.heap.size,0,none⟩ (.int .i64 0)).setCell ⟨w.heap.size,1,none⟩ (.bool (decide (gdt (l.map Pl.z) < 0)))).setCell ⟨w.heap.size,2,none⟩ (.slice C2 (dg (gdt (l.map Pl.z)).natAbs).length k2)).setCell ⟨w.heap.size,3,none⟩ (.slice none 0 0))):=by
          rw [HAL.out];exact zdm (p:=Pl.const (gdt (l.map Pl.z))) (q:=fun _=>False) ((HX2.out.trans HX.out).trans x2) (pf _) hzn (PlV.mk (t:=Pl.const (gdt (l.map Pl.z))) (A:=none) (c:=0) m2 (pf _) (by omega) (by unfold Pl.const Pl.cs jdk; trivial)) (fun b _ h=>h.elim)
         obtain ⟨⟨z0,z1,z2',z3⟩,zf⟩:=hzn;clear x2 m2 HSU;generalize gdt (l.map Pl.z)=S at *;go_wp2_with fail;exact bodyPost_ret (v:=plV (Pl.const S) (.slice C2 (dg S.natAbs).length k2) (.slice none 0 0)) (by simp [results,Tryz.results96,go_sem,z0,z1,z2',z3,plV,Pl.const,Pl.lv,Pl.neg]) rfl HF.out
    · have avt:(lv == 0)=false:=by simp [h0]
      have adT:0 < lv:=by omega
      have arv:lv < n:=by
       obtain ⟨p,hp,e⟩:=HTA.out adT;have:=HLV.out p hp;omega
      have akC:1<=sz:=by have:=t4 adT; omega
      have HLE:=hid (kfl adT t2 akC HL.out HTP.out);obtain ⟨V,hmk,hVx,hVs,aaC⟩:=jd9 (sz:Int) (by omega) (by omega) w1;rw [rV] at hmk aaC;have aeB:=hid (aaC (fun i=>w1.heap.size<=i));have HVX:=hid hVx;have HH:=hid h0;have HLN:=hid arv;have ase:jdk w (fun b=>b < w.heap.size) l A 0:=jdk.ql (pf _) (fun _ _ h=>h) (fun b hb _=>⟨hb,rfl⟩) l A 0 HAT.out;have axi:=hid ase;clear aaC hVx h0 arv ase;go_wp2_with fail;clear hmk
      go_loopw [62] (fun iv wx=>∃ i:Nat,i<=sz/\iv=.int .i64 i/\Hid ((∃ L:List Pl,L.length=sz/\L.take i=((List.range sz).map fun i=>jdt (kdn lv i l)).take i/\yd9 wx (fun b=>w1.heap.size<=b) w1.heap.size L)/\Ext w1 wx)) (fun iv _=>sz - (intOf iv).toNat)
      case atStart=>exact ⟨0,pM _,rfl,⟨⟨_,rp,by simp,aeB.out⟩,HVX.out⟩⟩
      case round =>
       obtain ⟨i,hi,rfl,⟨⟨L,hLl,hLt,aaC⟩,hx⟩⟩:=hrel;have HX:=hid hx;have acn:=hid aaC;have HLT:=hid hLt;have amZ:w1.heap.size < wr.heap.size:=aaC.1;clear hx aaC hLt HVX aeB;obtain ⟨w2,rfl⟩:∃ w2,w2=wr:=⟨wr,rfl⟩
       by_cases hlt:i < sz
       · have HX3:=hid (HX2.out.trans HX.out);have aAe:w.heap.size<=w2.heap.size:=HX3.out.size;go_wp2_with fail
         go_loopw [12,67] (fun pv kv wx=>∃ k:Nat,k<=l.length/\kv=.int .i64 k/\Hid (kdq w2.heap.size (fun b=>b < w2.heap.size) wx pv (kdn lv i (l.take k))/\Ext w2 wx)) (fun _ kv _=>l.length - (intOf kv).toNat)
         case atStart=>exact ⟨0,pM _,rfl,⟨by simpa [kdn] using kdq.nil _ _ _,Ext.refl _⟩⟩
         case round =>
          obtain ⟨k,hk,rfl,⟨hq,hx⟩⟩:=hrel;have HQ:=hid hq;have HXI:=hid hx;have aAd:=hx.size;obtain ⟨PA,pc,rfl,hp1,hp2⟩:=hq.len;have hpl:=uer lv i (l.take k);rw [px] at hpl;clear hx hq
          by_cases amM:k < l.length
          · obtain ⟨ad,C0,j0,g0,C1,j1,g1,rfl,abW,hnd,hkt⟩:=jdk.kid axi.out k amM;have hxx:=HX3.out.trans HXI.out;obtain ⟨a0,a1,a2,a3⟩:=hnd.ext hxx (by rw [zc1]; exact abW);have hj1:j1=l[k].cs.length:=by
             obtain ⟨A1,n1,c1',A2,c2,e,-⟩:=hkt.open_;unfold plV at e;simp only [rS,rX,ru,and_true,true_and,Value.slice.injEq] at e;exact e.2.2.1
            subst hj1;have HTK:=hid (kfa lv i l k amM);have aAG:=(HTP.out l[k] (pt amM)).1;obtain ⟨U,hU⟩:=n_m (wr.alloc (.cells #[.int .i64 l[k].lv,.bool l[k].neg,.slice C0 j0 g0,.slice C1 l[k].cs.length g1] 44));have hUx:Ext wr U:=by rw [<- hU]; exact (Ext.refl _).alloc _
            obtain ⟨u0,u1,u2,u3⟩:jdm U wr.heap.size l[k] (.slice C0 j0 g0) (.slice C1 l[k].cs.length g1):=by rw [<- hU]; exact jdm.new wr l[k] _ _ _
            have XU:=hid (HXI.out.trans hUx);have HKT:=hid (hkt.ext (hxx.trans hUx));have HQU:=hid (HQ.out.ext hUx);have hUs:=hUx.size;have aeC:Hid (∀ (x:Pl) (E0 E1:Option Addr) (q0 r0 q1 r1:Nat),PlV U (fun b=>b < w.heap.size) x (plV x (.slice E0 q0 r0) (.slice E1 q1 r1))->partsOf lv i l[k]=[x]->∃ v4 w4,(Builtin.append_ #[42,42] 42 #[.slice PA (kdn lv i (l.take k)).length pc,.slice (some ⟨U.heap.size,0,none⟩) 1 1]).run Tryz.prog (U.alloc (.cells #[.int .i64 x.lv,.bool x.neg,.slice E0 q0 r0,.slice E1 q1 r1] 44))=.ok v4 w4/\kdq w2.heap.size (fun b=>b < w2.heap.size) w4 v4 (kdn lv i (l.take (k+1)))/\Ext w2 w4):=by
             refine hid ?_;intro x E0 E1 q0 r0 q1 r1 hxv hpo;obtain ⟨v4,w4,ab3,g4,n4,r4,o4⟩:=HQU.out.push (by have:=XU.out.size; omega) (hxv.mono fun b hb=>⟨fun e=>by have:=(HQU.out.own e).1; omega,by omega⟩) (by omega) 42;exact ⟨v4,w4,ab3,by rw [HTK.out,hpo]; exact r4,zea XU.out g4 (fun R hR=>(HQU.out.own hR).1)⟩
            clear hnd hUx HQ
            by_cases he:l[k].lv=lv
            · have heq:(l[k].lv == lv)=true:=by simp [he]
              by_cases hic:i < l[k].cs.length
              · have hpo:partsOf lv i l[k]=[l[k].cs[i]]:=by unfold partsOf; rw [if_pos he,pq hic]; rfl
                obtain ⟨A1,n1,c1',A2,c2,e,-,-,-,adw⟩:=HKT.out.open_;unfold plV at e;simp only [rS,rX,ru,and_true,true_and,Value.slice.injEq] at e;obtain ⟨-,rfl,rfl⟩:=e;obtain ⟨ad2,D0,i0,h0',D1,i1,h1',rfl,ayv,avn,arC⟩:=jdk.kid adw i hic;obtain ⟨v0,v1,v2,v3⟩:=avn;obtain ⟨v4,w4,ab3,r4,x4⟩:=aeC.out _ _ _ _ _ _ _ arC hpo;obtain ⟨TB,Td,rfl,-,-⟩:=r4.len;have HN:=hid r4;have HX4:=hid x4;have afU:=hid ab3;clear hpo adw arC r4 x4 aeC hkt he ab3;generalize l[k].cs[i]=pk at *;generalize l[k]=p at *;go_upto_region 27 with fail
                iterate 30 (first | at_builtin | go_values | go_skip | go_guarded | go_step | go_upon | go_back | go_simp)
                refine wpList_append_run rfl (.tmp 83) (.tmp 89) _ _ rfl _ _ _ _ rfl rfl afU.out ?_;clear afU HTK HQU HKT hU
                iterate 18 (first | go_values | go_skip | go_guarded | go_step | go_upon | go_back | go_simp)
                exact ⟨⟨k+1,by omega,by omega,⟨HN.out,HX4.out⟩⟩,by simp [intOf]; omega⟩
              · have hpo:partsOf lv i l[k]=[]:=by unfold partsOf; rw [if_pos he,sA (by omega)]; rfl
                have HN:Hid (kdq w2.heap.size (fun b=>b < w2.heap.size) U (.slice PA (kdn lv i (l.take k)).length pc) (kdn lv i (l.take (k+1)))):=hid (by rw [HTK.out,hpo,tm]; exact HQU.out);have hnl:¬ l[k].lv < lv:=by omega
                clear hpo aeC hkt he;generalize l[k]=p at *;go_wp2_with fail
                go_roundw
                case rel=>exact ⟨k+1,by omega,by go_num,⟨HN.out,XU.out⟩⟩
                case measure=>simp [intOf]; omega
            · have heq:(l[k].lv == lv)=false:=by simp [he]
              have hnl:l[k].lv < lv:=by omega
              by_cases hi0:i=0
              · have hpo:partsOf lv i l[k]=[l[k]]:=by unfold partsOf; rw [if_neg he,if_pos ⟨hnl,hi0⟩]
                obtain ⟨v4,w4,ab3,r4,x4⟩:=aeC.out _ _ _ _ _ _ _ HKT.out hpo;obtain ⟨TB,Td,rfl,-,-⟩:=r4.len;have HN:=hid r4;have HX4:=hid x4;have afU:=hid ab3;have avG:((i:Int) == 0)=true:=by simp [hi0]
                clear hpo r4 x4 aeC hkt he ab3 hi0;generalize l[k]=p at *;go_upto_region 29 with fail
                iterate 30 (first | at_builtin | go_values | go_skip | go_guarded | go_step | go_upon | go_back | go_simp)
                refine wpList_append_run rfl (.tmp 100) (.tmp 102) _ _ rfl _ _ _ _ rfl rfl afU.out ?_;clear afU HTK HQU HKT hU
                iterate 18 (first | go_values | go_skip | go_guarded | go_step | go_upon | go_back | go_simp)
                exact ⟨⟨k+1,by omega,by omega,⟨HN.out,HX4.out⟩⟩,by simp [intOf]; omega⟩
              · have hpo:partsOf lv i l[k]=[]:=by unfold partsOf; rw [if_neg he,if_neg (by omega)]
                have HN:Hid (kdq w2.heap.size (fun b=>b < w2.heap.size) U (.slice PA (kdn lv i (l.take k)).length pc) (kdn lv i (l.take (k+1)))):=hid (by rw [HTK.out,hpo,tm]; exact HQU.out);have avG:((i:Int) == 0)=false:=by simp [hi0]
                clear hpo aeC hkt he;generalize l[k]=p at *;go_wp2_with fail
                go_roundw
                case rel=>exact ⟨k+1,by omega,by go_num,⟨HN.out,XU.out⟩⟩
                case measure=>simp [intOf]; omega
          · have hke:k=l.length:=by omega
            have hq2:=HQ.out;rw [hke,pw] at hq2 hp1;have asf:jdk wr (fun _=>True) (kdn lv i l) PA 0:=jdk.ql (pf _) (fun _ _ h=>h) (fun b _ _=>⟨trivial,rfl⟩) _ _ _ hq2.at_;have HC:=hid (IH.out lv adT HLN.out (kdn lv i l) PA pc wr (fun p hp=>⟨(yd7 adT HL.out hp).1,(yd7 adT HL.out hp).2.2⟩) (fun p hp=>(yd7 adT HL.out hp).2.1) (sC (xfq adT HL.out) HNR.out) (by have:=uer lv i l; omega) hp1 hp2 asf);rw [hke,pw];have ahg:Hid ((L.set i (jdt (kdn lv i l))).take (i+1)=((List.range sz).map fun i=>jdt (kdn lv i l)).take (i+1)):=by
             have h1:=kd1 L ((List.range sz).map fun i=>jdt (kdn lv i l)) i HLT.out (by omega) (by rw [pC,uF]; exact hlt);rw [rJ,uo] at h1;exact h1
            have ax4:¬ (l.length:Int) < (l.length:Int):=by omega
            have HRW:=hid (acn.out.ext HXI.out);clear hq2 asf hke amM hp1 hpl HQ acn HLT hk;generalize (kdn lv i l).length=pn at *;generalize jdt (kdn lv i l)=res at *;go_wp2_with fail;refine HC.out.mono ?_;rintro e w3 ⟨v3,rfl,p3,x3⟩;obtain ⟨C0,j0,f0,C1,f1,rfl,-⟩:=id p3.open_;have hr3:=HRW.out.ext x3;obtain ⟨D0,n2,g0,D1,n3,g1,⟨r0,r1,r2,r3⟩,-⟩:=hr3.2.2 i (by omega);have hfr:=hr3.2.1;have hst:=(hr3.qG i (by omega) res (p3.mono fun b hb=>by
             have hb':wr.heap.size<=b:=hb
             exact ⟨by omega,by omega⟩)).1
            simp only at r0 r1 r2 r3;have HST:=hid hst;have X3:=hid ((HX.out.trans HXI.out).trans x3);unfold plV;clear hr3 hst p3 x3 HC HRW;go_wp2_with fail
            go_roundw
            case rel=>exact ⟨i+1,by omega,by go_num,⟨_,by rw [pN]; exact hLl,ahg.out,HST.out⟩,(((X3.out.setCell (pf _) _).setCell (pf _) _).setCell (pf _) _).setCell (pf _) _⟩
            case measure=>simp [intOf]; omega
       · have hie:i=sz:=by omega
         have hLe:L=(List.range sz).map fun i=>jdt (kdn lv i l):=by
          have h:=HLT.out;rw [hie,pA (by omega),pA (by simp)] at h;exact h
         have acb:=acn.out.fin (pf _);have htr:=zey lv L _ sz acb (by omega) (by omega);rw [hLl,hLe,<- HLE.out] at htr;have HTR:=hid htr;have hz4:=HZ2.out.ext HX.out ahr;have HZ4:=hid hz4;have auU:=HX.out.size;clear acb htr hie hLe acn HLT hz4;obtain ⟨res,aed⟩:=n_m (jdt l);rw [aed] at HTR;have HRS:=hid aed;clear aed;go_wp2_with fail;refine HTR.out.mono ?_;rintro e w3 ⟨v3,rfl,p3,x3⟩;obtain ⟨C0,j0,f0,C1,f1,rfl,-⟩:=id p3.open_;have hzn:=HZ4.out.ext x3 (by omega);have hcl:=zdm (q':=fun b=>w.heap.size<=b) ((HX2.out.trans HX.out).trans x3) (pf _) hzn p3 (fun b _ hb=>⟨by omega,by omega⟩);have ar4:=hcl;have HF:Hid (gdl (fun b=>w.heap.size<=b) (jdt l) w (.returned (plV res (.slice C0 j0 f0) (.slice C1 res.cs.length f1))) ((((w3.setCell ⟨w.heap.size,0,none⟩ (.int .i64 res.lv)).setCell ⟨w.heap.size,1,none⟩ (.bool res.neg)).setCell ⟨w.heap.size,2,none⟩ (.slice C0 j0 f0)).setCell ⟨w.heap.size,3,none⟩ (.slice C1 res.cs.length f1))):=by
          rw [HRS.out];exact ar4
         clear ar4;clear hcl;obtain ⟨⟨z0,z1,z2,z3⟩,zf⟩:=hzn;clear x3 p3 HTR;unfold plV;go_wp2_with fail;exact bodyPost_ret (v:=plV res (.slice C0 j0 f0) (.slice C1 res.cs.length f1)) (by simp [results,Tryz.results96,go_sem,z0,z1,z2,z3,plV]) rfl HF.out
theorem jgp {E D:Nat} (hE:E<=1000000) (hD:D<=17592186044000) (k:Nat):∀ n:Int,n<=k->yfm E D n:=by
 induction k with
 | zero=>exact fun n hn=>ze8 hE hD n fun m h0 hm=>by omega
 | succ k ih=>exact fun n hn=>ze8 hE hD n fun m h0 hm=>ih m (by omega)
theorem kfe {w:World} {q:Nat->Prop} {E D:Nat} (l:List Pl) (A:Option Addr) (c:Nat) (hE:E<=1000000) (hD:D<=17592186044000) (hl:∀ p ∈ l,p.Can/\p.ex E) (hn:lnr l < B32 ^ D) (hlen:l.length<=1000000) (hc1:l.length<=c) (hc2:c<=9223372036854775807) (h:jdk w q l A 0) :
 Calls Tryz.prog 96 #[.slice A l.length c] w (gdl (fun b=>w.heap.size<=b) (jdt l) w):=
 jgp hE hD 5 5 (by omega) l A c w hl (fun p hp=>by have:=(hl p hp).1.qp.2; omega) hn hlen hc1 hc2 (jdk.ql (pf _) (fun _ _ h=>h) (fun b _ _=>⟨trivial,rfl⟩) l A 0 h)
theorem ufr:(Tryz.prog.info? 3).map (fun i=>(i.zero,i.size,i.bytes))=some (some (.int .i64 0),1,8):=by kernel_rfl
theorem kgf : vee 81 3 1 8 (.int .i64 0) where
 und:=Tryz.underlying81
 info:=ufr
 cells:=rfl
 pos:=by omega
 nodig:=by
  intro u hu;simp only [Value.cells,rb] at hu;rw [hu]
  rfl
def qd1 (base:Nat) (W:World) (v:Value) (l:List Nat):Prop:=vdm 3 1 base W v l.length (l.map fun n:Nat=>.int .i64 n)
theorem qd1.nil (base:Nat) (W:World):qd1 base W (.slice none 0 0) []:=vdm.nil _ _ _ _
theorem qd1.len {base:Nat} {W:World} {v:Value} {l:List Nat} (h:qd1 base W v l):∃ A c,v=.slice A l.length c/\l.length<=c/\c<=9223372036854775807:=vdm.len h
theorem qd1.at_ {base:Nat} {W:World} {v:Value} {l:List Nat} (h:qd1 base W v l) (k:Nat) (hk:k < l.length):∃ g c,v=.slice (some ⟨g,0,none⟩) l.length c/\base<=g/\g < W.heap.size/\W.cell? ⟨g,k,none⟩=some (.int .i64 l[k]):=by
 obtain ⟨g,c,e,h1,h2,h3,h4,-⟩:=vdm.pos h (by omega);unfold qd1 at h;rw [e] at h;refine ⟨g,c,e,h3,h4,?_⟩;rw [vdm.cell h k (by omega),List.getElem?_map,pq hk]
 rfl
theorem qd1.push {base:Nat} {W:World} {ov:Value} {l:List Nat} (h:qd1 base W ov l) (adW:base<=W.heap.size) (n:Nat) (hlen:l.length+1<=1000000000) (ty:TypeId) :
 ∃ v4 w4,(Builtin.append_ #[81,81] ty #[ov,.slice (some ⟨W.heap.size,0,none⟩) 1 1]).run Tryz.prog (W.alloc (.cells #[.int .i64 n] 3))=.ok v4 w4/\W.grownBy w4 ov.ownBlock/\qd1 base w4 v4 (l ++ [n]):=by
 obtain ⟨v4,w4,h1,h2,h3,-,-⟩:=vdm.push kgf h adW [.int .i64 n] rfl (by
  intro u hu;rw [rb.1 hu]
  exact ⟨rfl,rfl⟩) (by omega) (by omega) ty
 refine ⟨v4,w4,h1,h3,?_⟩;unfold qd1;rw [pz,rC];exact h2
def prs (cs:List Pl) (n:Nat):List Nat:=(List.range n).filter fun i=>match cs[i]? with
 | some c=>!c.xw
 | none=>false
theorem kep (cs:List Pl) (k:Nat) (h:k < cs.length):prs cs (k+1)=prs cs k ++ if cs[k].xw then [] else [k]:=by
 unfold prs;rw [List.range_succ,tz]
 congr 1
 simp only [ri,pq h,List.filter_nil];cases cs[k].xw <;> rfl
theorem jef (cs:List Pl) (n:Nat):(prs cs n).length<=n:=by
 unfold prs;have:=te (fun i=>match cs[i]? with | some c=>!c.xw | none=>false) (List.range n);rw [uF] at this;exact this
theorem zen {w:World} {q:Nat->Prop} (cs:List Pl) (A:Option Addr) (c:Nat) (h:jdk w q cs A 0) (hlen:cs.length<=1000000):Calls Tryz.prog 150 #[.slice A cs.length c] w fun e w'=>∃ v,e=.returned v/\qd1 w.heap.size w' v (prs cs cs.length)/\Ext w w':=by
 have HH:=hid h;clear h;go_enter Tryz.func150,Tryz.ntmps150;go_wp2_with fail
 go_loopw [3,8] (fun rv iv wr=>∃ k:Nat,k<=cs.length/\iv=.int .i64 k/\Hid (qd1 w.heap.size wr rv (prs cs k)/\Ext w wr)) (fun _ iv _=>cs.length - (intOf iv).toNat)
 case atStart=>exact ⟨0,pM _,rfl,⟨by simpa [prs] using qd1.nil _ _,Ext.refl w⟩⟩
 case round =>
  obtain ⟨k,hk,rfl,⟨hr,hx⟩⟩:=hrel;have HR:=hid hr;have HX:=hid hx;have hws:=hx.size;obtain ⟨RA,rc,rfl,hc1,hc2⟩:=hr.len;have hpl:=jef cs k;clear hr hx
  by_cases hlt:k < cs.length
  · obtain ⟨ad,C0,j0,g0,C1,j1,g1,rfl,abW,hnd,hkt⟩:=jdk.kid HH.out k hlt;obtain ⟨a0,a1,a2,a3⟩:=hnd.ext HX.out (by rw [zc1]; exact abW);have HST:=hid (kep cs k hlt);obtain ⟨U,hU⟩:=n_m (wr.alloc (.cells #[.int .i64 cs[k].lv,.bool cs[k].neg,.slice C0 j0 g0,.slice C1 j1 g1] 44));have hUx:Ext wr U:=by rw [<- hU]; exact (Ext.refl _).alloc _
    obtain ⟨u0,u1,u2,u3⟩:jdm U wr.heap.size cs[k] (.slice C0 j0 g0) (.slice C1 j1 g1):=by rw [<- hU]; exact jdm.new wr cs[k] _ _ _
    have HIZ:=hid (gd0 _ _ (hkt.ext (HX.out.trans hUx)));have XU:=hid (HX.out.trans hUx);have HRU:=hid (HR.out.ext hUx);unfold plV at HIZ;clear hnd hkt abW hUx HR;generalize cs[k].xw=bz at *;generalize cs[k]=p at *;go_wp2_with fail;clear hU u0 u1 u2 u3 a0 a1 a2 a3;refine HIZ.out.mono ?_;rintro e w2 ⟨rfl,x2⟩;have X2:=hid (XU.out.trans x2);have HR2:=hid (vdm.ext HRU.out x2);clear x2 HIZ HRU;cases bz
    · obtain ⟨v4,w4,ab3,hg,hr4⟩:=qd1.push HR2.out X2.out.size k (by omega) 81;obtain ⟨TB,Td,rfl,-,-⟩:=hr4.len;have HN:Hid (qd1 w.heap.size w4 (.slice TB ((prs cs k).length+1) Td) (prs cs (k+1))):=hid (by
       rw [HST.out];rw [pz] at hr4
       exact hr4)
      have HX4:=hid (zea X2.out hg (fun R hR=>(vdm.own HR2.out hR).1));have afU:=hid ab3;clear ab3 hg hr4;go_upto_region 6 with fail
      iterate 12 (first | at_builtin | go_values | go_skip | go_guarded | go_step | go_upon | go_back | go_simp)
      refine wpList_append_run rfl (.tmp 16) (.tmp 18) _ _ rfl _ _ _ _ rfl rfl afU.out ?_;clear afU
      iterate 18 (first | go_values | go_skip | go_guarded | go_step | go_upon | go_back | go_simp)
      exact ⟨⟨k+1,by omega,by omega,⟨HN.out,HX4.out⟩⟩,by simp [intOf]; omega⟩
    · have HN:Hid (qd1 w.heap.size w2 (.slice RA (prs cs k).length rc) (prs cs (k+1))):=hid (by rw [HST.out,if_pos rfl,tm]; exact HR2.out);go_wp2_with fail
      go_roundw
      case rel=>exact ⟨k+1,by omega,by go_num,⟨HN.out,X2.out⟩⟩
      case measure=>simp [intOf]; omega
  · have hke:k=cs.length:=by omega
    subst hke;go_wp2_with fail;go_ret;exact ⟨_,rfl,HR.out,HX.out⟩
end Go.Proofs.YtheefiaoimbeiaaGreatDoor
