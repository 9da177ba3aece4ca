/- Layer 22: recpoly.add. -/
import Derived.Test.YtopddaabiinboaaGreatMp17
import Derived.Test.YtopddaabiinboaaGreatMp16
import Derived.Lib.MinMax
import Derived.Test.YtopddaabiinboaaGreatMp18
import Derived.Test.YtopddaabiinboaaGreatMp24
import Derived.Test.YtopddaabiinboaaGreatMp15
import Derived.Test.YtopddaabiinboaaGreatMp2
import Derived.Test.YtopddaabiinboaaGreatMp6
set_option linter.unusedSimpArgs false
set_option linter.unusedVariables false

set_option maxRecDepth 100000
set_option maxHeartbeats 8000000
namespace Go.Proofs.YtopddaabiinboaaGreat
open Go.RowKit
def jie (E D:Nat) (n:Int):Prop:=∀ (l:List Pl) (A:Option Addr) (c:Nat) (w:World),(∀ p ∈ l,p.Can/\p.ex E)->(∀ p ∈ l,p.lv < n)->lnr l < B32 ^ D->l.length<=1000000->l.length<=c->c<=9223372036854775807->kc3 w (fun _=>True) l A 0 ->
 Calls Tryz.prog 23 #[.slice A l.length c] w (vc4 (fun b=>w.heap.size<=b) (kdh l) w)
theorem wik {V W w4:World} {ov:Value} (hx:Ext V W) (hg:W.grownBy w4 ov.ownBlock) (ho:∀ R,ov.ownBlock=some R->V.heap.size<=R):Ext V w4:=
 Below.grown hx hg hx.size ho
theorem whz {E D:Nat} (hE:E<=1000000) (hD:D<=17592186044000) (n:Int) (ih:∀ m,0 < m->m < n->jie E D m):jie E D n:=by
 intro l A c w hl hlv hnr hlen hc1 hc2 hat;have hcl:∀ p ∈ l,0<=p.lv/\p.lv<=4/\p.cs.length<=E+1/\(0 < p.lv->2<=p.cs.length):=fun p hp=>by
  obtain ⟨h1,h2⟩:=hl p hp;refine ⟨h1.lv_nonneg.1,h1.lv_nonneg.2,?_,fun h0=>?_⟩
  · obtain ⟨lv,ng,ds,cs⟩:=p;rw [Pl.ex] at h2;rcases h2 with h2 | h2
    · unfold Pl.Can at h1;rcases h1 with h | h
      · simp [Pl.cs,h.2.1]
      · omega
    · exact h2.1
  · obtain ⟨lv,ng,ds,cs⟩:=p;exact (h1.kids h0).2.2.1
 obtain ⟨hts,htp⟩:=gie l (E+1) hcl;have HAT:=Lib.hid hat;have HL:=Lib.hid hl;have HLV:=Lib.hid hlv;have HNR:=Lib.hid hnr;have IH:=Lib.hid ih;have HTS:=Lib.hid hts;have HTP:=Lib.hid htp;have HTA:=Lib.hid (wix l);obtain ⟨W,hW⟩:=n_m (w.alloc (.cells #[.int .i64 0,.bool false,.slice none 0 0,.slice none 0 0] 30));have hWx:Ext w W:=by rw [<- hW]; exact (Ext.refl w).alloc _
 have hWs:W.heap.size=w.heap.size+1:=by rw [<- hW]; simp
 have hz:yc5 W w.heap.size:=by rw [<- hW]; exact yc5.new w _
 have HWX:=Lib.hid hWx;have HZ:=Lib.hid hz;clear hat hl hlv hnr ih hts htp hWx hz hcl;go_enter Tryz.func23,Tryz.ntmps23;go_wp2_with fail;clear hW
 go_loopw [3,4,17] (fun av bv iv wr=>∃ k:Nat,k<=l.length/\iv=.int .i64 k/\av=.int .i64 (xdg (l.take k)).1/\bv=.int .i64 (xdg (l.take k)).2/\Hid (Ext W wr)) (fun _ _ iv _=>l.length - (intOf iv).toNat)
 case atStart=>exact ⟨0,Nat.zero_le _,rfl,by simp [xdg],by simp [xdg],Ext.refl W⟩
 case round =>
  obtain ⟨k,hk,rfl,rfl,rfl,hx0⟩:=hrel;have hx:Ext W wr:=hx0.out;have HX:=Lib.hid hx;have hws:=hx.size;clear hx0 hx
  by_cases hlt:k < l.length
  · obtain ⟨ad,C0,j0,g0,C1,j1,g1,rfl,hadb,hnd,hkt⟩:=kc3.kid HAT.out k hlt;obtain ⟨a0,a1,a2,a3⟩:=hnd.ext (HWX.out.trans HX.out) (by rw [uc2]; exact hadb);have hj1:j1=l[k].cs.length:=by
     obtain ⟨A1,n1,c1',A2,c2,e,-⟩:=hkt.open_;unfold plV at e;simp only [Value.agg.injEq,Array.mk.injEq,List.cons.injEq,and_true,true_and,Value.slice.injEq] at e;exact e.2.2.1
    subst hj1;have HST:=Lib.hid (uie l k hlt);obtain ⟨U,hU⟩:=n_m (wr.alloc (.cells #[.int .i64 l[k].lv,.bool l[k].neg,.slice C0 j0 g0,.slice C1 l[k].cs.length g1] 30));have hUx:Ext wr U:=by rw [<- hU]; exact (Ext.refl _).alloc _
    obtain ⟨u0,u1,u2,u3⟩:yc3 U wr.heap.size l[k] (.slice C0 j0 g0) (.slice C1 l[k].cs.length g1):=by rw [<- hU]; exact yc3.new wr l[k] _ _ _
    have XU:=Lib.hid (HX.out.trans hUx);clear hnd hkt hadb hUx;obtain ⟨ta,tb,ht⟩:∃ ta tb,xdg (l.take k)=(ta,tb):=⟨_,_,rfl⟩;rw [ht] at HST ⊢;clear ht;simp only at HST ⊢;generalize l[k]=p at *;rcases Int.lt_trichotomy ta p.lv with h | h | h
    · have HS2:=Lib.hid (HST.out.trans (jht h));have hmx:max (0:Int) (p.cs.length:Int)=(p.cs.length:Int):=by omega
      go_wp2_with fail
      go_roundw
      case rel=>exact ⟨k+1,by omega,by go_num,by rw [HS2.out],by rw [HS2.out],XU⟩
      case measure=>simp [intOf]; omega
    · have HS2:=Lib.hid (HST.out.trans (kht (a:=(ta,tb)) h.symm));have hnl:¬ ta < p.lv:=by omega
      have heq:(p.lv == ta)=true:=by simp [h]
      have HMX:Hid (max (tb:Int) (p.cs.length:Int)=((max tb p.cs.length:Nat):Int)):=Lib.hid (by omega);clear h;go_wp2_with fail
      go_roundw
      case rel=>exact ⟨k+1,by omega,by go_num,by rw [HS2.out],by rw [HS2.out]; simp only; rw [HMX.out],XU⟩
      case measure=>simp [intOf]; omega
    · have HS2:=Lib.hid (HST.out.trans (qht (a:=(ta,tb)) h));have hnl:¬ ta < p.lv:=by omega
      have heq:(p.lv == ta)=false:=by simp; omega
      go_wp2_with fail
      go_roundw
      case rel=>exact ⟨k+1,by omega,by go_num,by rw [HS2.out],by rw [HS2.out],XU⟩
      case measure=>simp [intOf]; omega
  · have hke:k=l.length:=by omega
    rw [hke,List.take_length];obtain ⟨lv,sz,hts⟩:∃ lv sz,xdg l=(lv,sz):=⟨_,_,rfl⟩;rw [hts] at HTS HTP HTA ⊢;simp only at HTS HTP HTA ⊢;obtain ⟨t1,t2,t3,t4⟩:=HTS.out;have HX2:=Lib.hid (HWX.out.trans HX.out);have HZ2:=Lib.hid (HZ.out.ext HX.out (by omega));have hws2:w.heap.size < wr.heap.size:=by omega
    clear hke hts hlt hk HX HWX HZ hws hWs HTS;obtain ⟨w1,rfl⟩:∃ w1,w1=wr:=⟨wr,rfl⟩
    by_cases h0:lv=0
    · have HLZ:Hid (∀ p ∈ l,p.Can/\p.lv=0):=Lib.hid (fun p hp=>⟨(HL.out p hp).1,by have h1:=(HTP.out p hp).1; have h2:=(HL.out p hp).1.lv_nonneg.1; omega⟩);have hlz2:(lv == 0)=true:=by simp [h0]
      have HAL:=Lib.hid (vil HLZ.out);have hnr2:inr (l.map Pl.z) < B32 ^ D:=by rw [gja HLZ.out]; exact HNR.out
      have HN2:=Lib.hid hnr2;obtain ⟨V,hmk,hVx,hVs,hrow⟩:=qha (l.length:Int) (by omega) (by omega) w1;rw [Int.toNat_natCast] at hmk hrow;have HROW:=Lib.hid hrow;have HVX:=Lib.hid hVx;subst h0;clear hrow hVx hnr2;go_wp2_with fail;clear hmk
      go_loopw [44] (fun iv wx=>∃ k:Nat,k<=l.length/\iv=.int .i64 k/\Hid ((∃ L:List Int,L.length=l.length/\L.take k=(l.map Pl.z).take k/\zgy wx w1.heap.size L)/\Ext w1 wx)) (fun iv _=>l.length - (intOf iv).toNat)
      case atStart=>exact ⟨0,Nat.zero_le _,rfl,⟨⟨_,List.length_replicate,by simp,HROW.out⟩,HVX.out⟩⟩
      case round =>
       obtain ⟨k,hk,rfl,⟨⟨L,hLl,hLt,hrow⟩,hx⟩⟩:=hrel;have HX:=Lib.hid hx;have HROWk:=Lib.hid hrow;have HLT:=Lib.hid hLt;have hRlt:w1.heap.size < wr.heap.size:=hrow.1;clear hx hrow hLt HVX HROW
       by_cases hlt:k < l.length
       · obtain ⟨ad,C0,j0,g0,C1,j1,g1,rfl,hadb,hnd,hkt⟩:=kc3.kid HAT.out k hlt;obtain ⟨a0,a1,a2,a3⟩:=hnd.ext (HX2.out.trans HX.out) (by rw [uc2]; exact hadb);have hcf:=HLZ.out l[k] (List.getElem_mem hlt);have hfl:=vg5 hcf.1 hcf.2;have hng:l[k].neg=decide (l[k].z < 0):=congrArg Pl.neg hfl;have hds:l[k].ds=dg l[k].z.natAbs:=congrArg Pl.ds hfl;have hnat:vc2 wr (.slice C0 j0 g0) (dg l[k].z.natAbs):=by
          obtain ⟨A1,n1,c1',A2,c2,e,hn,-⟩:=hkt.open_;unfold plV at e;simp only [Value.agg.injEq,Array.mk.injEq,List.cons.injEq,and_true,true_and] at e;rw [e.1,<- hds];exact hn.ext (HX2.out.trans HX.out)
         have HSET:Hid ((L.set k l[k].z).take (k+1)=(l.map Pl.z).take (k+1)):=by
          have h1:=qdf L (l.map Pl.z) k HLT.out (by omega) (by rw [List.length_map]; exact hlt);rw [List.getElem_map] at h1;exact h1
         obtain ⟨U,hU⟩:=n_m (wr.alloc (.cells #[.int .i64 l[k].lv,.bool (decide (l[k].z < 0)),.slice C0 j0 g0,.slice C1 j1 g1] 30));have hUx:Ext wr U:=by rw [<- hU]; exact (Ext.refl _).alloc _
         have u1:U.cell? ⟨wr.heap.size,1,none⟩=some (.bool (decide (l[k].z < 0))):=by rw [<- hU]; simp [go_sem]
         have u2:U.cell? ⟨wr.heap.size,2,none⟩=some (.slice C0 j0 g0):=by rw [<- hU]; simp [go_sem]
         have hru:=HROWk.out.ext hUx;have HST:=Lib.hid (hru.set_ k (by omega) l[k].z (hnat.ext hUx));have XU:=Lib.hid (HX.out.trans hUx);obtain ⟨D0,n2,d2,r0,r1,-⟩:=hru.2.2 k (by omega);have hfr:=hru.2.1;rw [hng] at a1;clear hnd hkt hadb hcf hfl hng hds hnat hru hUx HLT HROWk;generalize l[k].z=z at *;generalize l[k]=p at *;go_wp2_with fail
         go_roundw
         case rel=>exact ⟨k+1,by omega,by go_num,⟨_,by rw [List.length_set]; exact hLl,HSET.out,HST.out⟩,(XU.out.setCell (Nat.le_refl _) _).setCell (Nat.le_refl _) _⟩
         case measure=>simp [intOf]; omega
       · have hke:k=l.length:=by omega
         have hLe:L=l.map Pl.z:=by
          have h:=HLT.out;rw [hke,show l.length=(l.map Pl.z).length by rw [List.length_map],List.take_length,List.length_map,<- hLl,List.take_length] at h;exact h
         have hfin:=HROWk.out.fin l.length (by omega) (by omega);rw [hLe,List.length_map] at hfin;have HSU:=Lib.hid (ziy hfin HN2.out hD);have HZ3:=Lib.hid (HZ2.out.ext HX.out hws2);clear hfin HROWk HLT hLe hke;go_wp2_with fail;refine HSU.out.mono ?_;rintro e w2 ⟨z2,rfl,⟨y2,rfl,m2⟩,x2⟩;obtain ⟨C2,k2,rfl,-⟩:=id m2;have hzn:=HZ3.out.ext x2 (by omega);have HF:Hid (vc4 (fun b=>w.heap.size<=b) (kdh l) w (.returned (plV (Pl.const (qda (l.map Pl.z))) (.slice C2 (dg (qda (l.map Pl.z)).natAbs).length k2) (.slice none 0 0))) ((((w2.setCell ⟨w.heap.size,0,none⟩ (.int .i64 0)).setCell ⟨w.heap.size,1,none⟩ (.bool (decide (qda (l.map Pl.z) < 0)))).setCell ⟨w.heap.size,2,none⟩ (.slice C2 (dg (qda (l.map Pl.z)).natAbs).length k2)).setCell ⟨w.heap.size,3,none⟩ (.slice none 0 0))):=by
          rw [HAL.out];exact gc5 (p:=Pl.const (qda (l.map Pl.z))) (q:=fun _=>False) ((HX2.out.trans HX.out).trans x2) (Nat.le_refl _) hzn (PlV.mk (t:=Pl.const (qda (l.map Pl.z))) (A:=none) (c:=0) m2 (Nat.le_refl _) (by omega) (by unfold Pl.const Pl.cs kc3; trivial)) (fun b _ h=>h.elim)
         obtain ⟨⟨z0,z1,z2',z3⟩,zf⟩:=hzn;clear x2 m2 HSU;generalize qda (l.map Pl.z)=S at *;go_wp2_with fail;exact bodyPost_ret (v:=plV (Pl.const S) (.slice C2 (dg S.natAbs).length k2) (.slice none 0 0)) (by simp [results,Tryz.results23,go_sem,z0,z1,z2',z3,plV,Pl.const,Pl.lv,Pl.neg]) rfl HF.out
    · have hlz2:(lv == 0)=false:=by simp [h0]
      have hpos:0 < lv:=by omega
      have hlvn:lv < n:=by
       obtain ⟨p,hp,e⟩:=HTA.out hpos;have:=HLV.out p hp;omega
      have hsz1:1<=sz:=by have:=t4 hpos; omega
      have HLE:=Lib.hid (xid hpos t2 hsz1 HL.out HTP.out);obtain ⟨V,hmk,hVx,hVs,hrow⟩:=jgu (sz:Int) (by omega) (by omega) w1;rw [Int.toNat_natCast] at hmk hrow;have HROW:=Lib.hid (hrow (fun i=>w1.heap.size<=i));have HVX:=Lib.hid hVx;have HH:=Lib.hid h0;have HLN:=Lib.hid hlvn;have hatl:kc3 w (fun b=>b < w.heap.size) l A 0:=kc3.turn (Nat.le_refl _) (fun _ _ h=>h) (fun b hb _=>⟨hb,rfl⟩) l A 0 HAT.out;have HATL:=Lib.hid hatl;clear hrow hVx h0 hlvn hatl;go_wp2_with fail;clear hmk
      go_loopw [62] (fun iv wx=>∃ i:Nat,i<=sz/\iv=.int .i64 i/\Hid ((∃ L:List Pl,L.length=sz/\L.take i=((List.range sz).map fun i=>kdh (kc6 lv i l)).take i/\qgu wx (fun b=>w1.heap.size<=b) w1.heap.size L)/\Ext w1 wx)) (fun iv _=>sz - (intOf iv).toNat)
      case atStart=>exact ⟨0,Nat.zero_le _,rfl,⟨⟨_,List.length_replicate,by simp,HROW.out⟩,HVX.out⟩⟩
      case round =>
       obtain ⟨i,hi,rfl,⟨⟨L,hLl,hLt,hrow⟩,hx⟩⟩:=hrel;have HX:=Lib.hid hx;have HROWk:=Lib.hid hrow;have HLT:=Lib.hid hLt;have hRlt:w1.heap.size < wr.heap.size:=hrow.1;clear hx hrow hLt HVX HROW;obtain ⟨w2,rfl⟩:∃ w2,w2=wr:=⟨wr,rfl⟩
       by_cases hlt:i < sz
       · have HX3:=Lib.hid (HX2.out.trans HX.out);have hws3:w.heap.size<=w2.heap.size:=HX3.out.size;go_wp2_with fail
         go_loopw [12,67] (fun pv kv wx=>∃ k:Nat,k<=l.length/\kv=.int .i64 k/\Hid (ydf w2.heap.size (fun b=>b < w2.heap.size) wx pv (kc6 lv i (l.take k))/\Ext w2 wx)) (fun _ kv _=>l.length - (intOf kv).toNat)
         case atStart=>exact ⟨0,Nat.zero_le _,rfl,⟨by simpa [kc6] using ydf.nil _ _ _,Ext.refl _⟩⟩
         case round =>
          obtain ⟨k,hk,rfl,⟨hq,hx⟩⟩:=hrel;have HQ:=Lib.hid hq;have HXI:=Lib.hid hx;have hws4:=hx.size;obtain ⟨PA,pc,rfl,hp1,hp2⟩:=hq.len;have hpl:=uhi lv i (l.take k);rw [List.length_take] at hpl;clear hx hq
          by_cases hltk:k < l.length
          · obtain ⟨ad,C0,j0,g0,C1,j1,g1,rfl,hadb,hnd,hkt⟩:=kc3.kid HATL.out k hltk;have hxx:=HX3.out.trans HXI.out;obtain ⟨a0,a1,a2,a3⟩:=hnd.ext hxx (by rw [uc2]; exact hadb);have hj1:j1=l[k].cs.length:=by
             obtain ⟨A1,n1,c1',A2,c2,e,-⟩:=hkt.open_;unfold plV at e;simp only [Value.agg.injEq,Array.mk.injEq,List.cons.injEq,and_true,true_and,Value.slice.injEq] at e;exact e.2.2.1
            subst hj1;have HTK:=Lib.hid (kh2 lv i l k hltk);have hple:=(HTP.out l[k] (List.getElem_mem hltk)).1;obtain ⟨U,hU⟩:=n_m (wr.alloc (.cells #[.int .i64 l[k].lv,.bool l[k].neg,.slice C0 j0 g0,.slice C1 l[k].cs.length g1] 30));have hUx:Ext wr U:=by rw [<- hU]; exact (Ext.refl _).alloc _
            obtain ⟨u0,u1,u2,u3⟩:yc3 U wr.heap.size l[k] (.slice C0 j0 g0) (.slice C1 l[k].cs.length g1):=by rw [<- hU]; exact yc3.new wr l[k] _ _ _
            have XU:=Lib.hid (HXI.out.trans hUx);have HKT:=Lib.hid (hkt.ext (hxx.trans hUx));have HQU:=Lib.hid (HQ.out.ext hUx);have hUs:=hUx.size;have HPUSH:Hid (∀ (x:Pl) (E0 E1:Option Addr) (q0 r0 q1 r1:Nat),PlV U (fun b=>b < w.heap.size) x (plV x (.slice E0 q0 r0) (.slice E1 q1 r1))->partsOf lv i l[k]=[x]->∃ v4 w4,(Builtin.append_ #[28,28] 28 #[.slice PA (kc6 lv i (l.take k)).length pc,.slice (some ⟨U.heap.size,0,none⟩) 1 1]).run Tryz.prog (U.alloc (.cells #[.int .i64 x.lv,.bool x.neg,.slice E0 q0 r0,.slice E1 q1 r1] 30))=.ok v4 w4/\ydf w2.heap.size (fun b=>b < w2.heap.size) w4 v4 (kc6 lv i (l.take (k+1)))/\Ext w2 w4):=by
             refine Lib.hid ?_;intro x E0 E1 q0 r0 q1 r1 hxv hpo;obtain ⟨v4,w4,hrun,g4,n4,r4,o4⟩:=HQU.out.push (by have:=XU.out.size; omega) (hxv.mono fun b hb=>⟨fun e=>by have:=(HQU.out.own e).1; omega,by omega⟩) (by omega) 28;exact ⟨v4,w4,hrun,by rw [HTK.out,hpo]; exact r4,wik XU.out g4 (fun R hR=>(HQU.out.own hR).1)⟩
            clear hnd hUx HQ
            by_cases he:l[k].lv=lv
            · have heq:(l[k].lv == lv)=true:=by simp [he]
              by_cases hic:i < l[k].cs.length
              · have hpo:partsOf lv i l[k]=[l[k].cs[i]]:=by unfold partsOf; rw [if_pos he,List.getElem?_eq_getElem hic]; rfl
                obtain ⟨A1,n1,c1',A2,c2,e,-,-,-,hat2⟩:=HKT.out.open_;unfold plV at e;simp only [Value.agg.injEq,Array.mk.injEq,List.cons.injEq,and_true,true_and,Value.slice.injEq] at e;obtain ⟨-,rfl,rfl⟩:=e;obtain ⟨ad2,D0,i0,h0',D1,i1,h1',rfl,hadb2,hnd2,hkt2⟩:=kc3.kid hat2 i hic;obtain ⟨v0,v1,v2,v3⟩:=hnd2;obtain ⟨v4,w4,hrun,r4,x4⟩:=HPUSH.out _ _ _ _ _ _ _ hkt2 hpo;obtain ⟨TB,Td,rfl,-,-⟩:=r4.len;have HN:=Lib.hid r4;have HX4:=Lib.hid x4;have HRUN:=Lib.hid hrun;clear hpo hat2 hkt2 r4 x4 HPUSH hkt he hrun;generalize l[k].cs[i]=pk at *;generalize l[k]=p at *;go_upto_region 27 with fail
                iterate 30 (first | at_builtin | go_values | go_skip | go_guarded | go_step | go_upon | go_back | go_simp)
                refine wpList_append_run rfl (.tmp 83) (.tmp 89) _ _ rfl _ _ _ _ rfl rfl HRUN.out ?_;clear HRUN HTK HQU HKT hU
                iterate 18 (first | go_values | go_skip | go_guarded | go_step | go_upon | go_back | go_simp)
                exact ⟨⟨k+1,by omega,by omega,⟨HN.out,HX4.out⟩⟩,by simp [intOf]; omega⟩
              · have hpo:partsOf lv i l[k]=[]:=by unfold partsOf; rw [if_pos he,List.getElem?_eq_none (by omega)]; rfl
                have HN:Hid (ydf w2.heap.size (fun b=>b < w2.heap.size) U (.slice PA (kc6 lv i (l.take k)).length pc) (kc6 lv i (l.take (k+1)))):=Lib.hid (by rw [HTK.out,hpo,List.append_nil]; exact HQU.out);have hnl:¬ l[k].lv < lv:=by omega
                clear hpo HPUSH hkt he;generalize l[k]=p at *;go_wp2_with fail
                go_roundw
                case rel=>exact ⟨k+1,by omega,by go_num,⟨HN.out,XU.out⟩⟩
                case measure=>simp [intOf]; omega
            · have heq:(l[k].lv == lv)=false:=by simp [he]
              have hnl:l[k].lv < lv:=by omega
              by_cases hi0:i=0
              · have hpo:partsOf lv i l[k]=[l[k]]:=by unfold partsOf; rw [if_neg he,if_pos ⟨hnl,hi0⟩]
                obtain ⟨v4,w4,hrun,r4,x4⟩:=HPUSH.out _ _ _ _ _ _ _ HKT.out hpo;obtain ⟨TB,Td,rfl,-,-⟩:=r4.len;have HN:=Lib.hid r4;have HX4:=Lib.hid x4;have HRUN:=Lib.hid hrun;have hi02:((i:Int) == 0)=true:=by simp [hi0]
                clear hpo r4 x4 HPUSH hkt he hrun hi0;generalize l[k]=p at *;go_upto_region 29 with fail
                iterate 30 (first | at_builtin | go_values | go_skip | go_guarded | go_step | go_upon | go_back | go_simp)
                refine wpList_append_run rfl (.tmp 100) (.tmp 102) _ _ rfl _ _ _ _ rfl rfl HRUN.out ?_;clear HRUN HTK HQU HKT hU
                iterate 18 (first | go_values | go_skip | go_guarded | go_step | go_upon | go_back | go_simp)
                exact ⟨⟨k+1,by omega,by omega,⟨HN.out,HX4.out⟩⟩,by simp [intOf]; omega⟩
              · have hpo:partsOf lv i l[k]=[]:=by unfold partsOf; rw [if_neg he,if_neg (by omega)]
                have HN:Hid (ydf w2.heap.size (fun b=>b < w2.heap.size) U (.slice PA (kc6 lv i (l.take k)).length pc) (kc6 lv i (l.take (k+1)))):=Lib.hid (by rw [HTK.out,hpo,List.append_nil]; exact HQU.out);have hi02:((i:Int) == 0)=false:=by simp [hi0]
                clear hpo HPUSH hkt he;generalize l[k]=p at *;go_wp2_with fail
                go_roundw
                case rel=>exact ⟨k+1,by omega,by go_num,⟨HN.out,XU.out⟩⟩
                case measure=>simp [intOf]; omega
          · have hke:k=l.length:=by omega
            have hq2:=HQ.out;rw [hke,List.take_length] at hq2 hp1;have hat3:kc3 wr (fun _=>True) (kc6 lv i l) PA 0:=kc3.turn (Nat.le_refl _) (fun _ _ h=>h) (fun b _ _=>⟨trivial,rfl⟩) _ _ _ hq2.at_;have HC:=Lib.hid (IH.out lv hpos HLN.out (kc6 lv i l) PA pc wr (fun p hp=>⟨(kgx hpos HL.out hp).1,(kgx hpos HL.out hp).2.2⟩) (fun p hp=>(kgx hpos HL.out hp).2.1) (Nat.lt_of_le_of_lt (qii hpos HL.out) HNR.out) (by have:=uhi lv i l; omega) hp1 hp2 hat3);rw [hke,List.take_length];have HSET:Hid ((L.set i (kdh (kc6 lv i l))).take (i+1)=((List.range sz).map fun i=>kdh (kc6 lv i l)).take (i+1)):=by
             have h1:=qdf L ((List.range sz).map fun i=>kdh (kc6 lv i l)) i HLT.out (by omega) (by rw [List.length_map,List.length_range]; exact hlt);rw [List.getElem_map,List.getElem_range] at h1;exact h1
            have hltk2:¬ (l.length:Int) < (l.length:Int):=by omega
            have HRW:=Lib.hid (HROWk.out.ext HXI.out);clear hq2 hat3 hke hltk hp1 hpl HQ HROWk HLT hk;generalize (kc6 lv i l).length=pn at *;generalize kdh (kc6 lv i l)=res at *;go_wp2_with fail;refine HC.out.mono ?_;rintro e w3 ⟨v3,rfl,p3,x3⟩;obtain ⟨C0,j0,f0,C1,f1,rfl,-⟩:=id p3.open_;have hr3:=HRW.out.ext x3;obtain ⟨D0,n2,g0,D1,n3,g1,⟨r0,r1,r2,r3⟩,-⟩:=hr3.2.2 i (by omega);have hfr:=hr3.2.1;have hst:=(hr3.set_ i (by omega) res (p3.mono fun b hb=>by
             have hb':wr.heap.size<=b:=hb
             exact ⟨by omega,by omega⟩)).1
            simp only at r0 r1 r2 r3;have HST:=Lib.hid hst;have X3:=Lib.hid ((HX.out.trans HXI.out).trans x3);unfold plV;clear hr3 hst p3 x3 HC HRW;go_wp2_with fail
            go_roundw
            case rel=>exact ⟨i+1,by omega,by go_num,⟨_,by rw [List.length_set]; exact hLl,HSET.out,HST.out⟩,(((X3.out.setCell (Nat.le_refl _) _).setCell (Nat.le_refl _) _).setCell (Nat.le_refl _) _).setCell (Nat.le_refl _) _⟩
            case measure=>simp [intOf]; omega
       · have hie:i=sz:=by omega
         have hLe:L=(List.range sz).map fun i=>kdh (kc6 lv i l):=by
          have h:=HLT.out;rw [hie,List.take_of_length_le (by omega),List.take_of_length_le (by simp)] at h;exact h
         have hfin:=HROWk.out.fin (Nat.le_refl _);have htr:=uho lv L _ sz hfin (by omega) (by omega);rw [hLl,hLe,<- HLE.out] at htr;have HTR:=Lib.hid htr;have hz4:=HZ2.out.ext HX.out hws2;have HZ4:=Lib.hid hz4;have hws5:=HX.out.size;clear hfin htr hie hLe HROWk HLT hz4;obtain ⟨res,hres⟩:=n_m (kdh l);rw [hres] at HTR;have HRS:=Lib.hid hres;clear hres;go_wp2_with fail;refine HTR.out.mono ?_;rintro e w3 ⟨v3,rfl,p3,x3⟩;obtain ⟨C0,j0,f0,C1,f1,rfl,-⟩:=id p3.open_;have hzn:=HZ4.out.ext x3 (by omega);have hcl:=gc5 (q':=fun b=>w.heap.size<=b) ((HX2.out.trans HX.out).trans x3) (Nat.le_refl _) hzn p3 (fun b _ hb=>⟨by omega,by omega⟩);have hcl2:=hcl;have HF:Hid (vc4 (fun b=>w.heap.size<=b) (kdh l) w (.returned (plV res (.slice C0 j0 f0) (.slice C1 res.cs.length f1))) ((((w3.setCell ⟨w.heap.size,0,none⟩ (.int .i64 res.lv)).setCell ⟨w.heap.size,1,none⟩ (.bool res.neg)).setCell ⟨w.heap.size,2,none⟩ (.slice C0 j0 f0)).setCell ⟨w.heap.size,3,none⟩ (.slice C1 res.cs.length f1))):=by
          rw [HRS.out];exact hcl2
         clear hcl2;clear hcl;obtain ⟨⟨z0,z1,z2,z3⟩,zf⟩:=hzn;clear x3 p3 HTR;unfold plV;go_wp2_with fail;exact bodyPost_ret (v:=plV res (.slice C0 j0 f0) (.slice C1 res.cs.length f1)) (by simp [results,Tryz.results23,go_sem,z0,z1,z2,z3,plV]) rfl HF.out
theorem ki9 {E D:Nat} (hE:E<=1000000) (hD:D<=17592186044000) (k:Nat):∀ n:Int,n<=k->jie E D n:=by
 induction k with
 | zero=>exact fun n hn=>whz hE hD n fun m h0 hm=>by omega
 | succ k ih=>exact fun n hn=>whz hE hD n fun m h0 hm=>ih m (by omega)
theorem wi4 {w:World} {q:Nat->Prop} {E D:Nat} (l:List Pl) (A:Option Addr) (c:Nat) (hE:E<=1000000) (hD:D<=17592186044000) (hl:∀ p ∈ l,p.Can/\p.ex E) (hn:lnr l < B32 ^ D) (hlen:l.length<=1000000) (hc1:l.length<=c) (hc2:c<=9223372036854775807) (h:kc3 w q l A 0) :
 Calls Tryz.prog 23 #[.slice A l.length c] w (vc4 (fun b=>w.heap.size<=b) (kdh l) w):=
 ki9 hE hD 5 5 (by omega) l A c w hl (fun p hp=>by have:=(hl p hp).1.lv_nonneg.2; omega) hn hlen hc1 hc2 (kc3.turn (Nat.le_refl _) (fun _ _ h=>h) (fun b _ _=>⟨trivial,rfl⟩) l A 0 h)
end Go.Proofs.YtopddaabiinboaaGreat

/- Layer 22: recpoly.present. -/
namespace Go.Proofs.YtopddaabiinboaaGreat
open Go.RowKit
theorem jij:(Tryz.prog.info? 3).map (fun i=>(i.zero,i.size,i.bytes))=some (some (.int .i64 0),1,8):=by kernel_rfl
theorem ki2 : jg4 117 3 1 8 (.int .i64 0) where
 und:=Tryz.underlying117
 info:=jij
 cells:=rfl
 pos:=by omega
 nodig:=by
  intro u hu;simp only [Value.cells,List.mem_singleton] at hu;rw [hu]
  rfl
end Go.Proofs.YtopddaabiinboaaGreat

/- Products of polynomials of one level, plain: as recpoly.mul goes. No program in sight. -/
namespace Go.Proofs.YtopddaabiinboaaGreat
end Go.Proofs.YtopddaabiinboaaGreat

/- Powers of canonical polynomials, plain. No program in sight. -/
namespace Go.Proofs.YtopddaabiinboaaGreat
end Go.Proofs.YtopddaabiinboaaGreat

/- Layer 38: what prenex.Of computes, plain. No program in sight. -/
namespace Go.Proofs.YtopddaabiinboaaGreat
structure PSt where
 names:List ByteArray
 all:List Bool
 lev:ByteArray->Int
end Go.Proofs.YtopddaabiinboaaGreat

/- Layer 34: formula.termNodes, Nodes, Atoms, small, limited. -/
namespace Go.Proofs.YtopddaabiinboaaGreat
open Go.RowKit
attribute [local go_sem] gdg jde jdh vdg ydh zdh udg gdb kde wdg qdh wgt uc9 xdh wdb
end Go.Proofs.YtopddaabiinboaaGreat

/- Formulas all of whose terms are as P says. -/
namespace Go.Proofs.YtopddaabiinboaaGreat
open Go.RowKit
end Go.Proofs.YtopddaabiinboaaGreat

/- Layer 34: formula.small, limited. -/
namespace Go.Proofs.YtopddaabiinboaaGreat
open Go.RowKit
attribute [local go_sem] gdg jde jdh vdg ydh zdh udg gdb kde wdg qdh wgt uc9 xdh wdb
end Go.Proofs.YtopddaabiinboaaGreat

/- Layer 34: formula.Check. -/
namespace Go.Proofs.YtopddaabiinboaaGreat
open Go.RowKit
section
variable {bn Mn bv:Nat}
end
end Go.Proofs.YtopddaabiinboaaGreat

/- Layer 38: the state of a prenex.builder in memory, and what changes it. -/
namespace Go.Proofs.YtopddaabiinboaaGreat
open Go.RowKit
theorem yib:(Tryz.prog.info? 4).map (fun i=>(i.zero,i.size,i.bytes))=some (some (.bool false),1,1):=by kernel_rfl
theorem yiw : jg4 122 4 1 1 (.bool false) where
 und:=Tryz.underlying122
 info:=yib
 cells:=rfl
 pos:=by omega
 nodig:=by
  intro u hu;simp only [Value.cells,List.mem_singleton] at hu;rw [hu]
  rfl
section
variable {base gb bl bt:Nat} {W W':World} {own own':Nat->Prop} {s:PSt} {tk:List ByteArray}
end
end Go.Proofs.YtopddaabiinboaaGreat

/- Layer 32: a frame with rational coordinates in memory, and what a push changes. -/
namespace Go.Proofs.YtopddaabiinboaaGreat
open Go.RowKit
structure FrR (base F : Nat) (W : World) (xs : List Rat) (va vd vt vl : Value) (nd nt nl : Nat) : Prop where
 ra:gc8 base W va xs
 rd:∃ ys,zc8 30 4 base W vd nd ys
 rt:∃ ys,zc8 4 1 base W vt nt ys
 rl:∃ ys,zc8 3 1 base W vl nl ys
 dis:(∀ R,va.ownBlock=some R->vd.ownBlock ≠ some R)/\(∀ R,va.ownBlock=some R->vt.ownBlock ≠ some R)/\(∀ R,va.ownBlock=some R->vl.ownBlock ≠ some R)/\(∀ R,vd.ownBlock=some R->vt.ownBlock ≠ some R)/\(∀ R,vd.ownBlock=some R->vl.ownBlock ≠ some R)/\(∀ R,vt.ownBlock=some R->vl.ownBlock ≠ some R)
 off:(∀ R,va.ownBlock=some R->R ≠ F)/\(∀ R,vd.ownBlock=some R->R ≠ F)/\(∀ R,vt.ownBlock=some R->R ≠ F)/\(∀ R,vl.ownBlock=some R->R ≠ F)
def ydc (base F:Nat) (W:World) (xs:List Rat) (va vd vt vl:Value) (nd nt nl:Nat):Prop:=W.heap[F]?=some (.cells #[va,vd,vt,vl] 124 (0,0))/\FrR base F W xs va vd vt vl nd nt nl
structure FrK (base F : Nat) (W W' : World) : Prop where
 size:W.heap.size<=W'.heap.size
 blk:∀ i,i < base->i ≠ F->W'.heap[i]?=W.heap[i]?
 nat:∀ v ds,vc2 W v ds->vc2 W' v ds
 ext:∀ w0,w0.heap.size<=base->w0.heap.size<=F->Ext w0 W->Ext w0 W'
theorem FrK.trans {base F:Nat} {a b c:World} (h:FrK base F a b) (k:FrK base F b c):FrK base F a c:=
 ⟨Nat.le_trans h.size k.size,fun i h1 h2=>(k.blk i h1 h2).trans (h.blk i h1 h2),fun v ds hv=>k.nat v ds (h.nat v ds hv),fun w0 h1 h2 hx=>k.ext w0 h1 h2 (h.ext w0 h1 h2 hx)⟩
theorem FrK.of_ext {base F:Nat} {a b:World} (h:Ext a b) (hb:base<=a.heap.size):FrK base F a b:=
 ⟨h.size,fun i h1 _=>h.below.block i (by omega),fun _ _ hv=>hv.ext h,fun _ _ _ hx=>hx.trans h⟩
section
variable {base F:Nat} {W W':World} {xs:List Rat} {va vd vt vl:Value} {nd nt nl:Nat}
theorem FrR.turn (h:FrR base F W xs va vd vt vl nd nt nl) (hn:∀ v ds,vc2 W v ds->vc2 W' v ds) (hb:∀ R,R < W.heap.size->R ≠ F->W'.heap[R]?=W.heap[R]?):FrR base F W' xs va vd vt vl nd nt nl:=by
 obtain ⟨ha,⟨yd,hd⟩,⟨yt,ht⟩,⟨yl,hl⟩,dis,off⟩:=h;refine ⟨ha.turn_ hn fun R hR=>hb R (ha.own hR).2 (off.1 R hR),⟨yd,hd.turn fun R hR=>hb R (hd.own hR).2 (off.2.1 R hR)⟩,⟨yt,ht.turn fun R hR=>hb R (ht.own hR).2 (off.2.2.1 R hR)⟩,⟨yl,hl.turn fun R hR=>hb R (hl.own hR).2 (off.2.2.2 R hR)⟩,dis,off⟩
theorem ydc.ext (h:ydc base F W xs va vd vt vl nd nt nl) (hx:Ext W W'):ydc base F W' xs va vd vt vl nd nt nl:=
 ⟨(hx.below.block F (Array.getElem?_eq_some_iff.1 h.1).1).trans h.1,h.2.turn (fun _ _ hv=>hv.ext hx) fun R hR _=>hx.below.block R hR⟩
theorem ydc.lt (h:ydc base F W xs va vd vt vl nd nt nl):F < W.heap.size:=(Array.getElem?_eq_some_iff.1 h.1).1
theorem qdc {a b c:Prop} (h:a\/b) (f:a->c) (g:b->c):c:=h.elim f g
theorem ydc.push_a (h:ydc base F W xs va vd vt vl nd nt nl) (hbase:base<=W.heap.size) {q:Rat} {b1 b2:Bool} {A1 B1 A2 B2:Option Addr} {n1 c1 m1 d1' n2 c2 m2 d2':Nat} (hx:uc7 W (.agg #[.bool b1,.slice A1 n1 c1,.slice B1 m1 d1']) q) (hy:uc7 W (.agg #[.bool b2,.slice A2 n2 c2,.slice B2 m2 d2']) q) (hlen:xs.length+1<=1000000) (ty:TypeId) :
 ∃ v4 w4,(Builtin.append_ #[42,42] ty #[va,.slice (some ⟨W.heap.size,0,none⟩) 1 1]).run Tryz.prog (W.alloc (.cells #[.int .i64 0,.bool false,.slice none 0 0,.slice none 0 0,.bool b1,.slice A1 n1 c1,.slice B1 m1 d1',.bool b2,.slice A2 n2 c2,.slice B2 m2 d2'] 40))=.ok v4 w4/\w4.cell? ⟨F,0,none⟩=some va/\w4.frozen? ⟨F,0,none⟩=false/\ydc base F (w4.setCell ⟨F,0,none⟩ v4) (xs ++ [q]) v4 vd vt vl nd nt nl/\FrK base F W (w4.setCell ⟨F,0,none⟩ v4)/\(∀ b,b < W.heap.size->va.ownBlock ≠ some b->w4.heap[b]?=W.heap[b]?):=by
 have hF:=h.lt;obtain ⟨hf,ha,⟨yd,hd⟩,⟨yt,ht⟩,⟨yl,hl⟩,⟨d1,d2,d3,d4,d5,d6⟩,o1,o2,o3,o4⟩:=h;obtain ⟨v4,w4,hrun,r1,r2,r3,r4⟩:=ha.push_ hbase hx hy (by omega) ty;have hblk:∀ b,b < W.heap.size->va.ownBlock ≠ some b->w4.heap[b]?=W.heap[b]?:=fun b hb hne=>World.grownBy.block r2 b hb (fun e=>hne e.symm)
 have hf4:w4.heap[F]?=some (.cells #[va,vd,vt,vl] 124 (0,0)):=(hblk F hF (fun e=>o1 F e rfl)).trans hf;have c0:w4.cell? ⟨F,0,none⟩=some va:=by simp [World.cell?,hf4]
 have hsl:gc6 va=false:=by obtain ⟨A,c,e,-,-⟩:=ha.len; rw [e]; rfl
 have hn:∀ v ds,vc2 W v ds->vc2 (w4.setCell ⟨F,0,none⟩ v4) v ds:=fun v ds hv=>(r3 v ds hv).box c0 hsl _
 have hn4:∀ v ds,vc2 w4 v ds->vc2 (w4.setCell ⟨F,0,none⟩ v4) v ds:=fun v ds hv=>hv.box c0 hsl _
 have hset:∀ b,b ≠ F->(w4.setCell ⟨F,0,none⟩ v4).heap[b]?=w4.heap[b]?:=fun b hb=>Below.heap_setCell _ _ _ _ hb
 have hoth:∀ b,b < W.heap.size->va.ownBlock ≠ some b->b ≠ F->(w4.setCell ⟨F,0,none⟩ v4).heap[b]?=W.heap[b]?:=fun b h1 h2 h3=>(hset b h3).trans (hblk b h1 h2)
 have hnew:∀ R,v4.ownBlock=some R->va.ownBlock=some R\/W.heap.size<=R:=fun R hR=>by
  rcases r4 with e | e
  · exact .inl (by rw [<- e]; exact hR)
  · rw [e] at hR; injection hR with hR; exact .inr (by omega)
 refine ⟨v4,w4,hrun,c0,by simp [World.frozen?,hf4],⟨by simp [World.setCell,Array.getElem?_modify,hf4],⟨r1.turn_ hn4 (fun R hR=>hset R (fun e=>(qdc (hnew R hR) (fun k=>o1 R k e) (fun k=>by omega)))),⟨_,hd.turn fun R hR=>hoth R (hd.own hR).2 (fun e=>d1 R e hR) (o2 R hR)⟩,⟨_,ht.turn fun R hR=>hoth R (ht.own hR).2 (fun e=>d2 R e hR) (o3 R hR)⟩,⟨_,hl.turn fun R hR=>hoth R (hl.own hR).2 (fun e=>d3 R e hR) (o4 R hR)⟩,⟨(fun R hR e=>(qdc (hnew R hR) (fun k=>d1 R k e) (fun k=>by have:=(hd.own e).2; omega))),(fun R hR e=>(qdc (hnew R hR) (fun k=>d2 R k e) (fun k=>by have:=(ht.own e).2; omega))),(fun R hR e=>(qdc (hnew R hR) (fun k=>d3 R k e) (fun k=>by have:=(hl.own e).2; omega))),d4,d5,d6⟩,(fun R hR e=>(qdc (hnew R hR) (fun k=>o1 R k e) (fun k=>by omega))),o2,o3,o4⟩⟩,⟨by simp; exact r2.size,fun i h1 h2=>hoth i (by omega) (fun e=>by have:=(ha.own e).1; omega) h2,hn,fun w0 h1 h2 hx=>(Below.grown hx.below r2 hx.size (fun k e=>by have:=(ha.own e).1; omega)).setCell h2 _⟩,hblk⟩
theorem ydc.push_d (h:ydc base F W xs va vd vt vl nd nt nl) (hbase:base<=W.heap.size)  (hlen:nd+1<=1000000) (ty:TypeId) :
 ∃ v4 w4,(Builtin.append_ #[28,28] ty #[vd,.slice (some ⟨W.heap.size,0,none⟩) 1 1]).run Tryz.prog (W.alloc (.cells #[.int .i64 0,.bool false,.slice none 0 0,.slice none 0 0] 30))=.ok v4 w4/\w4.cell? ⟨F,1,none⟩=some vd/\w4.frozen? ⟨F,1,none⟩=false/\ydc base F (w4.setCell ⟨F,1,none⟩ v4) xs va v4 vt vl (nd+1) nt nl/\FrK base F W (w4.setCell ⟨F,1,none⟩ v4)/\(∀ b,b < W.heap.size->vd.ownBlock ≠ some b->w4.heap[b]?=W.heap[b]?)/\∃ g c,v4=.slice (some ⟨g,0,none⟩) (nd+1) c/\g ≠ F/\(w4.cell? ⟨g,nd * 4,none⟩=some (.int .i64 0)/\w4.cell? ⟨g,nd * 4+1,none⟩=some (.bool false)/\w4.cell? ⟨g,nd * 4+2,none⟩=some (.slice none 0 0)/\w4.cell? ⟨g,nd * 4+3,none⟩=some (.slice none 0 0))/\∀ i,w4.frozen? ⟨g,i,none⟩=false:=by
 have hF:=h.lt;obtain ⟨hf,ha,⟨yd,hd⟩,⟨yt,ht⟩,⟨yl,hl⟩,⟨d1,d2,d3,d4,d5,d6⟩,o1,o2,o3,o4⟩:=h;obtain ⟨v4,w4,hrun,r1,r2,r3,r4⟩:=hd.push xhv hbase [.int .i64 0,.bool false,.slice none 0 0,.slice none 0 0] rfl (by intro u hu; simp only [List.mem_cons,List.not_mem_nil,or_false] at hu; rcases hu with rfl | rfl | rfl | rfl <;> exact ⟨rfl,rfl⟩) (by omega) (by omega) ty;have hblk:∀ b,b < W.heap.size->vd.ownBlock ≠ some b->w4.heap[b]?=W.heap[b]?:=fun b hb hne=>World.grownBy.block r2 b hb (fun e=>hne e.symm)
 have hf4:w4.heap[F]?=some (.cells #[va,vd,vt,vl] 124 (0,0)):=(hblk F hF (fun e=>o2 F e rfl)).trans hf;have c0:w4.cell? ⟨F,1,none⟩=some vd:=by simp [World.cell?,hf4]
 have hsl:gc6 vd=false:=by obtain ⟨A,c,e,-,-⟩:=hd.len; rw [e]; rfl
 have hn:∀ v ds,vc2 W v ds->vc2 (w4.setCell ⟨F,1,none⟩ v4) v ds:=fun v ds hv=>(r3 v ds hv).box c0 hsl _
 have hn4:∀ v ds,vc2 w4 v ds->vc2 (w4.setCell ⟨F,1,none⟩ v4) v ds:=fun v ds hv=>hv.box c0 hsl _
 have hset:∀ b,b ≠ F->(w4.setCell ⟨F,1,none⟩ v4).heap[b]?=w4.heap[b]?:=fun b hb=>Below.heap_setCell _ _ _ _ hb
 have hoth:∀ b,b < W.heap.size->vd.ownBlock ≠ some b->b ≠ F->(w4.setCell ⟨F,1,none⟩ v4).heap[b]?=W.heap[b]?:=fun b h1 h2 h3=>(hset b h3).trans (hblk b h1 h2)
 have hnew:∀ R,v4.ownBlock=some R->vd.ownBlock=some R\/W.heap.size<=R:=fun R hR=>by
  rcases r4 with e | e
  · exact .inl (by rw [<- e]; exact hR)
  · rw [e] at hR; injection hR with hR; exact .inr (by omega)
 refine ⟨v4,w4,hrun,c0,by simp [World.frozen?,hf4],⟨by simp [World.setCell,Array.getElem?_modify,hf4],⟨ha.turn_ hn fun R hR=>hoth R (ha.own hR).2 (fun e=>d1 R hR e) (o1 R hR),⟨_,r1.turn fun R hR=>hset R (fun e=>(qdc (hnew R hR) (fun k=>o2 R k e) (fun k=>by omega)))⟩,⟨_,ht.turn fun R hR=>hoth R (ht.own hR).2 (fun e=>d4 R e hR) (o3 R hR)⟩,⟨_,hl.turn fun R hR=>hoth R (hl.own hR).2 (fun e=>d5 R e hR) (o4 R hR)⟩,⟨(fun R hR e=>(qdc (hnew R e) (fun k=>d1 R hR k) (fun k=>by have:=(ha.own hR).2; omega))),d2,d3,(fun R hR e=>(qdc (hnew R hR) (fun k=>d4 R k e) (fun k=>by have:=(ht.own e).2; omega))),(fun R hR e=>(qdc (hnew R hR) (fun k=>d5 R k e) (fun k=>by have:=(hl.own e).2; omega))),d6⟩,o1,(fun R hR e=>(qdc (hnew R hR) (fun k=>o2 R k e) (fun k=>by omega))),o3,o4⟩⟩,⟨by simp; exact r2.size,fun i h1 h2=>hoth i (by omega) (fun e=>by have:=(hd.own e).1; omega) h2,hn,fun w0 h1 h2 hx=>(Below.grown hx.below r2 hx.size (fun k e=>by have:=(hd.own e).1; omega)).setCell h2 _⟩,hblk,?_⟩;obtain ⟨g,c,e,-,-,-,hlt,hfr⟩:=r1.pos (by omega);subst e;have hyl:yd.length=nd * 4:=hd.1.1;have hc:∀ j,j < 4->w4.cell? ⟨g,nd * 4+j,none⟩=([.int .i64 0,.bool false,.slice none 0 0,.slice none 0 0]:List Value)[j]?:=fun j hj=>by
  rw [r1.cell (nd * 4+j) (by omega),List.getElem?_append_right (by omega),hyl,Nat.add_sub_cancel_left]
 exact ⟨g,c,rfl,(qdc (hnew g rfl) (fun k=>o2 g k) (fun k=>by omega)),⟨hc 0 (by omega),hc 1 (by omega),hc 2 (by omega),hc 3 (by omega)⟩,hfr⟩
theorem ydc.push_t (h:ydc base F W xs va vd vt vl nd nt nl) (hbase:base<=W.heap.size)  (hlen:nt+1<=1000000) (ty:TypeId) :
 ∃ v4 w4,(Builtin.append_ #[122,122] ty #[vt,.slice (some ⟨W.heap.size,0,none⟩) 1 1]).run Tryz.prog (W.alloc (.cells #[.bool false] 4))=.ok v4 w4/\w4.cell? ⟨F,2,none⟩=some vt/\w4.frozen? ⟨F,2,none⟩=false/\ydc base F (w4.setCell ⟨F,2,none⟩ v4) xs va vd v4 vl nd (nt+1) nl/\FrK base F W (w4.setCell ⟨F,2,none⟩ v4)/\(∀ b,b < W.heap.size->vt.ownBlock ≠ some b->w4.heap[b]?=W.heap[b]?):=by
 have hF:=h.lt;obtain ⟨hf,ha,⟨yd,hd⟩,⟨yt,ht⟩,⟨yl,hl⟩,⟨d1,d2,d3,d4,d5,d6⟩,o1,o2,o3,o4⟩:=h;obtain ⟨v4,w4,hrun,r1,r2,r3,r4⟩:=ht.push yiw hbase [.bool false] rfl (by intro u hu; rw [List.mem_singleton.1 hu]; exact ⟨rfl,rfl⟩) (by omega) (by omega) ty;have hblk:∀ b,b < W.heap.size->vt.ownBlock ≠ some b->w4.heap[b]?=W.heap[b]?:=fun b hb hne=>World.grownBy.block r2 b hb (fun e=>hne e.symm)
 have hf4:w4.heap[F]?=some (.cells #[va,vd,vt,vl] 124 (0,0)):=(hblk F hF (fun e=>o3 F e rfl)).trans hf;have c0:w4.cell? ⟨F,2,none⟩=some vt:=by simp [World.cell?,hf4]
 have hsl:gc6 vt=false:=by obtain ⟨A,c,e,-,-⟩:=ht.len; rw [e]; rfl
 have hn:∀ v ds,vc2 W v ds->vc2 (w4.setCell ⟨F,2,none⟩ v4) v ds:=fun v ds hv=>(r3 v ds hv).box c0 hsl _
 have hn4:∀ v ds,vc2 w4 v ds->vc2 (w4.setCell ⟨F,2,none⟩ v4) v ds:=fun v ds hv=>hv.box c0 hsl _
 have hset:∀ b,b ≠ F->(w4.setCell ⟨F,2,none⟩ v4).heap[b]?=w4.heap[b]?:=fun b hb=>Below.heap_setCell _ _ _ _ hb
 have hoth:∀ b,b < W.heap.size->vt.ownBlock ≠ some b->b ≠ F->(w4.setCell ⟨F,2,none⟩ v4).heap[b]?=W.heap[b]?:=fun b h1 h2 h3=>(hset b h3).trans (hblk b h1 h2)
 have hnew:∀ R,v4.ownBlock=some R->vt.ownBlock=some R\/W.heap.size<=R:=fun R hR=>by
  rcases r4 with e | e
  · exact .inl (by rw [<- e]; exact hR)
  · rw [e] at hR; injection hR with hR; exact .inr (by omega)
 refine ⟨v4,w4,hrun,c0,by simp [World.frozen?,hf4],⟨by simp [World.setCell,Array.getElem?_modify,hf4],⟨ha.turn_ hn fun R hR=>hoth R (ha.own hR).2 (fun e=>d2 R hR e) (o1 R hR),⟨_,hd.turn fun R hR=>hoth R (hd.own hR).2 (fun e=>d4 R hR e) (o2 R hR)⟩,⟨_,r1.turn fun R hR=>hset R (fun e=>(qdc (hnew R hR) (fun k=>o3 R k e) (fun k=>by omega)))⟩,⟨_,hl.turn fun R hR=>hoth R (hl.own hR).2 (fun e=>d6 R e hR) (o4 R hR)⟩,⟨d1,(fun R hR e=>(qdc (hnew R e) (fun k=>d2 R hR k) (fun k=>by have:=(ha.own hR).2; omega))),d3,(fun R hR e=>(qdc (hnew R e) (fun k=>d4 R hR k) (fun k=>by have:=(hd.own hR).2; omega))),d5,(fun R hR e=>(qdc (hnew R hR) (fun k=>d6 R k e) (fun k=>by have:=(hl.own e).2; omega)))⟩,o1,o2,(fun R hR e=>(qdc (hnew R hR) (fun k=>o3 R k e) (fun k=>by omega))),o4⟩⟩,⟨by simp; exact r2.size,fun i h1 h2=>hoth i (by omega) (fun e=>by have:=(ht.own e).1; omega) h2,hn,fun w0 h1 h2 hx=>(Below.grown hx.below r2 hx.size (fun k e=>by have:=(ht.own e).1; omega)).setCell h2 _⟩,hblk⟩
theorem ydc.push_l (h:ydc base F W xs va vd vt vl nd nt nl) (hbase:base<=W.heap.size)  (hlen:nl+1<=1000000) (ty:TypeId) :
 ∃ v4 w4,(Builtin.append_ #[117,117] ty #[vl,.slice (some ⟨W.heap.size,0,none⟩) 1 1]).run Tryz.prog (W.alloc (.cells #[.int .i64 0] 3))=.ok v4 w4/\w4.cell? ⟨F,3,none⟩=some vl/\w4.frozen? ⟨F,3,none⟩=false/\ydc base F (w4.setCell ⟨F,3,none⟩ v4) xs va vd vt v4 nd nt (nl+1)/\FrK base F W (w4.setCell ⟨F,3,none⟩ v4)/\(∀ b,b < W.heap.size->vl.ownBlock ≠ some b->w4.heap[b]?=W.heap[b]?):=by
 have hF:=h.lt;obtain ⟨hf,ha,⟨yd,hd⟩,⟨yt,ht⟩,⟨yl,hl⟩,⟨d1,d2,d3,d4,d5,d6⟩,o1,o2,o3,o4⟩:=h;obtain ⟨v4,w4,hrun,r1,r2,r3,r4⟩:=hl.push ki2 hbase [.int .i64 0] rfl (by intro u hu; rw [List.mem_singleton.1 hu]; exact ⟨rfl,rfl⟩) (by omega) (by omega) ty;have hblk:∀ b,b < W.heap.size->vl.ownBlock ≠ some b->w4.heap[b]?=W.heap[b]?:=fun b hb hne=>World.grownBy.block r2 b hb (fun e=>hne e.symm)
 have hf4:w4.heap[F]?=some (.cells #[va,vd,vt,vl] 124 (0,0)):=(hblk F hF (fun e=>o4 F e rfl)).trans hf;have c0:w4.cell? ⟨F,3,none⟩=some vl:=by simp [World.cell?,hf4]
 have hsl:gc6 vl=false:=by obtain ⟨A,c,e,-,-⟩:=hl.len; rw [e]; rfl
 have hn:∀ v ds,vc2 W v ds->vc2 (w4.setCell ⟨F,3,none⟩ v4) v ds:=fun v ds hv=>(r3 v ds hv).box c0 hsl _
 have hn4:∀ v ds,vc2 w4 v ds->vc2 (w4.setCell ⟨F,3,none⟩ v4) v ds:=fun v ds hv=>hv.box c0 hsl _
 have hset:∀ b,b ≠ F->(w4.setCell ⟨F,3,none⟩ v4).heap[b]?=w4.heap[b]?:=fun b hb=>Below.heap_setCell _ _ _ _ hb
 have hoth:∀ b,b < W.heap.size->vl.ownBlock ≠ some b->b ≠ F->(w4.setCell ⟨F,3,none⟩ v4).heap[b]?=W.heap[b]?:=fun b h1 h2 h3=>(hset b h3).trans (hblk b h1 h2)
 have hnew:∀ R,v4.ownBlock=some R->vl.ownBlock=some R\/W.heap.size<=R:=fun R hR=>by
  rcases r4 with e | e
  · exact .inl (by rw [<- e]; exact hR)
  · rw [e] at hR; injection hR with hR; exact .inr (by omega)
 refine ⟨v4,w4,hrun,c0,by simp [World.frozen?,hf4],⟨by simp [World.setCell,Array.getElem?_modify,hf4],⟨ha.turn_ hn fun R hR=>hoth R (ha.own hR).2 (fun e=>d3 R hR e) (o1 R hR),⟨_,hd.turn fun R hR=>hoth R (hd.own hR).2 (fun e=>d5 R hR e) (o2 R hR)⟩,⟨_,ht.turn fun R hR=>hoth R (ht.own hR).2 (fun e=>d6 R hR e) (o3 R hR)⟩,⟨_,r1.turn fun R hR=>hset R (fun e=>(qdc (hnew R hR) (fun k=>o4 R k e) (fun k=>by omega)))⟩,⟨d1,d2,(fun R hR e=>(qdc (hnew R e) (fun k=>d3 R hR k) (fun k=>by have:=(ha.own hR).2; omega))),d4,(fun R hR e=>(qdc (hnew R e) (fun k=>d5 R hR k) (fun k=>by have:=(hd.own hR).2; omega))),(fun R hR e=>(qdc (hnew R e) (fun k=>d6 R hR k) (fun k=>by have:=(ht.own hR).2; omega)))⟩,o1,o2,o3,(fun R hR e=>(qdc (hnew R hR) (fun k=>o4 R k e) (fun k=>by omega)))⟩⟩,⟨by simp; exact r2.size,fun i h1 h2=>hoth i (by omega) (fun e=>by have:=(hl.own e).1; omega) h2,hn,fun w0 h1 h2 hx=>(Below.grown hx.below r2 hx.size (fun k e=>by have:=(hl.own e).1; omega)).setCell h2 _⟩,hblk⟩
end
end Go.Proofs.YtopddaabiinboaaGreat
