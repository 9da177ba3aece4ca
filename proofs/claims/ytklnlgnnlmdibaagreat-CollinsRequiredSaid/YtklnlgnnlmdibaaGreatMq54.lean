/- Law 41: List. -/
import Derived.Test.YtklnlgnnlmdibaaGreatMq53
import Derived.Test.YtklnlgnnlmdibaaGreatFitW
set_option linter.unusedSimpArgs false
set_option linter.unusedVariables false
set_option maxRecDepth 100000
set_option maxHeartbeats 8000000
namespace Go.Proofs.YtklnlgnnlmdibaaGreat
open Lib (hid)
open Go.RowKit
def zbi (w:World) (v:Value) (L:List (List zaf)):Prop:=∃ A c,v=.slice A L.length c/\L.length<=c/\c<=9223372036854775807/\∀ i (hi:i < L.length),∃ ad u,A=some ad/\ad.block < w.heap.size/\w.cell? (ad.add i)=some u/\xao w u L[i]
theorem zbi.ext {w w':World} {v:Value} {L:List (List zaf)} (h:zbi w v L) (hx:Ext w w'):zbi w' v L:=by
 obtain ⟨A,c,e,h1,h2,h3⟩:=h;refine ⟨A,c,e,h1,h2,fun i hi=>?_⟩;obtain ⟨ad,u,e,hb,hc,ht⟩:=h3 i hi;exact ⟨ad,u,e,Nat.lt_of_lt_of_le hb hx.size,(hx.cell (p:=ad.add i) (by rw [ja]; exact hb)).trans hc,ht.ext hx⟩
def ub6 (most:Nat) (w:World) (e:Ending) (w':World):Prop:=∃ b rv fs,e=.returned (.tuple #[rv,.bool b])/\(b=true->fs.length<=most/\∀ f ∈ fs,Fit f 2 5)/\gav w' (fun _=>True) rv fs/\Ext w w'
theorem ub4 {w:World} {v:Value} {L:List (List zaf)} (most:Nat) (h:zbi w v L) (hm:most<=1000) :
 Calls Tryz.prog 9 #[v,.int .i64 most] w (ub6 most w):=by
 have H0:=hid h;obtain ⟨A,c,rfl,dh,eX,lZ⟩:=h;have JD:=hid lZ;have YF:Hid (∀ W',Ext w W'->ub6 most w (.returned (.tuple #[.slice none 0 0,.bool false])) W'):=hid (fun W' hx=>⟨false,_,[],rfl,(fun h=>by cases h),⟨none,0,rfl,by simp,by omega,by unfold jc; trivial⟩,hx⟩);obtain ⟨n0,fE⟩:=n_m (L.length);have jZ:=hid fE;rw [fE] at dh ⊢;clear lZ fE
 by_cases SH:most < n0
 · have SK:(most:Int) < (n0:Int):=by omega
   go_enter Tryz.func9,Tryz.ntmps9;go_wp2_with fail;exact bodyPost_ret (v:=.tuple #[.slice none 0 0,.bool false]) (by simp [results,Tryz.results9,go_sem]) rfl (YF.out _ (Ext.refl w))
 · have SK:¬ (most:Int) < (n0:Int):=by omega
   go_enter Tryz.func9,Tryz.ntmps9;go_wp2_with fail
   go_loopw [6,15] (fun rv iv wr=>∃ (k:Nat) (fs:List Pl),k<=n0/\iv=.int .i64 k/\Hid (fs.length=k/\(∀ f ∈ fs,Fit f 2 5)/\uh w.heap.size (fun _=>True) wr rv fs/\Ext w wr)) (fun _ iv _=>n0 - (intOf iv).toNat)
   case atStart=>exact ⟨0,[],Nat.zero_le _,rfl,hid ⟨rfl,(fun f hf=>by cases hf),uh.nil _ _ _,Ext.refl w⟩⟩
   case round =>
    obtain ⟨k,fs,hk,rfl,HI⟩:=hrel;obtain ⟨fC,aB,ae,hx⟩:=HI.out
    by_cases af:k < n0
    · have bQ:k < L.length:=by rw [jZ.out]; exact af
      obtain ⟨ad,u,rfl,ah,hcu,XG⟩:=JD.out k bQ;obtain ⟨ts,AY⟩:=n_m (L[k]);rw [AY] at XG;have HTU:=hid XG;have WU:=hid (wcd 4 2 (XG.ext hx));have g0:=(hx.cell (p:=ad.add k) (by rw [ja]; exact ah)).trans hcu;have sV:(k:Int) < (n0:Int):=by omega
      have HR:=hid ae;have HX:=hid hx;have jH:=hid (And.intro fC aB);obtain ⟨TA,tc,rfl,ht1,XH,-⟩:=XG;clear fC aB ae hx ah hcu AY HI bQ;go_wp2_with fail;clear g0;refine WU.out.mono ?_;rintro e w2 ⟨b,rfl,hb,x2⟩;have X2:=hid (HX.out.trans x2);have yG:=hid (HR.out.ext x2);clear x2 WU HR HX;cases b with
      | false =>
        go_wp2_with fail;exact bodyPost_ret (v:=.tuple #[.slice none 0 0,.bool false]) (by simp [results,Tryz.results9,go_sem]) rfl (YF.out _ X2.out)
      | true =>
        obtain ⟨hn,hf⟩:=hb rfl;have HOF:=hid (kcb (n:=4) (d:=4) (E:=2) _ (HTU.out.ext X2.out) hf hn (by omega) (by omega) (by omega));have Qc:=hid (xby (n:=4) (d:=4) (E:=2) HTU.out.dig hf hn (by omega)).1;generalize Pl.ofS (gaf ts)=f at *;clear hb hn hf HTU;go_wp2_with fail;refine HOF.out.mono ?_;rintro e w3 ⟨v3,rfl,p3,x3⟩;obtain ⟨A0,m0,e0,B0,f0,rfl,-⟩:=id p3.open_;have gW:=yG.out.ext x3;have wV:=X2.out.trans x3;obtain ⟨v4,w4,aH,kQ,iy,aZ,lm⟩:=gW.push (x:=f) wV.size (p3.mono fun b hb=>⟨fun e=>by have:=(yG.out.own e).2; omega,trivial⟩) (by rw [jH.out.1]; omega) 24;obtain ⟨RA,rc,rfl,lT,gI⟩:=gW.len;have Em:Ext w w4:=Below.grown wV.below kQ wV.size (fun j e=>(gW.own e).1);have HN:Hid ((fs ++ [f]).length=k+1/\(∀ g ∈ fs ++ [f],Fit g 2 5)/\uh w.heap.size (fun _=>True) w4 v4 (fs ++ [f])/\Ext w w4):=hid ⟨by rw [List.length_append,jH.out.1]; rfl,fun g hg=>by
         rw [List.mem_append,List.mem_singleton] at hg;rcases hg with hg | rfl
         · exact jH.out.2 g hg
         · exact Qc.out,aZ,Em⟩
        clear gW wV kQ iy aZ lm Em p3 x3 HOF lT gI;unfold plV
        go_wp2_with (at_builtin
                     refine wpList_append_run rfl (.tmp 22) (.tmp 25) _ _ rfl _ _ _ _ rfl rfl aH ?_)
        go_roundw
        case rel=>exact ⟨k+1,fs ++ [f],by omega,by go_num,HN⟩
        case measure=>simp only [intOf]; omega
    · have bH:k=n0:=by omega
      have sV:¬ (k:Int) < (n0:Int):=by omega
      obtain ⟨RA,rc,rfl,lT,gI⟩:=ae.len;have HF:Hid (ub6 most w (.returned (.tuple #[.slice RA fs.length rc,.bool true])) wr):=hid ⟨true,_,fs,rfl,fun _=>⟨by omega,aB⟩,⟨RA,rc,rfl,lT,gI,jc.turn (Nat.le_refl _) (fun _ _ h=>h) (fun b _ _=>⟨trivial,rfl⟩) _ _ _ ae.at_⟩,hx⟩;clear fC aB ae hx HI bH;go_wp2_with fail;exact bodyPost_ret (v:=.tuple #[.slice RA fs.length rc,.bool true]) (by simp [results,Tryz.results9,go_sem]) rfl HF.out
theorem ubd {w:World} {L:List (List zaf)} {l:Int} (v:Value) (h:zbi w v L):Calls Tryz.prog 3 #[v,.int .i64 l] w (qao true w):=by
 have HLS:=hid (fun W' (hx:Ext w W')=>ub4 3 (h.ext hx) (by omega));obtain ⟨A,c,rfl,dh,eX,-⟩:=h;go_enter Tryz.func3,Tryz.ntmps3;go_wp2_with fail;refine (ucd w).mono ?_;rintro e w1 ⟨rfl,x1⟩;have X1:=hid x1;clear x1;go_wp2_with fail;refine (HLS.out _ X1.out).mono ?_;rintro e w2 ⟨b,rv,fs,rfl,hb,⟨FA,fc,rfl,jM,lK,aO⟩,x2⟩;have X2:=hid (X1.out.trans x2);clear x2 HLS;cases b with
 | false =>
   go_wp2_with fail;go_ret;exact ⟨rfl,X2.out⟩
 | true =>
   obtain ⟨hn,eU⟩:=hb rfl;have jQ:=hid aO;have Aw:=hid eU;clear hb aO dh eX
   by_cases hl:l < 1\/4 < l
   · have HR:=hid (ubl (w:=w2) (D0:=FA) (n:=fs.length) (c0:=fc) hl);clear eU;go_wp2_with fail;refine HR.out.mono ?_;rintro e w4 ⟨v4,rfl,⟨D4,c4,rfl,-,-,-⟩,x4⟩;have X4:=hid (X2.out.trans x4);simp only [List.length_nil];clear x4 HR;rcases hl with hl | hl
     all_goals
      go_wp2_with fail;go_ret;exact ⟨rfl,X4.out⟩
   · have dY:1<=l:=by omega
     have ag:l<=4:=by omega
     have akz:¬ l < 1:=by omega
     have aky:¬ 4 < l:=by omega
     by_cases cZ:∃ f ∈ fs,l < f.lv
     · have HR:=hid (gbl dY ag jQ.out jM lK (by omega) eU (by omega) (by omega) cZ);have rq:=hid cZ;clear cZ eU hl;go_wp2_with fail;refine HR.out.mono ?_;rintro e w4 ⟨v4,rfl,⟨D4,c4,rfl,-,-,-⟩,x4⟩;have X4:=hid x4;simp only [List.length_nil];clear x4 HR;go_wp2_with fail
       go_loopw [43] (fun iv wr=>∃ k:Nat,k<=fs.length/\iv=.int .i64 k/\Hid ((∀ f ∈ fs.take k,f.lv<=l)/\Ext w4 wr)) (fun iv _=>fs.length - (intOf iv).toNat)
       case atStart=>exact ⟨0,Nat.zero_le _,rfl,hid ⟨by simp,Ext.refl w4⟩⟩
       case round =>
        obtain ⟨k,hk,rfl,HI⟩:=hrel
        by_cases af:k < fs.length
        · obtain ⟨ad,C0,j0,k0,C1,j1,k1,rfl,ah,⟨g0,g1,g2,g3⟩,dD⟩:=((jQ.out.ext X4.out).ext HI.out.2).kid k af;have ed:=Aw.out fs[k] (List.getElem_mem af);have oz:Hid (fs.take (k+1)=fs.take k ++ [fs[k]]):=hid (List.take_append_getElem af).symm;obtain ⟨U,hU⟩:=n_m ((wr.alloc (.cells #[.int .i64 fs[k].lv,.bool fs[k].neg,.slice C0 j0 k0,.slice C1 j1 k1] 35)));have hxU:Ext wr U:=by rw [<- hU]; exact (Ext.refl wr).alloc _
          obtain ⟨s0,s1,s2,s3⟩:jb U wr.heap.size fs[k] (.slice C0 j0 k0) (.slice C1 j1 k1):=by rw [<- hU]; exact jb.new wr fs[k] _ _ _
          have fV:=hid (gad (w:=U) _ (dD.ext hxU) (Or.inr ⟨ed.can,ed.copy_ (by omega),by have:=ed.dm; omega⟩));rw [Pl.nf_of_can ed.can] at fV;have uO:=hid (HI.out.2.trans hxU);have BM:=hid HI.out.1;obtain ⟨f,hf⟩:=n_m (fs[k]);rw [hf] at g0 g1 s0 s1 fV oz hU;have sV:(k:Int) < (fs.length:Int):=by omega
          unfold plV at fV;clear ah dD ed hxU HI hf;go_wp2_with fail;clear g0 g1 g2 g3 s0 s1 s2 s3 hU;refine fV.out.mono ?_;rintro e w5 ⟨rfl,x5⟩;have Af:=hid (uO.out.trans x5);clear x5 fV uO
          by_cases hlf:l < f.lv
          · have HF:=hid (X2.out.trans (X4.out.trans Af.out));go_wp2_with fail;go_ret;exact ⟨rfl,HF.out⟩
          · have hn:∀ g ∈ fs.take (k+1),g.lv<=l:=by
             rw [oz.out];intro g hg;rw [List.mem_append,List.mem_singleton] at hg;rcases hg with hg | rfl
             · exact BM.out g hg
             · omega
            have HNL:=hid hn;clear hn;go_wp2_with fail
            go_roundw
            case rel=>exact ⟨k+1,by omega,by go_num,hid ⟨HNL.out,Af.out⟩⟩
            case measure=>simp only [intOf]; omega
        · exfalso
          obtain ⟨f,hf,hl⟩:=rq.out;have h:=HI.out.1;rw [show k=fs.length by omega,List.take_length] at h;have:=h f hf;omega
     · have hle:∀ f ∈ fs,f.lv<=l:=fun f hf=>Int.not_lt.1 fun h=>cZ ⟨f,hf,h⟩
       have lZ:=ybk dY ag eU;have Ir:=Nat.mul_le_mul hn hn;have HR:=hid (za2 dY ag jQ.out jM lK (by omega) eU (by omega) (by omega) (hid (kca dY ag eU (by omega))) (qa4 dY ag eU) (by omega) (by omega) (by omega) hle);have uB:=hid (ucj dY ag eU hle);have lC:=hid (fun (W':World) (hx:Ext w2 W')=>qck (c0:=fc) dY ag (jQ.out.ext hx) jM lK eU (by omega) (by omega));have vJ:(fJ l fs).length<=1000:=by have:=vcj (l:=l) (fs:=fs); omega
       have aei:=hid hle;clear cZ eU hl hle lZ Ir;generalize fJ l fs=Q at *;go_wp2_with fail;refine HR.out.mono ?_;rintro e w4 ⟨v4,rfl,⟨D4,c4,rfl,Fh,Ie,yS⟩,x4⟩;have X4:=hid x4;have HQ:=hid yS;clear x4 HR yS;go_wp2_with fail
       go_loopw [43] (fun iv wr=>∃ k:Nat,k<=fs.length/\iv=.int .i64 k/\Hid (Ext w4 wr)) (fun iv _=>fs.length - (intOf iv).toNat)
       case atStart=>exact ⟨0,Nat.zero_le _,rfl,hid (Ext.refl w4)⟩
       case round =>
        obtain ⟨k,hk,rfl,HI⟩:=hrel
        by_cases af:k < fs.length
        · obtain ⟨ad,C0,j0,k0,C1,j1,k1,rfl,ah,⟨g0,g1,g2,g3⟩,dD⟩:=((jQ.out.ext X4.out).ext HI.out).kid k af;have ed:=Aw.out fs[k] (List.getElem_mem af);have zB:¬ l < fs[k].lv:=by have:=aei.out fs[k] (List.getElem_mem af); omega
          obtain ⟨U,hU⟩:=n_m ((wr.alloc (.cells #[.int .i64 fs[k].lv,.bool fs[k].neg,.slice C0 j0 k0,.slice C1 j1 k1] 35)));have hxU:Ext wr U:=by rw [<- hU]; exact (Ext.refl wr).alloc _
          obtain ⟨s0,s1,s2,s3⟩:jb U wr.heap.size fs[k] (.slice C0 j0 k0) (.slice C1 j1 k1):=by rw [<- hU]; exact jb.new wr fs[k] _ _ _
          have fV:=hid (gad (w:=U) _ (dD.ext hxU) (Or.inr ⟨ed.can,ed.copy_ (by omega),by have:=ed.dm; omega⟩));rw [Pl.nf_of_can ed.can] at fV;have uO:=hid (HI.out.trans hxU);obtain ⟨f,hf⟩:=n_m (fs[k]);rw [hf] at g0 g1 s0 s1 fV hU zB;have sV:(k:Int) < (fs.length:Int):=by omega
          unfold plV at fV;clear ah dD ed hxU HI hf;go_wp2_with fail;clear g0 g1 g2 g3 s0 s1 s2 s3 hU;refine fV.out.mono ?_;rintro e w5 ⟨rfl,x5⟩;have Af:=hid (uO.out.trans x5);clear x5 fV uO;go_wp2_with fail
          go_roundw
          case rel=>exact ⟨k+1,by omega,by go_num,Af⟩
          case measure=>simp only [intOf]; omega
        · have sV:¬ (k:Int) < (fs.length:Int):=by omega
          have Na:=hid (X4.out.trans HI.out);have PX:=hid (HQ.out.ext HI.out);obtain ⟨wa,rfl⟩:∃ wa,wa=wr:=⟨wr,rfl⟩;clear HI HQ X4;go_wp2_with fail
          go_loopw [61] (fun iv wr=>∃ k:Nat,k<=Q.length/\iv=.int .i64 k/\Hid (Ext wa wr)) (fun iv _=>Q.length - (intOf iv).toNat)
          case atStart=>exact ⟨0,Nat.zero_le _,rfl,hid (Ext.refl wa)⟩
          case round =>
           obtain ⟨j,hj,rfl,HJ⟩:=hrel
           by_cases KT:j < Q.length
           · obtain ⟨ad,C0,j0,k0,C1,j1,k1,rfl,ah,⟨g0,g1,g2,g3⟩,dD⟩:=(PX.out.ext HJ.out).kid j KT;obtain ⟨ed,aY,ry⟩:=uB.out Q[j] (List.getElem_mem KT);obtain ⟨U,hU⟩:=n_m ((wr.alloc (.cells #[.int .i64 Q[j].lv,.bool Q[j].neg,.slice C0 j0 k0,.slice C1 j1 k1] 35)));have hxU:Ext wr U:=by rw [<- hU]; exact (Ext.refl wr).alloc _
             have hgU:wr.heap.size < U.heap.size:=by rw [<- hU]; simp
             have bG:jb U wr.heap.size Q[j] (.slice C0 j0 k0) (.slice C1 j1 k1):=by rw [<- hU]; exact jb.new wr Q[j] _ _ _
             have iG:=hid bG;obtain ⟨s0,s1,s2,s3⟩:=bG;have fV:=hid (fun (W':World) (hx:Ext U W')=>gad _ (dD.ext (hxU.trans hx)) (Or.inr ⟨ed.can,ed.copy_ (by omega),by have:=ed.dm; omega⟩));rw [Pl.nf_of_can ed.can] at fV;have uO:=hid (HJ.out.trans hxU);obtain ⟨f,hf⟩:=n_m (Q[j]);rw [hf] at g0 g1 s0 s1 fV hU aY ry iG;have E5:¬ l<=f.lv:=by omega
             have pW:¬ f.lv < 1:=by omega
             have Ew:(j:Int) < (Q.length:Int):=by omega
             unfold plV at fV;clear ah dD ed hxU HJ hf aY ry;go_wp2_with fail;clear g0 g1 g2 g3 s0 s1 s2 s3 hU;refine (fV.out _ (Ext.refl U)).mono ?_;rintro e w5 ⟨rfl,x5⟩;have Af:=hid x5;obtain ⟨s0,s1,s2,s3⟩:=iG.out.ext x5 hgU;clear x5 hgU;go_wp2_with fail;clear s0 s1 s2 s3;refine (fV.out _ Af.out).mono ?_;rintro e w6 ⟨rfl,x6⟩;have HX6:=hid (uO.out.trans (Af.out.trans x6));clear x6 fV uO Af;go_wp2_with fail
             go_roundw
             case rel=>exact ⟨j+1,by omega,by go_num,HX6⟩
             case measure=>simp only [intOf]; omega
           · have Ew:¬ (j:Int) < (Q.length:Int):=by omega
             have HXB:=hid (Na.out.trans HJ.out);have HQB:=hid (PX.out.ext HJ.out);clear HJ PX;go_wp2_with fail;refine (lC.out _ HXB.out).mono ?_;rintro e w7 ⟨v7,rfl,⟨D7,c7,rfl,ht1,XH,tH⟩,x7⟩;have Jq:=hid (wb2 (c0:=c4) (c1:=c7) (E:=24) (D:=8 * 5+100) (HQB.out.ext x7) tH (fun x hx=>(uB.out x hx).1) (by omega) (by omega) (by omega));have HX7:=hid (X2.out.trans (HXB.out.trans x7));clear x7 tH lC HXB;go_wp2_with fail;refine Jq.out.mono ?_;rintro e w8 ⟨rfl,x8⟩;have Nb:=hid (HX7.out.trans x8);clear x8 Jq;go_wp2_with fail;go_ret;exact ⟨rfl,Nb.out⟩
end Go.Proofs.YtklnlgnnlmdibaaGreat
