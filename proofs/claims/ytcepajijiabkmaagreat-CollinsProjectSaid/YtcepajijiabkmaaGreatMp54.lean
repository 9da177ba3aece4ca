/- Layer 41: collins.Project. -/
import Derived.Test.YtcepajijiabkmaaGreatMp53
import Derived.Test.YtcepajijiabkmaaGreatMp52
import Derived.Test.YtcepajijiabkmaaGreatMp51
set_option linter.unusedSimpArgs false
set_option linter.unusedVariables false

set_option maxRecDepth 100000
set_option maxHeartbeats 8000000
namespace Go.Proofs.YtcepajijiabkmaaGreat
open Lib (hid)
open Go.RowKit
theorem ua6 {l:Int} {fs:List Pl} {k:Nat} (hk:k < fs.length):zac l (fs.take (k+1))=zac l (fs.take k) ++ if fs[k].lv=l then [fs[k]] else []:=by
 unfold zac;rw [pC hk,uE,sB]
 congr 1
 by_cases h:fs[k].lv=l <;> simp [h]
theorem ya7 {l:Int} {fs:List Pl} {k:Nat} (hk:k < fs.length):uag l (fs.take (k+1))=uag l (fs.take k) ++ if fs[k].lv < l then [fs[k]] else []:=by
 unfold uag;rw [pC hk,uE,sB]
 congr 1
 by_cases h:fs[k].lv < l <;> simp [h]
theorem ua2 {l:Int} (fs:List Pl):(zac l fs).length<=fs.length:=uc _ _
theorem vap {l:Int} (fs:List Pl):(uag l fs).length<=fs.length:=uc _ _
theorem jg.beside {base:Nat} {q:Nat->Prop} {W w4:World} {v:Value} {L:List Pl} {own:Option Nat} (h:jg base q W v L) (hg:W.grownBy w4 own) (hn:∀ v ds,jc W v ds->jc w4 v ds) (hd:∀ R,v.ownBlock=some R->own ≠ some R) (hq:∀ b,q b->own ≠ some b):jg base q w4 v L:=by
 obtain ⟨rs,e,h2,h3⟩:=h;exact ⟨rs,e,h2.xl fun R hR=>rr hg R (h2.own hR).2 (fun e=>hd R hR e.symm),fun r hr=>⟨(h3 r hr).1,PlV.zd hg.size hn (fun b hb hp=>⟨hp,rr hg b hb (fun e=>hq b hp.2 e.symm)⟩) (h3 r hr).2⟩⟩
def yx (base:Nat) (l:Int) (fs:List Pl) (k:Nat) (W:World) (ov lv:Value):Prop:=
 jg base (fun b=>b < base) W ov (zac l (fs.take k))/\jg base (fun b=>b < base) W lv (uag l (fs.take k))/\∀ R,ov.ownBlock=some R->lv.ownBlock ≠ some R
section
variable {base:Nat} {l:Int} {fs:List Pl} {k:Nat} {W:World} {ov lv:Value}
theorem yx.nil (base:Nat) (l:Int) (fs:List Pl) (W:World):yx base l fs 0 W (.slice none 0 0) (.slice none 0 0):=⟨jg.nil _ _ _,jg.nil _ _ _,fun R e=>by cases e⟩
theorem yx.ext {W':World} (h:yx base l fs k W ov lv) (hx:Ext W W'):yx base l fs k W' ov lv:=⟨h.1.ext hx,h.2.1.ext hx,h.2.2⟩
theorem yx.all (h:yx base l fs fs.length W ov lv):jg base (fun b=>b < base) W ov (zac l fs)/\jg base (fun b=>b < base) W lv (uag l fs)/\∀ R,ov.ownBlock=some R->lv.ownBlock ≠ some R:=by
 unfold yx at h
 rwa [pP] at h
variable {q:Nat->Prop} {f:Pl} {A0 A1:Option Addr} {n0 c0 n1 c1:Nat}
theorem yx.qbJ (h:yx base l fs k W ov lv) (hk:k < fs.length) (hf:fs[k]=f) (hl:f.lv=l) (dh:base<=W.heap.size) (hx:PlV W (fun b=>q b/\b < base) f (plV f (.slice A0 n0 c0) (.slice A1 n1 c1))) (hn:fs.length<=1000) :
 ∃ v4 w4,(Builtin.append_ #[31,31] 31 #[ov,.slice (some ⟨W.heap.size,0,none⟩) 1 1]).run Tryz.prog (W.alloc (.cells #[.int .i64 f.lv,.bool f.neg,.slice A0 n0 c0,.slice A1 n1 c1] 33))=.ok v4 w4/\yx base l fs (k+1) w4 v4 lv/\∀ w0,Ext w0 W->w0.heap.size=base->Ext w0 w4:=by
 obtain ⟨h1,h2,h3⟩:=h;have hlen:(zac l (fs.take k)).length<=fs.length:=py (ua2 _) (List.length_take_le' _ _);obtain ⟨v4,w4,ak,hg,iy,ae,ho⟩:=h1.push (x:=f) dh (hx.mono fun b hb=>⟨fun e=>by have:=(h1.own e).1; omega,hb.2⟩) (by omega) 31;refine ⟨v4,w4,ak,⟨?_,?_,fun R hR e=>?_⟩,fun w0 h0 hb=>Below.grown h0.below hg (by omega) (fun j e=>by have:=(h1.own e).1; omega)⟩
 · rw [ua6 hk,hf,if_pos hl]; exact ae
 · rw [ya7 hk,hf,if_neg (by omega),si];exact h2.beside hg iy (fun R hR e=>h3 R e hR) fun b hb e=>by have:=(h1.own e).1; omega
 · rcases ho with ho | ho
   · exact h3 R (ho.symm.trans hR) e
   · have:=(h2.own e).2;rw [ho] at hR; injection hR with hR; omega
theorem yx.qbM (h:yx base l fs k W ov lv) (hk:k < fs.length) (hf:fs[k]=f) (hl:f.lv < l) (dh:base<=W.heap.size) (hx:PlV W (fun b=>q b/\b < base) f (plV f (.slice A0 n0 c0) (.slice A1 n1 c1))) (hn:fs.length<=1000) :
 ∃ v4 w4,(Builtin.append_ #[31,31] 31 #[lv,.slice (some ⟨W.heap.size,0,none⟩) 1 1]).run Tryz.prog (W.alloc (.cells #[.int .i64 f.lv,.bool f.neg,.slice A0 n0 c0,.slice A1 n1 c1] 33))=.ok v4 w4/\yx base l fs (k+1) w4 ov v4/\∀ w0,Ext w0 W->w0.heap.size=base->Ext w0 w4:=by
 obtain ⟨h1,h2,h3⟩:=h;have hlen:(uag l (fs.take k)).length<=fs.length:=py (vap _) (List.length_take_le' _ _);obtain ⟨v4,w4,ak,hg,iy,ae,ho⟩:=h2.push (x:=f) dh (hx.mono fun b hb=>⟨fun e=>by have:=(h2.own e).1; omega,hb.2⟩) (by omega) 31;refine ⟨v4,w4,ak,⟨?_,?_,fun R hR e=>?_⟩,fun w0 h0 hb=>Below.grown h0.below hg (by omega) (fun j e=>by have:=(h2.own e).1; omega)⟩
 · rw [ua6 hk,hf,if_neg (by omega),si];exact h1.beside hg iy (fun R hR e=>h3 R hR e) fun b hb e=>by have:=(h2.own e).1; omega
 · rw [ya7 hk,hf,if_pos hl]; exact ae
 · rcases ho with ho | ho
   · exact h3 R hR (ho.symm.trans e)
   · have:=(h1.own hR).2;rw [ho] at e; injection e with e; omega
theorem yx.none_ (h:yx base l fs k W ov lv) (hk:k < fs.length) (hf:fs[k]=f) (h1:¬ f.lv=l) (h2:¬ f.lv < l):yx base l fs (k+1) W ov lv:=by
 unfold yx;rw [ua6 hk,ya7 hk,hf,if_neg h1,if_neg h2,si,si];exact h
end
theorem ka6 {l:Int} (hl:1<=l) (ag:l<=4) {fs:List Pl} {D:Nat} (jU:∀ f ∈ fs,Fit f 2 D):∀ p ∈ dF l (zac l fs) ++ uag l fs,Fit p 24 (8 * D+100):=fun p hp=>by
 rcases rj.1 hp with hp | hp
 · obtain ⟨e,he,h0,rfl⟩:=kcu.1 hp;exact ual (ka7 hl ag (fun f hf=>jU f (sq.1 hf).1) e he)
 · exact (jU p (sq.1 hp).1).mono (by omega) (by omega)
theorem ja6 {l:Int} (hl:1<=l) (ag:l<=4) {fs:List Pl} {D:Nat} (jU:∀ f ∈ fs,Fit f 2 D) (hn:fs.length<=100):(elems l (zac l fs)).length<=90000/\(dF l (zac l fs)).length<=90000:=by
 have h1:=vcp hl ag (fs:=zac l fs) (D:=D) fun f hf=>jU f (sq.1 hf).1
 have h2:=ua2 (l:=l) fs;have h3:=Re (py h2 hn) (py h2 hn);have h4:=vcu (l:=l) (fs:=zac l fs);omega
theorem ub1 {w:World} {D0:Option Addr} {n c0:Nat} {l:Int} (hl:l < 1\/4 < l) :
 Calls Tryz.prog 22 #[.slice D0 n c0,.int .i64 l] w (xa1 [] w):=by
 have HF:Hid (xa1 [] w (.returned (.slice none 0 0)) w):=hid ⟨_,rfl,kas.nil _ _,Ext.refl w⟩;rcases hl with D8 | Fg
 · go_enter Tryz.func22,Tryz.ntmps22;go_wp2_with fail;exact bodyPost_ret (v:=.slice none 0 0) (by simp [results,Tryz.results22,go_sem]) rfl HF.out
 · have D8:¬ l < 1:=by omega
   go_enter Tryz.func22,Tryz.ntmps22;go_wp2_with fail;exact bodyPost_ret (v:=.slice none 0 0) (by simp [results,Tryz.results22,go_sem]) rfl HF.out
theorem wb1 {w:World} {D c0:Nat} {q:Nat->Prop} {D0:Option Addr} {l:Int} {fs:List Pl} (hl:1<=l) (ag:l<=4) (aK:jd w q fs D0 0) (bZ:fs.length<=c0) (dO:c0<=9223372036854775807) (hn:fs.length<=100) (aF:∀ f ∈ fs,Fit f 2 D) (hD:D<=1000000) :
 Calls Tryz.prog 22 #[.slice D0 fs.length c0,.int .i64 l] w (xa1 (uad (dF l (zac l fs) ++ uag l fs)) w):=by
 have lQ:=hid aK;have iG:=hid aF;have iF:=hid (ja6 hl ag aF hn);have jJ:∀ f ∈ zac l fs,Fit f 2 D:=fun f hf=>aF f (sq.1 hf).1
 have qY:=hid (fun (W':World) (A:Option Addr) (c:Nat) (q:Nat->Prop) (ha:jd W' q (zac l fs) A 0) (h1:(zac l fs).length<=c) (h2:c<=9223372036854775807)=>zbh (w:=W') hl ag ha h1 h2 (by have:=ua2 (l:=l) fs; omega) jJ (by omega) (by omega) (hid (jbo hl ag jJ (by omega))) (ka7 hl ag jJ) (by omega) (by omega) (ja6 hl ag aF hn).1);have Pz:=hid (ka6 hl ag aF);have D8:¬ l < 1:=by omega
 have Fg:¬ 4 < l:=by omega
 have uC:fs.length<=1000:=by omega
 clear aK aF jJ;go_enter Tryz.func22,Tryz.ntmps22;go_wp2_with fail
 go_loopw [5,6,18] (fun ov lv iv wr=>∃ k:Nat,k<=fs.length/\iv=.int .i64 k/\Hid (yx w.heap.size l fs k wr ov lv/\Ext w wr)) (fun _ _ iv _=>fs.length - (intOf iv).toNat)
 case atStart=>exact ⟨0,pS _,rfl,hid ⟨yx.nil _ _ _ _,Ext.refl w⟩⟩
 case round =>
  obtain ⟨k,hk,rfl,HI⟩:=hrel;obtain ⟨OA,oc,rfl,ry,vC⟩:=HI.out.1.1.len;obtain ⟨LA,lc,rfl,dP,dC⟩:=HI.out.1.2.1.len
  by_cases af:k < fs.length
  · obtain ⟨ad,C0,j0,k0,C1,j1,k1,rfl,ah,CU,BU⟩:=lQ.out.ym k af;obtain ⟨g0,g1,g2,g3⟩:=CU.ext HI.out.2 (by rw [ja]; exact ah);have fP:=BU.xo.ext HI.out.2;have fU:=iG.out fs[k] (pt af);have Io:=HI.out.2.size;obtain ⟨U,hU⟩:=n_m ((wr.alloc (.cells #[.int .i64 fs[k].lv,.bool fs[k].neg,.slice C0 j0 k0,.slice C1 j1 k1] 33)));have hxU:Ext wr U:=by rw [<- hU]; exact (Ext.refl wr).alloc _
    have EQ:wr.heap.size < U.heap.size:=by rw [<- hU]; simp
    have HB:Hid (jb U wr.heap.size fs[k] (.slice C0 j0 k0) (.slice C1 j1 k1)):=hid (by rw [<- hU]; exact jb.new wr fs[k] _ _ _);obtain ⟨s0,s1,s2,s3⟩:=HB.out;have nK:=hid (ga2 (w:=U) _ (fP.ext hxU) (Or.inr ⟨fU.can,fU.copy_ (by omega),by have:=fU.dm; omega⟩));rw [Pl.q7 fU.can] at nK;have Em:=hid (HI.out.2.trans hxU);have xP:=hid (HI.out.1.ext hxU);have xW:=hid (fP.ext hxU);obtain ⟨f,hf⟩:=n_m (fs[k]);rw [hf] at g0 g1 s0 s1 nK xW HB hU;have HF:=hid hf;have Hr:(k:Int) < (fs.length:Int):=by omega
    unfold plV at nK;clear ah CU BU fP fU hxU HI hf;go_wp2_with fail;clear g0 g1 g2 g3 s0 s1 s2 s3 hU;refine nK.out.mono ?_;rintro e w2 ⟨rfl,x2⟩;obtain ⟨s0,s1,s2,s3⟩:=HB.out.ext x2 EQ;have oP:=hid (Em.out.trans x2);have aY:=hid (xP.out.ext x2);have Na:=hid (xW.out.ext x2);clear x2 nK Em xP xW HB
    by_cases h1:f.lv=l
    · have c1:(f.lv == l)=true:=by simpa using h1
      obtain ⟨v4,w4,ak,uA,jM⟩:=aY.out.qbJ af HF.out h1 oP.out.size Na.out uC;have HN:=hid (And.intro uA (jM _ oP.out rfl));clear uA jM h1 ry vC dP dC Io EQ
      go_wp2_with (at_builtin
                   refine wpList_append_run rfl (.tmp 28) (.tmp 30) _ _ rfl _ _ _ _ rfl rfl ak ?_)
      go_roundw
      case rel=>exact ⟨k+1,by omega,by go_num,HN⟩
      case measure=>simp only [intOf]; omega
    · have c1:(f.lv == l)=false:=by simpa using h1
      by_cases h2:f.lv < l
      · obtain ⟨v4,w4,ak,uA,jM⟩:=aY.out.qbM af HF.out h2 oP.out.size Na.out uC;have HN:=hid (And.intro uA (jM _ oP.out rfl));clear uA jM h1 ry vC dP dC Io EQ
        go_wp2_with (at_builtin
                     refine wpList_append_run rfl (.tmp 36) (.tmp 38) _ _ rfl _ _ _ _ rfl rfl ak ?_)
        go_roundw
        case rel=>exact ⟨k+1,by omega,by go_num,HN⟩
        case measure=>simp only [intOf]; omega
      · have HN:=hid (And.intro (aY.out.none_ af HF.out h1 h2) oP.out);clear h1 ry vC dP dC Io EQ;go_wp2_with fail
        go_roundw
        case rel=>exact ⟨k+1,by omega,by go_num,HN⟩
        case measure=>simp only [intOf]; omega
  · obtain rfl:k=fs.length:=by omega
    have HS:=hid HI.out.1.all;have HX:=hid HI.out.2;rw [pP] at ry dP ⊢;rw [pP] at HS;clear HI;have HR:=hid (qY.out wr OA oc _ HS.out.1.at_ ry vC);clear qY;go_wp2_with fail;refine HR.out.mono ?_;rintro e w2 ⟨v2,rfl,qM,x2⟩;have kV:jd w2 (fun b=>v2.ownBlock ≠ some b/\True) (uag l fs) LA 0:=jd.xl x2.size (fun v ds hv=>hv.ext x2) (fun b hb _=>⟨⟨fun e=>by have:=(qM.own e).1; omega,trivial⟩,x2.below.block b hb⟩) _ _ _ HS.out.2.1.at_;obtain ⟨v4,w4,ak,nT,iy,ae,nC⟩:=(qM.mono (q':=fun _=>True) fun _ _=>trivial).append x2.size kV (by have:=iF.out.2; have:=vap (l:=l) fs; omega) lc 31;obtain ⟨RA,rc,rfl,qL,fJ⟩:=qM.len;have jM:Ext w w4:=HX.out.trans (Below.grown x2.below nT x2.size (fun j e=>(qM.own e).1));have jH:(dF l (zac l fs) ++ uag l fs).length<=1000000:=by rw [ra]; have:=iF.out.2; have:=vap (l:=l) fs; omega
    clear kV nT iy nC qM;obtain ⟨PL,OQ⟩:=n_m (dF l (zac l fs) ++ uag l fs);rw [OQ] at ae Pz jH;have VG:=hid OQ;obtain ⟨FA,fc,rfl,kE,lY⟩:=ae.len;have Ah:=hid (zbj (w:=w4) (c0:=fc) ae.at_ jH Pz.out (by omega) (by omega));have IV:=hid jM;obtain ⟨M,hM⟩:=n_m (uad PL);rw [hM] at Ah;have HME:=hid hM;clear jM ae jH x2 HR HS ry vC dP dC qL fJ kE lY OQ hM
    go_wp2_with (at_builtin
                 refine wpList_append_run rfl (.tmp 43) (.tmp 44) _ _ rfl _ _ _ _ rfl rfl ak ?_)
    refine Ah.out.mono ?_;rintro e w5 ⟨v5,rfl,⟨E5,e5,rfl,iI,iH,hz⟩,x5⟩;have iM:Hid (xa1 (uad (dF l (zac l fs) ++ uag l fs)) w (.returned (.slice E5 M.length e5)) w5):=hid (by rw [VG.out,HME.out]; exact ⟨_,rfl,(show kas w5 (fun b=>w4.heap.size<=b) _ _ from ⟨E5,e5,rfl,iI,iH,hz⟩).mono (fun b hb=>by have:=IV.out.size; omega),IV.out.trans x5⟩);clear hz x5 Ah ak;go_wp2_with fail;exact bodyPost_ret (v:=.slice E5 M.length e5) (by simp [results,Tryz.results22,go_sem]) rfl iM.out
def ybn (w:World) (v:Value) (L:List (List kaf)):Prop:=∃ A c,v=.slice A L.length c/\L.length<=c/\c<=9223372036854775807/\∀ i (hi:i < L.length),∃ ad u,A=some ad/\ad.block < w.heap.size/\w.cell? (ad.add i)=some u/\uaq w u L[i]
theorem ybn.ext {w w':World} {v:Value} {L:List (List kaf)} (h:ybn w v L) (hx:Ext w w'):ybn w' v L:=by
 obtain ⟨A,c,e,h1,h2,h3⟩:=h;refine ⟨A,c,e,h1,h2,fun i hi=>?_⟩;obtain ⟨ad,u,e,hb,hc,ht⟩:=h3 i hi;exact ⟨ad,u,e,pw hb hx.size,(hx.cell (p:=ad.add i) (by rw [ja]; exact hb)).trans hc,ht.ext hx⟩
def zci (most:Nat) (w:World) (e:Ending) (w':World):Prop:=∃ b rv fs,e=.returned (.tuple #[rv,.bool b])/\(b=true->fs.length<=most/\∀ f ∈ fs,Fit f 2 5)/\kas w' (fun _=>True) rv fs/\Ext w w'
theorem ycf {w:World} {v:Value} {L:List (List kaf)} (most:Nat) (h:ybn w v L) (hm:most<=1000) :
 Calls Tryz.prog 21 #[v,.int .i64 most] w (zci most w):=by
 have H0:=hid h;obtain ⟨A,c,rfl,bZ,dO,lZ⟩:=h;have Jo:=hid lZ;have XW:Hid (∀ W',Ext w W'->zci most w (.returned (.tuple #[.slice none 0 0,.bool false])) W'):=hid (fun W' hx=>⟨false,_,[],rfl,(fun h=>by cases h),⟨none,0,rfl,by simp,by omega,by unfold jd; trivial⟩,hx⟩);obtain ⟨n0,gX⟩:=n_m (L.length);have rH:=hid gX;rw [gX] at bZ ⊢;clear lZ gX
 by_cases RJ:most < n0
 · have hmi:(most:Int) < (n0:Int):=by omega
   go_enter Tryz.func21,Tryz.ntmps21;go_wp2_with fail;exact bodyPost_ret (v:=.tuple #[.slice none 0 0,.bool false]) (by simp [results,Tryz.results21,go_sem]) rfl (XW.out _ (Ext.refl w))
 · have hmi:¬ (most:Int) < (n0:Int):=by omega
   go_enter Tryz.func21,Tryz.ntmps21;go_wp2_with fail
   go_loopw [6,15] (fun rv iv wr=>∃ (k:Nat) (fs:List Pl),k<=n0/\iv=.int .i64 k/\Hid (fs.length=k/\(∀ f ∈ fs,Fit f 2 5)/\jg w.heap.size (fun _=>True) wr rv fs/\Ext w wr)) (fun _ iv _=>n0 - (intOf iv).toNat)
   case atStart=>exact ⟨0,[],pS _,rfl,hid ⟨rfl,(fun f hf=>by cases hf),jg.nil _ _ _,Ext.refl w⟩⟩
   case round =>
    obtain ⟨k,fs,hk,rfl,HI⟩:=hrel;obtain ⟨kD,aF,ae,hx⟩:=HI.out
    by_cases af:k < n0
    · have fM:k < L.length:=by rw [rH.out]; exact af
      obtain ⟨ad,u,rfl,ah,Xt,WY⟩:=Jo.out k fM;obtain ⟨ts,AQ⟩:=n_m (L[k]);rw [AQ] at WY;have HTU:=hid WY;have Wi:=hid (wco 4 2 (WY.ext hx));have g0:=(hx.cell (p:=ad.add k) (by rw [ja]; exact ah)).trans Xt;have Hr:(k:Int) < (n0:Int):=by omega
      have HR:=hid ae;have HX:=hid hx;have iG:=hid (And.intro kD aF);obtain ⟨TA,tc,rfl,ht1,ZH,-⟩:=WY;clear kD aF ae hx ah Xt AQ HI fM;go_wp2_with fail;clear g0;refine Wi.out.mono ?_;rintro e w2 ⟨b,rfl,hb,x2⟩;have X2:=hid (HX.out.trans x2);have zZ:=hid (HR.out.ext x2);clear x2 Wi HR HX;cases b with
      | false =>
        go_wp2_with fail;exact bodyPost_ret (v:=.tuple #[.slice none 0 0,.bool false]) (by simp [results,Tryz.results21,go_sem]) rfl (XW.out _ X2.out)
      | true =>
        obtain ⟨hn,hf⟩:=hb rfl;have Jd:=hid (vcm (n:=4) (d:=4) (E:=2) _ (HTU.out.ext X2.out) hf hn (by omega) (by omega) (by omega));have PK:=hid (zb9 (n:=4) (d:=4) (E:=2) HTU.out.dig hf hn (by omega)).1;generalize Pl.jz (jag ts)=f at *;clear hb hn hf HTU;go_wp2_with fail;refine Jd.out.mono ?_;rintro e w3 ⟨v3,rfl,p3,x3⟩;obtain ⟨A0,m0,e0,B0,f0,rfl,-⟩:=id p3.open_;have kQ:=zZ.out.ext x3;have rU:=X2.out.trans x3;obtain ⟨v4,w4,ak,nT,iy,dN,nC⟩:=kQ.push (x:=f) rU.size (p3.mono fun b hb=>⟨fun e=>by have:=(zZ.out.own e).2; omega,trivial⟩) (by rw [iG.out.1]; omega) 31;obtain ⟨RA,rc,rfl,qL,fJ⟩:=kQ.len;have jM:Ext w w4:=Below.grown rU.below nT rU.size (fun j e=>(kQ.own e).1);have HN:Hid ((fs ++ [f]).length=k+1/\(∀ g ∈ fs ++ [f],Fit g 2 5)/\jg w.heap.size (fun _=>True) w4 v4 (fs ++ [f])/\Ext w w4):=hid ⟨by rw [ra,iG.out.1]; rfl,fun g hg=>by
         rw [rj,pD] at hg;rcases hg with hg | rfl
         · exact iG.out.2 g hg
         · exact PK.out,dN,jM⟩
        clear kQ rU nT iy dN nC jM p3 x3 Jd qL fJ;unfold plV
        go_wp2_with (at_builtin
                     refine wpList_append_run rfl (.tmp 22) (.tmp 25) _ _ rfl _ _ _ _ rfl rfl ak ?_)
        go_roundw
        case rel=>exact ⟨k+1,fs ++ [f],by omega,by go_num,HN⟩
        case measure=>simp only [intOf]; omega
    · have df:k=n0:=by omega
      have Hr:¬ (k:Int) < (n0:Int):=by omega
      obtain ⟨RA,rc,rfl,qL,fJ⟩:=ae.len;have HF:Hid (zci most w (.returned (.tuple #[.slice RA fs.length rc,.bool true])) wr):=hid ⟨true,_,fs,rfl,fun _=>⟨by omega,aF⟩,⟨RA,rc,rfl,qL,fJ,jd.xl (pj _) (fun _ _ h=>h) (fun b _ _=>⟨trivial,rfl⟩) _ _ _ ae.at_⟩,hx⟩;clear kD aF ae hx HI df;go_wp2_with fail;exact bodyPost_ret (v:=.tuple #[.slice RA fs.length rc,.bool true]) (by simp [results,Tryz.results21,go_sem]) rfl HF.out
theorem ya5 {P : Program} {ops : Array Oper} {rest : List Oper} {o : Oper} {a : Act} {w : World} {Q : Exit -> Act -> World -> Prop} (jB : Region.wanted o (yielded ops a.tmps) = true) (s x : Operand) (t t' : TypeId)
 (ho:o.op=.call { callee:=.builtin .append,args:=#[s,x],argTypes:=#[t,t'] }) (vs vx v':Value) (w':World) (hs:a.eval s=vs) (hx:a.eval x=vx) (hr:(Builtin.append_ #[t,t'] o.type #[vs,vx]).run P w=.ok v' w')
 (h:wpList P ops Q rest (a.put o.dst v') w'):wpList P ops Q (o :: rest) a w:=by
 refine wpList_step fun K hK=>?_
 rw [if_pos jB];unfold Oper.wp execOp;simp only [ho,resolve,invoke,builtin,SO,Sem.run_pure,PF,List.map_toArray,sr,SP,hs,hx,hr];exact hK _ _ h
theorem qbm {w:World} {L:List (List kaf)} {l:Int} (v:Value) (h:ybn w v L):Calls Tryz.prog 4 #[v,.int .i64 l] w (vao true w):=by
 have HLS:=hid (fun W' (hx:Ext w W')=>ycf 3 (h.ext hx) (by omega));obtain ⟨A,c,rfl,bZ,dO,-⟩:=h;go_enter Tryz.func4,Tryz.ntmps4;go_wp2_with fail;refine (gco w).mono ?_;rintro e w1 ⟨rfl,x1⟩;have X1:=hid x1;clear x1;go_wp2_with fail;refine (HLS.out _ X1.out).mono ?_;rintro e w2 ⟨b,rv,fs,rfl,hb,⟨FA,fc,rfl,kE,lY,aK⟩,x2⟩;have X2:=hid (X1.out.trans x2);clear x2 HLS;cases b with
 | false =>
   go_wp2_with fail;go_ret;exact ⟨rfl,X2.out⟩
 | true =>
   obtain ⟨hn,jU⟩:=hb rfl;have NL:=hid aK;have iG:=hid jU;clear hb aK bZ dO
   by_cases hl:l < 1\/4 < l
   · have HR:=hid (ub1 (w:=w2) (D0:=FA) (n:=fs.length) (c0:=fc) hl);clear jU;go_wp2_with fail;refine HR.out.mono ?_;rintro e w4 ⟨v4,rfl,⟨D4,c4,rfl,-,-,-⟩,x4⟩;have X4:=hid (X2.out.trans x4);simp only [r8];clear x4 HR;rcases hl with hl | hl
     · go_wp2_with fail;go_ret;exact ⟨rfl,X4.out⟩
     · have aa1:¬ l < 1:=by omega
       go_wp2_with fail;go_ret;exact ⟨rfl,X4.out⟩
   · have Ef:1<=l:=by omega
     have LX:l<=4:=by omega
     have aa1:¬ l < 1:=by omega
     have aju:¬ 4 < l:=by omega
     have uC:fs.length<=1000:=by omega
     have HR:=hid (wb1 Ef LX NL.out kE lY (by omega) jU (by omega));have Pz:=hid (ka6 Ef LX jU);have iF:=hid (ja6 Ef LX jU (by omega));obtain ⟨M,hM⟩:=n_m (uad (dF l (zac l fs) ++ uag l fs));have HMF:Hid ((∀ p ∈ M,Fit p 24 (8 * 5+100))/\M.length<=1000000):=hid (by
      rw [<- hM];refine ⟨ycz (ka6 Ef LX jU),py (zcz _) ?_⟩;rw [ra];have:=iF.out.2;have:=vap (l:=l) fs
      omega)
     rw [hM] at HR;have HM:=hid hM;clear hl jU hM;go_wp2_with fail;refine HR.out.mono ?_;rintro e w3 ⟨v3,rfl,⟨D3,c3,rfl,pW,wR,yP⟩,x3⟩;have X3:=hid (X2.out.trans x3);have ads:=hid yP;have lQ:=hid (NL.out.ext x3);clear x3 HR yP NL;go_wp2_with fail
     go_loopw [8,9,38] (fun ov lv iv wr=>∃ k:Nat,k<=fs.length/\iv=.int .i64 k/\Hid (yx w3.heap.size l fs k wr ov lv/\Ext w3 wr)) (fun _ _ iv _=>fs.length - (intOf iv).toNat)
     case atStart=>exact ⟨0,pS _,rfl,hid ⟨yx.nil _ _ _ _,Ext.refl w3⟩⟩
     case round =>
      obtain ⟨k,hk,rfl,HI⟩:=hrel;obtain ⟨OA,oc,rfl,ry,vC⟩:=HI.out.1.1.len;obtain ⟨LA,lc,rfl,dP,dC⟩:=HI.out.1.2.1.len
      by_cases af:k < fs.length
      · obtain ⟨ad,C0,j0,k0,C1,j1,k1,rfl,ah,CU,BU⟩:=lQ.out.ym k af;obtain ⟨g0,g1,g2,g3⟩:=CU.ext HI.out.2 (by rw [ja]; exact ah);have fP:=BU.xo.ext HI.out.2;have fU:=iG.out fs[k] (pt af);have Io:=HI.out.2.size;obtain ⟨U,hU⟩:=n_m ((wr.alloc (.cells #[.int .i64 fs[k].lv,.bool fs[k].neg,.slice C0 j0 k0,.slice C1 j1 k1] 33)));have hxU:Ext wr U:=by rw [<- hU]; exact (Ext.refl wr).alloc _
        have EQ:wr.heap.size < U.heap.size:=by rw [<- hU]; simp
        have HB:Hid (jb U wr.heap.size fs[k] (.slice C0 j0 k0) (.slice C1 j1 k1)):=hid (by rw [<- hU]; exact jb.new wr fs[k] _ _ _);obtain ⟨s0,s1,s2,s3⟩:=HB.out;have nK:=hid (ga2 (w:=U) _ (fP.ext hxU) (Or.inr ⟨fU.can,fU.copy_ (by omega),by have:=fU.dm; omega⟩));rw [Pl.q7 fU.can] at nK;have Em:=hid (HI.out.2.trans hxU);have xP:=hid (HI.out.1.ext hxU);have xW:=hid (fP.ext hxU);obtain ⟨f,hf⟩:=n_m (fs[k]);rw [hf] at g0 g1 s0 s1 nK xW HB hU;have HF:=hid hf;have Hr:(k:Int) < (fs.length:Int):=by omega
        unfold plV at nK;clear ah CU BU fP fU hxU HI hf;go_wp2_with fail;clear g0 g1 g2 g3 s0 s1 s2 s3 hU;refine nK.out.mono ?_;rintro e w2 ⟨rfl,x2⟩;obtain ⟨s0,s1,s2,s3⟩:=HB.out.ext x2 EQ;have oP:=hid (Em.out.trans x2);have aY:=hid (xP.out.ext x2);have Na:=hid (xW.out.ext x2);clear x2 nK Em xP xW HB
        by_cases h1:f.lv=l
        · have c1:(f.lv == l)=true:=by simpa using h1
          obtain ⟨v4,w4,ak,uA,jM⟩:=aY.out.qbJ af HF.out h1 oP.out.size Na.out uC;have HN:=hid (And.intro uA (jM _ oP.out rfl));clear uA jM h1 ry vC dP dC Io EQ
          go_wp2_with (at_builtin
                       refine wpList_append_run rfl (.tmp 48) (.tmp 50) _ _ rfl _ _ _ _ rfl rfl ak ?_)
          go_roundw
          case rel=>exact ⟨k+1,by omega,by go_num,HN⟩
          case measure=>simp only [intOf]; omega
        · have c1:(f.lv == l)=false:=by simpa using h1
          by_cases h2:f.lv < l
          · obtain ⟨v4,w4,ak,uA,jM⟩:=aY.out.qbM af HF.out h2 oP.out.size Na.out uC;have HN:=hid (And.intro uA (jM _ oP.out rfl));clear uA jM h1 ry vC dP dC Io EQ
            go_wp2_with (at_builtin
                         refine wpList_append_run rfl (.tmp 56) (.tmp 58) _ _ rfl _ _ _ _ rfl rfl ak ?_)
            go_roundw
            case rel=>exact ⟨k+1,by omega,by go_num,HN⟩
            case measure=>simp only [intOf]; omega
          · have HN:=hid (And.intro (aY.out.none_ af HF.out h1 h2) oP.out);clear h1 ry vC dP dC Io EQ;go_wp2_with fail
            go_roundw
            case rel=>exact ⟨k+1,by omega,by go_num,HN⟩
            case measure=>simp only [intOf]; omega
      · obtain rfl:k=fs.length:=by omega
        have HS:=hid HI.out.1.all;have HX:=hid HI.out.2;rw [pP] at ry dP ⊢;rw [pP] at HS;clear HI;have jJ:∀ f ∈ zac l fs,Fit f 2 5:=fun f hf=>iG.out f (sq.1 hf).1
        have zZ:=hid (kbc Ef LX HS.out.1.at_ ry vC (by have:=ua2 (l:=l) fs; omega) jJ (by omega) (by omega) (hid (jbo Ef LX jJ (by omega))) (ka7 Ef LX jJ) (by omega) (by omega) iF.out.1 (fun f hf=>Int.le_of_eq (of_decide_eq_true (sq.1 hf).2)));clear jJ;go_wp2_with fail;refine zZ.out.mono ?_;rintro e w4 ⟨v4,rfl,⟨D4,c4,rfl,D7,qM,yO⟩,x4⟩;have QP:jd w4 (fun b=>(Value.slice LA (uag l fs).length lc).ownBlock ≠ some b/\True) (dF l (zac l fs)) D4 0:=jd.xl (pj _) (fun _ _ h=>h) (fun b _ hb=>⟨⟨fun e=>by have:=(HS.out.2.1.own e).2; omega,trivial⟩,rfl⟩) _ _ _ yO;have EI:=HX.out.trans x4;obtain ⟨v5,w5,ak,KJ,RF,jP,yQ⟩:=((HS.out.2.1.ext x4).mono (q':=fun _=>True) (fun _ _=>trivial)).append EI.size QP (by have:=iF.out.2; have:=vap (l:=l) fs; omega) c4 31;have tZ:Ext w3 w5:=Below.grown EI.below KJ EI.size (fun j e=>(HS.out.2.1.own e).1);have jH:(uag l fs ++ dF l (zac l fs)).length<=1000000:=by rw [ra]; have:=iF.out.2; have:=vap (l:=l) fs; omega
        have G9:∀ p ∈ uag l fs ++ dF l (zac l fs),Fit p 24 (8 * 5+100):=fun p hp=>Pz.out p (by simp only [rj] at hp ⊢; exact Or.comm.1 hp)
        have hME:uad (uag l fs ++ dF l (zac l fs))=M:=by rw [ycp]; exact HM.out
        obtain ⟨PL,OQ⟩:=n_m (uag l fs ++ dF l (zac l fs));rw [OQ] at jP jH G9 hME;obtain ⟨FA5,fc5,rfl,aaU,aaT⟩:=jP.len;have Ah:=hid (zbj (w:=w5) (c0:=fc5) jP.at_ jH G9 (by omega) (by omega));rw [hME] at Ah;have Pi:=hid tZ;clear tZ EI QP KJ RF jP yQ x4 yO zZ HS D7 qM ry vC dP dC aaU aaT OQ hME jH G9
        go_wp2_with (at_builtin
                     refine ya5 (by rfl) (.tmp 71) (.tmp 72) _ _ rfl _ _ _ _ rfl rfl ak ?_)
        refine Ah.out.mono ?_;rintro e w6 ⟨v6,rfl,⟨D6,c6,rfl,iI,iH,hz⟩,x6⟩;have HX6:=hid (Pi.out.trans x6);have MQ:=hid (ycd (ads.out.ext HX6.out) hz HMF.out.1 (by omega) (by omega) HMF.out.2 (c0:=c3) (c1:=c6));clear hz x6 Ah ak;go_wp2_with fail;refine MQ.out.mono ?_;rintro e w7 ⟨rfl,x7⟩;have iM:=hid (X3.out.trans (HX6.out.trans x7));clear x7 MQ;go_wp2_with fail;go_ret;exact ⟨rfl,iM.out⟩
end Go.Proofs.YtcepajijiabkmaaGreat
