/- CollinsOrder: for every list of sums of terms and every level the statement answers true, and the arguments stay as they are. No condition. -/
import Derived.Test.YtcepajijiabkmaaGreatMo43
import Derived.Deep.Slices
import Derived.OpenShut
import Derived.ProofKit
set_option linter.all false
set_option maxRecDepth 100000
set_option maxHeartbeats 8000000
namespace Go.Proofs.YtcepajijiabkmaaGreat
open Lib (hid)
open Go.RowKit
theorem ua8 {l:Int} {fs:List Pl} {k:Nat} (hk:k < fs.length):jq l (fs.take (k+1))=jq l (fs.take k) ++ if fs[k].lv=l then [fs[k]] else []:=by
 unfold jq;rw [pC hk,tL,rR]
 congr 1
 by_cases h:fs[k].lv=l <;> simp [h]
theorem ya9 {l:Int} {fs:List Pl} {k:Nat} (hk:k < fs.length):yw l (fs.take (k+1))=yw l (fs.take k) ++ if fs[k].lv < l then [fs[k]] else []:=by
 unfold yw;rw [pC hk,tL,rR]
 congr 1
 by_cases h:fs[k].lv < l <;> simp [h]
theorem wbg {l:Int} (fs:List Pl):(jq l fs).length<=fs.length:=uE _ _
theorem ua4 {l:Int} (fs:List Pl):(yw l fs).length<=fs.length:=uE _ _
theorem xg.beside {base:Nat} {q:Nat->Prop} {W w4:World} {v:Value} {L:List Pl} {own:Option Nat} (h:xg base q W v L) (hg:W.grownBy w4 own) (hn:∀ v ds,jc W v ds->jc w4 v ds) (hd:∀ R,v.ownBlock=some R->own ≠ some R) (hq:∀ b,q b->own ≠ some b):xg base q w4 v L:=by
 obtain ⟨rs,e,h2,h3⟩:=h;exact ⟨rs,e,h2.xl fun R hR=>rz hg R (h2.own hR).2 (fun e=>hd R hR e.symm),fun r hr=>⟨(h3 r hr).1,PlV.zd hg.size hn (fun b hb hp=>⟨hp,rz hg b hb (fun e=>hq b hp.2 e.symm)⟩) (h3 r hr).2⟩⟩
def gaa (base:Nat) (l:Int) (fs:List Pl) (k:Nat) (W:World) (ov lv:Value):Prop:=
 xg base (fun b=>b < base) W ov (jq l (fs.take k))/\xg base (fun b=>b < base) W lv (yw l (fs.take k))/\∀ R,ov.ownBlock=some R->lv.ownBlock ≠ some R
section
variable {base:Nat} {l:Int} {fs:List Pl} {k:Nat} {W:World} {ov lv:Value}
theorem gaa.nil (base:Nat) (l:Int) (fs:List Pl) (W:World):gaa base l fs 0 W (.slice none 0 0) (.slice none 0 0):=⟨xg.nil _ _ _,xg.nil _ _ _,fun R e=>by cases e⟩
theorem gaa.ext {W':World} (h:gaa base l fs k W ov lv) (hx:Ext W W'):gaa base l fs k W' ov lv:=⟨h.1.ext hx,h.2.1.ext hx,h.2.2⟩
theorem gaa.all (h:gaa base l fs fs.length W ov lv):xg base (fun b=>b < base) W ov (jq l fs)/\xg base (fun b=>b < base) W lv (yw l fs)/\∀ R,ov.ownBlock=some R->lv.ownBlock ≠ some R:=by
 unfold gaa at h
 rwa [pQ] at h
variable {q:Nat->Prop} {f:Pl} {A0 A1:Option Addr} {n0 c0 n1 c1:Nat}
theorem gaa.qbP (h:gaa base l fs k W ov lv) (hk:k < fs.length) (hf:fs[k]=f) (hl:f.lv=l) (di:base<=W.heap.size) (hx:PlV W (fun b=>q b/\b < base) f (plV f (.slice A0 n0 c0) (.slice A1 n1 c1))) (hn:fs.length<=1000) :
 ∃ v4 w4,(Builtin.append_ #[31,31] 31 #[ov,.slice (some ⟨W.heap.size,0,none⟩) 1 1]).run Tryz.prog (W.alloc (.cells #[.int .i64 f.lv,.bool f.neg,.slice A0 n0 c0,.slice A1 n1 c1] 33))=.ok v4 w4/\gaa base l fs (k+1) w4 v4 lv/\∀ w0,Ext w0 W->w0.heap.size=base->Ext w0 w4:=by
 obtain ⟨h1,h2,h3⟩:=h;have hlen:(jq l (fs.take k)).length<=fs.length:=py (wbg _) (List.length_take_le' _ _);obtain ⟨v4,w4,ak,hg,iE,ae,ho⟩:=h1.push (x:=f) di (hx.mono fun b hb=>⟨fun e=>by have:=(h1.own e).1; omega,hb.2⟩) (by omega) 31;refine ⟨v4,w4,ak,⟨?_,?_,fun R hR e=>?_⟩,fun w0 h0 hb=>Below.grown h0.below hg (by omega) (fun j e=>by have:=(h1.own e).1; omega)⟩
 · rw [ua8 hk,hf,if_pos hl]; exact ae
 · rw [ya9 hk,hf,if_neg (by omega),sq];exact h2.beside hg iE (fun R hR e=>h3 R e hR) fun b hb e=>by have:=(h1.own e).1; omega
 · rcases ho with ho | ho
   · exact h3 R (ho.symm.trans hR) e
   · have:=(h2.own e).2;rw [ho] at hR; injection hR with hR; omega
theorem gaa.qbR (h:gaa base l fs k W ov lv) (hk:k < fs.length) (hf:fs[k]=f) (hl:f.lv < l) (di:base<=W.heap.size) (hx:PlV W (fun b=>q b/\b < base) f (plV f (.slice A0 n0 c0) (.slice A1 n1 c1))) (hn:fs.length<=1000) :
 ∃ v4 w4,(Builtin.append_ #[31,31] 31 #[lv,.slice (some ⟨W.heap.size,0,none⟩) 1 1]).run Tryz.prog (W.alloc (.cells #[.int .i64 f.lv,.bool f.neg,.slice A0 n0 c0,.slice A1 n1 c1] 33))=.ok v4 w4/\gaa base l fs (k+1) w4 ov v4/\∀ w0,Ext w0 W->w0.heap.size=base->Ext w0 w4:=by
 obtain ⟨h1,h2,h3⟩:=h;have hlen:(yw l (fs.take k)).length<=fs.length:=py (ua4 _) (List.length_take_le' _ _);obtain ⟨v4,w4,ak,hg,iE,ae,ho⟩:=h2.push (x:=f) di (hx.mono fun b hb=>⟨fun e=>by have:=(h2.own e).1; omega,hb.2⟩) (by omega) 31;refine ⟨v4,w4,ak,⟨?_,?_,fun R hR e=>?_⟩,fun w0 h0 hb=>Below.grown h0.below hg (by omega) (fun j e=>by have:=(h2.own e).1; omega)⟩
 · rw [ua8 hk,hf,if_neg (by omega),sq];exact h1.beside hg iE (fun R hR e=>h3 R hR e) fun b hb e=>by have:=(h2.own e).1; omega
 · rw [ya9 hk,hf,if_pos hl]; exact ae
 · rcases ho with ho | ho
   · exact h3 R hR (ho.symm.trans e)
   · have:=(h1.own hR).2;rw [ho] at e; injection e with e; omega
theorem gaa.none_ (h:gaa base l fs k W ov lv) (hk:k < fs.length) (hf:fs[k]=f) (h1:¬ f.lv=l) (h2:¬ f.lv < l):gaa base l fs (k+1) W ov lv:=by
 unfold gaa;rw [ua8 hk,ya9 hk,hf,if_neg h1,if_neg h2,sq,sq];exact h
end
theorem jbr {l:Int} (hl:1<=l) (ag:l<=4) {fs:List Pl} {D:Nat} (lC:∀ f ∈ fs,Fit f 2 D):∀ p ∈ dF l (jq l fs) ++ yw l fs,Fit p 24 (8 * D+100):=fun p hp=>by
 rcases pT.1 hp with hp | hp
 · obtain ⟨e,he,h0,rfl⟩:=ybg.1 hp;exact uam (kaz hl ag (fun f hf=>lC f (sw.1 hf).1) e he)
 · exact (lC p (sw.1 hp).1).mono (by omega) (by omega)
theorem qa8 {l:Int} (hl:1<=l) (ag:l<=4) {fs:List Pl} {D:Nat} (lC:∀ f ∈ fs,Fit f 2 D) (hn:fs.length<=100):(elems l (jq l fs)).length<=90000/\(dF l (jq l fs)).length<=90000:=by
 have h1:=ucu hl ag (fs:=jq l fs) (D:=D) fun f hf=>lC f (sw.1 hf).1
 have h2:=wbg (l:=l) fs;have h3:=RB (py h2 hn) (py h2 hn);have h4:=yc0 (l:=l) (fs:=jq l fs);omega
theorem yba {w:World} {D0:Option Addr} {n c0:Nat} {l:Int} (hl:l < 1\/4 < l) :
 Calls Tryz.prog 22 #[.slice D0 n c0,.int .i64 l] w (ya3 [] w):=by
 have HF:Hid (ya3 [] w (.returned (.slice none 0 0)) w):=hid ⟨_,rfl,gat.nil _ _,Ext.refl w⟩;rcases hl with Ed | Fv
 · go_enter Tryz.func22,Tryz.ntmps22;go_wp2_with fail;exact bodyPost_ret (v:=.slice none 0 0) (by simp [results,pa5,go_sem]) rfl HF.out
 · have Ed:¬ l < 1:=by omega
   go_enter Tryz.func22,Tryz.ntmps22;go_wp2_with fail;exact bodyPost_ret (v:=.slice none 0 0) (by simp [results,pa5,go_sem]) rfl HF.out
theorem xba {w:World} {D c0:Nat} {q:Nat->Prop} {D0:Option Addr} {l:Int} {fs:List Pl} (hl:1<=l) (ag:l<=4) (aK:jd w q fs D0 0) (bY:fs.length<=c0) (dP:c0<=9223372036854775807) (hn:fs.length<=100) (aF:∀ f ∈ fs,Fit f 2 D) (hD:D<=1000000) :
 Calls Tryz.prog 22 #[.slice D0 fs.length c0,.int .i64 l] w (ya3 (qaa (dF l (jq l fs) ++ yw l fs)) w):=by
 have lF:=hid aK;have fE:=hid aF;have jK:=hid (qa8 hl ag aF hn);have kU:∀ f ∈ jq l fs,Fit f 2 D:=fun f hf=>aF f (sw.1 hf).1
 have qX:=hid (fun (W':World) (A:Option Addr) (c:Nat) (q:Nat->Prop) (ha:jd W' q (jq l fs) A 0) (h1:(jq l fs).length<=c) (h2:c<=9223372036854775807)=>xbk (w:=W') hl ag ha h1 h2 (by have:=wbg (l:=l) fs; omega) kU (by omega) (by omega) (hid (vcq hl ag kU (by omega))) (kaz hl ag kU) (by omega) (by omega) (qa8 hl ag aF hn).1);have YB:=hid (jbr hl ag aF);have Ed:¬ l < 1:=by omega
 have Fv:¬ 4 < l:=by omega
 have yR:fs.length<=1000:=by omega
 clear aK aF kU;go_enter Tryz.func22,Tryz.ntmps22;go_wp2_with fail
 go_loopw [5,6,18] (fun ov lv iv wr=>∃ k:Nat,k<=fs.length/\iv=.int .i64 k/\Hid (gaa w.heap.size l fs k wr ov lv/\Ext w wr)) (fun _ _ iv _=>fs.length - (intOf iv).toNat)
 case atStart=>exact ⟨0,pZ _,rfl,hid ⟨gaa.nil _ _ _ _,Ext.refl w⟩⟩
 case round =>
  obtain ⟨k,hk,rfl,HI⟩:=hrel;obtain ⟨OA,oc,rfl,BZ,Fg⟩:=HI.out.1.1.len;obtain ⟨LA,lc,rfl,fC,dK⟩:=HI.out.1.2.1.len
  by_cases af:k < fs.length
  · obtain ⟨ad,C0,j0,k0,C1,j1,k1,rfl,ah,yY,QV⟩:=lF.out.ym k af;obtain ⟨g0,g1,g2,g3⟩:=yY.ext HI.out.2 (by rw [ja]; exact ah);have fP:=QV.xo.ext HI.out.2;have fG:=fE.out fs[k] (pt af);have Xw:=HI.out.2.size;obtain ⟨U,hU⟩:=n_m ((wr.alloc (.cells #[.int .i64 fs[k].lv,.bool fs[k].neg,.slice C0 j0 k0,.slice C1 j1 k1] 33)));have hxU:Ext wr U:=by rw [<- hU]; exact (Ext.refl wr).alloc _
    have W9:wr.heap.size < U.heap.size:=by rw [<- hU]; simp
    have HB:Hid (jb U wr.heap.size fs[k] (.slice C0 j0 k0) (.slice C1 j1 k1)):=hid (by rw [<- hU]; exact jb.new wr fs[k] _ _ _);obtain ⟨s0,s1,s2,s3⟩:=HB.out;have rG:=hid (qbl (w:=U) _ (fP.ext hxU) (Or.inr ⟨fG.can,fG.copy_ (by omega),by have:=fG.dm; omega⟩));rw [Pl.q7 fG.can] at rG;have MQ:=hid (HI.out.2.trans hxU);have Dq:=hid (HI.out.1.ext hxU);have Ey:=hid (fP.ext hxU);obtain ⟨f,hf⟩:=n_m (fs[k]);rw [hf] at g0 g1 s0 s1 rG Ey HB hU;have HF:=hid hf;have H6:(k:Int) < (fs.length:Int):=by omega
    unfold plV at rG;clear ah yY QV fP fG hxU HI hf;go_wp2_with fail;clear g0 g1 g2 g3 s0 s1 s2 s3 hU;refine rG.out.mono ?_;rintro e w2 ⟨rfl,x2⟩;obtain ⟨s0,s1,s2,s3⟩:=HB.out.ext x2 W9;have uI:=hid (MQ.out.trans x2);have bC:=hid (Dq.out.ext x2);have DC:=hid (Ey.out.ext x2);clear x2 rG MQ Dq Ey HB
    by_cases h1:f.lv=l
    · have c1:(f.lv == l)=true:=by simpa using h1
      obtain ⟨v4,w4,ak,AL,lS⟩:=bC.out.qbP af HF.out h1 uI.out.size DC.out yR;have HN:=hid (And.intro AL (lS _ uI.out rfl));clear AL lS h1 BZ Fg fC dK Xw W9
      go_wp2_with (at_builtin
                   refine wpList_append_run rfl (.tmp 28) (.tmp 30) _ _ rfl _ _ _ _ rfl rfl ak ?_)
      go_roundw
      case rel=>exact ⟨k+1,by omega,by go_num,HN⟩
      case measure=>simp only [intOf]; omega
    · have c1:(f.lv == l)=false:=by simpa using h1
      by_cases h2:f.lv < l
      · obtain ⟨v4,w4,ak,AL,lS⟩:=bC.out.qbR af HF.out h2 uI.out.size DC.out yR;have HN:=hid (And.intro AL (lS _ uI.out rfl));clear AL lS h1 BZ Fg fC dK Xw W9
        go_wp2_with (at_builtin
                     refine wpList_append_run rfl (.tmp 36) (.tmp 38) _ _ rfl _ _ _ _ rfl rfl ak ?_)
        go_roundw
        case rel=>exact ⟨k+1,by omega,by go_num,HN⟩
        case measure=>simp only [intOf]; omega
      · have HN:=hid (And.intro (bC.out.none_ af HF.out h1 h2) uI.out);clear h1 BZ Fg fC dK Xw W9;go_wp2_with fail
        go_roundw
        case rel=>exact ⟨k+1,by omega,by go_num,HN⟩
        case measure=>simp only [intOf]; omega
  · obtain rfl:k=fs.length:=by omega
    have HS:=hid HI.out.1.all;have HX:=hid HI.out.2;rw [pQ] at BZ fC ⊢;rw [pQ] at HS;clear HI;have HR:=hid (qX.out wr OA oc _ HS.out.1.at_ BZ Fg);clear qX;go_wp2_with fail;refine HR.out.mono ?_;rintro e w2 ⟨v2,rfl,rZ,x2⟩;have kT:jd w2 (fun b=>v2.ownBlock ≠ some b/\True) (yw l fs) LA 0:=jd.xl x2.size (fun v ds hv=>hv.ext x2) (fun b hb _=>⟨⟨fun e=>by have:=(rZ.own e).1; omega,trivial⟩,x2.below.block b hb⟩) _ _ _ HS.out.2.1.at_;obtain ⟨v4,w4,ak,nV,iE,ae,nG⟩:=(rZ.mono (q':=fun _=>True) fun _ _=>trivial).append x2.size kT (by have:=jK.out.2; have:=ua4 (l:=l) fs; omega) lc 31;obtain ⟨RA,rc,rfl,nS,eX⟩:=rZ.len;have lS:Ext w w4:=HX.out.trans (Below.grown x2.below nV x2.size (fun j e=>(rZ.own e).1));have kE:(dF l (jq l fs) ++ yw l fs).length<=1000000:=by rw [rh]; have:=jK.out.2; have:=ua4 (l:=l) fs; omega
    clear kT nV iE nG rZ;obtain ⟨PL,hPL⟩:=n_m (dF l (jq l fs) ++ yw l fs);rw [hPL] at ae YB kE;have VH:=hid hPL;obtain ⟨FA,fc,rfl,jY,lZ⟩:=ae.len;have Gt:=hid (xck (w:=w4) (c0:=fc) ae.at_ kE YB.out (by omega) (by omega));have Ja:=hid lS;obtain ⟨M,hM⟩:=n_m (qaa PL);rw [hM] at Gt;have HME:=hid hM;clear lS ae kE x2 HR HS BZ Fg fC dK nS eX jY lZ hPL hM
    go_wp2_with (at_builtin
                 refine wpList_append_run rfl (.tmp 43) (.tmp 44) _ _ rfl _ _ _ _ rfl rfl ak ?_)
    refine Gt.out.mono ?_;rintro e w5 ⟨v5,rfl,⟨E5,e5,rfl,iJ,iI,hz⟩,x5⟩;have iw:Hid (ya3 (qaa (dF l (jq l fs) ++ yw l fs)) w (.returned (.slice E5 M.length e5)) w5):=hid (by rw [VH.out,HME.out]; exact ⟨_,rfl,(show gat w5 (fun b=>w4.heap.size<=b) _ _ from ⟨E5,e5,rfl,iJ,iI,hz⟩).mono (fun b hb=>by have:=Ja.out.size; omega),Ja.out.trans x5⟩);clear hz x5 Gt ak;go_wp2_with fail;exact bodyPost_ret (v:=.slice E5 M.length e5) (by simp [results,pa5,go_sem]) rfl iw.out
theorem xg.built {W:World} {q:Nat->Prop} (rs:List (Pl × Value × Value)) (h:∀ r ∈ rs,(∃ A0 n0 c0 A1 n1 c1,r.2=(.slice A0 n0 c0,.slice A1 n1 c1))/\PlV W q r.1 (plV r.1 r.2.1 r.2.2)) (hn:rs.length<=1000) :
 xg W.heap.size q (W.alloc (.cells (ul rs).toArray 33)) (.slice (some ⟨W.heap.size,0,none⟩) rs.length rs.length) (rs.map fun r=>r.1):=by
 have hb:(W.alloc (.cells (ul rs).toArray 33)).heap[W.heap.size]?=some (.cells (ul rs).toArray 33 (0,0)):=heap_alloc_new W _;refine ⟨rs,rfl,⟨⟨ku rs,.inr ⟨W.heap.size,rs.length,_,rfl,pj _,hb,pj _,by unfold maxLen; omega,by rw [tB,ku],?_⟩⟩,?_⟩,fun r hr=>⟨(h r hr).1,?_⟩⟩
 · rw [<- ku,pQ]
 · intro R cur T fr e hc u hu;injection e with e
   rw [<- e,hb] at hc;injection hc with hc
   injection hc with bY dP hc3
   rw [<- bY] at hu;simp only [ul,rL] at hu;obtain ⟨r,hr,hu⟩:=hu;obtain ⟨⟨A0,n0,c0,A1,n1,c1,er⟩,-⟩:=h r hr;simp only [plC,er,pN,sr,or_false] at hu;rcases hu with rfl | rfl | rfl | rfl <;> rfl
 · refine PlV.zd (by simp) (fun v ds hv=>hv.ext ((Ext.refl W).alloc _)) (fun b hb hq=>⟨⟨fun e=>?_,hq⟩,((Ext.refl W).alloc _).below.block b hb⟩) (h r hr).2;injection e with e
   simp only at e;omega
def zbq (w:World) (v:Value) (L:List (List kag)):Prop:=∃ A c,v=.slice A L.length c/\L.length<=c/\c<=9223372036854775807/\∀ i (hi:i < L.length),∃ ad u,A=some ad/\ad.block < w.heap.size/\w.cell? (ad.add i)=some u/\war w u L[i]
theorem zbq.ext {w w':World} {v:Value} {L:List (List kag)} (h:zbq w v L) (hx:Ext w w'):zbq w' v L:=by
 obtain ⟨A,c,e,h1,h2,h3⟩:=h;refine ⟨A,c,e,h1,h2,fun i hi=>?_⟩;obtain ⟨ad,u,e,hb,hc,ht⟩:=h3 i hi;exact ⟨ad,u,e,px hb hx.size,(hx.cell (p:=ad.add i) (by rw [ja]; exact hb)).trans hc,ht.ext hx⟩
def ucm (most:Nat) (w:World) (e:Ending) (w':World):Prop:=∃ b rv fs,e=.returned (.tuple #[rv,.bool b])/\(b=true->fs.length<=most/\∀ f ∈ fs,Fit f 2 5)/\gat w' (fun _=>True) rv fs/\Ext w w'
theorem kcj {w:World} {v:Value} {L:List (List kag)} (most:Nat) (h:zbq w v L) (hm:most<=1000) :
 Calls Tryz.prog 21 #[v,.int .i64 most] w (ucm most w):=by
 have H0:=hid h;obtain ⟨A,c,rfl,bY,dP,mf⟩:=h;have xU:=hid mf;have XY:Hid (∀ W',Ext w W'->ucm most w (.returned (.tuple #[.slice none 0 0,.bool false])) W'):=hid (fun W' hx=>⟨false,_,[],rfl,(fun h=>by cases h),⟨none,0,rfl,by simp,by omega,by unfold jd; trivial⟩,hx⟩);obtain ⟨n0,gX⟩:=n_m (L.length);have rF:=hid gX;rw [gX] at bY ⊢;clear mf gX
 by_cases RJ:most < n0
 · have hmi:(most:Int) < (n0:Int):=by omega
   go_enter Tryz.func21,Tryz.ntmps21;go_wp2_with fail;exact bodyPost_ret (v:=.tuple #[.slice none 0 0,.bool false]) (by simp [results,pa6,go_sem]) rfl (XY.out _ (Ext.refl w))
 · have hmi:¬ (most:Int) < (n0:Int):=by omega
   go_enter Tryz.func21,Tryz.ntmps21;go_wp2_with fail
   go_loopw [6,15] (fun rv iv wr=>∃ (k:Nat) (fs:List Pl),k<=n0/\iv=.int .i64 k/\Hid (fs.length=k/\(∀ f ∈ fs,Fit f 2 5)/\xg w.heap.size (fun _=>True) wr rv fs/\Ext w wr)) (fun _ iv _=>n0 - (intOf iv).toNat)
   case atStart=>exact ⟨0,[],pZ _,rfl,hid ⟨rfl,(fun f hf=>by cases hf),xg.nil _ _ _,Ext.refl w⟩⟩
   case round =>
    obtain ⟨k,fs,hk,rfl,HI⟩:=hrel;obtain ⟨jX,aF,ae,hx⟩:=HI.out
    by_cases af:k < n0
    · have fV:k < L.length:=by rw [rF.out]; exact af
      obtain ⟨ad,u,rfl,ah,Xv,WX⟩:=xU.out k fV;obtain ⟨ts,AC⟩:=n_m (L[k]);rw [AC] at WX;have HTU:=hid WX;have Wi:=hid (ycu 4 2 (WX.ext hx));have g0:=(hx.cell (p:=ad.add k) (by rw [ja]; exact ah)).trans Xv;have H6:(k:Int) < (n0:Int):=by omega
      have HR:=hid ae;have HX:=hid hx;have fE:=hid (And.intro jX aF);obtain ⟨TA,tc,rfl,ht1,ZM,-⟩:=WX;clear jX aF ae hx ah Xv AC HI fV;go_wp2_with fail;clear g0;refine Wi.out.mono ?_;rintro e w2 ⟨b,rfl,hb,x2⟩;have X2:=hid (HX.out.trans x2);have Eu:=hid (HR.out.ext x2);clear x2 Wi HR HX;cases b with
      | false =>
        go_wp2_with fail;exact bodyPost_ret (v:=.tuple #[.slice none 0 0,.bool false]) (by simp [results,pa6,go_sem]) rfl (XY.out _ X2.out)
      | true =>
        obtain ⟨hn,hf⟩:=hb rfl;have Jk:=hid (ucr (n:=4) (d:=4) (E:=2) _ (HTU.out.ext X2.out) hf hn (by omega) (by omega) (by omega));have PM:=hid (xcd (n:=4) (d:=4) (E:=2) HTU.out.dig hf hn (by omega)).1;generalize Pl.j8 (gah ts)=f at *;clear hb hn hf HTU;go_wp2_with fail;refine Jk.out.mono ?_;rintro e w3 ⟨v3,rfl,p3,x3⟩;obtain ⟨A0,m0,e0,B0,f0,rfl,-⟩:=id p3.open_;have kN:=Eu.out.ext x3;have rQ:=X2.out.trans x3;obtain ⟨v4,w4,ak,nV,iE,dO,nG⟩:=kN.push (x:=f) rQ.size (p3.mono fun b hb=>⟨fun e=>by have:=(Eu.out.own e).2; omega,trivial⟩) (by rw [fE.out.1]; omega) 31;obtain ⟨RA,rc,rfl,nS,eX⟩:=kN.len;have lS:Ext w w4:=Below.grown rQ.below nV rQ.size (fun j e=>(kN.own e).1);have HN:Hid ((fs ++ [f]).length=k+1/\(∀ g ∈ fs ++ [f],Fit g 2 5)/\xg w.heap.size (fun _=>True) w4 v4 (fs ++ [f])/\Ext w w4):=hid ⟨by rw [rh,fE.out.1]; rfl,fun g hg=>by
         rw [pT,pD] at hg;rcases hg with hg | rfl
         · exact fE.out.2 g hg
         · exact PM.out,dO,lS⟩
        clear kN rQ nV iE dO nG lS p3 x3 Jk nS eX;unfold plV
        go_wp2_with (at_builtin
                     refine wpList_append_run rfl (.tmp 22) (.tmp 25) _ _ rfl _ _ _ _ rfl rfl ak ?_)
        go_roundw
        case rel=>exact ⟨k+1,fs ++ [f],by omega,by go_num,HN⟩
        case measure=>simp only [intOf]; omega
    · have dh:k=n0:=by omega
      have H6:¬ (k:Int) < (n0:Int):=by omega
      obtain ⟨RA,rc,rfl,nS,eX⟩:=ae.len;have HF:Hid (ucm most w (.returned (.tuple #[.slice RA fs.length rc,.bool true])) wr):=hid ⟨true,_,fs,rfl,fun _=>⟨by omega,aF⟩,⟨RA,rc,rfl,nS,eX,jd.xl (pj _) (fun _ _ h=>h) (fun b _ _=>⟨trivial,rfl⟩) _ _ _ ae.at_⟩,hx⟩;clear jX aF ae hx HI dh;go_wp2_with fail;exact bodyPost_ret (v:=.tuple #[.slice RA fs.length rc,.bool true]) (by simp [results,pa6,go_sem]) rfl HF.out
def wal (fs:List Pl) (m:Nat):List Pl:=[Pl.const 7,Pl.const 0] ++ (List.range (fs.length - m)).map fun j=>scl (-2 - ((fs.length - 1 - j:Nat):Int)) (fs.getD (fs.length - 1 - j) Pl.zero)
theorem zcw (fs:List Pl):wal fs fs.length=[Pl.const 7,Pl.const 0]:=by simp [wal]
theorem jcm {fs:List Pl} {n:Nat} (h:n < fs.length):wal fs n=wal fs (n+1) ++ [scl (-2 - (n:Int)) fs[n]]:=by
 unfold wal;rw [show fs.length - n=fs.length - (n+1)+1 by omega,tO,uc,<- SZ]
 congr 1
 simp only [ss,Ss];rw [show fs.length - 1 - (fs.length - (n+1))=n by omega,po,pr h]
 rfl
theorem ybn {fs:List Pl} (h:fs.length<=2):wal fs 0=kap fs:=by
 match fs,h with
 | [],_=>rfl
 | [p],_=>simp [wal,kap,tO]
 | [p,q],_=>simp [wal,kap,tO]
 | _ :: _ :: _ :: _,h=>simp at h
theorem gbt {fs:List Pl} {m:Nat}:(wal fs m).length=2+(fs.length - m):=by unfold wal; simp; omega
theorem vb2 {w:World} {L:List (List kag)} {l:Int} (v:Value) (h:zbq w v L):Calls Tryz.prog 5 #[v,.int .i64 l] w (wap true w):=by
 have HLS:=hid (fun W' (hx:Ext w W')=>kcj 2 (h.ext hx) (by omega));obtain ⟨A,c,rfl,bY,dP,-⟩:=h;go_enter Tryz.func5,Tryz.ntmps5;go_wp2_with fail;refine (zcu w).mono ?_;rintro e w1 ⟨rfl,x1⟩;have X1:=hid x1;clear x1;go_wp2_with fail;refine (HLS.out _ X1.out).mono ?_;rintro e w2 ⟨b,rv,fs,rfl,hb,⟨FA,fc,rfl,jY,lZ,aK⟩,x2⟩;have X2:=hid (X1.out.trans x2);clear x2 HLS;cases b with
 | false =>
   go_wp2_with fail;go_ret;exact ⟨rfl,X2.out⟩
 | true =>
   obtain ⟨hn,lC⟩:=hb rfl;have lF:=hid aK;have fE:=hid lC;have YX:=hid (wbt lC);clear hb aK bY dP lC;go_wp2_with fail;refine (of_int 7 w2 (by omega) (by omega)).mono ?_;rintro e w3 ⟨v3,rfl,i3,x3⟩;have HC3:=hid (vak (L:=1) v3 (by obtain ⟨y,rfl,hy⟩:=i3; exact wak hy (yf (by decide))) (by omega));obtain ⟨bi,Bi,ni,ci,rfl⟩:=i3.unpack;have X3:=hid x3;clear i3 x3;obtain ⟨O,hO⟩:=n_m (Pl.const 7);rw [hO] at HC3;have HO:=hid hO;clear hO;go_wp2_with fail;refine HC3.out.mono ?_;rintro e w4 ⟨v4,rfl,p4,x4⟩;obtain ⟨Ao,mo,eo,Bo,go,rfl,-⟩:=id p4.open_;have X4:=hid (X3.out.trans x4);have P4:=hid p4;clear p4 x4 HC3 X3;unfold plV;go_wp2_with fail;refine (of_int 0 w4 (by omega) (by omega)).mono ?_;rintro e w5 ⟨v5,rfl,i5,x5⟩;have HC5:=hid (vak (L:=1) v5 (by obtain ⟨y,rfl,hy⟩:=i5; exact wak hy (yf (by decide))) (by omega));obtain ⟨bi,Bi,ni,ci,rfl⟩:=i5.unpack;have X5:=hid x5;clear i5 x5;obtain ⟨Z,hZ⟩:=n_m (Pl.const 0);rw [hZ] at HC5;have HZ:=hid hZ;clear hZ;go_wp2_with fail;refine HC5.out.mono ?_;rintro e w6 ⟨v6,rfl,p6,x6⟩;obtain ⟨Az,mz,ez,Bz,gz,rfl,-⟩:=id p6.open_;have X6:=hid (X5.out.trans x6);have aQ:Hid (xg w2.heap.size (fun _=>True) (w6.alloc (.cells #[.int .i64 O.lv,.bool O.neg,.slice Ao mo eo,.slice Bo O.cs.length go,.int .i64 Z.lv,.bool Z.neg,.slice Az mz ez,.slice Bz Z.cs.length gz] 33)) (.slice (some ⟨w6.heap.size,0,none⟩) 2 2) (wal fs fs.length)):=hid (by
    rw [zcw,HO.out,HZ.out];refine (xg.built (W:=w6) (q:=fun _=>True) [(O,.slice Ao mo eo,.slice Bo O.cs.length go),(Z,.slice Az mz ez,.slice Bz Z.cs.length gz)] (fun r hr=>?_) (by simp)).less (by have:=X4.out.size; have:=X6.out.size; omega);simp only [pN,sr,or_false] at hr;rcases hr with rfl | rfl
    · exact ⟨⟨_,_,_,_,_,_,rfl⟩,(P4.out.ext X6.out).mono fun _ _=>trivial⟩
    · exact ⟨⟨_,_,_,_,_,_,rfl⟩,p6.mono fun _ _=>trivial⟩)
   obtain ⟨V,hV⟩:=n_m ((w6.alloc (.cells #[.int .i64 O.lv,.bool O.neg,.slice Ao mo eo,.slice Bo O.cs.length go,.int .i64 Z.lv,.bool Z.neg,.slice Az mz ez,.slice Bz Z.cs.length gz] 33)));rw [hV] at aQ;have XV:Hid (Ext w2 V):=hid (by rw [<- hV]; exact (X4.out.trans X6.out).alloc _);clear p6 x6 HC5 X5;unfold plV;go_wp2_with fail
   try rw [hV]
   clear hV P4 X6 X4
   go_loopw [7,8] (fun rv iv wr=>∃ (i:Int) (m:Nat),iv=.int .i64 i/\m<=fs.length/\i=(m:Int) - 1/\Hid (xg w2.heap.size (fun _=>True) wr rv (wal fs m)/\Ext w2 wr)) (fun _ iv _=>(intOf iv+1).toNat)
   case atStart=>exact ⟨_,fs.length,by go_num,pj _,rfl,hid ⟨aQ.out,XV.out⟩⟩
   case round =>
    obtain ⟨i,m,rfl,hm,hi,HI⟩:=hrel;obtain ⟨RA,rc,rfl,nS,eX⟩:=HI.out.1.len;rcases m with _ | n
    · obtain rfl:i=-1:=by omega
      have HQ:=hid HI.out.1;rw [ybn hn] at nS HQ ⊢;have HX:=hid HI.out.2;clear HI hi hm aQ XV HO HZ;have hbn:(kap fs).length<=4:=by rw [<- ybn hn,gbt]; omega
      by_cases hl:l < 1\/4 < l
      · have DD:=hid (yba (w:=wr) (D0:=FA) (n:=fs.length) (c0:=fc) hl);have DC:=hid (fun W'=>yba (w:=W') (D0:=RA) (n:=(kap fs).length) (c0:=rc) hl);clear hl;go_wp2_with fail;refine DD.out.mono ?_;rintro e w7 ⟨v7,rfl,⟨D7,c7,rfl,-,-,-⟩,x7⟩;simp only [rK];clear DD;go_wp2_with fail;refine (DC.out _).mono ?_;rintro e w8 ⟨v8,rfl,⟨D8,c8,rfl,-,-,-⟩,x8⟩;simp only [rK];have Du:=hid (zbk (w:=w8) (q0:=fun _=>True) (q1:=fun _=>True) (L:=[]) (D0:=D7) (D1:=D8) (c0:=c7) (c1:=c8) (E:=1) (D:=1) (by unfold jd; trivial) (by unfold jd; trivial) (by simp) (by omega) (by omega) (by simp));have Vl:=hid (HX.out.trans (x7.trans x8));rw [rK] at Du;clear DC x7 x8;go_wp2_with fail;refine Du.out.mono ?_;rintro e w9 ⟨rfl,x9⟩;have iw:=hid (X2.out.trans (Vl.out.trans x9));clear x9 Du;go_wp2_with fail;go_ret;exact ⟨rfl,iw.out⟩
      · have IM:1<=l:=by omega
        have UK:l<=4:=by omega
        have DD:=hid (xba (w:=wr) IM UK (lF.out.ext HX.out) jY lZ (by omega) fE.out (by omega));have DC:=hid (fun W' (hx:Ext wr W')=>xba (w:=W') IM UK ((HQ.out.ext hx).at_) nS eX (by omega) YX.out (by omega));have tZ:=kcr IM UK hn fE.out;rw [<- tZ] at DC;have jK:=hid (qa8 IM UK fE.out (by omega));have HMF:Hid ((∀ p ∈ qaa (dF l (jq l fs) ++ yw l fs),Fit p 24 (8 * 5+100))/\(qaa (dF l (jq l fs) ++ yw l fs)).length<=1000000):=hid (by
         refine ⟨kc6 (jbr IM UK fE.out),py (jc6 _) ?_⟩;rw [rh];have:=jK.out.2;have:=ua4 (l:=l) fs
         omega)
        clear hl tZ;generalize qaa (dF l (jq l fs) ++ yw l fs)=M at *;go_wp2_with fail;refine DD.out.mono ?_;rintro e w7 ⟨v7,rfl,⟨D7,c7,rfl,pX,wP,hp⟩,x7⟩;have X7:=hid x7;have HG:=hid hp;clear DD x7 hp;go_wp2_with fail;refine (DC.out _ X7.out).mono ?_;rintro e w8 ⟨v8,rfl,⟨D8,c8,rfl,iJ,iI,hz⟩,x8⟩;have Du:=hid (zbk (HG.out.ext x8) hz HMF.out.1 (by omega) (by omega) HMF.out.2 (c0:=c7) (c1:=c8));have Vl:=hid (HX.out.trans (X7.out.trans x8));clear DC x8 hz;go_wp2_with fail;refine Du.out.mono ?_;rintro e w9 ⟨rfl,x9⟩;have iw:=hid (X2.out.trans (Vl.out.trans x9));clear x9 Du;go_wp2_with fail;go_ret;exact ⟨rfl,iw.out⟩
    · obtain rfl:i=(n:Int):=by omega
      have af:n < fs.length:=by omega
      obtain ⟨ad,C0,j0,k0,C1,j1,k1,rfl,ah,yY,fP⟩:=lF.out.ym n af;have fG:=fE.out fs[n] (pt af);have HBS:=hid (jcm af);obtain ⟨f,hf⟩:=n_m (fs[n]);rw [hf] at yY fP fG HBS;have xU:Hid (∀ W',Ext w2 W'->(W'.cell? (Addr.add ad (n * 4))=some (.int .i64 f.lv)/\W'.cell? ⟨(Addr.add ad (n * 4)).block,(Addr.add ad (n * 4)).off+1,none⟩=some (.bool f.neg)/\W'.cell? ⟨(Addr.add ad (n * 4)).block,(Addr.add ad (n * 4)).off+2,none⟩=some (.slice C0 j0 k0)/\W'.cell? ⟨(Addr.add ad (n * 4)).block,(Addr.add ad (n * 4)).off+3,none⟩=some (.slice C1 j1 k1))):=hid (fun W' hx=>yY.ext hx (by rw [ja]; exact ah));have Es:=hid (fun (W':World) (v:Value) (hx:Ext w2 W') (hv:qm W' v (-2 - (n:Int)))=>za4 (L:=1) (E:=2) (D:=5) _ v (fP.ext hx) (by obtain ⟨y,rfl,hy⟩:=hv; exact wak hy (yf (by have:B32 ^ 1=4294967296:=rfl; omega))) (fun W2 aN=>by rw [Pl.q7 fG.can]; exact ut _ (fP.ext (hx.trans aN)) fG.can) (by rw [Pl.q7 fG.can]; exact fG) (by omega) (by omega));rw [Pl.q7 fG.can] at Es;obtain ⟨g,hg⟩:=n_m (scl (-2 - (n:Int)) f);rw [hg] at HBS;rw [show f.mul (Pl.const (-2 - (n:Int)))=g from hg] at Es;have HX:=hid HI.out.2;have HQ:=hid HI.out.1;have Og:IntKind.i64.wrap (-2 - (n:Int))=-2 - (n:Int):=by rw [rj]; omega
      have H6:(n:Int) < (fs.length:Int):=by omega
      have gX:(0:Int)<=(n:Int):=by omega
      have HBL:=hid (gbt (fs:=fs) (m:=n+1));have y0:Ext wr wr.drew:=(Ext.refl wr).drew;unfold plV at Es;clear yY fP fG hf hg HI hi nS eX aQ XV HO HZ;go_upto_region 10 with fail;refine wp_region_held_drew (S:=fun W'=>W'.cell? (Addr.add ad (n * 4))=some (.int .i64 f.lv)/\W'.cell? ⟨(Addr.add ad (n * 4)).block,(Addr.add ad (n * 4)).off+1,none⟩=some (.bool f.neg)/\W'.cell? ⟨(Addr.add ad (n * 4)).block,(Addr.add ad (n * 4)).off+2,none⟩=some (.slice C0 j0 k0)/\W'.cell? ⟨(Addr.add ad (n * 4)).block,(Addr.add ad (n * 4)).off+3,none⟩=some (.slice C1 j1 k1)) (by kernel_rfl) (xU.out _ (HX.out.trans y0)) (fun hHeld=>?_);refine tk 0 ?_;refine tk 1 ?_;refine tk 2 ?_;refine tk 3 ?_;refine tk 4 ?_ (hy:=Or.inl ⟨by rfl,by intro w' aO; obtain ⟨e0,e1,e2,e3⟩:=aO; go_simp; (try (with_reducible rfl))⟩);refine tk 5 ?_;refine tk 6 ?_;refine r_1 7 fun K hK=>?_
      go_simp
      (try rw [Og])
      go_at_call 11
      refine (of_int (-2 - (n:Int)) _ (by omega) (by omega)).mono ?_;rintro e z4 ⟨v4,rfl,i4,x4⟩;have y4:=y0.trans x4;refine k_t hK (xU.out _ (HX.out.trans y4)) fun hHeld=>?_
      clear hK K;refine r_1 8 fun K hK=>?_
      go_simp
      go_at_call 16
      refine (Es.out _ _ (HX.out.trans y4) i4).mono ?_;rintro e z5 ⟨v5,rfl,m5,x5⟩;have y5:=y4.trans x5;obtain ⟨F0,j4,k4,F1,k5,rfl,-⟩:=id m5.open_;unfold plV;refine k_t hK (xU.out _ (HX.out.trans y5)) fun hHeld=>?_
      clear hK K;have BM:=HQ.out.ext y5;have AL:=y4.size;have Bl:=HX.out.trans y5;obtain ⟨v6,w6,ak,hg6,hn6,df,Ht⟩:=BM.push (x:=g) Bl.size (m5.mono fun b hb=>⟨fun e=>by have:=(HQ.out.own e).2; omega,trivial⟩) (by rw [HBL.out]; omega) 31;have JM:Ext w2 w6:=Below.grown Bl.below hg6 Bl.size (fun j e=>(BM.own e).1);have hS6:=xU.out _ JM;rw [<- HBS.out] at df;have HN:=hid (And.intro df JM);have L6:=xU.out _ (Bl.alloc (.cells #[.int .i64 g.lv,.bool g.neg,.slice F0 j4 k4,.slice F1 g.cs.length k5] 33));clear BM hg6 hn6 df Ht JM Bl AL;refine r_1 9 fun K hK=>?_
      go_simp;refine k_t hK L6 fun hHeld=>?_
      clear hK K;refine r_1 10 fun K hK=>?_
      refine zaf rfl (.tmp 30) (.tmp 39) 31 31 rfl _ _ _ _ (by rfl) (by rfl) ak ?_;refine k_t hK hS6 fun hHeld=>?_
      clear hK K;refine tk 11 ?_;refine w_d ?_;clear hS6 L6 ak m5 i4 x4 x5 y0 y4 y5 hHeld;go_wp2_with fail
      go_roundw
      case rel=>exact ⟨_,n,by go_num,by omega,rfl,HN⟩
      case measure=>simp only [intOf]; omega
theorem len0 {α:Type} {l:List α} (h:l.length=0):l=[]:=rT h
theorem len1 {α:Type} {l:List α} (h:l.length=1):∃ x,l=[x]:=by
 cases l with
 | nil=>simp at h
 | cons x r=>exact ⟨x,by rw [len0 (l:=r) (by simpa using h)]⟩
theorem zb2 {α:Type} {l:List α} (h:l.length=2):∃ x y,l=[x,y]:=by
 cases l with
 | nil=>simp at h
 | cons x r =>
   obtain ⟨y,rfl⟩:=len1 (l:=r) (by simpa using h);exact ⟨x,y,rfl⟩
open Go.ChangeShapes Go.WideShapes
theorem cell_lt {w:World} {a:Addr} {v:Value} (h:w.cell? a=some v):a.block < w.heap.size:=by
 unfold World.cell? at h
 split at h
 · rename_i hh;exact (rB.1 hh).1
 · cases h
theorem jcw (a:Addr) (n:Nat):a.add (n+1)=⟨a.block,a.off+(n+1),none⟩:=by simp [Addr.add]
theorem qba (a:Addr):a.add 0=a:=by simp [Addr.add]
theorem kdj {α:Type} {l:List α} (h:l.length=3):∃ x y z,l=[x,y,z]:=by
 cases l with
 | nil=>simp at h
 | cons x r =>
   obtain ⟨y,z,rfl⟩:=zb2 (l:=r) (by simpa using h);exact ⟨x,y,z,rfl⟩
theorem jc4 {α:Type} {l:List α} (h:l.length=4):∃ x y z u,l=[x,y,z,u]:=by
 cases l with
 | nil=>simp at h
 | cons x r =>
   obtain ⟨y,z,u,rfl⟩:=kdj (l:=r) (by simpa using h);exact ⟨x,y,z,u,rfl⟩
theorem len8 {α:Type} {l:List α} (h:l.length=8):∃ a b c d e f g i,l=[a,b,c,d,e,f,g,i]:=by
 obtain ⟨a,b,c,d,h1⟩:=jc4 (l:=l.take 4) (by rw [pA]; omega);obtain ⟨e,f,g,i,h2⟩:=jc4 (l:=l.drop 4) (by rw [re]; omega);exact ⟨a,b,c,d,e,f,g,i,by rw [<- wN 4 l,h1,h2]; rfl⟩
section
variable {H:Type} {enc:TypeId × Value->H} {w:World} {sp:Nat->Bool} {held:Bool}
theorem xcx {fuel:Nat} {cs:List Value} {x:DataW H × List MemPlace} (h:DataW.trod enc Tryz.prog w 0 sp held fuel 28 cs=some x):∃ A ds c,cs=[.slice A ds.length c]/\jc w (.slice A ds.length c) ds:=by
 rcases open_ints SR pav (by kernel_rfl) h with ⟨rfl,-⟩ | ⟨a,len,cap,zs,rfl,-,Sl,gY,eF,-,aj,hwf⟩
 · exact ⟨none,[],0,rfl,jc.nil w⟩
 · have hle:len<=zs.length:=by rw [eF]; split <;> omega
   have hlen:((zs.take len).map Int.toNat).length=len:=by rw [pw,pA]; omega
   refine ⟨some a,(zs.take len).map Int.toNat,cap,by rw [hlen],?_⟩;refine ⟨some a,cap,rfl,by rw [hlen]; exact Sl,by unfold maxLen at gY; omega,?_,fun hp=>⟨a,rfl,?_,?_⟩⟩
   · intro d hd;obtain ⟨z,hz,rfl⟩:=pS.1 hd;have:=bounds_u32 (hwf z (tl hz));show z.toNat < 4294967296;omega
   · rw [hlen] at hp;have:=cell_lt (aj 0 (by omega))
     rwa [qba] at this
   · intro j hj;rw [hlen] at hj;have oJ:j < zs.length:=by omega
     rw [aj j oJ];have hb:=bounds_u32 (hwf zs[j] (pt oJ));simp only [rN,tD];rw [po,pr oJ];simp only [Pr]
     congr 2
     omega
theorem jcn {fuel:Nat} {cs:List Value} {x:DataW H × List MemPlace} (h:DataW.trod enc Tryz.prog w 0 sp held fuel 30 cs=some x):∃ neg A ds c,cs=[.bool neg,.slice A ds.length c]/\jc w (.slice A ds.length c) ds:=by
 obtain ⟨xs,n,rfl,-,hl,hx,hf⟩:=DataW.trod_struct Tryz.underlying30 h;have dK:cs.length=2:=hl.trans (by kernel_rfl);have aN:xs.length=2:=hx;obtain ⟨c0,c1,rfl⟩:=zb2 dK;obtain ⟨x0,x1,rfl⟩:=zb2 aN;have f0:DataW.trod enc Tryz.prog w 0 sp held n 4 ((List.drop 0 [c0,c1]).take (Tryz.prog.cellsOf 4))=some x0:=hf 0 _ rfl;have f1:DataW.trod enc Tryz.prog w 0 sp held n 28 ((List.drop 1 [c0,c1]).take (Tryz.prog.cellsOf 28))=some x1:=hf 1 _ rfl;rw [show Tryz.prog.cellsOf 4=1 by kernel_rfl] at f0;rw [show Tryz.prog.cellsOf 28=1 by kernel_rfl] at f1;simp only [PJ,pam,Sh,td,Rp,Sx] at f0 f1;obtain ⟨b,e,-⟩:=DataW.trod_bool S8 f0;obtain ⟨A,ds,c,e1,hn⟩:=xcx f1;simp only [sy,and_true] at e e1;exact ⟨b,A,ds,c,by rw [e,e1],hn⟩
end
theorem jdj {α:Type} {l:List α} (h:l.length=6):∃ a b c d e f,l=[a,b,c,d,e,f]:=by
 match l,h with
 | [a,b,c,d,e,f],_=>exact ⟨a,b,c,d,e,f,rfl⟩
section
variable {H:Type} {enc:TypeId × Value->H} {w:World} {sp:Nat->Bool} {held:Bool}
theorem qcn {fuel:Nat} {cs:List Value} {x:DataW H × List MemPlace} (h:DataW.trod enc Tryz.prog w 0 sp held fuel 61 cs=some x):∃ m:Mo,cs=[.int .i64 m.a,.int .i64 m.b,.int .i64 m.c,.int .i64 m.d]:=by
 obtain ⟨xs,n,rfl,-,hl,hx,hf⟩:=DataW.trod_array Pb h;have dK:cs.length=4:=hl.trans (by kernel_rfl);obtain ⟨a0,a1,a2,a3,rfl⟩:=jc4 dK;rw [show Tryz.prog.cellsOf 3=1 by kernel_rfl] at hf;have f0:=hf 0 (by omega);have f1:=hf 1 (by omega);have f2:=hf 2 (by omega);have f3:=hf 3 (by omega);rw [pr (by omega)] at f0 f1 f2 f3;simp only [s8,tr,Nat.reduceMul,PJ,pam,Sh,td] at f0 f1 f2 f3;obtain ⟨z0,e0,-⟩:=pag Tryz.underlying3 f0;obtain ⟨z1,e1,-⟩:=pag Tryz.underlying3 f1;obtain ⟨z2,e2,-⟩:=pag Tryz.underlying3 f2;obtain ⟨z3,e3,-⟩:=pag Tryz.underlying3 f3;simp only [sy,and_true] at e0 e1 e2 e3;exact ⟨⟨z0,z1,z2,z3⟩,by rw [e0,e1,e2,e3]⟩
theorem xcn {fuel:Nat} {cs:List Value} {x:DataW H × List MemPlace} (h:DataW.trod enc Tryz.prog w 0 sp held fuel 76 cs=some x):∃ neg A ds c m,cs=tmC neg (.slice A ds.length c) m/\jc w (.slice A ds.length c) ds:=by
 obtain ⟨xs,n,rfl,-,hl,hx,hf⟩:=DataW.trod_struct Tryz.underlying76 h;have dK:cs.length=6:=hl.trans (by kernel_rfl);have aN:xs.length=2:=hx;obtain ⟨c0,c1,c2,c3,c4,c5,rfl⟩:=jdj dK;obtain ⟨x0,x1,rfl⟩:=zb2 aN;have f0:DataW.trod enc Tryz.prog w 0 sp held n 30 ((List.drop 0 [c0,c1,c2,c3,c4,c5]).take (Tryz.prog.cellsOf 30))=some x0:=hf 0 _ rfl;have f1:DataW.trod enc Tryz.prog w 0 sp held n 61 ((List.drop 2 [c0,c1,c2,c3,c4,c5]).take (Tryz.prog.cellsOf 61))=some x1:=hf 1 _ rfl;rw [show Tryz.prog.cellsOf 30=2 by kernel_rfl] at f0;rw [show Tryz.prog.cellsOf 61=4 by kernel_rfl] at f1;simp only [PJ,pam,Sh,td,Rp,Sx] at f0 f1;obtain ⟨neg,A,ds,c,e,hn⟩:=jcn f0;obtain ⟨m,e1⟩:=qcn f1;refine ⟨neg,A,ds,c,m,?_,hn⟩;simp only [sy,and_true] at e e1;obtain ⟨rfl,rfl⟩:=e;obtain ⟨rfl,rfl,rfl,rfl⟩:=e1
 rfl
theorem zcm {a:Addr} {b:Bool} {s:Value} {m:Mo} (hc:w.cells? 0 a 6=some (tmC b s m)):vam w a b s m/\a.block < w.heap.size:=by
 have kV:=(pau hc).2.2;have k0:=kV 0 (by omega);have k1:=kV 1 (by omega);have k2:=kV 2 (by omega);have k3:=kV 3 (by omega);have k4:=kV 4 (by omega);have k5:=kV 5 (by omega);rw [qba] at k0;rw [jcw] at k1 k2 k3 k4 k5;exact ⟨⟨k0,k1,k2,k3,k4,k5⟩,cell_lt k0⟩
theorem ybj {fuel:Nat} {A:Option Addr} {n c:Nat} {x:DataW H × List MemPlace} (h:DataW.trod enc Tryz.prog w 0 sp held fuel 23 [.slice A n c]=some x):∃ ts,war w (.slice A n c) ts:=by
 rcases paI paw h with ⟨e8,-⟩ | ⟨a,len,cap,elems,rest,n',hfu,e8,-,-,Sl,gY,mf,aK,-⟩
 · simp only [sy,and_true] at e8;rw [e8];exact ⟨[],none,0,rfl,by simp,by omega,fun j hj=>absurd hj (by simp)⟩
 · simp only [sy,and_true] at e8;rw [e8];rw [show Tryz.prog.cellsOf 76=6 by kernel_rfl] at aK;have each:∀ i:Nat,∃ t:kag,i < len->∃ B c',a.block < w.heap.size/\vam w (a.add (i * 6)) t.neg (.slice B t.ds.length c') t.mo/\jc w (.slice B t.ds.length c') t.ds:=by
    intro i
    by_cases hi:i < len
    · have h1:=aK i hi;rw [pr (by omega)] at h1;obtain ⟨cs',hc,ht⟩:=pbi.1 h1;obtain ⟨neg,B,ds,c',m,rfl,hn⟩:=xcn ht;obtain ⟨h2,h3⟩:=zcm hc;rw [ja] at h3;exact ⟨⟨neg,ds,m⟩,fun _=>⟨B,c',h3,h2,hn⟩⟩
    · exact ⟨⟨false,[],Mo.one⟩,fun h=>absurd h hi⟩
   refine ⟨(List.range len).map (fun i=>Classical.choose (each i)),some a,cap,by simp,by simpa using Sl,by unfold maxLen at gY; omega,fun j hj=>?_⟩;simp only [pw,tt] at hj;obtain ⟨B,c',h1,h2,h3⟩:=Classical.choose_spec (each j) hj;simp only [rN,tI];exact ⟨a,B,c',rfl,h1,h2,h3⟩
end
section
variable {H:Type} {enc:TypeId × Value->H} {w:World} {sp:Nat->Bool} {held:Bool}
theorem vcr {r:Reach} {b0:Nat} {v:Value} {d:DataW H} {ps:List MemPlace} (aJ:Value.okWide Tryz.prog w r b0 48 v) (h:DataW.Trod enc Tryz.prog w 0 sp held 48 v d ps):∃ L,zbq w v L:=by
 obtain ⟨fuel,h⟩:=h;obtain ⟨A,n,c,rfl⟩:=okWide_slice T5 aJ;simp only [Value.cells] at h;rcases paI T5 h with ⟨e8,-⟩ | ⟨a,len,cap,elems,rest,n',hfu,e8,-,-,Sl,gY,mf,aK,-⟩
 · simp only [sy,and_true] at e8;rw [e8];exact ⟨[],none,0,rfl,by simp,by omega,fun j hj=>absurd hj (by simp)⟩
 · simp only [sy,and_true] at e8;rw [e8];rw [show Tryz.prog.cellsOf 23=1 by kernel_rfl] at aK;have each:∀ i:Nat,∃ t:List kag,i < len->∃ u,a.block < w.heap.size/\w.cell? (a.add i)=some u/\war w u t:=by
    intro i
    by_cases hi:i < len
    · have h1:=aK i hi;rw [pr (by omega)] at h1;obtain ⟨cs',hc,ht⟩:=pbi.1 h1;rw [ur] at hc;have kV:=(pau hc).2.2;have nY:cs'.length=1:=(pau hc).2.1;obtain ⟨u,rfl⟩:=len1 nY;have k0:=kV 0 (by omega);rw [qba] at k0;rcases paI paw ht with ⟨e9,-⟩ | ⟨a2,zb2,cap2,acg,ad6,n2,ajw,e9,-⟩
      · simp only [sy,and_true] at e9;subst e9;obtain ⟨ts,AC⟩:=ybj ht;have hb:=cell_lt k0;rw [ja] at hb;exact ⟨ts,fun _=>⟨_,hb,k0,AC⟩⟩
      · simp only [sy,and_true] at e9;subst e9;obtain ⟨ts,AC⟩:=ybj ht;have hb:=cell_lt k0;rw [ja] at hb;exact ⟨ts,fun _=>⟨_,hb,k0,AC⟩⟩
    · exact ⟨[],fun h=>absurd h hi⟩
   refine ⟨(List.range len).map (fun i=>Classical.choose (each i)),some a,cap,by simp,by simpa using Sl,by unfold maxLen at gY; omega,fun j hj=>?_⟩;simp only [pw,tt] at hj;obtain ⟨u,h1,h2,h3⟩:=Classical.choose_spec (each j) hj;simp only [rN,tI];exact ⟨a,u,rfl,h1,h2,h3⟩
end
open Go.ChangeAt
theorem kc2 {H : Type} {enc : TypeId × Value -> H} {P : Program} {f : Func} {s : ChangeSpec} {apart fresh handsOn again : Bool} {W W' : World} {args : Array Value} {v : Value} {ds gs : List (DataW H)} {before pa pv : List MemPlace}
 (hW:DataW.Whole enc P f.params.toList s.vars apart W args.toList ds gs before) (hx:Ext W W')
 (mQ:∀ (b:Nat) (sp:Nat->Bool) (hd:Bool),DataW.TrodAll enc P W' b sp hd f.resultTypes.toList (v.resultList f.resultTypes.size) (s.fn H (ds ++ gs)).results [])
 (CW:∀ sp:Nat->Bool,(∀ p ∈ before,sp p.block=true)->DataW.TrodAll enc P W' 0 sp true f.params.toList args.toList (s.fn H (ds ++ gs)).args pa)
 (GR:∀ sp:Nat->Bool,(∀ p ∈ before,sp p.block=true)->DataW.TrodVars enc P W' sp s.vars (s.fn H (ds ++ gs)).vars pv) (wO:before=pa ++ pv)
 (lV:∀ (j:Nat) (t:TypeId) (r:Value),f.resultTypes[j]?=some t->(v.resultList f.resultTypes.size)[j]?=some r->Value.okWide P W' .any 0 t r) :
 s.post enc P f apart fresh handsOn again W args v W':=by
 have low:∀ p ∈ before,p.block < W.heap.size:=fun p hp=>hW.lt p hp
 have old:∀ p ∈ before,(fun b=>decide (b < W.heap.size)) p.block=true:=fun p hp=>by simpa using low p hp
 refine ⟨ds,gs,before,[],pa,pv,hW,mQ _ _ _,CW _ old,GR _ old,World.keptBut_mono (fun p hp=>⟨hp,?_⟩) (Below.frame hx (· ∈ before)),fun _=>?_⟩
 · exact .inr (pT.1 (wO ▸ hp))
 · obtain ⟨_,_,_,_,_,hz,hn⟩:=hW;refine ⟨lV,_,_,([] ++ pa) ++ pv,⟨[] ++ pa,pv,trodAll_append (CW _ (fun _ _=>rfl)) (mQ _ _ _),GR _ (fun _ _=>rfl),rfl,fun b off hp=>?_,fun ha=>?_⟩,?_⟩
   · have qA:MemPlace.cell b off ∈ before:=by rw [wO]; simpa using hp
     rw [hx.frozen (low _ qA)];exact hz b off qA
   · have h:=hn ha;rw [wO] at h;simpa using h
   · exact fun p hp _=>by rw [wO]; simpa using hp
theorem wc2:ownKnob Tryz.prog.godebug=none:=by kernel_rfl
theorem kc4:laidOutB Tryz.prog=true:=by kernel_rfl
theorem xcw {H:Type} {enc:TypeId × Value->H} {W W':World} {t:TypeId} (hr:Tryz.prog.readableRec t=true) (ae:t < Tryz.prog.types.size) {v:Value} {d:DataW H} {ps:List MemPlace} (h:DataW.Trod enc Tryz.prog W 0 (fun _=>true) true t v d ps) (hx:Ext W W') (af:∀ x ∈ ps,x.block < W.heap.size) {sp:Nat->Bool} (hs:∀ x ∈ ps,sp x.block=true):DataW.Trod enc Tryz.prog W' 0 sp true t v d ps:=
 WideElems.Trod_stays kc4 hr ae h (fun x iY=>Below.same hx (af x iY)) hs
theorem vda:Tryz.prog.readableRec 48=true:=by kernel_rfl
theorem kda:48 < Tryz.prog.types.size:=of_decide_eq_true (by kernel_rfl)
theorem ybv (os:Os) (started:os.Started) (H:Type) (enc:TypeId × Value->H) :
 ReturnsInHanded {} Tryz.checked os 5 .any (Rows.collinsOrderSpec.pre6 enc Tryz.prog Tryz.f5 Rows.collinsOrderRow.domain false) (Rows.collinsOrderSpec.post enc Tryz.prog Tryz.f5 false true false false):=by
 refine returnsInHanded_of_change (C := Tryz.checked) wc2 started (by kernel_rfl) Tryz.func5
  (ChangeSpec.witness6 (enc:=enc) (C:=Tryz.checked) false ⟨#[],#[.slice none 0 0,.int .i64 0],[]⟩ 8 (by kernel_rfl) (by kernel_rfl) (by kernel_rfl) (by kernel_rfl)) ?_
 intro W base args ds gs before hval0 hW _ _;have aJ:∀ (j:Nat) t v,Tryz.f5.params[j]?=some t->args[j]?=some v->Value.okWide Tryz.prog W .any base t v:=hval0;have bJ:=hW;have low:∀ p ∈ before,p.block < W.heap.size:=fun p hp=>hW.lt p hp
 obtain ⟨p,q,hA0,hV,rfl,-,-⟩:=hW;have hA:DataW.TrodAll enc Tryz.prog W 0 (fun _=>true) true Tryz.f5.params.toList args.toList ds p:=hA0;rw [Tryz.params5] at hA aJ;obtain ⟨v0,vs0,d0,ds0,p0,q0,CW,rfl,rfl,h0,r0⟩:=trodAll_cons hA;obtain ⟨v1,vs1,d1,ds1,p1,q1,rfl,rfl,rfl,h1,r1⟩:=trodAll_cons r0;obtain ⟨rfl,rfl,rfl⟩:=trodAll_nil r1;obtain rfl:args=#[v0,v1]:=by cases args; simp_all
 obtain ⟨rfl,rfl⟩:=trodVars_none hV;obtain ⟨ts,ht⟩:=vcr (aJ 0 48 v0 rfl rfl) h0;obtain ⟨l,rfl,rfl,rfl,wf⟩:=Go.ChangeShapes.open_int Tryz.underlying3 (aJ 1 3 v1 rfl rfl) h1;clear hA0 hval0;simp only [sq] at bJ low;refine (vb2 (l:=l) v0 ht).mono fun e W' ⟨he,hx⟩=>?_
 subst he
 exact ⟨_, rfl, kc2 (pa := p0) (pv := []) bJ hx (fun _ _ _ => (trodAll_cons_mk (shut_bool S8 _) trodAll_mk0))
  (fun sp hs=>by
    have:=trodAll_cons_mk (xcw vda kda h0 hx (fun x iY=>low x iY) (fun x iY=>hs x iY)) (trodAll_cons_mk (Go.ChangeShapes.shut_int Tryz.underlying3 wf) trodAll_mk0);simp only [sq] at this
    exact this) (fun _ _=>rfl) (by simp)
  (ok_one (by kernel_rfl) rfl (okWide_bool_mk S8 _))⟩
theorem kcb:Rows.collinsOrderRow.holds Tryz.pinned (OpenSpec.ofChange Rows.collinsOrderSpec):=
 OpenClaim.holds_of_wide 5 Tryz.f5 rfl rfl rfl rfl rfl rfl rfl ⟨rfl, rfl, rfl, rfl, rfl⟩ rfl rfl rfl rfl rfl (by kernel_rfl) Tryz.func5 (by kernel_rfl)
  (of_decide_eq_true (by kernel_rfl)) (by unfold Func.isWrapper; first | (rw [if_pos (by decide +kernel)]; kernel_rfl) | (rw [if_neg (by decide +kernel)]; exact ⟨rfl,rfl⟩))
  (fun os started H enc _=>ybv os started H enc)
theorem corder_proved:Rows.CollinsOrderSaid:=kcb
#print axioms corder_proved
end Go.Proofs.YtcepajijiabkmaaGreat
