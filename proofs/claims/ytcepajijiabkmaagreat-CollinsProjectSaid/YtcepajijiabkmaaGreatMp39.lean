/- Layer 25: Chain and Psc, over a contract of descend. -/
import Derived.Test.YtcepajijiabkmaaGreatMp38
set_option linter.unusedSimpArgs false
set_option linter.unusedVariables false
set_option maxRecDepth 100000
set_option maxHeartbeats 8000000
namespace Go.Proofs.YtcepajijiabkmaaGreat
open Lib (hid)
open Go.RowKit
def yai (q:Nat->Prop) (L:List Pl) (w:World) (e:Ending) (w':World):Prop:=∃ v,e=.returned (.tuple #[v,.int .i64 0])/\jaf w' q v L/\Ext w w'
def kdc (c:Pl):Prop:=c.Can/\c.sz<=1099511627776/\c.dm<=35184372088832
theorem wa7 {w : World} {q0 q1 : Nat -> Prop} {f g : Pl} {l : Int} {E D : Nat} {L : List Pl} (v0 v1 : Value) (hl : 1 <= l) (ag : l <= 4) (h0 : PlV w q0 f v0) (h1 : PlV w q1 g v1) (hf : Fit f E D) (hg : Fit g E D) (hE : E <= 62) (hD : D <= 1099511627776) (rE : 0 < mdg l f) (bI : 0 < mdg l g) (OD : mdg l f <= 1000) (Ic : mdg l g <= 1000)
 (UH:L.length<=1000) (UJ:∀ c ∈ L,kdc c)
 (HD:Hid ((mdg l g<=mdg l f/\∀ W',Ext w W'->Calls Tryz.prog 158 #[v0,v1,.int .i64 l,.int .i64 (mdg l f),.int .i64 (mdg l g)] W' (kah (fun b=>W'.heap.size<=b) L W'))\/(mdg l f=1/\mdg l g=2/\L.length=1/\∀ W',Ext w W'->Calls Tryz.prog 158 #[v1,v0,.int .i64 l,.int .i64 2,.int .i64 1] W' (kah (fun b=>W'.heap.size<=b) L W')))) :
 Calls Tryz.prog 153 #[v0,v1,.int .i64 l] w (yai (fun b=>w.heap.size<=b) L w):=by
 have H0:=hid h0;have H1:=hid h1;obtain ⟨A0,m0,e0,B0,f0,rfl,-⟩:=h0.open_;obtain ⟨A1,m1,e1,B1,f1,rfl,-⟩:=h1.open_;obtain ⟨Ej,W,fV,jK,iT,aC,bW,hx1,aX,bF⟩:=b_2 w f g (.slice A0 m0 e0) (.slice B0 f.cs.length f0) (.slice A1 m1 e1) (.slice B1 g.cs.length f1);have HX:=hid (aC.trans hx1);have dJ:=hid aX;have dH:=hid bF;have fO:W.heap.size=w.heap.size+1+1:=bW;clear h0 h1 aC hx1 aX bF;have HC:=hid (fun (W':World) (hx:Ext w W')=>check_any _ _ hl ag (H0.out.ext hx) (H1.out.ext hx) hf.can hg.can (qah (l:=l) (by omega)) (qah (l:=l) (by omega)));have Gp:=hid (fun (W':World) (hx:Ext w W')=>xaf (l:=l) _ hf.can (hf.copy_ (by omega)) (by have:=hf.dm; omega) (H0.out.ext hx));have Bj:=hid (fun (W':World) (hx:Ext w W')=>xaf (l:=l) _ hg.can (hg.copy_ (by omega)) (by have:=hg.dm; omega) (H1.out.ext hx));have Jj:=hid UJ;have aH:Hid (∀ W',Ext W W'->(Ext W W'/\(jb W' (w.heap.size) f (.slice A0 m0 e0) (.slice B0 f.cs.length f0))/\(jb W' (w.heap.size+1) g (.slice A1 m1 e1) (.slice B1 g.cs.length f1)))):=hid (fun W' hx=>⟨hx,dJ.out.ext hx (by omega),dH.out.ext hx (by omega)⟩);obtain ⟨m,hm⟩:=n_m (mdg l f);obtain ⟨n,hn⟩:=n_m (mdg l g);rw [hm] at Gp rE OD HD;rw [hn] at Bj bI Ic HD;obtain ⟨b0,b1,b2,b3⟩:=dH.out;obtain ⟨a0,a1,a2,a3⟩:=dJ.out;unfold plV at HC Gp Bj HD ⊢;clear hf hg hm hn UJ hE hD;go_enter Tryz.func153,Tryz.ntmps153;go_wp2_with fail;clear fV jK;clear a0 a1 a2 a3 b0 b1 b2 b3;refine (HC.out _ HX.out).mono ?_;rintro e w1 ⟨rfl,x1⟩;have Dp:=hid fO;clear fO iT bW HC;have y0:Ext W w1.drew:=x1.drew;go_upto_region 4 with fail;refine wp_region_held_drew (S:=fun W'=>Ext W W'/\(jb W' (w.heap.size) f (.slice A0 m0 e0) (.slice B0 f.cs.length f0))/\(jb W' (w.heap.size+1) g (.slice A1 m1 e1) (.slice B1 g.cs.length f1))) (by kernel_rfl) (aH.out _ y0) (fun hHeld=>?_);refine tk 0 ?_ (hy:=Or.inl ⟨by rfl,by intro w' aP; obtain ⟨-,⟨k0,k1,k2,k3⟩,k4,k5,k6,k7⟩:=aP; go_simp; (try (with_reducible rfl))⟩);refine tk 1 ?_;refine tk 3 ?_ (hy:=Or.inl ⟨by rfl,by intro w' aP; obtain ⟨-,⟨k0,k1,k2,k3⟩,k4,k5,k6,k7⟩:=aP; go_simp; (try (with_reducible rfl))⟩);refine tk 4 ?_;refine r_1 2 fun K hK=>?_
 go_simp
 go_at_call 109
 refine (Gp.out _ (HX.out.trans y0)).mono ?_;rintro e w2 ⟨rfl,x2⟩;have y2:=y0.trans x2;refine k_t hK (aH.out _ y2) fun hHeld=>?_
 clear hK K;refine r_1 5 fun K hK=>?_
 go_simp
 go_at_call 109
 refine (Bj.out _ (HX.out.trans y2)).mono ?_;rintro e w3 ⟨rfl,x3⟩;have y3:=y2.trans x3;refine k_t hK (aH.out _ y3) fun hHeld=>?_
 clear hK K;refine tk 6 ?_;refine tk 7 ?_;refine w_d ?_;obtain ⟨-,⟨a0,a1,a2,a3⟩,b0,b1,b2,b3⟩:=hHeld;have Y3:=hid y3;clear x1 x2 x3 y0 y2 y3 aH Gp Bj;have RN:¬ min m n=0:=by omega
 rcases HD.out with ⟨RJ,hd⟩ | ⟨rfl,rfl,Ef,hd⟩
 · have Ws:=hid (hd _ (HX.out.trans Y3.out));clear hd HD;go_wp2_with fail;refine Ws.out.mono ?_;rintro e w5 ⟨v5,rfl,jW,x5⟩;clear Ws;have jW:=jW.mono (q':=fun b=>W.heap.size<=b) (fun b hb=>by have:=Y3.out.size; omega);have x5:=Y3.out.trans x5;obtain ⟨Rv,rc,rfl,o8,qK,GK⟩:=id jW;have qX:=hid GK;have X5:=hid x5;clear GK jW;go_wp2_with fail;clear a0 a1 a2 a3 b0 b1 b2 b3
   go_loopw [47] (fun iv wr=>∃ k:Nat,k<=L.length/\iv=.int .i64 k/\Hid (Ext W wr/\jaf wr (fun b=>W.heap.size<=b) (.slice Rv L.length rc) L)) (fun iv _=>L.length - (intOf iv).toNat)
   case atStart=>exact ⟨0,pS _,rfl,hid ⟨X5.out,Rv,rc,rfl,o8,qK,qX.out⟩⟩
   case round =>
    obtain ⟨k,hk,rfl,HI⟩:=hrel
    by_cases af:k < L.length
    · obtain ⟨hx,Rv',rc',e',-,-,ae⟩:=HI.out;injection e' with e1 e2 e3
      subst e1 e3;obtain ⟨R,rfl,Iw,ae⟩:=ae (fun e=>by rw [e] at af; simp at af);obtain ⟨C0,j0,k0,C1,j1,k1,⟨g0,g1,g2,g3⟩,fP⟩:=ae.el k af;have zQ:=ae.2.1;have HN:=hid (qab _ fP (Jj.out _ (pt af)).1 (Jj.out _ (pt af)).2.1 (Jj.out _ (pt af)).2.2);have dU:Hid (L.set k L[k]=L):=hid (List.set_getElem_self af);have aB:=hid ae;have nZ:=hid hx;have qY:=hid Iw;have gV:=ae.1;generalize L[k]=c at *;unfold plV at HN;clear fP ae hx Iw HI;go_wp2_with fail;clear g0 g1 g2 g3;refine HN.out.mono ?_;rintro e w6 ⟨v6,rfl,p6,x6⟩;obtain ⟨D0,i0,h0,D1,h1,rfl,-⟩:=id p6.open_;have aU:=((aB.out.ext x6).xD k af c (p6.mono fun b hb=>by have:=aB.out.1; have:=nZ.out.size; exact ⟨by omega,by omega⟩)).1;rw [dU.out] at aU;obtain ⟨E0,m0,n0,E1,m1,n1,⟨s0,s1,s2,s3⟩,-⟩:=(aB.out.ext x6).el k af;have UD:=(aB.out.ext x6).2.1;obtain ⟨V,hV⟩:=n_m (((((w6.setCell ⟨R,k * 4,none⟩ (.int .i64 c.lv)).setCell ⟨R,k * 4+1,none⟩ (.bool c.neg)).setCell ⟨R,k * 4+2,none⟩ (.slice D0 i0 h0)).setCell ⟨R,k * 4+3,none⟩ (.slice D1 c.cs.length h1)));have bT:Hid (Ext W V/\jaf V (fun b=>W.heap.size<=b) (.slice (some ⟨R,0,none⟩) L.length rc) L):=hid (by
       have hq:=qY.out;refine ⟨by rw [<- hV]; exact (((((nZ.out.trans x6).setCell hq _).setCell hq _).setCell hq _).setCell hq _),_,_,rfl,o8,qK,fun _=>⟨R,rfl,hq,?_⟩⟩
       rw [<- hV]; exact aU)
      unfold plV;clear aU p6 x6 HN aB dU;go_wp2_with fail;clear s0 s1 s2 s3
      go_roundw
      case rel=>exact ⟨k+1,by omega,by first | go_num | rfl,bT.out⟩
      case measure=>simp [intOf]; omega
    · obtain rfl:k=L.length:=by omega
      have HF:=hid HI.out;clear HI;go_wp2_with fail;exact bodyPost_ret (v:=.tuple #[.slice Rv L.length rc,.int .i64 0]) (by simp [results,Tryz.results153,go_sem]) rfl ⟨_,rfl,HF.out.2.mono fun b hb=>by have:=HX.out.size; omega,HX.out.trans HF.out.1⟩
 · have Ws:=hid (hd _ (HX.out.trans Y3.out));have YG:=hid Ef;clear hd HD Ef;go_wp2_with fail;refine Ws.out.mono ?_;rintro e w5 ⟨v5,rfl,jW,x5⟩;clear Ws;have jW:=jW.mono (q':=fun b=>W.heap.size<=b) (fun b hb=>by have:=Y3.out.size; omega);have x5:=Y3.out.trans x5;obtain ⟨Rv,rc,rfl,o8,qK,GK⟩:=id jW;have qX:=hid GK;have X5:=hid x5;clear GK jW;go_wp2_with fail;clear a0 a1 a2 a3 b0 b1 b2 b3
   go_loopw [47] (fun iv wr=>∃ k:Nat,k<=L.length/\iv=.int .i64 k/\Hid (Ext W wr/\jaf wr (fun b=>W.heap.size<=b) (.slice Rv L.length rc) L)) (fun iv _=>L.length - (intOf iv).toNat)
   case atStart=>exact ⟨0,pS _,rfl,hid ⟨X5.out,Rv,rc,rfl,o8,qK,qX.out⟩⟩
   case round =>
    obtain ⟨k,hk,rfl,HI⟩:=hrel
    by_cases af:k < L.length
    · obtain ⟨hx,Rv',rc',e',-,-,ae⟩:=HI.out;injection e' with e1 e2 e3
      subst e1 e3;obtain ⟨R,rfl,Iw,ae⟩:=ae (fun e=>by rw [e] at af; simp at af);obtain ⟨C0,j0,k0,C1,j1,k1,⟨g0,g1,g2,g3⟩,fP⟩:=ae.el k af;have zQ:=ae.2.1;have HN:=hid (qab _ fP (Jj.out _ (pt af)).1 (Jj.out _ (pt af)).2.1 (Jj.out _ (pt af)).2.2);have dU:Hid (L.set k L[k]=L):=hid (List.set_getElem_self af);have aB:=hid ae;have nZ:=hid hx;have qY:=hid Iw;have gV:=ae.1;generalize L[k]=c at *;unfold plV at HN;clear fP ae hx Iw HI;have qQ:k=0:=by have:=YG.out; omega
      subst qQ;simp only [sY,rh] at g0 g1 g2 g3;go_wp2_with fail;clear g0 g1 g2 g3;refine HN.out.mono ?_;rintro e w6 ⟨v6,rfl,p6,x6⟩;obtain ⟨D0,i0,h0,D1,h1,rfl,-⟩:=id p6.open_;have aU:=((aB.out.ext x6).xD 0 af c (p6.mono fun b hb=>by have:=aB.out.1; have:=nZ.out.size; exact ⟨by omega,by omega⟩)).1;rw [dU.out] at aU;obtain ⟨E0,m0,n0,E1,m1,n1,⟨s0,s1,s2,s3⟩,-⟩:=(aB.out.ext x6).el 0 af;have UD:=(aB.out.ext x6).2.1;simp only [sY,rh] at s0 s1 s2 s3 aU;obtain ⟨V,hV⟩:=n_m (((((w6.setCell ⟨R,0,none⟩ (.int .i64 c.lv)).setCell ⟨R,1,none⟩ (.bool c.neg)).setCell ⟨R,2,none⟩ (.slice D0 i0 h0)).setCell ⟨R,3,none⟩ (.slice D1 c.cs.length h1)));have bT:Hid (Ext W V/\jaf V (fun b=>W.heap.size<=b) (.slice (some ⟨R,0,none⟩) L.length rc) L):=hid (by
       have hq:=qY.out;refine ⟨by rw [<- hV]; exact (((((nZ.out.trans x6).setCell hq _).setCell hq _).setCell hq _).setCell hq _),_,_,rfl,o8,qK,fun _=>⟨R,rfl,hq,?_⟩⟩
       rw [<- hV]; exact aU)
      unfold plV;clear aU p6 x6 HN aB dU;go_wp2_with fail;clear s0 s1 s2 s3
      go_roundw
      case rel=>exact ⟨0+1,by omega,by first | go_num | rfl,bT.out⟩
      case measure=>simp [intOf]; omega
    · obtain rfl:k=L.length:=by omega
      have HF:=hid HI.out;clear HI;go_wp2_with fail;exact bodyPost_ret (v:=.tuple #[.slice Rv L.length rc,.int .i64 0]) (by simp [results,Tryz.results153,go_sem]) rfl ⟨_,rfl,HF.out.2.mono fun b hb=>by have:=HX.out.size; omega,HX.out.trans HF.out.1⟩
theorem chain_nil {w:World} {q0 q1:Nat->Prop} {f g:Pl} {l:Int} {E D:Nat} (v0 v1:Value) (hl:1<=l) (ag:l<=4) (h0:PlV w q0 f v0) (h1:PlV w q1 g v1) (hf:Fit f E D) (hg:Fit g E D) (hE:E<=62) (hD:D<=1099511627776) (rE:0<=mdg l f) (bI:0<=mdg l g) (uD:min (mdg l f) (mdg l g)=0) :
 Calls Tryz.prog 153 #[v0,v1,.int .i64 l] w (yai (fun b=>w.heap.size<=b) [] w):=by
 have H0:=hid h0;have H1:=hid h1;obtain ⟨A0,m0,e0,B0,f0,rfl,-⟩:=h0.open_;obtain ⟨A1,m1,e1,B1,f1,rfl,-⟩:=h1.open_;obtain ⟨Ej,W,fV,jK,iT,aC,bW,hx1,aX,bF⟩:=b_2 w f g (.slice A0 m0 e0) (.slice B0 f.cs.length f0) (.slice A1 m1 e1) (.slice B1 g.cs.length f1);have HX:=hid (aC.trans hx1);have dJ:=hid aX;have dH:=hid bF;have fO:W.heap.size=w.heap.size+1+1:=bW;clear h0 h1 aC hx1 aX bF;have HC:=hid (fun (W':World) (hx:Ext w W')=>check_any _ _ hl ag (H0.out.ext hx) (H1.out.ext hx) hf.can hg.can (qah (l:=l) (by omega)) (qah (l:=l) (by omega)));have Gp:=hid (fun (W':World) (hx:Ext w W')=>xaf (l:=l) _ hf.can (hf.copy_ (by omega)) (by have:=hf.dm; omega) (H0.out.ext hx));have Bj:=hid (fun (W':World) (hx:Ext w W')=>xaf (l:=l) _ hg.can (hg.copy_ (by omega)) (by have:=hg.dm; omega) (H1.out.ext hx));have aH:Hid (∀ W',Ext W W'->(Ext W W'/\(jb W' (w.heap.size) f (.slice A0 m0 e0) (.slice B0 f.cs.length f0))/\(jb W' (w.heap.size+1) g (.slice A1 m1 e1) (.slice B1 g.cs.length f1)))):=hid (fun W' hx=>⟨hx,dJ.out.ext hx (by omega),dH.out.ext hx (by omega)⟩);obtain ⟨m,hm⟩:=n_m (mdg l f);obtain ⟨n,hn⟩:=n_m (mdg l g);rw [hm] at Gp rE uD;rw [hn] at Bj bI uD;obtain ⟨b0,b1,b2,b3⟩:=dH.out;obtain ⟨a0,a1,a2,a3⟩:=dJ.out;unfold plV at HC Gp Bj ⊢;clear hf hg hm hn hE hD;go_enter Tryz.func153,Tryz.ntmps153;go_wp2_with fail;clear fV jK;clear a0 a1 a2 a3 b0 b1 b2 b3;refine (HC.out _ HX.out).mono ?_;rintro e w1 ⟨rfl,x1⟩;have Dp:=hid fO;clear fO iT bW HC;have y0:Ext W w1.drew:=x1.drew;go_upto_region 4 with fail;refine wp_region_held_drew (S:=fun W'=>Ext W W'/\(jb W' (w.heap.size) f (.slice A0 m0 e0) (.slice B0 f.cs.length f0))/\(jb W' (w.heap.size+1) g (.slice A1 m1 e1) (.slice B1 g.cs.length f1))) (by kernel_rfl) (aH.out _ y0) (fun hHeld=>?_);refine tk 0 ?_ (hy:=Or.inl ⟨by rfl,by intro w' aP; obtain ⟨-,⟨k0,k1,k2,k3⟩,k4,k5,k6,k7⟩:=aP; go_simp; (try (with_reducible rfl))⟩);refine tk 1 ?_;refine tk 3 ?_ (hy:=Or.inl ⟨by rfl,by intro w' aP; obtain ⟨-,⟨k0,k1,k2,k3⟩,k4,k5,k6,k7⟩:=aP; go_simp; (try (with_reducible rfl))⟩);refine tk 4 ?_;refine r_1 2 fun K hK=>?_
 go_simp
 go_at_call 109
 refine (Gp.out _ (HX.out.trans y0)).mono ?_;rintro e w2 ⟨rfl,x2⟩;have y2:=y0.trans x2;refine k_t hK (aH.out _ y2) fun hHeld=>?_
 clear hK K;refine r_1 5 fun K hK=>?_
 go_simp
 go_at_call 109
 refine (Bj.out _ (HX.out.trans y2)).mono ?_;rintro e w3 ⟨rfl,x3⟩;have y3:=y2.trans x3;refine k_t hK (aH.out _ y3) fun hHeld=>?_
 clear hK K;refine tk 6 ?_;refine tk 7 ?_;refine w_d ?_;obtain ⟨-,⟨a0,a1,a2,a3⟩,b0,b1,b2,b3⟩:=hHeld;have Y3:=hid y3;clear x1 x2 x3 y0 y2 y3 aH Gp Bj;go_wp2_with fail;exact bodyPost_ret (v:=.tuple #[.slice none 0 0,.int .i64 0]) (by simp [results,Tryz.results153,go_sem]) rfl ⟨_,rfl,⟨none,0,rfl,by simp,by omega,fun h=>absurd rfl h⟩,HX.out.trans Y3.out⟩
def pcf (l:Int) (L:List Pl):List Pl:=(List.range L.length).map fun (j:Nat)=>ji l (j:Int) (L.getD j Pl.zero)
theorem jap (l:Int) (L:List Pl):(pcf l L).length=L.length:=by simp [pcf]
theorem vc6 (l:Int) (L:List Pl) (k:Nat) (h:k < L.length) (h':k < (pcf l L).length):(pcf l L)[k]=ji l k L[k]:=by
 simp [pcf,pr,po h]
theorem wbl {α:Type} {A L:List α} (h:A.length=L.length) (k:Nat):(A.take k ++ L.drop k).length=L.length:=by
 rw [ra,pA,re]; omega
theorem zbm {α:Type} {A L:List α} (h:A.length=L.length) (k:Nat) (hk:k < L.length) (h':k < (A.take k ++ L.drop k).length):(A.take k ++ L.drop k)[k]=L[k]:=by
 rw [tB (by rw [pA]; omega),u9]
 congr 1
 rw [pA]; omega
theorem zca {α:Type} {A L:List α} (h:A.length=L.length) (k:Nat) (hk:k < L.length) (lW:k < A.length):(A.take k ++ L.drop k).set k A[k]=A.take (k+1) ++ L.drop (k+1):=by
 have ht:(A.take k).length=k:=by rw [pA]; omega
 rw [ti _ _ (by omega),ht,Ps,r9 hk,uv,pC lW,List.append_assoc]
 rfl
theorem va8 {w : World} {q0 q1 : Nat -> Prop} {f g : Pl} {l : Int} {E D : Nat} {L : List Pl} (v0 v1 : Value) (hl : 1 <= l) (ag : l <= 4) (h0 : PlV w q0 f v0) (h1 : PlV w q1 g v1) (hE : E <= 170) (hD : D <= 1099511627776)
 (UH:L.length<=1000) (UJ:∀ c ∈ L,Fit c E D)
 (HC:Hid (∀ W',Ext w W'->Calls Tryz.prog 153 #[v0,v1,.int .i64 l] W' (yai (fun b=>W'.heap.size<=b) L W'))) :
 Calls Tryz.prog 138 #[v0,v1,.int .i64 l] w (yai (fun b=>w.heap.size<=b) (pcf l L) w):=by
 have H0:=hid h0;have H1:=hid h1;obtain ⟨A0,m0,e0,B0,f0,rfl,-⟩:=h0.open_;obtain ⟨A1,m1,e1,B1,f1,rfl,-⟩:=h1.open_;obtain ⟨Ej,W,fV,jK,iT,aC,bW,hx1,aX,bF⟩:=b_2 w f g (.slice A0 m0 e0) (.slice B0 f.cs.length f0) (.slice A1 m1 e1) (.slice B1 g.cs.length f1);have HX:=hid (aC.trans hx1);have dJ:=hid aX;have dH:=hid bF;have fO:W.heap.size=w.heap.size+1+1:=bW;clear h0 h1 aC hx1 aX bF;have Jj:=hid UJ;obtain ⟨b0,b1,b2,b3⟩:=dH.out;obtain ⟨a0,a1,a2,a3⟩:=dJ.out;unfold plV at HC ⊢;clear UJ;go_enter Tryz.func138,Tryz.ntmps138;go_wp2_with fail;clear fV jK;clear a0 a1 a2 a3 b0 b1 b2 b3;refine (HC.out _ HX.out).mono ?_;rintro e w5 ⟨v5,rfl,jW,x5⟩;obtain ⟨Rv,rc,rfl,o8,qK,GK⟩:=id jW;have qX:=hid GK;have X5:=hid x5;have Dp:=hid fO;have WS:=HX.out.size;clear GK jW x5 HC iT bW fO;go_wp2_with fail
 go_loopw [20] (fun iv wr=>∃ k:Nat,k<=L.length/\iv=.int .i64 k/\Hid (Ext W wr/\jaf wr (fun b=>W.heap.size<=b) (.slice Rv L.length rc) ((pcf l L).take k ++ L.drop k))) (fun iv _=>L.length - (intOf iv).toNat)
 case atStart=>exact ⟨0,pS _,rfl,hid ⟨X5.out,Rv,rc,by simp,by simpa using o8,qK,by simpa using qX.out⟩⟩
 case round =>
  obtain ⟨k,hk,rfl,HI⟩:=hrel;have lC:=wbl (jap l L) k
  by_cases af:k < L.length
  · obtain ⟨hx,Rv',rc',e',-,-,ae⟩:=HI.out;rw [lC] at e';injection e' with e1 e2 e3
    subst e1 e3;obtain ⟨R,rfl,Iw,ae⟩:=ae (fun e=>by rw [e] at lC; simp at lC; omega);obtain ⟨C0,j0,k0,C1,j1,k1,g,fP⟩:=ae.el k (by rw [lC]; exact af);rw [zbm (jap l L) k af] at g fP;obtain ⟨g0,g1,g2,g3⟩:=g;have zQ:=ae.2.1;have yY:(k:Int)<=1000:=by omega
    have HN:=hid (ybp (k:=(k:Int)) _ (by omega) (by omega) hl ag (Jj.out _ (pt af)) hE hD fP);have SI:k < (pcf l L).length:=by rw [jap]; exact af
    have dU:=hid (zca (jap l L) k af SI);rw [vc6 l L k af] at dU;have Bg:=hid lC;have aB:=hid ae;have nZ:=hid hx;have qY:=hid Iw;have Ag:=hid (wbl (jap l L) (k+1));have gV:=ae.1;obtain ⟨M,hM⟩:=n_m ((pcf l L).take k ++ L.drop k);obtain ⟨M',IC⟩:=n_m ((pcf l L).take (k+1) ++ L.drop (k+1));rw [hM] at aB dU Bg;rw [IC] at dU Ag;have Et:=hid IC;obtain ⟨c,hc⟩:=n_m (L[k]);rw [hc] at HN dU g0 g1;obtain ⟨d,hd⟩:=n_m (ji l k c);rw [hd] at HN dU;unfold plV at HN;clear fP ae hx Iw HI lC hM IC hc hd SI;go_wp2_with fail;clear g0 g1 g2 g3;refine HN.out.mono ?_;rintro e w6 ⟨v6,rfl,p6,x6⟩;obtain ⟨D0,i0,h0,D1,h1,rfl,-⟩:=id p6.open_;have aU:=((aB.out.ext x6).xD k (by rw [Bg.out]; exact af) d (p6.mono fun b hb=>by have:=aB.out.1; have:=nZ.out.size; exact ⟨by omega,by omega⟩)).1;rw [dU.out] at aU;obtain ⟨E0,m0,n0,E1,m1,n1,⟨s0,s1,s2,s3⟩,-⟩:=(aB.out.ext x6).el k (by rw [Bg.out]; exact af);have UD:=(aB.out.ext x6).2.1;obtain ⟨V,hV⟩:=n_m (((((w6.setCell ⟨R,k * 4,none⟩ (.int .i64 d.lv)).setCell ⟨R,k * 4+1,none⟩ (.bool d.neg)).setCell ⟨R,k * 4+2,none⟩ (.slice D0 i0 h0)).setCell ⟨R,k * 4+3,none⟩ (.slice D1 d.cs.length h1)));have bT:Hid (Ext W V/\jaf V (fun b=>W.heap.size<=b) (.slice (some ⟨R,0,none⟩) L.length rc) ((pcf l L).take (k+1) ++ L.drop (k+1))):=hid (by
     have hq:=qY.out;refine ⟨by rw [<- hV]; exact (((((nZ.out.trans x6).setCell hq _).setCell hq _).setCell hq _).setCell hq _),_,_,by rw [Et.out,Ag.out],by rw [Et.out,Ag.out]; exact o8,qK,fun _=>⟨R,rfl,hq,?_⟩⟩
     rw [Et.out,<- hV]; exact aU)
    unfold plV;clear aU p6 x6 HN aB dU;go_wp2_with fail;clear s0 s1 s2 s3
    go_roundw
    case rel=>exact ⟨k+1,by omega,by go_num,bT.out⟩
    case measure=>simp [intOf]; omega
  · obtain rfl:k=L.length:=by omega
    have hf:=HI.out;rw [List.drop_length,si,<- jap l L,pP] at hf;have HF:=hid hf;rw [jap] at HF;clear HI hf lC;go_wp2_with fail;exact bodyPost_ret (v:=.tuple #[.slice Rv L.length rc,.int .i64 0]) (by simp [results,Tryz.results138,go_sem]) rfl ⟨_,rfl,HF.out.2.mono fun b hb=>by omega,HX.out.trans HF.out.1⟩
theorem qb9 {w : World} {q0 q1 : Nat -> Prop} {f g : Pl} {l : Int} {E D : Nat} (v0 v1 : Value) (hl : 1 <= l) (ag : l <= 4) (h0 : PlV w q0 f v0) (h1 : PlV w q1 g v1) (hf : Fit f E D) (hg : Fit g E D) (hE : E + (E + 1) * E + E <= 62) (hD : D + (E + 1) * (D + 3) + 1 <= 1099511627776) (rE : 0 <= mdg l f) (bI : 0 <= mdg l g)
 (hc:mdg l f=0\/mdg l g=0\/mdg l g=1\/mdg l f=1/\mdg l g=2):Calls Tryz.prog 138 #[v0,v1,.int .i64 l] w (yai (fun b=>w.heap.size<=b) (wu l f g) w):=by
 have hEE:=pE E (show 1<=E+1 by omega);have hDD:=pE (D+3) (show 1<=E+1 by omega);have hB:(B32:Nat)=4294967296:=rfl;have OD:=wan (l:=l) hf.can hf.ex;have Ic:=wan (l:=l) hg.can hg.ex
 by_cases hz:mdg l f=0\/mdg l g=0
 · have e:wu l f g=pcf l []:=by unfold wu pcf; rw [if_pos (by omega)]; rfl
   rw [e];exact va8 v0 v1 hl ag h0 h1 (E:=0) (D:=0) (by omega) (by omega) (by simp) (by simp) (hid fun W' hx=>chain_nil v0 v1 hl ag (h0.ext hx) (h1.ext hx) hf hg (by omega) (by omega) rE bI (by omega))
 · have wV:¬ (mdg l f<=0\/mdg l g<=0):=by omega
   have ok:∀ {p q:Pl},Fit p E D->Fit q E D->Fit (qi l p q) 170 1099511627776/\kdc (qi l p q):=fun hp hq=>by
    have h:=gak hl ag hp hq (by omega);refine ⟨h.mono (by omega) (by omega),qac _ _ _,h.copy_ (by omega),?_⟩;have:=h.dm; omega
   by_cases jV:mdg l g=1
   · have e:wu l f g=pcf l [qi l f g]:=by unfold wu pcf; rw [if_neg wV,if_pos jV]; rfl
     rw [e];refine va8 v0 v1 hl ag h0 h1 (E:=170) (D:=1099511627776) (by omega) (by omega) (by simp) (fun c hc=>by rw [pD.1 hc]; exact (ok hf hg).1) (hid fun W' hx=>wa7 v0 v1 hl ag (h0.ext hx) (h1.ext hx) hf hg (by omega) (by omega) (by omega) (by omega) (by omega) (by omega) (by simp) (fun c hc=>by rw [pD.1 hc]; exact (ok hf hg).2) (hid (Or.inl ⟨by omega,fun W2 aN=>?_⟩)));rw [jV];exact wbp v0 v1 hl ag (h0.ext (hx.trans aN)) (h1.ext (hx.trans aN)) hf hg (by omega) OD jV hE hD
   · obtain ⟨h2,h3⟩:mdg l f=1/\mdg l g=2:=by omega
     have e:wu l f g=pcf l [qi l g f]:=by unfold wu pcf; rw [if_neg wV,if_neg jV,if_pos h2]; rfl
     rw [e];refine va8 v0 v1 hl ag h0 h1 (E:=170) (D:=1099511627776) (by omega) (by omega) (by simp) (fun c hc=>by rw [pD.1 hc]; exact (ok hg hf).1) (hid fun W' hx=>wa7 v0 v1 hl ag (h0.ext hx) (h1.ext hx) hf hg (by omega) (by omega) (by omega) (by omega) (by omega) (by omega) (by simp) (fun c hc=>by rw [pD.1 hc]; exact (ok hg hf).2) (hid (Or.inr ⟨h2,h3,rfl,fun W2 aN=>?_⟩)));exact wbp v1 v0 hl ag (h1.ext (hx.trans aN)) (h0.ext (hx.trans aN)) hg hf (by omega) (by omega) h2 hE hD
end Go.Proofs.YtcepajijiabkmaaGreat
