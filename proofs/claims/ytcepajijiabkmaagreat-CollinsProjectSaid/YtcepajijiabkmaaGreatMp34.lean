/- Layer 25: subresultant.check, remainder; descend, Chain and Psc where the smaller degree is 1. -/
import Derived.Test.YtcepajijiabkmaaGreatMp33
set_option linter.unusedSimpArgs false
set_option linter.unusedVariables false
set_option maxRecDepth 100000
set_option maxHeartbeats 8000000
namespace Go.Proofs.YtcepajijiabkmaaGreat
open Lib (hid)
open Go.RowKit
theorem PBx.Vn {V:World} {Q:Nat->Prop} {g:Nat} {p:Pl} (h:PBx V Q g p) (x0:Int) (x1:Bool) (A0 A1:Option Addr) (n0 c0 n1 c1:Nat) :
 Frr V g ((((V.setCell ⟨g,0,none⟩ (.int .i64 x0)).setCell ⟨g,1,none⟩ (.bool x1)).setCell ⟨g,2,none⟩ (.slice A0 n0 c0)).setCell ⟨g,3,none⟩ (.slice A1 n1 c1)):=by
 obtain ⟨h0,h1,B0,m0,d0,B1,d1,⟨g0,g1,g2,g3⟩,h3⟩:=h;refine ⟨by simp [World.setCell],fun v ds hv=>?_,fun b _ hb=>gab _ _ _ _ _ _ _ hb⟩;refine (((hv.box g0 rfl _).box (u:=.bool p.neg) ?_ rfl _).box (u:=.slice B0 m0 d0) ?_ rfl _).box (u:=.slice B1 p.cs.length d1) ?_ rfl _
 · rw [ph _ _ _ _ (by simp)]; exact g1
 · rw [ph _ _ _ _ (by simp),ph _ _ _ _ (by simp)]; exact g2
 · rw [ph _ _ _ _ (by simp),ph _ _ _ _ (by simp),ph _ _ _ _ (by simp)]; exact g3
theorem Frr.Kb {V V7:World} {o g:Nat} {Q:Nat->Prop} {p:Pl} (hf:Frr V o V7) (h:PBx V Q g p) (hg:g ≠ o) (hq:∀ b,Q b->b ≠ o):PBx V7 Q g p:=by
 obtain ⟨h0,h1,B0,m0,d0,B1,d1,⟨g0,g1,g2,g3⟩,h3⟩:=h;exact ⟨pw h0 hf.size,fun i=>(sL (a:=⟨g,i,none⟩) (hf.block g h0 hg)).trans (h1 i),B0,m0,d0,B1,d1,⟨(hf.cell h0 hg).trans g0,(hf.cell h0 hg).trans g1,(hf.cell h0 hg).trans g2,(hf.cell h0 hg).trans g3⟩,hf.pl h3 fun b hb=>hq b hb.1⟩
theorem xu {α:Type} {K:α->World->Prop} {a:α} {V:World} {P:World->Prop} (hp:P V) (h:∀ V7,P V7->K a V7):K a V:=h V hp
theorem PlV.xo {W:World} {q:Nat->Prop} {p:Pl} {v:Value} (h:PlV W q p v):PlV W (fun b=>q b/\b < W.heap.size) p v:=PlV.zd (pj _) (fun _ _ h=>h) (fun b hb hq=>⟨⟨hq,hb⟩,rfl⟩) h
theorem check_any {w:World} {q0 q1:Nat->Prop} {f g:Pl} {l:Int} (v0 v1:Value) (hl:1<=l) (ag:l<=4) (h0:PlV w q0 f v0) (h1:PlV w q1 g v1) (hf:f.Can) (hg:g.Can) (rE:f ≠ Pl.zero) (bI:g ≠ Pl.zero) :
 Calls Tryz.prog 157 #[v0,v1,.int .i64 l] w (kc3 0 w):=by
 have H0:=hid h0;have H1:=hid h1;obtain ⟨A0,m0,e0,B0,f0,rfl,-⟩:=h0.open_;obtain ⟨A1,m1,e1,B1,f1,rfl,-⟩:=h1.open_;obtain ⟨Ej,W,fV,jK,iT,aC,bW,hx1,aX,bF⟩:=b_2 w f g (.slice A0 m0 e0) (.slice B0 f.cs.length f0) (.slice A1 m1 e1) (.slice B1 g.cs.length f1);have HX:=hid (aC.trans hx1);have dJ:=hid aX;have dH:=hid bF;have fO:W.heap.size=w.heap.size+1+1:=bW;clear h0 h1 aC hx1 aX bF;have qA:f.zp=false:=by
  cases e:f.zp
  · rfl
  · exact absurd ((Pl.xj hf).1 e) rE
 have Oz:g.zp=false:=by
  cases e:g.zp
  · rfl
  · exact absurd ((Pl.xj hg).1 e) bI
 have kK:=hid (fun (W':World) (hx:Ext w W')=>kab _ (H0.out.ext hx) hf);have Jm:=hid (fun (W':World) (hx:Ext w W')=>kab _ (H1.out.ext hx) hg);rw [qA] at kK;rw [Oz] at Jm;have D8:¬ l < 1:=by omega
 have Fg:¬ 4 < l:=by omega
 unfold plV at kK Jm ⊢;obtain ⟨b0,b1,b2,b3⟩:=dJ.out;go_enter Tryz.func157,Tryz.ntmps157;go_wp2_with fail;clear fV jK;clear b0 b1 b2 b3;refine (kK.out _ HX.out).mono ?_;rintro e w1 ⟨rfl,x1⟩;have X1:=hid (HX.out.trans x1);obtain ⟨b0,b1,b2,b3⟩:=dH.out.ext x1 (by omega);clear x1;go_wp2_with fail;clear b0 b1 b2 b3;refine (Jm.out _ X1.out).mono ?_;rintro e w2 ⟨rfl,x2⟩;have X2:=hid (X1.out.trans x2);clear x2;go_wp2_with fail;go_ret;exact ⟨rfl,X2.out⟩
theorem zbd {w:World} {q0 q1:Nat->Prop} {f g:Pl} {l:Int} {E D Eg Dg:Nat} (v0 v1:Value) (hl:1<=l) (ag:l<=4) (h0:PlV w q0 f v0) (h1:PlV w q1 g v1) (hf:Fit f E D) (hg:Fit g Eg Dg) (bI:g ≠ Pl.zero) (hE:E+(E+1) * Eg+Eg<=62) (hD:D+(E+1) * (Dg+3)+1<=1099511627776) :
 Calls Tryz.prog 160 #[v0,v1,.int .i64 l] w (uf (fun b=>w.heap.size<=b) (qi l f g) w):=by
 have H0:=hid h0;have H1:=hid h1;obtain ⟨A0,m0,e0,B0,f0,rfl,-⟩:=h0.open_;obtain ⟨A1,m1,e1,B1,f1,rfl,-⟩:=h1.open_;obtain ⟨Ej,Wx1,W,fV,jK,rF,iT,aC,bW,hx1,jG,aN,aX,bF,hz⟩:=b_x w f g (.slice A0 m0 e0) (.slice B0 f.cs.length f0) (.slice A1 m1 e1) (.slice B1 g.cs.length f1);have HZ:=hid hz;have HX:=hid ((aC.trans hx1).trans aN);have dJ:=hid aX;have dH:=hid bF;have fO:W.heap.size=w.heap.size+1+1+1:=jG;clear h0 h1 aC hx1 aN aX bF hz;have OZ:Dg<=1099511627776:=by
  have:=pE (Dg+3) (show 1<=E+1 by omega);omega
 have HN:=hid (fun (W':World) (hx:Ext w W')=>xcv _ (H1.out.ext hx) hg (by omega) (by omega));have CE:Fit g.z8 Eg (Dg+1):=hg.z8;have Tm:g.z8 ≠ Pl.zero:=fun e=>bI (by rw [<- Pl.vp hg.can,e]; exact Pl.km)
 have HR:=hid (fun (W1 W':World) (q:Nat->Prop) (u:Value) (hx:Ext w W') (hu:PlV W' q g.z8 u)=>gcl _ u hl ag (H0.out.ext hx) hu hf CE Tm hE (by omega));unfold plV at HN HR ⊢;obtain ⟨b0,b1,b2,b3⟩:=dJ.out;obtain ⟨d0,d1,d2,d3⟩:=dH.out;clear OZ CE Tm hf hg bI hE hD;go_enter Tryz.func160,Tryz.ntmps160;go_upto_region 1 with fail;clear fV jK rF;clear b0 b1 b2 b3 d0 d1 d2 d3;have aH:Hid (∀ W',Ext W W'->(Ext W W'/\(jb W' (w.heap.size) f (.slice A0 m0 e0) (.slice B0 f.cs.length f0))/\(jb W' (w.heap.size+1) g (.slice A1 m1 e1) (.slice B1 g.cs.length f1)))):=hid (fun W' hx=>⟨hx,dJ.out.ext hx (by omega),dH.out.ext hx (by omega)⟩);have y0:Ext W W.drew:=(Ext.refl W).drew;have Dp:=hid fO;clear fO iT bW jG;refine wp_region_held_drew (S:=fun W'=>Ext W W'/\(jb W' (w.heap.size) f (.slice A0 m0 e0) (.slice B0 f.cs.length f0))/\(jb W' (w.heap.size+1) g (.slice A1 m1 e1) (.slice B1 g.cs.length f1))) (by kernel_rfl) (aH.out _ y0) (fun hHeld=>?_);refine tk 0 ?_ (hy:=Or.inl ⟨by rfl,by intro w' aP; obtain ⟨-,⟨k0,k1,k2,k3⟩,k4,k5,k6,k7⟩:=aP; go_simp; (try (with_reducible rfl))⟩);refine tk 1 ?_ (hy:=Or.inl ⟨by rfl,by intro w' aP; obtain ⟨-,⟨k0,k1,k2,k3⟩,k4,k5,k6,k7⟩:=aP; go_simp; (try (with_reducible rfl))⟩);refine tk 3 ?_;refine r_2 2 8 (fun K hK=>?brP) fun K hK=>?brQ
 case' brP =>
  go_simp
  go_at_call 159
  refine (HN.out _ (HX.out.trans y0)).mono ?_;rintro e w1 ⟨v1,rfl,p1,x1⟩;have y1:=y0.trans x1;obtain ⟨C0,j0,k0,C1,k1,rfl,-⟩:=id p1.open_;unfold plV;refine k_t hK (aH.out _ y1) fun hHeld=>?_
  clear hK K;refine r_2 4 8 (fun K hK=>?brA) fun K hK=>?brB
  case' brA =>
   go_simp
   go_at_call 162
   refine (HR.out w _ _ _ (HX.out.trans y1) p1).mono ?_;rintro e w2 ⟨v2,rfl,p2,x2⟩;have y2:=y1.trans x2;obtain ⟨D0,j2,k2,D1,k3,rfl,-⟩:=id p2.open_;unfold plV;refine k_t hK (aH.out _ y2) fun hHeld=>?_
   clear hK K;refine tk 5 ?_;refine tk 6 ?_;refine tk 7 ?_;refine r_1 8 fun K hK=>?_
   go_simp;obtain ⟨V,hV⟩:=n_m ((w2.alloc (.cells #[.int .i64 0,.bool false,.slice none 0 0,.slice none 0 0] 33)));obtain ⟨o,ho⟩:=n_m (w2.heap.size);have kM:PBx V (fun _=>True) o Pl.zero:=by rw [<- hV,<- ho]; exact PBx.new (Pl.xt _ _ none 0 (by omega)) _
   have yE:Ext W V:=by rw [<- hV]; exact y2.alloc _
   have kT:W.heap.size<=o:=by rw [<- ho]; exact y2.size
   have pz:o < V.heap.size:=kM.1;have jY:=hid ho.symm;have mJ:Ext w2 V:=by rw [<- hV]; exact (Ext.refl _).alloc _
   try rw [hV]
   try rw [ho]
   refine k_t hK (aH.out _ yE) fun hHeld=>?_
   clear hK K hV ho;have nR:PlV V (fun b=>W.heap.size<=b/\b ≠ o) (qag l f g.z8) _:=(p2.xo.ext mJ).mono fun b hb=>by have:=hb.2; have:=jY.out; have:=y1.size; constructor <;> omega
  case' brB =>
   go_simp;obtain ⟨V,hV⟩:=n_m ((w1.alloc (.cells #[.int .i64 0,.bool false,.slice none 0 0,.slice none 0 0] 33)));obtain ⟨o,ho⟩:=n_m (w1.heap.size);have hz:PBx V (fun _=>True) o Pl.zero:=by rw [<- hV,<- ho]; exact PBx.new (Pl.xt _ _ none 0 (by omega)) _
   have yV:Ext W V:=by rw [<- hV]; exact y1.alloc _
   have kT:W.heap.size<=o:=by rw [<- ho]; exact y1.size
   have pz:o < V.heap.size:=hz.1;have jY:=hid ho.symm;have mJ:Ext w1 V:=by rw [<- hV]; exact (Ext.refl _).alloc _
   try rw [hV]
   try rw [ho]
   refine k_t hK (aH.out _ yV) fun hHeld=>?_
   clear hK K hV ho;refine r_1 4 fun K hK=>?_
   go_simp
   go_at_call 162
   refine (HR.out w _ _ _ (HX.out.trans yV) (p1.ext mJ)).mono ?_;rintro e w2 ⟨v2,rfl,p2,x2⟩;have y2:=yV.trans x2;obtain ⟨D0,j2,k2,D1,k3,rfl,-⟩:=id p2.open_;unfold plV;refine k_t hK (aH.out _ y2) fun hHeld=>?_
   clear hK K;refine tk 5 ?_;refine tk 6 ?_;refine tk 7 ?_;have yE:=y2;have kM:=hz.ext x2;have nR:PlV w2 (fun b=>W.heap.size<=b/\b ≠ o) (qag l f g.z8) _:=p2.mono fun b hb=>by have:=jY.out; have:=y1.size; have:=yV.size; have:=mJ.size; constructor <;> omega
 case' brQ =>
  go_simp;obtain ⟨V,hV⟩:=n_m ((W.alloc (.cells #[.int .i64 0,.bool false,.slice none 0 0,.slice none 0 0] 33)).drew);obtain ⟨o,ho⟩:=n_m (W.heap.size);have hz:PBx V (fun _=>True) o Pl.zero:=by rw [<- hV,<- ho]; exact (PBx.new (Pl.xt _ _ none 0 (by omega)) _).ext (Ext.refl _).drew
  have yV:Ext W V:=by rw [<- hV]; exact ((Ext.refl W).alloc _).drew
  have kT:W.heap.size<=o:=by rw [<- ho]; exact (Ext.refl W).size
  have pz:o < V.heap.size:=hz.1;have jY:=hid ho.symm;have mJ:Ext W V:=by rw [<- hV]; exact ((Ext.refl _).alloc _).drew
  try rw [hV]
  try rw [ho]
  refine k_t hK (aH.out _ yV) fun hHeld=>?_
  clear hK K hV ho;refine r_1 2 fun K hK=>?_
  go_simp
  go_at_call 159
  refine (HN.out _ (HX.out.trans yV)).mono ?_;rintro e w1 ⟨v1,rfl,p1,x1⟩;have y1:=yV.trans x1;obtain ⟨C0,j0,k0,C1,k1,rfl,-⟩:=id p1.open_;unfold plV;refine k_t hK (aH.out _ y1) fun hHeld=>?_
  clear hK K;refine r_1 4 fun K hK=>?_
  go_simp
  go_at_call 162
  refine (HR.out w _ _ _ (HX.out.trans y1) p1).mono ?_;rintro e w2 ⟨v2,rfl,p2,x2⟩;have y2:=y1.trans x2;obtain ⟨D0,j2,k2,D1,k3,rfl,-⟩:=id p2.open_;unfold plV;refine k_t hK (aH.out _ y2) fun hHeld=>?_
  clear hK K;refine tk 5 ?_;refine tk 6 ?_;refine tk 7 ?_;have yE:=y2;have kM:=(hz.ext x1).ext x2;have nR:PlV w2 (fun b=>W.heap.size<=b/\b ≠ o) (qag l f g.z8) _:=p2.mono fun b hb=>by have:=x1.size; have:=jY.out; have:=y1.size; constructor <;> omega
 all_goals
  obtain ⟨P,hP⟩:=n_m (qag l f g.z8);rw [hP] at nR ⊢;have Dx:=hid hP;clear hP;have jJ:=kM.2.1;obtain ⟨Z0,zn,zc,Z1,wH,⟨g0,g1,g2,g3⟩,-⟩:=kM.2.2;refine r_1 9 fun K hK=>?_
  go_simp;clear g0 g1 g2 g3 jJ;refine xu (P:=fun V7=>Ext W V7/\PBx V7 (fun b=>W.heap.size<=b) o P) ⟨(((yE.setCell kT _).setCell kT _).setCell kT _).setCell kT _,kM.store nR⟩ (fun V7 mf=>?_);obtain ⟨y9,b9⟩:=mf;refine k_t hK (aH.out _ y9) fun hHeld=>?_
  clear hK K;refine tk 10 ?_;refine w_d ?_;obtain ⟨-,-,C9,n9,k9,D9,k8,⟨g0,g1,g2,g3⟩,p9⟩:=b9;have fO:=Dp.out;have aQ:=HZ.out.ext y9 (by omega);have iM:=hid (qf (q':=fun b=>w.heap.size<=b) (HX.out.trans y9) (by omega) aQ p9 (fun b _ hb=>by
   have:=hb.1
   exact ⟨by omega,by omega⟩))
  obtain ⟨⟨z0,z1,z2,z3⟩,zf⟩:=aQ;clear y9 p9 fO kM nR;go_wp2_with fail;obtain ⟨v9,e9,q3,q4⟩:=iM.out;injection e9 with e9
  subst e9;exact bodyPost_ret (v:=plV P (.slice C9 n9 k9) (.slice D9 P.cs.length k8)) (by simp [results,Tryz.results160,go_sem,z0,z1,z2,z3,plV]) rfl (by unfold qi; rw [Dx.out]; exact ⟨_,rfl,q3,q4⟩)
def gdd (z:Int) (b:Bool) (w:World) (e:Ending) (w':World):Prop:=∃ x,e=.returned (.tuple #[x,.bool b])/\ul w' x z/\Ext w w'
theorem ua7 {w:World} {q:Nat->Prop} {E D:Nat} (p:Pl) (v:Value) (h:PlV w q p v) (hsz:p.sz<=1073741824) (gY:p.dm<=1099511627776) (hp:Fit p.nf E D) (hD:D<=35184372088832) :
 Calls Tryz.prog 59 #[v] w (gdd (if p.nf.lv=0 then p.nf.z else 0) (decide (p.nf.lv=0)) w):=by
 have HH:=hid h;obtain ⟨A0,n0,c0,A,c,rfl,-,-,-,-⟩:=h.open_;clear h;obtain ⟨W,hW⟩:=n_m ((w.alloc (.cells #[.int .i64 p.lv,.bool p.neg,.slice A0 n0 c0,.slice A p.cs.length c] 33)).alloc (.cells #[.bool false,.slice none 0 0] 30));have ai:Ext w W:=by rw [<- hW]; exact ((Ext.refl w).alloc _).alloc _
 have dG:W.heap.size=w.heap.size+1+1:=by rw [<- hW]; simp
 have bV:jb W w.heap.size p (.slice A0 n0 c0) (.slice A p.cs.length c):=by rw [<- hW]; exact (jb.new w p _ _ _).ext ((Ext.refl _).alloc _) (by simp)
 have bG:∀ i,W.frozen? ⟨w.heap.size,i,none⟩=false:=fun i=>by rw [<- hW]; simp [go_sem]
 have hz:(W.cell? ⟨w.heap.size+1,0,none⟩=some (.bool false)/\W.cell? ⟨w.heap.size+1,1,none⟩=some (.slice none 0 0))/\∀ i,W.frozen? ⟨w.heap.size+1,i,none⟩=false:=by
  rw [<- hW]; refine ⟨⟨?_,?_⟩,fun i=>?_⟩ <;> simp [go_sem]
 have HZ:=hid hz;have kL:=hid bV;have rq:=hid bG;have aG:=hid ai;have uM:=hid (uak p _ (HH.out.ext ai) hsz gY);have HNC:=hid p.xT;have HFD:=hid (py p.nf.vd hp.dm);obtain ⟨b0,b1,b2,b3⟩:=bV;clear hz bG ai hp hsz gY;generalize p.nf=P at *;unfold plV at uM;unfold plV;obtain ⟨zz,AL⟩:=n_m ((if P.lv=0 then P.z else 0));obtain ⟨bb,CV⟩:=n_m (decide (P.lv=0));rw [AL,CV];have Yl:=hid AL;have YT:=hid CV;clear AL CV;go_enter Tryz.func59,Tryz.ntmps59;go_wp2_with fail;clear hW b0 b1 b2 b3;refine uM.out.mono ?_;rintro e w1 ⟨v1,rfl,m1,x1⟩;obtain ⟨C0,j0,f0,C1,f1,rfl,-⟩:=id m1.open_;have bW:=x1.size;obtain ⟨b0,b1,b2,b3⟩:=kL.out.ext x1 (by omega);have fr:∀ i,w1.frozen? ⟨w.heap.size,i,none⟩=false:=fun i=>(x1.frozen (p:=⟨w.heap.size,i,none⟩) (by show w.heap.size < _; omega)).trans (rq.out i)
 obtain ⟨W1,aV⟩:=n_m (((((w1.setCell ⟨w.heap.size,0,none⟩ (.int .i64 P.lv)).setCell ⟨w.heap.size,1,none⟩ (.bool P.neg)).setCell ⟨w.heap.size,2,none⟩ (.slice C0 j0 f0)).setCell ⟨w.heap.size,3,none⟩ (.slice C1 P.cs.length f1)));have X1:Hid (Ext w W1):=hid (by rw [<- aV]; exact ((((aG.out.trans x1).setCell (pj _) _).setCell (pj _) _).setCell (pj _) _).setCell (pj _) _);have CV:jb W1 w.heap.size P (.slice C0 j0 f0) (.slice C1 P.cs.length f1):=by rw [<- aV]; exact jb.set (kL.out.ext x1 (by omega))
 have bF:W1.heap[w.heap.size+1]?=W.heap[w.heap.size+1]?:=by
  rw [<- aV,gab _ _ _ _ _ _ _ (by omega)];exact x1.below.block _ (by omega)
 have jG:W1.heap.size=w1.heap.size:=by rw [<- aV]; simp [World.setCell]
 have Jl:Hid (jm W1 (.agg #[.bool P.neg,.slice C0 j0 f0]) P.z P.ds.length):=by
  have:jm W1 (.agg #[.bool P.neg,.slice C0 j0 f0]) P.z P.ds.length:=by
   obtain ⟨A1,n1,c1,A2,c2,e,hn,-⟩:=m1.open_;unfold plV at e;simp only [tm,tD,so,and_true,true_and] at e;rw [e.1];refine ⟨_,_,_,rfl,?_,rfl,pj _⟩;rw [<- aV];have e1:=fun (i j:Nat) (oI:i ≠ j) (X:World) (u:Value)=>ph X ⟨w.heap.size,i,none⟩ ⟨w.heap.size,j,none⟩ u (by intro e; injection e; omega)
   refine (((hn.box b0 rfl _).box (u:=.bool p.neg) ?_ rfl _).box (u:=.slice A0 n0 c0) ?_ rfl _).box (u:=.slice A p.cs.length c) ?_ rfl _
   · rw [ph _ _ _ _ (by simp)]; exact b1
   · rw [ph _ _ _ _ (by simp),ph _ _ _ _ (by simp)]; exact b2
   · rw [ph _ _ _ _ (by simp),ph _ _ _ _ (by simp),ph _ _ _ _ (by simp)]; exact b3
  exact this
 have eX:Hid (∀ W',Ext W1 W'->(W'.cell? ⟨w.heap.size+1,0,none⟩=some (.bool false)/\W'.cell? ⟨w.heap.size+1,1,none⟩=some (.slice none 0 0))/\∀ i,W'.frozen? ⟨w.heap.size+1,i,none⟩=false):=by
  have:∀ W',Ext W1 W'->(W'.cell? ⟨w.heap.size+1,0,none⟩=some (.bool false)/\W'.cell? ⟨w.heap.size+1,1,none⟩=some (.slice none 0 0))/\∀ i,W'.frozen? ⟨w.heap.size+1,i,none⟩=false:=fun W' hx=>by
   have hh:=(hx.below.block (w.heap.size+1) (by omega)).trans bF;have k1:∀ i,W'.cell? ⟨w.heap.size+1,i,none⟩=W.cell? ⟨w.heap.size+1,i,none⟩:=fun i=>pB (a:=⟨w.heap.size+1,i,none⟩) hh
   have k2:∀ i,W'.frozen? ⟨w.heap.size+1,i,none⟩=W.frozen? ⟨w.heap.size+1,i,none⟩:=fun i=>by
    rw [hx.frozen (p:=⟨w.heap.size+1,i,none⟩) (by show w.heap.size+1 < _; omega),<- aV];simp only [rm];exact x1.frozen (p:=⟨w.heap.size+1,i,none⟩) (by show w.heap.size+1 < _; omega)
   exact ⟨⟨(k1 0).trans HZ.out.1.1,(k1 1).trans HZ.out.1.2⟩,fun i=>(k2 i).trans (HZ.out.2 i)⟩
  exact this
 have DY:=X1.out.size;unfold plV
 by_cases hl:P.lv=0
 · have dC:(P.lv != 0)=false:=by simpa using hl
   have HB:Hid (bb=true):=hid (YT.out.symm.trans (by simpa using hl));have HV:Hid (zz=P.z):=hid (Yl.out.symm.trans (if_pos hl));have Nk:=hid hl;clear hl;have Es:=hid (gan _ P.z _ W1 Jl.out (py HFD.out hD));go_upto_region 2 with fail;obtain ⟨d0,d1,d2,d3⟩:=CV;have hl:=Nk.out;clear aV b0 b1 b2 b3 fr;go_wp2_with fail;clear d0 d1 d2 d3;refine Es.out.mono ?_;rintro e w2 ⟨z2,rfl,⟨y2,rfl,m2⟩,x2⟩;obtain ⟨C2,k2,rfl,-⟩:=id m2;obtain ⟨⟨z0,z1⟩,zf⟩:=eX.out _ x2;have nV:=kw (g:=w.heap.size+1) (z:=P.z) (u0:=.bool false) (u1:=.slice none 0 0) (X1.out.trans x2) (r6 _) z0 z1 rfl rfl ⟨_,rfl,m2⟩;have HF:=hid nV;have rJ:=hid m2;clear m2 x2 Es eX Jl nV;go_wp2_with fail;obtain ⟨x,ex,hx1,aN⟩:=HF.out;injection ex with ex
   subst ex;exact bodyPost_ret (v:=.tuple #[.agg #[.bool (decide (P.z < 0)),.slice C2 (dg P.z.natAbs).length k2],.bool true]) (by simp [results,Tryz.results59,go_sem,z0,z1]) rfl ⟨_,by rw [HB.out],by rw [HV.out]; exact hx1,aN⟩
 · have dC:(P.lv != 0)=true:=by simpa using hl
   have HB:Hid (bb=false):=hid (YT.out.symm.trans (by simpa using hl));have HV:Hid (zz=0):=hid (Yl.out.symm.trans (if_neg hl));have Nk:=hid hl;clear hl;go_upto_region 2 with fail;obtain ⟨d0,d1,d2,d3⟩:=CV;obtain ⟨⟨z0,z1⟩,zf⟩:=eX.out _ (Ext.refl _);clear aV b0 b1 b2 b3 fr;have hl:=Nk.out;have nV:=kw (g:=w.heap.size+1) (z:=0) (u0:=.bool false) (u1:=.slice none 0 0) (b:=.bool false) (s:=.slice none 0 0) X1.out (r6 _) z0 z1 rfl rfl ⟨_,rfl,by rw [Ta,qm]; exact jc.nil _⟩;have HF:=hid nV;clear nV;go_wp2_with fail;obtain ⟨x,ex,hx1,aN⟩:=HF.out;injection ex with ex
   subst ex;exact bodyPost_ret (v:=.tuple #[.agg #[.bool false,.slice none 0 0],.bool false]) (by simp [results,Tryz.results59,go_sem,z0,z1]) rfl ⟨_,by rw [HB.out],by rw [HV.out]; exact hx1,aN⟩
end Go.Proofs.YtcepajijiabkmaaGreat
