/- Layer 25: subresultant.check, remainder; descend, Chain and Psc where the smaller degree is 1. -/
import Derived.Test.YtklnlgnnlmdibaaGreatMq34
set_option linter.unusedSimpArgs false
set_option linter.unusedVariables false
set_option maxRecDepth 100000
set_option maxHeartbeats 8000000
namespace Go.Proofs.YtklnlgnnlmdibaaGreat
open Lib (hid)
open Go.RowKit
theorem PBx.frr {V:World} {Q:Nat->Prop} {g:Nat} {p:Pl} (h:PBx V Q g p) (x0:Int) (x1:Bool) (A0 A1:Option Addr) (n0 c0 n1 c1:Nat) :
 Frr V g ((((V.setCell ⟨g,0,none⟩ (.int .i64 x0)).setCell ⟨g,1,none⟩ (.bool x1)).setCell ⟨g,2,none⟩ (.slice A0 n0 c0)).setCell ⟨g,3,none⟩ (.slice A1 n1 c1)):=by
 obtain ⟨h0,h1,B0,m0,d0,B1,d1,⟨g0,g1,g2,g3⟩,h3⟩:=h;refine ⟨by simp [World.setCell],fun v ds hv=>?_,fun b _ hb=>zac _ _ _ _ _ _ _ hb⟩;refine (((hv.box g0 rfl _).box (u:=.bool p.neg) ?_ rfl _).box (u:=.slice B0 m0 d0) ?_ rfl _).box (u:=.slice B1 p.cs.length d1) ?_ rfl _
 · rw [World.cell?_setCell_other _ _ _ _ (by simp)]; exact g1
 · rw [World.cell?_setCell_other _ _ _ _ (by simp),World.cell?_setCell_other _ _ _ _ (by simp)]; exact g2
 · rw [World.cell?_setCell_other _ _ _ _ (by simp),World.cell?_setCell_other _ _ _ _ (by simp),World.cell?_setCell_other _ _ _ _ (by simp)]; exact g3
theorem Frr.pbx {V V7:World} {o g:Nat} {Q:Nat->Prop} {p:Pl} (hf:Frr V o V7) (h:PBx V Q g p) (hg:g ≠ o) (hq:∀ b,Q b->b ≠ o):PBx V7 Q g p:=by
 obtain ⟨h0,h1,B0,m0,d0,B1,d1,⟨g0,g1,g2,g3⟩,h3⟩:=h;exact ⟨Nat.lt_of_lt_of_le h0 hf.size,fun i=>(World.frozen?_of_block (a:=⟨g,i,none⟩) (hf.block g h0 hg)).trans (h1 i),B0,m0,d0,B1,d1,⟨(hf.cell h0 hg).trans g0,(hf.cell h0 hg).trans g1,(hf.cell h0 hg).trans g2,(hf.cell h0 hg).trans g3⟩,hf.pl h3 fun b hb=>hq b hb.1⟩
theorem xu {α:Type} {K:α->World->Prop} {a:α} {V:World} {P:World->Prop} (hp:P V) (h:∀ V7,P V7->K a V7):K a V:=h V hp
theorem PlV.below_ {W:World} {q:Nat->Prop} {p:Pl} {v:Value} (h:PlV W q p v):PlV W (fun b=>q b/\b < W.heap.size) p v:=PlV.turn_ (Nat.le_refl _) (fun _ _ h=>h) (fun b hb hq=>⟨⟨hq,hb⟩,rfl⟩) h
theorem check_any {w:World} {q0 q1:Nat->Prop} {f g:Pl} {l:Int} (v0 v1:Value) (hl:1<=l) (ag:l<=4) (h0:PlV w q0 f v0) (h1:PlV w q1 g v1) (hf:f.Can) (hg:g.Can) (rH:f ≠ Pl.zero) (bI:g ≠ Pl.zero) :
 Calls Tryz.prog 124 #[v0,v1,.int .i64 l] w (kcq 0 w):=by
 have H0:=hid h0;have H1:=hid h1;obtain ⟨A0,m0,e0,B0,f0,rfl,-⟩:=h0.open_;obtain ⟨A1,m1,e1,B1,f1,rfl,-⟩:=h1.open_;obtain ⟨DJ,W,fU,jY,fD,aC,bU,hx1,aV,aX⟩:=b_2 w f g (.slice A0 m0 e0) (.slice B0 f.cs.length f0) (.slice A1 m1 e1) (.slice B1 g.cs.length f1);have HX:=hid (aC.trans hx1);have dC:=hid aV;have dG:=hid aX;have eQ:W.heap.size=w.heap.size+1+1:=bU;clear h0 h1 aC hx1 aV aX;have qC:f.isZ=false:=by
  cases e:f.isZ
  · rfl
  · exact absurd ((Pl.zero_isZ hf).1 e) rH
 have OV:g.isZ=false:=by
  cases e:g.isZ
  · rfl
  · exact absurd ((Pl.zero_isZ hg).1 e) bI
 have iV:=hid (fun (W':World) (hx:Ext w W')=>uab _ (H0.out.ext hx) hf);have BM:=hid (fun (W':World) (hx:Ext w W')=>uab _ (H1.out.ext hx) hg);rw [qC] at iV;rw [OV] at BM;have Es:¬ l < 1:=by omega
 have FM:¬ 4 < l:=by omega
 unfold plV at iV BM ⊢;obtain ⟨b0,b1,b2,b3⟩:=dC.out;go_enter Tryz.func124,Tryz.ntmps124;go_wp2_with fail;clear fU jY;clear b0 b1 b2 b3;refine (iV.out _ HX.out).mono ?_;rintro e w1 ⟨rfl,x1⟩;have X1:=hid (HX.out.trans x1);obtain ⟨b0,b1,b2,b3⟩:=dG.out.ext x1 (by omega);clear x1;go_wp2_with fail;clear b0 b1 b2 b3;refine (BM.out _ X1.out).mono ?_;rintro e w2 ⟨rfl,x2⟩;have X2:=hid (X1.out.trans x2);clear x2;go_wp2_with fail;go_ret;exact ⟨rfl,X2.out⟩
theorem ka9 {w:World} {q0 q1:Nat->Prop} {f g:Pl} {l:Int} {E D Eg Dg:Nat} (v0 v1:Value) (hl:1<=l) (ag:l<=4) (h0:PlV w q0 f v0) (h1:PlV w q1 g v1) (hf:Fit f E D) (hg:Fit g Eg Dg) (bI:g ≠ Pl.zero) (hE:E+(E+1) * Eg+Eg<=62) (hD:D+(E+1) * (Dg+3)+1<=1099511627776) :
 Calls Tryz.prog 139 #[v0,v1,.int .i64 l] w (uf (fun b=>w.heap.size<=b) (zi l f g) w):=by
 have H0:=hid h0;have H1:=hid h1;obtain ⟨A0,m0,e0,B0,f0,rfl,-⟩:=h0.open_;obtain ⟨A1,m1,e1,B1,f1,rfl,-⟩:=h1.open_;obtain ⟨DJ,Wx1,W,fU,jY,zT,fD,aC,bU,hx1,jF,aN,aV,aX,hz⟩:=b_x w f g (.slice A0 m0 e0) (.slice B0 f.cs.length f0) (.slice A1 m1 e1) (.slice B1 g.cs.length f1);have HZ:=hid hz;have HX:=hid ((aC.trans hx1).trans aN);have dC:=hid aV;have dG:=hid aX;have eQ:W.heap.size=w.heap.size+1+1+1:=jF;clear h0 h1 aC hx1 aN aV aX hz;have Py:Dg<=1099511627776:=by
  have:=Nat.mul_le_mul_right (Dg+3) (show 1<=E+1 by omega);omega
 have HN:=hid (fun (W':World) (hx:Ext w W')=>jck _ (H1.out.ext hx) hg (by omega) (by omega));have Df:Fit g.opp Eg (Dg+1):=hg.opp;have TU:g.opp ≠ Pl.zero:=fun e=>bI (by rw [<- Pl.opp_opp hg.can,e]; exact Pl.opp_zero)
 have HR:=hid (fun (W1 W':World) (q:Nat->Prop) (u:Value) (hx:Ext w W') (hu:PlV W' q g.opp u)=>uca _ u hl ag (H0.out.ext hx) hu hf Df TU hE (by omega));unfold plV at HN HR ⊢;obtain ⟨b0,b1,b2,b3⟩:=dC.out;obtain ⟨d0,d1,d2,d3⟩:=dG.out;clear Py Df TU hf hg bI hE hD;go_enter Tryz.func139,Tryz.ntmps139;go_upto_region 1 with fail;clear fU jY zT;clear b0 b1 b2 b3 d0 d1 d2 d3;have aG:Hid (∀ W',Ext W W'->(Ext W W'/\(jb W' (w.heap.size) f (.slice A0 m0 e0) (.slice B0 f.cs.length f0))/\(jb W' (w.heap.size+1) g (.slice A1 m1 e1) (.slice B1 g.cs.length f1)))):=hid (fun W' hx=>⟨hx,dC.out.ext hx (by omega),dG.out.ext hx (by omega)⟩);have y0:Ext W W.drew:=(Ext.refl W).drew;have DL:=hid eQ;clear eQ fD bU jF;refine wp_region_held_drew (S:=fun W'=>Ext W W'/\(jb W' (w.heap.size) f (.slice A0 m0 e0) (.slice B0 f.cs.length f0))/\(jb W' (w.heap.size+1) g (.slice A1 m1 e1) (.slice B1 g.cs.length f1))) (by kernel_rfl) (aG.out _ y0) (fun hHeld=>?_);refine tk 0 ?_ (hy:=Or.inl ⟨by rfl,by intro w' aK; obtain ⟨-,⟨k0,k1,k2,k3⟩,k4,k5,k6,k7⟩:=aK; go_simp; (try (with_reducible rfl))⟩);refine tk 1 ?_ (hy:=Or.inl ⟨by rfl,by intro w' aK; obtain ⟨-,⟨k0,k1,k2,k3⟩,k4,k5,k6,k7⟩:=aK; go_simp; (try (with_reducible rfl))⟩);refine tk 3 ?_;refine r_2 2 8 (fun K hK=>?brP) fun K hK=>?brQ
 case' brP =>
  go_simp
  go_at_call 126
  refine (HN.out _ (HX.out.trans y0)).mono ?_;rintro e w1 ⟨v1,rfl,p1,x1⟩;have y1:=y0.trans x1;obtain ⟨C0,j0,k0,C1,k1,rfl,-⟩:=id p1.open_;unfold plV;refine k_t hK (aG.out _ y1) fun hHeld=>?_
  clear hK K;refine r_2 4 8 (fun K hK=>?brA) fun K hK=>?brB
  case' brA =>
   go_simp
   go_at_call 163
   refine (HR.out w _ _ _ (HX.out.trans y1) p1).mono ?_;rintro e w2 ⟨v2,rfl,p2,x2⟩;have y2:=y1.trans x2;obtain ⟨D0,j2,k2,D1,k3,rfl,-⟩:=id p2.open_;unfold plV;refine k_t hK (aG.out _ y2) fun hHeld=>?_
   clear hK K;refine tk 5 ?_;refine tk 6 ?_;refine tk 7 ?_;refine r_1 8 fun K hK=>?_
   go_simp;obtain ⟨V,hV⟩:=n_m ((w2.alloc (.cells #[.int .i64 0,.bool false,.slice none 0 0,.slice none 0 0] 35)));obtain ⟨o,ho⟩:=n_m (w2.heap.size);have kF:PBx V (fun _=>True) o Pl.zero:=by rw [<- hV,<- ho]; exact PBx.new (Pl.zero_v _ _ none 0 (by omega)) _
   have yE:Ext W V:=by rw [<- hV]; exact y2.alloc _
   have kM:W.heap.size<=o:=by rw [<- ho]; exact y2.size
   have pG:o < V.heap.size:=kF.1;have jV:=hid ho.symm;have mQ:Ext w2 V:=by rw [<- hV]; exact (Ext.refl _).alloc _
   try rw [hV]
   try rw [ho]
   refine k_t hK (aG.out _ yE) fun hHeld=>?_
   clear hK K hV ho;have nU:PlV V (fun b=>W.heap.size<=b/\b ≠ o) (uaf l f g.opp) _:=(p2.below_.ext mQ).mono fun b hb=>by have:=hb.2; have:=jV.out; have:=y1.size; constructor <;> omega
  case' brB =>
   go_simp;obtain ⟨V,hV⟩:=n_m ((w1.alloc (.cells #[.int .i64 0,.bool false,.slice none 0 0,.slice none 0 0] 35)));obtain ⟨o,ho⟩:=n_m (w1.heap.size);have hz:PBx V (fun _=>True) o Pl.zero:=by rw [<- hV,<- ho]; exact PBx.new (Pl.zero_v _ _ none 0 (by omega)) _
   have yV:Ext W V:=by rw [<- hV]; exact y1.alloc _
   have kM:W.heap.size<=o:=by rw [<- ho]; exact y1.size
   have pG:o < V.heap.size:=hz.1;have jV:=hid ho.symm;have mQ:Ext w1 V:=by rw [<- hV]; exact (Ext.refl _).alloc _
   try rw [hV]
   try rw [ho]
   refine k_t hK (aG.out _ yV) fun hHeld=>?_
   clear hK K hV ho;refine r_1 4 fun K hK=>?_
   go_simp
   go_at_call 163
   refine (HR.out w _ _ _ (HX.out.trans yV) (p1.ext mQ)).mono ?_;rintro e w2 ⟨v2,rfl,p2,x2⟩;have y2:=yV.trans x2;obtain ⟨D0,j2,k2,D1,k3,rfl,-⟩:=id p2.open_;unfold plV;refine k_t hK (aG.out _ y2) fun hHeld=>?_
   clear hK K;refine tk 5 ?_;refine tk 6 ?_;refine tk 7 ?_;have yE:=y2;have kF:=hz.ext x2;have nU:PlV w2 (fun b=>W.heap.size<=b/\b ≠ o) (uaf l f g.opp) _:=p2.mono fun b hb=>by have:=jV.out; have:=y1.size; have:=yV.size; have:=mQ.size; constructor <;> omega
 case' brQ =>
  go_simp;obtain ⟨V,hV⟩:=n_m ((W.alloc (.cells #[.int .i64 0,.bool false,.slice none 0 0,.slice none 0 0] 35)).drew);obtain ⟨o,ho⟩:=n_m (W.heap.size);have hz:PBx V (fun _=>True) o Pl.zero:=by rw [<- hV,<- ho]; exact (PBx.new (Pl.zero_v _ _ none 0 (by omega)) _).ext (Ext.refl _).drew
  have yV:Ext W V:=by rw [<- hV]; exact ((Ext.refl W).alloc _).drew
  have kM:W.heap.size<=o:=by rw [<- ho]; exact (Ext.refl W).size
  have pG:o < V.heap.size:=hz.1;have jV:=hid ho.symm;have mQ:Ext W V:=by rw [<- hV]; exact ((Ext.refl _).alloc _).drew
  try rw [hV]
  try rw [ho]
  refine k_t hK (aG.out _ yV) fun hHeld=>?_
  clear hK K hV ho;refine r_1 2 fun K hK=>?_
  go_simp
  go_at_call 126
  refine (HN.out _ (HX.out.trans yV)).mono ?_;rintro e w1 ⟨v1,rfl,p1,x1⟩;have y1:=yV.trans x1;obtain ⟨C0,j0,k0,C1,k1,rfl,-⟩:=id p1.open_;unfold plV;refine k_t hK (aG.out _ y1) fun hHeld=>?_
  clear hK K;refine r_1 4 fun K hK=>?_
  go_simp
  go_at_call 163
  refine (HR.out w _ _ _ (HX.out.trans y1) p1).mono ?_;rintro e w2 ⟨v2,rfl,p2,x2⟩;have y2:=y1.trans x2;obtain ⟨D0,j2,k2,D1,k3,rfl,-⟩:=id p2.open_;unfold plV;refine k_t hK (aG.out _ y2) fun hHeld=>?_
  clear hK K;refine tk 5 ?_;refine tk 6 ?_;refine tk 7 ?_;have yE:=y2;have kF:=(hz.ext x1).ext x2;have nU:PlV w2 (fun b=>W.heap.size<=b/\b ≠ o) (uaf l f g.opp) _:=p2.mono fun b hb=>by have:=x1.size; have:=jV.out; have:=y1.size; constructor <;> omega
 all_goals
  obtain ⟨P,hP⟩:=n_m (uaf l f g.opp);rw [hP] at nU ⊢;have wL:=hid hP;clear hP;have nP:=kF.2.1;obtain ⟨Z0,zn,zc,Z1,uT,⟨g0,g1,g2,g3⟩,-⟩:=kF.2.2;refine r_1 9 fun K hK=>?_
  go_simp;clear g0 g1 g2 g3 nP;refine xu (P:=fun V7=>Ext W V7/\PBx V7 (fun b=>W.heap.size<=b) o P) ⟨(((yE.setCell kM _).setCell kM _).setCell kM _).setCell kM _,kF.store nU⟩ (fun V7 mf=>?_);obtain ⟨y9,b9⟩:=mf;refine k_t hK (aG.out _ y9) fun hHeld=>?_
  clear hK K;refine tk 10 ?_;refine w_d ?_;obtain ⟨-,-,C9,n9,k9,D9,k8,⟨g0,g1,g2,g3⟩,p9⟩:=b9;have eQ:=DL.out;have aQ:=HZ.out.ext y9 (by omega);have jP:=hid (qf (q':=fun b=>w.heap.size<=b) (HX.out.trans y9) (by omega) aQ p9 (fun b _ hb=>by
   have:=hb.1
   exact ⟨by omega,by omega⟩))
  obtain ⟨⟨z0,z1,z2,z3⟩,zf⟩:=aQ;clear y9 p9 eQ kF nU;go_wp2_with fail;obtain ⟨v9,e9,q3,q4⟩:=jP.out;injection e9 with e9
  subst e9;exact bodyPost_ret (v:=plV P (.slice C9 n9 k9) (.slice D9 P.cs.length k8)) (by simp [results,Tryz.results139,go_sem,z0,z1,z2,z3,plV]) rfl (by unfold zi; rw [wL.out]; exact ⟨_,rfl,q3,q4⟩)
def wc1 (z:Int) (b:Bool) (w:World) (e:Ending) (w':World):Prop:=∃ x,e=.returned (.tuple #[x,.bool b])/\zo w' x z/\Ext w w'
theorem ka4 {w:World} {q:Nat->Prop} {E D:Nat} (p:Pl) (v:Value) (h:PlV w q p v) (hsz:p.sz<=1073741824) (ig:p.dm<=1099511627776) (hp:Fit p.nf E D) (hD:D<=35184372088832) :
 Calls Tryz.prog 68 #[v] w (wc1 (if p.nf.lv=0 then p.nf.z else 0) (decide (p.nf.lv=0)) w):=by
 have HH:=hid h;obtain ⟨A0,n0,c0,A,c,rfl,-,-,-,-⟩:=h.open_;clear h;obtain ⟨W,hW⟩:=n_m ((w.alloc (.cells #[.int .i64 p.lv,.bool p.neg,.slice A0 n0 c0,.slice A p.cs.length c] 35)).alloc (.cells #[.bool false,.slice none 0 0] 33));have ai:Ext w W:=by rw [<- hW]; exact ((Ext.refl w).alloc _).alloc _
 have dE:W.heap.size=w.heap.size+1+1:=by rw [<- hW]; simp
 have bG:jb W w.heap.size p (.slice A0 n0 c0) (.slice A p.cs.length c):=by rw [<- hW]; exact (jb.new w p _ _ _).ext ((Ext.refl _).alloc _) (by simp)
 have bF:∀ i,W.frozen? ⟨w.heap.size,i,none⟩=false:=fun i=>by rw [<- hW]; simp [go_sem]
 have hz:(W.cell? ⟨w.heap.size+1,0,none⟩=some (.bool false)/\W.cell? ⟨w.heap.size+1,1,none⟩=some (.slice none 0 0))/\∀ i,W.frozen? ⟨w.heap.size+1,i,none⟩=false:=by
  rw [<- hW]; refine ⟨⟨?_,?_⟩,fun i=>?_⟩ <;> simp [go_sem]
 have HZ:=hid hz;have iG:=hid bG;have o7:=hid bF;have aF:=hid ai;have uQ:=hid (vaj p _ (HH.out.ext ai) hsz ig);have HNC:=hid p.nf_can;have HFD:=hid (Nat.le_trans p.nf.dm_ds hp.dm);obtain ⟨b0,b1,b2,b3⟩:=bG;clear hz bF ai hp hsz ig;generalize p.nf=P at *;unfold plV at uQ;unfold plV;obtain ⟨zz,AU⟩:=n_m ((if P.lv=0 then P.z else 0));obtain ⟨bb,uI⟩:=n_m (decide (P.lv=0));rw [AU,uI];have YZ:=hid AU;have ZQ:=hid uI;clear AU uI;go_enter Tryz.func68,Tryz.ntmps68;go_wp2_with fail;clear hW b0 b1 b2 b3;refine uQ.out.mono ?_;rintro e w1 ⟨v1,rfl,m1,x1⟩;obtain ⟨C0,j0,f0,C1,f1,rfl,-⟩:=id m1.open_;have bU:=x1.size;obtain ⟨b0,b1,b2,b3⟩:=iG.out.ext x1 (by omega);have fr:∀ i,w1.frozen? ⟨w.heap.size,i,none⟩=false:=fun i=>(x1.frozen (p:=⟨w.heap.size,i,none⟩) (by show w.heap.size < _; omega)).trans (o7.out i)
 obtain ⟨W1,aT⟩:=n_m (((((w1.setCell ⟨w.heap.size,0,none⟩ (.int .i64 P.lv)).setCell ⟨w.heap.size,1,none⟩ (.bool P.neg)).setCell ⟨w.heap.size,2,none⟩ (.slice C0 j0 f0)).setCell ⟨w.heap.size,3,none⟩ (.slice C1 P.cs.length f1)));have X1:Hid (Ext w W1):=hid (by rw [<- aT]; exact ((((aF.out.trans x1).setCell (Nat.le_refl _) _).setCell (Nat.le_refl _) _).setCell (Nat.le_refl _) _).setCell (Nat.le_refl _) _);have uI:jb W1 w.heap.size P (.slice C0 j0 f0) (.slice C1 P.cs.length f1):=by rw [<- aT]; exact jb.set (iG.out.ext x1 (by omega))
 have aX:W1.heap[w.heap.size+1]?=W.heap[w.heap.size+1]?:=by
  rw [<- aT,zac _ _ _ _ _ _ _ (by omega)];exact x1.below.block _ (by omega)
 have jF:W1.heap.size=w1.heap.size:=by rw [<- aT]; simp [World.setCell]
 have JC:Hid (um W1 (.agg #[.bool P.neg,.slice C0 j0 f0]) P.z P.ds.length):=by
  have:um W1 (.agg #[.bool P.neg,.slice C0 j0 f0]) P.z P.ds.length:=by
   obtain ⟨A1,n1,c1,A2,c2,e,hn,-⟩:=m1.open_;unfold plV at e;simp only [Value.agg.injEq,Array.mk.injEq,List.cons.injEq,and_true,true_and] at e;rw [e.1];refine ⟨_,_,_,rfl,?_,rfl,Nat.le_refl _⟩;rw [<- aT];have e1:=fun (i j:Nat) (rG:i ≠ j) (X:World) (u:Value)=>World.cell?_setCell_other X ⟨w.heap.size,i,none⟩ ⟨w.heap.size,j,none⟩ u (by intro e; injection e; omega)
   refine (((hn.box b0 rfl _).box (u:=.bool p.neg) ?_ rfl _).box (u:=.slice A0 n0 c0) ?_ rfl _).box (u:=.slice A p.cs.length c) ?_ rfl _
   · rw [World.cell?_setCell_other _ _ _ _ (by simp)]; exact b1
   · rw [World.cell?_setCell_other _ _ _ _ (by simp),World.cell?_setCell_other _ _ _ _ (by simp)]; exact b2
   · rw [World.cell?_setCell_other _ _ _ _ (by simp),World.cell?_setCell_other _ _ _ _ (by simp),World.cell?_setCell_other _ _ _ _ (by simp)]; exact b3
  exact this
 have eY:Hid (∀ W',Ext W1 W'->(W'.cell? ⟨w.heap.size+1,0,none⟩=some (.bool false)/\W'.cell? ⟨w.heap.size+1,1,none⟩=some (.slice none 0 0))/\∀ i,W'.frozen? ⟨w.heap.size+1,i,none⟩=false):=by
  have:∀ W',Ext W1 W'->(W'.cell? ⟨w.heap.size+1,0,none⟩=some (.bool false)/\W'.cell? ⟨w.heap.size+1,1,none⟩=some (.slice none 0 0))/\∀ i,W'.frozen? ⟨w.heap.size+1,i,none⟩=false:=fun W' hx=>by
   have hh:=(hx.below.block (w.heap.size+1) (by omega)).trans aX;have k1:∀ i,W'.cell? ⟨w.heap.size+1,i,none⟩=W.cell? ⟨w.heap.size+1,i,none⟩:=fun i=>World.cell?_of_block (a:=⟨w.heap.size+1,i,none⟩) hh
   have k2:∀ i,W'.frozen? ⟨w.heap.size+1,i,none⟩=W.frozen? ⟨w.heap.size+1,i,none⟩:=fun i=>by
    rw [hx.frozen (p:=⟨w.heap.size+1,i,none⟩) (by show w.heap.size+1 < _; omega),<- aT];simp only [World.frozen?_setCell];exact x1.frozen (p:=⟨w.heap.size+1,i,none⟩) (by show w.heap.size+1 < _; omega)
   exact ⟨⟨(k1 0).trans HZ.out.1.1,(k1 1).trans HZ.out.1.2⟩,fun i=>(k2 i).trans (HZ.out.2 i)⟩
  exact this
 have En:=X1.out.size;unfold plV
 by_cases hl:P.lv=0
 · have eF:(P.lv != 0)=false:=by simpa using hl
   have HB:Hid (bb=true):=hid (ZQ.out.symm.trans (by simpa using hl));have HV:Hid (zz=P.z):=hid (YZ.out.symm.trans (if_pos hl));have GY:=hid hl;clear hl;have yI:=hid (xam _ P.z _ W1 JC.out (Nat.le_trans HFD.out hD));go_upto_region 2 with fail;obtain ⟨d0,d1,d2,d3⟩:=uI;have hl:=GY.out;clear aT b0 b1 b2 b3 fr;go_wp2_with fail;clear d0 d1 d2 d3;refine yI.out.mono ?_;rintro e w2 ⟨z2,rfl,⟨y2,rfl,m2⟩,x2⟩;obtain ⟨C2,k2,rfl,-⟩:=id m2;obtain ⟨⟨z0,z1⟩,zf⟩:=eY.out _ x2;have oh:=jw (g:=w.heap.size+1) (z:=P.z) (u0:=.bool false) (u1:=.slice none 0 0) (X1.out.trans x2) (Nat.le_succ _) z0 z1 rfl rfl ⟨_,rfl,m2⟩;have HF:=hid oh;have rU:=hid m2;clear m2 x2 yI eY JC oh;go_wp2_with fail;obtain ⟨x,ex,hx1,aN⟩:=HF.out;injection ex with ex
   subst ex;exact bodyPost_ret (v:=.tuple #[.agg #[.bool (decide (P.z < 0)),.slice C2 (dg P.z.natAbs).length k2],.bool true]) (by simp [results,Tryz.results68,go_sem,z0,z1]) rfl ⟨_,by rw [HB.out],by rw [HV.out]; exact hx1,aN⟩
 · have eF:(P.lv != 0)=true:=by simpa using hl
   have HB:Hid (bb=false):=hid (ZQ.out.symm.trans (by simpa using hl));have HV:Hid (zz=0):=hid (YZ.out.symm.trans (if_neg hl));have GY:=hid hl;clear hl;go_upto_region 2 with fail;obtain ⟨d0,d1,d2,d3⟩:=uI;obtain ⟨⟨z0,z1⟩,zf⟩:=eY.out _ (Ext.refl _);clear aT b0 b1 b2 b3 fr;have hl:=GY.out;have oh:=jw (g:=w.heap.size+1) (z:=0) (u0:=.bool false) (u1:=.slice none 0 0) (b:=.bool false) (s:=.slice none 0 0) X1.out (Nat.le_succ _) z0 z1 rfl rfl ⟨_,rfl,by rw [Int.natAbs_zero,jm]; exact jd.nil _⟩;have HF:=hid oh;clear oh;go_wp2_with fail;obtain ⟨x,ex,hx1,aN⟩:=HF.out;injection ex with ex
   subst ex;exact bodyPost_ret (v:=.tuple #[.agg #[.bool false,.slice none 0 0],.bool false]) (by simp [results,Tryz.results68,go_sem,z0,z1]) rfl ⟨_,by rw [HB.out],by rw [HV.out]; exact hx1,aN⟩
end Go.Proofs.YtklnlgnnlmdibaaGreat
