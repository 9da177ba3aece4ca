/- Layer 25: descend, Chain and Psc where the smaller degree is 1. -/
import Derived.Test.YtcepajijiabkmaaGreatMo31
import Derived.Test.YtcepajijiabkmaaGreatMo24
set_option linter.all false
set_option maxRecDepth 100000
set_option maxHeartbeats 8000000
namespace Go.Proofs.YtcepajijiabkmaaGreat
open Lib (hid)
open Go.RowKit
theorem gbs {w:World} {q0 q1:Nat->Prop} {f g:Pl} {l m:Int} {E D Eg Dg:Nat} (v0 v1:Value) (hl:1<=l) (ag:l<=4) (h0:PlV w q0 f v0) (h1:PlV w q1 g v1) (hf:Fit f E D) (hg:Fit g Eg Dg) (hm:1<=m) (uB:m<=E) (jQ:mdg l g=1) (hE:E+(E+1) * Eg+Eg<=62) (hD:D+(E+1) * (Dg+3)+1<=1099511627776) :
 Calls Tryz.prog 158 #[v0,v1,.int .i64 l,.int .i64 m,.int .i64 1] w (uai (fun b=>w.heap.size<=b) [ji l f g] w):=by
 have H0:=hid h0;have H1:=hid h1;obtain ⟨A0,m0,e0,B0,f0,rfl,-⟩:=h0.open_;obtain ⟨A1,m1,e1,B1,f1,rfl,-⟩:=h1.open_;obtain ⟨Eo,W,gI,jH,iT,aC,bW,hx1,aX,bF⟩:=b_2 w f g (.slice A0 m0 e0) (.slice B0 f.cs.length f0) (.slice A1 m1 e1) (.slice B1 g.cs.length f1);have HX:=hid (aC.trans hx1);have dJ:=hid aX;have dH:=hid bF;have fZ:W.heap.size=w.heap.size+1+1:=bW;clear h0 h1 aC hx1 aX bF;have O4:=pE (Dg+3) (show 1<=E+1 by omega);have hEg:=pE Eg (show 1<=E+1 by omega);have bI:g ≠ Pl.zero:=qah (l:=l) (by omega);have hme:((m - 1).toNat+1) * Eg<=900:=by
  have:=pE Eg (show (m - 1).toNat+1<=E by omega);have:=pE Eg (show E<=E+1 by omega);omega
 have RP:((m - 1).toNat+1) * Dg<=4398046511000:=by
  have:=RB (show (m - 1).toNat+1<=E+1 by omega) (show Dg<=Dg+3 by omega);omega
 have HL:=hid (fun (W':World) (hx:Ext w W')=>wam _ hl ag hg (by omega) (by omega) (H1.out.ext hx));have HP:=hid (fun (W':World) (q:Nat->Prop) (u:Value) (hu:PlV W' q (yl l g) u)=>jam (n:=m - 1) u hu (yan (l:=l) hg) hme RP (by omega));obtain ⟨PW,hPW⟩:=n_m ((yl l g).pow (m - 1).toNat);rw [hPW] at HP;clear hPW;have HR:=hid (fun (W':World) (hx:Ext w W')=>xbf _ _ hl ag (H0.out.ext hx) (H1.out.ext hx) hf hg bI hE hD);have o8:=zam hl ag hf hg (by have:B32=4294967296:=rfl; omega);have PR:=hid (fun (W':World) (q:Nat->Prop) (u:Value) (hu:PlV W' q (ji l f g) u)=>xag (l:=l) u (qad l f g) (o8.copy_ (by omega)) (by have:=o8.dm; omega) hu);have HDA:=hid (fun (W':World) (q:Nat->Prop) (u:Value) (hu:PlV W' q g u)=>xag (l:=l) u hg.can (hg.copy_ (by omega)) (by have:=hg.dm; omega) hu);have nN:=hid jQ;have EF:=hid (va3 hl ag hf.can hg.can bI);have ou:=hid (jb1 (l:=l) (ji l f g));have VN:=hid (uaw (l:=l) (qad l f g));have Qu:IntKind.i64.wrap (m - 1)=m - 1:=by rw [rj]; omega
 obtain ⟨Wm,dA,iL,RI,ae⟩:=xy 1 (by omega) (by omega) W;rw [show (1:Int).toNat=1 from rfl] at dA ae;rw [fZ] at dA ae;have zZ:=hid (HX.out.trans iL);have VO:=hid (ae (fun _=>False));obtain ⟨b0,b1,b2,b3⟩:=dH.out.ext iL (by omega);clear O4 hEg bI hme RP o8 jQ hf hg hE hD ae;unfold plV at HL HR ⊢;go_enter Tryz.func158,Tryz.ntmps158;go_wp2_with fail;clear gI jH;clear dA b0 b1 b2 b3;refine (HL.out _ zZ.out).mono ?_;rintro e w3 ⟨v3,rfl,p3,x3⟩;have BP:=HP.out _ _ _ p3;have y3:Ext W w3:=iL.trans x3;have r3:=VO.out.ext x3;clear x3 iL RI zZ VO HL HP p3;go_wp2_with fail;refine BP.mono ?_;rintro e w4 ⟨v4,rfl,p4,x4⟩;obtain ⟨C0,j0,k0,C1,k1,rfl,-⟩:=id p4.open_;have y4:=y3.trans x4;have r4:=r3.ext x4;clear x4 y3 r3 p4 BP;obtain ⟨R,hR⟩:=n_m (w.heap.size+1+1);rw [hR] at r4 ⊢;have XK:R=W.heap.size:=by omega
 have Px:=hid XK;clear hR XK;unfold plV;obtain ⟨Wp,xA⟩:=n_m ((w4.alloc (.cells #[.int .i64 PW.lv,.bool PW.neg,.slice C0 j0 k0,.slice C1 PW.cs.length k1] 33)));have yp:Ext W Wp:=by rw [<- xA]; exact y4.alloc _
 have rp:=r4.ext (by rw [<- xA]; exact (Ext.refl w4).alloc _:Ext w4 Wp);have hRp:R < Wp.heap.size:=rp.1;clear y4 r4;have aH:Hid (∀ W',Ext W W'->(Ext W W'/\(jb W' (w.heap.size) f (.slice A0 m0 e0) (.slice B0 f.cs.length f0))/\(jb W' (w.heap.size+1) g (.slice A1 m1 e1) (.slice B1 g.cs.length f1)))):=hid (fun W' hx=>⟨hx,dJ.out.ext hx (by omega),dH.out.ext hx (by omega)⟩);go_upto_region 3 with fail;clear xA;have Dn:=hid fZ;clear fZ iT bW;have y0:Ext W Wp.drew:=yp.drew;have rp0:=rp.ext (Ext.refl Wp).drew;refine wp_region_held_drew (S:=fun W'=>Ext W W'/\(jb W' (w.heap.size) f (.slice A0 m0 e0) (.slice B0 f.cs.length f0))/\(jb W' (w.heap.size+1) g (.slice A1 m1 e1) (.slice B1 g.cs.length f1))) (by kernel_rfl) (aH.out _ y0) (fun hHeld=>?_);refine tk 0 ?_ (hy:=Or.inl ⟨by rfl,by intro w' aO; obtain ⟨-,⟨k0,k1,k2,k3⟩,k4,k5,k6,k7⟩:=aO; go_simp; (try (with_reducible rfl))⟩);refine tk 1 ?_ (hy:=Or.inl ⟨by rfl,by intro w' aO; obtain ⟨-,⟨k0,k1,k2,k3⟩,k4,k5,k6,k7⟩:=aO; go_simp; (try (with_reducible rfl))⟩);refine tk 2 ?_ (hy:=Or.inl ⟨by rfl,by intro w' aO; obtain ⟨-,⟨k0,k1,k2,k3⟩,k4,k5,k6,k7⟩:=aO; go_simp; (try (with_reducible rfl))⟩);refine tk 3 ?_;refine wpAnyH_ready (rs:=[4,5,6]) (by kernel_rfl) (by simp) ?_;refine sC rfl (fun K hK=>?cx4) (sC rfl (fun K hK=>?cx5) (sC rfl (fun K hK=>?cx6) ue))
 case' cx4 =>
  go_simp
  go_at_call 160
  refine (HR.out _ (HX.out.trans y0)).mono ?_;rintro e w5 ⟨v5,rfl,aU,x5⟩;have yr:=y0.trans x5;obtain ⟨D0,j2,k2,D1,k3,rfl,-⟩:=id aU.open_;unfold plV;refine k_t hK (aH.out _ yr) fun hHeld=>?_
  clear hK K;have aU:PlV w5 (fun b=>R < b) (ji l f g) _:=aU.mono fun b hb=>by have:=rp0.1; omega
  have dB:=rp0.ext x5;refine r_2 5 6 (fun K hK=>?c4x5) fun K hK=>?c4x6
  case' c4x5 =>
   go_simp;obtain ⟨V5,o5,hV,ho,bU,iQ,iD,kQ,aZ,dM⟩:=z_b yr
   try rw [hV]
   try rw [ho]
   refine k_t hK (aH.out _ iQ) fun hHeld=>?_
   clear hK K hV ho;have fM:=bU.1;have Fe:R < o5:=by have:=aZ.out; have:=dB.1; omega
   have aU:PlV V5 (fun b=>R < b/\b ≠ o5) (ji l f g) _:=(aU.xo.ext dM).mono fun b hb=>by have:=hb.1; have:=hb.2; have:=aZ.out; omega
   have dB:=dB.ext dM;refine r_1 6 fun K hK=>?_
   go_simp;obtain ⟨V6,o6,hV,ho,bM,iP,iC,kP,aY,dL⟩:=z_b iQ
   try rw [hV]
   try rw [ho]
   refine k_t hK (aH.out _ iP) fun hHeld=>?_
   clear hK K hV ho;have fK:=bM.1;have Fb:R < o6:=by have:=aY.out; have:=dB.1; omega
   have bg:o5 ≠ o6:=by have:=aY.out; have:=bU.1; omega
   have bU:=bU.ext dL;have fM:=bU.1;have aU:PlV V6 (fun b=>R < b/\b ≠ o5/\b ≠ o6) (ji l f g) _:=(aU.xo.ext dL).mono fun b hb=>by have:=hb.1; have:=hb.2; have:=aY.out; omega
   have dB:=dB.ext dL;have yE:=iP;have fO:=bU;have jT:=bM;have lu:=aU;have J7:=dB;have fU:o5 ≠ o6:=bg
  case' c4x6 =>
   go_simp;obtain ⟨V6,o6,hV,ho,bM,iP,iC,kP,aY,dL⟩:=z_b yr
   try rw [hV]
   try rw [ho]
   refine k_t hK (aH.out _ iP) fun hHeld=>?_
   clear hK K hV ho;have fK:=bM.1;have Fb:R < o6:=by have:=aY.out; have:=dB.1; omega
   have aU:PlV V6 (fun b=>R < b/\b ≠ o6) (ji l f g) _:=(aU.xo.ext dL).mono fun b hb=>by have:=hb.1; have:=hb.2; have:=aY.out; omega
   have dB:=dB.ext dL;refine r_1 5 fun K hK=>?_
   go_simp;obtain ⟨V5,o5,hV,ho,bU,iQ,iD,kQ,aZ,dM⟩:=z_b iP
   try rw [hV]
   try rw [ho]
   refine k_t hK (aH.out _ iQ) fun hHeld=>?_
   clear hK K hV ho;have fM:=bU.1;have Fe:R < o5:=by have:=aZ.out; have:=dB.1; omega
   have bg:o5 ≠ o6:=by have:=aZ.out; have:=bM.1; omega
   have bM:=bM.ext dM;have fK:=bM.1;have aU:PlV V5 (fun b=>R < b/\b ≠ o5/\b ≠ o6) (ji l f g) _:=(aU.xo.ext dM).mono fun b hb=>by have:=hb.1; have:=hb.2; have:=aZ.out; omega
   have dB:=dB.ext dM;have yE:=iQ;have fO:=bU;have jT:=bM;have lu:=aU;have J7:=dB;have fU:o5 ≠ o6:=bg
 case' cx5 =>
  go_simp;obtain ⟨V5,o5,hV,ho,bU,iQ,iD,kQ,aZ,dM⟩:=z_d yp
  try rw [hV]
  try rw [ho]
  refine k_t hK (aH.out _ iQ) fun hHeld=>?_
  clear hK K hV ho;have fM:=bU.1;have Fe:R < o5:=by have:=aZ.out; have:=hRp; omega
  have dB:=rp.ext dM;refine r_2 4 6 (fun K hK=>?c5x4) fun K hK=>?c5x6
  case' c5x4 =>
   go_simp
   go_at_call 160
   refine (HR.out _ (HX.out.trans iQ)).mono ?_;rintro e w5 ⟨v5,rfl,aU,x5⟩;have yr:=iQ.trans x5;obtain ⟨D0,j2,k2,D1,k3,rfl,-⟩:=id aU.open_;unfold plV;refine k_t hK (aH.out _ yr) fun hHeld=>?_
   clear hK K;have bU:=bU.ext x5;have aU:PlV w5 (fun b=>R < b/\b ≠ o5) (ji l f g) _:=aU.mono fun b hb=>by have:=dB.1; have:=fM; omega
   have dB:=dB.ext x5;refine r_1 6 fun K hK=>?_
   go_simp;obtain ⟨V6,o6,hV,ho,bM,iP,iC,kP,aY,dL⟩:=z_b yr
   try rw [hV]
   try rw [ho]
   refine k_t hK (aH.out _ iP) fun hHeld=>?_
   clear hK K hV ho;have fK:=bM.1;have Fb:R < o6:=by have:=aY.out; have:=dB.1; omega
   have bg:o5 ≠ o6:=by have:=aY.out; have:=bU.1; omega
   have bU:=bU.ext dL;have fM:=bU.1;have aU:PlV V6 (fun b=>R < b/\b ≠ o5/\b ≠ o6) (ji l f g) _:=(aU.xo.ext dL).mono fun b hb=>by have:=hb.1; have:=hb.2; have:=aY.out; omega
   have dB:=dB.ext dL;have yE:=iP;have fO:=bU;have jT:=bM;have lu:=aU;have J7:=dB;have fU:o5 ≠ o6:=bg
  case' c5x6 =>
   go_simp;obtain ⟨V6,o6,hV,ho,bM,iP,iC,kP,aY,dL⟩:=z_b iQ
   try rw [hV]
   try rw [ho]
   refine k_t hK (aH.out _ iP) fun hHeld=>?_
   clear hK K hV ho;have fK:=bM.1;have Fb:R < o6:=by have:=aY.out; have:=dB.1; omega
   have bg:o5 ≠ o6:=by have:=aY.out; have:=bU.1; omega
   have bU:=bU.ext dL;have fM:=bU.1;have dB:=dB.ext dL;refine r_1 4 fun K hK=>?_
   go_simp
   go_at_call 160
   refine (HR.out _ (HX.out.trans iP)).mono ?_;rintro e w5 ⟨v5,rfl,aU,x5⟩;have yr:=iP.trans x5;obtain ⟨D0,j2,k2,D1,k3,rfl,-⟩:=id aU.open_;unfold plV;refine k_t hK (aH.out _ yr) fun hHeld=>?_
   clear hK K;have bU:=bU.ext x5;have bM:=bM.ext x5;have aU:PlV w5 (fun b=>R < b/\b ≠ o5/\b ≠ o6) (ji l f g) _:=aU.mono fun b hb=>by have:=dB.1; have:=fM; have:=fK; omega
   have dB:=dB.ext x5;have yE:=yr;have fO:=bU;have jT:=bM;have lu:=aU;have J7:=dB;have fU:o5 ≠ o6:=bg
 case' cx6 =>
  go_simp;obtain ⟨V6,o6,hV,ho,bM,iP,iC,kP,aY,dL⟩:=z_d yp
  try rw [hV]
  try rw [ho]
  refine k_t hK (aH.out _ iP) fun hHeld=>?_
  clear hK K hV ho;have fK:=bM.1;have Fb:R < o6:=by have:=aY.out; have:=hRp; omega
  have dB:=rp.ext dL;refine r_2 4 5 (fun K hK=>?c6x4) fun K hK=>?c6x5
  case' c6x4 =>
   go_simp
   go_at_call 160
   refine (HR.out _ (HX.out.trans iP)).mono ?_;rintro e w5 ⟨v5,rfl,aU,x5⟩;have yr:=iP.trans x5;obtain ⟨D0,j2,k2,D1,k3,rfl,-⟩:=id aU.open_;unfold plV;refine k_t hK (aH.out _ yr) fun hHeld=>?_
   clear hK K;have bM:=bM.ext x5;have aU:PlV w5 (fun b=>R < b/\b ≠ o6) (ji l f g) _:=aU.mono fun b hb=>by have:=dB.1; have:=fK; omega
   have dB:=dB.ext x5;refine r_1 5 fun K hK=>?_
   go_simp;obtain ⟨V5,o5,hV,ho,bU,iQ,iD,kQ,aZ,dM⟩:=z_b yr
   try rw [hV]
   try rw [ho]
   refine k_t hK (aH.out _ iQ) fun hHeld=>?_
   clear hK K hV ho;have fM:=bU.1;have Fe:R < o5:=by have:=aZ.out; have:=dB.1; omega
   have bg:o5 ≠ o6:=by have:=aZ.out; have:=bM.1; omega
   have bM:=bM.ext dM;have fK:=bM.1;have aU:PlV V5 (fun b=>R < b/\b ≠ o5/\b ≠ o6) (ji l f g) _:=(aU.xo.ext dM).mono fun b hb=>by have:=hb.1; have:=hb.2; have:=aZ.out; omega
   have dB:=dB.ext dM;have yE:=iQ;have fO:=bU;have jT:=bM;have lu:=aU;have J7:=dB;have fU:o5 ≠ o6:=bg
  case' c6x5 =>
   go_simp;obtain ⟨V5,o5,hV,ho,bU,iQ,iD,kQ,aZ,dM⟩:=z_b iP
   try rw [hV]
   try rw [ho]
   refine k_t hK (aH.out _ iQ) fun hHeld=>?_
   clear hK K hV ho;have fM:=bU.1;have Fe:R < o5:=by have:=aZ.out; have:=dB.1; omega
   have bg:o5 ≠ o6:=by have:=aZ.out; have:=bM.1; omega
   have bM:=bM.ext dM;have fK:=bM.1;have dB:=dB.ext dM;refine r_1 4 fun K hK=>?_
   go_simp
   go_at_call 160
   refine (HR.out _ (HX.out.trans iQ)).mono ?_;rintro e w5 ⟨v5,rfl,aU,x5⟩;have yr:=iQ.trans x5;obtain ⟨D0,j2,k2,D1,k3,rfl,-⟩:=id aU.open_;unfold plV;refine k_t hK (aH.out _ yr) fun hHeld=>?_
   clear hK K;have bU:=bU.ext x5;have bM:=bM.ext x5;have aU:PlV w5 (fun b=>R < b/\b ≠ o5/\b ≠ o6) (ji l f g) _:=aU.mono fun b hb=>by have:=dB.1; have:=fM; have:=fK; omega
   have dB:=dB.ext x5;have yE:=yr;have fO:=bU;have jT:=bM;have lu:=aU;have J7:=dB;have fU:o5 ≠ o6:=bg
 all_goals
  have WR:=HX.out.size;obtain ⟨P,hP⟩:=n_m (ji l f g);rw [hP] at lu ⊢;have Dy:=hid hP;have NI:=PR.out;have Af:=EF.out;have VZ:=ou.out;have Nr:=VN.out;rw [hP] at NI Af VZ Nr;have adC:=hid NI;have VM:=hid Nr;rw [nN.out] at Af;clear hP PR EF ou VN NI Nr;have Le:=fO.2.1;obtain ⟨Z0,zn,zc,Z1,vZ,⟨g0,g1,g2,g3⟩,-⟩:=fO.2.2;have TC:PlV _ (fun b=>b < w.heap.size) g (plV g (.slice A1 m1 e1) (.slice B1 g.cs.length f1)):=(H1.out.xo.mono fun b hb=>hb.2).ext (HX.out.trans yE);refine r_1 7 fun K hK=>?_
  go_simp;clear g0 g1 g2 g3 Le;have tJ:=fO.Vn g.lv g.neg A1 B1 m1 e1 g.cs.length f1;refine xw (P:=fun V7=>Ext W V7/\PBx V7 (fun b=>b < w.heap.size) o5 g/\PBx V7 (fun _=>False) o6 Pl.zero/\PlV V7 (fun b=>R < b/\b ≠ o6) P _/\jh V7 (fun _=>False) R (List.replicate 1 Pl.zero)) ⟨(((yE.setCell iD _).setCell iD _).setCell iD _).setCell iD _,fO.store (TC.mono fun b hb=>⟨hb,by omega⟩),tJ.Kd jT fU.symm (fun b hb=>hb.elim),(tJ.pl lu (fun b hb=>by (try dsimp only at hb); omega)).mono (fun b hb=>by (try dsimp only at hb); constructor <;> omega),tJ.row J7 (by omega) (fun b hb=>hb.elim)⟩ (fun V7 mg=>?_);obtain ⟨y7,Ut,zD,EZ,hr7⟩:=mg;refine k_t hK (aH.out _ y7) fun hHeld=>?_
  clear hK K;have Ld:=zD.2.1;obtain ⟨Z2,Ze,DY,Z3,Zf,⟨g0,g1,g2,g3⟩,-⟩:=zD.2.2;refine r_1 8 fun K hK=>?_
  go_simp;clear g0 g1 g2 g3 Ld;have zS:=zD.Vn P.lv P.neg D0 D1 j2 k2 P.cs.length k3;refine xw (P:=fun V8=>Ext W V8/\PBx V8 (fun b=>b < w.heap.size) o5 g/\PBx V8 (fun b=>R < b) o6 P/\jh V8 (fun _=>False) R (List.replicate 1 Pl.zero)) ⟨(((y7.setCell iC _).setCell iC _).setCell iC _).setCell iC _,zS.Kd Ut fU (fun b hb=>by omega),zD.store EZ,zS.row hr7 (by omega) (fun b hb=>hb.elim)⟩ (fun V8 qU=>?_);obtain ⟨y8,IB,AV,hr8⟩:=qU;refine hK.out _ _ (aH.out _ y8) (fun hHeld=>?_);clear hK K;refine w_d ?_;have Y6:=hid IB;have PU:=hid AV;have HR8:=hid hr8;have Y8:=hid y8;have Jl:=hid fU;clear IB AV hr8 y8 fU zS tJ Ut zD EZ hr7 y7 fO jT lu J7 yE TC Z0 zn zc Z1 vZ Z2 Ze DY Z3 Zf;go_wp2_with fail
  go_loopw [15] (fun u wr=>u=undef/\wr=V8) (fun _ _=>0)
  case atStart=>exact ⟨rfl,rfl⟩
  case round =>
   obtain ⟨rfl,rfl⟩:=hrel;obtain ⟨BX,Le,E0,en0,zT,E1,rE,ba,pa⟩:=Y6.out;obtain ⟨Ht,Ld,F0,fn0,UZ,F1,UY,bb,pb⟩:=PU.out;have PA:=hid pa;have PB:=hid pb;have zV:Hid (∀ W',Ext wr W'->(Ext wr W'/\(jb W' o5 g (.slice E0 en0 zT) (.slice E1 g.cs.length rE))/\(jb W' o6 P (.slice F0 fn0 UZ) (.slice F1 P.cs.length UY)))):=hid (fun W' hx=>⟨hx,ba.ext hx BX,bb.ext hx Ht⟩);have z0:Ext wr wr.drew:=(Ext.refl wr).drew;have adB:=nN.out;clear ba bb pa pb Le Ld hHeld;go_upto_region 4 with fail;refine wp_region_held_drew (S:=fun W'=>Ext wr W'/\(jb W' o5 g (.slice E0 en0 zT) (.slice E1 g.cs.length rE))/\(jb W' o6 P (.slice F0 fn0 UZ) (.slice F1 P.cs.length UY))) (by kernel_rfl) (zV.out _ z0) (fun hHeld=>?_);refine tk 0 ?_ (hy:=Or.inl ⟨by rfl,by intro w' aO; obtain ⟨-,⟨k0,k1,k2,k3⟩,k4,k5,k6,k7⟩:=aO; go_simp; (try (with_reducible rfl))⟩);refine tk 1 ?_;refine tk 3 ?_ (hy:=Or.inl ⟨by rfl,by intro w' aO; obtain ⟨-,⟨k0,k1,k2,k3⟩,k4,k5,k6,k7⟩:=aO; go_simp; (try (with_reducible rfl))⟩);refine tk 4 ?_;refine r_1 2 fun K hK=>?_
   go_simp
   go_at_call 109
   refine (HDA.out _ _ _ (PA.out.ext z0)).mono ?_;rintro e w8 ⟨rfl,x8⟩;have z1:=z0.trans x8;refine k_t hK (zV.out _ z1) fun hHeld=>?_
   clear hK K;refine r_1 5 fun K hK=>?_
   go_simp
   go_at_call 109
   refine (adC.out _ _ _ (PB.out.ext z1)).mono ?_;rintro e w9 ⟨rfl,x9⟩;have z2:=z1.trans x9;refine k_t hK (zV.out _ z2) fun hHeld=>?_
   clear hK K;refine tk 6 ?_;refine tk 7 ?_;refine w_d ?_;obtain ⟨-,-,k4,k5,k6,k7⟩:=hHeld;have Z2:=hid z2;have jI:=HR8.out.ext z2;obtain ⟨D,hD⟩:=n_m (mdg l P);rw [hD] at VZ Af VM ⊢;clear hD z0 z1 z2 x8 x9 adB;have GN:IntKind.i64.wrap (1 - 1)=0:=rfl;rcases (by omega:D=-1\/D=0) with rfl | rfl
   · have Gi:=VM.out.1 rfl;have HF:Hid (uai (fun b=>w.heap.size<=b) [ji l f g] w (.returned (.slice (some ⟨R,0,none⟩) 1 1)) w9):=hid (by
      rw [Dy.out,Gi]
      exact ⟨_,rfl,⟨_,_,rfl,by simp,by omega,fun _=>⟨R,rfl,by have:=Px.out; omega,jI.mono fun b hb=>hb.elim⟩⟩,HX.out.trans (Y8.out.trans Z2.out)⟩)
     clear k4 k5 k6 k7 jI Gi;go_wp2_with fail;go_ret;exact HF.out
   · have zM:=jI.2.1;obtain ⟨R0,rn0,rc0,R1,rn1,rc1,⟨r0,r1,r2,r3⟩,-⟩:=jI.el 0 (by simp);have uY:PlV w9 (fun b=>(w.heap.size<=b)/\b ≠ R) P (plV P (.slice F0 fn0 UZ) (.slice F1 P.cs.length UY)):=(PB.out.ext Z2.out).mono fun b hb=>by have:=Px.out; (try dsimp only at hb); exact ⟨by omega,by omega⟩
     have aV:=(jI.mono (q':=fun b=>w.heap.size<=b) fun b hb=>hb.elim).xD 0 (by simp) P uY;simp only [s8,ri,List.replicate_one,uW] at r0 r1 r2 r3 aV;obtain ⟨V9,qE⟩:=n_m (((((w9.setCell ⟨R,0,none⟩ (.int .i64 P.lv)).setCell ⟨R,1,none⟩ (.bool P.neg)).setCell ⟨R,2,none⟩ (.slice F0 fn0 UZ)).setCell ⟨R,3,none⟩ (.slice F1 P.cs.length UY)));rw [qE] at aV;have mi:w.heap.size<=R:=by have:=Px.out; omega
     have P9:Ext w V9:=by rw [<- qE]; exact ((((HX.out.trans (Y8.out.trans Z2.out)).setCell mi _).setCell mi _).setCell mi _).setCell mi _
     have HF:Hid (∀ W',Ext V9 W'->uai (fun b=>w.heap.size<=b) [ji l f g] w (.returned (.slice (some ⟨R,0,none⟩) 1 1)) W'):=hid (fun W' hx=>by
      rw [Dy.out]
      exact ⟨_,rfl,⟨_,_,rfl,by simp,by omega,fun _=>⟨R,rfl,mi,aV.1.ext hx⟩⟩,P9.trans hx⟩)
     have Zr:jb V9 o6 P (.slice F0 fn0 UZ) (.slice F1 P.cs.length UY):=by
      have au:o6 ≠ R:=by omega
      have kk:∀ j,V9.cell? ⟨o6,j,none⟩=w9.cell? ⟨o6,j,none⟩:=fun j=>pB (by rw [<- qE]; exact gac _ _ _ _ _ _ _ au)
      exact ⟨(kk 0).trans k4,(kk 1).trans k5,(kk 2).trans k6,(kk 3).trans k7⟩
     have au:¬ o6=R:=by omega
     clear aV jI uY P9;go_upto_region 8 with fail
     try rw [qE]
     obtain ⟨j4,j5,j6,j7⟩:=Zr;clear qE k4 k5 k6 k7 r0 r1 r2 r3;go_wp2_with fail;go_ret;exact HF.out _ ((Ext.refl _).alloc _)
def qaj (q:Nat->Prop) (L:List Pl) (w:World) (e:Ending) (w':World):Prop:=∃ v,e=.returned (.tuple #[v,.int .i64 0])/\jag w' q v L/\Ext w w'
def wdh (c:Pl):Prop:=c.Can/\c.sz<=1099511627776/\c.dm<=35184372088832
theorem wa9 {w : World} {q0 q1 : Nat -> Prop} {f g : Pl} {l : Int} {E D : Nat} {L : List Pl} (v0 v1 : Value) (hl : 1 <= l) (ag : l <= 4) (h0 : PlV w q0 f v0) (h1 : PlV w q1 g v1) (hf : Fit f E D) (hg : Fit g E D) (hE : E <= 62) (hD : D <= 1099511627776) (rC : 0 < mdg l f) (bI : 0 < mdg l g) (OI : mdg l f <= 1000) (Il : mdg l g <= 1000)
 (UH:L.length<=1000) (UJ:∀ c ∈ L,wdh c)
 (HD:Hid ((mdg l g<=mdg l f/\∀ W',Ext w W'->Calls Tryz.prog 158 #[v0,v1,.int .i64 l,.int .i64 (mdg l f),.int .i64 (mdg l g)] W' (uai (fun b=>W'.heap.size<=b) L W'))\/(mdg l f=1/\mdg l g=2/\L.length=1/\∀ W',Ext w W'->Calls Tryz.prog 158 #[v1,v0,.int .i64 l,.int .i64 2,.int .i64 1] W' (uai (fun b=>W'.heap.size<=b) L W')))) :
 Calls Tryz.prog 153 #[v0,v1,.int .i64 l] w (qaj (fun b=>w.heap.size<=b) L w):=by
 have H0:=hid h0;have H1:=hid h1;obtain ⟨A0,m0,e0,B0,f0,rfl,-⟩:=h0.open_;obtain ⟨A1,m1,e1,B1,f1,rfl,-⟩:=h1.open_;obtain ⟨Eo,W,gI,jH,iT,aC,bW,hx1,aX,bF⟩:=b_2 w f g (.slice A0 m0 e0) (.slice B0 f.cs.length f0) (.slice A1 m1 e1) (.slice B1 g.cs.length f1);have HX:=hid (aC.trans hx1);have dJ:=hid aX;have dH:=hid bF;have fZ:W.heap.size=w.heap.size+1+1:=bW;clear h0 h1 aC hx1 aX bF;have HC:=hid (fun (W':World) (hx:Ext w W')=>check_any _ _ hl ag (H0.out.ext hx) (H1.out.ext hx) hf.can hg.can (qah (l:=l) (by omega)) (qah (l:=l) (by omega)));have Gw:=hid (fun (W':World) (hx:Ext w W')=>xag (l:=l) _ hf.can (hf.copy_ (by omega)) (by have:=hf.dm; omega) (H0.out.ext hx));have Bf:=hid (fun (W':World) (hx:Ext w W')=>xag (l:=l) _ hg.can (hg.copy_ (by omega)) (by have:=hg.dm; omega) (H1.out.ext hx));have Jq:=hid UJ;have aH:Hid (∀ W',Ext W W'->(Ext W W'/\(jb W' (w.heap.size) f (.slice A0 m0 e0) (.slice B0 f.cs.length f0))/\(jb W' (w.heap.size+1) g (.slice A1 m1 e1) (.slice B1 g.cs.length f1)))):=hid (fun W' hx=>⟨hx,dJ.out.ext hx (by omega),dH.out.ext hx (by omega)⟩);obtain ⟨m,hm⟩:=n_m (mdg l f);obtain ⟨n,hn⟩:=n_m (mdg l g);rw [hm] at Gw rC OI HD;rw [hn] at Bf bI Il HD;obtain ⟨b0,b1,b2,b3⟩:=dH.out;obtain ⟨a0,a1,a2,a3⟩:=dJ.out;unfold plV at HC Gw Bf HD ⊢;clear hf hg hm hn UJ hE hD;go_enter Tryz.func153,Tryz.ntmps153;go_wp2_with fail;clear gI jH;clear a0 a1 a2 a3 b0 b1 b2 b3;refine (HC.out _ HX.out).mono ?_;rintro e w1 ⟨rfl,x1⟩;have Dn:=hid fZ;clear fZ iT bW HC;have y0:Ext W w1.drew:=x1.drew;go_upto_region 4 with fail;refine wp_region_held_drew (S:=fun W'=>Ext W W'/\(jb W' (w.heap.size) f (.slice A0 m0 e0) (.slice B0 f.cs.length f0))/\(jb W' (w.heap.size+1) g (.slice A1 m1 e1) (.slice B1 g.cs.length f1))) (by kernel_rfl) (aH.out _ y0) (fun hHeld=>?_);refine tk 0 ?_ (hy:=Or.inl ⟨by rfl,by intro w' aO; obtain ⟨-,⟨k0,k1,k2,k3⟩,k4,k5,k6,k7⟩:=aO; go_simp; (try (with_reducible rfl))⟩);refine tk 1 ?_;refine tk 3 ?_ (hy:=Or.inl ⟨by rfl,by intro w' aO; obtain ⟨-,⟨k0,k1,k2,k3⟩,k4,k5,k6,k7⟩:=aO; go_simp; (try (with_reducible rfl))⟩);refine tk 4 ?_;refine r_1 2 fun K hK=>?_
 go_simp
 go_at_call 109
 refine (Gw.out _ (HX.out.trans y0)).mono ?_;rintro e w2 ⟨rfl,x2⟩;have y2:=y0.trans x2;refine k_t hK (aH.out _ y2) fun hHeld=>?_
 clear hK K;refine r_1 5 fun K hK=>?_
 go_simp
 go_at_call 109
 refine (Bf.out _ (HX.out.trans y2)).mono ?_;rintro e w3 ⟨rfl,x3⟩;have y3:=y2.trans x3;refine k_t hK (aH.out _ y3) fun hHeld=>?_
 clear hK K;refine tk 6 ?_;refine tk 7 ?_;refine w_d ?_;obtain ⟨-,⟨a0,a1,a2,a3⟩,b0,b1,b2,b3⟩:=hHeld;have Y3:=hid y3;clear x1 x2 x3 y0 y2 y3 aH Gw Bf;have RN:¬ min m n=0:=by omega
 rcases HD.out with ⟨RJ,hd⟩ | ⟨rfl,rfl,IM,hd⟩
 · have Ws:=hid (hd _ (HX.out.trans Y3.out));clear hd HD;go_wp2_with fail;refine Ws.out.mono ?_;rintro e w5 ⟨v5,rfl,jS,x5⟩;clear Ws;have jS:=jS.mono (q':=fun b=>W.heap.size<=b) (fun b hb=>by have:=Y3.out.size; omega);have x5:=Y3.out.trans x5;obtain ⟨Rv,rc,rfl,o9,qL,GY⟩:=id jS;have qW:=hid GY;have X5:=hid x5;clear GY jS;go_wp2_with fail;clear a0 a1 a2 a3 b0 b1 b2 b3
   go_loopw [47] (fun iv wr=>∃ k:Nat,k<=L.length/\iv=.int .i64 k/\Hid (Ext W wr/\jag wr (fun b=>W.heap.size<=b) (.slice Rv L.length rc) L)) (fun iv _=>L.length - (intOf iv).toNat)
   case atStart=>exact ⟨0,pZ _,rfl,hid ⟨X5.out,Rv,rc,rfl,o9,qL,qW.out⟩⟩
   case round =>
    obtain ⟨k,hk,rfl,HI⟩:=hrel
    by_cases af:k < L.length
    · obtain ⟨hx,Rv',rc',e',-,-,ae⟩:=HI.out;injection e' with e1 e2 e3
      subst e1 e3;obtain ⟨R,rfl,IE,ae⟩:=ae (fun e=>by rw [e] at af; simp at af);obtain ⟨C0,j0,k0,C1,j1,k1,⟨g0,g1,g2,g3⟩,fP⟩:=ae.el k af;have zM:=ae.2.1;have HN:=hid (qac _ fP (Jq.out _ (pt af)).1 (Jq.out _ (pt af)).2.1 (Jq.out _ (pt af)).2.2);have dU:Hid (L.set k L[k]=L):=hid (List.set_getElem_self af);have aB:=hid ae;have oh:=hid hx;have qX:=hid IE;have gZ:=ae.1;generalize L[k]=c at *;unfold plV at HN;clear fP ae hx IE HI;go_wp2_with fail;clear g0 g1 g2 g3;refine HN.out.mono ?_;rintro e w6 ⟨v6,rfl,p6,x6⟩;obtain ⟨D0,i0,h0,D1,h1,rfl,-⟩:=id p6.open_;have aV:=((aB.out.ext x6).xD k af c (p6.mono fun b hb=>by have:=aB.out.1; have:=oh.out.size; exact ⟨by omega,by omega⟩)).1;rw [dU.out] at aV;obtain ⟨E0,m0,n0,E1,m1,n1,⟨s0,s1,s2,s3⟩,-⟩:=(aB.out.ext x6).el k af;have UD:=(aB.out.ext x6).2.1;obtain ⟨V,hV⟩:=n_m (((((w6.setCell ⟨R,k * 4,none⟩ (.int .i64 c.lv)).setCell ⟨R,k * 4+1,none⟩ (.bool c.neg)).setCell ⟨R,k * 4+2,none⟩ (.slice D0 i0 h0)).setCell ⟨R,k * 4+3,none⟩ (.slice D1 c.cs.length h1)));have bT:Hid (Ext W V/\jag V (fun b=>W.heap.size<=b) (.slice (some ⟨R,0,none⟩) L.length rc) L):=hid (by
       have hq:=qX.out;refine ⟨by rw [<- hV]; exact (((((oh.out.trans x6).setCell hq _).setCell hq _).setCell hq _).setCell hq _),_,_,rfl,o9,qL,fun _=>⟨R,rfl,hq,?_⟩⟩
       rw [<- hV]; exact aV)
      unfold plV;clear aV p6 x6 HN aB dU;go_wp2_with fail;clear s0 s1 s2 s3
      go_roundw
      case rel=>exact ⟨k+1,by omega,by first | go_num | rfl,bT.out⟩
      case measure=>simp [intOf]; omega
    · obtain rfl:k=L.length:=by omega
      have HF:=hid HI.out;clear HI;go_wp2_with fail;exact bodyPost_ret (v:=.tuple #[.slice Rv L.length rc,.int .i64 0]) (by simp [results,paL,go_sem]) rfl ⟨_,rfl,HF.out.2.mono fun b hb=>by have:=HX.out.size; omega,HX.out.trans HF.out.1⟩
 · have Ws:=hid (hd _ (HX.out.trans Y3.out));have YK:=hid IM;clear hd HD IM;go_wp2_with fail;refine Ws.out.mono ?_;rintro e w5 ⟨v5,rfl,jS,x5⟩;clear Ws;have jS:=jS.mono (q':=fun b=>W.heap.size<=b) (fun b hb=>by have:=Y3.out.size; omega);have x5:=Y3.out.trans x5;obtain ⟨Rv,rc,rfl,o9,qL,GY⟩:=id jS;have qW:=hid GY;have X5:=hid x5;clear GY jS;go_wp2_with fail;clear a0 a1 a2 a3 b0 b1 b2 b3
   go_loopw [47] (fun iv wr=>∃ k:Nat,k<=L.length/\iv=.int .i64 k/\Hid (Ext W wr/\jag wr (fun b=>W.heap.size<=b) (.slice Rv L.length rc) L)) (fun iv _=>L.length - (intOf iv).toNat)
   case atStart=>exact ⟨0,pZ _,rfl,hid ⟨X5.out,Rv,rc,rfl,o9,qL,qW.out⟩⟩
   case round =>
    obtain ⟨k,hk,rfl,HI⟩:=hrel
    by_cases af:k < L.length
    · obtain ⟨hx,Rv',rc',e',-,-,ae⟩:=HI.out;injection e' with e1 e2 e3
      subst e1 e3;obtain ⟨R,rfl,IE,ae⟩:=ae (fun e=>by rw [e] at af; simp at af);obtain ⟨C0,j0,k0,C1,j1,k1,⟨g0,g1,g2,g3⟩,fP⟩:=ae.el k af;have zM:=ae.2.1;have HN:=hid (qac _ fP (Jq.out _ (pt af)).1 (Jq.out _ (pt af)).2.1 (Jq.out _ (pt af)).2.2);have dU:Hid (L.set k L[k]=L):=hid (List.set_getElem_self af);have aB:=hid ae;have oh:=hid hx;have qX:=hid IE;have gZ:=ae.1;generalize L[k]=c at *;unfold plV at HN;clear fP ae hx IE HI;have qP:k=0:=by have:=YK.out; omega
      subst qP;simp only [s8,ri] at g0 g1 g2 g3;go_wp2_with fail;clear g0 g1 g2 g3;refine HN.out.mono ?_;rintro e w6 ⟨v6,rfl,p6,x6⟩;obtain ⟨D0,i0,h0,D1,h1,rfl,-⟩:=id p6.open_;have aV:=((aB.out.ext x6).xD 0 af c (p6.mono fun b hb=>by have:=aB.out.1; have:=oh.out.size; exact ⟨by omega,by omega⟩)).1;rw [dU.out] at aV;obtain ⟨E0,m0,n0,E1,m1,n1,⟨s0,s1,s2,s3⟩,-⟩:=(aB.out.ext x6).el 0 af;have UD:=(aB.out.ext x6).2.1;simp only [s8,ri] at s0 s1 s2 s3 aV;obtain ⟨V,hV⟩:=n_m (((((w6.setCell ⟨R,0,none⟩ (.int .i64 c.lv)).setCell ⟨R,1,none⟩ (.bool c.neg)).setCell ⟨R,2,none⟩ (.slice D0 i0 h0)).setCell ⟨R,3,none⟩ (.slice D1 c.cs.length h1)));have bT:Hid (Ext W V/\jag V (fun b=>W.heap.size<=b) (.slice (some ⟨R,0,none⟩) L.length rc) L):=hid (by
       have hq:=qX.out;refine ⟨by rw [<- hV]; exact (((((oh.out.trans x6).setCell hq _).setCell hq _).setCell hq _).setCell hq _),_,_,rfl,o9,qL,fun _=>⟨R,rfl,hq,?_⟩⟩
       rw [<- hV]; exact aV)
      unfold plV;clear aV p6 x6 HN aB dU;go_wp2_with fail;clear s0 s1 s2 s3
      go_roundw
      case rel=>exact ⟨0+1,by omega,by first | go_num | rfl,bT.out⟩
      case measure=>simp [intOf]; omega
    · obtain rfl:k=L.length:=by omega
      have HF:=hid HI.out;clear HI;go_wp2_with fail;exact bodyPost_ret (v:=.tuple #[.slice Rv L.length rc,.int .i64 0]) (by simp [results,paL,go_sem]) rfl ⟨_,rfl,HF.out.2.mono fun b hb=>by have:=HX.out.size; omega,HX.out.trans HF.out.1⟩
theorem chain_nil {w:World} {q0 q1:Nat->Prop} {f g:Pl} {l:Int} {E D:Nat} (v0 v1:Value) (hl:1<=l) (ag:l<=4) (h0:PlV w q0 f v0) (h1:PlV w q1 g v1) (hf:Fit f E D) (hg:Fit g E D) (hE:E<=62) (hD:D<=1099511627776) (rC:0<=mdg l f) (bI:0<=mdg l g) (uC:min (mdg l f) (mdg l g)=0) :
 Calls Tryz.prog 153 #[v0,v1,.int .i64 l] w (qaj (fun b=>w.heap.size<=b) [] w):=by
 have H0:=hid h0;have H1:=hid h1;obtain ⟨A0,m0,e0,B0,f0,rfl,-⟩:=h0.open_;obtain ⟨A1,m1,e1,B1,f1,rfl,-⟩:=h1.open_;obtain ⟨Eo,W,gI,jH,iT,aC,bW,hx1,aX,bF⟩:=b_2 w f g (.slice A0 m0 e0) (.slice B0 f.cs.length f0) (.slice A1 m1 e1) (.slice B1 g.cs.length f1);have HX:=hid (aC.trans hx1);have dJ:=hid aX;have dH:=hid bF;have fZ:W.heap.size=w.heap.size+1+1:=bW;clear h0 h1 aC hx1 aX bF;have HC:=hid (fun (W':World) (hx:Ext w W')=>check_any _ _ hl ag (H0.out.ext hx) (H1.out.ext hx) hf.can hg.can (qah (l:=l) (by omega)) (qah (l:=l) (by omega)));have Gw:=hid (fun (W':World) (hx:Ext w W')=>xag (l:=l) _ hf.can (hf.copy_ (by omega)) (by have:=hf.dm; omega) (H0.out.ext hx));have Bf:=hid (fun (W':World) (hx:Ext w W')=>xag (l:=l) _ hg.can (hg.copy_ (by omega)) (by have:=hg.dm; omega) (H1.out.ext hx));have aH:Hid (∀ W',Ext W W'->(Ext W W'/\(jb W' (w.heap.size) f (.slice A0 m0 e0) (.slice B0 f.cs.length f0))/\(jb W' (w.heap.size+1) g (.slice A1 m1 e1) (.slice B1 g.cs.length f1)))):=hid (fun W' hx=>⟨hx,dJ.out.ext hx (by omega),dH.out.ext hx (by omega)⟩);obtain ⟨m,hm⟩:=n_m (mdg l f);obtain ⟨n,hn⟩:=n_m (mdg l g);rw [hm] at Gw rC uC;rw [hn] at Bf bI uC;obtain ⟨b0,b1,b2,b3⟩:=dH.out;obtain ⟨a0,a1,a2,a3⟩:=dJ.out;unfold plV at HC Gw Bf ⊢;clear hf hg hm hn hE hD;go_enter Tryz.func153,Tryz.ntmps153;go_wp2_with fail;clear gI jH;clear a0 a1 a2 a3 b0 b1 b2 b3;refine (HC.out _ HX.out).mono ?_;rintro e w1 ⟨rfl,x1⟩;have Dn:=hid fZ;clear fZ iT bW HC;have y0:Ext W w1.drew:=x1.drew;go_upto_region 4 with fail;refine wp_region_held_drew (S:=fun W'=>Ext W W'/\(jb W' (w.heap.size) f (.slice A0 m0 e0) (.slice B0 f.cs.length f0))/\(jb W' (w.heap.size+1) g (.slice A1 m1 e1) (.slice B1 g.cs.length f1))) (by kernel_rfl) (aH.out _ y0) (fun hHeld=>?_);refine tk 0 ?_ (hy:=Or.inl ⟨by rfl,by intro w' aO; obtain ⟨-,⟨k0,k1,k2,k3⟩,k4,k5,k6,k7⟩:=aO; go_simp; (try (with_reducible rfl))⟩);refine tk 1 ?_;refine tk 3 ?_ (hy:=Or.inl ⟨by rfl,by intro w' aO; obtain ⟨-,⟨k0,k1,k2,k3⟩,k4,k5,k6,k7⟩:=aO; go_simp; (try (with_reducible rfl))⟩);refine tk 4 ?_;refine r_1 2 fun K hK=>?_
 go_simp
 go_at_call 109
 refine (Gw.out _ (HX.out.trans y0)).mono ?_;rintro e w2 ⟨rfl,x2⟩;have y2:=y0.trans x2;refine k_t hK (aH.out _ y2) fun hHeld=>?_
 clear hK K;refine r_1 5 fun K hK=>?_
 go_simp
 go_at_call 109
 refine (Bf.out _ (HX.out.trans y2)).mono ?_;rintro e w3 ⟨rfl,x3⟩;have y3:=y2.trans x3;refine k_t hK (aH.out _ y3) fun hHeld=>?_
 clear hK K;refine tk 6 ?_;refine tk 7 ?_;refine w_d ?_;obtain ⟨-,⟨a0,a1,a2,a3⟩,b0,b1,b2,b3⟩:=hHeld;have Y3:=hid y3;clear x1 x2 x3 y0 y2 y3 aH Gw Bf;go_wp2_with fail;exact bodyPost_ret (v:=.tuple #[.slice none 0 0,.int .i64 0]) (by simp [results,paL,go_sem]) rfl ⟨_,rfl,⟨none,0,rfl,by simp,by omega,fun h=>absurd rfl h⟩,HX.out.trans Y3.out⟩
def pcf (l:Int) (L:List Pl):List Pl:=(List.range L.length).map fun (j:Nat)=>qi l (j:Int) (L.getD j Pl.zero)
theorem gaq (l:Int) (L:List Pl):(pcf l L).length=L.length:=by simp [pcf]
theorem ydc (l:Int) (L:List Pl) (k:Nat) (h:k < L.length) (h':k < (pcf l L).length):(pcf l L)[k]=qi l k L[k]:=by
 simp [pcf,po,pr h]
theorem zbp {α:Type} {A L:List α} (h:A.length=L.length) (k:Nat):(A.take k ++ L.drop k).length=L.length:=by
 rw [rh,pA,re]; omega
theorem ybp {α:Type} {A L:List α} (h:A.length=L.length) (k:Nat) (hk:k < L.length) (h':k < (A.take k ++ L.drop k).length):(A.take k ++ L.drop k)[k]=L[k]:=by
 rw [tE (by rw [pA]; omega),wg]
 congr 1
 rw [pA]; omega
theorem jce {α:Type} {A L:List α} (h:A.length=L.length) (k:Nat) (hk:k < L.length) (lX:k < A.length):(A.take k ++ L.drop k).set k A[k]=A.take (k+1) ++ L.drop (k+1):=by
 have ht:(A.take k).length=k:=by rw [pA]; omega
 rw [ti _ _ (by omega),ht,Pw,sh hk,uW,pC lX,SZ]
 rfl
theorem gba {w : World} {q0 q1 : Nat -> Prop} {f g : Pl} {l : Int} {E D : Nat} {L : List Pl} (v0 v1 : Value) (hl : 1 <= l) (ag : l <= 4) (h0 : PlV w q0 f v0) (h1 : PlV w q1 g v1) (hE : E <= 170) (hD : D <= 1099511627776)
 (UH:L.length<=1000) (UJ:∀ c ∈ L,Fit c E D)
 (HC:Hid (∀ W',Ext w W'->Calls Tryz.prog 153 #[v0,v1,.int .i64 l] W' (qaj (fun b=>W'.heap.size<=b) L W'))) :
 Calls Tryz.prog 138 #[v0,v1,.int .i64 l] w (qaj (fun b=>w.heap.size<=b) (pcf l L) w):=by
 have H0:=hid h0;have H1:=hid h1;obtain ⟨A0,m0,e0,B0,f0,rfl,-⟩:=h0.open_;obtain ⟨A1,m1,e1,B1,f1,rfl,-⟩:=h1.open_;obtain ⟨Eo,W,gI,jH,iT,aC,bW,hx1,aX,bF⟩:=b_2 w f g (.slice A0 m0 e0) (.slice B0 f.cs.length f0) (.slice A1 m1 e1) (.slice B1 g.cs.length f1);have HX:=hid (aC.trans hx1);have dJ:=hid aX;have dH:=hid bF;have fZ:W.heap.size=w.heap.size+1+1:=bW;clear h0 h1 aC hx1 aX bF;have Jq:=hid UJ;obtain ⟨b0,b1,b2,b3⟩:=dH.out;obtain ⟨a0,a1,a2,a3⟩:=dJ.out;unfold plV at HC ⊢;clear UJ;go_enter Tryz.func138,Tryz.ntmps138;go_wp2_with fail;clear gI jH;clear a0 a1 a2 a3 b0 b1 b2 b3;refine (HC.out _ HX.out).mono ?_;rintro e w5 ⟨v5,rfl,jS,x5⟩;obtain ⟨Rv,rc,rfl,o9,qL,GY⟩:=id jS;have qW:=hid GY;have X5:=hid x5;have Dn:=hid fZ;have WR:=HX.out.size;clear GY jS x5 HC iT bW fZ;go_wp2_with fail
 go_loopw [20] (fun iv wr=>∃ k:Nat,k<=L.length/\iv=.int .i64 k/\Hid (Ext W wr/\jag wr (fun b=>W.heap.size<=b) (.slice Rv L.length rc) ((pcf l L).take k ++ L.drop k))) (fun iv _=>L.length - (intOf iv).toNat)
 case atStart=>exact ⟨0,pZ _,rfl,hid ⟨X5.out,Rv,rc,by simp,by simpa using o9,qL,by simpa using qW.out⟩⟩
 case round =>
  obtain ⟨k,hk,rfl,HI⟩:=hrel;have lw:=zbp (gaq l L) k
  by_cases af:k < L.length
  · obtain ⟨hx,Rv',rc',e',-,-,ae⟩:=HI.out;rw [lw] at e';injection e' with e1 e2 e3
    subst e1 e3;obtain ⟨R,rfl,IE,ae⟩:=ae (fun e=>by rw [e] at lw; simp at lw; omega);obtain ⟨C0,j0,k0,C1,j1,k1,g,fP⟩:=ae.el k (by rw [lw]; exact af);rw [ybp (gaq l L) k af] at g fP;obtain ⟨g0,g1,g2,g3⟩:=g;have zM:=ae.2.1;have yQ:(k:Int)<=1000:=by omega
    have HN:=hid (ybs (k:=(k:Int)) _ (by omega) (by omega) hl ag (Jq.out _ (pt af)) hE hD fP);have SI:k < (pcf l L).length:=by rw [gaq]; exact af
    have dU:=hid (jce (gaq l L) k af SI);rw [ydc l L k af] at dU;have Bc:=hid lw;have aB:=hid ae;have oh:=hid hx;have qX:=hid IE;have Ac:=hid (zbp (gaq l L) (k+1));have gZ:=ae.1;obtain ⟨M,hM⟩:=n_m ((pcf l L).take k ++ L.drop k);obtain ⟨M',IL⟩:=n_m ((pcf l L).take (k+1) ++ L.drop (k+1));rw [hM] at aB dU Bc;rw [IL] at dU Ac;have EC:=hid IL;obtain ⟨c,hc⟩:=n_m (L[k]);rw [hc] at HN dU g0 g1;obtain ⟨d,hd⟩:=n_m (qi l k c);rw [hd] at HN dU;unfold plV at HN;clear fP ae hx IE HI lw hM IL hc hd SI;go_wp2_with fail;clear g0 g1 g2 g3;refine HN.out.mono ?_;rintro e w6 ⟨v6,rfl,p6,x6⟩;obtain ⟨D0,i0,h0,D1,h1,rfl,-⟩:=id p6.open_;have aV:=((aB.out.ext x6).xD k (by rw [Bc.out]; exact af) d (p6.mono fun b hb=>by have:=aB.out.1; have:=oh.out.size; exact ⟨by omega,by omega⟩)).1;rw [dU.out] at aV;obtain ⟨E0,m0,n0,E1,m1,n1,⟨s0,s1,s2,s3⟩,-⟩:=(aB.out.ext x6).el k (by rw [Bc.out]; exact af);have UD:=(aB.out.ext x6).2.1;obtain ⟨V,hV⟩:=n_m (((((w6.setCell ⟨R,k * 4,none⟩ (.int .i64 d.lv)).setCell ⟨R,k * 4+1,none⟩ (.bool d.neg)).setCell ⟨R,k * 4+2,none⟩ (.slice D0 i0 h0)).setCell ⟨R,k * 4+3,none⟩ (.slice D1 d.cs.length h1)));have bT:Hid (Ext W V/\jag V (fun b=>W.heap.size<=b) (.slice (some ⟨R,0,none⟩) L.length rc) ((pcf l L).take (k+1) ++ L.drop (k+1))):=hid (by
     have hq:=qX.out;refine ⟨by rw [<- hV]; exact (((((oh.out.trans x6).setCell hq _).setCell hq _).setCell hq _).setCell hq _),_,_,by rw [EC.out,Ac.out],by rw [EC.out,Ac.out]; exact o9,qL,fun _=>⟨R,rfl,hq,?_⟩⟩
     rw [EC.out,<- hV]; exact aV)
    unfold plV;clear aV p6 x6 HN aB dU;go_wp2_with fail;clear s0 s1 s2 s3
    go_roundw
    case rel=>exact ⟨k+1,by omega,by go_num,bT.out⟩
    case measure=>simp [intOf]; omega
  · obtain rfl:k=L.length:=by omega
    have hf:=HI.out;rw [paG,sq,<- gaq l L,pQ] at hf;have HF:=hid hf;rw [gaq] at HF;clear HI hf lw;go_wp2_with fail;exact bodyPost_ret (v:=.tuple #[.slice Rv L.length rc,.int .i64 0]) (by simp [results,Tryz.results138,go_sem]) rfl ⟨_,rfl,HF.out.2.mono fun b hb=>by omega,HX.out.trans HF.out.1⟩
theorem vcd {w : World} {q0 q1 : Nat -> Prop} {f g : Pl} {l : Int} {E D : Nat} (v0 v1 : Value) (hl : 1 <= l) (ag : l <= 4) (h0 : PlV w q0 f v0) (h1 : PlV w q1 g v1) (hf : Fit f E D) (hg : Fit g E D) (hE : E + (E + 1) * E + E <= 62) (hD : D + (E + 1) * (D + 3) + 1 <= 1099511627776) (rC : 0 <= mdg l f) (bI : 0 <= mdg l g)
 (hc:mdg l f=0\/mdg l g=0\/mdg l g=1\/mdg l f=1/\mdg l g=2):Calls Tryz.prog 138 #[v0,v1,.int .i64 l] w (qaj (fun b=>w.heap.size<=b) (gp l f g) w):=by
 have hEE:=pE E (show 1<=E+1 by omega);have hDD:=pE (D+3) (show 1<=E+1 by omega);have hB:(B32:Nat)=4294967296:=rfl;have OI:=waj (l:=l) hf.can hf.ex;have Il:=waj (l:=l) hg.can hg.ex
 by_cases hz:mdg l f=0\/mdg l g=0
 · have e:gp l f g=pcf l []:=by unfold gp pcf; rw [if_pos (by omega)]; rfl
   rw [e];exact gba v0 v1 hl ag h0 h1 (E:=0) (D:=0) (by omega) (by omega) (by simp) (by simp) (hid fun W' hx=>chain_nil v0 v1 hl ag (h0.ext hx) (h1.ext hx) hf hg (by omega) (by omega) rC bI (by omega))
 · have wS:¬ (mdg l f<=0\/mdg l g<=0):=by omega
   have ok:∀ {p q:Pl},Fit p E D->Fit q E D->Fit (ji l p q) 170 1099511627776/\wdh (ji l p q):=fun hp hq=>by
    have h:=zam hl ag hp hq (by omega);refine ⟨h.mono (by omega) (by omega),qad _ _ _,h.copy_ (by omega),?_⟩;have:=h.dm; omega
   by_cases jR:mdg l g=1
   · have e:gp l f g=pcf l [ji l f g]:=by unfold gp pcf; rw [if_neg wS,if_pos jR]; rfl
     rw [e];refine gba v0 v1 hl ag h0 h1 (E:=170) (D:=1099511627776) (by omega) (by omega) (by simp) (fun c hc=>by rw [pD.1 hc]; exact (ok hf hg).1) (hid fun W' hx=>wa9 v0 v1 hl ag (h0.ext hx) (h1.ext hx) hf hg (by omega) (by omega) (by omega) (by omega) (by omega) (by omega) (by simp) (fun c hc=>by rw [pD.1 hc]; exact (ok hf hg).2) (hid (Or.inl ⟨by omega,fun W2 aN=>?_⟩)));rw [jR];exact gbs v0 v1 hl ag (h0.ext (hx.trans aN)) (h1.ext (hx.trans aN)) hf hg (by omega) OI jR hE hD
   · obtain ⟨h2,h3⟩:mdg l f=1/\mdg l g=2:=by omega
     have e:gp l f g=pcf l [ji l g f]:=by unfold gp pcf; rw [if_neg wS,if_neg jR,if_pos h2]; rfl
     rw [e];refine gba v0 v1 hl ag h0 h1 (E:=170) (D:=1099511627776) (by omega) (by omega) (by simp) (fun c hc=>by rw [pD.1 hc]; exact (ok hg hf).1) (hid fun W' hx=>wa9 v0 v1 hl ag (h0.ext hx) (h1.ext hx) hf hg (by omega) (by omega) (by omega) (by omega) (by omega) (by omega) (by simp) (fun c hc=>by rw [pD.1 hc]; exact (ok hg hf).2) (hid (Or.inr ⟨h2,h3,rfl,fun W2 aN=>?_⟩)));exact gbs v1 v0 hl ag (h1.ext (hx.trans aN)) (h0.ext (hx.trans aN)) hg hf (by omega) (by omega) h2 hE hD
end Go.Proofs.YtcepajijiabkmaaGreat
