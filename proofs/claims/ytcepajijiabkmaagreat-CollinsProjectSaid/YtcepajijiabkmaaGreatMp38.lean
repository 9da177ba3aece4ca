/- Layer 25: descend, Chain and Psc where the smaller degree is 1. -/
import Derived.Test.YtcepajijiabkmaaGreatMp34
import Derived.Test.YtcepajijiabkmaaGreatMp24
set_option linter.unusedSimpArgs false
set_option linter.unusedVariables false

set_option maxRecDepth 100000
set_option maxHeartbeats 8000000
namespace Go.Proofs.YtcepajijiabkmaaGreat
open Lib (hid)
open Go.RowKit
theorem wbp {w:World} {q0 q1:Nat->Prop} {f g:Pl} {l m:Int} {E D Eg Dg:Nat} (v0 v1:Value) (hl:1<=l) (ag:l<=4) (h0:PlV w q0 f v0) (h1:PlV w q1 g v1) (hf:Fit f E D) (hg:Fit g Eg Dg) (hm:1<=m) (uB:m<=E) (jT:mdg l g=1) (hE:E+(E+1) * Eg+Eg<=62) (hD:D+(E+1) * (Dg+3)+1<=1099511627776) :
 Calls Tryz.prog 158 #[v0,v1,.int .i64 l,.int .i64 m,.int .i64 1] w (kah (fun b=>w.heap.size<=b) [qi l f g] w):=by
 have H0:=hid h0;have H1:=hid h1;obtain ⟨A0,m0,e0,B0,f0,rfl,-⟩:=h0.open_;obtain ⟨A1,m1,e1,B1,f1,rfl,-⟩:=h1.open_;obtain ⟨Ej,W,fV,jK,iT,aC,bW,hx1,aX,bF⟩:=b_2 w f g (.slice A0 m0 e0) (.slice B0 f.cs.length f0) (.slice A1 m1 e1) (.slice B1 g.cs.length f1);have HX:=hid (aC.trans hx1);have dJ:=hid aX;have dH:=hid bF;have fO:W.heap.size=w.heap.size+1+1:=bW;clear h0 h1 aC hx1 aX bF;have OZ:=pE (Dg+3) (show 1<=E+1 by omega);have hEg:=pE Eg (show 1<=E+1 by omega);have bI:g ≠ Pl.zero:=qah (l:=l) (by omega);have hme:((m - 1).toNat+1) * Eg<=900:=by
  have:=pE Eg (show (m - 1).toNat+1<=E by omega);have:=pE Eg (show E<=E+1 by omega);omega
 have RP:((m - 1).toNat+1) * Dg<=4398046511000:=by
  have:=Re (show (m - 1).toNat+1<=E+1 by omega) (show Dg<=Dg+3 by omega);omega
 have HL:=hid (fun (W':World) (hx:Ext w W')=>gal _ hl ag hg (by omega) (by omega) (H1.out.ext hx));have HP:=hid (fun (W':World) (q:Nat->Prop) (u:Value) (hu:PlV W' q (qo l g) u)=>qal (n:=m - 1) u hu (zam (l:=l) hg) hme RP (by omega));obtain ⟨PW,hPW⟩:=n_m ((qo l g).pow (m - 1).toNat);rw [hPW] at HP;clear hPW;have HR:=hid (fun (W':World) (hx:Ext w W')=>zbd _ _ hl ag (H0.out.ext hx) (H1.out.ext hx) hf hg bI hE hD);have o7:=gak hl ag hf hg (by have:B32=4294967296:=rfl; omega);have PQ:=hid (fun (W':World) (q:Nat->Prop) (u:Value) (hu:PlV W' q (qi l f g) u)=>xaf (l:=l) u (qac l f g) (o7.copy_ (by omega)) (by have:=o7.dm; omega) hu);have HDA:=hid (fun (W':World) (q:Nat->Prop) (u:Value) (hu:PlV W' q g u)=>xaf (l:=l) u hg.can (hg.copy_ (by omega)) (by have:=hg.dm; omega) hu);have nM:=hid jT;have Ey:=hid (ga1 hl ag hf.can hg.can bI);have oh:=hid (xbx (l:=l) (qi l f g));have VN:=hid (jav (l:=l) (qac l f g));have Qr:IntKind.i64.wrap (m - 1)=m - 1:=by rw [rk]; omega
 obtain ⟨Wm,dw,iK,RI,ae⟩:=uw 1 (by omega) (by omega) W;rw [show (1:Int).toNat=1 from rfl] at dw ae;rw [fO] at dw ae;have Af:=hid (HX.out.trans iK);have VO:=hid (ae (fun _=>False));obtain ⟨b0,b1,b2,b3⟩:=dH.out.ext iK (by omega);clear OZ hEg bI hme RP o7 jT hf hg hE hD ae;unfold plV at HL HR ⊢;go_enter Tryz.func158,Tryz.ntmps158;go_wp2_with fail;clear fV jK;clear dw b0 b1 b2 b3;refine (HL.out _ Af.out).mono ?_;rintro e w3 ⟨v3,rfl,p3,x3⟩;have BQ:=HP.out _ _ _ p3;have y3:Ext W w3:=iK.trans x3;have r3:=VO.out.ext x3;clear x3 iK RI Af VO HL HP p3;go_wp2_with fail;refine BQ.mono ?_;rintro e w4 ⟨v4,rfl,p4,x4⟩;obtain ⟨C0,j0,k0,C1,k1,rfl,-⟩:=id p4.open_;have y4:=y3.trans x4;have r4:=r3.ext x4;clear x4 y3 r3 p4 BQ;obtain ⟨R,hR⟩:=n_m (w.heap.size+1+1);rw [hR] at r4 ⊢;have XI:R=W.heap.size:=by omega
 have Pq:=hid XI;clear hR XI;unfold plV;obtain ⟨Wp,xC⟩:=n_m ((w4.alloc (.cells #[.int .i64 PW.lv,.bool PW.neg,.slice C0 j0 k0,.slice C1 PW.cs.length k1] 33)));have yp:Ext W Wp:=by rw [<- xC]; exact y4.alloc _
 have rp:=r4.ext (by rw [<- xC]; exact (Ext.refl w4).alloc _:Ext w4 Wp);have hRp:R < Wp.heap.size:=rp.1;clear y4 r4;have aH:Hid (∀ W',Ext W W'->(Ext W W'/\(jb W' (w.heap.size) f (.slice A0 m0 e0) (.slice B0 f.cs.length f0))/\(jb W' (w.heap.size+1) g (.slice A1 m1 e1) (.slice B1 g.cs.length f1)))):=hid (fun W' hx=>⟨hx,dJ.out.ext hx (by omega),dH.out.ext hx (by omega)⟩);go_upto_region 3 with fail;clear xC;have Dp:=hid fO;clear fO iT bW;have y0:Ext W Wp.drew:=yp.drew;have rp0:=rp.ext (Ext.refl Wp).drew;refine wp_region_held_drew (S:=fun W'=>Ext W W'/\(jb W' (w.heap.size) f (.slice A0 m0 e0) (.slice B0 f.cs.length f0))/\(jb W' (w.heap.size+1) g (.slice A1 m1 e1) (.slice B1 g.cs.length f1))) (by kernel_rfl) (aH.out _ y0) (fun hHeld=>?_);refine tk 0 ?_ (hy:=Or.inl ⟨by rfl,by intro w' aP; obtain ⟨-,⟨k0,k1,k2,k3⟩,k4,k5,k6,k7⟩:=aP; go_simp; (try (with_reducible rfl))⟩);refine tk 1 ?_ (hy:=Or.inl ⟨by rfl,by intro w' aP; obtain ⟨-,⟨k0,k1,k2,k3⟩,k4,k5,k6,k7⟩:=aP; go_simp; (try (with_reducible rfl))⟩);refine tk 2 ?_ (hy:=Or.inl ⟨by rfl,by intro w' aP; obtain ⟨-,⟨k0,k1,k2,k3⟩,k4,k5,k6,k7⟩:=aP; go_simp; (try (with_reducible rfl))⟩);refine tk 3 ?_;refine wpAnyH_ready (rs:=[4,5,6]) (by kernel_rfl) (by simp) ?_;refine sy rfl (fun K hK=>?cx4) (sy rfl (fun K hK=>?cx5) (sy rfl (fun K hK=>?cx6) tW))
 case' cx4 =>
  go_simp
  go_at_call 160
  refine (HR.out _ (HX.out.trans y0)).mono ?_;rintro e w5 ⟨v5,rfl,aT,x5⟩;have yr:=y0.trans x5;obtain ⟨D0,j2,k2,D1,k3,rfl,-⟩:=id aT.open_;unfold plV;refine k_t hK (aH.out _ yr) fun hHeld=>?_
  clear hK K;have aT:PlV w5 (fun b=>R < b) (qi l f g) _:=aT.mono fun b hb=>by have:=rp0.1; omega
  have dA:=rp0.ext x5;refine r_2 5 6 (fun K hK=>?c4x5) fun K hK=>?c4x6
  case' c4x5 =>
   go_simp;obtain ⟨V5,o5,hV,ho,bU,iQ,iw,kS,bg,dL⟩:=z_b yr
   try rw [hV]
   try rw [ho]
   refine k_t hK (aH.out _ iQ) fun hHeld=>?_
   clear hK K hV ho;have fG:=bU.1;have EY:R < o5:=by have:=bg.out; have:=dA.1; omega
   have aT:PlV V5 (fun b=>R < b/\b ≠ o5) (qi l f g) _:=(aT.xo.ext dL).mono fun b hb=>by have:=hb.1; have:=hb.2; have:=bg.out; omega
   have dA:=dA.ext dL;refine r_1 6 fun K hK=>?_
   go_simp;obtain ⟨V6,o6,hV,ho,bM,iP,ik,kR,aZ,dK⟩:=z_b iQ
   try rw [hV]
   try rw [ho]
   refine k_t hK (aH.out _ iP) fun hHeld=>?_
   clear hK K hV ho;have fF:=bM.1;have EX:R < o6:=by have:=aZ.out; have:=dA.1; omega
   have bu:o5 ≠ o6:=by have:=aZ.out; have:=bU.1; omega
   have bU:=bU.ext dK;have fG:=bU.1;have aT:PlV V6 (fun b=>R < b/\b ≠ o5/\b ≠ o6) (qi l f g) _:=(aT.xo.ext dK).mono fun b hb=>by have:=hb.1; have:=hb.2; have:=aZ.out; omega
   have dA:=dA.ext dK;have yE:=iP;have fH:=bU;have jX:=bM;have lw:=aT;have JW:=dA;have fK:o5 ≠ o6:=bu
  case' c4x6 =>
   go_simp;obtain ⟨V6,o6,hV,ho,bM,iP,ik,kR,aZ,dK⟩:=z_b yr
   try rw [hV]
   try rw [ho]
   refine k_t hK (aH.out _ iP) fun hHeld=>?_
   clear hK K hV ho;have fF:=bM.1;have EX:R < o6:=by have:=aZ.out; have:=dA.1; omega
   have aT:PlV V6 (fun b=>R < b/\b ≠ o6) (qi l f g) _:=(aT.xo.ext dK).mono fun b hb=>by have:=hb.1; have:=hb.2; have:=aZ.out; omega
   have dA:=dA.ext dK;refine r_1 5 fun K hK=>?_
   go_simp;obtain ⟨V5,o5,hV,ho,bU,iQ,iw,kS,bg,dL⟩:=z_b iP
   try rw [hV]
   try rw [ho]
   refine k_t hK (aH.out _ iQ) fun hHeld=>?_
   clear hK K hV ho;have fG:=bU.1;have EY:R < o5:=by have:=bg.out; have:=dA.1; omega
   have bu:o5 ≠ o6:=by have:=bg.out; have:=bM.1; omega
   have bM:=bM.ext dL;have fF:=bM.1;have aT:PlV V5 (fun b=>R < b/\b ≠ o5/\b ≠ o6) (qi l f g) _:=(aT.xo.ext dL).mono fun b hb=>by have:=hb.1; have:=hb.2; have:=bg.out; omega
   have dA:=dA.ext dL;have yE:=iQ;have fH:=bU;have jX:=bM;have lw:=aT;have JW:=dA;have fK:o5 ≠ o6:=bu
 case' cx5 =>
  go_simp;obtain ⟨V5,o5,hV,ho,bU,iQ,iw,kS,bg,dL⟩:=z_d yp
  try rw [hV]
  try rw [ho]
  refine k_t hK (aH.out _ iQ) fun hHeld=>?_
  clear hK K hV ho;have fG:=bU.1;have EY:R < o5:=by have:=bg.out; have:=hRp; omega
  have dA:=rp.ext dL;refine r_2 4 6 (fun K hK=>?c5x4) fun K hK=>?c5x6
  case' c5x4 =>
   go_simp
   go_at_call 160
   refine (HR.out _ (HX.out.trans iQ)).mono ?_;rintro e w5 ⟨v5,rfl,aT,x5⟩;have yr:=iQ.trans x5;obtain ⟨D0,j2,k2,D1,k3,rfl,-⟩:=id aT.open_;unfold plV;refine k_t hK (aH.out _ yr) fun hHeld=>?_
   clear hK K;have bU:=bU.ext x5;have aT:PlV w5 (fun b=>R < b/\b ≠ o5) (qi l f g) _:=aT.mono fun b hb=>by have:=dA.1; have:=fG; omega
   have dA:=dA.ext x5;refine r_1 6 fun K hK=>?_
   go_simp;obtain ⟨V6,o6,hV,ho,bM,iP,ik,kR,aZ,dK⟩:=z_b yr
   try rw [hV]
   try rw [ho]
   refine k_t hK (aH.out _ iP) fun hHeld=>?_
   clear hK K hV ho;have fF:=bM.1;have EX:R < o6:=by have:=aZ.out; have:=dA.1; omega
   have bu:o5 ≠ o6:=by have:=aZ.out; have:=bU.1; omega
   have bU:=bU.ext dK;have fG:=bU.1;have aT:PlV V6 (fun b=>R < b/\b ≠ o5/\b ≠ o6) (qi l f g) _:=(aT.xo.ext dK).mono fun b hb=>by have:=hb.1; have:=hb.2; have:=aZ.out; omega
   have dA:=dA.ext dK;have yE:=iP;have fH:=bU;have jX:=bM;have lw:=aT;have JW:=dA;have fK:o5 ≠ o6:=bu
  case' c5x6 =>
   go_simp;obtain ⟨V6,o6,hV,ho,bM,iP,ik,kR,aZ,dK⟩:=z_b iQ
   try rw [hV]
   try rw [ho]
   refine k_t hK (aH.out _ iP) fun hHeld=>?_
   clear hK K hV ho;have fF:=bM.1;have EX:R < o6:=by have:=aZ.out; have:=dA.1; omega
   have bu:o5 ≠ o6:=by have:=aZ.out; have:=bU.1; omega
   have bU:=bU.ext dK;have fG:=bU.1;have dA:=dA.ext dK;refine r_1 4 fun K hK=>?_
   go_simp
   go_at_call 160
   refine (HR.out _ (HX.out.trans iP)).mono ?_;rintro e w5 ⟨v5,rfl,aT,x5⟩;have yr:=iP.trans x5;obtain ⟨D0,j2,k2,D1,k3,rfl,-⟩:=id aT.open_;unfold plV;refine k_t hK (aH.out _ yr) fun hHeld=>?_
   clear hK K;have bU:=bU.ext x5;have bM:=bM.ext x5;have aT:PlV w5 (fun b=>R < b/\b ≠ o5/\b ≠ o6) (qi l f g) _:=aT.mono fun b hb=>by have:=dA.1; have:=fG; have:=fF; omega
   have dA:=dA.ext x5;have yE:=yr;have fH:=bU;have jX:=bM;have lw:=aT;have JW:=dA;have fK:o5 ≠ o6:=bu
 case' cx6 =>
  go_simp;obtain ⟨V6,o6,hV,ho,bM,iP,ik,kR,aZ,dK⟩:=z_d yp
  try rw [hV]
  try rw [ho]
  refine k_t hK (aH.out _ iP) fun hHeld=>?_
  clear hK K hV ho;have fF:=bM.1;have EX:R < o6:=by have:=aZ.out; have:=hRp; omega
  have dA:=rp.ext dK;refine r_2 4 5 (fun K hK=>?c6x4) fun K hK=>?c6x5
  case' c6x4 =>
   go_simp
   go_at_call 160
   refine (HR.out _ (HX.out.trans iP)).mono ?_;rintro e w5 ⟨v5,rfl,aT,x5⟩;have yr:=iP.trans x5;obtain ⟨D0,j2,k2,D1,k3,rfl,-⟩:=id aT.open_;unfold plV;refine k_t hK (aH.out _ yr) fun hHeld=>?_
   clear hK K;have bM:=bM.ext x5;have aT:PlV w5 (fun b=>R < b/\b ≠ o6) (qi l f g) _:=aT.mono fun b hb=>by have:=dA.1; have:=fF; omega
   have dA:=dA.ext x5;refine r_1 5 fun K hK=>?_
   go_simp;obtain ⟨V5,o5,hV,ho,bU,iQ,iw,kS,bg,dL⟩:=z_b yr
   try rw [hV]
   try rw [ho]
   refine k_t hK (aH.out _ iQ) fun hHeld=>?_
   clear hK K hV ho;have fG:=bU.1;have EY:R < o5:=by have:=bg.out; have:=dA.1; omega
   have bu:o5 ≠ o6:=by have:=bg.out; have:=bM.1; omega
   have bM:=bM.ext dL;have fF:=bM.1;have aT:PlV V5 (fun b=>R < b/\b ≠ o5/\b ≠ o6) (qi l f g) _:=(aT.xo.ext dL).mono fun b hb=>by have:=hb.1; have:=hb.2; have:=bg.out; omega
   have dA:=dA.ext dL;have yE:=iQ;have fH:=bU;have jX:=bM;have lw:=aT;have JW:=dA;have fK:o5 ≠ o6:=bu
  case' c6x5 =>
   go_simp;obtain ⟨V5,o5,hV,ho,bU,iQ,iw,kS,bg,dL⟩:=z_b iP
   try rw [hV]
   try rw [ho]
   refine k_t hK (aH.out _ iQ) fun hHeld=>?_
   clear hK K hV ho;have fG:=bU.1;have EY:R < o5:=by have:=bg.out; have:=dA.1; omega
   have bu:o5 ≠ o6:=by have:=bg.out; have:=bM.1; omega
   have bM:=bM.ext dL;have fF:=bM.1;have dA:=dA.ext dL;refine r_1 4 fun K hK=>?_
   go_simp
   go_at_call 160
   refine (HR.out _ (HX.out.trans iQ)).mono ?_;rintro e w5 ⟨v5,rfl,aT,x5⟩;have yr:=iQ.trans x5;obtain ⟨D0,j2,k2,D1,k3,rfl,-⟩:=id aT.open_;unfold plV;refine k_t hK (aH.out _ yr) fun hHeld=>?_
   clear hK K;have bU:=bU.ext x5;have bM:=bM.ext x5;have aT:PlV w5 (fun b=>R < b/\b ≠ o5/\b ≠ o6) (qi l f g) _:=aT.mono fun b hb=>by have:=dA.1; have:=fG; have:=fF; omega
   have dA:=dA.ext x5;have yE:=yr;have fH:=bU;have jX:=bM;have lw:=aT;have JW:=dA;have fK:o5 ≠ o6:=bu
 all_goals
  have WS:=HX.out.size;obtain ⟨P,hP⟩:=n_m (qi l f g);rw [hP] at lw ⊢;have Dx:=hid hP;have Nz:=PQ.out;have Ap:=Ey.out;have VZ:=oh.out;have Nj:=VN.out;rw [hP] at Nz Ap VZ Nj;have adB:=hid Nz;have VM:=hid Nj;rw [nM.out] at Ap;clear hP PQ Ey oh VN Nz Nj;have KU:=fH.2.1;obtain ⟨Z0,zn,zc,Z1,wH,⟨g0,g1,g2,g3⟩,-⟩:=fH.2.2;have TC:PlV _ (fun b=>b < w.heap.size) g (plV g (.slice A1 m1 e1) (.slice B1 g.cs.length f1)):=(H1.out.xo.mono fun b hb=>hb.2).ext (HX.out.trans yE);refine r_1 7 fun K hK=>?_
  go_simp;clear g0 g1 g2 g3 KU;have tH:=fH.Vn g.lv g.neg A1 B1 m1 e1 g.cs.length f1;refine xu (P:=fun V7=>Ext W V7/\PBx V7 (fun b=>b < w.heap.size) o5 g/\PBx V7 (fun _=>False) o6 Pl.zero/\PlV V7 (fun b=>R < b/\b ≠ o6) P _/\xh V7 (fun _=>False) R (List.replicate 1 Pl.zero)) ⟨(((yE.setCell iw _).setCell iw _).setCell iw _).setCell iw _,fH.store (TC.mono fun b hb=>⟨hb,by omega⟩),tH.Kb jX fK.symm (fun b hb=>hb.elim),(tH.pl lw (fun b hb=>by (try dsimp only at hb); omega)).mono (fun b hb=>by (try dsimp only at hb); constructor <;> omega),tH.row JW (by omega) (fun b hb=>hb.elim)⟩ (fun V7 mf=>?_);obtain ⟨y7,Ut,zH,EU,hr7⟩:=mf;refine k_t hK (aH.out _ y7) fun hHeld=>?_
  clear hK K;have KT:=zH.2.1;obtain ⟨Z2,YX,DV,Z3,YY,⟨g0,g1,g2,g3⟩,-⟩:=zH.2.2;refine r_1 8 fun K hK=>?_
  go_simp;clear g0 g1 g2 g3 KT;have zV:=zH.Vn P.lv P.neg D0 D1 j2 k2 P.cs.length k3;refine xu (P:=fun V8=>Ext W V8/\PBx V8 (fun b=>b < w.heap.size) o5 g/\PBx V8 (fun b=>R < b) o6 P/\xh V8 (fun _=>False) R (List.replicate 1 Pl.zero)) ⟨(((y7.setCell ik _).setCell ik _).setCell ik _).setCell ik _,zV.Kb Ut fK (fun b hb=>by omega),zH.store EU,zV.row hr7 (by omega) (fun b hb=>hb.elim)⟩ (fun V8 qV=>?_);obtain ⟨y8,Ir,AZ,hr8⟩:=qV;refine hK.out _ _ (aH.out _ y8) (fun hHeld=>?_);clear hK K;refine w_d ?_;have YV:=hid Ir;have PT:=hid AZ;have HR8:=hid hr8;have Y8:=hid y8;have Je:=hid fK;clear Ir AZ hr8 y8 fK zV tH Ut zH EU hr7 y7 fH jX lw JW yE TC Z0 zn zc Z1 wH Z2 YX DV Z3 YY;go_wp2_with fail
  go_loopw [15] (fun u wr=>u=undef/\wr=V8) (fun _ _=>0)
  case atStart=>exact ⟨rfl,rfl⟩
  case round =>
   obtain ⟨rfl,rfl⟩:=hrel;obtain ⟨yQ,KU,E0,en0,zW,E1,rG,ba,pa⟩:=YV.out;obtain ⟨Oj,KT,F0,fn0,UY,F1,UX,bb,pb⟩:=PT.out;have PA:=hid pa;have PB:=hid pb;have zY:Hid (∀ W',Ext wr W'->(Ext wr W'/\(jb W' o5 g (.slice E0 en0 zW) (.slice E1 g.cs.length rG))/\(jb W' o6 P (.slice F0 fn0 UY) (.slice F1 P.cs.length UX)))):=hid (fun W' hx=>⟨hx,ba.ext hx yQ,bb.ext hx Oj⟩);have z0:Ext wr wr.drew:=(Ext.refl wr).drew;have adA:=nM.out;clear ba bb pa pb KU KT hHeld;go_upto_region 4 with fail;refine wp_region_held_drew (S:=fun W'=>Ext wr W'/\(jb W' o5 g (.slice E0 en0 zW) (.slice E1 g.cs.length rG))/\(jb W' o6 P (.slice F0 fn0 UY) (.slice F1 P.cs.length UX))) (by kernel_rfl) (zY.out _ z0) (fun hHeld=>?_);refine tk 0 ?_ (hy:=Or.inl ⟨by rfl,by intro w' aP; obtain ⟨-,⟨k0,k1,k2,k3⟩,k4,k5,k6,k7⟩:=aP; go_simp; (try (with_reducible rfl))⟩);refine tk 1 ?_;refine tk 3 ?_ (hy:=Or.inl ⟨by rfl,by intro w' aP; obtain ⟨-,⟨k0,k1,k2,k3⟩,k4,k5,k6,k7⟩:=aP; go_simp; (try (with_reducible rfl))⟩);refine tk 4 ?_;refine r_1 2 fun K hK=>?_
   go_simp
   go_at_call 109
   refine (HDA.out _ _ _ (PA.out.ext z0)).mono ?_;rintro e w8 ⟨rfl,x8⟩;have z1:=z0.trans x8;refine k_t hK (zY.out _ z1) fun hHeld=>?_
   clear hK K;refine r_1 5 fun K hK=>?_
   go_simp
   go_at_call 109
   refine (adB.out _ _ _ (PB.out.ext z1)).mono ?_;rintro e w9 ⟨rfl,x9⟩;have z2:=z1.trans x9;refine k_t hK (zY.out _ z2) fun hHeld=>?_
   clear hK K;refine tk 6 ?_;refine tk 7 ?_;refine w_d ?_;obtain ⟨-,-,k4,k5,k6,k7⟩:=hHeld;have Z2:=hid z2;have jL:=HR8.out.ext z2;obtain ⟨D,hD⟩:=n_m (mdg l P);rw [hD] at VZ Ap VM ⊢;clear hD z0 z1 z2 x8 x9 adA;have Gz:IntKind.i64.wrap (1 - 1)=0:=rfl;rcases (by omega:D=-1\/D=0) with rfl | rfl
   · have F8:=VM.out.1 rfl;have HF:Hid (kah (fun b=>w.heap.size<=b) [qi l f g] w (.returned (.slice (some ⟨R,0,none⟩) 1 1)) w9):=hid (by
      rw [Dx.out,F8]
      exact ⟨_,rfl,⟨_,_,rfl,by simp,by omega,fun _=>⟨R,rfl,by have:=Pq.out; omega,jL.mono fun b hb=>hb.elim⟩⟩,HX.out.trans (Y8.out.trans Z2.out)⟩)
     clear k4 k5 k6 k7 jL F8;go_wp2_with fail;go_ret;exact HF.out
   · have zQ:=jL.2.1;obtain ⟨R0,rn0,rc0,R1,rn1,rc1,⟨r0,r1,r2,r3⟩,-⟩:=jL.el 0 (by simp);have uZ:PlV w9 (fun b=>(w.heap.size<=b)/\b ≠ R) P (plV P (.slice F0 fn0 UY) (.slice F1 P.cs.length UX)):=(PB.out.ext Z2.out).mono fun b hb=>by have:=Pq.out; (try dsimp only at hb); exact ⟨by omega,by omega⟩
     have aU:=(jL.mono (q':=fun b=>w.heap.size<=b) fun b hb=>hb.elim).xD 0 (by simp) P uZ;simp only [sY,rh,List.replicate_one,uv] at r0 r1 r2 r3 aU;obtain ⟨V9,qC⟩:=n_m (((((w9.setCell ⟨R,0,none⟩ (.int .i64 P.lv)).setCell ⟨R,1,none⟩ (.bool P.neg)).setCell ⟨R,2,none⟩ (.slice F0 fn0 UY)).setCell ⟨R,3,none⟩ (.slice F1 P.cs.length UX)));rw [qC] at aU;have mg:w.heap.size<=R:=by have:=Pq.out; omega
     have PZ:Ext w V9:=by rw [<- qC]; exact ((((HX.out.trans (Y8.out.trans Z2.out)).setCell mg _).setCell mg _).setCell mg _).setCell mg _
     have HF:Hid (∀ W',Ext V9 W'->kah (fun b=>w.heap.size<=b) [qi l f g] w (.returned (.slice (some ⟨R,0,none⟩) 1 1)) W'):=hid (fun W' hx=>by
      rw [Dx.out]
      exact ⟨_,rfl,⟨_,_,rfl,by simp,by omega,fun _=>⟨R,rfl,mg,aU.1.ext hx⟩⟩,PZ.trans hx⟩)
     have Zm:jb V9 o6 P (.slice F0 fn0 UY) (.slice F1 P.cs.length UX):=by
      have ax:o6 ≠ R:=by omega
      have kk:∀ j,V9.cell? ⟨o6,j,none⟩=w9.cell? ⟨o6,j,none⟩:=fun j=>pB (by rw [<- qC]; exact gab _ _ _ _ _ _ _ ax)
      exact ⟨(kk 0).trans k4,(kk 1).trans k5,(kk 2).trans k6,(kk 3).trans k7⟩
     have ax:¬ o6=R:=by omega
     clear aU jL uZ PZ;go_upto_region 8 with fail
     try rw [qC]
     obtain ⟨j4,j5,j6,j7⟩:=Zm;clear qC k4 k5 k6 k7 r0 r1 r2 r3;go_wp2_with fail;go_ret;exact HF.out _ ((Ext.refl _).alloc _)
end Go.Proofs.YtcepajijiabkmaaGreat
