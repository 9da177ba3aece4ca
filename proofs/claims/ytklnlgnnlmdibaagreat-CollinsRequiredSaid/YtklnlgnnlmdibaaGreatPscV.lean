/- Layer 25: descend, Chain and Psc where the smaller degree is 1. -/
import Derived.Test.YtklnlgnnlmdibaaGreatMq35
import Derived.Test.YtklnlgnnlmdibaaGreatMq25
set_option linter.unusedSimpArgs false
set_option linter.unusedVariables false

set_option maxRecDepth 100000
set_option maxHeartbeats 8000000
namespace Go.Proofs.YtklnlgnnlmdibaaGreat
open Lib (hid)
open Go.RowKit
theorem xbk {w:World} {q0 q1:Nat->Prop} {f g:Pl} {l m:Int} {E D Eg Dg:Nat} (v0 v1:Value) (hl:1<=l) (ag:l<=4) (h0:PlV w q0 f v0) (h1:PlV w q1 g v1) (hf:Fit f E D) (hg:Fit g Eg Dg) (hm:1<=m) (uD:m<=E) (nD:mdg l g=1) (hE:E+(E+1) * Eg+Eg<=62) (hD:D+(E+1) * (Dg+3)+1<=1099511627776) :
 Calls Tryz.prog 125 #[v0,v1,.int .i64 l,.int .i64 m,.int .i64 1] w (gag (fun b=>w.heap.size<=b) [zi l f g] w):=by
 have H0:=hid h0;have H1:=hid h1;obtain ⟨A0,m0,e0,B0,f0,rfl,-⟩:=h0.open_;obtain ⟨A1,m1,e1,B1,f1,rfl,-⟩:=h1.open_;obtain ⟨DJ,W,fU,jY,fD,aC,bU,hx1,aV,aX⟩:=b_2 w f g (.slice A0 m0 e0) (.slice B0 f.cs.length f0) (.slice A1 m1 e1) (.slice B1 g.cs.length f1);have HX:=hid (aC.trans hx1);have dC:=hid aV;have dG:=hid aX;have eQ:W.heap.size=w.heap.size+1+1:=bU;clear h0 h1 aC hx1 aV aX;have Py:=Nat.mul_le_mul_right (Dg+3) (show 1<=E+1 by omega);have hEg:=Nat.mul_le_mul_right Eg (show 1<=E+1 by omega);have bI:g ≠ Pl.zero:=vag (l:=l) (by omega);have hme:((m - 1).toNat+1) * Eg<=900:=by
  have:=Nat.mul_le_mul_right Eg (show (m - 1).toNat+1<=E by omega);have:=Nat.mul_le_mul_right Eg (show E<=E+1 by omega);omega
 have SL:((m - 1).toNat+1) * Dg<=4398046511000:=by
  have:=Nat.mul_le_mul (show (m - 1).toNat+1<=E+1 by omega) (show Dg<=Dg+3 by omega);omega
 have HL:=hid (fun (W':World) (hx:Ext w W')=>kaf _ hl ag hg (by omega) (by omega) (H1.out.ext hx));have HP:=hid (fun (W':World) (q:Nat->Prop) (u:Value) (hu:PlV W' q (ui l g) u)=>xak (n:=m - 1) u hu (vaf (l:=l) hg) hme SL (by omega));obtain ⟨PW,hPW⟩:=n_m ((ui l g).pow (m - 1).toNat);rw [hPW] at HP;clear hPW;have HR:=hid (fun (W':World) (hx:Ext w W')=>ka9 _ _ hl ag (H0.out.ext hx) (H1.out.ext hx) hf hg bI hE hD);have kG:=gaj hl ag hf hg (by have:B32=4294967296:=rfl; omega);have Qj:=hid (fun (W':World) (q:Nat->Prop) (u:Value) (hu:PlV W' q (zi l f g) u)=>zad (l:=l) u (qx l f g) (kG.copy_ (by omega)) (by have:=kG.dm; omega) hu);have HDA:=hid (fun (W':World) (q:Nat->Prop) (u:Value) (hu:PlV W' q g u)=>zad (l:=l) u hg.can (hg.copy_ (by omega)) (by have:=hg.dm; omega) hu);have mO:=hid nD;have EO:=hid (xay hl ag hf.can hg.can bI);have oI:=hid (xbq (l:=l) (zi l f g));have Wy:=hid (uas (l:=l) (qx l f g));have QM:IntKind.i64.wrap (m - 1)=m - 1:=by rw [IntKind.wrap_i64]; omega
 obtain ⟨Wm,cu,iI,SG,ae⟩:=uw 1 (by omega) (by omega) W;rw [show (1:Int).toNat=1 from rfl] at cu ae;rw [eQ] at cu ae;have Ap:=hid (HX.out.trans iI);have WB:=hid (ae (fun _=>False));obtain ⟨b0,b1,b2,b3⟩:=dG.out.ext iI (by omega);clear Py hEg bI hme SL kG nD hf hg hE hD ae;unfold plV at HL HR ⊢;go_enter Tryz.func125,Tryz.ntmps125;go_wp2_with fail;clear fU jY;clear cu b0 b1 b2 b3;refine (HL.out _ Ap.out).mono ?_;rintro e w3 ⟨v3,rfl,p3,x3⟩;have CG:=HP.out _ _ _ p3;have y3:Ext W w3:=iI.trans x3;have r3:=WB.out.ext x3;clear x3 iI SG Ap WB HL HP p3;go_wp2_with fail;refine CG.mono ?_;rintro e w4 ⟨v4,rfl,p4,x4⟩;obtain ⟨C0,j0,k0,C1,k1,rfl,-⟩:=id p4.open_;have y4:=y3.trans x4;have r4:=r3.ext x4;clear x4 y3 r3 p4 CG;obtain ⟨R,hR⟩:=n_m (w.heap.size+1+1);rw [hR] at r4 ⊢;have Yx:R=W.heap.size:=by omega
 have PQ:=hid Yx;clear hR Yx;unfold plV;obtain ⟨Wp,xU⟩:=n_m ((w4.alloc (.cells #[.int .i64 PW.lv,.bool PW.neg,.slice C0 j0 k0,.slice C1 PW.cs.length k1] 35)));have yp:Ext W Wp:=by rw [<- xU]; exact y4.alloc _
 have rp:=r4.ext (by rw [<- xU]; exact (Ext.refl w4).alloc _:Ext w4 Wp);have hRp:R < Wp.heap.size:=rp.1;clear y4 r4;have aG:Hid (∀ W',Ext W W'->(Ext W W'/\(jb W' (w.heap.size) f (.slice A0 m0 e0) (.slice B0 f.cs.length f0))/\(jb W' (w.heap.size+1) g (.slice A1 m1 e1) (.slice B1 g.cs.length f1)))):=hid (fun W' hx=>⟨hx,dC.out.ext hx (by omega),dG.out.ext hx (by omega)⟩);go_upto_region 3 with fail;clear xU;have DL:=hid eQ;clear eQ fD bU;have y0:Ext W Wp.drew:=yp.drew;have rp0:=rp.ext (Ext.refl Wp).drew;refine wp_region_held_drew (S:=fun W'=>Ext W W'/\(jb W' (w.heap.size) f (.slice A0 m0 e0) (.slice B0 f.cs.length f0))/\(jb W' (w.heap.size+1) g (.slice A1 m1 e1) (.slice B1 g.cs.length f1))) (by kernel_rfl) (aG.out _ y0) (fun hHeld=>?_);refine tk 0 ?_ (hy:=Or.inl ⟨by rfl,by intro w' aK; obtain ⟨-,⟨k0,k1,k2,k3⟩,k4,k5,k6,k7⟩:=aK; go_simp; (try (with_reducible rfl))⟩);refine tk 1 ?_ (hy:=Or.inl ⟨by rfl,by intro w' aK; obtain ⟨-,⟨k0,k1,k2,k3⟩,k4,k5,k6,k7⟩:=aK; go_simp; (try (with_reducible rfl))⟩);refine tk 2 ?_ (hy:=Or.inl ⟨by rfl,by intro w' aK; obtain ⟨-,⟨k0,k1,k2,k3⟩,k4,k5,k6,k7⟩:=aK; go_simp; (try (with_reducible rfl))⟩);refine tk 3 ?_;refine wpAnyH_ready (rs:=[4,5,6]) (by kernel_rfl) (by simp) ?_;refine AllReadyH.cons rfl (fun K hK=>?cx4) (AllReadyH.cons rfl (fun K hK=>?cx5) (AllReadyH.cons rfl (fun K hK=>?cx6) AllReadyH.nil))
 case' cx4 =>
  go_simp
  go_at_call 139
  refine (HR.out _ (HX.out.trans y0)).mono ?_;rintro e w5 ⟨v5,rfl,aP,x5⟩;have yr:=y0.trans x5;obtain ⟨D0,j2,k2,D1,k3,rfl,-⟩:=id aP.open_;unfold plV;refine k_t hK (aG.out _ yr) fun hHeld=>?_
  clear hK K;have aP:PlV w5 (fun b=>R < b) (zi l f g) _:=aP.mono fun b hb=>by have:=rp0.1; omega
  have di:=rp0.ext x5;refine r_2 5 6 (fun K hK=>?c4x5) fun K hK=>?c4x6
  case' c4x5 =>
   go_simp;obtain ⟨V5,o5,hV,ho,bZ,iP,iw,kK,bu,dK⟩:=z_b yr
   try rw [hV]
   try rw [ho]
   refine k_t hK (aG.out _ iP) fun hHeld=>?_
   clear hK K hV ho;have fM:=bZ.1;have FB:R < o5:=by have:=bu.out; have:=di.1; omega
   have aP:PlV V5 (fun b=>R < b/\b ≠ o5) (zi l f g) _:=(aP.below_.ext dK).mono fun b hb=>by have:=hb.1; have:=hb.2; have:=bu.out; omega
   have di:=di.ext dK;refine r_1 6 fun K hK=>?_
   go_simp;obtain ⟨V6,o6,hV,ho,bT,iO,ik,kJ,bg,dJ⟩:=z_b iP
   try rw [hV]
   try rw [ho]
   refine k_t hK (aG.out _ iO) fun hHeld=>?_
   clear hK K hV ho;have fK:=bT.1;have Fz:R < o6:=by have:=bg.out; have:=di.1; omega
   have bC:o5 ≠ o6:=by have:=bg.out; have:=bZ.1; omega
   have bZ:=bZ.ext dJ;have fM:=bZ.1;have aP:PlV V6 (fun b=>R < b/\b ≠ o5/\b ≠ o6) (zi l f g) _:=(aP.below_.ext dJ).mono fun b hb=>by have:=hb.1; have:=hb.2; have:=bg.out; omega
   have di:=di.ext dJ;have yE:=iO;have fO:=bZ;have jS:=bT;have lh:=aP;have Kw:=di;have fP:o5 ≠ o6:=bC
  case' c4x6 =>
   go_simp;obtain ⟨V6,o6,hV,ho,bT,iO,ik,kJ,bg,dJ⟩:=z_b yr
   try rw [hV]
   try rw [ho]
   refine k_t hK (aG.out _ iO) fun hHeld=>?_
   clear hK K hV ho;have fK:=bT.1;have Fz:R < o6:=by have:=bg.out; have:=di.1; omega
   have aP:PlV V6 (fun b=>R < b/\b ≠ o6) (zi l f g) _:=(aP.below_.ext dJ).mono fun b hb=>by have:=hb.1; have:=hb.2; have:=bg.out; omega
   have di:=di.ext dJ;refine r_1 5 fun K hK=>?_
   go_simp;obtain ⟨V5,o5,hV,ho,bZ,iP,iw,kK,bu,dK⟩:=z_b iO
   try rw [hV]
   try rw [ho]
   refine k_t hK (aG.out _ iP) fun hHeld=>?_
   clear hK K hV ho;have fM:=bZ.1;have FB:R < o5:=by have:=bu.out; have:=di.1; omega
   have bC:o5 ≠ o6:=by have:=bu.out; have:=bT.1; omega
   have bT:=bT.ext dK;have fK:=bT.1;have aP:PlV V5 (fun b=>R < b/\b ≠ o5/\b ≠ o6) (zi l f g) _:=(aP.below_.ext dK).mono fun b hb=>by have:=hb.1; have:=hb.2; have:=bu.out; omega
   have di:=di.ext dK;have yE:=iP;have fO:=bZ;have jS:=bT;have lh:=aP;have Kw:=di;have fP:o5 ≠ o6:=bC
 case' cx5 =>
  go_simp;obtain ⟨V5,o5,hV,ho,bZ,iP,iw,kK,bu,dK⟩:=z_d yp
  try rw [hV]
  try rw [ho]
  refine k_t hK (aG.out _ iP) fun hHeld=>?_
  clear hK K hV ho;have fM:=bZ.1;have FB:R < o5:=by have:=bu.out; have:=hRp; omega
  have di:=rp.ext dK;refine r_2 4 6 (fun K hK=>?c5x4) fun K hK=>?c5x6
  case' c5x4 =>
   go_simp
   go_at_call 139
   refine (HR.out _ (HX.out.trans iP)).mono ?_;rintro e w5 ⟨v5,rfl,aP,x5⟩;have yr:=iP.trans x5;obtain ⟨D0,j2,k2,D1,k3,rfl,-⟩:=id aP.open_;unfold plV;refine k_t hK (aG.out _ yr) fun hHeld=>?_
   clear hK K;have bZ:=bZ.ext x5;have aP:PlV w5 (fun b=>R < b/\b ≠ o5) (zi l f g) _:=aP.mono fun b hb=>by have:=di.1; have:=fM; omega
   have di:=di.ext x5;refine r_1 6 fun K hK=>?_
   go_simp;obtain ⟨V6,o6,hV,ho,bT,iO,ik,kJ,bg,dJ⟩:=z_b yr
   try rw [hV]
   try rw [ho]
   refine k_t hK (aG.out _ iO) fun hHeld=>?_
   clear hK K hV ho;have fK:=bT.1;have Fz:R < o6:=by have:=bg.out; have:=di.1; omega
   have bC:o5 ≠ o6:=by have:=bg.out; have:=bZ.1; omega
   have bZ:=bZ.ext dJ;have fM:=bZ.1;have aP:PlV V6 (fun b=>R < b/\b ≠ o5/\b ≠ o6) (zi l f g) _:=(aP.below_.ext dJ).mono fun b hb=>by have:=hb.1; have:=hb.2; have:=bg.out; omega
   have di:=di.ext dJ;have yE:=iO;have fO:=bZ;have jS:=bT;have lh:=aP;have Kw:=di;have fP:o5 ≠ o6:=bC
  case' c5x6 =>
   go_simp;obtain ⟨V6,o6,hV,ho,bT,iO,ik,kJ,bg,dJ⟩:=z_b iP
   try rw [hV]
   try rw [ho]
   refine k_t hK (aG.out _ iO) fun hHeld=>?_
   clear hK K hV ho;have fK:=bT.1;have Fz:R < o6:=by have:=bg.out; have:=di.1; omega
   have bC:o5 ≠ o6:=by have:=bg.out; have:=bZ.1; omega
   have bZ:=bZ.ext dJ;have fM:=bZ.1;have di:=di.ext dJ;refine r_1 4 fun K hK=>?_
   go_simp
   go_at_call 139
   refine (HR.out _ (HX.out.trans iO)).mono ?_;rintro e w5 ⟨v5,rfl,aP,x5⟩;have yr:=iO.trans x5;obtain ⟨D0,j2,k2,D1,k3,rfl,-⟩:=id aP.open_;unfold plV;refine k_t hK (aG.out _ yr) fun hHeld=>?_
   clear hK K;have bZ:=bZ.ext x5;have bT:=bT.ext x5;have aP:PlV w5 (fun b=>R < b/\b ≠ o5/\b ≠ o6) (zi l f g) _:=aP.mono fun b hb=>by have:=di.1; have:=fM; have:=fK; omega
   have di:=di.ext x5;have yE:=yr;have fO:=bZ;have jS:=bT;have lh:=aP;have Kw:=di;have fP:o5 ≠ o6:=bC
 case' cx6 =>
  go_simp;obtain ⟨V6,o6,hV,ho,bT,iO,ik,kJ,bg,dJ⟩:=z_d yp
  try rw [hV]
  try rw [ho]
  refine k_t hK (aG.out _ iO) fun hHeld=>?_
  clear hK K hV ho;have fK:=bT.1;have Fz:R < o6:=by have:=bg.out; have:=hRp; omega
  have di:=rp.ext dJ;refine r_2 4 5 (fun K hK=>?c6x4) fun K hK=>?c6x5
  case' c6x4 =>
   go_simp
   go_at_call 139
   refine (HR.out _ (HX.out.trans iO)).mono ?_;rintro e w5 ⟨v5,rfl,aP,x5⟩;have yr:=iO.trans x5;obtain ⟨D0,j2,k2,D1,k3,rfl,-⟩:=id aP.open_;unfold plV;refine k_t hK (aG.out _ yr) fun hHeld=>?_
   clear hK K;have bT:=bT.ext x5;have aP:PlV w5 (fun b=>R < b/\b ≠ o6) (zi l f g) _:=aP.mono fun b hb=>by have:=di.1; have:=fK; omega
   have di:=di.ext x5;refine r_1 5 fun K hK=>?_
   go_simp;obtain ⟨V5,o5,hV,ho,bZ,iP,iw,kK,bu,dK⟩:=z_b yr
   try rw [hV]
   try rw [ho]
   refine k_t hK (aG.out _ iP) fun hHeld=>?_
   clear hK K hV ho;have fM:=bZ.1;have FB:R < o5:=by have:=bu.out; have:=di.1; omega
   have bC:o5 ≠ o6:=by have:=bu.out; have:=bT.1; omega
   have bT:=bT.ext dK;have fK:=bT.1;have aP:PlV V5 (fun b=>R < b/\b ≠ o5/\b ≠ o6) (zi l f g) _:=(aP.below_.ext dK).mono fun b hb=>by have:=hb.1; have:=hb.2; have:=bu.out; omega
   have di:=di.ext dK;have yE:=iP;have fO:=bZ;have jS:=bT;have lh:=aP;have Kw:=di;have fP:o5 ≠ o6:=bC
  case' c6x5 =>
   go_simp;obtain ⟨V5,o5,hV,ho,bZ,iP,iw,kK,bu,dK⟩:=z_b iO
   try rw [hV]
   try rw [ho]
   refine k_t hK (aG.out _ iP) fun hHeld=>?_
   clear hK K hV ho;have fM:=bZ.1;have FB:R < o5:=by have:=bu.out; have:=di.1; omega
   have bC:o5 ≠ o6:=by have:=bu.out; have:=bT.1; omega
   have bT:=bT.ext dK;have fK:=bT.1;have di:=di.ext dK;refine r_1 4 fun K hK=>?_
   go_simp
   go_at_call 139
   refine (HR.out _ (HX.out.trans iP)).mono ?_;rintro e w5 ⟨v5,rfl,aP,x5⟩;have yr:=iP.trans x5;obtain ⟨D0,j2,k2,D1,k3,rfl,-⟩:=id aP.open_;unfold plV;refine k_t hK (aG.out _ yr) fun hHeld=>?_
   clear hK K;have bZ:=bZ.ext x5;have bT:=bT.ext x5;have aP:PlV w5 (fun b=>R < b/\b ≠ o5/\b ≠ o6) (zi l f g) _:=aP.mono fun b hb=>by have:=di.1; have:=fM; have:=fK; omega
   have di:=di.ext x5;have yE:=yr;have fO:=bZ;have jS:=bT;have lh:=aP;have Kw:=di;have fP:o5 ≠ o6:=bC
 all_goals
  have Xx:=HX.out.size;obtain ⟨P,hP⟩:=n_m (zi l f g);rw [hP] at lh ⊢;have wL:=hid hP;have N7:=Qj.out;have AB:=EO.out;have WP:=oI.out;have NJ:=Wy.out;rw [hP] at N7 AB WP NJ;have aeA:=hid N7;have Wx:=hid NJ;rw [mO.out] at AB;clear hP Qj EO oI Wy N7 NJ;have Lu:=fO.2.1;obtain ⟨Z0,zn,zc,Z1,uT,⟨g0,g1,g2,g3⟩,-⟩:=fO.2.2;have Ub:PlV _ (fun b=>b < w.heap.size) g (plV g (.slice A1 m1 e1) (.slice B1 g.cs.length f1)):=(H1.out.below_.mono fun b hb=>hb.2).ext (HX.out.trans yE);refine r_1 7 fun K hK=>?_
  go_simp;clear g0 g1 g2 g3 Lu;have tN:=fO.frr g.lv g.neg A1 B1 m1 e1 g.cs.length f1;refine xu (P:=fun V7=>Ext W V7/\PBx V7 (fun b=>b < w.heap.size) o5 g/\PBx V7 (fun _=>False) o6 Pl.zero/\PlV V7 (fun b=>R < b/\b ≠ o6) P _/\xh V7 (fun _=>False) R (List.replicate 1 Pl.zero)) ⟨(((yE.setCell iw _).setCell iw _).setCell iw _).setCell iw _,fO.store (Ub.mono fun b hb=>⟨hb,by omega⟩),tN.pbx jS fP.symm (fun b hb=>hb.elim),(tN.pl lh (fun b hb=>by (try dsimp only at hb); omega)).mono (fun b hb=>by (try dsimp only at hb); constructor <;> omega),tN.row Kw (by omega) (fun b hb=>hb.elim)⟩ (fun V7 mf=>?_);obtain ⟨y7,UV,zM,Fq,hr7⟩:=mf;refine k_t hK (aG.out _ y7) fun hHeld=>?_
  clear hK K;have Lt:=zM.2.1;obtain ⟨Z2,ZV,Ef,Z3,ZW,⟨g0,g1,g2,g3⟩,-⟩:=zM.2.2;refine r_1 8 fun K hK=>?_
  go_simp;clear g0 g1 g2 g3 Lt;have Ad:=zM.frr P.lv P.neg D0 D1 j2 k2 P.cs.length k3;refine xu (P:=fun V8=>Ext W V8/\PBx V8 (fun b=>b < w.heap.size) o5 g/\PBx V8 (fun b=>R < b) o6 P/\xh V8 (fun _=>False) R (List.replicate 1 Pl.zero)) ⟨(((y7.setCell ik _).setCell ik _).setCell ik _).setCell ik _,Ad.pbx UV fP (fun b hb=>by omega),zM.store Fq,Ad.row hr7 (by omega) (fun b hb=>hb.elim)⟩ (fun V8 qX=>?_);obtain ⟨y8,Ja,Bj,hr8⟩:=qX;refine hK.out _ _ (aG.out _ y8) (fun hHeld=>?_);clear hK K;refine w_d ?_;have ZT:=hid Ja;have Qn:=hid Bj;have HR8:=hid hr8;have Y8:=hid y8;have wM:=hid fP;clear Ja Bj hr8 y8 fP Ad tN UV zM Fq hr7 y7 fO jS lh Kw yE Ub Z0 zn zc Z1 uT Z2 ZV Ef Z3 ZW;go_wp2_with fail
  go_loopw [15] (fun u wr=>u=undef/\wr=V8) (fun _ _=>0)
  case atStart=>exact ⟨rfl,rfl⟩
  case round =>
   obtain ⟨rfl,rfl⟩:=hrel;obtain ⟨CU,Lu,E0,en0,tV,E1,oQ,ba,pa⟩:=ZT.out;obtain ⟨OE,Lt,F0,fn0,Vx,F1,Vw,bb,pb⟩:=Qn.out;have PA:=hid pa;have PB:=hid pb;have Ah:Hid (∀ W',Ext wr W'->(Ext wr W'/\(jb W' o5 g (.slice E0 en0 tV) (.slice E1 g.cs.length oQ))/\(jb W' o6 P (.slice F0 fn0 Vx) (.slice F1 P.cs.length Vw)))):=hid (fun W' hx=>⟨hx,ba.ext hx CU,bb.ext hx OE⟩);have z0:Ext wr wr.drew:=(Ext.refl wr).drew;have aez:=mO.out;clear ba bb pa pb Lu Lt hHeld;go_upto_region 4 with fail;refine wp_region_held_drew (S:=fun W'=>Ext wr W'/\(jb W' o5 g (.slice E0 en0 tV) (.slice E1 g.cs.length oQ))/\(jb W' o6 P (.slice F0 fn0 Vx) (.slice F1 P.cs.length Vw))) (by kernel_rfl) (Ah.out _ z0) (fun hHeld=>?_);refine tk 0 ?_ (hy:=Or.inl ⟨by rfl,by intro w' aK; obtain ⟨-,⟨k0,k1,k2,k3⟩,k4,k5,k6,k7⟩:=aK; go_simp; (try (with_reducible rfl))⟩);refine tk 1 ?_;refine tk 3 ?_ (hy:=Or.inl ⟨by rfl,by intro w' aK; obtain ⟨-,⟨k0,k1,k2,k3⟩,k4,k5,k6,k7⟩:=aK; go_simp; (try (with_reducible rfl))⟩);refine tk 4 ?_;refine r_1 2 fun K hK=>?_
   go_simp
   go_at_call 21
   refine (HDA.out _ _ _ (PA.out.ext z0)).mono ?_;rintro e w8 ⟨rfl,x8⟩;have z1:=z0.trans x8;refine k_t hK (Ah.out _ z1) fun hHeld=>?_
   clear hK K;refine r_1 5 fun K hK=>?_
   go_simp
   go_at_call 21
   refine (aeA.out _ _ _ (PB.out.ext z1)).mono ?_;rintro e w9 ⟨rfl,x9⟩;have z2:=z1.trans x9;refine k_t hK (Ah.out _ z2) fun hHeld=>?_
   clear hK K;refine tk 6 ?_;refine tk 7 ?_;refine w_d ?_;obtain ⟨-,-,k4,k5,k6,k7⟩:=hHeld;have Z2:=hid z2;have jU:=HR8.out.ext z2;obtain ⟨D,hD⟩:=n_m (mdg l P);rw [hD] at WP AB Wx ⊢;clear hD z0 z1 z2 x8 x9 aez;have Hy:IntKind.i64.wrap (1 - 1)=0:=rfl;rcases (by omega:D=-1\/D=0) with rfl | rfl
   · have GG:=Wx.out.1 rfl;have HF:Hid (gag (fun b=>w.heap.size<=b) [zi l f g] w (.returned (.slice (some ⟨R,0,none⟩) 1 1)) w9):=hid (by
      rw [wL.out,GG]
      exact ⟨_,rfl,⟨_,_,rfl,by simp,by omega,fun _=>⟨R,rfl,by have:=PQ.out; omega,jU.mono fun b hb=>hb.elim⟩⟩,HX.out.trans (Y8.out.trans Z2.out)⟩)
     clear k4 k5 k6 k7 jU GG;go_wp2_with fail;go_ret;exact HF.out
   · have zX:=jU.2.1;obtain ⟨R0,rn0,rc0,R1,rn1,rc1,⟨r0,r1,r2,r3⟩,-⟩:=jU.el 0 (by simp);have qA:PlV w9 (fun b=>(w.heap.size<=b)/\b ≠ R) P (plV P (.slice F0 fn0 Vx) (.slice F1 P.cs.length Vw)):=(PB.out.ext Z2.out).mono fun b hb=>by have:=PQ.out; (try dsimp only at hb); exact ⟨by omega,by omega⟩
     have aU:=(jU.mono (q':=fun b=>w.heap.size<=b) fun b hb=>hb.elim).set_ 0 (by simp) P qA;simp only [Nat.zero_mul,Nat.zero_add,List.replicate_one,List.set_cons_zero] at r0 r1 r2 r3 aU;obtain ⟨V9,qF⟩:=n_m (((((w9.setCell ⟨R,0,none⟩ (.int .i64 P.lv)).setCell ⟨R,1,none⟩ (.bool P.neg)).setCell ⟨R,2,none⟩ (.slice F0 fn0 Vx)).setCell ⟨R,3,none⟩ (.slice F1 P.cs.length Vw)));rw [qF] at aU;have mg:w.heap.size<=R:=by have:=PQ.out; omega
     have Qp:Ext w V9:=by rw [<- qF]; exact ((((HX.out.trans (Y8.out.trans Z2.out)).setCell mg _).setCell mg _).setCell mg _).setCell mg _
     have HF:Hid (∀ W',Ext V9 W'->gag (fun b=>w.heap.size<=b) [zi l f g] w (.returned (.slice (some ⟨R,0,none⟩) 1 1)) W'):=hid (fun W' hx=>by
      rw [wL.out]
      exact ⟨_,rfl,⟨_,_,rfl,by simp,by omega,fun _=>⟨R,rfl,mg,aU.1.ext hx⟩⟩,Qp.trans hx⟩)
     have k46:jb V9 o6 P (.slice F0 fn0 Vx) (.slice F1 P.cs.length Vw):=by
      have ak:o6 ≠ R:=by omega
      have kk:∀ j,V9.cell? ⟨o6,j,none⟩=w9.cell? ⟨o6,j,none⟩:=fun j=>World.cell?_of_block (by rw [<- qF]; exact zac _ _ _ _ _ _ _ ak)
      exact ⟨(kk 0).trans k4,(kk 1).trans k5,(kk 2).trans k6,(kk 3).trans k7⟩
     have ak:¬ o6=R:=by omega
     clear aU jU qA Qp;go_upto_region 8 with fail
     try rw [qF]
     obtain ⟨j4,j5,j6,j7⟩:=k46;clear qF k4 k5 k6 k7 r0 r1 r2 r3;go_wp2_with fail;go_ret;exact HF.out _ ((Ext.refl _).alloc _)
end Go.Proofs.YtklnlgnnlmdibaaGreat
