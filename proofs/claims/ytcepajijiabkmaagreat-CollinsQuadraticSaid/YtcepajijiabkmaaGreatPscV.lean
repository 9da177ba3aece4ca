/- Layer 25: descend, Chain and Psc where the smaller degree is 1. -/
import Derived.Test.YtcepajijiabkmaaGreatMq34
import Derived.Test.YtcepajijiabkmaaGreatMq24
set_option linter.unusedSimpArgs false
set_option linter.unusedVariables false

set_option maxRecDepth 100000
set_option maxHeartbeats 8000000
namespace Go.Proofs.YtcepajijiabkmaaGreat
open Lib (hid)
open Go.RowKit
theorem ybn {w:World} {q0 q1:Nat->Prop} {f g:Pl} {l m:Int} {E D Eg Dg:Nat} (v0 v1:Value) (hl:1<=l) (aj:l<=4) (h0:PlV w q0 f v0) (h1:PlV w q1 g v1) (hf:Fit f E D) (hg:Fit g Eg Dg) (hm:1<=m) (rD:m<=E) (iH:mdg l g=1) (hE:E+(E+1) * Eg+Eg<=62) (hD:D+(E+1) * (Dg+3)+1<=1099511627776) :
 Calls Tryz.prog 158 #[v0,v1,.int .i64 l,.int .i64 m,.int .i64 1] w (qau (fun b=>w.heap.size<=b) [ul l f g] w):=by
 have H0:=hid h0;have H1:=hid h1;obtain ⟨A0,m0,e0,B0,f0,rfl,-⟩:=h0.open_;obtain ⟨A1,m1,e1,B1,f1,rfl,-⟩:=h1.open_;obtain ⟨Jy,W,fK,jI,iE,aF,bW,hx1,bU,cO⟩:=b_2 w f g (.slice A0 m0 e0) (.slice B0 f.cs.length f0) (.slice A1 m1 e1) (.slice B1 g.cs.length f1);have HX:=hid (aF.trans hx1);have fO:=hid bU;have fM:=hid cO;have jS:W.heap.size=w.heap.size+1+1:=bW;clear h0 h1 aF hx1 bU cO;have UN:=Nat.mul_le_mul_right (Dg+3) (show 1<=E+1 by omega);have YY:=Nat.mul_le_mul_right Eg (show 1<=E+1 by omega);have iy:g ≠ Pl.zero:=kat (l:=l) (by omega);have hme:((m - 1).toNat+1) * Eg<=900:=by
  have:=Nat.mul_le_mul_right Eg (show (m - 1).toNat+1<=E by omega);have:=Nat.mul_le_mul_right Eg (show E<=E+1 by omega);omega
 have OO:((m - 1).toNat+1) * Dg<=4398046511000:=by
  have:=Nat.mul_le_mul (show (m - 1).toNat+1<=E+1 by omega) (show Dg<=Dg+3 by omega);omega
 have HL:=hid (fun (W':World) (hx:Ext w W')=>xa5 _ hl aj hg (by omega) (by omega) (H1.out.ext hx));have HP:=hid (fun (W':World) (q:Nat->Prop) (u:Value) (hu:PlV W' q (wu l g) u)=>va2 (n:=m - 1) u hu (kbm (l:=l) hg) hme OO (by omega));obtain ⟨PW,hPW⟩:=n_m ((wu l g).pow (m - 1).toNat);rw [hPW] at HP;clear hPW;have HR:=hid (fun (W':World) (hx:Ext w W')=>ycp _ _ hl aj (H0.out.ext hx) (H1.out.ext hx) hf hg iy hE hD);have wR:=gaz hl aj hf hg (by have:B32=4294967296:=rfl; omega);have Tf:=hid (fun (W':World) (q:Nat->Prop) (u:Value) (hu:PlV W' q (ul l f g) u)=>jak (l:=l) u (yah l f g) (wR.copy_ (by omega)) (by have:=wR.dm; omega) hu);have HDA:=hid (fun (W':World) (q:Nat->Prop) (u:Value) (hu:PlV W' q g u)=>jak (l:=l) u hg.can (hg.copy_ (by omega)) (by have:=hg.dm; omega) hu);have nY:=hid iH;have J9:=hid (gbq hl aj hf.can hg.can iy);have nX:=hid (jc5 (l:=l) (ul l f g));have HMZ:=hid (gbc (l:=l) (yah l f g));have VV:IntKind.i64.wrap (m - 1)=m - 1:=by rw [IntKind.wrap_i64]; omega
 obtain ⟨Wm,dB,iw,W9,ae⟩:=qab 1 (by omega) (by omega) W;rw [show (1:Int).toNat=1 from rfl] at dB ae;rw [jS] at dB ae;have CO:=hid (HX.out.trans iw);have HMR:=hid (ae (fun _=>False));obtain ⟨b0,b1,b2,b3⟩:=fM.out.ext iw (by omega);clear UN YY iy hme OO wR iH hf hg hE hD ae;unfold plV at HL HR ⊢;go_enter Tryz.func158,Tryz.ntmps158;go_wp2_with fail;clear fK jI;clear dB b0 b1 b2 b3;refine (HL.out _ CO.out).mono ?_;rintro e w3 ⟨v3,rfl,p3,x3⟩;have Oj:=HP.out _ _ _ p3;have y3:Ext W w3:=iw.trans x3;have r3:=HMR.out.ext x3;clear x3 iw W9 CO HMR HL HP p3;go_wp2_with fail;refine Oj.mono ?_;rintro e w4 ⟨v4,rfl,p4,x4⟩;obtain ⟨C0,j0,k0,C1,k1,rfl,-⟩:=id p4.open_;have y4:=y3.trans x4;have r4:=r3.ext x4;clear x4 y3 r3 p4 Oj;obtain ⟨R,hR⟩:=n_m (w.heap.size+1+1);rw [hR] at r4 ⊢;have hRW:R=W.heap.size:=by omega
 have MC:=hid hRW;clear hR hRW;unfold plV;obtain ⟨Wp,Yw⟩:=n_m ((w4.alloc (.cells #[.int .i64 PW.lv,.bool PW.neg,.slice C0 j0 k0,.slice C1 PW.cs.length k1] 33)));have yp:Ext W Wp:=by rw [<- Yw]; exact y4.alloc _
 have rp:=r4.ext (by rw [<- Yw]; exact (Ext.refl w4).alloc _:Ext w4 Wp);have hRp:R < Wp.heap.size:=rp.1;clear y4 r4;have aN:Hid (∀ W',Ext W W'->(Ext W W'/\(jc W' (w.heap.size) f (.slice A0 m0 e0) (.slice B0 f.cs.length f0))/\(jc W' (w.heap.size+1) g (.slice A1 m1 e1) (.slice B1 g.cs.length f1)))):=hid (fun W' hx=>⟨hx,fO.out.ext hx (by omega),fM.out.ext hx (by omega)⟩);go_upto_region 3 with fail;clear Yw;have Rw:=hid jS;clear jS iE bW;have y0:Ext W Wp.drew:=yp.drew;have rp0:=rp.ext (Ext.refl Wp).drew;refine wp_region_held_drew (S:=fun W'=>Ext W W'/\(jc W' (w.heap.size) f (.slice A0 m0 e0) (.slice B0 f.cs.length f0))/\(jc W' (w.heap.size+1) g (.slice A1 m1 e1) (.slice B1 g.cs.length f1))) (by kernel_rfl) (aN.out _ y0) (fun hHeld=>?_);refine tk 0 ?_ (hy:=Or.inl ⟨by rfl,by intro w' aZ; obtain ⟨-,⟨k0,k1,k2,k3⟩,k4,k5,k6,k7⟩:=aZ; go_simp; (try (with_reducible rfl))⟩);refine tk 1 ?_ (hy:=Or.inl ⟨by rfl,by intro w' aZ; obtain ⟨-,⟨k0,k1,k2,k3⟩,k4,k5,k6,k7⟩:=aZ; go_simp; (try (with_reducible rfl))⟩);refine tk 2 ?_ (hy:=Or.inl ⟨by rfl,by intro w' aZ; obtain ⟨-,⟨k0,k1,k2,k3⟩,k4,k5,k6,k7⟩:=aZ; go_simp; (try (with_reducible rfl))⟩);refine tk 3 ?_;refine wpAnyH_ready (rs:=[4,5,6]) (by kernel_rfl) (by simp) ?_;refine AllReadyH.cons rfl (fun K hK=>?cx4) (AllReadyH.cons rfl (fun K hK=>?cx5) (AllReadyH.cons rfl (fun K hK=>?cx6) AllReadyH.nil))
 case' cx4 =>
  go_simp
  go_at_call 160
  refine (HR.out _ (HX.out.trans y0)).mono ?_;rintro e w5 ⟨v5,rfl,cZ,x5⟩;have yr:=y0.trans x5;obtain ⟨D0,j2,k2,D1,k3,rfl,-⟩:=id cZ.open_;unfold plV;refine k_t hK (aN.out _ yr) fun hHeld=>?_
  clear hK K;have cZ:PlV w5 (fun b=>R < b) (ul l f g) _:=cZ.mono fun b hb=>by have:=rp0.1; omega
  have bK:=rp0.ext x5;refine r_2 5 6 (fun K hK=>?c4x5) fun K hK=>?c4x6
  case' c4x5 =>
   go_simp;obtain ⟨V5,o5,hV,ho,ig,pq,pX,uK,dH,iK⟩:=z_b yr
   try rw [hV]
   try rw [ho]
   refine k_t hK (aN.out _ pq) fun hHeld=>?_
   clear hK K hV ho;have lY:=ig.1;have Dq:R < o5:=by have:=dH.out; have:=bK.1; omega
   have cZ:PlV V5 (fun b=>R < b/\b ≠ o5) (ul l f g) _:=(cZ.below_.ext iK).mono fun b hb=>by have:=hb.1; have:=hb.2; have:=dH.out; omega
   have bK:=bK.ext iK;refine r_1 6 fun K hK=>?_
   go_simp;obtain ⟨V6,o6,hV,ho,fJ,pg,pW,uJ,dG,iJ⟩:=z_b pq
   try rw [hV]
   try rw [ho]
   refine k_t hK (aN.out _ pg) fun hHeld=>?_
   clear hK K hV ho;have lX:=fJ.1;have Dp:R < o6:=by have:=dG.out; have:=bK.1; omega
   have fV:o5 ≠ o6:=by have:=dG.out; have:=ig.1; omega
   have ig:=ig.ext iJ;have lY:=ig.1;have cZ:PlV V6 (fun b=>R < b/\b ≠ o5/\b ≠ o6) (ul l f g) _:=(cZ.below_.ext iJ).mono fun b hb=>by have:=hb.1; have:=hb.2; have:=dG.out; omega
   have bK:=bK.ext iJ;have yE:=pg;have lZ:=ig;have rP:=fJ;have oU:=cZ;have Ib:=bK;have oH:o5 ≠ o6:=fV
  case' c4x6 =>
   go_simp;obtain ⟨V6,o6,hV,ho,fJ,pg,pW,uJ,dG,iJ⟩:=z_b yr
   try rw [hV]
   try rw [ho]
   refine k_t hK (aN.out _ pg) fun hHeld=>?_
   clear hK K hV ho;have lX:=fJ.1;have Dp:R < o6:=by have:=dG.out; have:=bK.1; omega
   have cZ:PlV V6 (fun b=>R < b/\b ≠ o6) (ul l f g) _:=(cZ.below_.ext iJ).mono fun b hb=>by have:=hb.1; have:=hb.2; have:=dG.out; omega
   have bK:=bK.ext iJ;refine r_1 5 fun K hK=>?_
   go_simp;obtain ⟨V5,o5,hV,ho,ig,pq,pX,uK,dH,iK⟩:=z_b pg
   try rw [hV]
   try rw [ho]
   refine k_t hK (aN.out _ pq) fun hHeld=>?_
   clear hK K hV ho;have lY:=ig.1;have Dq:R < o5:=by have:=dH.out; have:=bK.1; omega
   have fV:o5 ≠ o6:=by have:=dH.out; have:=fJ.1; omega
   have fJ:=fJ.ext iK;have lX:=fJ.1;have cZ:PlV V5 (fun b=>R < b/\b ≠ o5/\b ≠ o6) (ul l f g) _:=(cZ.below_.ext iK).mono fun b hb=>by have:=hb.1; have:=hb.2; have:=dH.out; omega
   have bK:=bK.ext iK;have yE:=pq;have lZ:=ig;have rP:=fJ;have oU:=cZ;have Ib:=bK;have oH:o5 ≠ o6:=fV
 case' cx5 =>
  go_simp;obtain ⟨V5,o5,hV,ho,ig,pq,pX,uK,dH,iK⟩:=z_d yp
  try rw [hV]
  try rw [ho]
  refine k_t hK (aN.out _ pq) fun hHeld=>?_
  clear hK K hV ho;have lY:=ig.1;have Dq:R < o5:=by have:=dH.out; have:=hRp; omega
  have bK:=rp.ext iK;refine r_2 4 6 (fun K hK=>?c5x4) fun K hK=>?c5x6
  case' c5x4 =>
   go_simp
   go_at_call 160
   refine (HR.out _ (HX.out.trans pq)).mono ?_;rintro e w5 ⟨v5,rfl,cZ,x5⟩;have yr:=pq.trans x5;obtain ⟨D0,j2,k2,D1,k3,rfl,-⟩:=id cZ.open_;unfold plV;refine k_t hK (aN.out _ yr) fun hHeld=>?_
   clear hK K;have ig:=ig.ext x5;have cZ:PlV w5 (fun b=>R < b/\b ≠ o5) (ul l f g) _:=cZ.mono fun b hb=>by have:=bK.1; have:=lY; omega
   have bK:=bK.ext x5;refine r_1 6 fun K hK=>?_
   go_simp;obtain ⟨V6,o6,hV,ho,fJ,pg,pW,uJ,dG,iJ⟩:=z_b yr
   try rw [hV]
   try rw [ho]
   refine k_t hK (aN.out _ pg) fun hHeld=>?_
   clear hK K hV ho;have lX:=fJ.1;have Dp:R < o6:=by have:=dG.out; have:=bK.1; omega
   have fV:o5 ≠ o6:=by have:=dG.out; have:=ig.1; omega
   have ig:=ig.ext iJ;have lY:=ig.1;have cZ:PlV V6 (fun b=>R < b/\b ≠ o5/\b ≠ o6) (ul l f g) _:=(cZ.below_.ext iJ).mono fun b hb=>by have:=hb.1; have:=hb.2; have:=dG.out; omega
   have bK:=bK.ext iJ;have yE:=pg;have lZ:=ig;have rP:=fJ;have oU:=cZ;have Ib:=bK;have oH:o5 ≠ o6:=fV
  case' c5x6 =>
   go_simp;obtain ⟨V6,o6,hV,ho,fJ,pg,pW,uJ,dG,iJ⟩:=z_b pq
   try rw [hV]
   try rw [ho]
   refine k_t hK (aN.out _ pg) fun hHeld=>?_
   clear hK K hV ho;have lX:=fJ.1;have Dp:R < o6:=by have:=dG.out; have:=bK.1; omega
   have fV:o5 ≠ o6:=by have:=dG.out; have:=ig.1; omega
   have ig:=ig.ext iJ;have lY:=ig.1;have bK:=bK.ext iJ;refine r_1 4 fun K hK=>?_
   go_simp
   go_at_call 160
   refine (HR.out _ (HX.out.trans pg)).mono ?_;rintro e w5 ⟨v5,rfl,cZ,x5⟩;have yr:=pg.trans x5;obtain ⟨D0,j2,k2,D1,k3,rfl,-⟩:=id cZ.open_;unfold plV;refine k_t hK (aN.out _ yr) fun hHeld=>?_
   clear hK K;have ig:=ig.ext x5;have fJ:=fJ.ext x5;have cZ:PlV w5 (fun b=>R < b/\b ≠ o5/\b ≠ o6) (ul l f g) _:=cZ.mono fun b hb=>by have:=bK.1; have:=lY; have:=lX; omega
   have bK:=bK.ext x5;have yE:=yr;have lZ:=ig;have rP:=fJ;have oU:=cZ;have Ib:=bK;have oH:o5 ≠ o6:=fV
 case' cx6 =>
  go_simp;obtain ⟨V6,o6,hV,ho,fJ,pg,pW,uJ,dG,iJ⟩:=z_d yp
  try rw [hV]
  try rw [ho]
  refine k_t hK (aN.out _ pg) fun hHeld=>?_
  clear hK K hV ho;have lX:=fJ.1;have Dp:R < o6:=by have:=dG.out; have:=hRp; omega
  have bK:=rp.ext iJ;refine r_2 4 5 (fun K hK=>?c6x4) fun K hK=>?c6x5
  case' c6x4 =>
   go_simp
   go_at_call 160
   refine (HR.out _ (HX.out.trans pg)).mono ?_;rintro e w5 ⟨v5,rfl,cZ,x5⟩;have yr:=pg.trans x5;obtain ⟨D0,j2,k2,D1,k3,rfl,-⟩:=id cZ.open_;unfold plV;refine k_t hK (aN.out _ yr) fun hHeld=>?_
   clear hK K;have fJ:=fJ.ext x5;have cZ:PlV w5 (fun b=>R < b/\b ≠ o6) (ul l f g) _:=cZ.mono fun b hb=>by have:=bK.1; have:=lX; omega
   have bK:=bK.ext x5;refine r_1 5 fun K hK=>?_
   go_simp;obtain ⟨V5,o5,hV,ho,ig,pq,pX,uK,dH,iK⟩:=z_b yr
   try rw [hV]
   try rw [ho]
   refine k_t hK (aN.out _ pq) fun hHeld=>?_
   clear hK K hV ho;have lY:=ig.1;have Dq:R < o5:=by have:=dH.out; have:=bK.1; omega
   have fV:o5 ≠ o6:=by have:=dH.out; have:=fJ.1; omega
   have fJ:=fJ.ext iK;have lX:=fJ.1;have cZ:PlV V5 (fun b=>R < b/\b ≠ o5/\b ≠ o6) (ul l f g) _:=(cZ.below_.ext iK).mono fun b hb=>by have:=hb.1; have:=hb.2; have:=dH.out; omega
   have bK:=bK.ext iK;have yE:=pq;have lZ:=ig;have rP:=fJ;have oU:=cZ;have Ib:=bK;have oH:o5 ≠ o6:=fV
  case' c6x5 =>
   go_simp;obtain ⟨V5,o5,hV,ho,ig,pq,pX,uK,dH,iK⟩:=z_b pg
   try rw [hV]
   try rw [ho]
   refine k_t hK (aN.out _ pq) fun hHeld=>?_
   clear hK K hV ho;have lY:=ig.1;have Dq:R < o5:=by have:=dH.out; have:=bK.1; omega
   have fV:o5 ≠ o6:=by have:=dH.out; have:=fJ.1; omega
   have fJ:=fJ.ext iK;have lX:=fJ.1;have bK:=bK.ext iK;refine r_1 4 fun K hK=>?_
   go_simp
   go_at_call 160
   refine (HR.out _ (HX.out.trans pq)).mono ?_;rintro e w5 ⟨v5,rfl,cZ,x5⟩;have yr:=pq.trans x5;obtain ⟨D0,j2,k2,D1,k3,rfl,-⟩:=id cZ.open_;unfold plV;refine k_t hK (aN.out _ yr) fun hHeld=>?_
   clear hK K;have ig:=ig.ext x5;have fJ:=fJ.ext x5;have cZ:PlV w5 (fun b=>R < b/\b ≠ o5/\b ≠ o6) (ul l f g) _:=cZ.mono fun b hb=>by have:=bK.1; have:=lY; have:=lX; omega
   have bK:=bK.ext x5;have yE:=yr;have lZ:=ig;have rP:=fJ;have oU:=cZ;have Ib:=bK;have oH:o5 ≠ o6:=fV
 all_goals
  have VW:=HX.out.size;obtain ⟨P,hP⟩:=n_m (ul l f g);rw [hP] at oU ⊢;have yX:=hid hP;have Ko:=Tf.out;have J8:=J9.out;have SH:=nX.out;have JU:=HMZ.out;rw [hP] at Ko J8 SH JU;have aaq:=hid Ko;have Si:=hid JU;rw [nY.out] at J8;clear hP Tf J9 nX HMZ Ko JU;have XL:=lZ.2.1;obtain ⟨Z0,zn,zc,Z1,CV,⟨g0,g1,g2,g3⟩,-⟩:=lZ.2.2;have hgE:PlV _ (fun b=>b < w.heap.size) g (plV g (.slice A1 m1 e1) (.slice B1 g.cs.length f1)):=(H1.out.below_.mono fun b hb=>hb.2).ext (HX.out.trans yE);refine r_1 7 fun K hK=>?_
  go_simp;clear g0 g1 g2 g3 XL;have UV:=lZ.frr g.lv g.neg A1 B1 m1 e1 g.cs.length f1;refine xae (P:=fun V7=>Ext W V7/\PBx V7 (fun b=>b < w.heap.size) o5 g/\PBx V7 (fun _=>False) o6 Pl.zero/\PlV V7 (fun b=>R < b/\b ≠ o6) P _/\zi V7 (fun _=>False) R (List.replicate 1 Pl.zero)) ⟨(((yE.setCell pX _).setCell pX _).setCell pX _).setCell pX _,lZ.store (hgE.mono fun b hb=>⟨hb,by omega⟩),UV.pbx rP oH.symm (fun b hb=>hb.elim),(UV.pl oU (fun b hb=>by (try dsimp only at hb); omega)).mono (fun b hb=>by (try dsimp only at hb); constructor <;> omega),UV.row Ib (by omega) (fun b hb=>hb.elim)⟩ (fun V7 lU=>?_);obtain ⟨y7,ha7,Jf,KW,hr7⟩:=lU;refine k_t hK (aN.out _ y7) fun hHeld=>?_
  clear hK K;have XK:=Jf.2.1;obtain ⟨Z2,zn2,EE,Z3,zc3,⟨g0,g1,g2,g3⟩,-⟩:=Jf.2.2;refine r_1 8 fun K hK=>?_
  go_simp;clear g0 g1 g2 g3 XK;have Zg:=Jf.frr P.lv P.neg D0 D1 j2 k2 P.cs.length k3;refine xae (P:=fun V8=>Ext W V8/\PBx V8 (fun b=>b < w.heap.size) o5 g/\PBx V8 (fun b=>R < b) o6 P/\zi V8 (fun _=>False) R (List.replicate 1 Pl.zero)) ⟨(((y7.setCell pW _).setCell pW _).setCell pW _).setCell pW _,Zg.pbx ha7 oH (fun b hb=>by omega),Jf.store KW,Zg.row hr7 (by omega) (fun b hb=>hb.elim)⟩ (fun V8 DZ=>?_);obtain ⟨y8,ha8,DW,hr8⟩:=DZ;refine hK.out _ _ (aN.out _ y8) (fun hHeld=>?_);clear hK K;refine w_d ?_;have HA8:=hid ha8;have HB8:=hid DW;have HR8:=hid hr8;have Y8:=hid y8;have Gy:=hid oH;clear ha8 DW hr8 y8 oH Zg UV ha7 Jf KW hr7 y7 lZ rP oU Ib yE hgE Z0 zn zc Z1 CV Z2 zn2 EE Z3 zc3;go_wp2_with fail
  go_loopw [15] (fun u wr=>u=undef/\wr=V8) (fun _ _=>0)
  case atStart=>exact ⟨rfl,rfl⟩
  case round =>
   obtain ⟨rfl,rfl⟩:=hrel;obtain ⟨KX,XL,E0,en0,Zi,E1,F6,ba,pa⟩:=HA8.out;obtain ⟨ho6,XK,F0,fn0,QX,F1,QW,bb,pb⟩:=HB8.out;have PA:=hid pa;have PB:=hid pb;have RF:Hid (∀ W',Ext wr W'->(Ext wr W'/\(jc W' o5 g (.slice E0 en0 Zi) (.slice E1 g.cs.length F6))/\(jc W' o6 P (.slice F0 fn0 QX) (.slice F1 P.cs.length QW)))):=hid (fun W' hx=>⟨hx,ba.ext hx KX,bb.ext hx ho6⟩);have z0:Ext wr wr.drew:=(Ext.refl wr).drew;have aap:=nY.out;clear ba bb pa pb XL XK hHeld;go_upto_region 4 with fail;refine wp_region_held_drew (S:=fun W'=>Ext wr W'/\(jc W' o5 g (.slice E0 en0 Zi) (.slice E1 g.cs.length F6))/\(jc W' o6 P (.slice F0 fn0 QX) (.slice F1 P.cs.length QW))) (by kernel_rfl) (RF.out _ z0) (fun hHeld=>?_);refine tk 0 ?_ (hy:=Or.inl ⟨by rfl,by intro w' aZ; obtain ⟨-,⟨k0,k1,k2,k3⟩,k4,k5,k6,k7⟩:=aZ; go_simp; (try (with_reducible rfl))⟩);refine tk 1 ?_;refine tk 3 ?_ (hy:=Or.inl ⟨by rfl,by intro w' aZ; obtain ⟨-,⟨k0,k1,k2,k3⟩,k4,k5,k6,k7⟩:=aZ; go_simp; (try (with_reducible rfl))⟩);refine tk 4 ?_;refine r_1 2 fun K hK=>?_
   go_simp
   go_at_call 109
   refine (HDA.out _ _ _ (PA.out.ext z0)).mono ?_;rintro e w8 ⟨rfl,x8⟩;have z1:=z0.trans x8;refine k_t hK (RF.out _ z1) fun hHeld=>?_
   clear hK K;refine r_1 5 fun K hK=>?_
   go_simp
   go_at_call 109
   refine (aaq.out _ _ _ (PB.out.ext z1)).mono ?_;rintro e w9 ⟨rfl,x9⟩;have z2:=z1.trans x9;refine k_t hK (RF.out _ z2) fun hHeld=>?_
   clear hK K;refine tk 6 ?_;refine tk 7 ?_;refine w_d ?_;obtain ⟨-,-,k4,k5,k6,k7⟩:=hHeld;have Z2:=hid z2;have og:=HR8.out.ext z2;obtain ⟨D,hD⟩:=n_m (mdg l P);rw [hD] at SH J8 Si ⊢;clear hD z0 z1 z2 x8 x9 aap;have Hw:IntKind.i64.wrap (1 - 1)=0:=rfl;rcases (by omega:D=-1\/D=0) with rfl | rfl
   · have HPZ:=Si.out.1 rfl;have HF:Hid (qau (fun b=>w.heap.size<=b) [ul l f g] w (.returned (.slice (some ⟨R,0,none⟩) 1 1)) w9):=hid (by
      rw [yX.out,HPZ]
      exact ⟨_,rfl,⟨_,_,rfl,by simp,by omega,fun _=>⟨R,rfl,by have:=MC.out; omega,og.mono fun b hb=>hb.elim⟩⟩,HX.out.trans (Y8.out.trans Z2.out)⟩)
     clear k4 k5 k6 k7 og HPZ;go_wp2_with fail;go_ret;exact HF.out
   · have YK:=og.2.1;obtain ⟨R0,rn0,rc0,R1,rn1,rc1,⟨r0,r1,r2,r3⟩,-⟩:=og.el 0 (by simp);have yK:PlV w9 (fun b=>(w.heap.size<=b)/\b ≠ R) P (plV P (.slice F0 fn0 QX) (.slice F1 P.cs.length QW)):=(PB.out.ext Z2.out).mono fun b hb=>by have:=MC.out; (try dsimp only at hb); exact ⟨by omega,by omega⟩
     have aT:=(og.mono (q':=fun b=>w.heap.size<=b) fun b hb=>hb.elim).set_ 0 (by simp) P yK;simp only [Nat.zero_mul,Nat.zero_add,List.replicate_one,List.set_cons_zero] at r0 r1 r2 r3 aT;obtain ⟨V9,QF⟩:=n_m (((((w9.setCell ⟨R,0,none⟩ (.int .i64 P.lv)).setCell ⟨R,1,none⟩ (.bool P.neg)).setCell ⟨R,2,none⟩ (.slice F0 fn0 QX)).setCell ⟨R,3,none⟩ (.slice F1 P.cs.length QW)));rw [QF] at aT;have tq:w.heap.size<=R:=by have:=MC.out; omega
     have MZ:Ext w V9:=by rw [<- QF]; exact ((((HX.out.trans (Y8.out.trans Z2.out)).setCell tq _).setCell tq _).setCell tq _).setCell tq _
     have HF:Hid (∀ W',Ext V9 W'->qau (fun b=>w.heap.size<=b) [ul l f g] w (.returned (.slice (some ⟨R,0,none⟩) 1 1)) W'):=hid (fun W' hx=>by
      rw [yX.out]
      exact ⟨_,rfl,⟨_,_,rfl,by simp,by omega,fun _=>⟨R,rfl,tq,aT.1.ext hx⟩⟩,MZ.trans hx⟩)
     have k46:jc V9 o6 P (.slice F0 fn0 QX) (.slice F1 P.cs.length QW):=by
      have au:o6 ≠ R:=by omega
      have kk:∀ j,V9.cell? ⟨o6,j,none⟩=w9.cell? ⟨o6,j,none⟩:=fun j=>World.cell?_of_block (by rw [<- QF]; exact xac _ _ _ _ _ _ _ au)
      exact ⟨(kk 0).trans k4,(kk 1).trans k5,(kk 2).trans k6,(kk 3).trans k7⟩
     have au:¬ o6=R:=by omega
     clear aT og yK MZ;go_upto_region 8 with fail
     try rw [QF]
     obtain ⟨j4,j5,j6,j7⟩:=k46;clear QF k4 k5 k6 k7 r0 r1 r2 r3;go_wp2_with fail;go_ret;exact HF.out _ ((Ext.refl _).alloc _)
end Go.Proofs.YtcepajijiabkmaaGreat
