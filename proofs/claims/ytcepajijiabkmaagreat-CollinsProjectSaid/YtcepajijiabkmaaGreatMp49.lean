/- Layer 25: descend where both degrees are 2. -/
import Derived.Test.YtcepajijiabkmaaGreatMp48
set_option linter.unusedSimpArgs false
set_option linter.unusedVariables false

set_option maxRecDepth 100000
set_option maxHeartbeats 8000000
namespace Go.Proofs.YtcepajijiabkmaaGreat
open Lib (hid)
open Go.RowKit
theorem Frr.Qf {V V7:World} {o g:Nat} {p:Pl} {s A:Value} (hf:Frr V o V7) (h:jb V g p s A) (hg:g < V.heap.size) (hn:g ≠ o):jb V7 g p s A:=⟨(hf.cell hg hn).trans h.1,(hf.cell hg hn).trans h.2.1,(hf.cell hg hn).trans h.2.2.1,(hf.cell hg hn).trans h.2.2.2⟩
def stM : Value -> Nat
 | .int _ _=>0
 | _=>1
structure udc (w W : World) (g P : Pl) (o5 o6 : Nat) (wr : World) : Prop where
 ext:Ext W wr
 ne:o5 ≠ o6
 l5:W.heap.size<=o5
 l6:W.heap.size<=o6
 a:PBx wr (fun b=>b < w.heap.size) o5 g
 b:PBx wr (fun b=>W.heap.size<=b/\b ≠ o5) o6 P
structure vdc (w W : World) (o5 o6 R : Nat) (P Q2 : Pl) (wr : World) : Prop where
 ext:Ext w wr
 a:PBx wr (fun _=>True) o5 P
 b:PBx wr (fun b=>w.heap.size<=b/\b ≠ R) o6 Q2
 row:xh wr (fun b=>w.heap.size<=b/\b ≠ o6) R [Pl.zero,P]
theorem gcp {w:World} {q0 q1:Nat->Prop} {f g:Pl} {l:Int} {D:Nat} (v0 v1:Value) (hl:1<=l) (ag:l<=4) (h0:PlV w q0 f v0) (h1:PlV w q1 g v1) (hf:Fit f 2 D) (hg:Fit g 2 D) (lY:mdg l f=2) (dR:mdg l g=2) (hD:D<=10000000000) :
 Calls Tryz.prog 158 #[v0,v1,.int .i64 l,.int .i64 2,.int .i64 2] w (kah (fun b=>w.heap.size<=b) [uaa l f g,qi l f g] w):=by
 have H0:=hid h0;have H1:=hid h1;obtain ⟨A0,m0,e0,B0,f0,rfl,-⟩:=h0.open_;obtain ⟨A1,m1,e1,B1,f1,rfl,-⟩:=h1.open_;obtain ⟨Ej,W,fV,jK,iT,aC,bW,hx1,aX,bF⟩:=b_2 w f g (.slice A0 m0 e0) (.slice B0 f.cs.length f0) (.slice A1 m1 e1) (.slice B1 g.cs.length f1);have HX:=hid (aC.trans hx1);have dJ:=hid aX;have dH:=hid bF;have fO:W.heap.size=w.heap.size+1+1:=bW;clear h0 h1 aC hx1 aX bF;have bI:g ≠ Pl.zero:=qah (l:=l) (by omega);have HL:=hid (fun (W':World) (hx:Ext w W')=>gal _ hl ag hg (by omega) (by omega) (H1.out.ext hx));have jZ:(qo l g).pow 0=Pl.const 1:=Pl.qz (Pl.vo _ _) (zt _) fun ρ=>by rw [Pl.yW,Pl.qT]; simp
 have HP:=hid (fun (W':World) (q:Nat->Prop) (u:Value) (hu:PlV W' q (qo l g) u)=>qal (n:=0) u hu (zam (l:=l) hg) (by simp) (by simp; omega) (by omega));rw [show (0:Int).toNat=0 from rfl,jZ] at HP;have HR:=hid (fun (W':World) (hx:Ext w W')=>zbd _ _ hl ag (H0.out.ext hx) (H1.out.ext hx) hf hg bI (by omega) (by omega));have o7:Fit (qi l f g) 10 (4 * D+10):=(gak hl ag hf hg (by have:B32=4294967296:=rfl; omega)).mono (by omega) (by omega);have PQ:=hid (fun (W':World) (q:Nat->Prop) (u:Value) (hu:PlV W' q (qi l f g) u)=>xaf (l:=l) u (qac l f g) (o7.copy_ (by omega)) (by have:=o7.dm; omega) hu);have HDA:=hid (fun (W':World) (q:Nat->Prop) (u:Value) (hu:PlV W' q g u)=>xaf (l:=l) u hg.can (hg.copy_ (by omega)) (by have:=hg.dm; omega) hu);have nM:=hid dR;have Ey:=hid (ga1 hl ag hf.can hg.can bI);have oh:=hid (xbx (l:=l) (qi l f g));have VN:=hid (jav (l:=l) (qac l f g));have Vs:=hid o7;have ES:=xa6 hl ag hf hg;have Py:=hid ES;have Jp:=hid (fun (W':World) (q:Nat->Prop) (u:Value) (hu:PlV W' q (uaa l f g) u)=>xaf (l:=l) u uai (ES.copy_ (by omega)) (by have:=ES.dm; omega) hu);have HRZ:=hid (jav (l:=l) (uai (l:=l) (f:=f) (g:=g)));have HRG:=hid (xbx (l:=l) (uaa l f g));have FY:=hid (fun h:qi l f g=Pl.zero=>xce (l:=l) h);have ig:=hid (fun h:mdg l (qi l f g)=0=>yb5 hl ag h);have YE:=hid (fun h:mdg l (qi l f g)=1=>ucl hl ag hf.can hg.can lY dR h);have HQD:=hid (xca hl ag (uai (l:=l) (f:=f) (g:=g)) (ybo hl ag hf.can hg.can));have DK:=hid hg;obtain ⟨P,hP⟩:=n_m (qi l f g);obtain ⟨Q2,hQ2⟩:=n_m (uaa l f g);have Dx:=hid hP;have Yx:=hid hQ2;rw [hQ2] at Py FY ig YE HQD Jp HRZ HRG;rw [hP] at HR PQ Ey oh VN Vs FY ig YE;clear hP hQ2;obtain ⟨Wm,dw,iK,RI,ae⟩:=uw 2 (by omega) (by omega) W;rw [show (2:Int).toNat=2 from rfl] at dw ae;rw [fO] at dw ae;have Af:=hid (HX.out.trans iK);have VO:=hid (ae (fun _=>False));obtain ⟨b0,b1,b2,b3⟩:=dH.out.ext iK (by omega);have Qr:IntKind.i64.wrap (2 - 2)=0:=rfl;clear bI o7 lY dR hf hg ae jZ ES;unfold plV at HL HR ⊢;go_enter Tryz.func158,Tryz.ntmps158;go_wp2_with fail;clear fV jK;clear dw b0 b1 b2 b3;refine (HL.out _ Af.out).mono ?_;rintro e w3 ⟨v3,rfl,p3,x3⟩;have BQ:=HP.out _ _ _ p3;have y3:Ext W w3:=iK.trans x3;have r3:=VO.out.ext x3;have hR3:w.heap.size+1+1 < w3.heap.size:=r3.1;clear x3 iK RI Af VO HL HP p3;go_wp2_with fail;refine BQ.mono ?_;rintro e w4 ⟨v4,rfl,p4,x4⟩;obtain ⟨S0,MF,MH,S1,MG,rfl,-⟩:=id p4.open_;have y4:=y3.trans x4;have r4:=r3.ext x4;clear x4 y3 r3 BQ;obtain ⟨R,hR⟩:=n_m (w.heap.size+1+1);rw [hR] at r4 ⊢;have XI:R=W.heap.size:=by omega
 have mg:w.heap.size<=R:=by omega
 clear hR;obtain ⟨one,jZ⟩:=n_m (Pl.const 1);rw [jZ] at p4 ⊢;have Ae:=hid jZ;clear jZ;unfold plV;obtain ⟨Wp,xC⟩:=n_m ((w4.alloc (.cells #[.int .i64 one.lv,.bool one.neg,.slice S0 MF MH,.slice S1 one.cs.length MG] 33)));have yp:Ext W Wp:=by rw [<- xC]; exact y4.alloc _
 have rp:=r4.ext (by rw [<- xC]; exact (Ext.refl w4).alloc _:Ext w4 Wp);have sp:jb Wp w4.heap.size one (.slice S0 MF MH) (.slice S1 one.cs.length MG):=by rw [<- xC]; exact jb.new w4 one _ _ _
 have Zj:PlV Wp (fun b=>R < b/\b < w4.heap.size) one _:=(p4.xo.ext (by rw [<- xC]; exact (Ext.refl w4).alloc _:Ext w4 Wp)).mono fun b hb=>by omega
 obtain ⟨os,J8⟩:=n_m (w4.heap.size);have J7:os < Wp.heap.size:=by rw [<- J8,<- xC]; simp
 have o7:∀ i,Wp.frozen? ⟨os,i,none⟩=false:=fun i=>by rw [<- xC,<- J8]; simp [go_sem]
 have aad:W.heap.size<=os:=by rw [<- J8]; exact y4.size
 have ajN:R < os:=by rw [<- J8]; exact r4.1
 rw [J8] at sp Zj;have Eo:=hid (And.intro sp Zj);clear y4 r4 p4;have WE:=hid (dJ.out.ext yp (by omega));have WC:=hid (dH.out.ext yp (by omega));have HX':=hid (HX.out.trans yp);have aiq:w.heap.size+1 < Wp.heap.size:=by have:=yp.size; omega
 clear dJ dH HX XI yp sp Zj;obtain ⟨W0,rfl⟩:∃ W0,W0=W:=⟨W,rfl⟩;obtain ⟨W,rfl⟩:∃ W,W=Wp:=⟨Wp,rfl⟩;have HX:=HX';have dJ:=WE;have dH:=WC;have wU:w.heap.size<=os:=by omega
 have gV:=rp.1;clear HX' WE WC;have aH:Hid (∀ W',Ext W W'->(Ext W W'/\(jb W' (w.heap.size) f (.slice A0 m0 e0) (.slice B0 f.cs.length f0))/\(jb W' (w.heap.size+1) g (.slice A1 m1 e1) (.slice B1 g.cs.length f1)))):=hid (fun W' hx=>⟨hx,dJ.out.ext hx (by omega),dH.out.ext hx (by omega)⟩);go_upto_region 3 with fail
 try rw [J8]
 clear J8 xC fO iT bW aad;have y0:Ext W W.drew:=(Ext.refl W).drew;have WS:=HX.out.size
 go_cut [13,14] from 29 to 33 (fun s13 s14 wc=>∃ o5 o6,s13=.pointer (some ⟨o5,0,none⟩)/\s14=.pointer (some ⟨o6,0,none⟩)/\Hid (udc w W g P o5 o6 wc))
 case first =>
  refine wp_region_held_drew (S:=fun W'=>Ext W W'/\(jb W' (w.heap.size) f (.slice A0 m0 e0) (.slice B0 f.cs.length f0))/\(jb W' (w.heap.size+1) g (.slice A1 m1 e1) (.slice B1 g.cs.length f1))) (by kernel_rfl) (aH.out _ y0) (fun hHeld=>?_);refine tk 0 ?_ (hy:=Or.inl ⟨by rfl,by intro w' aP; obtain ⟨-,⟨k0,k1,k2,k3⟩,k4,k5,k6,k7⟩:=aP; go_simp; (try (with_reducible rfl))⟩);refine tk 1 ?_ (hy:=Or.inl ⟨by rfl,by intro w' aP; obtain ⟨-,⟨k0,k1,k2,k3⟩,k4,k5,k6,k7⟩:=aP; go_simp; (try (with_reducible rfl))⟩);refine tk 2 ?_ (hy:=Or.inl ⟨by rfl,by intro w' aP; obtain ⟨-,⟨k0,k1,k2,k3⟩,k4,k5,k6,k7⟩:=aP; go_simp; (try (with_reducible rfl))⟩);refine tk 3 ?_;refine wpAnyH_ready (rs:=[4,5,6]) (by kernel_rfl) (by simp) ?_;refine sy rfl (fun K hK=>?cx4) (sy rfl (fun K hK=>?cx5) (sy rfl (fun K hK=>?cx6) tW))
  case' cx4 =>
   go_simp
   go_at_call 160
   refine (HR.out _ (HX.out.trans y0)).mono ?_;rintro e w5 ⟨v5,rfl,aT,x5⟩;have yr:=y0.trans x5;obtain ⟨D0,j2,k2,D1,k3,rfl,-⟩:=id aT.open_;unfold plV;refine k_t hK (aH.out _ yr) fun hHeld=>?_
   clear hK K;have aT:PlV w5 (fun b=>W.heap.size<=b) P _:=aT.mono fun b hb=>by have:=y0.size; omega
   refine r_2 5 6 (fun K hK=>?c4x5) fun K hK=>?c4x6
   case' c4x5 =>
    go_simp;obtain ⟨V5,o5,hV,ho,bU,iQ,iw,kS,bg,dL⟩:=z_b yr
    try rw [hV]
    try rw [ho]
    refine k_t hK (aH.out _ iQ) fun hHeld=>?_
    clear hK K hV ho;have fG:=bU.1;have aT:PlV V5 (fun b=>W.heap.size<=b/\b ≠ o5) P _:=(aT.xo.ext dL).mono fun b hb=>by have:=hb.1; have:=hb.2; have:=bg.out; omega
    refine r_1 6 fun K hK=>?_
    go_simp;obtain ⟨V6,o6,hV,ho,bM,iP,ik,kR,aZ,dK⟩:=z_b iQ
    try rw [hV]
    try rw [ho]
    refine k_t hK (aH.out _ iP) fun hHeld=>?_
    clear hK K hV ho;have fF:=bM.1;have bu:o5 ≠ o6:=by have:=aZ.out; have:=bU.1; omega
    have bU:=bU.ext dK;have fG:=bU.1;have aT:PlV V6 (fun b=>W.heap.size<=b/\b ≠ o5/\b ≠ o6) P _:=(aT.xo.ext dK).mono fun b hb=>by have:=hb.1; have:=hb.2; have:=aZ.out; omega
    have yE:=iP;have fH:=bU;have jX:=bM;have lw:=aT;have fK:o5 ≠ o6:=bu
   case' c4x6 =>
    go_simp;obtain ⟨V6,o6,hV,ho,bM,iP,ik,kR,aZ,dK⟩:=z_b yr
    try rw [hV]
    try rw [ho]
    refine k_t hK (aH.out _ iP) fun hHeld=>?_
    clear hK K hV ho;have fF:=bM.1;have aT:PlV V6 (fun b=>W.heap.size<=b/\b ≠ o6) P _:=(aT.xo.ext dK).mono fun b hb=>by have:=hb.1; have:=hb.2; have:=aZ.out; omega
    refine r_1 5 fun K hK=>?_
    go_simp;obtain ⟨V5,o5,hV,ho,bU,iQ,iw,kS,bg,dL⟩:=z_b iP
    try rw [hV]
    try rw [ho]
    refine k_t hK (aH.out _ iQ) fun hHeld=>?_
    clear hK K hV ho;have fG:=bU.1;have bu:o5 ≠ o6:=by have:=bg.out; have:=bM.1; omega
    have bM:=bM.ext dL;have fF:=bM.1;have aT:PlV V5 (fun b=>W.heap.size<=b/\b ≠ o5/\b ≠ o6) P _:=(aT.xo.ext dL).mono fun b hb=>by have:=hb.1; have:=hb.2; have:=bg.out; omega
    have yE:=iQ;have fH:=bU;have jX:=bM;have lw:=aT;have fK:o5 ≠ o6:=bu
  case' cx5 =>
   go_simp;obtain ⟨V5,o5,hV,ho,bU,iQ,iw,kS,bg,dL⟩:=z_d (Ext.refl W)
   try rw [hV]
   try rw [ho]
   refine k_t hK (aH.out _ iQ) fun hHeld=>?_
   clear hK K hV ho;have fG:=bU.1;refine r_2 4 6 (fun K hK=>?c5x4) fun K hK=>?c5x6
   case' c5x4 =>
    go_simp
    go_at_call 160
    refine (HR.out _ (HX.out.trans iQ)).mono ?_;rintro e w5 ⟨v5,rfl,aT,x5⟩;have yr:=iQ.trans x5;obtain ⟨D0,j2,k2,D1,k3,rfl,-⟩:=id aT.open_;unfold plV;refine k_t hK (aH.out _ yr) fun hHeld=>?_
    clear hK K;have bU:=bU.ext x5;have aT:PlV w5 (fun b=>W.heap.size<=b/\b ≠ o5) P _:=aT.mono fun b hb=>by have:=iQ.size; have:=fG; omega
    refine r_1 6 fun K hK=>?_
    go_simp;obtain ⟨V6,o6,hV,ho,bM,iP,ik,kR,aZ,dK⟩:=z_b yr
    try rw [hV]
    try rw [ho]
    refine k_t hK (aH.out _ iP) fun hHeld=>?_
    clear hK K hV ho;have fF:=bM.1;have bu:o5 ≠ o6:=by have:=aZ.out; have:=bU.1; omega
    have bU:=bU.ext dK;have fG:=bU.1;have aT:PlV V6 (fun b=>W.heap.size<=b/\b ≠ o5/\b ≠ o6) P _:=(aT.xo.ext dK).mono fun b hb=>by have:=hb.1; have:=hb.2; have:=aZ.out; omega
    have yE:=iP;have fH:=bU;have jX:=bM;have lw:=aT;have fK:o5 ≠ o6:=bu
   case' c5x6 =>
    go_simp;obtain ⟨V6,o6,hV,ho,bM,iP,ik,kR,aZ,dK⟩:=z_b iQ
    try rw [hV]
    try rw [ho]
    refine k_t hK (aH.out _ iP) fun hHeld=>?_
    clear hK K hV ho;have fF:=bM.1;have bu:o5 ≠ o6:=by have:=aZ.out; have:=bU.1; omega
    have bU:=bU.ext dK;have fG:=bU.1;refine r_1 4 fun K hK=>?_
    go_simp
    go_at_call 160
    refine (HR.out _ (HX.out.trans iP)).mono ?_;rintro e w5 ⟨v5,rfl,aT,x5⟩;have yr:=iP.trans x5;obtain ⟨D0,j2,k2,D1,k3,rfl,-⟩:=id aT.open_;unfold plV;refine k_t hK (aH.out _ yr) fun hHeld=>?_
    clear hK K;have bU:=bU.ext x5;have bM:=bM.ext x5;have aT:PlV w5 (fun b=>W.heap.size<=b/\b ≠ o5/\b ≠ o6) P _:=aT.mono fun b hb=>by have:=iP.size; have:=fG; have:=fF; omega
    have yE:=yr;have fH:=bU;have jX:=bM;have lw:=aT;have fK:o5 ≠ o6:=bu
  case' cx6 =>
   go_simp;obtain ⟨V6,o6,hV,ho,bM,iP,ik,kR,aZ,dK⟩:=z_d (Ext.refl W)
   try rw [hV]
   try rw [ho]
   refine k_t hK (aH.out _ iP) fun hHeld=>?_
   clear hK K hV ho;have fF:=bM.1;refine r_2 4 5 (fun K hK=>?c6x4) fun K hK=>?c6x5
   case' c6x4 =>
    go_simp
    go_at_call 160
    refine (HR.out _ (HX.out.trans iP)).mono ?_;rintro e w5 ⟨v5,rfl,aT,x5⟩;have yr:=iP.trans x5;obtain ⟨D0,j2,k2,D1,k3,rfl,-⟩:=id aT.open_;unfold plV;refine k_t hK (aH.out _ yr) fun hHeld=>?_
    clear hK K;have bM:=bM.ext x5;have aT:PlV w5 (fun b=>W.heap.size<=b/\b ≠ o6) P _:=aT.mono fun b hb=>by have:=iP.size; have:=fF; omega
    refine r_1 5 fun K hK=>?_
    go_simp;obtain ⟨V5,o5,hV,ho,bU,iQ,iw,kS,bg,dL⟩:=z_b yr
    try rw [hV]
    try rw [ho]
    refine k_t hK (aH.out _ iQ) fun hHeld=>?_
    clear hK K hV ho;have fG:=bU.1;have bu:o5 ≠ o6:=by have:=bg.out; have:=bM.1; omega
    have bM:=bM.ext dL;have fF:=bM.1;have aT:PlV V5 (fun b=>W.heap.size<=b/\b ≠ o5/\b ≠ o6) P _:=(aT.xo.ext dL).mono fun b hb=>by have:=hb.1; have:=hb.2; have:=bg.out; omega
    have yE:=iQ;have fH:=bU;have jX:=bM;have lw:=aT;have fK:o5 ≠ o6:=bu
   case' c6x5 =>
    go_simp;obtain ⟨V5,o5,hV,ho,bU,iQ,iw,kS,bg,dL⟩:=z_b iP
    try rw [hV]
    try rw [ho]
    refine k_t hK (aH.out _ iQ) fun hHeld=>?_
    clear hK K hV ho;have fG:=bU.1;have bu:o5 ≠ o6:=by have:=bg.out; have:=bM.1; omega
    have bM:=bM.ext dL;have fF:=bM.1;refine r_1 4 fun K hK=>?_
    go_simp
    go_at_call 160
    refine (HR.out _ (HX.out.trans iQ)).mono ?_;rintro e w5 ⟨v5,rfl,aT,x5⟩;have yr:=iQ.trans x5;obtain ⟨D0,j2,k2,D1,k3,rfl,-⟩:=id aT.open_;unfold plV;refine k_t hK (aH.out _ yr) fun hHeld=>?_
    clear hK K;have bU:=bU.ext x5;have bM:=bM.ext x5;have aT:PlV w5 (fun b=>W.heap.size<=b/\b ≠ o5/\b ≠ o6) P _:=aT.mono fun b hb=>by have:=iQ.size; have:=fG; have:=fF; omega
    have yE:=yr;have fH:=bU;have jX:=bM;have lw:=aT;have fK:o5 ≠ o6:=bu
  all_goals
   have KU:=fH.2.1;obtain ⟨Z0,zn,zc,Z1,wH,⟨g0,g1,g2,g3⟩,-⟩:=fH.2.2;have TC:PlV _ (fun b=>b < w.heap.size) g (plV g (.slice A1 m1 e1) (.slice B1 g.cs.length f1)):=(H1.out.xo.mono fun b hb=>hb.2).ext (HX.out.trans yE);refine r_1 7 fun K hK=>?_
   go_simp;clear g0 g1 g2 g3 KU;have tH:=fH.Vn g.lv g.neg A1 B1 m1 e1 g.cs.length f1;refine xu (P:=fun V7=>Ext W V7/\PBx V7 (fun b=>b < w.heap.size) o5 g/\PBx V7 (fun _=>False) o6 Pl.zero/\PlV V7 (fun b=>W.heap.size<=b/\b ≠ o5/\b ≠ o6) P _) ⟨(((yE.setCell iw _).setCell iw _).setCell iw _).setCell iw _,fH.store (TC.mono fun b hb=>⟨hb,by omega⟩),tH.Kb jX fK.symm (fun b hb=>hb.elim),(tH.pl lw (fun b hb=>by (try dsimp only at hb); omega)).mono (fun b hb=>by (try dsimp only at hb); refine ⟨?_,?_,?_⟩ <;> omega)⟩ (fun V7 mf=>?_);obtain ⟨y7,Ut,zH,EU⟩:=mf;refine k_t hK (aH.out _ y7) fun hHeld=>?_
   clear hK K;have KT:=zH.2.1;obtain ⟨Z2,YX,DV,Z3,YY,⟨g0,g1,g2,g3⟩,-⟩:=zH.2.2;refine r_1 8 fun K hK=>?_
   go_simp;clear g0 g1 g2 g3 KT;have zV:=zH.Vn P.lv P.neg D0 D1 j2 k2 P.cs.length k3;refine xu (P:=fun V8=>Ext W V8/\PBx V8 (fun b=>b < w.heap.size) o5 g/\PBx V8 (fun b=>W.heap.size<=b/\b ≠ o5) o6 P) ⟨(((y7.setCell ik _).setCell ik _).setCell ik _).setCell ik _,zV.Kb Ut fK (fun b hb=>by omega),zH.store (EU.mono fun b hb=>⟨⟨hb.1,hb.2.1⟩,hb.2.2⟩)⟩ (fun V8 qV=>?_);obtain ⟨y8,Ir,AZ⟩:=qV;refine hK.out _ _ (aH.out _ y8) (fun hHeld=>?_);clear hK K;refine w_d ?_;have YQ:Hid (udc w W g P o5 o6 V8):=hid ⟨y8,fK,iw,ik,Ir,AZ⟩;clear Ir AZ y8 fK zV tH Ut zH EU y7 fH jX lw yE TC Z0 zn zc Z1 wH Z2 YX DV Z3 YY;go_wp2_with fail
   go_meet
   exact ⟨_,_,rfl,rfl,YQ⟩
 case rest =>
  obtain ⟨o5,o6,rfl,rfl,YQ⟩:=hcut;obtain ⟨V8,rfl⟩:∃ V8,V8=wc:=⟨wc,rfl⟩;obtain ⟨y8,fK,iw,ik,Ir,AZ⟩:=YQ.out;have YV:=hid Ir;have PT:=hid AZ;have HR8:=hid (rp.ext y8);have Yv:Hid (jb V8 os one (.slice S0 MF MH) (.slice S1 one.cs.length MG)/\PlV V8 (fun b=>R < b/\b < os) one (plV one (.slice S0 MF MH) (.slice S1 one.cs.length MG))/\os < V8.heap.size/\∀ i,V8.frozen? ⟨os,i,none⟩=false):=hid ⟨Eo.out.1.ext y8 J7,Eo.out.2.ext y8,pw J7 y8.size,fun i=>(y8.frozen (p:=⟨os,i,none⟩) J7).trans (o7 i)⟩;have Y8:=hid y8;have Ap:=Ey.out;rw [nM.out] at Ap;clear Ir AZ y8 o7 YQ;obtain ⟨G2,IJ⟩:=n_m (qo l g);rw [IJ] at YE;have HGG:=hid IJ;clear IJ;go_wp2_with fail
  go_loopw [15] (fun u wr=>(u=undef/\wr=V8)\/(u=.int .i64 2/\Hid (mdg l P=1/\vdc w W o5 o6 R P Q2 wr))) (fun u _=>stM u)
  case atStart=>exact .inl ⟨rfl,rfl⟩
  case round =>
   rcases hrel with ⟨rfl,rfl⟩ | ⟨rfl,HI⟩
   · obtain ⟨yQ,KU,E0,NM,NS,E1,NP,ba,pa⟩:=YV.out;obtain ⟨Oj,KT,F0,Aw,AA,F1,Az,bb,pb⟩:=PT.out;obtain ⟨bs,ps,QZ,jU⟩:=Yv.out;have PA:=hid pa;have PB:=hid pb;have Gm:=hid (fun (W':World) (hx:Ext wr W')=>HDA.out W' _ _ (pa.ext hx));rw [nM.out] at Gm;have zY:Hid (∀ W',Ext wr W'->(Ext wr W'/\jb W' o5 g (.slice E0 NM NS) (.slice E1 g.cs.length NP)/\jb W' o6 P (.slice F0 Aw AA) (.slice F1 P.cs.length Az))):=hid (fun W' hx=>⟨hx,ba.ext hx yQ,bb.ext hx Oj⟩);have z0:Ext wr wr.drew:=(Ext.refl wr).drew;clear ba bb pa pb bs ps jU KU KT;unfold plV at Gm;go_upto_region 4 with fail;refine wp_region_held_drew (S:=fun W'=>Ext wr W'/\jb W' o5 g (.slice E0 NM NS) (.slice E1 g.cs.length NP)/\jb W' o6 P (.slice F0 Aw AA) (.slice F1 P.cs.length Az)) (by kernel_rfl) (zY.out _ z0) (fun hHeld=>?_);refine tk 0 ?_ (hy:=Or.inl ⟨by rfl,by intro w' aP; obtain ⟨-,⟨k0,k1,k2,k3⟩,k4,k5,k6,k7⟩:=aP; go_simp; (try (with_reducible rfl))⟩);refine tk 1 ?_;refine tk 3 ?_ (hy:=Or.inl ⟨by rfl,by intro w' aP; obtain ⟨-,⟨k0,k1,k2,k3⟩,k4,k5,k6,k7⟩:=aP; go_simp; (try (with_reducible rfl))⟩);refine tk 4 ?_;refine r_1 2 fun K hK=>?_
     go_simp
     go_at_call 109
     refine (Gm.out _ z0).mono ?_;rintro e w8 ⟨rfl,x8⟩;have z1:=z0.trans x8;refine k_t hK (zY.out _ z1) fun hHeld=>?_
     clear hK K;refine r_1 5 fun K hK=>?_
     go_simp
     go_at_call 109
     refine (PQ.out _ _ _ (PB.out.ext z1)).mono ?_;rintro e w9 ⟨rfl,x9⟩;have z2:=z1.trans x9;refine k_t hK (zY.out _ z2) fun hHeld=>?_
     clear hK K;refine tk 6 ?_;refine tk 7 ?_;refine w_d ?_;have Z2:=hid z2;have Yk:=hid hHeld.2;have jL:=HR8.out.ext z2;have adu:=oh.out;have adz:=Ap;have Nh:=VN.out;have ND:=ig.out;have Np:=YE.out;obtain ⟨D1,L8⟩:=n_m (mdg l P);rw [L8] at adu adz Nh ND Np ⊢;have Bj:=hid L8;have adg:=hid Nh;have adE:=hid ND;have adk:=hid Np;clear L8 z0 z1 z2 x8 x9 Gm hHeld Nh ND Np;have Xy:Ext w wr:=HX.out.trans Y8.out;have hLf:=zam (l:=l) Vs.out;have XT:Fit G2 2 D:=by rw [<- HGG.out]; exact zam (l:=l) DK.out
     have XK:Fit one 0 1:=by rw [<- Ae.out]; exact Fit.const (by decide)
     have hOc:one.Can:=by rw [<- Ae.out]; exact zt 1
     have hO1:one.pow 1=one:=Pl.qz (Pl.vo _ _) hOc fun ρ=>by rw [Pl.yW]; grind
     have hO2:∀ p:Pl,p.Can->one.mul p=p:=fun p hp=>Pl.qz (Pl.q8 _ _) hp fun ρ=>by rw [Pl.qD,<- Ae.out,Pl.qT]; grind
     have hO0:one ≠ Pl.zero:=fun e=>by
      have h2:=Pl.qT (fun _=>0) 1;rw [Ae.out,e,Pl.qu] at h2;exact absurd h2 (by decide)
     have YG:=hid (fun (W':World) (q:Nat->Prop) (u:Value) (hu:PlV W' q P u)=>gal u hl ag Vs.out (by omega) (by omega) hu);have Yo:=hid (fun (W':World) (q:Nat->Prop) (u:Value) (hu:PlV W' q (qo l P) u)=>qal (n:=1) u hu hLf (by simp) (by simp; omega) (by omega));rw [show (1:Int).toNat=1 from rfl] at Yo;have PE:=hid (fun (W':World) (qa qb:Nat->Prop) (u v:Value) (hu:PlV W' qa ((qo l P).pow 1) u) (hv:PlV W' qb P v)=>jal u v hu hv (hLf.pow 1) Vs.out (by omega) (by omega));have VJ:=hid (fun (W':World) (q:Nat->Prop) (u:Value) (hu:PlV W' q one u)=>qal (n:=1) u hu XK (by simp) (by simp) (by omega));rw [show (1:Int).toNat=1 from rfl,hO1] at VJ;have HQ1:=hid (fun (W':World) (qa qb:Nat->Prop) (u v:Value) (hu:PlV W' qa Q2 u) (hv:PlV W' qb one v)=>xb9 u v hu hv (hO2 Q2 Py.out.can).symm XK Py.out hO0 (by omega) (by omega));have YD:=hid (fun (W':World) (q:Nat->Prop) (u:Value) (hu:PlV W' q g u)=>gal u hl ag DK.out (by omega) (by omega) hu);rw [HGG.out] at YD;have VL:=hid (fun (W':World) (qa qb:Nat->Prop) (u v:Value) (hu:PlV W' qa one u) (hv:PlV W' qb G2 v)=>jal u v hu hv XK XT (by omega) (by omega));rw [hO2 G2 XT.can] at VL;have hGz:g ≠ Pl.zero:=qah (l:=l) (by have:=nM.out; omega);have UL:G2 ≠ Pl.zero:=by
      rw [<- HGG.out]; unfold qo;exact gag (Pl.xf hl ag DK.out.can).last (vae hl ag DK.out.can hGz)
     have HRm:=hid (fun (hP0:P ≠ Pl.zero) (W':World) (qa qb:Nat->Prop) (u v:Value) (hu:PlV W' qa g u) (hv:PlV W' qb P v)=>zbd u v hl ag hu hv DK.out Vs.out hP0 (by omega) (by omega));have HQ2:=hid (fun (W':World) (qa qb:Nat->Prop) (u v:Value) (hu:PlV W' qa (G2.mul Q2) u) (hv:PlV W' qb G2 v)=>xb9 u v hu hv rfl XT Py.out UL (by omega) (by omega));clear hLf XT XK hOc hO1 hO2 hO0 hGz UL
     by_cases hDm:D1=-1
     · subst hDm;have F8:=adg.out.1 rfl;have HF:Hid (kah (fun b=>w.heap.size<=b) [uaa l f g,qi l f g] w (.returned (.slice (some ⟨R,0,none⟩) 2 2)) w9):=hid (by
        rw [Dx.out,Yx.out,FY.out F8,F8]
        exact ⟨_,rfl,⟨_,_,rfl,by simp,by omega,fun _=>⟨R,rfl,mg,jL.mono fun b hb=>hb.elim⟩⟩,Xy.trans Z2.out⟩)
       clear jL F8 Xy Yk;go_wp2_with fail;go_ret;exact HF.out
     have hD0:¬ D1 < 0:=by omega
     have zQ:=jL.2.1;obtain ⟨R0,rn0,rc0,R1,rn1,rc1,⟨r0,r1,r2,r3⟩,-⟩:=jL.el 1 (by simp);simp only [tr,Nat.reduceAdd] at r0 r1 r2 r3;have f0:=zQ 4;have f1:=zQ 5;have f2:=zQ 6;have f3:=zQ 7;obtain ⟨V9,qC⟩:=n_m (((((w9.setCell ⟨R,4,none⟩ (.int .i64 P.lv)).setCell ⟨R,5,none⟩ (.bool P.neg)).setCell ⟨R,6,none⟩ (.slice F0 Aw AA)).setCell ⟨R,7,none⟩ (.slice F1 P.cs.length Az)));obtain ⟨x9w,zU,-,Qc⟩:=Frr.put (w0:=w) (ws:=w9) (j:=1) (x:=P) (Xy.trans Z2.out) (Frr.refl w9 R) (jL.mono (q':=fun b=>w.heap.size<=b/\b ≠ o5/\b ≠ o6/\b ≠ os/\b < wr.heap.size) fun b hb=>hb.elim) mg (by simp) ((PB.out.xo.ext Z2.out).mono fun b hb=>by
      obtain ⟨⟨⟨h1,h2⟩,h3⟩,h4⟩:=hb
      exact ⟨⟨by omega,h2,h3,by omega,h4⟩,by omega⟩) qC.symm
     have abw:V9.heap.size=w9.heap.size:=by rw [<- qC]; simp [World.setCell]
     have hZs:=Z2.out.size;have ZB:=Y8.out.size;have Ru:o5 ≠ R:=by omega
     have Rt:o6 ≠ R:=by omega
     have Rq:os ≠ R:=by omega
     have B5:Hid (jb V9 o5 g (.slice E0 NM NS) (.slice E1 g.cs.length NP)):=hid (zU.Qf Yk.out.1 (by omega) Ru);have B6:Hid (jb V9 o6 P (.slice F0 Aw AA) (.slice F1 P.cs.length Az)):=hid (zU.Qf Yk.out.2 (by omega) Rt);have BS:Hid (jb V9 os one (.slice S0 MF MH) (.slice S1 one.cs.length MG)):=hid (zU.Qf (Yv.out.1.ext Z2.out QZ) (by omega) Rq);have P5:=hid (zU.pl (PA.out.ext Z2.out) (fun b hb=>by have:=hb.1; omega));have P6:Hid (PlV V9 (fun b=>w.heap.size<=b/\b ≠ R/\b ≠ o5/\b ≠ o6/\b ≠ os/\b < V9.heap.size) P (plV P (.slice F0 Aw AA) (.slice F1 P.cs.length Az))):=hid ((zU.pl (PB.out.xo.ext Z2.out) (fun b hb=>by have:=hb.1.1.1; omega)).mono fun b hb=>by
      obtain ⟨⟨⟨h1,h2⟩,h3⟩,h4⟩:=hb
      refine ⟨?_,?_,?_,?_,?_,?_⟩ <;> omega)
     have PS:=hid (zU.pl (Yv.out.2.1.ext Z2.out) (fun b hb=>by have:=hb.1; omega));have HR9:=hid Qc;have X9:=hid x9w;have CZ:∀ i,V9.frozen? ⟨o5,i,none⟩=false:=fun i=>(sL (a:=⟨o5,i,none⟩) (zU.block o5 (by omega) Ru)).trans ((Z2.out.frozen (p:=⟨o5,i,none⟩) yQ).trans (YV.out.2.1 i))
     have hF6:∀ i,V9.frozen? ⟨o6,i,none⟩=false:=fun i=>(sL (a:=⟨o6,i,none⟩) (zU.block o6 (by omega) Rt)).trans ((Z2.out.frozen (p:=⟨o6,i,none⟩) Oj).trans (PT.out.2.1 i))
     have L6:∀ i,V9.frozen? ⟨os,i,none⟩=false:=fun i=>(sL (a:=⟨os,i,none⟩) (zU.block os (by omega) Rq)).trans ((Z2.out.frozen (p:=⟨os,i,none⟩) QZ).trans (Yv.out.2.2.2 i))
     have HFZ:=hid (And.intro CZ (And.intro hF6 L6));have D8:o5 < V9.heap.size:=by omega
     have Fg:o6 < V9.heap.size:=by omega
     have Xn:os < V9.heap.size:=by omega
     obtain ⟨kb0,kb1,kb2,kb3⟩:=Yk.out.2;obtain ⟨yD,Fa⟩:=n_m (V9.heap.size);obtain ⟨nJ,zM⟩:=n_m (V9.alloc (.cells #[.int .i64 P.lv,.bool P.neg,.slice F0 Aw AA,.slice F1 P.cs.length Az] 33));have x10:Ext V9 nJ:=by rw [<- zM]; exact (Ext.refl V9).alloc _
     have Qk:PBx nJ (fun b=>w.heap.size<=b/\b ≠ R/\b ≠ o5/\b ≠ o6/\b ≠ os) yD P:=by rw [<- zM,<- Fa]; exact PBx.new (P6.out.mono fun b hb=>⟨hb.1,hb.2.1,hb.2.2.1,hb.2.2.2.1,hb.2.2.2.2.1⟩) _
     have rV:V9.heap.size<=yD:=by rw [Fa]; exact pj _
     have Dk:=hid x10;have U7:=hid Qk;have aip:=X9.out.size;clear jL Xy x9w zU Qc abw hZs ZB CZ hF6 L6 x10 Qk;have aib:IntKind.i64.wrap (2 - 1)=1:=rfl;go_upto_region 8 with fail
     try rw [qC]
     obtain ⟨k60,k61,k62,k63⟩:=B6.out;clear qC r0 r1 r2 r3 f0 f1 f2 f3 kb0 kb1 kb2 kb3;rcases (by omega:D1=0\/D1=1) with rfl | rfl
     · rw [adE.out rfl] at PE;have Po:Hid (∀ W',Ext V9 W'->(jb W' o6 P (.slice F0 Aw AA) (.slice F1 P.cs.length Az)/\jb W' os one (.slice S0 MF MH) (.slice S1 one.cs.length MG))):=hid (fun W' hx=>⟨B6.out.ext hx Fg,BS.out.ext hx Xn⟩);have aic:IntKind.i64.wrap (2 - 0)=2:=rfl;go_upto_region 10 with fail
       try rw [zM]
       try rw [Fa]
       clear zM k60 k61 k62 k63;have y0:Ext V9 nJ.drew:=Dk.out.drew;refine wp_region_held_drew (S:=fun W'=>Ext V9 W') (by kernel_rfl) y0 (fun hHeld=>?_);refine tk 0 ?_ (hy:=Or.inl ⟨by rfl,by intro w' aP; obtain ⟨⟨k0,k1,k2,k3⟩,-⟩:=Po.out w' aP; go_simp; (try (with_reducible rfl))⟩);refine tk 1 ?_;refine tk 3 ?_;refine tk 4 ?_;refine tk 6 ?_ (hy:=Or.inl ⟨by rfl,by intro w' aP; obtain ⟨⟨k0,k1,k2,k3⟩,-⟩:=Po.out w' aP; go_simp; (try (with_reducible rfl))⟩);refine r_1 2 fun K hK=>?_
       go_simp
       go_at_call 111
       refine (YG.out _ _ _ (P6.out.ext y0)).mono ?_;rintro e w3 ⟨v3,rfl,m3,x3⟩;have y1:=y0.trans x3;refine k_t hK y1 fun hHeld=>?_
       clear hK K;refine r_1 5 fun K hK=>?_
       go_simp
       go_at_call 25
       refine (Yo.out _ _ _ m3).mono ?_;rintro e w4 ⟨v4,rfl,m4,x4⟩;have y2:=y1.trans x4;refine k_t hK y2 fun hHeld=>?_
       clear hK K;refine r_1 7 fun K hK=>?_
       go_simp
       go_at_call 15
       refine (PE.out _ _ _ _ _ m4 (P6.out.ext y2)).mono ?_;rintro e w5 ⟨v5,rfl,m5,x5⟩;have y3:=y2.trans x5;obtain ⟨C0,oL,oN,C1,oM,rfl,-⟩:=id m5.open_;unfold plV;refine k_t hK y3 fun hHeld=>?_
       clear hK K;have z17:=((((U7.out.ext (Ext.refl nJ).drew).ext x3).ext x4).ext x5);have jJ:=z17.2.1;obtain ⟨T0,tn,tc,T1,tc1,⟨g0,g1,g2,g3⟩,-⟩:=z17.2.2;have lC:V9.heap.size < w4.heap.size:=by have:=Dk.out.size; have:=y2.size; have:=U7.out.1; have:=x3.size; have:=x4.size; have:nJ.drew.heap.size=nJ.heap.size:=rfl; omega
       have Hq:yD < w4.heap.size:=by have:=U7.out.1; have:=x3.size; have:=x4.size; have:nJ.drew.heap.size=nJ.heap.size:=rfl; omega
       refine r_1 8 fun K hK=>?_
       go_simp;clear g0 g1 g2 g3 jJ;refine xu (P:=fun V=>Ext V9 V/\PBx V (fun b=>V9.heap.size<=b) yD Q2) ⟨(((y3.setCell rV _).setCell rV _).setCell rV _).setCell rV _,z17.store (m5.mono fun b hb=>⟨by omega,by omega⟩)⟩ (fun O8 abE=>?_);obtain ⟨YZ,z11⟩:=abE;refine k_t hK YZ fun hHeld=>?_
       clear hK K;refine w_d ?_;have Y11:=hid YZ;have Yd:=hid z11;clear y0 y1 y2 y3 m3 m4 m5 x3 x4 x5 z17 lC Hq YZ z11 hHeld;go_upto_region 11 with fail;have y0:Ext V9 O8.drew:=Y11.out.drew;refine wp_region_held_drew (S:=fun W'=>Ext V9 W') (by kernel_rfl) y0 (fun hHeld=>?_);refine tk 1 ?_ (hy:=Or.inl ⟨by rfl,by intro w' aP; obtain ⟨-,k0,k1,k2,k3⟩:=Po.out w' aP; go_simp; (try (with_reducible rfl))⟩);refine tk 2 ?_;refine tk 3 ?_;refine r_2 0 4 (fun K hK=>?ldA) fun K hK=>?ldB
       case' ldA =>
        obtain ⟨-,-,G0,FQ,FU,G1,FT,⟨k0,k1,k2,k3⟩,GZ⟩:=Yd.out.ext (Ext.refl O8).drew;go_simp;refine k_t hK y0 fun hHeld=>?_
        clear hK K k0 k1 k2 k3;refine r_1 4 fun K hK=>?_
        go_simp
        go_at_call 25
        refine (VJ.out _ _ _ (PS.out.ext y0)).mono ?_;rintro e w4 ⟨v4,rfl,m4,x4⟩;have y1:=y0.trans x4;refine k_t hK y1 fun hHeld=>?_
        clear hK K;have JY:=GZ.ext x4
       case' ldB =>
        go_simp
        go_at_call 25
        refine (VJ.out _ _ _ (PS.out.ext y0)).mono ?_;rintro e w4 ⟨v4,rfl,m4,x4⟩;have y1:=y0.trans x4;refine k_t hK y1 fun hHeld=>?_
        clear hK K;refine r_1 0 fun K hK=>?_
        obtain ⟨-,-,G0,FQ,FU,G1,FT,⟨k0,k1,k2,k3⟩,JY⟩:=(Yd.out.ext (Ext.refl O8).drew).ext x4;go_simp;refine k_t hK y1 fun hHeld=>?_
        clear hK K k0 k1 k2 k3
       all_goals
        refine r_1 5 fun K hK=>?_
        try unfold plV
        go_simp
        go_at_call 161
        refine (HQ1.out _ _ _ _ _ JY m4).mono ?_;rintro e w5 ⟨v5,rfl,m5,x5⟩;have y2:=y1.trans x5;obtain ⟨C0,oL,oN,C1,oM,rfl,-⟩:=id m5.open_;unfold plV;refine k_t hK y2 fun hHeld=>?_
        clear hK K;have z17:=((Yd.out.ext (Ext.refl O8).drew).ext x4).ext x5;have jJ:=z17.2.1;obtain ⟨T0,tn,tc,T1,tc1,⟨g0,g1,g2,g3⟩,-⟩:=z17.2.2;have Hq:yD < w4.heap.size:=by have:=Yd.out.1; have:=x4.size; have:O8.drew.heap.size=O8.heap.size:=rfl; omega
        refine r_1 6 fun K hK=>?_
        go_simp;clear g0 g1 g2 g3 jJ;refine xu (P:=fun V=>Ext V9 V/\PBx V (fun b=>V9.heap.size<=b) yD Q2) ⟨(((y2.setCell rV _).setCell rV _).setCell rV _).setCell rV _,z17.store (m5.mono fun b hb=>⟨by omega,by omega⟩)⟩ (fun V12 abD=>?_);obtain ⟨WL,z12⟩:=abD;refine k_t hK WL fun hHeld=>?_
        clear hK K;refine w_d ?_;obtain ⟨ai0,-,G3,gX,pF,G4,bZ,⟨k0,k1,k2,k3⟩,QX⟩:=z12;have ae:=HR9.out.ext WL;have hq:=ae.2.1;have f0:=hq 0;have f1:=hq 1;have f2:=hq 2;have f3:=hq 3;obtain ⟨U0,un0,uc0,U1,un1,uc1,⟨r0,r1,r2,r3⟩,-⟩:=ae.el 0 (by simp);simp only [sY,rh] at r0 r1 r2 r3;obtain ⟨V13,abC⟩:=n_m (((((V12.setCell ⟨R,0,none⟩ (.int .i64 Q2.lv)).setCell ⟨R,1,none⟩ (.bool Q2.neg)).setCell ⟨R,2,none⟩ (.slice G3 gX pF)).setCell ⟨R,3,none⟩ (.slice G4 Q2.cs.length bZ)));obtain ⟨P9,-,-,Gw⟩:=Frr.put (w0:=w) (ws:=V12) (j:=0) (x:=Q2) (X9.out.trans WL) (Frr.refl V12 R) (ae.mono (q':=fun b=>w.heap.size<=b) fun b hb=>hb.1) mg (by simp) (QX.mono fun b hb=>by (try dsimp only at hb); exact ⟨by omega,by omega⟩) abC.symm;have HF:Hid (kah (fun b=>w.heap.size<=b) [uaa l f g,qi l f g] w (.returned (.slice (some ⟨R,0,none⟩) 2 2)) V13):=hid (by
         rw [Dx.out,Yx.out]
         exact ⟨_,rfl,⟨_,_,rfl,by simp,by omega,fun _=>⟨R,rfl,mg,Gw⟩⟩,P9⟩)
        clear ae hq P9 Gw y0 y1 y2 m4 m5 x4 x5 z17 WL QX JY hHeld;go_wp2_with fail;go_ret;exact HF.out
     · have hPz:P ≠ Pl.zero:=qah (l:=l) (by have:=Bj.out; omega);have Yw:=hid (HRm.out hPz);rw [adk.out rfl] at Yw;have Po:Hid (∀ W',Ext nJ W'->(jb W' o5 g (.slice E0 NM NS) (.slice E1 g.cs.length NP)/\jb W' os one (.slice S0 MF MH) (.slice S1 one.cs.length MG))):=hid (fun W' hx=>⟨B5.out.ext (Dk.out.trans hx) D8,BS.out.ext (Dk.out.trans hx) Xn⟩);clear hPz;go_upto_region 15 with fail
       try rw [zM]
       try rw [Fa]
       clear zM k60 k61 k62 k63
       go_cut [19] from 75 to 81 (fun s19 wc=>∃ Bq,s19=.pointer (some ⟨Bq,0,none⟩)/\Hid (Ext nJ wc/\nJ.heap.size<=Bq/\PBx wc (fun b=>nJ.heap.size<=b) Bq G2))
       case first =>
        have y0:Ext nJ nJ.drew:=(Ext.refl nJ).drew;refine wp_region_held_drew (S:=fun W'=>Ext nJ W') (by kernel_rfl) y0 (fun hHeld=>?_);refine tk 0 ?_ (hy:=Or.inl ⟨by rfl,by intro w' aP; obtain ⟨-,k0,k1,k2,k3⟩:=Po.out w' aP; go_simp; (try (with_reducible rfl))⟩);refine tk 1 ?_;refine tk 3 ?_ (hy:=Or.inl ⟨by rfl,by intro w' aP; obtain ⟨⟨k0,k1,k2,k3⟩,-⟩:=Po.out w' aP; go_simp; (try (with_reducible rfl))⟩);refine tk 4 ?_;refine r_2 2 7 (fun K hK=>?q20x2) fun K hK=>?q20x7
        case' q20x2 =>
         go_simp
         go_at_call 25
         refine (VJ.out _ _ _ (PS.out.ext (Dk.out.trans y0))).mono ?_;rintro e w2 ⟨v2,rfl,m2,x2⟩;have ya:=y0.trans x2;refine k_t hK ya fun hHeld=>?_
         clear hK K;refine r_2 5 7 (fun K hK=>?q50x5) fun K hK=>?q50x7
         case' q50x5 =>
          go_simp
          go_at_call 111
          refine (YD.out _ _ _ (P5.out.ext (Dk.out.trans ya))).mono ?_;rintro e w5 ⟨v5,rfl,m5,x5⟩;have yb:=ya.trans x5;have m2:=m2.ext x5;refine k_t hK yb fun hHeld=>?_
          clear hK K;refine r_2 6 7 (fun K hK=>?q60x6) fun K hK=>?q60x7
          case' q60x6 =>
           go_simp
           go_at_call 15
           refine (VL.out _ _ _ _ _ m2 m5).mono ?_;rintro e w6 ⟨v6,rfl,hp,x6⟩;have yc:=yb.trans x6;obtain ⟨F0,j4,k4,F1,k5,rfl,-⟩:=id hp.open_;unfold plV;refine k_t hK yc fun hHeld=>?_
           clear hK K;have hp:PlV w6 (fun b=>nJ.heap.size<=b) G2 _:=hp.mono fun b hb=>by have:=yb.size; omega
           refine r_1 7 fun K hK=>?_
           go_simp;obtain ⟨V,o,hV,ho,hz,yA,kT,pz,jY,mJ⟩:=z_b yc
           try rw [hV]
           try rw [ho]
           refine k_t hK yA fun hHeld=>?_
           clear hK K hV ho;have hp:PlV V (fun b=>nJ.heap.size<=b/\b ≠ o) G2 _:=(hp.xo.ext mJ).mono fun b hb=>by have:=hb.1; have:=hb.2; have:=jY.out; constructor <;> omega
           have yE:=yA;have kM:=hz;have lw:=hp
          case' q60x7 =>
           go_simp;obtain ⟨V,o,hV,ho,hz,yA,kT,pz,jY,mJ⟩:=z_b yb
           try rw [hV]
           try rw [ho]
           refine k_t hK yA fun hHeld=>?_
           clear hK K hV ho;have m2:=m2.ext mJ;have m5:=m5.ext mJ;refine r_1 6 fun K hK=>?_
           go_simp
           go_at_call 15
           refine (VL.out _ _ _ _ _ m2 m5).mono ?_;rintro e w6 ⟨v6,rfl,hp,x6⟩;have yc:=yA.trans x6;obtain ⟨F0,j4,k4,F1,k5,rfl,-⟩:=id hp.open_;unfold plV;refine k_t hK yc fun hHeld=>?_
           clear hK K;have hp:PlV w6 (fun b=>nJ.heap.size<=b/\b ≠ o) G2 _:=hp.mono fun b hb=>by have:=yA.size; have:=hz.1; constructor <;> omega
           have hz:=hz.ext x6;have yE:=yc;have kM:=hz;have lw:=hp
         case' q50x7 =>
          go_simp;obtain ⟨V,o,hV,ho,hz,yA,kT,pz,jY,mJ⟩:=z_b ya
          try rw [hV]
          try rw [ho]
          refine k_t hK yA fun hHeld=>?_
          clear hK K hV ho;have m2:=m2.ext mJ;refine r_1 5 fun K hK=>?_
          go_simp
          go_at_call 111
          refine (YD.out _ _ _ (P5.out.ext (Dk.out.trans yA))).mono ?_;rintro e w5 ⟨v5,rfl,m5,x5⟩;have yb:=yA.trans x5;have m2:=m2.ext x5;refine k_t hK yb fun hHeld=>?_
          clear hK K;have hz:=hz.ext x5;refine r_1 6 fun K hK=>?_
          go_simp
          go_at_call 15
          refine (VL.out _ _ _ _ _ m2 m5).mono ?_;rintro e w6 ⟨v6,rfl,hp,x6⟩;have yc:=yb.trans x6;obtain ⟨F0,j4,k4,F1,k5,rfl,-⟩:=id hp.open_;unfold plV;refine k_t hK yc fun hHeld=>?_
          clear hK K;have hp:PlV w6 (fun b=>nJ.heap.size<=b/\b ≠ o) G2 _:=hp.mono fun b hb=>by have:=yb.size; have:=hz.1; constructor <;> omega
          have hz:=hz.ext x6;have yE:=yc;have kM:=hz;have lw:=hp
        case' q20x7 =>
         go_simp;obtain ⟨V,o,hV,ho,hz,yA,kT,pz,jY,mJ⟩:=z_d (Ext.refl nJ)
         try rw [hV]
         try rw [ho]
         refine k_t hK yA fun hHeld=>?_
         clear hK K hV ho;refine r_1 2 fun K hK=>?_
         go_simp
         go_at_call 25
         refine (VJ.out _ _ _ (PS.out.ext (Dk.out.trans yA))).mono ?_;rintro e w2 ⟨v2,rfl,m2,x2⟩;have ya:=yA.trans x2;refine k_t hK ya fun hHeld=>?_
         clear hK K;have hz:=hz.ext x2;refine r_1 5 fun K hK=>?_
         go_simp
         go_at_call 111
         refine (YD.out _ _ _ (P5.out.ext (Dk.out.trans ya))).mono ?_;rintro e w5 ⟨v5,rfl,m5,x5⟩;have yb:=ya.trans x5;have m2:=m2.ext x5;refine k_t hK yb fun hHeld=>?_
         clear hK K;have hz:=hz.ext x5;refine r_1 6 fun K hK=>?_
         go_simp
         go_at_call 15
         refine (VL.out _ _ _ _ _ m2 m5).mono ?_;rintro e w6 ⟨v6,rfl,hp,x6⟩;have yc:=yb.trans x6;obtain ⟨F0,j4,k4,F1,k5,rfl,-⟩:=id hp.open_;unfold plV;refine k_t hK yc fun hHeld=>?_
         clear hK K;have hp:PlV w6 (fun b=>nJ.heap.size<=b/\b ≠ o) G2 _:=hp.mono fun b hb=>by have:=yb.size; have:=hz.1; constructor <;> omega
         have hz:=hz.ext x6;have yE:=yc;have kM:=hz;have lw:=hp
        all_goals
         have jJ:=kM.2.1;obtain ⟨Z0,zn,zc,Z1,wH,⟨g0,g1,g2,g3⟩,-⟩:=kM.2.2;refine r_1 8 fun K hK=>?_
         go_simp;clear g0 g1 g2 g3 jJ;refine xu (P:=fun V7=>Ext nJ V7/\PBx V7 (fun b=>nJ.heap.size<=b) o G2) ⟨(((yE.setCell kT _).setCell kT _).setCell kT _).setCell kT _,kM.store lw⟩ (fun V7 mf=>?_);obtain ⟨y9,b9⟩:=mf;refine k_t hK y9 fun hHeld=>?_
         clear hK K;refine w_d ?_;have HN:=hid (And.intro y9 (And.intro kT b9));clear y9 b9 kM lw yE hHeld;go_wp2_with fail
         go_meet
         exact ⟨_,rfl,HN⟩
       case rest =>
       obtain ⟨Bq,rfl,H19⟩:=hcut;obtain ⟨VB,rfl⟩:∃ VB,VB=wc:=⟨wc,rfl⟩;obtain ⟨x19,aiB,z19⟩:=H19.out;have Gv:Ext V9 VB:=Dk.out.trans x19;have h10:=Dk.out.size;have akh:=U7.out.1;have hBs:=x19.size;have C5:=hid (B5.out.ext Gv D8);have C6:=hid (B6.out.ext Gv Fg);obtain ⟨aay,-,T0,O9,Pg,T1,Pe,c17,p17⟩:=U7.out.ext x19;obtain ⟨aax,-,U0,Yf,Yh,U1,Yg,c19,p19⟩:=z19;have ac9:=hid p17;have ac8:=hid p19;have XB:=hid Gv;have iE:Hid (∀ W',Ext VB W'->(Ext w W'/\jb W' yD P (.slice T0 O9 Pg) (.slice T1 P.cs.length Pe)/\jb W' Bq G2 (.slice U0 Yf Yh) (.slice U1 G2.cs.length Yg))):=hid (fun W' hx=>⟨(X9.out.trans Gv).trans hx,c17.ext hx aay,c19.ext hx aax⟩);have Sr:o5 < VB.heap.size:=by have:=Gv.size; omega
       have Sm:o6 < VB.heap.size:=by have:=Gv.size; omega
       have aiZ:os < VB.heap.size:=by have:=Gv.size; omega
       clear c17 c19 p17 p19 Gv x19 H19;go_upto_region 16 with fail;have y0:Ext VB VB.drew:=(Ext.refl VB).drew;refine wp_region_held_drew (S:=fun W'=>Ext w W'/\jb W' yD P (.slice T0 O9 Pg) (.slice T1 P.cs.length Pe)/\jb W' Bq G2 (.slice U0 Yf Yh) (.slice U1 G2.cs.length Yg)) (by kernel_rfl) (iE.out _ y0) (fun hHeld=>?_);refine tk 0 ?_ (hy:=Or.inl ⟨by rfl,by intro w' aP; obtain ⟨-,⟨k0,k1,k2,k3⟩,k4,k5,k6,k7⟩:=aP; go_simp; (try (with_reducible rfl))⟩);refine tk 3 ?_;refine tk 5 ?_ (hy:=Or.inl ⟨by rfl,by intro w' aP; obtain ⟨-,⟨k0,k1,k2,k3⟩,k4,k5,k6,k7⟩:=aP; go_simp; (try (with_reducible rfl))⟩);refine r_2 1 2 (fun K hK=>?ldP) fun K hK=>?ldQ
       case' ldP =>
        obtain ⟨k0,k1,k2,k3⟩:=C5.out.ext y0 Sr;go_simp;refine k_t hK (iE.out _ y0) fun hHeld=>?_
        clear hK K k0 k1 k2 k3;refine r_1 2 fun K hK=>?_
        obtain ⟨k0,k1,k2,k3⟩:=C6.out.ext y0 Sm;go_simp;refine k_t hK (iE.out _ y0) fun hHeld=>?_
        clear hK K k0 k1 k2 k3
       case' ldQ =>
        obtain ⟨k0,k1,k2,k3⟩:=C6.out.ext y0 Sm;go_simp;refine k_t hK (iE.out _ y0) fun hHeld=>?_
        clear hK K k0 k1 k2 k3;refine r_1 1 fun K hK=>?_
        obtain ⟨k0,k1,k2,k3⟩:=C5.out.ext y0 Sr;go_simp;refine k_t hK (iE.out _ y0) fun hHeld=>?_
        clear hK K k0 k1 k2 k3
       all_goals
        refine r_1 4 fun K hK=>?_
        try unfold plV
        go_simp
        go_at_call 160
        refine (Yw.out _ _ _ _ _ (P5.out.ext (XB.out.trans y0)) (P6.out.ext (XB.out.trans y0))).mono ?_;rintro e w4 ⟨v4,rfl,m4,x4⟩;have y1:=y0.trans x4;refine k_t hK (iE.out _ y1) fun hHeld=>?_
        clear hK K;refine r_1 6 fun K hK=>?_
        try unfold plV
        go_simp
        go_at_call 161
        refine (HQ2.out _ _ _ _ _ m4 (ac8.out.ext y1)).mono ?_;rintro e w6 ⟨v6,rfl,m6,x6⟩;have y2:=y1.trans x6;obtain ⟨C0,oL,oN,C1,oM,rfl,-⟩:=id m6.open_;unfold plV;refine k_t hK (iE.out _ y2) fun hHeld=>?_
        clear hK K;have y9:Ext V9 w6:=XB.out.trans y2;have ER:=iE.out _ y2;have hw6:=x6.size;have Ob:=y1.size;have h9w:V9.heap.size<=w4.heap.size:=by have:=XB.out.size; omega
        have z5:PBx w6 (fun b=>b < w.heap.size) o5 g:=⟨by omega,fun i=>(y9.frozen (p:=⟨o5,i,none⟩) D8).trans (HFZ.out.1 i),_,_,_,_,_,B5.out.ext y9 D8,(P5.out.ext y9).mono fun b hb=>hb⟩;have z6:PBx w6 (fun b=>w.heap.size<=b/\b ≠ R/\b ≠ o5/\b ≠ os) o6 P:=⟨by omega,fun i=>(y9.frozen (p:=⟨o6,i,none⟩) Fg).trans (HFZ.out.2.1 i),_,_,_,_,_,B6.out.ext y9 Fg,(P6.out.ext y9).mono fun b hb=>by
         obtain ⟨h1,h2,h3,h4,h5,h6⟩:=hb
         exact ⟨⟨h1,h2,h3,h5⟩,h4⟩⟩
        have zs:PBx w6 (fun b=>R < b/\b < W.heap.size) os one:=⟨by omega,fun i=>(y9.frozen (p:=⟨os,i,none⟩) Xn).trans (HFZ.out.2.2 i),_,_,_,_,_,BS.out.ext y9 Xn,(PS.out.ext y9).mono fun b hb=>⟨⟨hb.1,by omega⟩,by omega⟩⟩;have ae:=HR9.out.ext y9;have QW:PlV w6 (fun b=>(w.heap.size<=b/\b ≠ R/\b ≠ o6/\b ≠ os)/\b ≠ o5) P (plV P (.slice T0 O9 Pg) (.slice T1 P.cs.length Pe)):=(ac9.out.ext y2).mono fun b hb=>by
         obtain ⟨⟨h1,h2,h3,h4,h5⟩,h6⟩:=hb;exact ⟨⟨h1,h2,h4,h5⟩,h3⟩
        have hm6:PlV w6 (fun b=>w4.heap.size<=b) Q2 (plV Q2 (.slice C0 oL oN) (.slice C1 Q2.cs.length oM)):=m6.mono fun b hb=>by omega
        have jJ:=z5.2.1;obtain ⟨Z0,zn,zc,Z1,wH,⟨g0,g1,g2,g3⟩,-⟩:=z5.2.2;have tH:=z5.Vn P.lv P.neg T0 T1 O9 Pg P.cs.length Pe;have EL:w.heap.size<=o5:=by omega
        have EK:w.heap.size<=o6:=by omega
        have Rx:yD ≠ o5:=by omega
        have Rw:yD ≠ o6:=by omega
        have aaj:Bq ≠ o5:=by omega
        have Cb:Bq ≠ o6:=by omega
        have bu:=fK;have SC:yD < w6.heap.size:=by omega
        have Sv:Bq < w6.heap.size:=by omega
        refine r_1 7 fun K hK=>?_
        go_simp;clear g0 g1 g2 g3 jJ;refine xu (P:=fun V=>(Ext w V/\jb V yD P (.slice T0 O9 Pg) (.slice T1 P.cs.length Pe)/\jb V Bq G2 (.slice U0 Yf Yh) (.slice U1 G2.cs.length Yg))/\PBx V (fun b=>w.heap.size<=b/\b ≠ R/\b ≠ o6/\b ≠ os) o5 P/\PBx V (fun b=>w.heap.size<=b/\b ≠ R/\b ≠ o5/\b ≠ os) o6 P/\PBx V (fun b=>R < b/\b < W.heap.size) os one/\xh V (fun b=>w.heap.size<=b/\b ≠ o5/\b ≠ o6/\b ≠ os/\b < wr.heap.size) R [Pl.zero,P]/\PlV V (fun b=>w4.heap.size<=b) Q2 (plV Q2 (.slice C0 oL oN) (.slice C1 Q2.cs.length oM))/\w6.heap.size<=V.heap.size) ⟨⟨(((ER.1.setCell EL _).setCell EL _).setCell EL _).setCell EL _,tH.Qf ER.2.1 SC Rx,tH.Qf ER.2.2 Sv aaj⟩,z5.store QW,tH.Kb z6 (fun e=>bu e.symm) (fun b hb=>hb.2.2.1),tH.Kb zs (by omega) (fun b hb=>by omega),tH.row ae (by omega) (fun b hb=>hb.2.1),tH.pl hm6 (fun b hb=>by omega),tH.size⟩ (fun V14 abB=>?_);obtain ⟨BK,a14,b14,s14,r14,q14,l14⟩:=abB;refine k_t hK BK fun hHeld=>?_
        clear hK K tH z5 z6 zs QW hm6 ae ER;have jJ:=b14.2.1;obtain ⟨Z0,zn,zc,Z1,wH,⟨g0,g1,g2,g3⟩,-⟩:=b14.2.2;have zV:=b14.Vn Q2.lv Q2.neg C0 C1 oL oN Q2.cs.length oM;refine r_1 8 fun K hK=>?_
        go_simp;clear g0 g1 g2 g3 jJ;refine xu (P:=fun V=>(Ext w V/\jb V yD P (.slice T0 O9 Pg) (.slice T1 P.cs.length Pe)/\jb V Bq G2 (.slice U0 Yf Yh) (.slice U1 G2.cs.length Yg))/\PBx V (fun b=>w.heap.size<=b/\b ≠ R/\b ≠ o6/\b ≠ os) o5 P/\PBx V (fun b=>w4.heap.size<=b) o6 Q2/\PBx V (fun b=>R < b/\b < W.heap.size) os one/\xh V (fun b=>w.heap.size<=b/\b ≠ o5/\b ≠ o6/\b ≠ os/\b < wr.heap.size) R [Pl.zero,P]) ⟨⟨(((BK.1.setCell EK _).setCell EK _).setCell EK _).setCell EK _,zV.Qf BK.2.1 (by omega) Rw,zV.Qf BK.2.2 (by omega) Cb⟩,zV.Kb a14 bu (fun b hb=>hb.2.2.1),b14.store (q14.mono fun b hb=>⟨hb,by omega⟩),zV.Kb s14 (by omega) (fun b hb=>by omega),zV.row r14 (by omega) (fun b hb=>hb.2.2.1)⟩ (fun V15 abA=>?_);obtain ⟨JP,a15,b15,s15,r15⟩:=abA;refine hK.out _ _ JP (fun hHeld=>?_);clear hK K zV a14 b14 s14 r14 q14 BK;refine w_d ?_;have acN:=hid JP.1;have adN:=hid a15;have adI:=hid b15;have acA:=hid s15;have acX:=hid r15;obtain ⟨-,-,G0,FQ,FU,G1,FT,⟨g0,g1,g2,g3⟩,Qe⟩:=a15;have VT:=hid (YG.out _ _ _ Qe);unfold plV at VT;clear JP b15 s15 r15 Qe hHeld y0 y1 y2 y9 m4 m6 x4 x6;go_wp2_with fail;clear g0 g1 g2 g3;refine VT.out.mono ?_;rintro e w7 ⟨v7,rfl,m7,x7⟩;obtain ⟨I0,in0,ic0,I1,ic1,rfl,-⟩:=id m7.open_;have s7:=acA.out.ext x7;have jJ:=s7.2.1;have fi0:=jJ 0;have fi1:=jJ 1;have fi2:=jJ 2;have fi3:=jJ 3;obtain ⟨Z0,zn,zc,Z1,wH,⟨g0,g1,g2,g3⟩,-⟩:=s7.2.2;obtain ⟨LP,hLP⟩:=n_m (qo l P);rw [hLP] at m7 ⊢;have UV:=s7.Vn LP.lv LP.neg I0 I1 in0 ic0 LP.cs.length ic1;obtain ⟨V16,UA⟩:=n_m (((((w7.setCell ⟨os,0,none⟩ (.int .i64 LP.lv)).setCell ⟨os,1,none⟩ (.bool LP.neg)).setCell ⟨os,2,none⟩ (.slice I0 in0 ic0)).setCell ⟨os,3,none⟩ (.slice I1 LP.cs.length ic1)));rw [UA] at UV;have HN:Hid (mdg l P=1/\vdc w W o5 o6 R P Q2 V16):=hid ⟨Bj.out,by rw [<- UA]; exact (((((acN.out.trans x7).setCell wU _).setCell wU _).setCell wU _).setCell wU _),(UV.Kb (adN.out.ext x7) (by omega) (fun b hb=>hb.2.2.2)).mono (fun _ _=>trivial),(UV.Kb (adI.out.ext x7) (by omega) (fun b hb=>by omega)).mono (fun b hb=>⟨by omega,by omega⟩),(UV.row (acX.out.ext x7) (by omega) (fun b hb=>hb.2.2.2.1)).mono (fun b hb=>⟨hb.1,hb.2.2.1⟩)⟩;clear VT m7 x7 s7 UV hLP jJ;unfold plV;go_wp2_with fail;clear g0 g1 g2 g3 fi0 fi1 fi2 fi3
        go_roundw
        case rel=>exact .inr ⟨rfl,HN⟩
        case measure=>decide
   · obtain ⟨hP1,Dc⟩:=HI.out;obtain ⟨nN,ha,hb,hr⟩:=Dc;obtain ⟨yQ,-,E0,NM,NS,E1,NP,ba,pa⟩:=ha;obtain ⟨Oj,-,F0,Aw,AA,F1,Az,bb,pb⟩:=hb;have PA:=hid pa;have PB:=hid pb;have HRr:=hid hr;have XR:=hid nN;have Gm:=hid (fun (W':World) (hx:Ext wr W')=>PQ.out W' _ _ (pa.ext hx));rw [hP1] at Gm;have zY:Hid (∀ W',Ext wr W'->(Ext wr W'/\jb W' o5 P (.slice E0 NM NS) (.slice E1 P.cs.length NP)/\jb W' o6 Q2 (.slice F0 Aw AA) (.slice F1 Q2.cs.length Az))):=hid (fun W' hx=>⟨hx,ba.ext hx yQ,bb.ext hx Oj⟩);have z0:Ext wr wr.drew:=(Ext.refl wr).drew;clear ba bb pa pb hr nN HI;unfold plV at Gm;go_upto_region 4 with fail;refine wp_region_held_drew (S:=fun W'=>Ext wr W'/\jb W' o5 P (.slice E0 NM NS) (.slice E1 P.cs.length NP)/\jb W' o6 Q2 (.slice F0 Aw AA) (.slice F1 Q2.cs.length Az)) (by kernel_rfl) (zY.out _ z0) (fun hHeld=>?_);refine tk 0 ?_ (hy:=Or.inl ⟨by rfl,by intro w' aP; obtain ⟨-,⟨k0,k1,k2,k3⟩,k4,k5,k6,k7⟩:=aP; go_simp; (try (with_reducible rfl))⟩);refine tk 1 ?_;refine tk 3 ?_ (hy:=Or.inl ⟨by rfl,by intro w' aP; obtain ⟨-,⟨k0,k1,k2,k3⟩,k4,k5,k6,k7⟩:=aP; go_simp; (try (with_reducible rfl))⟩);refine tk 4 ?_;refine r_1 2 fun K hK=>?_
     go_simp
     go_at_call 109
     refine (Gm.out _ z0).mono ?_;rintro e w8 ⟨rfl,x8⟩;have z1:=z0.trans x8;refine k_t hK (zY.out _ z1) fun hHeld=>?_
     clear hK K;refine r_1 5 fun K hK=>?_
     go_simp
     go_at_call 109
     refine (Jp.out _ _ _ (PB.out.ext z1)).mono ?_;rintro e w9 ⟨rfl,x9⟩;have z2:=z1.trans x9;refine k_t hK (zY.out _ z2) fun hHeld=>?_
     clear hK K;refine tk 6 ?_;refine tk 7 ?_;refine w_d ?_;obtain ⟨-,-,k4,k5,k6,k7⟩:=hHeld;have Z2:=hid z2;have jL:=HRr.out.ext z2;have acR:=HRG.out;have acY:=HQD.out;have MS:=HRZ.out;obtain ⟨D2,Dc⟩:=n_m (mdg l Q2);rw [Dc] at acR acY MS ⊢;clear Dc z0 z1 z2 x8 x9 Gm;have acP:=hid MS;have Gz:IntKind.i64.wrap (1 - 1)=0:=rfl;clear MS;rcases (by omega:D2=-1\/D2=0) with rfl | rfl
     · have F8:=acP.out.1 rfl;have HF:Hid (kah (fun b=>w.heap.size<=b) [uaa l f g,qi l f g] w (.returned (.slice (some ⟨R,0,none⟩) 2 2)) w9):=hid (by
        rw [Dx.out,Yx.out,F8]
        exact ⟨_,rfl,⟨_,_,rfl,by simp,by omega,fun _=>⟨R,rfl,mg,jL.mono fun b hb=>hb.1⟩⟩,XR.out.trans Z2.out⟩)
       clear k4 k5 k6 k7 jL F8;go_wp2_with fail;go_ret;exact HF.out
     · have zQ:=jL.2.1;obtain ⟨R0,rn0,rc0,R1,rn1,rc1,⟨r0,r1,r2,r3⟩,-⟩:=jL.el 0 (by simp);have uZ:PlV w9 (fun b=>(w.heap.size<=b)/\b ≠ R) Q2 (plV Q2 (.slice F0 Aw AA) (.slice F1 Q2.cs.length Az)):=(PB.out.ext Z2.out).mono fun b hb=>hb.1
       have aU:=(jL.mono (q':=fun b=>w.heap.size<=b) fun b hb=>hb.1).xD 0 (by simp) Q2 uZ;simp only [sY,rh,uv,tT] at r0 r1 r2 r3 aU;have f0:=zQ 0;have f1:=zQ 1;have f2:=zQ 2;have f3:=zQ 3;obtain ⟨V9,qC⟩:=n_m (((((w9.setCell ⟨R,0,none⟩ (.int .i64 Q2.lv)).setCell ⟨R,1,none⟩ (.bool Q2.neg)).setCell ⟨R,2,none⟩ (.slice F0 Aw AA)).setCell ⟨R,3,none⟩ (.slice F1 Q2.cs.length Az)));rw [qC] at aU;have PZ:Ext w V9:=by rw [<- qC]; exact ((((XR.out.trans Z2.out).setCell mg _).setCell mg _).setCell mg _).setCell mg _
       have HF:Hid (∀ W',Ext V9 W'->kah (fun b=>w.heap.size<=b) [uaa l f g,qi l f g] w (.returned (.slice (some ⟨R,0,none⟩) 2 2)) W'):=hid (fun W' hx=>by
        rw [Dx.out,Yx.out]
        exact ⟨_,rfl,⟨_,_,rfl,by simp,by omega,fun _=>⟨R,rfl,mg,aU.1.ext hx⟩⟩,PZ.trans hx⟩)
       have ax:o6 ≠ R:=by omega
       have Zm:jb V9 o6 Q2 (.slice F0 Aw AA) (.slice F1 Q2.cs.length Az):=by
        have kk:∀ j,V9.cell? ⟨o6,j,none⟩=w9.cell? ⟨o6,j,none⟩:=fun j=>pB (by rw [<- qC]; exact gab _ _ _ _ _ _ _ ax)
        exact ⟨(kk 0).trans k4,(kk 1).trans k5,(kk 2).trans k6,(kk 3).trans k7⟩
       clear aU jL uZ PZ;go_upto_region 8 with fail
       try rw [qC]
       obtain ⟨j4,j5,j6,j7⟩:=Zm;clear qC k4 k5 k6 k7 r0 r1 r2 r3 f0 f1 f2 f3;go_wp2_with fail;go_ret;exact HF.out _ ((Ext.refl _).alloc _)
theorem jcz {l:Int}:∀ (k:Int) (cs:List Pl),(∀ c ∈ cs,c.Can/\ug l c)->∀ c ∈ zaj k cs,c.Can/\ug l c:=fun k cs h c hc=>by
 obtain ⟨d,hd,i,hi,rfl⟩:=xbf hc;exact ⟨Pl.q8 _ _,(h d hd).2.mul (ug.const l _)⟩
theorem yc8 {l:Int} (hl:1<=l) (ag:l<=4) {p:Pl} (h:p.Can) (h0:0 < mdg l p):(jac l p).xi l=zaj 1 (p.xi l).tail:=by
 unfold jac;rw [if_pos ⟨hl,ag⟩];have hn:p.xi l ≠ []:=fun e=>by unfold mdg at h0; rw [e] at h0; simp at h0
 have dX:=gag (Pl.xf hl ag h).last hn;have iU:∀ c ∈ zaj 1 (p.xi l).tail,c.Can/\ug l c:=jcz 1 _ fun c hc=>⟨kaq h c (kau hc),kaa hl ag h c (kau hc)⟩
 refine (Pl.xf hl ag (qae l _)).uniq ⟨fun c hc=>(iU c hc).1,fun c hc=>(iU c hc).2,fun ρ=>(zad hl ag ρ _).symm,fun e=>?_⟩;obtain ⟨n,oG⟩:∃ n,(p.xi l).length=n+2:=⟨(p.xi l).length - 2,by unfold mdg at h0; omega⟩;have qB:(zaj 1 (p.xi l).tail).length=n+1:=by rw [wai,List.length_tail,oG]; rfl
 rw [sC,qB,ur,po (by omega)] at e;injection e with e
 rw [ka3 1 _ n (by rw [List.length_tail]; omega) (by omega),List.getElem_tail] at e;rw [oG,pr,show n+2 - 1=n+1 by omega,po (by omega)] at dX;rcases Pl.mul_zero (kaq h _ (pt (by omega:n+1 < (p.xi l).length))) (zt _) (fun ρ=>by rw [<- Pl.qD,e,Pl.qu]) with h1 | h1
 · exact dX h1
 · have h2:=Pl.qT (fun _=>0) (1+(n:Int));rw [h1,Pl.qu] at h2;have h3:(1+(n:Int))=0:=by exact_mod_cast h2.symm
   omega
theorem zc8 {l:Int} (hl:1<=l) (ag:l<=4) {p:Pl} (h:p.Can) (h0:0 < mdg l p):mdg l (jac l p)=mdg l p - 1:=by
 have h1:=yc8 hl ag h h0;unfold mdg at h0 ⊢;rw [h1,wai,List.length_tail];omega
theorem jc6 {w:World} {q0 q1:Nat->Prop} {f g:Pl} {l:Int} {D:Nat} (v0 v1:Value) (hl:1<=l) (ag:l<=4) (h0:PlV w q0 f v0) (h1:PlV w q1 g v1) (hf:Fit f 2 D) (hg:Fit g 2 D) (hD:D<=10000000000) (rE:0<=mdg l f) (bI:0<=mdg l g):Calls Tryz.prog 138 #[v0,v1,.int .i64 l] w (yai (fun b=>w.heap.size<=b) (wu l f g) w):=by
 have OD:=wan (l:=l) hf.can hf.ex;have Ic:=wan (l:=l) hg.can hg.ex
 by_cases hc:mdg l f=0\/mdg l g=0\/mdg l g=1\/mdg l f=1/\mdg l g=2
 · exact qb9 v0 v1 hl ag h0 h1 hf hg (by omega) (by omega) rE bI hc
 · obtain ⟨e1,e2⟩:mdg l f=2/\mdg l g=2:=by omega
   have hs:Fit (qi l f g) 10 (4 * D+10):=(gak hl ag hf hg (by have:B32=4294967296:=rfl; omega)).mono (by omega) (by omega);have hr:=xa6 hl ag hf hg;have e:wu l f g=pcf l [uaa l f g,qi l f g]:=by
    rw [kcv e1 e2];unfold pcf;simp [RB,ga3 hl ag uai (xca hl ag uai (ybo hl ag hf.can hg.can))]
   rw [e];have iU:∀ c ∈ [uaa l f g,qi l f g],Fit c 24 (8 * D+40):=fun c hc=>by
    simp only [pQ,sM,or_false] at hc;rcases hc with rfl | rfl
    · exact hr
    · exact hs.mono (by omega) (by omega)
   refine va8 v0 v1 hl ag h0 h1 (E:=24) (D:=8 * D+40) (by omega) (by omega) (by simp) iU (hid fun W' hx=>wa7 v0 v1 hl ag (h0.ext hx) (h1.ext hx) hf hg (by omega) (by omega) (by omega) (by omega) (by omega) (by omega) (by simp) (fun c hc=>⟨(iU c hc).can,(iU c hc).copy_ (by omega),by have:=(iU c hc).dm; omega⟩) (hid (.inl ⟨by omega,fun W2 aN=>?_⟩)));rw [e1,e2];exact gcp v0 v1 hl ag (h0.ext (hx.trans aN)) (h1.ext (hx.trans aN)) hf hg e1 e2 hD
theorem xa2 {l:Int} (hl:1<=l) (ag:l<=4) {f g:Pl} {D:Nat} (hf:Fit f 2 D) (hg:Fit g 2 D):(∀ c ∈ wu l f g,Fit c 24 (8 * D+40))/\(wu l f g).length<=2:=by
 have hB:B32=4294967296:=rfl;have hs:∀ {p q:Pl},Fit p 2 D->Fit q 2 D->Fit (qi l p q) 24 (8 * D+40):=fun hp hq=>(gak hl ag hp hq (by omega)).mono (by omega) (by omega)
 unfold wu
 split
 · simp
 · split
   · exact ⟨fun c hc=>by rw [pD.1 hc]; exact uar (hs hf hg),by simp⟩
   · split
     · exact ⟨fun c hc=>by rw [pD.1 hc]; exact uar (hs hg hf),by simp⟩
     · refine ⟨fun c hc=>?_,by simp⟩;simp only [pQ,sM,or_false] at hc;rcases hc with rfl | rfl
       · exact xa6 hl ag hf hg
       · exact uar (hs hf hg)
theorem wac {l:Int} {fs:List Pl} {D:Nat} (jU:∀ f ∈ fs,Fit f 2 D) {f:Pl} (hf:f ∈ fs):∀ r ∈ uh l f,Fit r 2 (D+2)/\0 < mdg l r:=fun r hr=>by
 have hb:=wan (l:=l) (jU f hf).can (jU f hf).ex;obtain ⟨h1,h2⟩:=xbh (l:=l) (n:=(mdg l f).toNat) (jU f hf) (by have:B32=4294967296:=rfl; omega) r hr;exact ⟨h1.mono (pj _) (by omega),h2⟩
section
variable {l:Int} (hl:1<=l) (ag:l<=4) {fs:List Pl} {D:Nat} (jU:∀ f ∈ fs,Fit f 2 D)
include hl ag jU
theorem jbo (hD:D<=1000000000):xa9 l fs:=fun r s h=>by
 have hB:B32=4294967296:=rfl;obtain ⟨h1,h2,h3,h4⟩:Fit r 2 (D+4)/\Fit s 2 (D+4)/\0<=mdg l r/\0<=mdg l s:=by
  rcases h with ⟨f,hf,hr,rfl⟩ | ⟨i,j,hi,hj,-,hr,hs⟩
  · obtain ⟨h1,h2⟩:=wac jU hf r hr;have:=zc8 hl ag h1.can h2;exact ⟨h1.mono (pj _) (by omega),uav h1 (by omega),by omega,by omega⟩
  · obtain ⟨h1,h2⟩:=wac jU (pt hi) r hr;obtain ⟨h3,h4⟩:=wac jU (pt hj) s hs;exact ⟨h1.mono (pj _) (by omega),h3.mono (pj _) (by omega),by omega,by omega⟩
 refine ⟨by have:=(xa2 hl ag h1 h2).2; omega,fun W' v0 v1 q0 q1 k0 k1=>?_⟩;exact jc6 v0 v1 hl ag k0 k1 h1 h2 (by omega) h3 h4
theorem ka7:∀ p ∈ elems l fs,Fit p 24 (8 * D+100):=fun p hp=>by
 have hB:B32=4294967296:=rfl;have QS:∀ {r s:Pl},Fit r 2 (D+4)->Fit s 2 (D+4)->∀ c ∈ wu l r s,Fit c 24 (8 * D+100):=fun hr hs c hc=>((xa2 hl ag hr hs).1 c hc).mono (pj _) (by omega)
 unfold elems at hp;rcases rj.1 hp with hp | hp
 · obtain ⟨f,hf,hp⟩:=tg.1 hp;unfold wak at hp;rcases rj.1 hp with hp | hp
   · obtain ⟨r,hr,hp⟩:=tg.1 hp;obtain ⟨h1,h2⟩:=wac jU hf r hr;unfold kac at hp;rcases pQ.1 hp with rfl | hp
     · exact (zam h1).mono (by omega) (by omega)
     · exact QS (h1.mono (pj _) (by omega)) (uav h1 (by omega)) p hp
   · split at hp
     · cases hp
     · rename_i ax;rw [pD.1 hp];have hr0:0 < (uh l f).length:=by omega
       have hr:(uh l f).getD 0 Pl.zero ∈ uh l f:=by rw [pr,po hr0]; exact pt _
       exact (uar (wac jU hf _ hr).1).mono (by omega) (by omega)
 · unfold ybe at hp;obtain ⟨i,hi,hp⟩:=tg.1 hp;rw [SM] at hi;obtain ⟨L,hL,pW⟩:=tg.1 hp;unfold prE at pW;obtain ⟨r,hr,wR⟩:=tg.1 pW;obtain ⟨s,hs,QV⟩:=tg.1 wR;have OT:=RT hL;obtain ⟨g,hg,rfl⟩:=pZ.1 OT;have jI:i < fs.length:=by rw [px] at hi; exact hi
   have JX:r ∈ uh l fs[i]:=by
    have:(fs.map (uh l)).getD i []=uh l fs[i]:=by rw [pr,ue,po jI]; rfl
    rw [this] at hr; exact hr
   exact QS ((wac jU (pt jI) r JX).1.mono (pj _) (by omega)) ((wac jU hg s hs).1.mono (pj _) (by omega)) p QV
theorem vcp:(elems l fs).length<=7 * fs.length+8 * (fs.length * fs.length):=by
 have key:∀ {α β:Type} (A:List α) (f:α->List β) (k:Nat),(∀ a ∈ A,(f a).length<=k)->(A.flatMap f).length<=A.length * k:=by
  intro α β A f k
  induction A with
  | nil=>intro _; simp
  | cons a r ih =>
    intro h;have h1:=h a r5;have h2:=ih fun b hb=>h b (rz _ hb)
    rw [th,ra,pL,PJ];omega
 have JU:∀ f ∈ fs,(uh l f).length<=2:=fun f hf=>by
  have hb:=wan (l:=l) (jU f hf).can (jU f hf).ex;have:=qan (l:=l) (mdg l f).toNat f;unfold uh;omega
 have hB:B32=4294967296:=rfl;have h1:(fs.flatMap (wak l)).length<=fs.length * 7:=key _ _ _ fun f hf=>by
  unfold wak;rw [ra];have h2:=key (uh l f) (kac l) 3 fun r hr=>by
   obtain ⟨k1,k2⟩:=wac jU hf r hr;have:=(xa2 hl ag (k1.mono (pj _) (by omega):Fit r 2 (D+4)) (uav (l:=l) k1 (by omega))).2;unfold kac;rw [pL]; omega
  have h3:=JU f hf;have h4:=pE 3 h3
  split
  · rw [r8]; omega
  · rw [Pt]; omega
 have h2:(ybe l (fs.map (uh l))).length<=fs.length * (fs.length * 8):=by
  unfold ybe;have:=key (List.range (fs.map (uh l)).length) (fun i=>((fs.map (uh l)).drop (i+1)).flatMap (prE l ((fs.map (uh l)).getD i []))) (fs.length * 8) fun i hi=>by
   rw [SM,px] at hi;have h4:=key ((fs.map (uh l)).drop (i+1)) (prE l ((fs.map (uh l)).getD i [])) 8 fun L hL=>by
    obtain ⟨g,hg,rfl⟩:=pZ.1 (RT hL);have e:(fs.map (uh l)).getD i []=uh l fs[i]:=by rw [pr,ue,po hi]; rfl
    rw [e];unfold prE;have h5:=key (uh l fs[i]) (fun r=>(uh l g).flatMap fun s=>wu l r s) 4 fun r hr=>by
     have h6:=key (uh l g) (fun s=>wu l r s) 2 fun s hs=>(xa2 hl ag (wac jU (pt hi) r hr).1 (wac jU hg s hs).1).2
     have:=JU g hg;have:=pE 2 this;omega
    have:=JU _ (pt hi);have:=pE 4 this;omega
   have h5:((fs.map (uh l)).drop (i+1)).length<=fs.length:=by rw [re,px]; omega
   have:=pE 8 h5;omega
  rw [show (List.range (fs.map (uh l)).length).length=fs.length by rw [tt,px]] at this;exact this
 unfold elems;rw [ra];have:fs.length * (fs.length * 8)=8 * (fs.length * fs.length):=by rw [<- rT,sj]
 omega
end
open Go.Shelf Go.Sort
structure Tot {α : Type} (c : α -> α -> Int) : Prop where
 zero:∀ x y,c x y=0 ↔ x=y
 anti:∀ x y,c y x=- c x y
 trans:∀ x y z,c x y < 0->c y z < 0->c x z < 0
theorem Tot.refl {α:Type} {c:α->α->Int} (h:Tot c) (x:α):c x x=0:=(h.zero x x).2 rfl
theorem Tot.swo {α : Type} {c : α -> α -> Int} (h : Tot c) : SWO (ltOf c) where
 irrefl x:=by unfold ltOf; simp [h.refl]
 trans x y z h1 h2:=by
  unfold ltOf at *;simp only [decide_eq_true_eq] at *;exact h.trans x y z h1 h2
 ntrans x y z h1 h2:=by
  unfold ltOf at *;simp only [decide_eq_false_iff_not] at *;intro h3;have a1:=h.anti x y;have a2:=h.anti y z;have a3:=h.anti x z
  by_cases e1:c x y=0
  · rw [(h.zero x y).1 e1] at h3; exact h2 h3
  · by_cases e2:c y z=0
    · rw [<- (h.zero y z).1 e2] at h3; exact h1 h3
    · have:=h.trans z y x (by omega) (by omega);omega
theorem jbf : Tot jh where
 zero x y:=by unfold jh; split <;> (try split) <;> omega
 anti x y:=by unfold jh; split <;> (try split) <;> (try split) <;> omega
 trans x y z:=by unfold jh; split <;> (try split) <;> (try split) <;> (try split) <;> (try split) <;> (try split) <;> omega
theorem qbf {m n:Mo}:vaf m n < 0 ↔ m.lt n:=by
 unfold vaf
 split
 · simp_all
 · split <;> simp_all
theorem yay : Tot vaf where
 zero m n:=by
  constructor
  · intro h;unfold vaf at h
    split at h
    · omega
    · split at h
      · omega
      · rename_i h1 h2;rcases Mo.qbG m n with h | h | h
        · exact absurd h h1
        · exact h
        · exact absurd h h2
  · rintro rfl;unfold vaf;rw [if_neg (Mo.lt_irrefl _),if_neg (Mo.lt_irrefl _)]
 anti m n:=by
  unfold vaf
  by_cases h1:m.lt n
  · have h2:¬ n.lt m:=fun h2=>Mo.lt_irrefl _ (Mo.lt_trans h1 h2)
    simp [h1,h2]
  · by_cases h2:n.lt m
    · simp [h1,h2]
    · simp [h1,h2]
 trans m n k h1 h2:=qbf.2 (Mo.lt_trans (qbf.1 h1) (qbf.1 h2))
def gaa (x y:Int × Mo):Int:=if x.2=y.2 then jh x.1 y.1 else vaf x.2 y.2
theorem jam : Tot gaa where
 zero x y:=by
  obtain ⟨a,m⟩:=x;obtain ⟨b,n⟩:=y;unfold gaa;simp only
  by_cases h:m=n
  · subst h; rw [if_pos rfl,jbf.zero]; simp
  · rw [if_neg h,yay.zero]; simp [h]
 anti x y:=by
  unfold gaa
  by_cases h:x.2=y.2
  · rw [if_pos h,if_pos h.symm,jbf.anti]
  · rw [if_neg h,if_neg (fun e=>h e.symm),yay.anti]
 trans x y z h1 h2:=by
  unfold gaa at *
  by_cases a:x.2=y.2
  · rw [if_pos a] at h1
    by_cases b:y.2=z.2
    · rw [if_pos b] at h2; rw [if_pos (a.trans b)]; exact jbf.trans _ _ _ h1 h2
    · rw [if_neg b] at h2; rw [if_neg (fun e=>b (a.symm.trans e)),a]; exact h2
  · rw [if_neg a] at h1
    by_cases b:y.2=z.2
    · rw [if_pos b] at h2; rw [if_neg (fun e=>a (e.trans b.symm)),<- b]; exact h1
    · rw [if_neg b] at h2;have h3:=yay.trans _ _ _ h1 h2;rw [if_neg (fun e=>by rw [e,yay.refl] at h3; omega)];exact h3
theorem wcz (x y:Int × Mo):-1<=gaa x y/\gaa x y<=1:=by
 unfold gaa
 split
 · exact zak _ _
 · unfold vaf; split <;> (try split) <;> omega
def ui : Sp -> Sp -> Int
 | [],[]=>0
 | [],_ :: _=>-1
 | _ :: _,[]=>1
 | x :: r,y :: s=>if gaa x y=0 then ui r s else gaa x y
theorem wa3 : ∀ l m : Sp, ui l m = 0 ↔ l = m
 | [],[]=>by simp [ui]
 | [],_ :: _=>by simp [ui]
 | _ :: _,[]=>by simp [ui]
 | x :: r,y :: s=>by
   unfold ui
   split
   · rename_i h; rw [wa3 r s,(jam.zero x y).1 h]; simp
   · rename_i h;have h2:x ≠ y:=fun e=>h ((jam.zero x y).2 e)
     simp [h,h2]
theorem vbj : ∀ l m : Sp, ui m l = - ui l m
 | [],[]=>by simp [ui]
 | [],_ :: _=>by simp [ui]
 | _ :: _,[]=>by simp [ui]
 | x :: r,y :: s=>by
   unfold ui;have h:=jam.anti x y
   by_cases e:gaa x y=0
   · rw [if_pos e,if_pos (by omega),vbj r s]
   · rw [if_neg e,if_neg (by omega),h]
theorem xbc : ∀ l m k : Sp, ui l m < 0 -> ui m k < 0 -> ui l k < 0
 | [],[],k,h,_=>by simp [ui] at h
 | [],_ :: _,[],_,h=>by simp [ui] at h
 | [],_ :: _,_ :: _,_,_=>by simp [ui]
 | _ :: _,[],k,h,_=>by simp [ui] at h
 | _ :: _,_ :: _,[],_,h=>by simp [ui] at h
 | x :: r,y :: s,z :: t,h1,h2=>by
   unfold ui at *
   by_cases a:gaa x y=0
   · rw [if_pos a] at h1;have e:=(jam.zero x y).1 a;subst e
     by_cases b:gaa x z=0
     · rw [if_pos b] at h2 ⊢; exact xbc r s t h1 h2
     · rw [if_neg b] at h2 ⊢; exact h2
   · rw [if_neg a] at h1
     by_cases b:gaa y z=0
     · have e:=(jam.zero y z).1 b;subst e;rw [if_neg a]; exact h1
     · rw [if_neg b] at h2;have h3:=jam.trans _ _ _ h1 h2;rw [if_neg (by omega)]; exact h3
theorem uz:Tot ui:=⟨wa3,vbj,xbc⟩
theorem ych {l m:Sp} (k:Nat) (hl:k < l.length) (hm:k < m.length):ui (l.drop k) (m.drop k)=if gaa l[k] m[k]=0 then ui (l.drop (k+1)) (m.drop (k+1)) else gaa l[k] m[k]:=by
 rw [r9 hl,r9 hm,ui]
def AscS (l:List Sp):Prop:=l.Pairwise fun a b=>ui a b < 0
theorem ubf : ∀ {a b : List Sp}, AscS a -> AscS b -> (∀ x, x ∈ a ↔ x ∈ b) -> a = b
 | [],[],_,_,_=>rfl
 | [],y :: s,_,_,h=>absurd ((h y).2 (by simp)) (by simp)
 | x :: r,[],_,_,h=>absurd ((h x).1 (by simp)) (by simp)
 | x :: r,y :: s,ha,hb,h=>by
   unfold AscS at ha hb;rw [tE] at ha hb;have JD:x=y:=by
    rcases pQ.1 ((h x).1 (by simp)) with e | h1
    · exact e
    · rcases pQ.1 ((h y).2 (by simp)) with e | h2
      · exact e.symm
      · have a1:=hb.1 x h1;have a2:=ha.1 y h2;have:=uz.anti x y;omega
   subst JD;rw [ubf (a:=r) (b:=s) ha.2 hb.2 fun z=>?_]
   constructor
   · intro hz;rcases pQ.1 ((h z).1 (by simp [hz])) with e | h1
     · subst e; have:=ha.1 z hz; rw [uz.refl] at this; omega
     · exact h1
   · intro hz;rcases pQ.1 ((h z).2 (by simp [hz])) with e | h1
     · subst e; have:=hb.1 z hz; rw [uz.refl] at this; omega
     · exact h1
def uap (x : Sp) : List Sp -> List Sp
 | []=>[x]
 | y :: r=>if ui x y < 0 then x :: y :: r else if ui x y=0 then y :: r else y :: uap x r
theorem wbe {x z : Sp} : ∀ {l : List Sp}, z ∈ uap x l ↔ z = x \/ z ∈ l
 | []=>by simp [uap]
 | y :: r=>by
   unfold uap
   split
   · simp
   · split
     · rename_i h;have:=(uz.zero x y).1 h;subst this; simp
     · simp only [pQ,wbe (l:=r)]
       constructor
       · rintro (h | h | h)
         · exact .inr (.inl h)
         · exact .inl h
         · exact .inr (.inr h)
       · rintro (h | h | h)
         · exact .inr (.inl h)
         · exact .inl h
         · exact .inr (.inr h)
theorem yby {x : Sp} : ∀ {l : List Sp}, AscS l -> AscS (uap x l)
 | [],_=>by simp [uap,AscS]
 | y :: r,h=>by
   unfold AscS at h ⊢;rw [tE] at h;unfold uap
   split
   · rename_i h1;rw [tE,tE];refine ⟨fun z hz=>?_,h⟩;rcases pQ.1 hz with rfl | hz
     · exact h1
     · exact uz.trans _ _ _ h1 (h.1 z hz)
   · split
     · rw [tE]; exact h
     · rw [tE];refine ⟨fun z hz=>?_,yby h.2⟩;rcases wbe.1 hz with rfl | hz
       · have:=uz.anti y z; omega
       · exact h.1 z hz
def xao (l:List Sp):List Sp:=l.foldr uap []
theorem ja3 : ∀ l : List Sp, AscS (xao l)
 | []=>List.Pairwise.nil
 | x :: r=>yby (ja3 r)
theorem zaq {z : Sp} : ∀ {l : List Sp}, z ∈ xao l ↔ z ∈ l
 | []=>by simp [xao]
 | x :: r=>by
   have:xao (x :: r)=uap x (xao r):=rfl;rw [this,wbe,zaq (l:=r)]; simp
theorem gcf {a b:List Sp} (h:∀ x,x ∈ a ↔ x ∈ b):xao a=xao b:=ubf (ja3 a) (ja3 b) fun x=>by rw [zaq,zaq,h]
def jas (ps:List Pl):List Pl:=(ps.map snP).filter fun p=>decide (0 < p.lv)
def uad (ps:List Pl):List Pl:=(xao ((jas ps).map Pl.sp)).map Pl.jz
theorem jcv {acc:List Pl} {p x:Pl}:x ∈ putL acc p ↔ x ∈ acc\/(p.lv ≠ 0/\x=snP p):=by
 unfold putL
 split
 · rename_i h; simp [h]
 · rename_i h
   split
   · rename_i ha;obtain ⟨y,hy,e⟩:=SU.1 ha;have e:=za9.1 e
     constructor
     · exact .inl
     · rintro (h1 | ⟨-,rfl⟩)
       · exact h1
       · rw [e]; exact hy
   · rw [rj,pD]; simp [h]
theorem qa6 {x : Pl} : ∀ {M acc : List Pl}, x ∈ putA acc M ↔ x ∈ acc \/ ∃ p ∈ M, p.lv ≠ 0 /\ x = snP p
 | [],acc=>by simp [putA]
 | p :: M,acc=>by
   have e:putA acc (p :: M)=putA (putL acc p) M:=rfl;rw [e,qa6 (M:=M),jcv]
   constructor
   · rintro ((h | h) | ⟨y,hy,h⟩)
     · exact .inl h
     · exact .inr ⟨p,r5,h⟩
     · exact .inr ⟨y,rz _ hy,h⟩
   · rintro (h | ⟨y,hy,h⟩)
     · exact .inl (.inl h)
     · rcases pQ.1 hy with rfl | hy
       · exact .inl (.inr h)
       · exact .inr ⟨y,hy,h⟩
theorem kcu {x:Pl} {l:Int} {fs:List Pl}:x ∈ dF l fs ↔ ∃ p ∈ elems l fs,p.lv ≠ 0/\x=snP p:=by
 unfold dF;rw [qa6]; simp
theorem yaq {x:Pl} {ps:List Pl}:x ∈ jas ps ↔ ∃ p ∈ ps,x=snP p/\0 < x.lv:=by
 unfold jas;rw [sq,pZ]
 constructor
 · rintro ⟨⟨p,hp,rfl⟩,h⟩;exact ⟨p,hp,rfl,of_decide_eq_true h⟩
 · rintro ⟨p,hp,rfl,h⟩;exact ⟨⟨p,hp,rfl⟩,decide_eq_true h⟩
theorem wcf {a b:List Pl} (h:∀ x,x ∈ jas a ↔ x ∈ jas b):uad a=uad b:=by
 unfold uad;rw [gcf (a:=(jas a).map Pl.sp) (b:=(jas b).map Pl.sp) fun s=>?_];simp only [pZ]
 constructor <;> rintro ⟨x,hx,rfl⟩
 · exact ⟨x,(h x).1 hx,rfl⟩
 · exact ⟨x,(h x).2 hx,rfl⟩
theorem gcy {a b:List Pl} (h1:∀ p ∈ a,0 < (snP p).lv->∃ q ∈ b,snP q=snP p) (h2:∀ p ∈ b,0 < (snP p).lv->∃ q ∈ a,snP q=snP p):uad a=uad b:=wcf fun x=>by
 rw [yaq,yaq]
 constructor
 · rintro ⟨p,hp,rfl,h⟩;obtain ⟨q,hq,e⟩:=h1 p hp h;exact ⟨q,hq,e.symm,h⟩
 · rintro ⟨p,hp,rfl,h⟩;obtain ⟨q,hq,e⟩:=h2 p hp h;exact ⟨q,hq,e.symm,h⟩
theorem wcy {x:Pl} {ps:List Pl}:x ∈ uad ps ↔ x ∈ jas ps:=by
 unfold uad;rw [pZ]
 constructor
 · rintro ⟨s,hs,rfl⟩;obtain ⟨y,hy,rfl⟩:=pZ.1 (zaq.1 hs);obtain ⟨p,hp,rfl,h⟩:=yaq.1 hy;rw [Pl.vu (jaz p)]; exact hy
 · intro hx;obtain ⟨p,hp,rfl,h⟩:=yaq.1 hx;exact ⟨_,zaq.2 (pZ.2 ⟨_,hx,rfl⟩),Pl.vu (jaz p)⟩
end Go.Proofs.YtcepajijiabkmaaGreat
