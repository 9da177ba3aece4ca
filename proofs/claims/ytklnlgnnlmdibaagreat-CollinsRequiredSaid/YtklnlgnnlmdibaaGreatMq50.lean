/- Layer 25: descend where both degrees are 2. -/
import Derived.Test.YtklnlgnnlmdibaaGreatMq49
set_option linter.unusedSimpArgs false
set_option linter.unusedVariables false

set_option maxRecDepth 100000
set_option maxHeartbeats 8000000
namespace Go.Proofs.YtklnlgnnlmdibaaGreat
open Lib (hid)
open Go.RowKit
theorem Frr.box4_ {V V7:World} {o g:Nat} {p:Pl} {s A:Value} (hf:Frr V o V7) (h:jb V g p s A) (hg:g < V.heap.size) (hn:g ≠ o):jb V7 g p s A:=⟨(hf.cell hg hn).trans h.1,(hf.cell hg hn).trans h.2.1,(hf.cell hg hn).trans h.2.2.1,(hf.cell hg hn).trans h.2.2.2⟩
def stM : Value -> Nat
 | .int _ _=>0
 | _=>1
structure gcz (w W : World) (g P : Pl) (o5 o6 : Nat) (wr : World) : Prop where
 ext:Ext W wr
 ne:o5 ≠ o6
 l5:W.heap.size<=o5
 l6:W.heap.size<=o6
 a:PBx wr (fun b=>b < w.heap.size) o5 g
 b:PBx wr (fun b=>W.heap.size<=b/\b ≠ o5) o6 P
structure ucz (w W : World) (o5 o6 R : Nat) (P Q2 : Pl) (wr : World) : Prop where
 ext:Ext w wr
 a:PBx wr (fun _=>True) o5 P
 b:PBx wr (fun b=>w.heap.size<=b/\b ≠ R) o6 Q2
 row:xh wr (fun b=>w.heap.size<=b/\b ≠ o6) R [Pl.zero,P]
theorem vce {w:World} {q0 q1:Nat->Prop} {f g:Pl} {l:Int} {D:Nat} (v0 v1:Value) (hl:1<=l) (ag:l<=4) (h0:PlV w q0 f v0) (h1:PlV w q1 g v1) (hf:Fit f 2 D) (hg:Fit g 2 D) (lK:mdg l f=2) (gJ:mdg l g=2) (hD:D<=10000000000) :
 Calls Tryz.prog 125 #[v0,v1,.int .i64 l,.int .i64 2,.int .i64 2] w (gag (fun b=>w.heap.size<=b) [jaa l f g,zi l f g] w):=by
 have H0:=hid h0;have H1:=hid h1;obtain ⟨A0,m0,e0,B0,f0,rfl,-⟩:=h0.open_;obtain ⟨A1,m1,e1,B1,f1,rfl,-⟩:=h1.open_;obtain ⟨DJ,W,fU,jY,fD,aC,bU,hx1,aV,aX⟩:=b_2 w f g (.slice A0 m0 e0) (.slice B0 f.cs.length f0) (.slice A1 m1 e1) (.slice B1 g.cs.length f1);have HX:=hid (aC.trans hx1);have dC:=hid aV;have dG:=hid aX;have eQ:W.heap.size=w.heap.size+1+1:=bU;clear h0 h1 aC hx1 aV aX;have bI:g ≠ Pl.zero:=vag (l:=l) (by omega);have HL:=hid (fun (W':World) (hx:Ext w W')=>kaf _ hl ag hg (by omega) (by omega) (H1.out.ext hx));have kL:(ui l g).pow 0=Pl.const 1:=Pl.val_uniq (Pl.pow_can _ _) (zq _) fun ρ=>by rw [Pl.pow_val,Pl.const_val]; simp
 have HP:=hid (fun (W':World) (q:Nat->Prop) (u:Value) (hu:PlV W' q (ui l g) u)=>xak (n:=0) u hu (vaf (l:=l) hg) (by simp) (by simp; omega) (by omega));rw [show (0:Int).toNat=0 from rfl,kL] at HP;have HR:=hid (fun (W':World) (hx:Ext w W')=>ka9 _ _ hl ag (H0.out.ext hx) (H1.out.ext hx) hf hg bI (by omega) (by omega));have kG:Fit (zi l f g) 10 (4 * D+10):=(gaj hl ag hf hg (by have:B32=4294967296:=rfl; omega)).mono (by omega) (by omega);have Qj:=hid (fun (W':World) (q:Nat->Prop) (u:Value) (hu:PlV W' q (zi l f g) u)=>zad (l:=l) u (qx l f g) (kG.copy_ (by omega)) (by have:=kG.dm; omega) hu);have HDA:=hid (fun (W':World) (q:Nat->Prop) (u:Value) (hu:PlV W' q g u)=>zad (l:=l) u hg.can (hg.copy_ (by omega)) (by have:=hg.dm; omega) hu);have mO:=hid gJ;have EO:=hid (xay hl ag hf.can hg.can bI);have oI:=hid (xbq (l:=l) (zi l f g));have Wy:=hid (uas (l:=l) (qx l f g));have VT:=hid kG;have Fg:=ya3 hl ag hf hg;have PU:=hid Fg;have Qi:=hid (fun (W':World) (q:Nat->Prop) (u:Value) (hu:PlV W' q (jaa l f g) u)=>zad (l:=l) u wah (Fg.copy_ (by omega)) (by have:=Fg.dm; omega) hu);have HRZ:=hid (uas (l:=l) (wah (l:=l) (f:=f) (g:=g)));have HRG:=hid (xbq (l:=l) (jaa l f g));have Gv:=hid (fun h:zi l f g=Pl.zero=>zb4 (l:=l) h);have fH:=hid (fun h:mdg l (zi l f g)=0=>xbv hl ag h);have Zx:=hid (fun h:mdg l (zi l f g)=1=>vca hl ag hf.can hg.can lK gJ h);have HQD:=hid (kbz hl ag (wah (l:=l) (f:=f) (g:=g)) (ubi hl ag hf.can hg.can));have Eb:=hid hg;obtain ⟨P,hP⟩:=n_m (zi l f g);obtain ⟨Q2,hQ2⟩:=n_m (jaa l f g);have wL:=hid hP;have Zm:=hid hQ2;rw [hQ2] at PU Gv fH Zx HQD Qi HRZ HRG;rw [hP] at HR Qj EO oI Wy VT Gv fH Zx;clear hP hQ2;obtain ⟨Wm,cu,iI,SG,ae⟩:=uw 2 (by omega) (by omega) W;rw [show (2:Int).toNat=2 from rfl] at cu ae;rw [eQ] at cu ae;have Ap:=hid (HX.out.trans iI);have WB:=hid (ae (fun _=>False));obtain ⟨b0,b1,b2,b3⟩:=dG.out.ext iI (by omega);have QM:IntKind.i64.wrap (2 - 2)=0:=rfl;clear bI kG lK gJ hf hg ae kL Fg;unfold plV at HL HR ⊢;go_enter Tryz.func125,Tryz.ntmps125;go_wp2_with fail;clear fU jY;clear cu b0 b1 b2 b3;refine (HL.out _ Ap.out).mono ?_;rintro e w3 ⟨v3,rfl,p3,x3⟩;have CG:=HP.out _ _ _ p3;have y3:Ext W w3:=iI.trans x3;have r3:=WB.out.ext x3;have hR3:w.heap.size+1+1 < w3.heap.size:=r3.1;clear x3 iI SG Ap WB HL HP p3;go_wp2_with fail;refine CG.mono ?_;rintro e w4 ⟨v4,rfl,p4,x4⟩;obtain ⟨S0,MR,MV,S1,MS,rfl,-⟩:=id p4.open_;have y4:=y3.trans x4;have r4:=r3.ext x4;clear x4 y3 r3 CG;obtain ⟨R,hR⟩:=n_m (w.heap.size+1+1);rw [hR] at r4 ⊢;have Yx:R=W.heap.size:=by omega
 have mg:w.heap.size<=R:=by omega
 clear hR;obtain ⟨one,kL⟩:=n_m (Pl.const 1);rw [kL] at p4 ⊢;have Aj:=hid kL;clear kL;unfold plV;obtain ⟨Wp,xU⟩:=n_m ((w4.alloc (.cells #[.int .i64 one.lv,.bool one.neg,.slice S0 MR MV,.slice S1 one.cs.length MS] 35)));have yp:Ext W Wp:=by rw [<- xU]; exact y4.alloc _
 have rp:=r4.ext (by rw [<- xU]; exact (Ext.refl w4).alloc _:Ext w4 Wp);have sp:jb Wp w4.heap.size one (.slice S0 MR MV) (.slice S1 one.cs.length MS):=by rw [<- xU]; exact jb.new w4 one _ _ _
 have p4':PlV Wp (fun b=>R < b/\b < w4.heap.size) one _:=(p4.below_.ext (by rw [<- xU]; exact (Ext.refl w4).alloc _:Ext w4 Wp)).mono fun b hb=>by omega
 obtain ⟨os,KI⟩:=n_m (w4.heap.size);have KH:os < Wp.heap.size:=by rw [<- KI,<- xU]; simp
 have kG:∀ i,Wp.frozen? ⟨os,i,none⟩=false:=fun i=>by rw [<- xU,<- KI]; simp [go_sem]
 have aaV:W.heap.size<=os:=by rw [<- KI]; exact y4.size
 have akS:R < os:=by rw [<- KI]; exact r4.1
 rw [KI] at sp p4';have EK:=hid (And.intro sp p4');clear y4 r4 p4;have Xi:=hid (dC.out.ext yp (by omega));have Xh:=hid (dG.out.ext yp (by omega));have HX':=hid (HX.out.trans yp);have ajv:w.heap.size+1 < Wp.heap.size:=by have:=yp.size; omega
 clear dC dG HX Yx yp sp p4';obtain ⟨W0,rfl⟩:∃ W0,W0=W:=⟨W,rfl⟩;obtain ⟨W,rfl⟩:∃ W,W=Wp:=⟨Wp,rfl⟩;have HX:=HX';have dC:=Xi;have dG:=Xh;have xC:w.heap.size<=os:=by omega
 have gZ:=rp.1;clear HX' Xi Xh;have aG:Hid (∀ W',Ext W W'->(Ext W W'/\(jb W' (w.heap.size) f (.slice A0 m0 e0) (.slice B0 f.cs.length f0))/\(jb W' (w.heap.size+1) g (.slice A1 m1 e1) (.slice B1 g.cs.length f1)))):=hid (fun W' hx=>⟨hx,dC.out.ext hx (by omega),dG.out.ext hx (by omega)⟩);go_upto_region 3 with fail
 try rw [KI]
 clear KI xU eQ fD bU aaV;have y0:Ext W W.drew:=(Ext.refl W).drew;have Xx:=HX.out.size
 go_cut [13,14] from 29 to 33 (fun s13 s14 wc=>∃ o5 o6,s13=.pointer (some ⟨o5,0,none⟩)/\s14=.pointer (some ⟨o6,0,none⟩)/\Hid (gcz w W g P o5 o6 wc))
 case first =>
  refine wp_region_held_drew (S:=fun W'=>Ext W W'/\(jb W' (w.heap.size) f (.slice A0 m0 e0) (.slice B0 f.cs.length f0))/\(jb W' (w.heap.size+1) g (.slice A1 m1 e1) (.slice B1 g.cs.length f1))) (by kernel_rfl) (aG.out _ y0) (fun hHeld=>?_);refine tk 0 ?_ (hy:=Or.inl ⟨by rfl,by intro w' aK; obtain ⟨-,⟨k0,k1,k2,k3⟩,k4,k5,k6,k7⟩:=aK; go_simp; (try (with_reducible rfl))⟩);refine tk 1 ?_ (hy:=Or.inl ⟨by rfl,by intro w' aK; obtain ⟨-,⟨k0,k1,k2,k3⟩,k4,k5,k6,k7⟩:=aK; go_simp; (try (with_reducible rfl))⟩);refine tk 2 ?_ (hy:=Or.inl ⟨by rfl,by intro w' aK; obtain ⟨-,⟨k0,k1,k2,k3⟩,k4,k5,k6,k7⟩:=aK; go_simp; (try (with_reducible rfl))⟩);refine tk 3 ?_;refine wpAnyH_ready (rs:=[4,5,6]) (by kernel_rfl) (by simp) ?_;refine AllReadyH.cons rfl (fun K hK=>?cx4) (AllReadyH.cons rfl (fun K hK=>?cx5) (AllReadyH.cons rfl (fun K hK=>?cx6) AllReadyH.nil))
  case' cx4 =>
   go_simp
   go_at_call 139
   refine (HR.out _ (HX.out.trans y0)).mono ?_;rintro e w5 ⟨v5,rfl,aP,x5⟩;have yr:=y0.trans x5;obtain ⟨D0,j2,k2,D1,k3,rfl,-⟩:=id aP.open_;unfold plV;refine k_t hK (aG.out _ yr) fun hHeld=>?_
   clear hK K;have aP:PlV w5 (fun b=>W.heap.size<=b) P _:=aP.mono fun b hb=>by have:=y0.size; omega
   refine r_2 5 6 (fun K hK=>?c4x5) fun K hK=>?c4x6
   case' c4x5 =>
    go_simp;obtain ⟨V5,o5,hV,ho,bZ,iP,iw,kK,bu,dK⟩:=z_b yr
    try rw [hV]
    try rw [ho]
    refine k_t hK (aG.out _ iP) fun hHeld=>?_
    clear hK K hV ho;have fM:=bZ.1;have aP:PlV V5 (fun b=>W.heap.size<=b/\b ≠ o5) P _:=(aP.below_.ext dK).mono fun b hb=>by have:=hb.1; have:=hb.2; have:=bu.out; omega
    refine r_1 6 fun K hK=>?_
    go_simp;obtain ⟨V6,o6,hV,ho,bT,iO,ik,kJ,bg,dJ⟩:=z_b iP
    try rw [hV]
    try rw [ho]
    refine k_t hK (aG.out _ iO) fun hHeld=>?_
    clear hK K hV ho;have fK:=bT.1;have bC:o5 ≠ o6:=by have:=bg.out; have:=bZ.1; omega
    have bZ:=bZ.ext dJ;have fM:=bZ.1;have aP:PlV V6 (fun b=>W.heap.size<=b/\b ≠ o5/\b ≠ o6) P _:=(aP.below_.ext dJ).mono fun b hb=>by have:=hb.1; have:=hb.2; have:=bg.out; omega
    have yE:=iO;have fO:=bZ;have jS:=bT;have lh:=aP;have fP:o5 ≠ o6:=bC
   case' c4x6 =>
    go_simp;obtain ⟨V6,o6,hV,ho,bT,iO,ik,kJ,bg,dJ⟩:=z_b yr
    try rw [hV]
    try rw [ho]
    refine k_t hK (aG.out _ iO) fun hHeld=>?_
    clear hK K hV ho;have fK:=bT.1;have aP:PlV V6 (fun b=>W.heap.size<=b/\b ≠ o6) P _:=(aP.below_.ext dJ).mono fun b hb=>by have:=hb.1; have:=hb.2; have:=bg.out; omega
    refine r_1 5 fun K hK=>?_
    go_simp;obtain ⟨V5,o5,hV,ho,bZ,iP,iw,kK,bu,dK⟩:=z_b iO
    try rw [hV]
    try rw [ho]
    refine k_t hK (aG.out _ iP) fun hHeld=>?_
    clear hK K hV ho;have fM:=bZ.1;have bC:o5 ≠ o6:=by have:=bu.out; have:=bT.1; omega
    have bT:=bT.ext dK;have fK:=bT.1;have aP:PlV V5 (fun b=>W.heap.size<=b/\b ≠ o5/\b ≠ o6) P _:=(aP.below_.ext dK).mono fun b hb=>by have:=hb.1; have:=hb.2; have:=bu.out; omega
    have yE:=iP;have fO:=bZ;have jS:=bT;have lh:=aP;have fP:o5 ≠ o6:=bC
  case' cx5 =>
   go_simp;obtain ⟨V5,o5,hV,ho,bZ,iP,iw,kK,bu,dK⟩:=z_d (Ext.refl W)
   try rw [hV]
   try rw [ho]
   refine k_t hK (aG.out _ iP) fun hHeld=>?_
   clear hK K hV ho;have fM:=bZ.1;refine r_2 4 6 (fun K hK=>?c5x4) fun K hK=>?c5x6
   case' c5x4 =>
    go_simp
    go_at_call 139
    refine (HR.out _ (HX.out.trans iP)).mono ?_;rintro e w5 ⟨v5,rfl,aP,x5⟩;have yr:=iP.trans x5;obtain ⟨D0,j2,k2,D1,k3,rfl,-⟩:=id aP.open_;unfold plV;refine k_t hK (aG.out _ yr) fun hHeld=>?_
    clear hK K;have bZ:=bZ.ext x5;have aP:PlV w5 (fun b=>W.heap.size<=b/\b ≠ o5) P _:=aP.mono fun b hb=>by have:=iP.size; have:=fM; omega
    refine r_1 6 fun K hK=>?_
    go_simp;obtain ⟨V6,o6,hV,ho,bT,iO,ik,kJ,bg,dJ⟩:=z_b yr
    try rw [hV]
    try rw [ho]
    refine k_t hK (aG.out _ iO) fun hHeld=>?_
    clear hK K hV ho;have fK:=bT.1;have bC:o5 ≠ o6:=by have:=bg.out; have:=bZ.1; omega
    have bZ:=bZ.ext dJ;have fM:=bZ.1;have aP:PlV V6 (fun b=>W.heap.size<=b/\b ≠ o5/\b ≠ o6) P _:=(aP.below_.ext dJ).mono fun b hb=>by have:=hb.1; have:=hb.2; have:=bg.out; omega
    have yE:=iO;have fO:=bZ;have jS:=bT;have lh:=aP;have fP:o5 ≠ o6:=bC
   case' c5x6 =>
    go_simp;obtain ⟨V6,o6,hV,ho,bT,iO,ik,kJ,bg,dJ⟩:=z_b iP
    try rw [hV]
    try rw [ho]
    refine k_t hK (aG.out _ iO) fun hHeld=>?_
    clear hK K hV ho;have fK:=bT.1;have bC:o5 ≠ o6:=by have:=bg.out; have:=bZ.1; omega
    have bZ:=bZ.ext dJ;have fM:=bZ.1;refine r_1 4 fun K hK=>?_
    go_simp
    go_at_call 139
    refine (HR.out _ (HX.out.trans iO)).mono ?_;rintro e w5 ⟨v5,rfl,aP,x5⟩;have yr:=iO.trans x5;obtain ⟨D0,j2,k2,D1,k3,rfl,-⟩:=id aP.open_;unfold plV;refine k_t hK (aG.out _ yr) fun hHeld=>?_
    clear hK K;have bZ:=bZ.ext x5;have bT:=bT.ext x5;have aP:PlV w5 (fun b=>W.heap.size<=b/\b ≠ o5/\b ≠ o6) P _:=aP.mono fun b hb=>by have:=iO.size; have:=fM; have:=fK; omega
    have yE:=yr;have fO:=bZ;have jS:=bT;have lh:=aP;have fP:o5 ≠ o6:=bC
  case' cx6 =>
   go_simp;obtain ⟨V6,o6,hV,ho,bT,iO,ik,kJ,bg,dJ⟩:=z_d (Ext.refl W)
   try rw [hV]
   try rw [ho]
   refine k_t hK (aG.out _ iO) fun hHeld=>?_
   clear hK K hV ho;have fK:=bT.1;refine r_2 4 5 (fun K hK=>?c6x4) fun K hK=>?c6x5
   case' c6x4 =>
    go_simp
    go_at_call 139
    refine (HR.out _ (HX.out.trans iO)).mono ?_;rintro e w5 ⟨v5,rfl,aP,x5⟩;have yr:=iO.trans x5;obtain ⟨D0,j2,k2,D1,k3,rfl,-⟩:=id aP.open_;unfold plV;refine k_t hK (aG.out _ yr) fun hHeld=>?_
    clear hK K;have bT:=bT.ext x5;have aP:PlV w5 (fun b=>W.heap.size<=b/\b ≠ o6) P _:=aP.mono fun b hb=>by have:=iO.size; have:=fK; omega
    refine r_1 5 fun K hK=>?_
    go_simp;obtain ⟨V5,o5,hV,ho,bZ,iP,iw,kK,bu,dK⟩:=z_b yr
    try rw [hV]
    try rw [ho]
    refine k_t hK (aG.out _ iP) fun hHeld=>?_
    clear hK K hV ho;have fM:=bZ.1;have bC:o5 ≠ o6:=by have:=bu.out; have:=bT.1; omega
    have bT:=bT.ext dK;have fK:=bT.1;have aP:PlV V5 (fun b=>W.heap.size<=b/\b ≠ o5/\b ≠ o6) P _:=(aP.below_.ext dK).mono fun b hb=>by have:=hb.1; have:=hb.2; have:=bu.out; omega
    have yE:=iP;have fO:=bZ;have jS:=bT;have lh:=aP;have fP:o5 ≠ o6:=bC
   case' c6x5 =>
    go_simp;obtain ⟨V5,o5,hV,ho,bZ,iP,iw,kK,bu,dK⟩:=z_b iO
    try rw [hV]
    try rw [ho]
    refine k_t hK (aG.out _ iP) fun hHeld=>?_
    clear hK K hV ho;have fM:=bZ.1;have bC:o5 ≠ o6:=by have:=bu.out; have:=bT.1; omega
    have bT:=bT.ext dK;have fK:=bT.1;refine r_1 4 fun K hK=>?_
    go_simp
    go_at_call 139
    refine (HR.out _ (HX.out.trans iP)).mono ?_;rintro e w5 ⟨v5,rfl,aP,x5⟩;have yr:=iP.trans x5;obtain ⟨D0,j2,k2,D1,k3,rfl,-⟩:=id aP.open_;unfold plV;refine k_t hK (aG.out _ yr) fun hHeld=>?_
    clear hK K;have bZ:=bZ.ext x5;have bT:=bT.ext x5;have aP:PlV w5 (fun b=>W.heap.size<=b/\b ≠ o5/\b ≠ o6) P _:=aP.mono fun b hb=>by have:=iP.size; have:=fM; have:=fK; omega
    have yE:=yr;have fO:=bZ;have jS:=bT;have lh:=aP;have fP:o5 ≠ o6:=bC
  all_goals
   have Lu:=fO.2.1;obtain ⟨Z0,zn,zc,Z1,uT,⟨g0,g1,g2,g3⟩,-⟩:=fO.2.2;have Ub:PlV _ (fun b=>b < w.heap.size) g (plV g (.slice A1 m1 e1) (.slice B1 g.cs.length f1)):=(H1.out.below_.mono fun b hb=>hb.2).ext (HX.out.trans yE);refine r_1 7 fun K hK=>?_
   go_simp;clear g0 g1 g2 g3 Lu;have tN:=fO.frr g.lv g.neg A1 B1 m1 e1 g.cs.length f1;refine xu (P:=fun V7=>Ext W V7/\PBx V7 (fun b=>b < w.heap.size) o5 g/\PBx V7 (fun _=>False) o6 Pl.zero/\PlV V7 (fun b=>W.heap.size<=b/\b ≠ o5/\b ≠ o6) P _) ⟨(((yE.setCell iw _).setCell iw _).setCell iw _).setCell iw _,fO.store (Ub.mono fun b hb=>⟨hb,by omega⟩),tN.pbx jS fP.symm (fun b hb=>hb.elim),(tN.pl lh (fun b hb=>by (try dsimp only at hb); omega)).mono (fun b hb=>by (try dsimp only at hb); refine ⟨?_,?_,?_⟩ <;> omega)⟩ (fun V7 mf=>?_);obtain ⟨y7,UV,zM,Fq⟩:=mf;refine k_t hK (aG.out _ y7) fun hHeld=>?_
   clear hK K;have Lt:=zM.2.1;obtain ⟨Z2,ZV,Ef,Z3,ZW,⟨g0,g1,g2,g3⟩,-⟩:=zM.2.2;refine r_1 8 fun K hK=>?_
   go_simp;clear g0 g1 g2 g3 Lt;have Ad:=zM.frr P.lv P.neg D0 D1 j2 k2 P.cs.length k3;refine xu (P:=fun V8=>Ext W V8/\PBx V8 (fun b=>b < w.heap.size) o5 g/\PBx V8 (fun b=>W.heap.size<=b/\b ≠ o5) o6 P) ⟨(((y7.setCell ik _).setCell ik _).setCell ik _).setCell ik _,Ad.pbx UV fP (fun b hb=>by omega),zM.store (Fq.mono fun b hb=>⟨⟨hb.1,hb.2.1⟩,hb.2.2⟩)⟩ (fun V8 qX=>?_);obtain ⟨y8,Ja,Bj⟩:=qX;refine hK.out _ _ (aG.out _ y8) (fun hHeld=>?_);clear hK K;refine w_d ?_;have ZN:Hid (gcz w W g P o5 o6 V8):=hid ⟨y8,fP,iw,ik,Ja,Bj⟩;clear Ja Bj y8 fP Ad tN UV zM Fq y7 fO jS lh yE Ub Z0 zn zc Z1 uT Z2 ZV Ef Z3 ZW;go_wp2_with fail
   go_meet
   exact ⟨_,_,rfl,rfl,ZN⟩
 case rest =>
  obtain ⟨o5,o6,rfl,rfl,ZN⟩:=hcut;obtain ⟨V8,rfl⟩:∃ V8,V8=wc:=⟨wc,rfl⟩;obtain ⟨y8,fP,iw,ik,Ja,Bj⟩:=ZN.out;have ZT:=hid Ja;have Qn:=hid Bj;have HR8:=hid (rp.ext y8);have Zj:Hid (jb V8 os one (.slice S0 MR MV) (.slice S1 one.cs.length MS)/\PlV V8 (fun b=>R < b/\b < os) one (plV one (.slice S0 MR MV) (.slice S1 one.cs.length MS))/\os < V8.heap.size/\∀ i,V8.frozen? ⟨os,i,none⟩=false):=hid ⟨EK.out.1.ext y8 KH,EK.out.2.ext y8,Nat.lt_of_lt_of_le KH y8.size,fun i=>(y8.frozen (p:=⟨os,i,none⟩) KH).trans (kG i)⟩;have Y8:=hid y8;have AB:=EO.out;rw [mO.out] at AB;clear Ja Bj y8 kG ZN;obtain ⟨G2,Jj⟩:=n_m (ui l g);rw [Jj] at Zx;have HGG:=hid Jj;clear Jj;go_wp2_with fail
  go_loopw [15] (fun u wr=>(u=undef/\wr=V8)\/(u=.int .i64 2/\Hid (mdg l P=1/\ucz w W o5 o6 R P Q2 wr))) (fun u _=>stM u)
  case atStart=>exact .inl ⟨rfl,rfl⟩
  case round =>
   rcases hrel with ⟨rfl,rfl⟩ | ⟨rfl,HI⟩
   · obtain ⟨CU,Lu,E0,Oi,Ol,E1,Oj,ba,pa⟩:=ZT.out;obtain ⟨OE,Lt,F0,AC,AO,F1,AL,bb,pb⟩:=Qn.out;obtain ⟨bs,ps,RF,eU⟩:=Zj.out;have PA:=hid pa;have PB:=hid pb;have Ha:=hid (fun (W':World) (hx:Ext wr W')=>HDA.out W' _ _ (pa.ext hx));rw [mO.out] at Ha;have Ah:Hid (∀ W',Ext wr W'->(Ext wr W'/\jb W' o5 g (.slice E0 Oi Ol) (.slice E1 g.cs.length Oj)/\jb W' o6 P (.slice F0 AC AO) (.slice F1 P.cs.length AL))):=hid (fun W' hx=>⟨hx,ba.ext hx CU,bb.ext hx OE⟩);have z0:Ext wr wr.drew:=(Ext.refl wr).drew;clear ba bb pa pb bs ps eU Lu Lt;unfold plV at Ha;go_upto_region 4 with fail;refine wp_region_held_drew (S:=fun W'=>Ext wr W'/\jb W' o5 g (.slice E0 Oi Ol) (.slice E1 g.cs.length Oj)/\jb W' o6 P (.slice F0 AC AO) (.slice F1 P.cs.length AL)) (by kernel_rfl) (Ah.out _ z0) (fun hHeld=>?_);refine tk 0 ?_ (hy:=Or.inl ⟨by rfl,by intro w' aK; obtain ⟨-,⟨k0,k1,k2,k3⟩,k4,k5,k6,k7⟩:=aK; go_simp; (try (with_reducible rfl))⟩);refine tk 1 ?_;refine tk 3 ?_ (hy:=Or.inl ⟨by rfl,by intro w' aK; obtain ⟨-,⟨k0,k1,k2,k3⟩,k4,k5,k6,k7⟩:=aK; go_simp; (try (with_reducible rfl))⟩);refine tk 4 ?_;refine r_1 2 fun K hK=>?_
     go_simp
     go_at_call 21
     refine (Ha.out _ z0).mono ?_;rintro e w8 ⟨rfl,x8⟩;have z1:=z0.trans x8;refine k_t hK (Ah.out _ z1) fun hHeld=>?_
     clear hK K;refine r_1 5 fun K hK=>?_
     go_simp
     go_at_call 21
     refine (Qj.out _ _ _ (PB.out.ext z1)).mono ?_;rintro e w9 ⟨rfl,x9⟩;have z2:=z1.trans x9;refine k_t hK (Ah.out _ z2) fun hHeld=>?_
     clear hK K;refine tk 6 ?_;refine tk 7 ?_;refine w_d ?_;have Z2:=hid z2;have YY:=hid hHeld.2;have jU:=HR8.out.ext z2;have aes:=oI.out;have aey:=AB;have NI:=Wy.out;have Oa:=fH.out;have NL:=Zx.out;obtain ⟨D1,DC⟩:=n_m (mdg l P);rw [DC] at aes aey NI Oa NL ⊢;have BN:=hid DC;have aee:=hid NI;have aeD:=hid Oa;have aeh:=hid NL;clear DC z0 z1 z2 x8 x9 Ha hHeld NI Oa NL;have Yn:Ext w wr:=HX.out.trans Y8.out;have EH:=vaf (l:=l) VT.out;have YE:Fit G2 2 D:=by rw [<- HGG.out]; exact vaf (l:=l) Eb.out
     have Yz:Fit one 0 1:=by rw [<- Aj.out]; exact Fit.const (by decide)
     have hOc:one.Can:=by rw [<- Aj.out]; exact zq 1
     have hO1:one.pow 1=one:=Pl.val_uniq (Pl.pow_can _ _) hOc fun ρ=>by rw [Pl.pow_val]; grind
     have hO2:∀ p:Pl,p.Can->one.mul p=p:=fun p hp=>Pl.val_uniq (Pl.mul_can _ _) hp fun ρ=>by rw [Pl.mul_val,<- Aj.out,Pl.const_val]; grind
     have hO0:one ≠ Pl.zero:=fun e=>by
      have h2:=Pl.const_val (fun _=>0) 1;rw [Aj.out,e,Pl.zero_val] at h2;exact absurd h2 (by decide)
     have Zy:=hid (fun (W':World) (q:Nat->Prop) (u:Value) (hu:PlV W' q P u)=>kaf u hl ag VT.out (by omega) (by omega) hu);have Ze:=hid (fun (W':World) (q:Nat->Prop) (u:Value) (hu:PlV W' q (ui l P) u)=>xak (n:=1) u hu EH (by simp) (by simp; omega) (by omega));rw [show (1:Int).toNat=1 from rfl] at Ze;have P9:=hid (fun (W':World) (qa qb:Nat->Prop) (u v:Value) (hu:PlV W' qa ((ui l P).pow 1) u) (hv:PlV W' qb P v)=>qak u v hu hv (EH.pow 1) VT.out (by omega) (by omega));have Ws:=hid (fun (W':World) (q:Nat->Prop) (u:Value) (hu:PlV W' q one u)=>xak (n:=1) u hu Yz (by simp) (by simp) (by omega));rw [show (1:Int).toNat=1 from rfl,hO1] at Ws;have HQ1:=hid (fun (W':World) (qa qb:Nat->Prop) (u v:Value) (hu:PlV W' qa Q2 u) (hv:PlV W' qb one v)=>qby u v hu hv (hO2 Q2 PU.out.can).symm Yz PU.out hO0 (by omega) (by omega));have Zw:=hid (fun (W':World) (q:Nat->Prop) (u:Value) (hu:PlV W' q g u)=>kaf u hl ag Eb.out (by omega) (by omega) hu);rw [HGG.out] at Zw;have Wv:=hid (fun (W':World) (qa qb:Nat->Prop) (u v:Value) (hu:PlV W' qa one u) (hv:PlV W' qb G2 v)=>qak u v hu hv Yz YE (by omega) (by omega));rw [hO2 G2 YE.can] at Wv;have hGz:g ≠ Pl.zero:=vag (l:=l) (by have:=mO.out; omega);have Vl:G2 ≠ Pl.zero:=by
      rw [<- HGG.out]; unfold ui;exact xag (Pl.cfL_coefs hl ag Eb.out.can).last (xae hl ag Eb.out.can hGz)
     have HRm:=hid (fun (Pj:P ≠ Pl.zero) (W':World) (qa qb:Nat->Prop) (u v:Value) (hu:PlV W' qa g u) (hv:PlV W' qb P v)=>ka9 u v hl ag hu hv Eb.out VT.out Pj (by omega) (by omega));have HQ2:=hid (fun (W':World) (qa qb:Nat->Prop) (u v:Value) (hu:PlV W' qa (G2.mul Q2) u) (hv:PlV W' qb G2 v)=>qby u v hu hv rfl YE PU.out Vl (by omega) (by omega));clear EH YE Yz hOc hO1 hO2 hO0 hGz Vl
     by_cases hDm:D1=-1
     · subst hDm;have GG:=aee.out.1 rfl;have HF:Hid (gag (fun b=>w.heap.size<=b) [jaa l f g,zi l f g] w (.returned (.slice (some ⟨R,0,none⟩) 2 2)) w9):=hid (by
        rw [wL.out,Zm.out,Gv.out GG,GG]
        exact ⟨_,rfl,⟨_,_,rfl,by simp,by omega,fun _=>⟨R,rfl,mg,jU.mono fun b hb=>hb.elim⟩⟩,Yn.trans Z2.out⟩)
       clear jU GG Yn YY;go_wp2_with fail;go_ret;exact HF.out
     have YI:¬ D1 < 0:=by omega
     have zX:=jU.2.1;obtain ⟨R0,rn0,rc0,R1,rn1,rc1,⟨r0,r1,r2,r3⟩,-⟩:=jU.el 1 (by simp);simp only [Nat.one_mul,Nat.reduceAdd] at r0 r1 r2 r3;have f0:=zX 4;have f1:=zX 5;have f2:=zX 6;have f3:=zX 7;obtain ⟨V9,qF⟩:=n_m (((((w9.setCell ⟨R,4,none⟩ (.int .i64 P.lv)).setCell ⟨R,5,none⟩ (.bool P.neg)).setCell ⟨R,6,none⟩ (.slice F0 AC AO)).setCell ⟨R,7,none⟩ (.slice F1 P.cs.length AL)));obtain ⟨x9w,Ac,-,Qw⟩:=Frr.put (w0:=w) (ws:=w9) (j:=1) (x:=P) (Yn.trans Z2.out) (Frr.refl w9 R) (jU.mono (q':=fun b=>w.heap.size<=b/\b ≠ o5/\b ≠ o6/\b ≠ os/\b < wr.heap.size) fun b hb=>hb.elim) mg (by simp) ((PB.out.below_.ext Z2.out).mono fun b hb=>by
      obtain ⟨⟨⟨h1,h2⟩,h3⟩,h4⟩:=hb
      exact ⟨⟨by omega,h2,h3,by omega,h4⟩,by omega⟩) qF.symm
     have acg:V9.heap.size=w9.heap.size:=by rw [<- qF]; simp [World.setCell]
     have hZs:=Z2.out.size;have aau:=Y8.out.size;have Sj:o5 ≠ R:=by omega
     have Si:o6 ≠ R:=by omega
     have RZ:os ≠ R:=by omega
     have B5:Hid (jb V9 o5 g (.slice E0 Oi Ol) (.slice E1 g.cs.length Oj)):=hid (Ac.box4_ YY.out.1 (by omega) Sj);have B6:Hid (jb V9 o6 P (.slice F0 AC AO) (.slice F1 P.cs.length AL)):=hid (Ac.box4_ YY.out.2 (by omega) Si);have BS:Hid (jb V9 os one (.slice S0 MR MV) (.slice S1 one.cs.length MS)):=hid (Ac.box4_ (Zj.out.1.ext Z2.out RF) (by omega) RZ);have P5:=hid (Ac.pl (PA.out.ext Z2.out) (fun b hb=>by have:=hb.1; omega));have P6:Hid (PlV V9 (fun b=>w.heap.size<=b/\b ≠ R/\b ≠ o5/\b ≠ o6/\b ≠ os/\b < V9.heap.size) P (plV P (.slice F0 AC AO) (.slice F1 P.cs.length AL))):=hid ((Ac.pl (PB.out.below_.ext Z2.out) (fun b hb=>by have:=hb.1.1.1; omega)).mono fun b hb=>by
      obtain ⟨⟨⟨h1,h2⟩,h3⟩,h4⟩:=hb
      refine ⟨?_,?_,?_,?_,?_,?_⟩ <;> omega)
     have PS:=hid (Ac.pl (Zj.out.2.1.ext Z2.out) (fun b hb=>by have:=hb.1; omega));have HR9:=hid Qw;have X9:=hid x9w;have Dz:∀ i,V9.frozen? ⟨o5,i,none⟩=false:=fun i=>(World.frozen?_of_block (a:=⟨o5,i,none⟩) (Ac.block o5 (by omega) Sj)).trans ((Z2.out.frozen (p:=⟨o5,i,none⟩) CU).trans (ZT.out.2.1 i))
     have hF6:∀ i,V9.frozen? ⟨o6,i,none⟩=false:=fun i=>(World.frozen?_of_block (a:=⟨o6,i,none⟩) (Ac.block o6 (by omega) Si)).trans ((Z2.out.frozen (p:=⟨o6,i,none⟩) OE).trans (Qn.out.2.1 i))
     have ML:∀ i,V9.frozen? ⟨os,i,none⟩=false:=fun i=>(World.frozen?_of_block (a:=⟨os,i,none⟩) (Ac.block os (by omega) RZ)).trans ((Z2.out.frozen (p:=⟨os,i,none⟩) RF).trans (Zj.out.2.2.2 i))
     have HFZ:=hid (And.intro Dz (And.intro hF6 ML));have Es:o5 < V9.heap.size:=by omega
     have FM:o6 < V9.heap.size:=by omega
     have Yc:os < V9.heap.size:=by omega
     obtain ⟨kb0,kb1,kb2,kb3⟩:=YY.out.2;obtain ⟨yO,FD⟩:=n_m (V9.heap.size);obtain ⟨nS,zU⟩:=n_m (V9.alloc (.cells #[.int .i64 P.lv,.bool P.neg,.slice F0 AC AO,.slice F1 P.cs.length AL] 35));have x10:Ext V9 nS:=by rw [<- zU]; exact (Ext.refl V9).alloc _
     have QE:PBx nS (fun b=>w.heap.size<=b/\b ≠ R/\b ≠ o5/\b ≠ o6/\b ≠ os) yO P:=by rw [<- zU,<- FD]; exact PBx.new (P6.out.mono fun b hb=>⟨hb.1,hb.2.1,hb.2.2.1,hb.2.2.2.1,hb.2.2.2.2.1⟩) _
     have rY:V9.heap.size<=yO:=by rw [FD]; exact Nat.le_refl _
     have DI:=hid x10;have VD:=hid QE;have aju:=X9.out.size;clear jU Yn x9w Ac Qw acg hZs aau Dz hF6 ML x10 QE;have ajf:IntKind.i64.wrap (2 - 1)=1:=rfl;go_upto_region 8 with fail
     try rw [qF]
     obtain ⟨k60,k61,k62,k63⟩:=B6.out;clear qF r0 r1 r2 r3 f0 f1 f2 f3 kb0 kb1 kb2 kb3;rcases (by omega:D1=0\/D1=1) with rfl | rfl
     · rw [aeD.out rfl] at P9;have PP:Hid (∀ W',Ext V9 W'->(jb W' o6 P (.slice F0 AC AO) (.slice F1 P.cs.length AL)/\jb W' os one (.slice S0 MR MV) (.slice S1 one.cs.length MS))):=hid (fun W' hx=>⟨B6.out.ext hx FM,BS.out.ext hx Yc⟩);have ajg:IntKind.i64.wrap (2 - 0)=2:=rfl;go_upto_region 10 with fail
       try rw [zU]
       try rw [FD]
       clear zU k60 k61 k62 k63;have y0:Ext V9 nS.drew:=DI.out.drew;refine wp_region_held_drew (S:=fun W'=>Ext V9 W') (by kernel_rfl) y0 (fun hHeld=>?_);refine tk 0 ?_ (hy:=Or.inl ⟨by rfl,by intro w' aK; obtain ⟨⟨k0,k1,k2,k3⟩,-⟩:=PP.out w' aK; go_simp; (try (with_reducible rfl))⟩);refine tk 1 ?_;refine tk 3 ?_;refine tk 4 ?_;refine tk 6 ?_ (hy:=Or.inl ⟨by rfl,by intro w' aK; obtain ⟨⟨k0,k1,k2,k3⟩,-⟩:=PP.out w' aK; go_simp; (try (with_reducible rfl))⟩);refine r_1 2 fun K hK=>?_
       go_simp
       go_at_call 18
       refine (Zy.out _ _ _ (P6.out.ext y0)).mono ?_;rintro e w3 ⟨v3,rfl,m3,x3⟩;have y1:=y0.trans x3;refine k_t hK y1 fun hHeld=>?_
       clear hK K;refine r_1 5 fun K hK=>?_
       go_simp
       go_at_call 19
       refine (Ze.out _ _ _ m3).mono ?_;rintro e w4 ⟨v4,rfl,m4,x4⟩;have y2:=y1.trans x4;refine k_t hK y2 fun hHeld=>?_
       clear hK K;refine r_1 7 fun K hK=>?_
       go_simp
       go_at_call 17
       refine (P9.out _ _ _ _ _ m4 (P6.out.ext y2)).mono ?_;rintro e w5 ⟨v5,rfl,m5,x5⟩;have y3:=y2.trans x5;obtain ⟨C0,oU,oW,C1,oV,rfl,-⟩:=id m5.open_;unfold plV;refine k_t hK y3 fun hHeld=>?_
       clear hK K;have z17:=((((VD.out.ext (Ext.refl nS).drew).ext x3).ext x4).ext x5);have nP:=z17.2.1;obtain ⟨T0,tn,tc,T1,tc1,⟨g0,g1,g2,g3⟩,-⟩:=z17.2.2;have lu:V9.heap.size < w4.heap.size:=by have:=DI.out.size; have:=y2.size; have:=VD.out.1; have:=x3.size; have:=x4.size; have:nS.drew.heap.size=nS.heap.size:=rfl; omega
       have Iw:yO < w4.heap.size:=by have:=VD.out.1; have:=x3.size; have:=x4.size; have:nS.drew.heap.size=nS.heap.size:=rfl; omega
       refine r_1 8 fun K hK=>?_
       go_simp;clear g0 g1 g2 g3 nP;refine xu (P:=fun V=>Ext V9 V/\PBx V (fun b=>V9.heap.size<=b) yO Q2) ⟨(((y3.setCell rY _).setCell rY _).setCell rY _).setCell rY _,z17.store (m5.mono fun b hb=>⟨by omega,by omega⟩)⟩ (fun PI aco=>?_);obtain ⟨ZX,z11⟩:=aco;refine k_t hK ZX fun hHeld=>?_
       clear hK K;refine w_d ?_;have Y11:=hid ZX;have YR:=hid z11;clear y0 y1 y2 y3 m3 m4 m5 x3 x4 x5 z17 lu Iw ZX z11 hHeld;go_upto_region 11 with fail;have y0:Ext V9 PI.drew:=Y11.out.drew;refine wp_region_held_drew (S:=fun W'=>Ext V9 W') (by kernel_rfl) y0 (fun hHeld=>?_);refine tk 1 ?_ (hy:=Or.inl ⟨by rfl,by intro w' aK; obtain ⟨-,k0,k1,k2,k3⟩:=PP.out w' aK; go_simp; (try (with_reducible rfl))⟩);refine tk 2 ?_;refine tk 3 ?_;refine r_2 0 4 (fun K hK=>?ldA) fun K hK=>?ldB
       case' ldA =>
        obtain ⟨-,-,G0,Gn,Gq,G1,Gp,⟨k0,k1,k2,k3⟩,CE⟩:=YR.out.ext (Ext.refl PI).drew;go_simp;refine k_t hK y0 fun hHeld=>?_
        clear hK K k0 k1 k2 k3;refine r_1 4 fun K hK=>?_
        go_simp
        go_at_call 19
        refine (Ws.out _ _ _ (PS.out.ext y0)).mono ?_;rintro e w4 ⟨v4,rfl,m4,x4⟩;have y1:=y0.trans x4;refine k_t hK y1 fun hHeld=>?_
        clear hK K;have Ky:=CE.ext x4
       case' ldB =>
        go_simp
        go_at_call 19
        refine (Ws.out _ _ _ (PS.out.ext y0)).mono ?_;rintro e w4 ⟨v4,rfl,m4,x4⟩;have y1:=y0.trans x4;refine k_t hK y1 fun hHeld=>?_
        clear hK K;refine r_1 0 fun K hK=>?_
        obtain ⟨-,-,G0,Gn,Gq,G1,Gp,⟨k0,k1,k2,k3⟩,Ky⟩:=(YR.out.ext (Ext.refl PI).drew).ext x4;go_simp;refine k_t hK y1 fun hHeld=>?_
        clear hK K k0 k1 k2 k3
       all_goals
        refine r_1 5 fun K hK=>?_
        try unfold plV
        go_simp
        go_at_call 140
        refine (HQ1.out _ _ _ _ _ Ky m4).mono ?_;rintro e w5 ⟨v5,rfl,m5,x5⟩;have y2:=y1.trans x5;obtain ⟨C0,oU,oW,C1,oV,rfl,-⟩:=id m5.open_;unfold plV;refine k_t hK y2 fun hHeld=>?_
        clear hK K;have z17:=((YR.out.ext (Ext.refl PI).drew).ext x4).ext x5;have nP:=z17.2.1;obtain ⟨T0,tn,tc,T1,tc1,⟨g0,g1,g2,g3⟩,-⟩:=z17.2.2;have Iw:yO < w4.heap.size:=by have:=YR.out.1; have:=x4.size; have:PI.drew.heap.size=PI.heap.size:=rfl; omega
        refine r_1 6 fun K hK=>?_
        go_simp;clear g0 g1 g2 g3 nP;refine xu (P:=fun V=>Ext V9 V/\PBx V (fun b=>V9.heap.size<=b) yO Q2) ⟨(((y2.setCell rY _).setCell rY _).setCell rY _).setCell rY _,z17.store (m5.mono fun b hb=>⟨by omega,by omega⟩)⟩ (fun V12 acn=>?_);obtain ⟨Xo,z12⟩:=acn;refine k_t hK Xo fun hHeld=>?_
        clear hK K;refine w_d ?_;obtain ⟨aj6,-,G3,fE,pJ,G4,dh,⟨k0,k1,k2,k3⟩,Ry⟩:=z12;have ae:=HR9.out.ext Xo;have hq:=ae.2.1;have f0:=hq 0;have f1:=hq 1;have f2:=hq 2;have f3:=hq 3;obtain ⟨U0,un0,uc0,U1,un1,uc1,⟨r0,r1,r2,r3⟩,-⟩:=ae.el 0 (by simp);simp only [Nat.zero_mul,Nat.zero_add] at r0 r1 r2 r3;obtain ⟨V13,acm⟩:=n_m (((((V12.setCell ⟨R,0,none⟩ (.int .i64 Q2.lv)).setCell ⟨R,1,none⟩ (.bool Q2.neg)).setCell ⟨R,2,none⟩ (.slice G3 fE pJ)).setCell ⟨R,3,none⟩ (.slice G4 Q2.cs.length dh)));obtain ⟨Qq,-,-,Hq⟩:=Frr.put (w0:=w) (ws:=V12) (j:=0) (x:=Q2) (X9.out.trans Xo) (Frr.refl V12 R) (ae.mono (q':=fun b=>w.heap.size<=b) fun b hb=>hb.1) mg (by simp) (Ry.mono fun b hb=>by (try dsimp only at hb); exact ⟨by omega,by omega⟩) acm.symm;have HF:Hid (gag (fun b=>w.heap.size<=b) [jaa l f g,zi l f g] w (.returned (.slice (some ⟨R,0,none⟩) 2 2)) V13):=hid (by
         rw [wL.out,Zm.out]
         exact ⟨_,rfl,⟨_,_,rfl,by simp,by omega,fun _=>⟨R,rfl,mg,Hq⟩⟩,Qq⟩)
        clear ae hq Qq Hq y0 y1 y2 m4 m5 x4 x5 z17 Xo Ry Ky hHeld;go_wp2_with fail;go_ret;exact HF.out
     · have hPz:P ≠ Pl.zero:=vag (l:=l) (by have:=BN.out; omega);have Zk:=hid (HRm.out hPz);rw [aeh.out rfl] at Zk;have PP:Hid (∀ W',Ext nS W'->(jb W' o5 g (.slice E0 Oi Ol) (.slice E1 g.cs.length Oj)/\jb W' os one (.slice S0 MR MV) (.slice S1 one.cs.length MS))):=hid (fun W' hx=>⟨B5.out.ext (DI.out.trans hx) Es,BS.out.ext (DI.out.trans hx) Yc⟩);clear hPz;go_upto_region 15 with fail
       try rw [zU]
       try rw [FD]
       clear zU k60 k61 k62 k63
       go_cut [19] from 75 to 81 (fun s19 wc=>∃ BQ,s19=.pointer (some ⟨BQ,0,none⟩)/\Hid (Ext nS wc/\nS.heap.size<=BQ/\PBx wc (fun b=>nS.heap.size<=b) BQ G2))
       case first =>
        have y0:Ext nS nS.drew:=(Ext.refl nS).drew;refine wp_region_held_drew (S:=fun W'=>Ext nS W') (by kernel_rfl) y0 (fun hHeld=>?_);refine tk 0 ?_ (hy:=Or.inl ⟨by rfl,by intro w' aK; obtain ⟨-,k0,k1,k2,k3⟩:=PP.out w' aK; go_simp; (try (with_reducible rfl))⟩);refine tk 1 ?_;refine tk 3 ?_ (hy:=Or.inl ⟨by rfl,by intro w' aK; obtain ⟨⟨k0,k1,k2,k3⟩,-⟩:=PP.out w' aK; go_simp; (try (with_reducible rfl))⟩);refine tk 4 ?_;refine r_2 2 7 (fun K hK=>?q20x2) fun K hK=>?q20x7
        case' q20x2 =>
         go_simp
         go_at_call 19
         refine (Ws.out _ _ _ (PS.out.ext (DI.out.trans y0))).mono ?_;rintro e w2 ⟨v2,rfl,m2,x2⟩;have ya:=y0.trans x2;refine k_t hK ya fun hHeld=>?_
         clear hK K;refine r_2 5 7 (fun K hK=>?q50x5) fun K hK=>?q50x7
         case' q50x5 =>
          go_simp
          go_at_call 18
          refine (Zw.out _ _ _ (P5.out.ext (DI.out.trans ya))).mono ?_;rintro e w5 ⟨v5,rfl,m5,x5⟩;have yb:=ya.trans x5;have m2:=m2.ext x5;refine k_t hK yb fun hHeld=>?_
          clear hK K;refine r_2 6 7 (fun K hK=>?q60x6) fun K hK=>?q60x7
          case' q60x6 =>
           go_simp
           go_at_call 17
           refine (Wv.out _ _ _ _ _ m2 m5).mono ?_;rintro e w6 ⟨v6,rfl,hp,x6⟩;have yc:=yb.trans x6;obtain ⟨F0,j4,k4,F1,k5,rfl,-⟩:=id hp.open_;unfold plV;refine k_t hK yc fun hHeld=>?_
           clear hK K;have hp:PlV w6 (fun b=>nS.heap.size<=b) G2 _:=hp.mono fun b hb=>by have:=yb.size; omega
           refine r_1 7 fun K hK=>?_
           go_simp;obtain ⟨V,o,hV,ho,hz,yA,kM,pG,jV,mQ⟩:=z_b yc
           try rw [hV]
           try rw [ho]
           refine k_t hK yA fun hHeld=>?_
           clear hK K hV ho;have hp:PlV V (fun b=>nS.heap.size<=b/\b ≠ o) G2 _:=(hp.below_.ext mQ).mono fun b hb=>by have:=hb.1; have:=hb.2; have:=jV.out; constructor <;> omega
           have yE:=yA;have kF:=hz;have lh:=hp
          case' q60x7 =>
           go_simp;obtain ⟨V,o,hV,ho,hz,yA,kM,pG,jV,mQ⟩:=z_b yb
           try rw [hV]
           try rw [ho]
           refine k_t hK yA fun hHeld=>?_
           clear hK K hV ho;have m2:=m2.ext mQ;have m5:=m5.ext mQ;refine r_1 6 fun K hK=>?_
           go_simp
           go_at_call 17
           refine (Wv.out _ _ _ _ _ m2 m5).mono ?_;rintro e w6 ⟨v6,rfl,hp,x6⟩;have yc:=yA.trans x6;obtain ⟨F0,j4,k4,F1,k5,rfl,-⟩:=id hp.open_;unfold plV;refine k_t hK yc fun hHeld=>?_
           clear hK K;have hp:PlV w6 (fun b=>nS.heap.size<=b/\b ≠ o) G2 _:=hp.mono fun b hb=>by have:=yA.size; have:=hz.1; constructor <;> omega
           have hz:=hz.ext x6;have yE:=yc;have kF:=hz;have lh:=hp
         case' q50x7 =>
          go_simp;obtain ⟨V,o,hV,ho,hz,yA,kM,pG,jV,mQ⟩:=z_b ya
          try rw [hV]
          try rw [ho]
          refine k_t hK yA fun hHeld=>?_
          clear hK K hV ho;have m2:=m2.ext mQ;refine r_1 5 fun K hK=>?_
          go_simp
          go_at_call 18
          refine (Zw.out _ _ _ (P5.out.ext (DI.out.trans yA))).mono ?_;rintro e w5 ⟨v5,rfl,m5,x5⟩;have yb:=yA.trans x5;have m2:=m2.ext x5;refine k_t hK yb fun hHeld=>?_
          clear hK K;have hz:=hz.ext x5;refine r_1 6 fun K hK=>?_
          go_simp
          go_at_call 17
          refine (Wv.out _ _ _ _ _ m2 m5).mono ?_;rintro e w6 ⟨v6,rfl,hp,x6⟩;have yc:=yb.trans x6;obtain ⟨F0,j4,k4,F1,k5,rfl,-⟩:=id hp.open_;unfold plV;refine k_t hK yc fun hHeld=>?_
          clear hK K;have hp:PlV w6 (fun b=>nS.heap.size<=b/\b ≠ o) G2 _:=hp.mono fun b hb=>by have:=yb.size; have:=hz.1; constructor <;> omega
          have hz:=hz.ext x6;have yE:=yc;have kF:=hz;have lh:=hp
        case' q20x7 =>
         go_simp;obtain ⟨V,o,hV,ho,hz,yA,kM,pG,jV,mQ⟩:=z_d (Ext.refl nS)
         try rw [hV]
         try rw [ho]
         refine k_t hK yA fun hHeld=>?_
         clear hK K hV ho;refine r_1 2 fun K hK=>?_
         go_simp
         go_at_call 19
         refine (Ws.out _ _ _ (PS.out.ext (DI.out.trans yA))).mono ?_;rintro e w2 ⟨v2,rfl,m2,x2⟩;have ya:=yA.trans x2;refine k_t hK ya fun hHeld=>?_
         clear hK K;have hz:=hz.ext x2;refine r_1 5 fun K hK=>?_
         go_simp
         go_at_call 18
         refine (Zw.out _ _ _ (P5.out.ext (DI.out.trans ya))).mono ?_;rintro e w5 ⟨v5,rfl,m5,x5⟩;have yb:=ya.trans x5;have m2:=m2.ext x5;refine k_t hK yb fun hHeld=>?_
         clear hK K;have hz:=hz.ext x5;refine r_1 6 fun K hK=>?_
         go_simp
         go_at_call 17
         refine (Wv.out _ _ _ _ _ m2 m5).mono ?_;rintro e w6 ⟨v6,rfl,hp,x6⟩;have yc:=yb.trans x6;obtain ⟨F0,j4,k4,F1,k5,rfl,-⟩:=id hp.open_;unfold plV;refine k_t hK yc fun hHeld=>?_
         clear hK K;have hp:PlV w6 (fun b=>nS.heap.size<=b/\b ≠ o) G2 _:=hp.mono fun b hb=>by have:=yb.size; have:=hz.1; constructor <;> omega
         have hz:=hz.ext x6;have yE:=yc;have kF:=hz;have lh:=hp
        all_goals
         have nP:=kF.2.1;obtain ⟨Z0,zn,zc,Z1,uT,⟨g0,g1,g2,g3⟩,-⟩:=kF.2.2;refine r_1 8 fun K hK=>?_
         go_simp;clear g0 g1 g2 g3 nP;refine xu (P:=fun V7=>Ext nS V7/\PBx V7 (fun b=>nS.heap.size<=b) o G2) ⟨(((yE.setCell kM _).setCell kM _).setCell kM _).setCell kM _,kF.store lh⟩ (fun V7 mf=>?_);obtain ⟨y9,b9⟩:=mf;refine k_t hK y9 fun hHeld=>?_
         clear hK K;refine w_d ?_;have HN:=hid (And.intro y9 (And.intro kM b9));clear y9 b9 kF lh yE hHeld;go_wp2_with fail
         go_meet
         exact ⟨_,rfl,HN⟩
       case rest =>
       obtain ⟨BQ,rfl,H19⟩:=hcut;obtain ⟨VB,rfl⟩:∃ VB,VB=wc:=⟨wc,rfl⟩;obtain ⟨x19,ajG,z19⟩:=H19.out;have Ho:Ext V9 VB:=DI.out.trans x19;have h10:=DI.out.size;have alm:=VD.out.1;have hBs:=x19.size;have C5:=hid (B5.out.ext Ho Es);have C6:=hid (B6.out.ext Ho FM);obtain ⟨abp,-,T0,PK,PM,T1,PL,c17,p17⟩:=VD.out.ext x19;obtain ⟨abo,-,U0,YT,YV,U1,YU,c19,p19⟩:=z19;have ad3:=hid p17;have ad1:=hid p19;have XB:=hid Ho;have iF:Hid (∀ W',Ext VB W'->(Ext w W'/\jb W' yO P (.slice T0 PK PM) (.slice T1 P.cs.length PL)/\jb W' BQ G2 (.slice U0 YT YV) (.slice U1 G2.cs.length YU))):=hid (fun W' hx=>⟨(X9.out.trans Ho).trans hx,c17.ext hx abp,c19.ext hx abo⟩);have Tj:o5 < VB.heap.size:=by have:=Ho.size; omega
       have Ti:o6 < VB.heap.size:=by have:=Ho.size; omega
       have aj3:os < VB.heap.size:=by have:=Ho.size; omega
       clear c17 c19 p17 p19 Ho x19 H19;go_upto_region 16 with fail;have y0:Ext VB VB.drew:=(Ext.refl VB).drew;refine wp_region_held_drew (S:=fun W'=>Ext w W'/\jb W' yO P (.slice T0 PK PM) (.slice T1 P.cs.length PL)/\jb W' BQ G2 (.slice U0 YT YV) (.slice U1 G2.cs.length YU)) (by kernel_rfl) (iF.out _ y0) (fun hHeld=>?_);refine tk 0 ?_ (hy:=Or.inl ⟨by rfl,by intro w' aK; obtain ⟨-,⟨k0,k1,k2,k3⟩,k4,k5,k6,k7⟩:=aK; go_simp; (try (with_reducible rfl))⟩);refine tk 3 ?_;refine tk 5 ?_ (hy:=Or.inl ⟨by rfl,by intro w' aK; obtain ⟨-,⟨k0,k1,k2,k3⟩,k4,k5,k6,k7⟩:=aK; go_simp; (try (with_reducible rfl))⟩);refine r_2 1 2 (fun K hK=>?ldP) fun K hK=>?ldQ
       case' ldP =>
        obtain ⟨k0,k1,k2,k3⟩:=C5.out.ext y0 Tj;go_simp;refine k_t hK (iF.out _ y0) fun hHeld=>?_
        clear hK K k0 k1 k2 k3;refine r_1 2 fun K hK=>?_
        obtain ⟨k0,k1,k2,k3⟩:=C6.out.ext y0 Ti;go_simp;refine k_t hK (iF.out _ y0) fun hHeld=>?_
        clear hK K k0 k1 k2 k3
       case' ldQ =>
        obtain ⟨k0,k1,k2,k3⟩:=C6.out.ext y0 Ti;go_simp;refine k_t hK (iF.out _ y0) fun hHeld=>?_
        clear hK K k0 k1 k2 k3;refine r_1 1 fun K hK=>?_
        obtain ⟨k0,k1,k2,k3⟩:=C5.out.ext y0 Tj;go_simp;refine k_t hK (iF.out _ y0) fun hHeld=>?_
        clear hK K k0 k1 k2 k3
       all_goals
        refine r_1 4 fun K hK=>?_
        try unfold plV
        go_simp
        go_at_call 139
        refine (Zk.out _ _ _ _ _ (P5.out.ext (XB.out.trans y0)) (P6.out.ext (XB.out.trans y0))).mono ?_;rintro e w4 ⟨v4,rfl,m4,x4⟩;have y1:=y0.trans x4;refine k_t hK (iF.out _ y1) fun hHeld=>?_
        clear hK K;refine r_1 6 fun K hK=>?_
        try unfold plV
        go_simp
        go_at_call 140
        refine (HQ2.out _ _ _ _ _ m4 (ad1.out.ext y1)).mono ?_;rintro e w6 ⟨v6,rfl,m6,x6⟩;have y2:=y1.trans x6;obtain ⟨C0,oU,oW,C1,oV,rfl,-⟩:=id m6.open_;unfold plV;refine k_t hK (iF.out _ y2) fun hHeld=>?_
        clear hK K;have y9:Ext V9 w6:=XB.out.trans y2;have Ff:=iF.out _ y2;have hw6:=x6.size;have Oz:=y1.size;have h9w:V9.heap.size<=w4.heap.size:=by have:=XB.out.size; omega
        have z5:PBx w6 (fun b=>b < w.heap.size) o5 g:=⟨by omega,fun i=>(y9.frozen (p:=⟨o5,i,none⟩) Es).trans (HFZ.out.1 i),_,_,_,_,_,B5.out.ext y9 Es,(P5.out.ext y9).mono fun b hb=>hb⟩;have z6:PBx w6 (fun b=>w.heap.size<=b/\b ≠ R/\b ≠ o5/\b ≠ os) o6 P:=⟨by omega,fun i=>(y9.frozen (p:=⟨o6,i,none⟩) FM).trans (HFZ.out.2.1 i),_,_,_,_,_,B6.out.ext y9 FM,(P6.out.ext y9).mono fun b hb=>by
         obtain ⟨h1,h2,h3,h4,h5,h6⟩:=hb
         exact ⟨⟨h1,h2,h3,h5⟩,h4⟩⟩
        have zs:PBx w6 (fun b=>R < b/\b < W.heap.size) os one:=⟨by omega,fun i=>(y9.frozen (p:=⟨os,i,none⟩) Yc).trans (HFZ.out.2.2 i),_,_,_,_,_,BS.out.ext y9 Yc,(PS.out.ext y9).mono fun b hb=>⟨⟨hb.1,by omega⟩,by omega⟩⟩;have ae:=HR9.out.ext y9;have Rx:PlV w6 (fun b=>(w.heap.size<=b/\b ≠ R/\b ≠ o6/\b ≠ os)/\b ≠ o5) P (plV P (.slice T0 PK PM) (.slice T1 P.cs.length PL)):=(ad3.out.ext y2).mono fun b hb=>by
         obtain ⟨⟨h1,h2,h3,h4,h5⟩,h6⟩:=hb;exact ⟨⟨h1,h2,h4,h5⟩,h3⟩
        have OJ:PlV w6 (fun b=>w4.heap.size<=b) Q2 (plV Q2 (.slice C0 oU oW) (.slice C1 Q2.cs.length oV)):=m6.mono fun b hb=>by omega
        have nP:=z5.2.1;obtain ⟨Z0,zn,zc,Z1,uT,⟨g0,g1,g2,g3⟩,-⟩:=z5.2.2;have tN:=z5.frr P.lv P.neg T0 T1 PK PM P.cs.length PL;have EZ:w.heap.size<=o5:=by omega
        have EY:w.heap.size<=o6:=by omega
        have Sm:yO ≠ o5:=by omega
        have Sl:yO ≠ o6:=by omega
        have aa5:BQ ≠ o5:=by omega
        have qQ:BQ ≠ o6:=by omega
        have bC:=fP;have Tq:yO < w6.heap.size:=by omega
        have Tn:BQ < w6.heap.size:=by omega
        refine r_1 7 fun K hK=>?_
        go_simp;clear g0 g1 g2 g3 nP;refine xu (P:=fun V=>(Ext w V/\jb V yO P (.slice T0 PK PM) (.slice T1 P.cs.length PL)/\jb V BQ G2 (.slice U0 YT YV) (.slice U1 G2.cs.length YU))/\PBx V (fun b=>w.heap.size<=b/\b ≠ R/\b ≠ o6/\b ≠ os) o5 P/\PBx V (fun b=>w.heap.size<=b/\b ≠ R/\b ≠ o5/\b ≠ os) o6 P/\PBx V (fun b=>R < b/\b < W.heap.size) os one/\xh V (fun b=>w.heap.size<=b/\b ≠ o5/\b ≠ o6/\b ≠ os/\b < wr.heap.size) R [Pl.zero,P]/\PlV V (fun b=>w4.heap.size<=b) Q2 (plV Q2 (.slice C0 oU oW) (.slice C1 Q2.cs.length oV))/\w6.heap.size<=V.heap.size) ⟨⟨(((Ff.1.setCell EZ _).setCell EZ _).setCell EZ _).setCell EZ _,tN.box4_ Ff.2.1 Tq Sm,tN.box4_ Ff.2.2 Tn aa5⟩,z5.store Rx,tN.pbx z6 (fun e=>bC e.symm) (fun b hb=>hb.2.2.1),tN.pbx zs (by omega) (fun b hb=>by omega),tN.row ae (by omega) (fun b hb=>hb.2.1),tN.pl OJ (fun b hb=>by omega),tN.size⟩ (fun V14 acl=>?_);obtain ⟨Cc,a14,b14,s14,r14,q14,l14⟩:=acl;refine k_t hK Cc fun hHeld=>?_
        clear hK K tN z5 z6 zs Rx OJ ae Ff;have nP:=b14.2.1;obtain ⟨Z0,zn,zc,Z1,uT,⟨g0,g1,g2,g3⟩,-⟩:=b14.2.2;have Ad:=b14.frr Q2.lv Q2.neg C0 C1 oU oW Q2.cs.length oV;refine r_1 8 fun K hK=>?_
        go_simp;clear g0 g1 g2 g3 nP;refine xu (P:=fun V=>(Ext w V/\jb V yO P (.slice T0 PK PM) (.slice T1 P.cs.length PL)/\jb V BQ G2 (.slice U0 YT YV) (.slice U1 G2.cs.length YU))/\PBx V (fun b=>w.heap.size<=b/\b ≠ R/\b ≠ o6/\b ≠ os) o5 P/\PBx V (fun b=>w4.heap.size<=b) o6 Q2/\PBx V (fun b=>R < b/\b < W.heap.size) os one/\xh V (fun b=>w.heap.size<=b/\b ≠ o5/\b ≠ o6/\b ≠ os/\b < wr.heap.size) R [Pl.zero,P]) ⟨⟨(((Cc.1.setCell EY _).setCell EY _).setCell EY _).setCell EY _,Ad.box4_ Cc.2.1 (by omega) Sl,Ad.box4_ Cc.2.2 (by omega) qQ⟩,Ad.pbx a14 bC (fun b hb=>hb.2.2.1),b14.store (q14.mono fun b hb=>⟨hb,by omega⟩),Ad.pbx s14 (by omega) (fun b hb=>by omega),Ad.row r14 (by omega) (fun b hb=>hb.2.2.1)⟩ (fun V15 ack=>?_);obtain ⟨J9,a15,b15,s15,r15⟩:=ack;refine hK.out _ _ J9 (fun hHeld=>?_);clear hK K Ad a14 b14 s14 r14 q14 Cc;refine w_d ?_;have adH:=hid J9.1;have aeP:=hid a15;have aeK:=hid b15;have adt:=hid s15;have adQ:=hid r15;obtain ⟨-,-,G0,Gn,Gq,G1,Gp,⟨g0,g1,g2,g3⟩,Qy⟩:=a15;have WH:=hid (Zy.out _ _ _ Qy);unfold plV at WH;clear J9 b15 s15 r15 Qy hHeld y0 y1 y2 y9 m4 m6 x4 x6;go_wp2_with fail;clear g0 g1 g2 g3;refine WH.out.mono ?_;rintro e w7 ⟨v7,rfl,m7,x7⟩;obtain ⟨I0,in0,ic0,I1,ic1,rfl,-⟩:=id m7.open_;have s7:=adt.out.ext x7;have nP:=s7.2.1;have fi0:=nP 0;have fi1:=nP 1;have fi2:=nP 2;have fi3:=nP 3;obtain ⟨Z0,zn,zc,Z1,uT,⟨g0,g1,g2,g3⟩,-⟩:=s7.2.2;obtain ⟨LP,hLP⟩:=n_m (ui l P);rw [hLP] at m7 ⊢;have Vt:=s7.frr LP.lv LP.neg I0 I1 in0 ic0 LP.cs.length ic1;obtain ⟨V16,U4⟩:=n_m (((((w7.setCell ⟨os,0,none⟩ (.int .i64 LP.lv)).setCell ⟨os,1,none⟩ (.bool LP.neg)).setCell ⟨os,2,none⟩ (.slice I0 in0 ic0)).setCell ⟨os,3,none⟩ (.slice I1 LP.cs.length ic1)));rw [U4] at Vt;have HN:Hid (mdg l P=1/\ucz w W o5 o6 R P Q2 V16):=hid ⟨BN.out,by rw [<- U4]; exact (((((adH.out.trans x7).setCell xC _).setCell xC _).setCell xC _).setCell xC _),(Vt.pbx (aeP.out.ext x7) (by omega) (fun b hb=>hb.2.2.2)).mono (fun _ _=>trivial),(Vt.pbx (aeK.out.ext x7) (by omega) (fun b hb=>by omega)).mono (fun b hb=>⟨by omega,by omega⟩),(Vt.row (adQ.out.ext x7) (by omega) (fun b hb=>hb.2.2.2.1)).mono (fun b hb=>⟨hb.1,hb.2.2.1⟩)⟩;clear WH m7 x7 s7 Vt hLP nP;unfold plV;go_wp2_with fail;clear g0 g1 g2 g3 fi0 fi1 fi2 fi3
        go_roundw
        case rel=>exact .inr ⟨rfl,HN⟩
        case measure=>decide
   · obtain ⟨hP1,Bv⟩:=HI.out;obtain ⟨lg,ha,hb,hr⟩:=Bv;obtain ⟨CU,-,E0,Oi,Ol,E1,Oj,ba,pa⟩:=ha;obtain ⟨OE,-,F0,AC,AO,F1,AL,bb,pb⟩:=hb;have PA:=hid pa;have PB:=hid pb;have HRr:=hid hr;have XR:=hid lg;have Ha:=hid (fun (W':World) (hx:Ext wr W')=>Qj.out W' _ _ (pa.ext hx));rw [hP1] at Ha;have Ah:Hid (∀ W',Ext wr W'->(Ext wr W'/\jb W' o5 P (.slice E0 Oi Ol) (.slice E1 P.cs.length Oj)/\jb W' o6 Q2 (.slice F0 AC AO) (.slice F1 Q2.cs.length AL))):=hid (fun W' hx=>⟨hx,ba.ext hx CU,bb.ext hx OE⟩);have z0:Ext wr wr.drew:=(Ext.refl wr).drew;clear ba bb pa pb hr lg HI;unfold plV at Ha;go_upto_region 4 with fail;refine wp_region_held_drew (S:=fun W'=>Ext wr W'/\jb W' o5 P (.slice E0 Oi Ol) (.slice E1 P.cs.length Oj)/\jb W' o6 Q2 (.slice F0 AC AO) (.slice F1 Q2.cs.length AL)) (by kernel_rfl) (Ah.out _ z0) (fun hHeld=>?_);refine tk 0 ?_ (hy:=Or.inl ⟨by rfl,by intro w' aK; obtain ⟨-,⟨k0,k1,k2,k3⟩,k4,k5,k6,k7⟩:=aK; go_simp; (try (with_reducible rfl))⟩);refine tk 1 ?_;refine tk 3 ?_ (hy:=Or.inl ⟨by rfl,by intro w' aK; obtain ⟨-,⟨k0,k1,k2,k3⟩,k4,k5,k6,k7⟩:=aK; go_simp; (try (with_reducible rfl))⟩);refine tk 4 ?_;refine r_1 2 fun K hK=>?_
     go_simp
     go_at_call 21
     refine (Ha.out _ z0).mono ?_;rintro e w8 ⟨rfl,x8⟩;have z1:=z0.trans x8;refine k_t hK (Ah.out _ z1) fun hHeld=>?_
     clear hK K;refine r_1 5 fun K hK=>?_
     go_simp
     go_at_call 21
     refine (Qi.out _ _ _ (PB.out.ext z1)).mono ?_;rintro e w9 ⟨rfl,x9⟩;have z2:=z1.trans x9;refine k_t hK (Ah.out _ z2) fun hHeld=>?_
     clear hK K;refine tk 6 ?_;refine tk 7 ?_;refine w_d ?_;obtain ⟨-,-,k4,k5,k6,k7⟩:=hHeld;have Z2:=hid z2;have jU:=HRr.out.ext z2;have adK:=HRG.out;have adR:=HQD.out;have Nr:=HRZ.out;obtain ⟨D2,Bv⟩:=n_m (mdg l Q2);rw [Bv] at adK adR Nr ⊢;clear Bv z0 z1 z2 x8 x9 Ha;have adI:=hid Nr;have Hy:IntKind.i64.wrap (1 - 1)=0:=rfl;clear Nr;rcases (by omega:D2=-1\/D2=0) with rfl | rfl
     · have GG:=adI.out.1 rfl;have HF:Hid (gag (fun b=>w.heap.size<=b) [jaa l f g,zi l f g] w (.returned (.slice (some ⟨R,0,none⟩) 2 2)) w9):=hid (by
        rw [wL.out,Zm.out,GG]
        exact ⟨_,rfl,⟨_,_,rfl,by simp,by omega,fun _=>⟨R,rfl,mg,jU.mono fun b hb=>hb.1⟩⟩,XR.out.trans Z2.out⟩)
       clear k4 k5 k6 k7 jU GG;go_wp2_with fail;go_ret;exact HF.out
     · have zX:=jU.2.1;obtain ⟨R0,rn0,rc0,R1,rn1,rc1,⟨r0,r1,r2,r3⟩,-⟩:=jU.el 0 (by simp);have qA:PlV w9 (fun b=>(w.heap.size<=b)/\b ≠ R) Q2 (plV Q2 (.slice F0 AC AO) (.slice F1 Q2.cs.length AL)):=(PB.out.ext Z2.out).mono fun b hb=>hb.1
       have aU:=(jU.mono (q':=fun b=>w.heap.size<=b) fun b hb=>hb.1).set_ 0 (by simp) Q2 qA;simp only [Nat.zero_mul,Nat.zero_add,List.set_cons_zero,List.getElem_cons_zero] at r0 r1 r2 r3 aU;have f0:=zX 0;have f1:=zX 1;have f2:=zX 2;have f3:=zX 3;obtain ⟨V9,qF⟩:=n_m (((((w9.setCell ⟨R,0,none⟩ (.int .i64 Q2.lv)).setCell ⟨R,1,none⟩ (.bool Q2.neg)).setCell ⟨R,2,none⟩ (.slice F0 AC AO)).setCell ⟨R,3,none⟩ (.slice F1 Q2.cs.length AL)));rw [qF] at aU;have Qp:Ext w V9:=by rw [<- qF]; exact ((((XR.out.trans Z2.out).setCell mg _).setCell mg _).setCell mg _).setCell mg _
       have HF:Hid (∀ W',Ext V9 W'->gag (fun b=>w.heap.size<=b) [jaa l f g,zi l f g] w (.returned (.slice (some ⟨R,0,none⟩) 2 2)) W'):=hid (fun W' hx=>by
        rw [wL.out,Zm.out]
        exact ⟨_,rfl,⟨_,_,rfl,by simp,by omega,fun _=>⟨R,rfl,mg,aU.1.ext hx⟩⟩,Qp.trans hx⟩)
       have ak:o6 ≠ R:=by omega
       have k46:jb V9 o6 Q2 (.slice F0 AC AO) (.slice F1 Q2.cs.length AL):=by
        have kk:∀ j,V9.cell? ⟨o6,j,none⟩=w9.cell? ⟨o6,j,none⟩:=fun j=>World.cell?_of_block (by rw [<- qF]; exact zac _ _ _ _ _ _ _ ak)
        exact ⟨(kk 0).trans k4,(kk 1).trans k5,(kk 2).trans k6,(kk 3).trans k7⟩
       clear aU jU qA Qp;go_upto_region 8 with fail
       try rw [qF]
       obtain ⟨j4,j5,j6,j7⟩:=k46;clear qF k4 k5 k6 k7 r0 r1 r2 r3 f0 f1 f2 f3;go_wp2_with fail;go_ret;exact HF.out _ ((Ext.refl _).alloc _)
theorem yco {l:Int}:∀ (k:Int) (cs:List Pl),(∀ c ∈ cs,c.Can/\ug l c)->∀ c ∈ jai k cs,c.Can/\ug l c:=fun k cs h c hc=>by
 obtain ⟨d,hd,i,hi,rfl⟩:=waz hc;exact ⟨Pl.mul_can _ _,(h d hd).2.mul (ug.const l _)⟩
theorem wcu {l:Int} (hl:1<=l) (ag:l<=4) {p:Pl} (h:p.Can) (h0:0 < mdg l p):(qw l p).cfL l=jai 1 (p.cfL l).tail:=by
 unfold qw;rw [if_pos ⟨hl,ag⟩];have hn:p.cfL l ≠ []:=fun e=>by unfold mdg at h0; rw [e] at h0; simp at h0
 have dS:=xag (Pl.cfL_coefs hl ag h).last hn;have iD:∀ c ∈ jai 1 (p.cfL l).tail,c.Can/\ug l c:=yco 1 _ fun c hc=>⟨jah h c (uaj hc),uaa hl ag h c (uaj hc)⟩
 refine (Pl.cfL_coefs hl ag (uac l _)).uniq ⟨fun c hc=>(iD c hc).1,fun c hc=>(iD c hc).2,fun ρ=>(vac hl ag ρ _).symm,fun e=>?_⟩;obtain ⟨n,xG⟩:∃ n,(p.cfL l).length=n+2:=⟨(p.cfL l).length - 2,by unfold mdg at h0; omega⟩;have nH:(jai 1 (p.cfL l).tail).length=n+1:=by rw [qai,List.length_tail,xG]; rfl
 rw [List.getLast?_eq_getElem?,nH,Nat.add_sub_cancel,List.getElem?_eq_getElem (by omega)] at e;injection e with e
 rw [za0 1 _ n (by rw [List.length_tail]; omega) (by omega),List.getElem_tail] at e;rw [xG,List.getD_eq_getElem?_getD,show n+2 - 1=n+1 by omega,List.getElem?_eq_getElem (by omega)] at dS;rcases Pl.mul_zero (jah h _ (List.getElem_mem (by omega:n+1 < (p.cfL l).length))) (zq _) (fun ρ=>by rw [<- Pl.mul_val,e,Pl.zero_val]) with h1 | h1
 · exact dS h1
 · have h2:=Pl.const_val (fun _=>0) (1+(n:Int));rw [h1,Pl.zero_val] at h2;have h3:(1+(n:Int))=0:=by exact_mod_cast h2.symm
   omega
theorem ubz {l:Int} (hl:1<=l) (ag:l<=4) {p:Pl} (h:p.Can) (h0:0 < mdg l p):mdg l (qw l p)=mdg l p - 1:=by
 have h1:=wcu hl ag h h0;unfold mdg at h0 ⊢;rw [h1,qai,List.length_tail];omega
theorem kby {w:World} {q0 q1:Nat->Prop} {f g:Pl} {l:Int} {D:Nat} (v0 v1:Value) (hl:1<=l) (ag:l<=4) (h0:PlV w q0 f v0) (h1:PlV w q1 g v1) (hf:Fit f 2 D) (hg:Fit g 2 D) (hD:D<=10000000000) (rH:0<=mdg l f) (bI:0<=mdg l g):Calls Tryz.prog 72 #[v0,v1,.int .i64 l] w (uad (fun b=>w.heap.size<=b) (uj l f g) w):=by
 have IV:=yai (l:=l) hf.can hf.ex;have IL:=yai (l:=l) hg.can hg.ex
 by_cases hc:mdg l f=0\/mdg l g=0\/mdg l g=1\/mdg l f=1/\mdg l g=2
 · exact jby v0 v1 hl ag h0 h1 hf hg (by omega) (by omega) rH bI hc
 · obtain ⟨e1,e2⟩:mdg l f=2/\mdg l g=2:=by omega
   have hs:Fit (zi l f g) 10 (4 * D+10):=(gaj hl ag hf hg (by have:B32=4294967296:=rfl; omega)).mono (by omega) (by omega);have hr:=ya3 hl ag hf hg;have e:uj l f g=pcf l [jaa l f g,zi l f g]:=by
    rw [wck e1 e2];unfold pcf;simp [List.range_succ,ka0 hl ag wah (kbz hl ag wah (ubi hl ag hf.can hg.can))]
   rw [e];have iD:∀ c ∈ [jaa l f g,zi l f g],Fit c 24 (8 * D+40):=fun c hc=>by
    simp only [List.mem_cons,List.not_mem_nil,or_false] at hc;rcases hc with rfl | rfl
    · exact hr
    · exact hs.mono (by omega) (by omega)
   refine qa5 v0 v1 hl ag h0 h1 (E:=24) (D:=8 * D+40) (by omega) (by omega) (by simp) iD (hid fun W' hx=>ua4 v0 v1 hl ag (h0.ext hx) (h1.ext hx) hf hg (by omega) (by omega) (by omega) (by omega) (by omega) (by omega) (by simp) (fun c hc=>⟨(iD c hc).can,(iD c hc).copy_ (by omega),by have:=(iD c hc).dm; omega⟩) (hid (.inl ⟨by omega,fun W2 aN=>?_⟩)));rw [e1,e2];exact vce v0 v1 hl ag (h0.ext (hx.trans aN)) (h1.ext (hx.trans aN)) hf hg e1 e2 hD
theorem gay {l:Int} (hl:1<=l) (ag:l<=4) {f g:Pl} {D:Nat} (hf:Fit f 2 D) (hg:Fit g 2 D):(∀ c ∈ uj l f g,Fit c 24 (8 * D+40))/\(uj l f g).length<=2:=by
 have hB:B32=4294967296:=rfl;have hs:∀ {p q:Pl},Fit p 2 D->Fit q 2 D->Fit (zi l p q) 24 (8 * D+40):=fun hp hq=>(gaj hl ag hp hq (by omega)).mono (by omega) (by omega)
 unfold uj
 split
 · simp
 · split
   · exact ⟨fun c hc=>by rw [List.mem_singleton.1 hc]; exact xap (hs hf hg),by simp⟩
   · split
     · exact ⟨fun c hc=>by rw [List.mem_singleton.1 hc]; exact xap (hs hg hf),by simp⟩
     · refine ⟨fun c hc=>?_,by simp⟩;simp only [List.mem_cons,List.not_mem_nil,or_false] at hc;rcases hc with rfl | rfl
       · exact ya3 hl ag hf hg
       · exact xap (hs hf hg)
theorem vaa {l:Int} {fs:List Pl} {D:Nat} (eU:∀ f ∈ fs,Fit f 2 D) {f:Pl} (hf:f ∈ fs):∀ r ∈ yf l f,Fit r 2 (D+2)/\0 < mdg l r:=fun r hr=>by
 have hb:=yai (l:=l) (eU f hf).can (eU f hf).ex;obtain ⟨h1,h2⟩:=jbc (l:=l) (n:=(mdg l f).toNat) (eU f hf) (by have:B32=4294967296:=rfl; omega) r hr;exact ⟨h1.mono (Nat.le_refl _) (by omega),h2⟩
section
variable {l:Int} (hl:1<=l) (ag:l<=4) {fs:List Pl} {D:Nat} (eU:∀ f ∈ fs,Fit f 2 D)
include hl ag eU
theorem kca (hD:D<=1000000000):vbf l fs:=fun r s h=>by
 have hB:B32=4294967296:=rfl;obtain ⟨h1,h2,h3,h4⟩:Fit r 2 (D+4)/\Fit s 2 (D+4)/\0<=mdg l r/\0<=mdg l s:=by
  rcases h with ⟨f,hf,hr,rfl⟩ | ⟨i,j,hi,hj,-,hr,hs⟩
  · obtain ⟨h1,h2⟩:=vaa eU hf r hr;have:=ubz hl ag h1.can h2;exact ⟨h1.mono (Nat.le_refl _) (by omega),yak h1 (by omega),by omega,by omega⟩
  · obtain ⟨h1,h2⟩:=vaa eU (List.getElem_mem hi) r hr;obtain ⟨h3,h4⟩:=vaa eU (List.getElem_mem hj) s hs;exact ⟨h1.mono (Nat.le_refl _) (by omega),h3.mono (Nat.le_refl _) (by omega),by omega,by omega⟩
 refine ⟨by have:=(gay hl ag h1 h2).2; omega,fun W' v0 v1 q0 q1 k0 k1=>?_⟩;exact kby v0 v1 hl ag k0 k1 h1 h2 (by omega) h3 h4
theorem qa4:∀ p ∈ elems l fs,Fit p 24 (8 * D+100):=fun p hp=>by
 have hB:B32=4294967296:=rfl;have Rq:∀ {r s:Pl},Fit r 2 (D+4)->Fit s 2 (D+4)->∀ c ∈ uj l r s,Fit c 24 (8 * D+100):=fun hr hs c hc=>((gay hl ag hr hs).1 c hc).mono (Nat.le_refl _) (by omega)
 unfold elems at hp;rcases List.mem_append.1 hp with hp | hp
 · obtain ⟨f,hf,hp⟩:=List.mem_flatMap.1 hp;unfold zab at hp;rcases List.mem_append.1 hp with hp | hp
   · obtain ⟨r,hr,hp⟩:=List.mem_flatMap.1 hp;obtain ⟨h1,h2⟩:=vaa eU hf r hr;unfold xw at hp;rcases List.mem_cons.1 hp with rfl | hp
     · exact (vaf h1).mono (by omega) (by omega)
     · exact Rq (h1.mono (Nat.le_refl _) (by omega)) (yak h1 (by omega)) p hp
   · split at hp
     · cases hp
     · rename_i ak;rw [List.mem_singleton.1 hp];have hr0:0 < (yf l f).length:=by omega
       have hr:(yf l f).getD 0 Pl.zero ∈ yf l f:=by rw [List.getD_eq_getElem?_getD,List.getElem?_eq_getElem hr0]; exact List.getElem_mem _
       exact (xap (vaa eU hf _ hr).1).mono (by omega) (by omega)
 · unfold yas at hp;obtain ⟨i,hi,hp⟩:=List.mem_flatMap.1 hp;rw [List.mem_range] at hi;obtain ⟨L,hL,mY⟩:=List.mem_flatMap.1 hp;unfold prE at mY;obtain ⟨r,hr,vM⟩:=List.mem_flatMap.1 mY;obtain ⟨s,hs,KE⟩:=List.mem_flatMap.1 vM;have Pn:=List.mem_of_mem_drop hL;obtain ⟨g,hg,rfl⟩:=List.mem_map.1 Pn;have iJ:i < fs.length:=by rw [List.length_map] at hi; exact hi
   have Ba:r ∈ yf l fs[i]:=by
    have:(fs.map (yf l)).getD i []=yf l fs[i]:=by rw [List.getD_eq_getElem?_getD,List.getElem?_map,List.getElem?_eq_getElem iJ]; rfl
    rw [this] at hr; exact hr
   exact Rq ((vaa eU (List.getElem_mem iJ) r Ba).1.mono (Nat.le_refl _) (by omega)) ((vaa eU hg s hs).1.mono (Nat.le_refl _) (by omega)) p KE
theorem ybk:(elems l fs).length<=7 * fs.length+8 * (fs.length * fs.length):=by
 have key:∀ {α β:Type} (A:List α) (f:α->List β) (k:Nat),(∀ a ∈ A,(f a).length<=k)->(A.flatMap f).length<=A.length * k:=by
  intro α β A f k
  induction A with
  | nil=>intro _; simp
  | cons a r ih =>
    intro h;have h1:=h a List.mem_cons_self;have h2:=ih fun b hb=>h b (List.mem_cons_of_mem _ hb)
    rw [List.flatMap_cons,List.length_append,List.length_cons,Nat.succ_mul];omega
 have Kr:∀ f ∈ fs,(yf l f).length<=2:=fun f hf=>by
  have hb:=yai (l:=l) (eU f hf).can (eU f hf).ex;have:=wai (l:=l) (mdg l f).toNat f;unfold yf;omega
 have hB:B32=4294967296:=rfl;have h1:(fs.flatMap (zab l)).length<=fs.length * 7:=key _ _ _ fun f hf=>by
  unfold zab;rw [List.length_append];have h2:=key (yf l f) (xw l) 3 fun r hr=>by
   obtain ⟨k1,k2⟩:=vaa eU hf r hr;have:=(gay hl ag (k1.mono (Nat.le_refl _) (by omega):Fit r 2 (D+4)) (yak (l:=l) k1 (by omega))).2;unfold xw;rw [List.length_cons]; omega
  have h3:=Kr f hf;have h4:=Nat.mul_le_mul_right 3 h3
  split
  · rw [List.length_nil]; omega
  · rw [List.length_singleton]; omega
 have h2:(yas l (fs.map (yf l))).length<=fs.length * (fs.length * 8):=by
  unfold yas;have:=key (List.range (fs.map (yf l)).length) (fun i=>((fs.map (yf l)).drop (i+1)).flatMap (prE l ((fs.map (yf l)).getD i []))) (fs.length * 8) fun i hi=>by
   rw [List.mem_range,List.length_map] at hi;have h4:=key ((fs.map (yf l)).drop (i+1)) (prE l ((fs.map (yf l)).getD i [])) 8 fun L hL=>by
    obtain ⟨g,hg,rfl⟩:=List.mem_map.1 (List.mem_of_mem_drop hL);have e:(fs.map (yf l)).getD i []=yf l fs[i]:=by rw [List.getD_eq_getElem?_getD,List.getElem?_map,List.getElem?_eq_getElem hi]; rfl
    rw [e];unfold prE;have h5:=key (yf l fs[i]) (fun r=>(yf l g).flatMap fun s=>uj l r s) 4 fun r hr=>by
     have h6:=key (yf l g) (fun s=>uj l r s) 2 fun s hs=>(gay hl ag (vaa eU (List.getElem_mem hi) r hr).1 (vaa eU hg s hs).1).2
     have:=Kr g hg;have:=Nat.mul_le_mul_right 2 this;omega
    have:=Kr _ (List.getElem_mem hi);have:=Nat.mul_le_mul_right 4 this;omega
   have h5:((fs.map (yf l)).drop (i+1)).length<=fs.length:=by rw [List.length_drop,List.length_map]; omega
   have:=Nat.mul_le_mul_right 8 h5;omega
  rw [show (List.range (fs.map (yf l)).length).length=fs.length by rw [List.length_range,List.length_map]] at this;exact this
 unfold elems;rw [List.length_append];have:fs.length * (fs.length * 8)=8 * (fs.length * fs.length):=by rw [<- Nat.mul_assoc,Nat.mul_comm]
 omega
end
open Go.Shelf Go.Sort
theorem vck {acc:List Pl} {p x:Pl}:x ∈ putL acc p ↔ x ∈ acc\/(p.lv ≠ 0/\x=snP p):=by
 unfold putL
 split
 · rename_i h; simp [h]
 · rename_i h
   split
   · rename_i ha;obtain ⟨y,hy,e⟩:=List.any_eq_true.1 ha;have e:=gaw.1 e
     constructor
     · exact .inl
     · rintro (h1 | ⟨-,rfl⟩)
       · exact h1
       · rw [e]; exact hy
   · rw [List.mem_append,List.mem_singleton]; simp [h]
theorem ja3 {x : Pl} : ∀ {M acc : List Pl}, x ∈ putA acc M ↔ x ∈ acc \/ ∃ p ∈ M, p.lv ≠ 0 /\ x = snP p
 | [],acc=>by simp [putA]
 | p :: M,acc=>by
   have e:putA acc (p :: M)=putA (putL acc p) M:=rfl;rw [e,ja3 (M:=M),vck]
   constructor
   · rintro ((h | h) | ⟨y,hy,h⟩)
     · exact .inl h
     · exact .inr ⟨p,List.mem_cons_self,h⟩
     · exact .inr ⟨y,List.mem_cons_of_mem _ hy,h⟩
   · rintro (h | ⟨y,hy,h⟩)
     · exact .inl (.inl h)
     · rcases List.mem_cons.1 hy with rfl | hy
       · exact .inl (.inr h)
       · exact .inr ⟨y,hy,h⟩
theorem kcj {x:Pl} {l:Int} {fs:List Pl}:x ∈ fJ l fs ↔ ∃ p ∈ elems l fs,p.lv ≠ 0/\x=snP p:=by
 unfold fJ;rw [ja3]; simp
end Go.Proofs.YtklnlgnnlmdibaaGreat
