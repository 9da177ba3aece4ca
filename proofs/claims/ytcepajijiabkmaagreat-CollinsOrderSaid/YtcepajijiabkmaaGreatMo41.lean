/- Layer 25: descend where both degrees are 2. -/
import Derived.Test.YtcepajijiabkmaaGreatMo40
set_option linter.all false
set_option maxRecDepth 100000
set_option maxHeartbeats 8000000
namespace Go.Proofs.YtcepajijiabkmaaGreat
open Lib (hid)
open Go.RowKit
theorem Frr.Qf {V V7:World} {o g:Nat} {p:Pl} {s A:Value} (hf:Frr V o V7) (h:jb V g p s A) (hg:g < V.heap.size) (hn:g ≠ o):jb V7 g p s A:=⟨(hf.cell hg hn).trans h.1,(hf.cell hg hn).trans h.2.1,(hf.cell hg hn).trans h.2.2.1,(hf.cell hg hn).trans h.2.2.2⟩
def stM : Value -> Nat
 | .int _ _=>0
 | _=>1
structure ydi (w W : World) (g P : Pl) (o5 o6 : Nat) (wr : World) : Prop where
 ext:Ext W wr
 ne:o5 ≠ o6
 l5:W.heap.size<=o5
 l6:W.heap.size<=o6
 a:PBx wr (fun b=>b < w.heap.size) o5 g
 b:PBx wr (fun b=>W.heap.size<=b/\b ≠ o5) o6 P
structure zdi (w W : World) (o5 o6 R : Nat) (P Q2 : Pl) (wr : World) : Prop where
 ext:Ext w wr
 a:PBx wr (fun _=>True) o5 P
 b:PBx wr (fun b=>w.heap.size<=b/\b ≠ R) o6 Q2
 row:jh wr (fun b=>w.heap.size<=b/\b ≠ o6) R [Pl.zero,P]
theorem wcu {w:World} {q0 q1:Nat->Prop} {f g:Pl} {l:Int} {D:Nat} (v0 v1:Value) (hl:1<=l) (ag:l<=4) (h0:PlV w q0 f v0) (h1:PlV w q1 g v1) (hf:Fit f 2 D) (hg:Fit g 2 D) (lZ:mdg l f=2) (dR:mdg l g=2) (hD:D<=10000000000) :
 Calls Tryz.prog 158 #[v0,v1,.int .i64 l,.int .i64 2,.int .i64 2] w (uai (fun b=>w.heap.size<=b) [uab l f g,ji l f g] w):=by
 have H0:=hid h0;have H1:=hid h1;obtain ⟨A0,m0,e0,B0,f0,rfl,-⟩:=h0.open_;obtain ⟨A1,m1,e1,B1,f1,rfl,-⟩:=h1.open_;obtain ⟨Eo,W,gI,jH,iT,aC,bW,hx1,aX,bF⟩:=b_2 w f g (.slice A0 m0 e0) (.slice B0 f.cs.length f0) (.slice A1 m1 e1) (.slice B1 g.cs.length f1);have HX:=hid (aC.trans hx1);have dJ:=hid aX;have dH:=hid bF;have fZ:W.heap.size=w.heap.size+1+1:=bW;clear h0 h1 aC hx1 aX bF;have bI:g ≠ Pl.zero:=qah (l:=l) (by omega);have HL:=hid (fun (W':World) (hx:Ext w W')=>wam _ hl ag hg (by omega) (by omega) (H1.out.ext hx));have jV:(yl l g).pow 0=Pl.const 1:=Pl.qv (Pl.vo _ _) (qp _) fun ρ=>by rw [Pl.yW,Pl.qS]; simp
 have HP:=hid (fun (W':World) (q:Nat->Prop) (u:Value) (hu:PlV W' q (yl l g) u)=>jam (n:=0) u hu (yan (l:=l) hg) (by simp) (by simp; omega) (by omega));rw [show (0:Int).toNat=0 from rfl,jV] at HP;have HR:=hid (fun (W':World) (hx:Ext w W')=>xbf _ _ hl ag (H0.out.ext hx) (H1.out.ext hx) hf hg bI (by omega) (by omega));have o8:Fit (ji l f g) 10 (4 * D+10):=(zam hl ag hf hg (by have:B32=4294967296:=rfl; omega)).mono (by omega) (by omega);have PR:=hid (fun (W':World) (q:Nat->Prop) (u:Value) (hu:PlV W' q (ji l f g) u)=>xag (l:=l) u (qad l f g) (o8.copy_ (by omega)) (by have:=o8.dm; omega) hu);have HDA:=hid (fun (W':World) (q:Nat->Prop) (u:Value) (hu:PlV W' q g u)=>xag (l:=l) u hg.can (hg.copy_ (by omega)) (by have:=hg.dm; omega) hu);have nN:=hid dR;have EF:=hid (va3 hl ag hf.can hg.can bI);have ou:=hid (jb1 (l:=l) (ji l f g));have VN:=hid (uaw (l:=l) (qad l f g));have Vu:=hid o8;have EW:=ya8 hl ag hf hg;have PD:=hid EW;have Jv:=hid (fun (W':World) (q:Nat->Prop) (u:Value) (hu:PlV W' q (uab l f g) u)=>xag (l:=l) u gaj (EW.copy_ (by omega)) (by have:=EW.dm; omega) hu);have HRZ:=hid (uaw (l:=l) (gaj (l:=l) (f:=f) (g:=g)));have HRG:=hid (jb1 (l:=l) (uab l f g));have F8:=hid (fun h:ji l f g=Pl.zero=>vci (l:=l) h);have iy:=hid (fun h:mdg l (ji l f g)=0=>yb9 hl ag h);have YI:=hid (fun h:mdg l (ji l f g)=1=>ucq hl ag hf.can hg.can lZ dR h);have HQD:=hid (vce hl ag (gaj (l:=l) (f:=f) (g:=g)) (ybr hl ag hf.can hg.can));have DR:=hid hg;obtain ⟨P,hP⟩:=n_m (ji l f g);obtain ⟨Q2,hQ2⟩:=n_m (uab l f g);have Dy:=hid hP;have YA:=hid hQ2;rw [hQ2] at PD F8 iy YI HQD Jv HRZ HRG;rw [hP] at HR PR EF ou VN Vu F8 iy YI;clear hP hQ2;obtain ⟨Wm,dA,iL,RI,ae⟩:=xy 2 (by omega) (by omega) W;rw [show (2:Int).toNat=2 from rfl] at dA ae;rw [fZ] at dA ae;have zZ:=hid (HX.out.trans iL);have VO:=hid (ae (fun _=>False));obtain ⟨b0,b1,b2,b3⟩:=dH.out.ext iL (by omega);have Qu:IntKind.i64.wrap (2 - 2)=0:=rfl;clear bI o8 lZ dR hf hg ae jV EW;unfold plV at HL HR ⊢;go_enter Tryz.func158,Tryz.ntmps158;go_wp2_with fail;clear gI jH;clear dA b0 b1 b2 b3;refine (HL.out _ zZ.out).mono ?_;rintro e w3 ⟨v3,rfl,p3,x3⟩;have BP:=HP.out _ _ _ p3;have y3:Ext W w3:=iL.trans x3;have r3:=VO.out.ext x3;have hR3:w.heap.size+1+1 < w3.heap.size:=r3.1;clear x3 iL RI zZ VO HL HP p3;go_wp2_with fail;refine BP.mono ?_;rintro e w4 ⟨v4,rfl,p4,x4⟩;obtain ⟨S0,ML,MN,S1,MM,rfl,-⟩:=id p4.open_;have y4:=y3.trans x4;have r4:=r3.ext x4;clear x4 y3 r3 BP;obtain ⟨R,hR⟩:=n_m (w.heap.size+1+1);rw [hR] at r4 ⊢;have XK:R=W.heap.size:=by omega
 have mi:w.heap.size<=R:=by omega
 clear hR;obtain ⟨one,jV⟩:=n_m (Pl.const 1);rw [jV] at p4 ⊢;have zY:=hid jV;clear jV;unfold plV;obtain ⟨Wp,xA⟩:=n_m ((w4.alloc (.cells #[.int .i64 one.lv,.bool one.neg,.slice S0 ML MN,.slice S1 one.cs.length MM] 33)));have yp:Ext W Wp:=by rw [<- xA]; exact y4.alloc _
 have rp:=r4.ext (by rw [<- xA]; exact (Ext.refl w4).alloc _:Ext w4 Wp);have sp:jb Wp w4.heap.size one (.slice S0 ML MN) (.slice S1 one.cs.length MM):=by rw [<- xA]; exact jb.new w4 one _ _ _
 have Zo:PlV Wp (fun b=>R < b/\b < w4.heap.size) one _:=(p4.xo.ext (by rw [<- xA]; exact (Ext.refl w4).alloc _:Ext w4 Wp)).mono fun b hb=>by omega
 obtain ⟨os,Kv⟩:=n_m (w4.heap.size);have Ku:os < Wp.heap.size:=by rw [<- Kv,<- xA]; simp
 have o8:∀ i,Wp.frozen? ⟨os,i,none⟩=false:=fun i=>by rw [<- xA,<- Kv]; simp [go_sem]
 have aai:W.heap.size<=os:=by rw [<- Kv]; exact y4.size
 have ajV:R < os:=by rw [<- Kv]; exact r4.1
 rw [Kv] at sp Zo;have Et:=hid (And.intro sp Zo);clear y4 r4 p4;have WE:=hid (dJ.out.ext yp (by omega));have WC:=hid (dH.out.ext yp (by omega));have HX':=hid (HX.out.trans yp);have aix:w.heap.size+1 < Wp.heap.size:=by have:=yp.size; omega
 clear dJ dH HX XK yp sp Zo;obtain ⟨W0,rfl⟩:∃ W0,W0=W:=⟨W,rfl⟩;obtain ⟨W,rfl⟩:∃ W,W=Wp:=⟨Wp,rfl⟩;have HX:=HX';have dJ:=WE;have dH:=WC;have wR:w.heap.size<=os:=by omega
 have gZ:=rp.1;clear HX' WE WC;have aH:Hid (∀ W',Ext W W'->(Ext W W'/\(jb W' (w.heap.size) f (.slice A0 m0 e0) (.slice B0 f.cs.length f0))/\(jb W' (w.heap.size+1) g (.slice A1 m1 e1) (.slice B1 g.cs.length f1)))):=hid (fun W' hx=>⟨hx,dJ.out.ext hx (by omega),dH.out.ext hx (by omega)⟩);go_upto_region 3 with fail
 try rw [Kv]
 clear Kv xA fZ iT bW aai;have y0:Ext W W.drew:=(Ext.refl W).drew;have WR:=HX.out.size
 go_cut [13,14] from 29 to 33 (fun s13 s14 wc=>∃ o5 o6,s13=.pointer (some ⟨o5,0,none⟩)/\s14=.pointer (some ⟨o6,0,none⟩)/\Hid (ydi w W g P o5 o6 wc))
 case first =>
  refine wp_region_held_drew (S:=fun W'=>Ext W W'/\(jb W' (w.heap.size) f (.slice A0 m0 e0) (.slice B0 f.cs.length f0))/\(jb W' (w.heap.size+1) g (.slice A1 m1 e1) (.slice B1 g.cs.length f1))) (by kernel_rfl) (aH.out _ y0) (fun hHeld=>?_);refine tk 0 ?_ (hy:=Or.inl ⟨by rfl,by intro w' aO; obtain ⟨-,⟨k0,k1,k2,k3⟩,k4,k5,k6,k7⟩:=aO; go_simp; (try (with_reducible rfl))⟩);refine tk 1 ?_ (hy:=Or.inl ⟨by rfl,by intro w' aO; obtain ⟨-,⟨k0,k1,k2,k3⟩,k4,k5,k6,k7⟩:=aO; go_simp; (try (with_reducible rfl))⟩);refine tk 2 ?_ (hy:=Or.inl ⟨by rfl,by intro w' aO; obtain ⟨-,⟨k0,k1,k2,k3⟩,k4,k5,k6,k7⟩:=aO; go_simp; (try (with_reducible rfl))⟩);refine tk 3 ?_;refine wpAnyH_ready (rs:=[4,5,6]) (by kernel_rfl) (by simp) ?_;refine sC rfl (fun K hK=>?cx4) (sC rfl (fun K hK=>?cx5) (sC rfl (fun K hK=>?cx6) ue))
  case' cx4 =>
   go_simp
   go_at_call 160
   refine (HR.out _ (HX.out.trans y0)).mono ?_;rintro e w5 ⟨v5,rfl,aU,x5⟩;have yr:=y0.trans x5;obtain ⟨D0,j2,k2,D1,k3,rfl,-⟩:=id aU.open_;unfold plV;refine k_t hK (aH.out _ yr) fun hHeld=>?_
   clear hK K;have aU:PlV w5 (fun b=>W.heap.size<=b) P _:=aU.mono fun b hb=>by have:=y0.size; omega
   refine r_2 5 6 (fun K hK=>?c4x5) fun K hK=>?c4x6
   case' c4x5 =>
    go_simp;obtain ⟨V5,o5,hV,ho,bU,iQ,iD,kQ,aZ,dM⟩:=z_b yr
    try rw [hV]
    try rw [ho]
    refine k_t hK (aH.out _ iQ) fun hHeld=>?_
    clear hK K hV ho;have fM:=bU.1;have aU:PlV V5 (fun b=>W.heap.size<=b/\b ≠ o5) P _:=(aU.xo.ext dM).mono fun b hb=>by have:=hb.1; have:=hb.2; have:=aZ.out; omega
    refine r_1 6 fun K hK=>?_
    go_simp;obtain ⟨V6,o6,hV,ho,bM,iP,iC,kP,aY,dL⟩:=z_b iQ
    try rw [hV]
    try rw [ho]
    refine k_t hK (aH.out _ iP) fun hHeld=>?_
    clear hK K hV ho;have fK:=bM.1;have bg:o5 ≠ o6:=by have:=aY.out; have:=bU.1; omega
    have bU:=bU.ext dL;have fM:=bU.1;have aU:PlV V6 (fun b=>W.heap.size<=b/\b ≠ o5/\b ≠ o6) P _:=(aU.xo.ext dL).mono fun b hb=>by have:=hb.1; have:=hb.2; have:=aY.out; omega
    have yE:=iP;have fO:=bU;have jT:=bM;have lu:=aU;have fU:o5 ≠ o6:=bg
   case' c4x6 =>
    go_simp;obtain ⟨V6,o6,hV,ho,bM,iP,iC,kP,aY,dL⟩:=z_b yr
    try rw [hV]
    try rw [ho]
    refine k_t hK (aH.out _ iP) fun hHeld=>?_
    clear hK K hV ho;have fK:=bM.1;have aU:PlV V6 (fun b=>W.heap.size<=b/\b ≠ o6) P _:=(aU.xo.ext dL).mono fun b hb=>by have:=hb.1; have:=hb.2; have:=aY.out; omega
    refine r_1 5 fun K hK=>?_
    go_simp;obtain ⟨V5,o5,hV,ho,bU,iQ,iD,kQ,aZ,dM⟩:=z_b iP
    try rw [hV]
    try rw [ho]
    refine k_t hK (aH.out _ iQ) fun hHeld=>?_
    clear hK K hV ho;have fM:=bU.1;have bg:o5 ≠ o6:=by have:=aZ.out; have:=bM.1; omega
    have bM:=bM.ext dM;have fK:=bM.1;have aU:PlV V5 (fun b=>W.heap.size<=b/\b ≠ o5/\b ≠ o6) P _:=(aU.xo.ext dM).mono fun b hb=>by have:=hb.1; have:=hb.2; have:=aZ.out; omega
    have yE:=iQ;have fO:=bU;have jT:=bM;have lu:=aU;have fU:o5 ≠ o6:=bg
  case' cx5 =>
   go_simp;obtain ⟨V5,o5,hV,ho,bU,iQ,iD,kQ,aZ,dM⟩:=z_d (Ext.refl W)
   try rw [hV]
   try rw [ho]
   refine k_t hK (aH.out _ iQ) fun hHeld=>?_
   clear hK K hV ho;have fM:=bU.1;refine r_2 4 6 (fun K hK=>?c5x4) fun K hK=>?c5x6
   case' c5x4 =>
    go_simp
    go_at_call 160
    refine (HR.out _ (HX.out.trans iQ)).mono ?_;rintro e w5 ⟨v5,rfl,aU,x5⟩;have yr:=iQ.trans x5;obtain ⟨D0,j2,k2,D1,k3,rfl,-⟩:=id aU.open_;unfold plV;refine k_t hK (aH.out _ yr) fun hHeld=>?_
    clear hK K;have bU:=bU.ext x5;have aU:PlV w5 (fun b=>W.heap.size<=b/\b ≠ o5) P _:=aU.mono fun b hb=>by have:=iQ.size; have:=fM; omega
    refine r_1 6 fun K hK=>?_
    go_simp;obtain ⟨V6,o6,hV,ho,bM,iP,iC,kP,aY,dL⟩:=z_b yr
    try rw [hV]
    try rw [ho]
    refine k_t hK (aH.out _ iP) fun hHeld=>?_
    clear hK K hV ho;have fK:=bM.1;have bg:o5 ≠ o6:=by have:=aY.out; have:=bU.1; omega
    have bU:=bU.ext dL;have fM:=bU.1;have aU:PlV V6 (fun b=>W.heap.size<=b/\b ≠ o5/\b ≠ o6) P _:=(aU.xo.ext dL).mono fun b hb=>by have:=hb.1; have:=hb.2; have:=aY.out; omega
    have yE:=iP;have fO:=bU;have jT:=bM;have lu:=aU;have fU:o5 ≠ o6:=bg
   case' c5x6 =>
    go_simp;obtain ⟨V6,o6,hV,ho,bM,iP,iC,kP,aY,dL⟩:=z_b iQ
    try rw [hV]
    try rw [ho]
    refine k_t hK (aH.out _ iP) fun hHeld=>?_
    clear hK K hV ho;have fK:=bM.1;have bg:o5 ≠ o6:=by have:=aY.out; have:=bU.1; omega
    have bU:=bU.ext dL;have fM:=bU.1;refine r_1 4 fun K hK=>?_
    go_simp
    go_at_call 160
    refine (HR.out _ (HX.out.trans iP)).mono ?_;rintro e w5 ⟨v5,rfl,aU,x5⟩;have yr:=iP.trans x5;obtain ⟨D0,j2,k2,D1,k3,rfl,-⟩:=id aU.open_;unfold plV;refine k_t hK (aH.out _ yr) fun hHeld=>?_
    clear hK K;have bU:=bU.ext x5;have bM:=bM.ext x5;have aU:PlV w5 (fun b=>W.heap.size<=b/\b ≠ o5/\b ≠ o6) P _:=aU.mono fun b hb=>by have:=iP.size; have:=fM; have:=fK; omega
    have yE:=yr;have fO:=bU;have jT:=bM;have lu:=aU;have fU:o5 ≠ o6:=bg
  case' cx6 =>
   go_simp;obtain ⟨V6,o6,hV,ho,bM,iP,iC,kP,aY,dL⟩:=z_d (Ext.refl W)
   try rw [hV]
   try rw [ho]
   refine k_t hK (aH.out _ iP) fun hHeld=>?_
   clear hK K hV ho;have fK:=bM.1;refine r_2 4 5 (fun K hK=>?c6x4) fun K hK=>?c6x5
   case' c6x4 =>
    go_simp
    go_at_call 160
    refine (HR.out _ (HX.out.trans iP)).mono ?_;rintro e w5 ⟨v5,rfl,aU,x5⟩;have yr:=iP.trans x5;obtain ⟨D0,j2,k2,D1,k3,rfl,-⟩:=id aU.open_;unfold plV;refine k_t hK (aH.out _ yr) fun hHeld=>?_
    clear hK K;have bM:=bM.ext x5;have aU:PlV w5 (fun b=>W.heap.size<=b/\b ≠ o6) P _:=aU.mono fun b hb=>by have:=iP.size; have:=fK; omega
    refine r_1 5 fun K hK=>?_
    go_simp;obtain ⟨V5,o5,hV,ho,bU,iQ,iD,kQ,aZ,dM⟩:=z_b yr
    try rw [hV]
    try rw [ho]
    refine k_t hK (aH.out _ iQ) fun hHeld=>?_
    clear hK K hV ho;have fM:=bU.1;have bg:o5 ≠ o6:=by have:=aZ.out; have:=bM.1; omega
    have bM:=bM.ext dM;have fK:=bM.1;have aU:PlV V5 (fun b=>W.heap.size<=b/\b ≠ o5/\b ≠ o6) P _:=(aU.xo.ext dM).mono fun b hb=>by have:=hb.1; have:=hb.2; have:=aZ.out; omega
    have yE:=iQ;have fO:=bU;have jT:=bM;have lu:=aU;have fU:o5 ≠ o6:=bg
   case' c6x5 =>
    go_simp;obtain ⟨V5,o5,hV,ho,bU,iQ,iD,kQ,aZ,dM⟩:=z_b iP
    try rw [hV]
    try rw [ho]
    refine k_t hK (aH.out _ iQ) fun hHeld=>?_
    clear hK K hV ho;have fM:=bU.1;have bg:o5 ≠ o6:=by have:=aZ.out; have:=bM.1; omega
    have bM:=bM.ext dM;have fK:=bM.1;refine r_1 4 fun K hK=>?_
    go_simp
    go_at_call 160
    refine (HR.out _ (HX.out.trans iQ)).mono ?_;rintro e w5 ⟨v5,rfl,aU,x5⟩;have yr:=iQ.trans x5;obtain ⟨D0,j2,k2,D1,k3,rfl,-⟩:=id aU.open_;unfold plV;refine k_t hK (aH.out _ yr) fun hHeld=>?_
    clear hK K;have bU:=bU.ext x5;have bM:=bM.ext x5;have aU:PlV w5 (fun b=>W.heap.size<=b/\b ≠ o5/\b ≠ o6) P _:=aU.mono fun b hb=>by have:=iQ.size; have:=fM; have:=fK; omega
    have yE:=yr;have fO:=bU;have jT:=bM;have lu:=aU;have fU:o5 ≠ o6:=bg
  all_goals
   have Le:=fO.2.1;obtain ⟨Z0,zn,zc,Z1,vZ,⟨g0,g1,g2,g3⟩,-⟩:=fO.2.2;have TC:PlV _ (fun b=>b < w.heap.size) g (plV g (.slice A1 m1 e1) (.slice B1 g.cs.length f1)):=(H1.out.xo.mono fun b hb=>hb.2).ext (HX.out.trans yE);refine r_1 7 fun K hK=>?_
   go_simp;clear g0 g1 g2 g3 Le;have tJ:=fO.Vn g.lv g.neg A1 B1 m1 e1 g.cs.length f1;refine xw (P:=fun V7=>Ext W V7/\PBx V7 (fun b=>b < w.heap.size) o5 g/\PBx V7 (fun _=>False) o6 Pl.zero/\PlV V7 (fun b=>W.heap.size<=b/\b ≠ o5/\b ≠ o6) P _) ⟨(((yE.setCell iD _).setCell iD _).setCell iD _).setCell iD _,fO.store (TC.mono fun b hb=>⟨hb,by omega⟩),tJ.Kd jT fU.symm (fun b hb=>hb.elim),(tJ.pl lu (fun b hb=>by (try dsimp only at hb); omega)).mono (fun b hb=>by (try dsimp only at hb); refine ⟨?_,?_,?_⟩ <;> omega)⟩ (fun V7 mg=>?_);obtain ⟨y7,Ut,zD,EZ⟩:=mg;refine k_t hK (aH.out _ y7) fun hHeld=>?_
   clear hK K;have Ld:=zD.2.1;obtain ⟨Z2,Ze,DY,Z3,Zf,⟨g0,g1,g2,g3⟩,-⟩:=zD.2.2;refine r_1 8 fun K hK=>?_
   go_simp;clear g0 g1 g2 g3 Ld;have zS:=zD.Vn P.lv P.neg D0 D1 j2 k2 P.cs.length k3;refine xw (P:=fun V8=>Ext W V8/\PBx V8 (fun b=>b < w.heap.size) o5 g/\PBx V8 (fun b=>W.heap.size<=b/\b ≠ o5) o6 P) ⟨(((y7.setCell iC _).setCell iC _).setCell iC _).setCell iC _,zS.Kd Ut fU (fun b hb=>by omega),zD.store (EZ.mono fun b hb=>⟨⟨hb.1,hb.2.1⟩,hb.2.2⟩)⟩ (fun V8 qU=>?_);obtain ⟨y8,IB,AV⟩:=qU;refine hK.out _ _ (aH.out _ y8) (fun hHeld=>?_);clear hK K;refine w_d ?_;have YU:Hid (ydi w W g P o5 o6 V8):=hid ⟨y8,fU,iD,iC,IB,AV⟩;clear IB AV y8 fU zS tJ Ut zD EZ y7 fO jT lu yE TC Z0 zn zc Z1 vZ Z2 Ze DY Z3 Zf;go_wp2_with fail
   go_meet
   exact ⟨_,_,rfl,rfl,YU⟩
 case rest =>
  obtain ⟨o5,o6,rfl,rfl,YU⟩:=hcut;obtain ⟨V8,rfl⟩:∃ V8,V8=wc:=⟨wc,rfl⟩;obtain ⟨y8,fU,iD,iC,IB,AV⟩:=YU.out;have Y6:=hid IB;have PU:=hid AV;have HR8:=hid (rp.ext y8);have Yy:Hid (jb V8 os one (.slice S0 ML MN) (.slice S1 one.cs.length MM)/\PlV V8 (fun b=>R < b/\b < os) one (plV one (.slice S0 ML MN) (.slice S1 one.cs.length MM))/\os < V8.heap.size/\∀ i,V8.frozen? ⟨os,i,none⟩=false):=hid ⟨Et.out.1.ext y8 Ku,Et.out.2.ext y8,px Ku y8.size,fun i=>(y8.frozen (p:=⟨os,i,none⟩) Ku).trans (o8 i)⟩;have Y8:=hid y8;have Af:=EF.out;rw [nN.out] at Af;clear IB AV y8 o8 YU;obtain ⟨G2,IX⟩:=n_m (yl l g);rw [IX] at YI;have HGG:=hid IX;clear IX;go_wp2_with fail
  go_loopw [15] (fun u wr=>(u=undef/\wr=V8)\/(u=.int .i64 2/\Hid (mdg l P=1/\zdi w W o5 o6 R P Q2 wr))) (fun u _=>stM u)
  case atStart=>exact .inl ⟨rfl,rfl⟩
  case round =>
   rcases hrel with ⟨rfl,rfl⟩ | ⟨rfl,HI⟩
   · obtain ⟨BX,Le,E0,NU,NW,E1,NV,ba,pa⟩:=Y6.out;obtain ⟨Ht,Ld,F0,Ag,Ai,F1,Ah,bb,pb⟩:=PU.out;obtain ⟨bs,ps,Q4,lC⟩:=Yy.out;have PA:=hid pa;have PB:=hid pb;have Gu:=hid (fun (W':World) (hx:Ext wr W')=>HDA.out W' _ _ (pa.ext hx));rw [nN.out] at Gu;have zV:Hid (∀ W',Ext wr W'->(Ext wr W'/\jb W' o5 g (.slice E0 NU NW) (.slice E1 g.cs.length NV)/\jb W' o6 P (.slice F0 Ag Ai) (.slice F1 P.cs.length Ah))):=hid (fun W' hx=>⟨hx,ba.ext hx BX,bb.ext hx Ht⟩);have z0:Ext wr wr.drew:=(Ext.refl wr).drew;clear ba bb pa pb bs ps lC Le Ld;unfold plV at Gu;go_upto_region 4 with fail;refine wp_region_held_drew (S:=fun W'=>Ext wr W'/\jb W' o5 g (.slice E0 NU NW) (.slice E1 g.cs.length NV)/\jb W' o6 P (.slice F0 Ag Ai) (.slice F1 P.cs.length Ah)) (by kernel_rfl) (zV.out _ z0) (fun hHeld=>?_);refine tk 0 ?_ (hy:=Or.inl ⟨by rfl,by intro w' aO; obtain ⟨-,⟨k0,k1,k2,k3⟩,k4,k5,k6,k7⟩:=aO; go_simp; (try (with_reducible rfl))⟩);refine tk 1 ?_;refine tk 3 ?_ (hy:=Or.inl ⟨by rfl,by intro w' aO; obtain ⟨-,⟨k0,k1,k2,k3⟩,k4,k5,k6,k7⟩:=aO; go_simp; (try (with_reducible rfl))⟩);refine tk 4 ?_;refine r_1 2 fun K hK=>?_
     go_simp
     go_at_call 109
     refine (Gu.out _ z0).mono ?_;rintro e w8 ⟨rfl,x8⟩;have z1:=z0.trans x8;refine k_t hK (zV.out _ z1) fun hHeld=>?_
     clear hK K;refine r_1 5 fun K hK=>?_
     go_simp
     go_at_call 109
     refine (PR.out _ _ _ (PB.out.ext z1)).mono ?_;rintro e w9 ⟨rfl,x9⟩;have z2:=z1.trans x9;refine k_t hK (zV.out _ z2) fun hHeld=>?_
     clear hK K;refine tk 6 ?_;refine tk 7 ?_;refine w_d ?_;have Z2:=hid z2;have Ym:=hid hHeld.2;have jI:=HR8.out.ext z2;have adv:=ou.out;have adA:=Af;have Nq:=VN.out;have NK:=iy.out;have Nv:=YI.out;obtain ⟨D1,MF⟩:=n_m (mdg l P);rw [MF] at adv adA Nq NK Nv ⊢;have Bf:=hid MF;have adi:=hid Nq;have adF:=hid NK;have adm:=hid Nv;clear MF z0 z1 z2 x8 x9 Gu hHeld Nq NK Nv;have XD:Ext w wr:=HX.out.trans Y8.out;have hLf:=yan (l:=l) Vu.out;have XX:Fit G2 2 D:=by rw [<- HGG.out]; exact yan (l:=l) DR.out
     have XM:Fit one 0 1:=by rw [<- zY.out]; exact Fit.const (by decide)
     have hOc:one.Can:=by rw [<- zY.out]; exact qp 1
     have hO1:one.pow 1=one:=Pl.qv (Pl.vo _ _) hOc fun ρ=>by rw [Pl.yW]; grind
     have hO2:∀ p:Pl,p.Can->one.mul p=p:=fun p hp=>Pl.qv (Pl.q9 _ _) hp fun ρ=>by rw [Pl.qD,<- zY.out,Pl.qS]; grind
     have hO0:one ≠ Pl.zero:=fun e=>by
      have h2:=Pl.qS (fun _=>0) 1;rw [zY.out,e,Pl.qt] at h2;exact absurd h2 (by decide)
     have YK:=hid (fun (W':World) (q:Nat->Prop) (u:Value) (hu:PlV W' q P u)=>wam u hl ag Vu.out (by omega) (by omega) hu);have Yr:=hid (fun (W':World) (q:Nat->Prop) (u:Value) (hu:PlV W' q (yl l P) u)=>jam (n:=1) u hu hLf (by simp) (by simp; omega) (by omega));rw [show (1:Int).toNat=1 from rfl] at Yr;have PG:=hid (fun (W':World) (qa qb:Nat->Prop) (u v:Value) (hu:PlV W' qa ((yl l P).pow 1) u) (hv:PlV W' qb P v)=>kam u v hu hv (hLf.pow 1) Vu.out (by omega) (by omega));have VJ:=hid (fun (W':World) (q:Nat->Prop) (u:Value) (hu:PlV W' q one u)=>jam (n:=1) u hu XM (by simp) (by simp) (by omega));rw [show (1:Int).toNat=1 from rfl,hO1] at VJ;have HQ1:=hid (fun (W':World) (qa qb:Nat->Prop) (u v:Value) (hu:PlV W' qa Q2 u) (hv:PlV W' qb one v)=>jcd u v hu hv (hO2 Q2 PD.out.can).symm XM PD.out hO0 (by omega) (by omega));have YH:=hid (fun (W':World) (q:Nat->Prop) (u:Value) (hu:PlV W' q g u)=>wam u hl ag DR.out (by omega) (by omega) hu);rw [HGG.out] at YH;have VL:=hid (fun (W':World) (qa qb:Nat->Prop) (u v:Value) (hu:PlV W' qa one u) (hv:PlV W' qb G2 v)=>kam u v hu hv XM XX (by omega) (by omega));rw [hO2 G2 XX.can] at VL;have hGz:g ≠ Pl.zero:=qah (l:=l) (by have:=nN.out; omega);have UM:G2 ≠ Pl.zero:=by
      rw [<- HGG.out]; unfold yl;exact yai (Pl.q8 hl ag DR.out.can).last (jaf hl ag DR.out.can hGz)
     have HRm:=hid (fun (hP0:P ≠ Pl.zero) (W':World) (qa qb:Nat->Prop) (u v:Value) (hu:PlV W' qa g u) (hv:PlV W' qb P v)=>xbf u v hl ag hu hv DR.out Vu.out hP0 (by omega) (by omega));have HQ2:=hid (fun (W':World) (qa qb:Nat->Prop) (u v:Value) (hu:PlV W' qa (G2.mul Q2) u) (hv:PlV W' qb G2 v)=>jcd u v hu hv rfl XX PD.out UM (by omega) (by omega));clear hLf XX XM hOc hO1 hO2 hO0 hGz UM
     by_cases hDm:D1=-1
     · subst hDm;have Gi:=adi.out.1 rfl;have HF:Hid (uai (fun b=>w.heap.size<=b) [uab l f g,ji l f g] w (.returned (.slice (some ⟨R,0,none⟩) 2 2)) w9):=hid (by
        rw [Dy.out,YA.out,F8.out Gi,Gi]
        exact ⟨_,rfl,⟨_,_,rfl,by simp,by omega,fun _=>⟨R,rfl,mi,jI.mono fun b hb=>hb.elim⟩⟩,XD.trans Z2.out⟩)
       clear jI Gi XD Ym;go_wp2_with fail;go_ret;exact HF.out
     have hD0:¬ D1 < 0:=by omega
     have zM:=jI.2.1;obtain ⟨R0,rn0,rc0,R1,rn1,rc1,⟨r0,r1,r2,r3⟩,-⟩:=jI.el 1 (by simp);simp only [tr,Nat.reduceAdd] at r0 r1 r2 r3;have f0:=zM 4;have f1:=zM 5;have f2:=zM 6;have f3:=zM 7;obtain ⟨V9,qE⟩:=n_m (((((w9.setCell ⟨R,4,none⟩ (.int .i64 P.lv)).setCell ⟨R,5,none⟩ (.bool P.neg)).setCell ⟨R,6,none⟩ (.slice F0 Ag Ai)).setCell ⟨R,7,none⟩ (.slice F1 P.cs.length Ah)));obtain ⟨x9w,zQ,-,Qd⟩:=Frr.put (w0:=w) (ws:=w9) (j:=1) (x:=P) (XD.trans Z2.out) (Frr.refl w9 R) (jI.mono (q':=fun b=>w.heap.size<=b/\b ≠ o5/\b ≠ o6/\b ≠ os/\b < wr.heap.size) fun b hb=>hb.elim) mi (by simp) ((PB.out.xo.ext Z2.out).mono fun b hb=>by
      obtain ⟨⟨⟨h1,h2⟩,h3⟩,h4⟩:=hb
      exact ⟨⟨by omega,h2,h3,by omega,h4⟩,by omega⟩) qE.symm
     have abz:V9.heap.size=w9.heap.size:=by rw [<- qE]; simp [World.setCell]
     have hZs:=Z2.out.size;have ZH:=Y8.out.size;have Rw:o5 ≠ R:=by omega
     have Ru:o6 ≠ R:=by omega
     have Rt:os ≠ R:=by omega
     have B5:Hid (jb V9 o5 g (.slice E0 NU NW) (.slice E1 g.cs.length NV)):=hid (zQ.Qf Ym.out.1 (by omega) Rw);have B6:Hid (jb V9 o6 P (.slice F0 Ag Ai) (.slice F1 P.cs.length Ah)):=hid (zQ.Qf Ym.out.2 (by omega) Ru);have BS:Hid (jb V9 os one (.slice S0 ML MN) (.slice S1 one.cs.length MM)):=hid (zQ.Qf (Yy.out.1.ext Z2.out Q4) (by omega) Rt);have P5:=hid (zQ.pl (PA.out.ext Z2.out) (fun b hb=>by have:=hb.1; omega));have P6:Hid (PlV V9 (fun b=>w.heap.size<=b/\b ≠ R/\b ≠ o5/\b ≠ o6/\b ≠ os/\b < V9.heap.size) P (plV P (.slice F0 Ag Ai) (.slice F1 P.cs.length Ah))):=hid ((zQ.pl (PB.out.xo.ext Z2.out) (fun b hb=>by have:=hb.1.1.1; omega)).mono fun b hb=>by
      obtain ⟨⟨⟨h1,h2⟩,h3⟩,h4⟩:=hb
      refine ⟨?_,?_,?_,?_,?_,?_⟩ <;> omega)
     have PS:=hid (zQ.pl (Yy.out.2.1.ext Z2.out) (fun b hb=>by have:=hb.1; omega));have HR9:=hid Qd;have X9:=hid x9w;have CY:∀ i,V9.frozen? ⟨o5,i,none⟩=false:=fun i=>(sP (a:=⟨o5,i,none⟩) (zQ.block o5 (by omega) Rw)).trans ((Z2.out.frozen (p:=⟨o5,i,none⟩) BX).trans (Y6.out.2.1 i))
     have hF6:∀ i,V9.frozen? ⟨o6,i,none⟩=false:=fun i=>(sP (a:=⟨o6,i,none⟩) (zQ.block o6 (by omega) Ru)).trans ((Z2.out.frozen (p:=⟨o6,i,none⟩) Ht).trans (PU.out.2.1 i))
     have MC:∀ i,V9.frozen? ⟨os,i,none⟩=false:=fun i=>(sP (a:=⟨os,i,none⟩) (zQ.block os (by omega) Rt)).trans ((Z2.out.frozen (p:=⟨os,i,none⟩) Q4).trans (Yy.out.2.2.2 i))
     have HFZ:=hid (And.intro CY (And.intro hF6 MC));have Ed:o5 < V9.heap.size:=by omega
     have Fv:o6 < V9.heap.size:=by omega
     have Xo:os < V9.heap.size:=by omega
     obtain ⟨kb0,kb1,kb2,kb3⟩:=Ym.out.2;obtain ⟨xY,Fh⟩:=n_m (V9.heap.size);obtain ⟨nM,zJ⟩:=n_m (V9.alloc (.cells #[.int .i64 P.lv,.bool P.neg,.slice F0 Ag Ai,.slice F1 P.cs.length Ah] 33));have x10:Ext V9 nM:=by rw [<- zJ]; exact (Ext.refl V9).alloc _
     have Ql:PBx nM (fun b=>w.heap.size<=b/\b ≠ R/\b ≠ o5/\b ≠ o6/\b ≠ os) xY P:=by rw [<- zJ,<- Fh]; exact PBx.new (P6.out.mono fun b hb=>⟨hb.1,hb.2.1,hb.2.2.1,hb.2.2.2.1,hb.2.2.2.2.1⟩) _
     have rU:V9.heap.size<=xY:=by rw [Fh]; exact pj _
     have Dh:=hid x10;have U8:=hid Ql;have aiw:=X9.out.size;clear jI XD x9w zQ Qd abz hZs ZH CY hF6 MC x10 Ql;have aii:IntKind.i64.wrap (2 - 1)=1:=rfl;go_upto_region 8 with fail
     try rw [qE]
     obtain ⟨k60,k61,k62,k63⟩:=B6.out;clear qE r0 r1 r2 r3 f0 f1 f2 f3 kb0 kb1 kb2 kb3;rcases (by omega:D1=0\/D1=1) with rfl | rfl
     · rw [adF.out rfl] at PG;have Pv:Hid (∀ W',Ext V9 W'->(jb W' o6 P (.slice F0 Ag Ai) (.slice F1 P.cs.length Ah)/\jb W' os one (.slice S0 ML MN) (.slice S1 one.cs.length MM))):=hid (fun W' hx=>⟨B6.out.ext hx Fv,BS.out.ext hx Xo⟩);have aij:IntKind.i64.wrap (2 - 0)=2:=rfl;go_upto_region 10 with fail
       try rw [zJ]
       try rw [Fh]
       clear zJ k60 k61 k62 k63;have y0:Ext V9 nM.drew:=Dh.out.drew;refine wp_region_held_drew (S:=fun W'=>Ext V9 W') (by kernel_rfl) y0 (fun hHeld=>?_);refine tk 0 ?_ (hy:=Or.inl ⟨by rfl,by intro w' aO; obtain ⟨⟨k0,k1,k2,k3⟩,-⟩:=Pv.out w' aO; go_simp; (try (with_reducible rfl))⟩);refine tk 1 ?_;refine tk 3 ?_;refine tk 4 ?_;refine tk 6 ?_ (hy:=Or.inl ⟨by rfl,by intro w' aO; obtain ⟨⟨k0,k1,k2,k3⟩,-⟩:=Pv.out w' aO; go_simp; (try (with_reducible rfl))⟩);refine r_1 2 fun K hK=>?_
       go_simp
       go_at_call 111
       refine (YK.out _ _ _ (P6.out.ext y0)).mono ?_;rintro e w3 ⟨v3,rfl,m3,x3⟩;have y1:=y0.trans x3;refine k_t hK y1 fun hHeld=>?_
       clear hK K;refine r_1 5 fun K hK=>?_
       go_simp
       go_at_call 25
       refine (Yr.out _ _ _ m3).mono ?_;rintro e w4 ⟨v4,rfl,m4,x4⟩;have y2:=y1.trans x4;refine k_t hK y2 fun hHeld=>?_
       clear hK K;refine r_1 7 fun K hK=>?_
       go_simp
       go_at_call 15
       refine (PG.out _ _ _ _ _ m4 (P6.out.ext y2)).mono ?_;rintro e w5 ⟨v5,rfl,m5,x5⟩;have y3:=y2.trans x5;obtain ⟨C0,oM,oO,C1,oN,rfl,-⟩:=id m5.open_;unfold plV;refine k_t hK y3 fun hHeld=>?_
       clear hK K;have z17:=((((U8.out.ext (Ext.refl nM).drew).ext x3).ext x4).ext x5);have kU:=z17.2.1;obtain ⟨T0,tn,tc,T1,tc1,⟨g0,g1,g2,g3⟩,-⟩:=z17.2.2;have lw:V9.heap.size < w4.heap.size:=by have:=Dh.out.size; have:=y2.size; have:=U8.out.1; have:=x3.size; have:=x4.size; have:nM.drew.heap.size=nM.heap.size:=rfl; omega
       have H5:xY < w4.heap.size:=by have:=U8.out.1; have:=x3.size; have:=x4.size; have:nM.drew.heap.size=nM.heap.size:=rfl; omega
       refine r_1 8 fun K hK=>?_
       go_simp;clear g0 g1 g2 g3 kU;refine xw (P:=fun V=>Ext V9 V/\PBx V (fun b=>V9.heap.size<=b) xY Q2) ⟨(((y3.setCell rU _).setCell rU _).setCell rU _).setCell rU _,z17.store (m5.mono fun b hb=>⟨by omega,by omega⟩)⟩ (fun Pg abI=>?_);obtain ⟨Zg,z11⟩:=abI;refine k_t hK Zg fun hHeld=>?_
       clear hK K;refine w_d ?_;have Y11:=hid Zg;have Yf:=hid z11;clear y0 y1 y2 y3 m3 m4 m5 x3 x4 x5 z17 lw H5 Zg z11 hHeld;go_upto_region 11 with fail;have y0:Ext V9 Pg.drew:=Y11.out.drew;refine wp_region_held_drew (S:=fun W'=>Ext V9 W') (by kernel_rfl) y0 (fun hHeld=>?_);refine tk 1 ?_ (hy:=Or.inl ⟨by rfl,by intro w' aO; obtain ⟨-,k0,k1,k2,k3⟩:=Pv.out w' aO; go_simp; (try (with_reducible rfl))⟩);refine tk 2 ?_;refine tk 3 ?_;refine r_2 0 4 (fun K hK=>?ldA) fun K hK=>?ldB
       case' ldA =>
        obtain ⟨-,-,G0,FX,FZ,G1,FY,⟨k0,k1,k2,k3⟩,Hm⟩:=Yf.out.ext (Ext.refl Pg).drew;go_simp;refine k_t hK y0 fun hHeld=>?_
        clear hK K k0 k1 k2 k3;refine r_1 4 fun K hK=>?_
        go_simp
        go_at_call 25
        refine (VJ.out _ _ _ (PS.out.ext y0)).mono ?_;rintro e w4 ⟨v4,rfl,m4,x4⟩;have y1:=y0.trans x4;refine k_t hK y1 fun hHeld=>?_
        clear hK K;have BM:=Hm.ext x4
       case' ldB =>
        go_simp
        go_at_call 25
        refine (VJ.out _ _ _ (PS.out.ext y0)).mono ?_;rintro e w4 ⟨v4,rfl,m4,x4⟩;have y1:=y0.trans x4;refine k_t hK y1 fun hHeld=>?_
        clear hK K;refine r_1 0 fun K hK=>?_
        obtain ⟨-,-,G0,FX,FZ,G1,FY,⟨k0,k1,k2,k3⟩,BM⟩:=(Yf.out.ext (Ext.refl Pg).drew).ext x4;go_simp;refine k_t hK y1 fun hHeld=>?_
        clear hK K k0 k1 k2 k3
       all_goals
        refine r_1 5 fun K hK=>?_
        try unfold plV
        go_simp
        go_at_call 161
        refine (HQ1.out _ _ _ _ _ BM m4).mono ?_;rintro e w5 ⟨v5,rfl,m5,x5⟩;have y2:=y1.trans x5;obtain ⟨C0,oM,oO,C1,oN,rfl,-⟩:=id m5.open_;unfold plV;refine k_t hK y2 fun hHeld=>?_
        clear hK K;have z17:=((Yf.out.ext (Ext.refl Pg).drew).ext x4).ext x5;have kU:=z17.2.1;obtain ⟨T0,tn,tc,T1,tc1,⟨g0,g1,g2,g3⟩,-⟩:=z17.2.2;have H5:xY < w4.heap.size:=by have:=Yf.out.1; have:=x4.size; have:Pg.drew.heap.size=Pg.heap.size:=rfl; omega
        refine r_1 6 fun K hK=>?_
        go_simp;clear g0 g1 g2 g3 kU;refine xw (P:=fun V=>Ext V9 V/\PBx V (fun b=>V9.heap.size<=b) xY Q2) ⟨(((y2.setCell rU _).setCell rU _).setCell rU _).setCell rU _,z17.store (m5.mono fun b hb=>⟨by omega,by omega⟩)⟩ (fun V12 abH=>?_);obtain ⟨WL,z12⟩:=abH;refine k_t hK WL fun hHeld=>?_
        clear hK K;refine w_d ?_;obtain ⟨ai9,-,G3,gX,pG,G4,bY,⟨k0,k1,k2,k3⟩,QY⟩:=z12;have ae:=HR9.out.ext WL;have hq:=ae.2.1;have f0:=hq 0;have f1:=hq 1;have f2:=hq 2;have f3:=hq 3;obtain ⟨U0,un0,uc0,U1,un1,uc1,⟨r0,r1,r2,r3⟩,-⟩:=ae.el 0 (by simp);simp only [s8,ri] at r0 r1 r2 r3;obtain ⟨V13,abG⟩:=n_m (((((V12.setCell ⟨R,0,none⟩ (.int .i64 Q2.lv)).setCell ⟨R,1,none⟩ (.bool Q2.neg)).setCell ⟨R,2,none⟩ (.slice G3 gX pG)).setCell ⟨R,3,none⟩ (.slice G4 Q2.cs.length bY)));obtain ⟨Qa,-,-,GI⟩:=Frr.put (w0:=w) (ws:=V12) (j:=0) (x:=Q2) (X9.out.trans WL) (Frr.refl V12 R) (ae.mono (q':=fun b=>w.heap.size<=b) fun b hb=>hb.1) mi (by simp) (QY.mono fun b hb=>by (try dsimp only at hb); exact ⟨by omega,by omega⟩) abG.symm;have HF:Hid (uai (fun b=>w.heap.size<=b) [uab l f g,ji l f g] w (.returned (.slice (some ⟨R,0,none⟩) 2 2)) V13):=hid (by
         rw [Dy.out,YA.out]
         exact ⟨_,rfl,⟨_,_,rfl,by simp,by omega,fun _=>⟨R,rfl,mi,GI⟩⟩,Qa⟩)
        clear ae hq Qa GI y0 y1 y2 m4 m5 x4 x5 z17 WL QY BM hHeld;go_wp2_with fail;go_ret;exact HF.out
     · have hPz:P ≠ Pl.zero:=qah (l:=l) (by have:=Bf.out; omega);have Yz:=hid (HRm.out hPz);rw [adm.out rfl] at Yz;have Pv:Hid (∀ W',Ext nM W'->(jb W' o5 g (.slice E0 NU NW) (.slice E1 g.cs.length NV)/\jb W' os one (.slice S0 ML MN) (.slice S1 one.cs.length MM))):=hid (fun W' hx=>⟨B5.out.ext (Dh.out.trans hx) Ed,BS.out.ext (Dh.out.trans hx) Xo⟩);clear hPz;go_upto_region 15 with fail
       try rw [zJ]
       try rw [Fh]
       clear zJ k60 k61 k62 k63
       go_cut [19] from 75 to 81 (fun s19 wc=>∃ Bj,s19=.pointer (some ⟨Bj,0,none⟩)/\Hid (Ext nM wc/\nM.heap.size<=Bj/\PBx wc (fun b=>nM.heap.size<=b) Bj G2))
       case first =>
        have y0:Ext nM nM.drew:=(Ext.refl nM).drew;refine wp_region_held_drew (S:=fun W'=>Ext nM W') (by kernel_rfl) y0 (fun hHeld=>?_);refine tk 0 ?_ (hy:=Or.inl ⟨by rfl,by intro w' aO; obtain ⟨-,k0,k1,k2,k3⟩:=Pv.out w' aO; go_simp; (try (with_reducible rfl))⟩);refine tk 1 ?_;refine tk 3 ?_ (hy:=Or.inl ⟨by rfl,by intro w' aO; obtain ⟨⟨k0,k1,k2,k3⟩,-⟩:=Pv.out w' aO; go_simp; (try (with_reducible rfl))⟩);refine tk 4 ?_;refine r_2 2 7 (fun K hK=>?q20x2) fun K hK=>?q20x7
        case' q20x2 =>
         go_simp
         go_at_call 25
         refine (VJ.out _ _ _ (PS.out.ext (Dh.out.trans y0))).mono ?_;rintro e w2 ⟨v2,rfl,m2,x2⟩;have ya:=y0.trans x2;refine k_t hK ya fun hHeld=>?_
         clear hK K;refine r_2 5 7 (fun K hK=>?q50x5) fun K hK=>?q50x7
         case' q50x5 =>
          go_simp
          go_at_call 111
          refine (YH.out _ _ _ (P5.out.ext (Dh.out.trans ya))).mono ?_;rintro e w5 ⟨v5,rfl,m5,x5⟩;have yb:=ya.trans x5;have m2:=m2.ext x5;refine k_t hK yb fun hHeld=>?_
          clear hK K;refine r_2 6 7 (fun K hK=>?q60x6) fun K hK=>?q60x7
          case' q60x6 =>
           go_simp
           go_at_call 15
           refine (VL.out _ _ _ _ _ m2 m5).mono ?_;rintro e w6 ⟨v6,rfl,hp,x6⟩;have yc:=yb.trans x6;obtain ⟨F0,j4,k4,F1,k5,rfl,-⟩:=id hp.open_;unfold plV;refine k_t hK yc fun hHeld=>?_
           clear hK K;have hp:PlV w6 (fun b=>nM.heap.size<=b) G2 _:=hp.mono fun b hb=>by have:=yb.size; omega
           refine r_1 7 fun K hK=>?_
           go_simp;obtain ⟨V,o,hV,ho,hz,yA,kR,pF,jU,mO⟩:=z_b yc
           try rw [hV]
           try rw [ho]
           refine k_t hK yA fun hHeld=>?_
           clear hK K hV ho;have hp:PlV V (fun b=>nM.heap.size<=b/\b ≠ o) G2 _:=(hp.xo.ext mO).mono fun b hb=>by have:=hb.1; have:=hb.2; have:=jU.out; constructor <;> omega
           have yE:=yA;have kK:=hz;have lu:=hp
          case' q60x7 =>
           go_simp;obtain ⟨V,o,hV,ho,hz,yA,kR,pF,jU,mO⟩:=z_b yb
           try rw [hV]
           try rw [ho]
           refine k_t hK yA fun hHeld=>?_
           clear hK K hV ho;have m2:=m2.ext mO;have m5:=m5.ext mO;refine r_1 6 fun K hK=>?_
           go_simp
           go_at_call 15
           refine (VL.out _ _ _ _ _ m2 m5).mono ?_;rintro e w6 ⟨v6,rfl,hp,x6⟩;have yc:=yA.trans x6;obtain ⟨F0,j4,k4,F1,k5,rfl,-⟩:=id hp.open_;unfold plV;refine k_t hK yc fun hHeld=>?_
           clear hK K;have hp:PlV w6 (fun b=>nM.heap.size<=b/\b ≠ o) G2 _:=hp.mono fun b hb=>by have:=yA.size; have:=hz.1; constructor <;> omega
           have hz:=hz.ext x6;have yE:=yc;have kK:=hz;have lu:=hp
         case' q50x7 =>
          go_simp;obtain ⟨V,o,hV,ho,hz,yA,kR,pF,jU,mO⟩:=z_b ya
          try rw [hV]
          try rw [ho]
          refine k_t hK yA fun hHeld=>?_
          clear hK K hV ho;have m2:=m2.ext mO;refine r_1 5 fun K hK=>?_
          go_simp
          go_at_call 111
          refine (YH.out _ _ _ (P5.out.ext (Dh.out.trans yA))).mono ?_;rintro e w5 ⟨v5,rfl,m5,x5⟩;have yb:=yA.trans x5;have m2:=m2.ext x5;refine k_t hK yb fun hHeld=>?_
          clear hK K;have hz:=hz.ext x5;refine r_1 6 fun K hK=>?_
          go_simp
          go_at_call 15
          refine (VL.out _ _ _ _ _ m2 m5).mono ?_;rintro e w6 ⟨v6,rfl,hp,x6⟩;have yc:=yb.trans x6;obtain ⟨F0,j4,k4,F1,k5,rfl,-⟩:=id hp.open_;unfold plV;refine k_t hK yc fun hHeld=>?_
          clear hK K;have hp:PlV w6 (fun b=>nM.heap.size<=b/\b ≠ o) G2 _:=hp.mono fun b hb=>by have:=yb.size; have:=hz.1; constructor <;> omega
          have hz:=hz.ext x6;have yE:=yc;have kK:=hz;have lu:=hp
        case' q20x7 =>
         go_simp;obtain ⟨V,o,hV,ho,hz,yA,kR,pF,jU,mO⟩:=z_d (Ext.refl nM)
         try rw [hV]
         try rw [ho]
         refine k_t hK yA fun hHeld=>?_
         clear hK K hV ho;refine r_1 2 fun K hK=>?_
         go_simp
         go_at_call 25
         refine (VJ.out _ _ _ (PS.out.ext (Dh.out.trans yA))).mono ?_;rintro e w2 ⟨v2,rfl,m2,x2⟩;have ya:=yA.trans x2;refine k_t hK ya fun hHeld=>?_
         clear hK K;have hz:=hz.ext x2;refine r_1 5 fun K hK=>?_
         go_simp
         go_at_call 111
         refine (YH.out _ _ _ (P5.out.ext (Dh.out.trans ya))).mono ?_;rintro e w5 ⟨v5,rfl,m5,x5⟩;have yb:=ya.trans x5;have m2:=m2.ext x5;refine k_t hK yb fun hHeld=>?_
         clear hK K;have hz:=hz.ext x5;refine r_1 6 fun K hK=>?_
         go_simp
         go_at_call 15
         refine (VL.out _ _ _ _ _ m2 m5).mono ?_;rintro e w6 ⟨v6,rfl,hp,x6⟩;have yc:=yb.trans x6;obtain ⟨F0,j4,k4,F1,k5,rfl,-⟩:=id hp.open_;unfold plV;refine k_t hK yc fun hHeld=>?_
         clear hK K;have hp:PlV w6 (fun b=>nM.heap.size<=b/\b ≠ o) G2 _:=hp.mono fun b hb=>by have:=yb.size; have:=hz.1; constructor <;> omega
         have hz:=hz.ext x6;have yE:=yc;have kK:=hz;have lu:=hp
        all_goals
         have kU:=kK.2.1;obtain ⟨Z0,zn,zc,Z1,vZ,⟨g0,g1,g2,g3⟩,-⟩:=kK.2.2;refine r_1 8 fun K hK=>?_
         go_simp;clear g0 g1 g2 g3 kU;refine xw (P:=fun V7=>Ext nM V7/\PBx V7 (fun b=>nM.heap.size<=b) o G2) ⟨(((yE.setCell kR _).setCell kR _).setCell kR _).setCell kR _,kK.store lu⟩ (fun V7 mg=>?_);obtain ⟨y9,b9⟩:=mg;refine k_t hK y9 fun hHeld=>?_
         clear hK K;refine w_d ?_;have HN:=hid (And.intro y9 (And.intro kR b9));clear y9 b9 kK lu yE hHeld;go_wp2_with fail
         go_meet
         exact ⟨_,rfl,HN⟩
       case rest =>
       obtain ⟨Bj,rfl,H19⟩:=hcut;obtain ⟨VB,rfl⟩:∃ VB,VB=wc:=⟨wc,rfl⟩;obtain ⟨x19,aiJ,z19⟩:=H19.out;have GH:Ext V9 VB:=Dh.out.trans x19;have h10:=Dh.out.size;have akp:=U8.out.1;have hBs:=x19.size;have C5:=hid (B5.out.ext GH Ed);have C6:=hid (B6.out.ext GH Fv);obtain ⟨aaE,-,T0,Ph,Pj,T1,Pi,c17,p17⟩:=U8.out.ext x19;obtain ⟨aaD,-,U0,Yh,Yj,U1,Yi,c19,p19⟩:=z19;have adb:=hid p17;have ada:=hid p19;have XB:=hid GH;have iH:Hid (∀ W',Ext VB W'->(Ext w W'/\jb W' xY P (.slice T0 Ph Pj) (.slice T1 P.cs.length Pi)/\jb W' Bj G2 (.slice U0 Yh Yj) (.slice U1 G2.cs.length Yi))):=hid (fun W' hx=>⟨(X9.out.trans GH).trans hx,c17.ext hx aaE,c19.ext hx aaD⟩);have Sr:o5 < VB.heap.size:=by have:=GH.size; omega
       have Sm:o6 < VB.heap.size:=by have:=GH.size; omega
       have ai8:os < VB.heap.size:=by have:=GH.size; omega
       clear c17 c19 p17 p19 GH x19 H19;go_upto_region 16 with fail;have y0:Ext VB VB.drew:=(Ext.refl VB).drew;refine wp_region_held_drew (S:=fun W'=>Ext w W'/\jb W' xY P (.slice T0 Ph Pj) (.slice T1 P.cs.length Pi)/\jb W' Bj G2 (.slice U0 Yh Yj) (.slice U1 G2.cs.length Yi)) (by kernel_rfl) (iH.out _ y0) (fun hHeld=>?_);refine tk 0 ?_ (hy:=Or.inl ⟨by rfl,by intro w' aO; obtain ⟨-,⟨k0,k1,k2,k3⟩,k4,k5,k6,k7⟩:=aO; go_simp; (try (with_reducible rfl))⟩);refine tk 3 ?_;refine tk 5 ?_ (hy:=Or.inl ⟨by rfl,by intro w' aO; obtain ⟨-,⟨k0,k1,k2,k3⟩,k4,k5,k6,k7⟩:=aO; go_simp; (try (with_reducible rfl))⟩);refine r_2 1 2 (fun K hK=>?ldP) fun K hK=>?ldQ
       case' ldP =>
        obtain ⟨k0,k1,k2,k3⟩:=C5.out.ext y0 Sr;go_simp;refine k_t hK (iH.out _ y0) fun hHeld=>?_
        clear hK K k0 k1 k2 k3;refine r_1 2 fun K hK=>?_
        obtain ⟨k0,k1,k2,k3⟩:=C6.out.ext y0 Sm;go_simp;refine k_t hK (iH.out _ y0) fun hHeld=>?_
        clear hK K k0 k1 k2 k3
       case' ldQ =>
        obtain ⟨k0,k1,k2,k3⟩:=C6.out.ext y0 Sm;go_simp;refine k_t hK (iH.out _ y0) fun hHeld=>?_
        clear hK K k0 k1 k2 k3;refine r_1 1 fun K hK=>?_
        obtain ⟨k0,k1,k2,k3⟩:=C5.out.ext y0 Sr;go_simp;refine k_t hK (iH.out _ y0) fun hHeld=>?_
        clear hK K k0 k1 k2 k3
       all_goals
        refine r_1 4 fun K hK=>?_
        try unfold plV
        go_simp
        go_at_call 160
        refine (Yz.out _ _ _ _ _ (P5.out.ext (XB.out.trans y0)) (P6.out.ext (XB.out.trans y0))).mono ?_;rintro e w4 ⟨v4,rfl,m4,x4⟩;have y1:=y0.trans x4;refine k_t hK (iH.out _ y1) fun hHeld=>?_
        clear hK K;refine r_1 6 fun K hK=>?_
        try unfold plV
        go_simp
        go_at_call 161
        refine (HQ2.out _ _ _ _ _ m4 (ada.out.ext y1)).mono ?_;rintro e w6 ⟨v6,rfl,m6,x6⟩;have y2:=y1.trans x6;obtain ⟨C0,oM,oO,C1,oN,rfl,-⟩:=id m6.open_;unfold plV;refine k_t hK (iH.out _ y2) fun hHeld=>?_
        clear hK K;have y9:Ext V9 w6:=XB.out.trans y2;have EU:=iH.out _ y2;have hw6:=x6.size;have Oi:=y1.size;have h9w:V9.heap.size<=w4.heap.size:=by have:=XB.out.size; omega
        have z5:PBx w6 (fun b=>b < w.heap.size) o5 g:=⟨by omega,fun i=>(y9.frozen (p:=⟨o5,i,none⟩) Ed).trans (HFZ.out.1 i),_,_,_,_,_,B5.out.ext y9 Ed,(P5.out.ext y9).mono fun b hb=>hb⟩;have z6:PBx w6 (fun b=>w.heap.size<=b/\b ≠ R/\b ≠ o5/\b ≠ os) o6 P:=⟨by omega,fun i=>(y9.frozen (p:=⟨o6,i,none⟩) Fv).trans (HFZ.out.2.1 i),_,_,_,_,_,B6.out.ext y9 Fv,(P6.out.ext y9).mono fun b hb=>by
         obtain ⟨h1,h2,h3,h4,h5,h6⟩:=hb
         exact ⟨⟨h1,h2,h3,h5⟩,h4⟩⟩
        have zs:PBx w6 (fun b=>R < b/\b < W.heap.size) os one:=⟨by omega,fun i=>(y9.frozen (p:=⟨os,i,none⟩) Xo).trans (HFZ.out.2.2 i),_,_,_,_,_,BS.out.ext y9 Xo,(PS.out.ext y9).mono fun b hb=>⟨⟨hb.1,by omega⟩,by omega⟩⟩;have ae:=HR9.out.ext y9;have QX:PlV w6 (fun b=>(w.heap.size<=b/\b ≠ R/\b ≠ o6/\b ≠ os)/\b ≠ o5) P (plV P (.slice T0 Ph Pj) (.slice T1 P.cs.length Pi)):=(adb.out.ext y2).mono fun b hb=>by
         obtain ⟨⟨h1,h2,h3,h4,h5⟩,h6⟩:=hb;exact ⟨⟨h1,h2,h4,h5⟩,h3⟩
        have hm6:PlV w6 (fun b=>w4.heap.size<=b) Q2 (plV Q2 (.slice C0 oM oO) (.slice C1 Q2.cs.length oN)):=m6.mono fun b hb=>by omega
        have kU:=z5.2.1;obtain ⟨Z0,zn,zc,Z1,vZ,⟨g0,g1,g2,g3⟩,-⟩:=z5.2.2;have tJ:=z5.Vn P.lv P.neg T0 T1 Ph Pj P.cs.length Pi;have EQ:w.heap.size<=o5:=by omega
        have EP:w.heap.size<=o6:=by omega
        have Ry:xY ≠ o5:=by omega
        have Rx:xY ≠ o6:=by omega
        have aao:Bj ≠ o5:=by omega
        have Cb:Bj ≠ o6:=by omega
        have bg:=fU;have SC:xY < w6.heap.size:=by omega
        have Sv:Bj < w6.heap.size:=by omega
        refine r_1 7 fun K hK=>?_
        go_simp;clear g0 g1 g2 g3 kU;refine xw (P:=fun V=>(Ext w V/\jb V xY P (.slice T0 Ph Pj) (.slice T1 P.cs.length Pi)/\jb V Bj G2 (.slice U0 Yh Yj) (.slice U1 G2.cs.length Yi))/\PBx V (fun b=>w.heap.size<=b/\b ≠ R/\b ≠ o6/\b ≠ os) o5 P/\PBx V (fun b=>w.heap.size<=b/\b ≠ R/\b ≠ o5/\b ≠ os) o6 P/\PBx V (fun b=>R < b/\b < W.heap.size) os one/\jh V (fun b=>w.heap.size<=b/\b ≠ o5/\b ≠ o6/\b ≠ os/\b < wr.heap.size) R [Pl.zero,P]/\PlV V (fun b=>w4.heap.size<=b) Q2 (plV Q2 (.slice C0 oM oO) (.slice C1 Q2.cs.length oN))/\w6.heap.size<=V.heap.size) ⟨⟨(((EU.1.setCell EQ _).setCell EQ _).setCell EQ _).setCell EQ _,tJ.Qf EU.2.1 SC Ry,tJ.Qf EU.2.2 Sv aao⟩,z5.store QX,tJ.Kd z6 (fun e=>bg e.symm) (fun b hb=>hb.2.2.1),tJ.Kd zs (by omega) (fun b hb=>by omega),tJ.row ae (by omega) (fun b hb=>hb.2.1),tJ.pl hm6 (fun b hb=>by omega),tJ.size⟩ (fun V14 abE=>?_);obtain ⟨BJ,a14,b14,s14,r14,q14,l14⟩:=abE;refine k_t hK BJ fun hHeld=>?_
        clear hK K tJ z5 z6 zs QX hm6 ae EU;have kU:=b14.2.1;obtain ⟨Z0,zn,zc,Z1,vZ,⟨g0,g1,g2,g3⟩,-⟩:=b14.2.2;have zS:=b14.Vn Q2.lv Q2.neg C0 C1 oM oO Q2.cs.length oN;refine r_1 8 fun K hK=>?_
        go_simp;clear g0 g1 g2 g3 kU;refine xw (P:=fun V=>(Ext w V/\jb V xY P (.slice T0 Ph Pj) (.slice T1 P.cs.length Pi)/\jb V Bj G2 (.slice U0 Yh Yj) (.slice U1 G2.cs.length Yi))/\PBx V (fun b=>w.heap.size<=b/\b ≠ R/\b ≠ o6/\b ≠ os) o5 P/\PBx V (fun b=>w4.heap.size<=b) o6 Q2/\PBx V (fun b=>R < b/\b < W.heap.size) os one/\jh V (fun b=>w.heap.size<=b/\b ≠ o5/\b ≠ o6/\b ≠ os/\b < wr.heap.size) R [Pl.zero,P]) ⟨⟨(((BJ.1.setCell EP _).setCell EP _).setCell EP _).setCell EP _,zS.Qf BJ.2.1 (by omega) Rx,zS.Qf BJ.2.2 (by omega) Cb⟩,zS.Kd a14 bg (fun b hb=>hb.2.2.1),b14.store (q14.mono fun b hb=>⟨hb,by omega⟩),zS.Kd s14 (by omega) (fun b hb=>by omega),zS.row r14 (by omega) (fun b hb=>hb.2.2.1)⟩ (fun V15 abD=>?_);obtain ⟨JX,a15,b15,s15,r15⟩:=abD;refine hK.out _ _ JX (fun hHeld=>?_);clear hK K zS a14 b14 s14 r14 q14 BJ;refine w_d ?_;have acP:=hid JX.1;have adS:=hid a15;have adN:=hid b15;have acD:=hid s15;have acZ:=hid r15;obtain ⟨-,-,G0,FX,FZ,G1,FY,⟨g0,g1,g2,g3⟩,Qg⟩:=a15;have VT:=hid (YK.out _ _ _ Qg);unfold plV at VT;clear JX b15 s15 r15 Qg hHeld y0 y1 y2 y9 m4 m6 x4 x6;go_wp2_with fail;clear g0 g1 g2 g3;refine VT.out.mono ?_;rintro e w7 ⟨v7,rfl,m7,x7⟩;obtain ⟨I0,in0,ic0,I1,ic1,rfl,-⟩:=id m7.open_;have s7:=acD.out.ext x7;have kU:=s7.2.1;have fi0:=kU 0;have fi1:=kU 1;have fi2:=kU 2;have fi3:=kU 3;obtain ⟨Z0,zn,zc,Z1,vZ,⟨g0,g1,g2,g3⟩,-⟩:=s7.2.2;obtain ⟨LP,hLP⟩:=n_m (yl l P);rw [hLP] at m7 ⊢;have UW:=s7.Vn LP.lv LP.neg I0 I1 in0 ic0 LP.cs.length ic1;obtain ⟨V16,UA⟩:=n_m (((((w7.setCell ⟨os,0,none⟩ (.int .i64 LP.lv)).setCell ⟨os,1,none⟩ (.bool LP.neg)).setCell ⟨os,2,none⟩ (.slice I0 in0 ic0)).setCell ⟨os,3,none⟩ (.slice I1 LP.cs.length ic1)));rw [UA] at UW;have HN:Hid (mdg l P=1/\zdi w W o5 o6 R P Q2 V16):=hid ⟨Bf.out,by rw [<- UA]; exact (((((acP.out.trans x7).setCell wR _).setCell wR _).setCell wR _).setCell wR _),(UW.Kd (adS.out.ext x7) (by omega) (fun b hb=>hb.2.2.2)).mono (fun _ _=>trivial),(UW.Kd (adN.out.ext x7) (by omega) (fun b hb=>by omega)).mono (fun b hb=>⟨by omega,by omega⟩),(UW.row (acZ.out.ext x7) (by omega) (fun b hb=>hb.2.2.2.1)).mono (fun b hb=>⟨hb.1,hb.2.2.1⟩)⟩;clear VT m7 x7 s7 UW hLP kU;unfold plV;go_wp2_with fail;clear g0 g1 g2 g3 fi0 fi1 fi2 fi3
        go_roundw
        case rel=>exact .inr ⟨rfl,HN⟩
        case measure=>decide
   · obtain ⟨hP1,CZ⟩:=HI.out;obtain ⟨nO,ha,hb,hr⟩:=CZ;obtain ⟨BX,-,E0,NU,NW,E1,NV,ba,pa⟩:=ha;obtain ⟨Ht,-,F0,Ag,Ai,F1,Ah,bb,pb⟩:=hb;have PA:=hid pa;have PB:=hid pb;have HRr:=hid hr;have XR:=hid nO;have Gu:=hid (fun (W':World) (hx:Ext wr W')=>PR.out W' _ _ (pa.ext hx));rw [hP1] at Gu;have zV:Hid (∀ W',Ext wr W'->(Ext wr W'/\jb W' o5 P (.slice E0 NU NW) (.slice E1 P.cs.length NV)/\jb W' o6 Q2 (.slice F0 Ag Ai) (.slice F1 Q2.cs.length Ah))):=hid (fun W' hx=>⟨hx,ba.ext hx BX,bb.ext hx Ht⟩);have z0:Ext wr wr.drew:=(Ext.refl wr).drew;clear ba bb pa pb hr nO HI;unfold plV at Gu;go_upto_region 4 with fail;refine wp_region_held_drew (S:=fun W'=>Ext wr W'/\jb W' o5 P (.slice E0 NU NW) (.slice E1 P.cs.length NV)/\jb W' o6 Q2 (.slice F0 Ag Ai) (.slice F1 Q2.cs.length Ah)) (by kernel_rfl) (zV.out _ z0) (fun hHeld=>?_);refine tk 0 ?_ (hy:=Or.inl ⟨by rfl,by intro w' aO; obtain ⟨-,⟨k0,k1,k2,k3⟩,k4,k5,k6,k7⟩:=aO; go_simp; (try (with_reducible rfl))⟩);refine tk 1 ?_;refine tk 3 ?_ (hy:=Or.inl ⟨by rfl,by intro w' aO; obtain ⟨-,⟨k0,k1,k2,k3⟩,k4,k5,k6,k7⟩:=aO; go_simp; (try (with_reducible rfl))⟩);refine tk 4 ?_;refine r_1 2 fun K hK=>?_
     go_simp
     go_at_call 109
     refine (Gu.out _ z0).mono ?_;rintro e w8 ⟨rfl,x8⟩;have z1:=z0.trans x8;refine k_t hK (zV.out _ z1) fun hHeld=>?_
     clear hK K;refine r_1 5 fun K hK=>?_
     go_simp
     go_at_call 109
     refine (Jv.out _ _ _ (PB.out.ext z1)).mono ?_;rintro e w9 ⟨rfl,x9⟩;have z2:=z1.trans x9;refine k_t hK (zV.out _ z2) fun hHeld=>?_
     clear hK K;refine tk 6 ?_;refine tk 7 ?_;refine w_d ?_;obtain ⟨-,-,k4,k5,k6,k7⟩:=hHeld;have Z2:=hid z2;have jI:=HRr.out.ext z2;have acT:=HRG.out;have ac2:=HQD.out;have Nb:=HRZ.out;obtain ⟨D2,CZ⟩:=n_m (mdg l Q2);rw [CZ] at acT ac2 Nb ⊢;clear CZ z0 z1 z2 x8 x9 Gu;have acR:=hid Nb;have GN:IntKind.i64.wrap (1 - 1)=0:=rfl;clear Nb;rcases (by omega:D2=-1\/D2=0) with rfl | rfl
     · have Gi:=acR.out.1 rfl;have HF:Hid (uai (fun b=>w.heap.size<=b) [uab l f g,ji l f g] w (.returned (.slice (some ⟨R,0,none⟩) 2 2)) w9):=hid (by
        rw [Dy.out,YA.out,Gi]
        exact ⟨_,rfl,⟨_,_,rfl,by simp,by omega,fun _=>⟨R,rfl,mi,jI.mono fun b hb=>hb.1⟩⟩,XR.out.trans Z2.out⟩)
       clear k4 k5 k6 k7 jI Gi;go_wp2_with fail;go_ret;exact HF.out
     · have zM:=jI.2.1;obtain ⟨R0,rn0,rc0,R1,rn1,rc1,⟨r0,r1,r2,r3⟩,-⟩:=jI.el 0 (by simp);have uY:PlV w9 (fun b=>(w.heap.size<=b)/\b ≠ R) Q2 (plV Q2 (.slice F0 Ag Ai) (.slice F1 Q2.cs.length Ah)):=(PB.out.ext Z2.out).mono fun b hb=>hb.1
       have aV:=(jI.mono (q':=fun b=>w.heap.size<=b) fun b hb=>hb.1).xD 0 (by simp) Q2 uY;simp only [s8,ri,uW,ua] at r0 r1 r2 r3 aV;have f0:=zM 0;have f1:=zM 1;have f2:=zM 2;have f3:=zM 3;obtain ⟨V9,qE⟩:=n_m (((((w9.setCell ⟨R,0,none⟩ (.int .i64 Q2.lv)).setCell ⟨R,1,none⟩ (.bool Q2.neg)).setCell ⟨R,2,none⟩ (.slice F0 Ag Ai)).setCell ⟨R,3,none⟩ (.slice F1 Q2.cs.length Ah)));rw [qE] at aV;have P9:Ext w V9:=by rw [<- qE]; exact ((((XR.out.trans Z2.out).setCell mi _).setCell mi _).setCell mi _).setCell mi _
       have HF:Hid (∀ W',Ext V9 W'->uai (fun b=>w.heap.size<=b) [uab l f g,ji l f g] w (.returned (.slice (some ⟨R,0,none⟩) 2 2)) W'):=hid (fun W' hx=>by
        rw [Dy.out,YA.out]
        exact ⟨_,rfl,⟨_,_,rfl,by simp,by omega,fun _=>⟨R,rfl,mi,aV.1.ext hx⟩⟩,P9.trans hx⟩)
       have au:o6 ≠ R:=by omega
       have Zr:jb V9 o6 Q2 (.slice F0 Ag Ai) (.slice F1 Q2.cs.length Ah):=by
        have kk:∀ j,V9.cell? ⟨o6,j,none⟩=w9.cell? ⟨o6,j,none⟩:=fun j=>pB (by rw [<- qE]; exact gac _ _ _ _ _ _ _ au)
        exact ⟨(kk 0).trans k4,(kk 1).trans k5,(kk 2).trans k6,(kk 3).trans k7⟩
       clear aV jI uY P9;go_upto_region 8 with fail
       try rw [qE]
       obtain ⟨j4,j5,j6,j7⟩:=Zr;clear qE k4 k5 k6 k7 r0 r1 r2 r3 f0 f1 f2 f3;go_wp2_with fail;go_ret;exact HF.out _ ((Ext.refl _).alloc _)
theorem zbi {l:Int}:∀ (k:Int) (cs:List Pl),(∀ c ∈ cs,c.Can/\zh l c)->∀ c ∈ jae k cs,c.Can/\zh l c:=fun k cs h c hc=>by
 obtain ⟨d,hd,i,hi,rfl⟩:=wbh hc;exact ⟨Pl.q9 _ _,(h d hd).2.mul (zh.const l _)⟩
theorem vdd {l:Int} (hl:1<=l) (ag:l<=4) {p:Pl} (h:p.Can) (h0:0 < mdg l p):(yab l p).xf l=jae 1 (p.xf l).tail:=by
 unfold yab;rw [if_pos ⟨hl,ag⟩];have hn:p.xf l ≠ []:=fun e=>by unfold mdg at h0; rw [e] at h0; simp at h0
 have dW:=yai (Pl.q8 hl ag h).last hn;have iU:∀ c ∈ jae 1 (p.xf l).tail,c.Can/\zh l c:=zbi 1 _ fun c hc=>⟨wae h c (vah hc),qx hl ag h c (vah hc)⟩
 refine (Pl.q8 hl ag (zad l _)).uniq ⟨fun c hc=>(iU c hc).1,fun c hc=>(iU c hc).2,fun ρ=>(uz hl ag ρ _).symm,fun e=>?_⟩;obtain ⟨n,oI⟩:∃ n,(p.xf l).length=n+2:=⟨(p.xf l).length - 2,by unfold mdg at h0; omega⟩;have qC:(jae 1 (p.xf l).tail).length=n+1:=by rw [xai,ud,oI]; rfl
 rw [sI,qC,uR,pr (by omega)] at e;injection e with e
 rw [qa5 1 _ n (by rw [ud]; omega) (by omega),List.getElem_tail] at e;rw [oI,po,show n+2 - 1=n+1 by omega,pr (by omega)] at dW;rcases Pl.mul_zero (wae h _ (pt (by omega:n+1 < (p.xf l).length))) (qp _) (fun ρ=>by rw [<- Pl.qD,e,Pl.qt]) with h1 | h1
 · exact dW h1
 · have h2:=Pl.qS (fun _=>0) (1+(n:Int));rw [h1,Pl.qt] at h2;have h3:(1+(n:Int))=0:=by exact_mod_cast h2.symm
   omega
theorem qcf {l:Int} (hl:1<=l) (ag:l<=4) {p:Pl} (h:p.Can) (h0:0 < mdg l p):mdg l (yab l p)=mdg l p - 1:=by
 have h1:=vdd hl ag h h0;unfold mdg at h0 ⊢;rw [h1,xai,ud];omega
theorem wdb {w:World} {q0 q1:Nat->Prop} {f g:Pl} {l:Int} {D:Nat} (v0 v1:Value) (hl:1<=l) (ag:l<=4) (h0:PlV w q0 f v0) (h1:PlV w q1 g v1) (hf:Fit f 2 D) (hg:Fit g 2 D) (hD:D<=10000000000) (rC:0<=mdg l f) (bI:0<=mdg l g):Calls Tryz.prog 138 #[v0,v1,.int .i64 l] w (qaj (fun b=>w.heap.size<=b) (gp l f g) w):=by
 have OI:=waj (l:=l) hf.can hf.ex;have Il:=waj (l:=l) hg.can hg.ex
 by_cases hc:mdg l f=0\/mdg l g=0\/mdg l g=1\/mdg l f=1/\mdg l g=2
 · exact vcd v0 v1 hl ag h0 h1 hf hg (by omega) (by omega) rC bI hc
 · obtain ⟨e1,e2⟩:mdg l f=2/\mdg l g=2:=by omega
   have hs:Fit (ji l f g) 10 (4 * D+10):=(zam hl ag hf hg (by have:B32=4294967296:=rfl; omega)).mono (by omega) (by omega);have hr:=ya8 hl ag hf hg;have e:gp l f g=pcf l [uab l f g,ji l f g]:=by
    rw [yc2 e1 e2];unfold pcf;simp [tO,va5 hl ag gaj (vce hl ag gaj (ybr hl ag hf.can hg.can))]
   rw [e];have iU:∀ c ∈ [uab l f g,ji l f g],Fit c 24 (8 * D+40):=fun c hc=>by
    simp only [pN,sr,or_false] at hc;rcases hc with rfl | rfl
    · exact hr
    · exact hs.mono (by omega) (by omega)
   refine gba v0 v1 hl ag h0 h1 (E:=24) (D:=8 * D+40) (by omega) (by omega) (by simp) iU (hid fun W' hx=>wa9 v0 v1 hl ag (h0.ext hx) (h1.ext hx) hf hg (by omega) (by omega) (by omega) (by omega) (by omega) (by omega) (by simp) (fun c hc=>⟨(iU c hc).can,(iU c hc).copy_ (by omega),by have:=(iU c hc).dm; omega⟩) (hid (.inl ⟨by omega,fun W2 aN=>?_⟩)));rw [e1,e2];exact wcu v0 v1 hl ag (h0.ext (hx.trans aN)) (h1.ext (hx.trans aN)) hf hg e1 e2 hD
theorem ya4 {l:Int} (hl:1<=l) (ag:l<=4) {f g:Pl} {D:Nat} (hf:Fit f 2 D) (hg:Fit g 2 D):(∀ c ∈ gp l f g,Fit c 24 (8 * D+40))/\(gp l f g).length<=2:=by
 have hB:B32=4294967296:=rfl;have hs:∀ {p q:Pl},Fit p 2 D->Fit q 2 D->Fit (ji l p q) 24 (8 * D+40):=fun hp hq=>(zam hl ag hp hq (by omega)).mono (by omega) (by omega)
 unfold gp
 split
 · simp
 · split
   · exact ⟨fun c hc=>by rw [pD.1 hc]; exact zat (hs hf hg),by simp⟩
   · split
     · exact ⟨fun c hc=>by rw [pD.1 hc]; exact zat (hs hg hf),by simp⟩
     · refine ⟨fun c hc=>?_,by simp⟩;simp only [pN,sr,or_false] at hc;rcases hc with rfl | rfl
       · exact ya8 hl ag hf hg
       · exact zat (hs hf hg)
theorem kab {l:Int} {fs:List Pl} {D:Nat} (lC:∀ f ∈ fs,Fit f 2 D) {f:Pl} (hf:f ∈ fs):∀ r ∈ vg l f,Fit r 2 (D+2)/\0 < mdg l r:=fun r hr=>by
 have hb:=waj (l:=l) (lC f hf).can (lC f hf).ex;obtain ⟨h1,h2⟩:=jbk (l:=l) (n:=(mdg l f).toNat) (lC f hf) (by have:B32=4294967296:=rfl; omega) r hr;exact ⟨h1.mono (pj _) (by omega),h2⟩
section
variable {l:Int} (hl:1<=l) (ag:l<=4) {fs:List Pl} {D:Nat} (lC:∀ f ∈ fs,Fit f 2 D)
include hl ag lC
theorem vcq (hD:D<=1000000000):jbb l fs:=fun r s h=>by
 have hB:B32=4294967296:=rfl;obtain ⟨h1,h2,h3,h4⟩:Fit r 2 (D+4)/\Fit s 2 (D+4)/\0<=mdg l r/\0<=mdg l s:=by
  rcases h with ⟨f,hf,hr,rfl⟩ | ⟨i,j,hi,hj,-,hr,hs⟩
  · obtain ⟨h1,h2⟩:=kab lC hf r hr;have:=qcf hl ag h1.can h2;exact ⟨h1.mono (pj _) (by omega),yax h1 (by omega),by omega,by omega⟩
  · obtain ⟨h1,h2⟩:=kab lC (pt hi) r hr;obtain ⟨h3,h4⟩:=kab lC (pt hj) s hs;exact ⟨h1.mono (pj _) (by omega),h3.mono (pj _) (by omega),by omega,by omega⟩
 refine ⟨by have:=(ya4 hl ag h1 h2).2; omega,fun W' v0 v1 q0 q1 k0 k1=>?_⟩;exact wdb v0 v1 hl ag k0 k1 h1 h2 (by omega) h3 h4
theorem kaz:∀ p ∈ elems l fs,Fit p 24 (8 * D+100):=fun p hp=>by
 have hB:B32=4294967296:=rfl;have QS:∀ {r s:Pl},Fit r 2 (D+4)->Fit s 2 (D+4)->∀ c ∈ gp l r s,Fit c 24 (8 * D+100):=fun hr hs c hc=>((ya4 hl ag hr hs).1 c hc).mono (pj _) (by omega)
 unfold elems at hp;rcases pT.1 hp with hp | hp
 · obtain ⟨f,hf,hp⟩:=rL.1 hp;unfold gaf at hp;rcases pT.1 hp with hp | hp
   · obtain ⟨r,hr,hp⟩:=rL.1 hp;obtain ⟨h1,h2⟩:=kab lC hf r hr;unfold zac at hp;rcases pN.1 hp with rfl | hp
     · exact (yan h1).mono (by omega) (by omega)
     · exact QS (h1.mono (pj _) (by omega)) (yax h1 (by omega)) p hp
   · split at hp
     · cases hp
     · rename_i au;rw [pD.1 hp];have hr0:0 < (vg l f).length:=by omega
       have hr:(vg l f).getD 0 Pl.zero ∈ vg l f:=by rw [po,pr hr0]; exact pt _
       exact (zat (kab lC hf _ hr).1).mono (by omega) (by omega)
 · unfold xa4 at hp;obtain ⟨i,hi,hp⟩:=rL.1 hp;rw [S7] at hi;obtain ⟨L,hL,pX⟩:=rL.1 hp;unfold prE at pX;obtain ⟨r,hr,wP⟩:=rL.1 pX;obtain ⟨s,hs,QW⟩:=rL.1 wP;have OW:=Sb hL;obtain ⟨g,hg,rfl⟩:=pS.1 OW;have jG:i < fs.length:=by rw [pw] at hi; exact hi
   have EX:r ∈ vg l fs[i]:=by
    have:(fs.map (vg l)).getD i []=vg l fs[i]:=by rw [po,tS,pr jG]; rfl
    rw [this] at hr; exact hr
   exact QS ((kab lC (pt jG) r EX).1.mono (pj _) (by omega)) ((kab lC hg s hs).1.mono (pj _) (by omega)) p QW
theorem ucu:(elems l fs).length<=7 * fs.length+8 * (fs.length * fs.length):=by
 have key:∀ {α β:Type} (A:List α) (f:α->List β) (k:Nat),(∀ a ∈ A,(f a).length<=k)->(A.flatMap f).length<=A.length * k:=by
  intro α β A f k
  induction A with
  | nil=>intro _; simp
  | cons a r ih =>
    intro h;have h1:=h a rS;have h2:=ih fun b hb=>h b (rr _ hb)
    rw [th,rh,pH,Re];omega
 have J5:∀ f ∈ fs,(vg l f).length<=2:=fun f hf=>by
  have hb:=waj (l:=l) (lC f hf).can (lC f hf).ex;have:=kao (l:=l) (mdg l f).toNat f;unfold vg;omega
 have hB:B32=4294967296:=rfl;have h1:(fs.flatMap (gaf l)).length<=fs.length * 7:=key _ _ _ fun f hf=>by
  unfold gaf;rw [rh];have h2:=key (vg l f) (zac l) 3 fun r hr=>by
   obtain ⟨k1,k2⟩:=kab lC hf r hr;have:=(ya4 hl ag (k1.mono (pj _) (by omega):Fit r 2 (D+4)) (yax (l:=l) k1 (by omega))).2;unfold zac;rw [pH]; omega
  have h3:=J5 f hf;have h4:=pE 3 h3
  split
  · rw [rK]; omega
  · rw [PC]; omega
 have h2:(xa4 l (fs.map (vg l))).length<=fs.length * (fs.length * 8):=by
  unfold xa4;have:=key (List.range (fs.map (vg l)).length) (fun i=>((fs.map (vg l)).drop (i+1)).flatMap (prE l ((fs.map (vg l)).getD i []))) (fs.length * 8) fun i hi=>by
   rw [S7,pw] at hi;have h4:=key ((fs.map (vg l)).drop (i+1)) (prE l ((fs.map (vg l)).getD i [])) 8 fun L hL=>by
    obtain ⟨g,hg,rfl⟩:=pS.1 (Sb hL);have e:(fs.map (vg l)).getD i []=vg l fs[i]:=by rw [po,tS,pr hi]; rfl
    rw [e];unfold prE;have h5:=key (vg l fs[i]) (fun r=>(vg l g).flatMap fun s=>gp l r s) 4 fun r hr=>by
     have h6:=key (vg l g) (fun s=>gp l r s) 2 fun s hs=>(ya4 hl ag (kab lC (pt hi) r hr).1 (kab lC hg s hs).1).2
     have:=J5 g hg;have:=pE 2 this;omega
    have:=J5 _ (pt hi);have:=pE 4 this;omega
   have h5:((fs.map (vg l)).drop (i+1)).length<=fs.length:=by rw [re,pw]; omega
   have:=pE 8 h5;omega
  rw [show (List.range (fs.map (vg l)).length).length=fs.length by rw [tt,pw]] at this;exact this
 unfold elems;rw [rh];have:fs.length * (fs.length * 8)=8 * (fs.length * fs.length):=by rw [<- r9,sj]
 omega
end
open Go.Shelf Go.Sort
structure Tot {α : Type} (c : α -> α -> Int) : Prop where
 zero:∀ x y,c x y=0 ↔ x=y
 anti:∀ x y,c y x=- c x y
 trans:∀ x y z,c x y < 0->c y z < 0->c x z < 0
theorem Tot.refl {α:Type} {c:α->α->Int} (h:Tot c) (x:α):c x x=0:=(h.zero x x).2 rfl
theorem Tot.swo {α : Type} {c : α -> α -> Int} (h : Tot c) : SWO (ltOf c) where
 irrefl x:=by unfold ltOf; simp [h.refl]
 trans x y z h1 h2:=by
  unfold ltOf at *;simp only [decide_eq_true_eq] at *;exact h.trans x y z h1 h2
 ntrans x y z h1 h2:=by
  unfold ltOf at *;simp only [decide_eq_false_iff_not] at *;intro h3;have a1:=h.anti x y;have a2:=h.anti y z;have a3:=h.anti x z
  by_cases e1:c x y=0
  · rw [(h.zero x y).1 e1] at h3; exact h2 h3
  · by_cases e2:c y z=0
    · rw [<- (h.zero y z).1 e2] at h3; exact h1 h3
    · have:=h.trans z y x (by omega) (by omega);omega
theorem xbi : Tot uh where
 zero x y:=by unfold uh; split <;> (try split) <;> omega
 anti x y:=by unfold uh; split <;> (try split) <;> (try split) <;> omega
 trans x y z:=by unfold uh; split <;> (try split) <;> (try split) <;> (try split) <;> (try split) <;> (try split) <;> omega
theorem ybi {m n:Mo}:vag m n < 0 ↔ m.lt n:=by
 unfold vag
 split
 · simp_all
 · split <;> simp_all
theorem gaz : Tot vag where
 zero m n:=by
  constructor
  · intro h;unfold vag at h
    split at h
    · omega
    · split at h
      · omega
      · rename_i h1 h2;rcases Mo.qbH m n with h | h | h
        · exact absurd h h1
        · exact h
        · exact absurd h h2
  · rintro rfl;unfold vag;rw [if_neg (Mo.lt_irrefl _),if_neg (Mo.lt_irrefl _)]
 anti m n:=by
  unfold vag
  by_cases h1:m.lt n
  · have h2:¬ n.lt m:=fun h2=>Mo.lt_irrefl _ (Mo.lt_trans h1 h2)
    simp [h1,h2]
  · by_cases h2:n.lt m
    · simp [h1,h2]
    · simp [h1,h2]
 trans m n k h1 h2:=ybi.2 (Mo.lt_trans (ybi.1 h1) (ybi.1 h2))
def gab (x y:Int × Mo):Int:=if x.2=y.2 then uh x.1 y.1 else vag x.2 y.2
theorem van : Tot gab where
 zero x y:=by
  obtain ⟨a,m⟩:=x;obtain ⟨b,n⟩:=y;unfold gab;simp only
  by_cases h:m=n
  · subst h; rw [if_pos rfl,xbi.zero]; simp
  · rw [if_neg h,gaz.zero]; simp [h]
 anti x y:=by
  unfold gab
  by_cases h:x.2=y.2
  · rw [if_pos h,if_pos h.symm,xbi.anti]
  · rw [if_neg h,if_neg (fun e=>h e.symm),gaz.anti]
 trans x y z h1 h2:=by
  unfold gab at *
  by_cases a:x.2=y.2
  · rw [if_pos a] at h1
    by_cases b:y.2=z.2
    · rw [if_pos b] at h2; rw [if_pos (a.trans b)]; exact xbi.trans _ _ _ h1 h2
    · rw [if_neg b] at h2; rw [if_neg (fun e=>b (a.symm.trans e)),a]; exact h2
  · rw [if_neg a] at h1
    by_cases b:y.2=z.2
    · rw [if_pos b] at h2; rw [if_neg (fun e=>a (e.trans b.symm)),<- b]; exact h1
    · rw [if_neg b] at h2;have h3:=gaz.trans _ _ _ h1 h2;rw [if_neg (fun e=>by rw [e,gaz.refl] at h3; omega)];exact h3
theorem yc7 (x y:Int × Mo):-1<=gab x y/\gab x y<=1:=by
 unfold gab
 split
 · exact xal _ _
 · unfold vag; split <;> (try split) <;> omega
def ui : Sp -> Sp -> Int
 | [],[]=>0
 | [],_ :: _=>-1
 | _ :: _,[]=>1
 | x :: r,y :: s=>if gab x y=0 then ui r s else gab x y
theorem ua5 : ∀ l m : Sp, ui l m = 0 ↔ l = m
 | [],[]=>by simp [ui]
 | [],_ :: _=>by simp [ui]
 | _ :: _,[]=>by simp [ui]
 | x :: r,y :: s=>by
   unfold ui
   split
   · rename_i h; rw [ua5 r s,(van.zero x y).1 h]; simp
   · rename_i h;have h2:x ≠ y:=fun e=>h ((van.zero x y).2 e)
     simp [h,h2]
theorem wbm : ∀ l m : Sp, ui m l = - ui l m
 | [],[]=>by simp [ui]
 | [],_ :: _=>by simp [ui]
 | _ :: _,[]=>by simp [ui]
 | x :: r,y :: s=>by
   unfold ui;have h:=van.anti x y
   by_cases e:gab x y=0
   · rw [if_pos e,if_pos (by omega),wbm r s]
   · rw [if_neg e,if_neg (by omega),h]
theorem kbe : ∀ l m k : Sp, ui l m < 0 -> ui m k < 0 -> ui l k < 0
 | [],[],k,h,_=>by simp [ui] at h
 | [],_ :: _,[],_,h=>by simp [ui] at h
 | [],_ :: _,_ :: _,_,_=>by simp [ui]
 | _ :: _,[],k,h,_=>by simp [ui] at h
 | _ :: _,_ :: _,[],_,h=>by simp [ui] at h
 | x :: r,y :: s,z :: t,h1,h2=>by
   unfold ui at *
   by_cases a:gab x y=0
   · rw [if_pos a] at h1;have e:=(van.zero x y).1 a;subst e
     by_cases b:gab x z=0
     · rw [if_pos b] at h2 ⊢; exact kbe r s t h1 h2
     · rw [if_neg b] at h2 ⊢; exact h2
   · rw [if_neg a] at h1
     by_cases b:gab y z=0
     · have e:=(van.zero y z).1 b;subst e;rw [if_neg a]; exact h1
     · rw [if_neg b] at h2;have h3:=van.trans _ _ _ h1 h2;rw [if_neg (by omega)]; exact h3
theorem vaa:Tot ui:=⟨ua5,wbm,kbe⟩
theorem gcl {l m:Sp} (k:Nat) (hl:k < l.length) (hm:k < m.length):ui (l.drop k) (m.drop k)=if gab l[k] m[k]=0 then ui (l.drop (k+1)) (m.drop (k+1)) else gab l[k] m[k]:=by
 rw [sh hl,sh hm,ui]
def AscS (l:List Sp):Prop:=l.Pairwise fun a b=>ui a b < 0
theorem kbi : ∀ {a b : List Sp}, AscS a -> AscS b -> (∀ x, x ∈ a ↔ x ∈ b) -> a = b
 | [],[],_,_,_=>rfl
 | [],y :: s,_,_,h=>absurd ((h y).2 (by simp)) (by simp)
 | x :: r,[],_,_,h=>absurd ((h x).1 (by simp)) (by simp)
 | x :: r,y :: s,ha,hb,h=>by
   unfold AscS at ha hb;rw [tG] at ha hb;have JJ:x=y:=by
    rcases pN.1 ((h x).1 (by simp)) with e | h1
    · exact e
    · rcases pN.1 ((h y).2 (by simp)) with e | h2
      · exact e.symm
      · have a1:=hb.1 x h1;have a2:=ha.1 y h2;have:=vaa.anti x y;omega
   subst JJ;rw [kbi (a:=r) (b:=s) ha.2 hb.2 fun z=>?_]
   constructor
   · intro hz;rcases pN.1 ((h z).1 (by simp [hz])) with e | h1
     · subst e; have:=ha.1 z hz; rw [vaa.refl] at this; omega
     · exact h1
   · intro hz;rcases pN.1 ((h z).2 (by simp [hz])) with e | h1
     · subst e; have:=hb.1 z hz; rw [vaa.refl] at this; omega
     · exact h1
def zar (x : Sp) : List Sp -> List Sp
 | []=>[x]
 | y :: r=>if ui x y < 0 then x :: y :: r else if ui x y=0 then y :: r else y :: zar x r
theorem qbh {x z : Sp} : ∀ {l : List Sp}, z ∈ zar x l ↔ z = x \/ z ∈ l
 | []=>by simp [zar]
 | y :: r=>by
   unfold zar
   split
   · simp
   · split
     · rename_i h;have:=(vaa.zero x y).1 h;subst this; simp
     · simp only [pN,qbh (l:=r)]
       constructor
       · rintro (h | h | h)
         · exact .inr (.inl h)
         · exact .inl h
         · exact .inr (.inr h)
       · rintro (h | h | h)
         · exact .inr (.inl h)
         · exact .inl h
         · exact .inr (.inr h)
theorem zb3 {x : Sp} : ∀ {l : List Sp}, AscS l -> AscS (zar x l)
 | [],_=>by simp [zar,AscS]
 | y :: r,h=>by
   unfold AscS at h ⊢;rw [tG] at h;unfold zar
   split
   · rename_i h1;rw [tG,tG];refine ⟨fun z hz=>?_,h⟩;rcases pN.1 hz with rfl | hz
     · exact h1
     · exact vaa.trans _ _ _ h1 (h.1 z hz)
   · split
     · rw [tG]; exact h
     · rw [tG];refine ⟨fun z hz=>?_,zb3 h.2⟩;rcases qbh.1 hz with rfl | hz
       · have:=vaa.anti y z; omega
       · exact h.1 z hz
def qap (l:List Sp):List Sp:=l.foldr zar []
theorem xa5 : ∀ l : List Sp, AscS (qap l)
 | []=>List.Pairwise.nil
 | x :: r=>zb3 (xa5 r)
theorem xar {z : Sp} : ∀ {l : List Sp}, z ∈ qap l ↔ z ∈ l
 | []=>by simp [qap]
 | x :: r=>by
   have:qap (x :: r)=zar x (qap r):=rfl;rw [this,qbh,xar (l:=r)]; simp
theorem qck {a b:List Sp} (h:∀ x,x ∈ a ↔ x ∈ b):qap a=qap b:=kbi (xa5 a) (xa5 b) fun x=>by rw [xar,xar,h]
def uat (ps:List Pl):List Pl:=(ps.map snP).filter fun p=>decide (0 < p.lv)
def qaa (ps:List Pl):List Pl:=(qap ((uat ps).map Pl.sp)).map Pl.j8
theorem vbq (z : Int) : ∀ (l : Sp) (a : Nat), (jad z l).foldl (fun a x => Nat.gcd a x.1.natAbs) (z.natAbs * a) = z.natAbs * l.foldl (fun a x => Nat.gcd a x.1.natAbs) a
 | [],a=>rfl
 | x :: r,a=>by
   have e:jad z (x :: r)=(x.1 * z,x.2) :: jad z r:=rfl;rw [e,Rc,Rc];have e2:Nat.gcd (z.natAbs * a) (x.1 * z).natAbs=z.natAbs * Nat.gcd a x.1.natAbs:=by
    rw [paf,sj x.1.natAbs,Nat.gcd_mul_left]
   rw [e2,vbq z r]
theorem vcp {z:Int} (hz:z ≠ 0) {l:Sp} (hl:∀ x ∈ l,x.1 ≠ 0) (au:l ≠ []):sdv (jad z l)=z * sdv l:=by
 have hs:snc (jad z l)=z.natAbs * snc l:=by
  have:=vbq z l 0;rw [wy] at this;exact this
 cases l with
 | nil=>exact absurd rfl au
 | cons x r =>
   have e:jad z (x :: r)=(x.1 * z,x.2) :: jad z r:=rfl;have h1:sdv (jad z (x :: r))=if x.1 * z < 0 then -(snc (jad z (x :: r)):Int) else (snc (jad z (x :: r)):Int):=by rw [e]; rfl
   have h2:sdv (x :: r)=if x.1 < 0 then -(snc (x :: r):Int) else (snc (x :: r):Int):=rfl
   rw [h1,h2,hs];have hx:=hl x rS;generalize snc (x :: r)=n;obtain ⟨a,ha⟩:=n_m (x.1);rw [ha] at hx ⊢;have kF:(z.natAbs:Int)=if z < 0 then -z else z:=by split <;> omega
   rw [Int.natCast_mul,kF];rcases Int.lt_or_gt_of_ne hz with hz | hz <;> rcases Int.lt_or_gt_of_ne hx with hx | hx
   · have:=Int.mul_pos_of_neg_of_neg hx hz;rw [if_pos hz,if_neg (by omega),if_pos hx]; grind
   · have:=Int.mul_neg_of_pos_of_neg hx hz;rw [if_pos hz,if_pos (by omega),if_neg (by omega)]; grind
   · have:=Int.mul_neg_of_neg_of_pos hx hz;rw [if_neg (show ¬ z < 0 by omega),if_pos (show a * z < 0 by omega),if_pos hx]; grind
   · have:=Int.mul_pos hx hz;rw [if_neg (show ¬ z < 0 by omega),if_neg (show ¬ a * z < 0 by omega),if_neg (show ¬ a < 0 by omega)]
theorem kco {z:Int} (hz:z ≠ 0) {l:Sp} (h:zq l):ssn (jad z l)=ssn l:=by
 by_cases au:l=[]
 · rw [au]; rfl
 unfold ssn;rw [vcp hz (jav l h) au];have hd:=wbx (jav l h);have hm:∀ m:Sp,(∀ x ∈ m,sdv l ∣ x.1)->kz (z * sdv l) (jad z m)=kz (sdv l) m:=by
  intro m
  induction m with
  | nil=>intro _; rfl
  | cons x r ih =>
    intro hx;have e1:kz (z * sdv l) (jad z (x :: r))=((x.1 * z).tdiv (z * sdv l),x.2) :: kz (z * sdv l) (jad z r):=rfl;have e2:kz (sdv l) (x :: r)=(x.1.tdiv (sdv l),x.2) :: kz (sdv l) r:=rfl;rw [e1,e2,ih fun y hy=>hx y (rr _ hy)];obtain ⟨k,hk⟩:=hx x rS;rw [hk,show sdv l * k * z=(z * sdv l) * k by grind,Up _ (Pp hz hd),Up _ hd]
 exact hm l uba
theorem jbf {p q:Pl} {z:Int} (hz:z ≠ 0) (hq:q.Can) (h:∀ ρ,q.val ρ=p.val ρ * (z:Rat)):snP q=snP p:=by
 have hqp:q=p.mul (Pl.const z):=Pl.qv hq (Pl.q9 _ _) fun ρ=>by rw [h,Pl.qD,Pl.qS]
 unfold snP;rw [hqp,<- Pl.qaA p hz,kco hz p.js]
theorem ubx {p:Pl} (h:p.Can):snP (snP p)=snP p:=(jbf (kcp p) h fun ρ=>(xav ρ p).symm).symm
theorem vc1 {acc:List Pl} {p x:Pl}:x ∈ putL acc p ↔ x ∈ acc\/(p.lv ≠ 0/\x=snP p):=by
 unfold putL
 split
 · rename_i h; simp [h]
 · rename_i h
   split
   · rename_i ha;obtain ⟨y,hy,e⟩:=Ta.1 ha;have e:=xbb.1 e
     constructor
     · exact .inl
     · rintro (h1 | ⟨-,rfl⟩)
       · exact h1
       · rw [e]; exact hy
   · rw [pT,pD]; simp [h]
theorem xa8 {x : Pl} : ∀ {M acc : List Pl}, x ∈ putA acc M ↔ x ∈ acc \/ ∃ p ∈ M, p.lv ≠ 0 /\ x = snP p
 | [],acc=>by simp [putA]
 | p :: M,acc=>by
   have e:putA acc (p :: M)=putA (putL acc p) M:=rfl;rw [e,xa8 (M:=M),vc1]
   constructor
   · rintro ((h | h) | ⟨y,hy,h⟩)
     · exact .inl h
     · exact .inr ⟨p,rS,h⟩
     · exact .inr ⟨y,rr _ hy,h⟩
   · rintro (h | ⟨y,hy,h⟩)
     · exact .inl (.inl h)
     · rcases pN.1 hy with rfl | hy
       · exact .inl (.inr h)
       · exact .inr ⟨y,hy,h⟩
theorem ybg {x:Pl} {l:Int} {fs:List Pl}:x ∈ dF l fs ↔ ∃ p ∈ elems l fs,p.lv ≠ 0/\x=snP p:=by
 unfold dF;rw [xa8]; simp
theorem qar {x:Pl} {ps:List Pl}:x ∈ uat ps ↔ ∃ p ∈ ps,x=snP p/\0 < x.lv:=by
 unfold uat;rw [sw,pS]
 constructor
 · rintro ⟨⟨p,hp,rfl⟩,h⟩;exact ⟨p,hp,rfl,of_decide_eq_true h⟩
 · rintro ⟨p,hp,rfl,h⟩;exact ⟨⟨p,hp,rfl⟩,decide_eq_true h⟩
theorem kck {a b:List Pl} (h:∀ x,x ∈ uat a ↔ x ∈ uat b):qaa a=qaa b:=by
 unfold qaa;rw [qck (a:=(uat a).map Pl.sp) (b:=(uat b).map Pl.sp) fun s=>?_];simp only [pS]
 constructor <;> rintro ⟨x,hx,rfl⟩
 · exact ⟨x,(h x).1 hx,rfl⟩
 · exact ⟨x,(h x).2 hx,rfl⟩
theorem vbh {a b:List Pl} (h1:∀ p ∈ a,0 < (snP p).lv->∃ q ∈ b,snP q=snP p) (h2:∀ p ∈ b,0 < (snP p).lv->∃ q ∈ a,snP q=snP p):qaa a=qaa b:=kck fun x=>by
 rw [qar,qar]
 constructor
 · rintro ⟨p,hp,rfl,h⟩;obtain ⟨q,hq,e⟩:=h1 p hp h;exact ⟨q,hq,e.symm,h⟩
 · rintro ⟨p,hp,rfl,h⟩;obtain ⟨q,hq,e⟩:=h2 p hp h;exact ⟨q,hq,e.symm,h⟩
theorem jb4 {l:Int} {fs ps:List Pl} (hc:∀ p ∈ elems l fs,p.Can):qaa (dF l fs ++ ps)=qaa (elems l fs ++ ps):=by
 refine vbh (fun x hx h=>?_) fun x hx h=>?_
 · rcases pT.1 hx with hx | hx
   · obtain ⟨p,hp,h0,rfl⟩:=ybg.1 hx;exact ⟨p,Ra _ hp,(ubx (hc p hp)).symm⟩
   · exact ⟨x,ux _ hx,rfl⟩
 · rcases pT.1 hx with hx | hx
   · rw [ycp (hc x hx)] at h;exact ⟨snP x,Ra _ (ybg.2 ⟨x,hx,by omega,rfl⟩),ubx (hc x hx)⟩
   · exact ⟨x,ux _ hx,rfl⟩
theorem xc6 {x:Pl} {ps:List Pl}:x ∈ qaa ps ↔ x ∈ uat ps:=by
 unfold qaa;rw [pS]
 constructor
 · rintro ⟨s,hs,rfl⟩;obtain ⟨y,hy,rfl⟩:=pS.1 (xar.1 hs);obtain ⟨p,hp,rfl,h⟩:=qar.1 hy;rw [Pl.vu (gam p)]; exact hy
 · intro hx;obtain ⟨p,hp,rfl,h⟩:=qar.1 hx;exact ⟨_,xar.2 (pS.2 ⟨_,hx,rfl⟩),Pl.vu (gam p)⟩
end Go.Proofs.YtcepajijiabkmaaGreat
