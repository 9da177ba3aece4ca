/- Layer 24: pseudo.reduce. -/
import Derived.Test.YtcepajijiabkmaaGreatMp31
import Derived.Test.YtcepajijiabkmaaGreatMp23
set_option linter.unusedSimpArgs false
set_option linter.unusedVariables false
set_option maxRecDepth 100000
set_option maxHeartbeats 8000000
namespace Go.Proofs.YtcepajijiabkmaaGreat
open Lib (hid)
open Go.RowKit
structure RdS (w0 w : World) (R Q : Nat) (F G : List Pl) (n K EM DM Eg Dg : Nat) (r : Nat) (wr : World) (L : List Pl) : Prop where
 ext:Ext w0 wr
 far:Frr w R wr
 slack:yak wr Q K
 row:xh wr (fun b=>w0.heap.size<=b/\b ≠ Q) R L
 len:L.length=n+r
 eq:jq G r L=jq G K F
 fit:∃ E D,(∀ c ∈ L,Fit c E D)/\E+r * Eg<=EM/\D+r * (Dg+2)<=DM
theorem vcd {w0 w : World} {F G : List Pl} {R Rg cf cg n K EM DM E D Eg Dg : Nat} (aC : Ext w0 w) (hR : w0.heap.size <= R) (ax : Rg ≠ R) (hF : xh w (fun b => w0.heap.size <= b) R F) (hG : xh w (fun b => b ≠ R) Rg G) (XQ : G.length = n + 1) (UM : F.length = n + K) (hK : 1 <= K) (eF : F.length <= cf) (Ua : cf <= 9223372036854775807) (OI : G.length <= cg) (abb : cg <= 9223372036854775807) (hlen : n + K <= 1000000)
 (TI:∀ c ∈ F,Fit c E D) (Ii:∀ c ∈ G,Fit c Eg Dg) (hE:E+K * Eg<=EM) (hD:D+K * (Dg+2)<=DM) (hEM:EM<=400) (hDM:DM<=8796093000000) :
 Calls Tryz.prog 165 #[.slice (some ⟨R,0,none⟩) F.length cf,.slice (some ⟨Rg,0,none⟩) G.length cg] w fun e w'=>∃ v0 c',e=.returned (.tuple #[v0,.slice (some ⟨R,0,none⟩) (jq G K F).length c'])/\(jq G K F).length<=c'/\c'<=9223372036854775807/\xh w' (fun b=>w0.heap.size<=b) R (jq G K F)/\Ext w0 w':=by
 have ay:=hid aC;have HF:=hid (hF.xl (q':=fun b=>w0.heap.size<=b/\b ≠ w.heap.size) (pj _) (fun _ _ h=>h) rfl (fun b hb hq _=>⟨⟨hq,by omega⟩,rfl⟩));have HG:=hid hG;have qG:=hid XQ;have Gl:=hid UM;have HFF:=hid TI;have PM:=hid Ii;have gV:=hF.1;obtain ⟨V,dw,eQ,xG,ae⟩:=uw (K:Int) (by omega) (by omega) w;rw [sT] at dw ae;have gK:=ae (fun _=>True);have Pn:=hid (yak.of gK);rw [p8] at Pn;have H0:Hid (RdS w0 w R w.heap.size F G n K EM DM Eg Dg K V F):=hid ⟨aC.trans eQ,(Frr.refl w R).ext eQ,Pn.out,HF.out.ext eQ,UM,rfl,E,D,TI,hE,hD⟩;have uN:IntKind.i64.wrap (((n:Int)+1) - 1)=(n:Int):=by rw [rk]; omega
 have yH:IntKind.i64.wrap (((n:Int)+(K:Int)) - (n:Int))=(K:Int):=by rw [rk]; omega
 have hK0:(0:Int)<=(K:Int):=by omega
 rw [XQ] at OI;rw [UM] at eF;rw [XQ,UM];clear aC hF hG XQ UM TI Ii hE hD ae gK eQ Pn HF;go_enter Tryz.func165,Tryz.ntmps165;go_wp2_with fail
 go_loopw [0,23] (fun av iv wr=>∃ i r N:Nat,i+r=K/\N=n+r/\iv=.int .i64 i/\av=.slice (some ⟨R,0,none⟩) N cf/\Hid (∃ L,RdS w0 w R w.heap.size F G n K EM DM Eg Dg r wr L)) (fun _ iv _=>K - (intOf iv).toNat)
 case atStart=>exact ⟨0,K,n+K,by omega,rfl,rfl,by go_num,hid ⟨_,H0.out⟩⟩
 case round =>
  obtain ⟨i,r,N,hir,hN,rfl,rfl,HR⟩:=hrel
  by_cases af:i < K
  · obtain ⟨L,hS⟩:=HR.out;obtain ⟨k,hk⟩:∃ k,k+1=r:=⟨r - 1,by omega⟩;obtain ⟨M,hM⟩:∃ M,M=n+k:=⟨_,rfl⟩;obtain ⟨K1,hK1⟩:∃ K1,K1+1=K:=⟨K - 1,by omega⟩;have pI:L.length=M+1:=by rw [hS.len]; omega
    obtain ⟨C0,oL,oN,C1,uH,oM,⟨r0,r1,r2,r3⟩,Z8⟩:=hS.row.el M (by omega);have OI:L.getD (n+k) Pl.zero=L[M]:=by rw [pr,<- hM,po (by omega)]; rfl
    obtain ⟨c,hc⟩:=n_m (L[M]);rw [hc] at r0 r1 Z8 OI;obtain ⟨V1,jK⟩:=n_m (wr.alloc (.cells #[.int .i64 c.lv,.bool c.neg,.slice C0 oL oN,.slice C1 uH oM] 33));have hx1:Ext wr V1:=by rw [<- jK]; exact (Ext.refl wr).alloc _
    have bV:jb V1 wr.heap.size c (.slice C0 oL oN) (.slice C1 uH oM):=by rw [<- jK]; exact jb.new wr c _ _ _
    have bW:V1.heap.size=wr.heap.size+1:=by rw [<- jK]; simp
    obtain ⟨V2,rF⟩:=n_m (((((V1.setCell ⟨w.heap.size,k * 4,none⟩ (.int .i64 c.lv)).setCell ⟨w.heap.size,k * 4+1,none⟩ (.bool c.neg)).setCell ⟨w.heap.size,k * 4+2,none⟩ (.slice C0 oL oN)).setCell ⟨w.heap.size,k * 4+3,none⟩ (.slice C1 uH oM)));obtain ⟨⟨u0,u1,u2,u3,q0,q1,q2,q3⟩,QI,kC⟩:=(hS.slack.ext hx1).put (by omega:k < K) c.lv c.neg C0 C1 oL oN uH oM rF.symm;have pV:=((hS.slack.ext hx1).2.1);have f0:=pV (k * 4);have f1:=pV (k * 4+1);have f2:=pV (k * 4+2);have f3:=pV (k * 4+3);obtain ⟨b0,b1,b2,b3⟩:=id bV;have jL:=hS.slack.1;have Gz:=ay.out.size;have HE2:Hid (Ext w0 V2):=hid (by rw [<- rF]; exact (((((hS.ext.trans hx1)).setCell Gz _).setCell Gz _).setCell Gz _).setCell Gz _);have zZ:=hid (kC.row (hS.row.ext hx1) (by omega) (fun b hb=>hb.2));have YM:=hid (((hS.far.ext hx1).qbK kC (pj _)).row HG.out ax (fun b hb=>hb));have Js:=hid (kC.pl (Z8.ext hx1) (fun b hb=>hb.1.2));have HF2:=hid ((hS.far.ext hx1).qbK kC (pj _));have yB:Hid (jb V2 wr.heap.size c (.slice C0 oL oN) (.slice C1 uH oM)):=hid ⟨(kC.cell (by omega) (by omega)).trans b0,(kC.cell (by omega) (by omega)).trans b1,(kC.cell (by omega) (by omega)).trans b2,(kC.cell (by omega) (by omega)).trans b3⟩;have F6:=hid QI;have jG:V2.heap.size=wr.heap.size+1:=by rw [<- rF,<- bW]; simp [World.setCell]
    have HS:=hid hS;have HCG:=hid OI;have hwa:IntKind.i64.wrap ((K:Int) - 1)=(K1:Int):=by rw [rk]; omega
    have hwb:IntKind.i64.wrap ((K1:Int) - (i:Int))=(k:Int):=by rw [rk]; omega
    have hwc:IntKind.i64.wrap ((n:Int)+(k:Int))=(M:Int):=by rw [rk]; omega
    have hMN:(M:Int) < (N:Int):=by omega
    have hMc:(M:Int)<=(cf:Int):=by omega
    have hkK:(k:Int) < (K:Int):=by omega
    have hiK:(i:Int) < (K:Int):=by omega
    have Rx:wr.heap.size ≠ w.heap.size:=by omega
    have Jh:=hid (And.intro hM (And.intro hN (And.intro hk hK1)));clear hS Z8 OI hc hx1 bV QI kC pV HR H0 hM hN hk hK1 pI;go_wp2_with fail;clear jK rF dw r0 r1 r2 r3 q0 q1 q2 q3 f0 f1 f2 f3 b0 b1 b2 b3;obtain ⟨wd,rfl⟩:∃ wd,wd=wr:=⟨wr,rfl⟩;have kK:Hid ((Ext w0 V2/\Frr V2 R V2)/\∃ L',RdL G k L n 0 L'/\xh V2 (fun b=>w0.heap.size<=b/\b ≠ w.heap.size) R L'):=hid ⟨⟨HE2.out,Frr.refl _ _⟩,_,RdL.start (by rw [HS.out.len]; have:=Jh.out; omega),zZ.out.take _⟩
    go_loopw [47] (fun jv wi=>∃ j,j<=M/\jv=.int .i64 j/\Hid ((Ext w0 wi/\Frr V2 R wi)/\∃ L',RdL G k L n j L'/\xh wi (fun b=>w0.heap.size<=b/\b ≠ w.heap.size) R L')) (fun jv _=>M - (intOf jv).toNat)
    case atStart=>exact ⟨0,pS _,rfl,kK⟩
    case round =>
     obtain ⟨j,hj,rfl,HI⟩:=hrel
     by_cases hjM:j < M
     · obtain ⟨⟨Xo,Kz⟩,L',Iy,ae⟩:=HI.out;have lJ:j < n+k:=by have:=Jh.out; omega
       have XO:j < L'.length:=by rw [Iy.1]; exact lJ
       obtain ⟨A0,an0,ac0,A1,an1,ac1,CP,pq⟩:=ae.el j XO;have Lt:L'[j]=L.getD j Pl.zero:=by rw [Iy.2 j XO,if_neg (Nat.lt_irrefl _)]
       have Ig:=Kz.row YM.out ax (fun b hb=>hb);obtain ⟨B0,bn0,bc0,B1,bn1,bc1,KW,pg⟩:=Ig.el n (by rw [qG.out]; omega);have lK:G[n]'(by rw [qG.out]; omega)=G.getD n Pl.zero:=by rw [pr,po (by rw [qG.out]; omega)]; rfl
       obtain ⟨Ei,Di,aF,XX,XY⟩:=HS.out.fit;have JR:r=k+1:=by have:=Jh.out; omega
       rw [JR,PJ] at XX XY;have OE:Fit L'[j] Ei Di:=by rw [Lt]; exact qad aF j
       have uD:Fit (G[n]'(by rw [qG.out]; omega)) Eg Dg:=by rw [lK]; exact qad PM.out n
       have Ih:Fit c Ei Di:=by rw [<- HCG.out]; exact qad aF _
       obtain ⟨a,ha⟩:=n_m (L'[j]);obtain ⟨g,hg⟩:=n_m (G[n]'(by rw [qG.out]; omega));rw [ha] at Lt OE CP pq;rw [hg] at lK uD KW pg;have hRi:=ae.1;have hVi:=Kz.size;have UC:=Ig.1;have Aj:=hid (fun (W':World) (hx:Ext wr W')=>CP.ext hRi hx);have Wn:=hid (fun (W':World) (hx:Ext wr W')=>KW.ext UC hx);have Ad:=hid pq;have Gg:=hid pg;have Ah:=hid OE;have Nu:=hid uD;have YO:=hid Ih;have aW:=hid ae;have Jc:=hid Iy;have HIE:=hid Xo;have HIF:=hid Kz;have WH:=hid Lt;have HGl:=hid lK;have HLJ:=hid XO;have ajb:(j:Int) < (M:Int):=by omega
       have nD:(n:Int) < (n:Int)+1:=by omega
       have Y0:Hid (Ext wr wr.drew):=hid (Ext.refl wr).drew;have hEb:Ei+Eg<=400:=by omega
       have hDb:Di+Dg+2<=8796093000000:=by omega
       have VD:=hid hRi;have lu:=hid ae.2.1;clear Xo Kz Iy ae CP pq Lt Ig KW pg lK aF OE uD Ih ha hg XX XY XO lJ JR HI kK hRi
       have kG:Hid (∀ V y D0 dY ed D1 lh dZ,Ext wr V->PlV V (fun b=>wr.heap.size<=b) y (plV y (.slice D0 dY ed) (.slice D1 lh dZ))->∀ V7,V7=(((V.setCell ⟨R,j * 4,none⟩ (.int .i64 y.lv)).setCell ⟨R,j * 4+1,none⟩ (.bool y.neg)).setCell ⟨R,j * 4+2,none⟩ (.slice D0 dY ed)).setCell ⟨R,j * 4+3,none⟩ (.slice D1 lh dZ) ->
        ((Ext w0 V7/\Frr V2 R V7)/\xh V7 (fun b=>w0.heap.size<=b/\b ≠ w.heap.size) R (L'.set j y))/\ElC V7 Rg n g B0 bn0 bc0 B1 bn1 bc1):=hid (by
        intro V y D0 dY ed D1 lh dZ dM hp V7 mf;obtain ⟨p1,p2,p3,p4⟩:=Frr.put (HIE.out.trans dM) (HIF.out.ext dM) (aW.out.ext dM) hR HLJ.out (hp.mono fun b hb=>⟨⟨by omega,by omega⟩,by omega⟩) mf
        exact ⟨⟨⟨p1,p3⟩,p4⟩,(Wn.out V dM).far (pw UC dM.size) p2 ax⟩)
       go_upto_region 14 with fail;refine wp_region_held_drew (S:=fun W'=>ElC W' Rg n g B0 bn0 bc0 B1 bn1 bc1) (by kernel_rfl) (Wn.out _ Y0.out) (fun hHeld=>?_);refine tk 0 ?_;refine tk 1 ?_;refine tk 2 ?_;refine tk 3 ?_;refine tk 4 ?_;refine tk 6 ?_;refine tk 7 ?_;refine tk 8 ?_;refine tk 9 ?_ (hy:=Or.inl ⟨by rfl,by intro w' aP; obtain ⟨k1,k2,k3,k4⟩:=aP; go_simp; (try (with_reducible rfl))⟩);obtain ⟨e0,e1,e2,e3⟩:=Aj.out _ Y0.out;refine r_1 5 fun K hK=>?_
       go_simp;refine k_t hK (Wn.out _ Y0.out) fun hHeld=>?_
       clear hK K;refine r_1 10 fun K hK=>?_
       go_simp
       go_at_call 15
       refine (jal _ _ (Ad.out.ext Y0.out) (Gg.out.ext Y0.out) Ah.out Nu.out (by omega) (by omega)).mono ?_;rintro e w2 ⟨v2,rfl,m2,x2⟩;obtain ⟨D0,dY,ed,D1,dZ,rfl,-⟩:=id m2.open_;have z2:Ext wr w2:=Y0.out.trans x2;refine k_t hK (Wn.out _ z2) fun hHeld=>?_
       clear hK K e0 e1 e2 e3;refine tk 11 ?_;have YP:=hid (kG.out _ _ _ _ _ _ _ _ z2 (m2.mono fun b hb=>py Y0.out.size hb));obtain ⟨s0,s1,s2,s3⟩:=Aj.out _ z2;have f0:=(z2.frozen (p:=⟨R,j * 4,none⟩) VD.out).trans (lu.out _);have f1:=(z2.frozen (p:=⟨R,j * 4+1,none⟩) VD.out).trans (lu.out _);have f2:=(z2.frozen (p:=⟨R,j * 4+2,none⟩) VD.out).trans (lu.out _);have f3:=(z2.frozen (p:=⟨R,j * 4+3,none⟩) VD.out).trans (lu.out _);have HY:Hid (Fit (a.mul g) (Ei+Eg) (Di+Dg)):=hid (Ah.out.mul Nu.out);have HYV:Hid (a.mul g=(L.getD j Pl.zero).mul (G.getD n Pl.zero)):=hid (by rw [WH.out,HGl.out]);clear kG m2 x2;generalize a.mul g=y at *;refine r_1 12 fun K hK=>?_
       unfold plV;go_simp;refine (?g9:∀ V7,(((Ext w0 V7/\Frr V2 R V7)/\xh V7 (fun b=>w0.heap.size<=b/\b ≠ w.heap.size) R (L'.set j y))/\ElC V7 Rg n g B0 bn0 bc0 B1 bn1 bc1)->K _ V7) _ (YP.out _ rfl);intro V7 mf;obtain ⟨h7,c7⟩:=mf;refine k_t hK c7 fun hHeld=>?_
       have H7:=hid h7;clear hK K s0 s1 s2 s3 f0 f1 f2 f3 c7 h7 z2;refine w_d ?_;clear hHeld Aj Wn Ad Gg aW HIE HIF lu VD YP Y0;have hjb:j < n+k:=by have:=Jh.out; omega
       by_cases Ov:k<=j
       · obtain ⟨d,hd⟩:∃ d,d=j - k:=⟨_,rfl⟩;have wY:d < n+1:=by omega
         have wO:=H7.out.2;obtain ⟨E0,en0,zW,E1,UZ,rG,hey,GX⟩:=wO.el j (by rw [pH]; exact HLJ.out);simp only [rR] at hey GX;have Ig:=H7.out.1.2.row YM.out ax (fun b hb=>hb);obtain ⟨B2,U6,bc2,B3,U4,bc3,KW,pg⟩:=Ig.el d (by rw [qG.out]; omega);have lK:G[d]'(by rw [qG.out]; omega)=G.getD d Pl.zero:=by rw [pr,po (by rw [qG.out]; omega)]; rfl
         have KQ:Fit (G[d]'(by rw [qG.out]; omega)) Eg Dg:=by rw [lK]; exact qad PM.out d
         obtain ⟨g2,dR⟩:=n_m (G[d]'(by rw [qG.out]; omega));rw [dR] at lK KQ KW pg;have bY:Hid ((qy G k L).getD j Pl.zero=y.sub (c.mul g2)):=hid (by rw [jba qG.out hjb,if_pos Ov,HYV.out,HCG.out,lK,hd]);have pK:=hid wO.1;have mD:=hid wO.2.1;have abN:=Ig.1;have ajK:=H7.out.1.2.size;have PN:=hid (fun (W':World) (hx:Ext V7 W')=>hey.ext pK.out hx);have F9:=hid GX;have Gf:=hid pg;have Gj:=hid KQ;have Dy:=hid (H7.out.1.2.pl Js.out (fun b hb=>hb.2));have HB7:Hid (jb V7 wd.heap.size c (.slice C0 oL oN) (.slice C1 uH oM)):=by
          obtain ⟨b0,b1,b2,b3⟩:=yB.out;have hf:=H7.out.1.2;exact hid ⟨(hf.cell (by omega) (by omega)).trans b0,(hf.cell (by omega) (by omega)).trans b1,(hf.cell (by omega) (by omega)).trans b2,(hf.cell (by omega) (by omega)).trans b3⟩
         have iE:Hid (∀ W',Ext V7 W'->(ElC W' Rg d g2 B2 U6 bc2 B3 U4 bc3/\jb W' wd.heap.size c (.slice C0 oL oN) (.slice C1 uH oM))):=hid fun W' hx=>⟨KW.ext abN hx,HB7.out.ext hx (by omega)⟩
         have xU:Hid (∀ V y' D0 dY ed D1 lh dZ,Ext V7 V->PlV V (fun b=>V7.heap.size<=b) y' (plV y' (.slice D0 dY ed) (.slice D1 lh dZ))->∀ V8,V8=(((V.setCell ⟨R,j * 4,none⟩ (.int .i64 y'.lv)).setCell ⟨R,j * 4+1,none⟩ (.bool y'.neg)).setCell ⟨R,j * 4+2,none⟩ (.slice D0 dY ed)).setCell ⟨R,j * 4+3,none⟩ (.slice D1 lh dZ) ->
          ((Ext w0 V8/\Frr V2 R V8)/\xh V8 (fun b=>w0.heap.size<=b/\b ≠ w.heap.size) R ((L'.set j y).set j y'))/\(ElC V8 Rg d g2 B2 U6 bc2 B3 U4 bc3/\jb V8 wd.heap.size c (.slice C0 oL oN) (.slice C1 uH oM))):=hid (by
          intro V y' D0 dY ed D1 lh dZ dM hp V8 qV;obtain ⟨p1,p2,p3,p4⟩:=Frr.put (H7.out.1.1.trans dM) (H7.out.1.2.ext dM) (H7.out.2.ext dM) hR (by rw [pH]; exact HLJ.out) (hp.mono fun b hb=>⟨⟨by omega,by omega⟩,by have:=pK.out; omega⟩) qV;obtain ⟨s1,s2⟩:=iE.out V dM;have xG:=dM.size;obtain ⟨b0,b1,b2,b3⟩:=s2
          exact ⟨⟨⟨p1,p3⟩,p4⟩,s1.far (by omega) p2 ax,(p2.cell (by omega) (by omega)).trans b0,(p2.cell (by omega) (by omega)).trans b1,(p2.cell (by omega) (by omega)).trans b2,(p2.cell (by omega) (by omega)).trans b3⟩)
         have ai6:(k:Int)<=(j:Int):=by omega
         have hwd:IntKind.i64.wrap ((j:Int) - (k:Int))=(d:Int):=by rw [rk]; omega
         have ajt:(d:Int) < (n:Int)+1:=by omega
         have Y7:Hid (Ext V7 V7.drew):=hid (Ext.refl V7).drew;clear hd wO hey GX Ig KW pg lK KQ dR;go_upto_region 16 with fail;refine wp_region_held_drew (S:=fun W'=>ElC W' Rg d g2 B2 U6 bc2 B3 U4 bc3/\jb W' wd.heap.size c (.slice C0 oL oN) (.slice C1 uH oM)) (by kernel_rfl) (iE.out _ Y7.out) (fun hHeld=>?_);refine tk 0 ?_;refine tk 1 ?_;refine tk 2 ?_;refine tk 3 ?_;refine tk 4 ?_;refine tk 6 ?_ (hy:=Or.inl ⟨by rfl,by intro w' aP; obtain ⟨⟨k1,k2,k3,k4⟩,k5,k6,k7,k8⟩:=aP; go_simp; (try (with_reducible rfl))⟩);refine tk 7 ?_;refine tk 8 ?_;refine tk 9 ?_;refine tk 10 ?_;refine tk 11 ?_;refine tk 12 ?_ (hy:=Or.inl ⟨by rfl,by intro w' aP; obtain ⟨⟨k1,k2,k3,k4⟩,k5,k6,k7,k8⟩:=aP; go_simp; (try (with_reducible rfl))⟩);refine r_2 5 13 (fun K hK=>?ordA) fun K hK=>?ordB
         case ordA =>
          obtain ⟨e0,e1,e2,e3⟩:=PN.out _ Y7.out;go_simp;refine k_t hK (iE.out _ Y7.out) fun hHeld=>?_
          clear hK K e0 e1 e2 e3;refine r_1 13 fun K hK=>?_
          go_simp
          go_at_call 15
          refine (jal _ _ (Dy.out.ext Y7.out) (Gf.out.ext Y7.out) YO.out Gj.out (by omega) (by omega)).mono ?_;rintro e w3 ⟨v3,rfl,m3,x3⟩;obtain ⟨D2,dn2,dc2,D3,dc3,rfl,-⟩:=id m3.open_;have z3:Ext V7 w3:=Y7.out.trans x3;refine k_t hK (iE.out _ z3) fun hHeld=>?_
          clear hK K;refine r_1 14 fun K hK=>?_
          try unfold plV
          go_simp
          go_at_call 14
          refine (vaq _ _ (F9.out.ext z3) m3 HY.out (YO.out.mul Gj.out) (by omega) (by omega)).mono ?_;rintro e w4 ⟨v4,rfl,m4,x4⟩;obtain ⟨D4,dn4,dc4,D5,dc5,rfl,-⟩:=id m4.open_;have z4:Ext V7 w4:=z3.trans x4;refine k_t hK (iE.out _ z4) fun hHeld=>?_
          clear hK K;refine tk 15 ?_;have Ai:=hid (xU.out _ _ _ _ _ _ _ _ z4 (m4.mono fun b hb=>py z3.size hb));obtain ⟨s0,s1,s2,s3⟩:=PN.out _ z4;have f0:=(z4.frozen (p:=⟨R,j * 4,none⟩) pK.out).trans (mD.out _);have f1:=(z4.frozen (p:=⟨R,j * 4+1,none⟩) pK.out).trans (mD.out _);have f2:=(z4.frozen (p:=⟨R,j * 4+2,none⟩) pK.out).trans (mD.out _);have f3:=(z4.frozen (p:=⟨R,j * 4+3,none⟩) pK.out).trans (mD.out _);have xN:Hid (y.add (c.mul g2).z8=(qy G k L).getD j Pl.zero):=hid (by rw [bY.out]; rfl);clear xU m4 x4 m3 x3 z3;generalize y.add (c.mul g2).z8=yy at *;refine r_1 16 fun K hK=>?_
          unfold plV;go_simp;refine (?gA:∀ V8,(((Ext w0 V8/\Frr V2 R V8)/\xh V8 (fun b=>w0.heap.size<=b/\b ≠ w.heap.size) R ((L'.set j y).set j yy))/\(ElC V8 Rg d g2 B2 U6 bc2 B3 U4 bc3/\jb V8 wd.heap.size c (.slice C0 oL oN) (.slice C1 uH oM)))->K _ V8) _ (Ai.out _ rfl);intro V8 qV;obtain ⟨h8,c8⟩:=qV;refine k_t hK c8 fun hHeld=>?_
          have Nc:Hid ((Ext w0 V8/\Frr V2 R V8)/\∃ L',RdL G k L n (j+1) L'/\xh V8 (fun b=>w0.heap.size<=b/\b ≠ w.heap.size) R L'):=hid ⟨h8.1,_,by rw [List.set_set]; exact Jc.out.step (by have:=Jh.out; omega) xN.out,h8.2⟩;clear hK K s0 s1 s2 s3 f0 f1 f2 f3 c8 h8 z4;refine w_d ?_;clear hHeld F9 Dy Gf iE PN Ai Y7;go_wp2_with fail
          go_roundw
          case rel=>exact ⟨j+1,by omega,by go_num,Nc⟩
          case measure=>simp only [intOf]; omega
         case ordB =>
          go_simp
          go_at_call 15
          refine (jal _ _ (Dy.out.ext Y7.out) (Gf.out.ext Y7.out) YO.out Gj.out (by omega) (by omega)).mono ?_;rintro e w3 ⟨v3,rfl,m3,x3⟩;obtain ⟨D2,dn2,dc2,D3,dc3,rfl,-⟩:=id m3.open_;have z3:Ext V7 w3:=Y7.out.trans x3;refine k_t hK (iE.out _ z3) fun hHeld=>?_
          clear hK K;refine r_1 5 fun K hK=>?_
          obtain ⟨e0,e1,e2,e3⟩:=PN.out _ z3;go_simp;refine k_t hK (iE.out _ z3) fun hHeld=>?_
          clear hK K e0 e1 e2 e3;refine r_1 14 fun K hK=>?_
          try unfold plV
          go_simp
          go_at_call 14
          refine (vaq _ _ (F9.out.ext z3) m3 HY.out (YO.out.mul Gj.out) (by omega) (by omega)).mono ?_;rintro e w4 ⟨v4,rfl,m4,x4⟩;obtain ⟨D4,dn4,dc4,D5,dc5,rfl,-⟩:=id m4.open_;have z4:Ext V7 w4:=z3.trans x4;refine k_t hK (iE.out _ z4) fun hHeld=>?_
          clear hK K;refine tk 15 ?_;have Ai:=hid (xU.out _ _ _ _ _ _ _ _ z4 (m4.mono fun b hb=>py z3.size hb));obtain ⟨s0,s1,s2,s3⟩:=PN.out _ z4;have f0:=(z4.frozen (p:=⟨R,j * 4,none⟩) pK.out).trans (mD.out _);have f1:=(z4.frozen (p:=⟨R,j * 4+1,none⟩) pK.out).trans (mD.out _);have f2:=(z4.frozen (p:=⟨R,j * 4+2,none⟩) pK.out).trans (mD.out _);have f3:=(z4.frozen (p:=⟨R,j * 4+3,none⟩) pK.out).trans (mD.out _);have xN:Hid (y.add (c.mul g2).z8=(qy G k L).getD j Pl.zero):=hid (by rw [bY.out]; rfl);clear xU m4 x4 m3 x3 z3;generalize y.add (c.mul g2).z8=yy at *;refine r_1 16 fun K hK=>?_
          unfold plV;go_simp;refine (?gB:∀ V8,(((Ext w0 V8/\Frr V2 R V8)/\xh V8 (fun b=>w0.heap.size<=b/\b ≠ w.heap.size) R ((L'.set j y).set j yy))/\(ElC V8 Rg d g2 B2 U6 bc2 B3 U4 bc3/\jb V8 wd.heap.size c (.slice C0 oL oN) (.slice C1 uH oM)))->K _ V8) _ (Ai.out _ rfl);intro V8 qV;obtain ⟨h8,c8⟩:=qV;refine k_t hK c8 fun hHeld=>?_
          have Nc:Hid ((Ext w0 V8/\Frr V2 R V8)/\∃ L',RdL G k L n (j+1) L'/\xh V8 (fun b=>w0.heap.size<=b/\b ≠ w.heap.size) R L'):=hid ⟨h8.1,_,by rw [List.set_set]; exact Jc.out.step (by have:=Jh.out; omega) xN.out,h8.2⟩;clear hK K s0 s1 s2 s3 f0 f1 f2 f3 c8 h8 z4;refine w_d ?_;clear hHeld F9 Dy Gf iE PN Ai Y7;go_wp2_with fail
          go_roundw
          case rel=>exact ⟨j+1,by omega,by go_num,Nc⟩
          case measure=>simp only [intOf]; omega
       · have ai4:¬ (k:Int)<=(j:Int):=by omega
         have ai5:(j:Int) < (k:Int):=by omega
         have HN7:Hid ((Ext w0 V7/\Frr V2 R V7)/\∃ L',RdL G k L n (j+1) L'/\xh V7 (fun b=>w0.heap.size<=b/\b ≠ w.heap.size) R L'):=hid ⟨H7.out.1,_,Jc.out.step hjb (by rw [jba qG.out hjb,if_neg Ov]; exact HYV.out),H7.out.2⟩;go_wp2_with fail
         go_roundw
         case rel=>exact ⟨j+1,by omega,by go_num,HN7⟩
         case measure=>simp only [intOf]; omega
     · have hje:j=M:=by omega
       have Oy:¬ (j:Int) < (M:Int):=by omega
       have HN:Hid (∃ L,RdS w0 w R w.heap.size F G n K EM DM Eg Dg k wr L):=hid (by
        obtain ⟨⟨Xo,Kz⟩,L',Iy,ae⟩:=HI.out;have hm:=Jh.out;rw [hje,hm.1] at Iy;have hL':=Iy.fin qG.out;obtain ⟨Ei,Di,aF,XX,XY⟩:=HS.out.fit;have JR:r=k+1:=by omega
        rw [JR,PJ] at XX XY;refine ⟨L',Xo,HF2.out.trans Kz,F6.out.far Kz (by omega),ae,Iy.1,?_,Ei+Eg,Di+Dg+2,?_,by omega,by omega⟩
        · rw [hL',<- HS.out.eq,JR,jq]
        · rw [hL']; exact ub4 PM.out aF k)
       have nG:i+1+k=K/\M=n+k:=by have:=Jh.out; omega
       clear HI;go_wp2_with fail
       go_roundw
       case rel=>exact ⟨i+1,k,M,nG.1,nG.2,by go_num,rfl,HN⟩
       case measure=>simp only [intOf]; omega
  · have hr0:r=0:=by omega
    have nG:¬ (i:Int) < (K:Int):=by omega
    obtain ⟨L,hS⟩:=HR.out;have hlen:=hS.len;have heq:=hS.eq;rw [hr0] at heq;have pJ:L=jq G K F:=heq;have HP:=hid (hS.row.mono (q':=fun b=>w0.heap.size<=b) fun b hb=>hb.1);have HXF:=hid hS.ext;have hNL:N=(jq G K F).length:=by rw [<- pJ]; omega
    have hNc:N<=cf:=by omega
    rw [pJ] at HP;clear hS hlen heq pJ HR H0 hN hir;go_wp2_with fail;exact bodyPost_ret (v:=.tuple #[.slice (some ⟨w.heap.size,0,none⟩) K K,.slice (some ⟨R,0,none⟩) (jq G K F).length cf]) (by simp [results,Tryz.results165,go_sem]) rfl ⟨.slice (some ⟨w.heap.size,0,none⟩) K K,cf,rfl,by rw [<- hNL]; exact hNc,Ua,HP.out,HXF.out⟩
theorem vb4 {w:World} {A B:Option Addr} {n f cf cg:Nat} (hf:f<=n) (eF:f<=cf) (Ua:cf<=9223372036854775807) (OI:n+1<=cg) (abb:cg<=9223372036854775807) (hn:n<=1000000) :
 Calls Tryz.prog 165 #[.slice A f cf,.slice B (n+1) cg] w fun e w'=>∃ v0,e=.returned (.tuple #[v0,.slice A f cf])/\Ext w w':=by
 obtain ⟨d,hd⟩:∃ d,f+d=n:=⟨n - f,by omega⟩;have HD:=hid hd;obtain ⟨V,dw,eQ,xG,-⟩:=uw 0 (by omega) (by omega) w;have lL:=hid eQ;have uN:IntKind.i64.wrap (((n:Int)+1) - 1)=(n:Int):=by rw [rk]; omega
 have yH:IntKind.i64.wrap ((f:Int) - (n:Int))=-(d:Int):=by rw [rk]; omega
 have hd0:max (-(d:Int)) 0=0:=by omega
 have eH:-(d:Int)<=0:=by omega
 clear hd eQ;go_enter Tryz.func165,Tryz.ntmps165;go_wp2_with fail
 go_loopw [0,23] (fun av iv wr=>iv=.int .i64 0/\av=.slice A f cf/\Hid (Ext w wr)) (fun _ _ _=>0)
 case atStart=>exact ⟨rfl,rfl,lL⟩
 case round =>
  obtain ⟨rfl,rfl,HR⟩:=hrel;go_wp2_with fail;exact bodyPost_ret (v:=.tuple #[.slice (some ⟨w.heap.size,0,none⟩) 0 0,.slice A f cf]) (by simp [results,Tryz.results165,go_sem]) rfl ⟨_,rfl,HR.out⟩
def kc3 (n:Int) (w:World) (e:Ending) (w':World):Prop:=e=.returned (.int .i64 n)/\Ext w w'
theorem ybh {w:World} {q:Nat->Prop} {L:List Pl} {A:Option Addr} {c:Nat} (hA:jd w q L A 0) (dD:∀ p ∈ L,p.Can) (hn:L.length<=1000000) :
 Calls Tryz.prog 164 #[.slice A L.length c] w (kc3 (if L.any Pl.zp then 2 else 0) w):=by
 have HA:=hid hA;have HC:=hid dD;obtain ⟨m,hm⟩:=n_m (L.length);have HM:=hid hm;obtain ⟨b,hb⟩:∃ b:Int,(if L.any Pl.zp then 2 else 0)=b:=⟨_,rfl⟩;have HB:=hid hb;rw [hm] at hn;rw [hm,hb];clear hA dD hm hb;go_enter Tryz.func164,Tryz.ntmps164;go_wp2_with fail
 go_loopw [7] (fun iv wr=>∃ k:Nat,k<=m/\iv=.int .i64 k/\Hid (Ext w wr/\∀ i (h:i < L.length),i < k->L[i].zp=false)) (fun iv _=>m - (intOf iv).toNat)
 case atStart=>exact ⟨0,pS _,rfl,hid ⟨Ext.refl _,fun i _ h=>by omega⟩⟩
 case round =>
  obtain ⟨k,hk,rfl,HR⟩:=hrel
  by_cases af:k < m
  · have hkl:k < L.length:=by rw [HM.out]; exact af
    obtain ⟨ad,C0,j0,g0,C1,j1,g1,rfl,ah,bP,bC⟩:=jd.ym HA.out k hkl;obtain ⟨a0,a1,a2,a3⟩:=bP.ext HR.out.1 (by rw [ja]; exact ah);have fZ:=hid (fun (W':World) (hx:Ext wr W')=>kab _ (bC.ext (HR.out.1.trans hx)) (HC.out _ (pt hkl)));have HG:Hid (∀ x,L[k]=x->x.zp=true->b=2):=hid fun x hx hz=>by
     rw [<- HB.out,if_pos (SU.2 ⟨L[k],pt hkl,by rw [hx]; exact hz⟩)]
    have HN:Hid (∀ x,L[k]=x->x.zp=false->∀ i (h:i < L.length),i < k+1->L[i].zp=false):=hid fun x hx hz i hi nG=>by
     by_cases e:i=k
     · subst e; rw [hx]; exact hz
     · exact HR.out.2 i hi (by omega)
    obtain ⟨x,hx⟩:=n_m (L[k])
    replace HG:=hid (HG.out x hx)
    replace HN:=hid (HN.out x hx)
    rw [hx] at a0 a1 fZ;have X1:=hid HR.out.1;have Ht:(k:Int) < (m:Int):=by omega
    unfold plV at fZ;clear bP bC ah hx HR hkl;go_wp2_with fail;clear a0 a1 a2 a3;refine (fZ.out _ ((Ext.refl _).alloc _)).mono ?_;rintro e w1 ⟨rfl,x1⟩;cases Zt:x.zp with
    | true =>
      have dE:=HG.out Zt;clear HG HN;have XF:=hid (X1.out.trans (((Ext.refl wr).alloc _).trans x1));go_wp2_with fail;subst dE;go_ret;exact ⟨rfl,XF.out⟩
    | false =>
      have zZ:=hid (And.intro (X1.out.trans (((Ext.refl wr).alloc _).trans x1)) (HN.out Zt));clear HG HN x1;go_wp2_with fail
      go_roundw
      case rel=>exact ⟨k+1,by omega,by go_num,zZ⟩
      case measure=>simp only [intOf]; omega
  · have aX:b=0:=by
     rw [<- HB.out,if_neg];intro h;obtain ⟨x,hx,hz⟩:=SU.1 h;obtain ⟨i,hi,rfl⟩:=tj hx;rw [HR.out.2 i hi (by have:=HM.out; omega)] at hz;cases hz
    have Ht:¬ (k:Int) < (m:Int):=by omega
    have XF:=hid HR.out.1;clear HR;go_wp2_with fail;subst aX;go_ret;exact ⟨rfl,XF.out⟩
end Go.Proofs.YtcepajijiabkmaaGreat
