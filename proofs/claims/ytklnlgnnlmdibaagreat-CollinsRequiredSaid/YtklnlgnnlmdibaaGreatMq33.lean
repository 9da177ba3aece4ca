/- Layer 24: pseudo.reduce. -/
import Derived.Test.YtklnlgnnlmdibaaGreatMq32
import Derived.Test.YtklnlgnnlmdibaaGreatMq24
set_option linter.unusedSimpArgs false
set_option linter.unusedVariables false
set_option maxRecDepth 100000
set_option maxHeartbeats 8000000
namespace Go.Proofs.YtklnlgnnlmdibaaGreat
open Lib (hid)
open Go.RowKit
structure RdS (w0 w : World) (R Q : Nat) (F G : List Pl) (n K EM DM Eg Dg : Nat) (r : Nat) (wr : World) (L : List Pl) : Prop where
 ext:Ext w0 wr
 far:Frr w R wr
 slack:xaj wr Q K
 row:xh wr (fun b=>w0.heap.size<=b/\b ≠ Q) R L
 len:L.length=n+r
 eq:uq G r L=uq G K F
 fit:∃ E D,(∀ c ∈ L,Fit c E D)/\E+r * Eg<=EM/\D+r * (Dg+2)<=DM
theorem vb3 {w0 w : World} {F G : List Pl} {R Rg cf cg n K EM DM E D Eg Dg : Nat} (aC : Ext w0 w) (hR : w0.heap.size <= R) (ak : Rg ≠ R) (hF : xh w (fun b => w0.heap.size <= b) R F) (hG : xh w (fun b => b ≠ R) Rg G) (YD : G.length = n + 1) (Vm : F.length = n + K) (hK : 1 <= K) (dZ : F.length <= cf) (Ux : cf <= 9223372036854775807) (O1 : G.length <= cg) (abX : cg <= 9223372036854775807) (hlen : n + K <= 1000000)
 (Uf:∀ c ∈ F,Fit c E D) (IX:∀ c ∈ G,Fit c Eg Dg) (hE:E+K * Eg<=EM) (hD:D+K * (Dg+2)<=DM) (hEM:EM<=400) (hDM:DM<=8796093000000) :
 Calls Tryz.prog 171 #[.slice (some ⟨R,0,none⟩) F.length cf,.slice (some ⟨Rg,0,none⟩) G.length cg] w fun e w'=>∃ v0 c',e=.returned (.tuple #[v0,.slice (some ⟨R,0,none⟩) (uq G K F).length c'])/\(uq G K F).length<=c'/\c'<=9223372036854775807/\xh w' (fun b=>w0.heap.size<=b) R (uq G K F)/\Ext w0 w':=by
 have ax:=hid aC;have HF:=hid (hF.turn (q':=fun b=>w0.heap.size<=b/\b ≠ w.heap.size) (Nat.le_refl _) (fun _ _ h=>h) rfl (fun b hb hq _=>⟨⟨hq,by omega⟩,rfl⟩));have HG:=hid hG;have qJ:=hid YD;have G9:=hid Vm;have WT:=hid Uf;have Qd:=hid IX;have gZ:=hF.1;obtain ⟨V,cu,eH,xW,ae⟩:=uw (K:Int) (by omega) (by omega) w;rw [Int.toNat_natCast] at cu ae;have gX:=ae (fun _=>True);have PO:=hid (xaj.of gX);rw [List.length_replicate] at PO;have H0:Hid (RdS w0 w R w.heap.size F G n K EM DM Eg Dg K V F):=hid ⟨aC.trans eH,(Frr.refl w R).ext eH,PO.out,HF.out.ext eH,Vm,rfl,E,D,Uf,hE,hD⟩;have uX:IntKind.i64.wrap (((n:Int)+1) - 1)=(n:Int):=by rw [IntKind.wrap_i64]; omega
 have AX:IntKind.i64.wrap (((n:Int)+(K:Int)) - (n:Int))=(K:Int):=by rw [IntKind.wrap_i64]; omega
 have hK0:(0:Int)<=(K:Int):=by omega
 rw [YD] at O1;rw [Vm] at dZ;rw [YD,Vm];clear aC hF hG YD Vm Uf IX hE hD ae gX eH PO HF;go_enter Tryz.func171,Tryz.ntmps171;go_wp2_with fail
 go_loopw [0,23] (fun av iv wr=>∃ i r N:Nat,i+r=K/\N=n+r/\iv=.int .i64 i/\av=.slice (some ⟨R,0,none⟩) N cf/\Hid (∃ L,RdS w0 w R w.heap.size F G n K EM DM Eg Dg r wr L)) (fun _ iv _=>K - (intOf iv).toNat)
 case atStart=>exact ⟨0,K,n+K,by omega,rfl,rfl,by go_num,hid ⟨_,H0.out⟩⟩
 case round =>
  obtain ⟨i,r,N,TK,hN,rfl,rfl,HR⟩:=hrel
  by_cases af:i < K
  · obtain ⟨L,hS⟩:=HR.out;obtain ⟨k,hk⟩:∃ k,k+1=r:=⟨r - 1,by omega⟩;obtain ⟨M,hM⟩:∃ M,M=n+k:=⟨_,rfl⟩;obtain ⟨K1,hK1⟩:∃ K1,K1+1=K:=⟨K - 1,by omega⟩;have mr:L.length=M+1:=by rw [hS.len]; omega
    obtain ⟨C0,oU,oW,C1,uM,oV,⟨r0,r1,r2,r3⟩,hpc⟩:=hS.row.el M (by omega);have O1:L.getD (n+k) Pl.zero=L[M]:=by rw [List.getD_eq_getElem?_getD,<- hM,List.getElem?_eq_getElem (by omega)]; rfl
    obtain ⟨c,hc⟩:=n_m (L[M]);rw [hc] at r0 r1 hpc O1;obtain ⟨V1,jY⟩:=n_m (wr.alloc (.cells #[.int .i64 c.lv,.bool c.neg,.slice C0 oU oW,.slice C1 uM oV] 35));have hx1:Ext wr V1:=by rw [<- jY]; exact (Ext.refl wr).alloc _
    have bG:jb V1 wr.heap.size c (.slice C0 oU oW) (.slice C1 uM oV):=by rw [<- jY]; exact jb.new wr c _ _ _
    have bU:V1.heap.size=wr.heap.size+1:=by rw [<- jY]; simp
    obtain ⟨V2,zT⟩:=n_m (((((V1.setCell ⟨w.heap.size,k * 4,none⟩ (.int .i64 c.lv)).setCell ⟨w.heap.size,k * 4+1,none⟩ (.bool c.neg)).setCell ⟨w.heap.size,k * 4+2,none⟩ (.slice C0 oU oW)).setCell ⟨w.heap.size,k * 4+3,none⟩ (.slice C1 uM oV)));obtain ⟨⟨u0,u1,u2,u3,q0,q1,q2,q3⟩,Q4,jW⟩:=(hS.slack.ext hx1).put (by omega:k < K) c.lv c.neg C0 C1 oU oW uM oV zT.symm;have pY:=((hS.slack.ext hx1).2.1);have f0:=pY (k * 4);have f1:=pY (k * 4+1);have f2:=pY (k * 4+2);have f3:=pY (k * 4+3);obtain ⟨b0,b1,b2,b3⟩:=id bG;have jU:=hS.slack.1;have Hy:=ax.out.size;have HE2:Hid (Ext w0 V2):=hid (by rw [<- zT]; exact (((((hS.ext.trans hx1)).setCell Hy _).setCell Hy _).setCell Hy _).setCell Hy _);have yG:=hid (jW.row (hS.row.ext hx1) (by omega) (fun b hb=>hb.2));have ZJ:=hid (((hS.far.ext hx1).over jW (Nat.le_refl _)).row HG.out ak (fun b hb=>hb));have Xb:=hid (jW.pl (hpc.ext hx1) (fun b hb=>hb.1.2));have HF2:=hid ((hS.far.ext hx1).over jW (Nat.le_refl _));have yN:Hid (jb V2 wr.heap.size c (.slice C0 oU oW) (.slice C1 uM oV)):=hid ⟨(jW.cell (by omega) (by omega)).trans b0,(jW.cell (by omega) (by omega)).trans b1,(jW.cell (by omega) (by omega)).trans b2,(jW.cell (by omega) (by omega)).trans b3⟩;have Gy:=hid Q4;have jF:V2.heap.size=wr.heap.size+1:=by rw [<- zT,<- bU]; simp [World.setCell]
    have HS:=hid hS;have HCG:=hid O1;have hwa:IntKind.i64.wrap ((K:Int) - 1)=(K1:Int):=by rw [IntKind.wrap_i64]; omega
    have hwb:IntKind.i64.wrap ((K1:Int) - (i:Int))=(k:Int):=by rw [IntKind.wrap_i64]; omega
    have hwc:IntKind.i64.wrap ((n:Int)+(k:Int))=(M:Int):=by rw [IntKind.wrap_i64]; omega
    have hMN:(M:Int) < (N:Int):=by omega
    have hMc:(M:Int)<=(cf:Int):=by omega
    have hkK:(k:Int) < (K:Int):=by omega
    have hiK:(i:Int) < (K:Int):=by omega
    have Sm:wr.heap.size ≠ w.heap.size:=by omega
    have Jz:=hid (And.intro hM (And.intro hN (And.intro hk hK1)));clear hS hpc O1 hc hx1 bG Q4 jW pY HR H0 hM hN hk hK1 mr;go_wp2_with fail;clear jY zT cu r0 r1 r2 r3 q0 q1 q2 q3 f0 f1 f2 f3 b0 b1 b2 b3;obtain ⟨wd,rfl⟩:∃ wd,wd=wr:=⟨wr,rfl⟩;have iV:Hid ((Ext w0 V2/\Frr V2 R V2)/\∃ L',RdL G k L n 0 L'/\xh V2 (fun b=>w0.heap.size<=b/\b ≠ w.heap.size) R L'):=hid ⟨⟨HE2.out,Frr.refl _ _⟩,_,RdL.start (by rw [HS.out.len]; have:=Jz.out; omega),yG.out.take _⟩
    go_loopw [47] (fun jv wi=>∃ j,j<=M/\jv=.int .i64 j/\Hid ((Ext w0 wi/\Frr V2 R wi)/\∃ L',RdL G k L n j L'/\xh wi (fun b=>w0.heap.size<=b/\b ≠ w.heap.size) R L')) (fun jv _=>M - (intOf jv).toNat)
    case atStart=>exact ⟨0,Nat.zero_le _,rfl,iV⟩
    case round =>
     obtain ⟨j,hj,rfl,HI⟩:=hrel
     by_cases hjM:j < M
     · obtain ⟨⟨Yd,KU⟩,L',Jd,ae⟩:=HI.out;have lJ:j < n+k:=by have:=Jz.out; omega
       have YC:j < L'.length:=by rw [Jd.1]; exact lJ
       obtain ⟨A0,an0,ac0,A1,an1,ac1,Dp,lU⟩:=ae.el j YC;have LY:L'[j]=L.getD j Pl.zero:=by rw [Jd.2 j YC,if_neg (Nat.lt_irrefl _)]
       have IP:=KU.row ZJ.out ak (fun b hb=>hb);obtain ⟨B0,bn0,bc0,B1,bn1,bc1,LC,pF⟩:=IP.el n (by rw [qJ.out]; omega);have iK:G[n]'(by rw [qJ.out]; omega)=G.getD n Pl.zero:=by rw [List.getD_eq_getElem?_getD,List.getElem?_eq_getElem (by rw [qJ.out]; omega)]; rfl
       obtain ⟨Ei,Di,aB,YG,YH⟩:=HS.out.fit;have Kq:r=k+1:=by have:=Jz.out; omega
       rw [Kq,Nat.succ_mul] at YG YH;have OX:Fit L'[j] Ei Di:=by rw [LY]; exact yad aB j
       have uG:Fit (G[n]'(by rw [qJ.out]; omega)) Eg Dg:=by rw [iK]; exact yad Qd.out n
       have Bg:Fit c Ei Di:=by rw [<- HCG.out]; exact yad aB _
       obtain ⟨a,ha⟩:=n_m (L'[j]);obtain ⟨g,hg⟩:=n_m (G[n]'(by rw [qJ.out]; omega));rw [ha] at LY OX Dp lU;rw [hg] at iK uG LC pF;have hRi:=ae.1;have hVi:=KU.size;have U8:=IP.1;have AA:=hid (fun (W':World) (hx:Ext wr W')=>Dp.ext hRi hx);have WX:=hid (fun (W':World) (hx:Ext wr W')=>LC.ext U8 hx);have rP:=hid lU;have GK:=hid pF;have WV:=hid OX;have NU:=hid uG;have ZL:=hid Bg;have dF:=hid ae;have wI:=hid Jd;have HIE:=hid Yd;have HIF:=hid KU;have Xl:=hid LY;have HGl:=hid iK;have HLJ:=hid YC;have akg:(j:Int) < (M:Int):=by omega
       have nO:(n:Int) < (n:Int)+1:=by omega
       have Y0:Hid (Ext wr wr.drew):=hid (Ext.refl wr).drew;have hEb:Ei+Eg<=400:=by omega
       have hDb:Di+Dg+2<=8796093000000:=by omega
       have V4:=hid hRi;have kY:=hid ae.2.1;clear Yd KU Jd ae Dp lU LY IP LC pF iK aB OX uG Bg ha hg YG YH YC lJ Kq HI iV hRi
       have nJ:Hid (∀ V y D0 dU dW D1 kX dV,Ext wr V->PlV V (fun b=>wr.heap.size<=b) y (plV y (.slice D0 dU dW) (.slice D1 kX dV))->∀ V7,V7=(((V.setCell ⟨R,j * 4,none⟩ (.int .i64 y.lv)).setCell ⟨R,j * 4+1,none⟩ (.bool y.neg)).setCell ⟨R,j * 4+2,none⟩ (.slice D0 dU dW)).setCell ⟨R,j * 4+3,none⟩ (.slice D1 kX dV) ->
        ((Ext w0 V7/\Frr V2 R V7)/\xh V7 (fun b=>w0.heap.size<=b/\b ≠ w.heap.size) R (L'.set j y))/\ElC V7 Rg n g B0 bn0 bc0 B1 bn1 bc1):=hid (by
        intro V y D0 dU dW D1 kX dV dM hp V7 mf;obtain ⟨p1,p2,p3,p4⟩:=Frr.put (HIE.out.trans dM) (HIF.out.ext dM) (dF.out.ext dM) hR HLJ.out (hp.mono fun b hb=>⟨⟨by omega,by omega⟩,by omega⟩) mf
        exact ⟨⟨⟨p1,p3⟩,p4⟩,(WX.out V dM).far (Nat.lt_of_lt_of_le U8 dM.size) p2 ak⟩)
       go_upto_region 14 with fail;refine wp_region_held_drew (S:=fun W'=>ElC W' Rg n g B0 bn0 bc0 B1 bn1 bc1) (by kernel_rfl) (WX.out _ Y0.out) (fun hHeld=>?_);refine tk 0 ?_;refine tk 1 ?_;refine tk 2 ?_;refine tk 3 ?_;refine tk 4 ?_;refine tk 6 ?_;refine tk 7 ?_;refine tk 8 ?_;refine tk 9 ?_ (hy:=Or.inl ⟨by rfl,by intro w' aK; obtain ⟨k1,k2,k3,k4⟩:=aK; go_simp; (try (with_reducible rfl))⟩);obtain ⟨e0,e1,e2,e3⟩:=AA.out _ Y0.out;refine r_1 5 fun K hK=>?_
       go_simp;refine k_t hK (WX.out _ Y0.out) fun hHeld=>?_
       clear hK K;refine r_1 10 fun K hK=>?_
       go_simp
       go_at_call 17
       refine (qak _ _ (rP.out.ext Y0.out) (GK.out.ext Y0.out) WV.out NU.out (by omega) (by omega)).mono ?_;rintro e w2 ⟨v2,rfl,m2,x2⟩;obtain ⟨D0,dU,dW,D1,dV,rfl,-⟩:=id m2.open_;have z2:Ext wr w2:=Y0.out.trans x2;refine k_t hK (WX.out _ z2) fun hHeld=>?_
       clear hK K e0 e1 e2 e3;refine tk 11 ?_;have ZM:=hid (nJ.out _ _ _ _ _ _ _ _ z2 (m2.mono fun b hb=>Nat.le_trans Y0.out.size hb));obtain ⟨s0,s1,s2,s3⟩:=AA.out _ z2;have f0:=(z2.frozen (p:=⟨R,j * 4,none⟩) V4.out).trans (kY.out _);have f1:=(z2.frozen (p:=⟨R,j * 4+1,none⟩) V4.out).trans (kY.out _);have f2:=(z2.frozen (p:=⟨R,j * 4+2,none⟩) V4.out).trans (kY.out _);have f3:=(z2.frozen (p:=⟨R,j * 4+3,none⟩) V4.out).trans (kY.out _);have HY:Hid (Fit (a.mul g) (Ei+Eg) (Di+Dg)):=hid (WV.out.mul NU.out);have HYV:Hid (a.mul g=(L.getD j Pl.zero).mul (G.getD n Pl.zero)):=hid (by rw [Xl.out,HGl.out]);clear nJ m2 x2;generalize a.mul g=y at *;refine r_1 12 fun K hK=>?_
       unfold plV;go_simp;refine (?g9:∀ V7,(((Ext w0 V7/\Frr V2 R V7)/\xh V7 (fun b=>w0.heap.size<=b/\b ≠ w.heap.size) R (L'.set j y))/\ElC V7 Rg n g B0 bn0 bc0 B1 bn1 bc1)->K _ V7) _ (ZM.out _ rfl);intro V7 mf;obtain ⟨h7,c7⟩:=mf;refine k_t hK c7 fun hHeld=>?_
       have H7:=hid h7;clear hK K s0 s1 s2 s3 f0 f1 f2 f3 c7 h7 z2;refine w_d ?_;clear hHeld AA WX rP GK dF HIE HIF kY V4 ZM Y0;have hjb:j < n+k:=by have:=Jz.out; omega
       by_cases OQ:k<=j
       · obtain ⟨d,hd⟩:∃ d,d=j - k:=⟨_,rfl⟩;have xO:d < n+1:=by omega
         have wY:=H7.out.2;obtain ⟨E0,en0,tV,E1,Vy,oQ,hey,Ig⟩:=wY.el j (by rw [List.length_set]; exact HLJ.out);simp only [List.getElem_set_self] at hey Ig;have IP:=H7.out.1.2.row ZJ.out ak (fun b hb=>hb);obtain ⟨B2,VC,bc2,B3,VA,bc3,LC,pF⟩:=IP.el d (by rw [qJ.out]; omega);have iK:G[d]'(by rw [qJ.out]; omega)=G.getD d Pl.zero:=by rw [List.getD_eq_getElem?_getD,List.getElem?_eq_getElem (by rw [qJ.out]; omega)]; rfl
         have Lp:Fit (G[d]'(by rw [qJ.out]; omega)) Eg Dg:=by rw [iK]; exact yad Qd.out d
         obtain ⟨g2,gJ⟩:=n_m (G[d]'(by rw [qJ.out]; omega));rw [gJ] at iK Lp LC pF;have dI:Hid ((qy G k L).getD j Pl.zero=y.sub (c.mul g2)):=hid (by rw [za7 qJ.out hjb,if_pos OQ,HYV.out,HCG.out,iK,hd]);have pO:=hid wY.1;have mJ:=hid wY.2.1;have acy:=IP.1;have akP:=H7.out.1.2.size;have Qe:=hid (fun (W':World) (hx:Ext V7 W')=>hey.ext pO.out hx);have GH:=hid Ig;have GI:=hid pF;have GZ:=hid Lp;have DX:=hid (H7.out.1.2.pl Xb.out (fun b hb=>hb.2));have HB7:Hid (jb V7 wd.heap.size c (.slice C0 oU oW) (.slice C1 uM oV)):=by
          obtain ⟨b0,b1,b2,b3⟩:=yN.out;have hf:=H7.out.1.2;exact hid ⟨(hf.cell (by omega) (by omega)).trans b0,(hf.cell (by omega) (by omega)).trans b1,(hf.cell (by omega) (by omega)).trans b2,(hf.cell (by omega) (by omega)).trans b3⟩
         have iF:Hid (∀ W',Ext V7 W'->(ElC W' Rg d g2 B2 VC bc2 B3 VA bc3/\jb W' wd.heap.size c (.slice C0 oU oW) (.slice C1 uM oV))):=hid fun W' hx=>⟨LC.ext acy hx,HB7.out.ext hx (by omega)⟩
         have yH:Hid (∀ V y' D0 dU dW D1 kX dV,Ext V7 V->PlV V (fun b=>V7.heap.size<=b) y' (plV y' (.slice D0 dU dW) (.slice D1 kX dV))->∀ V8,V8=(((V.setCell ⟨R,j * 4,none⟩ (.int .i64 y'.lv)).setCell ⟨R,j * 4+1,none⟩ (.bool y'.neg)).setCell ⟨R,j * 4+2,none⟩ (.slice D0 dU dW)).setCell ⟨R,j * 4+3,none⟩ (.slice D1 kX dV) ->
          ((Ext w0 V8/\Frr V2 R V8)/\xh V8 (fun b=>w0.heap.size<=b/\b ≠ w.heap.size) R ((L'.set j y).set j y'))/\(ElC V8 Rg d g2 B2 VC bc2 B3 VA bc3/\jb V8 wd.heap.size c (.slice C0 oU oW) (.slice C1 uM oV))):=hid (by
          intro V y' D0 dU dW D1 kX dV dM hp V8 qX;obtain ⟨p1,p2,p3,p4⟩:=Frr.put (H7.out.1.1.trans dM) (H7.out.1.2.ext dM) (H7.out.2.ext dM) hR (by rw [List.length_set]; exact HLJ.out) (hp.mono fun b hb=>⟨⟨by omega,by omega⟩,by have:=pO.out; omega⟩) qX;obtain ⟨s1,s2⟩:=iF.out V dM;have xW:=dM.size;obtain ⟨b0,b1,b2,b3⟩:=s2
          exact ⟨⟨⟨p1,p3⟩,p4⟩,s1.far (by omega) p2 ak,(p2.cell (by omega) (by omega)).trans b0,(p2.cell (by omega) (by omega)).trans b1,(p2.cell (by omega) (by omega)).trans b2,(p2.cell (by omega) (by omega)).trans b3⟩)
         have akc:(k:Int)<=(j:Int):=by omega
         have hwd:IntKind.i64.wrap ((j:Int) - (k:Int))=(d:Int):=by rw [IntKind.wrap_i64]; omega
         have akx:(d:Int) < (n:Int)+1:=by omega
         have Y7:Hid (Ext V7 V7.drew):=hid (Ext.refl V7).drew;clear hd wY hey Ig IP LC pF iK Lp gJ;go_upto_region 16 with fail;refine wp_region_held_drew (S:=fun W'=>ElC W' Rg d g2 B2 VC bc2 B3 VA bc3/\jb W' wd.heap.size c (.slice C0 oU oW) (.slice C1 uM oV)) (by kernel_rfl) (iF.out _ Y7.out) (fun hHeld=>?_);refine tk 0 ?_;refine tk 1 ?_;refine tk 2 ?_;refine tk 3 ?_;refine tk 4 ?_;refine tk 6 ?_ (hy:=Or.inl ⟨by rfl,by intro w' aK; obtain ⟨⟨k1,k2,k3,k4⟩,k5,k6,k7,k8⟩:=aK; go_simp; (try (with_reducible rfl))⟩);refine tk 7 ?_;refine tk 8 ?_;refine tk 9 ?_;refine tk 10 ?_;refine tk 11 ?_;refine tk 12 ?_ (hy:=Or.inl ⟨by rfl,by intro w' aK; obtain ⟨⟨k1,k2,k3,k4⟩,k5,k6,k7,k8⟩:=aK; go_simp; (try (with_reducible rfl))⟩);refine r_2 5 13 (fun K hK=>?ordA) fun K hK=>?ordB
         case ordA =>
          obtain ⟨e0,e1,e2,e3⟩:=Qe.out _ Y7.out;go_simp;refine k_t hK (iF.out _ Y7.out) fun hHeld=>?_
          clear hK K e0 e1 e2 e3;refine r_1 13 fun K hK=>?_
          go_simp
          go_at_call 17
          refine (qak _ _ (DX.out.ext Y7.out) (GI.out.ext Y7.out) ZL.out GZ.out (by omega) (by omega)).mono ?_;rintro e w3 ⟨v3,rfl,m3,x3⟩;obtain ⟨D2,dn2,dc2,D3,dc3,rfl,-⟩:=id m3.open_;have z3:Ext V7 w3:=Y7.out.trans x3;refine k_t hK (iF.out _ z3) fun hHeld=>?_
          clear hK K;refine r_1 14 fun K hK=>?_
          try unfold plV
          go_simp
          go_at_call 29
          refine (yao _ _ (GH.out.ext z3) m3 HY.out (ZL.out.mul GZ.out) (by omega) (by omega)).mono ?_;rintro e w4 ⟨v4,rfl,m4,x4⟩;obtain ⟨D4,dn4,dc4,D5,dc5,rfl,-⟩:=id m4.open_;have z4:Ext V7 w4:=z3.trans x4;refine k_t hK (iF.out _ z4) fun hHeld=>?_
          clear hK K;refine tk 15 ?_;have Az:=hid (yH.out _ _ _ _ _ _ _ _ z4 (m4.mono fun b hb=>Nat.le_trans z3.size hb));obtain ⟨s0,s1,s2,s3⟩:=Qe.out _ z4;have f0:=(z4.frozen (p:=⟨R,j * 4,none⟩) pO.out).trans (mJ.out _);have f1:=(z4.frozen (p:=⟨R,j * 4+1,none⟩) pO.out).trans (mJ.out _);have f2:=(z4.frozen (p:=⟨R,j * 4+2,none⟩) pO.out).trans (mJ.out _);have f3:=(z4.frozen (p:=⟨R,j * 4+3,none⟩) pO.out).trans (mJ.out _);have Ae:Hid (y.add (c.mul g2).opp=(qy G k L).getD j Pl.zero):=hid (by rw [dI.out]; rfl);clear yH m4 x4 m3 x3 z3;generalize y.add (c.mul g2).opp=yy at *;refine r_1 16 fun K hK=>?_
          unfold plV;go_simp;refine (?gA:∀ V8,(((Ext w0 V8/\Frr V2 R V8)/\xh V8 (fun b=>w0.heap.size<=b/\b ≠ w.heap.size) R ((L'.set j y).set j yy))/\(ElC V8 Rg d g2 B2 VC bc2 B3 VA bc3/\jb V8 wd.heap.size c (.slice C0 oU oW) (.slice C1 uM oV)))->K _ V8) _ (Az.out _ rfl);intro V8 qX;obtain ⟨h8,c8⟩:=qX;refine k_t hK c8 fun hHeld=>?_
          have NH:Hid ((Ext w0 V8/\Frr V2 R V8)/\∃ L',RdL G k L n (j+1) L'/\xh V8 (fun b=>w0.heap.size<=b/\b ≠ w.heap.size) R L'):=hid ⟨h8.1,_,by rw [List.set_set]; exact wI.out.step (by have:=Jz.out; omega) Ae.out,h8.2⟩;clear hK K s0 s1 s2 s3 f0 f1 f2 f3 c8 h8 z4;refine w_d ?_;clear hHeld GH DX GI iF Qe Az Y7;go_wp2_with fail
          go_roundw
          case rel=>exact ⟨j+1,by omega,by go_num,NH⟩
          case measure=>simp only [intOf]; omega
         case ordB =>
          go_simp
          go_at_call 17
          refine (qak _ _ (DX.out.ext Y7.out) (GI.out.ext Y7.out) ZL.out GZ.out (by omega) (by omega)).mono ?_;rintro e w3 ⟨v3,rfl,m3,x3⟩;obtain ⟨D2,dn2,dc2,D3,dc3,rfl,-⟩:=id m3.open_;have z3:Ext V7 w3:=Y7.out.trans x3;refine k_t hK (iF.out _ z3) fun hHeld=>?_
          clear hK K;refine r_1 5 fun K hK=>?_
          obtain ⟨e0,e1,e2,e3⟩:=Qe.out _ z3;go_simp;refine k_t hK (iF.out _ z3) fun hHeld=>?_
          clear hK K e0 e1 e2 e3;refine r_1 14 fun K hK=>?_
          try unfold plV
          go_simp
          go_at_call 29
          refine (yao _ _ (GH.out.ext z3) m3 HY.out (ZL.out.mul GZ.out) (by omega) (by omega)).mono ?_;rintro e w4 ⟨v4,rfl,m4,x4⟩;obtain ⟨D4,dn4,dc4,D5,dc5,rfl,-⟩:=id m4.open_;have z4:Ext V7 w4:=z3.trans x4;refine k_t hK (iF.out _ z4) fun hHeld=>?_
          clear hK K;refine tk 15 ?_;have Az:=hid (yH.out _ _ _ _ _ _ _ _ z4 (m4.mono fun b hb=>Nat.le_trans z3.size hb));obtain ⟨s0,s1,s2,s3⟩:=Qe.out _ z4;have f0:=(z4.frozen (p:=⟨R,j * 4,none⟩) pO.out).trans (mJ.out _);have f1:=(z4.frozen (p:=⟨R,j * 4+1,none⟩) pO.out).trans (mJ.out _);have f2:=(z4.frozen (p:=⟨R,j * 4+2,none⟩) pO.out).trans (mJ.out _);have f3:=(z4.frozen (p:=⟨R,j * 4+3,none⟩) pO.out).trans (mJ.out _);have Ae:Hid (y.add (c.mul g2).opp=(qy G k L).getD j Pl.zero):=hid (by rw [dI.out]; rfl);clear yH m4 x4 m3 x3 z3;generalize y.add (c.mul g2).opp=yy at *;refine r_1 16 fun K hK=>?_
          unfold plV;go_simp;refine (?gB:∀ V8,(((Ext w0 V8/\Frr V2 R V8)/\xh V8 (fun b=>w0.heap.size<=b/\b ≠ w.heap.size) R ((L'.set j y).set j yy))/\(ElC V8 Rg d g2 B2 VC bc2 B3 VA bc3/\jb V8 wd.heap.size c (.slice C0 oU oW) (.slice C1 uM oV)))->K _ V8) _ (Az.out _ rfl);intro V8 qX;obtain ⟨h8,c8⟩:=qX;refine k_t hK c8 fun hHeld=>?_
          have NH:Hid ((Ext w0 V8/\Frr V2 R V8)/\∃ L',RdL G k L n (j+1) L'/\xh V8 (fun b=>w0.heap.size<=b/\b ≠ w.heap.size) R L'):=hid ⟨h8.1,_,by rw [List.set_set]; exact wI.out.step (by have:=Jz.out; omega) Ae.out,h8.2⟩;clear hK K s0 s1 s2 s3 f0 f1 f2 f3 c8 h8 z4;refine w_d ?_;clear hHeld GH DX GI iF Qe Az Y7;go_wp2_with fail
          go_roundw
          case rel=>exact ⟨j+1,by omega,by go_num,NH⟩
          case measure=>simp only [intOf]; omega
       · have aka:¬ (k:Int)<=(j:Int):=by omega
         have akb:(j:Int) < (k:Int):=by omega
         have HN7:Hid ((Ext w0 V7/\Frr V2 R V7)/\∃ L',RdL G k L n (j+1) L'/\xh V7 (fun b=>w0.heap.size<=b/\b ≠ w.heap.size) R L'):=hid ⟨H7.out.1,_,wI.out.step hjb (by rw [za7 qJ.out hjb,if_neg OQ]; exact HYV.out),H7.out.2⟩;go_wp2_with fail
         go_roundw
         case rel=>exact ⟨j+1,by omega,by go_num,HN7⟩
         case measure=>simp only [intOf]; omega
     · have TI:j=M:=by omega
       have Ew:¬ (j:Int) < (M:Int):=by omega
       have HN:Hid (∃ L,RdS w0 w R w.heap.size F G n K EM DM Eg Dg k wr L):=hid (by
        obtain ⟨⟨Yd,KU⟩,L',Jd,ae⟩:=HI.out;have hm:=Jz.out;rw [TI,hm.1] at Jd;have hL':=Jd.fin qJ.out;obtain ⟨Ei,Di,aB,YG,YH⟩:=HS.out.fit;have Kq:r=k+1:=by omega
        rw [Kq,Nat.succ_mul] at YG YH;refine ⟨L',Yd,HF2.out.trans KU,Gy.out.far KU (by omega),ae,Jd.1,?_,Ei+Eg,Di+Dg+2,?_,by omega,by omega⟩
        · rw [hL',<- HS.out.eq,Kq,uq]
        · rw [hL']; exact wbu Qd.out aB k)
       have oM:i+1+k=K/\M=n+k:=by have:=Jz.out; omega
       clear HI;go_wp2_with fail
       go_roundw
       case rel=>exact ⟨i+1,k,M,oM.1,oM.2,by go_num,rfl,HN⟩
       case measure=>simp only [intOf]; omega
  · have hr0:r=0:=by omega
    have oM:¬ (i:Int) < (K:Int):=by omega
    obtain ⟨L,hS⟩:=HR.out;have hlen:=hS.len;have heq:=hS.eq;rw [hr0] at heq;have pM:L=uq G K F:=heq;have HP:=hid (hS.row.mono (q':=fun b=>w0.heap.size<=b) fun b hb=>hb.1);have HXF:=hid hS.ext;have hNL:N=(uq G K F).length:=by rw [<- pM]; omega
    have hNc:N<=cf:=by omega
    rw [pM] at HP;clear hS hlen heq pM HR H0 hN TK;go_wp2_with fail;exact bodyPost_ret (v:=.tuple #[.slice (some ⟨w.heap.size,0,none⟩) K K,.slice (some ⟨R,0,none⟩) (uq G K F).length cf]) (by simp [results,Tryz.results171,go_sem]) rfl ⟨.slice (some ⟨w.heap.size,0,none⟩) K K,cf,rfl,by rw [<- hNL]; exact hNc,Ux,HP.out,HXF.out⟩
theorem gbu {w:World} {A B:Option Addr} {n f cf cg:Nat} (hf:f<=n) (dZ:f<=cf) (Ux:cf<=9223372036854775807) (O1:n+1<=cg) (abX:cg<=9223372036854775807) (hn:n<=1000000) :
 Calls Tryz.prog 171 #[.slice A f cf,.slice B (n+1) cg] w fun e w'=>∃ v0,e=.returned (.tuple #[v0,.slice A f cf])/\Ext w w':=by
 obtain ⟨d,hd⟩:∃ d,f+d=n:=⟨n - f,by omega⟩;have HD:=hid hd;obtain ⟨V,cu,eH,xW,-⟩:=uw 0 (by omega) (by omega) w;have lL:=hid eH;have uX:IntKind.i64.wrap (((n:Int)+1) - 1)=(n:Int):=by rw [IntKind.wrap_i64]; omega
 have AX:IntKind.i64.wrap ((f:Int) - (n:Int))=-(d:Int):=by rw [IntKind.wrap_i64]; omega
 have hd0:max (-(d:Int)) 0=0:=by omega
 have eG:-(d:Int)<=0:=by omega
 clear hd eH;go_enter Tryz.func171,Tryz.ntmps171;go_wp2_with fail
 go_loopw [0,23] (fun av iv wr=>iv=.int .i64 0/\av=.slice A f cf/\Hid (Ext w wr)) (fun _ _ _=>0)
 case atStart=>exact ⟨rfl,rfl,lL⟩
 case round =>
  obtain ⟨rfl,rfl,HR⟩:=hrel;go_wp2_with fail;exact bodyPost_ret (v:=.tuple #[.slice (some ⟨w.heap.size,0,none⟩) 0 0,.slice A f cf]) (by simp [results,Tryz.results171,go_sem]) rfl ⟨_,rfl,HR.out⟩
def kcq (n:Int) (w:World) (e:Ending) (w':World):Prop:=e=.returned (.int .i64 n)/\Ext w w'
theorem qbc {w:World} {q:Nat->Prop} {L:List Pl} {A:Option Addr} {c:Nat} (hA:jc w q L A 0) (dw:∀ p ∈ L,p.Can) (hn:L.length<=1000000) :
 Calls Tryz.prog 170 #[.slice A L.length c] w (kcq (if L.any Pl.isZ then 2 else 0) w):=by
 have HA:=hid hA;have HC:=hid dw;obtain ⟨m,hm⟩:=n_m (L.length);have HM:=hid hm;obtain ⟨b,hb⟩:∃ b:Int,(if L.any Pl.isZ then 2 else 0)=b:=⟨_,rfl⟩;have HB:=hid hb;rw [hm] at hn;rw [hm,hb];clear hA dw hm hb;go_enter Tryz.func170,Tryz.ntmps170;go_wp2_with fail
 go_loopw [7] (fun iv wr=>∃ k:Nat,k<=m/\iv=.int .i64 k/\Hid (Ext w wr/\∀ i (h:i < L.length),i < k->L[i].isZ=false)) (fun iv _=>m - (intOf iv).toNat)
 case atStart=>exact ⟨0,Nat.zero_le _,rfl,hid ⟨Ext.refl _,fun i _ h=>by omega⟩⟩
 case round =>
  obtain ⟨k,hk,rfl,HR⟩:=hrel
  by_cases af:k < m
  · have hkl:k < L.length:=by rw [HM.out]; exact af
    obtain ⟨ad,C0,j0,g0,C1,j1,g1,rfl,ah,bY,aW⟩:=jc.kid HA.out k hkl;obtain ⟨a0,a1,a2,a3⟩:=bY.ext HR.out.1 (by rw [ja]; exact ah);have gU:=hid (fun (W':World) (hx:Ext wr W')=>uab _ (aW.ext (HR.out.1.trans hx)) (HC.out _ (List.getElem_mem hkl)));have HG:Hid (∀ x,L[k]=x->x.isZ=true->b=2):=hid fun x hx hz=>by
     rw [<- HB.out,if_pos (List.any_eq_true.2 ⟨L[k],List.getElem_mem hkl,by rw [hx]; exact hz⟩)]
    have HN:Hid (∀ x,L[k]=x->x.isZ=false->∀ i (h:i < L.length),i < k+1->L[i].isZ=false):=hid fun x hx hz i hi oM=>by
     by_cases e:i=k
     · subst e; rw [hx]; exact hz
     · exact HR.out.2 i hi (by omega)
    obtain ⟨x,hx⟩:=n_m (L[k])
    replace HG:=hid (HG.out x hx)
    replace HN:=hid (HN.out x hx)
    rw [hx] at a0 a1 gU;have X1:=hid HR.out.1;have Iy:(k:Int) < (m:Int):=by omega
    unfold plV at gU;clear bY aW ah hx HR hkl;go_wp2_with fail;clear a0 a1 a2 a3;refine (gU.out _ ((Ext.refl _).alloc _)).mono ?_;rintro e w1 ⟨rfl,x1⟩;cases hxz:x.isZ with
    | true =>
      have dA:=HG.out hxz;clear HG HN;have XF:=hid (X1.out.trans (((Ext.refl wr).alloc _).trans x1));go_wp2_with fail;subst dA;go_ret;exact ⟨rfl,XF.out⟩
    | false =>
      have yG:=hid (And.intro (X1.out.trans (((Ext.refl wr).alloc _).trans x1)) (HN.out hxz));clear HG HN x1;go_wp2_with fail
      go_roundw
      case rel=>exact ⟨k+1,by omega,by go_num,yG⟩
      case measure=>simp only [intOf]; omega
  · have aV:b=0:=by
     rw [<- HB.out,if_neg];intro h;obtain ⟨x,hx,hz⟩:=List.any_eq_true.1 h;obtain ⟨i,hi,rfl⟩:=List.getElem_of_mem hx;rw [HR.out.2 i hi (by have:=HM.out; omega)] at hz;cases hz
    have Iy:¬ (k:Int) < (m:Int):=by omega
    have XF:=hid HR.out.1;clear HR;go_wp2_with fail;subst aV;go_ret;exact ⟨rfl,XF.out⟩
end Go.Proofs.YtklnlgnnlmdibaaGreat
