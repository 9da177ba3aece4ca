/- Layer 24: pseudo.reduce. -/
import Derived.Test.YtcepajijiabkmaaGreatMq31
import Derived.Test.YtcepajijiabkmaaGreatMq23
set_option linter.unusedSimpArgs false
set_option linter.unusedVariables false
set_option maxRecDepth 100000
set_option maxHeartbeats 8000000
namespace Go.Proofs.YtcepajijiabkmaaGreat
open Lib (hid)
open Go.RowKit
structure RdS (w0 w : World) (R Q : Nat) (F G : List Pl) (n K EM DM Eg Dg : Nat) (r : Nat) (wr : World) (L : List Pl) : Prop where
 ext:Ext w0 wr
 far:Frr w R wr
 slack:xaj wr Q K
 row:zi wr (fun b=>w0.heap.size<=b/\b ≠ Q) R L
 len:L.length=n+r
 eq:zu G r L=zu G K F
 fit:∃ E D,(∀ c ∈ L,Fit c E D)/\E+r * Eg<=EM/\D+r * (Dg+2)<=DM
theorem gca {w0 w : World} {F G : List Pl} {R Rg cf cg n K EM DM E D Eg Dg : Nat} (aF : Ext w0 w) (hR : w0.heap.size <= R) (au : Rg ≠ R) (hF : zi w (fun b => w0.heap.size <= b) R F) (hG : zi w (fun b => b ≠ R) Rg G) (UH : G.length = n + 1) (QN : F.length = n + K) (hK : 1 <= K) (dE : F.length <= cf) (Qk : cf <= 9223372036854775807) (Lu : G.length <= cg) (Yf : cg <= 9223372036854775807) (hlen : n + K <= 1000000)
 (PS:∀ c ∈ F,Fit c E D) (Ul:∀ c ∈ G,Fit c Eg Dg) (hE:E+K * Eg<=EM) (hD:D+K * (Dg+2)<=DM) (hEM:EM<=400) (hDM:DM<=8796093000000) :
 Calls Tryz.prog 165 #[.slice (some ⟨R,0,none⟩) F.length cf,.slice (some ⟨Rg,0,none⟩) G.length cg] w fun e w'=>∃ v0 c',e=.returned (.tuple #[v0,.slice (some ⟨R,0,none⟩) (zu G K F).length c'])/\(zu G K F).length<=c'/\c'<=9223372036854775807/\zi w' (fun b=>w0.heap.size<=b) R (zu G K F)/\Ext w0 w':=by
 have ay:=hid aF;have HF:=hid (hF.turn (q':=fun b=>w0.heap.size<=b/\b ≠ w.heap.size) (Nat.le_refl _) (fun _ _ h=>h) rfl (fun b hb hq _=>⟨⟨hq,by omega⟩,rfl⟩));have HG:=hid hG;have yB:=hid UH;have SN:=hid QN;have HFF:=hid PS;have HFG:=hid Ul;have oN:=hF.1;obtain ⟨V,dB,fD,AV,ae⟩:=qab (K:Int) (by omega) (by omega) w;rw [Int.toNat_natCast] at dB ae;have eF:=ae (fun _=>True);have MB:=hid (xaj.of eF);rw [List.length_replicate] at MB;have H0:Hid (RdS w0 w R w.heap.size F G n K EM DM Eg Dg K V F):=hid ⟨aF.trans fD,(Frr.refl w R).ext fD,MB.out,HF.out.ext fD,QN,rfl,E,D,PS,hE,hD⟩;have rQ:IntKind.i64.wrap (((n:Int)+1) - 1)=(n:Int):=by rw [IntKind.wrap_i64]; omega
 have wM:IntKind.i64.wrap (((n:Int)+(K:Int)) - (n:Int))=(K:Int):=by rw [IntKind.wrap_i64]; omega
 have YU:(0:Int)<=(K:Int):=by omega
 rw [UH] at Lu;rw [QN] at dE;rw [UH,QN];clear aF hF hG UH QN PS Ul hE hD ae eF fD MB HF;go_enter Tryz.func165,Tryz.ntmps165;go_wp2_with fail
 go_loopw [0,23] (fun av iv wr=>∃ i r N:Nat,i+r=K/\N=n+r/\iv=.int .i64 i/\av=.slice (some ⟨R,0,none⟩) N cf/\Hid (∃ L,RdS w0 w R w.heap.size F G n K EM DM Eg Dg r wr L)) (fun _ iv _=>K - (intOf iv).toNat)
 case atStart=>exact ⟨0,K,n+K,by omega,rfl,rfl,by go_num,hid ⟨_,H0.out⟩⟩
 case round =>
  obtain ⟨i,r,N,hir,hN,rfl,rfl,HR⟩:=hrel
  by_cases af:i < K
  · obtain ⟨L,hS⟩:=HR.out;obtain ⟨k,hk⟩:∃ k,k+1=r:=⟨r - 1,by omega⟩;obtain ⟨M,hM⟩:∃ M,M=n+k:=⟨_,rfl⟩;obtain ⟨K1,hK1⟩:∃ K1,K1+1=K:=⟨K - 1,by omega⟩;have rE:L.length=M+1:=by rw [hS.len]; omega
    obtain ⟨C0,uZ,vH,C1,uY,vG,⟨r0,r1,r2,r3⟩,WM⟩:=hS.row.el M (by omega);have Lu:L.getD (n+k) Pl.zero=L[M]:=by rw [List.getD_eq_getElem?_getD,<- hM,List.getElem?_eq_getElem (by omega)]; rfl
    obtain ⟨c,hc⟩:=n_m (L[M]);rw [hc] at r0 r1 WM Lu;obtain ⟨V1,jI⟩:=n_m (wr.alloc (.cells #[.int .i64 c.lv,.bool c.neg,.slice C0 uZ vH,.slice C1 uY vG] 33));have hx1:Ext wr V1:=by rw [<- jI]; exact (Ext.refl wr).alloc _
    have bJ:jc V1 wr.heap.size c (.slice C0 uZ vH) (.slice C1 uY vG):=by rw [<- jI]; exact jc.new wr c _ _ _
    have bW:V1.heap.size=wr.heap.size+1:=by rw [<- jI]; simp
    obtain ⟨V2,uV⟩:=n_m (((((V1.setCell ⟨w.heap.size,k * 4,none⟩ (.int .i64 c.lv)).setCell ⟨w.heap.size,k * 4+1,none⟩ (.bool c.neg)).setCell ⟨w.heap.size,k * 4+2,none⟩ (.slice C0 uZ vH)).setCell ⟨w.heap.size,k * 4+3,none⟩ (.slice C1 uY vG)));obtain ⟨⟨u0,u1,u2,u3,q0,q1,q2,q3⟩,NW,iP⟩:=(hS.slack.ext hx1).put (by omega:k < K) c.lv c.neg C0 C1 uZ vH uY vG uV.symm;have Dl:=((hS.slack.ext hx1).2.1);have f0:=Dl (k * 4);have f1:=Dl (k * 4+1);have f2:=Dl (k * 4+2);have f3:=Dl (k * 4+3);obtain ⟨b0,b1,b2,b3⟩:=id bJ;have og:=hS.slack.1;have Hw:=ay.out.size;have HE2:Hid (Ext w0 V2):=hid (by rw [<- uV]; exact (((((hS.ext.trans hx1)).setCell Hw _).setCell Hw _).setCell Hw _).setCell Hw _);have JO:=hid (iP.row (hS.row.ext hx1) (by omega) (fun b hb=>hb.2));have Vo:=hid (((hS.far.ext hx1).over iP (Nat.le_refl _)).row HG.out au (fun b hb=>hb));have GZ:=hid (iP.pl (WM.ext hx1) (fun b hb=>hb.1.2));have MO:=hid ((hS.far.ext hx1).over iP (Nat.le_refl _));have wG:Hid (jc V2 wr.heap.size c (.slice C0 uZ vH) (.slice C1 uY vG)):=hid ⟨(iP.cell (by omega) (by omega)).trans b0,(iP.cell (by omega) (by omega)).trans b1,(iP.cell (by omega) (by omega)).trans b2,(iP.cell (by omega) (by omega)).trans b3⟩;have Ee:=hid NW;have jT:V2.heap.size=wr.heap.size+1:=by rw [<- uV,<- bW]; simp [World.setCell]
    have HS:=hid hS;have HCG:=hid Lu;have hwa:IntKind.i64.wrap ((K:Int) - 1)=(K1:Int):=by rw [IntKind.wrap_i64]; omega
    have hwb:IntKind.i64.wrap ((K1:Int) - (i:Int))=(k:Int):=by rw [IntKind.wrap_i64]; omega
    have hwc:IntKind.i64.wrap ((n:Int)+(k:Int))=(M:Int):=by rw [IntKind.wrap_i64]; omega
    have hMN:(M:Int) < (N:Int):=by omega
    have hMc:(M:Int)<=(cf:Int):=by omega
    have hkK:(k:Int) < (K:Int):=by omega
    have hiK:(i:Int) < (K:Int):=by omega
    have afn:wr.heap.size ≠ w.heap.size:=by omega
    have GH:=hid (And.intro hM (And.intro hN (And.intro hk hK1)));clear hS WM Lu hc hx1 bJ NW iP Dl HR H0 hM hN hk hK1 rE;go_wp2_with fail;clear jI uV dB r0 r1 r2 r3 q0 q1 q2 q3 f0 f1 f2 f3 b0 b1 b2 b3;obtain ⟨wd,rfl⟩:∃ wd,wd=wr:=⟨wr,rfl⟩;have kE:Hid ((Ext w0 V2/\Frr V2 R V2)/\∃ L',RdL G k L n 0 L'/\zi V2 (fun b=>w0.heap.size<=b/\b ≠ w.heap.size) R L'):=hid ⟨⟨HE2.out,Frr.refl _ _⟩,_,RdL.start (by rw [HS.out.len]; have:=GH.out; omega),JO.out.take _⟩
    go_loopw [47] (fun jv wi=>∃ j,j<=M/\jv=.int .i64 j/\Hid ((Ext w0 wi/\Frr V2 R wi)/\∃ L',RdL G k L n j L'/\zi wi (fun b=>w0.heap.size<=b/\b ≠ w.heap.size) R L')) (fun jv _=>M - (intOf jv).toNat)
    case atStart=>exact ⟨0,Nat.zero_le _,rfl,kE⟩
    case round =>
     obtain ⟨j,hj,rfl,HI⟩:=hrel
     by_cases hjM:j < M
     · obtain ⟨⟨Ug,Iz⟩,L',yP,ae⟩:=HI.out;have jM:j < n+k:=by have:=GH.out; omega
       have UF:j < L'.length:=by rw [yP.1]; exact jM
       obtain ⟨A0,an0,ac0,A1,an1,ac1,XP,wV⟩:=ae.el j UF;have Jh:L'[j]=L.getD j Pl.zero:=by rw [yP.2 j UF,if_neg (Nat.lt_irrefl _)]
       have Fz:=Iz.row Vo.out au (fun b hb=>hb);obtain ⟨B0,Zm,bc0,B1,Zl,bc1,IY,zY⟩:=Fz.el n (by rw [yB.out]; omega);have nM:G[n]'(by rw [yB.out]; omega)=G.getD n Pl.zero:=by rw [List.getD_eq_getElem?_getD,List.getElem?_eq_getElem (by rw [yB.out]; omega)]; rfl
       obtain ⟨Ei,Di,aI,UK,UM⟩:=HS.out.fit;have Oe:r=k+1:=by have:=GH.out; omega
       rw [Oe,Nat.succ_mul] at UK UM;have XJ:Fit L'[j] Ei Di:=by rw [Jh]; exact vah aI j
       have Lr:Fit (G[n]'(by rw [yB.out]; omega)) Eg Dg:=by rw [nM]; exact vah HFG.out n
       have hfc:Fit c Ei Di:=by rw [<- HCG.out]; exact vah aI _
       obtain ⟨a,ha⟩:=n_m (L'[j]);obtain ⟨g,hg⟩:=n_m (G[n]'(by rw [yB.out]; omega));rw [ha] at Jh XJ XP wV;rw [hg] at nM Lr IY zY;have YI:=ae.1;have hVi:=Iz.size;have QH:=Fz.1;have HEA:=hid (fun (W':World) (hx:Ext wr W')=>XP.ext YI hx);have SX:=hid (fun (W':World) (hx:Ext wr W')=>IY.ext QH hx);have Gv:=hid wV;have U9:=hid zY;have yC:=hid XJ;have HFg:=hid Lr;have Vr:=hid hfc;have aS:=hid ae;have yT:=hid yP;have HIE:=hid Ug;have HIF:=hid Iz;have Tv:=hid Jh;have HGl:=hid nM;have HLJ:=hid UF;have afJ:(j:Int) < (M:Int):=by omega
       have kU:(n:Int) < (n:Int)+1:=by omega
       have Y0:Hid (Ext wr wr.drew):=hid (Ext.refl wr).drew;have hEb:Ei+Eg<=400:=by omega
       have hDb:Di+Dg+2<=8796093000000:=by omega
       have RP:=hid YI;have BJ:=hid ae.2.1;clear Ug Iz yP ae XP wV Jh Fz IY zY nM aI XJ Lr hfc ha hg UK UM UF jM Oe HI kE YI
       have mZ:Hid (∀ V y D0 gX gZ D1 kN gY,Ext wr V->PlV V (fun b=>wr.heap.size<=b) y (plV y (.slice D0 gX gZ) (.slice D1 kN gY))->∀ V7,V7=(((V.setCell ⟨R,j * 4,none⟩ (.int .i64 y.lv)).setCell ⟨R,j * 4+1,none⟩ (.bool y.neg)).setCell ⟨R,j * 4+2,none⟩ (.slice D0 gX gZ)).setCell ⟨R,j * 4+3,none⟩ (.slice D1 kN gY) ->
        ((Ext w0 V7/\Frr V2 R V7)/\zi V7 (fun b=>w0.heap.size<=b/\b ≠ w.heap.size) R (L'.set j y))/\ElC V7 Rg n g B0 Zm bc0 B1 Zl bc1):=hid (by
        intro V y D0 gX gZ D1 kN gY di hp V7 lU;obtain ⟨p1,p2,p3,p4⟩:=Frr.put (HIE.out.trans di) (HIF.out.ext di) (aS.out.ext di) hR HLJ.out (hp.mono fun b hb=>⟨⟨by omega,by omega⟩,by omega⟩) lU
        exact ⟨⟨⟨p1,p3⟩,p4⟩,(SX.out V di).far (Nat.lt_of_lt_of_le QH di.size) p2 au⟩)
       go_upto_region 14 with fail;refine wp_region_held_drew (S:=fun W'=>ElC W' Rg n g B0 Zm bc0 B1 Zl bc1) (by kernel_rfl) (SX.out _ Y0.out) (fun hHeld=>?_);refine tk 0 ?_;refine tk 1 ?_;refine tk 2 ?_;refine tk 3 ?_;refine tk 4 ?_;refine tk 6 ?_;refine tk 7 ?_;refine tk 8 ?_;refine tk 9 ?_ (hy:=Or.inl ⟨by rfl,by intro w' aZ; obtain ⟨k1,k2,k3,k4⟩:=aZ; go_simp; (try (with_reducible rfl))⟩);obtain ⟨e0,e1,e2,e3⟩:=HEA.out _ Y0.out;refine r_1 5 fun K hK=>?_
       go_simp;refine k_t hK (SX.out _ Y0.out) fun hHeld=>?_
       clear hK K;refine r_1 10 fun K hK=>?_
       go_simp
       go_at_call 15
       refine (kak _ _ (Gv.out.ext Y0.out) (U9.out.ext Y0.out) yC.out HFg.out (by omega) (by omega)).mono ?_;rintro e w2 ⟨v2,rfl,m2,x2⟩;obtain ⟨D0,gX,gZ,D1,gY,rfl,-⟩:=id m2.open_;have z2:Ext wr w2:=Y0.out.trans x2;refine k_t hK (SX.out _ z2) fun hHeld=>?_
       clear hK K e0 e1 e2 e3;refine tk 11 ?_;have Vs:=hid (mZ.out _ _ _ _ _ _ _ _ z2 (m2.mono fun b hb=>Nat.le_trans Y0.out.size hb));obtain ⟨s0,s1,s2,s3⟩:=HEA.out _ z2;have f0:=(z2.frozen (p:=⟨R,j * 4,none⟩) RP.out).trans (BJ.out _);have f1:=(z2.frozen (p:=⟨R,j * 4+1,none⟩) RP.out).trans (BJ.out _);have f2:=(z2.frozen (p:=⟨R,j * 4+2,none⟩) RP.out).trans (BJ.out _);have f3:=(z2.frozen (p:=⟨R,j * 4+3,none⟩) RP.out).trans (BJ.out _);have HY:Hid (Fit (a.mul g) (Ei+Eg) (Di+Dg)):=hid (yC.out.mul HFg.out);have HYV:Hid (a.mul g=(L.getD j Pl.zero).mul (G.getD n Pl.zero)):=hid (by rw [Tv.out,HGl.out]);clear mZ m2 x2;generalize a.mul g=y at *;refine r_1 12 fun K hK=>?_
       unfold plV;go_simp;refine (?g9:∀ V7,(((Ext w0 V7/\Frr V2 R V7)/\zi V7 (fun b=>w0.heap.size<=b/\b ≠ w.heap.size) R (L'.set j y))/\ElC V7 Rg n g B0 Zm bc0 B1 Zl bc1)->K _ V7) _ (Vs.out _ rfl);intro V7 lU;obtain ⟨h7,c7⟩:=lU;refine k_t hK c7 fun hHeld=>?_
       have H7:=hid h7;clear hK K s0 s1 s2 s3 f0 f1 f2 f3 c7 h7 z2;refine w_d ?_;clear hHeld HEA SX Gv U9 aS HIE HIF BJ RP Vs Y0;have Xp:j < n+k:=by have:=GH.out; omega
       by_cases hkj:k<=j
       · obtain ⟨d,hd⟩:∃ d,d=j - k:=⟨_,rfl⟩;have uQ:d < n+1:=by omega
         have uC:=H7.out.2;obtain ⟨E0,en0,Zi,E1,QY,F6,XM,WG⟩:=uC.el j (by rw [List.length_set]; exact HLJ.out);simp only [List.getElem_set_self] at XM WG;have Fz:=H7.out.1.2.row Vo.out au (fun b hb=>hb);obtain ⟨B2,Q5,bc2,B3,Q4,bc3,IY,zY⟩:=Fz.el d (by rw [yB.out]; omega);have nM:G[d]'(by rw [yB.out]; omega)=G.getD d Pl.zero:=by rw [List.getD_eq_getElem?_getD,List.getElem?_eq_getElem (by rw [yB.out]; omega)]; rfl
         have IV:Fit (G[d]'(by rw [yB.out]; omega)) Eg Dg:=by rw [nM]; exact vah HFG.out d
         obtain ⟨g2,dL⟩:=n_m (G[d]'(by rw [yB.out]; omega));rw [dL] at nM IV IY zY;have bG:Hid ((kaa G k L).getD j Pl.zero=y.sub (c.mul g2)):=hid (by rw [va8 yB.out Xp,if_pos hkj,HYV.out,HCG.out,nM,hd]);have mY:=hid uC.1;have kF:=hid uC.2.1;have YJ:=Fz.1;have agm:=H7.out.1.2.size;have MP:=hid (fun (W':World) (hx:Ext V7 W')=>XM.ext mY.out hx);have U8:=hid WG;have Ej:=hid zY;have Es:=hid IV;have BC:=hid (H7.out.1.2.pl GZ.out (fun b hb=>hb.2));have HB7:Hid (jc V7 wd.heap.size c (.slice C0 uZ vH) (.slice C1 uY vG)):=by
          obtain ⟨b0,b1,b2,b3⟩:=wG.out;have hf:=H7.out.1.2;exact hid ⟨(hf.cell (by omega) (by omega)).trans b0,(hf.cell (by omega) (by omega)).trans b1,(hf.cell (by omega) (by omega)).trans b2,(hf.cell (by omega) (by omega)).trans b3⟩
         have mX:Hid (∀ W',Ext V7 W'->(ElC W' Rg d g2 B2 Q5 bc2 B3 Q4 bc3/\jc W' wd.heap.size c (.slice C0 uZ vH) (.slice C1 uY vG))):=hid fun W' hx=>⟨IY.ext YJ hx,HB7.out.ext hx (by omega)⟩
         have vW:Hid (∀ V y' D0 gX gZ D1 kN gY,Ext V7 V->PlV V (fun b=>V7.heap.size<=b) y' (plV y' (.slice D0 gX gZ) (.slice D1 kN gY))->∀ V8,V8=(((V.setCell ⟨R,j * 4,none⟩ (.int .i64 y'.lv)).setCell ⟨R,j * 4+1,none⟩ (.bool y'.neg)).setCell ⟨R,j * 4+2,none⟩ (.slice D0 gX gZ)).setCell ⟨R,j * 4+3,none⟩ (.slice D1 kN gY) ->
          ((Ext w0 V8/\Frr V2 R V8)/\zi V8 (fun b=>w0.heap.size<=b/\b ≠ w.heap.size) R ((L'.set j y).set j y'))/\(ElC V8 Rg d g2 B2 Q5 bc2 B3 Q4 bc3/\jc V8 wd.heap.size c (.slice C0 uZ vH) (.slice C1 uY vG))):=hid (by
          intro V y' D0 gX gZ D1 kN gY di hp V8 DZ;obtain ⟨p1,p2,p3,p4⟩:=Frr.put (H7.out.1.1.trans di) (H7.out.1.2.ext di) (H7.out.2.ext di) hR (by rw [List.length_set]; exact HLJ.out) (hp.mono fun b hb=>⟨⟨by omega,by omega⟩,by have:=mY.out; omega⟩) DZ;obtain ⟨s1,s2⟩:=mX.out V di;have AV:=di.size;obtain ⟨b0,b1,b2,b3⟩:=s2
          exact ⟨⟨⟨p1,p3⟩,p4⟩,s1.far (by omega) p2 au,(p2.cell (by omega) (by omega)).trans b0,(p2.cell (by omega) (by omega)).trans b1,(p2.cell (by omega) (by omega)).trans b2,(p2.cell (by omega) (by omega)).trans b3⟩)
         have afG:(k:Int)<=(j:Int):=by omega
         have hwd:IntKind.i64.wrap ((j:Int) - (k:Int))=(d:Int):=by rw [IntKind.wrap_i64]; omega
         have af2:(d:Int) < (n:Int)+1:=by omega
         have Y7:Hid (Ext V7 V7.drew):=hid (Ext.refl V7).drew;clear hd uC XM WG Fz IY zY nM IV dL;go_upto_region 16 with fail;refine wp_region_held_drew (S:=fun W'=>ElC W' Rg d g2 B2 Q5 bc2 B3 Q4 bc3/\jc W' wd.heap.size c (.slice C0 uZ vH) (.slice C1 uY vG)) (by kernel_rfl) (mX.out _ Y7.out) (fun hHeld=>?_);refine tk 0 ?_;refine tk 1 ?_;refine tk 2 ?_;refine tk 3 ?_;refine tk 4 ?_;refine tk 6 ?_ (hy:=Or.inl ⟨by rfl,by intro w' aZ; obtain ⟨⟨k1,k2,k3,k4⟩,k5,k6,k7,k8⟩:=aZ; go_simp; (try (with_reducible rfl))⟩);refine tk 7 ?_;refine tk 8 ?_;refine tk 9 ?_;refine tk 10 ?_;refine tk 11 ?_;refine tk 12 ?_ (hy:=Or.inl ⟨by rfl,by intro w' aZ; obtain ⟨⟨k1,k2,k3,k4⟩,k5,k6,k7,k8⟩:=aZ; go_simp; (try (with_reducible rfl))⟩);refine r_2 5 13 (fun K hK=>?ordA) fun K hK=>?ordB
         case ordA =>
          obtain ⟨e0,e1,e2,e3⟩:=MP.out _ Y7.out;go_simp;refine k_t hK (mX.out _ Y7.out) fun hHeld=>?_
          clear hK K e0 e1 e2 e3;refine r_1 13 fun K hK=>?_
          go_simp
          go_at_call 15
          refine (kak _ _ (BC.out.ext Y7.out) (Ej.out.ext Y7.out) Vr.out Es.out (by omega) (by omega)).mono ?_;rintro e w3 ⟨v3,rfl,m3,x3⟩;obtain ⟨D2,dn2,dc2,D3,dc3,rfl,-⟩:=id m3.open_;have z3:Ext V7 w3:=Y7.out.trans x3;refine k_t hK (mX.out _ z3) fun hHeld=>?_
          clear hK K;refine r_1 14 fun K hK=>?_
          try unfold plV
          go_simp
          go_at_call 14
          refine (kao _ _ (U8.out.ext z3) m3 HY.out (Vr.out.mul Es.out) (by omega) (by omega)).mono ?_;rintro e w4 ⟨v4,rfl,m4,x4⟩;obtain ⟨D4,dn4,dc4,D5,dc5,rfl,-⟩:=id m4.open_;have z4:Ext V7 w4:=z3.trans x4;refine k_t hK (mX.out _ z4) fun hHeld=>?_
          clear hK K;refine tk 15 ?_;have J4:=hid (vW.out _ _ _ _ _ _ _ _ z4 (m4.mono fun b hb=>Nat.le_trans z3.size hb));obtain ⟨s0,s1,s2,s3⟩:=MP.out _ z4;have f0:=(z4.frozen (p:=⟨R,j * 4,none⟩) mY.out).trans (kF.out _);have f1:=(z4.frozen (p:=⟨R,j * 4+1,none⟩) mY.out).trans (kF.out _);have f2:=(z4.frozen (p:=⟨R,j * 4+2,none⟩) mY.out).trans (kF.out _);have f3:=(z4.frozen (p:=⟨R,j * 4+3,none⟩) mY.out).trans (kF.out _);have vO:Hid (y.add (c.mul g2).opp=(kaa G k L).getD j Pl.zero):=hid (by rw [bG.out]; rfl);clear vW m4 x4 m3 x3 z3;generalize y.add (c.mul g2).opp=yy at *;refine r_1 16 fun K hK=>?_
          unfold plV;go_simp;refine (?gA:∀ V8,(((Ext w0 V8/\Frr V2 R V8)/\zi V8 (fun b=>w0.heap.size<=b/\b ≠ w.heap.size) R ((L'.set j y).set j yy))/\(ElC V8 Rg d g2 B2 Q5 bc2 B3 Q4 bc3/\jc V8 wd.heap.size c (.slice C0 uZ vH) (.slice C1 uY vG)))->K _ V8) _ (J4.out _ rfl);intro V8 DZ;obtain ⟨h8,c8⟩:=DZ;refine k_t hK c8 fun hHeld=>?_
          have Z8:Hid ((Ext w0 V8/\Frr V2 R V8)/\∃ L',RdL G k L n (j+1) L'/\zi V8 (fun b=>w0.heap.size<=b/\b ≠ w.heap.size) R L'):=hid ⟨h8.1,_,by rw [List.set_set]; exact yT.out.step (by have:=GH.out; omega) vO.out,h8.2⟩;clear hK K s0 s1 s2 s3 f0 f1 f2 f3 c8 h8 z4;refine w_d ?_;clear hHeld U8 BC Ej mX MP J4 Y7;go_wp2_with fail
          go_roundw
          case rel=>exact ⟨j+1,by omega,by go_num,Z8⟩
          case measure=>simp only [intOf]; omega
         case ordB =>
          go_simp
          go_at_call 15
          refine (kak _ _ (BC.out.ext Y7.out) (Ej.out.ext Y7.out) Vr.out Es.out (by omega) (by omega)).mono ?_;rintro e w3 ⟨v3,rfl,m3,x3⟩;obtain ⟨D2,dn2,dc2,D3,dc3,rfl,-⟩:=id m3.open_;have z3:Ext V7 w3:=Y7.out.trans x3;refine k_t hK (mX.out _ z3) fun hHeld=>?_
          clear hK K;refine r_1 5 fun K hK=>?_
          obtain ⟨e0,e1,e2,e3⟩:=MP.out _ z3;go_simp;refine k_t hK (mX.out _ z3) fun hHeld=>?_
          clear hK K e0 e1 e2 e3;refine r_1 14 fun K hK=>?_
          try unfold plV
          go_simp
          go_at_call 14
          refine (kao _ _ (U8.out.ext z3) m3 HY.out (Vr.out.mul Es.out) (by omega) (by omega)).mono ?_;rintro e w4 ⟨v4,rfl,m4,x4⟩;obtain ⟨D4,dn4,dc4,D5,dc5,rfl,-⟩:=id m4.open_;have z4:Ext V7 w4:=z3.trans x4;refine k_t hK (mX.out _ z4) fun hHeld=>?_
          clear hK K;refine tk 15 ?_;have J4:=hid (vW.out _ _ _ _ _ _ _ _ z4 (m4.mono fun b hb=>Nat.le_trans z3.size hb));obtain ⟨s0,s1,s2,s3⟩:=MP.out _ z4;have f0:=(z4.frozen (p:=⟨R,j * 4,none⟩) mY.out).trans (kF.out _);have f1:=(z4.frozen (p:=⟨R,j * 4+1,none⟩) mY.out).trans (kF.out _);have f2:=(z4.frozen (p:=⟨R,j * 4+2,none⟩) mY.out).trans (kF.out _);have f3:=(z4.frozen (p:=⟨R,j * 4+3,none⟩) mY.out).trans (kF.out _);have vO:Hid (y.add (c.mul g2).opp=(kaa G k L).getD j Pl.zero):=hid (by rw [bG.out]; rfl);clear vW m4 x4 m3 x3 z3;generalize y.add (c.mul g2).opp=yy at *;refine r_1 16 fun K hK=>?_
          unfold plV;go_simp;refine (?gB:∀ V8,(((Ext w0 V8/\Frr V2 R V8)/\zi V8 (fun b=>w0.heap.size<=b/\b ≠ w.heap.size) R ((L'.set j y).set j yy))/\(ElC V8 Rg d g2 B2 Q5 bc2 B3 Q4 bc3/\jc V8 wd.heap.size c (.slice C0 uZ vH) (.slice C1 uY vG)))->K _ V8) _ (J4.out _ rfl);intro V8 DZ;obtain ⟨h8,c8⟩:=DZ;refine k_t hK c8 fun hHeld=>?_
          have Z8:Hid ((Ext w0 V8/\Frr V2 R V8)/\∃ L',RdL G k L n (j+1) L'/\zi V8 (fun b=>w0.heap.size<=b/\b ≠ w.heap.size) R L'):=hid ⟨h8.1,_,by rw [List.set_set]; exact yT.out.step (by have:=GH.out; omega) vO.out,h8.2⟩;clear hK K s0 s1 s2 s3 f0 f1 f2 f3 c8 h8 z4;refine w_d ?_;clear hHeld U8 BC Ej mX MP J4 Y7;go_wp2_with fail
          go_roundw
          case rel=>exact ⟨j+1,by omega,by go_num,Z8⟩
          case measure=>simp only [intOf]; omega
       · have afE:¬ (k:Int)<=(j:Int):=by omega
         have afF:(j:Int) < (k:Int):=by omega
         have HN7:Hid ((Ext w0 V7/\Frr V2 R V7)/\∃ L',RdL G k L n (j+1) L'/\zi V7 (fun b=>w0.heap.size<=b/\b ≠ w.heap.size) R L'):=hid ⟨H7.out.1,_,yT.out.step Xp (by rw [va8 yB.out Xp,if_neg hkj]; exact HYV.out),H7.out.2⟩;go_wp2_with fail
         go_roundw
         case rel=>exact ⟨j+1,by omega,by go_num,HN7⟩
         case measure=>simp only [intOf]; omega
     · have hje:j=M:=by omega
       have Xo:¬ (j:Int) < (M:Int):=by omega
       have HN:Hid (∃ L,RdS w0 w R w.heap.size F G n K EM DM Eg Dg k wr L):=hid (by
        obtain ⟨⟨Ug,Iz⟩,L',yP,ae⟩:=HI.out;have hm:=GH.out;rw [hje,hm.1] at yP;have hL':=yP.fin yB.out;obtain ⟨Ei,Di,aI,UK,UM⟩:=HS.out.fit;have Oe:r=k+1:=by omega
        rw [Oe,Nat.succ_mul] at UK UM;refine ⟨L',Ug,MO.out.trans Iz,Ee.out.far Iz (by omega),ae,yP.1,?_,Ei+Eg,Di+Dg+2,?_,by omega,by omega⟩
        · rw [hL',<- HS.out.eq,Oe,zu]
        · rw [hL']; exact xb1 HFG.out aI k)
       have kW:i+1+k=K/\M=n+k:=by have:=GH.out; omega
       clear HI;go_wp2_with fail
       go_roundw
       case rel=>exact ⟨i+1,k,M,kW.1,kW.2,by go_num,rfl,HN⟩
       case measure=>simp only [intOf]; omega
  · have hr0:r=0:=by omega
    have kW:¬ (i:Int) < (K:Int):=by omega
    obtain ⟨L,hS⟩:=HR.out;have hlen:=hS.len;have heq:=hS.eq;rw [hr0] at heq;have oZ:L=zu G K F:=heq;have HP:=hid (hS.row.mono (q':=fun b=>w0.heap.size<=b) fun b hb=>hb.1);have HXF:=hid hS.ext;have hNL:N=(zu G K F).length:=by rw [<- oZ]; omega
    have hNc:N<=cf:=by omega
    rw [oZ] at HP;clear hS hlen heq oZ HR H0 hN hir;go_wp2_with fail;exact bodyPost_ret (v:=.tuple #[.slice (some ⟨w.heap.size,0,none⟩) K K,.slice (some ⟨R,0,none⟩) (zu G K F).length cf]) (by simp [results,Tryz.results165,go_sem]) rfl ⟨.slice (some ⟨w.heap.size,0,none⟩) K K,cf,rfl,by rw [<- hNL]; exact hNc,Qk,HP.out,HXF.out⟩
theorem yb1 {w:World} {A B:Option Addr} {n f cf cg:Nat} (hf:f<=n) (dE:f<=cf) (Qk:cf<=9223372036854775807) (Lu:n+1<=cg) (Yf:cg<=9223372036854775807) (hn:n<=1000000) :
 Calls Tryz.prog 165 #[.slice A f cf,.slice B (n+1) cg] w fun e w'=>∃ v0,e=.returned (.tuple #[v0,.slice A f cf])/\Ext w w':=by
 obtain ⟨d,hd⟩:∃ d,f+d=n:=⟨n - f,by omega⟩;have HD:=hid hd;obtain ⟨V,dB,fD,AV,-⟩:=qab 0 (by omega) (by omega) w;have kQ:=hid fD;have rQ:IntKind.i64.wrap (((n:Int)+1) - 1)=(n:Int):=by rw [IntKind.wrap_i64]; omega
 have wM:IntKind.i64.wrap ((f:Int) - (n:Int))=-(d:Int):=by rw [IntKind.wrap_i64]; omega
 have Ya:max (-(d:Int)) 0=0:=by omega
 have dO:-(d:Int)<=0:=by omega
 clear hd fD;go_enter Tryz.func165,Tryz.ntmps165;go_wp2_with fail
 go_loopw [0,23] (fun av iv wr=>iv=.int .i64 0/\av=.slice A f cf/\Hid (Ext w wr)) (fun _ _ _=>0)
 case atStart=>exact ⟨rfl,rfl,kQ⟩
 case round =>
  obtain ⟨rfl,rfl,HR⟩:=hrel;go_wp2_with fail;exact bodyPost_ret (v:=.tuple #[.slice (some ⟨w.heap.size,0,none⟩) 0 0,.slice A f cf]) (by simp [results,Tryz.results165,go_sem]) rfl ⟨_,rfl,HR.out⟩
def xcy (n:Int) (w:World) (e:Ending) (w':World):Prop:=e=.returned (.int .i64 n)/\Ext w w'
theorem vca {w:World} {q:Nat->Prop} {L:List Pl} {A:Option Addr} {c:Nat} (hA:jd w q L A 0) (bQ:∀ p ∈ L,p.Can) (hn:L.length<=1000000) :
 Calls Tryz.prog 164 #[.slice A L.length c] w (xcy (if L.any Pl.isZ then 2 else 0) w):=by
 have HA:=hid hA;have HC:=hid bQ;obtain ⟨m,hm⟩:=n_m (L.length);have HM:=hid hm;obtain ⟨b,hb⟩:∃ b:Int,(if L.any Pl.isZ then 2 else 0)=b:=⟨_,rfl⟩;have HB:=hid hb;rw [hm] at hn;rw [hm,hb];clear hA bQ hm hb;go_enter Tryz.func164,Tryz.ntmps164;go_wp2_with fail
 go_loopw [7] (fun iv wr=>∃ k:Nat,k<=m/\iv=.int .i64 k/\Hid (Ext w wr/\∀ i (h:i < L.length),i < k->L[i].isZ=false)) (fun iv _=>m - (intOf iv).toNat)
 case atStart=>exact ⟨0,Nat.zero_le _,rfl,hid ⟨Ext.refl _,fun i _ h=>by omega⟩⟩
 case round =>
  obtain ⟨k,hk,rfl,HR⟩:=hrel
  by_cases af:k < m
  · have hkl:k < L.length:=by rw [HM.out]; exact af
    obtain ⟨ad,C0,j0,g0,C1,j1,g1,rfl,ah,bF,aV⟩:=jd.kid HA.out k hkl;obtain ⟨a0,a1,a2,a3⟩:=bF.ext HR.out.1 (by rw [ja]; exact ah);have kD:=hid (fun (W':World) (hx:Ext wr W')=>gai _ (aV.ext (HR.out.1.trans hx)) (HC.out _ (List.getElem_mem hkl)));have HG:Hid (∀ x,L[k]=x->x.isZ=true->b=2):=hid fun x hx hz=>by
     rw [<- HB.out,if_pos (List.any_eq_true.2 ⟨L[k],List.getElem_mem hkl,by rw [hx]; exact hz⟩)]
    have HN:Hid (∀ x,L[k]=x->x.isZ=false->∀ i (h:i < L.length),i < k+1->L[i].isZ=false):=hid fun x hx hz i hi kW=>by
     by_cases e:i=k
     · subst e; rw [hx]; exact hz
     · exact HR.out.2 i hi (by omega)
    obtain ⟨x,hx⟩:=n_m (L[k])
    replace HG:=hid (HG.out x hx)
    replace HN:=hid (HN.out x hx)
    rw [hx] at a0 a1 kD;have X1:=hid HR.out.1;have E5:(k:Int) < (m:Int):=by omega
    unfold plV at kD;clear bF aV ah hx HR hkl;go_wp2_with fail;clear a0 a1 a2 a3;refine (kD.out _ ((Ext.refl _).alloc _)).mono ?_;rintro e w1 ⟨rfl,x1⟩;cases Hg:x.isZ with
    | true =>
      have bT:=HG.out Hg;clear HG HN;have XF:=hid (X1.out.trans (((Ext.refl wr).alloc _).trans x1));go_wp2_with fail;subst bT;go_ret;exact ⟨rfl,XF.out⟩
    | false =>
      have JO:=hid (And.intro (X1.out.trans (((Ext.refl wr).alloc _).trans x1)) (HN.out Hg));clear HG HN x1;go_wp2_with fail
      go_roundw
      case rel=>exact ⟨k+1,by omega,by go_num,JO⟩
      case measure=>simp only [intOf]; omega
  · have bU:b=0:=by
     rw [<- HB.out,if_neg];intro h;obtain ⟨x,hx,hz⟩:=List.any_eq_true.1 h;obtain ⟨i,hi,rfl⟩:=List.getElem_of_mem hx;rw [HR.out.2 i hi (by have:=HM.out; omega)] at hz;cases hz
    have E5:¬ (k:Int) < (m:Int):=by omega
    have XF:=hid HR.out.1;clear HR;go_wp2_with fail;subst bU;go_ret;exact ⟨rfl,XF.out⟩
end Go.Proofs.YtcepajijiabkmaaGreat
