/- Layer 24: pseudo.reduce. -/
import Derived.Test.YtklnlgnnlmdibaaGreatMr32
import Derived.Test.YtklnlgnnlmdibaaGreatMr24
import Derived.Test.YtklnlgnnlmdibaaGreatMr31
set_option linter.unusedSimpArgs false
set_option linter.unusedVariables false
set_option maxRecDepth 100000
set_option maxHeartbeats 8000000
namespace Go.Proofs.YtklnlgnnlmdibaaGreat
open Go.RowKit
structure RdS (w0 w : World) (R Q : Nat) (F G : List Pl) (n K EM DM Eg Dg : Nat) (r : Nat) (wr : World) (L : List Pl) : Prop where
 ext:Ext w0 wr
 far:Frr w R wr
 slack:uaf wr Q K
 row:jh wr (fun b=>w0.heap.size<=b/\b ≠ Q) R L
 len:L.length=n+r
 eq:yw G r L=yw G K F
 fit:∃ E D,(∀ c ∈ L,Fit c E D)/\E+r * Eg<=EM/\D+r * (Dg+2)<=DM
theorem kbu {w0 w : World} {F G : List Pl} {R Rg cf cg n K EM DM E D Eg Dg : Nat} (hx0 : Ext w0 w) (hR : w0.heap.size <= R) (hne : Rg ≠ R) (hF : jh w (fun b => w0.heap.size <= b) R F) (hG : jh w (fun b => b ≠ R) Rg G) (hGl : G.length = n + 1) (hFl : F.length = n + K) (hK : 1 <= K) (hcf : F.length <= cf) (hcf2 : cf <= 9223372036854775807) (hcg : G.length <= cg) (hcg2 : cg <= 9223372036854775807) (hlen : n + K <= 1000000)
 (hfF:∀ c ∈ F,Fit c E D) (hfG:∀ c ∈ G,Fit c Eg Dg) (hE:E+K * Eg<=EM) (hD:D+K * (Dg+2)<=DM) (hEM:EM<=400) (hDM:DM<=8796093000000) :
 Calls Tryz.prog 171 #[.slice (some ⟨R,0,none⟩) F.length cf,.slice (some ⟨Rg,0,none⟩) G.length cg] w fun e w'=>∃ v0 c',e=.returned (.tuple #[v0,.slice (some ⟨R,0,none⟩) (yw G K F).length c'])/\(yw G K F).length<=c'/\c'<=9223372036854775807/\jh w' (fun b=>w0.heap.size<=b) R (yw G K F)/\Ext w0 w':=by
 have HX0:=Lib.hid hx0;have HF:=Lib.hid (hF.turn (q':=fun b=>w0.heap.size<=b/\b ≠ w.heap.size) (Nat.le_refl _) (fun _ _ h=>h) rfl (fun b hb hq _=>⟨⟨hq,by omega⟩,rfl⟩));have HG:=Lib.hid hG;have HGL:=Lib.hid hGl;have HFL:=Lib.hid hFl;have HFF:=Lib.hid hfF;have HFG:=Lib.hid hfG;have hRlt:=hF.1;obtain ⟨V,hmk,hVx,hVs,hrow⟩:=wz (K:Int) (by omega) (by omega) w;rw [Int.toNat_natCast] at hmk hrow;have hrow0:=hrow (fun _=>True);have HSL:=Lib.hid (uaf.of hrow0);rw [List.length_replicate] at HSL;have H0:Hid (RdS w0 w R w.heap.size F G n K EM DM Eg Dg K V F):=Lib.hid ⟨hx0.trans hVx,(Frr.refl w R).ext hVx,HSL.out,HF.out.ext hVx,hFl,rfl,E,D,hfF,hE,hD⟩;have hw1:IntKind.i64.wrap (((n:Int)+1) - 1)=(n:Int):=by rw [IntKind.wrap_i64]; omega
 have hw2:IntKind.i64.wrap (((n:Int)+(K:Int)) - (n:Int))=(K:Int):=by rw [IntKind.wrap_i64]; omega
 have hK0:(0:Int)<=(K:Int):=by omega
 rw [hGl] at hcg;rw [hFl] at hcf;rw [hGl,hFl];clear hx0 hF hG hGl hFl hfF hfG hE hD hrow hrow0 hVx HSL HF;go_enter Tryz.func171,Tryz.ntmps171;go_wp2_with fail
 go_loopw [0,23] (fun av iv wr=>∃ i r N:Nat,i+r=K/\N=n+r/\iv=.int .i64 i/\av=.slice (some ⟨R,0,none⟩) N cf/\Hid (∃ L,RdS w0 w R w.heap.size F G n K EM DM Eg Dg r wr L)) (fun _ iv _=>K - (intOf iv).toNat)
 case atStart=>exact ⟨0,K,n+K,by omega,rfl,rfl,by go_num,Lib.hid ⟨_,H0.out⟩⟩
 case round =>
  obtain ⟨i,r,N,hir,hN,rfl,rfl,HR⟩:=hrel
  by_cases hlt:i < K
  · obtain ⟨L,hS⟩:=HR.out;obtain ⟨k,hk⟩:∃ k,k+1=r:=⟨r - 1,by omega⟩;obtain ⟨M,hM⟩:∃ M,M=n+k:=⟨_,rfl⟩;obtain ⟨K1,hK1⟩:∃ K1,K1+1=K:=⟨K - 1,by omega⟩;have hLl:L.length=M+1:=by rw [hS.len]; omega
    obtain ⟨C0,cn0,cc0,C1,cn1,cc1,⟨r0,r1,r2,r3⟩,hpc⟩:=hS.row.el M (by omega);have hcg:L.getD (n+k) Pl.zero=L[M]:=by rw [List.getD_eq_getElem?_getD,<- hM,List.getElem?_eq_getElem (by omega)]; rfl
    obtain ⟨c,hc⟩:∃ c,L[M]=c:=⟨_,rfl⟩;rw [hc] at r0 r1 hpc hcg;obtain ⟨V1,hV1⟩:∃ V1,wr.alloc (.cells #[.int .i64 c.lv,.bool c.neg,.slice C0 cn0 cc0,.slice C1 cn1 cc1] 35)=V1:=⟨_,rfl⟩;have hx1:Ext wr V1:=by rw [<- hV1]; exact (Ext.refl wr).alloc _
    have hbx:jb V1 wr.heap.size c (.slice C0 cn0 cc0) (.slice C1 cn1 cc1):=by rw [<- hV1]; exact jb.new wr c _ _ _
    have hs1:V1.heap.size=wr.heap.size+1:=by rw [<- hV1]; simp
    obtain ⟨V2,hV2⟩:∃ V2,((((V1.setCell ⟨w.heap.size,k * 4,none⟩ (.int .i64 c.lv)).setCell ⟨w.heap.size,k * 4+1,none⟩ (.bool c.neg)).setCell ⟨w.heap.size,k * 4+2,none⟩ (.slice C0 cn0 cc0)).setCell ⟨w.heap.size,k * 4+3,none⟩ (.slice C1 cn1 cc1))=V2:=⟨_,rfl⟩;obtain ⟨⟨u0,u1,u2,u3,q0,q1,q2,q3⟩,hsl2,hfr2⟩:=(hS.slack.ext hx1).put (by omega:k < K) c.lv c.neg C0 C1 cn0 cc0 cn1 cc1 hV2.symm;have hqf:=((hS.slack.ext hx1).2.1);have f0:=hqf (k * 4);have f1:=hqf (k * 4+1);have f2:=hqf (k * 4+2);have f3:=hqf (k * 4+3);obtain ⟨b0,b1,b2,b3⟩:=id hbx;have hwr:=hS.slack.1;have hw0:=HX0.out.size;have HE2:Hid (Ext w0 V2):=Lib.hid (by rw [<- hV2]; exact (((((hS.ext.trans hx1)).setCell hw0 _).setCell hw0 _).setCell hw0 _).setCell hw0 _);have HR2:=Lib.hid (hfr2.row (hS.row.ext hx1) (by omega) (fun b hb=>hb.2));have HG2:=Lib.hid (((hS.far.ext hx1).over hfr2 (Nat.le_refl _)).row HG.out hne (fun b hb=>hb));have HC2:=Lib.hid (hfr2.pl (hpc.ext hx1) (fun b hb=>hb.1.2));have HF2:=Lib.hid ((hS.far.ext hx1).over hfr2 (Nat.le_refl _));have HB2:Hid (jb V2 wr.heap.size c (.slice C0 cn0 cc0) (.slice C1 cn1 cc1)):=Lib.hid ⟨(hfr2.cell (by omega) (by omega)).trans b0,(hfr2.cell (by omega) (by omega)).trans b1,(hfr2.cell (by omega) (by omega)).trans b2,(hfr2.cell (by omega) (by omega)).trans b3⟩;have HSL2:=Lib.hid hsl2;have hs2:V2.heap.size=wr.heap.size+1:=by rw [<- hV2,<- hs1]; simp [World.setCell]
    have HS:=Lib.hid hS;have HCG:=Lib.hid hcg;have hwa:IntKind.i64.wrap ((K:Int) - 1)=(K1:Int):=by rw [IntKind.wrap_i64]; omega
    have hwb:IntKind.i64.wrap ((K1:Int) - (i:Int))=(k:Int):=by rw [IntKind.wrap_i64]; omega
    have hwc:IntKind.i64.wrap ((n:Int)+(k:Int))=(M:Int):=by rw [IntKind.wrap_i64]; omega
    have hMN:(M:Int) < (N:Int):=by omega
    have hMc:(M:Int)<=(cf:Int):=by omega
    have hkK:(k:Int) < (K:Int):=by omega
    have hiK:(i:Int) < (K:Int):=by omega
    have hne1:wr.heap.size ≠ w.heap.size:=by omega
    have HMN:=Lib.hid (And.intro hM (And.intro hN (And.intro hk hK1)));clear hS hpc hcg hc hx1 hbx hsl2 hfr2 hqf HR H0 hM hN hk hK1 hLl;go_wp2_with fail;clear hV1 hV2 hmk r0 r1 r2 r3 q0 q1 q2 q3 f0 f1 f2 f3 b0 b1 b2 b3;obtain ⟨wd,rfl⟩:∃ wd,wd=wr:=⟨wr,rfl⟩;have HI0:Hid ((Ext w0 V2/\Frr V2 R V2)/\∃ L',RdL G k L n 0 L'/\jh V2 (fun b=>w0.heap.size<=b/\b ≠ w.heap.size) R L'):=Lib.hid ⟨⟨HE2.out,Frr.refl _ _⟩,_,RdL.start (by rw [HS.out.len]; have:=HMN.out; omega),HR2.out.take _⟩
    go_loopw [47] (fun jv wi=>∃ j,j<=M/\jv=.int .i64 j/\Hid ((Ext w0 wi/\Frr V2 R wi)/\∃ L',RdL G k L n j L'/\jh wi (fun b=>w0.heap.size<=b/\b ≠ w.heap.size) R L')) (fun jv _=>M - (intOf jv).toNat)
    case atStart=>exact ⟨0,Nat.zero_le _,rfl,HI0⟩
    case round =>
     obtain ⟨j,hj,rfl,HI⟩:=hrel
     by_cases hjM:j < M
     · obtain ⟨⟨hiE,hiF⟩,L',hRd,hrow⟩:=HI.out;have hjk:j < n+k:=by have:=HMN.out; omega
       have hLj:j < L'.length:=by rw [hRd.1]; exact hjk
       obtain ⟨A0,an0,ac0,A1,an1,ac1,hea,hpa⟩:=hrow.el j hLj;have hal:L'[j]=L.getD j Pl.zero:=by rw [hRd.2 j hLj,if_neg (Nat.lt_irrefl _)]
       have hgR:=hiF.row HG2.out hne (fun b hb=>hb);obtain ⟨B0,bn0,bc0,B1,bn1,bc1,heg,hpg⟩:=hgR.el n (by rw [HGL.out]; omega);have hgl:G[n]'(by rw [HGL.out]; omega)=G.getD n Pl.zero:=by rw [List.getD_eq_getElem?_getD,List.getElem?_eq_getElem (by rw [HGL.out]; omega)]; rfl
       obtain ⟨Ei,Di,hfit,hEi,hDi⟩:=HS.out.fit;have hrk:r=k+1:=by have:=HMN.out; omega
       rw [hrk,Nat.succ_mul] at hEi hDi;have hfa:Fit L'[j] Ei Di:=by rw [hal]; exact wae hfit j
       have hfg:Fit (G[n]'(by rw [HGL.out]; omega)) Eg Dg:=by rw [hgl]; exact wae HFG.out n
       have hfc:Fit c Ei Di:=by rw [<- HCG.out]; exact wae hfit _
       obtain ⟨a,ha⟩:∃ a,L'[j]=a:=⟨_,rfl⟩;obtain ⟨g,hg⟩:∃ g,G[n]'(by rw [HGL.out]; omega)=g:=⟨_,rfl⟩;rw [ha] at hal hfa hea hpa;rw [hg] at hgl hfg heg hpg;have hRi:=hrow.1;have hVi:=hiF.size;have hRgi:=hgR.1;have HEA:=Lib.hid (fun (W':World) (hx:Ext wr W')=>hea.ext hRi hx);have HEG:=Lib.hid (fun (W':World) (hx:Ext wr W')=>heg.ext hRgi hx);have HPA:=Lib.hid hpa;have HPG:=Lib.hid hpg;have HFA:=Lib.hid hfa;have HFg:=Lib.hid hfg;have HFC:=Lib.hid hfc;have HROW:=Lib.hid hrow;have HRD:=Lib.hid hRd;have HIE:=Lib.hid hiE;have HIF:=Lib.hid hiF;have HAL:=Lib.hid hal;have HGl:=Lib.hid hgl;have HLJ:=Lib.hid hLj;have hjM1:(j:Int) < (M:Int):=by omega
       have hnn:(n:Int) < (n:Int)+1:=by omega
       have Y0:Hid (Ext wr wr.drew):=Lib.hid (Ext.refl wr).drew;have hEb:Ei+Eg<=400:=by omega
       have hDb:Di+Dg+2<=8796093000000:=by omega
       have HRA:=Lib.hid hRi;have HFRZ:=Lib.hid hrow.2.1;clear hiE hiF hRd hrow hea hpa hal hgR heg hpg hgl hfit hfa hfg hfc ha hg hEi hDi hLj hjk hrk HI HI0 hRi
       have HPUT:Hid (∀ V y D0 dn0 dc0 D1 dn1 dc1,Ext wr V->PlV V (fun b=>wr.heap.size<=b) y (plV y (.slice D0 dn0 dc0) (.slice D1 dn1 dc1))->∀ V7,V7=(((V.setCell ⟨R,j * 4,none⟩ (.int .i64 y.lv)).setCell ⟨R,j * 4+1,none⟩ (.bool y.neg)).setCell ⟨R,j * 4+2,none⟩ (.slice D0 dn0 dc0)).setCell ⟨R,j * 4+3,none⟩ (.slice D1 dn1 dc1) ->
        ((Ext w0 V7/\Frr V2 R V7)/\jh V7 (fun b=>w0.heap.size<=b/\b ≠ w.heap.size) R (L'.set j y))/\ElC V7 Rg n g B0 bn0 bc0 B1 bn1 bc1):=Lib.hid (by
        intro V y D0 dn0 dc0 D1 dn1 dc1 hxV hp V7 hV7;obtain ⟨p1,p2,p3,p4⟩:=Frr.put (HIE.out.trans hxV) (HIF.out.ext hxV) (HROW.out.ext hxV) hR HLJ.out (hp.mono fun b hb=>⟨⟨by omega,by omega⟩,by omega⟩) hV7
        exact ⟨⟨⟨p1,p3⟩,p4⟩,(HEG.out V hxV).far (Nat.lt_of_lt_of_le hRgi hxV.size) p2 hne⟩)
       go_upto_region 14 with fail;refine wp_region_held_drew (S:=fun W'=>ElC W' Rg n g B0 bn0 bc0 B1 bn1 bc1) (by kernel_rfl) (HEG.out _ Y0.out) (fun hHeld=>?_);refine tk 0 ?_;refine tk 1 ?_;refine tk 2 ?_;refine tk 3 ?_;refine tk 4 ?_;refine tk 6 ?_;refine tk 7 ?_;refine tk 8 ?_;refine tk 9 ?_ (hy:=Or.inl ⟨by rfl,by intro w' hSw; obtain ⟨k1,k2,k3,k4⟩:=hSw; go_simp; (try (with_reducible rfl))⟩);obtain ⟨e0,e1,e2,e3⟩:=HEA.out _ Y0.out;refine wpAnyH_ready (rs:=[5]) (by kernel_rfl) (by simp) ?_;refine AllReadyH.cons rfl (fun K hK=>?_) AllReadyH.nil;go_simp;refine hK.out _ _ (HEG.out _ Y0.out) (fun hHeld=>?_);clear hK K
       try simp only [Act.put,List.getElem_toArray,List.getElem_cons_zero,List.getElem_cons_succ,List.setIfInBounds_toArray,List.set_cons_zero,List.set_cons_succ]
       refine wpAnyH_ready (rs:=[10]) (by kernel_rfl) (by simp) ?_;refine AllReadyH.cons rfl (fun K hK=>?_) AllReadyH.nil;go_simp
       go_at_call 17
       refine (qav _ _ (HPA.out.ext Y0.out) (HPG.out.ext Y0.out) HFA.out HFg.out (by omega) (by omega)).mono ?_;rintro e w2 ⟨v2,rfl,m2,x2⟩;obtain ⟨D0,dn0,dc0,D1,dc1,rfl,-⟩:=id m2.open_;have z2:Ext wr w2:=Y0.out.trans x2;refine hK.out _ _ (HEG.out _ z2) (fun hHeld=>?_);clear hK K e0 e1 e2 e3
       try simp only [Act.put,List.getElem_toArray,List.getElem_cons_zero,List.getElem_cons_succ,List.setIfInBounds_toArray,List.set_cons_zero,List.set_cons_succ]
       refine tk 11 ?_;have HF3:=Lib.hid (HPUT.out _ _ _ _ _ _ _ _ z2 (m2.mono fun b hb=>Nat.le_trans Y0.out.size hb));obtain ⟨s0,s1,s2,s3⟩:=HEA.out _ z2;have f0:=(z2.frozen (p:=⟨R,j * 4,none⟩) HRA.out).trans (HFRZ.out _);have f1:=(z2.frozen (p:=⟨R,j * 4+1,none⟩) HRA.out).trans (HFRZ.out _);have f2:=(z2.frozen (p:=⟨R,j * 4+2,none⟩) HRA.out).trans (HFRZ.out _);have f3:=(z2.frozen (p:=⟨R,j * 4+3,none⟩) HRA.out).trans (HFRZ.out _);have HY:Hid (Fit (a.mul g) (Ei+Eg) (Di+Dg)):=Lib.hid (HFA.out.mul HFg.out);have HYV:Hid (a.mul g=(L.getD j Pl.zero).mul (G.getD n Pl.zero)):=Lib.hid (by rw [HAL.out,HGl.out]);clear HPUT m2 x2;generalize a.mul g=y at *;refine wpAnyH_ready (rs:=[12]) (by kernel_rfl) (by simp) ?_;refine AllReadyH.cons rfl (fun K hK=>?_) AllReadyH.nil;unfold plV;go_simp;refine (?g9:∀ V7,(((Ext w0 V7/\Frr V2 R V7)/\jh V7 (fun b=>w0.heap.size<=b/\b ≠ w.heap.size) R (L'.set j y))/\ElC V7 Rg n g B0 bn0 bc0 B1 bn1 bc1)->K _ V7) _ (HF3.out _ rfl);intro V7 hV7;obtain ⟨h7,c7⟩:=hV7;refine hK.out _ _ c7 (fun hHeld=>?_);have H7:=Lib.hid h7;clear hK K s0 s1 s2 s3 f0 f1 f2 f3 c7 h7 z2
       try simp only [Act.put,List.getElem_toArray,List.getElem_cons_zero,List.getElem_cons_succ,List.setIfInBounds_toArray,List.set_cons_zero,List.set_cons_succ]
       refine wpAnyH_done (by kernel_rfl) ?_ _;clear hHeld HEA HEG HPA HPG HROW HIE HIF HFRZ HRA HF3 Y0;have hjb:j < n+k:=by have:=HMN.out; omega
       by_cases hkj:k<=j
       · obtain ⟨d,hd⟩:∃ d,d=j - k:=⟨_,rfl⟩;have hdn:d < n+1:=by omega
         have hrow7:=H7.out.2;obtain ⟨E0,en0,ec0,E1,en1,ec1,hey,hpy⟩:=hrow7.el j (by rw [List.length_set]; exact HLJ.out);simp only [List.getElem_set_self] at hey hpy;have hgR:=H7.out.1.2.row HG2.out hne (fun b hb=>hb);obtain ⟨B2,bn2,bc2,B3,bn3,bc3,heg,hpg⟩:=hgR.el d (by rw [HGL.out]; omega);have hgl:G[d]'(by rw [HGL.out]; omega)=G.getD d Pl.zero:=by rw [List.getD_eq_getElem?_getD,List.getElem?_eq_getElem (by rw [HGL.out]; omega)]; rfl
         have hfg2:Fit (G[d]'(by rw [HGL.out]; omega)) Eg Dg:=by rw [hgl]; exact wae HFG.out d
         obtain ⟨g2,hg2⟩:∃ g2,G[d]'(by rw [HGL.out]; omega)=g2:=⟨_,rfl⟩;rw [hg2] at hgl hfg2 heg hpg;have HSTEP:Hid ((jaa G k L).getD j Pl.zero=y.sub (c.mul g2)):=Lib.hid (by rw [za0 HGL.out hjb,if_pos hkj,HYV.out,HCG.out,hgl,hd]);have HRA7:=Lib.hid hrow7.1;have HFRZ7:=Lib.hid hrow7.2.1;have hRg7:=hgR.1;have hV27:=H7.out.1.2.size;have HEY:=Lib.hid (fun (W':World) (hx:Ext V7 W')=>hey.ext HRA7.out hx);have HPY:=Lib.hid hpy;have HPG2:=Lib.hid hpg;have HFg2:=Lib.hid hfg2;have HPC:=Lib.hid (H7.out.1.2.pl HC2.out (fun b hb=>hb.2));have HB7:Hid (jb V7 wd.heap.size c (.slice C0 cn0 cc0) (.slice C1 cn1 cc1)):=by
          obtain ⟨b0,b1,b2,b3⟩:=HB2.out;have hf:=H7.out.1.2;exact Lib.hid ⟨(hf.cell (by omega) (by omega)).trans b0,(hf.cell (by omega) (by omega)).trans b1,(hf.cell (by omega) (by omega)).trans b2,(hf.cell (by omega) (by omega)).trans b3⟩
         have HS16:Hid (∀ W',Ext V7 W'->(ElC W' Rg d g2 B2 bn2 bc2 B3 bn3 bc3/\jb W' wd.heap.size c (.slice C0 cn0 cc0) (.slice C1 cn1 cc1))):=Lib.hid fun W' hx=>⟨heg.ext hRg7 hx,HB7.out.ext hx (by omega)⟩
         have HPUT2:Hid (∀ V y' D0 dn0 dc0 D1 dn1 dc1,Ext V7 V->PlV V (fun b=>V7.heap.size<=b) y' (plV y' (.slice D0 dn0 dc0) (.slice D1 dn1 dc1))->∀ V8,V8=(((V.setCell ⟨R,j * 4,none⟩ (.int .i64 y'.lv)).setCell ⟨R,j * 4+1,none⟩ (.bool y'.neg)).setCell ⟨R,j * 4+2,none⟩ (.slice D0 dn0 dc0)).setCell ⟨R,j * 4+3,none⟩ (.slice D1 dn1 dc1) ->
          ((Ext w0 V8/\Frr V2 R V8)/\jh V8 (fun b=>w0.heap.size<=b/\b ≠ w.heap.size) R ((L'.set j y).set j y'))/\(ElC V8 Rg d g2 B2 bn2 bc2 B3 bn3 bc3/\jb V8 wd.heap.size c (.slice C0 cn0 cc0) (.slice C1 cn1 cc1))):=Lib.hid (by
          intro V y' D0 dn0 dc0 D1 dn1 dc1 hxV hp V8 hV8;obtain ⟨p1,p2,p3,p4⟩:=Frr.put (H7.out.1.1.trans hxV) (H7.out.1.2.ext hxV) (H7.out.2.ext hxV) hR (by rw [List.length_set]; exact HLJ.out) (hp.mono fun b hb=>⟨⟨by omega,by omega⟩,by have:=HRA7.out; omega⟩) hV8;obtain ⟨s1,s2⟩:=HS16.out V hxV;have hVs:=hxV.size;obtain ⟨b0,b1,b2,b3⟩:=s2
          exact ⟨⟨⟨p1,p3⟩,p4⟩,s1.far (by omega) p2 hne,(p2.cell (by omega) (by omega)).trans b0,(p2.cell (by omega) (by omega)).trans b1,(p2.cell (by omega) (by omega)).trans b2,(p2.cell (by omega) (by omega)).trans b3⟩)
         have hkjI:(k:Int)<=(j:Int):=by omega
         have hwd:IntKind.i64.wrap ((j:Int) - (k:Int))=(d:Int):=by rw [IntKind.wrap_i64]; omega
         have hdn1:(d:Int) < (n:Int)+1:=by omega
         have Y7:Hid (Ext V7 V7.drew):=Lib.hid (Ext.refl V7).drew;clear hd hrow7 hey hpy hgR heg hpg hgl hfg2 hg2;go_upto_region 16 with fail;refine wp_region_held_drew (S:=fun W'=>ElC W' Rg d g2 B2 bn2 bc2 B3 bn3 bc3/\jb W' wd.heap.size c (.slice C0 cn0 cc0) (.slice C1 cn1 cc1)) (by kernel_rfl) (HS16.out _ Y7.out) (fun hHeld=>?_);refine tk 0 ?_;refine tk 1 ?_;refine tk 2 ?_;refine tk 3 ?_;refine tk 4 ?_;refine tk 6 ?_ (hy:=Or.inl ⟨by rfl,by intro w' hSw; obtain ⟨⟨k1,k2,k3,k4⟩,k5,k6,k7,k8⟩:=hSw; go_simp; (try (with_reducible rfl))⟩);refine tk 7 ?_;refine tk 8 ?_;refine tk 9 ?_;refine tk 10 ?_;refine tk 11 ?_;refine tk 12 ?_ (hy:=Or.inl ⟨by rfl,by intro w' hSw; obtain ⟨⟨k1,k2,k3,k4⟩,k5,k6,k7,k8⟩:=hSw; go_simp; (try (with_reducible rfl))⟩);refine wpAnyH_ready (rs:=[5,13]) (by kernel_rfl) (by simp) ?_;refine AllReadyH.cons rfl (fun K hK=>?ordA) (AllReadyH.cons rfl (fun K hK=>?ordB) AllReadyH.nil)
         case ordA =>
          obtain ⟨e0,e1,e2,e3⟩:=HEY.out _ Y7.out;go_simp;refine hK.out _ _ (HS16.out _ Y7.out) (fun hHeld=>?_);clear hK K e0 e1 e2 e3
          try simp only [Act.put,List.getElem_toArray,List.getElem_cons_zero,List.getElem_cons_succ,List.setIfInBounds_toArray,List.set_cons_zero,List.set_cons_succ]
          refine wpAnyH_ready (rs:=[13]) (by kernel_rfl) (by simp) ?_;refine AllReadyH.cons rfl (fun K hK=>?_) AllReadyH.nil;go_simp
          go_at_call 17
          refine (qav _ _ (HPC.out.ext Y7.out) (HPG2.out.ext Y7.out) HFC.out HFg2.out (by omega) (by omega)).mono ?_;rintro e w3 ⟨v3,rfl,m3,x3⟩;obtain ⟨D2,dn2,dc2,D3,dc3,rfl,-⟩:=id m3.open_;have z3:Ext V7 w3:=Y7.out.trans x3;refine hK.out _ _ (HS16.out _ z3) (fun hHeld=>?_);clear hK K
          try simp only [Act.put,List.getElem_toArray,List.getElem_cons_zero,List.getElem_cons_succ,List.setIfInBounds_toArray,List.set_cons_zero,List.set_cons_succ]
          refine wpAnyH_ready (rs:=[14]) (by kernel_rfl) (by simp) ?_;refine AllReadyH.cons rfl (fun K hK=>?_) AllReadyH.nil
          try unfold plV
          go_simp
          go_at_call 29
          refine (xav _ _ (HPY.out.ext z3) m3 HY.out (HFC.out.mul HFg2.out) (by omega) (by omega)).mono ?_;rintro e w4 ⟨v4,rfl,m4,x4⟩;obtain ⟨D4,dn4,dc4,D5,dc5,rfl,-⟩:=id m4.open_;have z4:Ext V7 w4:=z3.trans x4;refine hK.out _ _ (HS16.out _ z4) (fun hHeld=>?_);clear hK K
          try simp only [Act.put,List.getElem_toArray,List.getElem_cons_zero,List.getElem_cons_succ,List.setIfInBounds_toArray,List.set_cons_zero,List.set_cons_succ]
          refine tk 15 ?_;have HF5:=Lib.hid (HPUT2.out _ _ _ _ _ _ _ _ z4 (m4.mono fun b hb=>Nat.le_trans z3.size hb));obtain ⟨s0,s1,s2,s3⟩:=HEY.out _ z4;have f0:=(z4.frozen (p:=⟨R,j * 4,none⟩) HRA7.out).trans (HFRZ7.out _);have f1:=(z4.frozen (p:=⟨R,j * 4+1,none⟩) HRA7.out).trans (HFRZ7.out _);have f2:=(z4.frozen (p:=⟨R,j * 4+2,none⟩) HRA7.out).trans (HFRZ7.out _);have f3:=(z4.frozen (p:=⟨R,j * 4+3,none⟩) HRA7.out).trans (HFRZ7.out _);have HXV:Hid (y.add (c.mul g2).opp=(jaa G k L).getD j Pl.zero):=Lib.hid (by rw [HSTEP.out]; rfl);clear HPUT2 m4 x4 m3 x3 z3;generalize y.add (c.mul g2).opp=yy at *;refine wpAnyH_ready (rs:=[16]) (by kernel_rfl) (by simp) ?_;refine AllReadyH.cons rfl (fun K hK=>?_) AllReadyH.nil;unfold plV;go_simp;refine (?gA:∀ V8,(((Ext w0 V8/\Frr V2 R V8)/\jh V8 (fun b=>w0.heap.size<=b/\b ≠ w.heap.size) R ((L'.set j y).set j yy))/\(ElC V8 Rg d g2 B2 bn2 bc2 B3 bn3 bc3/\jb V8 wd.heap.size c (.slice C0 cn0 cc0) (.slice C1 cn1 cc1)))->K _ V8) _ (HF5.out _ rfl);intro V8 hV8;obtain ⟨h8,c8⟩:=hV8;refine hK.out _ _ c8 (fun hHeld=>?_);have HN8:Hid ((Ext w0 V8/\Frr V2 R V8)/\∃ L',RdL G k L n (j+1) L'/\jh V8 (fun b=>w0.heap.size<=b/\b ≠ w.heap.size) R L'):=Lib.hid ⟨h8.1,_,by rw [List.set_set]; exact HRD.out.step (by have:=HMN.out; omega) HXV.out,h8.2⟩;clear hK K s0 s1 s2 s3 f0 f1 f2 f3 c8 h8 z4
          try simp only [Act.put,List.getElem_toArray,List.getElem_cons_zero,List.getElem_cons_succ,List.setIfInBounds_toArray,List.set_cons_zero,List.set_cons_succ]
          refine wpAnyH_done (by kernel_rfl) ?_ _;clear hHeld HPY HPC HPG2 HS16 HEY HF5 Y7;go_wp2_with fail
          go_roundw
          case rel=>exact ⟨j+1,by omega,by go_num,HN8⟩
          case measure=>simp only [intOf]; omega
         case ordB =>
          go_simp
          go_at_call 17
          refine (qav _ _ (HPC.out.ext Y7.out) (HPG2.out.ext Y7.out) HFC.out HFg2.out (by omega) (by omega)).mono ?_;rintro e w3 ⟨v3,rfl,m3,x3⟩;obtain ⟨D2,dn2,dc2,D3,dc3,rfl,-⟩:=id m3.open_;have z3:Ext V7 w3:=Y7.out.trans x3;refine hK.out _ _ (HS16.out _ z3) (fun hHeld=>?_);clear hK K
          try simp only [Act.put,List.getElem_toArray,List.getElem_cons_zero,List.getElem_cons_succ,List.setIfInBounds_toArray,List.set_cons_zero,List.set_cons_succ]
          refine wpAnyH_ready (rs:=[5]) (by kernel_rfl) (by simp) ?_;refine AllReadyH.cons rfl (fun K hK=>?_) AllReadyH.nil;obtain ⟨e0,e1,e2,e3⟩:=HEY.out _ z3;go_simp;refine hK.out _ _ (HS16.out _ z3) (fun hHeld=>?_);clear hK K e0 e1 e2 e3
          try simp only [Act.put,List.getElem_toArray,List.getElem_cons_zero,List.getElem_cons_succ,List.setIfInBounds_toArray,List.set_cons_zero,List.set_cons_succ]
          refine wpAnyH_ready (rs:=[14]) (by kernel_rfl) (by simp) ?_;refine AllReadyH.cons rfl (fun K hK=>?_) AllReadyH.nil
          try unfold plV
          go_simp
          go_at_call 29
          refine (xav _ _ (HPY.out.ext z3) m3 HY.out (HFC.out.mul HFg2.out) (by omega) (by omega)).mono ?_;rintro e w4 ⟨v4,rfl,m4,x4⟩;obtain ⟨D4,dn4,dc4,D5,dc5,rfl,-⟩:=id m4.open_;have z4:Ext V7 w4:=z3.trans x4;refine hK.out _ _ (HS16.out _ z4) (fun hHeld=>?_);clear hK K
          try simp only [Act.put,List.getElem_toArray,List.getElem_cons_zero,List.getElem_cons_succ,List.setIfInBounds_toArray,List.set_cons_zero,List.set_cons_succ]
          refine tk 15 ?_;have HF5:=Lib.hid (HPUT2.out _ _ _ _ _ _ _ _ z4 (m4.mono fun b hb=>Nat.le_trans z3.size hb));obtain ⟨s0,s1,s2,s3⟩:=HEY.out _ z4;have f0:=(z4.frozen (p:=⟨R,j * 4,none⟩) HRA7.out).trans (HFRZ7.out _);have f1:=(z4.frozen (p:=⟨R,j * 4+1,none⟩) HRA7.out).trans (HFRZ7.out _);have f2:=(z4.frozen (p:=⟨R,j * 4+2,none⟩) HRA7.out).trans (HFRZ7.out _);have f3:=(z4.frozen (p:=⟨R,j * 4+3,none⟩) HRA7.out).trans (HFRZ7.out _);have HXV:Hid (y.add (c.mul g2).opp=(jaa G k L).getD j Pl.zero):=Lib.hid (by rw [HSTEP.out]; rfl);clear HPUT2 m4 x4 m3 x3 z3;generalize y.add (c.mul g2).opp=yy at *;refine wpAnyH_ready (rs:=[16]) (by kernel_rfl) (by simp) ?_;refine AllReadyH.cons rfl (fun K hK=>?_) AllReadyH.nil;unfold plV;go_simp;refine (?gB:∀ V8,(((Ext w0 V8/\Frr V2 R V8)/\jh V8 (fun b=>w0.heap.size<=b/\b ≠ w.heap.size) R ((L'.set j y).set j yy))/\(ElC V8 Rg d g2 B2 bn2 bc2 B3 bn3 bc3/\jb V8 wd.heap.size c (.slice C0 cn0 cc0) (.slice C1 cn1 cc1)))->K _ V8) _ (HF5.out _ rfl);intro V8 hV8;obtain ⟨h8,c8⟩:=hV8;refine hK.out _ _ c8 (fun hHeld=>?_);have HN8:Hid ((Ext w0 V8/\Frr V2 R V8)/\∃ L',RdL G k L n (j+1) L'/\jh V8 (fun b=>w0.heap.size<=b/\b ≠ w.heap.size) R L'):=Lib.hid ⟨h8.1,_,by rw [List.set_set]; exact HRD.out.step (by have:=HMN.out; omega) HXV.out,h8.2⟩;clear hK K s0 s1 s2 s3 f0 f1 f2 f3 c8 h8 z4
          try simp only [Act.put,List.getElem_toArray,List.getElem_cons_zero,List.getElem_cons_succ,List.setIfInBounds_toArray,List.set_cons_zero,List.set_cons_succ]
          refine wpAnyH_done (by kernel_rfl) ?_ _;clear hHeld HPY HPC HPG2 HS16 HEY HF5 Y7;go_wp2_with fail
          go_roundw
          case rel=>exact ⟨j+1,by omega,by go_num,HN8⟩
          case measure=>simp only [intOf]; omega
       · have hkjN:¬ (k:Int)<=(j:Int):=by omega
         have hkjL:(j:Int) < (k:Int):=by omega
         have HN7:Hid ((Ext w0 V7/\Frr V2 R V7)/\∃ L',RdL G k L n (j+1) L'/\jh V7 (fun b=>w0.heap.size<=b/\b ≠ w.heap.size) R L'):=Lib.hid ⟨H7.out.1,_,HRD.out.step hjb (by rw [za0 HGL.out hjb,if_neg hkj]; exact HYV.out),H7.out.2⟩;go_wp2_with fail
         go_roundw
         case rel=>exact ⟨j+1,by omega,by go_num,HN7⟩
         case measure=>simp only [intOf]; omega
     · have hje:j=M:=by omega
       have hjn:¬ (j:Int) < (M:Int):=by omega
       have HN:Hid (∃ L,RdS w0 w R w.heap.size F G n K EM DM Eg Dg k wr L):=Lib.hid (by
        obtain ⟨⟨hiE,hiF⟩,L',hRd,hrow⟩:=HI.out;have hm:=HMN.out;rw [hje,hm.1] at hRd;have hL':=hRd.fin HGL.out;obtain ⟨Ei,Di,hfit,hEi,hDi⟩:=HS.out.fit;have hrk:r=k+1:=by omega
        rw [hrk,Nat.succ_mul] at hEi hDi;refine ⟨L',hiE,HF2.out.trans hiF,HSL2.out.far hiF (by omega),hrow,hRd.1,?_,Ei+Eg,Di+Dg+2,?_,by omega,by omega⟩
        · rw [hL',<- HS.out.eq,hrk,yw]
        · rw [hL']; exact vbn HFG.out hfit k)
       have hik:i+1+k=K/\M=n+k:=by have:=HMN.out; omega
       clear HI;go_wp2_with fail
       go_roundw
       case rel=>exact ⟨i+1,k,M,hik.1,hik.2,by go_num,rfl,HN⟩
       case measure=>simp only [intOf]; omega
  · have hr0:r=0:=by omega
    have hik:¬ (i:Int) < (K:Int):=by omega
    obtain ⟨L,hS⟩:=HR.out;have hlen:=hS.len;have heq:=hS.eq;rw [hr0] at heq;have hLe:L=yw G K F:=heq;have HP:=Lib.hid (hS.row.mono (q':=fun b=>w0.heap.size<=b) fun b hb=>hb.1);have HXF:=Lib.hid hS.ext;have hNL:N=(yw G K F).length:=by rw [<- hLe]; omega
    have hNc:N<=cf:=by omega
    rw [hLe] at HP;clear hS hlen heq hLe HR H0 hN hir;go_wp2_with fail;exact bodyPost_ret (v:=.tuple #[.slice (some ⟨w.heap.size,0,none⟩) K K,.slice (some ⟨R,0,none⟩) (yw G K F).length cf]) (by simp [results,Tryz.results171,go_sem]) rfl ⟨.slice (some ⟨w.heap.size,0,none⟩) K K,cf,rfl,by rw [<- hNL]; exact hNc,hcf2,HP.out,HXF.out⟩
/- Layer 24: pseudo.reduce where there is no step. -/
set_option maxRecDepth 100000
set_option maxHeartbeats 8000000
theorem kbn {w:World} {A B:Option Addr} {n f cf cg:Nat} (hf:f<=n) (hcf:f<=cf) (hcf2:cf<=9223372036854775807) (hcg:n+1<=cg) (hcg2:cg<=9223372036854775807) (hn:n<=1000000) :
 Calls Tryz.prog 171 #[.slice A f cf,.slice B (n+1) cg] w fun e w'=>∃ v0,e=.returned (.tuple #[v0,.slice A f cf])/\Ext w w':=by
 obtain ⟨d,hd⟩:∃ d,f+d=n:=⟨n - f,by omega⟩;have HD:=Lib.hid hd;obtain ⟨V,hmk,hVx,hVs,-⟩:=wz 0 (by omega) (by omega) w;have HVX:=Lib.hid hVx;have hw1:IntKind.i64.wrap (((n:Int)+1) - 1)=(n:Int):=by rw [IntKind.wrap_i64]; omega
 have hw2:IntKind.i64.wrap ((f:Int) - (n:Int))=-(d:Int):=by rw [IntKind.wrap_i64]; omega
 have hd0:max (-(d:Int)) 0=0:=by omega
 have hd1:-(d:Int)<=0:=by omega
 clear hd hVx;go_enter Tryz.func171,Tryz.ntmps171;go_wp2_with fail
 go_loopw [0,23] (fun av iv wr=>iv=.int .i64 0/\av=.slice A f cf/\Hid (Ext w wr)) (fun _ _ _=>0)
 case atStart=>exact ⟨rfl,rfl,HVX⟩
 case round =>
  obtain ⟨rfl,rfl,HR⟩:=hrel;go_wp2_with fail;exact bodyPost_ret (v:=.tuple #[.slice (some ⟨w.heap.size,0,none⟩) 0 0,.slice A f cf]) (by simp [results,Tryz.results171,go_sem]) rfl ⟨_,rfl,HR.out⟩
/- Layer 24: pseudo.refuse. -/
set_option maxRecDepth 100000
set_option maxHeartbeats 8000000
def xcf (n:Int) (w:World) (e:Ending) (w':World):Prop:=e=.returned (.int .i64 n)/\Ext w w'
theorem xbu {w:World} {q:Nat->Prop} {L:List Pl} {A:Option Addr} {c:Nat} (hA:jd w q L A 0) (hcan:∀ p ∈ L,p.Can) (hn:L.length<=1000000) :
 Calls Tryz.prog 170 #[.slice A L.length c] w (xcf (if L.any Pl.isZ then 2 else 0) w):=by
 have HA:=Lib.hid hA;have HC:=Lib.hid hcan;obtain ⟨m,hm⟩:∃ m,L.length=m:=⟨_,rfl⟩;have HM:=Lib.hid hm;obtain ⟨b,hb⟩:∃ b:Int,(if L.any Pl.isZ then 2 else 0)=b:=⟨_,rfl⟩;have HB:=Lib.hid hb;rw [hm] at hn;rw [hm,hb];clear hA hcan hm hb;go_enter Tryz.func170,Tryz.ntmps170;go_wp2_with fail
 go_loopw [7] (fun iv wr=>∃ k:Nat,k<=m/\iv=.int .i64 k/\Hid (Ext w wr/\∀ i (h:i < L.length),i < k->L[i].isZ=false)) (fun iv _=>m - (intOf iv).toNat)
 case atStart=>exact ⟨0,Nat.zero_le _,rfl,Lib.hid ⟨Ext.refl _,fun i _ h=>by omega⟩⟩
 case round =>
  obtain ⟨k,hk,rfl,HR⟩:=hrel
  by_cases hlt:k < m
  · have hkl:k < L.length:=by rw [HM.out]; exact hlt
    obtain ⟨ad,C0,j0,g0,C1,j1,g1,rfl,hadb,hnd,hkt⟩:=jd.kid HA.out k hkl;obtain ⟨a0,a1,a2,a3⟩:=hnd.ext HR.out.1 (by rw [ja]; exact hadb);have HIZ:=Lib.hid (fun (W':World) (hx:Ext wr W')=>gai _ (hkt.ext (HR.out.1.trans hx)) (HC.out _ (List.getElem_mem hkl)));have HG:Hid (∀ x,L[k]=x->x.isZ=true->b=2):=Lib.hid fun x hx hz=>by
     rw [<- HB.out,if_pos (List.any_eq_true.2 ⟨L[k],List.getElem_mem hkl,by rw [hx]; exact hz⟩)]
    have HN:Hid (∀ x,L[k]=x->x.isZ=false->∀ i (h:i < L.length),i < k+1->L[i].isZ=false):=Lib.hid fun x hx hz i hi hik=>by
     by_cases e:i=k
     · subst e; rw [hx]; exact hz
     · exact HR.out.2 i hi (by omega)
    obtain ⟨x,hx⟩:∃ x,L[k]=x:=⟨_,rfl⟩
    replace HG:=Lib.hid (HG.out x hx)
    replace HN:=Lib.hid (HN.out x hx)
    rw [hx] at a0 a1 HIZ;have X1:=Lib.hid HR.out.1;have hkm:(k:Int) < (m:Int):=by omega
    unfold plV at HIZ;clear hnd hkt hadb hx HR hkl;go_wp2_with fail;clear a0 a1 a2 a3;refine (HIZ.out _ ((Ext.refl _).alloc _)).mono ?_;rintro e w1 ⟨rfl,x1⟩;cases hxz:x.isZ with
    | true =>
      have hb2:=HG.out hxz;clear HG HN;have XF:=Lib.hid (X1.out.trans (((Ext.refl wr).alloc _).trans x1));go_wp2_with fail;subst hb2;go_ret;exact ⟨rfl,XF.out⟩
    | false =>
      have HR2:=Lib.hid (And.intro (X1.out.trans (((Ext.refl wr).alloc _).trans x1)) (HN.out hxz));clear HG HN x1;go_wp2_with fail
      go_roundw
      case rel=>exact ⟨k+1,by omega,by go_num,HR2⟩
      case measure=>simp only [intOf]; omega
  · have hb0:b=0:=by
     rw [<- HB.out,if_neg];intro h;obtain ⟨x,hx,hz⟩:=List.any_eq_true.1 h;obtain ⟨i,hi,rfl⟩:=List.getElem_of_mem hx;rw [HR.out.2 i hi (by have:=HM.out; omega)] at hz;cases hz
    have hkm:¬ (k:Int) < (m:Int):=by omega
    have XF:=Lib.hid HR.out.1;clear HR;go_wp2_with fail;subst hb0;go_ret;exact ⟨rfl,XF.out⟩
end Go.Proofs.YtklnlgnnlmdibaaGreat
