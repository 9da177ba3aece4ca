/- Layers 24 and 25: pseudo.Exact and subresultant.quotient where the division is exact. -/
import Derived.Test.YtklnlgnnlmdibaaGreatMq48
set_option linter.unusedSimpArgs false
set_option linter.unusedVariables false

set_option maxRecDepth 100000
set_option maxHeartbeats 8000000
namespace Go.Proofs.YtklnlgnnlmdibaaGreat
open Lib (hid)
open Go.RowKit
theorem qbv {w:World} {q0 q1:Nat->Prop} {f g q:Pl} {E D F Dg:Nat} (v0 v1:Value) (h0:PlV w q0 f v0) (h1:PlV w q1 g v1) (uG:f=g.mul q) (hg:Fit g F Dg) (hq:Fit q E D) (bI:g ≠ Pl.zero) (uK:E+F<=62) (hD:D+Dg+E+4<=1099511627776) :
 Calls Tryz.prog 164 #[v0,v1] w (vcq (fun b=>w.heap.size<=b) q 0 w):=by
 have OW:Fit f (E+F) (D+Dg):=by rw [uG]; exact (hg.mul hq).mono (by omega) (by omega)
 have mM:=hid (fun (W':World) (qa qb:Nat->Prop) (u0 u1:Value) (k0:PlV W' qa f u0) (k1:PlV W' qb g u1)=>jce u0 u1 (by rw [<- uG]; exact k0) k1 hg hq bI uK hD);have H0:=hid h0;have H1:=hid h1;obtain ⟨A0,m0,e0,B0,f0,rfl,-⟩:=h0.open_;obtain ⟨A1,m1,e1,B1,f1,rfl,-⟩:=h1.open_;obtain ⟨DJ,Wx1,W,fU,jY,zT,fD,aC,bU,hx1,jF,aN,aV,aX,hz⟩:=b_x w f g (.slice A0 m0 e0) (.slice B0 f.cs.length f0) (.slice A1 m1 e1) (.slice B1 g.cs.length f1);have HZ:=hid hz;have HX:=hid ((aC.trans hx1).trans aN);have dC:=hid aV;have dG:=hid aX;have eQ:W.heap.size=w.heap.size+1+1+1:=jF;clear h0 h1 aC hx1 aN aV aX hz;have OV:g.isZ=false:=by
  cases e:g.isZ
  · rfl
  · exact absurd ((Pl.zero_isZ hg.can).1 e) bI
 have jZ:=hid (fun (W':World) (hx:Ext w W')=>qaa _ (H0.out.ext hx) OW.can (OW.copy_ (by omega)) (by have:=OW.dm; omega));have GX:=hid (fun (W':World) (hx:Ext w W')=>qaa _ (H1.out.ext hx) hg.can (hg.copy_ (by omega)) (by have:=hg.dm; omega));have ZI:=hid hg.can;unfold plV at jZ GX ⊢;clear uG OW hg hq bI uK hD;go_enter Tryz.func164,Tryz.ntmps164;go_upto_region 1 with fail;obtain ⟨b0,b1,b2,b3⟩:=dG.out;clear fU jY zT;go_wp2_with fail;have qC:=qbc (c:=1) (gbg (H1.out.ext HX.out) 35) (fun p hp=>by rw [List.mem_singleton.1 hp]; exact ZI.out) (by simp);rw [eQ] at qC;simp only [List.any_cons,List.any_nil,OV,Bool.or_false,Bool.false_eq_true,if_false,List.length_singleton] at qC;refine qC.mono ?_;rintro e W1 ⟨rfl,x1⟩;have y1':Ext W W1:=((Ext.refl W).alloc _).trans x1;have aG:Hid (∀ W',Ext W W'->(Ext W W'/\(jb W' (w.heap.size) f (.slice A0 m0 e0) (.slice B0 f.cs.length f0))/\(jb W' (w.heap.size+1) g (.slice A1 m1 e1) (.slice B1 g.cs.length f1)))):=hid (fun W' hx=>⟨hx,dC.out.ext hx (by omega),dG.out.ext hx (by omega)⟩);have DL:=hid eQ;clear qC x1 b0 b1 b2 b3 eQ fD bU jF;go_upto_region 4 with fail;have y1:Ext W W1.drew:=y1'.drew;refine wp_region_held_drew (S:=fun W'=>Ext W W'/\(jb W' (w.heap.size) f (.slice A0 m0 e0) (.slice B0 f.cs.length f0))/\(jb W' (w.heap.size+1) g (.slice A1 m1 e1) (.slice B1 g.cs.length f1))) (by kernel_rfl) (aG.out _ y1) (fun hHeld=>?_);refine tk 0 ?_ (hy:=Or.inl ⟨by rfl,by intro w' aK; obtain ⟨-,⟨k0,k1,k2,k3⟩,k4,k5,k6,k7⟩:=aK; go_simp; (try (with_reducible rfl))⟩);refine tk 2 ?_ (hy:=Or.inl ⟨by rfl,by intro w' aK; obtain ⟨-,⟨k0,k1,k2,k3⟩,k4,k5,k6,k7⟩:=aK; go_simp; (try (with_reducible rfl))⟩);refine r_2 1 8 (fun K hK=>?h10x1) fun K hK=>?h10x8
 case' h10x1 =>
  go_simp
  go_at_call 35
  refine (jZ.out _ (HX.out.trans y1)).mono ?_;rintro e w4 ⟨v4,rfl,jM,x4⟩;have Eh:=y1.trans x4;obtain ⟨C0,j0,k0,C1,k1,rfl,-⟩:=id jM.open_;unfold plV;refine k_t hK (aG.out _ Eh) fun hHeld=>?_
  clear hK K;refine r_2 3 8 (fun K hK=>?h30x3) fun K hK=>?h30x8
  case' h30x3 =>
   go_simp
   go_at_call 35
   refine (GX.out _ (HX.out.trans Eh)).mono ?_;rintro e w5 ⟨v5,rfl,xM,x5⟩;have AP:=Eh.trans x5;obtain ⟨D0,j2,k2,D1,k3,rfl,-⟩:=id xM.open_;unfold plV;have jM:=jM.ext x5;refine k_t hK (aG.out _ AP) fun hHeld=>?_
   clear hK K;refine r_2 4 8 (fun K hK=>?h40x4) fun K hK=>?h40x8
   case' h40x4 =>
    go_simp
    go_at_call 172
    refine (mM.out _ _ _ _ _ jM xM).mono ?_;rintro e w6 ⟨v6,rfl,hp,x6⟩;have BP:=AP.trans x6;obtain ⟨F0,j4,k4,F1,k5,rfl,-⟩:=id hp.open_;unfold plV;refine k_t hK (aG.out _ BP) fun hHeld=>?_
    clear hK K;refine tk 5 ?_;refine tk 6 ?_;refine tk 7 ?_;have hp:PlV w6 (fun b=>W.heap.size<=b) q _:=hp.mono fun b hb=>by have:=AP.size; omega
    refine r_1 8 fun K hK=>?_
    go_simp;obtain ⟨V,o,hV,ho,hz,yA,kM,pG,jV,mQ⟩:=z_b BP
    try rw [hV]
    try rw [ho]
    refine k_t hK (aG.out _ yA) fun hHeld=>?_
    clear hK K hV ho;have hp:PlV V (fun b=>W.heap.size<=b/\b ≠ o) q _:=(hp.below_.ext mQ).mono fun b hb=>by have:=hb.1; have:=hb.2; have:=jV.out; constructor <;> omega
    have yE:=yA;have kF:=hz;have lh:=hp
   case' h40x8 =>
    go_simp;obtain ⟨V,o,hV,ho,hz,yA,kM,pG,jV,mQ⟩:=z_b AP
    try rw [hV]
    try rw [ho]
    refine k_t hK (aG.out _ yA) fun hHeld=>?_
    clear hK K hV ho;have xM:=xM.ext mQ;have jM:=jM.ext mQ;refine r_1 4 fun K hK=>?_
    go_simp
    go_at_call 172
    refine (mM.out _ _ _ _ _ jM xM).mono ?_;rintro e w6 ⟨v6,rfl,hp,x6⟩;have BP:=yA.trans x6;obtain ⟨F0,j4,k4,F1,k5,rfl,-⟩:=id hp.open_;unfold plV;refine k_t hK (aG.out _ BP) fun hHeld=>?_
    clear hK K;refine tk 5 ?_;refine tk 6 ?_;refine tk 7 ?_;have hp:PlV w6 (fun b=>W.heap.size<=b/\b ≠ o) q _:=hp.mono fun b hb=>by have:=yA.size; have:=hz.1; constructor <;> omega
    have hz:=hz.ext x6;have yE:=BP;have kF:=hz;have lh:=hp
  case' h30x8 =>
   go_simp;obtain ⟨V,o,hV,ho,hz,yA,kM,pG,jV,mQ⟩:=z_b Eh
   try rw [hV]
   try rw [ho]
   refine k_t hK (aG.out _ yA) fun hHeld=>?_
   clear hK K hV ho;have jM:=jM.ext mQ;refine r_1 3 fun K hK=>?_
   go_simp
   go_at_call 35
   refine (GX.out _ (HX.out.trans yA)).mono ?_;rintro e w5 ⟨v5,rfl,xM,x5⟩;have AP:=yA.trans x5;obtain ⟨D0,j2,k2,D1,k3,rfl,-⟩:=id xM.open_;unfold plV;have jM:=jM.ext x5;refine k_t hK (aG.out _ AP) fun hHeld=>?_
   clear hK K;have hz:=hz.ext x5;refine r_1 4 fun K hK=>?_
   go_simp
   go_at_call 172
   refine (mM.out _ _ _ _ _ jM xM).mono ?_;rintro e w6 ⟨v6,rfl,hp,x6⟩;have BP:=AP.trans x6;obtain ⟨F0,j4,k4,F1,k5,rfl,-⟩:=id hp.open_;unfold plV;refine k_t hK (aG.out _ BP) fun hHeld=>?_
   clear hK K;refine tk 5 ?_;refine tk 6 ?_;refine tk 7 ?_;have hp:PlV w6 (fun b=>W.heap.size<=b/\b ≠ o) q _:=hp.mono fun b hb=>by have:=AP.size; have:=hz.1; constructor <;> omega
   have hz:=hz.ext x6;have yE:=BP;have kF:=hz;have lh:=hp
 case' h10x8 =>
  go_simp;obtain ⟨V,hV⟩:=n_m ((W1.alloc (.cells #[.int .i64 0,.bool false,.slice none 0 0,.slice none 0 0] 35)).drew);obtain ⟨o,ho⟩:=n_m (W1.heap.size);have hz:PBx V (fun _=>False) o Pl.zero:=by rw [<- hV,<- ho]; exact (PBx.new (Pl.zero_v _ _ none 0 (by omega)) _).ext (Ext.refl _).drew
  have yA:Ext W V:=by rw [<- hV]; exact (y1'.alloc _).drew
  have kM:W.heap.size<=o:=by rw [<- ho]; exact y1'.size
  have pG:o < V.heap.size:=hz.1;have jV:=hid ho.symm;have mQ:Ext W1 V:=by rw [<- hV]; exact ((Ext.refl _).alloc _).drew
  try rw [hV]
  try rw [ho]
  refine k_t hK (aG.out _ yA) fun hHeld=>?_
  clear hK K hV ho;refine r_1 1 fun K hK=>?_
  go_simp
  go_at_call 35
  refine (jZ.out _ (HX.out.trans yA)).mono ?_;rintro e w4 ⟨v4,rfl,jM,x4⟩;have Eh:=yA.trans x4;obtain ⟨C0,j0,k0,C1,k1,rfl,-⟩:=id jM.open_;unfold plV;refine k_t hK (aG.out _ Eh) fun hHeld=>?_
  clear hK K;have hz:=hz.ext x4;refine r_1 3 fun K hK=>?_
  go_simp
  go_at_call 35
  refine (GX.out _ (HX.out.trans Eh)).mono ?_;rintro e w5 ⟨v5,rfl,xM,x5⟩;have AP:=Eh.trans x5;obtain ⟨D0,j2,k2,D1,k3,rfl,-⟩:=id xM.open_;unfold plV;have jM:=jM.ext x5;refine k_t hK (aG.out _ AP) fun hHeld=>?_
  clear hK K;have hz:=hz.ext x5;refine r_1 4 fun K hK=>?_
  go_simp
  go_at_call 172
  refine (mM.out _ _ _ _ _ jM xM).mono ?_;rintro e w6 ⟨v6,rfl,hp,x6⟩;have BP:=AP.trans x6;obtain ⟨F0,j4,k4,F1,k5,rfl,-⟩:=id hp.open_;unfold plV;refine k_t hK (aG.out _ BP) fun hHeld=>?_
  clear hK K;refine tk 5 ?_;refine tk 6 ?_;refine tk 7 ?_;have hp:PlV w6 (fun b=>W.heap.size<=b/\b ≠ o) q _:=hp.mono fun b hb=>by have:=AP.size; have:=hz.1; constructor <;> omega
  have hz:=hz.ext x6;have yE:=BP;have kF:=hz;have lh:=hp
 all_goals
  have nP:=kF.2.1;obtain ⟨Z0,zn,zc,Z1,uT,⟨g0,g1,g2,g3⟩,-⟩:=kF.2.2;refine r_1 9 fun K hK=>?_
  go_simp;clear g0 g1 g2 g3 nP;refine xu (P:=fun V7=>Ext W V7/\PBx V7 (fun b=>W.heap.size<=b) o q) ⟨(((yE.setCell kM _).setCell kM _).setCell kM _).setCell kM _,kF.store lh⟩ (fun V7 mf=>?_);obtain ⟨y9,b9⟩:=mf;refine k_t hK (aG.out _ y9) fun hHeld=>?_
  clear hK K;refine tk 10 ?_;refine w_d ?_;obtain ⟨-,-,C9,n9,k9,D9,k8,⟨g0,g1,g2,g3⟩,p9⟩:=b9;have eQ:=DL.out;have aQ:=HZ.out.ext y9 (by omega);have jP:=hid (qf (q':=fun b=>w.heap.size<=b) (HX.out.trans y9) (by omega) aQ p9 (fun b _ hb=>by
   have:=hb.1
   exact ⟨by omega,by omega⟩))
  obtain ⟨⟨z0,z1,z2,z3⟩,zf⟩:=aQ;clear y9 p9 eQ kF lh;go_wp2_with fail;obtain ⟨v9,e9,k3,k4⟩:=jP.out;injection e9 with e9
  subst e9;exact bodyPost_ret (v:=.tuple #[plV q (.slice C9 n9 k9) (.slice D9 q.cs.length k8),.int .i64 0]) (by simp [results,Tryz.results164,go_sem,z0,z1,z2,z3,plV]) rfl ⟨_,rfl,k3,k4⟩
theorem qby {w:World} {q0 q1:Nat->Prop} {f g q:Pl} {E D F Dg:Nat} (v0 v1:Value) (h0:PlV w q0 f v0) (h1:PlV w q1 g v1) (uG:f=g.mul q) (hg:Fit g F Dg) (hq:Fit q E D) (bI:g ≠ Pl.zero) (uK:E+F<=62) (hD:D+Dg+E+4<=1099511627776) :
 Calls Tryz.prog 140 #[v0,v1] w (uf (fun b=>w.heap.size<=b) q w):=by
 have H0:=hid h0;have H1:=hid h1;obtain ⟨A0,m0,e0,B0,f0,rfl,-⟩:=h0.open_;obtain ⟨A1,m1,e1,B1,f1,rfl,-⟩:=h1.open_;obtain ⟨DJ,Wx1,W,fU,jY,zT,fD,aC,bU,hx1,jF,aN,aV,aX,hz⟩:=b_x w f g (.slice A0 m0 e0) (.slice B0 f.cs.length f0) (.slice A1 m1 e1) (.slice B1 g.cs.length f1);have HZ:=hid hz;have HX:=hid ((aC.trans hx1).trans aN);have dC:=hid aV;have dG:=hid aX;have eQ:W.heap.size=w.heap.size+1+1+1:=jF;clear h0 h1 aC hx1 aN aV aX hz;have HE:=hid (fun (W':World) (hx:Ext w W')=>qbv _ _ (H0.out.ext hx) (H1.out.ext hx) uG hg hq bI uK hD);obtain ⟨b0,b1,b2,b3⟩:=dC.out;obtain ⟨d0,d1,d2,d3⟩:=dG.out;unfold plV at HE ⊢;clear uG hg hq bI uK hD;go_enter Tryz.func140,Tryz.ntmps140;go_wp2_with fail;clear fU jY zT;clear b0 b1 b2 b3 d0 d1 d2 d3;refine (HE.out _ HX.out).mono ?_;rintro e w3 ⟨v3,rfl,p3,x3⟩;obtain ⟨D0,j2,k2,D1,k3,rfl,-⟩:=id p3.open_;obtain ⟨Wp,xU⟩:=n_m ((w3.alloc (.cells #[.int .i64 q.lv,.bool q.neg,.slice D0 j2 k2,.slice D1 q.cs.length k3] 35)));have xp:Ext w3 Wp:=by rw [<- xU]; exact (Ext.refl w3).alloc _
 obtain ⟨g0,g1,g2,g3⟩:jb Wp w3.heap.size q (.slice D0 j2 k2) (.slice D1 q.cs.length k3):=by rw [<- xU]; exact jb.new w3 q _ _ _
 have X4:=hid (HX.out.trans (x3.trans xp));have aQ:=HZ.out.ext (x3.trans xp) (by omega);have jP:=hid (qf (q':=fun b=>w.heap.size<=b) X4.out (by omega) aQ (p3.below_.ext xp) (fun b _ hb=>by have:=hb.1; exact ⟨by omega,by omega⟩));obtain ⟨⟨z0,z1,z2,z3⟩,zf⟩:=aQ;clear x3 xp p3 HE;unfold plV;go_wp2_with fail;obtain ⟨v9,e9,u3,u4⟩:=jP.out;injection e9 with e9
 subst e9;exact bodyPost_ret (v:=plV q (.slice D0 j2 k2) (.slice D1 q.cs.length k3)) (by simp [results,Tryz.results140,go_sem,z0,z1,z2,z3,plV]) rfl ⟨_,rfl,u3,u4⟩
theorem ug.zero (l:Int):ug l Pl.zero:=fun ρ ρ' _=>by rw [Pl.zero_val,Pl.zero_val]
theorem zcf {l i:Int} (hl:1<=l) (ag:l<=4) (hi:0<=i) {p:Pl} (h:p.Can) {cs:List Pl} (hc:∀ c ∈ cs,ug l c) (hv:∀ ρ,ve ρ l cs=p.val ρ) (ρ:Int->Rat):(vg l i p).val ρ=(cs.getD i.toNat Pl.zero).val ρ:=by
 unfold vg;rw [if_neg (by omega)];exact va4 (uaa hl ag h) hc (fun ρ=>by rw [(Pl.cfL_coefs hl ag h).val,hv]) _ ρ
theorem ubc {l : Int} {g : List Pl} (hg : ∀ c ∈ g, ug l c) : ∀ (k : Nat) (rest : List Pl), (∀ c ∈ rest, ug l c) -> ∀ c ∈ uq g k rest, ug l c
 | 0,rest,h=>h
 | k+1,rest,h=>ubc hg k (qy g k rest) fun c hc=>by
   obtain ⟨j,-,rfl⟩:=List.mem_map.1 hc;have h1:=(jab (P:=ug l) (ug.zero l) h j).mul (jab (P:=ug l) (ug.zero l) hg (g.length - 1))
   split
   · exact h1.sub ((jab (P:=ug l) (ug.zero l) h (g.length - 1+k)).mul (jab (P:=ug l) (ug.zero l) hg (j - k)))
   · exact h1
theorem kcx {g:Pl} (hg:g.Can) (h:g ≠ Pl.zero):g.opp ≠ Pl.zero:=fun e=>h (by rw [<- Pl.opp_opp hg,e]; exact Pl.opp_zero)
theorem qb8 {l:Int} (hl:1<=l) (ag:l<=4) {f g:Pl} (hg:g.Can) (bI:g ≠ Pl.zero) (ρ:Int->Rat):ve ρ l (uq ((g.cfL l).map Pl.opp) ((f.cfL l).length - ((g.cfL l).length - 1)) (f.cfL l))=(zi l f g).val ρ:=by
 have hz:g.opp.isZ=false:=by
  cases e:g.opp.isZ
  · rfl
  · exact absurd ((Pl.zero_isZ (Pl.opp_can g)).1 e) (kcx hg bI)
 unfold zi uaf;rw [if_pos ⟨hl,ag⟩,hz,if_neg (by simp),vac hl ag,zbh hl ag hg,List.length_map]
theorem ja2 {l i:Int} (hl:1<=l) (ag:l<=4) (hi:0<=i) {f g:Pl} (hf:f.Can) (hg:g.Can) (bI:g ≠ Pl.zero) (ρ:Int->Rat):(vg l i (zi l f g)).val ρ=((uq ((g.cfL l).map Pl.opp) ((f.cfL l).length - ((g.cfL l).length - 1)) (f.cfL l)).getD i.toNat Pl.zero).val ρ:=by
 refine zcf hl ag hi (qx l f g) (ubc (fun c hc=>?_) _ _ (uaa hl ag hf)) (qb8 hl ag hg bI) ρ;obtain ⟨d,hd,rfl⟩:=List.mem_map.1 hc;exact (uaa hl ag hg d hd).opp
section
variable {l:Int} (hl:1<=l) (ag:l<=4) {f g f0 f1 f2 g0 g1 g2:Pl} (hf:f.Can) (hg:g.Can)
include hl ag hf hg
theorem gcw (ef:f.cfL l=[f0,f1,f2]) (eg:g.cfL l=[g0,g1]) (ρ:Int->Rat):(vg l 0 (zi l f g)).val ρ=f0.val ρ * g1.val ρ * g1.val ρ - f1.val ρ * g1.val ρ * g0.val ρ+f2.val ρ * g0.val ρ * g0.val ρ:=by
 rw [ja2 hl ag (by omega) hf hg (vag (l:=l) (by unfold mdg; rw [eg]; simp)),ef,eg];simp [uq,qy,Pl.mul_val,Pl.sub_val,Pl.opp_val,Pl.zero_val,List.range_succ]
 grind
theorem jb8 (ef:f.cfL l=[f0,f1,f2]) (eg:g.cfL l=[g0,g1,g2]) (ρ:Int->Rat):(vg l 0 (zi l f g)).val ρ=f2.val ρ * g0.val ρ - f0.val ρ * g2.val ρ/\(vg l 1 (zi l f g)).val ρ=f2.val ρ * g1.val ρ - f1.val ρ * g2.val ρ:=by
 have bI:g ≠ Pl.zero:=vag (l:=l) (by unfold mdg; rw [eg]; simp)
 constructor
 · rw [ja2 hl ag (by omega) hf hg bI,ef,eg];simp [uq,qy,Pl.mul_val,Pl.sub_val,Pl.opp_val,Pl.zero_val,List.range_succ]
   grind
 · rw [ja2 hl ag (by omega) hf hg bI,ef,eg];simp [uq,qy,Pl.mul_val,Pl.sub_val,Pl.opp_val,Pl.zero_val,List.range_succ]
   grind
theorem xca (ef:f.cfL l=[f0,f1,f2]) (eg:g.cfL l=[g0,g1,g2]) (ρ:Int->Rat):(jaa l f g).val ρ=(f2.val ρ * g0.val ρ - f0.val ρ * g2.val ρ) * (f2.val ρ * g0.val ρ - f0.val ρ * g2.val ρ) - (f2.val ρ * g1.val ρ - f1.val ρ * g2.val ρ) * (f1.val ρ * g0.val ρ - f0.val ρ * g1.val ρ):=by
 obtain ⟨h0,h1⟩:=jb8 hl ag hf hg ef eg ρ;unfold jaa;rw [Pl.sub_val,Pl.mul_val,Pl.mul_val,Pl.sub_val,Pl.mul_val,Pl.mul_val,h0,h1];have e:∀ (p:Pl) (i:Int) (L:List Pl),0<=i->p.cfL l=L->vg l i p=L.getD i.toNat Pl.zero:=fun p i L hi e=>by unfold vg; rw [if_neg (by omega),e]
 rw [e f 1 _ (by omega) ef,e f 0 _ (by omega) ef,e g 0 _ (by omega) eg,e g 1 _ (by omega) eg];simp
end
theorem xcf {l i:Int} (hl:1<=l) (ag:l<=4) {p:Pl} (h:p.Can):ug l (vg l i p):=by
 unfold vg
 split
 · exact ug.zero l
 · exact jab (P:=ug l) (ug.zero l) (uaa hl ag h) _
theorem kbz {l:Int} (hl:1<=l) (ag:l<=4) {p:Pl} (h:p.Can) (hi:ug l p):mdg l p<=0:=by
 by_cases h0:p=Pl.zero
 · rw [(uas h).2 h0]; omega
 · unfold mdg; rw [(Pl.cfL_coefs hl ag h).uniq (uav h h0 hi)]; simp
theorem wah {l:Int} {f g:Pl}:(jaa l f g).Can:=Pl.sub_can _ _
theorem ubi {l:Int} (hl:1<=l) (ag:l<=4) {f g:Pl} (hf:f.Can) (hg:g.Can):ug l (jaa l f g):=by
 have hs:=qx l f g;have k:∀ (i:Int) (p:Pl),p.Can->ug l (vg l i p):=fun i p hp=>xcf hl ag hp
 exact ((k 0 _ hs).mul (k 0 _ hs)).sub ((k 1 _ hs).mul (((k 1 _ hf).mul (k 0 _ hg)).sub ((k 0 _ hf).mul (k 1 _ hg))))
theorem ubk {l:Int} {p:Pl} (h:mdg l p=2):∃ a b c,p.cfL l=[a,b,c]:=by
 unfold mdg at h;rcases hL:p.cfL l with _ | ⟨a,_ | ⟨b,_ | ⟨c,_ | ⟨d,r⟩⟩⟩⟩ <;> rw [hL] at h <;> simp at h
 · exact ⟨a,b,c,rfl⟩
 · omega
theorem gcv {l:Int} {p:Pl} (h:mdg l p=1):∃ a b,p.cfL l=[a,b]:=by
 unfold mdg at h;rcases hL:p.cfL l with _ | ⟨a,_ | ⟨b,_ | ⟨c,r⟩⟩⟩ <;> rw [hL] at h <;> simp at h
 · exact ⟨a,b,rfl⟩
 · omega
theorem wcv {l:Int} {p:Pl} (h:mdg l p=0):∃ a,p.cfL l=[a]:=by
 unfold mdg at h;rcases hL:p.cfL l with _ | ⟨a,_ | ⟨b,r⟩⟩ <;> rw [hL] at h <;> simp at h
 · exact ⟨a,rfl⟩
 · omega
theorem zb4 {l:Int} {f g:Pl} (h:zi l f g=Pl.zero):jaa l f g=Pl.zero:=Pl.val_uniq wah Pl.zero_can fun ρ=>by
 have e:∀ i:Int,vg l i Pl.zero=Pl.zero:=fun i=>by
  unfold vg; split
  · rfl
  · rw [Pl.cfL_zero]; rfl
 unfold jaa;rw [h,e,e,Pl.sub_val,Pl.mul_val,Pl.mul_val,Pl.zero_val]
 grind
theorem xbv {l:Int} (hl:1<=l) (ag:l<=4) {f g:Pl} (h:mdg l (zi l f g)=0):((ui l (zi l f g)).pow 1).mul (zi l f g)=jaa l f g:=Pl.val_uniq (Pl.mul_can _ _) wah fun ρ=>by
 obtain ⟨a,ha⟩:=wcv h;have hv:=(Pl.cfL_coefs hl ag (qx l f g)).val ρ;rw [ha] at hv;simp only [ve] at hv;have h0:vg l 0 (zi l f g)=a:=by unfold vg; rw [if_neg (by omega),ha]; rfl
 have h1:vg l 1 (zi l f g)=Pl.zero:=by unfold vg; rw [if_neg (by omega),ha]; rfl
 have hL:ui l (zi l f g)=a:=by unfold ui; rw [ha]; rfl
 unfold jaa;rw [h0,h1,hL,Pl.mul_val,Pl.pow_val,Pl.sub_val,Pl.mul_val,Pl.mul_val,Pl.zero_val,<- hv]
 grind
section
variable {l:Int} (hl:1<=l) (ag:l<=4) {f g:Pl} (hf:f.Can) (hg:g.Can) (lK:mdg l f=2) (gJ:mdg l g=2)
include hl ag hf hg lK gJ
theorem vca (h:mdg l (zi l f g)=1):zi l g (zi l f g)=(ui l g).mul (jaa l f g):=by
 obtain ⟨f0,f1,f2,ef⟩:=ubk lK;obtain ⟨g0,g1,g2,eg⟩:=ubk gJ;obtain ⟨c0,c1,ec⟩:=gcv h;have hs:=qx l f g;have hm:=xay hl ag hg hs (vag (l:=l) (by omega));refine Pl.val_uniq (qx _ _ _) (Pl.mul_can _ _) fun ρ=>?_
 have h1:=gcw hl ag hg hs eg ec ρ;rw [ka0 hl ag (qx _ _ _) (by omega)] at h1;obtain ⟨k0,k1⟩:=jb8 hl ag hf hg ef eg ρ;have e0:vg l 0 (zi l f g)=c0:=by unfold vg; rw [if_neg (by omega),ec]; rfl
 have e1:vg l 1 (zi l f g)=c1:=by unfold vg; rw [if_neg (by omega),ec]; rfl
 rw [e0] at k0;rw [e1] at k1;have hL:ui l g=g2:=by unfold ui; rw [eg]; rfl
 rw [h1,hL,Pl.mul_val,xca hl ag hf hg ef eg,k0,k1]
 grind
end
theorem ya3 {l:Int} (hl:1<=l) (ag:l<=4) {f g:Pl} {D:Nat} (hf:Fit f 2 D) (hg:Fit g 2 D):Fit (jaa l f g) 24 (8 * D+40):=by
 have hs:=gaj hl ag hf hg (by have:B32=4294967296:=rfl; omega);have k:∀ (i:Int) (p:Pl) (E D:Nat),Fit p E D->Fit (vg l i p) E D:=fun i p E D hp=>xap hp
 have h1:=(k 0 _ _ _ hs).mul (k 0 _ _ _ hs);have h2:=((k 1 _ _ _ hf).mul (k 0 _ _ _ hg)).sub ((k 0 _ _ _ hf).mul (k 1 _ _ _ hg));have h3:=h1.sub ((k 1 _ _ _ hs).mul h2);exact h3.mono (by omega) (by omega)
theorem wck {l:Int} {f g:Pl} (hf:mdg l f=2) (hg:mdg l g=2):uj l f g=[jaa l f g,vg l 1 (zi l f g)]:=by
 unfold uj;rw [hf,hg,if_neg (by omega),if_neg (by omega),if_neg (by omega)]
end Go.Proofs.YtklnlgnnlmdibaaGreat
