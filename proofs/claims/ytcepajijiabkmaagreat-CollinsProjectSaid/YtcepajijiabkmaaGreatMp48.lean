/- Layers 24 and 25: pseudo.Exact and subresultant.quotient where the division is exact. -/
import Derived.Test.YtcepajijiabkmaaGreatMp47
set_option linter.unusedSimpArgs false
set_option linter.unusedVariables false

set_option maxRecDepth 100000
set_option maxHeartbeats 8000000
namespace Go.Proofs.YtcepajijiabkmaaGreat
open Lib (hid)
open Go.RowKit
theorem xb5 {w:World} {q0 q1:Nat->Prop} {f g q:Pl} {E D F Dg:Nat} (v0 v1:Value) (h0:PlV w q0 f v0) (h1:PlV w q1 g v1) (uD:f=g.mul q) (hg:Fit g F Dg) (hq:Fit q E D) (bI:g ≠ Pl.zero) (uG:E+F<=62) (hD:D+Dg+E+4<=1099511627776) :
 Calls Tryz.prog 163 #[v0,v1] w (vc3 (fun b=>w.heap.size<=b) q 0 w):=by
 have OC:Fit f (E+F) (D+Dg):=by rw [uD]; exact (hg.mul hq).mono (by omega) (by omega)
 have mF:=hid (fun (W':World) (qa qb:Nat->Prop) (u0 u1:Value) (k0:PlV W' qa f u0) (k1:PlV W' qb g u1)=>jcp u0 u1 (by rw [<- uD]; exact k0) k1 hg hq bI uG hD);have H0:=hid h0;have H1:=hid h1;obtain ⟨A0,m0,e0,B0,f0,rfl,-⟩:=h0.open_;obtain ⟨A1,m1,e1,B1,f1,rfl,-⟩:=h1.open_;obtain ⟨Ej,Wx1,W,fV,jK,rF,iT,aC,bW,hx1,jG,aN,aX,bF,hz⟩:=b_x w f g (.slice A0 m0 e0) (.slice B0 f.cs.length f0) (.slice A1 m1 e1) (.slice B1 g.cs.length f1);have HZ:=hid hz;have HX:=hid ((aC.trans hx1).trans aN);have dJ:=hid aX;have dH:=hid bF;have fO:W.heap.size=w.heap.size+1+1+1:=jG;clear h0 h1 aC hx1 aN aX bF hz;have Oz:g.zp=false:=by
  cases e:g.zp
  · rfl
  · exact absurd ((Pl.xj hg.can).1 e) bI
 have rH:=hid (fun (W':World) (hx:Ext w W')=>qab _ (H0.out.ext hx) OC.can (OC.copy_ (by omega)) (by have:=OC.dm; omega));have DF:=hid (fun (W':World) (hx:Ext w W')=>qab _ (H1.out.ext hx) hg.can (hg.copy_ (by omega)) (by have:=hg.dm; omega));have YL:=hid hg.can;unfold plV at rH DF ⊢;clear uD OC hg hq bI uG hD;go_enter Tryz.func163,Tryz.ntmps163;go_upto_region 1 with fail;obtain ⟨b0,b1,b2,b3⟩:=dH.out;clear fV jK rF;go_wp2_with fail;have qA:=ybh (c:=1) (kbl (H1.out.ext HX.out) 33) (fun p hp=>by rw [pD.1 hp]; exact YL.out) (by simp);rw [fO] at qA;simp only [List.any_cons,List.any_nil,Oz,Bool.or_false,Pu,if_false,Pt] at qA;refine qA.mono ?_;rintro e W1 ⟨rfl,x1⟩;have y1':Ext W W1:=((Ext.refl W).alloc _).trans x1;have aH:Hid (∀ W',Ext W W'->(Ext W W'/\(jb W' (w.heap.size) f (.slice A0 m0 e0) (.slice B0 f.cs.length f0))/\(jb W' (w.heap.size+1) g (.slice A1 m1 e1) (.slice B1 g.cs.length f1)))):=hid (fun W' hx=>⟨hx,dJ.out.ext hx (by omega),dH.out.ext hx (by omega)⟩);have Dp:=hid fO;clear qA x1 b0 b1 b2 b3 fO iT bW jG;go_upto_region 4 with fail;have y1:Ext W W1.drew:=y1'.drew;refine wp_region_held_drew (S:=fun W'=>Ext W W'/\(jb W' (w.heap.size) f (.slice A0 m0 e0) (.slice B0 f.cs.length f0))/\(jb W' (w.heap.size+1) g (.slice A1 m1 e1) (.slice B1 g.cs.length f1))) (by kernel_rfl) (aH.out _ y1) (fun hHeld=>?_);refine tk 0 ?_ (hy:=Or.inl ⟨by rfl,by intro w' aP; obtain ⟨-,⟨k0,k1,k2,k3⟩,k4,k5,k6,k7⟩:=aP; go_simp; (try (with_reducible rfl))⟩);refine tk 2 ?_ (hy:=Or.inl ⟨by rfl,by intro w' aP; obtain ⟨-,⟨k0,k1,k2,k3⟩,k4,k5,k6,k7⟩:=aP; go_simp; (try (with_reducible rfl))⟩);refine r_2 1 8 (fun K hK=>?h10x1) fun K hK=>?h10x8
 case' h10x1 =>
  go_simp
  go_at_call 36
  refine (rH.out _ (HX.out.trans y1)).mono ?_;rintro e w4 ⟨v4,rfl,kE,x4⟩;have EC:=y1.trans x4;obtain ⟨C0,j0,k0,C1,k1,rfl,-⟩:=id kE.open_;unfold plV;refine k_t hK (aH.out _ EC) fun hHeld=>?_
  clear hK K;refine r_2 3 8 (fun K hK=>?h30x3) fun K hK=>?h30x8
  case' h30x3 =>
   go_simp
   go_at_call 36
   refine (DF.out _ (HX.out.trans EC)).mono ?_;rintro e w5 ⟨v5,rfl,sO,x5⟩;have AC:=EC.trans x5;obtain ⟨D0,j2,k2,D1,k3,rfl,-⟩:=id sO.open_;unfold plV;have kE:=kE.ext x5;refine k_t hK (aH.out _ AC) fun hHeld=>?_
   clear hK K;refine r_2 4 8 (fun K hK=>?h40x4) fun K hK=>?h40x8
   case' h40x4 =>
    go_simp
    go_at_call 166
    refine (mF.out _ _ _ _ _ kE sO).mono ?_;rintro e w6 ⟨v6,rfl,hp,x6⟩;have Bo:=AC.trans x6;obtain ⟨F0,j4,k4,F1,k5,rfl,-⟩:=id hp.open_;unfold plV;refine k_t hK (aH.out _ Bo) fun hHeld=>?_
    clear hK K;refine tk 5 ?_;refine tk 6 ?_;refine tk 7 ?_;have hp:PlV w6 (fun b=>W.heap.size<=b) q _:=hp.mono fun b hb=>by have:=AC.size; omega
    refine r_1 8 fun K hK=>?_
    go_simp;obtain ⟨V,o,hV,ho,hz,yA,kT,pz,jY,mJ⟩:=z_b Bo
    try rw [hV]
    try rw [ho]
    refine k_t hK (aH.out _ yA) fun hHeld=>?_
    clear hK K hV ho;have hp:PlV V (fun b=>W.heap.size<=b/\b ≠ o) q _:=(hp.xo.ext mJ).mono fun b hb=>by have:=hb.1; have:=hb.2; have:=jY.out; constructor <;> omega
    have yE:=yA;have kM:=hz;have lw:=hp
   case' h40x8 =>
    go_simp;obtain ⟨V,o,hV,ho,hz,yA,kT,pz,jY,mJ⟩:=z_b AC
    try rw [hV]
    try rw [ho]
    refine k_t hK (aH.out _ yA) fun hHeld=>?_
    clear hK K hV ho;have sO:=sO.ext mJ;have kE:=kE.ext mJ;refine r_1 4 fun K hK=>?_
    go_simp
    go_at_call 166
    refine (mF.out _ _ _ _ _ kE sO).mono ?_;rintro e w6 ⟨v6,rfl,hp,x6⟩;have Bo:=yA.trans x6;obtain ⟨F0,j4,k4,F1,k5,rfl,-⟩:=id hp.open_;unfold plV;refine k_t hK (aH.out _ Bo) fun hHeld=>?_
    clear hK K;refine tk 5 ?_;refine tk 6 ?_;refine tk 7 ?_;have hp:PlV w6 (fun b=>W.heap.size<=b/\b ≠ o) q _:=hp.mono fun b hb=>by have:=yA.size; have:=hz.1; constructor <;> omega
    have hz:=hz.ext x6;have yE:=Bo;have kM:=hz;have lw:=hp
  case' h30x8 =>
   go_simp;obtain ⟨V,o,hV,ho,hz,yA,kT,pz,jY,mJ⟩:=z_b EC
   try rw [hV]
   try rw [ho]
   refine k_t hK (aH.out _ yA) fun hHeld=>?_
   clear hK K hV ho;have kE:=kE.ext mJ;refine r_1 3 fun K hK=>?_
   go_simp
   go_at_call 36
   refine (DF.out _ (HX.out.trans yA)).mono ?_;rintro e w5 ⟨v5,rfl,sO,x5⟩;have AC:=yA.trans x5;obtain ⟨D0,j2,k2,D1,k3,rfl,-⟩:=id sO.open_;unfold plV;have kE:=kE.ext x5;refine k_t hK (aH.out _ AC) fun hHeld=>?_
   clear hK K;have hz:=hz.ext x5;refine r_1 4 fun K hK=>?_
   go_simp
   go_at_call 166
   refine (mF.out _ _ _ _ _ kE sO).mono ?_;rintro e w6 ⟨v6,rfl,hp,x6⟩;have Bo:=AC.trans x6;obtain ⟨F0,j4,k4,F1,k5,rfl,-⟩:=id hp.open_;unfold plV;refine k_t hK (aH.out _ Bo) fun hHeld=>?_
   clear hK K;refine tk 5 ?_;refine tk 6 ?_;refine tk 7 ?_;have hp:PlV w6 (fun b=>W.heap.size<=b/\b ≠ o) q _:=hp.mono fun b hb=>by have:=AC.size; have:=hz.1; constructor <;> omega
   have hz:=hz.ext x6;have yE:=Bo;have kM:=hz;have lw:=hp
 case' h10x8 =>
  go_simp;obtain ⟨V,hV⟩:=n_m ((W1.alloc (.cells #[.int .i64 0,.bool false,.slice none 0 0,.slice none 0 0] 33)).drew);obtain ⟨o,ho⟩:=n_m (W1.heap.size);have hz:PBx V (fun _=>False) o Pl.zero:=by rw [<- hV,<- ho]; exact (PBx.new (Pl.xt _ _ none 0 (by omega)) _).ext (Ext.refl _).drew
  have yA:Ext W V:=by rw [<- hV]; exact (y1'.alloc _).drew
  have kT:W.heap.size<=o:=by rw [<- ho]; exact y1'.size
  have pz:o < V.heap.size:=hz.1;have jY:=hid ho.symm;have mJ:Ext W1 V:=by rw [<- hV]; exact ((Ext.refl _).alloc _).drew
  try rw [hV]
  try rw [ho]
  refine k_t hK (aH.out _ yA) fun hHeld=>?_
  clear hK K hV ho;refine r_1 1 fun K hK=>?_
  go_simp
  go_at_call 36
  refine (rH.out _ (HX.out.trans yA)).mono ?_;rintro e w4 ⟨v4,rfl,kE,x4⟩;have EC:=yA.trans x4;obtain ⟨C0,j0,k0,C1,k1,rfl,-⟩:=id kE.open_;unfold plV;refine k_t hK (aH.out _ EC) fun hHeld=>?_
  clear hK K;have hz:=hz.ext x4;refine r_1 3 fun K hK=>?_
  go_simp
  go_at_call 36
  refine (DF.out _ (HX.out.trans EC)).mono ?_;rintro e w5 ⟨v5,rfl,sO,x5⟩;have AC:=EC.trans x5;obtain ⟨D0,j2,k2,D1,k3,rfl,-⟩:=id sO.open_;unfold plV;have kE:=kE.ext x5;refine k_t hK (aH.out _ AC) fun hHeld=>?_
  clear hK K;have hz:=hz.ext x5;refine r_1 4 fun K hK=>?_
  go_simp
  go_at_call 166
  refine (mF.out _ _ _ _ _ kE sO).mono ?_;rintro e w6 ⟨v6,rfl,hp,x6⟩;have Bo:=AC.trans x6;obtain ⟨F0,j4,k4,F1,k5,rfl,-⟩:=id hp.open_;unfold plV;refine k_t hK (aH.out _ Bo) fun hHeld=>?_
  clear hK K;refine tk 5 ?_;refine tk 6 ?_;refine tk 7 ?_;have hp:PlV w6 (fun b=>W.heap.size<=b/\b ≠ o) q _:=hp.mono fun b hb=>by have:=AC.size; have:=hz.1; constructor <;> omega
  have hz:=hz.ext x6;have yE:=Bo;have kM:=hz;have lw:=hp
 all_goals
  have jJ:=kM.2.1;obtain ⟨Z0,zn,zc,Z1,wH,⟨g0,g1,g2,g3⟩,-⟩:=kM.2.2;refine r_1 9 fun K hK=>?_
  go_simp;clear g0 g1 g2 g3 jJ;refine xu (P:=fun V7=>Ext W V7/\PBx V7 (fun b=>W.heap.size<=b) o q) ⟨(((yE.setCell kT _).setCell kT _).setCell kT _).setCell kT _,kM.store lw⟩ (fun V7 mf=>?_);obtain ⟨y9,b9⟩:=mf;refine k_t hK (aH.out _ y9) fun hHeld=>?_
  clear hK K;refine tk 10 ?_;refine w_d ?_;obtain ⟨-,-,C9,n9,k9,D9,k8,⟨g0,g1,g2,g3⟩,p9⟩:=b9;have fO:=Dp.out;have aQ:=HZ.out.ext y9 (by omega);have iM:=hid (qf (q':=fun b=>w.heap.size<=b) (HX.out.trans y9) (by omega) aQ p9 (fun b _ hb=>by
   have:=hb.1
   exact ⟨by omega,by omega⟩))
  obtain ⟨⟨z0,z1,z2,z3⟩,zf⟩:=aQ;clear y9 p9 fO kM lw;go_wp2_with fail;obtain ⟨v9,e9,k3,k4⟩:=iM.out;injection e9 with e9
  subst e9;exact bodyPost_ret (v:=.tuple #[plV q (.slice C9 n9 k9) (.slice D9 q.cs.length k8),.int .i64 0]) (by simp [results,Tryz.results163,go_sem,z0,z1,z2,z3,plV]) rfl ⟨_,rfl,k3,k4⟩
theorem xb9 {w:World} {q0 q1:Nat->Prop} {f g q:Pl} {E D F Dg:Nat} (v0 v1:Value) (h0:PlV w q0 f v0) (h1:PlV w q1 g v1) (uD:f=g.mul q) (hg:Fit g F Dg) (hq:Fit q E D) (bI:g ≠ Pl.zero) (uG:E+F<=62) (hD:D+Dg+E+4<=1099511627776) :
 Calls Tryz.prog 161 #[v0,v1] w (uf (fun b=>w.heap.size<=b) q w):=by
 have H0:=hid h0;have H1:=hid h1;obtain ⟨A0,m0,e0,B0,f0,rfl,-⟩:=h0.open_;obtain ⟨A1,m1,e1,B1,f1,rfl,-⟩:=h1.open_;obtain ⟨Ej,Wx1,W,fV,jK,rF,iT,aC,bW,hx1,jG,aN,aX,bF,hz⟩:=b_x w f g (.slice A0 m0 e0) (.slice B0 f.cs.length f0) (.slice A1 m1 e1) (.slice B1 g.cs.length f1);have HZ:=hid hz;have HX:=hid ((aC.trans hx1).trans aN);have dJ:=hid aX;have dH:=hid bF;have fO:W.heap.size=w.heap.size+1+1+1:=jG;clear h0 h1 aC hx1 aN aX bF hz;have HE:=hid (fun (W':World) (hx:Ext w W')=>xb5 _ _ (H0.out.ext hx) (H1.out.ext hx) uD hg hq bI uG hD);obtain ⟨b0,b1,b2,b3⟩:=dJ.out;obtain ⟨d0,d1,d2,d3⟩:=dH.out;unfold plV at HE ⊢;clear uD hg hq bI uG hD;go_enter Tryz.func161,Tryz.ntmps161;go_wp2_with fail;clear fV jK rF;clear b0 b1 b2 b3 d0 d1 d2 d3;refine (HE.out _ HX.out).mono ?_;rintro e w3 ⟨v3,rfl,p3,x3⟩;obtain ⟨D0,j2,k2,D1,k3,rfl,-⟩:=id p3.open_;obtain ⟨Wp,xC⟩:=n_m ((w3.alloc (.cells #[.int .i64 q.lv,.bool q.neg,.slice D0 j2 k2,.slice D1 q.cs.length k3] 33)));have xp:Ext w3 Wp:=by rw [<- xC]; exact (Ext.refl w3).alloc _
 obtain ⟨g0,g1,g2,g3⟩:jb Wp w3.heap.size q (.slice D0 j2 k2) (.slice D1 q.cs.length k3):=by rw [<- xC]; exact jb.new w3 q _ _ _
 have X4:=hid (HX.out.trans (x3.trans xp));have aQ:=HZ.out.ext (x3.trans xp) (by omega);have iM:=hid (qf (q':=fun b=>w.heap.size<=b) X4.out (by omega) aQ (p3.xo.ext xp) (fun b _ hb=>by have:=hb.1; exact ⟨by omega,by omega⟩));obtain ⟨⟨z0,z1,z2,z3⟩,zf⟩:=aQ;clear x3 xp p3 HE;unfold plV;go_wp2_with fail;obtain ⟨v9,e9,u3,u4⟩:=iM.out;injection e9 with e9
 subst e9;exact bodyPost_ret (v:=plV q (.slice D0 j2 k2) (.slice D1 q.cs.length k3)) (by simp [results,Tryz.results161,go_sem,z0,z1,z2,z3,plV]) rfl ⟨_,rfl,u3,u4⟩
theorem ug.zero (l:Int):ug l Pl.zero:=fun ρ ρ' _=>by rw [Pl.qu,Pl.qu]
theorem xcq {l i:Int} (hl:1<=l) (ag:l<=4) (hi:0<=i) {p:Pl} (h:p.Can) {cs:List Pl} (hc:∀ c ∈ cs,ug l c) (hv:∀ ρ,ve ρ l cs=p.val ρ) (ρ:Int->Rat):(ji l i p).val ρ=(cs.getD i.toNat Pl.zero).val ρ:=by
 unfold ji;rw [if_neg (by omega)];exact ga7 (kaa hl ag h) hc (fun ρ=>by rw [(Pl.xf hl ag h).val,hv]) _ ρ
theorem kbh {l : Int} {g : List Pl} (hg : ∀ c ∈ g, ug l c) : ∀ (k : Nat) (rest : List Pl), (∀ c ∈ rest, ug l c) -> ∀ c ∈ jq g k rest, ug l c
 | 0,rest,h=>h
 | k+1,rest,h=>kbh hg k (qy g k rest) fun c hc=>by
   obtain ⟨j,-,rfl⟩:=pZ.1 hc;have h1:=(jad (P:=ug l) (ug.zero l) h j).mul (jad (P:=ug l) (ug.zero l) hg (g.length - 1))
   split
   · exact h1.sub ((jad (P:=ug l) (ug.zero l) h (g.length - 1+k)).mul (jad (P:=ug l) (ug.zero l) hg (j - k)))
   · exact h1
theorem jda {g:Pl} (hg:g.Can) (h:g ≠ Pl.zero):g.z8 ≠ Pl.zero:=fun e=>h (by rw [<- Pl.vp hg,e]; exact Pl.km)
theorem gcj {l:Int} (hl:1<=l) (ag:l<=4) {f g:Pl} (hg:g.Can) (bI:g ≠ Pl.zero) (ρ:Int->Rat):ve ρ l (jq ((g.xi l).map Pl.z8) ((f.xi l).length - ((g.xi l).length - 1)) (f.xi l))=(qi l f g).val ρ:=by
 have hz:g.z8.zp=false:=by
  cases e:g.z8.zp
  · rfl
  · exact absurd ((Pl.xj (Pl.ye g)).1 e) (jda hg bI)
 unfold qi qag;rw [if_pos ⟨hl,ag⟩,hz,if_neg (by simp),zad hl ag,ubl hl ag hg,px]
theorem ja5 {l i:Int} (hl:1<=l) (ag:l<=4) (hi:0<=i) {f g:Pl} (hf:f.Can) (hg:g.Can) (bI:g ≠ Pl.zero) (ρ:Int->Rat):(ji l i (qi l f g)).val ρ=((jq ((g.xi l).map Pl.z8) ((f.xi l).length - ((g.xi l).length - 1)) (f.xi l)).getD i.toNat Pl.zero).val ρ:=by
 refine xcq hl ag hi (qac l f g) (kbh (fun c hc=>?_) _ _ (kaa hl ag hf)) (gcj hl ag hg bI) ρ;obtain ⟨d,hd,rfl⟩:=pZ.1 hc;exact (kaa hl ag hg d hd).z8
section
variable {l:Int} (hl:1<=l) (ag:l<=4) {f g f0 f1 f2 g0 g1 g2:Pl} (hf:f.Can) (hg:g.Can)
include hl ag hf hg
theorem gc9 (ef:f.xi l=[f0,f1,f2]) (eg:g.xi l=[g0,g1]) (ρ:Int->Rat):(ji l 0 (qi l f g)).val ρ=f0.val ρ * g1.val ρ * g1.val ρ - f1.val ρ * g1.val ρ * g0.val ρ+f2.val ρ * g0.val ρ * g0.val ρ:=by
 rw [ja5 hl ag (by omega) hf hg (qah (l:=l) (by unfold mdg; rw [eg]; simp)),ef,eg];simp [jq,qy,Pl.qD,Pl.yd,Pl.xV,Pl.qu,RB]
 grind
theorem wcj (ef:f.xi l=[f0,f1,f2]) (eg:g.xi l=[g0,g1,g2]) (ρ:Int->Rat):(ji l 0 (qi l f g)).val ρ=f2.val ρ * g0.val ρ - f0.val ρ * g2.val ρ/\(ji l 1 (qi l f g)).val ρ=f2.val ρ * g1.val ρ - f1.val ρ * g2.val ρ:=by
 have bI:g ≠ Pl.zero:=qah (l:=l) (by unfold mdg; rw [eg]; simp)
 constructor
 · rw [ja5 hl ag (by omega) hf hg bI,ef,eg];simp [jq,qy,Pl.qD,Pl.yd,Pl.xV,Pl.qu,RB]
   grind
 · rw [ja5 hl ag (by omega) hf hg bI,ef,eg];simp [jq,qy,Pl.qD,Pl.yd,Pl.xV,Pl.qu,RB]
   grind
theorem kcl (ef:f.xi l=[f0,f1,f2]) (eg:g.xi l=[g0,g1,g2]) (ρ:Int->Rat):(uaa l f g).val ρ=(f2.val ρ * g0.val ρ - f0.val ρ * g2.val ρ) * (f2.val ρ * g0.val ρ - f0.val ρ * g2.val ρ) - (f2.val ρ * g1.val ρ - f1.val ρ * g2.val ρ) * (f1.val ρ * g0.val ρ - f0.val ρ * g1.val ρ):=by
 obtain ⟨h0,h1⟩:=wcj hl ag hf hg ef eg ρ;unfold uaa;rw [Pl.yd,Pl.qD,Pl.qD,Pl.yd,Pl.qD,Pl.qD,h0,h1];have e:∀ (p:Pl) (i:Int) (L:List Pl),0<=i->p.xi l=L->ji l i p=L.getD i.toNat Pl.zero:=fun p i L hi e=>by unfold ji; rw [if_neg (by omega),e]
 rw [e f 1 _ (by omega) ef,e f 0 _ (by omega) ef,e g 0 _ (by omega) eg,e g 1 _ (by omega) eg];simp
end
theorem qcq {l i:Int} (hl:1<=l) (ag:l<=4) {p:Pl} (h:p.Can):ug l (ji l i p):=by
 unfold ji
 split
 · exact ug.zero l
 · exact jad (P:=ug l) (ug.zero l) (kaa hl ag h) _
theorem xca {l:Int} (hl:1<=l) (ag:l<=4) {p:Pl} (h:p.Can) (hi:ug l p):mdg l p<=0:=by
 by_cases h0:p=Pl.zero
 · rw [(jav h).2 h0]; omega
 · unfold mdg; rw [(Pl.xf hl ag h).uniq (gay h h0 hi)]; simp
theorem uai {l:Int} {f g:Pl}:(uaa l f g).Can:=Pl.Ks _ _
theorem ybo {l:Int} (hl:1<=l) (ag:l<=4) {f g:Pl} (hf:f.Can) (hg:g.Can):ug l (uaa l f g):=by
 have hs:=qac l f g;have k:∀ (i:Int) (p:Pl),p.Can->ug l (ji l i p):=fun i p hp=>qcq hl ag hp
 exact ((k 0 _ hs).mul (k 0 _ hs)).sub ((k 1 _ hs).mul (((k 1 _ hf).mul (k 0 _ hg)).sub ((k 0 _ hf).mul (k 1 _ hg))))
theorem ubq {l:Int} {p:Pl} (h:mdg l p=2):∃ a b c,p.xi l=[a,b,c]:=by
 unfold mdg at h;rcases hL:p.xi l with _ | ⟨a,_ | ⟨b,_ | ⟨c,_ | ⟨d,r⟩⟩⟩⟩ <;> rw [hL] at h <;> simp at h
 · exact ⟨a,b,c,rfl⟩
 · omega
theorem gc8 {l:Int} {p:Pl} (h:mdg l p=1):∃ a b,p.xi l=[a,b]:=by
 unfold mdg at h;rcases hL:p.xi l with _ | ⟨a,_ | ⟨b,_ | ⟨c,r⟩⟩⟩ <;> rw [hL] at h <;> simp at h
 · exact ⟨a,b,rfl⟩
 · omega
theorem wc8 {l:Int} {p:Pl} (h:mdg l p=0):∃ a,p.xi l=[a]:=by
 unfold mdg at h;rcases hL:p.xi l with _ | ⟨a,_ | ⟨b,r⟩⟩ <;> rw [hL] at h <;> simp at h
 · exact ⟨a,rfl⟩
 · omega
theorem xce {l:Int} {f g:Pl} (h:qi l f g=Pl.zero):uaa l f g=Pl.zero:=Pl.qz uai Pl.qS fun ρ=>by
 have e:∀ i:Int,ji l i Pl.zero=Pl.zero:=fun i=>by
  unfold ji; split
  · rfl
  · rw [Pl.kr]; rfl
 unfold uaa;rw [h,e,e,Pl.yd,Pl.qD,Pl.qD,Pl.qu]
 grind
theorem yb5 {l:Int} (hl:1<=l) (ag:l<=4) {f g:Pl} (h:mdg l (qi l f g)=0):((qo l (qi l f g)).pow 1).mul (qi l f g)=uaa l f g:=Pl.qz (Pl.q8 _ _) uai fun ρ=>by
 obtain ⟨a,ha⟩:=wc8 h;have hv:=(Pl.xf hl ag (qac l f g)).val ρ;rw [ha] at hv;simp only [ve] at hv;have h0:ji l 0 (qi l f g)=a:=by unfold ji; rw [if_neg (by omega),ha]; rfl
 have h1:ji l 1 (qi l f g)=Pl.zero:=by unfold ji; rw [if_neg (by omega),ha]; rfl
 have hL:qo l (qi l f g)=a:=by unfold qo; rw [ha]; rfl
 unfold uaa;rw [h0,h1,hL,Pl.qD,Pl.yW,Pl.yd,Pl.qD,Pl.qD,Pl.qu,<- hv]
 grind
section
variable {l:Int} (hl:1<=l) (ag:l<=4) {f g:Pl} (hf:f.Can) (hg:g.Can) (lY:mdg l f=2) (dR:mdg l g=2)
include hl ag hf hg lY dR
theorem ucl (h:mdg l (qi l f g)=1):qi l g (qi l f g)=(qo l g).mul (uaa l f g):=by
 obtain ⟨f0,f1,f2,ef⟩:=ubq lY;obtain ⟨g0,g1,g2,eg⟩:=ubq dR;obtain ⟨c0,c1,ec⟩:=gc8 h;have hs:=qac l f g;have hm:=ga1 hl ag hg hs (qah (l:=l) (by omega));refine Pl.qz (qac _ _ _) (Pl.q8 _ _) fun ρ=>?_
 have h1:=gc9 hl ag hg hs eg ec ρ;rw [ga3 hl ag (qac _ _ _) (by omega)] at h1;obtain ⟨k0,k1⟩:=wcj hl ag hf hg ef eg ρ;have e0:ji l 0 (qi l f g)=c0:=by unfold ji; rw [if_neg (by omega),ec]; rfl
 have e1:ji l 1 (qi l f g)=c1:=by unfold ji; rw [if_neg (by omega),ec]; rfl
 rw [e0] at k0;rw [e1] at k1;have hL:qo l g=g2:=by unfold qo; rw [eg]; rfl
 rw [h1,hL,Pl.qD,kcl hl ag hf hg ef eg,k0,k1]
 grind
end
theorem xa6 {l:Int} (hl:1<=l) (ag:l<=4) {f g:Pl} {D:Nat} (hf:Fit f 2 D) (hg:Fit g 2 D):Fit (uaa l f g) 24 (8 * D+40):=by
 have hs:=gak hl ag hf hg (by have:B32=4294967296:=rfl; omega);have k:∀ (i:Int) (p:Pl) (E D:Nat),Fit p E D->Fit (ji l i p) E D:=fun i p E D hp=>uar hp
 have h1:=(k 0 _ _ _ hs).mul (k 0 _ _ _ hs);have h2:=((k 1 _ _ _ hf).mul (k 0 _ _ _ hg)).sub ((k 0 _ _ _ hf).mul (k 1 _ _ _ hg));have h3:=h1.sub ((k 1 _ _ _ hs).mul h2);exact h3.mono (by omega) (by omega)
theorem kcv {l:Int} {f g:Pl} (hf:mdg l f=2) (hg:mdg l g=2):wu l f g=[uaa l f g,ji l 1 (qi l f g)]:=by
 unfold wu;rw [hf,hg,if_neg (by omega),if_neg (by omega),if_neg (by omega)]
end Go.Proofs.YtcepajijiabkmaaGreat
