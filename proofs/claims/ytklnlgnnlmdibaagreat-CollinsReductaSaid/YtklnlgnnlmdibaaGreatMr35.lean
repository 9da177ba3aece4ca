/- Layer 25: subresultant.check, remainder; descend, Chain and Psc where the smaller degree is 1. -/
import Derived.Test.YtklnlgnnlmdibaaGreatMr34
import Derived.Test.YtklnlgnnlmdibaaGreatMr31
import Derived.Lib.MinMax
import Derived.Test.YtklnlgnnlmdibaaGreatMr30
set_option linter.unusedSimpArgs false
set_option linter.unusedVariables false
set_option maxRecDepth 100000
set_option maxHeartbeats 8000000
namespace Go.Proofs.YtklnlgnnlmdibaaGreat
open Go.RowKit
theorem PBx.frr {V:World} {Q:Nat->Prop} {g:Nat} {p:Pl} (h:PBx V Q g p) (x0:Int) (x1:Bool) (A0 A1:Option Addr) (n0 c0 n1 c1:Nat) :
 Frr V g ((((V.setCell ⟨g,0,none⟩ (.int .i64 x0)).setCell ⟨g,1,none⟩ (.bool x1)).setCell ⟨g,2,none⟩ (.slice A0 n0 c0)).setCell ⟨g,3,none⟩ (.slice A1 n1 c1)):=by
 obtain ⟨h0,h1,B0,m0,d0,B1,d1,⟨g0,g1,g2,g3⟩,h3⟩:=h;refine ⟨by simp [World.setCell],fun v ds hv=>?_,fun b _ hb=>waa _ _ _ _ _ _ _ hb⟩;refine (((hv.box g0 rfl _).box (u:=.bool p.neg) ?_ rfl _).box (u:=.slice B0 m0 d0) ?_ rfl _).box (u:=.slice B1 p.cs.length d1) ?_ rfl _
 · rw [World.cell?_setCell_other _ _ _ _ (by simp)]; exact g1
 · rw [World.cell?_setCell_other _ _ _ _ (by simp),World.cell?_setCell_other _ _ _ _ (by simp)]; exact g2
 · rw [World.cell?_setCell_other _ _ _ _ (by simp),World.cell?_setCell_other _ _ _ _ (by simp),World.cell?_setCell_other _ _ _ _ (by simp)]; exact g3
theorem Frr.pbx {V V7:World} {o g:Nat} {Q:Nat->Prop} {p:Pl} (hf:Frr V o V7) (h:PBx V Q g p) (hg:g ≠ o) (hq:∀ b,Q b->b ≠ o):PBx V7 Q g p:=by
 obtain ⟨h0,h1,B0,m0,d0,B1,d1,⟨g0,g1,g2,g3⟩,h3⟩:=h;exact ⟨Nat.lt_of_lt_of_le h0 hf.size,fun i=>(World.frozen?_of_block (a:=⟨g,i,none⟩) (hf.block g h0 hg)).trans (h1 i),B0,m0,d0,B1,d1,⟨(hf.cell h0 hg).trans g0,(hf.cell h0 hg).trans g1,(hf.cell h0 hg).trans g2,(hf.cell h0 hg).trans g3⟩,hf.pl h3 fun b hb=>hq b hb.1⟩
theorem yaf {α:Type} {K:α->World->Prop} {a:α} {V:World} {P:World->Prop} (hp:P V) (h:∀ V7,P V7->K a V7):K a V:=h V hp
theorem PlV.below_ {W:World} {q:Nat->Prop} {p:Pl} {v:Value} (h:PlV W q p v):PlV W (fun b=>q b/\b < W.heap.size) p v:=PlV.turn_ (Nat.le_refl _) (fun _ _ h=>h) (fun b hb hq=>⟨⟨hq,hb⟩,rfl⟩) h
theorem check_any {w:World} {q0 q1:Nat->Prop} {f g:Pl} {l:Int} (v0 v1:Value) (hl:1<=l) (hl4:l<=4) (h0:PlV w q0 f v0) (h1:PlV w q1 g v1) (hf:f.Can) (hg:g.Can) (hf0:f ≠ Pl.zero) (hg0:g ≠ Pl.zero) :
 Calls Tryz.prog 124 #[v0,v1,.int .i64 l] w (xcf 0 w):=by
 have H0:=Lib.hid h0;have H1:=Lib.hid h1;obtain ⟨A0,m0,e0,B0,f0,rfl,-⟩:=h0.open_;obtain ⟨A1,m1,e1,B1,f1,rfl,-⟩:=h1.open_;obtain ⟨Wx0,hV0⟩:∃ V,(w.alloc (.cells #[.int .i64 f.lv,.bool f.neg,.slice A0 m0 e0,.slice B0 f.cs.length f0] 35))=V:=⟨_,rfl⟩;obtain ⟨W,hV1⟩:∃ V,(Wx0.alloc (.cells #[.int .i64 g.lv,.bool g.neg,.slice A1 m1 e1,.slice B1 g.cs.length f1] 35))=V:=⟨_,rfl⟩;have hs0:Wx0.heap.size=w.heap.size+1:=by rw [<- hV0]; simp
 have hx0:Ext w Wx0:=by rw [<- hV0]; exact (Ext.refl w).alloc _
 have hs1:W.heap.size=w.heap.size+1+1:=by rw [<- hV1,<- hs0]; simp
 have hx1:Ext Wx0 W:=by rw [<- hV1]; exact (Ext.refl Wx0).alloc _
 have hb0:jb W (w.heap.size) f (.slice A0 m0 e0) (.slice B0 f.cs.length f0):=by
  have hh:jb Wx0 w.heap.size f (.slice A0 m0 e0) (.slice B0 f.cs.length f0):=by rw [<- hV0]; exact jb.new w f _ _ _
  exact hh.ext hx1 (by omega)
 have hb1:jb W (w.heap.size+1) g (.slice A1 m1 e1) (.slice B1 g.cs.length f1):=by
  have hh:jb W Wx0.heap.size g (.slice A1 m1 e1) (.slice B1 g.cs.length f1):=by rw [<- hV1]; exact jb.new Wx0 g _ _ _
  rw [hs0] at hh;exact hh
 have HX:=Lib.hid (hx0.trans hx1);have HB0:=Lib.hid hb0;have HB1:=Lib.hid hb1;have hsw:W.heap.size=w.heap.size+1+1:=hs1;clear h0 h1 hx0 hx1 hb0 hb1;have hfz:f.isZ=false:=by
  cases e:f.isZ
  · rfl
  · exact absurd ((Pl.zero_isZ hf).1 e) hf0
 have hgz:g.isZ=false:=by
  cases e:g.isZ
  · rfl
  · exact absurd ((Pl.zero_isZ hg).1 e) hg0
 have HI0:=Lib.hid (fun (W':World) (hx:Ext w W')=>gai _ (H0.out.ext hx) hf);have HI1:=Lib.hid (fun (W':World) (hx:Ext w W')=>gai _ (H1.out.ext hx) hg);rw [hfz] at HI0;rw [hgz] at HI1;have hl5:¬ l < 1:=by omega
 have hl6:¬ 4 < l:=by omega
 unfold plV at HI0 HI1 ⊢;obtain ⟨b0,b1,b2,b3⟩:=HB0.out;go_enter Tryz.func124,Tryz.ntmps124;go_wp2_with fail;clear hV0 hV1;clear b0 b1 b2 b3;refine (HI0.out _ HX.out).mono ?_;rintro e w1 ⟨rfl,x1⟩;have X1:=Lib.hid (HX.out.trans x1);obtain ⟨b0,b1,b2,b3⟩:=HB1.out.ext x1 (by omega);clear x1;go_wp2_with fail;clear b0 b1 b2 b3;refine (HI1.out _ X1.out).mono ?_;rintro e w2 ⟨rfl,x2⟩;have X2:=Lib.hid (X1.out.trans x2);clear x2;go_wp2_with fail;go_ret;exact ⟨rfl,X2.out⟩
theorem zb7 {w:World} {q0 q1:Nat->Prop} {f g:Pl} {l:Int} {E D Eg Dg:Nat} (v0 v1:Value) (hl:1<=l) (hl4:l<=4) (h0:PlV w q0 f v0) (h1:PlV w q1 g v1) (hf:Fit f E D) (hg:Fit g Eg Dg) (hg0:g ≠ Pl.zero) (hE:E+(E+1) * Eg+Eg<=62) (hD:D+(E+1) * (Dg+3)+1<=1099511627776) :
 Calls Tryz.prog 139 #[v0,v1,.int .i64 l] w (jf (fun b=>w.heap.size<=b) (zu l f g) w):=by
 have H0:=Lib.hid h0;have H1:=Lib.hid h1;obtain ⟨A0,m0,e0,B0,f0,rfl,-⟩:=h0.open_;obtain ⟨A1,m1,e1,B1,f1,rfl,-⟩:=h1.open_;obtain ⟨Wx0,hV0⟩:∃ V,(w.alloc (.cells #[.int .i64 f.lv,.bool f.neg,.slice A0 m0 e0,.slice B0 f.cs.length f0] 35))=V:=⟨_,rfl⟩;obtain ⟨Wx1,hV1⟩:∃ V,(Wx0.alloc (.cells #[.int .i64 g.lv,.bool g.neg,.slice A1 m1 e1,.slice B1 g.cs.length f1] 35))=V:=⟨_,rfl⟩;obtain ⟨W,hV2⟩:∃ V,(Wx1.alloc (.cells #[.int .i64 0,.bool false,.slice none 0 0,.slice none 0 0] 35))=V:=⟨_,rfl⟩;have hs0:Wx0.heap.size=w.heap.size+1:=by rw [<- hV0]; simp
 have hx0:Ext w Wx0:=by rw [<- hV0]; exact (Ext.refl w).alloc _
 have hs1:Wx1.heap.size=w.heap.size+1+1:=by rw [<- hV1,<- hs0]; simp
 have hx1:Ext Wx0 Wx1:=by rw [<- hV1]; exact (Ext.refl Wx0).alloc _
 have hs2:W.heap.size=w.heap.size+1+1+1:=by rw [<- hV2,<- hs1]; simp
 have hx2:Ext Wx1 W:=by rw [<- hV2]; exact (Ext.refl Wx1).alloc _
 have hb0:jb W (w.heap.size) f (.slice A0 m0 e0) (.slice B0 f.cs.length f0):=by
  have hh:jb Wx0 w.heap.size f (.slice A0 m0 e0) (.slice B0 f.cs.length f0):=by rw [<- hV0]; exact jb.new w f _ _ _
  exact hh.ext (hx1.trans hx2) (by omega)
 have hb1:jb W (w.heap.size+1) g (.slice A1 m1 e1) (.slice B1 g.cs.length f1):=by
  have hh:jb Wx1 Wx0.heap.size g (.slice A1 m1 e1) (.slice B1 g.cs.length f1):=by rw [<- hV1]; exact jb.new Wx0 g _ _ _
  rw [hs0] at hh;exact hh.ext hx2 (by omega)
 have hz:yf W (w.heap.size+1+1):=by
  have hh:yf W Wx1.heap.size:=by rw [<- hV2]; exact yf.new Wx1 _
  rw [hs1] at hh;exact hh
 have HZ:=Lib.hid hz;have HX:=Lib.hid ((hx0.trans hx1).trans hx2);have HB0:=Lib.hid hb0;have HB1:=Lib.hid hb1;have hsw:W.heap.size=w.heap.size+1+1+1:=hs2;clear h0 h1 hx0 hx1 hx2 hb0 hb1 hz;have hDg:Dg<=1099511627776:=by
  have:=Nat.mul_le_mul_right (Dg+3) (show 1<=E+1 by omega);omega
 have HN:=Lib.hid (fun (W':World) (hx:Ext w W')=>jb9 _ (H1.out.ext hx) hg (by omega) (by omega));have hgo:Fit g.opp Eg (Dg+1):=hg.opp;have hgo0:g.opp ≠ Pl.zero:=fun e=>hg0 (by rw [<- Pl.opp_opp hg.can,e]; exact Pl.opp_zero)
 have HR:=Lib.hid (fun (W1 W':World) (q:Nat->Prop) (u:Value) (hx:Ext w W') (hu:PlV W' q g.opp u)=>jb0 _ u hl hl4 (H0.out.ext hx) hu hf hgo hgo0 hE (by omega));unfold plV at HN HR ⊢;obtain ⟨b0,b1,b2,b3⟩:=HB0.out;obtain ⟨d0,d1,d2,d3⟩:=HB1.out;clear hDg hgo hgo0 hf hg hg0 hE hD;go_enter Tryz.func139,Tryz.ntmps139;go_upto_region 1 with fail;clear hV0 hV1 hV2;clear b0 b1 b2 b3 d0 d1 d2 d3;have HSS:Hid (∀ W',Ext W W'->(Ext W W'/\(W'.cell? ⟨w.heap.size,0,none⟩=some (.int .i64 f.lv)/\W'.cell? ⟨w.heap.size,1,none⟩=some (.bool f.neg)/\W'.cell? ⟨w.heap.size,2,none⟩=some (.slice A0 m0 e0)/\W'.cell? ⟨w.heap.size,3,none⟩=some (.slice B0 f.cs.length f0))/\(W'.cell? ⟨w.heap.size+1,0,none⟩=some (.int .i64 g.lv)/\W'.cell? ⟨w.heap.size+1,1,none⟩=some (.bool g.neg)/\W'.cell? ⟨w.heap.size+1,2,none⟩=some (.slice A1 m1 e1)/\W'.cell? ⟨w.heap.size+1,3,none⟩=some (.slice B1 g.cs.length f1)))):=Lib.hid (fun W' hx=>⟨hx,HB0.out.ext hx (by omega),HB1.out.ext hx (by omega)⟩);have y0:Ext W W.drew:=(Ext.refl W).drew;have HSW:=Lib.hid hsw;clear hsw hs0 hs1 hs2;refine wp_region_held_drew (S:=fun W'=>Ext W W'/\(W'.cell? ⟨w.heap.size,0,none⟩=some (.int .i64 f.lv)/\W'.cell? ⟨w.heap.size,1,none⟩=some (.bool f.neg)/\W'.cell? ⟨w.heap.size,2,none⟩=some (.slice A0 m0 e0)/\W'.cell? ⟨w.heap.size,3,none⟩=some (.slice B0 f.cs.length f0))/\(W'.cell? ⟨w.heap.size+1,0,none⟩=some (.int .i64 g.lv)/\W'.cell? ⟨w.heap.size+1,1,none⟩=some (.bool g.neg)/\W'.cell? ⟨w.heap.size+1,2,none⟩=some (.slice A1 m1 e1)/\W'.cell? ⟨w.heap.size+1,3,none⟩=some (.slice B1 g.cs.length f1))) (by kernel_rfl) (HSS.out _ y0) (fun hHeld=>?_);refine tk 0 ?_ (hy:=Or.inl ⟨by rfl,by intro w' hSw; obtain ⟨-,⟨k0,k1,k2,k3⟩,k4,k5,k6,k7⟩:=hSw; go_simp; (try (with_reducible rfl))⟩);refine tk 1 ?_ (hy:=Or.inl ⟨by rfl,by intro w' hSw; obtain ⟨-,⟨k0,k1,k2,k3⟩,k4,k5,k6,k7⟩:=hSw; go_simp; (try (with_reducible rfl))⟩);refine tk 3 ?_;refine wpAnyH_ready (rs:=[2,8]) (by kernel_rfl) (by simp) ?_;refine AllReadyH.cons rfl (fun K hK=>?brP) (AllReadyH.cons rfl (fun K hK=>?brQ) AllReadyH.nil)
 case' brP =>
  go_simp
  go_at_call 126
  refine (HN.out _ (HX.out.trans y0)).mono ?_;rintro e w1 ⟨v1,rfl,p1,x1⟩;have y1:=y0.trans x1;obtain ⟨C0,j0,k0,C1,k1,rfl,-⟩:=id p1.open_;unfold plV;refine hK.out _ _ (HSS.out _ y1) (fun hHeld=>?_);clear hK K
  try simp only [Act.put,List.getElem_toArray,List.getElem_cons_zero,List.getElem_cons_succ,List.setIfInBounds_toArray,List.set_cons_zero,List.set_cons_succ]
  refine wpAnyH_ready (rs:=[4,8]) (by kernel_rfl) (by simp) ?_;refine AllReadyH.cons rfl (fun K hK=>?brA) (AllReadyH.cons rfl (fun K hK=>?brB) AllReadyH.nil)
  case' brA =>
   go_simp
   go_at_call 163
   refine (HR.out w _ _ _ (HX.out.trans y1) p1).mono ?_;rintro e w2 ⟨v2,rfl,p2,x2⟩;have y2:=y1.trans x2;obtain ⟨D0,j2,k2,D1,k3,rfl,-⟩:=id p2.open_;unfold plV;refine hK.out _ _ (HSS.out _ y2) (fun hHeld=>?_);clear hK K
   try simp only [Act.put,List.getElem_toArray,List.getElem_cons_zero,List.getElem_cons_succ,List.setIfInBounds_toArray,List.set_cons_zero,List.set_cons_succ]
   refine tk 5 ?_;refine tk 6 ?_;refine tk 7 ?_;refine wpAnyH_ready (rs:=[8]) (by kernel_rfl) (by simp) ?_;refine AllReadyH.cons rfl (fun K hK=>?_) AllReadyH.nil;go_simp;obtain ⟨V,hV⟩:∃ V,(w2.alloc (.cells #[.int .i64 0,.bool false,.slice none 0 0,.slice none 0 0] 35))=V:=⟨_,rfl⟩;obtain ⟨o,ho⟩:∃ o,w2.heap.size=o:=⟨_,rfl⟩;have hzE:PBx V (fun _=>True) o Pl.zero:=by rw [<- hV,<- ho]; exact PBx.new (Pl.zero_v _ _ none 0 (by omega)) _
   have yE:Ext W V:=by rw [<- hV]; exact y2.alloc _
   have hoW:W.heap.size<=o:=by rw [<- ho]; exact y2.size
   have hovo:o < V.heap.size:=hzE.1;have hopo:=Lib.hid ho.symm;have yxV:Ext w2 V:=by rw [<- hV]; exact (Ext.refl _).alloc _
   try rw [hV]
   try rw [ho]
   refine hK.out _ _ (HSS.out _ yE) (fun hHeld=>?_);clear hK K hV ho
   try simp only [Act.put,List.getElem_toArray,List.getElem_cons_zero,List.getElem_cons_succ,List.setIfInBounds_toArray,List.set_cons_zero,List.set_cons_succ]
   have hpo:PlV V (fun b=>W.heap.size<=b/\b ≠ o) (jae l f g.opp) _:=(p2.below_.ext yxV).mono fun b hb=>by have:=hb.2; have:=hopo.out; have:=y1.size; constructor <;> omega
  case' brB =>
   go_simp;obtain ⟨V,hV⟩:∃ V,(w1.alloc (.cells #[.int .i64 0,.bool false,.slice none 0 0,.slice none 0 0] 35))=V:=⟨_,rfl⟩;obtain ⟨o,ho⟩:∃ o,w1.heap.size=o:=⟨_,rfl⟩;have hz:PBx V (fun _=>True) o Pl.zero:=by rw [<- hV,<- ho]; exact PBx.new (Pl.zero_v _ _ none 0 (by omega)) _
   have yV:Ext W V:=by rw [<- hV]; exact y1.alloc _
   have hoW:W.heap.size<=o:=by rw [<- ho]; exact y1.size
   have hovo:o < V.heap.size:=hz.1;have hopo:=Lib.hid ho.symm;have yxV:Ext w1 V:=by rw [<- hV]; exact (Ext.refl _).alloc _
   try rw [hV]
   try rw [ho]
   refine hK.out _ _ (HSS.out _ yV) (fun hHeld=>?_);clear hK K hV ho
   try simp only [Act.put,List.getElem_toArray,List.getElem_cons_zero,List.getElem_cons_succ,List.setIfInBounds_toArray,List.set_cons_zero,List.set_cons_succ]
   refine wpAnyH_ready (rs:=[4]) (by kernel_rfl) (by simp) ?_;refine AllReadyH.cons rfl (fun K hK=>?_) AllReadyH.nil;go_simp
   go_at_call 163
   refine (HR.out w _ _ _ (HX.out.trans yV) (p1.ext yxV)).mono ?_;rintro e w2 ⟨v2,rfl,p2,x2⟩;have y2:=yV.trans x2;obtain ⟨D0,j2,k2,D1,k3,rfl,-⟩:=id p2.open_;unfold plV;refine hK.out _ _ (HSS.out _ y2) (fun hHeld=>?_);clear hK K
   try simp only [Act.put,List.getElem_toArray,List.getElem_cons_zero,List.getElem_cons_succ,List.setIfInBounds_toArray,List.set_cons_zero,List.set_cons_succ]
   refine tk 5 ?_;refine tk 6 ?_;refine tk 7 ?_;have yE:=y2;have hzE:=hz.ext x2;have hpo:PlV w2 (fun b=>W.heap.size<=b/\b ≠ o) (jae l f g.opp) _:=p2.mono fun b hb=>by have:=hopo.out; have:=y1.size; have:=yV.size; have:=yxV.size; constructor <;> omega
 case' brQ =>
  go_simp;obtain ⟨V,hV⟩:∃ V,(W.alloc (.cells #[.int .i64 0,.bool false,.slice none 0 0,.slice none 0 0] 35)).drew=V:=⟨_,rfl⟩;obtain ⟨o,ho⟩:∃ o,W.heap.size=o:=⟨_,rfl⟩;have hz:PBx V (fun _=>True) o Pl.zero:=by rw [<- hV,<- ho]; exact (PBx.new (Pl.zero_v _ _ none 0 (by omega)) _).ext (Ext.refl _).drew
  have yV:Ext W V:=by rw [<- hV]; exact ((Ext.refl W).alloc _).drew
  have hoW:W.heap.size<=o:=by rw [<- ho]; exact (Ext.refl W).size
  have hovo:o < V.heap.size:=hz.1;have hopo:=Lib.hid ho.symm;have yxV:Ext W V:=by rw [<- hV]; exact ((Ext.refl _).alloc _).drew
  try rw [hV]
  try rw [ho]
  refine hK.out _ _ (HSS.out _ yV) (fun hHeld=>?_);clear hK K hV ho
  try simp only [Act.put,List.getElem_toArray,List.getElem_cons_zero,List.getElem_cons_succ,List.setIfInBounds_toArray,List.set_cons_zero,List.set_cons_succ]
  refine wpAnyH_ready (rs:=[2]) (by kernel_rfl) (by simp) ?_;refine AllReadyH.cons rfl (fun K hK=>?_) AllReadyH.nil;go_simp
  go_at_call 126
  refine (HN.out _ (HX.out.trans yV)).mono ?_;rintro e w1 ⟨v1,rfl,p1,x1⟩;have y1:=yV.trans x1;obtain ⟨C0,j0,k0,C1,k1,rfl,-⟩:=id p1.open_;unfold plV;refine hK.out _ _ (HSS.out _ y1) (fun hHeld=>?_);clear hK K
  try simp only [Act.put,List.getElem_toArray,List.getElem_cons_zero,List.getElem_cons_succ,List.setIfInBounds_toArray,List.set_cons_zero,List.set_cons_succ]
  refine wpAnyH_ready (rs:=[4]) (by kernel_rfl) (by simp) ?_;refine AllReadyH.cons rfl (fun K hK=>?_) AllReadyH.nil;go_simp
  go_at_call 163
  refine (HR.out w _ _ _ (HX.out.trans y1) p1).mono ?_;rintro e w2 ⟨v2,rfl,p2,x2⟩;have y2:=y1.trans x2;obtain ⟨D0,j2,k2,D1,k3,rfl,-⟩:=id p2.open_;unfold plV;refine hK.out _ _ (HSS.out _ y2) (fun hHeld=>?_);clear hK K
  try simp only [Act.put,List.getElem_toArray,List.getElem_cons_zero,List.getElem_cons_succ,List.setIfInBounds_toArray,List.set_cons_zero,List.set_cons_succ]
  refine tk 5 ?_;refine tk 6 ?_;refine tk 7 ?_;have yE:=y2;have hzE:=(hz.ext x1).ext x2;have hpo:PlV w2 (fun b=>W.heap.size<=b/\b ≠ o) (jae l f g.opp) _:=p2.mono fun b hb=>by have:=x1.size; have:=hopo.out; have:=y1.size; constructor <;> omega
 all_goals
  obtain ⟨P,hP⟩:∃ P,jae l f g.opp=P:=⟨_,rfl⟩;rw [hP] at hpo ⊢;have HPP:=Lib.hid hP;clear hP;have hfo:=hzE.2.1;obtain ⟨Z0,zn,zc,Z1,zc1,⟨g0,g1,g2,g3⟩,-⟩:=hzE.2.2;refine wpAnyH_ready (rs:=[9]) (by kernel_rfl) (by simp) ?_;refine AllReadyH.cons rfl (fun K hK=>?_) AllReadyH.nil;go_simp;clear g0 g1 g2 g3 hfo;refine yaf (P:=fun V7=>Ext W V7/\PBx V7 (fun b=>W.heap.size<=b) o P) ⟨(((yE.setCell hoW _).setCell hoW _).setCell hoW _).setCell hoW _,hzE.store hpo⟩ (fun V7 hV7=>?_);obtain ⟨y9,b9⟩:=hV7;refine hK.out _ _ (HSS.out _ y9) (fun hHeld=>?_);clear hK K
  try simp only [Act.put,List.getElem_toArray,List.getElem_cons_zero,List.getElem_cons_succ,List.setIfInBounds_toArray,List.set_cons_zero,List.set_cons_succ]
  refine tk 10 ?_;refine wpAnyH_done (by kernel_rfl) ?_ _;obtain ⟨-,-,C9,n9,k9,D9,k8,⟨g0,g1,g2,g3⟩,p9⟩:=b9;have hsw:=HSW.out;have hzn:=HZ.out.ext y9 (by omega);have HFI:=Lib.hid (yg (q':=fun b=>w.heap.size<=b) (HX.out.trans y9) (by omega) hzn p9 (fun b _ hb=>by
   have:=hb.1
   exact ⟨by omega,by omega⟩))
  obtain ⟨⟨z0,z1,z2,z3⟩,zf⟩:=hzn;clear y9 p9 hsw hzE hpo;go_wp2_with fail;obtain ⟨v9,e9,q3,q4⟩:=HFI.out;injection e9 with e9
  subst e9;exact bodyPost_ret (v:=plV P (.slice C9 n9 k9) (.slice D9 P.cs.length k8)) (by simp [results,Tryz.results139,go_sem,z0,z1,z2,z3,plV]) rfl (by unfold zu; rw [HPP.out]; exact ⟨_,rfl,q3,q4⟩)
/- Layer 22: recpoly.Constant. -/
set_option maxRecDepth 100000
set_option maxHeartbeats 8000000
def kco (z:Int) (b:Bool) (w:World) (e:Ending) (w':World):Prop:=∃ x,e=.returned (.tuple #[x,.bool b])/\yl w' x z/\Ext w w'
theorem uax {w:World} {q:Nat->Prop} {E D:Nat} (p:Pl) (v:Value) (h:PlV w q p v) (hsz:p.sz<=1073741824) (hdm:p.dm<=1099511627776) (hp:Fit p.nf E D) (hD:D<=35184372088832) :
 Calls Tryz.prog 68 #[v] w (kco (if p.nf.lv=0 then p.nf.z else 0) (decide (p.nf.lv=0)) w):=by
 have HH:=Lib.hid h;obtain ⟨A0,n0,c0,A,c,rfl,-,-,-,-⟩:=h.open_;clear h;obtain ⟨W,hW⟩:∃ W,(w.alloc (.cells #[.int .i64 p.lv,.bool p.neg,.slice A0 n0 c0,.slice A p.cs.length c] 35)).alloc (.cells #[.bool false,.slice none 0 0] 33)=W:=⟨_,rfl⟩;have hWx:Ext w W:=by rw [<- hW]; exact ((Ext.refl w).alloc _).alloc _
 have hWs:W.heap.size=w.heap.size+1+1:=by rw [<- hW]; simp
 have hbx:jb W w.heap.size p (.slice A0 n0 c0) (.slice A p.cs.length c):=by rw [<- hW]; exact (jb.new w p _ _ _).ext ((Ext.refl _).alloc _) (by simp)
 have hfr:∀ i,W.frozen? ⟨w.heap.size,i,none⟩=false:=fun i=>by rw [<- hW]; simp [go_sem]
 have hz:(W.cell? ⟨w.heap.size+1,0,none⟩=some (.bool false)/\W.cell? ⟨w.heap.size+1,1,none⟩=some (.slice none 0 0))/\∀ i,W.frozen? ⟨w.heap.size+1,i,none⟩=false:=by
  rw [<- hW]; refine ⟨⟨?_,?_⟩,fun i=>?_⟩ <;> simp [go_sem]
 have HZ:=Lib.hid hz;have HBX:=Lib.hid hbx;have HFR:=Lib.hid hfr;have HWX:=Lib.hid hWx;have HCA:=Lib.hid (kag p _ (HH.out.ext hWx) hsz hdm);have HNC:=Lib.hid p.nf_can;have HFD:=Lib.hid (Nat.le_trans p.nf.dm_ds hp.dm);obtain ⟨b0,b1,b2,b3⟩:=hbx;clear hz hfr hWx hp hsz hdm;generalize p.nf=P at *;unfold plV at HCA;unfold plV;obtain ⟨zz,hzz⟩:∃ zz,(if P.lv=0 then P.z else 0)=zz:=⟨_,rfl⟩;obtain ⟨bb,hbb⟩:∃ bb,decide (P.lv=0)=bb:=⟨_,rfl⟩;rw [hzz,hbb];have HZZ:=Lib.hid hzz;have HBB:=Lib.hid hbb;clear hzz hbb;go_enter Tryz.func68,Tryz.ntmps68;go_wp2_with fail;clear hW b0 b1 b2 b3;refine HCA.out.mono ?_;rintro e w1 ⟨v1,rfl,m1,x1⟩;obtain ⟨C0,j0,f0,C1,f1,rfl,-⟩:=id m1.open_;have hs1:=x1.size;obtain ⟨b0,b1,b2,b3⟩:=HBX.out.ext x1 (by omega);have fr:∀ i,w1.frozen? ⟨w.heap.size,i,none⟩=false:=fun i=>(x1.frozen (p:=⟨w.heap.size,i,none⟩) (by show w.heap.size < _; omega)).trans (HFR.out i)
 obtain ⟨W1,hW1⟩:∃ W1,((((w1.setCell ⟨w.heap.size,0,none⟩ (.int .i64 P.lv)).setCell ⟨w.heap.size,1,none⟩ (.bool P.neg)).setCell ⟨w.heap.size,2,none⟩ (.slice C0 j0 f0)).setCell ⟨w.heap.size,3,none⟩ (.slice C1 P.cs.length f1))=W1:=⟨_,rfl⟩;have X1:Hid (Ext w W1):=Lib.hid (by rw [<- hW1]; exact ((((HWX.out.trans x1).setCell (Nat.le_refl _) _).setCell (Nat.le_refl _) _).setCell (Nat.le_refl _) _).setCell (Nat.le_refl _) _);have hbb:jb W1 w.heap.size P (.slice C0 j0 f0) (.slice C1 P.cs.length f1):=by rw [<- hW1]; exact jb.set (HBX.out.ext x1 (by omega))
 have hb1:W1.heap[w.heap.size+1]?=W.heap[w.heap.size+1]?:=by
  rw [<- hW1,waa _ _ _ _ _ _ _ (by omega)];exact x1.below.block _ (by omega)
 have hs2:W1.heap.size=w1.heap.size:=by rw [<- hW1]; simp [World.setCell]
 have HIN:Hid (jk W1 (.agg #[.bool P.neg,.slice C0 j0 f0]) P.z P.ds.length):=by
  have:jk W1 (.agg #[.bool P.neg,.slice C0 j0 f0]) P.z P.ds.length:=by
   obtain ⟨A1,n1,c1,A2,c2,e,hn,-⟩:=m1.open_;unfold plV at e;simp only [Value.agg.injEq,Array.mk.injEq,List.cons.injEq,and_true,true_and] at e;rw [e.1];refine ⟨_,_,_,rfl,?_,rfl,Nat.le_refl _⟩;rw [<- hW1];have e1:=fun (i j:Nat) (hij:i ≠ j) (X:World) (u:Value)=>World.cell?_setCell_other X ⟨w.heap.size,i,none⟩ ⟨w.heap.size,j,none⟩ u (by intro e; injection e; omega)
   refine (((hn.box b0 rfl _).box (u:=.bool p.neg) ?_ rfl _).box (u:=.slice A0 n0 c0) ?_ rfl _).box (u:=.slice A p.cs.length c) ?_ rfl _
   · rw [World.cell?_setCell_other _ _ _ _ (by simp)]; exact b1
   · rw [World.cell?_setCell_other _ _ _ _ (by simp),World.cell?_setCell_other _ _ _ _ (by simp)]; exact b2
   · rw [World.cell?_setCell_other _ _ _ _ (by simp),World.cell?_setCell_other _ _ _ _ (by simp),World.cell?_setCell_other _ _ _ _ (by simp)]; exact b3
  exact this
 have HZ1:Hid (∀ W',Ext W1 W'->(W'.cell? ⟨w.heap.size+1,0,none⟩=some (.bool false)/\W'.cell? ⟨w.heap.size+1,1,none⟩=some (.slice none 0 0))/\∀ i,W'.frozen? ⟨w.heap.size+1,i,none⟩=false):=by
  have:∀ W',Ext W1 W'->(W'.cell? ⟨w.heap.size+1,0,none⟩=some (.bool false)/\W'.cell? ⟨w.heap.size+1,1,none⟩=some (.slice none 0 0))/\∀ i,W'.frozen? ⟨w.heap.size+1,i,none⟩=false:=fun W' hx=>by
   have hh:=(hx.below.block (w.heap.size+1) (by omega)).trans hb1;have k1:∀ i,W'.cell? ⟨w.heap.size+1,i,none⟩=W.cell? ⟨w.heap.size+1,i,none⟩:=fun i=>World.cell?_of_block (a:=⟨w.heap.size+1,i,none⟩) hh
   have k2:∀ i,W'.frozen? ⟨w.heap.size+1,i,none⟩=W.frozen? ⟨w.heap.size+1,i,none⟩:=fun i=>by
    rw [hx.frozen (p:=⟨w.heap.size+1,i,none⟩) (by show w.heap.size+1 < _; omega),<- hW1];simp only [World.frozen?_setCell];exact x1.frozen (p:=⟨w.heap.size+1,i,none⟩) (by show w.heap.size+1 < _; omega)
   exact ⟨⟨(k1 0).trans HZ.out.1.1,(k1 1).trans HZ.out.1.2⟩,fun i=>(k2 i).trans (HZ.out.2 i)⟩
  exact this
 have hs3:=X1.out.size;unfold plV
 by_cases hl:P.lv=0
 · have hl2:(P.lv != 0)=false:=by simpa using hl
   have HB:Hid (bb=true):=Lib.hid (HBB.out.symm.trans (by simpa using hl));have HV:Hid (zz=P.z):=Lib.hid (HZZ.out.symm.trans (if_pos hl));have HLZ:=Lib.hid hl;clear hl;have HNO:=Lib.hid (vai _ P.z _ W1 HIN.out (Nat.le_trans HFD.out hD));go_upto_region 2 with fail;obtain ⟨d0,d1,d2,d3⟩:=hbb;have hl:=HLZ.out;clear hW1 b0 b1 b2 b3 fr;go_wp2_with fail;clear d0 d1 d2 d3;refine HNO.out.mono ?_;rintro e w2 ⟨z2,rfl,⟨y2,rfl,m2⟩,x2⟩;obtain ⟨C2,k2,rfl,-⟩:=id m2;obtain ⟨⟨z0,z1⟩,zf⟩:=HZ1.out _ x2;have hcl:=zt (g:=w.heap.size+1) (z:=P.z) (u0:=.bool false) (u1:=.slice none 0 0) (X1.out.trans x2) (Nat.le_succ _) z0 z1 rfl rfl ⟨_,rfl,m2⟩;have HF:=Lib.hid hcl;have HI2:=Lib.hid m2;clear m2 x2 HNO HZ1 HIN hcl;go_wp2_with fail;obtain ⟨x,ex,hx1,hx2⟩:=HF.out;injection ex with ex
   subst ex;exact bodyPost_ret (v:=.tuple #[.agg #[.bool (decide (P.z < 0)),.slice C2 (dg P.z.natAbs).length k2],.bool true]) (by simp [results,Tryz.results68,go_sem,z0,z1]) rfl ⟨_,by rw [HB.out],by rw [HV.out]; exact hx1,hx2⟩
 · have hl2:(P.lv != 0)=true:=by simpa using hl
   have HB:Hid (bb=false):=Lib.hid (HBB.out.symm.trans (by simpa using hl));have HV:Hid (zz=0):=Lib.hid (HZZ.out.symm.trans (if_neg hl));have HLZ:=Lib.hid hl;clear hl;go_upto_region 2 with fail;obtain ⟨d0,d1,d2,d3⟩:=hbb;obtain ⟨⟨z0,z1⟩,zf⟩:=HZ1.out _ (Ext.refl _);clear hW1 b0 b1 b2 b3 fr;have hl:=HLZ.out;have hcl:=zt (g:=w.heap.size+1) (z:=0) (u0:=.bool false) (u1:=.slice none 0 0) (b:=.bool false) (s:=.slice none 0 0) X1.out (Nat.le_succ _) z0 z1 rfl rfl ⟨_,rfl,by rw [Int.natAbs_zero,uk]; exact jc.nil _⟩;have HF:=Lib.hid hcl;clear hcl;go_wp2_with fail;obtain ⟨x,ex,hx1,hx2⟩:=HF.out;injection ex with ex
   subst ex;exact bodyPost_ret (v:=.tuple #[.agg #[.bool false,.slice none 0 0],.bool false]) (by simp [results,Tryz.results68,go_sem,z0,z1]) rfl ⟨_,by rw [HB.out],by rw [HV.out]; exact hx1,hx2⟩
end Go.Proofs.YtklnlgnnlmdibaaGreat
