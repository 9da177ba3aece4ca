/- Layer 25: descend, Chain and Psc where the smaller degree is 1. -/
import Derived.Test.YtklnlgnnlmdibaaGreatMr35
import Derived.Test.YtklnlgnnlmdibaaGreatMr25
set_option linter.unusedSimpArgs false
set_option linter.unusedVariables false

set_option maxRecDepth 100000
set_option maxHeartbeats 8000000
namespace Go.Proofs.YtklnlgnnlmdibaaGreat
open Go.RowKit
theorem gbc {w:World} {q0 q1:Nat->Prop} {f g:Pl} {l m:Int} {E D Eg Dg:Nat} (v0 v1:Value) (hl:1<=l) (hl4:l<=4) (h0:PlV w q0 f v0) (h1:PlV w q1 g v1) (hf:Fit f E D) (hg:Fit g Eg Dg) (hm:1<=m) (hmf:m<=E) (hg1:mdg l g=1) (hE:E+(E+1) * Eg+Eg<=62) (hD:D+(E+1) * (Dg+3)+1<=1099511627776) :
 Calls Tryz.prog 125 #[v0,v1,.int .i64 l,.int .i64 m,.int .i64 1] w (wao (fun b=>w.heap.size<=b) [zu l f g] w):=by
 have H0:=Lib.hid h0;have H1:=Lib.hid h1;obtain ⟨A0,m0,e0,B0,f0,rfl,-⟩:=h0.open_;obtain ⟨A1,m1,e1,B1,f1,rfl,-⟩:=h1.open_;obtain ⟨Wx0,hV0⟩:∃ V,(w.alloc (.cells #[.int .i64 f.lv,.bool f.neg,.slice A0 m0 e0,.slice B0 f.cs.length f0] 35))=V:=⟨_,rfl⟩;obtain ⟨W,hV1⟩:∃ V,(Wx0.alloc (.cells #[.int .i64 g.lv,.bool g.neg,.slice A1 m1 e1,.slice B1 g.cs.length f1] 35))=V:=⟨_,rfl⟩;have hs0:Wx0.heap.size=w.heap.size+1:=by rw [<- hV0]; simp
 have hx0:Ext w Wx0:=by rw [<- hV0]; exact (Ext.refl w).alloc _
 have hs1:W.heap.size=w.heap.size+1+1:=by rw [<- hV1,<- hs0]; simp
 have hx1:Ext Wx0 W:=by rw [<- hV1]; exact (Ext.refl Wx0).alloc _
 have hb0:jb W (w.heap.size) f (.slice A0 m0 e0) (.slice B0 f.cs.length f0):=by
  have hh:jb Wx0 w.heap.size f (.slice A0 m0 e0) (.slice B0 f.cs.length f0):=by rw [<- hV0]; exact jb.new w f _ _ _
  exact hh.ext hx1 (by omega)
 have hb1:jb W (w.heap.size+1) g (.slice A1 m1 e1) (.slice B1 g.cs.length f1):=by
  have hh:jb W Wx0.heap.size g (.slice A1 m1 e1) (.slice B1 g.cs.length f1):=by rw [<- hV1]; exact jb.new Wx0 g _ _ _
  rw [hs0] at hh;exact hh
 have HX:=Lib.hid (hx0.trans hx1);have HB0:=Lib.hid hb0;have HB1:=Lib.hid hb1;have hsw:W.heap.size=w.heap.size+1+1:=hs1;clear h0 h1 hx0 hx1 hb0 hb1;have hDg:=Nat.mul_le_mul_right (Dg+3) (show 1<=E+1 by omega);have hEg:=Nat.mul_le_mul_right Eg (show 1<=E+1 by omega);have hg0:g ≠ Pl.zero:=jar (l:=l) (by omega);have hme:((m - 1).toNat+1) * Eg<=900:=by
  have:=Nat.mul_le_mul_right Eg (show (m - 1).toNat+1<=E by omega);have:=Nat.mul_le_mul_right Eg (show E<=E+1 by omega);omega
 have hmd:((m - 1).toNat+1) * Dg<=4398046511000:=by
  have:=Nat.mul_le_mul (show (m - 1).toNat+1<=E+1 by omega) (show Dg<=Dg+3 by omega);omega
 have HL:=Lib.hid (fun (W':World) (hx:Ext w W')=>qal _ hl hl4 hg (by omega) (by omega) (H1.out.ext hx));have HP:=Lib.hid (fun (W':World) (q:Nat->Prop) (u:Value) (hu:PlV W' q (ul l g) u)=>kao (n:=m - 1) u hu (zaq (l:=l) hg) hme hmd (by omega));obtain ⟨PW,hPW⟩:∃ PW,(ul l g).pow (m - 1).toNat=PW:=⟨_,rfl⟩;rw [hPW] at HP;clear hPW;have HR:=Lib.hid (fun (W':World) (hx:Ext w W')=>zb7 _ _ hl hl4 (H0.out.ext hx) (H1.out.ext hx) hf hg hg0 hE hD);have hsf:=ua2 hl hl4 hf hg (by have:B32=4294967296:=rfl; omega);have HDB:=Lib.hid (fun (W':World) (q:Nat->Prop) (u:Value) (hu:PlV W' q (zu l f g) u)=>vac (l:=l) u (xat l f g) (hsf.copy_ (by omega)) (by have:=hsf.dm; omega) hu);have HDA:=Lib.hid (fun (W':World) (q:Nat->Prop) (u:Value) (hu:PlV W' q g u)=>vac (l:=l) u hg.can (hg.copy_ (by omega)) (by have:=hg.dm; omega) hu);have HDG:=Lib.hid hg1;have HDL:=Lib.hid (vbf hl hl4 hf.can hg.can hg0);have HGE:=Lib.hid (kcl (l:=l) (zu l f g));have HMZ:=Lib.hid (gbi (l:=l) (xat l f g));have hwm:IntKind.i64.wrap (m - 1)=m - 1:=by rw [IntKind.wrap_i64]; omega
 obtain ⟨Wm,hmk,hmx,hms,hrow⟩:=wz 1 (by omega) (by omega) W;rw [show (1:Int).toNat=1 from rfl] at hmk hrow;rw [hsw] at hmk hrow;have HMX:=Lib.hid (HX.out.trans hmx);have HMR:=Lib.hid (hrow (fun _=>False));obtain ⟨b0,b1,b2,b3⟩:=HB1.out.ext hmx (by omega);clear hDg hEg hg0 hme hmd hsf hg1 hf hg hE hD hrow;unfold plV at HL HR ⊢;go_enter Tryz.func125,Tryz.ntmps125;go_wp2_with fail;clear hV0 hV1;clear hmk b0 b1 b2 b3;refine (HL.out _ HMX.out).mono ?_;rintro e w3 ⟨v3,rfl,p3,x3⟩;have hpow:=HP.out _ _ _ p3;have y3:Ext W w3:=hmx.trans x3;have r3:=HMR.out.ext x3;clear x3 hmx hms HMX HMR HL HP p3;go_wp2_with fail;refine hpow.mono ?_;rintro e w4 ⟨v4,rfl,p4,x4⟩;obtain ⟨C0,j0,k0,C1,k1,rfl,-⟩:=id p4.open_;have y4:=y3.trans x4;have r4:=r3.ext x4;clear x4 y3 r3 p4 hpow;obtain ⟨R,hR⟩:∃ R,w.heap.size+1+1=R:=⟨_,rfl⟩;rw [hR] at r4 ⊢;have hRW:R=W.heap.size:=by omega
 have HRW:=Lib.hid hRW;clear hR hRW;unfold plV;obtain ⟨Wp,hWp⟩:∃ Wp,(w4.alloc (.cells #[.int .i64 PW.lv,.bool PW.neg,.slice C0 j0 k0,.slice C1 PW.cs.length k1] 35))=Wp:=⟨_,rfl⟩;have yp:Ext W Wp:=by rw [<- hWp]; exact y4.alloc _
 have rp:=r4.ext (by rw [<- hWp]; exact (Ext.refl w4).alloc _:Ext w4 Wp);have hRp:R < Wp.heap.size:=rp.1;clear y4 r4;have HSS:Hid (∀ W',Ext W W'->(Ext W W'/\(W'.cell? ⟨w.heap.size,0,none⟩=some (.int .i64 f.lv)/\W'.cell? ⟨w.heap.size,1,none⟩=some (.bool f.neg)/\W'.cell? ⟨w.heap.size,2,none⟩=some (.slice A0 m0 e0)/\W'.cell? ⟨w.heap.size,3,none⟩=some (.slice B0 f.cs.length f0))/\(W'.cell? ⟨w.heap.size+1,0,none⟩=some (.int .i64 g.lv)/\W'.cell? ⟨w.heap.size+1,1,none⟩=some (.bool g.neg)/\W'.cell? ⟨w.heap.size+1,2,none⟩=some (.slice A1 m1 e1)/\W'.cell? ⟨w.heap.size+1,3,none⟩=some (.slice B1 g.cs.length f1)))):=Lib.hid (fun W' hx=>⟨hx,HB0.out.ext hx (by omega),HB1.out.ext hx (by omega)⟩);go_upto_region 3 with fail;clear hWp;have HSW:=Lib.hid hsw;clear hsw hs0 hs1;have y0:Ext W Wp.drew:=yp.drew;have rp0:=rp.ext (Ext.refl Wp).drew;refine wp_region_held_drew (S:=fun W'=>Ext W W'/\(W'.cell? ⟨w.heap.size,0,none⟩=some (.int .i64 f.lv)/\W'.cell? ⟨w.heap.size,1,none⟩=some (.bool f.neg)/\W'.cell? ⟨w.heap.size,2,none⟩=some (.slice A0 m0 e0)/\W'.cell? ⟨w.heap.size,3,none⟩=some (.slice B0 f.cs.length f0))/\(W'.cell? ⟨w.heap.size+1,0,none⟩=some (.int .i64 g.lv)/\W'.cell? ⟨w.heap.size+1,1,none⟩=some (.bool g.neg)/\W'.cell? ⟨w.heap.size+1,2,none⟩=some (.slice A1 m1 e1)/\W'.cell? ⟨w.heap.size+1,3,none⟩=some (.slice B1 g.cs.length f1))) (by kernel_rfl) (HSS.out _ y0) (fun hHeld=>?_);refine tk 0 ?_ (hy:=Or.inl ⟨by rfl,by intro w' hSw; obtain ⟨-,⟨k0,k1,k2,k3⟩,k4,k5,k6,k7⟩:=hSw; go_simp; (try (with_reducible rfl))⟩);refine tk 1 ?_ (hy:=Or.inl ⟨by rfl,by intro w' hSw; obtain ⟨-,⟨k0,k1,k2,k3⟩,k4,k5,k6,k7⟩:=hSw; go_simp; (try (with_reducible rfl))⟩);refine tk 2 ?_ (hy:=Or.inl ⟨by rfl,by intro w' hSw; obtain ⟨-,⟨k0,k1,k2,k3⟩,k4,k5,k6,k7⟩:=hSw; go_simp; (try (with_reducible rfl))⟩);refine tk 3 ?_;refine wpAnyH_ready (rs:=[4,5,6]) (by kernel_rfl) (by simp) ?_;refine AllReadyH.cons rfl (fun K hK=>?cx4) (AllReadyH.cons rfl (fun K hK=>?cx5) (AllReadyH.cons rfl (fun K hK=>?cx6) AllReadyH.nil))
 case' cx4 =>
  go_simp
  go_at_call 139
  refine (HR.out _ (HX.out.trans y0)).mono ?_;rintro e w5 ⟨v5,rfl,hpr,x5⟩;have yr:=y0.trans x5;obtain ⟨D0,j2,k2,D1,k3,rfl,-⟩:=id hpr.open_;unfold plV;refine hK.out _ _ (HSS.out _ yr) (fun hHeld=>?_);clear hK K
  try simp only [Act.put,List.getElem_toArray,List.getElem_cons_zero,List.getElem_cons_succ,List.setIfInBounds_toArray,List.set_cons_zero,List.set_cons_succ]
  have hpr:PlV w5 (fun b=>R < b) (zu l f g) _:=hpr.mono fun b hb=>by have:=rp0.1; omega
  have hrw:=rp0.ext x5;refine wpAnyH_ready (rs:=[5,6]) (by kernel_rfl) (by simp) ?_;refine AllReadyH.cons rfl (fun K hK=>?c4x5) (AllReadyH.cons rfl (fun K hK=>?c4x6) AllReadyH.nil)
  case' c4x5 =>
   go_simp;obtain ⟨V5,hV⟩:∃ V,(w5.alloc (.cells #[.int .i64 0,.bool false,.slice none 0 0,.slice none 0 0] 35))=V:=⟨_,rfl⟩;obtain ⟨o5,ho⟩:∃ o,w5.heap.size=o:=⟨_,rfl⟩;have hz5:PBx V5 (fun _=>False) o5 Pl.zero:=by rw [<- hV,<- ho]; exact PBx.new (Pl.zero_v _ _ none 0 (by omega)) _
   have yA5:Ext W V5:=by rw [<- hV]; exact yr.alloc _
   have hoW5:W.heap.size<=o5:=by rw [<- ho]; exact yr.size
   have hovo5:o5 < V5.heap.size:=hz5.1;have hopo5:=Lib.hid ho.symm;have yxV5:Ext w5 V5:=by rw [<- hV]; exact (Ext.refl _).alloc _
   try rw [hV]
   try rw [ho]
   refine hK.out _ _ (HSS.out _ yA5) (fun hHeld=>?_);clear hK K hV ho
   try simp only [Act.put,List.getElem_toArray,List.getElem_cons_zero,List.getElem_cons_succ,List.setIfInBounds_toArray,List.set_cons_zero,List.set_cons_succ]
   have hz5s:=hz5.1;have hoR5:R < o5:=by have:=hopo5.out; have:=hrw.1; omega
   have hpr:PlV V5 (fun b=>R < b/\b ≠ o5) (zu l f g) _:=(hpr.below_.ext yxV5).mono fun b hb=>by have:=hb.1; have:=hb.2; have:=hopo5.out; omega
   have hrw:=hrw.ext yxV5;refine wpAnyH_ready (rs:=[6]) (by kernel_rfl) (by simp) ?_;refine AllReadyH.cons rfl (fun K hK=>?_) AllReadyH.nil;go_simp;obtain ⟨V6,hV⟩:∃ V,(V5.alloc (.cells #[.int .i64 0,.bool false,.slice none 0 0,.slice none 0 0] 35))=V:=⟨_,rfl⟩;obtain ⟨o6,ho⟩:∃ o,V5.heap.size=o:=⟨_,rfl⟩;have hz6:PBx V6 (fun _=>False) o6 Pl.zero:=by rw [<- hV,<- ho]; exact PBx.new (Pl.zero_v _ _ none 0 (by omega)) _
   have yA6:Ext W V6:=by rw [<- hV]; exact yA5.alloc _
   have hoW6:W.heap.size<=o6:=by rw [<- ho]; exact yA5.size
   have hovo6:o6 < V6.heap.size:=hz6.1;have hopo6:=Lib.hid ho.symm;have yxV6:Ext V5 V6:=by rw [<- hV]; exact (Ext.refl _).alloc _
   try rw [hV]
   try rw [ho]
   refine hK.out _ _ (HSS.out _ yA6) (fun hHeld=>?_);clear hK K hV ho
   try simp only [Act.put,List.getElem_toArray,List.getElem_cons_zero,List.getElem_cons_succ,List.setIfInBounds_toArray,List.set_cons_zero,List.set_cons_succ]
   have hz6s:=hz6.1;have hoR6:R < o6:=by have:=hopo6.out; have:=hrw.1; omega
   have hne56:o5 ≠ o6:=by have:=hopo6.out; have:=hz5.1; omega
   have hz5:=hz5.ext yxV6;have hz5s:=hz5.1;have hpr:PlV V6 (fun b=>R < b/\b ≠ o5/\b ≠ o6) (zu l f g) _:=(hpr.below_.ext yxV6).mono fun b hb=>by have:=hb.1; have:=hb.2; have:=hopo6.out; omega
   have hrw:=hrw.ext yxV6;have yE:=yA6;have hz5E:=hz5;have hz6E:=hz6;have hpE:=hpr;have hrE:=hrw;have hneE:o5 ≠ o6:=hne56
  case' c4x6 =>
   go_simp;obtain ⟨V6,hV⟩:∃ V,(w5.alloc (.cells #[.int .i64 0,.bool false,.slice none 0 0,.slice none 0 0] 35))=V:=⟨_,rfl⟩;obtain ⟨o6,ho⟩:∃ o,w5.heap.size=o:=⟨_,rfl⟩;have hz6:PBx V6 (fun _=>False) o6 Pl.zero:=by rw [<- hV,<- ho]; exact PBx.new (Pl.zero_v _ _ none 0 (by omega)) _
   have yA6:Ext W V6:=by rw [<- hV]; exact yr.alloc _
   have hoW6:W.heap.size<=o6:=by rw [<- ho]; exact yr.size
   have hovo6:o6 < V6.heap.size:=hz6.1;have hopo6:=Lib.hid ho.symm;have yxV6:Ext w5 V6:=by rw [<- hV]; exact (Ext.refl _).alloc _
   try rw [hV]
   try rw [ho]
   refine hK.out _ _ (HSS.out _ yA6) (fun hHeld=>?_);clear hK K hV ho
   try simp only [Act.put,List.getElem_toArray,List.getElem_cons_zero,List.getElem_cons_succ,List.setIfInBounds_toArray,List.set_cons_zero,List.set_cons_succ]
   have hz6s:=hz6.1;have hoR6:R < o6:=by have:=hopo6.out; have:=hrw.1; omega
   have hpr:PlV V6 (fun b=>R < b/\b ≠ o6) (zu l f g) _:=(hpr.below_.ext yxV6).mono fun b hb=>by have:=hb.1; have:=hb.2; have:=hopo6.out; omega
   have hrw:=hrw.ext yxV6;refine wpAnyH_ready (rs:=[5]) (by kernel_rfl) (by simp) ?_;refine AllReadyH.cons rfl (fun K hK=>?_) AllReadyH.nil;go_simp;obtain ⟨V5,hV⟩:∃ V,(V6.alloc (.cells #[.int .i64 0,.bool false,.slice none 0 0,.slice none 0 0] 35))=V:=⟨_,rfl⟩;obtain ⟨o5,ho⟩:∃ o,V6.heap.size=o:=⟨_,rfl⟩;have hz5:PBx V5 (fun _=>False) o5 Pl.zero:=by rw [<- hV,<- ho]; exact PBx.new (Pl.zero_v _ _ none 0 (by omega)) _
   have yA5:Ext W V5:=by rw [<- hV]; exact yA6.alloc _
   have hoW5:W.heap.size<=o5:=by rw [<- ho]; exact yA6.size
   have hovo5:o5 < V5.heap.size:=hz5.1;have hopo5:=Lib.hid ho.symm;have yxV5:Ext V6 V5:=by rw [<- hV]; exact (Ext.refl _).alloc _
   try rw [hV]
   try rw [ho]
   refine hK.out _ _ (HSS.out _ yA5) (fun hHeld=>?_);clear hK K hV ho
   try simp only [Act.put,List.getElem_toArray,List.getElem_cons_zero,List.getElem_cons_succ,List.setIfInBounds_toArray,List.set_cons_zero,List.set_cons_succ]
   have hz5s:=hz5.1;have hoR5:R < o5:=by have:=hopo5.out; have:=hrw.1; omega
   have hne56:o5 ≠ o6:=by have:=hopo5.out; have:=hz6.1; omega
   have hz6:=hz6.ext yxV5;have hz6s:=hz6.1;have hpr:PlV V5 (fun b=>R < b/\b ≠ o5/\b ≠ o6) (zu l f g) _:=(hpr.below_.ext yxV5).mono fun b hb=>by have:=hb.1; have:=hb.2; have:=hopo5.out; omega
   have hrw:=hrw.ext yxV5;have yE:=yA5;have hz5E:=hz5;have hz6E:=hz6;have hpE:=hpr;have hrE:=hrw;have hneE:o5 ≠ o6:=hne56
 case' cx5 =>
  go_simp;obtain ⟨V5,hV⟩:∃ V,(Wp.alloc (.cells #[.int .i64 0,.bool false,.slice none 0 0,.slice none 0 0] 35)).drew=V:=⟨_,rfl⟩;obtain ⟨o5,ho⟩:∃ o,Wp.heap.size=o:=⟨_,rfl⟩;have hz5:PBx V5 (fun _=>False) o5 Pl.zero:=by rw [<- hV,<- ho]; exact (PBx.new (Pl.zero_v _ _ none 0 (by omega)) _).ext (Ext.refl _).drew
  have yA5:Ext W V5:=by rw [<- hV]; exact (yp.alloc _).drew
  have hoW5:W.heap.size<=o5:=by rw [<- ho]; exact yp.size
  have hovo5:o5 < V5.heap.size:=hz5.1;have hopo5:=Lib.hid ho.symm;have yxV5:Ext Wp V5:=by rw [<- hV]; exact ((Ext.refl _).alloc _).drew
  try rw [hV]
  try rw [ho]
  refine hK.out _ _ (HSS.out _ yA5) (fun hHeld=>?_);clear hK K hV ho
  try simp only [Act.put,List.getElem_toArray,List.getElem_cons_zero,List.getElem_cons_succ,List.setIfInBounds_toArray,List.set_cons_zero,List.set_cons_succ]
  have hz5s:=hz5.1;have hoR5:R < o5:=by have:=hopo5.out; have:=hRp; omega
  have hrw:=rp.ext yxV5;refine wpAnyH_ready (rs:=[4,6]) (by kernel_rfl) (by simp) ?_;refine AllReadyH.cons rfl (fun K hK=>?c5x4) (AllReadyH.cons rfl (fun K hK=>?c5x6) AllReadyH.nil)
  case' c5x4 =>
   go_simp
   go_at_call 139
   refine (HR.out _ (HX.out.trans yA5)).mono ?_;rintro e w5 ⟨v5,rfl,hpr,x5⟩;have yr:=yA5.trans x5;obtain ⟨D0,j2,k2,D1,k3,rfl,-⟩:=id hpr.open_;unfold plV;refine hK.out _ _ (HSS.out _ yr) (fun hHeld=>?_);clear hK K
   try simp only [Act.put,List.getElem_toArray,List.getElem_cons_zero,List.getElem_cons_succ,List.setIfInBounds_toArray,List.set_cons_zero,List.set_cons_succ]
   have hz5:=hz5.ext x5;have hpr:PlV w5 (fun b=>R < b/\b ≠ o5) (zu l f g) _:=hpr.mono fun b hb=>by have:=hrw.1; have:=hz5s; omega
   have hrw:=hrw.ext x5;refine wpAnyH_ready (rs:=[6]) (by kernel_rfl) (by simp) ?_;refine AllReadyH.cons rfl (fun K hK=>?_) AllReadyH.nil;go_simp;obtain ⟨V6,hV⟩:∃ V,(w5.alloc (.cells #[.int .i64 0,.bool false,.slice none 0 0,.slice none 0 0] 35))=V:=⟨_,rfl⟩;obtain ⟨o6,ho⟩:∃ o,w5.heap.size=o:=⟨_,rfl⟩;have hz6:PBx V6 (fun _=>False) o6 Pl.zero:=by rw [<- hV,<- ho]; exact PBx.new (Pl.zero_v _ _ none 0 (by omega)) _
   have yA6:Ext W V6:=by rw [<- hV]; exact yr.alloc _
   have hoW6:W.heap.size<=o6:=by rw [<- ho]; exact yr.size
   have hovo6:o6 < V6.heap.size:=hz6.1;have hopo6:=Lib.hid ho.symm;have yxV6:Ext w5 V6:=by rw [<- hV]; exact (Ext.refl _).alloc _
   try rw [hV]
   try rw [ho]
   refine hK.out _ _ (HSS.out _ yA6) (fun hHeld=>?_);clear hK K hV ho
   try simp only [Act.put,List.getElem_toArray,List.getElem_cons_zero,List.getElem_cons_succ,List.setIfInBounds_toArray,List.set_cons_zero,List.set_cons_succ]
   have hz6s:=hz6.1;have hoR6:R < o6:=by have:=hopo6.out; have:=hrw.1; omega
   have hne56:o5 ≠ o6:=by have:=hopo6.out; have:=hz5.1; omega
   have hz5:=hz5.ext yxV6;have hz5s:=hz5.1;have hpr:PlV V6 (fun b=>R < b/\b ≠ o5/\b ≠ o6) (zu l f g) _:=(hpr.below_.ext yxV6).mono fun b hb=>by have:=hb.1; have:=hb.2; have:=hopo6.out; omega
   have hrw:=hrw.ext yxV6;have yE:=yA6;have hz5E:=hz5;have hz6E:=hz6;have hpE:=hpr;have hrE:=hrw;have hneE:o5 ≠ o6:=hne56
  case' c5x6 =>
   go_simp;obtain ⟨V6,hV⟩:∃ V,(V5.alloc (.cells #[.int .i64 0,.bool false,.slice none 0 0,.slice none 0 0] 35))=V:=⟨_,rfl⟩;obtain ⟨o6,ho⟩:∃ o,V5.heap.size=o:=⟨_,rfl⟩;have hz6:PBx V6 (fun _=>False) o6 Pl.zero:=by rw [<- hV,<- ho]; exact PBx.new (Pl.zero_v _ _ none 0 (by omega)) _
   have yA6:Ext W V6:=by rw [<- hV]; exact yA5.alloc _
   have hoW6:W.heap.size<=o6:=by rw [<- ho]; exact yA5.size
   have hovo6:o6 < V6.heap.size:=hz6.1;have hopo6:=Lib.hid ho.symm;have yxV6:Ext V5 V6:=by rw [<- hV]; exact (Ext.refl _).alloc _
   try rw [hV]
   try rw [ho]
   refine hK.out _ _ (HSS.out _ yA6) (fun hHeld=>?_);clear hK K hV ho
   try simp only [Act.put,List.getElem_toArray,List.getElem_cons_zero,List.getElem_cons_succ,List.setIfInBounds_toArray,List.set_cons_zero,List.set_cons_succ]
   have hz6s:=hz6.1;have hoR6:R < o6:=by have:=hopo6.out; have:=hrw.1; omega
   have hne56:o5 ≠ o6:=by have:=hopo6.out; have:=hz5.1; omega
   have hz5:=hz5.ext yxV6;have hz5s:=hz5.1;have hrw:=hrw.ext yxV6;refine wpAnyH_ready (rs:=[4]) (by kernel_rfl) (by simp) ?_;refine AllReadyH.cons rfl (fun K hK=>?_) AllReadyH.nil;go_simp
   go_at_call 139
   refine (HR.out _ (HX.out.trans yA6)).mono ?_;rintro e w5 ⟨v5,rfl,hpr,x5⟩;have yr:=yA6.trans x5;obtain ⟨D0,j2,k2,D1,k3,rfl,-⟩:=id hpr.open_;unfold plV;refine hK.out _ _ (HSS.out _ yr) (fun hHeld=>?_);clear hK K
   try simp only [Act.put,List.getElem_toArray,List.getElem_cons_zero,List.getElem_cons_succ,List.setIfInBounds_toArray,List.set_cons_zero,List.set_cons_succ]
   have hz5:=hz5.ext x5;have hz6:=hz6.ext x5;have hpr:PlV w5 (fun b=>R < b/\b ≠ o5/\b ≠ o6) (zu l f g) _:=hpr.mono fun b hb=>by have:=hrw.1; have:=hz5s; have:=hz6s; omega
   have hrw:=hrw.ext x5;have yE:=yr;have hz5E:=hz5;have hz6E:=hz6;have hpE:=hpr;have hrE:=hrw;have hneE:o5 ≠ o6:=hne56
 case' cx6 =>
  go_simp;obtain ⟨V6,hV⟩:∃ V,(Wp.alloc (.cells #[.int .i64 0,.bool false,.slice none 0 0,.slice none 0 0] 35)).drew=V:=⟨_,rfl⟩;obtain ⟨o6,ho⟩:∃ o,Wp.heap.size=o:=⟨_,rfl⟩;have hz6:PBx V6 (fun _=>False) o6 Pl.zero:=by rw [<- hV,<- ho]; exact (PBx.new (Pl.zero_v _ _ none 0 (by omega)) _).ext (Ext.refl _).drew
  have yA6:Ext W V6:=by rw [<- hV]; exact (yp.alloc _).drew
  have hoW6:W.heap.size<=o6:=by rw [<- ho]; exact yp.size
  have hovo6:o6 < V6.heap.size:=hz6.1;have hopo6:=Lib.hid ho.symm;have yxV6:Ext Wp V6:=by rw [<- hV]; exact ((Ext.refl _).alloc _).drew
  try rw [hV]
  try rw [ho]
  refine hK.out _ _ (HSS.out _ yA6) (fun hHeld=>?_);clear hK K hV ho
  try simp only [Act.put,List.getElem_toArray,List.getElem_cons_zero,List.getElem_cons_succ,List.setIfInBounds_toArray,List.set_cons_zero,List.set_cons_succ]
  have hz6s:=hz6.1;have hoR6:R < o6:=by have:=hopo6.out; have:=hRp; omega
  have hrw:=rp.ext yxV6;refine wpAnyH_ready (rs:=[4,5]) (by kernel_rfl) (by simp) ?_;refine AllReadyH.cons rfl (fun K hK=>?c6x4) (AllReadyH.cons rfl (fun K hK=>?c6x5) AllReadyH.nil)
  case' c6x4 =>
   go_simp
   go_at_call 139
   refine (HR.out _ (HX.out.trans yA6)).mono ?_;rintro e w5 ⟨v5,rfl,hpr,x5⟩;have yr:=yA6.trans x5;obtain ⟨D0,j2,k2,D1,k3,rfl,-⟩:=id hpr.open_;unfold plV;refine hK.out _ _ (HSS.out _ yr) (fun hHeld=>?_);clear hK K
   try simp only [Act.put,List.getElem_toArray,List.getElem_cons_zero,List.getElem_cons_succ,List.setIfInBounds_toArray,List.set_cons_zero,List.set_cons_succ]
   have hz6:=hz6.ext x5;have hpr:PlV w5 (fun b=>R < b/\b ≠ o6) (zu l f g) _:=hpr.mono fun b hb=>by have:=hrw.1; have:=hz6s; omega
   have hrw:=hrw.ext x5;refine wpAnyH_ready (rs:=[5]) (by kernel_rfl) (by simp) ?_;refine AllReadyH.cons rfl (fun K hK=>?_) AllReadyH.nil;go_simp;obtain ⟨V5,hV⟩:∃ V,(w5.alloc (.cells #[.int .i64 0,.bool false,.slice none 0 0,.slice none 0 0] 35))=V:=⟨_,rfl⟩;obtain ⟨o5,ho⟩:∃ o,w5.heap.size=o:=⟨_,rfl⟩;have hz5:PBx V5 (fun _=>False) o5 Pl.zero:=by rw [<- hV,<- ho]; exact PBx.new (Pl.zero_v _ _ none 0 (by omega)) _
   have yA5:Ext W V5:=by rw [<- hV]; exact yr.alloc _
   have hoW5:W.heap.size<=o5:=by rw [<- ho]; exact yr.size
   have hovo5:o5 < V5.heap.size:=hz5.1;have hopo5:=Lib.hid ho.symm;have yxV5:Ext w5 V5:=by rw [<- hV]; exact (Ext.refl _).alloc _
   try rw [hV]
   try rw [ho]
   refine hK.out _ _ (HSS.out _ yA5) (fun hHeld=>?_);clear hK K hV ho
   try simp only [Act.put,List.getElem_toArray,List.getElem_cons_zero,List.getElem_cons_succ,List.setIfInBounds_toArray,List.set_cons_zero,List.set_cons_succ]
   have hz5s:=hz5.1;have hoR5:R < o5:=by have:=hopo5.out; have:=hrw.1; omega
   have hne56:o5 ≠ o6:=by have:=hopo5.out; have:=hz6.1; omega
   have hz6:=hz6.ext yxV5;have hz6s:=hz6.1;have hpr:PlV V5 (fun b=>R < b/\b ≠ o5/\b ≠ o6) (zu l f g) _:=(hpr.below_.ext yxV5).mono fun b hb=>by have:=hb.1; have:=hb.2; have:=hopo5.out; omega
   have hrw:=hrw.ext yxV5;have yE:=yA5;have hz5E:=hz5;have hz6E:=hz6;have hpE:=hpr;have hrE:=hrw;have hneE:o5 ≠ o6:=hne56
  case' c6x5 =>
   go_simp;obtain ⟨V5,hV⟩:∃ V,(V6.alloc (.cells #[.int .i64 0,.bool false,.slice none 0 0,.slice none 0 0] 35))=V:=⟨_,rfl⟩;obtain ⟨o5,ho⟩:∃ o,V6.heap.size=o:=⟨_,rfl⟩;have hz5:PBx V5 (fun _=>False) o5 Pl.zero:=by rw [<- hV,<- ho]; exact PBx.new (Pl.zero_v _ _ none 0 (by omega)) _
   have yA5:Ext W V5:=by rw [<- hV]; exact yA6.alloc _
   have hoW5:W.heap.size<=o5:=by rw [<- ho]; exact yA6.size
   have hovo5:o5 < V5.heap.size:=hz5.1;have hopo5:=Lib.hid ho.symm;have yxV5:Ext V6 V5:=by rw [<- hV]; exact (Ext.refl _).alloc _
   try rw [hV]
   try rw [ho]
   refine hK.out _ _ (HSS.out _ yA5) (fun hHeld=>?_);clear hK K hV ho
   try simp only [Act.put,List.getElem_toArray,List.getElem_cons_zero,List.getElem_cons_succ,List.setIfInBounds_toArray,List.set_cons_zero,List.set_cons_succ]
   have hz5s:=hz5.1;have hoR5:R < o5:=by have:=hopo5.out; have:=hrw.1; omega
   have hne56:o5 ≠ o6:=by have:=hopo5.out; have:=hz6.1; omega
   have hz6:=hz6.ext yxV5;have hz6s:=hz6.1;have hrw:=hrw.ext yxV5;refine wpAnyH_ready (rs:=[4]) (by kernel_rfl) (by simp) ?_;refine AllReadyH.cons rfl (fun K hK=>?_) AllReadyH.nil;go_simp
   go_at_call 139
   refine (HR.out _ (HX.out.trans yA5)).mono ?_;rintro e w5 ⟨v5,rfl,hpr,x5⟩;have yr:=yA5.trans x5;obtain ⟨D0,j2,k2,D1,k3,rfl,-⟩:=id hpr.open_;unfold plV;refine hK.out _ _ (HSS.out _ yr) (fun hHeld=>?_);clear hK K
   try simp only [Act.put,List.getElem_toArray,List.getElem_cons_zero,List.getElem_cons_succ,List.setIfInBounds_toArray,List.set_cons_zero,List.set_cons_succ]
   have hz5:=hz5.ext x5;have hz6:=hz6.ext x5;have hpr:PlV w5 (fun b=>R < b/\b ≠ o5/\b ≠ o6) (zu l f g) _:=hpr.mono fun b hb=>by have:=hrw.1; have:=hz5s; have:=hz6s; omega
   have hrw:=hrw.ext x5;have yE:=yr;have hz5E:=hz5;have hz6E:=hz6;have hpE:=hpr;have hrE:=hrw;have hneE:o5 ≠ o6:=hne56
 all_goals
  have hwW:=HX.out.size;obtain ⟨P,hP⟩:∃ P,zu l f g=P:=⟨_,rfl⟩;rw [hP] at hpE ⊢;have HPP:=Lib.hid hP;have HDBP:=HDB.out;have HDLP:=HDL.out;have HGEP:=HGE.out;have HMZP:=HMZ.out;rw [hP] at HDBP HDLP HGEP HMZP;have HDBQ:=Lib.hid HDBP;have HMZQ:=Lib.hid HMZP;rw [HDG.out] at HDLP;clear hP HDB HDL HGE HMZ HDBP HMZP;have hf5:=hz5E.2.1;obtain ⟨Z0,zn,zc,Z1,zc1,⟨g0,g1,g2,g3⟩,-⟩:=hz5E.2.2;have hgE:PlV _ (fun b=>b < w.heap.size) g (plV g (.slice A1 m1 e1) (.slice B1 g.cs.length f1)):=(H1.out.below_.mono fun b hb=>hb.2).ext (HX.out.trans yE);refine wpAnyH_ready (rs:=[7]) (by kernel_rfl) (by simp) ?_;refine AllReadyH.cons rfl (fun K hK=>?_) AllReadyH.nil;go_simp;clear g0 g1 g2 g3 hf5;have fr5:=hz5E.frr g.lv g.neg A1 B1 m1 e1 g.cs.length f1;refine yaf (P:=fun V7=>Ext W V7/\PBx V7 (fun b=>b < w.heap.size) o5 g/\PBx V7 (fun _=>False) o6 Pl.zero/\PlV V7 (fun b=>R < b/\b ≠ o6) P _/\jh V7 (fun _=>False) R (List.replicate 1 Pl.zero)) ⟨(((yE.setCell hoW5 _).setCell hoW5 _).setCell hoW5 _).setCell hoW5 _,hz5E.store (hgE.mono fun b hb=>⟨hb,by omega⟩),fr5.pbx hz6E hneE.symm (fun b hb=>hb.elim),(fr5.pl hpE (fun b hb=>by (try dsimp only at hb); omega)).mono (fun b hb=>by (try dsimp only at hb); constructor <;> omega),fr5.row hrE (by omega) (fun b hb=>hb.elim)⟩ (fun V7 hV7=>?_);obtain ⟨y7,ha7,hb7,hp7,hr7⟩:=hV7;refine hK.out _ _ (HSS.out _ y7) (fun hHeld=>?_);clear hK K
  try simp only [Act.put,List.getElem_toArray,List.getElem_cons_zero,List.getElem_cons_succ,List.setIfInBounds_toArray,List.set_cons_zero,List.set_cons_succ]
  have hf6:=hb7.2.1;obtain ⟨Z2,zn2,zc2,Z3,zc3,⟨g0,g1,g2,g3⟩,-⟩:=hb7.2.2;refine wpAnyH_ready (rs:=[8]) (by kernel_rfl) (by simp) ?_;refine AllReadyH.cons rfl (fun K hK=>?_) AllReadyH.nil;go_simp;clear g0 g1 g2 g3 hf6;have fr6:=hb7.frr P.lv P.neg D0 D1 j2 k2 P.cs.length k3;refine yaf (P:=fun V8=>Ext W V8/\PBx V8 (fun b=>b < w.heap.size) o5 g/\PBx V8 (fun b=>R < b) o6 P/\jh V8 (fun _=>False) R (List.replicate 1 Pl.zero)) ⟨(((y7.setCell hoW6 _).setCell hoW6 _).setCell hoW6 _).setCell hoW6 _,fr6.pbx ha7 hneE (fun b hb=>by omega),hb7.store hp7,fr6.row hr7 (by omega) (fun b hb=>hb.elim)⟩ (fun V8 hV8=>?_);obtain ⟨y8,ha8,hb8,hr8⟩:=hV8;refine hK.out _ _ (HSS.out _ y8) (fun hHeld=>?_);clear hK K;refine wpAnyH_done (by kernel_rfl) ?_ _;have HA8:=Lib.hid ha8;have HB8:=Lib.hid hb8;have HR8:=Lib.hid hr8;have Y8:=Lib.hid y8;have HNE:=Lib.hid hneE;clear ha8 hb8 hr8 y8 hneE fr6 fr5 ha7 hb7 hp7 hr7 y7 hz5E hz6E hpE hrE yE hgE Z0 zn zc Z1 zc1 Z2 zn2 zc2 Z3 zc3;go_wp2_with fail
  go_loopw [15] (fun u wr=>u=undef/\wr=V8) (fun _ _=>0)
  case atStart=>exact ⟨rfl,rfl⟩
  case round =>
   obtain ⟨rfl,rfl⟩:=hrel;obtain ⟨ho5,hf5,E0,en0,ec0,E1,ec1,ba,pa⟩:=HA8.out;obtain ⟨ho6,hf6,F0,fn0,fc0,F1,fc1,bb,pb⟩:=HB8.out;have PA:=Lib.hid pa;have PB:=Lib.hid pb;have HS4:Hid (∀ W',Ext wr W'->(Ext wr W'/\(W'.cell? ⟨o5,0,none⟩=some (.int .i64 g.lv)/\W'.cell? ⟨o5,1,none⟩=some (.bool g.neg)/\W'.cell? ⟨o5,2,none⟩=some (.slice E0 en0 ec0)/\W'.cell? ⟨o5,3,none⟩=some (.slice E1 g.cs.length ec1))/\(W'.cell? ⟨o6,0,none⟩=some (.int .i64 P.lv)/\W'.cell? ⟨o6,1,none⟩=some (.bool P.neg)/\W'.cell? ⟨o6,2,none⟩=some (.slice F0 fn0 fc0)/\W'.cell? ⟨o6,3,none⟩=some (.slice F1 P.cs.length fc1)))):=Lib.hid (fun W' hx=>⟨hx,ba.ext hx ho5,bb.ext hx ho6⟩);have z0:Ext wr wr.drew:=(Ext.refl wr).drew;have HDGv:=HDG.out;clear ba bb pa pb hf5 hf6 hHeld;go_upto_region 4 with fail;refine wp_region_held_drew (S:=fun W'=>Ext wr W'/\(W'.cell? ⟨o5,0,none⟩=some (.int .i64 g.lv)/\W'.cell? ⟨o5,1,none⟩=some (.bool g.neg)/\W'.cell? ⟨o5,2,none⟩=some (.slice E0 en0 ec0)/\W'.cell? ⟨o5,3,none⟩=some (.slice E1 g.cs.length ec1))/\(W'.cell? ⟨o6,0,none⟩=some (.int .i64 P.lv)/\W'.cell? ⟨o6,1,none⟩=some (.bool P.neg)/\W'.cell? ⟨o6,2,none⟩=some (.slice F0 fn0 fc0)/\W'.cell? ⟨o6,3,none⟩=some (.slice F1 P.cs.length fc1))) (by kernel_rfl) (HS4.out _ z0) (fun hHeld=>?_);refine tk 0 ?_ (hy:=Or.inl ⟨by rfl,by intro w' hSw; obtain ⟨-,⟨k0,k1,k2,k3⟩,k4,k5,k6,k7⟩:=hSw; go_simp; (try (with_reducible rfl))⟩);refine tk 1 ?_;refine tk 3 ?_ (hy:=Or.inl ⟨by rfl,by intro w' hSw; obtain ⟨-,⟨k0,k1,k2,k3⟩,k4,k5,k6,k7⟩:=hSw; go_simp; (try (with_reducible rfl))⟩);refine tk 4 ?_;refine wpAnyH_ready (rs:=[2]) (by kernel_rfl) (by simp) ?_;refine AllReadyH.cons rfl (fun K hK=>?_) AllReadyH.nil;go_simp
   go_at_call 21
   refine (HDA.out _ _ _ (PA.out.ext z0)).mono ?_;rintro e w8 ⟨rfl,x8⟩;have z1:=z0.trans x8;refine hK.out _ _ (HS4.out _ z1) (fun hHeld=>?_);clear hK K
   try simp only [Act.put,List.getElem_toArray,List.getElem_cons_zero,List.getElem_cons_succ,List.setIfInBounds_toArray,List.set_cons_zero,List.set_cons_succ]
   refine wpAnyH_ready (rs:=[5]) (by kernel_rfl) (by simp) ?_;refine AllReadyH.cons rfl (fun K hK=>?_) AllReadyH.nil;go_simp
   go_at_call 21
   refine (HDBQ.out _ _ _ (PB.out.ext z1)).mono ?_;rintro e w9 ⟨rfl,x9⟩;have z2:=z1.trans x9;refine hK.out _ _ (HS4.out _ z2) (fun hHeld=>?_);clear hK K
   try simp only [Act.put,List.getElem_toArray,List.getElem_cons_zero,List.getElem_cons_succ,List.setIfInBounds_toArray,List.set_cons_zero,List.set_cons_succ]
   refine tk 6 ?_;refine tk 7 ?_;refine wpAnyH_done (by kernel_rfl) ?_ _;obtain ⟨-,-,k4,k5,k6,k7⟩:=hHeld;have Z2:=Lib.hid z2;have hwr:=HR8.out.ext z2;obtain ⟨D,hD⟩:∃ D,mdg l P=D:=⟨_,rfl⟩;rw [hD] at HGEP HDLP HMZQ ⊢;clear hD z0 z1 z2 x8 x9 HDGv;have hw0:IntKind.i64.wrap (1 - 1)=0:=rfl;rcases (by omega:D=-1\/D=0) with rfl | rfl
   · have HPZ:=HMZQ.out.1 rfl;have HF:Hid (wao (fun b=>w.heap.size<=b) [zu l f g] w (.returned (.slice (some ⟨R,0,none⟩) 1 1)) w9):=Lib.hid (by
      rw [HPP.out,HPZ]
      exact ⟨_,rfl,⟨_,_,rfl,by simp,by omega,fun _=>⟨R,rfl,by have:=HRW.out; omega,hwr.mono fun b hb=>hb.elim⟩⟩,HX.out.trans (Y8.out.trans Z2.out)⟩)
     clear k4 k5 k6 k7 hwr HPZ;go_wp2_with fail;go_ret;exact HF.out
   · have hRf:=hwr.2.1;obtain ⟨R0,rn0,rc0,R1,rn1,rc1,⟨r0,r1,r2,r3⟩,-⟩:=hwr.el 0 (by simp);have hpb:PlV w9 (fun b=>(w.heap.size<=b)/\b ≠ R) P (plV P (.slice F0 fn0 fc0) (.slice F1 P.cs.length fc1)):=(PB.out.ext Z2.out).mono fun b hb=>by have:=HRW.out; (try dsimp only at hb); exact ⟨by omega,by omega⟩
     have hset:=(hwr.mono (q':=fun b=>w.heap.size<=b) fun b hb=>hb.elim).set_ 0 (by simp) P hpb;simp only [Nat.zero_mul,Nat.zero_add,List.replicate_one,List.set_cons_zero] at r0 r1 r2 r3 hset;obtain ⟨V9,hV9⟩:∃ V,((((w9.setCell ⟨R,0,none⟩ (.int .i64 P.lv)).setCell ⟨R,1,none⟩ (.bool P.neg)).setCell ⟨R,2,none⟩ (.slice F0 fn0 fc0)).setCell ⟨R,3,none⟩ (.slice F1 P.cs.length fc1))=V:=⟨_,rfl⟩;rw [hV9] at hset;have hRw:w.heap.size<=R:=by have:=HRW.out; omega
     have x9':Ext w V9:=by rw [<- hV9]; exact ((((HX.out.trans (Y8.out.trans Z2.out)).setCell hRw _).setCell hRw _).setCell hRw _).setCell hRw _
     have HF:Hid (∀ W',Ext V9 W'->wao (fun b=>w.heap.size<=b) [zu l f g] w (.returned (.slice (some ⟨R,0,none⟩) 1 1)) W'):=Lib.hid (fun W' hx=>by
      rw [HPP.out]
      exact ⟨_,rfl,⟨_,_,rfl,by simp,by omega,fun _=>⟨R,rfl,hRw,hset.1.ext hx⟩⟩,x9'.trans hx⟩)
     have k46:V9.cell? ⟨o6,0,none⟩=some (.int .i64 P.lv)/\V9.cell? ⟨o6,1,none⟩=some (.bool P.neg)/\V9.cell? ⟨o6,2,none⟩=some (.slice F0 fn0 fc0)/\V9.cell? ⟨o6,3,none⟩=some (.slice F1 P.cs.length fc1):=by
      have hne:o6 ≠ R:=by omega
      have kk:∀ j,V9.cell? ⟨o6,j,none⟩=w9.cell? ⟨o6,j,none⟩:=fun j=>World.cell?_of_block (by rw [<- hV9]; exact waa _ _ _ _ _ _ _ hne)
      exact ⟨(kk 0).trans k4,(kk 1).trans k5,(kk 2).trans k6,(kk 3).trans k7⟩
     have hne:¬ o6=R:=by omega
     clear hset hwr hpb x9';go_upto_region 8 with fail
     try rw [hV9]
     obtain ⟨j4,j5,j6,j7⟩:=k46;clear hV9 k4 k5 k6 k7 r0 r1 r2 r3;go_wp2_with fail;go_ret;exact HF.out _ ((Ext.refl _).alloc _)
end Go.Proofs.YtklnlgnnlmdibaaGreat
