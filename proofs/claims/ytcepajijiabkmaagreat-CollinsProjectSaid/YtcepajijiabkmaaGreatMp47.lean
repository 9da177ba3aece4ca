/- Layer 24: pseudo.exact where it divides. -/
import Derived.Test.YtcepajijiabkmaaGreatMp46
set_option linter.unusedSimpArgs false
set_option linter.unusedVariables false
set_option maxRecDepth 100000
set_option maxHeartbeats 8000000
namespace Go.Proofs.YtcepajijiabkmaaGreat
open Lib (hid)
open Go.RowKit
def yar (q:Nat->Prop) (p:Pl) (b:Bool) (w:World) (e:Ending) (w':World):Prop:=∃ v,e=.returned (.tuple #[v,.bool b])/\PlV w' q p v/\Ext w w'
theorem xcg {w:World} {q0 q1:Nat->Prop} {g:Pl} (v0 v1:Value) (h0:PlV w q0 Pl.zero v0) (h1:PlV w q1 g v1) :
 Calls Tryz.prog 166 #[v0,v1] w (yar (fun b=>w.heap.size<=b) Pl.zero true w):=by
 have H0:=hid h0;obtain ⟨A0,n0,c0,A1,c1,rfl,-⟩:=h0.open_;obtain ⟨B0,m0,d0,B1,d1,rfl,-⟩:=h1.open_;obtain ⟨Wa,vT⟩:=n_m ((w.alloc (.cells #[.int .i64 Pl.zero.lv,.bool Pl.zero.neg,.slice A0 n0 c0,.slice A1 Pl.zero.cs.length c1] 33)));obtain ⟨Wb,zI⟩:=n_m ((Wa.alloc (.cells #[.int .i64 g.lv,.bool g.neg,.slice B0 m0 d0,.slice B1 g.cs.length d1] 33)));obtain ⟨W,hW⟩:=n_m ((Wb.alloc (.cells #[.int .i64 0,.bool false,.slice none 0 0,.slice none 0 0] 33)));have Oe:Wa.heap.size=w.heap.size+1:=by rw [<- vT]; simp
 have JM:Wb.heap.size=w.heap.size+1+1:=by rw [<- zI,<- Oe]; simp
 have fO:W.heap.size=w.heap.size+1+1+1:=by rw [<- hW,<- JM]; simp
 have eU:Ext w Wa:=by rw [<- vT]; exact (Ext.refl w).alloc _
 have nO:Ext Wa Wb:=by rw [<- zI]; exact (Ext.refl Wa).alloc _
 have iR:Ext Wb W:=by rw [<- hW]; exact (Ext.refl Wb).alloc _
 have aX:jb W w.heap.size Pl.zero (.slice A0 n0 c0) (.slice A1 Pl.zero.cs.length c1):=by
  have:jb Wa w.heap.size Pl.zero (.slice A0 n0 c0) (.slice A1 Pl.zero.cs.length c1):=by rw [<- vT]; exact jb.new w _ _ _ _
  exact this.ext (nO.trans iR) (by omega)
 have hz:jf W (w.heap.size+1+1):=by
  have:jf W Wb.heap.size:=by rw [<- hW]; exact jf.new Wb _
  rw [JM] at this;exact this
 have HX:=hid ((eU.trans nO).trans iR);have HZ:=hid hz;have fZ:=hid (kab _ (H0.out.ext HX.out) Pl.qS);rw [(Pl.xj Pl.qS).2 rfl] at fZ;obtain ⟨b0,b1,b2,b3⟩:=aX;generalize hp:Pl.zero=p at H0 fZ vT b0 b1 b2 b3 ⊢;have HP:=hid hp;unfold plV at fZ ⊢;clear h0 h1 eU nO iR hz hp;go_enter Tryz.func166,Tryz.ntmps166;go_wp2_with fail;clear vT zI hW b0 b1 b2 b3;refine fZ.out.mono ?_;rintro e w1 ⟨rfl,x1⟩;have aQ:=HZ.out.ext x1 (by omega);have bW:=x1.size;have iM:=hid (qf (p:=Pl.zero) (q:=fun _=>False) (q':=fun b=>w.heap.size<=b) (HX.out.trans x1) (by omega) aQ (Pl.xt w1 _ none 0 (by omega)) (fun b _ hb=>hb.elim));obtain ⟨⟨z0,z1,z2,z3⟩,zf⟩:=aQ;clear x1 fZ;go_wp2_with fail;obtain ⟨v9,e9,k3,k4⟩:=iM.out;injection e9 with e9
 subst e9;exact bodyPost_ret (v:=.tuple #[plV Pl.zero (.slice none 0 0) (.slice none 0 0),.bool true]) (by simp [results,Tryz.results166,go_sem,z0,z1,z2,z3,plV,Pl.zero,Pl.lv,Pl.neg,Pl.cs]) rfl (by rw [<- HP.out]; exact ⟨_,rfl,k3,k4⟩)
theorem gb6 {w:World} {q0 q1:Nat->Prop} {f g:Pl} {z:Int} {D Dg:Nat} (v0 v1:Value) (h0:PlV w q0 f v0) (h1:PlV w q1 g v1) (hf:f.Can) (hg:g.Can) (rE:f ≠ Pl.zero) (bI:g ≠ Pl.zero) (kD:f.lv=0) (lK:g.lv=0) (hz:f.z=g.z * z) (Zn:g.z ≠ 0) (hD:f.ds.length<=D) (OZ:g.ds.length<=Dg) (L8:D<=1099511627776) (Dc:Dg<=1099511627776) (AL:(dg z.natAbs).length<=35184372088832) :
 Calls Tryz.prog 166 #[v0,v1] w (yar (fun b=>w.heap.size<=b) (Pl.const z) true w):=by
 have H0:=hid h0;have H1:=hid h1;have qA:f.zp=false:=by
  cases e:f.zp
  · rfl
  · exact absurd ((Pl.xj hf).1 e) rE
 obtain ⟨A0,n0,c0,A1,c1,rfl,Hm,-⟩:=h0.open_;obtain ⟨B0,m0,d0,B1,d1,rfl,Ce,-⟩:=h1.open_;obtain ⟨Wa,Wb,W,vT,zI,hW,Oe,eU,JM,nO,fO,iR,aX,bF,iV⟩:=b_x w f g (.slice A0 n0 c0) (.slice A1 f.cs.length c1) (.slice B0 m0 d0) (.slice B1 g.cs.length d1);have HX:=hid ((eU.trans nO).trans iR);have HZ:=hid iV;have dJ:=hid aX;have dH:=hid bF;have fZ:=hid (kab _ (H0.out.ext HX.out) hf);rw [qA] at fZ;have mF:=hid (fun (W':World) (hx:Ext w W')=>gbp (.agg #[.bool f.neg,.slice A0 n0 c0]) (.agg #[.bool g.neg,.slice B0 m0 d0]) f.z g.z D Dg W' ⟨_,_,_,rfl,Hm.ext hx,rfl,hD⟩ ⟨_,_,_,rfl,Ce.ext hx,rfl,OZ⟩ (by omega) (by omega) Zn);rw [show f.z.tdiv g.z=z by rw [hz]; exact Int.mul_tdiv_cancel_left z Zn,show f.z.tmod g.z=0 by rw [hz]; exact Int.mul_tmod_right g.z z] at mF;obtain ⟨b0,b1,b2,b3⟩:=aX;have Yl:=hid AL;have HL:=hid (And.intro kD lK);unfold plV at fZ ⊢;clear h0 h1 eU nO iR iV bF hf hg rE bI hz Zn Hm Ce qA AL kD lK;go_enter Tryz.func166,Tryz.ntmps166;go_wp2_with fail;clear vT zI hW b0 b1 b2 b3;refine fZ.out.mono ?_;rintro e w1 ⟨rfl,x1⟩;obtain ⟨b0,b1,b2,b3⟩:=dJ.out.ext x1 (by omega);obtain ⟨g0,g1,g2,g3⟩:=dH.out.ext x1 (by omega);rw [HL.out.1] at b0;rw [HL.out.2] at g0;have X1:=hid (HX.out.trans x1);have eX:=hid (HZ.out.ext x1 (by omega));have bW:=x1.size;clear x1 fZ;go_wp2_with fail;clear b0 b1 b2 b3 g0 g1 g2 g3;refine (mF.out _ X1.out).mono ?_;rintro e w2 ⟨z1,rfl,m1,x2⟩;rw [if_pos rfl] at m1;rw [if_pos rfl];obtain ⟨s1,rfl,m2⟩:=m1;obtain ⟨C1,k1,rfl,-⟩:=id m2;have HM:=hid m2;have HC:=hid (xat (L:=35184372088832) (.agg #[.bool (decide (z < 0)),.slice C1 (dg z.natAbs).length k1]) (yau (m2.ext ((Ext.refl w2).alloc (.cells #[.bool (decide (z < 0)),.slice C1 (dg z.natAbs).length k1] 30))) Yl.out) (pj _));have X2:=hid (X1.out.trans x2);have nY:=hid (eX.out.ext x2 (by omega));have jG:=x2.size;clear m2 x2 mF;go_wp2_with fail;refine HC.out.mono ?_;rintro e w3 ⟨v3,rfl,m3,x3⟩;obtain ⟨D0,dY,ed,D1,dZ,rfl,-⟩:=id m3.open_;have x4:Ext w2 w3:=((Ext.refl w2).alloc _).trans x3;have aQ:=nY.out.ext x4 (by omega);have iM:=hid (qf (q':=fun b=>w.heap.size<=b) (X2.out.trans x4) (by omega) aQ m3 (fun b _ hb=>by
  have eP:=hb;simp at eP
  exact ⟨by omega,by omega⟩))
 obtain ⟨⟨z0,z1,z2,z3⟩,zf⟩:=aQ;obtain ⟨X,hX⟩:=n_m (Pl.const z);rw [hX] at iM ⊢;have oO:=hid hX;clear m3 x3 x4 HC hX;unfold plV;go_wp2_with fail;obtain ⟨v9,e9,k3,k4⟩:=iM.out;injection e9 with e9
 subst e9;exact bodyPost_ret (v:=.tuple #[plV X (.slice D0 dY ed) (.slice D1 X.cs.length dZ),.bool true]) (by simp [results,Tryz.results166,go_sem,z0,z1,z2,z3,plV]) rfl (by rw [oO.out]; exact ⟨_,rfl,k3,k4⟩)
theorem qcp {w:World} {q0 q1:Nat->Prop} {f g:Pl} {x:Pl} (v0 v1:Value) (h0:PlV w q0 f v0) (h1:PlV w q1 g v1) (hf:f.Can) (rE:f ≠ Pl.zero) (af:g.lv < f.lv) (RU:0 < f.lv) (PO:Hid (∀ W',Ext w W'->Calls Tryz.prog 167 #[v0,v1] W' (yar (fun b=>W'.heap.size<=b) x true W'))) :
 Calls Tryz.prog 166 #[v0,v1] w (yar (fun b=>w.heap.size<=b) x true w):=by
 have H0:=hid h0;have H1:=hid h1;have qA:f.zp=false:=by
  cases e:f.zp
  · rfl
  · exact absurd ((Pl.xj hf).1 e) rE
 obtain ⟨A0,n0,c0,A1,c1,rfl,Hm,-⟩:=h0.open_;obtain ⟨B0,m0,d0,B1,d1,rfl,Ce,-⟩:=h1.open_;obtain ⟨Wa,Wb,W,vT,zI,hW,Oe,eU,JM,nO,fO,iR,aX,bF,iV⟩:=b_x w f g (.slice A0 n0 c0) (.slice A1 f.cs.length c1) (.slice B0 m0 d0) (.slice B1 g.cs.length d1);have HX:=hid ((eU.trans nO).trans iR);have HZ:=hid iV;have dJ:=hid aX;have dH:=hid bF;have fZ:=hid (kab _ (H0.out.ext HX.out) hf);rw [qA] at fZ;obtain ⟨b0,b1,b2,b3⟩:=aX;have kJ:=hid (And.intro af RU);unfold plV at fZ PO ⊢;clear h0 h1 eU nO iR iV bF hf rE Hm Ce qA af RU;go_enter Tryz.func166,Tryz.ntmps166;go_wp2_with fail;clear vT zI hW b0 b1 b2 b3;refine fZ.out.mono ?_;rintro e w1 ⟨rfl,x1⟩;obtain ⟨b0,b1,b2,b3⟩:=dJ.out.ext x1 (by omega);obtain ⟨g0,g1,g2,g3⟩:=dH.out.ext x1 (by omega);have e1:¬ f.lv < g.lv:=by have:=kJ.out; omega
 have e2:(f.lv == 0)=false:=by have:=kJ.out; simp; omega
 have e3:¬ f.lv=0:=by have:=kJ.out; omega
 have e4:g.lv < f.lv:=kJ.out.1;have X1:=hid (HX.out.trans x1);have eX:=hid (HZ.out.ext x1 (by omega));have bW:=x1.size;clear x1 fZ;go_wp2_with fail;clear b0 b1 b2 b3 g0 g1 g2 g3;refine (PO.out _ X1.out).mono ?_;rintro e w3 ⟨v3,rfl,m3,x3⟩;obtain ⟨D0,dY,ed,D1,dZ,rfl,-⟩:=id m3.open_;have aQ:=eX.out.ext x3 (by omega);have iM:=hid (qf (q':=fun b=>w.heap.size<=b) (X1.out.trans x3) (by omega) aQ m3 (fun b _ hb=>⟨by omega,by omega⟩));obtain ⟨⟨z0,z1,z2,z3⟩,zf⟩:=aQ;clear m3 x3 PO;unfold plV;go_wp2_with fail;obtain ⟨v9,e9,k3,k4⟩:=iM.out;injection e9 with e9
 subst e9;exact bodyPost_ret (v:=.tuple #[plV x (.slice D0 dY ed) (.slice D1 x.cs.length dZ),.bool true]) (by simp [results,Tryz.results166,go_sem,z0,z1,z2,z3,plV]) rfl ⟨_,rfl,k3,k4⟩
theorem vbm {w:World} {q0 q1:Nat->Prop} {f g:Pl} {xs:List Pl} (v0 v1:Value) (h0:PlV w q0 f v0) (h1:PlV w q1 g v1) (hl:1<=f.lv) (ag:f.lv<=4) (wK:xs.length=f.cs.length) (hm:f.cs.length<=1000000) (PO:Hid (∀ k (hk:k < f.cs.length) (lW:k < xs.length) W' v,Ext w W'->PlV W' q0 f.cs[k] v->Calls Tryz.prog 166 #[v,v1] W' (yar (fun b=>W'.heap.size<=b) xs[k] true W'))) (hsz:vk xs<=1073741823) (gY:ww xs<=1099511627776) (vG:(joinL f.lv xs).sz<=1099511627776) :
 Calls Tryz.prog 167 #[v0,v1] w (yar (fun b=>w.heap.size<=b) (joinL f.lv xs) true w):=by
 have H0:=hid h0;have H1:=hid h1;obtain ⟨A0,n0,c0,A1,c1,rfl,Hm,bZ,dO,h4⟩:=h0.open_;obtain ⟨B0,m0,d0,B1,d1,rfl,Ce,-⟩:=h1.open_;obtain ⟨Wa,Wb,W,vT,zI,hW,Oe,eU,JM,nO,fO,iR,aX,bF,iV⟩:=b_x w f g (.slice A0 n0 c0) (.slice A1 f.cs.length c1) (.slice B0 m0 d0) (.slice B1 g.cs.length d1);have HX:=hid ((eU.trans nO).trans iR);have HZ:=hid iV;have dJ:=hid aX;have dH:=hid bF;obtain ⟨V,dw,eQ,xG,ae⟩:=uw (f.cs.length:Int) (by omega) (by omega) W;rw [sT] at dw ae;have aW:=hid (ae (fun b=>w.heap.size+1+1+1<=b));rw [fO] at dw aW;obtain ⟨b0,b1,b2,b3⟩:=id aX;obtain ⟨e0,e1,e2,e3⟩:=aX.ext eQ (by omega);have lL:=hid eQ;have H4:=hid h4;have Yn:=hid wK;unfold plV at PO ⊢;have jD:=hid (And.intro hsz (And.intro gY vG));clear h0 h1 eU nO iR iV aX bF Hm Ce eQ ae h4 wK hsz gY vG;go_enter Tryz.func167,Tryz.ntmps167;go_wp2_with fail;clear vT zI hW dw b0 b1 b2 b3 e0 e1 e2 e3
 go_loopw [18] (fun iv wr=>∃ k:Nat,k<=f.cs.length/\iv=.int .i64 k/\Hid (Ext W wr/\∃ L:List Pl,L.length=f.cs.length/\L.take k=xs.take k/\xh wr (fun b=>w.heap.size+1+1+1<=b) (w.heap.size+1+1+1) L)) (fun iv _=>f.cs.length - (intOf iv).toNat)
 case atStart=>exact ⟨0,pS _,rfl,hid ⟨lL.out,_,p8,by simp,aW.out⟩⟩
 case round =>
  obtain ⟨k,hk,rfl,HI⟩:=hrel
  by_cases af:k < f.cs.length
  · obtain ⟨hx,L,pI,tC,ae⟩:=HI.out;have AX:k < xs.length:=by rw [Yn.out]; exact af
    obtain ⟨ad,C0,j0,i0,C1,j1,i1,rfl,ah,bP,bC⟩:=jd.ym H4.out k af;obtain ⟨a0,a1,a2,a3⟩:=bP.ext (HX.out.trans hx) (by rw [ja]; exact ah);obtain ⟨g0,g1,g2,g3⟩:=dH.out.ext hx (by omega);have HC:=hid (fun (W':World) (hy:Ext wr W')=>PO.out k af AX W' _ ((HX.out.trans hx).trans hy) (bC.ext ((HX.out.trans hx).trans hy)));have dU:Hid ((L.set k xs[k]).take (k+1)=xs.take (k+1)):=hid (zae L xs k tC (by omega) AX);have aB:=hid ae;have nZ:=hid hx;have Nl:=hid pI;have gV:=ae.1;have afO:w.heap.size+1 < wr.heap.size:=by omega
    generalize f.cs[k]=ck at *;generalize xs[k]=xk at *;unfold plV at HC;clear hx pI tC ae bP bC ah HI;go_wp2_with fail;clear a0 a1 a2 a3 g0 g1 g2 g3;refine (HC.out _ ((Ext.refl _).alloc _)).mono ?_;rintro e w2 ⟨v2,rfl,p2,x2⟩;obtain ⟨D0,dY,ed,D1,dZ,rfl,-⟩:=id p2.open_;have Ju:Ext wr w2:=((Ext.refl wr).alloc _).trans x2;obtain ⟨V9,qC⟩:=n_m (w2.alloc (.cells #[.int .i64 xk.lv,.bool xk.neg,.slice D0 dY ed,.slice D1 xk.cs.length dZ] 33));have x9:Ext w2 V9:=by rw [<- qC]; exact (Ext.refl w2).alloc _
    have Lp:jb V9 w2.heap.size xk (.slice D0 dY ed) (.slice D1 xk.cs.length dZ):=by rw [<- qC]; exact jb.new w2 xk _ _ _
    have Xb:=aB.out.ext (Ju.trans x9);obtain ⟨E0,n2,t0,E1,n3,t1,⟨r0,r1,r2,r3⟩,-⟩:=Xb.2.2 k (by rw [Nl.out]; exact af);have bG:=Xb.2.1;have f0:=bG (k * 4);have f1:=bG (k * 4+1);have f2:=bG (k * 4+2);have f3:=bG (k * 4+3);have dV:=(Xb.xD k (by rw [Nl.out]; exact af) xk ((p2.ext x9).mono fun b hb=>by
     have eP:=hb;simp at eP
     exact ⟨by omega,by omega⟩)).1
    simp only at r0 r1 r2 r3;have dS:=hid dV;have X9:=hid (nZ.out.trans (Ju.trans x9));have hkl:(k:Int) < (f.cs.length:Int):=by omega
    obtain ⟨b0,b1,b2,b3⟩:=Lp;unfold plV;clear Xb dV p2 x2 Ju x9 HC aB bG;go_wp2_with fail;clear qC b0 b1 b2 b3 r0 r1 r2 r3 f0 f1 f2 f3;have Jl:Hid (Ext W ((((V9.setCell ⟨w.heap.size+1+1+1,k * 4,none⟩ (.int .i64 xk.lv)).setCell ⟨w.heap.size+1+1+1,k * 4+1,none⟩ (.bool xk.neg)).setCell ⟨w.heap.size+1+1+1,k * 4+2,none⟩ (.slice D0 dY ed)).setCell ⟨w.heap.size+1+1+1,k * 4+3,none⟩ (.slice D1 xk.cs.length dZ))/\∃ L:List Pl,L.length=f.cs.length/\L.take (k+1)=xs.take (k+1)/\xh ((((V9.setCell ⟨w.heap.size+1+1+1,k * 4,none⟩ (.int .i64 xk.lv)).setCell ⟨w.heap.size+1+1+1,k * 4+1,none⟩ (.bool xk.neg)).setCell ⟨w.heap.size+1+1+1,k * 4+2,none⟩ (.slice D0 dY ed)).setCell ⟨w.heap.size+1+1+1,k * 4+3,none⟩ (.slice D1 xk.cs.length dZ)) (fun b=>w.heap.size+1+1+1<=b) (w.heap.size+1+1+1) L):=by
     have Xz:W.heap.size<=w.heap.size+1+1+1:=by omega
     exact hid ⟨(((X9.out.setCell Xz _).setCell Xz _).setCell Xz _).setCell Xz _,L.set k xk,by rw [pH]; exact Nl.out,dU.out,dS.out⟩
    go_roundw
    case rel=>exact ⟨k+1,by omega,by go_num,Jl⟩
    case measure=>simp only [intOf]; omega
  · obtain ⟨hx,L,pI,tC,ae⟩:=HI.out;have df:k=f.cs.length:=by omega
    have pJ:L=xs:=by
     have h:=tC;rw [df,pT (by omega),pT (by rw [Yn.out]; omega)] at h;exact h
    have aS:=ae.fin (pj _);rw [pJ] at aS;have hJ:=wal (c:=f.cs.length) hl ag aS (by rw [Yn.out]; exact pj _) (by omega) jD.out.1 jD.out.2.1 jD.out.2.2;rw [Yn.out] at hJ;have HJ:=hid hJ;obtain ⟨b0,b1,b2,b3⟩:=dJ.out.ext hx (by omega);have nZ:=hid hx;have Hr:¬ (k:Int) < (f.cs.length:Int):=by omega
    have gV:=ae.1;have eX:=hid (HZ.out.ext hx (by omega));clear hx pI tC ae pJ aS hJ HI;go_wp2_with fail;refine HJ.out.mono ?_;rintro e w3 ⟨v3,rfl,m3,x3⟩;obtain ⟨D0,dY,ed,D1,dZ,rfl,-⟩:=id m3.open_;have aQ:=eX.out.ext x3 (by omega);have iM:=hid (qf (q':=fun b=>w.heap.size<=b) ((HX.out.trans nZ.out).trans x3) (by omega) aQ m3 (fun b _ hb=>⟨by omega,by omega⟩));obtain ⟨⟨z0,z1,z2,z3⟩,zf⟩:=aQ;obtain ⟨X,hX⟩:=n_m (joinL f.lv xs);rw [hX] at iM ⊢;have oO:=hid hX;clear m3 x3 HJ hX b0 b1 b2 b3;unfold plV;go_wp2_with fail;obtain ⟨v9,e9,k3,k4⟩:=iM.out;injection e9 with e9
    subst e9;exact bodyPost_ret (v:=.tuple #[plV X (.slice D0 dY ed) (.slice D1 X.cs.length dZ),.bool true]) (by simp [results,Tryz.results167,go_sem,z0,z1,z2,z3,plV]) rfl (by rw [oO.out]; exact ⟨_,rfl,k3,k4⟩)
structure ExW (W : World) (R : Nat) (G Qs : List Pl) (n r : Nat) (wr : World) : Prop where
 ext:Ext W wr
 rows:∃ L M,ExI G Qs n r L/\QuI Qs r M/\xh wr (fun b=>b ≠ R+1) R L/\xh wr (fun b=>b ≠ R) (R+1) M
structure ExV (W : World) (R : Nat) (G Qs : List Pl) (n k j o : Nat) (wi : World) : Prop where
 ext:Ext W wi
 rows:∃ L M,ExJ G Qs n k j L/\QuI Qs k M/\xh wi (fun b=>b ≠ R+1) R L/\xh wi (fun b=>b ≠ R) (R+1) M
 lt:o < wi.heap.size
 box:∃ A0 n0 c0 A1 c1,jb wi o (Qs.getD k Pl.zero) (.slice A0 n0 c0) (.slice A1 (Qs.getD k Pl.zero).cs.length c1)/\PlV wi (fun b=>b ≠ R/\b ≠ R+1) (Qs.getD k Pl.zero) (plV (Qs.getD k Pl.zero) (.slice A0 n0 c0) (.slice A1 (Qs.getD k Pl.zero).cs.length c1))
theorem getD_get {L:List Pl} {i:Nat} (h:i < L.length):L.getD i Pl.zero=L[i]:=by rw [pr,po h]; rfl
theorem qcg {w : World} {q0 q1 : Nat -> Prop} {f g q : Pl} {Qs : List Pl} {n : Nat} {l : Int} {E D F Dg : Nat} (v0 v1 : Value) (h0 : PlV w q0 f v0) (h1 : PlV w q1 g v1) (hf : f.Can) (hl : 1 <= l) (ag : l <= 4) (kD : f.lv = l) (lK : g.lv = l) (hG : g.cs.length = n + 1) (hQ : Qs ≠ []) (fB : f.cs = uk Qs g.cs) (hq : joinL l Qs = q) (Ii : ∀ c ∈ g.cs, Fit c F Dg) (hfQ : ∀ c ∈ Qs, Fit c E D) (pV : Fit q E D) (uG : E + F <= 62) (hQl : Qs.length <= E + 1) (hGn : n <= F) (hD : D + Dg + E + 4 <= 1099511627776)
 (mF:Hid (∀ k,k < Qs.length->∀ W' v u q2 q3,Ext w W'->PlV W' q2 ((g.cs.getD n Pl.zero).mul (Qs.getD k Pl.zero)) v->PlV W' q3 (g.cs.getD n Pl.zero) u->Calls Tryz.prog 166 #[v,u] W' (yar (fun b=>W'.heap.size<=b) (Qs.getD k Pl.zero) true W'))) :
 Calls Tryz.prog 166 #[v0,v1] w (yar (fun b=>w.heap.size<=b) q true w):=by
 have H0:=hid h0;have H1:=hid h1;have qA:f.zp=false:=by
  cases e:f.zp
  · rfl
  · have h:=(Pl.xj hf).1 e;rw [h] at kD;have:Pl.zero.lv=0:=rfl;omega
 obtain ⟨N,hN⟩:=n_m (Qs.length);obtain ⟨NF,XL⟩:=n_m (f.cs.length);have hN0:0 < N:=by rw [<- hN]; exact rA.2 hQ
 have UG:NF=n+N:=by
  have h:=(ExI.start hG hQ).1;rw [<- fB,XL,hN] at h;exact h
 have kK:=hid (ExI.start hG hQ);rw [<- fB,hN] at kK;have HQ0:=hid (QuI.start Qs);rw [hN] at HQ0;obtain ⟨A0,n0,c0,A1,c1,rfl,Hm,bZ,dO,h4⟩:=h0.open_;obtain ⟨B0,m0,d0,B1,d1,rfl,Ce,eH,uF,g4⟩:=h1.open_;rw [XL] at bZ;rw [hG] at eH;obtain ⟨ad,-,-,-,-,-,-,rfl,ah,-⟩:=jd.ym g4 n (by omega);have Df:jd w (fun b=>b < w.heap.size) f.cs A1 0:=jd.xl (pj _) (fun _ _ h=>h) (fun b hb _=>⟨hb,rfl⟩) f.cs A1 0 h4;obtain ⟨Wa,Wb,W,vT,zI,hW,Oe,eU,JM,nO,fO,iR,aX,bF,iV⟩:=b_x w f g (.slice A0 n0 c0) (.slice A1 f.cs.length c1) (.slice B0 m0 d0) (.slice (some ad) g.cs.length d1);have HX:=hid ((eU.trans nO).trans iR);have HZ:=hid iV;have dJ:=hid aX;have dH:=hid bF;have fZ:=hid (kab _ (H0.out.ext HX.out) hf);rw [qA] at fZ;obtain ⟨b0,b1,b2,b3⟩:=aX;have Gl:=hid (And.intro kD lK);have qZ:=hid (And.intro UG (And.intro XL hG));have H4:=hid Df;have G4:=hid g4;have PM:=hid Ii;have qH:=hid hfQ;have Py:=hid pV;have HJQ:=hid hq;have DD:=hid hN;have hNb:N<=63:=by omega
 have aal:n<=62:=by omega
 have ajY:NF<=125:=by omega
 have hGA:=fun c hc=>(Ii c hc).can
 have hQA:=fun c hc=>(hfQ c hc).can
 have Vm:=hid (fun (k:Nat) (hk:k < Qs.length)=>xcl hG hk hQA hGA);have qG:=hid hG;unfold plV at fZ ⊢;clear h0 h1 eU nO iR iV bF hf Hm Ce qA kD lK h4 Df g4 Ii hfQ pV hq fB hN XL UG hG hGA hQA hQl hGn;have aiX:¬ l < l:=by omega
 have aiW:(l == 0)=false:=by simp; omega
 have aiV:¬ l=0:=by omega
 go_enter Tryz.func166,Tryz.ntmps166;go_wp2_with fail;clear vT zI hW b0 b1 b2 b3;refine fZ.out.mono ?_;rintro e w1 ⟨rfl,x1⟩;have bW:=x1.size;obtain ⟨R,hR⟩:=n_m (w1.heap.size);obtain ⟨V,dw,eQ,xG,nU⟩:=wa5 NF (by omega) w1;rw [hR] at dw xG nU;have EP:jd V (fun b=>b < w.heap.size) f.cs A1 0:=H4.out.ext ((HX.out.trans x1).trans eQ);obtain ⟨W2,TT,-,oW,Ij,-,dI⟩:=qba (q':=fun b=>b ≠ R+1) (dc:=NF) (sc:=c1) nU EP (fun b hb=>by have:=HX.out.size; constructor <;> omega) (by rw [qZ.out.2.1]; exact pj _) 3;rw [qZ.out.2.1,Ps,List.replicate_zero,si] at dI;rw [qZ.out.2.1] at TT;have aN:Ext W W2:=Ij W (x1.trans eQ) (by omega);obtain ⟨V3,Kr,LG,Uz,kQ⟩:=uw (N:Int) (by omega) (by omega) W2;rw [sT] at Kr kQ;have jG:W2.heap.size=R+1:=by omega
 rw [jG] at Kr Uz kQ;have dS:Hid (ExW W R g.cs Qs n N V3):=hid ⟨aN.trans LG,f.cs,List.replicate N Pl.zero,kK.out,HQ0.out,dI.ext LG,kQ _⟩;have Ux:Ext W V:=x1.trans eQ;obtain ⟨b0,b1,b2,b3⟩:=dJ.out.ext x1 (by omega);obtain ⟨g0,g1,g2,g3⟩:=dH.out.ext x1 (by omega);obtain ⟨k0,k1,k2,k3⟩:=dJ.out.ext Ux (by omega);obtain ⟨e0,e1,e2,e3⟩:=dJ.out.ext aN (by omega);rw [Gl.out.1] at b0;rw [Gl.out.2] at g0;rw [qZ.out.2.1] at b3 k3 e3;rw [qZ.out.2.2] at g3;have WR:IntKind.i64.wrap (((n+1:Nat):Int) - 1)=(n:Int):=by rw [rk]; omega
 have hwN:IntKind.i64.wrap ((NF:Int) - (n:Int))=(N:Int):=by have:=qZ.out.1; rw [rk]; omega
 have ah9:IntKind.i64.wrap ((N:Int) - 1)=(N:Int) - 1:=by rw [rk]; omega
 have aiI:¬ (NF:Int)<=(n:Int):=by have:=qZ.out.1; omega
 have eX:=hid (HZ.out.ext x1 (by omega));have HRB:=hid (And.intro bW hR.symm);have aba:(NF:Int)=((NF:Nat):Int):=rfl;clear x1 fZ nU EP oW Ij dI kQ eQ LG aN Ux hR kK HQ0 xG Uz jG aba
 go_wp2_with (at_builtin
              refine wpList_copy_run rfl (.tmp 67) (.tmp 69) _ _ rfl _ _ _ _ rfl rfl TT ?_)
 clear dw Kr TT b0 b1 b2 b3 g0 g1 g2 g3 k0 k1 k2 k3 e0 e1 e2 e3
 go_loopw [11] (fun iv wr=>∃ (c:Int) (r:Nat),c+1=(r:Int)/\r<=N/\iv=.int .i64 c/\Hid (ExW W R g.cs Qs n r wr)) (fun iv _=>(intOf iv+1).toNat)
 case atStart=>exact ⟨(N:Int) - 1,N,by omega,pj _,rfl,dS⟩
 case round =>
  obtain ⟨c,r,hcr,hrN,rfl,HI⟩:=hrel
  by_cases pF:0<=c
  · obtain ⟨k,rfl⟩:∃ k:Nat,c=(k:Int):=⟨c.toNat,by omega⟩;have JR:r=k+1:=by omega
    subst JR;have Hy:k < N:=by omega
    have SN:k < Qs.length:=by rw [DD.out]; exact Hy
    obtain ⟨nN,L,M,hL,hM,bK,iJ⟩:=HI.out;obtain ⟨M0,LW⟩:∃ M0,M0=n+k:=⟨_,rfl⟩;have LU:M0 < L.length:=by rw [hL.1,DD.out]; omega
    obtain ⟨C0,oL,oN,C1,uH,oM,CP,pq⟩:=bK.el M0 LU;have Ed:L[M0]=(g.cs.getD n Pl.zero).mul (Qs.getD k Pl.zero):=by
     rw [<- getD_get LU,hL.2 M0 (by omega),LW]; exact Vm.out k SN
    obtain ⟨a,ha⟩:=n_m (L[M0]);rw [ha] at CP pq Ed;have hnG:n < g.cs.length:=by rw [qG.out]; omega
    obtain ⟨ad',D0,j0,i0,D1,j1,i1,qW,-,jB,pg⟩:=jd.ym (G4.out.ext HX.out) n hnG;injection qW with qW
    subst qW;rw [<- getD_get hnG] at jB pg;obtain ⟨gn,Fp⟩:=n_m (g.cs.getD n Pl.zero);rw [Fp] at jB pg Ed;have gV:=bK.1;have UF:=iJ.1;have Aj:=hid (fun (W':World) (hx:Ext wr W')=>CP.ext gV hx);have YK:=hid (fun (W':World) (hx:Ext wr W')=>jB.ext (nN.trans hx) (by rw [ja]; have:=HX.out.size; omega));have HGB:Hid (∀ W',Ext wr W'->W'.cell? ⟨w.heap.size+1,3,none⟩=some (.slice (some ad) (n+1) d1)):=hid (fun W' hx=>by
     have:=(dH.out.ext (nN.trans hx) (by omega)).2.2.2;rw [qG.out] at this
     exact this)
    obtain ⟨y,hy⟩:=n_m (Qs.getD k Pl.zero);have HC:=hid (fun (W':World) (hx:Ext wr W')=>mF.out k SN W' _ _ _ _ ((HX.out.trans nN).trans hx) (by rw [Fp,<- Ed]; exact pq.ext hx) (by rw [Fp]; exact pg.ext (nN.trans hx)));rw [hy] at HC;have HY:=hid hy;have HHL:=hid hL;have HHM:=hid hM;have Jb:=hid bK;have Yw:=hid iJ;have nZ:=hid nN;have VP:=hid LW;have hwc:IntKind.i64.wrap ((n:Int)+(k:Int))=(M0:Int):=by rw [rk]; omega
    have hMN:(M0:Int) < (NF:Int):=by have:=qZ.out.1; omega
    have aiH:(n:Int) < (n:Int)+1:=by omega
    have ai8:(k:Int) < (N:Int):=by omega
    have OH:(0:Int)<=(k:Int):=by omega
    have YN:=hid (show Fit y E D by rw [<- hy]; exact qad qH.out k);have hWr:=nN.size;have MR:=hid gV;have MX:=hid UF;unfold plV at HC;clear nN hL hM bK iJ CP pq Ed ha jB pg Fp hy HI LW LU gV UF hWr dS;go_upto_region 19 with fail;have y0:Ext wr wr.drew:=(Ext.refl wr).drew;refine wp_region_held_drew (S:=fun W'=>Ext wr W') (by kernel_rfl) y0 (fun hHeld=>?_);refine tk 0 ?_;refine tk 1 ?_;refine tk 2 ?_;refine tk 3 ?_;refine tk 4 ?_;refine tk 5 ?_ (hy:=Or.inl ⟨by rfl,by intro w' aP; obtain ⟨k1,k2,k3,k4⟩:=Aj.out w' aP; go_simp; (try (with_reducible rfl))⟩);refine tk 6 ?_;refine tk 7 ?_ (hy:=Or.inl ⟨by rfl,by intro w' aP; have k1:=HGB.out w' aP; go_simp; (try (with_reducible rfl))⟩);refine tk 8 ?_;refine tk 9 ?_;refine tk 10 ?_ (hy:=Or.inl ⟨by rfl,by intro w' aP; obtain ⟨k1,k2,k3,k4⟩:=YK.out w' aP; go_simp; (try (with_reducible rfl))⟩);refine r_2 11 15 (fun K hK=>?brA) fun K hK=>?brB
    case' brA =>
     go_simp
     go_at_call 166
     refine (HC.out _ y0).mono ?_;rintro e w2 ⟨v2,rfl,p2,x2⟩;have y2:=y0.trans x2;obtain ⟨E0,en0,zW,E1,rG,rfl,-⟩:=id p2.open_;unfold plV;refine k_t hK y2 fun hHeld=>?_
     clear hK K;refine tk 12 ?_;refine tk 13 ?_;refine tk 14 ?_;refine r_1 15 fun K hK=>?_
     go_simp;obtain ⟨V,hV⟩:=n_m ((w2.alloc (.cells #[.int .i64 0,.bool false,.slice none 0 0,.slice none 0 0] 33)));obtain ⟨o,ho⟩:=n_m (w2.heap.size);have hz:PBx V (fun _=>True) o Pl.zero:=by rw [<- hV,<- ho]; exact PBx.new (Pl.xt _ _ none 0 (by omega)) _
     have yV:Ext wr V:=by rw [<- hV]; exact y2.alloc _
     have kT:wr.heap.size<=o:=by rw [<- ho]; exact y2.size
     have hov:o < V.heap.size:=hz.1;have Oi:=hid ho.symm;have mJ:Ext w2 V:=by rw [<- hV]; exact (Ext.refl _).alloc _
     try rw [hV]
     try rw [ho]
     refine k_t hK yV fun hHeld=>?_
     clear hK K hV ho;have yE:=yV;have kM:=hz;have nR:PlV V (fun b=>wr.heap.size<=b/\b ≠ o) y _:=(p2.xo.ext mJ).mono fun b hb=>by have:=hb.2; have:=Oi.out; have:=y0.size; constructor <;> omega
    case' brB =>
     go_simp;obtain ⟨V,hV⟩:=n_m ((wr.alloc (.cells #[.int .i64 0,.bool false,.slice none 0 0,.slice none 0 0] 33)).drew);obtain ⟨o,ho⟩:=n_m (wr.heap.size);have hz:PBx V (fun _=>True) o Pl.zero:=by rw [<- hV,<- ho]; exact (PBx.new (Pl.xt _ _ none 0 (by omega)) _).ext (Ext.refl _).drew
     have yV:Ext wr V:=by rw [<- hV]; exact ((Ext.refl wr).alloc _).drew
     have kT:wr.heap.size<=o:=by rw [<- ho]; exact (Ext.refl wr).size
     have hov:o < V.heap.size:=hz.1;have Oi:=hid ho.symm;have mJ:Ext wr V:=by rw [<- hV]; exact ((Ext.refl _).alloc _).drew
     try rw [hV]
     try rw [ho]
     refine k_t hK yV fun hHeld=>?_
     clear hK K hV ho;refine r_1 11 fun K hK=>?_
     go_simp
     go_at_call 166
     refine (HC.out _ yV).mono ?_;rintro e w2 ⟨v2,rfl,p2,x2⟩;have y2:=yV.trans x2;obtain ⟨E0,en0,zW,E1,rG,rfl,-⟩:=id p2.open_;unfold plV;refine k_t hK y2 fun hHeld=>?_
     clear hK K;refine tk 12 ?_;refine tk 13 ?_;refine tk 14 ?_;have yE:=y2;have kM:=hz.ext x2;have nR:PlV w2 (fun b=>wr.heap.size<=b/\b ≠ o) y _:=p2.mono fun b hb=>by have:=x2.size; have:=Oi.out; have:=yV.size; constructor <;> omega
    all_goals
     have jJ:=kM.2.1;obtain ⟨Z0,zn,zc,Z1,wH,⟨g0,g1,g2,g3⟩,-⟩:=kM.2.2;refine r_1 16 fun K hK=>?_
     go_simp;clear g0 g1 g2 g3 jJ;refine xu (P:=fun V7=>Ext wr V7/\PBx V7 (fun b=>wr.heap.size<=b) o y) ⟨(((yE.setCell kT _).setCell kT _).setCell kT _).setCell kT _,kM.store nR⟩ (fun V7 mf=>?_);obtain ⟨y9,b9⟩:=mf;refine k_t hK y9 fun hHeld=>?_
     clear hK K;refine tk 17 ?_;refine w_d ?_;obtain ⟨Xh,-,C9,n9,k9,D9,k8,Lp,p9⟩:=b9;have kL:=hid Lp;have HPX:=hid p9;have X9:=hid y9;clear hHeld kM nR yE Aj YK HGB HC hz yV mJ hov Oi;have Xe:=Yw.out.ext X9.out;have Ky:k < M.length:=by rw [HHM.out.1,DD.out]; exact Hy
     obtain ⟨P0,Jy,JA,P1,Jw,Jz,⟨u0,u1,u2,u3⟩,-⟩:=Xe.el k Ky;have pV:=Xe.2.1;have f0:=pV (k * 4);have f1:=pV (k * 4+1);have f2:=pV (k * 4+2);have f3:=pV (k * 4+3);obtain ⟨b0,b1,b2,b3⟩:=kL.out;obtain ⟨V8,qV⟩:=n_m (((((V7.setCell ⟨R+1,k * 4,none⟩ (.int .i64 y.lv)).setCell ⟨R+1,k * 4+1,none⟩ (.bool y.neg)).setCell ⟨R+1,k * 4+2,none⟩ (.slice C9 n9 k9)).setCell ⟨R+1,k * 4+3,none⟩ (.slice D9 y.cs.length k8)));obtain ⟨p1,p2,-,p4⟩:=Frr.put (w0:=W) (ws:=V7) (nZ.out.trans X9.out) (Frr.refl V7 (R+1)) Xe (by have:=HRB.out; omega) Ky (HPX.out.mono fun b hb=>⟨by have:=MR.out; omega,by have:=MX.out; omega⟩) qV.symm;have abx:V8.heap.size=V7.heap.size:=by rw [<- qV]; simp [World.setCell]
     have BZ:o ≠ R+1:=by have:=MX.out; omega
     have HEV:Hid (ExV W R g.cs Qs n k 0 o V8):=hid ⟨p1,⟨L,M.set k y,HHL.out.qbR,by rw [<- HY.out]; exact HHM.out.step SN,p2.row (Jb.out.ext X9.out) (by omega) (fun b hb=>hb),p4⟩,by omega,by
      rw [HY.out]
      exact ⟨C9,n9,k9,D9,k8,⟨(p2.cell Xh BZ).trans b0,(p2.cell Xh BZ).trans b1,(p2.cell Xh BZ).trans b2,(p2.cell Xh BZ).trans b3⟩,p2.pl (HPX.out.mono fun b hb=>⟨by have:=MR.out; omega,by have:=MX.out; omega⟩) fun b hb=>hb.2⟩⟩
     clear Xe pV p1 p2 p4 abx BZ;go_wp2_with fail;clear qV b0 b1 b2 b3 f0 f1 f2 f3 u0 u1 u2 u3
     go_loopw [107] (fun jv wi=>∃ j,j<=n/\jv=.int .i64 j/\Hid (ExV W R g.cs Qs n k j o wi)) (fun jv _=>n - (intOf jv).toNat)
     case atStart=>exact ⟨0,pS _,rfl,HEV⟩
     case round =>
      obtain ⟨wi,rfl⟩:∃ wi,wi=wr:=⟨wr,rfl⟩;obtain ⟨j,hj,rfl,HI⟩:=hrel
      by_cases Oy:j < n
      · obtain ⟨EG,⟨L',M',hJ,IC,bK,iJ⟩,hoi,E0,en0,zW,E1,rG,bV,GX⟩:=HI.out;rw [HY.out] at bV GX;obtain ⟨m,hm⟩:∃ m,m=j+k:=⟨_,rfl⟩;have Xk:m < L'.length:=by rw [hJ.1,DD.out]; omega
        obtain ⟨C0,oL,oN,C1,uH,oM,CP,pq⟩:=bK.el m Xk;have Ed:L'[m]=(xy g.cs Qs n (k+1)).getD m Pl.zero:=by rw [<- getD_get Xk,hm]; exact hJ.at_ Oy
        obtain ⟨a,ha⟩:=n_m (L'[m]);rw [ha] at CP pq Ed;have OE:Fit a (E+F) (D+Dg+N):=by rw [Ed,<- DD.out]; exact qad (qcl PM.out qH.out) m
        have hjG:j < g.cs.length:=by rw [qG.out]; omega
        obtain ⟨ad',G0,FQ,FU,G1,O4,FT,qW,-,jB,pg⟩:=jd.ym (G4.out.ext HX.out) j hjG;injection qW with qW
        subst qW;rw [<- getD_get hjG] at jB pg;obtain ⟨gj,Xr⟩:=n_m (g.cs.getD j Pl.zero);rw [Xr] at jB pg;have uD:Fit gj F Dg:=by rw [<- Xr]; exact qad PM.out j
        have gV:=bK.1;have BZ:o ≠ R:=by have:=MR.out; omega
        have Aj:=hid (fun (W':World) (hx:Ext wi W')=>CP.ext gV hx);have Dp:Hid (∀ W',Ext W W'->(zx W' (ad.add (j * 4)) gj (.slice G0 FQ FU) (.slice G1 O4 FT)/\W'.cell? ⟨w.heap.size+1,3,none⟩=some (.slice (some ad) (n+1) d1))):=hid (fun W' hx=>⟨jB.ext hx (by rw [ja]; have:=HX.out.size; omega),by
         have:=(dH.out.ext hx (by omega)).2.2.2;rw [qG.out] at this
         exact this⟩)
        have F5:Hid (∀ W',Ext wi W'->((zx W' (ad.add (j * 4)) gj (.slice G0 FQ FU) (.slice G1 O4 FT)/\W'.cell? ⟨w.heap.size+1,3,none⟩=some (.slice (some ad) (n+1) d1))/\jb W' o y (.slice E0 en0 zW) (.slice E1 y.cs.length rG))):=hid (fun W' hx=>⟨Dp.out _ (EG.trans hx),bV.ext hx hoi⟩)
        have kG:Hid (∀ V yy D0 dY ed D1 lh dZ,Ext wi V->PlV V (fun b=>wi.heap.size<=b) yy (plV yy (.slice D0 dY ed) (.slice D1 lh dZ))->yy=a.sub (y.mul gj)->∀ V8,V8=(((V.setCell ⟨R,m * 4,none⟩ (.int .i64 yy.lv)).setCell ⟨R,m * 4+1,none⟩ (.bool yy.neg)).setCell ⟨R,m * 4+2,none⟩ (.slice D0 dY ed)).setCell ⟨R,m * 4+3,none⟩ (.slice D1 lh dZ) ->
         ExV W R g.cs Qs n k (j+1) o V8/\((zx V8 (ad.add (j * 4)) gj (.slice G0 FQ FU) (.slice G1 O4 FT)/\V8.cell? ⟨w.heap.size+1,3,none⟩=some (.slice (some ad) (n+1) d1))/\jb V8 o y (.slice E0 en0 zW) (.slice E1 y.cs.length rG))):=hid (by
         intro V yy D0 dY ed D1 lh dZ dM hp hyy V8 qV;obtain ⟨p1,p2,-,p4⟩:=Frr.put (w0:=W) (ws:=V) (EG.trans dM) (Frr.refl V R) (bK.ext dM) (by have:=HRB.out; omega) Xk (hp.mono fun b hb=>⟨by have:=iJ.1; omega,by omega⟩) qV;have xG:=dM.size;have BX:o < V.heap.size:=by omega
         obtain ⟨b0,b1,b2,b3⟩:=bV.ext dM hoi;have Ud:jb V8 o y (.slice E0 en0 zW) (.slice E1 y.cs.length rG):=⟨(p2.cell BX BZ).trans b0,(p2.cell BX BZ).trans b1,(p2.cell BX BZ).trans b2,(p2.cell BX BZ).trans b3⟩;refine ⟨⟨p1,⟨L'.set m yy,M',?_,IC,p4,p2.row (iJ.ext dM) (by omega) (fun b hb=>hb)⟩,pw BX p2.size,?_⟩,Dp.out _ p1,Ud⟩
         · rw [hm] at Ed ⊢;exact hJ.step qG.out Oy SN (by rw [hyy,Ed,Xr,HY.out])
         · rw [HY.out]
           exact ⟨E0,en0,zW,E1,rG,Ud,p2.pl (GX.ext dM) fun b hb=>hb.1⟩)
        have Ad:=hid pq;have Gg:=hid (pg.ext EG);have F9:=hid GX;have Ah:=hid OE;have Nu:=hid uD;have mr:=hid gV;have lu:=hid bK.2.1;have Qr:IntKind.i64.wrap ((j:Int)+(k:Int))=(m:Int):=by rw [rk]; omega
        have hmN:(m:Int) < (NF:Int):=by have:=qZ.out.1; omega
        have aja:(j:Int) < (n:Int):=by omega
        have ai9:(j:Int) < (n:Int)+1:=by omega
        have Y0:Hid (Ext wi wi.drew):=hid (Ext.refl wi).drew;have hmb:m<=200:=by omega
        clear EG hJ IC bK iJ hoi bV GX hm Xk CP pq Ed ha OE hjG jB pg Xr uD gV BZ HI Dp;go_upto_region 26 with fail;refine wp_region_held_drew (S:=fun W'=>(zx W' (ad.add (j * 4)) gj (.slice G0 FQ FU) (.slice G1 O4 FT)/\W'.cell? ⟨w.heap.size+1,3,none⟩=some (.slice (some ad) (n+1) d1))/\jb W' o y (.slice E0 en0 zW) (.slice E1 y.cs.length rG)) (by kernel_rfl) (F5.out _ Y0.out) (fun hHeld=>?_);refine tk 0 ?_;refine tk 1 ?_;refine tk 2 ?_;refine tk 3 ?_;refine tk 4 ?_;refine tk 5 ?_;refine tk 6 ?_;refine tk 7 ?_;refine tk 8 ?_;refine tk 10 ?_ (hy:=Or.inl ⟨by rfl,by intro w' aP; obtain ⟨⟨⟨k1,k2,k3,k4⟩,k5⟩,k6,k7,k8,k9⟩:=aP; go_simp; (try (with_reducible rfl))⟩);refine tk 11 ?_;refine tk 12 ?_ (hy:=Or.inl ⟨by rfl,by intro w' aP; obtain ⟨⟨⟨k1,k2,k3,k4⟩,k5⟩,k6,k7,k8,k9⟩:=aP; go_simp; (try (with_reducible rfl))⟩);refine tk 13 ?_;refine tk 14 ?_;refine tk 15 ?_ (hy:=Or.inl ⟨by rfl,by intro w' aP; obtain ⟨⟨⟨k1,k2,k3,k4⟩,k5⟩,k6,k7,k8,k9⟩:=aP; go_simp; (try (with_reducible rfl))⟩);refine r_2 9 16 (fun K hK=>?ordA) fun K hK=>?ordB
        case ordA =>
         obtain ⟨e0,e1,e2,e3⟩:=Aj.out _ Y0.out;go_simp;refine k_t hK (F5.out _ Y0.out) fun hHeld=>?_
         clear hK K e0 e1 e2 e3;refine r_1 16 fun K hK=>?_
         go_simp
         go_at_call 15
         refine (jal _ _ (F9.out.ext Y0.out) (Gg.out.ext Y0.out) YN.out Nu.out (by omega) (by omega)).mono ?_;rintro e w3 ⟨v3,rfl,m3,x3⟩;obtain ⟨D2,dn2,dc2,D3,dc3,rfl,-⟩:=id m3.open_;have z3:Ext wi w3:=Y0.out.trans x3;refine k_t hK (F5.out _ z3) fun hHeld=>?_
         clear hK K;refine r_1 17 fun K hK=>?_
         try unfold plV
         go_simp
         go_at_call 14
         refine (vaq (D:=D+Dg+N) _ _ (Ad.out.ext z3) m3 Ah.out ((YN.out.mul Nu.out).mono (by omega) (by omega)) (by omega) (by omega)).mono ?_;rintro e w4 ⟨v4,rfl,m4,x4⟩;obtain ⟨D4,dn4,dc4,D5,dc5,rfl,-⟩:=id m4.open_;have z4:Ext wi w4:=z3.trans x4;refine k_t hK (F5.out _ z4) fun hHeld=>?_
         clear hK K;refine tk 18 ?_;have Ai:=hid (kG.out _ _ _ _ _ _ _ _ z4 (m4.mono fun b hb=>py z3.size hb) rfl);obtain ⟨s0,s1,s2,s3⟩:=Aj.out _ z4;have f0:=(z4.frozen (p:=⟨R,m * 4,none⟩) mr.out).trans (lu.out _);have f1:=(z4.frozen (p:=⟨R,m * 4+1,none⟩) mr.out).trans (lu.out _);have f2:=(z4.frozen (p:=⟨R,m * 4+2,none⟩) mr.out).trans (lu.out _);have f3:=(z4.frozen (p:=⟨R,m * 4+3,none⟩) mr.out).trans (lu.out _);clear kG m4 x4 m3 x3 z3;generalize a.add (y.mul gj).z8=yy at *;refine r_1 19 fun K hK=>?_
         unfold plV;go_simp;refine xu (P:=fun V8=>(ExV W R g.cs Qs n k (j+1) o V8/\((zx V8 (ad.add (j * 4)) gj (.slice G0 FQ FU) (.slice G1 O4 FT)/\V8.cell? ⟨w.heap.size+1,3,none⟩=some (.slice (some ad) (n+1) d1))/\jb V8 o y (.slice E0 en0 zW) (.slice E1 y.cs.length rG)))) (Ai.out _ rfl) (fun V8 qV=>?_);obtain ⟨h8,c8⟩:=qV;refine k_t hK c8 fun hHeld=>?_
         have Nc:=hid h8;clear hK K s0 s1 s2 s3 f0 f1 f2 f3 c8 h8 z4;refine w_d ?_;clear hHeld F9 Ad Gg F5 Aj Ai Y0;go_wp2_with fail
         go_roundw
         case rel=>exact ⟨j+1,by omega,by go_num,Nc⟩
         case measure=>simp only [intOf]; omega
        case ordB =>
         go_simp
         go_at_call 15
         refine (jal _ _ (F9.out.ext Y0.out) (Gg.out.ext Y0.out) YN.out Nu.out (by omega) (by omega)).mono ?_;rintro e w3 ⟨v3,rfl,m3,x3⟩;obtain ⟨D2,dn2,dc2,D3,dc3,rfl,-⟩:=id m3.open_;have z3:Ext wi w3:=Y0.out.trans x3;refine k_t hK (F5.out _ z3) fun hHeld=>?_
         clear hK K;refine r_1 9 fun K hK=>?_
         obtain ⟨e0,e1,e2,e3⟩:=Aj.out _ z3;go_simp;refine k_t hK (F5.out _ z3) fun hHeld=>?_
         clear hK K e0 e1 e2 e3;refine r_1 17 fun K hK=>?_
         try unfold plV
         go_simp
         go_at_call 14
         refine (vaq (D:=D+Dg+N) _ _ (Ad.out.ext z3) m3 Ah.out ((YN.out.mul Nu.out).mono (by omega) (by omega)) (by omega) (by omega)).mono ?_;rintro e w4 ⟨v4,rfl,m4,x4⟩;obtain ⟨D4,dn4,dc4,D5,dc5,rfl,-⟩:=id m4.open_;have z4:Ext wi w4:=z3.trans x4;refine k_t hK (F5.out _ z4) fun hHeld=>?_
         clear hK K;refine tk 18 ?_;have Ai:=hid (kG.out _ _ _ _ _ _ _ _ z4 (m4.mono fun b hb=>py z3.size hb) rfl);obtain ⟨s0,s1,s2,s3⟩:=Aj.out _ z4;have f0:=(z4.frozen (p:=⟨R,m * 4,none⟩) mr.out).trans (lu.out _);have f1:=(z4.frozen (p:=⟨R,m * 4+1,none⟩) mr.out).trans (lu.out _);have f2:=(z4.frozen (p:=⟨R,m * 4+2,none⟩) mr.out).trans (lu.out _);have f3:=(z4.frozen (p:=⟨R,m * 4+3,none⟩) mr.out).trans (lu.out _);clear kG m4 x4 m3 x3 z3;generalize a.add (y.mul gj).z8=yy at *;refine r_1 19 fun K hK=>?_
         unfold plV;go_simp;refine xu (P:=fun V8=>(ExV W R g.cs Qs n k (j+1) o V8/\((zx V8 (ad.add (j * 4)) gj (.slice G0 FQ FU) (.slice G1 O4 FT)/\V8.cell? ⟨w.heap.size+1,3,none⟩=some (.slice (some ad) (n+1) d1))/\jb V8 o y (.slice E0 en0 zW) (.slice E1 y.cs.length rG)))) (Ai.out _ rfl) (fun V8 qV=>?_);obtain ⟨h8,c8⟩:=qV;refine k_t hK c8 fun hHeld=>?_
         have Nc:=hid h8;clear hK K s0 s1 s2 s3 f0 f1 f2 f3 c8 h8 z4;refine w_d ?_;clear hHeld F9 Ad Gg F5 Aj Ai Y0;go_wp2_with fail
         go_roundw
         case rel=>exact ⟨j+1,by omega,by go_num,Nc⟩
         case measure=>simp only [intOf]; omega
      · have hje:j=n:=by omega
        have hjN:¬ (j:Int) < (n:Int):=by omega
        have HN:Hid (ExW W R g.cs Qs n k wi):=hid (by
         obtain ⟨EG,⟨L',M',hJ,IC,bK,iJ⟩,-⟩:=HI.out;rw [hje] at hJ
         exact ⟨EG,L',M',hJ.qbS qG.out SN,IC,bK,iJ⟩)
        have hwk:IntKind.i64.wrap ((k:Int) - 1)=(k:Int) - 1:=by rw [rk]; omega
        clear HI;go_wp2_with fail
        go_roundw
        case rel=>exact ⟨(k:Int) - 1,k,by omega,by omega,rfl,HN⟩
        case measure=>simp only [intOf]; omega
  · have hr0:r=0:=by omega
    subst hr0;have hcn:¬ (0:Int)<=c:=pF;obtain ⟨nN,L,M,hL,hM,bK,iJ⟩:=HI.out;have hLz:=hL.fin;have hMQ:=hM.fin;have EF:∀ c ∈ List.replicate n Pl.zero,Fit c 62 0:=fun c hc=>by rw [Sg hc]; exact Fit.zero
    have eG:(List.replicate n Pl.zero).length=n:=p8;have aiK:n<=NF:=by have:=qZ.out.1; omega
    have zS:=HRB.out;have VW:Hid (∀ W',Ext wr W'->Calls Tryz.prog 13 #[.slice (some ⟨R,0,none⟩) n NF,.int .i64 l] W' (uf (fun b=>W'.heap.size<=b) Pl.zero W')):=hid (fun W' hx=>by
     have h2:=((bK.take n).ext hx).fin (by omega);rw [hLz] at h2;have h3:=wal (l:=l) (c:=NF) hl ag h2 (by omega) (by omega) (xau EF (by omega) (by omega)) (by have:=qap EF; omega) (by rw [gbb hl ag]; exact (Fit.zero (E:=0) (D:=0)).copy_ (by omega));rw [eG,gbb hl ag] at h3
     exact h3)
    have xX:Hid (∀ W',Ext wr W'->Calls Tryz.prog 13 #[.slice (some ⟨R+1,0,none⟩) N N,.int .i64 l] W' (uf (fun b=>W'.heap.size<=b) q W')):=hid (fun W' hx=>by
     have h2:=(iJ.ext hx).fin (by omega);rw [hMQ] at h2;have h3:=wal (l:=l) (c:=N) hl ag h2 (by rw [DD.out]; exact pj _) (by omega) (xau (E:=62) (fun c hc=>(qH.out c hc).mono (by omega) (pj _)) (by rw [DD.out]; omega) (by omega)) (by have:=qap qH.out; omega) (by rw [HJQ.out]; exact Py.out.copy_ (by omega));rw [DD.out,HJQ.out] at h3
     exact h3)
    have HB:Hid (∀ W',Ext wr W'->W'.cell? ⟨w.heap.size,0,none⟩=some (.int .i64 l)):=hid (fun W' hx=>by
     have:=(dJ.out.ext (nN.trans hx) (by omega)).1;rw [Gl.out.1] at this
     exact this)
    have nZ:=hid nN;have Cc:(n:Int)<=(NF:Int):=by omega
    have acB:=hid (HX.out.trans nN);have HZr:=hid (HZ.out.ext nN (by omega));have hWr:=nN.size;clear nN hL hM bK iJ hLz hMQ EF eG zS HI mF Vm dS H4 G4;go_upto_region 28 with fail;have y0:Ext wr wr.drew:=(Ext.refl wr).drew;refine wp_region_held_drew (S:=fun W'=>Ext wr W') (by kernel_rfl) y0 (fun hHeld=>?_);refine tk 0 ?_;refine tk 1 ?_;refine tk 2 ?_;refine tk 3 ?_;refine tk 4 ?_ (hy:=Or.inl ⟨by rfl,by intro w' aP; have k1:=HB.out w' aP; go_simp; (try (with_reducible rfl))⟩);refine r_1 5 fun K hK=>?_
    go_simp
    go_at_call 13
    refine (VW.out _ y0).mono ?_;rintro e w2 ⟨v2,rfl,p2,x2⟩;have y2:=y0.trans x2;have iH:=kab _ p2 Pl.qS;rw [(Pl.xj Pl.qS).2 rfl] at iH;have DJ:=hid iH;obtain ⟨D0,dY,ed,D1,dZ,rfl,-⟩:=id p2.open_;unfold plV at DJ;refine k_t hK y2 fun hHeld=>?_
    clear hK K;refine r_1 6 fun K hK=>?_
    unfold plV;go_simp
    go_at_call 20
    refine DJ.out.mono ?_;rintro e w3 ⟨rfl,x3⟩;have y3:=y2.trans x3;refine k_t hK y3 fun hHeld=>?_
    clear hK K;refine tk 7 ?_;refine w_d ?_;have e0:=HB.out _ y3;have HJ:=hid (xX.out _ y3);have Z3:=hid (acB.out.trans y3);have Be:=hid (HZr.out.ext y3 (by omega));have DY:w.heap.size+1+1 < w3.heap.size:=by have:=y3.size; omega
    clear hHeld iH p2 x2 x3 y0 y2 y3 VW xX HB DJ;go_wp2_with fail;refine HJ.out.mono ?_;rintro e w7 ⟨v8,rfl,m2,x2⟩;obtain ⟨X0,xn0,xc0,X1,xc1,rfl,-⟩:=id m2.open_;have aQ:=Be.out.ext x2 DY;have iM:=hid (qf (q':=fun b=>w.heap.size<=b) (Z3.out.trans x2) (by omega) aQ m2 (fun b _ hb=>⟨by omega,by omega⟩));obtain ⟨⟨z0,z1,z2,z3⟩,zf⟩:=aQ;clear m2 x2 HJ e0;unfold plV;go_wp2_with fail;obtain ⟨v9,e9,k3,k4⟩:=iM.out;injection e9 with e9
    subst e9;exact bodyPost_ret (v:=.tuple #[plV q (.slice X0 xn0 xc0) (.slice X1 q.cs.length xc1),.bool true]) (by simp [results,Tryz.results166,go_sem,z0,z1,z2,z3,plV]) rfl ⟨_,rfl,k3,k4⟩
def jde (E D F Dg m:Nat):Prop:=∀ (g q:Pl),(g.mul q).lv < (m:Int)->Fit g F Dg->Fit q E D->g ≠ Pl.zero->∀ (w:World) (q0 q1:Nat->Prop) (v0 v1:Value),PlV w q0 (g.mul q) v0->PlV w q1 g v1->Calls Tryz.prog 166 #[v0,v1] w (yar (fun b=>w.heap.size<=b) q true w)
theorem mul_zero_r {g q:Pl} (h:q=Pl.zero):g.mul q=Pl.zero:=Pl.qz (Pl.q8 _ _) Pl.qS fun ρ=>by rw [Pl.qD,h,Pl.qu]; grind
theorem wc6 {g q:Pl} (hg:g.Can) (hq:q.Can) (h0:g ≠ Pl.zero) (h1:q ≠ Pl.zero):g.mul q ≠ Pl.zero:=fun e=>by
 rcases Pl.mul_zero hg hq (fun ρ=>by rw [<- Pl.qD,e,Pl.qu]) with e | e
 · exact h0 e
 · exact h1 e
theorem vc8 (z:Int):(Pl.const z).z=z:=by
 have:=gaf (zt z) rfl;have h1:=Pl.qT (fun _=>0) z;rw [this,Pl.qT] at h1
 exact_mod_cast h1
theorem yc0 {l:Int} (hl:1<=l) (ag:l<=4) {p:Pl} (h:p.Can) (hp:p.lv<=l):∀ c ∈ p.xi l,c.lv < l:=fun c hc=>by
 have h1:=Pl.qaF h c hc;have h2:=zbf (by omega) (kaq h c hc) (kaa hl ag h c hc);omega
theorem vcn {p:Pl} (h:p.Can) (hl:1<=p.lv):∀ c ∈ p.cs,c.lv < p.lv:=fun c hc=>by
 obtain ⟨lv,ng,ds,cs⟩:=p;exact ((h.kids hl).2.2.2.1.mem c hc).1
theorem qbz {E D F Dg : Nat} (uG : E + F <= 62) (hD : D + Dg + E + 4 <= 1099511627776) : ∀ m, jde E D F Dg m
 | 0=>fun g q h=>by have:=(Pl.q8 g q).qq; omega
 | m+1=>by
   have ih:=qbz uG hD m;intro g q af hg hq bI w q0 q1 v0 v1 h0 h1
   by_cases kH:q=Pl.zero
   · rw [mul_zero_r kH] at h0;have:=xcg v0 v1 h0 h1;rw [kH]; exact this
   have Ih:=Pl.q8 g q;have rE:=wc6 hg.can hq.can bI kH;have jQ:=Ih.qq;have Fp:=hg.can.qq;have hqn:=hq.can.qq;have lK:=ja7 hg.can hq.can bI kH;have aiv:q.lv<=(g.mul q).lv:=by rw [qav]; exact ja7 hq.can hg.can kH bI
   by_cases lV:(g.mul q).lv=0
   · have eg:=gaf hg.can (show g.lv=0 by omega);have eq:=gaf hq.can (show q.lv=0 by omega);have hz:(g.mul q).z=g.z * q.z:=by
      have h2:g.mul q=Pl.const (g.z * q.z):=by rw [<- Pl.Q6,<- eg,<- eq]
      rw [h2,vc8]
     have hfd:(g.mul q).ds.length<=D+Dg+3:=by have:=(hg.mul hq).dm; have:=Pl.vd (g.mul q); omega
     have jB:g.ds.length<=Dg:=by have:=hg.dm; have:=Pl.vd g; omega
     have yN:(dg q.z.natAbs).length<=35184372088832:=by
      have h3:=hq.dm;rw [eq] at h3;have:=Pl.vd (Pl.const q.z);have h4:(Pl.const q.z).ds=dg q.z.natAbs:=rfl;rw [h4] at this;omega
     have:=gb6 (z:=q.z) v0 v1 h0 h1 Ih hg.can rE bI lV (by omega) hz (Pl.qbP hg.can (by omega) bI) hfd jB (by omega) (by omega) yN;rw [<- eq] at this;exact this
   by_cases lI:g.lv < (g.mul q).lv
   · obtain ⟨e1,e2,e3⟩:=xc8 hg.can hq.can bI kH lI;have ZY:∀ c ∈ q.cs,Fit c E D:=fun c hc=>hq.cs hc
     have hlen:q.cs.length<=E+1:=by
      have h4:=jaq (l:=q.lv) (by omega) hq.can rfl;have h5:=uu (l:=q.lv) hq.can hq.ex;rw [h4.1] at h5;exact h5
     have kD:q.cs.length=(g.mul q).cs.length:=by rw [e2,px]
     refine qcp v0 v1 h0 h1 Ih rE lI (by omega) (hid fun W' hx=>?_);have:=vbm (xs:=q.cs) v0 v1 (h0.ext hx) (h1.ext hx) (by omega) jQ.2 kD (by omega) (hid (fun k hk lW W2 v aN hv=>by
      have ek:(g.mul q).cs[k]=g.mul q.cs[k]:=by
       have:(g.mul q).cs[k]=(q.cs.map fun c=>g.mul c)[k]'(by rw [px]; exact lW):=by congr 1
       rw [this,rK]
      have hkl:(g.mul q).cs[k].lv < (g.mul q).lv:=vcn Ih (by omega) _ (pt hk);rw [ek] at hv hkl
      exact ih g q.cs[k] (by omega) hg (ZY _ (pt lW)) bI W2 _ _ v v1 hv ((h1.ext hx).ext aN))) (xau ZY hlen (by omega)) (by have:=qap ZY; omega) (by rw [<- e1,e3]; exact hq.copy_ (by omega))
     rw [<- e1,e3] at this;exact this
   · obtain ⟨l,hl⟩:∃ l,g.lv=l:=⟨_,rfl⟩;have kD:(g.mul q).lv=l:=by omega
     obtain ⟨e1,e2,e3,e4,e5⟩:=vcz hg.can hq.can bI kH (by omega) (by omega);rw [hl] at e1 e2 e3;obtain ⟨n,hn⟩:∃ n,g.cs.length=n+1:=⟨g.cs.length - 1,by omega⟩;have sF:g.cs.length - 1=n:=by omega
     rw [sF] at e5;have Fq:∀ c ∈ g.cs,Fit c F Dg:=fun c hc=>hg.cs hc
     have hQf:=Pl.zP (l:=l) hq;have H9:=jaq (l:=l) (by omega) hg.can hl;have aaM:=uu (l:=l) hg.can hg.ex;rw [H9.1] at aaM;refine qcg v0 v1 h0 h1 Ih (by omega) (by omega) kD hl hn e2 e1 e3 Fq hQf hq uG (uu hq.can hq.ex) (by omega) hD (hid fun k hk W' v u q2 q3 hx hv hu=>?_);have KE:g.cs.getD n Pl.zero ∈ g.cs:=by rw [getD_get (by omega)]; exact pt _
     have ZU:(q.xi l).getD k Pl.zero ∈ q.xi l:=by rw [getD_get hk]; exact pt _
     have h6:=vcn hg.can (by omega) _ KE;have h7:=yc0 (by omega) (by omega) hq.can (by omega) _ ZU;have h8:=Pl.vR (n:=l - 1) (Fq _ KE).can (hQf _ ZU).can (by omega) (by omega) (by omega);exact ih _ _ (by omega) (Fq _ KE) (hQf _ ZU) e5 W' _ _ v u hv hu
theorem jcp {w:World} {q0 q1:Nat->Prop} {g q:Pl} {E D F Dg:Nat} (v0 v1:Value) (h0:PlV w q0 (g.mul q) v0) (h1:PlV w q1 g v1) (hg:Fit g F Dg) (hq:Fit q E D) (bI:g ≠ Pl.zero) (uG:E+F<=62) (hD:D+Dg+E+4<=1099511627776) :
 Calls Tryz.prog 166 #[v0,v1] w (yar (fun b=>w.heap.size<=b) q true w):=
 qbz uG hD 5 g q (by have:=(Pl.q8 g q).qq; omega) hg hq bI w q0 q1 v0 v1 h0 h1
end Go.Proofs.YtcepajijiabkmaaGreat
