/- Layer 24: pseudo.exact where it divides. -/
import Derived.Test.YtcepajijiabkmaaGreatMo39
set_option linter.all false
set_option maxRecDepth 100000
set_option maxHeartbeats 8000000
namespace Go.Proofs.YtcepajijiabkmaaGreat
open Lib (hid)
open Go.RowKit
def qas (q:Nat->Prop) (p:Pl) (b:Bool) (w:World) (e:Ending) (w':World):Prop:=∃ v,e=.returned (.tuple #[v,.bool b])/\PlV w' q p v/\Ext w w'
theorem gck {w:World} {q0 q1:Nat->Prop} {g:Pl} (v0 v1:Value) (h0:PlV w q0 Pl.zero v0) (h1:PlV w q1 g v1) :
 Calls Tryz.prog 166 #[v0,v1] w (qas (fun b=>w.heap.size<=b) Pl.zero true w):=by
 have H0:=hid h0;obtain ⟨A0,n0,c0,A1,c1,rfl,-⟩:=h0.open_;obtain ⟨B0,m0,d0,B1,d1,rfl,-⟩:=h1.open_;obtain ⟨Wa,vO⟩:=n_m ((w.alloc (.cells #[.int .i64 Pl.zero.lv,.bool Pl.zero.neg,.slice A0 n0 c0,.slice A1 Pl.zero.cs.length c1] 33)));obtain ⟨Wb,zF⟩:=n_m ((Wa.alloc (.cells #[.int .i64 g.lv,.bool g.neg,.slice B0 m0 d0,.slice B1 g.cs.length d1] 33)));obtain ⟨W,hW⟩:=n_m ((Wb.alloc (.cells #[.int .i64 0,.bool false,.slice none 0 0,.slice none 0 0] 33)));have Ol:Wa.heap.size=w.heap.size+1:=by rw [<- vO]; simp
 have JV:Wb.heap.size=w.heap.size+1+1:=by rw [<- zF,<- Ol]; simp
 have fZ:W.heap.size=w.heap.size+1+1+1:=by rw [<- hW,<- JV]; simp
 have eU:Ext w Wa:=by rw [<- vO]; exact (Ext.refl w).alloc _
 have nP:Ext Wa Wb:=by rw [<- zF]; exact (Ext.refl Wa).alloc _
 have iR:Ext Wb W:=by rw [<- hW]; exact (Ext.refl Wb).alloc _
 have aX:jb W w.heap.size Pl.zero (.slice A0 n0 c0) (.slice A1 Pl.zero.cs.length c1):=by
  have:jb Wa w.heap.size Pl.zero (.slice A0 n0 c0) (.slice A1 Pl.zero.cs.length c1):=by rw [<- vO]; exact jb.new w _ _ _ _
  exact this.ext (nP.trans iR) (by omega)
 have hz:jf W (w.heap.size+1+1):=by
  have:jf W Wb.heap.size:=by rw [<- hW]; exact jf.new Wb _
  rw [JV] at this;exact this
 have HX:=hid ((eU.trans nP).trans iR);have HZ:=hid hz;have gJ:=hid (kac _ (H0.out.ext HX.out) Pl.qT);rw [(Pl.xj Pl.qT).2 rfl] at gJ;obtain ⟨b0,b1,b2,b3⟩:=aX;generalize hp:Pl.zero=p at H0 gJ vO b0 b1 b2 b3 ⊢;have HP:=hid hp;unfold plV at gJ ⊢;clear h0 h1 eU nP iR hz hp;go_enter paA,pao;go_wp2_with fail;clear vO zF hW b0 b1 b2 b3;refine gJ.out.mono ?_;rintro e w1 ⟨rfl,x1⟩;have aS:=HZ.out.ext x1 (by omega);have bW:=x1.size;have iw:=hid (qf (p:=Pl.zero) (q:=fun _=>False) (q':=fun b=>w.heap.size<=b) (HX.out.trans x1) (by omega) aS (Pl.xt w1 _ none 0 (by omega)) (fun b _ hb=>hb.elim));obtain ⟨⟨z0,z1,z2,z3⟩,zf⟩:=aS;clear x1 gJ;go_wp2_with fail;obtain ⟨v9,e9,k3,k4⟩:=iw.out;injection e9 with e9
 subst e9;exact bodyPost_ret (v:=.tuple #[plV Pl.zero (.slice none 0 0) (.slice none 0 0),.bool true]) (by simp [results,Wg,go_sem,z0,z1,z2,z3,plV,Pl.zero,Pl.lv,Pl.neg,Pl.cs]) rfl (by rw [<- HP.out]; exact ⟨_,rfl,k3,k4⟩)
theorem wca {w:World} {q0 q1:Nat->Prop} {f g:Pl} {z:Int} {D Dg:Nat} (v0 v1:Value) (h0:PlV w q0 f v0) (h1:PlV w q1 g v1) (hf:f.Can) (hg:g.Can) (rC:f ≠ Pl.zero) (bI:g ≠ Pl.zero) (jX:f.lv=0) (lL:g.lv=0) (hz:f.z=g.z * z) (Zt:g.z ≠ 0) (hD:f.ds.length<=D) (O4:g.ds.length<=Dg) (MF:D<=1099511627776) (CZ:Dg<=1099511627776) (Aw:(dg z.natAbs).length<=35184372088832) :
 Calls Tryz.prog 166 #[v0,v1] w (qas (fun b=>w.heap.size<=b) (Pl.const z) true w):=by
 have H0:=hid h0;have H1:=hid h1;have qB:f.zp=false:=by
  cases e:f.zp
  · rfl
  · exact absurd ((Pl.xj hf).1 e) rC
 obtain ⟨A0,n0,c0,A1,c1,rfl,Hy,-⟩:=h0.open_;obtain ⟨B0,m0,d0,B1,d1,rfl,Ce,-⟩:=h1.open_;obtain ⟨Wa,Wb,W,vO,zF,hW,Ol,eU,JV,nP,fZ,iR,aX,bF,iV⟩:=b_x w f g (.slice A0 n0 c0) (.slice A1 f.cs.length c1) (.slice B0 m0 d0) (.slice B1 g.cs.length d1);have HX:=hid ((eU.trans nP).trans iR);have HZ:=hid iV;have dJ:=hid aX;have dH:=hid bF;have gJ:=hid (kac _ (H0.out.ext HX.out) hf);rw [qB] at gJ;have mJ:=hid (fun (W':World) (hx:Ext w W')=>ubs (.agg #[.bool f.neg,.slice A0 n0 c0]) (.agg #[.bool g.neg,.slice B0 m0 d0]) f.z g.z D Dg W' ⟨_,_,_,rfl,Hy.ext hx,rfl,hD⟩ ⟨_,_,_,rfl,Ce.ext hx,rfl,O4⟩ (by omega) (by omega) Zt);rw [show f.z.tdiv g.z=z by rw [hz]; exact Up z Zt,show f.z.tmod g.z=0 by rw [hz]; exact Int.mul_tmod_right g.z z] at mJ;obtain ⟨b0,b1,b2,b3⟩:=aX;have Yn:=hid Aw;have HL:=hid (And.intro jX lL);unfold plV at gJ ⊢;clear h0 h1 eU nP iR iV bF hf hg rC bI hz Zt Hy Ce qB Aw jX lL;go_enter paA,pao;go_wp2_with fail;clear vO zF hW b0 b1 b2 b3;refine gJ.out.mono ?_;rintro e w1 ⟨rfl,x1⟩;obtain ⟨b0,b1,b2,b3⟩:=dJ.out.ext x1 (by omega);obtain ⟨g0,g1,g2,g3⟩:=dH.out.ext x1 (by omega);rw [HL.out.1] at b0;rw [HL.out.2] at g0;have X1:=hid (HX.out.trans x1);have eY:=hid (HZ.out.ext x1 (by omega));have bW:=x1.size;clear x1 gJ;go_wp2_with fail;clear b0 b1 b2 b3 g0 g1 g2 g3;refine (mJ.out _ X1.out).mono ?_;rintro e w2 ⟨z1,rfl,m1,x2⟩;rw [if_pos rfl] at m1;rw [if_pos rfl];obtain ⟨s1,rfl,m2⟩:=m1;obtain ⟨C1,k1,rfl,-⟩:=id m2;have HM:=hid m2;have HC:=hid (vak (L:=35184372088832) (.agg #[.bool (decide (z < 0)),.slice C1 (dg z.natAbs).length k1]) (wak (m2.ext ((Ext.refl w2).alloc (.cells #[.bool (decide (z < 0)),.slice C1 (dg z.natAbs).length k1] 30))) Yn.out) (pj _));have X2:=hid (X1.out.trans x2);have og:=hid (eY.out.ext x2 (by omega));have jF:=x2.size;clear m2 x2 mJ;go_wp2_with fail;refine HC.out.mono ?_;rintro e w3 ⟨v3,rfl,m3,x3⟩;obtain ⟨D0,dX,dZ,D1,dY,rfl,-⟩:=id m3.open_;have x4:Ext w2 w3:=((Ext.refl w2).alloc _).trans x3;have aS:=og.out.ext x4 (by omega);have iw:=hid (qf (q':=fun b=>w.heap.size<=b) (X2.out.trans x4) (by omega) aS m3 (fun b _ hb=>by
  have eP:=hb;simp at eP
  exact ⟨by omega,by omega⟩))
 obtain ⟨⟨z0,z1,z2,z3⟩,zf⟩:=aS;obtain ⟨X,hX⟩:=n_m (Pl.const z);rw [hX] at iw ⊢;have oP:=hid hX;clear m3 x3 x4 HC hX;unfold plV;go_wp2_with fail;obtain ⟨v9,e9,k3,k4⟩:=iw.out;injection e9 with e9
 subst e9;exact bodyPost_ret (v:=.tuple #[plV X (.slice D0 dX dZ) (.slice D1 X.cs.length dY),.bool true]) (by simp [results,Wg,go_sem,z0,z1,z2,z3,plV]) rfl (by rw [oP.out]; exact ⟨_,rfl,k3,k4⟩)
theorem jcu {w:World} {q0 q1:Nat->Prop} {f g:Pl} {x:Pl} (v0 v1:Value) (h0:PlV w q0 f v0) (h1:PlV w q1 g v1) (hf:f.Can) (rC:f ≠ Pl.zero) (af:g.lv < f.lv) (RU:0 < f.lv) (PP:Hid (∀ W',Ext w W'->Calls Tryz.prog 167 #[v0,v1] W' (qas (fun b=>W'.heap.size<=b) x true W'))) :
 Calls Tryz.prog 166 #[v0,v1] w (qas (fun b=>w.heap.size<=b) x true w):=by
 have H0:=hid h0;have H1:=hid h1;have qB:f.zp=false:=by
  cases e:f.zp
  · rfl
  · exact absurd ((Pl.xj hf).1 e) rC
 obtain ⟨A0,n0,c0,A1,c1,rfl,Hy,-⟩:=h0.open_;obtain ⟨B0,m0,d0,B1,d1,rfl,Ce,-⟩:=h1.open_;obtain ⟨Wa,Wb,W,vO,zF,hW,Ol,eU,JV,nP,fZ,iR,aX,bF,iV⟩:=b_x w f g (.slice A0 n0 c0) (.slice A1 f.cs.length c1) (.slice B0 m0 d0) (.slice B1 g.cs.length d1);have HX:=hid ((eU.trans nP).trans iR);have HZ:=hid iV;have dJ:=hid aX;have dH:=hid bF;have gJ:=hid (kac _ (H0.out.ext HX.out) hf);rw [qB] at gJ;obtain ⟨b0,b1,b2,b3⟩:=aX;have kG:=hid (And.intro af RU);unfold plV at gJ PP ⊢;clear h0 h1 eU nP iR iV bF hf rC Hy Ce qB af RU;go_enter paA,pao;go_wp2_with fail;clear vO zF hW b0 b1 b2 b3;refine gJ.out.mono ?_;rintro e w1 ⟨rfl,x1⟩;obtain ⟨b0,b1,b2,b3⟩:=dJ.out.ext x1 (by omega);obtain ⟨g0,g1,g2,g3⟩:=dH.out.ext x1 (by omega);have e1:¬ f.lv < g.lv:=by have:=kG.out; omega
 have e2:(f.lv == 0)=false:=by have:=kG.out; simp; omega
 have e3:¬ f.lv=0:=by have:=kG.out; omega
 have e4:g.lv < f.lv:=kG.out.1;have X1:=hid (HX.out.trans x1);have eY:=hid (HZ.out.ext x1 (by omega));have bW:=x1.size;clear x1 gJ;go_wp2_with fail;clear b0 b1 b2 b3 g0 g1 g2 g3;refine (PP.out _ X1.out).mono ?_;rintro e w3 ⟨v3,rfl,m3,x3⟩;obtain ⟨D0,dX,dZ,D1,dY,rfl,-⟩:=id m3.open_;have aS:=eY.out.ext x3 (by omega);have iw:=hid (qf (q':=fun b=>w.heap.size<=b) (X1.out.trans x3) (by omega) aS m3 (fun b _ hb=>⟨by omega,by omega⟩));obtain ⟨⟨z0,z1,z2,z3⟩,zf⟩:=aS;clear m3 x3 PP;unfold plV;go_wp2_with fail;obtain ⟨v9,e9,k3,k4⟩:=iw.out;injection e9 with e9
 subst e9;exact bodyPost_ret (v:=.tuple #[plV x (.slice D0 dX dZ) (.slice D1 x.cs.length dY),.bool true]) (by simp [results,Wg,go_sem,z0,z1,z2,z3,plV]) rfl ⟨_,rfl,k3,k4⟩
theorem kbp {w:World} {q0 q1:Nat->Prop} {f g:Pl} {xs:List Pl} (v0 v1:Value) (h0:PlV w q0 f v0) (h1:PlV w q1 g v1) (hl:1<=f.lv) (ag:f.lv<=4) (wI:xs.length=f.cs.length) (hm:f.cs.length<=1000000) (PP:Hid (∀ k (hk:k < f.cs.length) (lX:k < xs.length) W' v,Ext w W'->PlV W' q0 f.cs[k] v->Calls Tryz.prog 166 #[v,v1] W' (qas (fun b=>W'.heap.size<=b) xs[k] true W'))) (hsz:vk xs<=1073741823) (ig:jy xs<=1099511627776) (uZ:(joinL f.lv xs).sz<=1099511627776) :
 Calls Tryz.prog 167 #[v0,v1] w (qas (fun b=>w.heap.size<=b) (joinL f.lv xs) true w):=by
 have H0:=hid h0;have H1:=hid h1;obtain ⟨A0,n0,c0,A1,c1,rfl,Hy,bY,dP,h4⟩:=h0.open_;obtain ⟨B0,m0,d0,B1,d1,rfl,Ce,-⟩:=h1.open_;obtain ⟨Wa,Wb,W,vO,zF,hW,Ol,eU,JV,nP,fZ,iR,aX,bF,iV⟩:=b_x w f g (.slice A0 n0 c0) (.slice A1 f.cs.length c1) (.slice B0 m0 d0) (.slice B1 g.cs.length d1);have HX:=hid ((eU.trans nP).trans iR);have HZ:=hid iV;have dJ:=hid aX;have dH:=hid bF;obtain ⟨V,dA,eQ,xB,ae⟩:=xy (f.cs.length:Int) (by omega) (by omega) W;rw [sX] at dA ae;have aQ:=hid (ae (fun b=>w.heap.size+1+1+1<=b));rw [fZ] at dA aQ;obtain ⟨b0,b1,b2,b3⟩:=id aX;obtain ⟨e0,e1,e2,e3⟩:=aX.ext eQ (by omega);have lM:=hid eQ;have H4:=hid h4;have Yp:=hid wI;unfold plV at PP ⊢;have jC:=hid (And.intro hsz (And.intro ig uZ));clear h0 h1 eU nP iR iV aX bF Hy Ce eQ ae h4 wI hsz ig uZ;go_enter Tryz.func167,Tryz.ntmps167;go_wp2_with fail;clear vO zF hW dA b0 b1 b2 b3 e0 e1 e2 e3
 go_loopw [18] (fun iv wr=>∃ k:Nat,k<=f.cs.length/\iv=.int .i64 k/\Hid (Ext W wr/\∃ L:List Pl,L.length=f.cs.length/\L.take k=xs.take k/\jh wr (fun b=>w.heap.size+1+1+1<=b) (w.heap.size+1+1+1) L)) (fun iv _=>f.cs.length - (intOf iv).toNat)
 case atStart=>exact ⟨0,pZ _,rfl,hid ⟨lM.out,_,ra,by simp,aQ.out⟩⟩
 case round =>
  obtain ⟨k,hk,rfl,HI⟩:=hrel
  by_cases af:k < f.cs.length
  · obtain ⟨hx,L,pJ,tH,ae⟩:=HI.out;have AQ:k < xs.length:=by rw [Yp.out]; exact af
    obtain ⟨ad,C0,j0,i0,C1,j1,i1,rfl,ah,bP,bu⟩:=jd.ym H4.out k af;obtain ⟨a0,a1,a2,a3⟩:=bP.ext (HX.out.trans hx) (by rw [ja]; exact ah);obtain ⟨g0,g1,g2,g3⟩:=dH.out.ext hx (by omega);have HC:=hid (fun (W':World) (hy:Ext wr W')=>PP.out k af AQ W' _ ((HX.out.trans hx).trans hy) (bu.ext ((HX.out.trans hx).trans hy)));have dU:Hid ((L.set k xs[k]).take (k+1)=xs.take (k+1)):=hid (uae L xs k tH (by omega) AQ);have aB:=hid ae;have oh:=hid hx;have Nu:=hid pJ;have gZ:=ae.1;have afW:w.heap.size+1 < wr.heap.size:=by omega
    generalize f.cs[k]=ck at *;generalize xs[k]=xk at *;unfold plV at HC;clear hx pJ tH ae bP bu ah HI;go_wp2_with fail;clear a0 a1 a2 a3 g0 g1 g2 g3;refine (HC.out _ ((Ext.refl _).alloc _)).mono ?_;rintro e w2 ⟨v2,rfl,p2,x2⟩;obtain ⟨D0,dX,dZ,D1,dY,rfl,-⟩:=id p2.open_;have JB:Ext wr w2:=((Ext.refl wr).alloc _).trans x2;obtain ⟨V9,qE⟩:=n_m (w2.alloc (.cells #[.int .i64 xk.lv,.bool xk.neg,.slice D0 dX dZ,.slice D1 xk.cs.length dY] 33));have x9:Ext w2 V9:=by rw [<- qE]; exact (Ext.refl w2).alloc _
    have LG:jb V9 w2.heap.size xk (.slice D0 dX dZ) (.slice D1 xk.cs.length dY):=by rw [<- qE]; exact jb.new w2 xk _ _ _
    have Xb:=aB.out.ext (JB.trans x9);obtain ⟨E0,n2,t0,E1,n3,t1,⟨r0,r1,r2,r3⟩,-⟩:=Xb.2.2 k (by rw [Nu.out]; exact af);have bG:=Xb.2.1;have f0:=bG (k * 4);have f1:=bG (k * 4+1);have f2:=bG (k * 4+2);have f3:=bG (k * 4+3);have dV:=(Xb.xD k (by rw [Nu.out]; exact af) xk ((p2.ext x9).mono fun b hb=>by
     have eP:=hb;simp at eP
     exact ⟨by omega,by omega⟩)).1
    simp only at r0 r1 r2 r3;have dS:=hid dV;have X9:=hid (oh.out.trans (JB.trans x9));have hkl:(k:Int) < (f.cs.length:Int):=by omega
    obtain ⟨b0,b1,b2,b3⟩:=LG;unfold plV;clear Xb dV p2 x2 JB x9 HC aB bG;go_wp2_with fail;clear qE b0 b1 b2 b3 r0 r1 r2 r3 f0 f1 f2 f3;have Js:Hid (Ext W ((((V9.setCell ⟨w.heap.size+1+1+1,k * 4,none⟩ (.int .i64 xk.lv)).setCell ⟨w.heap.size+1+1+1,k * 4+1,none⟩ (.bool xk.neg)).setCell ⟨w.heap.size+1+1+1,k * 4+2,none⟩ (.slice D0 dX dZ)).setCell ⟨w.heap.size+1+1+1,k * 4+3,none⟩ (.slice D1 xk.cs.length dY))/\∃ L:List Pl,L.length=f.cs.length/\L.take (k+1)=xs.take (k+1)/\jh ((((V9.setCell ⟨w.heap.size+1+1+1,k * 4,none⟩ (.int .i64 xk.lv)).setCell ⟨w.heap.size+1+1+1,k * 4+1,none⟩ (.bool xk.neg)).setCell ⟨w.heap.size+1+1+1,k * 4+2,none⟩ (.slice D0 dX dZ)).setCell ⟨w.heap.size+1+1+1,k * 4+3,none⟩ (.slice D1 xk.cs.length dY)) (fun b=>w.heap.size+1+1+1<=b) (w.heap.size+1+1+1) L):=by
     have XG:W.heap.size<=w.heap.size+1+1+1:=by omega
     exact hid ⟨(((X9.out.setCell XG _).setCell XG _).setCell XG _).setCell XG _,L.set k xk,by rw [pL]; exact Nu.out,dU.out,dS.out⟩
    go_roundw
    case rel=>exact ⟨k+1,by omega,by go_num,Js⟩
    case measure=>simp only [intOf]; omega
  · obtain ⟨hx,L,pJ,tH,ae⟩:=HI.out;have dh:k=f.cs.length:=by omega
    have pK:L=xs:=by
     have h:=tH;rw [dh,p8 (by omega),p8 (by rw [Yp.out]; omega)] at h;exact h
    have aT:=ae.fin (pj _);rw [pK] at aT;have hJ:=zan (c:=f.cs.length) hl ag aT (by rw [Yp.out]; exact pj _) (by omega) jC.out.1 jC.out.2.1 jC.out.2.2;rw [Yp.out] at hJ;have HJ:=hid hJ;obtain ⟨b0,b1,b2,b3⟩:=dJ.out.ext hx (by omega);have oh:=hid hx;have H6:¬ (k:Int) < (f.cs.length:Int):=by omega
    have gZ:=ae.1;have eY:=hid (HZ.out.ext hx (by omega));clear hx pJ tH ae pK aT hJ HI;go_wp2_with fail;refine HJ.out.mono ?_;rintro e w3 ⟨v3,rfl,m3,x3⟩;obtain ⟨D0,dX,dZ,D1,dY,rfl,-⟩:=id m3.open_;have aS:=eY.out.ext x3 (by omega);have iw:=hid (qf (q':=fun b=>w.heap.size<=b) ((HX.out.trans oh.out).trans x3) (by omega) aS m3 (fun b _ hb=>⟨by omega,by omega⟩));obtain ⟨⟨z0,z1,z2,z3⟩,zf⟩:=aS;obtain ⟨X,hX⟩:=n_m (joinL f.lv xs);rw [hX] at iw ⊢;have oP:=hid hX;clear m3 x3 HJ hX b0 b1 b2 b3;unfold plV;go_wp2_with fail;obtain ⟨v9,e9,k3,k4⟩:=iw.out;injection e9 with e9
    subst e9;exact bodyPost_ret (v:=.tuple #[plV X (.slice D0 dX dZ) (.slice D1 X.cs.length dY),.bool true]) (by simp [results,Tryz.results167,go_sem,z0,z1,z2,z3,plV]) rfl (by rw [oP.out]; exact ⟨_,rfl,k3,k4⟩)
structure ExW (W : World) (R : Nat) (G Qs : List Pl) (n r : Nat) (wr : World) : Prop where
 ext:Ext W wr
 rows:∃ L M,ExI G Qs n r L/\QuI Qs r M/\jh wr (fun b=>b ≠ R+1) R L/\jh wr (fun b=>b ≠ R) (R+1) M
structure ExV (W : World) (R : Nat) (G Qs : List Pl) (n k j o : Nat) (wi : World) : Prop where
 ext:Ext W wi
 rows:∃ L M,ExJ G Qs n k j L/\QuI Qs k M/\jh wi (fun b=>b ≠ R+1) R L/\jh wi (fun b=>b ≠ R) (R+1) M
 lt:o < wi.heap.size
 box:∃ A0 n0 c0 A1 c1,jb wi o (Qs.getD k Pl.zero) (.slice A0 n0 c0) (.slice A1 (Qs.getD k Pl.zero).cs.length c1)/\PlV wi (fun b=>b ≠ R/\b ≠ R+1) (Qs.getD k Pl.zero) (plV (Qs.getD k Pl.zero) (.slice A0 n0 c0) (.slice A1 (Qs.getD k Pl.zero).cs.length c1))
theorem getD_get {L:List Pl} {i:Nat} (h:i < L.length):L.getD i Pl.zero=L[i]:=by rw [po,pr h]; rfl
theorem wck {w : World} {q0 q1 : Nat -> Prop} {f g q : Pl} {Qs : List Pl} {n : Nat} {l : Int} {E D F Dg : Nat} (v0 v1 : Value) (h0 : PlV w q0 f v0) (h1 : PlV w q1 g v1) (hf : f.Can) (hl : 1 <= l) (ag : l <= 4) (jX : f.lv = l) (lL : g.lv = l) (hG : g.cs.length = n + 1) (hQ : Qs ≠ []) (fD : f.cs = uk Qs g.cs) (hq : joinL l Qs = q) (Ir : ∀ c ∈ g.cs, Fit c F Dg) (hfQ : ∀ c ∈ Qs, Fit c E D) (pW : Fit q E D) (uF : E + F <= 62) (hQl : Qs.length <= E + 1) (hGn : n <= F) (hD : D + Dg + E + 4 <= 1099511627776)
 (mJ:Hid (∀ k,k < Qs.length->∀ W' v u q2 q3,Ext w W'->PlV W' q2 ((g.cs.getD n Pl.zero).mul (Qs.getD k Pl.zero)) v->PlV W' q3 (g.cs.getD n Pl.zero) u->Calls Tryz.prog 166 #[v,u] W' (qas (fun b=>W'.heap.size<=b) (Qs.getD k Pl.zero) true W'))) :
 Calls Tryz.prog 166 #[v0,v1] w (qas (fun b=>w.heap.size<=b) q true w):=by
 have H0:=hid h0;have H1:=hid h1;have qB:f.zp=false:=by
  cases e:f.zp
  · rfl
  · have h:=(Pl.xj hf).1 e;rw [h] at jX;have:Pl.zero.lv=0:=rfl;omega
 obtain ⟨N,hN⟩:=n_m (Qs.length);obtain ⟨NF,XN⟩:=n_m (f.cs.length);have hN0:0 < N:=by rw [<- hN]; exact rA.2 hQ
 have UG:NF=n+N:=by
  have h:=(ExI.start hG hQ).1;rw [<- fD,XN,hN] at h;exact h
 have kH:=hid (ExI.start hG hQ);rw [<- fD,hN] at kH;have HQ0:=hid (QuI.start Qs);rw [hN] at HQ0;obtain ⟨A0,n0,c0,A1,c1,rfl,Hy,bY,dP,h4⟩:=h0.open_;obtain ⟨B0,m0,d0,B1,d1,rfl,Ce,eH,uD,g4⟩:=h1.open_;rw [XN] at bY;rw [hG] at eH;obtain ⟨ad,-,-,-,-,-,-,rfl,ah,-⟩:=jd.ym g4 n (by omega);have Dc:jd w (fun b=>b < w.heap.size) f.cs A1 0:=jd.xl (pj _) (fun _ _ h=>h) (fun b hb _=>⟨hb,rfl⟩) f.cs A1 0 h4;obtain ⟨Wa,Wb,W,vO,zF,hW,Ol,eU,JV,nP,fZ,iR,aX,bF,iV⟩:=b_x w f g (.slice A0 n0 c0) (.slice A1 f.cs.length c1) (.slice B0 m0 d0) (.slice (some ad) g.cs.length d1);have HX:=hid ((eU.trans nP).trans iR);have HZ:=hid iV;have dJ:=hid aX;have dH:=hid bF;have gJ:=hid (kac _ (H0.out.ext HX.out) hf);rw [qB] at gJ;obtain ⟨b0,b1,b2,b3⟩:=aX;have Gs:=hid (And.intro jX lL);have qY:=hid (And.intro UG (And.intro XN hG));have H4:=hid Dc;have G4:=hid g4;have PN:=hid Ir;have qI:=hid hfQ;have PD:=hid pW;have HJQ:=hid hq;have DJ:=hid hN;have hNb:N<=63:=by omega
 have aaq:n<=62:=by omega
 have aj8:NF<=125:=by omega
 have hGA:=fun c hc=>(Ir c hc).can
 have hQA:=fun c hc=>(hfQ c hc).can
 have Vp:=hid (fun (k:Nat) (hk:k < Qs.length)=>xcq hG hk hQA hGA);have qH:=hid hG;unfold plV at gJ ⊢;clear h0 h1 eU nP iR iV bF hf Hy Ce qB jX lL h4 Dc g4 Ir hfQ pW hq fD hN XN UG hG hGA hQA hQl hGn;have ai6:¬ l < l:=by omega
 have ai5:(l == 0)=false:=by simp; omega
 have ai4:¬ l=0:=by omega
 go_enter paA,pao;go_wp2_with fail;clear vO zF hW b0 b1 b2 b3;refine gJ.out.mono ?_;rintro e w1 ⟨rfl,x1⟩;have bW:=x1.size;obtain ⟨R,hR⟩:=n_m (w1.heap.size);obtain ⟨V,dA,eQ,xB,nX⟩:=ga7 NF (by omega) w1;rw [hR] at dA xB nX;have ET:jd V (fun b=>b < w.heap.size) f.cs A1 0:=H4.out.ext ((HX.out.trans x1).trans eQ);obtain ⟨W2,TT,-,oW,Iu,-,dI⟩:=kbc (q':=fun b=>b ≠ R+1) (dc:=NF) (sc:=c1) nX ET (fun b hb=>by have:=HX.out.size; constructor <;> omega) (by rw [qY.out.2.1]; exact pj _) 3;rw [qY.out.2.1,Pw,List.replicate_zero,sq] at dI;rw [qY.out.2.1] at TT;have aN:Ext W W2:=Iu W (x1.trans eQ) (by omega);obtain ⟨V3,KA,LU,Uz,kN⟩:=xy (N:Int) (by omega) (by omega) W2;rw [sX] at KA kN;have jF:W2.heap.size=R+1:=by omega
 rw [jF] at KA Uz kN;have dS:Hid (ExW W R g.cs Qs n N V3):=hid ⟨aN.trans LU,f.cs,List.replicate N Pl.zero,kH.out,HQ0.out,dI.ext LU,kN _⟩;have Ux:Ext W V:=x1.trans eQ;obtain ⟨b0,b1,b2,b3⟩:=dJ.out.ext x1 (by omega);obtain ⟨g0,g1,g2,g3⟩:=dH.out.ext x1 (by omega);obtain ⟨k0,k1,k2,k3⟩:=dJ.out.ext Ux (by omega);obtain ⟨e0,e1,e2,e3⟩:=dJ.out.ext aN (by omega);rw [Gs.out.1] at b0;rw [Gs.out.2] at g0;rw [qY.out.2.1] at b3 k3 e3;rw [qY.out.2.2] at g3;have Og:IntKind.i64.wrap (((n+1:Nat):Int) - 1)=(n:Int):=by rw [rj]; omega
 have hwN:IntKind.i64.wrap ((NF:Int) - (n:Int))=(N:Int):=by have:=qY.out.1; rw [rj]; omega
 have aig:IntKind.i64.wrap ((N:Int) - 1)=(N:Int) - 1:=by rw [rj]; omega
 have aiQ:¬ (NF:Int)<=(n:Int):=by have:=qY.out.1; omega
 have eY:=hid (HZ.out.ext x1 (by omega));have HRB:=hid (And.intro bW hR.symm);have abe:(NF:Int)=((NF:Nat):Int):=rfl;clear x1 gJ nX ET oW Iu dI kN eQ LU aN Ux hR kH HQ0 xB Uz jF abe
 go_wp2_with (at_builtin
              refine wpList_copy_run rfl (.tmp 67) (.tmp 69) _ _ rfl _ _ _ _ rfl rfl TT ?_)
 clear dA KA TT b0 b1 b2 b3 g0 g1 g2 g3 k0 k1 k2 k3 e0 e1 e2 e3
 go_loopw [11] (fun iv wr=>∃ (c:Int) (r:Nat),c+1=(r:Int)/\r<=N/\iv=.int .i64 c/\Hid (ExW W R g.cs Qs n r wr)) (fun iv _=>(intOf iv+1).toNat)
 case atStart=>exact ⟨(N:Int) - 1,N,by omega,pj _,rfl,dS⟩
 case round =>
  obtain ⟨c,r,hcr,hrN,rfl,HI⟩:=hrel
  by_cases pG:0<=c
  · obtain ⟨k,rfl⟩:∃ k:Nat,c=(k:Int):=⟨c.toNat,by omega⟩;have JZ:r=k+1:=by omega
    subst JZ;have Ib:k < N:=by omega
    have SN:k < Qs.length:=by rw [DJ.out]; exact Ib
    obtain ⟨nO,L,M,hL,hM,bK,iK⟩:=HI.out;obtain ⟨M0,Md⟩:∃ M0,M0=n+k:=⟨_,rfl⟩;have Mc:M0 < L.length:=by rw [hL.1,DJ.out]; omega
    obtain ⟨C0,oM,oO,C1,uG,oN,CP,pz⟩:=bK.el M0 Mc;have Ej:L[M0]=(g.cs.getD n Pl.zero).mul (Qs.getD k Pl.zero):=by
     rw [<- getD_get Mc,hL.2 M0 (by omega),Md]; exact Vp.out k SN
    obtain ⟨a,ha⟩:=n_m (L[M0]);rw [ha] at CP pz Ej;have hnG:n < g.cs.length:=by rw [qH.out]; omega
    obtain ⟨ad',D0,j0,i0,D1,j1,i1,qV,-,jJ,pq⟩:=jd.ym (G4.out.ext HX.out) n hnG;injection qV with qV
    subst qV;rw [<- getD_get hnG] at jJ pq;obtain ⟨gn,FC⟩:=n_m (g.cs.getD n Pl.zero);rw [FC] at jJ pq Ej;have gZ:=bK.1;have UF:=iK.1;have Ae:=hid (fun (W':World) (hx:Ext wr W')=>CP.ext gZ hx);have YO:=hid (fun (W':World) (hx:Ext wr W')=>jJ.ext (nO.trans hx) (by rw [ja]; have:=HX.out.size; omega));have HGB:Hid (∀ W',Ext wr W'->W'.cell? ⟨w.heap.size+1,3,none⟩=some (.slice (some ad) (n+1) d1)):=hid (fun W' hx=>by
     have:=(dH.out.ext (nO.trans hx) (by omega)).2.2.2;rw [qH.out] at this
     exact this)
    obtain ⟨y,hy⟩:=n_m (Qs.getD k Pl.zero);have HC:=hid (fun (W':World) (hx:Ext wr W')=>mJ.out k SN W' _ _ _ _ ((HX.out.trans nO).trans hx) (by rw [FC,<- Ej]; exact pz.ext hx) (by rw [FC]; exact pq.ext (nO.trans hx)));rw [hy] at HC;have HY:=hid hy;have HHL:=hid hL;have HHM:=hid hM;have Ji:=hid bK;have Yz:=hid iK;have oh:=hid nO;have VP:=hid Md;have hwc:IntKind.i64.wrap ((n:Int)+(k:Int))=(M0:Int):=by rw [rj]; omega
    have hMN:(M0:Int) < (NF:Int):=by have:=qY.out.1; omega
    have aiP:(n:Int) < (n:Int)+1:=by omega
    have ajh:(k:Int) < (N:Int):=by omega
    have OM:(0:Int)<=(k:Int):=by omega
    have YR:=hid (show Fit y E D by rw [<- hy]; exact wad qI.out k);have hWr:=nO.size;have Na:=hid gZ;have Nj:=hid UF;unfold plV at HC;clear nO hL hM bK iK CP pz Ej ha jJ pq FC hy HI Md Mc gZ UF hWr dS;go_upto_region 19 with fail;have y0:Ext wr wr.drew:=(Ext.refl wr).drew;refine wp_region_held_drew (S:=fun W'=>Ext wr W') (by kernel_rfl) y0 (fun hHeld=>?_);refine tk 0 ?_;refine tk 1 ?_;refine tk 2 ?_;refine tk 3 ?_;refine tk 4 ?_;refine tk 5 ?_ (hy:=Or.inl ⟨by rfl,by intro w' aO; obtain ⟨k1,k2,k3,k4⟩:=Ae.out w' aO; go_simp; (try (with_reducible rfl))⟩);refine tk 6 ?_;refine tk 7 ?_ (hy:=Or.inl ⟨by rfl,by intro w' aO; have k1:=HGB.out w' aO; go_simp; (try (with_reducible rfl))⟩);refine tk 8 ?_;refine tk 9 ?_;refine tk 10 ?_ (hy:=Or.inl ⟨by rfl,by intro w' aO; obtain ⟨k1,k2,k3,k4⟩:=YO.out w' aO; go_simp; (try (with_reducible rfl))⟩);refine r_2 11 15 (fun K hK=>?brA) fun K hK=>?brB
    case' brA =>
     go_simp
     go_at_call 166
     refine (HC.out _ y0).mono ?_;rintro e w2 ⟨v2,rfl,p2,x2⟩;have y2:=y0.trans x2;obtain ⟨E0,en0,zT,E1,rE,rfl,-⟩:=id p2.open_;unfold plV;refine k_t hK y2 fun hHeld=>?_
     clear hK K;refine tk 12 ?_;refine tk 13 ?_;refine tk 14 ?_;refine r_1 15 fun K hK=>?_
     go_simp;obtain ⟨V,hV⟩:=n_m ((w2.alloc (.cells #[.int .i64 0,.bool false,.slice none 0 0,.slice none 0 0] 33)));obtain ⟨o,ho⟩:=n_m (w2.heap.size);have hz:PBx V (fun _=>True) o Pl.zero:=by rw [<- hV,<- ho]; exact PBx.new (Pl.xt _ _ none 0 (by omega)) _
     have yV:Ext wr V:=by rw [<- hV]; exact y2.alloc _
     have kR:wr.heap.size<=o:=by rw [<- ho]; exact y2.size
     have hov:o < V.heap.size:=hz.1;have Oq:=hid ho.symm;have mO:Ext w2 V:=by rw [<- hV]; exact (Ext.refl _).alloc _
     try rw [hV]
     try rw [ho]
     refine k_t hK yV fun hHeld=>?_
     clear hK K hV ho;have yE:=yV;have kK:=hz;have nT:PlV V (fun b=>wr.heap.size<=b/\b ≠ o) y _:=(p2.xo.ext mO).mono fun b hb=>by have:=hb.2; have:=Oq.out; have:=y0.size; constructor <;> omega
    case' brB =>
     go_simp;obtain ⟨V,hV⟩:=n_m ((wr.alloc (.cells #[.int .i64 0,.bool false,.slice none 0 0,.slice none 0 0] 33)).drew);obtain ⟨o,ho⟩:=n_m (wr.heap.size);have hz:PBx V (fun _=>True) o Pl.zero:=by rw [<- hV,<- ho]; exact (PBx.new (Pl.xt _ _ none 0 (by omega)) _).ext (Ext.refl _).drew
     have yV:Ext wr V:=by rw [<- hV]; exact ((Ext.refl wr).alloc _).drew
     have kR:wr.heap.size<=o:=by rw [<- ho]; exact (Ext.refl wr).size
     have hov:o < V.heap.size:=hz.1;have Oq:=hid ho.symm;have mO:Ext wr V:=by rw [<- hV]; exact ((Ext.refl _).alloc _).drew
     try rw [hV]
     try rw [ho]
     refine k_t hK yV fun hHeld=>?_
     clear hK K hV ho;refine r_1 11 fun K hK=>?_
     go_simp
     go_at_call 166
     refine (HC.out _ yV).mono ?_;rintro e w2 ⟨v2,rfl,p2,x2⟩;have y2:=yV.trans x2;obtain ⟨E0,en0,zT,E1,rE,rfl,-⟩:=id p2.open_;unfold plV;refine k_t hK y2 fun hHeld=>?_
     clear hK K;refine tk 12 ?_;refine tk 13 ?_;refine tk 14 ?_;have yE:=y2;have kK:=hz.ext x2;have nT:PlV w2 (fun b=>wr.heap.size<=b/\b ≠ o) y _:=p2.mono fun b hb=>by have:=x2.size; have:=Oq.out; have:=yV.size; constructor <;> omega
    all_goals
     have kU:=kK.2.1;obtain ⟨Z0,zn,zc,Z1,vZ,⟨g0,g1,g2,g3⟩,-⟩:=kK.2.2;refine r_1 16 fun K hK=>?_
     go_simp;clear g0 g1 g2 g3 kU;refine xw (P:=fun V7=>Ext wr V7/\PBx V7 (fun b=>wr.heap.size<=b) o y) ⟨(((yE.setCell kR _).setCell kR _).setCell kR _).setCell kR _,kK.store nT⟩ (fun V7 mg=>?_);obtain ⟨y9,b9⟩:=mg;refine k_t hK y9 fun hHeld=>?_
     clear hK K;refine tk 17 ?_;refine w_d ?_;obtain ⟨Xi,-,C9,n9,k9,D9,k8,LG,p9⟩:=b9;have kJ:=hid LG;have HPX:=hid p9;have X9:=hid y9;clear hHeld kK nT yE Ae YO HGB HC hz yV mO hov Oq;have Xe:=Yz.out.ext X9.out;have KG:k < M.length:=by rw [HHM.out.1,DJ.out]; exact Ib
     obtain ⟨P0,JE,JG,P1,JD,JF,⟨u0,u1,u2,u3⟩,-⟩:=Xe.el k KG;have pW:=Xe.2.1;have f0:=pW (k * 4);have f1:=pW (k * 4+1);have f2:=pW (k * 4+2);have f3:=pW (k * 4+3);obtain ⟨b0,b1,b2,b3⟩:=kJ.out;obtain ⟨V8,qU⟩:=n_m (((((V7.setCell ⟨R+1,k * 4,none⟩ (.int .i64 y.lv)).setCell ⟨R+1,k * 4+1,none⟩ (.bool y.neg)).setCell ⟨R+1,k * 4+2,none⟩ (.slice C9 n9 k9)).setCell ⟨R+1,k * 4+3,none⟩ (.slice D9 y.cs.length k8)));obtain ⟨p1,p2,-,p4⟩:=Frr.put (w0:=W) (ws:=V7) (oh.out.trans X9.out) (Frr.refl V7 (R+1)) Xe (by have:=HRB.out; omega) KG (HPX.out.mono fun b hb=>⟨by have:=Na.out; omega,by have:=Nj.out; omega⟩) qU.symm;have abA:V8.heap.size=V7.heap.size:=by rw [<- qU]; simp [World.setCell]
     have BU:o ≠ R+1:=by have:=Nj.out; omega
     have HEV:Hid (ExV W R g.cs Qs n k 0 o V8):=hid ⟨p1,⟨L,M.set k y,HHL.out.qbT,by rw [<- HY.out]; exact HHM.out.step SN,p2.row (Ji.out.ext X9.out) (by omega) (fun b hb=>hb),p4⟩,by omega,by
      rw [HY.out]
      exact ⟨C9,n9,k9,D9,k8,⟨(p2.cell Xi BU).trans b0,(p2.cell Xi BU).trans b1,(p2.cell Xi BU).trans b2,(p2.cell Xi BU).trans b3⟩,p2.pl (HPX.out.mono fun b hb=>⟨by have:=Na.out; omega,by have:=Nj.out; omega⟩) fun b hb=>hb.2⟩⟩
     clear Xe pW p1 p2 p4 abA BU;go_wp2_with fail;clear qU b0 b1 b2 b3 f0 f1 f2 f3 u0 u1 u2 u3
     go_loopw [107] (fun jv wi=>∃ j,j<=n/\jv=.int .i64 j/\Hid (ExV W R g.cs Qs n k j o wi)) (fun jv _=>n - (intOf jv).toNat)
     case atStart=>exact ⟨0,pZ _,rfl,HEV⟩
     case round =>
      obtain ⟨wi,rfl⟩:∃ wi,wi=wr:=⟨wr,rfl⟩;obtain ⟨j,hj,rfl,HI⟩:=hrel
      by_cases OD:j < n
      · obtain ⟨EL,⟨L',M',hJ,IL,bK,iK⟩,hoi,E0,en0,zT,E1,rE,bV,Hg⟩:=HI.out;rw [HY.out] at bV Hg;obtain ⟨m,hm⟩:∃ m,m=j+k:=⟨_,rfl⟩;have Xl:m < L'.length:=by rw [hJ.1,DJ.out]; omega
        obtain ⟨C0,oM,oO,C1,uG,oN,CP,pz⟩:=bK.el m Xl;have Ej:L'[m]=(vz g.cs Qs n (k+1)).getD m Pl.zero:=by rw [<- getD_get Xl,hm]; exact hJ.at_ OD
        obtain ⟨a,ha⟩:=n_m (L'[m]);rw [ha] at CP pz Ej;have OJ:Fit a (E+F) (D+Dg+N):=by rw [Ej,<- DJ.out]; exact wad (qcq PN.out qI.out) m
        have hjG:j < g.cs.length:=by rw [qH.out]; omega
        obtain ⟨ad',G0,FX,FZ,G1,O8,FY,qV,-,jJ,pq⟩:=jd.ym (G4.out.ext HX.out) j hjG;injection qV with qV
        subst qV;rw [<- getD_get hjG] at jJ pq;obtain ⟨gj,Xt⟩:=n_m (g.cs.getD j Pl.zero);rw [Xt] at jJ pq;have uC:Fit gj F Dg:=by rw [<- Xt]; exact wad PN.out j
        have gZ:=bK.1;have BU:o ≠ R:=by have:=Na.out; omega
        have Ae:=hid (fun (W':World) (hx:Ext wi W')=>CP.ext gZ hx);have Dn:Hid (∀ W',Ext W W'->(uy W' (ad.add (j * 4)) gj (.slice G0 FX FZ) (.slice G1 O8 FY)/\W'.cell? ⟨w.heap.size+1,3,none⟩=some (.slice (some ad) (n+1) d1))):=hid (fun W' hx=>⟨jJ.ext hx (by rw [ja]; have:=HX.out.size; omega),by
         have:=(dH.out.ext hx (by omega)).2.2.2;rw [qH.out] at this
         exact this⟩)
        have Gf:Hid (∀ W',Ext wi W'->((uy W' (ad.add (j * 4)) gj (.slice G0 FX FZ) (.slice G1 O8 FY)/\W'.cell? ⟨w.heap.size+1,3,none⟩=some (.slice (some ad) (n+1) d1))/\jb W' o y (.slice E0 en0 zT) (.slice E1 y.cs.length rE))):=hid (fun W' hx=>⟨Dn.out _ (EL.trans hx),bV.ext hx hoi⟩)
        have kC:Hid (∀ V yy D0 dX dZ D1 lg dY,Ext wi V->PlV V (fun b=>wi.heap.size<=b) yy (plV yy (.slice D0 dX dZ) (.slice D1 lg dY))->yy=a.sub (y.mul gj)->∀ V8,V8=(((V.setCell ⟨R,m * 4,none⟩ (.int .i64 yy.lv)).setCell ⟨R,m * 4+1,none⟩ (.bool yy.neg)).setCell ⟨R,m * 4+2,none⟩ (.slice D0 dX dZ)).setCell ⟨R,m * 4+3,none⟩ (.slice D1 lg dY) ->
         ExV W R g.cs Qs n k (j+1) o V8/\((uy V8 (ad.add (j * 4)) gj (.slice G0 FX FZ) (.slice G1 O8 FY)/\V8.cell? ⟨w.heap.size+1,3,none⟩=some (.slice (some ad) (n+1) d1))/\jb V8 o y (.slice E0 en0 zT) (.slice E1 y.cs.length rE))):=hid (by
         intro V yy D0 dX dZ D1 lg dY dN hp hyy V8 qU;obtain ⟨p1,p2,-,p4⟩:=Frr.put (w0:=W) (ws:=V) (EL.trans dN) (Frr.refl V R) (bK.ext dN) (by have:=HRB.out; omega) Xl (hp.mono fun b hb=>⟨by have:=iK.1; omega,by omega⟩) qU;have xB:=dN.size;have BR:o < V.heap.size:=by omega
         obtain ⟨b0,b1,b2,b3⟩:=bV.ext dN hoi;have Ud:jb V8 o y (.slice E0 en0 zT) (.slice E1 y.cs.length rE):=⟨(p2.cell BR BU).trans b0,(p2.cell BR BU).trans b1,(p2.cell BR BU).trans b2,(p2.cell BR BU).trans b3⟩;refine ⟨⟨p1,⟨L'.set m yy,M',?_,IL,p4,p2.row (iK.ext dN) (by omega) (fun b hb=>hb)⟩,px BR p2.size,?_⟩,Dn.out _ p1,Ud⟩
         · rw [hm] at Ej ⊢;exact hJ.step qH.out OD SN (by rw [hyy,Ej,Xt,HY.out])
         · rw [HY.out]
           exact ⟨E0,en0,zT,E1,rE,Ud,p2.pl (Hg.ext dN) fun b hb=>hb.1⟩)
        have zX:=hid pz;have Gm:=hid (pq.ext EL);have Gj:=hid Hg;have Gt:=hid OJ;have NC:=hid uC;have mF:=hid gZ;have lh:=hid bK.2.1;have Qu:IntKind.i64.wrap ((j:Int)+(k:Int))=(m:Int):=by rw [rj]; omega
        have hmN:(m:Int) < (NF:Int):=by have:=qY.out.1; omega
        have ajj:(j:Int) < (n:Int):=by omega
        have aji:(j:Int) < (n:Int)+1:=by omega
        have Y0:Hid (Ext wi wi.drew):=hid (Ext.refl wi).drew;have hmb:m<=200:=by omega
        clear EL hJ IL bK iK hoi bV Hg hm Xl CP pz Ej ha OJ hjG jJ pq Xt uC gZ BU HI Dn;go_upto_region 26 with fail;refine wp_region_held_drew (S:=fun W'=>(uy W' (ad.add (j * 4)) gj (.slice G0 FX FZ) (.slice G1 O8 FY)/\W'.cell? ⟨w.heap.size+1,3,none⟩=some (.slice (some ad) (n+1) d1))/\jb W' o y (.slice E0 en0 zT) (.slice E1 y.cs.length rE)) (by kernel_rfl) (Gf.out _ Y0.out) (fun hHeld=>?_);refine tk 0 ?_;refine tk 1 ?_;refine tk 2 ?_;refine tk 3 ?_;refine tk 4 ?_;refine tk 5 ?_;refine tk 6 ?_;refine tk 7 ?_;refine tk 8 ?_;refine tk 10 ?_ (hy:=Or.inl ⟨by rfl,by intro w' aO; obtain ⟨⟨⟨k1,k2,k3,k4⟩,k5⟩,k6,k7,k8,k9⟩:=aO; go_simp; (try (with_reducible rfl))⟩);refine tk 11 ?_;refine tk 12 ?_ (hy:=Or.inl ⟨by rfl,by intro w' aO; obtain ⟨⟨⟨k1,k2,k3,k4⟩,k5⟩,k6,k7,k8,k9⟩:=aO; go_simp; (try (with_reducible rfl))⟩);refine tk 13 ?_;refine tk 14 ?_;refine tk 15 ?_ (hy:=Or.inl ⟨by rfl,by intro w' aO; obtain ⟨⟨⟨k1,k2,k3,k4⟩,k5⟩,k6,k7,k8,k9⟩:=aO; go_simp; (try (with_reducible rfl))⟩);refine r_2 9 16 (fun K hK=>?ordA) fun K hK=>?ordB
        case ordA =>
         obtain ⟨e0,e1,e2,e3⟩:=Ae.out _ Y0.out;go_simp;refine k_t hK (Gf.out _ Y0.out) fun hHeld=>?_
         clear hK K e0 e1 e2 e3;refine r_1 16 fun K hK=>?_
         go_simp
         go_at_call 15
         refine (kam _ _ (Gj.out.ext Y0.out) (Gm.out.ext Y0.out) YR.out NC.out (by omega) (by omega)).mono ?_;rintro e w3 ⟨v3,rfl,m3,x3⟩;obtain ⟨D2,dn2,dc2,D3,dc3,rfl,-⟩:=id m3.open_;have z3:Ext wi w3:=Y0.out.trans x3;refine k_t hK (Gf.out _ z3) fun hHeld=>?_
         clear hK K;refine r_1 17 fun K hK=>?_
         try unfold plV
         go_simp
         go_at_call 14
         refine (gar (D:=D+Dg+N) _ _ (zX.out.ext z3) m3 Gt.out ((YR.out.mul NC.out).mono (by omega) (by omega)) (by omega) (by omega)).mono ?_;rintro e w4 ⟨v4,rfl,m4,x4⟩;obtain ⟨D4,dn4,dc4,D5,dc5,rfl,-⟩:=id m4.open_;have z4:Ext wi w4:=z3.trans x4;refine k_t hK (Gf.out _ z4) fun hHeld=>?_
         clear hK K;refine tk 18 ?_;have Ad:=hid (kC.out _ _ _ _ _ _ _ _ z4 (m4.mono fun b hb=>py z3.size hb) rfl);obtain ⟨s0,s1,s2,s3⟩:=Ae.out _ z4;have f0:=(z4.frozen (p:=⟨R,m * 4,none⟩) mF.out).trans (lh.out _);have f1:=(z4.frozen (p:=⟨R,m * 4+1,none⟩) mF.out).trans (lh.out _);have f2:=(z4.frozen (p:=⟨R,m * 4+2,none⟩) mF.out).trans (lh.out _);have f3:=(z4.frozen (p:=⟨R,m * 4+3,none⟩) mF.out).trans (lh.out _);clear kC m4 x4 m3 x3 z3;generalize a.add (y.mul gj).yd=yy at *;refine r_1 19 fun K hK=>?_
         unfold plV;go_simp;refine xw (P:=fun V8=>(ExV W R g.cs Qs n k (j+1) o V8/\((uy V8 (ad.add (j * 4)) gj (.slice G0 FX FZ) (.slice G1 O8 FY)/\V8.cell? ⟨w.heap.size+1,3,none⟩=some (.slice (some ad) (n+1) d1))/\jb V8 o y (.slice E0 en0 zT) (.slice E1 y.cs.length rE)))) (Ad.out _ rfl) (fun V8 qU=>?_);obtain ⟨h8,c8⟩:=qU;refine k_t hK c8 fun hHeld=>?_
         have Np:=hid h8;clear hK K s0 s1 s2 s3 f0 f1 f2 f3 c8 h8 z4;refine w_d ?_;clear hHeld Gj zX Gm Gf Ae Ad Y0;go_wp2_with fail
         go_roundw
         case rel=>exact ⟨j+1,by omega,by go_num,Np⟩
         case measure=>simp only [intOf]; omega
        case ordB =>
         go_simp
         go_at_call 15
         refine (kam _ _ (Gj.out.ext Y0.out) (Gm.out.ext Y0.out) YR.out NC.out (by omega) (by omega)).mono ?_;rintro e w3 ⟨v3,rfl,m3,x3⟩;obtain ⟨D2,dn2,dc2,D3,dc3,rfl,-⟩:=id m3.open_;have z3:Ext wi w3:=Y0.out.trans x3;refine k_t hK (Gf.out _ z3) fun hHeld=>?_
         clear hK K;refine r_1 9 fun K hK=>?_
         obtain ⟨e0,e1,e2,e3⟩:=Ae.out _ z3;go_simp;refine k_t hK (Gf.out _ z3) fun hHeld=>?_
         clear hK K e0 e1 e2 e3;refine r_1 17 fun K hK=>?_
         try unfold plV
         go_simp
         go_at_call 14
         refine (gar (D:=D+Dg+N) _ _ (zX.out.ext z3) m3 Gt.out ((YR.out.mul NC.out).mono (by omega) (by omega)) (by omega) (by omega)).mono ?_;rintro e w4 ⟨v4,rfl,m4,x4⟩;obtain ⟨D4,dn4,dc4,D5,dc5,rfl,-⟩:=id m4.open_;have z4:Ext wi w4:=z3.trans x4;refine k_t hK (Gf.out _ z4) fun hHeld=>?_
         clear hK K;refine tk 18 ?_;have Ad:=hid (kC.out _ _ _ _ _ _ _ _ z4 (m4.mono fun b hb=>py z3.size hb) rfl);obtain ⟨s0,s1,s2,s3⟩:=Ae.out _ z4;have f0:=(z4.frozen (p:=⟨R,m * 4,none⟩) mF.out).trans (lh.out _);have f1:=(z4.frozen (p:=⟨R,m * 4+1,none⟩) mF.out).trans (lh.out _);have f2:=(z4.frozen (p:=⟨R,m * 4+2,none⟩) mF.out).trans (lh.out _);have f3:=(z4.frozen (p:=⟨R,m * 4+3,none⟩) mF.out).trans (lh.out _);clear kC m4 x4 m3 x3 z3;generalize a.add (y.mul gj).yd=yy at *;refine r_1 19 fun K hK=>?_
         unfold plV;go_simp;refine xw (P:=fun V8=>(ExV W R g.cs Qs n k (j+1) o V8/\((uy V8 (ad.add (j * 4)) gj (.slice G0 FX FZ) (.slice G1 O8 FY)/\V8.cell? ⟨w.heap.size+1,3,none⟩=some (.slice (some ad) (n+1) d1))/\jb V8 o y (.slice E0 en0 zT) (.slice E1 y.cs.length rE)))) (Ad.out _ rfl) (fun V8 qU=>?_);obtain ⟨h8,c8⟩:=qU;refine k_t hK c8 fun hHeld=>?_
         have Np:=hid h8;clear hK K s0 s1 s2 s3 f0 f1 f2 f3 c8 h8 z4;refine w_d ?_;clear hHeld Gj zX Gm Gf Ae Ad Y0;go_wp2_with fail
         go_roundw
         case rel=>exact ⟨j+1,by omega,by go_num,Np⟩
         case measure=>simp only [intOf]; omega
      · have hje:j=n:=by omega
        have hjN:¬ (j:Int) < (n:Int):=by omega
        have HN:Hid (ExW W R g.cs Qs n k wi):=hid (by
         obtain ⟨EL,⟨L',M',hJ,IL,bK,iK⟩,-⟩:=HI.out;rw [hje] at hJ
         exact ⟨EL,L',M',hJ.qbU qH.out SN,IL,bK,iK⟩)
        have hwk:IntKind.i64.wrap ((k:Int) - 1)=(k:Int) - 1:=by rw [rj]; omega
        clear HI;go_wp2_with fail
        go_roundw
        case rel=>exact ⟨(k:Int) - 1,k,by omega,by omega,rfl,HN⟩
        case measure=>simp only [intOf]; omega
  · have hr0:r=0:=by omega
    subst hr0;have hcn:¬ (0:Int)<=c:=pG;obtain ⟨nO,L,M,hL,hM,bK,iK⟩:=HI.out;have hLz:=hL.fin;have hMQ:=hM.fin;have EK:∀ c ∈ List.replicate n Pl.zero,Fit c 62 0:=fun c hc=>by rw [St hc]; exact Fit.zero
    have eF:(List.replicate n Pl.zero).length=n:=ra;have aiS:n<=NF:=by have:=qY.out.1; omega
    have zN:=HRB.out;have VW:Hid (∀ W',Ext wr W'->Calls Tryz.prog 13 #[.slice (some ⟨R,0,none⟩) n NF,.int .i64 l] W' (uf (fun b=>W'.heap.size<=b) Pl.zero W')):=hid (fun W' hx=>by
     have h2:=((bK.take n).ext hx).fin (by omega);rw [hLz] at h2;have h3:=zan (l:=l) (c:=NF) hl ag h2 (by omega) (by omega) (kav EK (by omega) (by omega)) (by have:=uaq EK; omega) (by rw [ybe hl ag]; exact (Fit.zero (E:=0) (D:=0)).copy_ (by omega));rw [eF,ybe hl ag] at h3
     exact h3)
    have xQ:Hid (∀ W',Ext wr W'->Calls Tryz.prog 13 #[.slice (some ⟨R+1,0,none⟩) N N,.int .i64 l] W' (uf (fun b=>W'.heap.size<=b) q W')):=hid (fun W' hx=>by
     have h2:=(iK.ext hx).fin (by omega);rw [hMQ] at h2;have h3:=zan (l:=l) (c:=N) hl ag h2 (by rw [DJ.out]; exact pj _) (by omega) (kav (E:=62) (fun c hc=>(qI.out c hc).mono (by omega) (pj _)) (by rw [DJ.out]; omega) (by omega)) (by have:=uaq qI.out; omega) (by rw [HJQ.out]; exact PD.out.copy_ (by omega));rw [DJ.out,HJQ.out] at h3
     exact h3)
    have HB:Hid (∀ W',Ext wr W'->W'.cell? ⟨w.heap.size,0,none⟩=some (.int .i64 l)):=hid (fun W' hx=>by
     have:=(dJ.out.ext (nO.trans hx) (by omega)).1;rw [Gs.out.1] at this
     exact this)
    have oh:=hid nO;have Cc:(n:Int)<=(NF:Int):=by omega
    have acE:=hid (HX.out.trans nO);have HZr:=hid (HZ.out.ext nO (by omega));have hWr:=nO.size;clear nO hL hM bK iK hLz hMQ EK eF zN HI mJ Vp dS H4 G4;go_upto_region 28 with fail;have y0:Ext wr wr.drew:=(Ext.refl wr).drew;refine wp_region_held_drew (S:=fun W'=>Ext wr W') (by kernel_rfl) y0 (fun hHeld=>?_);refine tk 0 ?_;refine tk 1 ?_;refine tk 2 ?_;refine tk 3 ?_;refine tk 4 ?_ (hy:=Or.inl ⟨by rfl,by intro w' aO; have k1:=HB.out w' aO; go_simp; (try (with_reducible rfl))⟩);refine r_1 5 fun K hK=>?_
    go_simp
    go_at_call 13
    refine (VW.out _ y0).mono ?_;rintro e w2 ⟨v2,rfl,p2,x2⟩;have y2:=y0.trans x2;have iI:=kac _ p2 Pl.qT;rw [(Pl.xj Pl.qT).2 rfl] at iI;have DN:=hid iI;obtain ⟨D0,dX,dZ,D1,dY,rfl,-⟩:=id p2.open_;unfold plV at DN;refine k_t hK y2 fun hHeld=>?_
    clear hK K;refine r_1 6 fun K hK=>?_
    unfold plV;go_simp
    go_at_call 20
    refine DN.out.mono ?_;rintro e w3 ⟨rfl,x3⟩;have y3:=y2.trans x3;refine k_t hK y3 fun hHeld=>?_
    clear hK K;refine tk 7 ?_;refine w_d ?_;have e0:=HB.out _ y3;have HJ:=hid (xQ.out _ y3);have Z3:=hid (acE.out.trans y3);have AZ:=hid (HZr.out.ext y3 (by omega));have Eb:w.heap.size+1+1 < w3.heap.size:=by have:=y3.size; omega
    clear hHeld iI p2 x2 x3 y0 y2 y3 VW xQ HB DN;go_wp2_with fail;refine HJ.out.mono ?_;rintro e w7 ⟨v8,rfl,m2,x2⟩;obtain ⟨X0,xn0,xc0,X1,xc1,rfl,-⟩:=id m2.open_;have aS:=AZ.out.ext x2 Eb;have iw:=hid (qf (q':=fun b=>w.heap.size<=b) (Z3.out.trans x2) (by omega) aS m2 (fun b _ hb=>⟨by omega,by omega⟩));obtain ⟨⟨z0,z1,z2,z3⟩,zf⟩:=aS;clear m2 x2 HJ e0;unfold plV;go_wp2_with fail;obtain ⟨v9,e9,k3,k4⟩:=iw.out;injection e9 with e9
    subst e9;exact bodyPost_ret (v:=.tuple #[plV q (.slice X0 xn0 xc0) (.slice X1 q.cs.length xc1),.bool true]) (by simp [results,Wg,go_sem,z0,z1,z2,z3,plV]) rfl ⟨_,rfl,k3,k4⟩
def udj (E D F Dg m:Nat):Prop:=∀ (g q:Pl),(g.mul q).lv < (m:Int)->Fit g F Dg->Fit q E D->g ≠ Pl.zero->∀ (w:World) (q0 q1:Nat->Prop) (v0 v1:Value),PlV w q0 (g.mul q) v0->PlV w q1 g v1->Calls Tryz.prog 166 #[v0,v1] w (qas (fun b=>w.heap.size<=b) q true w)
theorem mul_zero_r {g q:Pl} (h:q=Pl.zero):g.mul q=Pl.zero:=Pl.qv (Pl.q9 _ _) Pl.qT fun ρ=>by rw [Pl.qD,h,Pl.qt]; grind
theorem kdc {g q:Pl} (hg:g.Can) (hq:q.Can) (h0:g ≠ Pl.zero) (h1:q ≠ Pl.zero):g.mul q ≠ Pl.zero:=fun e=>by
 rcases Pl.mul_zero hg hq (fun ρ=>by rw [<- Pl.qD,e,Pl.qt]) with e | e
 · exact h0 e
 · exact h1 e
theorem zde (z:Int):(Pl.const z).z=z:=by
 have:=yah (qp z) rfl;have h1:=Pl.qS (fun _=>0) z;rw [this,Pl.qS] at h1
 exact_mod_cast h1
theorem qc7 {l:Int} (hl:1<=l) (ag:l<=4) {p:Pl} (h:p.Can) (hp:p.lv<=l):∀ c ∈ p.xf l,c.lv < l:=fun c hc=>by
 have h1:=Pl.qaG h c hc;have h2:=jbh (by omega) (wae h c hc) (qx hl ag h c hc);omega
theorem ucs {p:Pl} (h:p.Can) (hl:1<=p.lv):∀ c ∈ p.cs,c.lv < p.lv:=fun c hc=>by
 obtain ⟨lv,ng,ds,cs⟩:=p;exact ((h.kids hl).2.2.2.1.mem c hc).1
theorem kb4 {E D F Dg : Nat} (uF : E + F <= 62) (hD : D + Dg + E + 4 <= 1099511627776) : ∀ m, udj E D F Dg m
 | 0=>fun g q h=>by have:=(Pl.q9 g q).qq; omega
 | m+1=>by
   have ih:=kb4 uF hD m;intro g q af hg hq bI w q0 q1 v0 v1 h0 h1
   by_cases kD:q=Pl.zero
   · rw [mul_zero_r kD] at h0;have:=gck v0 v1 h0 h1;rw [kD]; exact this
   have Iq:=Pl.q9 g q;have rC:=kdc hg.can hq.can bI kD;have jM:=Iq.qq;have FC:=hg.can.qq;have hqn:=hq.can.qq;have lL:=ka9 hg.can hq.can bI kD;have aiD:q.lv<=(g.mul q).lv:=by rw [vaw]; exact ka9 hq.can hg.can kD bI
   by_cases lW:(g.mul q).lv=0
   · have eg:=yah hg.can (show g.lv=0 by omega);have eq:=yah hq.can (show q.lv=0 by omega);have hz:(g.mul q).z=g.z * q.z:=by
      have h2:g.mul q=Pl.const (g.z * q.z):=by rw [<- Pl.Q6,<- eg,<- eq]
      rw [h2,zde]
     have hfd:(g.mul q).ds.length<=D+Dg+3:=by have:=(hg.mul hq).dm; have:=Pl.vd (g.mul q); omega
     have jJ:g.ds.length<=Dg:=by have:=hg.dm; have:=Pl.vd g; omega
     have yL:(dg q.z.natAbs).length<=35184372088832:=by
      have h3:=hq.dm;rw [eq] at h3;have:=Pl.vd (Pl.const q.z);have h4:(Pl.const q.z).ds=dg q.z.natAbs:=rfl;rw [h4] at this;omega
     have:=wca (z:=q.z) v0 v1 h0 h1 Iq hg.can rC bI lW (by omega) hz (Pl.qbO hg.can (by omega) bI) hfd jJ (by omega) (by omega) yL;rw [<- eq] at this;exact this
   by_cases lJ:g.lv < (g.mul q).lv
   · obtain ⟨e1,e2,e3⟩:=udd hg.can hq.can bI kD lJ;have Z8:∀ c ∈ q.cs,Fit c E D:=fun c hc=>hq.cs hc
     have hlen:q.cs.length<=E+1:=by
      have h4:=uar (l:=q.lv) (by omega) hq.can rfl;have h5:=jw (l:=q.lv) hq.can hq.ex;rw [h4.1] at h5;exact h5
     have jX:q.cs.length=(g.mul q).cs.length:=by rw [e2,pw]
     refine jcu v0 v1 h0 h1 Iq rC lJ (by omega) (hid fun W' hx=>?_);have:=kbp (xs:=q.cs) v0 v1 (h0.ext hx) (h1.ext hx) (by omega) jM.2 jX (by omega) (hid (fun k hk lX W2 v aN hv=>by
      have ek:(g.mul q).cs[k]=g.mul q.cs[k]:=by
       have:(g.mul q).cs[k]=(q.cs.map fun c=>g.mul c)[k]'(by rw [pw]; exact lX):=by congr 1
       rw [this,rN]
      have hkl:(g.mul q).cs[k].lv < (g.mul q).lv:=ucs Iq (by omega) _ (pt hk);rw [ek] at hv hkl
      exact ih g q.cs[k] (by omega) hg (Z8 _ (pt lX)) bI W2 _ _ v v1 hv ((h1.ext hx).ext aN))) (kav Z8 hlen (by omega)) (by have:=uaq Z8; omega) (by rw [<- e1,e3]; exact hq.copy_ (by omega))
     rw [<- e1,e3] at this;exact this
   · obtain ⟨l,hl⟩:∃ l,g.lv=l:=⟨_,rfl⟩;have jX:(g.mul q).lv=l:=by omega
     obtain ⟨e1,e2,e3,e4,e5⟩:=gc6 hg.can hq.can bI kD (by omega) (by omega);rw [hl] at e1 e2 e3;obtain ⟨n,hn⟩:∃ n,g.cs.length=n+1:=⟨g.cs.length - 1,by omega⟩;have sG:g.cs.length - 1=n:=by omega
     rw [sG] at e5;have FD:∀ c ∈ g.cs,Fit c F Dg:=fun c hc=>hg.cs hc
     have hQf:=Pl.zP (l:=l) hq;have Ii:=uar (l:=l) (by omega) hg.can hl;have aaS:=jw (l:=l) hg.can hg.ex;rw [Ii.1] at aaS;refine wck v0 v1 h0 h1 Iq (by omega) (by omega) jX hl hn e2 e1 e3 FD hQf hq uF (jw hq.can hq.ex) (by omega) hD (hid fun k hk W' v u q2 q3 hx hv hu=>?_);have KN:g.cs.getD n Pl.zero ∈ g.cs:=by rw [getD_get (by omega)]; exact pt _
     have ZZ:(q.xf l).getD k Pl.zero ∈ q.xf l:=by rw [getD_get hk]; exact pt _
     have h6:=ucs hg.can (by omega) _ KN;have h7:=qc7 (by omega) (by omega) hq.can (by omega) _ ZZ;have h8:=Pl.vR (n:=l - 1) (FD _ KN).can (hQf _ ZZ).can (by omega) (by omega) (by omega);exact ih _ _ (by omega) (FD _ KN) (hQf _ ZZ) e5 W' _ _ v u hv hu
theorem kcu {w:World} {q0 q1:Nat->Prop} {g q:Pl} {E D F Dg:Nat} (v0 v1:Value) (h0:PlV w q0 (g.mul q) v0) (h1:PlV w q1 g v1) (hg:Fit g F Dg) (hq:Fit q E D) (bI:g ≠ Pl.zero) (uF:E+F<=62) (hD:D+Dg+E+4<=1099511627776) :
 Calls Tryz.prog 166 #[v0,v1] w (qas (fun b=>w.heap.size<=b) q true w):=
 kb4 uF hD 5 g q (by have:=(Pl.q9 g q).qq; omega) hg hq bI w q0 q1 v0 v1 h0 h1
theorem xb9 {w:World} {q0 q1:Nat->Prop} {f g q:Pl} {E D F Dg:Nat} (v0 v1:Value) (h0:PlV w q0 f v0) (h1:PlV w q1 g v1) (uC:f=g.mul q) (hg:Fit g F Dg) (hq:Fit q E D) (bI:g ≠ Pl.zero) (uF:E+F<=62) (hD:D+Dg+E+4<=1099511627776) :
 Calls Tryz.prog 163 #[v0,v1] w (jc9 (fun b=>w.heap.size<=b) q 0 w):=by
 have OH:Fit f (E+F) (D+Dg):=by rw [uC]; exact (hg.mul hq).mono (by omega) (by omega)
 have mJ:=hid (fun (W':World) (qa qb:Nat->Prop) (u0 u1:Value) (k0:PlV W' qa f u0) (k1:PlV W' qb g u1)=>kcu u0 u1 (by rw [<- uC]; exact k0) k1 hg hq bI uF hD);have H0:=hid h0;have H1:=hid h1;obtain ⟨A0,m0,e0,B0,f0,rfl,-⟩:=h0.open_;obtain ⟨A1,m1,e1,B1,f1,rfl,-⟩:=h1.open_;obtain ⟨Eo,Wx1,W,gI,jH,rD,iT,aC,bW,hx1,jF,aN,aX,bF,hz⟩:=b_x w f g (.slice A0 m0 e0) (.slice B0 f.cs.length f0) (.slice A1 m1 e1) (.slice B1 g.cs.length f1);have HZ:=hid hz;have HX:=hid ((aC.trans hx1).trans aN);have dJ:=hid aX;have dH:=hid bF;have fZ:W.heap.size=w.heap.size+1+1+1:=jF;clear h0 h1 aC hx1 aN aX bF hz;have OE:g.zp=false:=by
  cases e:g.zp
  · rfl
  · exact absurd ((Pl.xj hg.can).1 e) bI
 have rF:=hid (fun (W':World) (hx:Ext w W')=>qac _ (H0.out.ext hx) OH.can (OH.copy_ (by omega)) (by have:=OH.dm; omega));have DK:=hid (fun (W':World) (hx:Ext w W')=>qac _ (H1.out.ext hx) hg.can (hg.copy_ (by omega)) (by have:=hg.dm; omega));have YP:=hid hg.can;unfold plV at rF DK ⊢;clear uC OH hg hq bI uF hD;go_enter Tryz.func163,Tryz.ntmps163;go_upto_region 1 with fail;obtain ⟨b0,b1,b2,b3⟩:=dH.out;clear gI jH rD;go_wp2_with fail;have qB:=qbk (c:=1) (vbo (H1.out.ext HX.out) 33) (fun p hp=>by rw [pD.1 hp]; exact YP.out) (by simp);rw [fZ] at qB;simp only [List.any_cons,List.any_nil,OE,pbm,PF,if_false,PC] at qB;refine qB.mono ?_;rintro e W1 ⟨rfl,x1⟩;have y1':Ext W W1:=((Ext.refl W).alloc _).trans x1;have aH:Hid (∀ W',Ext W W'->(Ext W W'/\(jb W' (w.heap.size) f (.slice A0 m0 e0) (.slice B0 f.cs.length f0))/\(jb W' (w.heap.size+1) g (.slice A1 m1 e1) (.slice B1 g.cs.length f1)))):=hid (fun W' hx=>⟨hx,dJ.out.ext hx (by omega),dH.out.ext hx (by omega)⟩);have Dn:=hid fZ;clear qB x1 b0 b1 b2 b3 fZ iT bW jF;go_upto_region 4 with fail;have y1:Ext W W1.drew:=y1'.drew;refine wp_region_held_drew (S:=fun W'=>Ext W W'/\(jb W' (w.heap.size) f (.slice A0 m0 e0) (.slice B0 f.cs.length f0))/\(jb W' (w.heap.size+1) g (.slice A1 m1 e1) (.slice B1 g.cs.length f1))) (by kernel_rfl) (aH.out _ y1) (fun hHeld=>?_);refine tk 0 ?_ (hy:=Or.inl ⟨by rfl,by intro w' aO; obtain ⟨-,⟨k0,k1,k2,k3⟩,k4,k5,k6,k7⟩:=aO; go_simp; (try (with_reducible rfl))⟩);refine tk 2 ?_ (hy:=Or.inl ⟨by rfl,by intro w' aO; obtain ⟨-,⟨k0,k1,k2,k3⟩,k4,k5,k6,k7⟩:=aO; go_simp; (try (with_reducible rfl))⟩);refine r_2 1 8 (fun K hK=>?h10x1) fun K hK=>?h10x8
 case' h10x1 =>
  go_simp
  go_at_call 36
  refine (rF.out _ (HX.out.trans y1)).mono ?_;rintro e w4 ⟨v4,rfl,jY,x4⟩;have EH:=y1.trans x4;obtain ⟨C0,j0,k0,C1,k1,rfl,-⟩:=id jY.open_;unfold plV;refine k_t hK (aH.out _ EH) fun hHeld=>?_
  clear hK K;refine r_2 3 8 (fun K hK=>?h30x3) fun K hK=>?h30x8
  case' h30x3 =>
   go_simp
   go_at_call 36
   refine (DK.out _ (HX.out.trans EH)).mono ?_;rintro e w5 ⟨v5,rfl,sS,x5⟩;have Ap:=EH.trans x5;obtain ⟨D0,j2,k2,D1,k3,rfl,-⟩:=id sS.open_;unfold plV;have jY:=jY.ext x5;refine k_t hK (aH.out _ Ap) fun hHeld=>?_
   clear hK K;refine r_2 4 8 (fun K hK=>?h40x4) fun K hK=>?h40x8
   case' h40x4 =>
    go_simp
    go_at_call 166
    refine (mJ.out _ _ _ _ _ jY sS).mono ?_;rintro e w6 ⟨v6,rfl,hp,x6⟩;have Bh:=Ap.trans x6;obtain ⟨F0,j4,k4,F1,k5,rfl,-⟩:=id hp.open_;unfold plV;refine k_t hK (aH.out _ Bh) fun hHeld=>?_
    clear hK K;refine tk 5 ?_;refine tk 6 ?_;refine tk 7 ?_;have hp:PlV w6 (fun b=>W.heap.size<=b) q _:=hp.mono fun b hb=>by have:=Ap.size; omega
    refine r_1 8 fun K hK=>?_
    go_simp;obtain ⟨V,o,hV,ho,hz,yA,kR,pF,jU,mO⟩:=z_b Bh
    try rw [hV]
    try rw [ho]
    refine k_t hK (aH.out _ yA) fun hHeld=>?_
    clear hK K hV ho;have hp:PlV V (fun b=>W.heap.size<=b/\b ≠ o) q _:=(hp.xo.ext mO).mono fun b hb=>by have:=hb.1; have:=hb.2; have:=jU.out; constructor <;> omega
    have yE:=yA;have kK:=hz;have lu:=hp
   case' h40x8 =>
    go_simp;obtain ⟨V,o,hV,ho,hz,yA,kR,pF,jU,mO⟩:=z_b Ap
    try rw [hV]
    try rw [ho]
    refine k_t hK (aH.out _ yA) fun hHeld=>?_
    clear hK K hV ho;have sS:=sS.ext mO;have jY:=jY.ext mO;refine r_1 4 fun K hK=>?_
    go_simp
    go_at_call 166
    refine (mJ.out _ _ _ _ _ jY sS).mono ?_;rintro e w6 ⟨v6,rfl,hp,x6⟩;have Bh:=yA.trans x6;obtain ⟨F0,j4,k4,F1,k5,rfl,-⟩:=id hp.open_;unfold plV;refine k_t hK (aH.out _ Bh) fun hHeld=>?_
    clear hK K;refine tk 5 ?_;refine tk 6 ?_;refine tk 7 ?_;have hp:PlV w6 (fun b=>W.heap.size<=b/\b ≠ o) q _:=hp.mono fun b hb=>by have:=yA.size; have:=hz.1; constructor <;> omega
    have hz:=hz.ext x6;have yE:=Bh;have kK:=hz;have lu:=hp
  case' h30x8 =>
   go_simp;obtain ⟨V,o,hV,ho,hz,yA,kR,pF,jU,mO⟩:=z_b EH
   try rw [hV]
   try rw [ho]
   refine k_t hK (aH.out _ yA) fun hHeld=>?_
   clear hK K hV ho;have jY:=jY.ext mO;refine r_1 3 fun K hK=>?_
   go_simp
   go_at_call 36
   refine (DK.out _ (HX.out.trans yA)).mono ?_;rintro e w5 ⟨v5,rfl,sS,x5⟩;have Ap:=yA.trans x5;obtain ⟨D0,j2,k2,D1,k3,rfl,-⟩:=id sS.open_;unfold plV;have jY:=jY.ext x5;refine k_t hK (aH.out _ Ap) fun hHeld=>?_
   clear hK K;have hz:=hz.ext x5;refine r_1 4 fun K hK=>?_
   go_simp
   go_at_call 166
   refine (mJ.out _ _ _ _ _ jY sS).mono ?_;rintro e w6 ⟨v6,rfl,hp,x6⟩;have Bh:=Ap.trans x6;obtain ⟨F0,j4,k4,F1,k5,rfl,-⟩:=id hp.open_;unfold plV;refine k_t hK (aH.out _ Bh) fun hHeld=>?_
   clear hK K;refine tk 5 ?_;refine tk 6 ?_;refine tk 7 ?_;have hp:PlV w6 (fun b=>W.heap.size<=b/\b ≠ o) q _:=hp.mono fun b hb=>by have:=Ap.size; have:=hz.1; constructor <;> omega
   have hz:=hz.ext x6;have yE:=Bh;have kK:=hz;have lu:=hp
 case' h10x8 =>
  go_simp;obtain ⟨V,hV⟩:=n_m ((W1.alloc (.cells #[.int .i64 0,.bool false,.slice none 0 0,.slice none 0 0] 33)).drew);obtain ⟨o,ho⟩:=n_m (W1.heap.size);have hz:PBx V (fun _=>False) o Pl.zero:=by rw [<- hV,<- ho]; exact (PBx.new (Pl.xt _ _ none 0 (by omega)) _).ext (Ext.refl _).drew
  have yA:Ext W V:=by rw [<- hV]; exact (y1'.alloc _).drew
  have kR:W.heap.size<=o:=by rw [<- ho]; exact y1'.size
  have pF:o < V.heap.size:=hz.1;have jU:=hid ho.symm;have mO:Ext W1 V:=by rw [<- hV]; exact ((Ext.refl _).alloc _).drew
  try rw [hV]
  try rw [ho]
  refine k_t hK (aH.out _ yA) fun hHeld=>?_
  clear hK K hV ho;refine r_1 1 fun K hK=>?_
  go_simp
  go_at_call 36
  refine (rF.out _ (HX.out.trans yA)).mono ?_;rintro e w4 ⟨v4,rfl,jY,x4⟩;have EH:=yA.trans x4;obtain ⟨C0,j0,k0,C1,k1,rfl,-⟩:=id jY.open_;unfold plV;refine k_t hK (aH.out _ EH) fun hHeld=>?_
  clear hK K;have hz:=hz.ext x4;refine r_1 3 fun K hK=>?_
  go_simp
  go_at_call 36
  refine (DK.out _ (HX.out.trans EH)).mono ?_;rintro e w5 ⟨v5,rfl,sS,x5⟩;have Ap:=EH.trans x5;obtain ⟨D0,j2,k2,D1,k3,rfl,-⟩:=id sS.open_;unfold plV;have jY:=jY.ext x5;refine k_t hK (aH.out _ Ap) fun hHeld=>?_
  clear hK K;have hz:=hz.ext x5;refine r_1 4 fun K hK=>?_
  go_simp
  go_at_call 166
  refine (mJ.out _ _ _ _ _ jY sS).mono ?_;rintro e w6 ⟨v6,rfl,hp,x6⟩;have Bh:=Ap.trans x6;obtain ⟨F0,j4,k4,F1,k5,rfl,-⟩:=id hp.open_;unfold plV;refine k_t hK (aH.out _ Bh) fun hHeld=>?_
  clear hK K;refine tk 5 ?_;refine tk 6 ?_;refine tk 7 ?_;have hp:PlV w6 (fun b=>W.heap.size<=b/\b ≠ o) q _:=hp.mono fun b hb=>by have:=Ap.size; have:=hz.1; constructor <;> omega
  have hz:=hz.ext x6;have yE:=Bh;have kK:=hz;have lu:=hp
 all_goals
  have kU:=kK.2.1;obtain ⟨Z0,zn,zc,Z1,vZ,⟨g0,g1,g2,g3⟩,-⟩:=kK.2.2;refine r_1 9 fun K hK=>?_
  go_simp;clear g0 g1 g2 g3 kU;refine xw (P:=fun V7=>Ext W V7/\PBx V7 (fun b=>W.heap.size<=b) o q) ⟨(((yE.setCell kR _).setCell kR _).setCell kR _).setCell kR _,kK.store lu⟩ (fun V7 mg=>?_);obtain ⟨y9,b9⟩:=mg;refine k_t hK (aH.out _ y9) fun hHeld=>?_
  clear hK K;refine tk 10 ?_;refine w_d ?_;obtain ⟨-,-,C9,n9,k9,D9,k8,⟨g0,g1,g2,g3⟩,p9⟩:=b9;have fZ:=Dn.out;have aS:=HZ.out.ext y9 (by omega);have iw:=hid (qf (q':=fun b=>w.heap.size<=b) (HX.out.trans y9) (by omega) aS p9 (fun b _ hb=>by
   have:=hb.1
   exact ⟨by omega,by omega⟩))
  obtain ⟨⟨z0,z1,z2,z3⟩,zf⟩:=aS;clear y9 p9 fZ kK lu;go_wp2_with fail;obtain ⟨v9,e9,k3,k4⟩:=iw.out;injection e9 with e9
  subst e9;exact bodyPost_ret (v:=.tuple #[plV q (.slice C9 n9 k9) (.slice D9 q.cs.length k8),.int .i64 0]) (by simp [results,Tryz.results163,go_sem,z0,z1,z2,z3,plV]) rfl ⟨_,rfl,k3,k4⟩
theorem jcd {w:World} {q0 q1:Nat->Prop} {f g q:Pl} {E D F Dg:Nat} (v0 v1:Value) (h0:PlV w q0 f v0) (h1:PlV w q1 g v1) (uC:f=g.mul q) (hg:Fit g F Dg) (hq:Fit q E D) (bI:g ≠ Pl.zero) (uF:E+F<=62) (hD:D+Dg+E+4<=1099511627776) :
 Calls Tryz.prog 161 #[v0,v1] w (uf (fun b=>w.heap.size<=b) q w):=by
 have H0:=hid h0;have H1:=hid h1;obtain ⟨A0,m0,e0,B0,f0,rfl,-⟩:=h0.open_;obtain ⟨A1,m1,e1,B1,f1,rfl,-⟩:=h1.open_;obtain ⟨Eo,Wx1,W,gI,jH,rD,iT,aC,bW,hx1,jF,aN,aX,bF,hz⟩:=b_x w f g (.slice A0 m0 e0) (.slice B0 f.cs.length f0) (.slice A1 m1 e1) (.slice B1 g.cs.length f1);have HZ:=hid hz;have HX:=hid ((aC.trans hx1).trans aN);have dJ:=hid aX;have dH:=hid bF;have fZ:W.heap.size=w.heap.size+1+1+1:=jF;clear h0 h1 aC hx1 aN aX bF hz;have HE:=hid (fun (W':World) (hx:Ext w W')=>xb9 _ _ (H0.out.ext hx) (H1.out.ext hx) uC hg hq bI uF hD);obtain ⟨b0,b1,b2,b3⟩:=dJ.out;obtain ⟨d0,d1,d2,d3⟩:=dH.out;unfold plV at HE ⊢;clear uC hg hq bI uF hD;go_enter Tryz.func161,Tryz.ntmps161;go_wp2_with fail;clear gI jH rD;clear b0 b1 b2 b3 d0 d1 d2 d3;refine (HE.out _ HX.out).mono ?_;rintro e w3 ⟨v3,rfl,p3,x3⟩;obtain ⟨D0,j2,k2,D1,k3,rfl,-⟩:=id p3.open_;obtain ⟨Wp,xA⟩:=n_m ((w3.alloc (.cells #[.int .i64 q.lv,.bool q.neg,.slice D0 j2 k2,.slice D1 q.cs.length k3] 33)));have xp:Ext w3 Wp:=by rw [<- xA]; exact (Ext.refl w3).alloc _
 obtain ⟨g0,g1,g2,g3⟩:jb Wp w3.heap.size q (.slice D0 j2 k2) (.slice D1 q.cs.length k3):=by rw [<- xA]; exact jb.new w3 q _ _ _
 have X4:=hid (HX.out.trans (x3.trans xp));have aS:=HZ.out.ext (x3.trans xp) (by omega);have iw:=hid (qf (q':=fun b=>w.heap.size<=b) X4.out (by omega) aS (p3.xo.ext xp) (fun b _ hb=>by have:=hb.1; exact ⟨by omega,by omega⟩));obtain ⟨⟨z0,z1,z2,z3⟩,zf⟩:=aS;clear x3 xp p3 HE;unfold plV;go_wp2_with fail;obtain ⟨v9,e9,u3,u4⟩:=iw.out;injection e9 with e9
 subst e9;exact bodyPost_ret (v:=plV q (.slice D0 j2 k2) (.slice D1 q.cs.length k3)) (by simp [results,Tryz.results161,go_sem,z0,z1,z2,z3,plV]) rfl ⟨_,rfl,u3,u4⟩
theorem zh.zero (l:Int):zh l Pl.zero:=fun ρ ρ' _=>by rw [Pl.qt,Pl.qt]
theorem jcv {l i:Int} (hl:1<=l) (ag:l<=4) (hi:0<=i) {p:Pl} (h:p.Can) {cs:List Pl} (hc:∀ c ∈ cs,zh l c) (hv:∀ ρ,je ρ l cs=p.val ρ) (ρ:Int->Rat):(qi l i p).val ρ=(cs.getD i.toNat Pl.zero).val ρ:=by
 unfold qi;rw [if_neg (by omega)];exact ga9 (qx hl ag h) hc (fun ρ=>by rw [(Pl.q8 hl ag h).val,hv]) _ ρ
theorem ubk {l : Int} {g : List Pl} (hg : ∀ c ∈ g, zh l c) : ∀ (k : Nat) (rest : List Pl), (∀ c ∈ rest, zh l c) -> ∀ c ∈ zt g k rest, zh l c
 | 0,rest,h=>h
 | k+1,rest,h=>ubk hg k (qy g k rest) fun c hc=>by
   obtain ⟨j,-,rfl⟩:=pS.1 hc;have h1:=(yae (P:=zh l) (zh.zero l) h j).mul (yae (P:=zh l) (zh.zero l) hg (g.length - 1))
   split
   · exact h1.sub ((yae (P:=zh l) (zh.zero l) h (g.length - 1+k)).mul (yae (P:=zh l) (zh.zero l) hg (j - k)))
   · exact h1
theorem udf {g:Pl} (hg:g.Can) (h:g ≠ Pl.zero):g.yd ≠ Pl.zero:=fun e=>h (by rw [<- Pl.vp hg,e]; exact Pl.kn)
theorem vco {l:Int} (hl:1<=l) (ag:l<=4) {f g:Pl} (hg:g.Can) (bI:g ≠ Pl.zero) (ρ:Int->Rat):je ρ l (zt ((g.xf l).map Pl.yd) ((f.xf l).length - ((g.xf l).length - 1)) (f.xf l))=(ji l f g).val ρ:=by
 have hz:g.yd.zp=false:=by
  cases e:g.yd.zp
  · rfl
  · exact absurd ((Pl.xj (Pl.ye g)).1 e) (udf hg bI)
 unfold ji uah;rw [if_pos ⟨hl,ag⟩,hz,if_neg (by simp),uz hl ag,gbo hl ag hg,pw]
theorem zay {l i:Int} (hl:1<=l) (ag:l<=4) (hi:0<=i) {f g:Pl} (hf:f.Can) (hg:g.Can) (bI:g ≠ Pl.zero) (ρ:Int->Rat):(qi l i (ji l f g)).val ρ=((zt ((g.xf l).map Pl.yd) ((f.xf l).length - ((g.xf l).length - 1)) (f.xf l)).getD i.toNat Pl.zero).val ρ:=by
 refine jcv hl ag hi (qad l f g) (ubk (fun c hc=>?_) _ _ (qx hl ag hf)) (vco hl ag hg bI) ρ;obtain ⟨d,hd,rfl⟩:=pS.1 hc;exact (qx hl ag hg d hd).yd
section
variable {l:Int} (hl:1<=l) (ag:l<=4) {f g f0 f1 f2 g0 g1 g2:Pl} (hf:f.Can) (hg:g.Can)
include hl ag hf hg
theorem ya7 (ef:f.xf l=[f0,f1,f2]) (eg:g.xf l=[g0,g1]) (ρ:Int->Rat):(qi l 0 (ji l f g)).val ρ=f0.val ρ * g1.val ρ * g1.val ρ - f1.val ρ * g1.val ρ * g0.val ρ+f2.val ρ * g0.val ρ * g0.val ρ:=by
 rw [zay hl ag (by omega) hf hg (qah (l:=l) (by unfold mdg; rw [eg]; simp)),ef,eg];simp [zt,qy,Pl.qD,Pl.z8,Pl.xT,Pl.qt,tO]
 grind
theorem kbj (ef:f.xf l=[f0,f1]) (eg:g.xf l=[g0,g1]) (ρ:Int->Rat):(qi l 0 (ji l f g)).val ρ=f1.val ρ * g0.val ρ - f0.val ρ * g1.val ρ:=by
 rw [zay hl ag (by omega) hf hg (qah (l:=l) (by unfold mdg; rw [eg]; simp)),ef,eg];simp [zt,qy,Pl.qD,Pl.z8,Pl.xT,Pl.qt,tO]
 grind
theorem xa1 (ef:f.xf l=[f0,f1,f2]) (eg:g.xf l=[g0,g1,g2]) (ρ:Int->Rat):(qi l 0 (ji l f g)).val ρ=f2.val ρ * g0.val ρ - f0.val ρ * g2.val ρ/\(qi l 1 (ji l f g)).val ρ=f2.val ρ * g1.val ρ - f1.val ρ * g2.val ρ:=by
 have bI:g ≠ Pl.zero:=qah (l:=l) (by unfold mdg; rw [eg]; simp)
 constructor
 · rw [zay hl ag (by omega) hf hg bI,ef,eg];simp [zt,qy,Pl.qD,Pl.z8,Pl.xT,Pl.qt,tO]
   grind
 · rw [zay hl ag (by omega) hf hg bI,ef,eg];simp [zt,qy,Pl.qD,Pl.z8,Pl.xT,Pl.qt,tO]
   grind
theorem kas (ef:f.xf l=[f0,f1,f2]) (eg:g.xf l=[g0,g1,g2]) (ρ:Int->Rat):(uab l f g).val ρ=(f2.val ρ * g0.val ρ - f0.val ρ * g2.val ρ) * (f2.val ρ * g0.val ρ - f0.val ρ * g2.val ρ) - (f2.val ρ * g1.val ρ - f1.val ρ * g2.val ρ) * (f1.val ρ * g0.val ρ - f0.val ρ * g1.val ρ):=by
 obtain ⟨h0,h1⟩:=xa1 hl ag hf hg ef eg ρ;unfold uab;rw [Pl.z8,Pl.qD,Pl.qD,Pl.z8,Pl.qD,Pl.qD,h0,h1];have e:∀ (p:Pl) (i:Int) (L:List Pl),0<=i->p.xf l=L->qi l i p=L.getD i.toNat Pl.zero:=fun p i L hi e=>by unfold qi; rw [if_neg (by omega),e]
 rw [e f 1 _ (by omega) ef,e f 0 _ (by omega) ef,e g 0 _ (by omega) eg,e g 1 _ (by omega) eg];simp
end
theorem kcv {l i:Int} (hl:1<=l) (ag:l<=4) {p:Pl} (h:p.Can):zh l (qi l i p):=by
 unfold qi
 split
 · exact zh.zero l
 · exact yae (P:=zh l) (zh.zero l) (qx hl ag h) _
theorem vce {l:Int} (hl:1<=l) (ag:l<=4) {p:Pl} (h:p.Can) (hi:zh l p):mdg l p<=0:=by
 by_cases h0:p=Pl.zero
 · rw [(uaw h).2 h0]; omega
 · unfold mdg; rw [(Pl.q8 hl ag h).uniq (ua0 h h0 hi)]; simp
theorem gaj {l:Int} {f g:Pl}:(uab l f g).Can:=Pl.Kx _ _
theorem ybr {l:Int} (hl:1<=l) (ag:l<=4) {f g:Pl} (hf:f.Can) (hg:g.Can):zh l (uab l f g):=by
 have hs:=qad l f g;have k:∀ (i:Int) (p:Pl),p.Can->zh l (qi l i p):=fun i p hp=>kcv hl ag hp
 exact ((k 0 _ hs).mul (k 0 _ hs)).sub ((k 1 _ hs).mul (((k 1 _ hf).mul (k 0 _ hg)).sub ((k 0 _ hf).mul (k 1 _ hg))))
theorem vbt {l:Int} {p:Pl} (h:mdg l p=2):∃ a b c,p.xf l=[a,b,c]:=by
 unfold mdg at h;rcases hL:p.xf l with _ | ⟨a,_ | ⟨b,_ | ⟨c,_ | ⟨d,r⟩⟩⟩⟩ <;> rw [hL] at h <;> simp at h
 · exact ⟨a,b,c,rfl⟩
 · omega
theorem qde {l:Int} {p:Pl} (h:mdg l p=1):∃ a b,p.xf l=[a,b]:=by
 unfold mdg at h;rcases hL:p.xf l with _ | ⟨a,_ | ⟨b,_ | ⟨c,r⟩⟩⟩ <;> rw [hL] at h <;> simp at h
 · exact ⟨a,b,rfl⟩
 · omega
theorem jde {l:Int} {p:Pl} (h:mdg l p=0):∃ a,p.xf l=[a]:=by
 unfold mdg at h;rcases hL:p.xf l with _ | ⟨a,_ | ⟨b,r⟩⟩ <;> rw [hL] at h <;> simp at h
 · exact ⟨a,rfl⟩
 · omega
theorem vci {l:Int} {f g:Pl} (h:ji l f g=Pl.zero):uab l f g=Pl.zero:=Pl.qv gaj Pl.qT fun ρ=>by
 have e:∀ i:Int,qi l i Pl.zero=Pl.zero:=fun i=>by
  unfold qi; split
  · rfl
  · rw [Pl.kt]; rfl
 unfold uab;rw [h,e,e,Pl.z8,Pl.qD,Pl.qD,Pl.qt]
 grind
theorem yb9 {l:Int} (hl:1<=l) (ag:l<=4) {f g:Pl} (h:mdg l (ji l f g)=0):((yl l (ji l f g)).pow 1).mul (ji l f g)=uab l f g:=Pl.qv (Pl.q9 _ _) gaj fun ρ=>by
 obtain ⟨a,ha⟩:=jde h;have hv:=(Pl.q8 hl ag (qad l f g)).val ρ;rw [ha] at hv;simp only [je] at hv;have h0:qi l 0 (ji l f g)=a:=by unfold qi; rw [if_neg (by omega),ha]; rfl
 have h1:qi l 1 (ji l f g)=Pl.zero:=by unfold qi; rw [if_neg (by omega),ha]; rfl
 have hL:yl l (ji l f g)=a:=by unfold yl; rw [ha]; rfl
 unfold uab;rw [h0,h1,hL,Pl.qD,Pl.yW,Pl.z8,Pl.qD,Pl.qD,Pl.qt,<- hv]
 grind
section
variable {l:Int} (hl:1<=l) (ag:l<=4) {f g:Pl} (hf:f.Can) (hg:g.Can) (lZ:mdg l f=2) (dR:mdg l g=2)
include hl ag hf hg lZ dR
theorem ucq (h:mdg l (ji l f g)=1):ji l g (ji l f g)=(yl l g).mul (uab l f g):=by
 obtain ⟨f0,f1,f2,ef⟩:=vbt lZ;obtain ⟨g0,g1,g2,eg⟩:=vbt dR;obtain ⟨c0,c1,ec⟩:=qde h;have hs:=qad l f g;have hm:=va3 hl ag hg hs (qah (l:=l) (by omega));refine Pl.qv (qad _ _ _) (Pl.q9 _ _) fun ρ=>?_
 have h1:=ya7 hl ag hg hs eg ec ρ;rw [va5 hl ag (qad _ _ _) (by omega)] at h1;obtain ⟨k0,k1⟩:=xa1 hl ag hf hg ef eg ρ;have e0:qi l 0 (ji l f g)=c0:=by unfold qi; rw [if_neg (by omega),ec]; rfl
 have e1:qi l 1 (ji l f g)=c1:=by unfold qi; rw [if_neg (by omega),ec]; rfl
 rw [e0] at k0;rw [e1] at k1;have hL:yl l g=g2:=by unfold yl; rw [eg]; rfl
 rw [h1,hL,Pl.qD,kas hl ag hf hg ef eg,k0,k1]
 grind
end
theorem ya8 {l:Int} (hl:1<=l) (ag:l<=4) {f g:Pl} {D:Nat} (hf:Fit f 2 D) (hg:Fit g 2 D):Fit (uab l f g) 24 (8 * D+40):=by
 have hs:=zam hl ag hf hg (by have:B32=4294967296:=rfl; omega);have k:∀ (i:Int) (p:Pl) (E D:Nat),Fit p E D->Fit (qi l i p) E D:=fun i p E D hp=>zat hp
 have h1:=(k 0 _ _ _ hs).mul (k 0 _ _ _ hs);have h2:=((k 1 _ _ _ hf).mul (k 0 _ _ _ hg)).sub ((k 0 _ _ _ hf).mul (k 1 _ _ _ hg));have h3:=h1.sub ((k 1 _ _ _ hs).mul h2);exact h3.mono (by omega) (by omega)
theorem yc2 {l:Int} {f g:Pl} (hf:mdg l f=2) (hg:mdg l g=2):gp l f g=[uab l f g,qi l 1 (ji l f g)]:=by
 unfold gp;rw [hf,hg,if_neg (by omega),if_neg (by omega),if_neg (by omega)]
end Go.Proofs.YtcepajijiabkmaaGreat
