/- Layer 24: pseudo.exact where it divides. -/
import Derived.Test.YtklnlgnnlmdibaaGreatMq47
set_option linter.unusedSimpArgs false
set_option linter.unusedVariables false
set_option maxRecDepth 100000
set_option maxHeartbeats 8000000
namespace Go.Proofs.YtklnlgnnlmdibaaGreat
open Lib (hid)
open Go.RowKit
def uao (q:Nat->Prop) (p:Pl) (b:Bool) (w:World) (e:Ending) (w':World):Prop:=∃ v,e=.returned (.tuple #[v,.bool b])/\PlV w' q p v/\Ext w w'
theorem qb5 {w:World} {q0 q1:Nat->Prop} {g:Pl} (v0 v1:Value) (h0:PlV w q0 Pl.zero v0) (h1:PlV w q1 g v1) :
 Calls Tryz.prog 172 #[v0,v1] w (uao (fun b=>w.heap.size<=b) Pl.zero true w):=by
 have H0:=hid h0;obtain ⟨A0,n0,c0,A1,c1,rfl,-⟩:=h0.open_;obtain ⟨B0,m0,d0,B1,d1,rfl,-⟩:=h1.open_;obtain ⟨Wa,vZ⟩:=n_m ((w.alloc (.cells #[.int .i64 Pl.zero.lv,.bool Pl.zero.neg,.slice A0 n0 c0,.slice A1 Pl.zero.cs.length c1] 35)));obtain ⟨Wb,zN⟩:=n_m ((Wa.alloc (.cells #[.int .i64 g.lv,.bool g.neg,.slice B0 m0 d0,.slice B1 g.cs.length d1] 35)));obtain ⟨W,hW⟩:=n_m ((Wb.alloc (.cells #[.int .i64 0,.bool false,.slice none 0 0,.slice none 0 0] 35)));have OB:Wa.heap.size=w.heap.size+1:=by rw [<- vZ]; simp
 have J7:Wb.heap.size=w.heap.size+1+1:=by rw [<- zN,<- OB]; simp
 have eQ:W.heap.size=w.heap.size+1+1+1:=by rw [<- hW,<- J7]; simp
 have fZ:Ext w Wa:=by rw [<- vZ]; exact (Ext.refl w).alloc _
 have qL:Ext Wa Wb:=by rw [<- zN]; exact (Ext.refl Wa).alloc _
 have iQ:Ext Wb W:=by rw [<- hW]; exact (Ext.refl Wb).alloc _
 have aV:jb W w.heap.size Pl.zero (.slice A0 n0 c0) (.slice A1 Pl.zero.cs.length c1):=by
  have:jb Wa w.heap.size Pl.zero (.slice A0 n0 c0) (.slice A1 Pl.zero.cs.length c1):=by rw [<- vZ]; exact jb.new w _ _ _ _
  exact this.ext (qL.trans iQ) (by omega)
 have hz:jf W (w.heap.size+1+1):=by
  have:jf W Wb.heap.size:=by rw [<- hW]; exact jf.new Wb _
  rw [J7] at this;exact this
 have HX:=hid ((fZ.trans qL).trans iQ);have HZ:=hid hz;have gU:=hid (uab _ (H0.out.ext HX.out) Pl.zero_can);rw [(Pl.zero_isZ Pl.zero_can).2 rfl] at gU;obtain ⟨b0,b1,b2,b3⟩:=aV;generalize hp:Pl.zero=p at H0 gU vZ b0 b1 b2 b3 ⊢;have HP:=hid hp;unfold plV at gU ⊢;clear h0 h1 fZ qL iQ hz hp;go_enter Tryz.func172,Tryz.ntmps172;go_wp2_with fail;clear vZ zN hW b0 b1 b2 b3;refine gU.out.mono ?_;rintro e w1 ⟨rfl,x1⟩;have aQ:=HZ.out.ext x1 (by omega);have bU:=x1.size;have jP:=hid (qf (p:=Pl.zero) (q:=fun _=>False) (q':=fun b=>w.heap.size<=b) (HX.out.trans x1) (by omega) aQ (Pl.zero_v w1 _ none 0 (by omega)) (fun b _ hb=>hb.elim));obtain ⟨⟨z0,z1,z2,z3⟩,zf⟩:=aQ;clear x1 gU;go_wp2_with fail;obtain ⟨v9,e9,k3,k4⟩:=jP.out;injection e9 with e9
 subst e9;exact bodyPost_ret (v:=.tuple #[plV Pl.zero (.slice none 0 0) (.slice none 0 0),.bool true]) (by simp [results,Tryz.results172,go_sem,z0,z1,z2,z3,plV,Pl.zero,Pl.lv,Pl.neg,Pl.cs]) rfl (by rw [<- HP.out]; exact ⟨_,rfl,k3,k4⟩)
theorem gbw {w:World} {q0 q1:Nat->Prop} {f g:Pl} {z:Int} {D Dg:Nat} (v0 v1:Value) (h0:PlV w q0 f v0) (h1:PlV w q1 g v1) (hf:f.Can) (hg:g.Can) (rH:f ≠ Pl.zero) (bI:g ≠ Pl.zero) (fC:f.lv=0) (iK:g.lv=0) (hz:f.z=g.z * z) (hzg:g.z ≠ 0) (hD:f.ds.length<=D) (Py:g.ds.length<=Dg) (DC:D<=1099511627776) (Bv:Dg<=1099511627776) (AU:(dg z.natAbs).length<=35184372088832) :
 Calls Tryz.prog 172 #[v0,v1] w (uao (fun b=>w.heap.size<=b) (Pl.const z) true w):=by
 have H0:=hid h0;have H1:=hid h1;have qC:f.isZ=false:=by
  cases e:f.isZ
  · rfl
  · exact absurd ((Pl.zero_isZ hf).1 e) rH
 obtain ⟨A0,n0,c0,A1,c1,rfl,Iq,-⟩:=h0.open_;obtain ⟨B0,m0,d0,B1,d1,rfl,CW,-⟩:=h1.open_;obtain ⟨Wa,Wb,W,vZ,zN,hW,OB,fZ,J7,qL,eQ,iQ,aV,aX,jI⟩:=b_x w f g (.slice A0 n0 c0) (.slice A1 f.cs.length c1) (.slice B0 m0 d0) (.slice B1 g.cs.length d1);have HX:=hid ((fZ.trans qL).trans iQ);have HZ:=hid jI;have dC:=hid aV;have dG:=hid aX;have gU:=hid (uab _ (H0.out.ext HX.out) hf);rw [qC] at gU;have mM:=hid (fun (W':World) (hx:Ext w W')=>zbk (.agg #[.bool f.neg,.slice A0 n0 c0]) (.agg #[.bool g.neg,.slice B0 m0 d0]) f.z g.z D Dg W' ⟨_,_,_,rfl,Iq.ext hx,rfl,hD⟩ ⟨_,_,_,rfl,CW.ext hx,rfl,Py⟩ (by omega) (by omega) hzg);rw [show f.z.tdiv g.z=z by rw [hz]; exact Int.mul_tdiv_cancel_left z hzg,show f.z.tmod g.z=0 by rw [hz]; exact Int.mul_tmod_right g.z z] at mM;obtain ⟨b0,b1,b2,b3⟩:=aV;have YZ:=hid AU;have HL:=hid (And.intro fC iK);unfold plV at gU ⊢;clear h0 h1 fZ qL iQ jI aX hf hg rH bI hz hzg Iq CW qC AU fC iK;go_enter Tryz.func172,Tryz.ntmps172;go_wp2_with fail;clear vZ zN hW b0 b1 b2 b3;refine gU.out.mono ?_;rintro e w1 ⟨rfl,x1⟩;obtain ⟨b0,b1,b2,b3⟩:=dC.out.ext x1 (by omega);obtain ⟨g0,g1,g2,g3⟩:=dG.out.ext x1 (by omega);rw [HL.out.1] at b0;rw [HL.out.2] at g0;have X1:=hid (HX.out.trans x1);have eY:=hid (HZ.out.ext x1 (by omega));have bU:=x1.size;clear x1 gU;go_wp2_with fail;clear b0 b1 b2 b3 g0 g1 g2 g3;refine (mM.out _ X1.out).mono ?_;rintro e w2 ⟨z1,rfl,m1,x2⟩;rw [if_pos rfl] at m1;rw [if_pos rfl];obtain ⟨s1,rfl,m2⟩:=m1;obtain ⟨C1,k1,rfl,-⟩:=id m2;have HM:=hid m2;have HC:=hid (qaq (L:=35184372088832) (.agg #[.bool (decide (z < 0)),.slice C1 (dg z.natAbs).length k1]) (zar (m2.ext ((Ext.refl w2).alloc (.cells #[.bool (decide (z < 0)),.slice C1 (dg z.natAbs).length k1] 33))) YZ.out) (Nat.le_refl _));have X2:=hid (X1.out.trans x2);have ou:=hid (eY.out.ext x2 (by omega));have jF:=x2.size;clear m2 x2 mM;go_wp2_with fail;refine HC.out.mono ?_;rintro e w3 ⟨v3,rfl,m3,x3⟩;obtain ⟨D0,dU,dW,D1,dV,rfl,-⟩:=id m3.open_;have x4:Ext w2 w3:=((Ext.refl w2).alloc _).trans x3;have aQ:=ou.out.ext x4 (by omega);have jP:=hid (qf (q':=fun b=>w.heap.size<=b) (X2.out.trans x4) (by omega) aQ m3 (fun b _ hb=>by
  have dL:=hb;simp at dL
  exact ⟨by omega,by omega⟩))
 obtain ⟨⟨z0,z1,z2,z3⟩,zf⟩:=aQ;obtain ⟨X,hX⟩:=n_m (Pl.const z);rw [hX] at jP ⊢;have oZ:=hid hX;clear m3 x3 x4 HC hX;unfold plV;go_wp2_with fail;obtain ⟨v9,e9,k3,k4⟩:=jP.out;injection e9 with e9
 subst e9;exact bodyPost_ret (v:=.tuple #[plV X (.slice D0 dU dW) (.slice D1 X.cs.length dV),.bool true]) (by simp [results,Tryz.results172,go_sem,z0,z1,z2,z3,plV]) rfl (by rw [oZ.out]; exact ⟨_,rfl,k3,k4⟩)
theorem qce {w:World} {q0 q1:Nat->Prop} {f g:Pl} {x:Pl} (v0 v1:Value) (h0:PlV w q0 f v0) (h1:PlV w q1 g v1) (hf:f.Can) (rH:f ≠ Pl.zero) (af:g.lv < f.lv) (SQ:0 < f.lv) (Qg:Hid (∀ W',Ext w W'->Calls Tryz.prog 174 #[v0,v1] W' (uao (fun b=>W'.heap.size<=b) x true W'))) :
 Calls Tryz.prog 172 #[v0,v1] w (uao (fun b=>w.heap.size<=b) x true w):=by
 have H0:=hid h0;have H1:=hid h1;have qC:f.isZ=false:=by
  cases e:f.isZ
  · rfl
  · exact absurd ((Pl.zero_isZ hf).1 e) rH
 obtain ⟨A0,n0,c0,A1,c1,rfl,Iq,-⟩:=h0.open_;obtain ⟨B0,m0,d0,B1,d1,rfl,CW,-⟩:=h1.open_;obtain ⟨Wa,Wb,W,vZ,zN,hW,OB,fZ,J7,qL,eQ,iQ,aV,aX,jI⟩:=b_x w f g (.slice A0 n0 c0) (.slice A1 f.cs.length c1) (.slice B0 m0 d0) (.slice B1 g.cs.length d1);have HX:=hid ((fZ.trans qL).trans iQ);have HZ:=hid jI;have dC:=hid aV;have dG:=hid aX;have gU:=hid (uab _ (H0.out.ext HX.out) hf);rw [qC] at gU;obtain ⟨b0,b1,b2,b3⟩:=aV;have kE:=hid (And.intro af SQ);unfold plV at gU Qg ⊢;clear h0 h1 fZ qL iQ jI aX hf rH Iq CW qC af SQ;go_enter Tryz.func172,Tryz.ntmps172;go_wp2_with fail;clear vZ zN hW b0 b1 b2 b3;refine gU.out.mono ?_;rintro e w1 ⟨rfl,x1⟩;obtain ⟨b0,b1,b2,b3⟩:=dC.out.ext x1 (by omega);obtain ⟨g0,g1,g2,g3⟩:=dG.out.ext x1 (by omega);have e1:¬ f.lv < g.lv:=by have:=kE.out; omega
 have e2:(f.lv == 0)=false:=by have:=kE.out; simp; omega
 have e3:¬ f.lv=0:=by have:=kE.out; omega
 have e4:g.lv < f.lv:=kE.out.1;have X1:=hid (HX.out.trans x1);have eY:=hid (HZ.out.ext x1 (by omega));have bU:=x1.size;clear x1 gU;go_wp2_with fail;clear b0 b1 b2 b3 g0 g1 g2 g3;refine (Qg.out _ X1.out).mono ?_;rintro e w3 ⟨v3,rfl,m3,x3⟩;obtain ⟨D0,dU,dW,D1,dV,rfl,-⟩:=id m3.open_;have aQ:=eY.out.ext x3 (by omega);have jP:=hid (qf (q':=fun b=>w.heap.size<=b) (X1.out.trans x3) (by omega) aQ m3 (fun b _ hb=>⟨by omega,by omega⟩));obtain ⟨⟨z0,z1,z2,z3⟩,zf⟩:=aQ;clear m3 x3 Qg;unfold plV;go_wp2_with fail;obtain ⟨v9,e9,k3,k4⟩:=jP.out;injection e9 with e9
 subst e9;exact bodyPost_ret (v:=.tuple #[plV x (.slice D0 dU dW) (.slice D1 x.cs.length dV),.bool true]) (by simp [results,Tryz.results172,go_sem,z0,z1,z2,z3,plV]) rfl ⟨_,rfl,k3,k4⟩
theorem kbh {w:World} {q0 q1:Nat->Prop} {f g:Pl} {xs:List Pl} (v0 v1:Value) (h0:PlV w q0 f v0) (h1:PlV w q1 g v1) (hl:1<=f.lv) (ag:f.lv<=4) (Ht:xs.length=f.cs.length) (hm:f.cs.length<=1000000) (Qg:Hid (∀ k (hk:k < f.cs.length) (pI:k < xs.length) W' v,Ext w W'->PlV W' q0 f.cs[k] v->Calls Tryz.prog 172 #[v,v1] W' (uao (fun b=>W'.heap.size<=b) xs[k] true W'))) (hsz:uk xs<=1073741823) (ig:ww xs<=1099511627776) (vN:(joinL f.lv xs).sz<=1099511627776) :
 Calls Tryz.prog 174 #[v0,v1] w (uao (fun b=>w.heap.size<=b) (joinL f.lv xs) true w):=by
 have H0:=hid h0;have H1:=hid h1;obtain ⟨A0,n0,c0,A1,c1,rfl,Iq,dh,eX,h4⟩:=h0.open_;obtain ⟨B0,m0,d0,B1,d1,rfl,CW,-⟩:=h1.open_;obtain ⟨Wa,Wb,W,vZ,zN,hW,OB,fZ,J7,qL,eQ,iQ,aV,aX,jI⟩:=b_x w f g (.slice A0 n0 c0) (.slice A1 f.cs.length c1) (.slice B0 m0 d0) (.slice B1 g.cs.length d1);have HX:=hid ((fZ.trans qL).trans iQ);have HZ:=hid jI;have dC:=hid aV;have dG:=hid aX;obtain ⟨V,cu,eH,xW,ae⟩:=uw (f.cs.length:Int) (by omega) (by omega) W;rw [Int.toNat_natCast] at cu ae;have dF:=hid (ae (fun b=>w.heap.size+1+1+1<=b));rw [eQ] at cu dF;obtain ⟨b0,b1,b2,b3⟩:=id aV;obtain ⟨e0,e1,e2,e3⟩:=aV.ext eH (by omega);have lL:=hid eH;have H4:=hid h4;have Zd:=hid Ht;unfold plV at Qg ⊢;have jC:=hid (And.intro hsz (And.intro ig vN));clear h0 h1 fZ qL iQ jI aV aX Iq CW eH ae h4 Ht hsz ig vN;go_enter Tryz.func174,Tryz.ntmps174;go_wp2_with fail;clear vZ zN hW cu b0 b1 b2 b3 e0 e1 e2 e3
 go_loopw [18] (fun iv wr=>∃ k:Nat,k<=f.cs.length/\iv=.int .i64 k/\Hid (Ext W wr/\∃ L:List Pl,L.length=f.cs.length/\L.take k=xs.take k/\xh wr (fun b=>w.heap.size+1+1+1<=b) (w.heap.size+1+1+1) L)) (fun iv _=>f.cs.length - (intOf iv).toNat)
 case atStart=>exact ⟨0,Nat.zero_le _,rfl,hid ⟨lL.out,_,List.length_replicate,by simp,dF.out⟩⟩
 case round =>
  obtain ⟨k,hk,rfl,HI⟩:=hrel
  by_cases af:k < f.cs.length
  · obtain ⟨hx,L,mr,tK,ae⟩:=HI.out;have Bc:k < xs.length:=by rw [Zd.out]; exact af
    obtain ⟨ad,C0,j0,i0,C1,j1,i1,rfl,ah,bY,aW⟩:=jc.kid H4.out k af;obtain ⟨a0,a1,a2,a3⟩:=bY.ext (HX.out.trans hx) (by rw [ja]; exact ah);obtain ⟨g0,g1,g2,g3⟩:=dG.out.ext hx (by omega);have HC:=hid (fun (W':World) (hy:Ext wr W')=>Qg.out k af Bc W' _ ((HX.out.trans hx).trans hy) (aW.ext ((HX.out.trans hx).trans hy)));have dO:Hid ((L.set k xs[k]).take (k+1)=xs.take (k+1)):=hid (kad L xs k tK (by omega) Bc);have aA:=hid ae;have mF:=hid hx;have BJ:=hid mr;have gZ:=ae.1;have agO:w.heap.size+1 < wr.heap.size:=by omega
    generalize f.cs[k]=ck at *;generalize xs[k]=xk at *;unfold plV at HC;clear hx mr tK ae bY aW ah HI;go_wp2_with fail;clear a0 a1 a2 a3 g0 g1 g2 g3;refine (HC.out _ ((Ext.refl _).alloc _)).mono ?_;rintro e w2 ⟨v2,rfl,p2,x2⟩;obtain ⟨D0,dU,dW,D1,dV,rfl,-⟩:=id p2.open_;have JK:Ext wr w2:=((Ext.refl wr).alloc _).trans x2;obtain ⟨V9,qF⟩:=n_m (w2.alloc (.cells #[.int .i64 xk.lv,.bool xk.neg,.slice D0 dU dW,.slice D1 xk.cs.length dV] 35));have x9:Ext w2 V9:=by rw [<- qF]; exact (Ext.refl w2).alloc _
    have Bh:jb V9 w2.heap.size xk (.slice D0 dU dW) (.slice D1 xk.cs.length dV):=by rw [<- qF]; exact jb.new w2 xk _ _ _
    have XM:=aA.out.ext (JK.trans x9);obtain ⟨E0,n2,t0,E1,n3,t1,⟨r0,r1,r2,r3⟩,-⟩:=XM.2.2 k (by rw [BJ.out]; exact af);have bF:=XM.2.1;have f0:=bF (k * 4);have f1:=bF (k * 4+1);have f2:=bF (k * 4+2);have f3:=bF (k * 4+3);have dR:=(XM.set_ k (by rw [BJ.out]; exact af) xk ((p2.ext x9).mono fun b hb=>by
     have dL:=hb;simp at dL
     exact ⟨by omega,by omega⟩)).1
    simp only at r0 r1 r2 r3;have dN:=hid dR;have X9:=hid (mF.out.trans (JK.trans x9));have hkl:(k:Int) < (f.cs.length:Int):=by omega
    obtain ⟨b0,b1,b2,b3⟩:=Bh;unfold plV;clear XM dR p2 x2 JK x9 HC aA bF;go_wp2_with fail;clear qF b0 b1 b2 b3 r0 r1 r2 r3 f0 f1 f2 f3;have JC:Hid (Ext W ((((V9.setCell ⟨w.heap.size+1+1+1,k * 4,none⟩ (.int .i64 xk.lv)).setCell ⟨w.heap.size+1+1+1,k * 4+1,none⟩ (.bool xk.neg)).setCell ⟨w.heap.size+1+1+1,k * 4+2,none⟩ (.slice D0 dU dW)).setCell ⟨w.heap.size+1+1+1,k * 4+3,none⟩ (.slice D1 xk.cs.length dV))/\∃ L:List Pl,L.length=f.cs.length/\L.take (k+1)=xs.take (k+1)/\xh ((((V9.setCell ⟨w.heap.size+1+1+1,k * 4,none⟩ (.int .i64 xk.lv)).setCell ⟨w.heap.size+1+1+1,k * 4+1,none⟩ (.bool xk.neg)).setCell ⟨w.heap.size+1+1+1,k * 4+2,none⟩ (.slice D0 dU dW)).setCell ⟨w.heap.size+1+1+1,k * 4+3,none⟩ (.slice D1 xk.cs.length dV)) (fun b=>w.heap.size+1+1+1<=b) (w.heap.size+1+1+1) L):=by
     have Yo:W.heap.size<=w.heap.size+1+1+1:=by omega
     exact hid ⟨(((X9.out.setCell Yo _).setCell Yo _).setCell Yo _).setCell Yo _,L.set k xk,by rw [List.length_set]; exact BJ.out,dO.out,dN.out⟩
    go_roundw
    case rel=>exact ⟨k+1,by omega,by go_num,JC⟩
    case measure=>simp only [intOf]; omega
  · obtain ⟨hx,L,mr,tK,ae⟩:=HI.out;have bH:k=f.cs.length:=by omega
    have pM:L=xs:=by
     have h:=tK;rw [bH,List.take_of_length_le (by omega),List.take_of_length_le (by rw [Zd.out]; omega)] at h;exact h
    have aS:=ae.fin (Nat.le_refl _);rw [pM] at aS;have hJ:=kak (c:=f.cs.length) hl ag aS (by rw [Zd.out]; exact Nat.le_refl _) (by omega) jC.out.1 jC.out.2.1 jC.out.2.2;rw [Zd.out] at hJ;have HJ:=hid hJ;obtain ⟨b0,b1,b2,b3⟩:=dC.out.ext hx (by omega);have mF:=hid hx;have sV:¬ (k:Int) < (f.cs.length:Int):=by omega
    have gZ:=ae.1;have eY:=hid (HZ.out.ext hx (by omega));clear hx mr tK ae pM aS hJ HI;go_wp2_with fail;refine HJ.out.mono ?_;rintro e w3 ⟨v3,rfl,m3,x3⟩;obtain ⟨D0,dU,dW,D1,dV,rfl,-⟩:=id m3.open_;have aQ:=eY.out.ext x3 (by omega);have jP:=hid (qf (q':=fun b=>w.heap.size<=b) ((HX.out.trans mF.out).trans x3) (by omega) aQ m3 (fun b _ hb=>⟨by omega,by omega⟩));obtain ⟨⟨z0,z1,z2,z3⟩,zf⟩:=aQ;obtain ⟨X,hX⟩:=n_m (joinL f.lv xs);rw [hX] at jP ⊢;have oZ:=hid hX;clear m3 x3 HJ hX b0 b1 b2 b3;unfold plV;go_wp2_with fail;obtain ⟨v9,e9,k3,k4⟩:=jP.out;injection e9 with e9
    subst e9;exact bodyPost_ret (v:=.tuple #[plV X (.slice D0 dU dW) (.slice D1 X.cs.length dV),.bool true]) (by simp [results,Tryz.results174,go_sem,z0,z1,z2,z3,plV]) rfl (by rw [oZ.out]; exact ⟨_,rfl,k3,k4⟩)
structure ExW (W : World) (R : Nat) (G Qs : List Pl) (n r : Nat) (wr : World) : Prop where
 ext:Ext W wr
 rows:∃ L M,ExI G Qs n r L/\QuI Qs r M/\xh wr (fun b=>b ≠ R+1) R L/\xh wr (fun b=>b ≠ R) (R+1) M
structure ExV (W : World) (R : Nat) (G Qs : List Pl) (n k j o : Nat) (wi : World) : Prop where
 ext:Ext W wi
 rows:∃ L M,ExJ G Qs n k j L/\QuI Qs k M/\xh wi (fun b=>b ≠ R+1) R L/\xh wi (fun b=>b ≠ R) (R+1) M
 lt:o < wi.heap.size
 box:∃ A0 n0 c0 A1 c1,jb wi o (Qs.getD k Pl.zero) (.slice A0 n0 c0) (.slice A1 (Qs.getD k Pl.zero).cs.length c1)/\PlV wi (fun b=>b ≠ R/\b ≠ R+1) (Qs.getD k Pl.zero) (plV (Qs.getD k Pl.zero) (.slice A0 n0 c0) (.slice A1 (Qs.getD k Pl.zero).cs.length c1))
theorem getD_get {L:List Pl} {i:Nat} (h:i < L.length):L.getD i Pl.zero=L[i]:=by rw [List.getD_eq_getElem?_getD,List.getElem?_eq_getElem h]; rfl
theorem jb5 {w : World} {q0 q1 : Nat -> Prop} {f g q : Pl} {Qs : List Pl} {n : Nat} {l : Int} {E D F Dg : Nat} (v0 v1 : Value) (h0 : PlV w q0 f v0) (h1 : PlV w q1 g v1) (hf : f.Can) (hl : 1 <= l) (ag : l <= 4) (fC : f.lv = l) (iK : g.lv = l) (hG : g.cs.length = n + 1) (hQ : Qs ≠ []) (gK : f.cs = yl Qs g.cs) (hq : joinL l Qs = q) (IX : ∀ c ∈ g.cs, Fit c F Dg) (hfQ : ∀ c ∈ Qs, Fit c E D) (pY : Fit q E D) (uK : E + F <= 62) (hQl : Qs.length <= E + 1) (hGn : n <= F) (hD : D + Dg + E + 4 <= 1099511627776)
 (mM:Hid (∀ k,k < Qs.length->∀ W' v u q2 q3,Ext w W'->PlV W' q2 ((g.cs.getD n Pl.zero).mul (Qs.getD k Pl.zero)) v->PlV W' q3 (g.cs.getD n Pl.zero) u->Calls Tryz.prog 172 #[v,u] W' (uao (fun b=>W'.heap.size<=b) (Qs.getD k Pl.zero) true W'))) :
 Calls Tryz.prog 172 #[v0,v1] w (uao (fun b=>w.heap.size<=b) q true w):=by
 have H0:=hid h0;have H1:=hid h1;have qC:f.isZ=false:=by
  cases e:f.isZ
  · rfl
  · have h:=(Pl.zero_isZ hf).1 e;rw [h] at fC;have:Pl.zero.lv=0:=rfl;omega
 obtain ⟨N,hN⟩:=n_m (Qs.length);obtain ⟨NF,YA⟩:=n_m (f.cs.length);have hN0:0 < N:=by rw [<- hN]; exact List.length_pos_iff.2 hQ
 have Vf:NF=n+N:=by
  have h:=(ExI.start hG hQ).1;rw [<- gK,YA,hN] at h;exact h
 have iV:=hid (ExI.start hG hQ);rw [<- gK,hN] at iV;have HQ0:=hid (QuI.start Qs);rw [hN] at HQ0;obtain ⟨A0,n0,c0,A1,c1,rfl,Iq,dh,eX,h4⟩:=h0.open_;obtain ⟨B0,m0,d0,B1,d1,rfl,CW,eG,uH,g4⟩:=h1.open_;rw [YA] at dh;rw [hG] at eG;obtain ⟨ad,-,-,-,-,-,-,rfl,ah,-⟩:=jc.kid g4 n (by omega);have DD:jc w (fun b=>b < w.heap.size) f.cs A1 0:=jc.turn (Nat.le_refl _) (fun _ _ h=>h) (fun b hb _=>⟨hb,rfl⟩) f.cs A1 0 h4;obtain ⟨Wa,Wb,W,vZ,zN,hW,OB,fZ,J7,qL,eQ,iQ,aV,aX,jI⟩:=b_x w f g (.slice A0 n0 c0) (.slice A1 f.cs.length c1) (.slice B0 m0 d0) (.slice (some ad) g.cs.length d1);have HX:=hid ((fZ.trans qL).trans iQ);have HZ:=hid jI;have dC:=hid aV;have dG:=hid aX;have gU:=hid (uab _ (H0.out.ext HX.out) hf);rw [qC] at gU;obtain ⟨b0,b1,b2,b3⟩:=aV;have G9:=hid (And.intro fC iK);have qZ:=hid (And.intro Vf (And.intro YA hG));have H4:=hid DD;have G4:=hid g4;have Qd:=hid IX;have qK:=hid hfQ;have PU:=hid pY;have HJQ:=hid hq;have DZ:=hid hN;have hNb:N<=63:=by omega
 have aa8:n<=62:=by omega
 have ak3:NF<=125:=by omega
 have hGA:=fun c hc=>(IX c hc).can
 have hQA:=fun c hc=>(hfQ c hc).can
 have VP:=hid (fun (k:Nat) (hk:k < Qs.length)=>wb9 hG hk hQA hGA);have qJ:=hid hG;unfold plV at gU ⊢;clear h0 h1 fZ qL iQ jI aX hf Iq CW qC fC iK h4 DD g4 IX hfQ pY hq gK hN YA Vf hG hGA hQA hQl hGn;have aj1:¬ l < l:=by omega
 have aj0:(l == 0)=false:=by simp; omega
 have ajZ:¬ l=0:=by omega
 go_enter Tryz.func172,Tryz.ntmps172;go_wp2_with fail;clear vZ zN hW b0 b1 b2 b3;refine gU.out.mono ?_;rintro e w1 ⟨rfl,x1⟩;have bU:=x1.size;obtain ⟨R,hR⟩:=n_m (w1.heap.size);obtain ⟨V,cu,eH,xW,nZ⟩:=wa2 NF (by omega) w1;rw [hR] at cu xW nZ;have Fe:jc V (fun b=>b < w.heap.size) f.cs A1 0:=H4.out.ext ((HX.out.trans x1).trans eH);obtain ⟨W2,Uo,-,pq,IY,-,dH⟩:=wa6 (q':=fun b=>b ≠ R+1) (dc:=NF) (sc:=c1) nZ Fe (fun b hb=>by have:=HX.out.size; constructor <;> omega) (by rw [qZ.out.2.1]; exact Nat.le_refl _) 3;rw [qZ.out.2.1,Nat.sub_self,List.replicate_zero,List.append_nil] at dH;rw [qZ.out.2.1] at Uo;have aN:Ext W W2:=IY W (x1.trans eH) (by omega);obtain ⟨V3,KL,Mc,U3,gW⟩:=uw (N:Int) (by omega) (by omega) W2;rw [Int.toNat_natCast] at KL gW;have jF:W2.heap.size=R+1:=by omega
 rw [jF] at KL U3 gW;have dN:Hid (ExW W R g.cs Qs n N V3):=hid ⟨aN.trans Mc,f.cs,List.replicate N Pl.zero,iV.out,HQ0.out,dH.ext Mc,gW _⟩;have UY:Ext W V:=x1.trans eH;obtain ⟨b0,b1,b2,b3⟩:=dC.out.ext x1 (by omega);obtain ⟨g0,g1,g2,g3⟩:=dG.out.ext x1 (by omega);obtain ⟨k0,k1,k2,k3⟩:=dC.out.ext UY (by omega);obtain ⟨e0,e1,e2,e3⟩:=dC.out.ext aN (by omega);rw [G9.out.1] at b0;rw [G9.out.2] at g0;rw [qZ.out.2.1] at b3 k3 e3;rw [qZ.out.2.2] at g3;have Xw:IntKind.i64.wrap (((n+1:Nat):Int) - 1)=(n:Int):=by rw [IntKind.wrap_i64]; omega
 have hwN:IntKind.i64.wrap ((NF:Int) - (n:Int))=(N:Int):=by have:=qZ.out.1; rw [IntKind.wrap_i64]; omega
 have aje:IntKind.i64.wrap ((N:Int) - 1)=(N:Int) - 1:=by rw [IntKind.wrap_i64]; omega
 have ajM:¬ (NF:Int)<=(n:Int):=by have:=qZ.out.1; omega
 have eY:=hid (HZ.out.ext x1 (by omega));have HRB:=hid (And.intro bU hR.symm);have abW:(NF:Int)=((NF:Nat):Int):=rfl;clear x1 gU nZ Fe pq IY dH gW eH Mc aN UY hR iV HQ0 xW U3 jF abW
 go_wp2_with (at_builtin
              refine wpList_copy_run rfl (.tmp 67) (.tmp 69) _ _ rfl _ _ _ _ rfl rfl Uo ?_)
 clear cu KL Uo b0 b1 b2 b3 g0 g1 g2 g3 k0 k1 k2 k3 e0 e1 e2 e3
 go_loopw [11] (fun iv wr=>∃ (c:Int) (r:Nat),c+1=(r:Int)/\r<=N/\iv=.int .i64 c/\Hid (ExW W R g.cs Qs n r wr)) (fun iv _=>(intOf iv+1).toNat)
 case atStart=>exact ⟨(N:Int) - 1,N,by omega,Nat.le_refl _,rfl,dN⟩
 case round =>
  obtain ⟨c,r,hcr,hrN,rfl,HI⟩:=hrel
  by_cases pJ:0<=c
  · obtain ⟨k,rfl⟩:∃ k:Nat,c=(k:Int):=⟨c.toNat,by omega⟩;have Kq:r=k+1:=by omega
    subst Kq;have IB:k < N:=by omega
    have TE:k < Qs.length:=by rw [DZ.out]; exact IB
    obtain ⟨lg,L,M,hL,hM,bM,iH⟩:=HI.out;obtain ⟨M0,MH⟩:∃ M0,M0=n+k:=⟨_,rfl⟩;have MG:M0 < L.length:=by rw [hL.1,DZ.out]; omega
    obtain ⟨C0,oU,oW,C1,uM,oV,Dp,lU⟩:=bM.el M0 MG;have EE:L[M0]=(g.cs.getD n Pl.zero).mul (Qs.getD k Pl.zero):=by
     rw [<- getD_get MG,hL.2 M0 (by omega),MH]; exact VP.out k TE
    obtain ⟨a,ha⟩:=n_m (L[M0]);rw [ha] at Dp lU EE;have hnG:n < g.cs.length:=by rw [qJ.out]; omega
    obtain ⟨ad',D0,j0,i0,D1,j1,i1,rJ,-,jG,pF⟩:=jc.kid (G4.out.ext HX.out) n hnG;injection rJ with rJ
    subst rJ;rw [<- getD_get hnG] at jG pF;obtain ⟨gn,FT⟩:=n_m (g.cs.getD n Pl.zero);rw [FT] at jG pF EE;have gZ:=bM.1;have Vd:=iH.1;have AA:=hid (fun (W':World) (hx:Ext wr W')=>Dp.ext gZ hx);have ZH:=hid (fun (W':World) (hx:Ext wr W')=>jG.ext (lg.trans hx) (by rw [ja]; have:=HX.out.size; omega));have HGB:Hid (∀ W',Ext wr W'->W'.cell? ⟨w.heap.size+1,3,none⟩=some (.slice (some ad) (n+1) d1)):=hid (fun W' hx=>by
     have:=(dG.out.ext (lg.trans hx) (by omega)).2.2.2;rw [qJ.out] at this
     exact this)
    obtain ⟨y,hy⟩:=n_m (Qs.getD k Pl.zero);have HC:=hid (fun (W':World) (hx:Ext wr W')=>mM.out k TE W' _ _ _ _ ((HX.out.trans lg).trans hx) (by rw [FT,<- EE]; exact lU.ext hx) (by rw [FT]; exact pF.ext (lg.trans hx)));rw [hy] at HC;have HY:=hid hy;have HHL:=hid hL;have HHM:=hid hM;have BH:=hid bM;have Zk:=hid iH;have mF:=hid lg;have NK:=hid MH;have hwc:IntKind.i64.wrap ((n:Int)+(k:Int))=(M0:Int):=by rw [IntKind.wrap_i64]; omega
    have hMN:(M0:Int) < (NF:Int):=by have:=qZ.out.1; omega
    have ajL:(n:Int) < (n:Int)+1:=by omega
    have akd:(k:Int) < (N:Int):=by omega
    have OZ:(0:Int)<=(k:Int):=by omega
    have ZK:=hid (show Fit y E D by rw [<- hy]; exact yad qK.out k);have hWr:=lg.size;have Nq:=hid gZ;have Nv:=hid Vd;unfold plV at HC;clear lg hL hM bM iH Dp lU EE ha jG pF FT hy HI MH MG gZ Vd hWr dN;go_upto_region 19 with fail;have y0:Ext wr wr.drew:=(Ext.refl wr).drew;refine wp_region_held_drew (S:=fun W'=>Ext wr W') (by kernel_rfl) y0 (fun hHeld=>?_);refine tk 0 ?_;refine tk 1 ?_;refine tk 2 ?_;refine tk 3 ?_;refine tk 4 ?_;refine tk 5 ?_ (hy:=Or.inl ⟨by rfl,by intro w' aK; obtain ⟨k1,k2,k3,k4⟩:=AA.out w' aK; go_simp; (try (with_reducible rfl))⟩);refine tk 6 ?_;refine tk 7 ?_ (hy:=Or.inl ⟨by rfl,by intro w' aK; have k1:=HGB.out w' aK; go_simp; (try (with_reducible rfl))⟩);refine tk 8 ?_;refine tk 9 ?_;refine tk 10 ?_ (hy:=Or.inl ⟨by rfl,by intro w' aK; obtain ⟨k1,k2,k3,k4⟩:=ZH.out w' aK; go_simp; (try (with_reducible rfl))⟩);refine r_2 11 15 (fun K hK=>?brA) fun K hK=>?brB
    case' brA =>
     go_simp
     go_at_call 172
     refine (HC.out _ y0).mono ?_;rintro e w2 ⟨v2,rfl,p2,x2⟩;have y2:=y0.trans x2;obtain ⟨E0,en0,tV,E1,oQ,rfl,-⟩:=id p2.open_;unfold plV;refine k_t hK y2 fun hHeld=>?_
     clear hK K;refine tk 12 ?_;refine tk 13 ?_;refine tk 14 ?_;refine r_1 15 fun K hK=>?_
     go_simp;obtain ⟨V,hV⟩:=n_m ((w2.alloc (.cells #[.int .i64 0,.bool false,.slice none 0 0,.slice none 0 0] 35)));obtain ⟨o,ho⟩:=n_m (w2.heap.size);have hz:PBx V (fun _=>True) o Pl.zero:=by rw [<- hV,<- ho]; exact PBx.new (Pl.zero_v _ _ none 0 (by omega)) _
     have yV:Ext wr V:=by rw [<- hV]; exact y2.alloc _
     have kM:wr.heap.size<=o:=by rw [<- ho]; exact y2.size
     have hov:o < V.heap.size:=hz.1;have OD:=hid ho.symm;have mQ:Ext w2 V:=by rw [<- hV]; exact (Ext.refl _).alloc _
     try rw [hV]
     try rw [ho]
     refine k_t hK yV fun hHeld=>?_
     clear hK K hV ho;have yE:=yV;have kF:=hz;have nU:PlV V (fun b=>wr.heap.size<=b/\b ≠ o) y _:=(p2.below_.ext mQ).mono fun b hb=>by have:=hb.2; have:=OD.out; have:=y0.size; constructor <;> omega
    case' brB =>
     go_simp;obtain ⟨V,hV⟩:=n_m ((wr.alloc (.cells #[.int .i64 0,.bool false,.slice none 0 0,.slice none 0 0] 35)).drew);obtain ⟨o,ho⟩:=n_m (wr.heap.size);have hz:PBx V (fun _=>True) o Pl.zero:=by rw [<- hV,<- ho]; exact (PBx.new (Pl.zero_v _ _ none 0 (by omega)) _).ext (Ext.refl _).drew
     have yV:Ext wr V:=by rw [<- hV]; exact ((Ext.refl wr).alloc _).drew
     have kM:wr.heap.size<=o:=by rw [<- ho]; exact (Ext.refl wr).size
     have hov:o < V.heap.size:=hz.1;have OD:=hid ho.symm;have mQ:Ext wr V:=by rw [<- hV]; exact ((Ext.refl _).alloc _).drew
     try rw [hV]
     try rw [ho]
     refine k_t hK yV fun hHeld=>?_
     clear hK K hV ho;refine r_1 11 fun K hK=>?_
     go_simp
     go_at_call 172
     refine (HC.out _ yV).mono ?_;rintro e w2 ⟨v2,rfl,p2,x2⟩;have y2:=yV.trans x2;obtain ⟨E0,en0,tV,E1,oQ,rfl,-⟩:=id p2.open_;unfold plV;refine k_t hK y2 fun hHeld=>?_
     clear hK K;refine tk 12 ?_;refine tk 13 ?_;refine tk 14 ?_;have yE:=y2;have kF:=hz.ext x2;have nU:PlV w2 (fun b=>wr.heap.size<=b/\b ≠ o) y _:=p2.mono fun b hb=>by have:=x2.size; have:=OD.out; have:=yV.size; constructor <;> omega
    all_goals
     have nP:=kF.2.1;obtain ⟨Z0,zn,zc,Z1,uT,⟨g0,g1,g2,g3⟩,-⟩:=kF.2.2;refine r_1 16 fun K hK=>?_
     go_simp;clear g0 g1 g2 g3 nP;refine xu (P:=fun V7=>Ext wr V7/\PBx V7 (fun b=>wr.heap.size<=b) o y) ⟨(((yE.setCell kM _).setCell kM _).setCell kM _).setCell kM _,kF.store nU⟩ (fun V7 mf=>?_);obtain ⟨y9,b9⟩:=mf;refine k_t hK y9 fun hHeld=>?_
     clear hK K;refine tk 17 ?_;refine w_d ?_;obtain ⟨XW,-,C9,n9,k9,D9,k8,Bh,p9⟩:=b9;have iG:=hid Bh;have HPX:=hid p9;have X9:=hid y9;clear hHeld kF nU yE AA ZH HGB HC hz yV mQ hov OD;have XP:=Zk.out.ext X9.out;have KR:k < M.length:=by rw [HHM.out.1,DZ.out]; exact IB
     obtain ⟨P0,JO,JQ,P1,JM,JP,⟨u0,u1,u2,u3⟩,-⟩:=XP.el k KR;have pY:=XP.2.1;have f0:=pY (k * 4);have f1:=pY (k * 4+1);have f2:=pY (k * 4+2);have f3:=pY (k * 4+3);obtain ⟨b0,b1,b2,b3⟩:=iG.out;obtain ⟨V8,qX⟩:=n_m (((((V7.setCell ⟨R+1,k * 4,none⟩ (.int .i64 y.lv)).setCell ⟨R+1,k * 4+1,none⟩ (.bool y.neg)).setCell ⟨R+1,k * 4+2,none⟩ (.slice C9 n9 k9)).setCell ⟨R+1,k * 4+3,none⟩ (.slice D9 y.cs.length k8)));obtain ⟨p1,p2,-,p4⟩:=Frr.put (w0:=W) (ws:=V7) (mF.out.trans X9.out) (Frr.refl V7 (R+1)) XP (by have:=HRB.out; omega) KR (HPX.out.mono fun b hb=>⟨by have:=Nq.out; omega,by have:=Nv.out; omega⟩) qX.symm;have ach:V8.heap.size=V7.heap.size:=by rw [<- qX]; simp [World.setCell]
     have CS:o ≠ R+1:=by have:=Nv.out; omega
     have HEV:Hid (ExV W R g.cs Qs n k 0 o V8):=hid ⟨p1,⟨L,M.set k y,HHL.out.toJ,by rw [<- HY.out]; exact HHM.out.step TE,p2.row (BH.out.ext X9.out) (by omega) (fun b hb=>hb),p4⟩,by omega,by
      rw [HY.out]
      exact ⟨C9,n9,k9,D9,k8,⟨(p2.cell XW CS).trans b0,(p2.cell XW CS).trans b1,(p2.cell XW CS).trans b2,(p2.cell XW CS).trans b3⟩,p2.pl (HPX.out.mono fun b hb=>⟨by have:=Nq.out; omega,by have:=Nv.out; omega⟩) fun b hb=>hb.2⟩⟩
     clear XP pY p1 p2 p4 ach CS;go_wp2_with fail;clear qX b0 b1 b2 b3 f0 f1 f2 f3 u0 u1 u2 u3
     go_loopw [107] (fun jv wi=>∃ j,j<=n/\jv=.int .i64 j/\Hid (ExV W R g.cs Qs n k j o wi)) (fun jv _=>n - (intOf jv).toNat)
     case atStart=>exact ⟨0,Nat.zero_le _,rfl,HEV⟩
     case round =>
      obtain ⟨wi,rfl⟩:∃ wi,wi=wr:=⟨wr,rfl⟩;obtain ⟨j,hj,rfl,HI⟩:=hrel
      by_cases Ew:j < n
      · obtain ⟨ET,⟨L',M',hJ,Jf,bM,iH⟩,hoi,E0,en0,tV,E1,oQ,bG,Ig⟩:=HI.out;rw [HY.out] at bG Ig;obtain ⟨m,hm⟩:∃ m,m=j+k:=⟨_,rfl⟩;have X8:m < L'.length:=by rw [hJ.1,DZ.out]; omega
        obtain ⟨C0,oU,oW,C1,uM,oV,Dp,lU⟩:=bM.el m X8;have EE:L'[m]=(xy g.cs Qs n (k+1)).getD m Pl.zero:=by rw [<- getD_get X8,hm]; exact hJ.at_ Ew
        obtain ⟨a,ha⟩:=n_m (L'[m]);rw [ha] at Dp lU EE;have OX:Fit a (E+F) (D+Dg+N):=by rw [EE,<- DZ.out]; exact yad (zca Qd.out qK.out) m
        have hjG:j < g.cs.length:=by rw [qJ.out]; omega
        obtain ⟨ad',G0,Gn,Gq,G1,PE,Gp,rJ,-,jG,pF⟩:=jc.kid (G4.out.ext HX.out) j hjG;injection rJ with rJ
        subst rJ;rw [<- getD_get hjG] at jG pF;obtain ⟨gj,Yg⟩:=n_m (g.cs.getD j Pl.zero);rw [Yg] at jG pF;have uG:Fit gj F Dg:=by rw [<- Yg]; exact yad Qd.out j
        have gZ:=bM.1;have CS:o ≠ R:=by have:=Nq.out; omega
        have AA:=hid (fun (W':World) (hx:Ext wi W')=>Dp.ext gZ hx);have DL:Hid (∀ W',Ext W W'->(uo W' (ad.add (j * 4)) gj (.slice G0 Gn Gq) (.slice G1 PE Gp)/\W'.cell? ⟨w.heap.size+1,3,none⟩=some (.slice (some ad) (n+1) d1))):=hid (fun W' hx=>⟨jG.ext hx (by rw [ja]; have:=HX.out.size; omega),by
         have:=(dG.out.ext hx (by omega)).2.2.2;rw [qJ.out] at this
         exact this⟩)
        have Gx:Hid (∀ W',Ext wi W'->((uo W' (ad.add (j * 4)) gj (.slice G0 Gn Gq) (.slice G1 PE Gp)/\W'.cell? ⟨w.heap.size+1,3,none⟩=some (.slice (some ad) (n+1) d1))/\jb W' o y (.slice E0 en0 tV) (.slice E1 y.cs.length oQ))):=hid (fun W' hx=>⟨DL.out _ (ET.trans hx),bG.ext hx hoi⟩)
        have nJ:Hid (∀ V yy D0 dU dW D1 kX dV,Ext wi V->PlV V (fun b=>wi.heap.size<=b) yy (plV yy (.slice D0 dU dW) (.slice D1 kX dV))->yy=a.sub (y.mul gj)->∀ V8,V8=(((V.setCell ⟨R,m * 4,none⟩ (.int .i64 yy.lv)).setCell ⟨R,m * 4+1,none⟩ (.bool yy.neg)).setCell ⟨R,m * 4+2,none⟩ (.slice D0 dU dW)).setCell ⟨R,m * 4+3,none⟩ (.slice D1 kX dV) ->
         ExV W R g.cs Qs n k (j+1) o V8/\((uo V8 (ad.add (j * 4)) gj (.slice G0 Gn Gq) (.slice G1 PE Gp)/\V8.cell? ⟨w.heap.size+1,3,none⟩=some (.slice (some ad) (n+1) d1))/\jb V8 o y (.slice E0 en0 tV) (.slice E1 y.cs.length oQ))):=hid (by
         intro V yy D0 dU dW D1 kX dV dM hp hyy V8 qX;obtain ⟨p1,p2,-,p4⟩:=Frr.put (w0:=W) (ws:=V) (ET.trans dM) (Frr.refl V R) (bM.ext dM) (by have:=HRB.out; omega) X8 (hp.mono fun b hb=>⟨by have:=iH.1; omega,by omega⟩) qX;have xW:=dM.size;have CQ:o < V.heap.size:=by omega
         obtain ⟨b0,b1,b2,b3⟩:=bG.ext dM hoi;have Uz:jb V8 o y (.slice E0 en0 tV) (.slice E1 y.cs.length oQ):=⟨(p2.cell CQ CS).trans b0,(p2.cell CQ CS).trans b1,(p2.cell CQ CS).trans b2,(p2.cell CQ CS).trans b3⟩;refine ⟨⟨p1,⟨L'.set m yy,M',?_,Jf,p4,p2.row (iH.ext dM) (by omega) (fun b hb=>hb)⟩,Nat.lt_of_lt_of_le CQ p2.size,?_⟩,DL.out _ p1,Uz⟩
         · rw [hm] at EE ⊢;exact hJ.step qJ.out Ew TE (by rw [hyy,EE,Yg,HY.out])
         · rw [HY.out]
           exact ⟨E0,en0,tV,E1,oQ,Uz,p2.pl (Ig.ext dM) fun b hb=>hb.1⟩)
        have rP:=hid lU;have GK:=hid (pF.ext ET);have GH:=hid Ig;have WV:=hid OX;have NU:=hid uG;have mG:=hid gZ;have kY:=hid bM.2.1;have QM:IntKind.i64.wrap ((j:Int)+(k:Int))=(m:Int):=by rw [IntKind.wrap_i64]; omega
        have hmN:(m:Int) < (NF:Int):=by have:=qZ.out.1; omega
        have akf:(j:Int) < (n:Int):=by omega
        have ake:(j:Int) < (n:Int)+1:=by omega
        have Y0:Hid (Ext wi wi.drew):=hid (Ext.refl wi).drew;have hmb:m<=200:=by omega
        clear ET hJ Jf bM iH hoi bG Ig hm X8 Dp lU EE ha OX hjG jG pF Yg uG gZ CS HI DL;go_upto_region 26 with fail;refine wp_region_held_drew (S:=fun W'=>(uo W' (ad.add (j * 4)) gj (.slice G0 Gn Gq) (.slice G1 PE Gp)/\W'.cell? ⟨w.heap.size+1,3,none⟩=some (.slice (some ad) (n+1) d1))/\jb W' o y (.slice E0 en0 tV) (.slice E1 y.cs.length oQ)) (by kernel_rfl) (Gx.out _ Y0.out) (fun hHeld=>?_);refine tk 0 ?_;refine tk 1 ?_;refine tk 2 ?_;refine tk 3 ?_;refine tk 4 ?_;refine tk 5 ?_;refine tk 6 ?_;refine tk 7 ?_;refine tk 8 ?_;refine tk 10 ?_ (hy:=Or.inl ⟨by rfl,by intro w' aK; obtain ⟨⟨⟨k1,k2,k3,k4⟩,k5⟩,k6,k7,k8,k9⟩:=aK; go_simp; (try (with_reducible rfl))⟩);refine tk 11 ?_;refine tk 12 ?_ (hy:=Or.inl ⟨by rfl,by intro w' aK; obtain ⟨⟨⟨k1,k2,k3,k4⟩,k5⟩,k6,k7,k8,k9⟩:=aK; go_simp; (try (with_reducible rfl))⟩);refine tk 13 ?_;refine tk 14 ?_;refine tk 15 ?_ (hy:=Or.inl ⟨by rfl,by intro w' aK; obtain ⟨⟨⟨k1,k2,k3,k4⟩,k5⟩,k6,k7,k8,k9⟩:=aK; go_simp; (try (with_reducible rfl))⟩);refine r_2 9 16 (fun K hK=>?ordA) fun K hK=>?ordB
        case ordA =>
         obtain ⟨e0,e1,e2,e3⟩:=AA.out _ Y0.out;go_simp;refine k_t hK (Gx.out _ Y0.out) fun hHeld=>?_
         clear hK K e0 e1 e2 e3;refine r_1 16 fun K hK=>?_
         go_simp
         go_at_call 17
         refine (qak _ _ (GH.out.ext Y0.out) (GK.out.ext Y0.out) ZK.out NU.out (by omega) (by omega)).mono ?_;rintro e w3 ⟨v3,rfl,m3,x3⟩;obtain ⟨D2,dn2,dc2,D3,dc3,rfl,-⟩:=id m3.open_;have z3:Ext wi w3:=Y0.out.trans x3;refine k_t hK (Gx.out _ z3) fun hHeld=>?_
         clear hK K;refine r_1 17 fun K hK=>?_
         try unfold plV
         go_simp
         go_at_call 29
         refine (yao (D:=D+Dg+N) _ _ (rP.out.ext z3) m3 WV.out ((ZK.out.mul NU.out).mono (by omega) (by omega)) (by omega) (by omega)).mono ?_;rintro e w4 ⟨v4,rfl,m4,x4⟩;obtain ⟨D4,dn4,dc4,D5,dc5,rfl,-⟩:=id m4.open_;have z4:Ext wi w4:=z3.trans x4;refine k_t hK (Gx.out _ z4) fun hHeld=>?_
         clear hK K;refine tk 18 ?_;have Az:=hid (nJ.out _ _ _ _ _ _ _ _ z4 (m4.mono fun b hb=>Nat.le_trans z3.size hb) rfl);obtain ⟨s0,s1,s2,s3⟩:=AA.out _ z4;have f0:=(z4.frozen (p:=⟨R,m * 4,none⟩) mG.out).trans (kY.out _);have f1:=(z4.frozen (p:=⟨R,m * 4+1,none⟩) mG.out).trans (kY.out _);have f2:=(z4.frozen (p:=⟨R,m * 4+2,none⟩) mG.out).trans (kY.out _);have f3:=(z4.frozen (p:=⟨R,m * 4+3,none⟩) mG.out).trans (kY.out _);clear nJ m4 x4 m3 x3 z3;generalize a.add (y.mul gj).opp=yy at *;refine r_1 19 fun K hK=>?_
         unfold plV;go_simp;refine xu (P:=fun V8=>(ExV W R g.cs Qs n k (j+1) o V8/\((uo V8 (ad.add (j * 4)) gj (.slice G0 Gn Gq) (.slice G1 PE Gp)/\V8.cell? ⟨w.heap.size+1,3,none⟩=some (.slice (some ad) (n+1) d1))/\jb V8 o y (.slice E0 en0 tV) (.slice E1 y.cs.length oQ)))) (Az.out _ rfl) (fun V8 qX=>?_);obtain ⟨h8,c8⟩:=qX;refine k_t hK c8 fun hHeld=>?_
         have NH:=hid h8;clear hK K s0 s1 s2 s3 f0 f1 f2 f3 c8 h8 z4;refine w_d ?_;clear hHeld GH rP GK Gx AA Az Y0;go_wp2_with fail
         go_roundw
         case rel=>exact ⟨j+1,by omega,by go_num,NH⟩
         case measure=>simp only [intOf]; omega
        case ordB =>
         go_simp
         go_at_call 17
         refine (qak _ _ (GH.out.ext Y0.out) (GK.out.ext Y0.out) ZK.out NU.out (by omega) (by omega)).mono ?_;rintro e w3 ⟨v3,rfl,m3,x3⟩;obtain ⟨D2,dn2,dc2,D3,dc3,rfl,-⟩:=id m3.open_;have z3:Ext wi w3:=Y0.out.trans x3;refine k_t hK (Gx.out _ z3) fun hHeld=>?_
         clear hK K;refine r_1 9 fun K hK=>?_
         obtain ⟨e0,e1,e2,e3⟩:=AA.out _ z3;go_simp;refine k_t hK (Gx.out _ z3) fun hHeld=>?_
         clear hK K e0 e1 e2 e3;refine r_1 17 fun K hK=>?_
         try unfold plV
         go_simp
         go_at_call 29
         refine (yao (D:=D+Dg+N) _ _ (rP.out.ext z3) m3 WV.out ((ZK.out.mul NU.out).mono (by omega) (by omega)) (by omega) (by omega)).mono ?_;rintro e w4 ⟨v4,rfl,m4,x4⟩;obtain ⟨D4,dn4,dc4,D5,dc5,rfl,-⟩:=id m4.open_;have z4:Ext wi w4:=z3.trans x4;refine k_t hK (Gx.out _ z4) fun hHeld=>?_
         clear hK K;refine tk 18 ?_;have Az:=hid (nJ.out _ _ _ _ _ _ _ _ z4 (m4.mono fun b hb=>Nat.le_trans z3.size hb) rfl);obtain ⟨s0,s1,s2,s3⟩:=AA.out _ z4;have f0:=(z4.frozen (p:=⟨R,m * 4,none⟩) mG.out).trans (kY.out _);have f1:=(z4.frozen (p:=⟨R,m * 4+1,none⟩) mG.out).trans (kY.out _);have f2:=(z4.frozen (p:=⟨R,m * 4+2,none⟩) mG.out).trans (kY.out _);have f3:=(z4.frozen (p:=⟨R,m * 4+3,none⟩) mG.out).trans (kY.out _);clear nJ m4 x4 m3 x3 z3;generalize a.add (y.mul gj).opp=yy at *;refine r_1 19 fun K hK=>?_
         unfold plV;go_simp;refine xu (P:=fun V8=>(ExV W R g.cs Qs n k (j+1) o V8/\((uo V8 (ad.add (j * 4)) gj (.slice G0 Gn Gq) (.slice G1 PE Gp)/\V8.cell? ⟨w.heap.size+1,3,none⟩=some (.slice (some ad) (n+1) d1))/\jb V8 o y (.slice E0 en0 tV) (.slice E1 y.cs.length oQ)))) (Az.out _ rfl) (fun V8 qX=>?_);obtain ⟨h8,c8⟩:=qX;refine k_t hK c8 fun hHeld=>?_
         have NH:=hid h8;clear hK K s0 s1 s2 s3 f0 f1 f2 f3 c8 h8 z4;refine w_d ?_;clear hHeld GH rP GK Gx AA Az Y0;go_wp2_with fail
         go_roundw
         case rel=>exact ⟨j+1,by omega,by go_num,NH⟩
         case measure=>simp only [intOf]; omega
      · have TI:j=n:=by omega
        have hjN:¬ (j:Int) < (n:Int):=by omega
        have HN:Hid (ExW W R g.cs Qs n k wi):=hid (by
         obtain ⟨ET,⟨L',M',hJ,Jf,bM,iH⟩,-⟩:=HI.out;rw [TI] at hJ
         exact ⟨ET,L',M',hJ.toI qJ.out TE,Jf,bM,iH⟩)
        have hwk:IntKind.i64.wrap ((k:Int) - 1)=(k:Int) - 1:=by rw [IntKind.wrap_i64]; omega
        clear HI;go_wp2_with fail
        go_roundw
        case rel=>exact ⟨(k:Int) - 1,k,by omega,by omega,rfl,HN⟩
        case measure=>simp only [intOf]; omega
  · have hr0:r=0:=by omega
    subst hr0;have hcn:¬ (0:Int)<=c:=pJ;obtain ⟨lg,L,M,hL,hM,bM,iH⟩:=HI.out;have hLz:=hL.fin;have hMQ:=hM.fin;have ES:∀ c ∈ List.replicate n Pl.zero,Fit c 62 0:=fun c hc=>by rw [List.eq_of_mem_replicate hc]; exact Fit.zero
    have eu:(List.replicate n Pl.zero).length=n:=List.length_replicate;have ajO:n<=NF:=by have:=qZ.out.1; omega
    have zY:=HRB.out;have WL:Hid (∀ W',Ext wr W'->Calls Tryz.prog 28 #[.slice (some ⟨R,0,none⟩) n NF,.int .i64 l] W' (uf (fun b=>W'.heap.size<=b) Pl.zero W')):=hid (fun W' hx=>by
     have h2:=((bM.take n).ext hx).fin (by omega);rw [hLz] at h2;have h3:=kak (l:=l) (c:=NF) hl ag h2 (by omega) (by omega) (yar ES (by omega) (by omega)) (by have:=jan ES; omega) (by rw [ja8 hl ag]; exact (Fit.zero (E:=0) (D:=0)).copy_ (by omega));rw [eu,ja8 hl ag] at h3
     exact h3)
    have yJ:Hid (∀ W',Ext wr W'->Calls Tryz.prog 28 #[.slice (some ⟨R+1,0,none⟩) N N,.int .i64 l] W' (uf (fun b=>W'.heap.size<=b) q W')):=hid (fun W' hx=>by
     have h2:=(iH.ext hx).fin (by omega);rw [hMQ] at h2;have h3:=kak (l:=l) (c:=N) hl ag h2 (by rw [DZ.out]; exact Nat.le_refl _) (by omega) (yar (E:=62) (fun c hc=>(qK.out c hc).mono (by omega) (Nat.le_refl _)) (by rw [DZ.out]; omega) (by omega)) (by have:=jan qK.out; omega) (by rw [HJQ.out]; exact PU.out.copy_ (by omega));rw [DZ.out,HJQ.out] at h3
     exact h3)
    have HB:Hid (∀ W',Ext wr W'->W'.cell? ⟨w.heap.size,0,none⟩=some (.int .i64 l)):=hid (fun W' hx=>by
     have:=(dC.out.ext (lg.trans hx) (by omega)).1;rw [G9.out.1] at this
     exact this)
    have mF:=hid lg;have Sv:(n:Int)<=(NF:Int):=by omega
    have adu:=hid (HX.out.trans lg);have HZr:=hid (HZ.out.ext lg (by omega));have hWr:=lg.size;clear lg hL hM bM iH hLz hMQ ES eu zY HI mM VP dN H4 G4;go_upto_region 28 with fail;have y0:Ext wr wr.drew:=(Ext.refl wr).drew;refine wp_region_held_drew (S:=fun W'=>Ext wr W') (by kernel_rfl) y0 (fun hHeld=>?_);refine tk 0 ?_;refine tk 1 ?_;refine tk 2 ?_;refine tk 3 ?_;refine tk 4 ?_ (hy:=Or.inl ⟨by rfl,by intro w' aK; have k1:=HB.out w' aK; go_simp; (try (with_reducible rfl))⟩);refine r_1 5 fun K hK=>?_
    go_simp
    go_at_call 28
    refine (WL.out _ y0).mono ?_;rintro e w2 ⟨v2,rfl,p2,x2⟩;have y2:=y0.trans x2;have jT:=uab _ p2 Pl.zero_can;rw [(Pl.zero_isZ Pl.zero_can).2 rfl] at jT;have Ea:=hid jT;obtain ⟨D0,dU,dW,D1,dV,rfl,-⟩:=id p2.open_;unfold plV at Ea;refine k_t hK y2 fun hHeld=>?_
    clear hK K;refine r_1 6 fun K hK=>?_
    unfold plV;go_simp
    go_at_call 32
    refine Ea.out.mono ?_;rintro e w3 ⟨rfl,x3⟩;have y3:=y2.trans x3;refine k_t hK y3 fun hHeld=>?_
    clear hK K;refine tk 7 ?_;refine w_d ?_;have e0:=HB.out _ y3;have HJ:=hid (yJ.out _ y3);have Z3:=hid (adu.out.trans y3);have BF:=hid (HZr.out.ext y3 (by omega));have En:w.heap.size+1+1 < w3.heap.size:=by have:=y3.size; omega
    clear hHeld jT p2 x2 x3 y0 y2 y3 WL yJ HB Ea;go_wp2_with fail;refine HJ.out.mono ?_;rintro e w7 ⟨v8,rfl,m2,x2⟩;obtain ⟨X0,xn0,xc0,X1,xc1,rfl,-⟩:=id m2.open_;have aQ:=BF.out.ext x2 En;have jP:=hid (qf (q':=fun b=>w.heap.size<=b) (Z3.out.trans x2) (by omega) aQ m2 (fun b _ hb=>⟨by omega,by omega⟩));obtain ⟨⟨z0,z1,z2,z3⟩,zf⟩:=aQ;clear m2 x2 HJ e0;unfold plV;go_wp2_with fail;obtain ⟨v9,e9,k3,k4⟩:=jP.out;injection e9 with e9
    subst e9;exact bodyPost_ret (v:=.tuple #[plV q (.slice X0 xn0 xc0) (.slice X1 q.cs.length xc1),.bool true]) (by simp [results,Tryz.results172,go_sem,z0,z1,z2,z3,plV]) rfl ⟨_,rfl,k3,k4⟩
def vc2 (E D F Dg m:Nat):Prop:=∀ (g q:Pl),(g.mul q).lv < (m:Int)->Fit g F Dg->Fit q E D->g ≠ Pl.zero->∀ (w:World) (q0 q1:Nat->Prop) (v0 v1:Value),PlV w q0 (g.mul q) v0->PlV w q1 g v1->Calls Tryz.prog 172 #[v0,v1] w (uao (fun b=>w.heap.size<=b) q true w)
theorem mul_zero_r {g q:Pl} (h:q=Pl.zero):g.mul q=Pl.zero:=Pl.val_uniq (Pl.mul_can _ _) Pl.zero_can fun ρ=>by rw [Pl.mul_val,h,Pl.zero_val]; grind
theorem jct {g q:Pl} (hg:g.Can) (hq:q.Can) (h0:g ≠ Pl.zero) (h1:q ≠ Pl.zero):g.mul q ≠ Pl.zero:=fun e=>by
 rcases Pl.mul_zero hg hq (fun ρ=>by rw [<- Pl.mul_val,e,Pl.zero_val]) with e | e
 · exact h0 e
 · exact h1 e
theorem kcv (z:Int):(Pl.const z).z=z:=by
 have:=xaf (zq z) rfl;have h1:=Pl.const_val (fun _=>0) z;rw [this,Pl.const_val] at h1
 exact_mod_cast h1
theorem ua0 {l:Int} (hl:1<=l) (ag:l<=4) {p:Pl} (h:p.Can) (hp:p.lv<=l):∀ c ∈ p.cfL l,c.lv < l:=fun c hc=>by
 have h1:=Pl.cfL_lv h c hc;have h2:=zbb (by omega) (jah h c hc) (uaa hl ag h c hc);omega
theorem ycc {p:Pl} (h:p.Can) (hl:1<=p.lv):∀ c ∈ p.cs,c.lv < p.lv:=fun c hc=>by
 obtain ⟨lv,ng,ds,cs⟩:=p;exact ((h.kids hl).2.2.2.1.mem c hc).1
theorem vbr {E D F Dg : Nat} (uK : E + F <= 62) (hD : D + Dg + E + 4 <= 1099511627776) : ∀ m, vc2 E D F Dg m
 | 0=>fun g q h=>by have:=(Pl.mul_can g q).lv_nonneg; omega
 | m+1=>by
   have ih:=vbr uK hD m;intro g q af hg hq bI w q0 q1 v0 v1 h0 h1
   by_cases kC:q=Pl.zero
   · rw [mul_zero_r kC] at h0;have:=qb5 v0 v1 h0 h1;rw [kC]; exact this
   have Bg:=Pl.mul_can g q;have rH:=jct hg.can hq.can bI kC;have kD:=Bg.lv_nonneg;have FT:=hg.can.lv_nonneg;have hqn:=hq.can.lv_nonneg;have iK:=xa4 hg.can hq.can bI kC;have ajA:q.lv<=(g.mul q).lv:=by rw [vas]; exact xa4 hq.can hg.can kC bI
   by_cases lX:(g.mul q).lv=0
   · have eg:=xaf hg.can (show g.lv=0 by omega);have eq:=xaf hq.can (show q.lv=0 by omega);have hz:(g.mul q).z=g.z * q.z:=by
      have h2:g.mul q=Pl.const (g.z * q.z):=by rw [<- Pl.const_mul,<- eg,<- eq]
      rw [h2,kcv]
     have hfd:(g.mul q).ds.length<=D+Dg+3:=by have:=(hg.mul hq).dm; have:=Pl.dm_ds (g.mul q); omega
     have jG:g.ds.length<=Dg:=by have:=hg.dm; have:=Pl.dm_ds g; omega
     have yR:(dg q.z.natAbs).length<=35184372088832:=by
      have h3:=hq.dm;rw [eq] at h3;have:=Pl.dm_ds (Pl.const q.z);have h4:(Pl.const q.z).ds=dg q.z.natAbs:=rfl;rw [h4] at this;omega
     have:=gbw (z:=q.z) v0 v1 h0 h1 Bg hg.can rH bI lX (by omega) hz (Pl.z_ne hg.can (by omega) bI) hfd jG (by omega) (by omega) yR;rw [<- eq] at this;exact this
   by_cases lI:g.lv < (g.mul q).lv
   · obtain ⟨e1,e2,e3⟩:=xcv hg.can hq.can bI kC lI;have hqc:∀ c ∈ q.cs,Fit c E D:=fun c hc=>hq.cs hc
     have hlen:q.cs.length<=E+1:=by
      have h4:=zao (l:=q.lv) (by omega) hq.can rfl;have h5:=uu (l:=q.lv) hq.can hq.ex;rw [h4.1] at h5;exact h5
     have fC:q.cs.length=(g.mul q).cs.length:=by rw [e2,List.length_map]
     refine qce v0 v1 h0 h1 Bg rH lI (by omega) (hid fun W' hx=>?_);have:=kbh (xs:=q.cs) v0 v1 (h0.ext hx) (h1.ext hx) (by omega) kD.2 fC (by omega) (hid (fun k hk pI W2 v aN hv=>by
      have ek:(g.mul q).cs[k]=g.mul q.cs[k]:=by
       have:(g.mul q).cs[k]=(q.cs.map fun c=>g.mul c)[k]'(by rw [List.length_map]; exact pI):=by congr 1
       rw [this,List.getElem_map]
      have hkl:(g.mul q).cs[k].lv < (g.mul q).lv:=ycc Bg (by omega) _ (List.getElem_mem hk);rw [ek] at hv hkl
      exact ih g q.cs[k] (by omega) hg (hqc _ (List.getElem_mem pI)) bI W2 _ _ v v1 hv ((h1.ext hx).ext aN))) (yar hqc hlen (by omega)) (by have:=jan hqc; omega) (by rw [<- e1,e3]; exact hq.copy_ (by omega))
     rw [<- e1,e3] at this;exact this
   · obtain ⟨l,hl⟩:∃ l,g.lv=l:=⟨_,rfl⟩;have fC:(g.mul q).lv=l:=by omega
     obtain ⟨e1,e2,e3,e4,e5⟩:=qco hg.can hq.can bI kC (by omega) (by omega);rw [hl] at e1 e2 e3;obtain ⟨n,hn⟩:∃ n,g.cs.length=n+1:=⟨g.cs.length - 1,by omega⟩;have sN:g.cs.length - 1=n:=by omega
     rw [sN] at e5;have FV:∀ c ∈ g.cs,Fit c F Dg:=fun c hc=>hg.cs hc
     have hQf:=Pl.cfL_fit (l:=l) hq;have II:=zao (l:=l) (by omega) hg.can hl;have abC:=uu (l:=l) hg.can hg.ex;rw [II.1] at abC;refine jb5 v0 v1 h0 h1 Bg (by omega) (by omega) fC hl hn e2 e1 e3 FV hQf hq uK (uu hq.can hq.ex) (by omega) hD (hid fun k hk W' v u q2 q3 hx hv hu=>?_);have KX:g.cs.getD n Pl.zero ∈ g.cs:=by rw [getD_get (by omega)]; exact List.getElem_mem _
     have hqm:(q.cfL l).getD k Pl.zero ∈ q.cfL l:=by rw [getD_get hk]; exact List.getElem_mem _
     have h6:=ycc hg.can (by omega) _ KX;have h7:=ua0 (by omega) (by omega) hq.can (by omega) _ hqm;have h8:=Pl.mul_lv (n:=l - 1) (FV _ KX).can (hQf _ hqm).can (by omega) (by omega) (by omega);exact ih _ _ (by omega) (FV _ KX) (hQf _ hqm) e5 W' _ _ v u hv hu
theorem jce {w:World} {q0 q1:Nat->Prop} {g q:Pl} {E D F Dg:Nat} (v0 v1:Value) (h0:PlV w q0 (g.mul q) v0) (h1:PlV w q1 g v1) (hg:Fit g F Dg) (hq:Fit q E D) (bI:g ≠ Pl.zero) (uK:E+F<=62) (hD:D+Dg+E+4<=1099511627776) :
 Calls Tryz.prog 172 #[v0,v1] w (uao (fun b=>w.heap.size<=b) q true w):=
 vbr uK hD 5 g q (by have:=(Pl.mul_can g q).lv_nonneg; omega) hg hq bI w q0 q1 v0 v1 h0 h1
end Go.Proofs.YtklnlgnnlmdibaaGreat
