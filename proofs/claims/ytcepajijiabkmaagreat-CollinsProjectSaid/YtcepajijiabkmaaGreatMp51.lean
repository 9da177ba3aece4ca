/- Layer 41: the fixed example of the statements. -/
import Derived.Test.YtcepajijiabkmaaGreatMp50
set_option linter.unusedSimpArgs false
set_option linter.unusedVariables false

set_option maxRecDepth 100000
set_option maxHeartbeats 8000000
namespace Go.Proofs.YtcepajijiabkmaaGreat
open Lib (hid)
open Go.RowKit
theorem Frr.Kn {V V7:World} {o g:Nat} {p:Pl} {s A:Value} (hf:Frr V o V7) (h:jb V g p s A) (hg:g < V.heap.size) (hn:g ≠ o):jb V7 g p s A:=⟨(hf.cell hg hn).trans h.1,(hf.cell hg hn).trans h.2.1,(hf.cell hg hn).trans h.2.2.1,(hf.cell hg hn).trans h.2.2.2⟩
theorem PBx.Kn {V:World} {Q:Nat->Prop} {g:Nat} {p q:Pl} {s' A':Value} (h:PBx V Q g p):jb ((((V.setCell ⟨g,0,none⟩ (.int .i64 q.lv)).setCell ⟨g,1,none⟩ (.bool q.neg)).setCell ⟨g,2,none⟩ s').setCell ⟨g,3,none⟩ A') g q s' A':=by
 obtain ⟨-,-,A0,n0,c0,A1,c1,h,-⟩:=h;exact h.set
theorem kdd:fQ.lv=2:=rfl
theorem ybj:Fit fQ 2 5:=by
 rw [<- gc2];have h1:=(Pl.zw 1).1.pow 2;have h2:=(Pl.zw 2).1.pow 2;have h3:Fit (Pl.const 1) 2 1:=Fit.const (by decide);exact ((h1.add h2).add h3.z8).mono (by decide) (by decide)
theorem wcp:Fit dQ 2 7:=by
 have h:=uav (l:=2) ybj (by have:B32=4294967296:=rfl; omega);rw [gcg] at h; exact h
theorem xda:Fit sQ 170 1099511627776:=by
 rw [<- xcd];exact (gak (l:=2) (by omega) (by omega) ybj wcp (by have:B32=4294967296:=rfl; omega)).mono (by omega) (by omega)
theorem xdb:xa9 2 [fQ]:=fun r s h=>by
 rcases h with ⟨f,hf,hr,rfl⟩ | ⟨i,j,hi,hj,oI,-⟩
 · rw [pD] at hf;subst hf;rw [xcp,pD] at hr;subst hr;rw [gcg];refine ⟨by rw [gck]; simp,fun W' v0 v1 q0 q1 h0 h1=>?_⟩;exact qb9 v0 v1 (by omega) (by omega) h0 h1 (ybj.mono (F:=2) (G:=7) (by omega) (by omega)) wcp (by omega) (by omega) (by rw [waz]; omega) (by rw [va0]; omega) (by rw [va0]; omega)
 · simp at hi hj; omega
theorem gco (w:World):Calls Tryz.prog 6 #[] w (vao true w):=by
 obtain ⟨X,hX⟩:=n_m (Pl.var 1);obtain ⟨Y,hY⟩:=n_m (Pl.var 2);obtain ⟨O,hO⟩:=n_m (Pl.const 1);have lL:=hid (fun W=>qb8 1 W);have HVY:=hid (fun W=>qb8 2 W);rw [hX] at lL;rw [hY] at HVY;have MK:=hid hX;have Ym:=hid hY;have Yy:=hid hO;clear hX hY;go_enter Tryz.func6,Tryz.ntmps6;go_wp2_with fail;refine (lL.out w).mono ?_;rintro e w1 ⟨v1,rfl,p1,x1⟩;obtain ⟨A1,m1,e1,B1,f1,rfl,-⟩:=id p1.open_;unfold plV;go_wp2_with fail;refine (HVY.out w1).mono ?_;rintro e w2 ⟨v2,rfl,p2,x2⟩;obtain ⟨A2,m2,e2,B2,f2,rfl,-⟩:=id p2.open_;unfold plV;go_wp2_with fail;refine (of_int 1 w2 (by omega) (by omega)).mono ?_;rintro e w3 ⟨v3,rfl,i3,x3⟩;have ig:=hid (xat (L:=1) v3 (by obtain ⟨y,rfl,hy⟩:=i3; exact yau hy (yf (by decide))) (by omega));rw [hO] at ig;obtain ⟨bi,Bi,ni,ci,rfl⟩:=i3.unpack;clear i3 hO;go_wp2_with fail;refine ig.out.mono ?_;rintro e w4 ⟨v4,rfl,p4,x4⟩;obtain ⟨A3,m3,e3,B3,f3,rfl,-⟩:=id p4.open_;unfold plV;obtain ⟨Za,Xx⟩:=n_m ((w4.alloc (.cells #[.int .i64 0,.bool false,.slice none 0 0,.slice none 0 0] 33)));obtain ⟨Zb,Xw⟩:=n_m ((Za.alloc (.cells #[.int .i64 0,.bool false,.slice none 0 0,.slice none 0 0] 33)));obtain ⟨Zc,Xv⟩:=n_m ((Zb.alloc (.cells #[.int .i64 0,.bool false,.slice none 0 0,.slice none 0 0] 33)));obtain ⟨o,ho⟩:=n_m (w4.heap.size);have sa:Za.heap.size=o+1:=by rw [<- Xx]; simp [ho]
 have sb:Zb.heap.size=o+1+1:=by rw [<- Xw]; simp [sa]
 have sv:Zc.heap.size=o+1+1+1:=by rw [<- Xv]; simp [sb]
 have xa:Ext w4 Za:=by rw [<- Xx]; exact (Ext.refl w4).alloc _
 have xb:Ext Za Zb:=by rw [<- Xw]; exact (Ext.refl Za).alloc _
 have xv:Ext Zb Zc:=by rw [<- Xv]; exact (Ext.refl Zb).alloc _
 have xc:=(xa.trans xb).trans xv;have za:PBx Zc (fun _=>False) o Pl.zero:=by
  have h:PBx Za (fun _=>False) w4.heap.size Pl.zero:=by rw [<- Xx]; exact PBx.new (Pl.xt _ _ none 0 (by omega)) _
  rw [ho] at h; exact h.ext (xb.trans xv)
 have zb:PBx Zc (fun _=>False) (o+1) Pl.zero:=by
  have h:PBx Zb (fun _=>False) Za.heap.size Pl.zero:=by rw [<- Xw]; exact PBx.new (Pl.xt _ _ none 0 (by omega)) _
  rw [sa] at h; exact h.ext xv
 have zc:PBx Zc (fun _=>False) (o+1+1) Pl.zero:=by
  have h:PBx Zc (fun _=>False) Zb.heap.size Pl.zero:=by rw [<- Xv]; exact PBx.new (Pl.xt _ _ none 0 (by omega)) _
  rw [sb] at h; exact h
 have q1:PlV Zc (fun b=>b < o) X _:=(((p1.ext ((x2.trans x3).trans x4)).xo.ext xc).mono fun b hb=>by have:=hb.2; omega);have q2:PlV Zc (fun b=>b < o) Y _:=(((p2.ext (x3.trans x4)).xo.ext xc).mono fun b hb=>by have:=hb.2; omega);have q3:PlV Zc (fun b=>b < o) O _:=((p4.xo.ext xc).mono fun b hb=>by have:=hb.2; omega);obtain ⟨Va,OO⟩:=n_m (((((Zc.setCell ⟨o,0,none⟩ (.int .i64 X.lv)).setCell ⟨o,1,none⟩ (.bool X.neg)).setCell ⟨o,2,none⟩ (.slice A1 m1 e1)).setCell ⟨o,3,none⟩ (.slice B1 X.cs.length f1)));obtain ⟨Vb,OM⟩:=n_m (((((Va.setCell ⟨o+1,0,none⟩ (.int .i64 Y.lv)).setCell ⟨o+1,1,none⟩ (.bool Y.neg)).setCell ⟨o+1,2,none⟩ (.slice A2 m2 e2)).setCell ⟨o+1,3,none⟩ (.slice B2 Y.cs.length f2)));obtain ⟨V,hV⟩:=n_m (((((Vb.setCell ⟨o+1+1,0,none⟩ (.int .i64 O.lv)).setCell ⟨o+1+1,1,none⟩ (.bool O.neg)).setCell ⟨o+1+1,2,none⟩ (.slice A3 m3 e3)).setCell ⟨o+1+1,3,none⟩ (.slice B3 O.cs.length f3)));have fa:=za.Vn X.lv X.neg A1 B1 m1 e1 X.cs.length f1;rw [OO] at fa;have ba:PBx Va (fun b=>b < o) o X:=by rw [<- OO]; exact za.store (q1.mono fun b hb=>⟨hb,by omega⟩)
 have NT:=fa.Kb zb (by omega) (fun b hb=>hb.elim);have wH:=fa.Kb zc (by omega) (fun b hb=>hb.elim);have Zh:=fa.pl q2 (fun b hb=>by omega);have q3a:=fa.pl q3 (fun b hb=>by omega);have fb:=NT.Vn Y.lv Y.neg A2 B2 m2 e2 Y.cs.length f2;rw [OM] at fb;have bb:PBx Vb (fun b=>b < o) (o+1) Y:=by rw [<- OM]; exact NT.store (Zh.mono fun b hb=>⟨hb,by omega⟩)
 have ba1:=fb.Kb ba (by omega) (fun b hb=>by omega);have DV:=fb.Kb wH (by omega) (fun b hb=>hb.elim);have Zg:=fb.pl q3a (fun b hb=>by omega);have fc:=DV.Vn O.lv O.neg A3 B3 m3 e3 O.cs.length f3;rw [hV] at fc;have bc:PBx V (fun b=>b < o) (o+1+1) O:=by rw [<- hV]; exact DV.store (Zg.mono fun b hb=>⟨hb,by omega⟩)
 have ba2:=fc.Kb ba1 (by omega) (fun b hb=>by omega);have bb1:=fc.Kb bb (by omega) (fun b hb=>by omega);have VH:=hid (fc.pl (fb.pl (fa.pl q1 (fun b hb=>by omega)) (fun b hb=>by omega)) (fun b hb=>by omega));have Na:=hid (fc.pl (fb.pl Zh (fun b hb=>by omega)) (fun b hb=>by omega));have HP3:=hid (fc.pl Zg (fun b hb=>by omega));have svv:V.heap.size=o+1+1+1:=by rw [<- sv,<- hV,<- OM,<- OO]; simp [World.setCell]
 have xN:Hid (Ext w V):=hid (by
  have h0:Ext w w4:=((x1.trans x2).trans x3).trans x4;have Gz:=h0.size;have a0:w.heap.size<=o:=by omega
  have a1:w.heap.size<=o+1:=by omega
  have a2:w.heap.size<=o+1+1:=by omega
  rw [<- hV,<- OM,<- OO]
  exact (((((((((((((h0.trans xc).setCell a0 _).setCell a0 _).setCell a0 _).setCell a0 _).setCell a1 _).setCell a1 _).setCell a1 _).setCell a1 _).setCell a2 _).setCell a2 _).setCell a2 _).setCell a2 _))
 have dH:Hid (jb V o X (.slice A1 m1 e1) (.slice B1 X.cs.length f1)):=hid (fc.Kn (fb.Kn (by rw [<- OO]; exact za.Kn) ba.1 (by omega)) ba1.1 (by omega));have yB:Hid (jb V (o+1) Y (.slice A2 m2 e2) (.slice B2 Y.cs.length f2)):=hid (fc.Kn (by rw [<- OM]; exact NT.Kn) bb.1 (by omega));have PX:Hid (jb V (o+1+1) O (.slice A3 m3 e3) (.slice B3 O.cs.length f3)):=hid (by rw [<- hV]; exact DV.Kn);have fz:∀ i,Zc.frozen? ⟨o,i,none⟩=false:=za.2.1;have fy:∀ i,Va.frozen? ⟨o+1,i,none⟩=false:=NT.2.1;have fx:∀ i,Vb.frozen? ⟨o+1+1,i,none⟩=false:=DV.2.1;obtain ⟨-,-,P0,pn,pc,P1,pd,⟨a0,a1,a2,a3⟩,-⟩:=id za;obtain ⟨-,-,Q0,qn,qc,Q1,qd,⟨b0,b1,b2,b3'⟩,-⟩:=id NT;obtain ⟨-,-,R0,rn,rc,R1,rd,⟨c0,c1,c2,c3'⟩,-⟩:=id DV;have aH:Hid (∀ W',Ext V W'->(Ext V W'/\(W'.cell? ⟨o,0,none⟩=some (.int .i64 X.lv)/\W'.cell? ⟨o,1,none⟩=some (.bool X.neg)/\W'.cell? ⟨o,2,none⟩=some (.slice A1 m1 e1)/\W'.cell? ⟨o,3,none⟩=some (.slice B1 X.cs.length f1))/\(W'.cell? ⟨(o+1),0,none⟩=some (.int .i64 Y.lv)/\W'.cell? ⟨(o+1),1,none⟩=some (.bool Y.neg)/\W'.cell? ⟨(o+1),2,none⟩=some (.slice A2 m2 e2)/\W'.cell? ⟨(o+1),3,none⟩=some (.slice B2 Y.cs.length f2))/\(W'.cell? ⟨(o+1+1),0,none⟩=some (.int .i64 O.lv)/\W'.cell? ⟨(o+1+1),1,none⟩=some (.bool O.neg)/\W'.cell? ⟨(o+1+1),2,none⟩=some (.slice A3 m3 e3)/\W'.cell? ⟨(o+1+1),3,none⟩=some (.slice B3 O.cs.length f3)))):=hid (fun W' hx=>⟨hx,dH.out.ext hx (by omega),yB.out.ext hx (by omega),PX.out.ext hx (by omega)⟩);have MO:=hid svv;clear p1 p2 p4 x1 x2 x3 x4 xa xb xv xc za zb zc q1 q2 q3 fa ba NT wH Zh q3a fb bb ba1 DV Zg fc bc ba2 bb1 ig lL HVY sv svv;go_upto_region 2 with fail
 try rw [ho]
 clear OO OM hV ho Xx Xw Xv a0 a1 a2 a3 b0 b1 b2 b3' c0 c1 c2 c3' fx fy fz sa sb;have y0:Ext V V.drew:=(Ext.refl V).drew;refine wp_region_held_drew (S:=fun W'=>Ext V W'/\(W'.cell? ⟨o,0,none⟩=some (.int .i64 X.lv)/\W'.cell? ⟨o,1,none⟩=some (.bool X.neg)/\W'.cell? ⟨o,2,none⟩=some (.slice A1 m1 e1)/\W'.cell? ⟨o,3,none⟩=some (.slice B1 X.cs.length f1))/\(W'.cell? ⟨(o+1),0,none⟩=some (.int .i64 Y.lv)/\W'.cell? ⟨(o+1),1,none⟩=some (.bool Y.neg)/\W'.cell? ⟨(o+1),2,none⟩=some (.slice A2 m2 e2)/\W'.cell? ⟨(o+1),3,none⟩=some (.slice B2 Y.cs.length f2))/\(W'.cell? ⟨(o+1+1),0,none⟩=some (.int .i64 O.lv)/\W'.cell? ⟨(o+1+1),1,none⟩=some (.bool O.neg)/\W'.cell? ⟨(o+1+1),2,none⟩=some (.slice A3 m3 e3)/\W'.cell? ⟨(o+1+1),3,none⟩=some (.slice B3 O.cs.length f3))) (by kernel_rfl) (aH.out _ y0) (fun hHeld=>?_);refine tk 0 ?_ (hy:=Or.inl ⟨by rfl,by intro w' aP; obtain ⟨-,⟨k1,k2,k3,k4⟩,⟨k5,k6,k7,k8⟩,k9,k10,k11,k12⟩:=aP; go_simp; (try (with_reducible rfl))⟩);refine tk 2 ?_ (hy:=Or.inl ⟨by rfl,by intro w' aP; obtain ⟨-,⟨k1,k2,k3,k4⟩,⟨k5,k6,k7,k8⟩,k9,k10,k11,k12⟩:=aP; go_simp; (try (with_reducible rfl))⟩);refine tk 5 ?_ (hy:=Or.inl ⟨by rfl,by intro w' aP; obtain ⟨-,⟨k1,k2,k3,k4⟩,⟨k5,k6,k7,k8⟩,k9,k10,k11,k12⟩:=aP; go_simp; (try (with_reducible rfl))⟩);refine r_1 1 fun K hK=>?_
 go_simp
 go_at_call 25
 refine (qal (n:=2) _ (VH.out.ext y0) (by rw [<- MK.out]; exact (Pl.zw 1).1) (by omega) (by omega) (by omega)).mono ?_;rintro e u1 ⟨z1,rfl,p1,x1⟩;obtain ⟨C1,j1,k1,D1,l1,rfl,-⟩:=id p1.open_;have y1:=y0.trans x1;refine k_t hK (aH.out _ y1) fun hHeld=>?_
 clear hK K;refine r_1 3 fun K hK=>?_
 go_simp
 go_at_call 25
 refine (qal (n:=2) _ (Na.out.ext y1) (by rw [<- Ym.out]; exact (Pl.zw 2).1) (by omega) (by omega) (by omega)).mono ?_;rintro e u2 ⟨z2,rfl,p2,x2⟩;obtain ⟨C2,j2,k2,D2,l2,rfl,-⟩:=id p2.open_;have y2:=y1.trans x2;refine k_t hK (aH.out _ y2) fun hHeld=>?_
 clear hK K;refine r_1 4 fun K hK=>?_
 go_simp
 go_at_call 24
 refine (wc0 _ _ (p1.ext x2) p2 (by rw [<- MK.out]; exact (Pl.zw 1).1.pow 2:Fit (X.pow 2) 2 3) (by rw [<- Ym.out]; exact (Pl.zw 2).1.pow 2:Fit (Y.pow 2) 2 3) (by omega) (by omega)).mono ?_;rintro e u3 ⟨z3,rfl,p3,x3⟩;obtain ⟨C3,j3,k3,D3,l3,rfl,-⟩:=id p3.open_;have y3:=y2.trans x3;refine k_t hK (aH.out _ y3) fun hHeld=>?_
 clear hK K;refine r_1 6 fun K hK=>?_
 go_simp
 go_at_call 14
 refine (vaq (E:=2) (D:=4) _ _ p3 (HP3.out.ext y3) (by rw [<- MK.out,<- Ym.out]; exact (((Pl.zw 1).1.pow 2).add ((Pl.zw 2).1.pow 2)).mono (by decide) (by decide)) (by rw [<- Yy.out]; exact Fit.const (by decide)) (by omega) (by omega)).mono ?_;rintro e u4 ⟨z4,rfl,p4,x4⟩;obtain ⟨C4,j4,k4,D4,l4,rfl,-⟩:=id p4.open_;have y4:=y3.trans x4;refine k_t hK (aH.out _ y4) fun hHeld=>?_
 clear hK K;have e4:((X.pow (Int.toNat 2)).add (Y.pow (Int.toNat 2))).add O.z8=fQ:=by rw [<- MK.out,<- Ym.out,<- Yy.out]; exact gc2
 rw [e4] at p4 ⊢;unfold plV;obtain ⟨U,hU⟩:=n_m (u4.alloc (.cells #[.int .i64 fQ.lv,.bool fQ.neg,.slice C4 j4 k4,.slice D4 fQ.cs.length l4] 33));have AU:=zbs (w:=U) (fs:=[fQ]) (c0:=1) (E:=2) (D:=5) (E2:=170) (D2:=1099511627776) (D0:=some ⟨u4.heap.size,0,none⟩) (l:=2) (by omega) (by omega) (by rw [<- hU]; exact kbl p4 _) (by simp) (by omega) (by simp) (fun f hf=>by rw [pD.1 hf]; exact ybj) (by omega) (by omega) (hid xdb) (fun p hp=>by
  rw [ybf] at hp;simp only [pQ,sM,or_false] at hp;rcases hp with rfl | rfl
  · exact (Fit.const (E:=170) (D:=1) (by decide)).mono (by omega) (by omega)
  · exact xda) (by omega) (by omega) (by rw [ybf]; simp) (fun f hf=>by rw [pD.1 hf,kdd]; omega)
 rw [ydb] at AU;have qY:=hid AU;have yU:Ext V U:=by rw [<- hU]; exact y4.alloc _
 clear AU e4 p1 p2 p3 p4;generalize fQ=fq at *;refine r_1 7 fun K hK=>?_
 go_simp
 try rw [hU]
 refine k_t hK (aH.out _ yU) fun hHeld=>?_
 clear hK K hU;refine r_1 8 fun K hK=>?_
 go_simp
 go_at_call 12
 refine qY.out.mono ?_;rintro e U5 ⟨v5,rfl,⟨R0,rc,rfl,o8,qK,Un⟩,x5⟩;have y5:=yU.trans x5;refine k_t hK (aH.out _ y5) fun hHeld=>?_
 clear hK K;refine tk 9 ?_;refine tk 10 ?_;refine tk 11 ?_;refine tk 12 ?_;refine tk 13 ?_;refine w_d ?_;have RZ:[gQ].length=1:=rfl;rw [RZ] at o8 ⊢;obtain ⟨ad,E0,en,ec,E1,UZ,rG,rfl,ah,⟨g0,g1,g2,g3⟩,pg⟩:=Un.ym 0 (by simp);simp only [sY,zbk,tT] at g0 g1 g2 g3 pg;have ady:Hid (zx U5 ad gQ (.slice E0 en ec) (.slice E1 UZ rG)):=hid ⟨g0,g1,g2,g3⟩;have Bl:Hid (∀ W',Ext U5 W'->((W'.cell? ⟨o,0,none⟩=some (.int .i64 X.lv)/\W'.cell? ⟨o,1,none⟩=some (.bool X.neg)/\W'.cell? ⟨o,2,none⟩=some (.slice A1 m1 e1)/\W'.cell? ⟨o,3,none⟩=some (.slice B1 X.cs.length f1))/\(W'.cell? ⟨(o+1+1),0,none⟩=some (.int .i64 O.lv)/\W'.cell? ⟨(o+1+1),1,none⟩=some (.bool O.neg)/\W'.cell? ⟨(o+1+1),2,none⟩=some (.slice A3 m3 e3)/\W'.cell? ⟨(o+1+1),3,none⟩=some (.slice B3 O.cs.length f3))/\(W'.cell? ad=some (.int .i64 gQ.lv)/\W'.cell? ⟨ad.block,ad.off+1,none⟩=some (.bool gQ.neg)/\W'.cell? ⟨ad.block,ad.off+2,none⟩=some (.slice E0 en ec)/\W'.cell? ⟨ad.block,ad.off+3,none⟩=some (.slice E1 UZ rG)))):=hid (fun W' hx=>⟨(aH.out _ (y5.trans hx)).2.1,(aH.out _ (y5.trans hx)).2.2.2,ady.out.ext hx ah⟩);have Gg:=hid pg;have ada:=hid (VH.out.ext y5);have ac7:=hid (HP3.out.ext y5);have Y5:=hid (xN.out.trans y5);have hd5:Ext U5 U5.drew:=(Ext.refl U5).drew;have D5:=hid hd5;have DK:Hid (Fit gQ 2 5):=hid (by rw [<- uc2]; exact (((Pl.zw 1).1.pow 2).add (Fit.const (by decide):Fit (Pl.const 1) 2 1).z8).mono (by decide) (by decide));have oh:Hid ((X.pow (Int.toNat 2)).add O.z8=gQ):=hid (by rw [<- MK.out,<- Yy.out]; exact uc2);have YL:=hid gbi;clear hHeld g0 g1 g2 g3 pg ah Un x5 y5 y4 y3 y2 y1 y0 yU x1 x2 x3 x4 hd5 qY;generalize gQ=gq at *;have Vx:Hid (∀ W',Ext U5 W'->(Ext U5 W'/\W'.cell? ⟨o,0,none⟩=some (.int .i64 X.lv)/\W'.cell? ⟨o,1,none⟩=some (.bool X.neg)/\W'.cell? ⟨o,2,none⟩=some (.slice A1 m1 e1)/\W'.cell? ⟨o,3,none⟩=some (.slice B1 X.cs.length f1)/\W'.cell? ⟨(o+1+1),0,none⟩=some (.int .i64 O.lv)/\W'.cell? ⟨(o+1+1),1,none⟩=some (.bool O.neg)/\W'.cell? ⟨(o+1+1),2,none⟩=some (.slice A3 m3 e3)/\W'.cell? ⟨(o+1+1),3,none⟩=some (.slice B3 O.cs.length f3)/\W'.cell? ad=some (.int .i64 gq.lv)/\W'.cell? ⟨ad.block,ad.off+1,none⟩=some (.bool gq.neg)/\W'.cell? ⟨ad.block,ad.off+2,none⟩=some (.slice E0 en ec)/\W'.cell? ⟨ad.block,ad.off+3,none⟩=some (.slice E1 UZ rG))):=hid (fun W' hx=>by
  obtain ⟨⟨a0,a1,a2,a3⟩,⟨o0,o1,o2,o3⟩,⟨t0,t1,t2,t3⟩⟩:=Bl.out _ hx
  exact ⟨hx,a0,a1,a2,a3,o0,o1,o2,o3,t0,t1,t2,t3⟩)
 have Y0:=D5;clear Bl;go_upto_region 3 with fail
 go_region_held3 (fun W2 => Ext U5 W2 /\ W2.cell? ⟨o, 0, none⟩ = some (.int .i64 X.lv) /\ W2.cell? ⟨o, 1, none⟩ = some (.bool X.neg) /\ W2.cell? ⟨o, 2, none⟩ = some (.slice A1 m1 e1) /\ W2.cell? ⟨o, 3, none⟩ = some (.slice B1 X.cs.length f1) /\ W2.cell? ⟨(o + 1 + 1), 0, none⟩ = some (.int .i64 O.lv) /\ W2.cell? ⟨(o + 1 + 1), 1, none⟩ = some (.bool O.neg) /\ W2.cell? ⟨(o + 1 + 1), 2, none⟩ = some (.slice A3 m3 e3) /\ W2.cell? ⟨(o + 1 + 1), 3, none⟩ = some (.slice B3 O.cs.length f3) /\ W2.cell? ad = some (.int .i64 gq.lv) /\ W2.cell? ⟨ad.block, ad.off + 1, none⟩ = some (.bool gq.neg) /\ W2.cell? ⟨ad.block, ad.off + 2, none⟩ = some (.slice E0 en ec) /\ W2.cell? ⟨ad.block, ad.off + 3, none⟩ = some (.slice E1 UZ rG))
  (first | with_reducible exact Vx.out _ Y0.out | with_reducible exact Vx.out _ y1 | with_reducible exact Vx.out _ y2 | with_reducible exact Vx.out _ y3)
  (first
    | (go_at_call 25
       refine (qal (n:=2) _ (ada.out.ext Y0.out) (by rw [<- MK.out]; exact (Pl.zw 1).1) (by omega) (by omega) (by omega)).mono ?_;rintro e w6 ⟨z6,rfl,p6,x6⟩
       have y1:Ext U5 w6:=Ext.trans Y0.out x6)
    | (go_at_call 14
       refine (vaq (E:=2) (D:=5) _ _ p6 (ac7.out.ext y1) (by rw [<- MK.out]; exact ((Pl.zw 1).1.pow 2).mono (by decide) (by decide)) (by rw [<- Yy.out]; exact Fit.const (by decide)) (by omega) (by omega)).mono ?_;rintro e w7 ⟨z7,rfl,p7,x7⟩
       have y2:Ext U5 w7:=Ext.trans y1 x7)
    | (go_at_call 26
       refine (xbo (E:=2) (D:=5) _ _ (Gg.out.ext y2) p7 (DK.out.small (by omega)) (by have:=DK.out.dm; omega) (by rw [oh.out]; exact DK.out.small (by omega)) (by rw [oh.out]; have:=DK.out.dm; omega) (by rw [Pl.q7 YL.out]; exact DK.out) (by omega)).mono ?_;rintro e w8 ⟨rfl,x8⟩;rw [oh.out,Pl.q7 YL.out,qao rfl]
       have y3:Ext U5 w8:=Ext.trans y2 x8))
 all_goals
  have Y9:=hid (Y5.out.trans y3);clear y1 y2 y3 x6 x7 x8 p6 p7 Vx;go_wp2_with fail;go_ret;exact ⟨rfl,Y9.out⟩
end Go.Proofs.YtcepajijiabkmaaGreat
