/- Layer 41: the fixed example of the statements. -/
import Derived.Test.YtklnlgnnlmdibaaGreatMq51
set_option linter.unusedSimpArgs false
set_option linter.unusedVariables false

set_option maxRecDepth 100000
set_option maxHeartbeats 8000000
namespace Go.Proofs.YtklnlgnnlmdibaaGreat
open Lib (hid)
open Go.RowKit
theorem Frr.box4 {V V7:World} {o g:Nat} {p:Pl} {s A:Value} (hf:Frr V o V7) (h:jb V g p s A) (hg:g < V.heap.size) (hn:g ≠ o):jb V7 g p s A:=⟨(hf.cell hg hn).trans h.1,(hf.cell hg hn).trans h.2.1,(hf.cell hg hn).trans h.2.2.1,(hf.cell hg hn).trans h.2.2.2⟩
theorem PBx.box4 {V:World} {Q:Nat->Prop} {g:Nat} {p q:Pl} {s' A':Value} (h:PBx V Q g p):jb ((((V.setCell ⟨g,0,none⟩ (.int .i64 q.lv)).setCell ⟨g,1,none⟩ (.bool q.neg)).setCell ⟨g,2,none⟩ s').setCell ⟨g,3,none⟩ A') g q s' A':=by
 obtain ⟨-,-,A0,n0,c0,A1,c1,h,-⟩:=h;exact h.set
theorem jc1:fQ.lv=2:=rfl
theorem jbe:Fit fQ 2 5:=by
 rw [<- zcq];have h1:=(Pl.var_fit 1).1.pow 2;have h2:=(Pl.var_fit 2).1.pow 2;have h3:Fit (Pl.const 1) 2 1:=Fit.const (by decide);exact ((h1.add h2).add h3.opp).mono (by decide) (by decide)
theorem uce:Fit dQ 2 7:=by
 have h:=yak (l:=2) jbe (by have:B32=4294967296:=rfl; omega);rw [zb6] at h; exact h
theorem qcx:Fit sQ 170 1099511627776:=by
 rw [<- zb3];exact (gaj (l:=2) (by omega) (by omega) jbe uce (by have:B32=4294967296:=rfl; omega)).mono (by omega) (by omega)
theorem qcy:vbf 2 [fQ]:=fun r s h=>by
 rcases h with ⟨f,hf,hr,rfl⟩ | ⟨i,j,hi,hj,rG,-⟩
 · rw [List.mem_singleton] at hf;subst hf;rw [xce,List.mem_singleton] at hr;subst hr;rw [zb6];refine ⟨by rw [jb9]; simp,fun W' v0 v1 q0 q1 h0 h1=>?_⟩;exact jby v0 v1 (by omega) (by omega) h0 h1 (jbe.mono (F:=2) (G:=7) (by omega) (by omega)) uce (by omega) (by omega) (by rw [vaw]; omega) (by rw [yax]; omega) (by rw [yax]; omega)
 · simp at hi hj; omega
theorem ucd (w:World):Calls Tryz.prog 8 #[] w (qao true w):=by
 obtain ⟨X,hX⟩:=n_m (Pl.var 1);obtain ⟨Y,hY⟩:=n_m (Pl.var 2);obtain ⟨O,hO⟩:=n_m (Pl.const 1);have lL:=hid (fun W=>gbx 1 W);have HVY:=hid (fun W=>gbx 2 W);rw [hX] at lL;rw [hY] at HVY;have MZ:=hid hX;have Y6:=hid hY;have Zp:=hid hO;clear hX hY;go_enter Tryz.func8,Tryz.ntmps8;go_wp2_with fail;refine (lL.out w).mono ?_;rintro e w1 ⟨v1,rfl,p1,x1⟩;obtain ⟨A1,m1,e1,B1,f1,rfl,-⟩:=id p1.open_;unfold plV;go_wp2_with fail;refine (HVY.out w1).mono ?_;rintro e w2 ⟨v2,rfl,p2,x2⟩;obtain ⟨A2,m2,e2,B2,f2,rfl,-⟩:=id p2.open_;unfold plV;go_wp2_with fail;refine (of_int 1 w2 (by omega) (by omega)).mono ?_;rintro e w3 ⟨v3,rfl,i3,x3⟩;have fH:=hid (qaq (L:=1) v3 (by obtain ⟨y,rfl,hy⟩:=i3; exact zar hy (zg (by decide))) (by omega));rw [hO] at fH;obtain ⟨bi,Bi,ni,ci,rfl⟩:=i3.unpack;clear i3 hO;go_wp2_with fail;refine fH.out.mono ?_;rintro e w4 ⟨v4,rfl,p4,x4⟩;obtain ⟨A3,m3,e3,B3,f3,rfl,-⟩:=id p4.open_;unfold plV;obtain ⟨Za,Ym⟩:=n_m ((w4.alloc (.cells #[.int .i64 0,.bool false,.slice none 0 0,.slice none 0 0] 35)));obtain ⟨Zb,Yl⟩:=n_m ((Za.alloc (.cells #[.int .i64 0,.bool false,.slice none 0 0,.slice none 0 0] 35)));obtain ⟨Zc,Yk⟩:=n_m ((Zb.alloc (.cells #[.int .i64 0,.bool false,.slice none 0 0,.slice none 0 0] 35)));obtain ⟨o,ho⟩:=n_m (w4.heap.size);have sa:Za.heap.size=o+1:=by rw [<- Ym]; simp [ho]
 have sb:Zb.heap.size=o+1+1:=by rw [<- Yl]; simp [sa]
 have sv:Zc.heap.size=o+1+1+1:=by rw [<- Yk]; simp [sb]
 have xa:Ext w4 Za:=by rw [<- Ym]; exact (Ext.refl w4).alloc _
 have xb:Ext Za Zb:=by rw [<- Yl]; exact (Ext.refl Za).alloc _
 have xv:Ext Zb Zc:=by rw [<- Yk]; exact (Ext.refl Zb).alloc _
 have xc:=(xa.trans xb).trans xv;have za:PBx Zc (fun _=>False) o Pl.zero:=by
  have h:PBx Za (fun _=>False) w4.heap.size Pl.zero:=by rw [<- Ym]; exact PBx.new (Pl.zero_v _ _ none 0 (by omega)) _
  rw [ho] at h; exact h.ext (xb.trans xv)
 have zb:PBx Zc (fun _=>False) (o+1) Pl.zero:=by
  have h:PBx Zb (fun _=>False) Za.heap.size Pl.zero:=by rw [<- Yl]; exact PBx.new (Pl.zero_v _ _ none 0 (by omega)) _
  rw [sa] at h; exact h.ext xv
 have zc:PBx Zc (fun _=>False) (o+1+1) Pl.zero:=by
  have h:PBx Zc (fun _=>False) Zb.heap.size Pl.zero:=by rw [<- Yk]; exact PBx.new (Pl.zero_v _ _ none 0 (by omega)) _
  rw [sb] at h; exact h
 have q1:PlV Zc (fun b=>b < o) X _:=(((p1.ext ((x2.trans x3).trans x4)).below_.ext xc).mono fun b hb=>by have:=hb.2; omega);have q2:PlV Zc (fun b=>b < o) Y _:=(((p2.ext (x3.trans x4)).below_.ext xc).mono fun b hb=>by have:=hb.2; omega);have q3:PlV Zc (fun b=>b < o) O _:=((p4.below_.ext xc).mono fun b hb=>by have:=hb.2; omega);obtain ⟨Va,Pg⟩:=n_m (((((Zc.setCell ⟨o,0,none⟩ (.int .i64 X.lv)).setCell ⟨o,1,none⟩ (.bool X.neg)).setCell ⟨o,2,none⟩ (.slice A1 m1 e1)).setCell ⟨o,3,none⟩ (.slice B1 X.cs.length f1)));obtain ⟨Vb,Pe⟩:=n_m (((((Va.setCell ⟨o+1,0,none⟩ (.int .i64 Y.lv)).setCell ⟨o+1,1,none⟩ (.bool Y.neg)).setCell ⟨o+1,2,none⟩ (.slice A2 m2 e2)).setCell ⟨o+1,3,none⟩ (.slice B2 Y.cs.length f2)));obtain ⟨V,hV⟩:=n_m (((((Vb.setCell ⟨o+1+1,0,none⟩ (.int .i64 O.lv)).setCell ⟨o+1+1,1,none⟩ (.bool O.neg)).setCell ⟨o+1+1,2,none⟩ (.slice A3 m3 e3)).setCell ⟨o+1+1,3,none⟩ (.slice B3 O.cs.length f3)));have fa:=za.frr X.lv X.neg A1 B1 m1 e1 X.cs.length f1;rw [Pg] at fa;have ba:PBx Va (fun b=>b < o) o X:=by rw [<- Pg]; exact za.store (q1.mono fun b hb=>⟨hb,by omega⟩)
 have Om:=fa.pbx zb (by omega) (fun b hb=>hb.elim);have uT:=fa.pbx zc (by omega) (fun b hb=>hb.elim);have q2a:=fa.pl q2 (fun b hb=>by omega);have q3a:=fa.pl q3 (fun b hb=>by omega);have fb:=Om.frr Y.lv Y.neg A2 B2 m2 e2 Y.cs.length f2;rw [Pe] at fb;have bb:PBx Vb (fun b=>b < o) (o+1) Y:=by rw [<- Pe]; exact Om.store (q2a.mono fun b hb=>⟨hb,by omega⟩)
 have ba1:=fb.pbx ba (by omega) (fun b hb=>by omega);have Ef:=fb.pbx uT (by omega) (fun b hb=>hb.elim);have q3b:=fb.pl q3a (fun b hb=>by omega);have fc:=Ef.frr O.lv O.neg A3 B3 m3 e3 O.cs.length f3;rw [hV] at fc;have bc:PBx V (fun b=>b < o) (o+1+1) O:=by rw [<- hV]; exact Ef.store (q3b.mono fun b hb=>⟨hb,by omega⟩)
 have ba2:=fc.pbx ba1 (by omega) (fun b hb=>by omega);have bb1:=fc.pbx bb (by omega) (fun b hb=>by omega);have Wn:=hid (fc.pl (fb.pl (fa.pl q1 (fun b hb=>by omega)) (fun b hb=>by omega)) (fun b hb=>by omega));have Zo:=hid (fc.pl (fb.pl q2a (fun b hb=>by omega)) (fun b hb=>by omega));have HP3:=hid (fc.pl q3b (fun b hb=>by omega));have svv:V.heap.size=o+1+1+1:=by rw [<- sv,<- hV,<- Pe,<- Pg]; simp [World.setCell]
 have Ae:Hid (Ext w V):=hid (by
  have h0:Ext w w4:=((x1.trans x2).trans x3).trans x4;have Hy:=h0.size;have a0:w.heap.size<=o:=by omega
  have a1:w.heap.size<=o+1:=by omega
  have a2:w.heap.size<=o+1+1:=by omega
  rw [<- hV,<- Pe,<- Pg]
  exact (((((((((((((h0.trans xc).setCell a0 _).setCell a0 _).setCell a0 _).setCell a0 _).setCell a1 _).setCell a1 _).setCell a1 _).setCell a1 _).setCell a2 _).setCell a2 _).setCell a2 _).setCell a2 _))
 have dG:Hid (jb V o X (.slice A1 m1 e1) (.slice B1 X.cs.length f1)):=hid (fc.box4 (fb.box4 (by rw [<- Pg]; exact za.box4) ba.1 (by omega)) ba1.1 (by omega));have yN:Hid (jb V (o+1) Y (.slice A2 m2 e2) (.slice B2 Y.cs.length f2)):=hid (fc.box4 (by rw [<- Pe]; exact Om.box4) bb.1 (by omega));have JI:Hid (jb V (o+1+1) O (.slice A3 m3 e3) (.slice B3 O.cs.length f3)):=hid (by rw [<- hV]; exact Ef.box4);have fz:∀ i,Zc.frozen? ⟨o,i,none⟩=false:=za.2.1;have fy:∀ i,Va.frozen? ⟨o+1,i,none⟩=false:=Om.2.1;have fx:∀ i,Vb.frozen? ⟨o+1+1,i,none⟩=false:=Ef.2.1;obtain ⟨-,-,P0,pn,pc,P1,pd,⟨a0,a1,a2,a3⟩,-⟩:=id za;obtain ⟨-,-,Q0,qn,qc,Q1,qd,⟨b0,b1,b2,b3'⟩,-⟩:=id Om;obtain ⟨-,-,R0,rn,rc,R1,rd,⟨c0,c1,c2,c3'⟩,-⟩:=id Ef;have aG:Hid (∀ W',Ext V W'->(Ext V W'/\(W'.cell? ⟨o,0,none⟩=some (.int .i64 X.lv)/\W'.cell? ⟨o,1,none⟩=some (.bool X.neg)/\W'.cell? ⟨o,2,none⟩=some (.slice A1 m1 e1)/\W'.cell? ⟨o,3,none⟩=some (.slice B1 X.cs.length f1))/\(W'.cell? ⟨(o+1),0,none⟩=some (.int .i64 Y.lv)/\W'.cell? ⟨(o+1),1,none⟩=some (.bool Y.neg)/\W'.cell? ⟨(o+1),2,none⟩=some (.slice A2 m2 e2)/\W'.cell? ⟨(o+1),3,none⟩=some (.slice B2 Y.cs.length f2))/\(W'.cell? ⟨(o+1+1),0,none⟩=some (.int .i64 O.lv)/\W'.cell? ⟨(o+1+1),1,none⟩=some (.bool O.neg)/\W'.cell? ⟨(o+1+1),2,none⟩=some (.slice A3 m3 e3)/\W'.cell? ⟨(o+1+1),3,none⟩=some (.slice B3 O.cs.length f3)))):=hid (fun W' hx=>⟨hx,dG.out.ext hx (by omega),yN.out.ext hx (by omega),JI.out.ext hx (by omega)⟩);have Nj:=hid svv;clear p1 p2 p4 x1 x2 x3 x4 xa xb xv xc za zb zc q1 q2 q3 fa ba Om uT q2a q3a fb bb ba1 Ef q3b fc bc ba2 bb1 fH lL HVY sv svv;go_upto_region 2 with fail
 try rw [ho]
 clear Pg Pe hV ho Ym Yl Yk a0 a1 a2 a3 b0 b1 b2 b3' c0 c1 c2 c3' fx fy fz sa sb;have y0:Ext V V.drew:=(Ext.refl V).drew;refine wp_region_held_drew (S:=fun W'=>Ext V W'/\(W'.cell? ⟨o,0,none⟩=some (.int .i64 X.lv)/\W'.cell? ⟨o,1,none⟩=some (.bool X.neg)/\W'.cell? ⟨o,2,none⟩=some (.slice A1 m1 e1)/\W'.cell? ⟨o,3,none⟩=some (.slice B1 X.cs.length f1))/\(W'.cell? ⟨(o+1),0,none⟩=some (.int .i64 Y.lv)/\W'.cell? ⟨(o+1),1,none⟩=some (.bool Y.neg)/\W'.cell? ⟨(o+1),2,none⟩=some (.slice A2 m2 e2)/\W'.cell? ⟨(o+1),3,none⟩=some (.slice B2 Y.cs.length f2))/\(W'.cell? ⟨(o+1+1),0,none⟩=some (.int .i64 O.lv)/\W'.cell? ⟨(o+1+1),1,none⟩=some (.bool O.neg)/\W'.cell? ⟨(o+1+1),2,none⟩=some (.slice A3 m3 e3)/\W'.cell? ⟨(o+1+1),3,none⟩=some (.slice B3 O.cs.length f3))) (by kernel_rfl) (aG.out _ y0) (fun hHeld=>?_);refine tk 0 ?_ (hy:=Or.inl ⟨by rfl,by intro w' aK; obtain ⟨-,⟨k1,k2,k3,k4⟩,⟨k5,k6,k7,k8⟩,k9,k10,k11,k12⟩:=aK; go_simp; (try (with_reducible rfl))⟩);refine tk 2 ?_ (hy:=Or.inl ⟨by rfl,by intro w' aK; obtain ⟨-,⟨k1,k2,k3,k4⟩,⟨k5,k6,k7,k8⟩,k9,k10,k11,k12⟩:=aK; go_simp; (try (with_reducible rfl))⟩);refine tk 5 ?_ (hy:=Or.inl ⟨by rfl,by intro w' aK; obtain ⟨-,⟨k1,k2,k3,k4⟩,⟨k5,k6,k7,k8⟩,k9,k10,k11,k12⟩:=aK; go_simp; (try (with_reducible rfl))⟩);refine r_1 1 fun K hK=>?_
 go_simp
 go_at_call 19
 refine (xak (n:=2) _ (Wn.out.ext y0) (by rw [<- MZ.out]; exact (Pl.var_fit 1).1) (by omega) (by omega) (by omega)).mono ?_;rintro e u1 ⟨z1,rfl,p1,x1⟩;obtain ⟨C1,j1,k1,D1,l1,rfl,-⟩:=id p1.open_;have y1:=y0.trans x1;refine k_t hK (aG.out _ y1) fun hHeld=>?_
 clear hK K;refine r_1 3 fun K hK=>?_
 go_simp
 go_at_call 19
 refine (xak (n:=2) _ (Zo.out.ext y1) (by rw [<- Y6.out]; exact (Pl.var_fit 2).1) (by omega) (by omega) (by omega)).mono ?_;rintro e u2 ⟨z2,rfl,p2,x2⟩;obtain ⟨C2,j2,k2,D2,l2,rfl,-⟩:=id p2.open_;have y2:=y1.trans x2;refine k_t hK (aG.out _ y2) fun hHeld=>?_
 clear hK K;refine r_1 4 fun K hK=>?_
 go_simp
 go_at_call 23
 refine (wco _ _ (p1.ext x2) p2 (by rw [<- MZ.out]; exact (Pl.var_fit 1).1.pow 2:Fit (X.pow 2) 2 3) (by rw [<- Y6.out]; exact (Pl.var_fit 2).1.pow 2:Fit (Y.pow 2) 2 3) (by omega) (by omega)).mono ?_;rintro e u3 ⟨z3,rfl,p3,x3⟩;obtain ⟨C3,j3,k3,D3,l3,rfl,-⟩:=id p3.open_;have y3:=y2.trans x3;refine k_t hK (aG.out _ y3) fun hHeld=>?_
 clear hK K;refine r_1 6 fun K hK=>?_
 go_simp
 go_at_call 29
 refine (yao (E:=2) (D:=4) _ _ p3 (HP3.out.ext y3) (by rw [<- MZ.out,<- Y6.out]; exact (((Pl.var_fit 1).1.pow 2).add ((Pl.var_fit 2).1.pow 2)).mono (by decide) (by decide)) (by rw [<- Zp.out]; exact Fit.const (by decide)) (by omega) (by omega)).mono ?_;rintro e u4 ⟨z4,rfl,p4,x4⟩;obtain ⟨C4,j4,k4,D4,l4,rfl,-⟩:=id p4.open_;have y4:=y3.trans x4;refine k_t hK (aG.out _ y4) fun hHeld=>?_
 clear hK K;have e4:((X.pow (Int.toNat 2)).add (Y.pow (Int.toNat 2))).add O.opp=fQ:=by rw [<- MZ.out,<- Y6.out,<- Zp.out]; exact zcq
 rw [e4] at p4 ⊢;unfold plV;obtain ⟨U,hU⟩:=n_m (u4.alloc (.cells #[.int .i64 fQ.lv,.bool fQ.neg,.slice C4 j4 k4,.slice D4 fQ.cs.length l4] 35));have AZ:=za2 (w:=U) (fs:=[fQ]) (c0:=1) (E:=2) (D:=5) (E2:=170) (D2:=1099511627776) (D0:=some ⟨u4.heap.size,0,none⟩) (l:=2) (by omega) (by omega) (by rw [<- hU]; exact gbg p4 _) (by simp) (by omega) (by simp) (fun f hf=>by rw [List.mem_singleton.1 hf]; exact jbe) (by omega) (by omega) (hid qcy) (fun p hp=>by
  rw [ybb] at hp;simp only [List.mem_cons,List.not_mem_nil,or_false] at hp;rcases hp with rfl | rfl
  · exact (Fit.const (E:=170) (D:=1) (by decide)).mono (by omega) (by omega)
  · exact qcx) (by omega) (by omega) (by rw [ybb]; simp) (fun f hf=>by rw [List.mem_singleton.1 hf,jc1]; omega)
 rw [xcy] at AZ;have rO:=hid AZ;have yU:Ext V U:=by rw [<- hU]; exact y4.alloc _
 clear AZ e4 p1 p2 p3 p4;generalize fQ=fq at *;refine r_1 7 fun K hK=>?_
 go_simp
 try rw [hU]
 refine k_t hK (aG.out _ yU) fun hHeld=>?_
 clear hK K hU;refine r_1 8 fun K hK=>?_
 go_simp
 go_at_call 10
 refine rO.out.mono ?_;rintro e U5 ⟨v5,rfl,⟨R0,rc,rfl,mX,pz,UQ⟩,x5⟩;have y5:=yU.trans x5;refine k_t hK (aG.out _ y5) fun hHeld=>?_
 clear hK K;refine tk 9 ?_;refine tk 10 ?_;refine tk 11 ?_;refine tk 12 ?_;refine tk 13 ?_;refine w_d ?_;have SY:[gQ].length=1:=rfl;rw [SY] at mX ⊢;obtain ⟨ad,E0,en,ec,E1,Vy,oQ,rfl,ah,⟨g0,g1,g2,g3⟩,pF⟩:=UQ.kid 0 (by simp);simp only [Nat.zero_mul,xbf,List.getElem_cons_zero] at g0 g1 g2 g3 pF;have aex:Hid (uo U5 ad gQ (.slice E0 en ec) (.slice E1 Vy oQ)):=hid ⟨g0,g1,g2,g3⟩;have BO:Hid (∀ W',Ext U5 W'->((W'.cell? ⟨o,0,none⟩=some (.int .i64 X.lv)/\W'.cell? ⟨o,1,none⟩=some (.bool X.neg)/\W'.cell? ⟨o,2,none⟩=some (.slice A1 m1 e1)/\W'.cell? ⟨o,3,none⟩=some (.slice B1 X.cs.length f1))/\(W'.cell? ⟨(o+1+1),0,none⟩=some (.int .i64 O.lv)/\W'.cell? ⟨(o+1+1),1,none⟩=some (.bool O.neg)/\W'.cell? ⟨(o+1+1),2,none⟩=some (.slice A3 m3 e3)/\W'.cell? ⟨(o+1+1),3,none⟩=some (.slice B3 O.cs.length f3))/\(W'.cell? ad=some (.int .i64 gQ.lv)/\W'.cell? ⟨ad.block,ad.off+1,none⟩=some (.bool gQ.neg)/\W'.cell? ⟨ad.block,ad.off+2,none⟩=some (.slice E0 en ec)/\W'.cell? ⟨ad.block,ad.off+3,none⟩=some (.slice E1 Vy oQ)))):=hid (fun W' hx=>⟨(aG.out _ (y5.trans hx)).2.1,(aG.out _ (y5.trans hx)).2.2.2,aex.out.ext hx ah⟩);have GK:=hid pF;have ad5:=hid (Wn.out.ext y5);have adZ:=hid (HP3.out.ext y5);have Y5:=hid (Ae.out.trans y5);have hd5:Ext U5 U5.drew:=(Ext.refl U5).drew;have D5:=hid hd5;have Eb:Hid (Fit gQ 2 5):=hid (by rw [<- wcp]; exact (((Pl.var_fit 1).1.pow 2).add (Fit.const (by decide):Fit (Pl.const 1) 2 1).opp).mono (by decide) (by decide));have oI:Hid ((X.pow (Int.toNat 2)).add O.opp=gQ):=hid (by rw [<- MZ.out,<- Zp.out]; exact wcp);have ZI:=hid xbe;clear hHeld g0 g1 g2 g3 pF ah UQ x5 y5 y4 y3 y2 y1 y0 yU x1 x2 x3 x4 hd5 rO;generalize gQ=gq at *;have Np:Hid (∀ W',Ext U5 W'->(Ext U5 W'/\W'.cell? ⟨o,0,none⟩=some (.int .i64 X.lv)/\W'.cell? ⟨o,1,none⟩=some (.bool X.neg)/\W'.cell? ⟨o,2,none⟩=some (.slice A1 m1 e1)/\W'.cell? ⟨o,3,none⟩=some (.slice B1 X.cs.length f1)/\W'.cell? ⟨(o+1+1),0,none⟩=some (.int .i64 O.lv)/\W'.cell? ⟨(o+1+1),1,none⟩=some (.bool O.neg)/\W'.cell? ⟨(o+1+1),2,none⟩=some (.slice A3 m3 e3)/\W'.cell? ⟨(o+1+1),3,none⟩=some (.slice B3 O.cs.length f3)/\W'.cell? ad=some (.int .i64 gq.lv)/\W'.cell? ⟨ad.block,ad.off+1,none⟩=some (.bool gq.neg)/\W'.cell? ⟨ad.block,ad.off+2,none⟩=some (.slice E0 en ec)/\W'.cell? ⟨ad.block,ad.off+3,none⟩=some (.slice E1 Vy oQ))):=hid (fun W' hx=>by
  obtain ⟨⟨a0,a1,a2,a3⟩,⟨o0,o1,o2,o3⟩,⟨t0,t1,t2,t3⟩⟩:=BO.out _ hx
  exact ⟨hx,a0,a1,a2,a3,o0,o1,o2,o3,t0,t1,t2,t3⟩)
 have Y0:=D5;clear BO;go_upto_region 3 with fail
 go_region_held3 (fun W2 => Ext U5 W2 /\ W2.cell? ⟨o, 0, none⟩ = some (.int .i64 X.lv) /\ W2.cell? ⟨o, 1, none⟩ = some (.bool X.neg) /\ W2.cell? ⟨o, 2, none⟩ = some (.slice A1 m1 e1) /\ W2.cell? ⟨o, 3, none⟩ = some (.slice B1 X.cs.length f1) /\ W2.cell? ⟨(o + 1 + 1), 0, none⟩ = some (.int .i64 O.lv) /\ W2.cell? ⟨(o + 1 + 1), 1, none⟩ = some (.bool O.neg) /\ W2.cell? ⟨(o + 1 + 1), 2, none⟩ = some (.slice A3 m3 e3) /\ W2.cell? ⟨(o + 1 + 1), 3, none⟩ = some (.slice B3 O.cs.length f3) /\ W2.cell? ad = some (.int .i64 gq.lv) /\ W2.cell? ⟨ad.block, ad.off + 1, none⟩ = some (.bool gq.neg) /\ W2.cell? ⟨ad.block, ad.off + 2, none⟩ = some (.slice E0 en ec) /\ W2.cell? ⟨ad.block, ad.off + 3, none⟩ = some (.slice E1 Vy oQ))
  (first | with_reducible exact Np.out _ Y0.out | with_reducible exact Np.out _ y1 | with_reducible exact Np.out _ y2 | with_reducible exact Np.out _ y3)
  (first
    | (go_at_call 19
       refine (xak (n:=2) _ (ad5.out.ext Y0.out) (by rw [<- MZ.out]; exact (Pl.var_fit 1).1) (by omega) (by omega) (by omega)).mono ?_;rintro e w6 ⟨z6,rfl,p6,x6⟩
       have y1:Ext U5 w6:=Ext.trans Y0.out x6)
    | (go_at_call 29
       refine (yao (E:=2) (D:=5) _ _ p6 (adZ.out.ext y1) (by rw [<- MZ.out]; exact ((Pl.var_fit 1).1.pow 2).mono (by decide) (by decide)) (by rw [<- Zp.out]; exact Fit.const (by decide)) (by omega) (by omega)).mono ?_;rintro e w7 ⟨z7,rfl,p7,x7⟩
       have y2:Ext U5 w7:=Ext.trans y1 x7)
    | (go_at_call 22
       refine (xa3 (E:=2) (D:=5) _ _ (GK.out.ext y2) p7 (Eb.out.small (by omega)) (by have:=Eb.out.dm; omega) (by rw [oI.out]; exact Eb.out.small (by omega)) (by rw [oI.out]; have:=Eb.out.dm; omega) (by rw [Pl.nf_of_can ZI.out]; exact Eb.out) (by omega)).mono ?_;rintro e w8 ⟨rfl,x8⟩;rw [oI.out,Pl.nf_of_can ZI.out,xai rfl]
       have y3:Ext U5 w8:=Ext.trans y2 x8))
 all_goals
  have Y9:=hid (Y5.out.trans y3);clear y1 y2 y3 x6 x7 x8 p6 p7 Np;go_wp2_with fail;go_ret;exact ⟨rfl,Y9.out⟩
end Go.Proofs.YtklnlgnnlmdibaaGreat
