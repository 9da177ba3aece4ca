/- Layer 5 (rational): lowest terms. -/
import Derived.Test.YtopddaabiinboaaGreatMp5
import Derived.Test.YtopddaabiinboaaGreatMp2
import Derived.Test.YtopddaabiinboaaGreatMp1
set_option linter.unusedSimpArgs false
set_option linter.unusedVariables false

set_option maxRecDepth 100000
set_option maxHeartbeats 8000000
namespace Go.Proofs.YtopddaabiinboaaGreat
open Go.RowKit
def vc6 (q:Rat) (w:World) (e:Ending) (w':World):Prop:=∃ x,e=.returned x/\uc7 w' x q/\Ext w w'
theorem yc7 {w W : World} {g : Nat} {q : Rat} {b s t u0 u1 u2 : Value} (hx : Ext w W) (hg : w.heap.size <= g) (h0 : W.cell? ⟨g, 0, none⟩ = some u0) (h1 : W.cell? ⟨g, 1, none⟩ = some u1) (h2 : W.cell? ⟨g, 2, none⟩ = some u2)
 (d0:gc6 u0=false) (d1:gc6 u1=false) (d2:gc6 u2=false) (hN:uc7 W (.agg #[b,s,t]) q) :
 vc6 q w (.returned (.agg #[b,s,t])) (((W.setCell ⟨g,0,none⟩ b).setCell ⟨g,1,none⟩ s).setCell ⟨g,2,none⟩ t):=by
 have k1:(W.setCell ⟨g,0,none⟩ b).cell? ⟨g,1,none⟩=some u1:=by rw [World.cell?_setCell_other _ _ _ _ (by simp),h1]
 have k2:((W.setCell ⟨g,0,none⟩ b).setCell ⟨g,1,none⟩ s).cell? ⟨g,2,none⟩=some u2:=by
  rw [World.cell?_setCell_other _ _ _ _ (by simp),World.cell?_setCell_other _ _ _ _ (by simp),h2]
 exact ⟨_,rfl,((hN.box h0 d0 _).box k1 d1 _).box k2 d2 _,((hx.setCell (by simpa using hg) _).setCell (by simpa using hg) _).setCell (by simpa using hg) _⟩
theorem wh8 (n:Int) (d:Nat) (hd:0 < d):n.tdiv (Nat.gcd n.natAbs d:Nat)=(mkRat n d).num/\((d:Int).tdiv (Nat.gcd n.natAbs d:Nat))=((mkRat n d).den:Int):=by
 have hd0:d ≠ 0:=by omega
 rw [Rat.num_mkRat,Rat.den_mkRat,if_neg hd0,if_neg hd0,Nat.gcd_comm d];refine ⟨?_,?_⟩
 · rw [Int.tdiv_eq_ediv_of_dvd];exact Int.ofNat_dvd_left.2 (Nat.gcd_dvd_left _ _)
 · rfl
theorem qgx (x y:Value) (n:Int) (d:Nat) (L M:Nat) (w:World) (h:xc4 w x n L) (k:xc4 w y (d:Nat) M) (hs:L<=17592186044416) (hs':M<=17592186044416) (hd:0 < d) :
 Calls Tryz.prog 112 #[x,y] w (vc6 (mkRat n d) w):=by
 have hG0:Nat.gcd n.natAbs d ≠ 0:=fun e=>by have:=Nat.eq_zero_of_gcd_eq_zero_right e; omega
 have hGl:(dg (Nat.gcd n.natAbs d)).length<=M:=by
  have h1:=k.len;simp only [Int.natAbs_natCast] at h1;exact Nat.le_trans (xc6 (Nat.le_of_dvd hd (Nat.gcd_dvd_right _ _))) h1
 obtain ⟨rn,rd⟩:=wh8 n d hd;have RN:=Lib.hid rn;have RD:=Lib.hid rd;have H:=Lib.hid h;have K:=Lib.hid k;obtain ⟨neg,v,ds,rfl,⟨A,c,rfl,h1,h2,h3⟩,hz,hl⟩:=h;obtain ⟨neg',v',ds',rfl,⟨A',c',rfl,h1',h2',h3'⟩,hz',hl'⟩:=k;clear h3 h3' hz hz' rn rd;go_enter Tryz.func112,Tryz.ntmps112;go_wp2_with fail;generalize hW:((w.alloc (Obj.cells #[.bool neg,.slice A ds.length c] 27)).alloc (Obj.cells #[.bool neg',.slice A' ds'.length c'] 27)).alloc (Obj.cells #[.bool false,.slice none 0 0,.slice none 0 0] 37)=W;have HX0:Hid (Ext w W):=by
  have:Ext w W:=by rw [<- hW]; exact (((Ext.refl w).alloc _).alloc _).alloc _
  exact this
 have HWS:Hid (W.heap.size=w.heap.size+1+1+1):=by
  have:W.heap.size=w.heap.size+1+1+1:=by rw [<- hW]; simp
  exact this
 have HS:Hid (∀ W',Ext W W'->(Ext w W'/\W'.cell? ⟨w.heap.size,0,none⟩=some (.bool neg)/\W'.cell? ⟨w.heap.size,1,none⟩=some (.slice A ds.length c)/\W'.cell? ⟨w.heap.size+1,0,none⟩=some (.bool neg')/\W'.cell? ⟨w.heap.size+1,1,none⟩=some (.slice A' ds'.length c'))):=by
  intro W' hx;obtain ⟨hc,hf⟩:=hx.cells;have hsz:=HWS.out;refine ⟨HX0.out.trans hx,?_,?_,?_,?_⟩ <;> (rw [hc _ _ (by omega),<- hW]; simp [go_sem])
 have HR:Hid (∀ W',Ext W W'->(W'.cell? ⟨w.heap.size+1+1,0,none⟩=some (.bool false)/\W'.cell? ⟨w.heap.size+1+1,1,none⟩=some (.slice none 0 0)/\W'.cell? ⟨w.heap.size+1+1,2,none⟩=some (.slice none 0 0)/\W'.frozen? ⟨w.heap.size+1+1,0,none⟩=false/\W'.frozen? ⟨w.heap.size+1+1,1,none⟩=false/\W'.frozen? ⟨w.heap.size+1+1,2,none⟩=false)):=by
  intro W' hx;obtain ⟨hc,hf⟩:=hx.cells;have hsz:=HWS.out;refine ⟨?_,?_,?_,?_,?_,?_⟩ <;> first | (rw [hc _ _ (by omega),<- hW]; simp [go_sem]; done) | (rw [hf _ _ (by omega),<- hW]; simp [go_sem]; done)
 have HFZ:Hid (∀ W',Ext W W'->W'.frozen? ⟨w.heap.size,0,none⟩=false/\W'.frozen? ⟨w.heap.size,1,none⟩=false):=by
  intro W' hx;obtain ⟨hc,hf⟩:=hx.cells;have hsz:=HWS.out;refine ⟨?_,?_⟩ <;> (rw [hf _ _ (by omega),<- hW]; simp [go_sem])
 have HFZ':Hid (∀ W',Ext W W'->W'.frozen? ⟨w.heap.size+1,0,none⟩=false/\W'.frozen? ⟨w.heap.size+1,1,none⟩=false):=by
  intro W' hx;obtain ⟨hc,hf⟩:=hx.cells;have hsz:=HWS.out;refine ⟨?_,?_⟩ <;> (rw [hf _ _ (by omega),<- hW]; simp [go_sem])
 clear hW;obtain ⟨e0,b0,b1,b2,b3⟩:=HS.out W (Ext.refl W);have hg:=wi2 _ _ n (d:Nat) L M W (H.out.ext e0) (K.out.ext e0) hs hs';simp only [Int.natAbs_natCast] at hg;refine hg.mono ?_;clear hg e0 b0 b1 b2 b3;generalize Nat.gcd n.natAbs d=G at *;rintro e w1 ⟨xg,rfl,⟨vg,rfl,Ag,cg,rfl,g1,g2,g3⟩,y1⟩
 change (dg G).length<=cg at g1
 change wc4 w1 Ag (dg G) at g3
 have hGb:decide (((G:Nat):Int) < 0)=false:=by simp
 rw [hGb,Int.natAbs_natCast];have hsz1:=y1.size;rw [HWS.out] at hsz1;have x2:Ext w1 (w1.alloc (Obj.cells #[.bool false,.slice Ag (dg G).length cg] 27)):=(Ext.refl w1).alloc _
 have GN:Hid (xc4 (w1.alloc (Obj.cells #[.bool false,.slice Ag (dg G).length cg] 27)) (.agg #[.bool false,.slice Ag (dg G).length cg]) (G:Nat) M):=
  xc4.ext ⟨false,_,dg G,rfl,⟨Ag,cg,rfl,g1,g2,g3⟩,by rw [jc3]; rfl,hGl⟩ x2
 have Y2:=Lib.hid (y1.trans x2);have C5:Hid (∀ w',Ext (w1.alloc (Obj.cells #[.bool false,.slice Ag (dg G).length cg] 27)) w'->w'.cell? ⟨w1.heap.size,0,none⟩=some (.bool false)/\w'.cell? ⟨w1.heap.size,1,none⟩=some (.slice Ag (dg G).length cg)):=by
  intro w' hx;obtain ⟨hc,-⟩:=hx.cells;exact ⟨by rw [hc _ _ (by simp)]; simp [World.cell?_alloc_new],by rw [hc _ _ (by simp)]; simp [World.cell?_alloc_new]⟩
 have Z2:Hid (w1.heap.size < (w1.alloc (Obj.cells #[.bool false,.slice Ag (dg G).length cg] 27)).heap.size):=by
  have:w1.heap.size < (w1.alloc (Obj.cells #[.bool false,.slice Ag (dg G).length cg] 27)).heap.size:=by simp
  exact this
 clear x2 g3 hGb;go_upto_region 2 with fail;generalize w1.alloc (Obj.cells #[.bool false,.slice Ag (dg G).length cg] 27)=w2 at *;generalize hg5:w1.heap.size=g5 at *;clear hg5 y1;obtain ⟨e0,b0,b1,b2,b3⟩:=HS.out w2 Y2.out;obtain ⟨c0,c1⟩:=C5.out w2 (Ext.refl w2);have E0:=Lib.hid e0;clear e0;go_wp2_with fail;refine (xh5 _ _ n ((G:Nat):Int) L M _ (H.out.ext E0.out) GN.out hs hs' (by omega)).mono ?_;rw [RN.out];rintro e w3 ⟨xq,xr,rfl,⟨vq,rfl,Aq,cq,rfl,i1,i2,i3⟩,-,y3⟩;have Y3:=Lib.hid y3;have HQN:Hid (kdb w3 (.agg #[.bool (decide ((mkRat n d).num < 0)),.slice Aq (dg (mkRat n d).num.natAbs).length cq]) (mkRat n d).num):=⟨_,rfl,Aq,cq,rfl,i1,i2,i3⟩;clear c0 c1 b0 b1 b2 b3;obtain ⟨e0,b0,b1,b2,b3⟩:=HS.out w3 (Y2.out.trans y3);have hf:w3.frozen? ⟨w.heap.size,0,none⟩=false/\w3.frozen? ⟨w.heap.size,1,none⟩=false:=HFZ.out w3 (Y2.out.trans y3);obtain ⟨hf0,hf1⟩:=hf;clear y3 i3 e0;go_upto_region 3 with fail;obtain ⟨k0,k1⟩:=C5.out w3 Y3.out;obtain ⟨r0,r1,r2,f0,f1,f2⟩:=HR.out w3 (Y2.out.trans Y3.out);have hz3:g5 < w3.heap.size:=Nat.lt_of_lt_of_le Z2.out Y3.out.size;generalize hbq:Value.bool (decide ((mkRat n d).num < 0))=bq at *;generalize hsq:Value.slice Aq (dg (mkRat n d).num.natAbs).length cq=sq at *
 have N4:Hid (kdb ((w3.setCell ⟨w.heap.size,0,none⟩ bq).setCell ⟨w.heap.size,1,none⟩ sq) (.agg #[bq,sq]) (mkRat n d).num):=
  (HQN.out.box b0 rfl _).box (u:=.slice A ds.length c) (by rw [World.cell?_setCell_other _ _ _ _ (by simp),b1]) rfl _
 have K4:Hid (xc4 ((w3.setCell ⟨w.heap.size,0,none⟩ bq).setCell ⟨w.heap.size,1,none⟩ sq) (.agg #[.bool neg',.slice A' ds'.length c']) (d:Nat) M):=
  ((K.out.ext (E0.out.trans Y3.out)).box b0 rfl _).box (u:=.slice A ds.length c) (by rw [World.cell?_setCell_other _ _ _ _ (by simp),b1]) rfl _
 have G4:Hid (xc4 ((w3.setCell ⟨w.heap.size,0,none⟩ bq).setCell ⟨w.heap.size,1,none⟩ sq) (.agg #[.bool false,.slice Ag (dg G).length cg]) (G:Nat) M):=
  ((GN.out.ext Y3.out).box b0 rfl _).box (u:=.slice A ds.length c) (by rw [World.cell?_setCell_other _ _ _ _ (by simp),b1]) rfl _
 have X4:Hid (Ext w ((w3.setCell ⟨w.heap.size,0,none⟩ bq).setCell ⟨w.heap.size,1,none⟩ sq)):=((E0.out.trans Y3.out).setCell (by simp) _).setCell (by simp) _;have FZ4:=HFZ'.out w3 (Y2.out.trans Y3.out);have hc4:∀ b o,b ≠ w.heap.size->((w3.setCell ⟨w.heap.size,0,none⟩ bq).setCell ⟨w.heap.size,1,none⟩ sq).cell? ⟨b,o,none⟩=w3.cell? ⟨b,o,none⟩:=fun b o hb=>by
  rw [World.cell?_setCell_other _ _ _ _ (by intro e; injection e; omega),World.cell?_setCell_other _ _ _ _ (by intro e; injection e; omega)]
 have hf4:∀ b o,b ≠ w.heap.size->((w3.setCell ⟨w.heap.size,0,none⟩ bq).setCell ⟨w.heap.size,1,none⟩ sq).frozen? ⟨b,o,none⟩=w3.frozen? ⟨b,o,none⟩:=fun b o hb=>by simp
 have hn0:((w3.setCell ⟨w.heap.size,0,none⟩ bq).setCell ⟨w.heap.size,1,none⟩ sq).cell? ⟨w.heap.size,0,none⟩=some bq:=by
  rw [World.cell?_setCell_other _ _ _ _ (by simp)]; exact World.cell?_setCell_same _ _ _ b0
 have hn1:((w3.setCell ⟨w.heap.size,0,none⟩ bq).setCell ⟨w.heap.size,1,none⟩ sq).cell? ⟨w.heap.size,1,none⟩=some sq:=by
  exact World.cell?_setCell_same _ _ _ (u:=.slice A ds.length c) (by rw [World.cell?_setCell_other _ _ _ _ (by simp),b1])
 have hz4:((w3.setCell ⟨w.heap.size,0,none⟩ bq).setCell ⟨w.heap.size,1,none⟩ sq).heap.size=w3.heap.size:=by simp [World.setCell]
 generalize (w3.setCell ⟨w.heap.size,0,none⟩ bq).setCell ⟨w.heap.size,1,none⟩ sq=w4 at *;have m2:=(hc4 (w.heap.size+1) 0 (by omega)).trans b2;have m3:=(hc4 (w.heap.size+1) 1 (by omega)).trans b3;have m4:=(hc4 g5 0 (by omega)).trans k0;have m5:=(hc4 g5 1 (by omega)).trans k1;have p0:=(hc4 (w.heap.size+1+1) 0 (by omega)).trans r0;have p1:=(hc4 (w.heap.size+1+1) 1 (by omega)).trans r1;have p2:=(hc4 (w.heap.size+1+1) 2 (by omega)).trans r2;have pf0:=(hf4 (w.heap.size+1+1) 0 (by omega)).trans f0;have pf1:=(hf4 (w.heap.size+1+1) 1 (by omega)).trans f1;have pf2:=(hf4 (w.heap.size+1+1) 2 (by omega)).trans f2;have pg0:=(hf4 (w.heap.size+1) 0 (by omega)).trans FZ4.1;have pg1:=(hf4 (w.heap.size+1) 1 (by omega)).trans FZ4.2
 have PK:Hid (∀ w5,Ext w4 w5->(w5.cell? ⟨w.heap.size,0,none⟩=some bq/\w5.cell? ⟨w.heap.size,1,none⟩=some sq)/\(w5.cell? ⟨w.heap.size+1,0,none⟩=some (.bool neg')/\w5.cell? ⟨w.heap.size+1,1,none⟩=some (.slice A' ds'.length c')) /\
  (w5.cell? ⟨w.heap.size+1+1,0,none⟩=some (.bool false)/\w5.cell? ⟨w.heap.size+1+1,1,none⟩=some (.slice none 0 0)/\w5.cell? ⟨w.heap.size+1+1,2,none⟩=some (.slice none 0 0)) /\
  (w5.frozen? ⟨w.heap.size+1,0,none⟩=false/\w5.frozen? ⟨w.heap.size+1,1,none⟩=false)/\(w5.frozen? ⟨w.heap.size+1+1,0,none⟩=false/\w5.frozen? ⟨w.heap.size+1+1,1,none⟩=false/\w5.frozen? ⟨w.heap.size+1+1,2,none⟩=false)):=by
  intro w5 hx;obtain ⟨hc,hf⟩:=hx.cells;have hlt:w.heap.size+1+1 < w4.heap.size:=by omega
  refine ⟨⟨?_,?_⟩,⟨?_,?_⟩,⟨?_,?_,?_⟩,⟨?_,?_⟩,⟨?_,?_,?_⟩⟩ <;> first | (rw [hc _ _ (by omega)]; assumption) | (rw [hf _ _ (by omega)]; assumption)
 have HBQ:=Lib.hid hbq;have HSQ:=Lib.hid hsq;clear p0 p1 p2 pf0 pf1 pf2 pg0 pg1 r0 r1 r2 f0 f1 f2 b0 b1 b2 b3 hc4 hf4 hz4 hz3 FZ4 k0 k1 hf0 hf1 hn0 hn1 hbq hsq;go_wp2_with fail;refine (xh5 _ _ ((d:Nat):Int) ((G:Nat):Int) M M _ K4.out G4.out hs' hs' (by omega)).mono ?_;rw [RD.out];rintro e w5 ⟨xd,xe,rfl,⟨vd,rfl,Ad,cd,rfl,j1,j2,j3⟩,-,y5⟩;have hdb:decide ((((mkRat n d).den:Nat):Int) < 0)=false:=by simp
 rw [hdb,Int.natAbs_natCast];obtain ⟨⟨t0,t1⟩,⟨t2,t3⟩,⟨t4,t5,t6⟩,⟨t7,t8⟩,t9,t10,t11⟩:=PK.out w5 y5;rw [Int.natAbs_natCast] at j1 j3;have N5:=Lib.hid (N4.out.ext y5);have X5:=Lib.hid (X4.out.trans y5);have D5:Hid (vc2 w5 (.slice Ad (dg (mkRat n d).den).length cd) (dg (mkRat n d).den)):=⟨Ad,cd,rfl,j1,j2,j3⟩;clear m2 m3 m4 m5 y5 j3 hdb N4 K4 G4 PK;have hbq:=HBQ.out;have hsq:=HSQ.out;subst hbq;subst hsq;clear HBQ HSQ
 have HF : Hid (vc6 (mkRat n d) w (.returned (.agg #[.bool (decide ((mkRat n d).num < 0)), .slice Aq (dg (mkRat n d).num.natAbs).length cq, .slice Ad (dg (mkRat n d).den).length cd]))
  (((((w5.setCell ⟨w.heap.size+1,0,none⟩ (.bool false)).setCell ⟨w.heap.size+1,1,none⟩ (.slice Ad (dg (mkRat n d).den).length cd)).setCell ⟨w.heap.size+1+1,0,none⟩ (.bool (decide ((mkRat n d).num < 0)))).setCell ⟨w.heap.size+1+1,1,none⟩ (.slice Aq (dg (mkRat n d).num.natAbs).length cq)).setCell ⟨w.heap.size+1+1,2,none⟩ (.slice Ad (dg (mkRat n d).den).length cd))):=by
  have u1:(w5.setCell ⟨w.heap.size+1,0,none⟩ (.bool false)).cell? ⟨w.heap.size+1,1,none⟩=some (.slice A' ds'.length c'):=by rw [World.cell?_setCell_other _ _ _ _ (by simp),t3]
  obtain ⟨vn,en,hn5⟩:=(N5.out.box t2 rfl (.bool false)).box u1 rfl (.slice Ad (dg (mkRat n d).den).length cd);have d5:=(D5.out.box t2 rfl (.bool false)).box u1 rfl (.slice Ad (dg (mkRat n d).den).length cd);have far:∀ o,((w5.setCell ⟨w.heap.size+1,0,none⟩ (.bool false)).setCell ⟨w.heap.size+1,1,none⟩ (.slice Ad (dg (mkRat n d).den).length cd)).cell? ⟨w.heap.size+1+1,o,none⟩=w5.cell? ⟨w.heap.size+1+1,o,none⟩:=fun o=>by
   rw [World.cell?_setCell_other _ _ _ _ (by intro e; injection e; omega),World.cell?_setCell_other _ _ _ _ (by intro e; injection e; omega)]
  refine yc7 ((X5.out.setCell (by simp) _).setCell (by simp) _) (by omega) ((far 0).trans t4) ((far 1).trans t5) ((far 2).trans t6) rfl rfl rfl ⟨vn,_,?_,hn5,d5⟩;injection en with en
  injection en with en
  injection en with _ en
  injection en with en
  rw [en]
 clear N5 D5 X5;go_wp2_with fail;exact bodyPost_ret (v:=.agg #[.bool (decide ((mkRat n d).num < 0)),.slice Aq (dg (mkRat n d).num.natAbs).length cq,.slice Ad (dg (mkRat n d).den).length cd]) (by simp [results,Tryz.results112,go_sem,t4,t5,t6]) rfl HF.out
end Go.Proofs.YtopddaabiinboaaGreat

/- Layer 5 (rational): sums, differences, products, comparison. -/
set_option maxRecDepth 100000
set_option maxHeartbeats 8000000
namespace Go.Proofs.YtopddaabiinboaaGreat
open Go.RowKit
theorem uc7.unpack {w:World} {x:Value} {q:Rat} (h:uc7 w x q):∃ b A n c B m d,x=.agg #[.bool b,.slice A n c,.slice B m d]:=by
 obtain ⟨s1,s2,rfl,⟨A,c,rfl,-⟩,⟨B,d,rfl,-⟩⟩:=h;exact ⟨_,A,_,c,B,_,d,rfl⟩
theorem qdd {w w':World} {x y:Value} {a b:Int} {L M:Nat} (h:xc4 w x a L) (k:xc4 w' y b M):(dg (a * b).natAbs).length<=L+M:=by
 rw [Int.natAbs_mul];exact Nat.le_trans (wgu _ _) (Nat.add_le_add h.len k.len)
theorem kh6 (a b:Int) {L:Nat} (h:(dg a.natAbs).length<=L) (k:(dg b.natAbs).length<=L):(dg (a+b).natAbs).length<=L+1:=by
 refine Nat.le_trans (xc6 (Int.natAbs_add_le a b)) (Nat.le_trans (zgv _ _) ?_);omega
theorem xiy (a b:Int) {L:Nat} (h:(dg a.natAbs).length<=L) (k:(dg b.natAbs).length<=L):(dg (a - b).natAbs).length<=L+1:=by
 rw [Int.sub_eq_add_neg];exact kh6 a (-b) h (by rw [Int.natAbs_neg]; exact k)
def Two (w:World) (g:Nat) (a b:Value):Prop:=w.cell? ⟨g,0,none⟩=some a/\w.cell? ⟨g,1,none⟩=some b
theorem Two.ext {w w':World} {g:Nat} {a b:Value} (h:Two w g a b) (hx:Ext w w') (hg:g < w.heap.size):Two w' g a b:=
 ⟨(hx.cell (p:=⟨g,0,none⟩) hg).trans h.1,(hx.cell (p:=⟨g,1,none⟩) hg).trans h.2⟩
theorem qgt (w:World) (a b c d:Value) (t t':TypeId):Two ((w.alloc (Obj.cells #[a,b] t)).alloc (Obj.cells #[c,d] t')) w.heap.size a b/\Two ((w.alloc (Obj.cells #[a,b] t)).alloc (Obj.cells #[c,d] t')) (w.heap.size+1) c d:=by
 refine ⟨⟨?_,?_⟩,⟨?_,?_⟩⟩ <;> simp [go_sem]
theorem vhm (x y:Value) (q1 q2:Rat) (L M:Nat) (w:World) (h:wc7 w x q1 L) (k:wc7 w y q2 M) (hL:1<=L) (hM:1<=M) (hs:2 * (L+M)+2<=17592186044416) :
 Calls Tryz.prog 77 #[x,y] w (vc6 (q1 * q2) w):=by
 have H:=Lib.hid h;have K:=Lib.hid k;obtain ⟨neg,s1,s2,ds,es,rfl,⟨A,c,rfl,-,-,-⟩,⟨B,b,rfl,-,-,-⟩,-⟩:=h;obtain ⟨neg',s1',s2',ds',es',rfl,⟨A',c',rfl,-,-,-⟩,⟨B',b',rfl,-,-,-⟩,-⟩:=k;go_enter Tryz.func77,Tryz.ntmps77;go_wp2_with fail;generalize hW:((w.alloc (Obj.cells #[.bool neg,.slice A ds.length c,.slice B es.length b] 37)).alloc (Obj.cells #[.bool neg',.slice A' ds'.length c',.slice B' es'.length b'] 37)).alloc (Obj.cells #[.bool false,.slice none 0 0,.slice none 0 0] 37)=W;have HX0:Hid (Ext w W):=by
  have:Ext w W:=by rw [<- hW]; exact (((Ext.refl w).alloc _).alloc _).alloc _
  exact this
 have HWS:Hid (W.heap.size=w.heap.size+1+1+1):=by
  have:W.heap.size=w.heap.size+1+1+1:=by rw [<- hW]; simp
  exact this
 have HS:Hid (∀ W',Ext W W'->(Ext w W'/\W'.cell? ⟨w.heap.size,0,none⟩=some (.bool neg)/\W'.cell? ⟨w.heap.size,1,none⟩=some (.slice A ds.length c)/\W'.cell? ⟨w.heap.size,2,none⟩=some (.slice B es.length b)/\W'.cell? ⟨w.heap.size+1,0,none⟩=some (.bool neg')/\W'.cell? ⟨w.heap.size+1,1,none⟩=some (.slice A' ds'.length c')/\W'.cell? ⟨w.heap.size+1,2,none⟩=some (.slice B' es'.length b'))):=by
  intro W' hx;obtain ⟨hc,hf⟩:=hx.cells;have hsz:=HWS.out;refine ⟨HX0.out.trans hx,?_,?_,?_,?_,?_,?_⟩ <;> (rw [hc _ _ (by omega),<- hW]; simp [go_sem])
 have HR:Hid (∀ W',Ext W W'->(W'.cell? ⟨w.heap.size+1+1,0,none⟩=some (.bool false)/\W'.cell? ⟨w.heap.size+1+1,1,none⟩=some (.slice none 0 0)/\W'.cell? ⟨w.heap.size+1+1,2,none⟩=some (.slice none 0 0)/\W'.frozen? ⟨w.heap.size+1+1,0,none⟩=false/\W'.frozen? ⟨w.heap.size+1+1,1,none⟩=false/\W'.frozen? ⟨w.heap.size+1+1,2,none⟩=false)):=by
  intro W' hx;obtain ⟨hc,hf⟩:=hx.cells;have hsz:=HWS.out;refine ⟨?_,?_,?_,?_,?_,?_⟩ <;> first | (rw [hc _ _ (by omega),<- hW]; simp [go_sem]; done) | (rw [hf _ _ (by omega),<- hW]; simp [go_sem]; done)
 clear hW;obtain ⟨e0,a0,a1,a2,a3,a4,a5⟩:=HS.out W (Ext.refl W);refine (gdc _ q1 L _ (H.out.ext e0) hL).mono ?_;clear e0 a0 a1 a2 a3 a4 a5;rintro e w1 ⟨xn,xd,n1,d1,rfl,in1,id1,hd1,hq1,y1⟩;obtain ⟨b5,A5,n5,c5,rfl⟩:=in1.unpack;obtain ⟨b6,A6,n6,c6,rfl⟩:=id1.unpack;have x2:Ext w1 ((w1.alloc (Obj.cells #[.bool b5,.slice A5 n5 c5] 27)).alloc (Obj.cells #[.bool b6,.slice A6 n6 c6] 27)):=((Ext.refl w1).alloc _).alloc _;have T56:=Lib.hid (qgt w1 (.bool b5) (.slice A5 n5 c5) (.bool b6) (.slice A6 n6 c6) 27 27);have Z2:Hid (w1.heap.size+1 < ((w1.alloc (Obj.cells #[.bool b5,.slice A5 n5 c5] 27)).alloc (Obj.cells #[.bool b6,.slice A6 n6 c6] 27)).heap.size):=by
  have:w1.heap.size+1 < ((w1.alloc (Obj.cells #[.bool b5,.slice A5 n5 c5] 27)).alloc (Obj.cells #[.bool b6,.slice A6 n6 c6] 27)).heap.size:=by simp
  exact this
 have IN1:=Lib.hid (in1.ext x2);have ID1:=Lib.hid (id1.ext x2);have Y2:=Lib.hid (y1.trans x2);have HQ1:=Lib.hid hq1;have hw1:=y1.size;rw [HWS.out] at hw1;clear in1 id1 hq1 y1 x2;go_upto_region 2 with fail;generalize (w1.alloc (Obj.cells #[.bool b5,.slice A5 n5 c5] 27)).alloc (Obj.cells #[.bool b6,.slice A6 n6 c6] 27)=w2 at *;generalize w1.heap.size=g5 at *;obtain ⟨e0,a0,a1,a2,a3,a4,a5⟩:=HS.out w2 Y2.out;have E0:=Lib.hid e0;clear e0;go_wp2_with fail;refine (gdc _ q2 M _ (K.out.ext E0.out) hM).mono ?_;clear a0 a1 a2 a3 a4 a5;rintro e w3 ⟨yn,yd,n2,d2,rfl,in2,id2,hd2,hq2,y3⟩;obtain ⟨b7,A7,n7,c7,rfl⟩:=in2.unpack;obtain ⟨b8,A8,n8,c8,rfl⟩:=id2.unpack;have x4:Ext w3 ((w3.alloc (Obj.cells #[.bool b7,.slice A7 n7 c7] 27)).alloc (Obj.cells #[.bool b8,.slice A8 n8 c8] 27)):=((Ext.refl w3).alloc _).alloc _;have T78:=Lib.hid (qgt w3 (.bool b7) (.slice A7 n7 c7) (.bool b8) (.slice A8 n8 c8) 27 27);have Z4:Hid (w3.heap.size+1 < ((w3.alloc (Obj.cells #[.bool b7,.slice A7 n7 c7] 27)).alloc (Obj.cells #[.bool b8,.slice A8 n8 c8] 27)).heap.size):=by
  have:w3.heap.size+1 < ((w3.alloc (Obj.cells #[.bool b7,.slice A7 n7 c7] 27)).alloc (Obj.cells #[.bool b8,.slice A8 n8 c8] 27)).heap.size:=by simp
  exact this
 have IN2:=Lib.hid (in2.ext x4);have ID2:=Lib.hid (id2.ext x4);have Y4:=Lib.hid (y3.trans x4);have HQ2:=Lib.hid hq2;have hw3:=y3.size;have hz2:=Z2.out;clear in2 id2 hq2 y3 x4;go_upto_region 3 with fail;generalize (w3.alloc (Obj.cells #[.bool b7,.slice A7 n7 c7] 27)).alloc (Obj.cells #[.bool b8,.slice A8 n8 c8] 27)=w4 at *;generalize w3.heap.size=g7 at *;have IN1':=Lib.hid (IN1.out.ext Y4.out);have ID1':=Lib.hid (ID1.out.ext Y4.out);have T5:=Lib.hid (T56.out.1.ext Y4.out (by have:=Z2.out; omega));have T6:=Lib.hid (T56.out.2.ext Y4.out Z2.out);have YW:=Lib.hid (Y2.out.trans Y4.out);clear IN1 ID1 T56 H K;have SS:Hid (∀ W',Ext w4 W'->(Ext w W'/\W'.cell? ⟨g5,0,none⟩=some (.bool b5)/\W'.cell? ⟨g5,1,none⟩=some (.slice A5 n5 c5)/\W'.cell? ⟨g5+1,0,none⟩=some (.bool b6)/\W'.cell? ⟨g5+1,1,none⟩=some (.slice A6 n6 c6)/\W'.cell? ⟨g7,0,none⟩=some (.bool b7)/\W'.cell? ⟨g7,1,none⟩=some (.slice A7 n7 c7)/\W'.cell? ⟨g7+1,0,none⟩=some (.bool b8)/\W'.cell? ⟨g7+1,1,none⟩=some (.slice A8 n8 c8))):=by
  intro W' hx;have z4:=Z4.out;have u5:=T5.out.ext hx (by omega);have u6:=T6.out.ext hx (by omega);have u7:=T78.out.1.ext hx (by omega);have u8:=T78.out.2.ext hx (by omega);exact ⟨HX0.out.trans (YW.out.trans hx),u5.1,u5.2,u6.1,u6.2,u7.1,u7.2,u8.1,u8.2⟩
 have SS2:Hid (∀ W'' v0 v1 v2,Ext w4 W''->∀ W',W'=((W''.setCell ⟨w.heap.size+1+1,0,none⟩ v0).setCell ⟨w.heap.size+1+1,1,none⟩ v1).setCell ⟨w.heap.size+1+1,2,none⟩ v2->(Ext w W'/\W'.cell? ⟨g5,0,none⟩=some (.bool b5)/\W'.cell? ⟨g5,1,none⟩=some (.slice A5 n5 c5)/\W'.cell? ⟨g5+1,0,none⟩=some (.bool b6)/\W'.cell? ⟨g5+1,1,none⟩=some (.slice A6 n6 c6)/\W'.cell? ⟨g7,0,none⟩=some (.bool b7)/\W'.cell? ⟨g7,1,none⟩=some (.slice A7 n7 c7)/\W'.cell? ⟨g7+1,0,none⟩=some (.bool b8)/\W'.cell? ⟨g7+1,1,none⟩=some (.slice A8 n8 c8))):=by
  intro W'' v0 v1 v2 hx W' hW';obtain ⟨s0,s1,s2,s3,s4,s5,s6,s7,s8⟩:=SS.out W'' hx;have z1:w.heap.size+1+1 < g5:=by omega
  have z2:g5+1 < g7:=by omega
  rw [hW'];refine ⟨((s0.setCell (by simp; omega) _).setCell (by simp; omega) _).setCell (by simp; omega) _,?_,?_,?_,?_,?_,?_,?_,?_⟩ <;> rw [World.cell?_setCell_other _ _ _ _ (by intro e; injection e; omega),World.cell?_setCell_other _ _ _ _ (by intro e; injection e; omega),World.cell?_setCell_other _ _ _ _ (by intro e; injection e; omega)] <;> assumption
 go_region_held3 (fun W' => Ext w W' /\ W'.cell? ⟨g5, 0, none⟩ = some (.bool b5) /\ W'.cell? ⟨g5, 1, none⟩ = some (.slice A5 n5 c5) /\ W'.cell? ⟨g5 + 1, 0, none⟩ = some (.bool b6) /\ W'.cell? ⟨g5 + 1, 1, none⟩ = some (.slice A6 n6 c6) /\ W'.cell? ⟨g7, 0, none⟩ = some (.bool b7) /\ W'.cell? ⟨g7, 1, none⟩ = some (.slice A7 n7 c7) /\ W'.cell? ⟨g7 + 1, 0, none⟩ = some (.bool b8) /\ W'.cell? ⟨g7 + 1, 1, none⟩ = some (.slice A8 n8 c8))
  (first | exact SS.out _ ((Ext.refl w4).drew) | exact SS.out _ (by assumption) | exact SS2.out _ _ _ _ (by assumption) _ rfl)
  (first
    | (go_at_call_of 57 (Value.agg #[.bool b5,.slice A5 n5 c5])
       refine (jdf _ _ _ _ _ _ _ (IN1'.out.ext ((Ext.refl w4).drew)) (IN2.out.ext ((Ext.refl w4).drew)) (by omega)).mono ?_;rintro e v1 ⟨z1,rfl,m1,x1⟩
       have y1:Ext w4 v1:=Ext.trans ((Ext.refl w4).drew) x1)
    | (go_at_call_of 57 (Value.agg #[.bool b6,.slice A6 n6 c6])
       refine (jdf _ _ _ _ _ _ _ (ID1'.out.ext y1) (ID2.out.ext y1) (by omega)).mono ?_;rintro e v2 ⟨z2,rfl,m2,x2⟩
       have y2:Ext w4 v2:=Ext.trans y1 x2)
    | (go_at_call 112
       refine (qgx _ _ (n1 * n2) (d1 * d2) (L+M) (L+M) _ ((m1.raw.mono (qdd IN1'.out IN2.out)).ext x2) (by rw [Int.natCast_mul]; exact m2.raw.mono (qdd ID1'.out ID2.out)) (by omega) (by omega) (Nat.mul_pos hd1 hd2)).mono ?_;rintro e v9 ⟨z9,rfl,m9,x9⟩;obtain ⟨bz,Az,nz,cz,Bz,mz,dz,rfl⟩:=m9.unpack;have y9:Ext w4 v9:=Ext.trans y2 x9
       obtain ⟨r0,r1,r2,f0,f1,f2⟩:=HR.out v9 (YW.out.trans y9)))
 have hfin:q1 * q2=mkRat (n1 * n2) (d1 * d2):=by rw [HQ1.out,HQ2.out,Rat.mkRat_mul_mkRat]
 rw [<- hfin] at m9;have HF:=Lib.hid (yc7 (g:=w.heap.size+1+1) (HX0.out.trans (YW.out.trans y9)) (by omega) r0 r1 r2 rfl rfl rfl m9);clear SS SS2 HS HR m9 y9 x9 m1 x1 y1 m2 x2 y2 hfin ;go_wp2_with fail;exact bodyPost_ret (v:=.agg #[.bool bz,.slice Az nz cz,.slice Bz mz dz]) (by simp [results,Tryz.results77,go_sem,r0,r1,r2]) rfl HF.out
theorem jh6 (x y:Value) (q1 q2:Rat) (L M:Nat) (w:World) (h:wc7 w x q1 L) (k:wc7 w y q2 M) (hL:1<=L) (hM:1<=M) (hs:2 * (L+M)+2<=17592186044416) :
 Calls Tryz.prog 76 #[x,y] w (vc6 (q1+q2) w):=by
 have H:=Lib.hid h;have K:=Lib.hid k;obtain ⟨neg,s1,s2,ds,es,rfl,⟨A,c,rfl,-,-,-⟩,⟨B,b,rfl,-,-,-⟩,-⟩:=h;obtain ⟨neg',s1',s2',ds',es',rfl,⟨A',c',rfl,-,-,-⟩,⟨B',b',rfl,-,-,-⟩,-⟩:=k;go_enter Tryz.func76,Tryz.ntmps76;go_wp2_with fail;generalize hW:((w.alloc (Obj.cells #[.bool neg,.slice A ds.length c,.slice B es.length b] 37)).alloc (Obj.cells #[.bool neg',.slice A' ds'.length c',.slice B' es'.length b'] 37)).alloc (Obj.cells #[.bool false,.slice none 0 0,.slice none 0 0] 37)=W;have HX0:Hid (Ext w W):=by
  have:Ext w W:=by rw [<- hW]; exact (((Ext.refl w).alloc _).alloc _).alloc _
  exact this
 have HWS:Hid (W.heap.size=w.heap.size+1+1+1):=by
  have:W.heap.size=w.heap.size+1+1+1:=by rw [<- hW]; simp
  exact this
 have HS:Hid (∀ W',Ext W W'->(Ext w W'/\W'.cell? ⟨w.heap.size,0,none⟩=some (.bool neg)/\W'.cell? ⟨w.heap.size,1,none⟩=some (.slice A ds.length c)/\W'.cell? ⟨w.heap.size,2,none⟩=some (.slice B es.length b)/\W'.cell? ⟨w.heap.size+1,0,none⟩=some (.bool neg')/\W'.cell? ⟨w.heap.size+1,1,none⟩=some (.slice A' ds'.length c')/\W'.cell? ⟨w.heap.size+1,2,none⟩=some (.slice B' es'.length b'))):=by
  intro W' hx;obtain ⟨hc,hf⟩:=hx.cells;have hsz:=HWS.out;refine ⟨HX0.out.trans hx,?_,?_,?_,?_,?_,?_⟩ <;> (rw [hc _ _ (by omega),<- hW]; simp [go_sem])
 have HR:Hid (∀ W',Ext W W'->(W'.cell? ⟨w.heap.size+1+1,0,none⟩=some (.bool false)/\W'.cell? ⟨w.heap.size+1+1,1,none⟩=some (.slice none 0 0)/\W'.cell? ⟨w.heap.size+1+1,2,none⟩=some (.slice none 0 0)/\W'.frozen? ⟨w.heap.size+1+1,0,none⟩=false/\W'.frozen? ⟨w.heap.size+1+1,1,none⟩=false/\W'.frozen? ⟨w.heap.size+1+1,2,none⟩=false)):=by
  intro W' hx;obtain ⟨hc,hf⟩:=hx.cells;have hsz:=HWS.out;refine ⟨?_,?_,?_,?_,?_,?_⟩ <;> first | (rw [hc _ _ (by omega),<- hW]; simp [go_sem]; done) | (rw [hf _ _ (by omega),<- hW]; simp [go_sem]; done)
 clear hW;obtain ⟨e0,a0,a1,a2,a3,a4,a5⟩:=HS.out W (Ext.refl W);refine (gdc _ q1 L _ (H.out.ext e0) hL).mono ?_;clear e0 a0 a1 a2 a3 a4 a5;rintro e w1 ⟨xn,xd,n1,d1,rfl,in1,id1,hd1,hq1,y1⟩;obtain ⟨b5,A5,n5,c5,rfl⟩:=in1.unpack;obtain ⟨b6,A6,n6,c6,rfl⟩:=id1.unpack;have x2:Ext w1 ((w1.alloc (Obj.cells #[.bool b5,.slice A5 n5 c5] 27)).alloc (Obj.cells #[.bool b6,.slice A6 n6 c6] 27)):=((Ext.refl w1).alloc _).alloc _;have T56:=Lib.hid (qgt w1 (.bool b5) (.slice A5 n5 c5) (.bool b6) (.slice A6 n6 c6) 27 27);have Z2:Hid (w1.heap.size+1 < ((w1.alloc (Obj.cells #[.bool b5,.slice A5 n5 c5] 27)).alloc (Obj.cells #[.bool b6,.slice A6 n6 c6] 27)).heap.size):=by
  have:w1.heap.size+1 < ((w1.alloc (Obj.cells #[.bool b5,.slice A5 n5 c5] 27)).alloc (Obj.cells #[.bool b6,.slice A6 n6 c6] 27)).heap.size:=by simp
  exact this
 have IN1:=Lib.hid (in1.ext x2);have ID1:=Lib.hid (id1.ext x2);have Y2:=Lib.hid (y1.trans x2);have HQ1:=Lib.hid hq1;have hw1:=y1.size;rw [HWS.out] at hw1;clear in1 id1 hq1 y1 x2;go_upto_region 2 with fail;generalize (w1.alloc (Obj.cells #[.bool b5,.slice A5 n5 c5] 27)).alloc (Obj.cells #[.bool b6,.slice A6 n6 c6] 27)=w2 at *;generalize w1.heap.size=g5 at *;obtain ⟨e0,a0,a1,a2,a3,a4,a5⟩:=HS.out w2 Y2.out;have E0:=Lib.hid e0;clear e0;go_wp2_with fail;refine (gdc _ q2 M _ (K.out.ext E0.out) hM).mono ?_;clear a0 a1 a2 a3 a4 a5;rintro e w3 ⟨yn,yd,n2,d2,rfl,in2,id2,hd2,hq2,y3⟩;obtain ⟨b7,A7,n7,c7,rfl⟩:=in2.unpack;obtain ⟨b8,A8,n8,c8,rfl⟩:=id2.unpack;have x4:Ext w3 ((w3.alloc (Obj.cells #[.bool b7,.slice A7 n7 c7] 27)).alloc (Obj.cells #[.bool b8,.slice A8 n8 c8] 27)):=((Ext.refl w3).alloc _).alloc _;have T78:=Lib.hid (qgt w3 (.bool b7) (.slice A7 n7 c7) (.bool b8) (.slice A8 n8 c8) 27 27);have Z4:Hid (w3.heap.size+1 < ((w3.alloc (Obj.cells #[.bool b7,.slice A7 n7 c7] 27)).alloc (Obj.cells #[.bool b8,.slice A8 n8 c8] 27)).heap.size):=by
  have:w3.heap.size+1 < ((w3.alloc (Obj.cells #[.bool b7,.slice A7 n7 c7] 27)).alloc (Obj.cells #[.bool b8,.slice A8 n8 c8] 27)).heap.size:=by simp
  exact this
 have IN2:=Lib.hid (in2.ext x4);have ID2:=Lib.hid (id2.ext x4);have Y4:=Lib.hid (y3.trans x4);have HQ2:=Lib.hid hq2;have hw3:=y3.size;have hz2:=Z2.out;clear in2 id2 hq2 y3 x4;go_upto_region 3 with fail;generalize (w3.alloc (Obj.cells #[.bool b7,.slice A7 n7 c7] 27)).alloc (Obj.cells #[.bool b8,.slice A8 n8 c8] 27)=w4 at *;generalize w3.heap.size=g7 at *;have IN1':=Lib.hid (IN1.out.ext Y4.out);have ID1':=Lib.hid (ID1.out.ext Y4.out);have T5:=Lib.hid (T56.out.1.ext Y4.out (by have:=Z2.out; omega));have T6:=Lib.hid (T56.out.2.ext Y4.out Z2.out);have YW:=Lib.hid (Y2.out.trans Y4.out);clear IN1 ID1 T56 H K;have SS:Hid (∀ W',Ext w4 W'->(Ext w W'/\W'.cell? ⟨g5,0,none⟩=some (.bool b5)/\W'.cell? ⟨g5,1,none⟩=some (.slice A5 n5 c5)/\W'.cell? ⟨g5+1,0,none⟩=some (.bool b6)/\W'.cell? ⟨g5+1,1,none⟩=some (.slice A6 n6 c6)/\W'.cell? ⟨g7,0,none⟩=some (.bool b7)/\W'.cell? ⟨g7,1,none⟩=some (.slice A7 n7 c7)/\W'.cell? ⟨g7+1,0,none⟩=some (.bool b8)/\W'.cell? ⟨g7+1,1,none⟩=some (.slice A8 n8 c8))):=by
  intro W' hx;have z4:=Z4.out;have u5:=T5.out.ext hx (by omega);have u6:=T6.out.ext hx (by omega);have u7:=T78.out.1.ext hx (by omega);have u8:=T78.out.2.ext hx (by omega);exact ⟨HX0.out.trans (YW.out.trans hx),u5.1,u5.2,u6.1,u6.2,u7.1,u7.2,u8.1,u8.2⟩
 have SS2:Hid (∀ W'' v0 v1 v2,Ext w4 W''->∀ W',W'=((W''.setCell ⟨w.heap.size+1+1,0,none⟩ v0).setCell ⟨w.heap.size+1+1,1,none⟩ v1).setCell ⟨w.heap.size+1+1,2,none⟩ v2->(Ext w W'/\W'.cell? ⟨g5,0,none⟩=some (.bool b5)/\W'.cell? ⟨g5,1,none⟩=some (.slice A5 n5 c5)/\W'.cell? ⟨g5+1,0,none⟩=some (.bool b6)/\W'.cell? ⟨g5+1,1,none⟩=some (.slice A6 n6 c6)/\W'.cell? ⟨g7,0,none⟩=some (.bool b7)/\W'.cell? ⟨g7,1,none⟩=some (.slice A7 n7 c7)/\W'.cell? ⟨g7+1,0,none⟩=some (.bool b8)/\W'.cell? ⟨g7+1,1,none⟩=some (.slice A8 n8 c8))):=by
  intro W'' v0 v1 v2 hx W' hW';obtain ⟨s0,s1,s2,s3,s4,s5,s6,s7,s8⟩:=SS.out W'' hx;have z1:w.heap.size+1+1 < g5:=by omega
  have z2:g5+1 < g7:=by omega
  rw [hW'];refine ⟨((s0.setCell (by simp; omega) _).setCell (by simp; omega) _).setCell (by simp; omega) _,?_,?_,?_,?_,?_,?_,?_,?_⟩ <;> rw [World.cell?_setCell_other _ _ _ _ (by intro e; injection e; omega),World.cell?_setCell_other _ _ _ _ (by intro e; injection e; omega),World.cell?_setCell_other _ _ _ _ (by intro e; injection e; omega)] <;> assumption
 go_region_held3 (fun W' => Ext w W' /\ W'.cell? ⟨g5, 0, none⟩ = some (.bool b5) /\ W'.cell? ⟨g5, 1, none⟩ = some (.slice A5 n5 c5) /\ W'.cell? ⟨g5 + 1, 0, none⟩ = some (.bool b6) /\ W'.cell? ⟨g5 + 1, 1, none⟩ = some (.slice A6 n6 c6) /\ W'.cell? ⟨g7, 0, none⟩ = some (.bool b7) /\ W'.cell? ⟨g7, 1, none⟩ = some (.slice A7 n7 c7) /\ W'.cell? ⟨g7 + 1, 0, none⟩ = some (.bool b8) /\ W'.cell? ⟨g7 + 1, 1, none⟩ = some (.slice A8 n8 c8))
  (first | exact SS.out _ ((Ext.refl w4).drew) | exact SS.out _ (by assumption) | exact SS2.out _ _ _ _ (by assumption) _ rfl)
  (first
    | (go_at_call_of 57 (Value.agg #[.bool b5,.slice A5 n5 c5])
       refine (jdf _ _ _ _ _ _ _ (IN1'.out.ext ((Ext.refl w4).drew)) (ID2.out.ext ((Ext.refl w4).drew)) (by omega)).mono ?_;rintro e v1 ⟨z1,rfl,m1,x1⟩
       have y1:Ext w4 v1:=Ext.trans ((Ext.refl w4).drew) x1)
    | (go_at_call_of 57 (Value.agg #[.bool b7,.slice A7 n7 c7])
       refine (jdf _ _ _ _ _ _ _ (IN2.out.ext y1) (ID1'.out.ext y1) (by omega)).mono ?_;rintro e v2 ⟨z2,rfl,m2,x2⟩
       have y2:Ext w4 v2:=Ext.trans y1 x2)
    | (go_at_call 89
       refine (qhd _ _ _ _ (L+M) (L+M) _ ((m1.raw.mono (qdd IN1'.out ID2.out)).ext x2) (m2.raw.mono (Nat.le_trans (qdd IN2.out ID1'.out) (by omega))) (by omega)).mono ?_;rintro e v3 ⟨z3,rfl,m3,x3⟩;have l3:=kh6 _ _ (qdd IN1'.out ID2.out) (Nat.le_trans (qdd IN2.out ID1'.out) (show M+L<=L+M by omega))
       have y3:Ext w4 v3:=Ext.trans y2 x3)
    | (go_at_call_of 57 (Value.agg #[.bool b6,.slice A6 n6 c6])
       refine (jdf _ _ _ _ _ _ _ (ID1'.out.ext y3) (ID2.out.ext y3) (by omega)).mono ?_;rintro e v4 ⟨z4,rfl,m4,x4⟩
       have y4:Ext w4 v4:=Ext.trans y3 x4)
    | (go_at_call 112
       refine (qgx _ _ (n1 * d2+n2 * d1) (d1 * d2) (L+M+1) (L+M) _ ((m3.raw.mono l3).ext x4) (by rw [Int.natCast_mul]; exact m4.raw.mono (qdd ID1'.out ID2.out)) (by omega) (by omega) (Nat.mul_pos hd1 hd2)).mono ?_;rintro e v9 ⟨z9,rfl,m9,x9⟩;obtain ⟨bz,Az,nz,cz,Bz,mz,dz,rfl⟩:=m9.unpack;have y9:Ext w4 v9:=Ext.trans y4 x9
       obtain ⟨r0,r1,r2,f0,f1,f2⟩:=HR.out v9 (YW.out.trans y9)))
 have hfin:q1+q2=mkRat (n1 * d2+n2 * d1) (d1 * d2):=by rw [HQ1.out,HQ2.out,Rat.mkRat_add_mkRat _ _ (by omega) (by omega)]
 rw [<- hfin] at m9;have HF:=Lib.hid (yc7 (g:=w.heap.size+1+1) (HX0.out.trans (YW.out.trans y9)) (by omega) r0 r1 r2 rfl rfl rfl m9);clear SS SS2 HS HR m9 y9 x9 m1 x1 y1 m2 x2 y2 m3 x3 y3 m4 x4 y4 hfin l3;go_wp2_with fail;exact bodyPost_ret (v:=.agg #[.bool bz,.slice Az nz cz,.slice Bz mz dz]) (by simp [results,Tryz.results76,go_sem,r0,r1,r2]) rfl HF.out
end Go.Proofs.YtopddaabiinboaaGreat

/- A growing row of rational coordinates. -/
namespace Go.Proofs.YtopddaabiinboaaGreat
open Go.RowKit
theorem jhj:(Tryz.prog.info? 40).map (fun i=>(i.zero,i.size,i.bytes))=some (some (.agg #[.int .i64 0,.bool false,.slice none 0 0,.slice none 0 0,.bool false,.slice none 0 0,.slice none 0 0,.bool false,.slice none 0 0,.slice none 0 0]),10,176):=by kernel_rfl
theorem wi8 : jg4 42 40 10 176 (.agg #[.int .i64 0, .bool false, .slice none 0 0, .slice none 0 0, .bool false, .slice none 0 0, .slice none 0 0, .bool false, .slice none 0 0, .slice none 0 0]) where
 und:=Tryz.underlying42
 info:=jhj
 cells:=rfl
 pos:=by omega
 nodig:=by
  intro u hu;simp only [Value.cells] at hu;simp only [List.mem_cons,List.not_mem_nil,or_false] at hu;rcases hu with rfl | rfl | rfl | rfl | rfl | rfl | rfl | rfl | rfl | rfl <;> rfl
structure CoR where
 q:Rat
 b1:Bool
 x1:Value
 y1:Value
 b2:Bool
 x2:Value
 y2:Value
def coC (r:CoR):List Value:=[.int .i64 0,.bool false,.slice none 0 0,.slice none 0 0,.bool r.b1,r.x1,r.y1,.bool r.b2,r.x2,r.y2]
def gg0 (rs:List CoR):List Value:=rs.flatMap coC
theorem zhy (a b:List CoR):gg0 (a ++ b)=gg0 a ++ gg0 b:=by simp [gg0]
theorem kik (rs:List CoR) (k:Nat) (hk:k < rs.length) (j:Nat) (hj:j < 10):(gg0 rs)[k * 10+j]?=(coC rs[k])[j]?:=by
 induction rs generalizing k with
 | nil=>simp at hk
 | cons r rs ih =>
   have hl:(coC r).length=10:=rfl;simp only [gg0,List.flatMap_cons];cases k with
   | zero=>simp only [Nat.zero_mul,Nat.zero_add,List.getElem_cons_zero]; rw [List.getElem?_append_left (by omega)]
   | succ k =>
     rw [List.getElem?_append_right (by omega),hl,show (k+1) * 10+j - 10=k * 10+j by omega];exact ih k (by simpa using hk)
def xie (W:World) (r:CoR):Prop:=(∃ A n c B m d,r.x1=.slice A n c/\r.y1=.slice B m d)/\(∃ A n c B m d,r.x2=.slice A n c/\r.y2=.slice B m d)/\uc7 W (.agg #[.bool r.b1,r.x1,r.y1]) r.q/\uc7 W (.agg #[.bool r.b2,r.x2,r.y2]) r.q
theorem uc7.natq {w w':World} {v:Value} {q:Rat} (h:uc7 w v q) (hn:∀ v ds,vc2 w v ds->vc2 w' v ds):uc7 w' v q:=by
 obtain ⟨s1,s2,e,h1,h2⟩:=h;exact ⟨s1,s2,e,hn _ _ h1,hn _ _ h2⟩
theorem xie.natq {w w':World} {r:CoR} (h:xie w r) (hn:∀ v ds,vc2 w v ds->vc2 w' v ds):xie w' r:=⟨h.1,h.2.1,h.2.2.1.natq hn,h.2.2.2.natq hn⟩
def gc8 (base:Nat) (W:World) (v:Value) (l:List Rat):Prop:=
 ∃ rs:List CoR,rs.map CoR.q=l/\zc8 40 10 base W v rs.length (gg0 rs)/\∀ r ∈ rs,xie W r
section
variable {base:Nat} {W W':World} {v:Value} {l:List Rat}
theorem gc8.nil (base:Nat) (W:World):gc8 base W (.slice none 0 0) []:=⟨[],rfl,zc8.nil _ _ _ _,by simp⟩
theorem gc8.ext (h:gc8 base W v l) (hx:Ext W W'):gc8 base W' v l:=by
 obtain ⟨rs,e,g,f⟩:=h;exact ⟨rs,e,g.ext hx,fun r hr=>(f r hr).natq fun _ _ h=>h.ext hx⟩
theorem gc8.turn_ (h:gc8 base W v l) (hn:∀ v ds,vc2 W v ds->vc2 W' v ds) (hb:∀ R,v.ownBlock=some R->W'.heap[R]?=W.heap[R]?):gc8 base W' v l:=by
 obtain ⟨rs,e,g,f⟩:=h;exact ⟨rs,e,g.turn hb,fun r hr=>(f r hr).natq hn⟩
theorem gc8.own (h:gc8 base W v l) {R:Nat} (hR:v.ownBlock=some R):base<=R/\R < W.heap.size:=by
 obtain ⟨rs,-,g,-⟩:=h;exact g.own hR
theorem gc8.len (h:gc8 base W v l):∃ A c,v=.slice A l.length c/\l.length<=c/\c<=9223372036854775807:=by
 obtain ⟨rs,rfl,g,-⟩:=h;rw [List.length_map];exact g.len
theorem gc8.push_ (h:gc8 base W v l) (hbase:base<=W.heap.size) {q:Rat} {b1 b2:Bool} {A1 B1 A2 B2:Option Addr} {n1 c1 m1 d1 n2 c2 m2 d2:Nat} (hx:uc7 W (.agg #[.bool b1,.slice A1 n1 c1,.slice B1 m1 d1]) q) (hy:uc7 W (.agg #[.bool b2,.slice A2 n2 c2,.slice B2 m2 d2]) q) (hlen:l.length+1<=1000000000) (ty:TypeId) :
 ∃ v4 w4,(Builtin.append_ #[42,42] ty #[v,.slice (some ⟨W.heap.size,0,none⟩) 1 1]).run Tryz.prog (W.alloc (.cells #[.int .i64 0,.bool false,.slice none 0 0,.slice none 0 0,.bool b1,.slice A1 n1 c1,.slice B1 m1 d1,.bool b2,.slice A2 n2 c2,.slice B2 m2 d2] 40))=.ok v4 w4/\gc8 base w4 v4 (l ++ [q])/\W.grownBy w4 v.ownBlock/\(∀ v ds,vc2 W v ds->vc2 w4 v ds)/\(v4.ownBlock=v.ownBlock\/v4.ownBlock=some (W.heap.size+1)):=by
 obtain ⟨rs,rfl,g,f⟩:=h;rw [List.length_map] at hlen;obtain ⟨v4,w4,hrun,r1,r2,r3,r4⟩:=g.push wi8 hbase (coC ⟨q,b1,.slice A1 n1 c1,.slice B1 m1 d1,b2,.slice A2 n2 c2,.slice B2 m2 d2⟩) rfl (by
  intro u hu;simp only [coC,List.mem_cons,List.not_mem_nil,or_false] at hu
  rcases hu with rfl | rfl | rfl | rfl | rfl | rfl | rfl | rfl | rfl | rfl <;> exact ⟨rfl,rfl⟩) (by omega) (by omega) ty
 refine ⟨v4,w4,hrun,⟨rs ++ [⟨q,b1,.slice A1 n1 c1,.slice B1 m1 d1,b2,.slice A2 n2 c2,.slice B2 m2 d2⟩],by simp,?_,fun r hr=>?_⟩,r2,r3,r4⟩
 · rw [zhy,List.length_append];have:gg0 [(⟨q,b1,.slice A1 n1 c1,.slice B1 m1 d1,b2,.slice A2 n2 c2,.slice B2 m2 d2⟩:CoR)]=coC ⟨q,b1,.slice A1 n1 c1,.slice B1 m1 d1,b2,.slice A2 n2 c2,.slice B2 m2 d2⟩:=by simp [gg0]
   rw [this];exact r1
 · rcases List.mem_append.1 hr with hr | hr
   · exact (f r hr).natq r3
   · rw [List.mem_singleton.1 hr];exact ⟨⟨_,_,_,_,_,_,rfl,rfl⟩,⟨_,_,_,_,_,_,rfl,rfl⟩,hx.natq r3,hy.natq r3⟩
theorem gc8.get_ (h:gc8 base W v l) (k:Nat) (hk:k < l.length):∃ g c b1 A1 n1 c1 B1 m1 d1 b2 A2 n2 c2 B2 m2 d2,v=.slice (some ⟨g,0,none⟩) l.length c/\base<=g/\g < W.heap.size /\
 (W.cell? ⟨g,k * 10,none⟩=some (.int .i64 0)/\W.cell? ⟨g,k * 10+1,none⟩=some (.bool false)/\W.cell? ⟨g,k * 10+2,none⟩=some (.slice none 0 0)/\W.cell? ⟨g,k * 10+3,none⟩=some (.slice none 0 0)/\W.cell? ⟨g,k * 10+4,none⟩=some (.bool b1)/\W.cell? ⟨g,k * 10+5,none⟩=some (.slice A1 n1 c1)/\W.cell? ⟨g,k * 10+6,none⟩=some (.slice B1 m1 d1)/\W.cell? ⟨g,k * 10+7,none⟩=some (.bool b2)/\W.cell? ⟨g,k * 10+8,none⟩=some (.slice A2 n2 c2)/\W.cell? ⟨g,k * 10+9,none⟩=some (.slice B2 m2 d2))/\uc7 W (.agg #[.bool b1,.slice A1 n1 c1,.slice B1 m1 d1]) l[k]/\uc7 W (.agg #[.bool b2,.slice A2 n2 c2,.slice B2 m2 d2]) l[k]:=by
 obtain ⟨rs,rfl,g,f⟩:=h;rw [List.length_map] at hk;obtain ⟨b,c',rfl,-,-,hbg,hlt,-⟩:=g.pos (by omega);have hcell:∀ j,j < 10->W.cell? ⟨b,k * 10+j,none⟩=(coC rs[k])[j]?:=by
  intro j hj;rw [g.cell (k * 10+j) (by omega)];exact kik rs k hk j hj
 obtain ⟨⟨A1,n1,c1,B1,m1,d1,e1,e2⟩,⟨A2,n2,c2,B2,m2,d2,e3,e4⟩,h1,h2⟩:=f rs[k] (List.getElem_mem hk);rw [e1,e2] at h1;rw [e3,e4] at h2;have hall:=fun j (hj:j < 10)=>hcell j hj
 simp only [coC,e1,e2,e3,e4] at hall;rw [List.length_map,List.getElem_map];exact ⟨b,c',rs[k].b1,A1,n1,c1,B1,m1,d1,rs[k].b2,A2,n2,c2,B2,m2,d2,rfl,hbg,hlt,⟨hall 0 (by omega),hall 1 (by omega),hall 2 (by omega),hall 3 (by omega),hall 4 (by omega),hall 5 (by omega),hall 6 (by omega),hall 7 (by omega),hall 8 (by omega),hall 9 (by omega)⟩,h1,h2⟩
end
end Go.Proofs.YtopddaabiinboaaGreat

/- Ten cells of a block are written. -/
namespace Go.Proofs.YtopddaabiinboaaGreat
open Go.RowKit
theorem ug9 (b : Nat) : ∀ (vs : List Value) (o : Nat) (w : World), (∀ j, j < vs.length -> ∃ u, w.cell? ⟨b, o + j, none⟩ = some u /\ gc6 u = false) -> ∀ x ds, vc2 w x ds -> vc2 (w.setCells b o vs) x ds
 | [],o,w,_,x,ds,h=>h
 | v :: vs,o,w,hu,x,ds,h=>by
   obtain ⟨u,h1,h2⟩:=hu 0 (by simp);refine ug9 b vs (o+1) (w.setCell ⟨b,o,none⟩ v) (fun j hj=>?_) x ds (h.box h1 h2 v);obtain ⟨u',h3,h4⟩:=hu (j+1) (by simpa using hj);refine ⟨u',?_,h4⟩;rw [World.cell?_setCell_other _ _ _ _ (by intro e; injection e; omega),<- h3]
   congr 2; omega
theorem whb {w : World} {b : Nat} (hb : w.heap.size <= b) : ∀ (vs : List Value) (o : Nat) (w' : World), Ext w w' -> Ext w (w'.setCells b o vs)
 | [],o,w',h=>h
 | v :: vs,o,w',h=>whb hb vs (o+1) (w'.setCell ⟨b,o,none⟩ v) (h.setCell hb v)
theorem kg6 {b i : Nat} (hne : i ≠ b) : ∀ (vs : List Value) (o : Nat) (w : World), (w.setCells b o vs).heap[i]? = w.heap[i]?
 | [],o,w=>rfl
 | v :: vs,o,w=>(kg6 hne vs (o+1) (w.setCell ⟨b,o,none⟩ v)).trans (Below.heap_setCell w _ v i hne)
def yh8 (W:World) (g:Nat) (u0 u1 u2 u3 u4 u5 u6 u7 u8 u9:Value):World:=
 (((((((((W.setCell ⟨g,0,none⟩ u0).setCell ⟨g,1,none⟩ u1).setCell ⟨g,2,none⟩ u2).setCell ⟨g,3,none⟩ u3).setCell ⟨g,4,none⟩ u4).setCell ⟨g,5,none⟩ u5).setCell ⟨g,6,none⟩ u6).setCell ⟨g,7,none⟩ u7).setCell ⟨g,8,none⟩ u8).setCell ⟨g,9,none⟩ u9
theorem xhe (W:World) (g:Nat) (u0 u1 u2 u3 u4 u5 u6 u7 u8 u9:Value):yh8 W g u0 u1 u2 u3 u4 u5 u6 u7 u8 u9=W.setCells g 0 [u0,u1,u2,u3,u4,u5,u6,u7,u8,u9]:=rfl
end Go.Proofs.YtopddaabiinboaaGreat

/- Layer 5 (rational): integers as fractions, lowest terms, negation. -/
set_option maxRecDepth 100000
set_option maxHeartbeats 8000000
namespace Go.Proofs.YtopddaabiinboaaGreat
open Go.RowKit
theorem khh (x:Value) (z:Int) (L:Nat) (w:World) (h:xc4 w x z L) (hs:L<=17592186044416):Calls Tryz.prog 30 #[x] w (vc6 (z:Rat) w):=by
 have H:=Lib.hid h;obtain ⟨neg,v,ds,rfl,⟨A,c,rfl,h1,h2,h3⟩,hz,hl⟩:=h;clear h3 hz;go_enter Tryz.func30,Tryz.ntmps30;go_wp2_with fail;generalize hW:(w.alloc (Obj.cells #[.bool neg,.slice A ds.length c] 27)).alloc (Obj.cells #[.bool false,.slice none 0 0,.slice none 0 0] 37)=W;have HX0:Hid (Ext w W):=by
  have:Ext w W:=by rw [<- hW]; exact ((Ext.refl w).alloc _).alloc _
  exact this
 have HWS:Hid (W.heap.size=w.heap.size+1+1):=by
  have:W.heap.size=w.heap.size+1+1:=by rw [<- hW]; simp
  exact this
 have HS:Hid (∀ W',Ext W W'->(Ext w W'/\W'.cell? ⟨w.heap.size,0,none⟩=some (.bool neg)/\W'.cell? ⟨w.heap.size,1,none⟩=some (.slice A ds.length c))):=by
  intro W' hx;obtain ⟨hc,hf⟩:=hx.cells;have hsz:=HWS.out;refine ⟨HX0.out.trans hx,?_,?_⟩ <;> (rw [hc _ _ (by omega),<- hW]; simp [go_sem])
 have HR:Hid (∀ W',Ext W W'->(W'.cell? ⟨w.heap.size+1,0,none⟩=some (.bool false)/\W'.cell? ⟨w.heap.size+1,1,none⟩=some (.slice none 0 0)/\W'.cell? ⟨w.heap.size+1,2,none⟩=some (.slice none 0 0)/\W'.frozen? ⟨w.heap.size+1,0,none⟩=false/\W'.frozen? ⟨w.heap.size+1,1,none⟩=false/\W'.frozen? ⟨w.heap.size+1,2,none⟩=false)):=by
  intro W' hx;obtain ⟨hc,hf⟩:=hx.cells;have hsz:=HWS.out;refine ⟨?_,?_,?_,?_,?_,?_⟩ <;> first | (rw [hc _ _ (by omega),<- hW]; simp [go_sem]; done) | (rw [hf _ _ (by omega),<- hW]; simp [go_sem]; done)
 clear hW;obtain ⟨e0,b0,b1⟩:=HS.out W (Ext.refl W);refine (xdi _ z L _ (H.out.ext e0) (by omega)).mono ?_;rintro e w1 ⟨xn,rfl,⟨vn,rfl,An,cn,rfl,q1,q2,q3⟩,y1⟩;have Y1:=Lib.hid y1;have Q3:=Lib.hid q3;clear e0 b0 b1 y1 q3;go_wp2_with fail;refine (jgz 1 _ (by omega)).mono ?_;rintro e w2 ⟨v2,rfl,⟨A2,c2,rfl,p1,p2,p3⟩,y2⟩;obtain ⟨r0,r1,r2,f0,f1,f2⟩:=HR.out w2 (Y1.out.trans y2);have HF:=Lib.hid (yc7 (q:=(z:Rat)) (g:=w.heap.size+1) (HX0.out.trans (Y1.out.trans y2)) (by omega) r0 r1 r2 rfl rfl rfl ⟨_,_,rfl,⟨An,cn,rfl,q1,q2,Q3.out.ext y2⟩,⟨A2,c2,rfl,p1,p2,p3⟩⟩);clear y2 p3;go_wp2_with fail;exact bodyPost_ret (v:=.agg #[.bool (decide (z < 0)),.slice An (dg z.natAbs).length cn,.slice A2 (dg 1).length c2]) (by simp [results,Tryz.results30,go_sem,r0,r1,r2]) rfl HF.out
theorem gg5 (z:Int) (w:World) (h0:-9223372036854775808<=z) (h1:z<=9223372036854775807):Calls Tryz.prog 11 #[.int .i64 z] w (vc6 (z:Rat) w):=by
 go_enter Tryz.func11,Tryz.ntmps11;go_wp2_with fail;generalize hW:w.alloc (Obj.cells #[.bool false,.slice none 0 0,.slice none 0 0] 37)=W;have HX0:Hid (Ext w W):=by
  have:Ext w W:=by rw [<- hW]; exact (Ext.refl w).alloc _
  exact this
 have HWS:Hid (W.heap.size=w.heap.size+1):=by
  have:W.heap.size=w.heap.size+1:=by rw [<- hW]; simp
  exact this
 have HS:Hid (∀ W',Ext W W'->(Ext w W')):=by
  intro W' hx;obtain ⟨hc,hf⟩:=hx.cells;have hsz:=HWS.out;exact HX0.out.trans hx
 have HR:Hid (∀ W',Ext W W'->(W'.cell? ⟨w.heap.size,0,none⟩=some (.bool false)/\W'.cell? ⟨w.heap.size,1,none⟩=some (.slice none 0 0)/\W'.cell? ⟨w.heap.size,2,none⟩=some (.slice none 0 0)/\W'.frozen? ⟨w.heap.size,0,none⟩=false/\W'.frozen? ⟨w.heap.size,1,none⟩=false/\W'.frozen? ⟨w.heap.size,2,none⟩=false)):=by
  intro W' hx;obtain ⟨hc,hf⟩:=hx.cells;have hsz:=HWS.out;refine ⟨?_,?_,?_,?_,?_,?_⟩ <;> first | (rw [hc _ _ (by omega),<- hW]; simp [go_sem]; done) | (rw [hf _ _ (by omega),<- hW]; simp [go_sem]; done)
 clear hW;refine (of_int z _ h0 h1).mono ?_;rintro e w1 ⟨xn,rfl,nn,y1⟩;have hl:(dg z.natAbs).length<=2:=zc4 (by (have h6:B32 ^ 2=18446744073709551616:=by decide); omega);have Y1:=Lib.hid y1;have NN:=Lib.hid nn;clear y1 nn;go_wp2_with fail;refine (khh _ z _ _ NN.out.raw (by omega)).mono ?_;rintro e w2 ⟨x2,rfl,m2,y2⟩;obtain ⟨bz,Az,nz,cz,Bz,mz,dz,rfl⟩:=m2.unpack;obtain ⟨r0,r1,r2,f0,f1,f2⟩:=HR.out w2 (Y1.out.trans y2);have HF:=Lib.hid (yc7 (g:=w.heap.size) (HX0.out.trans (Y1.out.trans y2)) (by omega) r0 r1 r2 rfl rfl rfl m2);clear y2 m2;go_wp2_with fail;exact bodyPost_ret (v:=.agg #[.bool bz,.slice Az nz cz,.slice Bz mz dz]) (by simp [results,Tryz.results11,go_sem,r0,r1,r2]) rfl HF.out
def vg2 (p q:Rat):Int:=if p < q then -1 else if q < p then 1 else 0
theorem vir {n1 n2:Int} {d1 d2:Nat} (h1:0 < d1) (h2:0 < d2):mkRat n1 d1<=mkRat n2 d2 ↔ n1 * d2<=n2 * d1:=by
 rw [Rat.le_iff_sub_nonneg,Rat.sub_eq_add_neg,Rat.neg_mkRat,Rat.mkRat_add_mkRat _ _ (by omega) (by omega),Int.neg_mul,<- Int.sub_eq_add_neg,<- Rat.divInt_ofNat];rw [Rat.divInt_nonneg_iff_of_pos_right (Int.natCast_pos.2 (Nat.mul_pos h2 h1))];omega
theorem jhw {n1 n2:Int} {d1 d2:Nat} (h1:0 < d1) (h2:0 < d2):mkRat n1 d1 < mkRat n2 d2 ↔ n1 * d2 < n2 * d1:=by
 rw [<- Rat.not_le,vir h2 h1];omega
theorem whk {n1 n2:Int} {d1 d2:Nat} (h1:0 < d1) (h2:0 < d2):kc4 (n1 * d2) (n2 * d1)=vg2 (mkRat n1 d1) (mkRat n2 d2):=by
 unfold kc4 vg2;simp only [jhw h1 h2,jhw h2 h1]
end Go.Proofs.YtopddaabiinboaaGreat
