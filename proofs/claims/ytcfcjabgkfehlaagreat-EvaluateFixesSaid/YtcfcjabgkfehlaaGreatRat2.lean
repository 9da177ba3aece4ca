/- Layer 5 (rational): lowest terms. -/
import Derived.Test.YtcfcjabgkfehlaaGreatRat
set_option linter.unusedSimpArgs false
set_option linter.unusedVariables false

set_option maxRecDepth 100000
set_option maxHeartbeats 8000000
namespace Go.Proofs.YtcfcjabgkfehlaaGreat
open Go.RowKit
def um (q:Rat) (w:World) (e:Ending) (w':World):Prop:=∃ x,e=.returned x/\kab w' x q/\Ext w w'
theorem zq {w W : World} {g : Nat} {q : Rat} {b s t u0 u1 u2 : Value} (hx : Ext w W) (hg : w.heap.size <= g) (h0 : W.cell? ⟨g, 0, none⟩ = some u0) (h1 : W.cell? ⟨g, 1, none⟩ = some u1) (h2 : W.cell? ⟨g, 2, none⟩ = some u2)
 (d0:ku u0=false) (d1:ku u1=false) (d2:ku u2=false) (hN:kab W (.agg #[b,s,t]) q) :
 um q w (.returned (.agg #[b,s,t])) (((W.setCell ⟨g,0,none⟩ b).setCell ⟨g,1,none⟩ s).setCell ⟨g,2,none⟩ t):=by
 have k1:(W.setCell ⟨g,0,none⟩ b).cell? ⟨g,1,none⟩=some u1:=by rw [World.cell?_setCell_other _ _ _ _ (by simp),h1]
 have k2:((W.setCell ⟨g,0,none⟩ b).setCell ⟨g,1,none⟩ s).cell? ⟨g,2,none⟩=some u2:=by
  rw [World.cell?_setCell_other _ _ _ _ (by simp),World.cell?_setCell_other _ _ _ _ (by simp),h2]
 exact ⟨_,rfl,((hN.box h0 d0 _).box k1 d1 _).box k2 d2 _,((hx.setCell (by simpa using hg) _).setCell (by simpa using hg) _).setCell (by simpa using hg) _⟩
theorem gbw (n:Int) (d:Nat) (hd:0 < d):n.tdiv (Nat.gcd n.natAbs d:Nat)=(mkRat n d).num/\((d:Int).tdiv (Nat.gcd n.natAbs d:Nat))=((mkRat n d).den:Int):=by
 have hd0:d ≠ 0:=by omega
 rw [Rat.num_mkRat,Rat.den_mkRat,if_neg hd0,if_neg hd0,Nat.gcd_comm d];refine ⟨?_,?_⟩
 · rw [Int.tdiv_eq_ediv_of_dvd];exact Int.ofNat_dvd_left.2 (Nat.gcd_dvd_left _ _)
 · rfl
theorem uan (x y:Value) (n:Int) (d:Nat) (L M:Nat) (w:World) (h:yh w x n L) (k:yh w y (d:Nat) M) (hs:L<=17592186044416) (hs':M<=17592186044416) (hd:0 < d) :
 Calls Tryz.prog 135 #[x,y] w (um (mkRat n d) w):=by
 have hG0:Nat.gcd n.natAbs d ≠ 0:=fun e=>by have:=Nat.eq_zero_of_gcd_eq_zero_right e; omega
 have hGl:(dg (Nat.gcd n.natAbs d)).length<=M:=by
  have h1:=k.len;simp only [Int.natAbs_natCast] at h1;exact Nat.le_trans (jl (Nat.le_of_dvd hd (Nat.gcd_dvd_right _ _))) h1
 obtain ⟨rn,rd⟩:=gbw n d hd;have RN:=Lib.hid rn;have RD:=Lib.hid rd;have H:=Lib.hid h;have K:=Lib.hid k;obtain ⟨neg,v,ds,rfl,⟨A,c,rfl,h1,h2,h3⟩,hz,hl⟩:=h;obtain ⟨neg',v',ds',rfl,⟨A',c',rfl,h1',h2',h3'⟩,hz',hl'⟩:=k;clear h3 h3' hz hz' rn rd;go_enter Tryz.func135,Tryz.ntmps135;go_wp2_with fail;generalize hW:((w.alloc (Obj.cells #[.bool neg,.slice A ds.length c] 33)).alloc (Obj.cells #[.bool neg',.slice A' ds'.length c'] 33)).alloc (Obj.cells #[.bool false,.slice none 0 0,.slice none 0 0] 65)=W;have HX0:Hid (Ext w W):=by
  have:Ext w W:=by rw [<- hW]; exact (((Ext.refl w).alloc _).alloc _).alloc _
  exact this
 have HWS:Hid (W.heap.size=w.heap.size+1+1+1):=by
  have:W.heap.size=w.heap.size+1+1+1:=by rw [<- hW]; simp
  exact this
 have HS:Hid (∀ W',Ext W W'->(Ext w W'/\W'.cell? ⟨w.heap.size,0,none⟩=some (.bool neg)/\W'.cell? ⟨w.heap.size,1,none⟩=some (.slice A ds.length c)/\W'.cell? ⟨w.heap.size+1,0,none⟩=some (.bool neg')/\W'.cell? ⟨w.heap.size+1,1,none⟩=some (.slice A' ds'.length c'))):=by
  intro W' hx;obtain ⟨hc,hf⟩:=hx.cells;have hsz:=HWS.out;refine ⟨HX0.out.trans hx,?_,?_,?_,?_⟩ <;> (rw [hc _ _ (by omega),<- hW]; simp [go_sem])
 have HR:Hid (∀ W',Ext W W'->(W'.cell? ⟨w.heap.size+1+1,0,none⟩=some (.bool false)/\W'.cell? ⟨w.heap.size+1+1,1,none⟩=some (.slice none 0 0)/\W'.cell? ⟨w.heap.size+1+1,2,none⟩=some (.slice none 0 0)/\W'.frozen? ⟨w.heap.size+1+1,0,none⟩=false/\W'.frozen? ⟨w.heap.size+1+1,1,none⟩=false/\W'.frozen? ⟨w.heap.size+1+1,2,none⟩=false)):=by
  intro W' hx;obtain ⟨hc,hf⟩:=hx.cells;have hsz:=HWS.out;refine ⟨?_,?_,?_,?_,?_,?_⟩ <;> first | (rw [hc _ _ (by omega),<- hW]; simp [go_sem]; done) | (rw [hf _ _ (by omega),<- hW]; simp [go_sem]; done)
 have HFZ:Hid (∀ W',Ext W W'->W'.frozen? ⟨w.heap.size,0,none⟩=false/\W'.frozen? ⟨w.heap.size,1,none⟩=false):=by
  intro W' hx;obtain ⟨hc,hf⟩:=hx.cells;have hsz:=HWS.out;refine ⟨?_,?_⟩ <;> (rw [hf _ _ (by omega),<- hW]; simp [go_sem])
 have HFZ':Hid (∀ W',Ext W W'->W'.frozen? ⟨w.heap.size+1,0,none⟩=false/\W'.frozen? ⟨w.heap.size+1,1,none⟩=false):=by
  intro W' hx;obtain ⟨hc,hf⟩:=hx.cells;have hsz:=HWS.out;refine ⟨?_,?_⟩ <;> (rw [hf _ _ (by omega),<- hW]; simp [go_sem])
 clear hW;obtain ⟨e0,b0,b1,b2,b3⟩:=HS.out W (Ext.refl W);have hg:=zcq _ _ n (d:Nat) L M W (H.out.ext e0) (K.out.ext e0) hs hs';simp only [Int.natAbs_natCast] at hg;refine hg.mono ?_;clear hg e0 b0 b1 b2 b3;generalize Nat.gcd n.natAbs d=G at *;rintro e w1 ⟨xg,rfl,⟨vg,rfl,Ag,cg,rfl,g1,g2,g3⟩,y1⟩
 change (dg G).length<=cg at g1
 change ji w1 Ag (dg G) at g3
 have hGb:decide (((G:Nat):Int) < 0)=false:=by simp
 rw [hGb,Int.natAbs_natCast];have hsz1:=y1.size;rw [HWS.out] at hsz1;have x2:Ext w1 (w1.alloc (Obj.cells #[.bool false,.slice Ag (dg G).length cg] 33)):=(Ext.refl w1).alloc _
 have GN:Hid (yh (w1.alloc (Obj.cells #[.bool false,.slice Ag (dg G).length cg] 33)) (.agg #[.bool false,.slice Ag (dg G).length cg]) (G:Nat) M):=
  yh.ext ⟨false,_,dg G,rfl,⟨Ag,cg,rfl,g1,g2,g3⟩,by rw [je]; rfl,hGl⟩ x2
 have Y2:=Lib.hid (y1.trans x2);have C5:Hid (∀ w',Ext (w1.alloc (Obj.cells #[.bool false,.slice Ag (dg G).length cg] 33)) w'->w'.cell? ⟨w1.heap.size,0,none⟩=some (.bool false)/\w'.cell? ⟨w1.heap.size,1,none⟩=some (.slice Ag (dg G).length cg)):=by
  intro w' hx;obtain ⟨hc,-⟩:=hx.cells;exact ⟨by rw [hc _ _ (by simp)]; simp [World.cell?_alloc_new],by rw [hc _ _ (by simp)]; simp [World.cell?_alloc_new]⟩
 have Z2:Hid (w1.heap.size < (w1.alloc (Obj.cells #[.bool false,.slice Ag (dg G).length cg] 33)).heap.size):=by
  have:w1.heap.size < (w1.alloc (Obj.cells #[.bool false,.slice Ag (dg G).length cg] 33)).heap.size:=by simp
  exact this
 clear x2 g3 hGb;go_upto_region 2 with fail;generalize w1.alloc (Obj.cells #[.bool false,.slice Ag (dg G).length cg] 33)=w2 at *;generalize hg5:w1.heap.size=g5 at *;clear hg5 y1;obtain ⟨e0,b0,b1,b2,b3⟩:=HS.out w2 Y2.out;obtain ⟨c0,c1⟩:=C5.out w2 (Ext.refl w2);have E0:=Lib.hid e0;clear e0;go_wp2_with fail;refine (zbt _ _ n ((G:Nat):Int) L M _ (H.out.ext E0.out) GN.out hs hs' (by omega)).mono ?_;rw [RN.out];rintro e w3 ⟨xq,xr,rfl,⟨vq,rfl,Aq,cq,rfl,i1,i2,i3⟩,-,y3⟩;have Y3:=Lib.hid y3;have HQN:Hid (uab w3 (.agg #[.bool (decide ((mkRat n d).num < 0)),.slice Aq (dg (mkRat n d).num.natAbs).length cq]) (mkRat n d).num):=⟨_,rfl,Aq,cq,rfl,i1,i2,i3⟩;clear c0 c1 b0 b1 b2 b3;obtain ⟨e0,b0,b1,b2,b3⟩:=HS.out w3 (Y2.out.trans y3);have hf:w3.frozen? ⟨w.heap.size,0,none⟩=false/\w3.frozen? ⟨w.heap.size,1,none⟩=false:=HFZ.out w3 (Y2.out.trans y3);obtain ⟨hf0,hf1⟩:=hf;clear y3 i3 e0;go_upto_region 3 with fail;obtain ⟨k0,k1⟩:=C5.out w3 Y3.out;obtain ⟨r0,r1,r2,f0,f1,f2⟩:=HR.out w3 (Y2.out.trans Y3.out);have hz3:g5 < w3.heap.size:=Nat.lt_of_lt_of_le Z2.out Y3.out.size;generalize hbq:Value.bool (decide ((mkRat n d).num < 0))=bq at *;generalize hsq:Value.slice Aq (dg (mkRat n d).num.natAbs).length cq=sq at *
 have N4:Hid (uab ((w3.setCell ⟨w.heap.size,0,none⟩ bq).setCell ⟨w.heap.size,1,none⟩ sq) (.agg #[bq,sq]) (mkRat n d).num):=
  (HQN.out.box b0 rfl _).box (u:=.slice A ds.length c) (by rw [World.cell?_setCell_other _ _ _ _ (by simp),b1]) rfl _
 have K4:Hid (yh ((w3.setCell ⟨w.heap.size,0,none⟩ bq).setCell ⟨w.heap.size,1,none⟩ sq) (.agg #[.bool neg',.slice A' ds'.length c']) (d:Nat) M):=
  ((K.out.ext (E0.out.trans Y3.out)).box b0 rfl _).box (u:=.slice A ds.length c) (by rw [World.cell?_setCell_other _ _ _ _ (by simp),b1]) rfl _
 have G4:Hid (yh ((w3.setCell ⟨w.heap.size,0,none⟩ bq).setCell ⟨w.heap.size,1,none⟩ sq) (.agg #[.bool false,.slice Ag (dg G).length cg]) (G:Nat) M):=
  ((GN.out.ext Y3.out).box b0 rfl _).box (u:=.slice A ds.length c) (by rw [World.cell?_setCell_other _ _ _ _ (by simp),b1]) rfl _
 have X4:Hid (Ext w ((w3.setCell ⟨w.heap.size,0,none⟩ bq).setCell ⟨w.heap.size,1,none⟩ sq)):=((E0.out.trans Y3.out).setCell (by simp) _).setCell (by simp) _;have FZ4:=HFZ'.out w3 (Y2.out.trans Y3.out);have hc4:∀ b o,b ≠ w.heap.size->((w3.setCell ⟨w.heap.size,0,none⟩ bq).setCell ⟨w.heap.size,1,none⟩ sq).cell? ⟨b,o,none⟩=w3.cell? ⟨b,o,none⟩:=fun b o hb=>by
  rw [World.cell?_setCell_other _ _ _ _ (by intro e; injection e; omega),World.cell?_setCell_other _ _ _ _ (by intro e; injection e; omega)]
 have hf4:∀ b o,b ≠ w.heap.size->((w3.setCell ⟨w.heap.size,0,none⟩ bq).setCell ⟨w.heap.size,1,none⟩ sq).frozen? ⟨b,o,none⟩=w3.frozen? ⟨b,o,none⟩:=fun b o hb=>by simp
 have hn0:((w3.setCell ⟨w.heap.size,0,none⟩ bq).setCell ⟨w.heap.size,1,none⟩ sq).cell? ⟨w.heap.size,0,none⟩=some bq:=by
  rw [World.cell?_setCell_other _ _ _ _ (by simp)]; exact World.cell?_setCell_same _ _ _ b0
 have hn1:((w3.setCell ⟨w.heap.size,0,none⟩ bq).setCell ⟨w.heap.size,1,none⟩ sq).cell? ⟨w.heap.size,1,none⟩=some sq:=by
  exact World.cell?_setCell_same _ _ _ (u:=.slice A ds.length c) (by rw [World.cell?_setCell_other _ _ _ _ (by simp),b1])
 have hz4:((w3.setCell ⟨w.heap.size,0,none⟩ bq).setCell ⟨w.heap.size,1,none⟩ sq).heap.size=w3.heap.size:=by simp [World.setCell]
 generalize (w3.setCell ⟨w.heap.size,0,none⟩ bq).setCell ⟨w.heap.size,1,none⟩ sq=w4 at *;have m2:=(hc4 (w.heap.size+1) 0 (by omega)).trans b2;have m3:=(hc4 (w.heap.size+1) 1 (by omega)).trans b3;have m4:=(hc4 g5 0 (by omega)).trans k0;have m5:=(hc4 g5 1 (by omega)).trans k1;have p0:=(hc4 (w.heap.size+1+1) 0 (by omega)).trans r0;have p1:=(hc4 (w.heap.size+1+1) 1 (by omega)).trans r1;have p2:=(hc4 (w.heap.size+1+1) 2 (by omega)).trans r2;have pf0:=(hf4 (w.heap.size+1+1) 0 (by omega)).trans f0;have pf1:=(hf4 (w.heap.size+1+1) 1 (by omega)).trans f1;have pf2:=(hf4 (w.heap.size+1+1) 2 (by omega)).trans f2;have pg0:=(hf4 (w.heap.size+1) 0 (by omega)).trans FZ4.1;have pg1:=(hf4 (w.heap.size+1) 1 (by omega)).trans FZ4.2
 have PK:Hid (∀ w5,Ext w4 w5->(w5.cell? ⟨w.heap.size,0,none⟩=some bq/\w5.cell? ⟨w.heap.size,1,none⟩=some sq)/\(w5.cell? ⟨w.heap.size+1,0,none⟩=some (.bool neg')/\w5.cell? ⟨w.heap.size+1,1,none⟩=some (.slice A' ds'.length c')) /\
  (w5.cell? ⟨w.heap.size+1+1,0,none⟩=some (.bool false)/\w5.cell? ⟨w.heap.size+1+1,1,none⟩=some (.slice none 0 0)/\w5.cell? ⟨w.heap.size+1+1,2,none⟩=some (.slice none 0 0)) /\
  (w5.frozen? ⟨w.heap.size+1,0,none⟩=false/\w5.frozen? ⟨w.heap.size+1,1,none⟩=false)/\(w5.frozen? ⟨w.heap.size+1+1,0,none⟩=false/\w5.frozen? ⟨w.heap.size+1+1,1,none⟩=false/\w5.frozen? ⟨w.heap.size+1+1,2,none⟩=false)):=by
  intro w5 hx;obtain ⟨hc,hf⟩:=hx.cells;have hlt:w.heap.size+1+1 < w4.heap.size:=by omega
  refine ⟨⟨?_,?_⟩,⟨?_,?_⟩,⟨?_,?_,?_⟩,⟨?_,?_⟩,⟨?_,?_,?_⟩⟩ <;> first | (rw [hc _ _ (by omega)]; assumption) | (rw [hf _ _ (by omega)]; assumption)
 have HBQ:=Lib.hid hbq;have HSQ:=Lib.hid hsq;clear p0 p1 p2 pf0 pf1 pf2 pg0 pg1 r0 r1 r2 f0 f1 f2 b0 b1 b2 b3 hc4 hf4 hz4 hz3 FZ4 k0 k1 hf0 hf1 hn0 hn1 hbq hsq;go_wp2_with fail;refine (zbt _ _ ((d:Nat):Int) ((G:Nat):Int) M M _ K4.out G4.out hs' hs' (by omega)).mono ?_;rw [RD.out];rintro e w5 ⟨xd,xe,rfl,⟨vd,rfl,Ad,cd,rfl,j1,j2,j3⟩,-,y5⟩;have hdb:decide ((((mkRat n d).den:Nat):Int) < 0)=false:=by simp
 rw [hdb,Int.natAbs_natCast];obtain ⟨⟨t0,t1⟩,⟨t2,t3⟩,⟨t4,t5,t6⟩,⟨t7,t8⟩,t9,t10,t11⟩:=PK.out w5 y5;rw [Int.natAbs_natCast] at j1 j3;have N5:=Lib.hid (N4.out.ext y5);have X5:=Lib.hid (X4.out.trans y5);have D5:Hid (jb w5 (.slice Ad (dg (mkRat n d).den).length cd) (dg (mkRat n d).den)):=⟨Ad,cd,rfl,j1,j2,j3⟩;clear m2 m3 m4 m5 y5 j3 hdb N4 K4 G4 PK;have hbq:=HBQ.out;have hsq:=HSQ.out;subst hbq;subst hsq;clear HBQ HSQ
 have HF : Hid (um (mkRat n d) w (.returned (.agg #[.bool (decide ((mkRat n d).num < 0)), .slice Aq (dg (mkRat n d).num.natAbs).length cq, .slice Ad (dg (mkRat n d).den).length cd]))
  (((((w5.setCell ⟨w.heap.size+1,0,none⟩ (.bool false)).setCell ⟨w.heap.size+1,1,none⟩ (.slice Ad (dg (mkRat n d).den).length cd)).setCell ⟨w.heap.size+1+1,0,none⟩ (.bool (decide ((mkRat n d).num < 0)))).setCell ⟨w.heap.size+1+1,1,none⟩ (.slice Aq (dg (mkRat n d).num.natAbs).length cq)).setCell ⟨w.heap.size+1+1,2,none⟩ (.slice Ad (dg (mkRat n d).den).length cd))):=by
  have u1:(w5.setCell ⟨w.heap.size+1,0,none⟩ (.bool false)).cell? ⟨w.heap.size+1,1,none⟩=some (.slice A' ds'.length c'):=by rw [World.cell?_setCell_other _ _ _ _ (by simp),t3]
  obtain ⟨vn,en,hn5⟩:=(N5.out.box t2 rfl (.bool false)).box u1 rfl (.slice Ad (dg (mkRat n d).den).length cd);have d5:=(D5.out.box t2 rfl (.bool false)).box u1 rfl (.slice Ad (dg (mkRat n d).den).length cd);have far:∀ o,((w5.setCell ⟨w.heap.size+1,0,none⟩ (.bool false)).setCell ⟨w.heap.size+1,1,none⟩ (.slice Ad (dg (mkRat n d).den).length cd)).cell? ⟨w.heap.size+1+1,o,none⟩=w5.cell? ⟨w.heap.size+1+1,o,none⟩:=fun o=>by
   rw [World.cell?_setCell_other _ _ _ _ (by intro e; injection e; omega),World.cell?_setCell_other _ _ _ _ (by intro e; injection e; omega)]
  refine zq ((X5.out.setCell (by simp) _).setCell (by simp) _) (by omega) ((far 0).trans t4) ((far 1).trans t5) ((far 2).trans t6) rfl rfl rfl ⟨vn,_,?_,hn5,d5⟩;injection en with en
  injection en with en
  injection en with _ en
  injection en with en
  rw [en]
 clear N5 D5 X5;go_wp2_with fail;exact bodyPost_ret (v:=.agg #[.bool (decide ((mkRat n d).num < 0)),.slice Aq (dg (mkRat n d).num.natAbs).length cq,.slice Ad (dg (mkRat n d).den).length cd]) (by simp [results,Tryz.results135,go_sem,t4,t5,t6]) rfl HF.out
end Go.Proofs.YtcfcjabgkfehlaaGreat
