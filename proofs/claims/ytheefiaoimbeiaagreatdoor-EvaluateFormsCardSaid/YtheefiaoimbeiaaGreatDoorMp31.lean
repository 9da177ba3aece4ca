/- Layer 5 (rational): lowest terms. -/
import Derived.Test.YtheefiaoimbeiaaGreatDoorMp30
set_option linter.unusedSimpArgs false
set_option linter.unusedVariables false
set_option maxRecDepth 100000
set_option maxHeartbeats 8000000
namespace Go.Proofs.YtheefiaoimbeiaaGreatDoor
open Lib (hid)
open Go.RowKit
def vdn (q:Rat) (w:World) (e:Ending) (w':World):Prop:=∃ x,e=.returned x/\udw w' x q/\Ext w w'
theorem ydo {w W : World} {g : Nat} {q : Rat} {b s t u0 u1 u2 : Value} (hx : Ext w W) (hg : w.heap.size <= g) (h0 : W.cell? ⟨g, 0, none⟩ = some u0) (h1 : W.cell? ⟨g, 1, none⟩ = some u1) (h2 : W.cell? ⟨g, 2, none⟩ = some u2)
 (d0:wdo u0=false) (d1:wdo u1=false) (d2:wdo u2=false) (hN:udw W (.agg #[b,s,t]) q) :
 vdn q w (.returned (.agg #[b,s,t])) (((W.setCell ⟨g,0,none⟩ b).setCell ⟨g,1,none⟩ s).setCell ⟨g,2,none⟩ t):=by
 have k1:(W.setCell ⟨g,0,none⟩ b).cell? ⟨g,1,none⟩=some u1:=by rw [pe _ _ _ _ (by simp),h1]
 have k2:((W.setCell ⟨g,0,none⟩ b).setCell ⟨g,1,none⟩ s).cell? ⟨g,2,none⟩=some u2:=by
  rw [pe _ _ _ _ (by simp),pe _ _ _ _ (by simp),h2]
 exact ⟨_,rfl,((hN.box h0 d0 _).box k1 d1 _).box k2 d2 _,((hx.setCell (by simpa using hg) _).setCell (by simpa using hg) _).setCell (by simpa using hg) _⟩
theorem zfh (n:Int) (d:Nat) (hd:0 < d):n.tdiv (Nat.gcd n.natAbs d:Nat)=(mkRat n d).num/\((d:Int).tdiv (Nat.gcd n.natAbs d:Nat))=((mkRat n d).den:Int):=by
 have hd0:d ≠ 0:=by omega
 rw [Rat.num_mkRat,Rat.den_mkRat,if_neg hd0,if_neg hd0,Nat.gcd_comm d];refine ⟨?_,?_⟩
 · rw [Int.tdiv_eq_ediv_of_dvd];exact Int.ofNat_dvd_left.2 (Nat.gcd_dvd_left _ _)
 · rfl
theorem gd6 (x y:Value) (n:Int) (d:Nat) (L M:Nat) (w:World) (h:wdl w x n L) (k:wdl w y (d:Nat) M) (hs:L<=17592186044416) (hs':M<=17592186044416) (hd:0 < d) :
 Calls Tryz.prog 113 #[x,y] w (vdn (mkRat n d) w):=by
 have hG0:Nat.gcd n.natAbs d ≠ 0:=fun e=>by have:=Nat.eq_zero_of_gcd_eq_zero_right e; omega
 have hGl:(dg (Nat.gcd n.natAbs d)).length<=M:=by
  have h1:=k.len;simp only [rP] at h1;exact po (ydq (Nat.le_of_dvd hd (Nat.gcd_dvd_right _ _))) h1
 obtain ⟨rn,rd⟩:=zfh n d hd;have RN:=hid rn;have RD:=hid rd;have H:=hid h;have K:=hid k;obtain ⟨neg,v,ds,rfl,⟨A,c,rfl,h1,h2,h3⟩,hz,hl⟩:=h;obtain ⟨abR,v',ds',rfl,⟨A',c',rfl,h1',h2',h3'⟩,hz',hl'⟩:=k;clear h3 h3' hz hz' rn rd;go_enter Tryz.func113,Tryz.ntmps113;go_wp2_with fail;generalize hW:((w.alloc (Obj.cells #[.bool neg,.slice A ds.length c] 25)).alloc (Obj.cells #[.bool abR,.slice A' ds'.length c'] 25)).alloc (Obj.cells #[.bool false,.slice none 0 0,.slice none 0 0] 59)=W;have HX0:Hid (Ext w W):=by
  have:Ext w W:=by rw [<- hW]; exact (((Ext.refl w).alloc _).alloc _).alloc _
  exact this
 have HWS:Hid (W.heap.size=w.heap.size+1+1+1):=by
  have:W.heap.size=w.heap.size+1+1+1:=by rw [<- hW]; simp
  exact this
 have HS:Hid (∀ W',Ext W W'->(Ext w W'/\W'.cell? ⟨w.heap.size,0,none⟩=some (.bool neg)/\W'.cell? ⟨w.heap.size,1,none⟩=some (.slice A ds.length c)/\W'.cell? ⟨w.heap.size+1,0,none⟩=some (.bool abR)/\W'.cell? ⟨w.heap.size+1,1,none⟩=some (.slice A' ds'.length c'))):=by
  intro W' hx;obtain ⟨hc,hf⟩:=hx.cells;have hsz:=HWS.out;refine ⟨HX0.out.trans hx,?_,?_,?_,?_⟩ <;> (rw [hc _ _ (by omega),<- hW]; simp [go_sem])
 have HR:Hid (∀ W',Ext W W'->(W'.cell? ⟨w.heap.size+1+1,0,none⟩=some (.bool false)/\W'.cell? ⟨w.heap.size+1+1,1,none⟩=some (.slice none 0 0)/\W'.cell? ⟨w.heap.size+1+1,2,none⟩=some (.slice none 0 0)/\W'.frozen? ⟨w.heap.size+1+1,0,none⟩=false/\W'.frozen? ⟨w.heap.size+1+1,1,none⟩=false/\W'.frozen? ⟨w.heap.size+1+1,2,none⟩=false)):=by
  intro W' hx;obtain ⟨hc,hf⟩:=hx.cells;have hsz:=HWS.out;refine ⟨?_,?_,?_,?_,?_,?_⟩ <;> first | (rw [hc _ _ (by omega),<- hW]; simp [go_sem]; done) | (rw [hf _ _ (by omega),<- hW]; simp [go_sem]; done)
 have HFZ:Hid (∀ W',Ext W W'->W'.frozen? ⟨w.heap.size,0,none⟩=false/\W'.frozen? ⟨w.heap.size,1,none⟩=false):=by
  intro W' hx;obtain ⟨hc,hf⟩:=hx.cells;have hsz:=HWS.out;refine ⟨?_,?_⟩ <;> (rw [hf _ _ (by omega),<- hW]; simp [go_sem])
 have aw8:Hid (∀ W',Ext W W'->W'.frozen? ⟨w.heap.size+1,0,none⟩=false/\W'.frozen? ⟨w.heap.size+1,1,none⟩=false):=by
  intro W' hx;obtain ⟨hc,hf⟩:=hx.cells;have hsz:=HWS.out;refine ⟨?_,?_⟩ <;> (rw [hf _ _ (by omega),<- hW]; simp [go_sem])
 clear hW;obtain ⟨e0,b0,b1,b2,b3⟩:=HS.out W (Ext.refl W);have hg:=xgg _ _ n (d:Nat) L M W (H.out.ext e0) (K.out.ext e0) hs hs';simp only [rP] at hg;refine hg.mono ?_;clear hg e0 b0 b1 b2 b3;generalize Nat.gcd n.natAbs d=G at *;rintro e w1 ⟨xg,rfl,⟨vg,rfl,Ag,cg,rfl,g1,g2,g3⟩,y1⟩
 change (dg G).length<=cg at g1
 change ydm w1 Ag (dg G) at g3
 have hGb:decide (((G:Nat):Int) < 0)=false:=by simp
 rw [hGb,rP];have akC:=y1.size;rw [HWS.out] at akC;have x2:Ext w1 (w1.alloc (Obj.cells #[.bool false,.slice Ag (dg G).length cg] 25)):=(Ext.refl w1).alloc _
 have GN:Hid (wdl (w1.alloc (Obj.cells #[.bool false,.slice Ag (dg G).length cg] 25)) (.agg #[.bool false,.slice Ag (dg G).length cg]) (G:Nat) M):=
  wdl.ext ⟨false,_,dg G,rfl,⟨Ag,cg,rfl,g1,g2,g3⟩,by rw [zdk]; rfl,hGl⟩ x2
 have Y2:=hid (y1.trans x2);have C5:Hid (∀ w',Ext (w1.alloc (Obj.cells #[.bool false,.slice Ag (dg G).length cg] 25)) w'->w'.cell? ⟨w1.heap.size,0,none⟩=some (.bool false)/\w'.cell? ⟨w1.heap.size,1,none⟩=some (.slice Ag (dg G).length cg)):=by
  intro w' hx;obtain ⟨hc,-⟩:=hx.cells;exact ⟨by rw [hc _ _ (by simp)]; simp [rQ],by rw [hc _ _ (by simp)]; simp [rQ]⟩
 have Z2:Hid (w1.heap.size < (w1.alloc (Obj.cells #[.bool false,.slice Ag (dg G).length cg] 25)).heap.size):=by
  have:w1.heap.size < (w1.alloc (Obj.cells #[.bool false,.slice Ag (dg G).length cg] 25)).heap.size:=by simp
  exact this
 clear x2 g3 hGb;go_upto_region 2 with fail;generalize w1.alloc (Obj.cells #[.bool false,.slice Ag (dg G).length cg] 25)=w2 at *;generalize hg5:w1.heap.size=g5 at *;clear hg5 y1;obtain ⟨e0,b0,b1,b2,b3⟩:=HS.out w2 Y2.out;obtain ⟨c0,c1⟩:=C5.out w2 (Ext.refl w2);have E0:=hid e0;clear e0;go_wp2_with fail;refine (ufc _ _ n ((G:Nat):Int) L M _ (H.out.ext E0.out) GN.out hs hs' (by omega)).mono ?_;rw [RN.out];rintro e w3 ⟨xq,xr,rfl,⟨vq,rfl,Aq,cq,rfl,i1,i2,i3⟩,-,y3⟩;have Y3:=hid y3;have HQN:Hid (udy w3 (.agg #[.bool (decide ((mkRat n d).num < 0)),.slice Aq (dg (mkRat n d).num.natAbs).length cq]) (mkRat n d).num):=⟨_,rfl,Aq,cq,rfl,i1,i2,i3⟩;clear c0 c1 b0 b1 b2 b3;obtain ⟨e0,b0,b1,b2,b3⟩:=HS.out w3 (Y2.out.trans y3);have hf:w3.frozen? ⟨w.heap.size,0,none⟩=false/\w3.frozen? ⟨w.heap.size,1,none⟩=false:=HFZ.out w3 (Y2.out.trans y3);obtain ⟨hf0,hf1⟩:=hf;clear y3 i3 e0;go_upto_region 3 with fail;obtain ⟨k0,k1⟩:=C5.out w3 Y3.out;obtain ⟨r0,r1,r2,f0,f1,f2⟩:=HR.out w3 (Y2.out.trans Y3.out);have hz3:g5 < w3.heap.size:=pr Z2.out Y3.out.size;generalize hbq:Value.bool (decide ((mkRat n d).num < 0))=bq at *;generalize hsq:Value.slice Aq (dg (mkRat n d).num.natAbs).length cq=sq at *
 have N4:Hid (udy ((w3.setCell ⟨w.heap.size,0,none⟩ bq).setCell ⟨w.heap.size,1,none⟩ sq) (.agg #[bq,sq]) (mkRat n d).num):=
  (HQN.out.box b0 rfl _).box (u:=.slice A ds.length c) (by rw [pe _ _ _ _ (by simp),b1]) rfl _
 have K4:Hid (wdl ((w3.setCell ⟨w.heap.size,0,none⟩ bq).setCell ⟨w.heap.size,1,none⟩ sq) (.agg #[.bool abR,.slice A' ds'.length c']) (d:Nat) M):=
  ((K.out.ext (E0.out.trans Y3.out)).box b0 rfl _).box (u:=.slice A ds.length c) (by rw [pe _ _ _ _ (by simp),b1]) rfl _
 have G4:Hid (wdl ((w3.setCell ⟨w.heap.size,0,none⟩ bq).setCell ⟨w.heap.size,1,none⟩ sq) (.agg #[.bool false,.slice Ag (dg G).length cg]) (G:Nat) M):=
  ((GN.out.ext Y3.out).box b0 rfl _).box (u:=.slice A ds.length c) (by rw [pe _ _ _ _ (by simp),b1]) rfl _
 have X4:Hid (Ext w ((w3.setCell ⟨w.heap.size,0,none⟩ bq).setCell ⟨w.heap.size,1,none⟩ sq)):=((E0.out.trans Y3.out).setCell (by simp) _).setCell (by simp) _;have FZ4:=aw8.out w3 (Y2.out.trans Y3.out);have hc4:∀ b o,b ≠ w.heap.size->((w3.setCell ⟨w.heap.size,0,none⟩ bq).setCell ⟨w.heap.size,1,none⟩ sq).cell? ⟨b,o,none⟩=w3.cell? ⟨b,o,none⟩:=fun b o hb=>by
  rw [pe _ _ _ _ (by intro e; injection e; omega),pe _ _ _ _ (by intro e; injection e; omega)]
 have hf4:∀ b o,b ≠ w.heap.size->((w3.setCell ⟨w.heap.size,0,none⟩ bq).setCell ⟨w.heap.size,1,none⟩ sq).frozen? ⟨b,o,none⟩=w3.frozen? ⟨b,o,none⟩:=fun b o hb=>by simp
 have hn0:((w3.setCell ⟨w.heap.size,0,none⟩ bq).setCell ⟨w.heap.size,1,none⟩ sq).cell? ⟨w.heap.size,0,none⟩=some bq:=by
  rw [pe _ _ _ _ (by simp)]; exact pG _ _ _ b0
 have hn1:((w3.setCell ⟨w.heap.size,0,none⟩ bq).setCell ⟨w.heap.size,1,none⟩ sq).cell? ⟨w.heap.size,1,none⟩=some sq:=by
  exact pG _ _ _ (u:=.slice A ds.length c) (by rw [pe _ _ _ _ (by simp),b1])
 have hz4:((w3.setCell ⟨w.heap.size,0,none⟩ bq).setCell ⟨w.heap.size,1,none⟩ sq).heap.size=w3.heap.size:=by simp [World.setCell]
 generalize (w3.setCell ⟨w.heap.size,0,none⟩ bq).setCell ⟨w.heap.size,1,none⟩ sq=w4 at *;have m2:=(hc4 (w.heap.size+1) 0 (by omega)).trans b2;have m3:=(hc4 (w.heap.size+1) 1 (by omega)).trans b3;have m4:=(hc4 g5 0 (by omega)).trans k0;have m5:=(hc4 g5 1 (by omega)).trans k1;have p0:=(hc4 (w.heap.size+1+1) 0 (by omega)).trans r0;have p1:=(hc4 (w.heap.size+1+1) 1 (by omega)).trans r1;have p2:=(hc4 (w.heap.size+1+1) 2 (by omega)).trans r2;have pf0:=(hf4 (w.heap.size+1+1) 0 (by omega)).trans f0;have pf1:=(hf4 (w.heap.size+1+1) 1 (by omega)).trans f1;have pf2:=(hf4 (w.heap.size+1+1) 2 (by omega)).trans f2;have pg0:=(hf4 (w.heap.size+1) 0 (by omega)).trans FZ4.1;have pg1:=(hf4 (w.heap.size+1) 1 (by omega)).trans FZ4.2
 have PK:Hid (∀ w5,Ext w4 w5->(w5.cell? ⟨w.heap.size,0,none⟩=some bq/\w5.cell? ⟨w.heap.size,1,none⟩=some sq)/\(w5.cell? ⟨w.heap.size+1,0,none⟩=some (.bool abR)/\w5.cell? ⟨w.heap.size+1,1,none⟩=some (.slice A' ds'.length c')) /\
  (w5.cell? ⟨w.heap.size+1+1,0,none⟩=some (.bool false)/\w5.cell? ⟨w.heap.size+1+1,1,none⟩=some (.slice none 0 0)/\w5.cell? ⟨w.heap.size+1+1,2,none⟩=some (.slice none 0 0)) /\
  (w5.frozen? ⟨w.heap.size+1,0,none⟩=false/\w5.frozen? ⟨w.heap.size+1,1,none⟩=false)/\(w5.frozen? ⟨w.heap.size+1+1,0,none⟩=false/\w5.frozen? ⟨w.heap.size+1+1,1,none⟩=false/\w5.frozen? ⟨w.heap.size+1+1,2,none⟩=false)):=by
  intro w5 hx;obtain ⟨hc,hf⟩:=hx.cells;have hlt:w.heap.size+1+1 < w4.heap.size:=by omega
  refine ⟨⟨?_,?_⟩,⟨?_,?_⟩,⟨?_,?_,?_⟩,⟨?_,?_⟩,⟨?_,?_,?_⟩⟩ <;> first | (rw [hc _ _ (by omega)]; assumption) | (rw [hf _ _ (by omega)]; assumption)
 have HBQ:=hid hbq;have HSQ:=hid hsq;clear p0 p1 p2 pf0 pf1 pf2 pg0 pg1 r0 r1 r2 f0 f1 f2 b0 b1 b2 b3 hc4 hf4 hz4 hz3 FZ4 k0 k1 hf0 hf1 hn0 hn1 hbq hsq;go_wp2_with fail;refine (ufc _ _ ((d:Nat):Int) ((G:Nat):Int) M M _ K4.out G4.out hs' hs' (by omega)).mono ?_;rw [RD.out];rintro e w5 ⟨xd,xe,rfl,⟨vd,rfl,Ad,cd,rfl,j1,j2,j3⟩,-,y5⟩;have hdb:decide ((((mkRat n d).den:Nat):Int) < 0)=false:=by simp
 rw [hdb,rP];obtain ⟨⟨t0,t1⟩,⟨t2,t3⟩,⟨t4,t5,t6⟩,⟨t7,t8⟩,t9,t10,t11⟩:=PK.out w5 y5;rw [rP] at j1 j3;have N5:=hid (N4.out.ext y5);have X5:=hid (X4.out.trans y5);have D5:Hid (zb1 w5 (.slice Ad (dg (mkRat n d).den).length cd) (dg (mkRat n d).den)):=⟨Ad,cd,rfl,j1,j2,j3⟩;clear m2 m3 m4 m5 y5 j3 hdb N4 K4 G4 PK;have hbq:=HBQ.out;have hsq:=HSQ.out;subst hbq;subst hsq;clear HBQ HSQ
 have HF : Hid (vdn (mkRat n d) w (.returned (.agg #[.bool (decide ((mkRat n d).num < 0)), .slice Aq (dg (mkRat n d).num.natAbs).length cq, .slice Ad (dg (mkRat n d).den).length cd]))
  (((((w5.setCell ⟨w.heap.size+1,0,none⟩ (.bool false)).setCell ⟨w.heap.size+1,1,none⟩ (.slice Ad (dg (mkRat n d).den).length cd)).setCell ⟨w.heap.size+1+1,0,none⟩ (.bool (decide ((mkRat n d).num < 0)))).setCell ⟨w.heap.size+1+1,1,none⟩ (.slice Aq (dg (mkRat n d).num.natAbs).length cq)).setCell ⟨w.heap.size+1+1,2,none⟩ (.slice Ad (dg (mkRat n d).den).length cd))):=by
  have u1:(w5.setCell ⟨w.heap.size+1,0,none⟩ (.bool false)).cell? ⟨w.heap.size+1,1,none⟩=some (.slice A' ds'.length c'):=by rw [pe _ _ _ _ (by simp),t3]
  obtain ⟨vn,en,hn5⟩:=(N5.out.box t2 rfl (.bool false)).box u1 rfl (.slice Ad (dg (mkRat n d).den).length cd);have d5:=(D5.out.box t2 rfl (.bool false)).box u1 rfl (.slice Ad (dg (mkRat n d).den).length cd);have far:∀ o,((w5.setCell ⟨w.heap.size+1,0,none⟩ (.bool false)).setCell ⟨w.heap.size+1,1,none⟩ (.slice Ad (dg (mkRat n d).den).length cd)).cell? ⟨w.heap.size+1+1,o,none⟩=w5.cell? ⟨w.heap.size+1+1,o,none⟩:=fun o=>by
   rw [pe _ _ _ _ (by intro e; injection e; omega),pe _ _ _ _ (by intro e; injection e; omega)]
  refine ydo ((X5.out.setCell (by simp) _).setCell (by simp) _) (by omega) ((far 0).trans t4) ((far 1).trans t5) ((far 2).trans t6) rfl rfl rfl ⟨vn,_,?_,hn5,d5⟩;injection en with en
  injection en with en
  injection en with _ en
  injection en with en
  rw [en]
 clear N5 D5 X5;go_wp2_with fail;exact bodyPost_ret (v:=.agg #[.bool (decide ((mkRat n d).num < 0)),.slice Aq (dg (mkRat n d).num.natAbs).length cq,.slice Ad (dg (mkRat n d).den).length cd]) (by simp [results,Tryz.results113,go_sem,t4,t5,t6]) rfl HF.out
theorem udw.unpack {w:World} {x:Value} {q:Rat} (h:udw w x q):∃ b A n c B m d,x=.agg #[.bool b,.slice A n c,.slice B m d]:=by
 obtain ⟨s1,s2,rfl,⟨A,c,rfl,-⟩,⟨B,d,rfl,-⟩⟩:=h;exact ⟨_,A,_,c,B,_,d,rfl⟩
theorem jdw {w w':World} {x y:Value} {a b:Int} {L M:Nat} (h:wdl w x a L) (k:wdl w' y b M):(dg (a * b).natAbs).length<=L+M:=by
 rw [tP];exact po (jd5 _ _) (Nat.add_le_add h.len k.len)
theorem vfe (a b:Int) {L:Nat} (h:(dg a.natAbs).length<=L) (k:(dg b.natAbs).length<=L):(dg (a+b).natAbs).length<=L+1:=by
 refine po (ydq (Int.natAbs_add_le a b)) (po (kd5 _ _) ?_);omega
theorem xf9 (a b:Int) {L:Nat} (h:(dg a.natAbs).length<=L) (k:(dg b.natAbs).length<=L):(dg (a - b).natAbs).length<=L+1:=by
 rw [Int.sub_eq_add_neg];exact vfe a (-b) h (by rw [Int.natAbs_neg]; exact k)
def Two (w:World) (g:Nat) (a b:Value):Prop:=w.cell? ⟨g,0,none⟩=some a/\w.cell? ⟨g,1,none⟩=some b
theorem Two.ext {w w':World} {g:Nat} {a b:Value} (h:Two w g a b) (hx:Ext w w') (hg:g < w.heap.size):Two w' g a b:=
 ⟨(hx.cell (p:=⟨g,0,none⟩) hg).trans h.1,(hx.cell (p:=⟨g,1,none⟩) hg).trans h.2⟩
theorem zd4 (w:World) (a b c d:Value) (t t':TypeId):Two ((w.alloc (Obj.cells #[a,b] t)).alloc (Obj.cells #[c,d] t')) w.heap.size a b/\Two ((w.alloc (Obj.cells #[a,b] t)).alloc (Obj.cells #[c,d] t')) (w.heap.size+1) c d:=by
 refine ⟨⟨?_,?_⟩,⟨?_,?_⟩⟩ <;> simp [go_sem]
theorem vev (x y:Value) (q1 q2:Rat) (L M:Nat) (w:World) (h:kdp w x q1 L) (k:kdp w y q2 M) (hL:1<=L) (hM:1<=M) (hs:2 * (L+M)+2<=17592186044416) :
 Calls Tryz.prog 81 #[x,y] w (vdn (q1 * q2) w):=by
 have H:=hid h;have K:=hid k;obtain ⟨neg,s1,s2,ds,es,rfl,⟨A,c,rfl,-,-,-⟩,⟨B,b,rfl,-,-,-⟩,-⟩:=h;obtain ⟨abR,s1',s2',ds',es',rfl,⟨A',c',rfl,-,-,-⟩,⟨B',b',rfl,-,-,-⟩,-⟩:=k;go_enter Tryz.func81,Tryz.ntmps81;go_wp2_with fail;generalize hW:((w.alloc (Obj.cells #[.bool neg,.slice A ds.length c,.slice B es.length b] 59)).alloc (Obj.cells #[.bool abR,.slice A' ds'.length c',.slice B' es'.length b'] 59)).alloc (Obj.cells #[.bool false,.slice none 0 0,.slice none 0 0] 59)=W;have HX0:Hid (Ext w W):=by
  have:Ext w W:=by rw [<- hW]; exact (((Ext.refl w).alloc _).alloc _).alloc _
  exact this
 have HWS:Hid (W.heap.size=w.heap.size+1+1+1):=by
  have:W.heap.size=w.heap.size+1+1+1:=by rw [<- hW]; simp
  exact this
 have HS:Hid (∀ W',Ext W W'->(Ext w W'/\W'.cell? ⟨w.heap.size,0,none⟩=some (.bool neg)/\W'.cell? ⟨w.heap.size,1,none⟩=some (.slice A ds.length c)/\W'.cell? ⟨w.heap.size,2,none⟩=some (.slice B es.length b)/\W'.cell? ⟨w.heap.size+1,0,none⟩=some (.bool abR)/\W'.cell? ⟨w.heap.size+1,1,none⟩=some (.slice A' ds'.length c')/\W'.cell? ⟨w.heap.size+1,2,none⟩=some (.slice B' es'.length b'))):=by
  intro W' hx;obtain ⟨hc,hf⟩:=hx.cells;have hsz:=HWS.out;refine ⟨HX0.out.trans hx,?_,?_,?_,?_,?_,?_⟩ <;> (rw [hc _ _ (by omega),<- hW]; simp [go_sem])
 have HR:Hid (∀ W',Ext W W'->(W'.cell? ⟨w.heap.size+1+1,0,none⟩=some (.bool false)/\W'.cell? ⟨w.heap.size+1+1,1,none⟩=some (.slice none 0 0)/\W'.cell? ⟨w.heap.size+1+1,2,none⟩=some (.slice none 0 0)/\W'.frozen? ⟨w.heap.size+1+1,0,none⟩=false/\W'.frozen? ⟨w.heap.size+1+1,1,none⟩=false/\W'.frozen? ⟨w.heap.size+1+1,2,none⟩=false)):=by
  intro W' hx;obtain ⟨hc,hf⟩:=hx.cells;have hsz:=HWS.out;refine ⟨?_,?_,?_,?_,?_,?_⟩ <;> first | (rw [hc _ _ (by omega),<- hW]; simp [go_sem]; done) | (rw [hf _ _ (by omega),<- hW]; simp [go_sem]; done)
 clear hW;obtain ⟨e0,a0,a1,a2,a3,a4,a5⟩:=HS.out W (Ext.refl W);refine (zdw _ q1 L _ (H.out.ext e0) hL).mono ?_;clear e0 a0 a1 a2 a3 a4 a5;rintro e w1 ⟨xn,xd,n1,d1,rfl,in1,id1,hd1,hq1,y1⟩;obtain ⟨b5,A5,n5,c5,rfl⟩:=in1.unpack;obtain ⟨b6,A6,n6,c6,rfl⟩:=id1.unpack;have x2:Ext w1 ((w1.alloc (Obj.cells #[.bool b5,.slice A5 n5 c5] 25)).alloc (Obj.cells #[.bool b6,.slice A6 n6 c6] 25)):=((Ext.refl w1).alloc _).alloc _;have T56:=hid (zd4 w1 (.bool b5) (.slice A5 n5 c5) (.bool b6) (.slice A6 n6 c6) 25 25);have Z2:Hid (w1.heap.size+1 < ((w1.alloc (Obj.cells #[.bool b5,.slice A5 n5 c5] 25)).alloc (Obj.cells #[.bool b6,.slice A6 n6 c6] 25)).heap.size):=by
  have:w1.heap.size+1 < ((w1.alloc (Obj.cells #[.bool b5,.slice A5 n5 c5] 25)).alloc (Obj.cells #[.bool b6,.slice A6 n6 c6] 25)).heap.size:=by simp
  exact this
 have IN1:=hid (in1.ext x2);have ID1:=hid (id1.ext x2);have Y2:=hid (y1.trans x2);have HQ1:=hid hq1;have hw1:=y1.size;rw [HWS.out] at hw1;clear in1 id1 hq1 y1 x2;go_upto_region 2 with fail;generalize (w1.alloc (Obj.cells #[.bool b5,.slice A5 n5 c5] 25)).alloc (Obj.cells #[.bool b6,.slice A6 n6 c6] 25)=w2 at *;generalize w1.heap.size=g5 at *;obtain ⟨e0,a0,a1,a2,a3,a4,a5⟩:=HS.out w2 Y2.out;have E0:=hid e0;clear e0;go_wp2_with fail;refine (zdw _ q2 M _ (K.out.ext E0.out) hM).mono ?_;clear a0 a1 a2 a3 a4 a5;rintro e w3 ⟨yn,yd,n2,d2,rfl,in2,id2,hd2,hq2,y3⟩;obtain ⟨b7,A7,n7,c7,rfl⟩:=in2.unpack;obtain ⟨b8,A8,n8,c8,rfl⟩:=id2.unpack;have x4:Ext w3 ((w3.alloc (Obj.cells #[.bool b7,.slice A7 n7 c7] 25)).alloc (Obj.cells #[.bool b8,.slice A8 n8 c8] 25)):=((Ext.refl w3).alloc _).alloc _;have T78:=hid (zd4 w3 (.bool b7) (.slice A7 n7 c7) (.bool b8) (.slice A8 n8 c8) 25 25);have Z4:Hid (w3.heap.size+1 < ((w3.alloc (Obj.cells #[.bool b7,.slice A7 n7 c7] 25)).alloc (Obj.cells #[.bool b8,.slice A8 n8 c8] 25)).heap.size):=by
  have:w3.heap.size+1 < ((w3.alloc (Obj.cells #[.bool b7,.slice A7 n7 c7] 25)).alloc (Obj.cells #[.bool b8,.slice A8 n8 c8] 25)).heap.size:=by simp
  exact this
 have IN2:=hid (in2.ext x4);have ID2:=hid (id2.ext x4);have Y4:=hid (y3.trans x4);have HQ2:=hid hq2;have hw3:=y3.size;have hz2:=Z2.out;clear in2 id2 hq2 y3 x4;go_upto_region 3 with fail;generalize (w3.alloc (Obj.cells #[.bool b7,.slice A7 n7 c7] 25)).alloc (Obj.cells #[.bool b8,.slice A8 n8 c8] 25)=w4 at *;generalize w3.heap.size=g7 at *;have af8:=hid (IN1.out.ext Y4.out);have aeA:=hid (ID1.out.ext Y4.out);have T5:=hid (T56.out.1.ext Y4.out (by have:=Z2.out; omega));have T6:=hid (T56.out.2.ext Y4.out Z2.out);have YW:=hid (Y2.out.trans Y4.out);clear IN1 ID1 T56 H K;have SS:Hid (∀ W',Ext w4 W'->(Ext w W'/\W'.cell? ⟨g5,0,none⟩=some (.bool b5)/\W'.cell? ⟨g5,1,none⟩=some (.slice A5 n5 c5)/\W'.cell? ⟨g5+1,0,none⟩=some (.bool b6)/\W'.cell? ⟨g5+1,1,none⟩=some (.slice A6 n6 c6)/\W'.cell? ⟨g7,0,none⟩=some (.bool b7)/\W'.cell? ⟨g7,1,none⟩=some (.slice A7 n7 c7)/\W'.cell? ⟨g7+1,0,none⟩=some (.bool b8)/\W'.cell? ⟨g7+1,1,none⟩=some (.slice A8 n8 c8))):=by
  intro W' hx;have z4:=Z4.out;have u5:=T5.out.ext hx (by omega);have u6:=T6.out.ext hx (by omega);have u7:=T78.out.1.ext hx (by omega);have u8:=T78.out.2.ext hx (by omega);exact ⟨HX0.out.trans (YW.out.trans hx),u5.1,u5.2,u6.1,u6.2,u7.1,u7.2,u8.1,u8.2⟩
 have SS2:Hid (∀ W'' v0 v1 v2,Ext w4 W''->∀ W',W'=((W''.setCell ⟨w.heap.size+1+1,0,none⟩ v0).setCell ⟨w.heap.size+1+1,1,none⟩ v1).setCell ⟨w.heap.size+1+1,2,none⟩ v2->(Ext w W'/\W'.cell? ⟨g5,0,none⟩=some (.bool b5)/\W'.cell? ⟨g5,1,none⟩=some (.slice A5 n5 c5)/\W'.cell? ⟨g5+1,0,none⟩=some (.bool b6)/\W'.cell? ⟨g5+1,1,none⟩=some (.slice A6 n6 c6)/\W'.cell? ⟨g7,0,none⟩=some (.bool b7)/\W'.cell? ⟨g7,1,none⟩=some (.slice A7 n7 c7)/\W'.cell? ⟨g7+1,0,none⟩=some (.bool b8)/\W'.cell? ⟨g7+1,1,none⟩=some (.slice A8 n8 c8))):=by
  intro W'' v0 v1 v2 hx W' hW';obtain ⟨s0,s1,s2,s3,s4,s5,s6,s7,s8⟩:=SS.out W'' hx;have z1:w.heap.size+1+1 < g5:=by omega
  have z2:g5+1 < g7:=by omega
  rw [hW'];refine ⟨((s0.setCell (by simp; omega) _).setCell (by simp; omega) _).setCell (by simp; omega) _,?_,?_,?_,?_,?_,?_,?_,?_⟩ <;> rw [pe _ _ _ _ (by intro e; injection e; omega),pe _ _ _ _ (by intro e; injection e; omega),pe _ _ _ _ (by intro e; injection e; omega)] <;> assumption
 go_region_held3 (fun W' => Ext w W' /\ W'.cell? ⟨g5, 0, none⟩ = some (.bool b5) /\ W'.cell? ⟨g5, 1, none⟩ = some (.slice A5 n5 c5) /\ W'.cell? ⟨g5 + 1, 0, none⟩ = some (.bool b6) /\ W'.cell? ⟨g5 + 1, 1, none⟩ = some (.slice A6 n6 c6) /\ W'.cell? ⟨g7, 0, none⟩ = some (.bool b7) /\ W'.cell? ⟨g7, 1, none⟩ = some (.slice A7 n7 c7) /\ W'.cell? ⟨g7 + 1, 0, none⟩ = some (.bool b8) /\ W'.cell? ⟨g7 + 1, 1, none⟩ = some (.slice A8 n8 c8))
  (first | exact SS.out _ ((Ext.refl w4).drew) | exact SS.out _ (by assumption) | exact SS2.out _ _ _ _ (by assumption) _ rfl)
  (first
    | (go_at_call_of 84 (Value.agg #[.bool b5,.slice A5 n5 c5])
       refine (jdz _ _ _ _ _ _ _ (af8.out.ext ((Ext.refl w4).drew)) (IN2.out.ext ((Ext.refl w4).drew)) (by omega)).mono ?_;rintro e v1 ⟨z1,rfl,m1,x1⟩
       have y1:Ext w4 v1:=Ext.trans ((Ext.refl w4).drew) x1)
    | (go_at_call_of 84 (Value.agg #[.bool b6,.slice A6 n6 c6])
       refine (jdz _ _ _ _ _ _ _ (aeA.out.ext y1) (ID2.out.ext y1) (by omega)).mono ?_;rintro e v2 ⟨z2,rfl,m2,x2⟩
       have y2:Ext w4 v2:=Ext.trans y1 x2)
    | (go_at_call 113
       refine (gd6 _ _ (n1 * n2) (d1 * d2) (L+M) (L+M) _ ((m1.raw.mono (jdw af8.out IN2.out)).ext x2) (by rw [uZ]; exact m2.raw.mono (jdw aeA.out ID2.out)) (by omega) (by omega) (tg hd1 hd2)).mono ?_;rintro e v9 ⟨z9,rfl,m9,x9⟩;obtain ⟨bz,Az,nz,cz,Bz,mz,dz,rfl⟩:=m9.unpack;have y9:Ext w4 v9:=Ext.trans y2 x9
       obtain ⟨r0,r1,r2,f0,f1,f2⟩:=HR.out v9 (YW.out.trans y9)))
 have acb:q1 * q2=mkRat (n1 * n2) (d1 * d2):=by rw [HQ1.out,HQ2.out,Rat.mkRat_mul_mkRat]
 rw [<- acb] at m9;have HF:=hid (ydo (g:=w.heap.size+1+1) (HX0.out.trans (YW.out.trans y9)) (by omega) r0 r1 r2 rfl rfl rfl m9);clear SS SS2 HS HR m9 y9 x9 m1 x1 y1 m2 x2 y2 acb ;go_wp2_with fail;exact bodyPost_ret (v:=.agg #[.bool bz,.slice Az nz cz,.slice Bz mz dz]) (by simp [results,Tryz.results81,go_sem,r0,r1,r2]) rfl HF.out
theorem jfe (x y:Value) (q1 q2:Rat) (L M:Nat) (w:World) (h:kdp w x q1 L) (k:kdp w y q2 M) (hL:1<=L) (hM:1<=M) (hs:2 * (L+M)+2<=17592186044416) :
 Calls Tryz.prog 80 #[x,y] w (vdn (q1+q2) w):=by
 have H:=hid h;have K:=hid k;obtain ⟨neg,s1,s2,ds,es,rfl,⟨A,c,rfl,-,-,-⟩,⟨B,b,rfl,-,-,-⟩,-⟩:=h;obtain ⟨abR,s1',s2',ds',es',rfl,⟨A',c',rfl,-,-,-⟩,⟨B',b',rfl,-,-,-⟩,-⟩:=k;go_enter Tryz.func80,Tryz.ntmps80;go_wp2_with fail;generalize hW:((w.alloc (Obj.cells #[.bool neg,.slice A ds.length c,.slice B es.length b] 59)).alloc (Obj.cells #[.bool abR,.slice A' ds'.length c',.slice B' es'.length b'] 59)).alloc (Obj.cells #[.bool false,.slice none 0 0,.slice none 0 0] 59)=W;have HX0:Hid (Ext w W):=by
  have:Ext w W:=by rw [<- hW]; exact (((Ext.refl w).alloc _).alloc _).alloc _
  exact this
 have HWS:Hid (W.heap.size=w.heap.size+1+1+1):=by
  have:W.heap.size=w.heap.size+1+1+1:=by rw [<- hW]; simp
  exact this
 have HS:Hid (∀ W',Ext W W'->(Ext w W'/\W'.cell? ⟨w.heap.size,0,none⟩=some (.bool neg)/\W'.cell? ⟨w.heap.size,1,none⟩=some (.slice A ds.length c)/\W'.cell? ⟨w.heap.size,2,none⟩=some (.slice B es.length b)/\W'.cell? ⟨w.heap.size+1,0,none⟩=some (.bool abR)/\W'.cell? ⟨w.heap.size+1,1,none⟩=some (.slice A' ds'.length c')/\W'.cell? ⟨w.heap.size+1,2,none⟩=some (.slice B' es'.length b'))):=by
  intro W' hx;obtain ⟨hc,hf⟩:=hx.cells;have hsz:=HWS.out;refine ⟨HX0.out.trans hx,?_,?_,?_,?_,?_,?_⟩ <;> (rw [hc _ _ (by omega),<- hW]; simp [go_sem])
 have HR:Hid (∀ W',Ext W W'->(W'.cell? ⟨w.heap.size+1+1,0,none⟩=some (.bool false)/\W'.cell? ⟨w.heap.size+1+1,1,none⟩=some (.slice none 0 0)/\W'.cell? ⟨w.heap.size+1+1,2,none⟩=some (.slice none 0 0)/\W'.frozen? ⟨w.heap.size+1+1,0,none⟩=false/\W'.frozen? ⟨w.heap.size+1+1,1,none⟩=false/\W'.frozen? ⟨w.heap.size+1+1,2,none⟩=false)):=by
  intro W' hx;obtain ⟨hc,hf⟩:=hx.cells;have hsz:=HWS.out;refine ⟨?_,?_,?_,?_,?_,?_⟩ <;> first | (rw [hc _ _ (by omega),<- hW]; simp [go_sem]; done) | (rw [hf _ _ (by omega),<- hW]; simp [go_sem]; done)
 clear hW;obtain ⟨e0,a0,a1,a2,a3,a4,a5⟩:=HS.out W (Ext.refl W);refine (zdw _ q1 L _ (H.out.ext e0) hL).mono ?_;clear e0 a0 a1 a2 a3 a4 a5;rintro e w1 ⟨xn,xd,n1,d1,rfl,in1,id1,hd1,hq1,y1⟩;obtain ⟨b5,A5,n5,c5,rfl⟩:=in1.unpack;obtain ⟨b6,A6,n6,c6,rfl⟩:=id1.unpack;have x2:Ext w1 ((w1.alloc (Obj.cells #[.bool b5,.slice A5 n5 c5] 25)).alloc (Obj.cells #[.bool b6,.slice A6 n6 c6] 25)):=((Ext.refl w1).alloc _).alloc _;have T56:=hid (zd4 w1 (.bool b5) (.slice A5 n5 c5) (.bool b6) (.slice A6 n6 c6) 25 25);have Z2:Hid (w1.heap.size+1 < ((w1.alloc (Obj.cells #[.bool b5,.slice A5 n5 c5] 25)).alloc (Obj.cells #[.bool b6,.slice A6 n6 c6] 25)).heap.size):=by
  have:w1.heap.size+1 < ((w1.alloc (Obj.cells #[.bool b5,.slice A5 n5 c5] 25)).alloc (Obj.cells #[.bool b6,.slice A6 n6 c6] 25)).heap.size:=by simp
  exact this
 have IN1:=hid (in1.ext x2);have ID1:=hid (id1.ext x2);have Y2:=hid (y1.trans x2);have HQ1:=hid hq1;have hw1:=y1.size;rw [HWS.out] at hw1;clear in1 id1 hq1 y1 x2;go_upto_region 2 with fail;generalize (w1.alloc (Obj.cells #[.bool b5,.slice A5 n5 c5] 25)).alloc (Obj.cells #[.bool b6,.slice A6 n6 c6] 25)=w2 at *;generalize w1.heap.size=g5 at *;obtain ⟨e0,a0,a1,a2,a3,a4,a5⟩:=HS.out w2 Y2.out;have E0:=hid e0;clear e0;go_wp2_with fail;refine (zdw _ q2 M _ (K.out.ext E0.out) hM).mono ?_;clear a0 a1 a2 a3 a4 a5;rintro e w3 ⟨yn,yd,n2,d2,rfl,in2,id2,hd2,hq2,y3⟩;obtain ⟨b7,A7,n7,c7,rfl⟩:=in2.unpack;obtain ⟨b8,A8,n8,c8,rfl⟩:=id2.unpack;have x4:Ext w3 ((w3.alloc (Obj.cells #[.bool b7,.slice A7 n7 c7] 25)).alloc (Obj.cells #[.bool b8,.slice A8 n8 c8] 25)):=((Ext.refl w3).alloc _).alloc _;have T78:=hid (zd4 w3 (.bool b7) (.slice A7 n7 c7) (.bool b8) (.slice A8 n8 c8) 25 25);have Z4:Hid (w3.heap.size+1 < ((w3.alloc (Obj.cells #[.bool b7,.slice A7 n7 c7] 25)).alloc (Obj.cells #[.bool b8,.slice A8 n8 c8] 25)).heap.size):=by
  have:w3.heap.size+1 < ((w3.alloc (Obj.cells #[.bool b7,.slice A7 n7 c7] 25)).alloc (Obj.cells #[.bool b8,.slice A8 n8 c8] 25)).heap.size:=by simp
  exact this
 have IN2:=hid (in2.ext x4);have ID2:=hid (id2.ext x4);have Y4:=hid (y3.trans x4);have HQ2:=hid hq2;have hw3:=y3.size;have hz2:=Z2.out;clear in2 id2 hq2 y3 x4;go_upto_region 3 with fail;generalize (w3.alloc (Obj.cells #[.bool b7,.slice A7 n7 c7] 25)).alloc (Obj.cells #[.bool b8,.slice A8 n8 c8] 25)=w4 at *;generalize w3.heap.size=g7 at *;have af8:=hid (IN1.out.ext Y4.out);have aeA:=hid (ID1.out.ext Y4.out);have T5:=hid (T56.out.1.ext Y4.out (by have:=Z2.out; omega));have T6:=hid (T56.out.2.ext Y4.out Z2.out);have YW:=hid (Y2.out.trans Y4.out);clear IN1 ID1 T56 H K;have SS:Hid (∀ W',Ext w4 W'->(Ext w W'/\W'.cell? ⟨g5,0,none⟩=some (.bool b5)/\W'.cell? ⟨g5,1,none⟩=some (.slice A5 n5 c5)/\W'.cell? ⟨g5+1,0,none⟩=some (.bool b6)/\W'.cell? ⟨g5+1,1,none⟩=some (.slice A6 n6 c6)/\W'.cell? ⟨g7,0,none⟩=some (.bool b7)/\W'.cell? ⟨g7,1,none⟩=some (.slice A7 n7 c7)/\W'.cell? ⟨g7+1,0,none⟩=some (.bool b8)/\W'.cell? ⟨g7+1,1,none⟩=some (.slice A8 n8 c8))):=by
  intro W' hx;have z4:=Z4.out;have u5:=T5.out.ext hx (by omega);have u6:=T6.out.ext hx (by omega);have u7:=T78.out.1.ext hx (by omega);have u8:=T78.out.2.ext hx (by omega);exact ⟨HX0.out.trans (YW.out.trans hx),u5.1,u5.2,u6.1,u6.2,u7.1,u7.2,u8.1,u8.2⟩
 have SS2:Hid (∀ W'' v0 v1 v2,Ext w4 W''->∀ W',W'=((W''.setCell ⟨w.heap.size+1+1,0,none⟩ v0).setCell ⟨w.heap.size+1+1,1,none⟩ v1).setCell ⟨w.heap.size+1+1,2,none⟩ v2->(Ext w W'/\W'.cell? ⟨g5,0,none⟩=some (.bool b5)/\W'.cell? ⟨g5,1,none⟩=some (.slice A5 n5 c5)/\W'.cell? ⟨g5+1,0,none⟩=some (.bool b6)/\W'.cell? ⟨g5+1,1,none⟩=some (.slice A6 n6 c6)/\W'.cell? ⟨g7,0,none⟩=some (.bool b7)/\W'.cell? ⟨g7,1,none⟩=some (.slice A7 n7 c7)/\W'.cell? ⟨g7+1,0,none⟩=some (.bool b8)/\W'.cell? ⟨g7+1,1,none⟩=some (.slice A8 n8 c8))):=by
  intro W'' v0 v1 v2 hx W' hW';obtain ⟨s0,s1,s2,s3,s4,s5,s6,s7,s8⟩:=SS.out W'' hx;have z1:w.heap.size+1+1 < g5:=by omega
  have z2:g5+1 < g7:=by omega
  rw [hW'];refine ⟨((s0.setCell (by simp; omega) _).setCell (by simp; omega) _).setCell (by simp; omega) _,?_,?_,?_,?_,?_,?_,?_,?_⟩ <;> rw [pe _ _ _ _ (by intro e; injection e; omega),pe _ _ _ _ (by intro e; injection e; omega),pe _ _ _ _ (by intro e; injection e; omega)] <;> assumption
 go_region_held3 (fun W' => Ext w W' /\ W'.cell? ⟨g5, 0, none⟩ = some (.bool b5) /\ W'.cell? ⟨g5, 1, none⟩ = some (.slice A5 n5 c5) /\ W'.cell? ⟨g5 + 1, 0, none⟩ = some (.bool b6) /\ W'.cell? ⟨g5 + 1, 1, none⟩ = some (.slice A6 n6 c6) /\ W'.cell? ⟨g7, 0, none⟩ = some (.bool b7) /\ W'.cell? ⟨g7, 1, none⟩ = some (.slice A7 n7 c7) /\ W'.cell? ⟨g7 + 1, 0, none⟩ = some (.bool b8) /\ W'.cell? ⟨g7 + 1, 1, none⟩ = some (.slice A8 n8 c8))
  (first | exact SS.out _ ((Ext.refl w4).drew) | exact SS.out _ (by assumption) | exact SS2.out _ _ _ _ (by assumption) _ rfl)
  (first
    | (go_at_call_of 84 (Value.agg #[.bool b5,.slice A5 n5 c5])
       refine (jdz _ _ _ _ _ _ _ (af8.out.ext ((Ext.refl w4).drew)) (ID2.out.ext ((Ext.refl w4).drew)) (by omega)).mono ?_;rintro e v1 ⟨z1,rfl,m1,x1⟩
       have y1:Ext w4 v1:=Ext.trans ((Ext.refl w4).drew) x1)
    | (go_at_call_of 84 (Value.agg #[.bool b7,.slice A7 n7 c7])
       refine (jdz _ _ _ _ _ _ _ (IN2.out.ext y1) (aeA.out.ext y1) (by omega)).mono ?_;rintro e v2 ⟨z2,rfl,m2,x2⟩
       have y2:Ext w4 v2:=Ext.trans y1 x2)
    | (go_at_call 85
       refine (vew _ _ _ _ (L+M) (L+M) _ ((m1.raw.mono (jdw af8.out ID2.out)).ext x2) (m2.raw.mono (po (jdw IN2.out aeA.out) (by omega))) (by omega)).mono ?_;rintro e v3 ⟨z3,rfl,m3,x3⟩;have l3:=vfe _ _ (jdw af8.out ID2.out) (po (jdw IN2.out aeA.out) (show M+L<=L+M by omega))
       have y3:Ext w4 v3:=Ext.trans y2 x3)
    | (go_at_call_of 84 (Value.agg #[.bool b6,.slice A6 n6 c6])
       refine (jdz _ _ _ _ _ _ _ (aeA.out.ext y3) (ID2.out.ext y3) (by omega)).mono ?_;rintro e v4 ⟨z4,rfl,m4,x4⟩
       have y4:Ext w4 v4:=Ext.trans y3 x4)
    | (go_at_call 113
       refine (gd6 _ _ (n1 * d2+n2 * d1) (d1 * d2) (L+M+1) (L+M) _ ((m3.raw.mono l3).ext x4) (by rw [uZ]; exact m4.raw.mono (jdw aeA.out ID2.out)) (by omega) (by omega) (tg hd1 hd2)).mono ?_;rintro e v9 ⟨z9,rfl,m9,x9⟩;obtain ⟨bz,Az,nz,cz,Bz,mz,dz,rfl⟩:=m9.unpack;have y9:Ext w4 v9:=Ext.trans y4 x9
       obtain ⟨r0,r1,r2,f0,f1,f2⟩:=HR.out v9 (YW.out.trans y9)))
 have acb:q1+q2=mkRat (n1 * d2+n2 * d1) (d1 * d2):=by rw [HQ1.out,HQ2.out,Rat.mkRat_add_mkRat _ _ (by omega) (by omega)]
 rw [<- acb] at m9;have HF:=hid (ydo (g:=w.heap.size+1+1) (HX0.out.trans (YW.out.trans y9)) (by omega) r0 r1 r2 rfl rfl rfl m9);clear SS SS2 HS HR m9 y9 x9 m1 x1 y1 m2 x2 y2 m3 x3 y3 m4 x4 y4 acb l3;go_wp2_with fail;exact bodyPost_ret (v:=.agg #[.bool bz,.slice Az nz cz,.slice Bz mz dz]) (by simp [results,Tryz.results80,go_sem,r0,r1,r2]) rfl HF.out
end Go.Proofs.YtheefiaoimbeiaaGreatDoor
