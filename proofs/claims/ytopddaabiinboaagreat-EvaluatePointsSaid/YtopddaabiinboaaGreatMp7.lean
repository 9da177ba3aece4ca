/- Layer 3: rational.Sub, rational.Cmp. -/
import Derived.Test.YtopddaabiinboaaGreatMp6
import Derived.Test.YtopddaabiinboaaGreatMp0
import Derived.Maps.Own
import Derived.Test.YtopddaabiinboaaGreatMp5
set_option linter.unusedSimpArgs false
set_option linter.unusedVariables false
set_option maxRecDepth 100000
set_option maxHeartbeats 8000000
namespace Go.Proofs.YtopddaabiinboaaGreat
open Go.RowKit
theorem yiy (x y:Value) (q1 q2:Rat) (L M:Nat) (w:World) (h:wc7 w x q1 L) (k:wc7 w y q2 M) (hL:1<=L) (hM:1<=M) (hs:2 * (L+M)+2<=17592186044416) :
 Calls Tryz.prog 121 #[x,y] w (vc6 (q1 - q2) w):=by
 have H:=Lib.hid h;have K:=Lib.hid k;obtain ⟨neg,s1,s2,ds,es,rfl,⟨A,c,rfl,-,-,-⟩,⟨B,b,rfl,-,-,-⟩,-⟩:=h;obtain ⟨neg',s1',s2',ds',es',rfl,⟨A',c',rfl,-,-,-⟩,⟨B',b',rfl,-,-,-⟩,-⟩:=k;go_enter Tryz.func121,Tryz.ntmps121;go_wp2_with fail;generalize hW:((w.alloc (Obj.cells #[.bool neg,.slice A ds.length c,.slice B es.length b] 37)).alloc (Obj.cells #[.bool neg',.slice A' ds'.length c',.slice B' es'.length b'] 37)).alloc (Obj.cells #[.bool false,.slice none 0 0,.slice none 0 0] 37)=W;have HX0:Hid (Ext w W):=by
  have:Ext w W:=by rw [<- hW]; exact (((Ext.refl w).alloc _).alloc _).alloc _
  exact this
 have HWS:Hid (W.heap.size=w.heap.size+1+1+1):=by
  have:W.heap.size=w.heap.size+1+1+1:=by rw [<- hW]; simp
  exact this
 have HS:Hid (∀ W',Ext W W'->(Ext w W'/\W'.cell? ⟨w.heap.size,0,none⟩=some (.bool neg)/\W'.cell? ⟨w.heap.size,1,none⟩=some (.slice A ds.length c)/\W'.cell? ⟨w.heap.size,2,none⟩=some (.slice B es.length b)/\W'.cell? ⟨w.heap.size+1,0,none⟩=some (.bool neg')/\W'.cell? ⟨w.heap.size+1,1,none⟩=some (.slice A' ds'.length c')/\W'.cell? ⟨w.heap.size+1,2,none⟩=some (.slice B' es'.length b'))):=by
  intro W' hx;obtain ⟨hc,hf⟩:=hx.cells;have hsz:=HWS.out;refine ⟨HX0.out.trans hx,?_,?_,?_,?_,?_,?_⟩ <;> (rw [hc _ _ (by omega),<- hW]; simp [go_sem])
 have HR:Hid (∀ W',Ext W W'->(W'.cell? ⟨w.heap.size+1+1,0,none⟩=some (.bool false)/\W'.cell? ⟨w.heap.size+1+1,1,none⟩=some (.slice none 0 0)/\W'.cell? ⟨w.heap.size+1+1,2,none⟩=some (.slice none 0 0)/\W'.frozen? ⟨w.heap.size+1+1,0,none⟩=false/\W'.frozen? ⟨w.heap.size+1+1,1,none⟩=false/\W'.frozen? ⟨w.heap.size+1+1,2,none⟩=false)):=by
  intro W' hx;obtain ⟨hc,hf⟩:=hx.cells;have hsz:=HWS.out;refine ⟨?_,?_,?_,?_,?_,?_⟩ <;> first | (rw [hc _ _ (by omega),<- hW]; simp [go_sem]; done) | (rw [hf _ _ (by omega),<- hW]; simp [go_sem]; done)
 clear hW;obtain ⟨e0,a0,a1,a2,a3,a4,a5⟩:=HS.out W (Ext.refl W);refine (gdc _ q1 L _ (H.out.ext e0) hL).mono ?_;clear e0 a0 a1 a2 a3 a4 a5;rintro e w1 ⟨xn,xd,n1,d1,rfl,in1,id1,hd1,hq1,y1⟩;obtain ⟨b5,A5,n5,c5,rfl⟩:=in1.unpack;obtain ⟨b6,A6,n6,c6,rfl⟩:=id1.unpack;have x2:Ext w1 ((w1.alloc (Obj.cells #[.bool b5,.slice A5 n5 c5] 27)).alloc (Obj.cells #[.bool b6,.slice A6 n6 c6] 27)):=((Ext.refl w1).alloc _).alloc _;have T56:=Lib.hid (qgt w1 (.bool b5) (.slice A5 n5 c5) (.bool b6) (.slice A6 n6 c6) 27 27);have Z2:Hid (w1.heap.size+1 < ((w1.alloc (Obj.cells #[.bool b5,.slice A5 n5 c5] 27)).alloc (Obj.cells #[.bool b6,.slice A6 n6 c6] 27)).heap.size):=by
  have:w1.heap.size+1 < ((w1.alloc (Obj.cells #[.bool b5,.slice A5 n5 c5] 27)).alloc (Obj.cells #[.bool b6,.slice A6 n6 c6] 27)).heap.size:=by simp
  exact this
 have IN1:=Lib.hid (in1.ext x2);have ID1:=Lib.hid (id1.ext x2);have Y2:=Lib.hid (y1.trans x2);have HQ1:=Lib.hid hq1;have hw1:=y1.size;rw [HWS.out] at hw1;clear in1 id1 hq1 y1 x2;go_upto_region 2 with fail;generalize (w1.alloc (Obj.cells #[.bool b5,.slice A5 n5 c5] 27)).alloc (Obj.cells #[.bool b6,.slice A6 n6 c6] 27)=w2 at *;generalize w1.heap.size=g5 at *;obtain ⟨e0,a0,a1,a2,a3,a4,a5⟩:=HS.out w2 Y2.out;have E0:=Lib.hid e0;clear e0;go_wp2_with fail;refine (gdc _ q2 M _ (K.out.ext E0.out) hM).mono ?_;clear a0 a1 a2 a3 a4 a5;rintro e w3 ⟨yn,yd,n2,d2,rfl,in2,id2,hd2,hq2,y3⟩;obtain ⟨b7,A7,n7,c7,rfl⟩:=in2.unpack;obtain ⟨b8,A8,n8,c8,rfl⟩:=id2.unpack;have x4:Ext w3 ((w3.alloc (Obj.cells #[.bool b7,.slice A7 n7 c7] 27)).alloc (Obj.cells #[.bool b8,.slice A8 n8 c8] 27)):=((Ext.refl w3).alloc _).alloc _;have T78:=Lib.hid (qgt w3 (.bool b7) (.slice A7 n7 c7) (.bool b8) (.slice A8 n8 c8) 27 27);have Z4:Hid (w3.heap.size+1 < ((w3.alloc (Obj.cells #[.bool b7,.slice A7 n7 c7] 27)).alloc (Obj.cells #[.bool b8,.slice A8 n8 c8] 27)).heap.size):=by
  have:w3.heap.size+1 < ((w3.alloc (Obj.cells #[.bool b7,.slice A7 n7 c7] 27)).alloc (Obj.cells #[.bool b8,.slice A8 n8 c8] 27)).heap.size:=by simp
  exact this
 have IN2:=Lib.hid (in2.ext x4);have ID2:=Lib.hid (id2.ext x4);have Y4:=Lib.hid (y3.trans x4);have HQ2:=Lib.hid hq2;have hw3:=y3.size;have hz2:=Z2.out;clear in2 id2 hq2 y3 x4;go_upto_region 3 with fail;generalize (w3.alloc (Obj.cells #[.bool b7,.slice A7 n7 c7] 27)).alloc (Obj.cells #[.bool b8,.slice A8 n8 c8] 27)=w4 at *;generalize w3.heap.size=g7 at *;have IN1':=Lib.hid (IN1.out.ext Y4.out);have ID1':=Lib.hid (ID1.out.ext Y4.out);have T5:=Lib.hid (T56.out.1.ext Y4.out (by have:=Z2.out; omega));have T6:=Lib.hid (T56.out.2.ext Y4.out Z2.out);have YW:=Lib.hid (Y2.out.trans Y4.out);clear IN1 ID1 T56 H K;have SS:Hid (∀ W',Ext w4 W'->(Ext w W'/\W'.cell? ⟨g5,0,none⟩=some (.bool b5)/\W'.cell? ⟨g5,1,none⟩=some (.slice A5 n5 c5)/\W'.cell? ⟨g5+1,0,none⟩=some (.bool b6)/\W'.cell? ⟨g5+1,1,none⟩=some (.slice A6 n6 c6)/\W'.cell? ⟨g7,0,none⟩=some (.bool b7)/\W'.cell? ⟨g7,1,none⟩=some (.slice A7 n7 c7)/\W'.cell? ⟨g7+1,0,none⟩=some (.bool b8)/\W'.cell? ⟨g7+1,1,none⟩=some (.slice A8 n8 c8))):=by
  intro W' hx;have z4:=Z4.out;have u5:=T5.out.ext hx (by omega);have u6:=T6.out.ext hx (by omega);have u7:=T78.out.1.ext hx (by omega);have u8:=T78.out.2.ext hx (by omega);exact ⟨HX0.out.trans (YW.out.trans hx),u5.1,u5.2,u6.1,u6.2,u7.1,u7.2,u8.1,u8.2⟩
 have SS2:Hid (∀ W'' v0 v1 v2,Ext w4 W''->∀ W',W'=((W''.setCell ⟨w.heap.size+1+1,0,none⟩ v0).setCell ⟨w.heap.size+1+1,1,none⟩ v1).setCell ⟨w.heap.size+1+1,2,none⟩ v2->(Ext w W'/\W'.cell? ⟨g5,0,none⟩=some (.bool b5)/\W'.cell? ⟨g5,1,none⟩=some (.slice A5 n5 c5)/\W'.cell? ⟨g5+1,0,none⟩=some (.bool b6)/\W'.cell? ⟨g5+1,1,none⟩=some (.slice A6 n6 c6)/\W'.cell? ⟨g7,0,none⟩=some (.bool b7)/\W'.cell? ⟨g7,1,none⟩=some (.slice A7 n7 c7)/\W'.cell? ⟨g7+1,0,none⟩=some (.bool b8)/\W'.cell? ⟨g7+1,1,none⟩=some (.slice A8 n8 c8))):=by
  intro W'' v0 v1 v2 hx W' hW';obtain ⟨s0,s1,s2,s3,s4,s5,s6,s7,s8⟩:=SS.out W'' hx;have z1:w.heap.size+1+1 < g5:=by omega
  have z2:g5+1 < g7:=by omega
  rw [hW'];refine ⟨((s0.setCell (by simp; omega) _).setCell (by simp; omega) _).setCell (by simp; omega) _,?_,?_,?_,?_,?_,?_,?_,?_⟩ <;> rw [World.cell?_setCell_other _ _ _ _ (by intro e; injection e; omega),World.cell?_setCell_other _ _ _ _ (by intro e; injection e; omega),World.cell?_setCell_other _ _ _ _ (by intro e; injection e; omega)] <;> assumption
 go_region_held3 (fun W' => Ext w W' /\ W'.cell? ⟨g5, 0, none⟩ = some (.bool b5) /\ W'.cell? ⟨g5, 1, none⟩ = some (.slice A5 n5 c5) /\ W'.cell? ⟨g5 + 1, 0, none⟩ = some (.bool b6) /\ W'.cell? ⟨g5 + 1, 1, none⟩ = some (.slice A6 n6 c6) /\ W'.cell? ⟨g7, 0, none⟩ = some (.bool b7) /\ W'.cell? ⟨g7, 1, none⟩ = some (.slice A7 n7 c7) /\ W'.cell? ⟨g7 + 1, 0, none⟩ = some (.bool b8) /\ W'.cell? ⟨g7 + 1, 1, none⟩ = some (.slice A8 n8 c8))
  (first | exact SS.out _ ((Ext.refl w4).drew) | exact SS.out _ (by assumption) | exact SS2.out _ _ _ _ (by assumption) _ rfl)
  (first
    | (go_at_call_of 57 (Value.agg #[.bool b5,.slice A5 n5 c5])
       refine (jdf _ _ _ _ _ _ _ (IN1'.out.ext ((Ext.refl w4).drew)) (ID2.out.ext ((Ext.refl w4).drew)) (by omega)).mono ?_;rintro e v1 ⟨z1,rfl,m1,x1⟩
       have y1:Ext w4 v1:=Ext.trans ((Ext.refl w4).drew) x1)
    | (go_at_call_of 57 (Value.agg #[.bool b7,.slice A7 n7 c7])
       refine (jdf _ _ _ _ _ _ _ (IN2.out.ext y1) (ID1'.out.ext y1) (by omega)).mono ?_;rintro e v2 ⟨z2,rfl,m2,x2⟩
       have y2:Ext w4 v2:=Ext.trans y1 x2)
    | (go_at_call 166
       refine (qiy _ _ _ _ (L+M) (L+M) _ ((m1.raw.mono (qdd IN1'.out ID2.out)).ext x2) (m2.raw.mono (Nat.le_trans (qdd IN2.out ID1'.out) (by omega))) (by omega)).mono ?_;rintro e v3 ⟨z3,rfl,m3,x3⟩;have l3:=xiy _ _ (qdd IN1'.out ID2.out) (Nat.le_trans (qdd IN2.out ID1'.out) (show M+L<=L+M by omega))
       have y3:Ext w4 v3:=Ext.trans y2 x3)
    | (go_at_call_of 57 (Value.agg #[.bool b6,.slice A6 n6 c6])
       refine (jdf _ _ _ _ _ _ _ (ID1'.out.ext y3) (ID2.out.ext y3) (by omega)).mono ?_;rintro e v4 ⟨z4,rfl,m4,x4⟩
       have y4:Ext w4 v4:=Ext.trans y3 x4)
    | (go_at_call 112
       refine (qgx _ _ (n1 * d2 - n2 * d1) (d1 * d2) (L+M+1) (L+M) _ ((m3.raw.mono l3).ext x4) (by rw [Int.natCast_mul]; exact m4.raw.mono (qdd ID1'.out ID2.out)) (by omega) (by omega) (Nat.mul_pos hd1 hd2)).mono ?_;rintro e v9 ⟨z9,rfl,m9,x9⟩;obtain ⟨bz,Az,nz,cz,Bz,mz,dz,rfl⟩:=m9.unpack;have y9:Ext w4 v9:=Ext.trans y4 x9
       obtain ⟨r0,r1,r2,f0,f1,f2⟩:=HR.out v9 (YW.out.trans y9)))
 have hfin:q1 - q2=mkRat (n1 * d2 - n2 * d1) (d1 * d2):=by rw [HQ1.out,HQ2.out,Rat.sub_eq_add_neg,Rat.neg_mkRat,Rat.mkRat_add_mkRat _ _ (by omega) (by omega),Int.neg_mul,<- Int.sub_eq_add_neg]
 rw [<- hfin] at m9;have HF:=Lib.hid (yc7 (g:=w.heap.size+1+1) (HX0.out.trans (YW.out.trans y9)) (by omega) r0 r1 r2 rfl rfl rfl m9);clear SS SS2 HS HR m9 y9 x9 m1 x1 y1 m2 x2 y2 m3 x3 y3 m4 x4 y4 hfin l3;go_wp2_with fail;exact bodyPost_ret (v:=.agg #[.bool bz,.slice Az nz cz,.slice Bz mz dz]) (by simp [results,Tryz.results121,go_sem,r0,r1,r2]) rfl HF.out
theorem qiv (x y:Value) (q1 q2:Rat) (L M:Nat) (w:World) (h:wc7 w x q1 L) (k:wc7 w y q2 M) (hL:1<=L) (hM:1<=M) (hs:2 * (L+M)+2<=17592186044416) :
 Calls Tryz.prog 87 #[x,y] w fun e w'=>(∃ (n1 n2:Int) (d1 d2:Nat),0 < d1/\0 < d2/\q1=mkRat n1 d1/\q2=mkRat n2 d2/\e=.returned (.int .i64 (kc4 (n1 * d2) (n2 * d1))))/\Ext w w':=by
 have H:=Lib.hid h;have K:=Lib.hid k;obtain ⟨neg,s1,s2,ds,es,rfl,⟨A,c,rfl,-,-,-⟩,⟨B,b,rfl,-,-,-⟩,-⟩:=h;obtain ⟨neg',s1',s2',ds',es',rfl,⟨A',c',rfl,-,-,-⟩,⟨B',b',rfl,-,-,-⟩,-⟩:=k;go_enter Tryz.func87,Tryz.ntmps87;go_wp2_with fail;generalize hW:(w.alloc (Obj.cells #[.bool neg,.slice A ds.length c,.slice B es.length b] 37)).alloc (Obj.cells #[.bool neg',.slice A' ds'.length c',.slice B' es'.length b'] 37)=W;have HX0:Hid (Ext w W):=by
  have:Ext w W:=by rw [<- hW]; exact ((Ext.refl w).alloc _).alloc _
  exact this
 have HWS:Hid (W.heap.size=w.heap.size+1+1):=by
  have:W.heap.size=w.heap.size+1+1:=by rw [<- hW]; simp
  exact this
 have HS:Hid (∀ W',Ext W W'->(Ext w W'/\W'.cell? ⟨w.heap.size,0,none⟩=some (.bool neg)/\W'.cell? ⟨w.heap.size,1,none⟩=some (.slice A ds.length c)/\W'.cell? ⟨w.heap.size,2,none⟩=some (.slice B es.length b)/\W'.cell? ⟨w.heap.size+1,0,none⟩=some (.bool neg')/\W'.cell? ⟨w.heap.size+1,1,none⟩=some (.slice A' ds'.length c')/\W'.cell? ⟨w.heap.size+1,2,none⟩=some (.slice B' es'.length b'))):=by
  intro W' hx;obtain ⟨hc,hf⟩:=hx.cells;have hsz:=HWS.out;refine ⟨HX0.out.trans hx,?_,?_,?_,?_,?_,?_⟩ <;> (rw [hc _ _ (by omega),<- hW]; simp [go_sem])
 clear hW;obtain ⟨e0,a0,a1,a2,a3,a4,a5⟩:=HS.out W (Ext.refl W);refine (gdc _ q1 L _ (H.out.ext e0) hL).mono ?_;clear e0 a0 a1 a2 a3 a4 a5;rintro e w1 ⟨xn,xd,n1,d1,rfl,in1,id1,hd1,hq1,y1⟩;obtain ⟨b5,A5,n5,c5,rfl⟩:=in1.unpack;obtain ⟨b6,A6,n6,c6,rfl⟩:=id1.unpack;have x2:Ext w1 ((w1.alloc (Obj.cells #[.bool b5,.slice A5 n5 c5] 27)).alloc (Obj.cells #[.bool b6,.slice A6 n6 c6] 27)):=((Ext.refl w1).alloc _).alloc _;have T56:=Lib.hid (qgt w1 (.bool b5) (.slice A5 n5 c5) (.bool b6) (.slice A6 n6 c6) 27 27);have Z2:Hid (w1.heap.size+1 < ((w1.alloc (Obj.cells #[.bool b5,.slice A5 n5 c5] 27)).alloc (Obj.cells #[.bool b6,.slice A6 n6 c6] 27)).heap.size):=by
  have:w1.heap.size+1 < ((w1.alloc (Obj.cells #[.bool b5,.slice A5 n5 c5] 27)).alloc (Obj.cells #[.bool b6,.slice A6 n6 c6] 27)).heap.size:=by simp
  exact this
 have IN1:=Lib.hid (in1.ext x2);have ID1:=Lib.hid (id1.ext x2);have Y2:=Lib.hid (y1.trans x2);have HQ1:=Lib.hid hq1;have hw1:=y1.size;rw [HWS.out] at hw1;clear in1 id1 hq1 y1 x2;go_upto_region 2 with fail;generalize (w1.alloc (Obj.cells #[.bool b5,.slice A5 n5 c5] 27)).alloc (Obj.cells #[.bool b6,.slice A6 n6 c6] 27)=w2 at *;generalize w1.heap.size=g5 at *;obtain ⟨e0,a0,a1,a2,a3,a4,a5⟩:=HS.out w2 Y2.out;have E0:=Lib.hid e0;clear e0;go_wp2_with fail;refine (gdc _ q2 M _ (K.out.ext E0.out) hM).mono ?_;clear a0 a1 a2 a3 a4 a5;rintro e w3 ⟨yn,yd,n2,d2,rfl,in2,id2,hd2,hq2,y3⟩;obtain ⟨b7,A7,n7,c7,rfl⟩:=in2.unpack;obtain ⟨b8,A8,n8,c8,rfl⟩:=id2.unpack;have x4:Ext w3 ((w3.alloc (Obj.cells #[.bool b7,.slice A7 n7 c7] 27)).alloc (Obj.cells #[.bool b8,.slice A8 n8 c8] 27)):=((Ext.refl w3).alloc _).alloc _;have T78:=Lib.hid (qgt w3 (.bool b7) (.slice A7 n7 c7) (.bool b8) (.slice A8 n8 c8) 27 27);have Z4:Hid (w3.heap.size+1 < ((w3.alloc (Obj.cells #[.bool b7,.slice A7 n7 c7] 27)).alloc (Obj.cells #[.bool b8,.slice A8 n8 c8] 27)).heap.size):=by
  have:w3.heap.size+1 < ((w3.alloc (Obj.cells #[.bool b7,.slice A7 n7 c7] 27)).alloc (Obj.cells #[.bool b8,.slice A8 n8 c8] 27)).heap.size:=by simp
  exact this
 have IN2:=Lib.hid (in2.ext x4);have ID2:=Lib.hid (id2.ext x4);have Y4:=Lib.hid (y3.trans x4);have HQ2:=Lib.hid hq2;have hw3:=y3.size;have hz2:=Z2.out;clear in2 id2 hq2 y3 x4;go_upto_region 3 with fail;generalize (w3.alloc (Obj.cells #[.bool b7,.slice A7 n7 c7] 27)).alloc (Obj.cells #[.bool b8,.slice A8 n8 c8] 27)=w4 at *;generalize w3.heap.size=g7 at *;have IN1':=Lib.hid (IN1.out.ext Y4.out);have ID1':=Lib.hid (ID1.out.ext Y4.out);have T5:=Lib.hid (T56.out.1.ext Y4.out (by have:=Z2.out; omega));have T6:=Lib.hid (T56.out.2.ext Y4.out Z2.out);have YW:=Lib.hid (Y2.out.trans Y4.out);clear IN1 ID1 T56 H K;have SS:Hid (∀ W',Ext w4 W'->(Ext w W'/\W'.cell? ⟨g5,0,none⟩=some (.bool b5)/\W'.cell? ⟨g5,1,none⟩=some (.slice A5 n5 c5)/\W'.cell? ⟨g5+1,0,none⟩=some (.bool b6)/\W'.cell? ⟨g5+1,1,none⟩=some (.slice A6 n6 c6)/\W'.cell? ⟨g7,0,none⟩=some (.bool b7)/\W'.cell? ⟨g7,1,none⟩=some (.slice A7 n7 c7)/\W'.cell? ⟨g7+1,0,none⟩=some (.bool b8)/\W'.cell? ⟨g7+1,1,none⟩=some (.slice A8 n8 c8))):=by
  intro W' hx;have z4:=Z4.out;have u5:=T5.out.ext hx (by omega);have u6:=T6.out.ext hx (by omega);have u7:=T78.out.1.ext hx (by omega);have u8:=T78.out.2.ext hx (by omega);exact ⟨HX0.out.trans (YW.out.trans hx),u5.1,u5.2,u6.1,u6.2,u7.1,u7.2,u8.1,u8.2⟩
 go_region_held3 (fun W' => Ext w W' /\ W'.cell? ⟨g5, 0, none⟩ = some (.bool b5) /\ W'.cell? ⟨g5, 1, none⟩ = some (.slice A5 n5 c5) /\ W'.cell? ⟨g5 + 1, 0, none⟩ = some (.bool b6) /\ W'.cell? ⟨g5 + 1, 1, none⟩ = some (.slice A6 n6 c6) /\ W'.cell? ⟨g7, 0, none⟩ = some (.bool b7) /\ W'.cell? ⟨g7, 1, none⟩ = some (.slice A7 n7 c7) /\ W'.cell? ⟨g7 + 1, 0, none⟩ = some (.bool b8) /\ W'.cell? ⟨g7 + 1, 1, none⟩ = some (.slice A8 n8 c8))
  (first | exact SS.out _ ((Ext.refl w4).drew) | exact SS.out _ (by assumption))
  (first
    | (go_at_call_of 57 (Value.agg #[.bool b5,.slice A5 n5 c5])
       refine (jdf _ _ _ _ _ _ _ (IN1'.out.ext ((Ext.refl w4).drew)) (ID2.out.ext ((Ext.refl w4).drew)) (by omega)).mono ?_;rintro e v1 ⟨z1,rfl,m1,x1⟩
       have y1:Ext w4 v1:=Ext.trans ((Ext.refl w4).drew) x1)
    | (go_at_call_of 57 (Value.agg #[.bool b7,.slice A7 n7 c7])
       refine (jdf _ _ _ _ _ _ _ (IN2.out.ext y1) (ID1'.out.ext y1) (by omega)).mono ?_;rintro e v2 ⟨z2,rfl,m2,x2⟩
       have y2:Ext w4 v2:=Ext.trans y1 x2)
    | (go_at_call 120
       refine (qi4 _ _ _ _ (L+M) (L+M) _ ((m1.raw.mono (qdd IN1'.out ID2.out)).ext x2) (m2.raw.mono (Nat.le_trans (qdd IN2.out ID1'.out) (by omega)))).mono ?_;rintro e v9 ⟨rfl,x9⟩
       have y9:Ext w4 v9:=Ext.trans y2 x9))
 have HF:=Lib.hid (HX0.out.trans (YW.out.trans y9));clear SS HS m1 m2 x1 x2 y1 y2 y9 x9;go_wp2_with fail;go_ret;exact ⟨⟨n1,n2,d1,d2,hd1,hd2,HQ1.out,HQ2.out,rfl⟩,HF.out⟩
/- Layer 3: rational.Normal, Neg, Cmp. -/
set_option maxRecDepth 100000
set_option maxHeartbeats 8000000
theorem zg8 (x:Value) (q:Rat) (L:Nat) (w:World) (h:wc7 w x q L) (hL:1<=L) (hs:L<=17592186044416):Calls Tryz.prog 78 #[x] w (vc6 q w):=by
 have H:=Lib.hid h;obtain ⟨neg,s1,s2,ds,es,rfl,⟨A,c,rfl,-,-,-⟩,⟨B,b,rfl,-,-,-⟩,-⟩:=h;go_enter Tryz.func78,Tryz.ntmps78;go_wp2_with fail;generalize hW:(w.alloc (Obj.cells #[.bool neg,.slice A ds.length c,.slice B es.length b] 37)).alloc (Obj.cells #[.bool false,.slice none 0 0,.slice none 0 0] 37)=W;have HX0:Hid (Ext w W):=by
  have:Ext w W:=by rw [<- hW]; exact ((Ext.refl w).alloc _).alloc _
  exact this
 have HWS:Hid (W.heap.size=w.heap.size+1+1):=by
  have:W.heap.size=w.heap.size+1+1:=by rw [<- hW]; simp
  exact this
 have HS:Hid (∀ W',Ext W W'->(Ext w W'/\W'.cell? ⟨w.heap.size,0,none⟩=some (.bool neg)/\W'.cell? ⟨w.heap.size,1,none⟩=some (.slice A ds.length c)/\W'.cell? ⟨w.heap.size,2,none⟩=some (.slice B es.length b))):=by
  intro W' hx;obtain ⟨hc,hf⟩:=hx.cells;have hsz:=HWS.out;refine ⟨HX0.out.trans hx,?_,?_,?_⟩ <;> (rw [hc _ _ (by omega),<- hW]; simp [go_sem])
 have HR:Hid (∀ W',Ext W W'->(W'.cell? ⟨w.heap.size+1,0,none⟩=some (.bool false)/\W'.cell? ⟨w.heap.size+1,1,none⟩=some (.slice none 0 0)/\W'.cell? ⟨w.heap.size+1,2,none⟩=some (.slice none 0 0)/\W'.frozen? ⟨w.heap.size+1,0,none⟩=false/\W'.frozen? ⟨w.heap.size+1,1,none⟩=false/\W'.frozen? ⟨w.heap.size+1,2,none⟩=false)):=by
  intro W' hx;obtain ⟨hc,hf⟩:=hx.cells;have hsz:=HWS.out;refine ⟨?_,?_,?_,?_,?_,?_⟩ <;> first | (rw [hc _ _ (by omega),<- hW]; simp [go_sem]; done) | (rw [hf _ _ (by omega),<- hW]; simp [go_sem]; done)
 clear hW;obtain ⟨e0,b0,b1,b2⟩:=HS.out W (Ext.refl W);refine (gdc _ q L _ (H.out.ext e0) hL).mono ?_;rintro e w1 ⟨xn,xd,n1,d1,rfl,in1,id1,hd1,hq1,y1⟩;have Y1:=Lib.hid y1;have IN1:=Lib.hid in1;have ID1:=Lib.hid id1;have HQ:=Lib.hid hq1;clear e0 b0 b1 b2 in1 id1 hq1 y1;go_wp2_with fail;refine (qgx _ _ n1 d1 L L _ IN1.out ID1.out hs hs hd1).mono ?_;rw [<- HQ.out];rintro e w2 ⟨x2,rfl,m2,y2⟩;obtain ⟨bz,Az,nz,cz,Bz,mz,dz,rfl⟩:=m2.unpack;obtain ⟨r0,r1,r2,f0,f1,f2⟩:=HR.out w2 (Y1.out.trans y2);have HF:=Lib.hid (yc7 (g:=w.heap.size+1) (HX0.out.trans (Y1.out.trans y2)) (by omega) r0 r1 r2 rfl rfl rfl m2);clear y2 m2;go_wp2_with fail;exact bodyPost_ret (v:=.agg #[.bool bz,.slice Az nz cz,.slice Bz mz dz]) (by simp [results,Tryz.results78,go_sem,r0,r1,r2]) rfl HF.out
theorem ki1 (x:Value) (q:Rat) (L:Nat) (w:World) (h:wc7 w x q L) (hL:1<=L) (hs:L<=17592186044416):Calls Tryz.prog 122 #[x] w (vc6 (-q) w):=by
 have H:=Lib.hid h;obtain ⟨neg,s1,s2,ds,es,rfl,⟨A,c,rfl,-,-,-⟩,⟨B,b,rfl,-,-,-⟩,-⟩:=h;go_enter Tryz.func122,Tryz.ntmps122;go_wp2_with fail;generalize hW:(w.alloc (Obj.cells #[.bool neg,.slice A ds.length c,.slice B es.length b] 37)).alloc (Obj.cells #[.bool false,.slice none 0 0,.slice none 0 0] 37)=W;have HX0:Hid (Ext w W):=by
  have:Ext w W:=by rw [<- hW]; exact ((Ext.refl w).alloc _).alloc _
  exact this
 have HWS:Hid (W.heap.size=w.heap.size+1+1):=by
  have:W.heap.size=w.heap.size+1+1:=by rw [<- hW]; simp
  exact this
 have HS:Hid (∀ W',Ext W W'->(Ext w W'/\W'.cell? ⟨w.heap.size,0,none⟩=some (.bool neg)/\W'.cell? ⟨w.heap.size,1,none⟩=some (.slice A ds.length c)/\W'.cell? ⟨w.heap.size,2,none⟩=some (.slice B es.length b))):=by
  intro W' hx;obtain ⟨hc,hf⟩:=hx.cells;have hsz:=HWS.out;refine ⟨HX0.out.trans hx,?_,?_,?_⟩ <;> (rw [hc _ _ (by omega),<- hW]; simp [go_sem])
 have HR:Hid (∀ W',Ext W W'->(W'.cell? ⟨w.heap.size+1,0,none⟩=some (.bool false)/\W'.cell? ⟨w.heap.size+1,1,none⟩=some (.slice none 0 0)/\W'.cell? ⟨w.heap.size+1,2,none⟩=some (.slice none 0 0)/\W'.frozen? ⟨w.heap.size+1,0,none⟩=false/\W'.frozen? ⟨w.heap.size+1,1,none⟩=false/\W'.frozen? ⟨w.heap.size+1,2,none⟩=false)):=by
  intro W' hx;obtain ⟨hc,hf⟩:=hx.cells;have hsz:=HWS.out;refine ⟨?_,?_,?_,?_,?_,?_⟩ <;> first | (rw [hc _ _ (by omega),<- hW]; simp [go_sem]; done) | (rw [hf _ _ (by omega),<- hW]; simp [go_sem]; done)
 clear hW;obtain ⟨e0,a0,a1,a2⟩:=HS.out W (Ext.refl W);refine (gdc _ q L _ (H.out.ext e0) hL).mono ?_;clear e0 a0 a1 a2;rintro e w1 ⟨xn,xd,n1,d1,rfl,in1,id1,hd1,hq1,y1⟩;obtain ⟨b5,A5,n5,c5,rfl⟩:=in1.unpack;obtain ⟨b6,A6,n6,c6,rfl⟩:=id1.unpack;have x2:Ext w1 ((w1.alloc (Obj.cells #[.bool b5,.slice A5 n5 c5] 27)).alloc (Obj.cells #[.bool b6,.slice A6 n6 c6] 27)):=((Ext.refl w1).alloc _).alloc _;have T56:=Lib.hid (qgt w1 (.bool b5) (.slice A5 n5 c5) (.bool b6) (.slice A6 n6 c6) 27 27);have Z2:Hid (w1.heap.size+1 < ((w1.alloc (Obj.cells #[.bool b5,.slice A5 n5 c5] 27)).alloc (Obj.cells #[.bool b6,.slice A6 n6 c6] 27)).heap.size):=by
  have:w1.heap.size+1 < ((w1.alloc (Obj.cells #[.bool b5,.slice A5 n5 c5] 27)).alloc (Obj.cells #[.bool b6,.slice A6 n6 c6] 27)).heap.size:=by simp
  exact this
 have IN1:=Lib.hid (in1.ext x2);have ID1:=Lib.hid (id1.ext x2);have Y2:=Lib.hid (y1.trans x2);have HQ1:=Lib.hid hq1;have hw1:=y1.size;rw [HWS.out] at hw1;clear in1 id1 hq1 y1 x2;go_upto_region 2 with fail;generalize (w1.alloc (Obj.cells #[.bool b5,.slice A5 n5 c5] 27)).alloc (Obj.cells #[.bool b6,.slice A6 n6 c6] 27)=w2 at *;generalize w1.heap.size=g5 at *;have SS:Hid (∀ W',Ext w2 W'->(Ext w W'/\W'.cell? ⟨g5,0,none⟩=some (.bool b5)/\W'.cell? ⟨g5,1,none⟩=some (.slice A5 n5 c5)/\W'.cell? ⟨g5+1,0,none⟩=some (.bool b6)/\W'.cell? ⟨g5+1,1,none⟩=some (.slice A6 n6 c6))):=by
  intro W' hx;have z2:=Z2.out;have u5:=T56.out.1.ext hx (by omega);have u6:=T56.out.2.ext hx (by omega);exact ⟨HX0.out.trans (Y2.out.trans hx),u5.1,u5.2,u6.1,u6.2⟩
 have SS2:Hid (∀ W'' v0 v1 v2,Ext w2 W''->∀ W',W'=((W''.setCell ⟨w.heap.size+1,0,none⟩ v0).setCell ⟨w.heap.size+1,1,none⟩ v1).setCell ⟨w.heap.size+1,2,none⟩ v2->(Ext w W'/\W'.cell? ⟨g5,0,none⟩=some (.bool b5)/\W'.cell? ⟨g5,1,none⟩=some (.slice A5 n5 c5)/\W'.cell? ⟨g5+1,0,none⟩=some (.bool b6)/\W'.cell? ⟨g5+1,1,none⟩=some (.slice A6 n6 c6))):=by
  intro W'' v0 v1 v2 hx W' hW';obtain ⟨s0,s1,s2,s3,s4⟩:=SS.out W'' hx;have z1:w.heap.size+1 < g5:=by omega
  rw [hW'];refine ⟨((s0.setCell (by simp) _).setCell (by simp) _).setCell (by simp) _,?_,?_,?_,?_⟩ <;> rw [World.cell?_setCell_other _ _ _ _ (by intro e; injection e; omega),World.cell?_setCell_other _ _ _ _ (by intro e; injection e; omega),World.cell?_setCell_other _ _ _ _ (by intro e; injection e; omega)] <;> assumption
 go_region_held3 (fun W' => Ext w W' /\ W'.cell? ⟨g5, 0, none⟩ = some (.bool b5) /\ W'.cell? ⟨g5, 1, none⟩ = some (.slice A5 n5 c5) /\ W'.cell? ⟨g5 + 1, 0, none⟩ = some (.bool b6) /\ W'.cell? ⟨g5 + 1, 1, none⟩ = some (.slice A6 n6 c6))
  (first | exact SS.out _ ((Ext.refl w2).drew) | exact SS.out _ (by assumption) | exact SS2.out _ _ _ _ (by assumption) _ rfl)
  (first
    | (go_at_call 167
       refine (vi1 _ n1 L _ (IN1.out.ext ((Ext.refl w2).drew)) (by omega)).mono ?_;rintro e v1 ⟨z1,rfl,m1,x1⟩
       have y1:Ext w2 v1:=Ext.trans ((Ext.refl w2).drew) x1)
    | (go_at_call 112
       refine (qgx _ _ (-n1) d1 L L _ (m1.raw.mono (by rw [Int.natAbs_neg]; exact IN1.out.len)) (ID1.out.ext y1) hs hs hd1).mono ?_;rintro e v9 ⟨z9,rfl,m9,x9⟩;obtain ⟨bz,Az,nz,cz,Bz,mz,dz,rfl⟩:=m9.unpack;have y9:Ext w2 v9:=Ext.trans y1 x9
       obtain ⟨r0,r1,r2,f0,f1,f2⟩:=HR.out v9 (Y2.out.trans y9)))
 have hfin:-q=mkRat (-n1) d1:=by rw [HQ1.out,Rat.neg_mkRat]
 rw [<- hfin] at m9;have HF:=Lib.hid (yc7 (g:=w.heap.size+1) (HX0.out.trans (Y2.out.trans y9)) (by omega) r0 r1 r2 rfl rfl rfl m9);clear SS SS2 HS HR m9 y9 x9 m1 x1 y1 hfin;go_wp2_with fail;exact bodyPost_ret (v:=.agg #[.bool bz,.slice Az nz cz,.slice Bz mz dz]) (by simp [results,Tryz.results122,go_sem,r0,r1,r2]) rfl HF.out
theorem xh6 (x y:Value) (q1 q2:Rat) (L M:Nat) (w:World) (h:wc7 w x q1 L) (k:wc7 w y q2 M) (hL:1<=L) (hM:1<=M) (hs:2 * (L+M)+2<=17592186044416) :
 Calls Tryz.prog 87 #[x,y] w fun e w'=>e=.returned (.int .i64 (vg2 q1 q2))/\Ext w w':=
 (qiv x y q1 q2 L M w h k hL hM hs).mono fun _ _ ⟨⟨_,_,_,_,hd1,hd2,e1,e2,e⟩,hx⟩=>⟨by rw [e,e1,e2,whk hd1 hd2],hx⟩
/- Maps from strings to values of any type: what a block that is such a map holds, and what reading and writing it does. -/
def wda (l:List (ByteArray × Value)) (s:ByteArray):Option Value:=match l with
 | []=>none
 | (k,v) :: r=>if s=k then some v else wda r s
def jgs (l:List (ByteArray × Value)) (s:ByteArray) (u:Value):List (ByteArray × Value):=match l with
 | []=>[(s,u)]
 | (k,v) :: r=>if s=k then (s,u) :: r else (k,v) :: jgs r s u
theorem ghm (l:List (ByteArray × Value)) (s:ByteArray) (u:Value):wda (jgs l s u) s=some u:=by
 induction l with
 | nil=>simp [jgs,wda]
 | cons x r ih =>
   obtain ⟨k,v⟩:=x;unfold jgs
   by_cases h:s=k
   · rw [if_pos h]; simp [wda]
   · rw [if_neg h]; simp [wda,h,ih]
theorem yhj (l:List (ByteArray × Value)) (s t:ByteArray) (u:Value) (hne:t ≠ s):wda (jgs l s u) t=wda l t:=by
 induction l with
 | nil=>simp [jgs,wda,hne]
 | cons x r ih =>
   obtain ⟨k,v⟩:=x;unfold jgs
   by_cases h:s=k
   · rw [if_pos h]; subst h; simp [wda,hne]
   · rw [if_neg h]; simp [wda,ih]
theorem zhb (l:List (ByteArray × Value)) (s t:ByteArray) (u:Value):wda (jgs l s u) t=if t=s then some u else wda l t:=by
 by_cases h:t=s
 · rw [if_pos h,h,ghm]
 · rw [if_neg h,yhj _ _ _ _ h]
def zda (w:World) (b:Nat) (l:List (ByteArray × Value)):Prop:=
 ∃ es clock,w.heap[b]?=some (.map es clock)/\es.toList.map (fun e=>(e.key,e.val))=l.map (fun x=>(Value.string x.1,x.2))
theorem zda.lt {w:World} {b:Nat} {l:List (ByteArray × Value)} (h:zda w b l):b < w.heap.size:=by
 obtain ⟨es,clock,hb,_⟩:=h;exact (Array.getElem?_eq_some_iff.1 hb).1
theorem zda.made (w:World):zda (w.alloc (.map #[] 0)) w.heap.size []:=⟨#[],0,heap_alloc_new w _,rfl⟩
theorem zda.ext {w w':World} {b:Nat} {l:List (ByteArray × Value)} (h:zda w b l) (hx:Ext w w'):zda w' b l:=by
 have hlt:=h.lt;obtain ⟨es,clock,hb,he⟩:=h;exact ⟨es,clock,(hx.below.block b hlt).trans hb,he⟩
theorem zda.alloc {w:World} {b:Nat} {l:List (ByteArray × Value)} (h:zda w b l) (o:Obj):zda (w.alloc o) b l:=h.ext ((Ext.refl w).alloc o)
theorem zda.setCell {w:World} {b:Nat} {l:List (ByteArray × Value)} (h:zda w b l) (p:Addr) (u:Value) (hne:b ≠ p.block):zda (w.setCell p u) b l:=by
 obtain ⟨es,clock,hb,he⟩:=h;exact ⟨es,clock,(Below.heap_setCell w p u b hne).trans hb,he⟩
theorem vhf (s:ByteArray) (es:List MapEntry) (l:List (ByteArray × Value)) (h:es.map (fun e=>(e.key,e.val))=l.map (fun x=>(Value.string x.1,x.2))) :
 ∀ i,(Instr.findNow .string (.string s) es i=some none/\wda l s=none/\(∀ u,jgs l s u=l ++ [(s,u)])) \/
   ∃ k v,Instr.findNow .string (.string s) es i=some (some (i+k,v))/\wda l s=some v/\(∀ u,jgs l s u=l.set k (s,u))/\(es[k]?).map (·.key)=some (.string s)/\k < es.length:=by
 induction es generalizing l with
 | nil =>
   intro i
   have:l=[]:=by cases l with
    | nil=>rfl
    | cons x r=>simp at h
   subst this;exact .inl ⟨rfl,rfl,fun u=>rfl⟩
 | cons e es ih =>
   cases l with
   | nil=>simp at h
   | cons x r =>
     obtain ⟨k,v⟩:=x;simp only [List.map_cons,List.cons.injEq,Prod.mk.injEq] at h;obtain ⟨⟨hk,hv⟩,hr⟩:=h;intro i
     by_cases hs:s=k
     · subst hs;refine .inr ⟨0,v,?_,by simp [wda],fun u=>by simp [jgs],by simp [hk],by simp⟩;simp [Instr.findNow,hk,hv,Instr.sameNow,(MapKept.bytes_beq s s).2 rfl]
     · have hb:(s == k)=false:=by rw [Bool.eq_false_iff]; exact fun e=>hs ((MapKept.bytes_beq s k).1 e)
       rcases ih r hr (i+1) with ⟨h1,h2,h3⟩ | ⟨j,u,h1,h2,h3,h4,h5⟩
       · refine .inl ⟨by simp [Instr.findNow,hk,Instr.sameNow,hb,h1],by simp [wda,hs,h2],fun u=>by simp [jgs,hs,h3]⟩
       · refine .inr ⟨j+1,u,?_,by simp [wda,hs,h2],fun u=>by simp [jgs,hs,h3],by simpa using h4,by simp; omega⟩;simp [Instr.findNow,hk,Instr.sameNow,hb,h1]; omega
theorem yhc {P:Program} {k:TypeId} (hk:P.underlying k=some .string) (b:Bool) (n:Nat) (s:ByteArray) (w:World):(Instr.checkKey b (n+1) k (.string s)).run P w=.ok () w:=by
 simp [Instr.checkKey,run_underlying hk]
theorem zda.look {P:Program} {t k e:TypeId} {w:World} {b:Nat} {l:List (ByteArray × Value)} {z:Value} (h:zda w b l) (ht:P.underlying t=some (.map k e)) (hk:P.underlying k=some .string) (hz:(P.info? e).map (·.zero)=some (some z)) (s:ByteArray) (ok:Bool) :
 (Instr.lookup t (.map (some b)) (.string s) ok).run P w=.ok (if ok then .tuple #[(wda l s).getD z,.bool (wda l s).isSome] else (wda l s).getD z) w:=by
 obtain ⟨es,clock,hb,he⟩:=h;obtain ⟨j,hj,hz'⟩:=Option.map_eq_some_iff.1 hz;have hg:=MapKept.run_getObj_map (P:=P) hb;have hck:=yhc hk es.isEmpty 9999 s w;have hzr:(zeroValue e).run P w=.ok z w:=by simp [zeroValue,typeInfo,hj,hz']
 rcases vhf s es.toList l he 0 with ⟨h1,h2,-⟩ | ⟨i,v,h1,h2,-,-⟩
 · have hf:(Instr.findKey k (.string s) es.toList).run P w=.ok none w:=by simp [Instr.findKey,run_underlying hk,h1]
   simp only [Instr.lookup,h2];cases ok <;> simp [run_underlying ht,hg,hck,hf,hzr]
 · have hf:(Instr.findKey k (.string s) es.toList).run P w=.ok (some (0+i,v)) w:=by simp [Instr.findKey,run_underlying hk,h1]
   simp only [Instr.lookup,h2];cases ok <;> simp [run_underlying ht,hg,hck,hf]
theorem zda.put {P:Program} {t k e:TypeId} {w:World} {b:Nat} {l:List (ByteArray × Value)} (h:zda w b l) (ht:P.underlying t=some (.map k e)) (hk:P.underlying k=some .string) (s:ByteArray) (u:Value) :
 ∃ w',(Instr.mapUpdate t (.map (some b)) (.string s) u).run P w=.ok () w'/\zda w' b (jgs l s u)/\Only b w w':=by
 have hlt:=h.lt;obtain ⟨es,clock,hb,he⟩:=h;have hg:=MapKept.run_getObj_map (P:=P) hb;have hck:=yhc hk false 9999 s w;have hon:∀ o,Only b w { w with heap:=w.heap.setIfInBounds b o }:=fun o=>⟨rfl,rfl,rfl,by simp,fun i hi hne=>by
  have:b ≠ i:=fun e=>hne (by rw [e])
  simp [Array.getElem?_setIfInBounds,this]⟩
 rcases vhf s es.toList l he 0 with ⟨h1,-,h3⟩ | ⟨i,v,h1,-,h3,h4,h5⟩
 · have hf:(Instr.findKey k (.string s) es.toList).run P w=.ok none w:=by simp [Instr.findKey,run_underlying hk,h1]
   have hs:=MapKept.run_setObj_map (P:=P) (.map (es.push { key:=.string s,val:=u,born:=clock }) (clock+1)) hb;refine ⟨_,?_,?_,hon (.map (es.push { key:=.string s,val:=u,born:=clock }) (clock+1))⟩
   · simp [Instr.mapUpdate,run_underlying ht,hg,hck,hf,hs]
   · refine ⟨_,_,by simp [Array.getElem?_setIfInBounds,hlt]; exact ⟨rfl,rfl⟩,?_⟩;rw [h3];simpa using he
 · have hf:(Instr.findKey k (.string s) es.toList).run P w=.ok (some (0+i,v)) w:=by simp [Instr.findKey,run_underlying hk,h1]
   have hkey:(es[i]?).map (·.key)=some (.string s):=by simpa using h4
   have hst:(Instr.keyThatStays (.string s) (.string s)).run P w=.ok (.string s) w:=by
    simp [Instr.keyThatStays,Instr.sameBits,(MapKept.bytes_beq s s).2 rfl]
   have hs:=MapKept.run_setObj_map (P:=P) (.map (es.modify i fun e=>{ e with key:=.string s,val:=u }) clock) hb;refine ⟨_,?_,?_,hon (.map (es.modify i fun e=>{ e with key:=.string s,val:=u }) clock)⟩
   · simp [Instr.mapUpdate,run_underlying ht,hg,hck,hf,hkey,hst,hs]
   · refine ⟨_,_,by simp [Array.getElem?_setIfInBounds,hlt]; exact ⟨rfl,rfl⟩,?_⟩;rw [h3];apply List.ext_getElem?;intro j;have hej:=congrArg (fun L=>L[j]?) he;simp only [List.getElem?_map,Array.getElem?_toList] at hej;simp only [List.getElem?_map,Array.getElem?_toList,Array.getElem?_modify,List.getElem?_set]
     by_cases hij:i=j
     · subst hij;have hl:i < l.length:=by
        have:=congrArg List.length he;simp at this h5;omega
       have h5':i < es.size:=by simpa using h5
       simp [hl,h5']
     · simp [hij,hej]
/- Polynomials in four variables, plain: monomials, sums of terms, recursive polynomials, and their values. No program in sight. -/
structure Mo where
 a:Int
 b:Int
 c:Int
 d:Int
deriving DecidableEq
def Mo.one:Mo:=⟨0,0,0,0⟩
def Mo.get (m:Mo) (i:Int):Int:=if i=1 then m.a else if i=2 then m.b else if i=3 then m.c else m.d
def Mo.put (m:Mo) (i e:Int):Mo:=if i=1 then { m with a:=e } else if i=2 then { m with b:=e } else if i=3 then { m with c:=e } else { m with d:=e }
def Mo.nonneg (m:Mo):Prop:=0<=m.a/\0<=m.b/\0<=m.c/\0<=m.d
instance (m:Mo):Decidable m.nonneg:=by unfold Mo.nonneg; infer_instance
def Mo.lt (m n:Mo):Prop:=m.d < n.d\/(m.d=n.d/\(m.c < n.c\/(m.c=n.c/\(m.b < n.b\/(m.b=n.b/\m.a < n.a)))))
instance (m n:Mo):Decidable (m.lt n):=by unfold Mo.lt; infer_instance
theorem Mo.ext_ {m n:Mo} (h1:m.a=n.a) (h2:m.b=n.b) (h3:m.c=n.c) (h4:m.d=n.d):m=n:=by cases m; cases n; simp_all
theorem Mo.lt_irrefl (m:Mo):¬ m.lt m:=by unfold Mo.lt; omega
theorem Mo.lt_trans {m n k:Mo} (h1:m.lt n) (h2:n.lt k):m.lt k:=by unfold Mo.lt at *; omega
theorem Mo.tri (m n:Mo):m.lt n\/m=n\/n.lt m:=by
 by_cases h:m=n
 · exact .inr (.inl h)
 · have:¬ (m.a=n.a/\m.b=n.b/\m.c=n.c/\m.d=n.d):=fun hh=>h (Mo.ext_ hh.1 hh.2.1 hh.2.2.1 hh.2.2.2)
   unfold Mo.lt; omega
abbrev Sp:=List (Int × Mo)
def wc2 : Sp -> Mo -> Int
 | [],_=>0
 | (c,n) :: r,m=>(if n=m then c else 0)+wc2 r m
theorem xgx (l r:Sp) (m:Mo):wc2 (l ++ r) m=wc2 l m+wc2 r m:=by
 induction l with
 | nil=>simp [wc2]
 | cons x l ih=>simp only [List.cons_append,wc2,ih]; omega
def zde : Sp -> Prop
 | []=>True
 | (c,m) :: r=>c ≠ 0/\(∀ x ∈ r,x.2.lt m)/\zde r
theorem qde {l:Sp} {m:Mo} (h:∀ x ∈ l,x.2 ≠ m):wc2 l m=0:=by
 induction l with
 | nil=>rfl
 | cons x l ih =>
   rw [wc2,if_neg (h x (by simp)),ih (fun y hy=>h y (by simp [hy]))]; rfl
theorem ygx {c:Int} {m:Mo} {r:Sp} (h:zde ((c,m) :: r)):wc2 ((c,m) :: r) m=c/\∀ n,m.lt n->wc2 ((c,m) :: r) n=0:=by
 have hlt:=h.2.1
 constructor
 · rw [wc2,if_pos rfl,qde (m:=m) (fun x hx e=>Mo.lt_irrefl m (by have:=hlt x hx; rw [e] at this; exact this))]; omega
 · intro n hn;refine qde fun x hx e=>?_
   rcases List.mem_cons.1 hx with rfl | hx
   · exact Mo.lt_irrefl m (by rw [<- e] at hn; exact hn)
   · exact Mo.lt_irrefl m (Mo.lt_trans (by rw [<- e] at hn; exact hn) (hlt x hx))
theorem zde.uniq : ∀ (l l' : Sp), zde l -> zde l' -> (∀ m, wc2 l m = wc2 l' m) -> l = l'
 | [],[],_,_,_=>rfl
 | [],(c,m) :: r,_,h',e=>by
   have h1:=(ygx h').1;rw [<- e m] at h1;exact absurd h1.symm h'.1
 | (c,m) :: r,[],h,_,e=>by
   have h1:=(ygx h).1;rw [e m] at h1;exact absurd h1.symm h.1
 | (c,m) :: r,(c',m') :: r',h,h',e=>by
   have h1:=ygx h;have h2:=ygx h';have hm:m=m':=by
    rcases Mo.tri m m' with hlt | he | hlt
    · have:=h1.2 m' hlt;rw [e m',h2.1] at this;exact absurd this h'.1
    · exact he
    · have:=h2.2 m hlt;rw [<- e m,h1.1] at this;exact absurd this h.1
   subst hm;have hc:c=c':=by rw [<- h1.1,e m,h2.1]
   subst hc;have hr:r=r':=zde.uniq r r' h.2.2 h'.2.2 (fun n=>by
    have:=e n;simp only [wc2] at this
    omega)
   rw [hr]
def Mo.val (ρ:Int->Rat) (m:Mo):Rat:=ρ 1 ^ m.a.toNat * ρ 2 ^ m.b.toNat * ρ 3 ^ m.c.toNat * ρ 4 ^ m.d.toNat
def gc7 (ρ : Int -> Rat) : Sp -> Rat
 | []=>0
 | (c,m) :: r=>(c:Rat) * m.val ρ+gc7 ρ r
theorem zdj (ρ:Int->Rat) (l r:Sp):gc7 ρ (l ++ r)=gc7 ρ l+gc7 ρ r:=by
 induction l with
 | nil=>simp [gc7]; grind
 | cons x l ih=>obtain ⟨c,m⟩:=x; simp only [List.cons_append,gc7,ih]; grind
theorem kh7 (ρ:Int->Rat) (m:Mo) (l:Sp):gc7 ρ l=(wc2 l m:Rat) * m.val ρ+gc7 ρ (l.filter fun x=>decide (x.2 ≠ m)):=by
 induction l with
 | nil=>simp [gc7,wc2]; grind
 | cons x l ih =>
   obtain ⟨c,n⟩:=x
   by_cases h:n=m
   · subst h;simp only [gc7,wc2,if_true,List.filter_cons,ne_eq,not_true,decide_false,Bool.false_eq_true,if_false];rw [ih]
     push_cast
     grind
   · have:decide (n ≠ m)=true:=by simpa using h
     simp only [gc7,wc2,if_neg h,List.filter_cons,this,if_true];rw [ih]
     push_cast
     grind
theorem xhu (l:Sp) (m n:Mo):wc2 (l.filter fun x=>decide (x.2 ≠ m)) n=if n=m then 0 else wc2 l n:=by
 induction l with
 | nil=>simp [wc2]
 | cons x l ih =>
   obtain ⟨c,k⟩:=x
   by_cases h:k=m
   · subst h;simp only [List.filter_cons,ne_eq,not_true,decide_false,Bool.false_eq_true,if_false,wc2];rw [ih]
     by_cases h2:n=k
     · simp [h2]
     · rw [if_neg h2,if_neg h2,if_neg (fun e=>h2 e.symm)]; omega
   · have:decide (k ≠ m)=true:=by simpa using h
     simp only [List.filter_cons,this,if_true,wc2,ih]
     by_cases h2:n=m
     · subst h2; simp [h]
     · simp [h2]
theorem zif (ρ:Int->Rat) (n:Nat):∀ l:Sp,l.length<=n->(∀ m,wc2 l m=0)->gc7 ρ l=0:=by
 induction n with
 | zero=>intro l h _; obtain rfl:l=[]:=List.eq_nil_of_length_eq_zero (by omega); rfl
 | succ n ih =>
   intro l h h0;cases l with
   | nil=>rfl
   | cons x l =>
     obtain ⟨c,m⟩:=x;rw [kh7 ρ m,h0 m];have hl:(((c,m) :: l).filter fun x=>decide (x.2 ≠ m)).length<=n:=by
      rw [List.filter_cons];simp only [ne_eq,not_true,decide_false,Bool.false_eq_true,if_false];have:=List.length_filter_le (fun x:Int × Mo=>decide (x.2 ≠ m)) l;simp only [List.length_cons] at h;simp only [ne_eq] at this ⊢;omega
     rw [ih _ hl (fun k=>by rw [xhu]; split <;> simp [h0])];simp; grind
def xgy (l:Sp):Sp:=l.map fun x=>(-x.1,x.2)
theorem jho (l:Sp) (m:Mo):wc2 (xgy l) m=- wc2 l m:=by
 induction l with
 | nil=>rfl
 | cons x l ih =>
   obtain ⟨c,n⟩:=x;simp only [xgy,List.map_cons,wc2];rw [show (List.map (fun x:Int × Mo=>(-x.1,x.2)) l)=xgy l from rfl,ih]
   split <;> omega
theorem jhs (ρ:Int->Rat) (l:Sp):gc7 ρ (xgy l)=- gc7 ρ l:=by
 induction l with
 | nil=>simp [xgy,gc7]
 | cons x l ih =>
   obtain ⟨c,n⟩:=x;simp only [xgy,List.map_cons,gc7];rw [show (List.map (fun x:Int × Mo=>(-x.1,x.2)) l)=xgy l from rfl,ih]
   push_cast
   grind
theorem qg3 (ρ:Int->Rat) {l l':Sp} (h:∀ m,wc2 l m=wc2 l' m):gc7 ρ l=gc7 ρ l':=by
 have h1:=zif ρ (l ++ xgy l').length (l ++ xgy l') (Nat.le_refl _) (fun m=>by rw [xgx,jho,h m]; omega);rw [zdj,jhs] at h1
 grind
inductive Pl where
 | mk (lv:Int) (neg:Bool) (ds:List Nat) (cs:List Pl)
def Pl.lv : Pl -> Int
 | .mk l _ _ _=>l
def Pl.neg : Pl -> Bool
 | .mk _ n _ _=>n
def Pl.ds : Pl -> List Nat
 | .mk _ _ d _=>d
def Pl.cs : Pl -> List Pl
 | .mk _ _ _ c=>c
def Pl.z (p:Pl):Int:=sgn p.neg (val p.ds)
mutual
def Pl.terms (m : Mo) : Pl -> Sp
 | .mk l n d cs=>if l<=0 then [(sgn n (val d),m)] else if 4 < l then [] else gc2 m l (m.get l) cs
def gc2 (m : Mo) (l e : Int) : List Pl -> Sp
 | []=>[]
 | c :: r=>c.terms (m.put l e) ++ gc2 m l (e+1) r
end
mutual
def Pl.val (ρ : Int -> Rat) : Pl -> Rat
 | .mk l n d cs=>if l<=0 then ((sgn n (val d):Int):Rat) else if 4 < l then 0 else zc3 ρ l cs
def zc3 (ρ : Int -> Rat) (l : Int) : List Pl -> Rat
 | []=>0
 | c :: r=>c.val ρ+ρ l * zc3 ρ l r
end
theorem Mo.val_put (ρ:Int->Rat) (m:Mo) (l e:Int) (h1:0 < l) (h2:l<=4) (he:0<=e):(m.put l (e+1)).val ρ=ρ l * (m.put l e).val ρ:=by
 have ht:(e+1).toNat=e.toNat+1:=by omega
 rcases (show l=1\/l=2\/l=3\/l=4 by omega) with rfl | rfl | rfl | rfl
 · show ρ 1 ^ (e+1).toNat * ρ 2 ^ m.b.toNat * ρ 3 ^ m.c.toNat * ρ 4 ^ m.d.toNat=ρ 1 * (ρ 1 ^ e.toNat * ρ 2 ^ m.b.toNat * ρ 3 ^ m.c.toNat * ρ 4 ^ m.d.toNat);rw [ht,Rat.pow_succ]; grind
 · show ρ 1 ^ m.a.toNat * ρ 2 ^ (e+1).toNat * ρ 3 ^ m.c.toNat * ρ 4 ^ m.d.toNat=ρ 2 * (ρ 1 ^ m.a.toNat * ρ 2 ^ e.toNat * ρ 3 ^ m.c.toNat * ρ 4 ^ m.d.toNat);rw [ht,Rat.pow_succ]; grind
 · show ρ 1 ^ m.a.toNat * ρ 2 ^ m.b.toNat * ρ 3 ^ (e+1).toNat * ρ 4 ^ m.d.toNat=ρ 3 * (ρ 1 ^ m.a.toNat * ρ 2 ^ m.b.toNat * ρ 3 ^ e.toNat * ρ 4 ^ m.d.toNat);rw [ht,Rat.pow_succ]; grind
 · show ρ 1 ^ m.a.toNat * ρ 2 ^ m.b.toNat * ρ 3 ^ m.c.toNat * ρ 4 ^ (e+1).toNat=ρ 4 * (ρ 1 ^ m.a.toNat * ρ 2 ^ m.b.toNat * ρ 3 ^ m.c.toNat * ρ 4 ^ e.toNat);rw [ht,Rat.pow_succ]; grind
mutual
theorem Pl.terms_val (ρ : Int -> Rat) : ∀ (p : Pl) (m : Mo), m.nonneg -> gc7 ρ (p.terms m) = m.val ρ * p.val ρ
 | .mk l n d cs,m,hm=>by
   rw [Pl.terms,Pl.val]
   by_cases h1:l<=0
   · rw [if_pos h1,if_pos h1]; simp only [gc7]; grind
   · rw [if_neg h1,if_neg h1]
     by_cases h2:4 < l
     · rw [if_pos h2,if_pos h2]; simp only [gc7]; grind
     · rw [if_neg h2,if_neg h2];have hg:0<=m.get l:=by unfold Mo.nonneg at hm; unfold Mo.get; split <;> (try split) <;> (try split) <;> omega
       rw [khe ρ cs m l (m.get l) (by omega) (by omega) hg hm];have:m.put l (m.get l)=m:=by unfold Mo.put Mo.get; split <;> (try split) <;> (try split) <;> rfl
       rw [this]
theorem khe (ρ : Int -> Rat) : ∀ (cs : List Pl) (m : Mo) (l e : Int), 0 < l -> l <= 4 -> 0 <= e -> m.nonneg -> gc7 ρ (gc2 m l e cs) = (m.put l e).val ρ * zc3 ρ l cs
 | [],m,l,e,h1,h2,he,hm=>by rw [gc2,zc3]; simp only [gc7]; grind
 | c :: r,m,l,e,h1,h2,he,hm=>by
   have hp:(m.put l e).nonneg:=by unfold Mo.nonneg at *; unfold Mo.put; split <;> (try split) <;> (try split) <;> simp_all
   rw [gc2,zc3,zdj,Pl.terms_val ρ c _ hp,khe ρ r m l (e+1) h1 h2 (by omega) hm,Mo.val_put ρ m l e h1 h2 he]
   grind
end
theorem Mo.val_one (ρ:Int->Rat):Mo.one.val ρ=1:=by simp [Mo.one,Mo.val]
theorem Pl.val_coef (ρ:Int->Rat) {p q:Pl} (h:∀ m,wc2 (p.terms Mo.one) m=wc2 (q.terms Mo.one) m):p.val ρ=q.val ρ:=by
 have h1:=qg3 ρ h;rw [Pl.terms_val ρ p _ (by unfold Mo.nonneg Mo.one; simp),Pl.terms_val ρ q _ (by unfold Mo.nonneg Mo.one; simp),Mo.val_one] at h1
 grind
/- The recursive form of a canonical sum, plain. -/
def Pl.zero:Pl:=.mk 0 false [] []
def Pl.const (z:Int):Pl:=.mk 0 (decide (z < 0)) (dg z.natAbs) []
theorem Pl.const_terms (z:Int) (m:Mo):(Pl.const z).terms m=[(z,m)]:=by
 rw [Pl.const,Pl.terms,if_pos (by omega),jc3,zgs]
def bld : Nat -> Sp -> Pl
 | _,[]=>Pl.zero
 | 0,(c,_) :: _=>Pl.const c
 | n+1,(c,m) :: r=>if m.get (n+1:Nat)=0 then bld n ((c,m) :: r) else .mk (n+1:Nat) false [] ((List.range ((m.get (n+1:Nat)).toNat+1)).map fun (i:Nat)=>bld n (((c,m) :: r).filter fun x=>decide (x.2.get (n+1:Nat)=Int.ofNat i)))
def uhd (n:Nat) (m:Mo) (l:Sp):Prop:=∀ x ∈ l,∀ i:Nat,n < i->i<=4->x.2.get i=m.get i
theorem Mo.get_all {m k:Mo} (h:∀ i:Nat,0 < i->i<=4->m.get i=k.get i):m=k:=by
 have h1:=h 1 (by omega) (by omega);have h2:=h 2 (by omega) (by omega);have h3:=h 3 (by omega) (by omega);have h4:=h 4 (by omega) (by omega);simp [Mo.get] at h1 h2 h3 h4;exact Mo.ext_ h1 h2 h3 h4
theorem Mo.get_put (m:Mo) (i:Nat) (e:Int) (h1:0 < i) (h2:i<=4) (j:Nat) (h3:0 < j) (h4:j<=4):(m.put i e).get j=if j=i then e else m.get j:=by
 rcases (show i=1\/i=2\/i=3\/i=4 by omega) with rfl | rfl | rfl | rfl <;> rcases (show j=1\/j=2\/j=3\/j=4 by omega) with rfl | rfl | rfl | rfl <;> simp [Mo.put,Mo.get]
theorem Mo.lt_get {x m:Mo} {n:Nat} (hn:0 < n) (hn4:n<=4) (h:x.lt m) (ha:∀ i:Nat,n < i->i<=4->x.get i=m.get i):x.get n<=m.get n:=by
 unfold Mo.lt at h;have h2:=ha 2;have h3:=ha 3;have h4:=ha 4;rcases (show n=1\/n=2\/n=3\/n=4 by omega) with rfl | rfl | rfl | rfl <;> simp [Mo.get] at h2 h3 h4 ⊢ <;> omega
theorem zde.filter {l:Sp} (h:zde l) (f:Int × Mo->Bool):zde (l.filter f):=by
 induction l with
 | nil=>exact trivial
 | cons x l ih =>
   obtain ⟨c,m⟩:=x;rw [List.filter_cons]
   split
   · exact ⟨h.1,fun y hy=>h.2.1 y (List.mem_filter.1 hy).1,ih h.2.2⟩
   · exact ih h.2.2
theorem qh8 (l:Sp) (m:Mo) (f g k:Int × Mo->Bool) (h:∀ x ∈ l,k x=(f x || g x)) (hd:∀ x ∈ l,¬ (f x=true/\g x=true)):wc2 (l.filter k) m=wc2 (l.filter f) m+wc2 (l.filter g) m:=by
 induction l with
 | nil=>rfl
 | cons x l ih =>
   have ihl:=ih (fun y hy=>h y (by simp [hy])) (fun y hy=>hd y (by simp [hy]));have hk:=h x (by simp);have hx:=hd x (by simp);rw [List.filter_cons,List.filter_cons,List.filter_cons];cases hf:f x <;> cases hg:g x <;> rw [hf,hg] at hk <;> simp only [Bool.or_false,Bool.or_true,Bool.true_or,Bool.false_or] at hk <;> rw [hk] <;> simp only [if_true,Bool.false_eq_true,if_false,wc2]
   · exact ihl
   · rw [ihl]; omega
   · rw [ihl]; omega
   · exact absurd ⟨hf,hg⟩ hx
theorem ghg (l:Sp) (m:Mo) (f:Int × Mo->Bool) (h:∀ x ∈ l,f x=true):l.filter f=l:=List.filter_eq_self.2 h
theorem vhh (n:Nat) (hn:n<=4):∀ (l:Sp) (m:Mo),zde l->(∀ x ∈ l,x.2.nonneg)->uhd n m l->(∀ i:Nat,0 < i->i<=n->m.get i=0)->∀ k,wc2 ((bld n l).terms m) k=wc2 l k:=by
 induction n with
 | zero =>
   intro l m hl hnn ha _ k;cases l with
   | nil=>simp [bld,Pl.zero,Pl.terms,wc2,sgn,val]
   | cons x r =>
     obtain ⟨c,m'⟩:=x;have hm:m'=m:=Mo.get_all (fun i h1 h2=>ha (c,m') (by simp) i h1 h2);subst hm;have hr:r=[]:=by
      cases r with
      | nil=>rfl
      | cons y r =>
        have h1:=hl.2.1 y (by simp);have h2:y.2=m':=Mo.get_all (fun i h1 h2=>ha y (by simp) i h1 h2);rw [h2] at h1;exact absurd h1 (Mo.lt_irrefl _)
     subst hr;rw [bld,Pl.const_terms]
 | succ n ih =>
   intro l m hl hnn ha hz k;cases l with
   | nil=>simp [bld,Pl.zero,Pl.terms,wc2,sgn,val]
   | cons x r =>
     obtain ⟨c,m'⟩:=x;have htop:∀ y ∈ ((c,m') :: r:Sp),y.2.get (n+1:Nat)<=m'.get (n+1:Nat):=by
      intro y hy;rcases List.mem_cons.1 hy with rfl | hy'
      · exact Int.le_refl _
      · exact Mo.lt_get (by omega) (by omega) (hl.2.1 y hy') (fun i h1 h2=>(ha y hy i (by omega) h2).trans (ha (c,m') (by simp) i (by omega) h2).symm)
     have hlow:∀ y ∈ ((c,m') :: r:Sp),0<=y.2.get (n+1:Nat):=by
      intro y hy;have:=hnn y hy;unfold Mo.nonneg at this;unfold Mo.get
      split <;> (try split) <;> (try split) <;> omega
     rw [bld]
     by_cases h0:m'.get (n+1:Nat)=0
     · rw [if_pos h0];refine ih (by omega) _ m hl hnn (fun y hy i h1 h2=>?_) (fun i h1 h2=>hz i h1 (by omega)) k
       by_cases hi:i=n+1
       · subst hi;rw [hz (n+1) (by omega) (by omega)];have h1:=htop y hy;have h2:=hlow y hy;omega
       · exact ha y hy i (by omega) h2
     · rw [if_neg h0];have hg0:m.get (n+1:Nat)=0:=hz (n+1) (by omega) (by omega);rw [Pl.terms,if_neg (by omega),if_neg (by omega),hg0];generalize hL:((c,m') :: r:Sp)=L at *;have key:∀ (cnt e:Nat),wc2 (gc2 m (n+1:Nat) (e:Int) ((List.range' e cnt).map fun (i:Nat)=>bld n (L.filter fun x=>decide (x.2.get (n+1:Nat)=Int.ofNat i)))) k=wc2 (L.filter fun x=>decide ((e:Int)<=x.2.get (n+1:Nat)) && decide (x.2.get (n+1:Nat) < (e:Int)+cnt)) k:=by
        intro cnt
        induction cnt with
        | zero =>
          intro e;have:(L.filter fun x=>decide ((e:Int)<=x.2.get (n+1:Nat)) && decide (x.2.get (n+1:Nat) < (e:Int)+(0:Nat)))=[]:=List.filter_eq_nil_iff.2 (fun x _=>by simp);rw [this]; rfl
        | succ cnt ihc =>
          intro e;rw [List.range'_succ,List.map_cons,gc2,xgx];have e1:((e:Int)+1)=((e+1:Nat):Int):=by omega
          rw [e1,ihc (e+1)];rw [ih (by omega) _ (m.put (n+1:Nat) e) (hl.filter _) (fun x hx=>hnn x (List.mem_filter.1 hx).1) (fun x hx i h1 h2=>?_) (fun i h1 h2=>?_)]
          · refine (qh8 L k _ _ _ (fun x _=>?_) (fun x _=>?_)).symm
            · simp only [<- Bool.decide_and,<- Bool.decide_or,decide_eq_decide,Int.ofNat_eq_natCast];omega
            · simp only [Bool.and_eq_true,decide_eq_true_eq,Int.ofNat_eq_natCast];omega
          · obtain ⟨hx1,hx2⟩:=List.mem_filter.1 hx;rw [Mo.get_put m (n+1) e (by omega) (by omega) i (by omega) h2]
            by_cases hi:i=n+1
            · rw [if_pos hi,hi]; simpa using hx2
            · rw [if_neg hi]; exact ha x hx1 i (by omega) h2
          · rw [Mo.get_put m (n+1) e (by omega) (by omega) i h1 (by omega),if_neg (by omega)];exact hz i h1 (by omega)
       have h1:=key ((m'.get (n+1:Nat)).toNat+1) 0;rw [<- List.range_eq_range'] at h1;refine Eq.trans h1 ?_;rw [ghg L k _ (fun x hx=>?_)];have h2:=htop x hx;have h3:=hlow x hx;simp only [Bool.and_eq_true,decide_eq_true_eq];omega
end Go.Proofs.YtopddaabiinboaaGreat
