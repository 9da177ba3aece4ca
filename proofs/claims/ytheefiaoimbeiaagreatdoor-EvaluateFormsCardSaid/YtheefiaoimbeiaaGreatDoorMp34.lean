/- Layer 40: Holds, and the reference's Holds. -/
import Derived.Test.YtheefiaoimbeiaaGreatDoorMp33
set_option linter.unusedSimpArgs false
set_option linter.unusedVariables false
namespace Go.Proofs.YtheefiaoimbeiaaGreatDoor
open Lib (hid)
open Go.RowKit
def wdu (r s:Int):Bool:=if r=1 then decide (s < 0) else if r=2 then decide (s<=0) else if r=4 then s != 0 else if r=5 then decide (0<=s) else if r=6 then decide (0 < s) else s == 0
theorem jel (r s:Int) (w:World):Calls Tryz.prog 44 #[.int .i64 r,.int .i64 s] w fun e w'=>e=.returned (.bool (wdu r s))/\w'=w:=by
 by_cases h1:r=1
 · have hv:wdu r s=(decide (s < 0)):=by subst h1; rfl
   have b1:(r == 1)=true:=by simpa using h1
   rw [hv];clear hv h1;go_enter Tryz.func44,Tryz.ntmps44;go_wp2_with fail;go_ret;exact ⟨rfl,rfl⟩
 by_cases h2:r=2
 · have hv:wdu r s=(decide (s<=0)):=by subst h2; rfl
   have b1:(r == 1)=false:=by simpa using h1
   have b2:(r == 2)=true:=by simpa using h2
   rw [hv];clear hv h1 h2;go_enter Tryz.func44,Tryz.ntmps44;go_wp2_with fail;go_ret;exact ⟨rfl,rfl⟩
 by_cases h4:r=4
 · have hv:wdu r s=(s != 0):=by subst h4; rfl
   have b1:(r == 1)=false:=by simpa using h1
   have b2:(r == 2)=false:=by simpa using h2
   have b4:(r == 4)=true:=by simpa using h4
   rw [hv];clear hv h1 h2 h4;go_enter Tryz.func44,Tryz.ntmps44;go_wp2_with fail;go_ret;exact ⟨rfl,rfl⟩
 by_cases h5:r=5
 · have hv:wdu r s=(decide (0<=s)):=by subst h5; rfl
   have b1:(r == 1)=false:=by simpa using h1
   have b2:(r == 2)=false:=by simpa using h2
   have b4:(r == 4)=false:=by simpa using h4
   have b5:(r == 5)=true:=by simpa using h5
   rw [hv];clear hv h1 h2 h4 h5;go_enter Tryz.func44,Tryz.ntmps44;go_wp2_with fail;go_ret;exact ⟨rfl,rfl⟩
 by_cases h6:r=6
 · have hv:wdu r s=(decide (0 < s)):=by subst h6; rfl
   have b1:(r == 1)=false:=by simpa using h1
   have b2:(r == 2)=false:=by simpa using h2
   have b4:(r == 4)=false:=by simpa using h4
   have b5:(r == 5)=false:=by simpa using h5
   have b6:(r == 6)=true:=by simpa using h6
   rw [hv];clear hv h1 h2 h4 h5 h6;go_enter Tryz.func44,Tryz.ntmps44;go_wp2_with fail;go_ret;exact ⟨rfl,rfl⟩
 have hv:wdu r s=(s == 0):=by simp [wdu,h1,h2,h4,h5,h6]
 have b1:(r == 1)=false:=by simpa using h1
 have b2:(r == 2)=false:=by simpa using h2
 have b4:(r == 4)=false:=by simpa using h4
 have b5:(r == 5)=false:=by simpa using h5
 have b6:(r == 6)=false:=by simpa using h6
 rw [hv];clear hv h1 h2 h4 h5 h6;go_enter Tryz.func44,Tryz.ntmps44;go_wp2_with fail;go_ret;exact ⟨rfl,rfl⟩
set_option maxRecDepth 100000
set_option maxHeartbeats 8000000
theorem yf9 (x y:Value) (q1 q2:Rat) (L M:Nat) (w:World) (h:kdp w x q1 L) (k:kdp w y q2 M) (hL:1<=L) (hM:1<=M) (hs:2 * (L+M)+2<=17592186044416) :
 Calls Tryz.prog 121 #[x,y] w (vdn (q1 - q2) w):=by
 have H:=hid h;have K:=hid k;obtain ⟨neg,s1,s2,ds,es,rfl,⟨A,c,rfl,-,-,-⟩,⟨B,b,rfl,-,-,-⟩,-⟩:=h;obtain ⟨abR,s1',s2',ds',es',rfl,⟨A',c',rfl,-,-,-⟩,⟨B',b',rfl,-,-,-⟩,-⟩:=k;go_enter Tryz.func121,Tryz.ntmps121;go_wp2_with fail;generalize hW:((w.alloc (Obj.cells #[.bool neg,.slice A ds.length c,.slice B es.length b] 59)).alloc (Obj.cells #[.bool abR,.slice A' ds'.length c',.slice B' es'.length b'] 59)).alloc (Obj.cells #[.bool false,.slice none 0 0,.slice none 0 0] 59)=W;have HX0:Hid (Ext w W):=by
  have:Ext w W:=by rw [<- hW]; exact (((Ext.refl w).alloc _).alloc _).alloc _
  exact this
 have HWS:Hid (W.heap.size=w.heap.size+1+1+1):=by
  have:W.heap.size=w.heap.size+1+1+1:=by rw [<- hW]; simp
  exact this
 have HS:Hid (∀ W',Ext W W'->(Ext w W'/\W'.cell? ⟨w.heap.size,0,none⟩=some (.bool neg)/\W'.cell? ⟨w.heap.size,1,none⟩=some (.slice A ds.length c)/\W'.cell? ⟨w.heap.size,2,none⟩=some (.slice B es.length b)/\W'.cell? ⟨w.heap.size+1,0,none⟩=some (.bool abR)/\W'.cell? ⟨w.heap.size+1,1,none⟩=some (.slice A' ds'.length c')/\W'.cell? ⟨w.heap.size+1,2,none⟩=some (.slice B' es'.length b'))):=by
  intro W' hx;obtain ⟨hc,hf⟩:=hx.cells;have hsz:=HWS.out;refine ⟨HX0.out.trans hx,?_,?_,?_,?_,?_,?_⟩ <;> (rw [hc _ _ (by omega),<- hW]; simp [go_sem])
 have HR:Hid (∀ W',Ext W W'->(W'.cell? ⟨w.heap.size+1+1,0,none⟩=some (.bool false)/\W'.cell? ⟨w.heap.size+1+1,1,none⟩=some (.slice none 0 0)/\W'.cell? ⟨w.heap.size+1+1,2,none⟩=some (.slice none 0 0)/\W'.frozen? ⟨w.heap.size+1+1,0,none⟩=false/\W'.frozen? ⟨w.heap.size+1+1,1,none⟩=false/\W'.frozen? ⟨w.heap.size+1+1,2,none⟩=false)):=by
  intro W' hx;obtain ⟨hc,hf⟩:=hx.cells;have hsz:=HWS.out;refine ⟨?_,?_,?_,?_,?_,?_⟩ <;> first | (rw [hc _ _ (by omega),<- hW]; simp [go_sem]; done) | (rw [hf _ _ (by omega),<- hW]; simp [go_sem]; done)
 clear hW;obtain ⟨e0,a0,a1,a2,a3,a4,a5⟩:=HS.out W (Ext.refl W);refine (zdw _ q1 L _ (H.out.ext e0) hL).mono ?_;clear e0 a0 a1 a2 a3 a4 a5;rintro e w1 ⟨xn,xd,n1,d1,rfl,in1,id1,hd1,hq1,y1⟩;obtain ⟨b5,A5,n5,c5,rfl⟩:=in1.unpack;obtain ⟨b6,A6,n6,c6,rfl⟩:=id1.unpack;have x2:Ext w1 ((w1.alloc (Obj.cells #[.bool b5,.slice A5 n5 c5] 25)).alloc (Obj.cells #[.bool b6,.slice A6 n6 c6] 25)):=((Ext.refl w1).alloc _).alloc _;have T56:=hid (zd4 w1 (.bool b5) (.slice A5 n5 c5) (.bool b6) (.slice A6 n6 c6) 25 25);have Z2:Hid (w1.heap.size+1 < ((w1.alloc (Obj.cells #[.bool b5,.slice A5 n5 c5] 25)).alloc (Obj.cells #[.bool b6,.slice A6 n6 c6] 25)).heap.size):=by
  have:w1.heap.size+1 < ((w1.alloc (Obj.cells #[.bool b5,.slice A5 n5 c5] 25)).alloc (Obj.cells #[.bool b6,.slice A6 n6 c6] 25)).heap.size:=by simp
  exact this
 have IN1:=hid (in1.ext x2);have ID1:=hid (id1.ext x2);have Y2:=hid (y1.trans x2);have HQ1:=hid hq1;have hw1:=y1.size;rw [HWS.out] at hw1;clear in1 id1 hq1 y1 x2;go_upto_region 2 with fail;generalize (w1.alloc (Obj.cells #[.bool b5,.slice A5 n5 c5] 25)).alloc (Obj.cells #[.bool b6,.slice A6 n6 c6] 25)=w2 at *;generalize w1.heap.size=g5 at *;obtain ⟨e0,a0,a1,a2,a3,a4,a5⟩:=HS.out w2 Y2.out;have E0:=hid e0;clear e0;go_wp2_with fail;refine (zdw _ q2 M _ (K.out.ext E0.out) hM).mono ?_;clear a0 a1 a2 a3 a4 a5;rintro e w3 ⟨yn,yd,n2,d2,rfl,in2,id2,hd2,hq2,y3⟩;obtain ⟨b7,A7,n7,c7,rfl⟩:=in2.unpack;obtain ⟨b8,A8,n8,c8,rfl⟩:=id2.unpack;have x4:Ext w3 ((w3.alloc (Obj.cells #[.bool b7,.slice A7 n7 c7] 25)).alloc (Obj.cells #[.bool b8,.slice A8 n8 c8] 25)):=((Ext.refl w3).alloc _).alloc _;have T78:=hid (zd4 w3 (.bool b7) (.slice A7 n7 c7) (.bool b8) (.slice A8 n8 c8) 25 25);have Z4:Hid (w3.heap.size+1 < ((w3.alloc (Obj.cells #[.bool b7,.slice A7 n7 c7] 25)).alloc (Obj.cells #[.bool b8,.slice A8 n8 c8] 25)).heap.size):=by
  have:w3.heap.size+1 < ((w3.alloc (Obj.cells #[.bool b7,.slice A7 n7 c7] 25)).alloc (Obj.cells #[.bool b8,.slice A8 n8 c8] 25)).heap.size:=by simp
  exact this
 have IN2:=hid (in2.ext x4);have ID2:=hid (id2.ext x4);have Y4:=hid (y3.trans x4);have HQ2:=hid hq2;have hw3:=y3.size;have hz2:=Z2.out;clear in2 id2 hq2 y3 x4;go_upto_region 3 with fail;generalize (w3.alloc (Obj.cells #[.bool b7,.slice A7 n7 c7] 25)).alloc (Obj.cells #[.bool b8,.slice A8 n8 c8] 25)=w4 at *;generalize w3.heap.size=g7 at *;have af8:=hid (IN1.out.ext Y4.out);have aeA:=hid (ID1.out.ext Y4.out);have T5:=hid (T56.out.1.ext Y4.out (by have:=Z2.out; omega));have T6:=hid (T56.out.2.ext Y4.out Z2.out);have YW:=hid (Y2.out.trans Y4.out);clear IN1 ID1 T56 H K;have SS:Hid (∀ W',Ext w4 W'->(Ext w W'/\W'.cell? ⟨g5,0,none⟩=some (.bool b5)/\W'.cell? ⟨g5,1,none⟩=some (.slice A5 n5 c5)/\W'.cell? ⟨g5+1,0,none⟩=some (.bool b6)/\W'.cell? ⟨g5+1,1,none⟩=some (.slice A6 n6 c6)/\W'.cell? ⟨g7,0,none⟩=some (.bool b7)/\W'.cell? ⟨g7,1,none⟩=some (.slice A7 n7 c7)/\W'.cell? ⟨g7+1,0,none⟩=some (.bool b8)/\W'.cell? ⟨g7+1,1,none⟩=some (.slice A8 n8 c8))):=by
  intro W' hx;have z4:=Z4.out;have u5:=T5.out.ext hx (by omega);have u6:=T6.out.ext hx (by omega);have u7:=T78.out.1.ext hx (by omega);have u8:=T78.out.2.ext hx (by omega);exact ⟨HX0.out.trans (YW.out.trans hx),u5.1,u5.2,u6.1,u6.2,u7.1,u7.2,u8.1,u8.2⟩
 have SS2:Hid (∀ W'' v0 v1 v2,Ext w4 W''->∀ W',W'=((W''.setCell ⟨w.heap.size+1+1,0,none⟩ v0).setCell ⟨w.heap.size+1+1,1,none⟩ v1).setCell ⟨w.heap.size+1+1,2,none⟩ v2->(Ext w W'/\W'.cell? ⟨g5,0,none⟩=some (.bool b5)/\W'.cell? ⟨g5,1,none⟩=some (.slice A5 n5 c5)/\W'.cell? ⟨g5+1,0,none⟩=some (.bool b6)/\W'.cell? ⟨g5+1,1,none⟩=some (.slice A6 n6 c6)/\W'.cell? ⟨g7,0,none⟩=some (.bool b7)/\W'.cell? ⟨g7,1,none⟩=some (.slice A7 n7 c7)/\W'.cell? ⟨g7+1,0,none⟩=some (.bool b8)/\W'.cell? ⟨g7+1,1,none⟩=some (.slice A8 n8 c8))):=by
  intro W'' v0 v1 v2 hx W' hW';obtain ⟨s0,s1,s2,s3,s4,s5,s6,s7,s8⟩:=SS.out W'' hx;have z1:w.heap.size+1+1 < g5:=by omega
  have z2:g5+1 < g7:=by omega
  rw [hW'];refine ⟨((s0.setCell (by simp; omega) _).setCell (by simp; omega) _).setCell (by simp; omega) _,?_,?_,?_,?_,?_,?_,?_,?_⟩ <;> rw [pe _ _ _ _ (by intro e; injection e; omega),pe _ _ _ _ (by intro e; injection e; omega),pe _ _ _ _ (by intro e; injection e; omega)] <;> assumption
 go_region_held3 (fun W' => Ext w W' /\ W'.cell? ⟨g5, 0, none⟩ = some (.bool b5) /\ W'.cell? ⟨g5, 1, none⟩ = some (.slice A5 n5 c5) /\ W'.cell? ⟨g5 + 1, 0, none⟩ = some (.bool b6) /\ W'.cell? ⟨g5 + 1, 1, none⟩ = some (.slice A6 n6 c6) /\ W'.cell? ⟨g7, 0, none⟩ = some (.bool b7) /\ W'.cell? ⟨g7, 1, none⟩ = some (.slice A7 n7 c7) /\ W'.cell? ⟨g7 + 1, 0, none⟩ = some (.bool b8) /\ W'.cell? ⟨g7 + 1, 1, none⟩ = some (.slice A8 n8 c8))
  (first | exact SS.out _ ((Ext.refl w4).drew) | exact SS.out _ (by assumption) | exact SS2.out _ _ _ _ (by assumption) _ rfl)
  (first
    | (go_at_call_of 84 (Value.agg #[.bool b5,.slice A5 n5 c5])
       refine (jdz _ _ _ _ _ _ _ (af8.out.ext ((Ext.refl w4).drew)) (ID2.out.ext ((Ext.refl w4).drew)) (by omega)).mono ?_;rintro e v1 ⟨z1,rfl,m1,x1⟩
       have y1:Ext w4 v1:=Ext.trans ((Ext.refl w4).drew) x1)
    | (go_at_call_of 84 (Value.agg #[.bool b7,.slice A7 n7 c7])
       refine (jdz _ _ _ _ _ _ _ (IN2.out.ext y1) (aeA.out.ext y1) (by omega)).mono ?_;rintro e v2 ⟨z2,rfl,m2,x2⟩
       have y2:Ext w4 v2:=Ext.trans y1 x2)
    | (go_at_call 86
       refine (qf9 _ _ _ _ (L+M) (L+M) _ ((m1.raw.mono (jdw af8.out ID2.out)).ext x2) (m2.raw.mono (po (jdw IN2.out aeA.out) (by omega))) (by omega)).mono ?_;rintro e v3 ⟨z3,rfl,m3,x3⟩;have l3:=xf9 _ _ (jdw af8.out ID2.out) (po (jdw IN2.out aeA.out) (show M+L<=L+M by omega))
       have y3:Ext w4 v3:=Ext.trans y2 x3)
    | (go_at_call_of 84 (Value.agg #[.bool b6,.slice A6 n6 c6])
       refine (jdz _ _ _ _ _ _ _ (aeA.out.ext y3) (ID2.out.ext y3) (by omega)).mono ?_;rintro e v4 ⟨z4,rfl,m4,x4⟩
       have y4:Ext w4 v4:=Ext.trans y3 x4)
    | (go_at_call 113
       refine (gd6 _ _ (n1 * d2 - n2 * d1) (d1 * d2) (L+M+1) (L+M) _ ((m3.raw.mono l3).ext x4) (by rw [uZ]; exact m4.raw.mono (jdw aeA.out ID2.out)) (by omega) (by omega) (tg hd1 hd2)).mono ?_;rintro e v9 ⟨z9,rfl,m9,x9⟩;obtain ⟨bz,Az,nz,cz,Bz,mz,dz,rfl⟩:=m9.unpack;have y9:Ext w4 v9:=Ext.trans y4 x9
       obtain ⟨r0,r1,r2,f0,f1,f2⟩:=HR.out v9 (YW.out.trans y9)))
 have acb:q1 - q2=mkRat (n1 * d2 - n2 * d1) (d1 * d2):=by rw [HQ1.out,HQ2.out,Rat.sub_eq_add_neg,Rat.neg_mkRat,Rat.mkRat_add_mkRat _ _ (by omega) (by omega),Int.neg_mul,<- Int.sub_eq_add_neg]
 rw [<- acb] at m9;have HF:=hid (ydo (g:=w.heap.size+1+1) (HX0.out.trans (YW.out.trans y9)) (by omega) r0 r1 r2 rfl rfl rfl m9);clear SS SS2 HS HR m9 y9 x9 m1 x1 y1 m2 x2 y2 m3 x3 y3 m4 x4 y4 acb l3;go_wp2_with fail;exact bodyPost_ret (v:=.agg #[.bool bz,.slice Az nz cz,.slice Bz mz dz]) (by simp [results,Tryz.results121,go_sem,r0,r1,r2]) rfl HF.out
theorem kf5 (x y:Value) (q1 q2:Rat) (L M:Nat) (w:World) (h:kdp w x q1 L) (k:kdp w y q2 M) (hL:1<=L) (hM:1<=M) (hs:2 * (L+M)+2<=17592186044416) :
 Calls Tryz.prog 91 #[x,y] w fun e w'=>(∃ (n1 n2:Int) (d1 d2:Nat),0 < d1/\0 < d2/\q1=mkRat n1 d1/\q2=mkRat n2 d2/\e=.returned (.int .i64 (xdq (n1 * d2) (n2 * d1))))/\Ext w w':=by
 have H:=hid h;have K:=hid k;obtain ⟨neg,s1,s2,ds,es,rfl,⟨A,c,rfl,-,-,-⟩,⟨B,b,rfl,-,-,-⟩,-⟩:=h;obtain ⟨abR,s1',s2',ds',es',rfl,⟨A',c',rfl,-,-,-⟩,⟨B',b',rfl,-,-,-⟩,-⟩:=k;go_enter Tryz.func91,Tryz.ntmps91;go_wp2_with fail;generalize hW:(w.alloc (Obj.cells #[.bool neg,.slice A ds.length c,.slice B es.length b] 59)).alloc (Obj.cells #[.bool abR,.slice A' ds'.length c',.slice B' es'.length b'] 59)=W;have HX0:Hid (Ext w W):=by
  have:Ext w W:=by rw [<- hW]; exact ((Ext.refl w).alloc _).alloc _
  exact this
 have HWS:Hid (W.heap.size=w.heap.size+1+1):=by
  have:W.heap.size=w.heap.size+1+1:=by rw [<- hW]; simp
  exact this
 have HS:Hid (∀ W',Ext W W'->(Ext w W'/\W'.cell? ⟨w.heap.size,0,none⟩=some (.bool neg)/\W'.cell? ⟨w.heap.size,1,none⟩=some (.slice A ds.length c)/\W'.cell? ⟨w.heap.size,2,none⟩=some (.slice B es.length b)/\W'.cell? ⟨w.heap.size+1,0,none⟩=some (.bool abR)/\W'.cell? ⟨w.heap.size+1,1,none⟩=some (.slice A' ds'.length c')/\W'.cell? ⟨w.heap.size+1,2,none⟩=some (.slice B' es'.length b'))):=by
  intro W' hx;obtain ⟨hc,hf⟩:=hx.cells;have hsz:=HWS.out;refine ⟨HX0.out.trans hx,?_,?_,?_,?_,?_,?_⟩ <;> (rw [hc _ _ (by omega),<- hW]; simp [go_sem])
 clear hW;obtain ⟨e0,a0,a1,a2,a3,a4,a5⟩:=HS.out W (Ext.refl W);refine (zdw _ q1 L _ (H.out.ext e0) hL).mono ?_;clear e0 a0 a1 a2 a3 a4 a5;rintro e w1 ⟨xn,xd,n1,d1,rfl,in1,id1,hd1,hq1,y1⟩;obtain ⟨b5,A5,n5,c5,rfl⟩:=in1.unpack;obtain ⟨b6,A6,n6,c6,rfl⟩:=id1.unpack;have x2:Ext w1 ((w1.alloc (Obj.cells #[.bool b5,.slice A5 n5 c5] 25)).alloc (Obj.cells #[.bool b6,.slice A6 n6 c6] 25)):=((Ext.refl w1).alloc _).alloc _;have T56:=hid (zd4 w1 (.bool b5) (.slice A5 n5 c5) (.bool b6) (.slice A6 n6 c6) 25 25);have Z2:Hid (w1.heap.size+1 < ((w1.alloc (Obj.cells #[.bool b5,.slice A5 n5 c5] 25)).alloc (Obj.cells #[.bool b6,.slice A6 n6 c6] 25)).heap.size):=by
  have:w1.heap.size+1 < ((w1.alloc (Obj.cells #[.bool b5,.slice A5 n5 c5] 25)).alloc (Obj.cells #[.bool b6,.slice A6 n6 c6] 25)).heap.size:=by simp
  exact this
 have IN1:=hid (in1.ext x2);have ID1:=hid (id1.ext x2);have Y2:=hid (y1.trans x2);have HQ1:=hid hq1;have hw1:=y1.size;rw [HWS.out] at hw1;clear in1 id1 hq1 y1 x2;go_upto_region 2 with fail;generalize (w1.alloc (Obj.cells #[.bool b5,.slice A5 n5 c5] 25)).alloc (Obj.cells #[.bool b6,.slice A6 n6 c6] 25)=w2 at *;generalize w1.heap.size=g5 at *;obtain ⟨e0,a0,a1,a2,a3,a4,a5⟩:=HS.out w2 Y2.out;have E0:=hid e0;clear e0;go_wp2_with fail;refine (zdw _ q2 M _ (K.out.ext E0.out) hM).mono ?_;clear a0 a1 a2 a3 a4 a5;rintro e w3 ⟨yn,yd,n2,d2,rfl,in2,id2,hd2,hq2,y3⟩;obtain ⟨b7,A7,n7,c7,rfl⟩:=in2.unpack;obtain ⟨b8,A8,n8,c8,rfl⟩:=id2.unpack;have x4:Ext w3 ((w3.alloc (Obj.cells #[.bool b7,.slice A7 n7 c7] 25)).alloc (Obj.cells #[.bool b8,.slice A8 n8 c8] 25)):=((Ext.refl w3).alloc _).alloc _;have T78:=hid (zd4 w3 (.bool b7) (.slice A7 n7 c7) (.bool b8) (.slice A8 n8 c8) 25 25);have Z4:Hid (w3.heap.size+1 < ((w3.alloc (Obj.cells #[.bool b7,.slice A7 n7 c7] 25)).alloc (Obj.cells #[.bool b8,.slice A8 n8 c8] 25)).heap.size):=by
  have:w3.heap.size+1 < ((w3.alloc (Obj.cells #[.bool b7,.slice A7 n7 c7] 25)).alloc (Obj.cells #[.bool b8,.slice A8 n8 c8] 25)).heap.size:=by simp
  exact this
 have IN2:=hid (in2.ext x4);have ID2:=hid (id2.ext x4);have Y4:=hid (y3.trans x4);have HQ2:=hid hq2;have hw3:=y3.size;have hz2:=Z2.out;clear in2 id2 hq2 y3 x4;go_upto_region 3 with fail;generalize (w3.alloc (Obj.cells #[.bool b7,.slice A7 n7 c7] 25)).alloc (Obj.cells #[.bool b8,.slice A8 n8 c8] 25)=w4 at *;generalize w3.heap.size=g7 at *;have af8:=hid (IN1.out.ext Y4.out);have aeA:=hid (ID1.out.ext Y4.out);have T5:=hid (T56.out.1.ext Y4.out (by have:=Z2.out; omega));have T6:=hid (T56.out.2.ext Y4.out Z2.out);have YW:=hid (Y2.out.trans Y4.out);clear IN1 ID1 T56 H K;have SS:Hid (∀ W',Ext w4 W'->(Ext w W'/\W'.cell? ⟨g5,0,none⟩=some (.bool b5)/\W'.cell? ⟨g5,1,none⟩=some (.slice A5 n5 c5)/\W'.cell? ⟨g5+1,0,none⟩=some (.bool b6)/\W'.cell? ⟨g5+1,1,none⟩=some (.slice A6 n6 c6)/\W'.cell? ⟨g7,0,none⟩=some (.bool b7)/\W'.cell? ⟨g7,1,none⟩=some (.slice A7 n7 c7)/\W'.cell? ⟨g7+1,0,none⟩=some (.bool b8)/\W'.cell? ⟨g7+1,1,none⟩=some (.slice A8 n8 c8))):=by
  intro W' hx;have z4:=Z4.out;have u5:=T5.out.ext hx (by omega);have u6:=T6.out.ext hx (by omega);have u7:=T78.out.1.ext hx (by omega);have u8:=T78.out.2.ext hx (by omega);exact ⟨HX0.out.trans (YW.out.trans hx),u5.1,u5.2,u6.1,u6.2,u7.1,u7.2,u8.1,u8.2⟩
 go_region_held3 (fun W' => Ext w W' /\ W'.cell? ⟨g5, 0, none⟩ = some (.bool b5) /\ W'.cell? ⟨g5, 1, none⟩ = some (.slice A5 n5 c5) /\ W'.cell? ⟨g5 + 1, 0, none⟩ = some (.bool b6) /\ W'.cell? ⟨g5 + 1, 1, none⟩ = some (.slice A6 n6 c6) /\ W'.cell? ⟨g7, 0, none⟩ = some (.bool b7) /\ W'.cell? ⟨g7, 1, none⟩ = some (.slice A7 n7 c7) /\ W'.cell? ⟨g7 + 1, 0, none⟩ = some (.bool b8) /\ W'.cell? ⟨g7 + 1, 1, none⟩ = some (.slice A8 n8 c8))
  (first | exact SS.out _ ((Ext.refl w4).drew) | exact SS.out _ (by assumption))
  (first
    | (go_at_call_of 84 (Value.agg #[.bool b5,.slice A5 n5 c5])
       refine (jdz _ _ _ _ _ _ _ (af8.out.ext ((Ext.refl w4).drew)) (ID2.out.ext ((Ext.refl w4).drew)) (by omega)).mono ?_;rintro e v1 ⟨z1,rfl,m1,x1⟩
       have y1:Ext w4 v1:=Ext.trans ((Ext.refl w4).drew) x1)
    | (go_at_call_of 84 (Value.agg #[.bool b7,.slice A7 n7 c7])
       refine (jdz _ _ _ _ _ _ _ (IN2.out.ext y1) (aeA.out.ext y1) (by omega)).mono ?_;rintro e v2 ⟨z2,rfl,m2,x2⟩
       have y2:Ext w4 v2:=Ext.trans y1 x2)
    | (go_at_call 41
       refine (wgh _ _ _ _ (L+M) (L+M) _ ((m1.raw.mono (jdw af8.out ID2.out)).ext x2) (m2.raw.mono (po (jdw IN2.out aeA.out) (by omega)))).mono ?_;rintro e v9 ⟨rfl,x9⟩
       have y9:Ext w4 v9:=Ext.trans y2 x9))
 have HF:=hid (HX0.out.trans (YW.out.trans y9));clear SS HS m1 m2 x1 x2 y1 y2 y9 x9;go_wp2_with fail;go_ret;exact ⟨⟨n1,n2,d1,d2,hd1,hd2,HQ1.out,HQ2.out,rfl⟩,HF.out⟩
theorem xfi (x:Value) (q:Rat) (L:Nat) (w:World) (h:kdp w x q L) (hL:1<=L) (hs:L<=17592186044416):Calls Tryz.prog 120 #[x] w (vdn q w):=by
 have H:=hid h;obtain ⟨neg,s1,s2,ds,es,rfl,⟨A,c,rfl,-,-,-⟩,⟨B,b,rfl,-,-,-⟩,-⟩:=h;go_enter Tryz.func120,Tryz.ntmps120;go_wp2_with fail;generalize hW:(w.alloc (Obj.cells #[.bool neg,.slice A ds.length c,.slice B es.length b] 59)).alloc (Obj.cells #[.bool false,.slice none 0 0,.slice none 0 0] 59)=W;have HX0:Hid (Ext w W):=by
  have:Ext w W:=by rw [<- hW]; exact ((Ext.refl w).alloc _).alloc _
  exact this
 have HWS:Hid (W.heap.size=w.heap.size+1+1):=by
  have:W.heap.size=w.heap.size+1+1:=by rw [<- hW]; simp
  exact this
 have HS:Hid (∀ W',Ext W W'->(Ext w W'/\W'.cell? ⟨w.heap.size,0,none⟩=some (.bool neg)/\W'.cell? ⟨w.heap.size,1,none⟩=some (.slice A ds.length c)/\W'.cell? ⟨w.heap.size,2,none⟩=some (.slice B es.length b))):=by
  intro W' hx;obtain ⟨hc,hf⟩:=hx.cells;have hsz:=HWS.out;refine ⟨HX0.out.trans hx,?_,?_,?_⟩ <;> (rw [hc _ _ (by omega),<- hW]; simp [go_sem])
 have HR:Hid (∀ W',Ext W W'->(W'.cell? ⟨w.heap.size+1,0,none⟩=some (.bool false)/\W'.cell? ⟨w.heap.size+1,1,none⟩=some (.slice none 0 0)/\W'.cell? ⟨w.heap.size+1,2,none⟩=some (.slice none 0 0)/\W'.frozen? ⟨w.heap.size+1,0,none⟩=false/\W'.frozen? ⟨w.heap.size+1,1,none⟩=false/\W'.frozen? ⟨w.heap.size+1,2,none⟩=false)):=by
  intro W' hx;obtain ⟨hc,hf⟩:=hx.cells;have hsz:=HWS.out;refine ⟨?_,?_,?_,?_,?_,?_⟩ <;> first | (rw [hc _ _ (by omega),<- hW]; simp [go_sem]; done) | (rw [hf _ _ (by omega),<- hW]; simp [go_sem]; done)
 clear hW;obtain ⟨e0,b0,b1,b2⟩:=HS.out W (Ext.refl W);refine (zdw _ q L _ (H.out.ext e0) hL).mono ?_;rintro e w1 ⟨xn,xd,n1,d1,rfl,in1,id1,hd1,hq1,y1⟩;have Y1:=hid y1;have IN1:=hid in1;have ID1:=hid id1;have HQ:=hid hq1;clear e0 b0 b1 b2 in1 id1 hq1 y1;go_wp2_with fail;refine (gd6 _ _ n1 d1 L L _ IN1.out ID1.out hs hs hd1).mono ?_;rw [<- HQ.out];rintro e w2 ⟨x2,rfl,m2,y2⟩;obtain ⟨bz,Az,nz,cz,Bz,mz,dz,rfl⟩:=m2.unpack;obtain ⟨r0,r1,r2,f0,f1,f2⟩:=HR.out w2 (Y1.out.trans y2);have HF:=hid (ydo (g:=w.heap.size+1) (HX0.out.trans (Y1.out.trans y2)) (by omega) r0 r1 r2 rfl rfl rfl m2);clear y2 m2;go_wp2_with fail;exact bodyPost_ret (v:=.agg #[.bool bz,.slice Az nz cz,.slice Bz mz dz]) (by simp [results,Tryz.results120,go_sem,r0,r1,r2]) rfl HF.out
theorem zgd (x:Value) (q:Rat) (L:Nat) (w:World) (h:kdp w x q L) (hL:1<=L) (hs:L<=17592186044416):Calls Tryz.prog 122 #[x] w (vdn (-q) w):=by
 have H:=hid h;obtain ⟨neg,s1,s2,ds,es,rfl,⟨A,c,rfl,-,-,-⟩,⟨B,b,rfl,-,-,-⟩,-⟩:=h;go_enter Tryz.func122,Tryz.ntmps122;go_wp2_with fail;generalize hW:(w.alloc (Obj.cells #[.bool neg,.slice A ds.length c,.slice B es.length b] 59)).alloc (Obj.cells #[.bool false,.slice none 0 0,.slice none 0 0] 59)=W;have HX0:Hid (Ext w W):=by
  have:Ext w W:=by rw [<- hW]; exact ((Ext.refl w).alloc _).alloc _
  exact this
 have HWS:Hid (W.heap.size=w.heap.size+1+1):=by
  have:W.heap.size=w.heap.size+1+1:=by rw [<- hW]; simp
  exact this
 have HS:Hid (∀ W',Ext W W'->(Ext w W'/\W'.cell? ⟨w.heap.size,0,none⟩=some (.bool neg)/\W'.cell? ⟨w.heap.size,1,none⟩=some (.slice A ds.length c)/\W'.cell? ⟨w.heap.size,2,none⟩=some (.slice B es.length b))):=by
  intro W' hx;obtain ⟨hc,hf⟩:=hx.cells;have hsz:=HWS.out;refine ⟨HX0.out.trans hx,?_,?_,?_⟩ <;> (rw [hc _ _ (by omega),<- hW]; simp [go_sem])
 have HR:Hid (∀ W',Ext W W'->(W'.cell? ⟨w.heap.size+1,0,none⟩=some (.bool false)/\W'.cell? ⟨w.heap.size+1,1,none⟩=some (.slice none 0 0)/\W'.cell? ⟨w.heap.size+1,2,none⟩=some (.slice none 0 0)/\W'.frozen? ⟨w.heap.size+1,0,none⟩=false/\W'.frozen? ⟨w.heap.size+1,1,none⟩=false/\W'.frozen? ⟨w.heap.size+1,2,none⟩=false)):=by
  intro W' hx;obtain ⟨hc,hf⟩:=hx.cells;have hsz:=HWS.out;refine ⟨?_,?_,?_,?_,?_,?_⟩ <;> first | (rw [hc _ _ (by omega),<- hW]; simp [go_sem]; done) | (rw [hf _ _ (by omega),<- hW]; simp [go_sem]; done)
 clear hW;obtain ⟨e0,a0,a1,a2⟩:=HS.out W (Ext.refl W);refine (zdw _ q L _ (H.out.ext e0) hL).mono ?_;clear e0 a0 a1 a2;rintro e w1 ⟨xn,xd,n1,d1,rfl,in1,id1,hd1,hq1,y1⟩;obtain ⟨b5,A5,n5,c5,rfl⟩:=in1.unpack;obtain ⟨b6,A6,n6,c6,rfl⟩:=id1.unpack;have x2:Ext w1 ((w1.alloc (Obj.cells #[.bool b5,.slice A5 n5 c5] 25)).alloc (Obj.cells #[.bool b6,.slice A6 n6 c6] 25)):=((Ext.refl w1).alloc _).alloc _;have T56:=hid (zd4 w1 (.bool b5) (.slice A5 n5 c5) (.bool b6) (.slice A6 n6 c6) 25 25);have Z2:Hid (w1.heap.size+1 < ((w1.alloc (Obj.cells #[.bool b5,.slice A5 n5 c5] 25)).alloc (Obj.cells #[.bool b6,.slice A6 n6 c6] 25)).heap.size):=by
  have:w1.heap.size+1 < ((w1.alloc (Obj.cells #[.bool b5,.slice A5 n5 c5] 25)).alloc (Obj.cells #[.bool b6,.slice A6 n6 c6] 25)).heap.size:=by simp
  exact this
 have IN1:=hid (in1.ext x2);have ID1:=hid (id1.ext x2);have Y2:=hid (y1.trans x2);have HQ1:=hid hq1;have hw1:=y1.size;rw [HWS.out] at hw1;clear in1 id1 hq1 y1 x2;go_upto_region 2 with fail;generalize (w1.alloc (Obj.cells #[.bool b5,.slice A5 n5 c5] 25)).alloc (Obj.cells #[.bool b6,.slice A6 n6 c6] 25)=w2 at *;generalize w1.heap.size=g5 at *;have SS:Hid (∀ W',Ext w2 W'->(Ext w W'/\W'.cell? ⟨g5,0,none⟩=some (.bool b5)/\W'.cell? ⟨g5,1,none⟩=some (.slice A5 n5 c5)/\W'.cell? ⟨g5+1,0,none⟩=some (.bool b6)/\W'.cell? ⟨g5+1,1,none⟩=some (.slice A6 n6 c6))):=by
  intro W' hx;have z2:=Z2.out;have u5:=T56.out.1.ext hx (by omega);have u6:=T56.out.2.ext hx (by omega);exact ⟨HX0.out.trans (Y2.out.trans hx),u5.1,u5.2,u6.1,u6.2⟩
 have SS2:Hid (∀ W'' v0 v1 v2,Ext w2 W''->∀ W',W'=((W''.setCell ⟨w.heap.size+1,0,none⟩ v0).setCell ⟨w.heap.size+1,1,none⟩ v1).setCell ⟨w.heap.size+1,2,none⟩ v2->(Ext w W'/\W'.cell? ⟨g5,0,none⟩=some (.bool b5)/\W'.cell? ⟨g5,1,none⟩=some (.slice A5 n5 c5)/\W'.cell? ⟨g5+1,0,none⟩=some (.bool b6)/\W'.cell? ⟨g5+1,1,none⟩=some (.slice A6 n6 c6))):=by
  intro W'' v0 v1 v2 hx W' hW';obtain ⟨s0,s1,s2,s3,s4⟩:=SS.out W'' hx;have z1:w.heap.size+1 < g5:=by omega
  rw [hW'];refine ⟨((s0.setCell (by simp) _).setCell (by simp) _).setCell (by simp) _,?_,?_,?_,?_⟩ <;> rw [pe _ _ _ _ (by intro e; injection e; omega),pe _ _ _ _ (by intro e; injection e; omega),pe _ _ _ _ (by intro e; injection e; omega)] <;> assumption
 go_region_held3 (fun W' => Ext w W' /\ W'.cell? ⟨g5, 0, none⟩ = some (.bool b5) /\ W'.cell? ⟨g5, 1, none⟩ = some (.slice A5 n5 c5) /\ W'.cell? ⟨g5 + 1, 0, none⟩ = some (.bool b6) /\ W'.cell? ⟨g5 + 1, 1, none⟩ = some (.slice A6 n6 c6))
  (first | exact SS.out _ ((Ext.refl w2).drew) | exact SS.out _ (by assumption) | exact SS2.out _ _ _ _ (by assumption) _ rfl)
  (first
    | (go_at_call 83
       refine (ygd _ n1 L _ (IN1.out.ext ((Ext.refl w2).drew)) (by omega)).mono ?_;rintro e v1 ⟨z1,rfl,m1,x1⟩
       have y1:Ext w2 v1:=Ext.trans ((Ext.refl w2).drew) x1)
    | (go_at_call 113
       refine (gd6 _ _ (-n1) d1 L L _ (m1.raw.mono (by rw [Int.natAbs_neg]; exact IN1.out.len)) (ID1.out.ext y1) hs hs hd1).mono ?_;rintro e v9 ⟨z9,rfl,m9,x9⟩;obtain ⟨bz,Az,nz,cz,Bz,mz,dz,rfl⟩:=m9.unpack;have y9:Ext w2 v9:=Ext.trans y1 x9
       obtain ⟨r0,r1,r2,f0,f1,f2⟩:=HR.out v9 (Y2.out.trans y9)))
 have acb:-q=mkRat (-n1) d1:=by rw [HQ1.out,Rat.neg_mkRat]
 rw [<- acb] at m9;have HF:=hid (ydo (g:=w.heap.size+1) (HX0.out.trans (Y2.out.trans y9)) (by omega) r0 r1 r2 rfl rfl rfl m9);clear SS SS2 HS HR m9 y9 x9 m1 x1 y1 acb;go_wp2_with fail;exact bodyPost_ret (v:=.agg #[.bool bz,.slice Az nz cz,.slice Bz mz dz]) (by simp [results,Tryz.results122,go_sem,r0,r1,r2]) rfl HF.out
theorem ugh (x y:Value) (q1 q2:Rat) (L M:Nat) (w:World) (h:kdp w x q1 L) (k:kdp w y q2 M) (hL:1<=L) (hM:1<=M) (hs:2 * (L+M)+2<=17592186044416) :
 Calls Tryz.prog 91 #[x,y] w fun e w'=>e=.returned (.int .i64 (jei q1 q2))/\Ext w w':=
 (kf5 x y q1 q2 L M w h k hL hM hs).mono fun _ _ ⟨⟨_,_,_,_,hd1,hd2,e1,e2,e⟩,hx⟩=>⟨by rw [e,e1,e2,uet hd1 hd2],hx⟩
end Go.Proofs.YtheefiaoimbeiaaGreatDoor
