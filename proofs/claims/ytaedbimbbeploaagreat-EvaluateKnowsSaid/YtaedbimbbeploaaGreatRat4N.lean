/- Layer 3: rational.Normal, Neg, Cmp. -/
import Derived.Test.YtaedbimbbeploaaGreatRat4
import Derived.Test.YtaedbimbbeploaaGreatRat3S
set_option linter.unusedSimpArgs false
set_option linter.unusedVariables false

set_option maxRecDepth 100000
set_option maxHeartbeats 8000000
namespace Go.Proofs.YtaedbimbbeploaaGreat
open Go.RowKit
theorem wbr (x:Value) (q:Rat) (L:Nat) (w:World) (h:jo w x q L) (hL:1<=L) (hs:L<=17592186044416):Calls Tryz.prog 34 #[x] w (qj q w):=by
 have H:=Lib.hid h;obtain ⟨neg,s1,s2,ds,es,rfl,⟨A,c,rfl,-,-,-⟩,⟨B,b,rfl,-,-,-⟩,-⟩:=h;go_enter Tryz.func34,Tryz.ntmps34;go_wp2_with fail;generalize hW:(w.alloc (Obj.cells #[.bool neg,.slice A ds.length c,.slice B es.length b] 34)).alloc (Obj.cells #[.bool false,.slice none 0 0,.slice none 0 0] 34)=W;have HX0:Hid (Ext w W):=by
  have:Ext w W:=by rw [<- hW]; exact ((Ext.refl w).alloc _).alloc _
  exact this
 have HWS:Hid (W.heap.size=w.heap.size+1+1):=by
  have:W.heap.size=w.heap.size+1+1:=by rw [<- hW]; simp
  exact this
 have HS:Hid (∀ W',Ext W W'->(Ext w W'/\W'.cell? ⟨w.heap.size,0,none⟩=some (.bool neg)/\W'.cell? ⟨w.heap.size,1,none⟩=some (.slice A ds.length c)/\W'.cell? ⟨w.heap.size,2,none⟩=some (.slice B es.length b))):=by
  intro W' hx;obtain ⟨hc,hf⟩:=hx.cells;have hsz:=HWS.out;refine ⟨HX0.out.trans hx,?_,?_,?_⟩ <;> (rw [hc _ _ (by omega),<- hW]; simp [go_sem])
 have HR:Hid (∀ W',Ext W W'->(W'.cell? ⟨w.heap.size+1,0,none⟩=some (.bool false)/\W'.cell? ⟨w.heap.size+1,1,none⟩=some (.slice none 0 0)/\W'.cell? ⟨w.heap.size+1,2,none⟩=some (.slice none 0 0)/\W'.frozen? ⟨w.heap.size+1,0,none⟩=false/\W'.frozen? ⟨w.heap.size+1,1,none⟩=false/\W'.frozen? ⟨w.heap.size+1,2,none⟩=false)):=by
  intro W' hx;obtain ⟨hc,hf⟩:=hx.cells;have hsz:=HWS.out;refine ⟨?_,?_,?_,?_,?_,?_⟩ <;> first | (rw [hc _ _ (by omega),<- hW]; simp [go_sem]; done) | (rw [hf _ _ (by omega),<- hW]; simp [go_sem]; done)
 clear hW;obtain ⟨e0,b0,b1,b2⟩:=HS.out W (Ext.refl W);refine (zab _ q L _ (H.out.ext e0) hL).mono ?_;rintro e w1 ⟨xn,xd,n1,d1,rfl,in1,id1,hd1,hq1,y1⟩;have Y1:=Lib.hid y1;have IN1:=Lib.hid in1;have ID1:=Lib.hid id1;have HQ:=Lib.hid hq1;clear e0 b0 b1 b2 in1 id1 hq1 y1;go_wp2_with fail;refine (xal _ _ n1 d1 L L _ IN1.out ID1.out hs hs hd1).mono ?_;rw [<- HQ.out];rintro e w2 ⟨x2,rfl,m2,y2⟩;obtain ⟨bz,Az,nz,cz,Bz,mz,dz,rfl⟩:=m2.unpack;obtain ⟨r0,r1,r2,f0,f1,f2⟩:=HR.out w2 (Y1.out.trans y2);have HF:=Lib.hid (vk (g:=w.heap.size+1) (HX0.out.trans (Y1.out.trans y2)) (by omega) r0 r1 r2 rfl rfl rfl m2);clear y2 m2;go_wp2_with fail;exact bodyPost_ret (v:=.agg #[.bool bz,.slice Az nz cz,.slice Bz mz dz]) (by simp [results,Tryz.results34,go_sem,r0,r1,r2]) rfl HF.out
theorem zci (x:Value) (q:Rat) (L:Nat) (w:World) (h:jo w x q L) (hL:1<=L) (hs:L<=17592186044416):Calls Tryz.prog 106 #[x] w (qj (-q) w):=by
 have H:=Lib.hid h;obtain ⟨neg,s1,s2,ds,es,rfl,⟨A,c,rfl,-,-,-⟩,⟨B,b,rfl,-,-,-⟩,-⟩:=h;go_enter Tryz.func106,Tryz.ntmps106;go_wp2_with fail;generalize hW:(w.alloc (Obj.cells #[.bool neg,.slice A ds.length c,.slice B es.length b] 34)).alloc (Obj.cells #[.bool false,.slice none 0 0,.slice none 0 0] 34)=W;have HX0:Hid (Ext w W):=by
  have:Ext w W:=by rw [<- hW]; exact ((Ext.refl w).alloc _).alloc _
  exact this
 have HWS:Hid (W.heap.size=w.heap.size+1+1):=by
  have:W.heap.size=w.heap.size+1+1:=by rw [<- hW]; simp
  exact this
 have HS:Hid (∀ W',Ext W W'->(Ext w W'/\W'.cell? ⟨w.heap.size,0,none⟩=some (.bool neg)/\W'.cell? ⟨w.heap.size,1,none⟩=some (.slice A ds.length c)/\W'.cell? ⟨w.heap.size,2,none⟩=some (.slice B es.length b))):=by
  intro W' hx;obtain ⟨hc,hf⟩:=hx.cells;have hsz:=HWS.out;refine ⟨HX0.out.trans hx,?_,?_,?_⟩ <;> (rw [hc _ _ (by omega),<- hW]; simp [go_sem])
 have HR:Hid (∀ W',Ext W W'->(W'.cell? ⟨w.heap.size+1,0,none⟩=some (.bool false)/\W'.cell? ⟨w.heap.size+1,1,none⟩=some (.slice none 0 0)/\W'.cell? ⟨w.heap.size+1,2,none⟩=some (.slice none 0 0)/\W'.frozen? ⟨w.heap.size+1,0,none⟩=false/\W'.frozen? ⟨w.heap.size+1,1,none⟩=false/\W'.frozen? ⟨w.heap.size+1,2,none⟩=false)):=by
  intro W' hx;obtain ⟨hc,hf⟩:=hx.cells;have hsz:=HWS.out;refine ⟨?_,?_,?_,?_,?_,?_⟩ <;> first | (rw [hc _ _ (by omega),<- hW]; simp [go_sem]; done) | (rw [hf _ _ (by omega),<- hW]; simp [go_sem]; done)
 clear hW;obtain ⟨e0,a0,a1,a2⟩:=HS.out W (Ext.refl W);refine (zab _ q L _ (H.out.ext e0) hL).mono ?_;clear e0 a0 a1 a2;rintro e w1 ⟨xn,xd,n1,d1,rfl,in1,id1,hd1,hq1,y1⟩;obtain ⟨b5,A5,n5,c5,rfl⟩:=in1.unpack;obtain ⟨b6,A6,n6,c6,rfl⟩:=id1.unpack;have x2:Ext w1 ((w1.alloc (Obj.cells #[.bool b5,.slice A5 n5 c5] 26)).alloc (Obj.cells #[.bool b6,.slice A6 n6 c6] 26)):=((Ext.refl w1).alloc _).alloc _;have T56:=Lib.hid (wai w1 (.bool b5) (.slice A5 n5 c5) (.bool b6) (.slice A6 n6 c6) 26 26);have Z2:Hid (w1.heap.size+1 < ((w1.alloc (Obj.cells #[.bool b5,.slice A5 n5 c5] 26)).alloc (Obj.cells #[.bool b6,.slice A6 n6 c6] 26)).heap.size):=by
  have:w1.heap.size+1 < ((w1.alloc (Obj.cells #[.bool b5,.slice A5 n5 c5] 26)).alloc (Obj.cells #[.bool b6,.slice A6 n6 c6] 26)).heap.size:=by simp
  exact this
 have IN1:=Lib.hid (in1.ext x2);have ID1:=Lib.hid (id1.ext x2);have Y2:=Lib.hid (y1.trans x2);have HQ1:=Lib.hid hq1;have hw1:=y1.size;rw [HWS.out] at hw1;clear in1 id1 hq1 y1 x2;go_upto_region 2 with fail;generalize (w1.alloc (Obj.cells #[.bool b5,.slice A5 n5 c5] 26)).alloc (Obj.cells #[.bool b6,.slice A6 n6 c6] 26)=w2 at *;generalize w1.heap.size=g5 at *;have SS:Hid (∀ W',Ext w2 W'->(Ext w W'/\W'.cell? ⟨g5,0,none⟩=some (.bool b5)/\W'.cell? ⟨g5,1,none⟩=some (.slice A5 n5 c5)/\W'.cell? ⟨g5+1,0,none⟩=some (.bool b6)/\W'.cell? ⟨g5+1,1,none⟩=some (.slice A6 n6 c6))):=by
  intro W' hx;have z2:=Z2.out;have u5:=T56.out.1.ext hx (by omega);have u6:=T56.out.2.ext hx (by omega);exact ⟨HX0.out.trans (Y2.out.trans hx),u5.1,u5.2,u6.1,u6.2⟩
 have SS2:Hid (∀ W'' v0 v1 v2,Ext w2 W''->∀ W',W'=((W''.setCell ⟨w.heap.size+1,0,none⟩ v0).setCell ⟨w.heap.size+1,1,none⟩ v1).setCell ⟨w.heap.size+1,2,none⟩ v2->(Ext w W'/\W'.cell? ⟨g5,0,none⟩=some (.bool b5)/\W'.cell? ⟨g5,1,none⟩=some (.slice A5 n5 c5)/\W'.cell? ⟨g5+1,0,none⟩=some (.bool b6)/\W'.cell? ⟨g5+1,1,none⟩=some (.slice A6 n6 c6))):=by
  intro W'' v0 v1 v2 hx W' hW';obtain ⟨s0,s1,s2,s3,s4⟩:=SS.out W'' hx;have z1:w.heap.size+1 < g5:=by omega
  rw [hW'];refine ⟨((s0.setCell (by simp) _).setCell (by simp) _).setCell (by simp) _,?_,?_,?_,?_⟩ <;> rw [World.cell?_setCell_other _ _ _ _ (by intro e; injection e; omega),World.cell?_setCell_other _ _ _ _ (by intro e; injection e; omega),World.cell?_setCell_other _ _ _ _ (by intro e; injection e; omega)] <;> assumption
 go_region_held3 (fun W' => Ext w W' /\ W'.cell? ⟨g5, 0, none⟩ = some (.bool b5) /\ W'.cell? ⟨g5, 1, none⟩ = some (.slice A5 n5 c5) /\ W'.cell? ⟨g5 + 1, 0, none⟩ = some (.bool b6) /\ W'.cell? ⟨g5 + 1, 1, none⟩ = some (.slice A6 n6 c6))
  (first | exact SS.out _ ((Ext.refl w2).drew) | exact SS.out _ (by assumption) | exact SS2.out _ _ _ _ (by assumption) _ rfl)
  (first
    | (go_at_call 131
       refine (yci _ n1 L _ (IN1.out.ext ((Ext.refl w2).drew)) (by omega)).mono ?_;rintro e v1 ⟨z1,rfl,m1,x1⟩
       have y1:Ext w2 v1:=Ext.trans ((Ext.refl w2).drew) x1)
    | (go_at_call 63
       refine (xal _ _ (-n1) d1 L L _ (m1.raw.mono (by rw [Int.natAbs_neg]; exact IN1.out.len)) (ID1.out.ext y1) hs hs hd1).mono ?_;rintro e v9 ⟨z9,rfl,m9,x9⟩;obtain ⟨bz,Az,nz,cz,Bz,mz,dz,rfl⟩:=m9.unpack;have y9:Ext w2 v9:=Ext.trans y1 x9
       obtain ⟨r0,r1,r2,f0,f1,f2⟩:=HR.out v9 (Y2.out.trans y9)))
 have hfin:-q=mkRat (-n1) d1:=by rw [HQ1.out,Rat.neg_mkRat]
 rw [<- hfin] at m9;have HF:=Lib.hid (vk (g:=w.heap.size+1) (HX0.out.trans (Y2.out.trans y9)) (by omega) r0 r1 r2 rfl rfl rfl m9);clear SS SS2 HS HR m9 y9 x9 m1 x1 y1 hfin;go_wp2_with fail;exact bodyPost_ret (v:=.agg #[.bool bz,.slice Az nz cz,.slice Bz mz dz]) (by simp [results,Tryz.results106,go_sem,r0,r1,r2]) rfl HF.out
theorem qck (x y:Value) (q1 q2:Rat) (L M:Nat) (w:World) (h:jo w x q1 L) (k:jo w y q2 M) (hL:1<=L) (hM:1<=M) (hs:2 * (L+M)+2<=17592186044416) :
 Calls Tryz.prog 82 #[x,y] w fun e w'=>e=.returned (.int .i64 (xau q1 q2))/\Ext w w':=
 (gcb x y q1 q2 L M w h k hL hM hs).mono fun _ _ ⟨⟨_,_,_,_,hd1,hd2,e1,e2,e⟩,hx⟩=>⟨by rw [e,e1,e2,ga5 hd1 hd2],hx⟩
end Go.Proofs.YtaedbimbbeploaaGreat
