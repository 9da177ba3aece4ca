/- Layer 5 (rational): integers as fractions, lowest terms, negation. -/
import Derived.Test.YtcfcjabgkfehlaaGreatMf18
set_option linter.unusedSimpArgs false
set_option linter.unusedVariables false
set_option maxRecDepth 100000
set_option maxHeartbeats 8000000
namespace Go.Proofs.YtcfcjabgkfehlaaGreat
open Go.RowKit
theorem ua6 (x:Value) (z:Int) (L:Nat) (w:World) (h:yh w x z L) (hs:L<=17592186044416):Calls Tryz.prog 129 #[x] w (um (z:Rat) w):=by
 have H:=Lib.hid h;obtain ⟨neg,v,ds,rfl,⟨A,c,rfl,h1,h2,h3⟩,hz,hl⟩:=h;clear h3 hz;go_enter Tryz.func129,Tryz.ntmps129;go_wp2_with fail;generalize hW:(w.alloc (Obj.cells #[.bool neg,.slice A ds.length c] 33)).alloc (Obj.cells #[.bool false,.slice none 0 0,.slice none 0 0] 65)=W;have HX0:Hid (Ext w W):=by
  have:Ext w W:=by rw [<- hW]; exact ((Ext.refl w).alloc _).alloc _
  exact this
 have HWS:Hid (W.heap.size=w.heap.size+1+1):=by
  have:W.heap.size=w.heap.size+1+1:=by rw [<- hW]; simp
  exact this
 have HS:Hid (∀ W',Ext W W'->(Ext w W'/\W'.cell? ⟨w.heap.size,0,none⟩=some (.bool neg)/\W'.cell? ⟨w.heap.size,1,none⟩=some (.slice A ds.length c))):=by
  intro W' hx;obtain ⟨hc,hf⟩:=hx.cells;have hsz:=HWS.out;refine ⟨HX0.out.trans hx,?_,?_⟩ <;> (rw [hc _ _ (by omega),<- hW]; simp [go_sem])
 have HR:Hid (∀ W',Ext W W'->(W'.cell? ⟨w.heap.size+1,0,none⟩=some (.bool false)/\W'.cell? ⟨w.heap.size+1,1,none⟩=some (.slice none 0 0)/\W'.cell? ⟨w.heap.size+1,2,none⟩=some (.slice none 0 0)/\W'.frozen? ⟨w.heap.size+1,0,none⟩=false/\W'.frozen? ⟨w.heap.size+1,1,none⟩=false/\W'.frozen? ⟨w.heap.size+1,2,none⟩=false)):=by
  intro W' hx;obtain ⟨hc,hf⟩:=hx.cells;have hsz:=HWS.out;refine ⟨?_,?_,?_,?_,?_,?_⟩ <;> first | (rw [hc _ _ (by omega),<- hW]; simp [go_sem]; done) | (rw [hf _ _ (by omega),<- hW]; simp [go_sem]; done)
 clear hW;obtain ⟨e0,b0,b1⟩:=HS.out W (Ext.refl W);refine (gak _ z L _ (H.out.ext e0) (by omega)).mono ?_;rintro e w1 ⟨xn,rfl,⟨vn,rfl,An,cn,rfl,q1,q2,q3⟩,y1⟩;have Y1:=Lib.hid y1;have Q3:=Lib.hid q3;clear e0 b0 b1 y1 q3;go_wp2_with fail;refine (jaq 1 _ (by omega)).mono ?_;rintro e w2 ⟨v2,rfl,⟨A2,c2,rfl,p1,p2,p3⟩,y2⟩;obtain ⟨r0,r1,r2,f0,f1,f2⟩:=HR.out w2 (Y1.out.trans y2);have HF:=Lib.hid (zq (q:=(z:Rat)) (g:=w.heap.size+1) (HX0.out.trans (Y1.out.trans y2)) (by omega) r0 r1 r2 rfl rfl rfl ⟨_,_,rfl,⟨An,cn,rfl,q1,q2,Q3.out.ext y2⟩,⟨A2,c2,rfl,p1,p2,p3⟩⟩);clear y2 p3;go_wp2_with fail;exact bodyPost_ret (v:=.agg #[.bool (decide (z < 0)),.slice An (dg z.natAbs).length cn,.slice A2 (dg 1).length c2]) (by simp [results,Tryz.results129,go_sem,r0,r1,r2]) rfl HF.out
theorem jav (z:Int) (w:World) (h0:-9223372036854775808<=z) (h1:z<=9223372036854775807):Calls Tryz.prog 79 #[.int .i64 z] w (um (z:Rat) w):=by
 go_enter Tryz.func79,Tryz.ntmps79;go_wp2_with fail;generalize hW:w.alloc (Obj.cells #[.bool false,.slice none 0 0,.slice none 0 0] 65)=W;have HX0:Hid (Ext w W):=by
  have:Ext w W:=by rw [<- hW]; exact (Ext.refl w).alloc _
  exact this
 have HWS:Hid (W.heap.size=w.heap.size+1):=by
  have:W.heap.size=w.heap.size+1:=by rw [<- hW]; simp
  exact this
 have HS:Hid (∀ W',Ext W W'->(Ext w W')):=by
  intro W' hx;obtain ⟨hc,hf⟩:=hx.cells;have hsz:=HWS.out;exact HX0.out.trans hx
 have HR:Hid (∀ W',Ext W W'->(W'.cell? ⟨w.heap.size,0,none⟩=some (.bool false)/\W'.cell? ⟨w.heap.size,1,none⟩=some (.slice none 0 0)/\W'.cell? ⟨w.heap.size,2,none⟩=some (.slice none 0 0)/\W'.frozen? ⟨w.heap.size,0,none⟩=false/\W'.frozen? ⟨w.heap.size,1,none⟩=false/\W'.frozen? ⟨w.heap.size,2,none⟩=false)):=by
  intro W' hx;obtain ⟨hc,hf⟩:=hx.cells;have hsz:=HWS.out;refine ⟨?_,?_,?_,?_,?_,?_⟩ <;> first | (rw [hc _ _ (by omega),<- hW]; simp [go_sem]; done) | (rw [hf _ _ (by omega),<- hW]; simp [go_sem]; done)
 clear hW;refine (of_int z _ h0 h1).mono ?_;rintro e w1 ⟨xn,rfl,nn,y1⟩;have hl:(dg z.natAbs).length<=2:=qg (by (have h6:B32 ^ 2=18446744073709551616:=by decide); omega);have Y1:=Lib.hid y1;have NN:=Lib.hid nn;clear y1 nn;go_wp2_with fail;refine (ua6 _ z _ _ NN.out.raw (by omega)).mono ?_;rintro e w2 ⟨x2,rfl,m2,y2⟩;obtain ⟨bz,Az,nz,cz,Bz,mz,dz,rfl⟩:=m2.unpack;obtain ⟨r0,r1,r2,f0,f1,f2⟩:=HR.out w2 (Y1.out.trans y2);have HF:=Lib.hid (zq (g:=w.heap.size) (HX0.out.trans (Y1.out.trans y2)) (by omega) r0 r1 r2 rfl rfl rfl m2);clear y2 m2;go_wp2_with fail;exact bodyPost_ret (v:=.agg #[.bool bz,.slice Az nz cz,.slice Bz mz dz]) (by simp [results,Tryz.results79,go_sem,r0,r1,r2]) rfl HF.out
def wa0 (p q:Rat):Int:=if p < q then -1 else if q < p then 1 else 0
theorem gcf {n1 n2:Int} {d1 d2:Nat} (h1:0 < d1) (h2:0 < d2):mkRat n1 d1<=mkRat n2 d2 ↔ n1 * d2<=n2 * d1:=by
 rw [Rat.le_iff_sub_nonneg,Rat.sub_eq_add_neg,Rat.neg_mkRat,Rat.mkRat_add_mkRat _ _ (by omega) (by omega),Int.neg_mul,<- Int.sub_eq_add_neg,<- Rat.divInt_ofNat];rw [Rat.divInt_nonneg_iff_of_pos_right (Int.natCast_pos.2 (Nat.mul_pos h2 h1))];omega
theorem ubk {n1 n2:Int} {d1 d2:Nat} (h1:0 < d1) (h2:0 < d2):mkRat n1 d1 < mkRat n2 d2 ↔ n1 * d2 < n2 * d1:=by
 rw [<- Rat.not_le,gcf h2 h1];omega
theorem zba {n1 n2:Int} {d1 d2:Nat} (h1:0 < d1) (h2:0 < d2):xh (n1 * d2) (n2 * d1)=wa0 (mkRat n1 d1) (mkRat n2 d2):=by
 unfold xh wa0;simp only [ubk h1 h2,ubk h2 h1]
/- Layer 3: rational.Normal, Neg, Cmp. -/
set_option maxRecDepth 100000
set_option maxHeartbeats 8000000
theorem ya8 (x:Value) (q:Rat) (L:Nat) (w:World) (h:qw w x q L) (hL:1<=L) (hs:L<=17592186044416):Calls Tryz.prog 89 #[x] w (um q w):=by
 have H:=Lib.hid h;obtain ⟨neg,s1,s2,ds,es,rfl,⟨A,c,rfl,-,-,-⟩,⟨B,b,rfl,-,-,-⟩,-⟩:=h;go_enter Tryz.func89,Tryz.ntmps89;go_wp2_with fail;generalize hW:(w.alloc (Obj.cells #[.bool neg,.slice A ds.length c,.slice B es.length b] 65)).alloc (Obj.cells #[.bool false,.slice none 0 0,.slice none 0 0] 65)=W;have HX0:Hid (Ext w W):=by
  have:Ext w W:=by rw [<- hW]; exact ((Ext.refl w).alloc _).alloc _
  exact this
 have HWS:Hid (W.heap.size=w.heap.size+1+1):=by
  have:W.heap.size=w.heap.size+1+1:=by rw [<- hW]; simp
  exact this
 have HS:Hid (∀ W',Ext W W'->(Ext w W'/\W'.cell? ⟨w.heap.size,0,none⟩=some (.bool neg)/\W'.cell? ⟨w.heap.size,1,none⟩=some (.slice A ds.length c)/\W'.cell? ⟨w.heap.size,2,none⟩=some (.slice B es.length b))):=by
  intro W' hx;obtain ⟨hc,hf⟩:=hx.cells;have hsz:=HWS.out;refine ⟨HX0.out.trans hx,?_,?_,?_⟩ <;> (rw [hc _ _ (by omega),<- hW]; simp [go_sem])
 have HR:Hid (∀ W',Ext W W'->(W'.cell? ⟨w.heap.size+1,0,none⟩=some (.bool false)/\W'.cell? ⟨w.heap.size+1,1,none⟩=some (.slice none 0 0)/\W'.cell? ⟨w.heap.size+1,2,none⟩=some (.slice none 0 0)/\W'.frozen? ⟨w.heap.size+1,0,none⟩=false/\W'.frozen? ⟨w.heap.size+1,1,none⟩=false/\W'.frozen? ⟨w.heap.size+1,2,none⟩=false)):=by
  intro W' hx;obtain ⟨hc,hf⟩:=hx.cells;have hsz:=HWS.out;refine ⟨?_,?_,?_,?_,?_,?_⟩ <;> first | (rw [hc _ _ (by omega),<- hW]; simp [go_sem]; done) | (rw [hf _ _ (by omega),<- hW]; simp [go_sem]; done)
 clear hW;obtain ⟨e0,b0,b1,b2⟩:=HS.out W (Ext.refl W);refine (qac _ q L _ (H.out.ext e0) hL).mono ?_;rintro e w1 ⟨xn,xd,n1,d1,rfl,in1,id1,hd1,hq1,y1⟩;have Y1:=Lib.hid y1;have IN1:=Lib.hid in1;have ID1:=Lib.hid id1;have HQ:=Lib.hid hq1;clear e0 b0 b1 b2 in1 id1 hq1 y1;go_wp2_with fail;refine (uan _ _ n1 d1 L L _ IN1.out ID1.out hs hs hd1).mono ?_;rw [<- HQ.out];rintro e w2 ⟨x2,rfl,m2,y2⟩;obtain ⟨bz,Az,nz,cz,Bz,mz,dz,rfl⟩:=m2.unpack;obtain ⟨r0,r1,r2,f0,f1,f2⟩:=HR.out w2 (Y1.out.trans y2);have HF:=Lib.hid (zq (g:=w.heap.size+1) (HX0.out.trans (Y1.out.trans y2)) (by omega) r0 r1 r2 rfl rfl rfl m2);clear y2 m2;go_wp2_with fail;exact bodyPost_ret (v:=.agg #[.bool bz,.slice Az nz cz,.slice Bz mz dz]) (by simp [results,Tryz.results89,go_sem,r0,r1,r2]) rfl HF.out
theorem vco (x:Value) (q:Rat) (L:Nat) (w:World) (h:qw w x q L) (hL:1<=L) (hs:L<=17592186044416):Calls Tryz.prog 198 #[x] w (um (-q) w):=by
 have H:=Lib.hid h;obtain ⟨neg,s1,s2,ds,es,rfl,⟨A,c,rfl,-,-,-⟩,⟨B,b,rfl,-,-,-⟩,-⟩:=h;go_enter Tryz.func198,Tryz.ntmps198;go_wp2_with fail;generalize hW:(w.alloc (Obj.cells #[.bool neg,.slice A ds.length c,.slice B es.length b] 65)).alloc (Obj.cells #[.bool false,.slice none 0 0,.slice none 0 0] 65)=W;have HX0:Hid (Ext w W):=by
  have:Ext w W:=by rw [<- hW]; exact ((Ext.refl w).alloc _).alloc _
  exact this
 have HWS:Hid (W.heap.size=w.heap.size+1+1):=by
  have:W.heap.size=w.heap.size+1+1:=by rw [<- hW]; simp
  exact this
 have HS:Hid (∀ W',Ext W W'->(Ext w W'/\W'.cell? ⟨w.heap.size,0,none⟩=some (.bool neg)/\W'.cell? ⟨w.heap.size,1,none⟩=some (.slice A ds.length c)/\W'.cell? ⟨w.heap.size,2,none⟩=some (.slice B es.length b))):=by
  intro W' hx;obtain ⟨hc,hf⟩:=hx.cells;have hsz:=HWS.out;refine ⟨HX0.out.trans hx,?_,?_,?_⟩ <;> (rw [hc _ _ (by omega),<- hW]; simp [go_sem])
 have HR:Hid (∀ W',Ext W W'->(W'.cell? ⟨w.heap.size+1,0,none⟩=some (.bool false)/\W'.cell? ⟨w.heap.size+1,1,none⟩=some (.slice none 0 0)/\W'.cell? ⟨w.heap.size+1,2,none⟩=some (.slice none 0 0)/\W'.frozen? ⟨w.heap.size+1,0,none⟩=false/\W'.frozen? ⟨w.heap.size+1,1,none⟩=false/\W'.frozen? ⟨w.heap.size+1,2,none⟩=false)):=by
  intro W' hx;obtain ⟨hc,hf⟩:=hx.cells;have hsz:=HWS.out;refine ⟨?_,?_,?_,?_,?_,?_⟩ <;> first | (rw [hc _ _ (by omega),<- hW]; simp [go_sem]; done) | (rw [hf _ _ (by omega),<- hW]; simp [go_sem]; done)
 clear hW;obtain ⟨e0,a0,a1,a2⟩:=HS.out W (Ext.refl W);refine (qac _ q L _ (H.out.ext e0) hL).mono ?_;clear e0 a0 a1 a2;rintro e w1 ⟨xn,xd,n1,d1,rfl,in1,id1,hd1,hq1,y1⟩;obtain ⟨b5,A5,n5,c5,rfl⟩:=in1.unpack;obtain ⟨b6,A6,n6,c6,rfl⟩:=id1.unpack;have x2:Ext w1 ((w1.alloc (Obj.cells #[.bool b5,.slice A5 n5 c5] 33)).alloc (Obj.cells #[.bool b6,.slice A6 n6 c6] 33)):=((Ext.refl w1).alloc _).alloc _;have T56:=Lib.hid (vak w1 (.bool b5) (.slice A5 n5 c5) (.bool b6) (.slice A6 n6 c6) 33 33);have Z2:Hid (w1.heap.size+1 < ((w1.alloc (Obj.cells #[.bool b5,.slice A5 n5 c5] 33)).alloc (Obj.cells #[.bool b6,.slice A6 n6 c6] 33)).heap.size):=by
  have:w1.heap.size+1 < ((w1.alloc (Obj.cells #[.bool b5,.slice A5 n5 c5] 33)).alloc (Obj.cells #[.bool b6,.slice A6 n6 c6] 33)).heap.size:=by simp
  exact this
 have IN1:=Lib.hid (in1.ext x2);have ID1:=Lib.hid (id1.ext x2);have Y2:=Lib.hid (y1.trans x2);have HQ1:=Lib.hid hq1;have hw1:=y1.size;rw [HWS.out] at hw1;clear in1 id1 hq1 y1 x2;go_upto_region 2 with fail;generalize (w1.alloc (Obj.cells #[.bool b5,.slice A5 n5 c5] 33)).alloc (Obj.cells #[.bool b6,.slice A6 n6 c6] 33)=w2 at *;generalize w1.heap.size=g5 at *;have SS:Hid (∀ W',Ext w2 W'->(Ext w W'/\W'.cell? ⟨g5,0,none⟩=some (.bool b5)/\W'.cell? ⟨g5,1,none⟩=some (.slice A5 n5 c5)/\W'.cell? ⟨g5+1,0,none⟩=some (.bool b6)/\W'.cell? ⟨g5+1,1,none⟩=some (.slice A6 n6 c6))):=by
  intro W' hx;have z2:=Z2.out;have u5:=T56.out.1.ext hx (by omega);have u6:=T56.out.2.ext hx (by omega);exact ⟨HX0.out.trans (Y2.out.trans hx),u5.1,u5.2,u6.1,u6.2⟩
 have SS2:Hid (∀ W'' v0 v1 v2,Ext w2 W''->∀ W',W'=((W''.setCell ⟨w.heap.size+1,0,none⟩ v0).setCell ⟨w.heap.size+1,1,none⟩ v1).setCell ⟨w.heap.size+1,2,none⟩ v2->(Ext w W'/\W'.cell? ⟨g5,0,none⟩=some (.bool b5)/\W'.cell? ⟨g5,1,none⟩=some (.slice A5 n5 c5)/\W'.cell? ⟨g5+1,0,none⟩=some (.bool b6)/\W'.cell? ⟨g5+1,1,none⟩=some (.slice A6 n6 c6))):=by
  intro W'' v0 v1 v2 hx W' hW';obtain ⟨s0,s1,s2,s3,s4⟩:=SS.out W'' hx;have z1:w.heap.size+1 < g5:=by omega
  rw [hW'];refine ⟨((s0.setCell (by simp) _).setCell (by simp) _).setCell (by simp) _,?_,?_,?_,?_⟩ <;> rw [World.cell?_setCell_other _ _ _ _ (by intro e; injection e; omega),World.cell?_setCell_other _ _ _ _ (by intro e; injection e; omega),World.cell?_setCell_other _ _ _ _ (by intro e; injection e; omega)] <;> assumption
 go_region_held3 (fun W' => Ext w W' /\ W'.cell? ⟨g5, 0, none⟩ = some (.bool b5) /\ W'.cell? ⟨g5, 1, none⟩ = some (.slice A5 n5 c5) /\ W'.cell? ⟨g5 + 1, 0, none⟩ = some (.bool b6) /\ W'.cell? ⟨g5 + 1, 1, none⟩ = some (.slice A6 n6 c6))
  (first | exact SS.out _ ((Ext.refl w2).drew) | exact SS.out _ (by assumption) | exact SS2.out _ _ _ _ (by assumption) _ rfl)
  (first
    | (go_at_call 114
       refine (uco _ n1 L _ (IN1.out.ext ((Ext.refl w2).drew)) (by omega)).mono ?_;rintro e v1 ⟨z1,rfl,m1,x1⟩
       have y1:Ext w2 v1:=Ext.trans ((Ext.refl w2).drew) x1)
    | (go_at_call 135
       refine (uan _ _ (-n1) d1 L L _ (m1.raw.mono (by rw [Int.natAbs_neg]; exact IN1.out.len)) (ID1.out.ext y1) hs hs hd1).mono ?_;rintro e v9 ⟨z9,rfl,m9,x9⟩;obtain ⟨bz,Az,nz,cz,Bz,mz,dz,rfl⟩:=m9.unpack;have y9:Ext w2 v9:=Ext.trans y1 x9
       obtain ⟨r0,r1,r2,f0,f1,f2⟩:=HR.out v9 (Y2.out.trans y9)))
 have hfin:-q=mkRat (-n1) d1:=by rw [HQ1.out,Rat.neg_mkRat]
 rw [<- hfin] at m9;have HF:=Lib.hid (zq (g:=w.heap.size+1) (HX0.out.trans (Y2.out.trans y9)) (by omega) r0 r1 r2 rfl rfl rfl m9);clear SS SS2 HS HR m9 y9 x9 m1 x1 y1 hfin;go_wp2_with fail;exact bodyPost_ret (v:=.agg #[.bool bz,.slice Az nz cz,.slice Bz mz dz]) (by simp [results,Tryz.results198,go_sem,r0,r1,r2]) rfl HF.out
theorem jcr (x y:Value) (q1 q2:Rat) (L M:Nat) (w:World) (h:qw w x q1 L) (k:qw w y q2 M) (hL:1<=L) (hM:1<=M) (hs:2 * (L+M)+2<=17592186044416) :
 Calls Tryz.prog 171 #[x,y] w fun e w'=>e=.returned (.int .i64 (wa0 q1 q2))/\Ext w w':=
 (gci x y q1 q2 L M w h k hL hM hs).mono fun _ _ ⟨⟨_,_,_,_,hd1,hd2,e1,e2,e⟩,hx⟩=>⟨by rw [e,e1,e2,zba hd1 hd2],hx⟩
end Go.Proofs.YtcfcjabgkfehlaaGreat
