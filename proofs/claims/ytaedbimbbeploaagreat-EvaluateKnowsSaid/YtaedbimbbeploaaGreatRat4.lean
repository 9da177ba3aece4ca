/- Layer 5 (rational): integers as fractions, lowest terms, negation. -/
import Derived.Test.YtaedbimbbeploaaGreatRat3
set_option linter.unusedSimpArgs false
set_option linter.unusedVariables false

set_option maxRecDepth 100000
set_option maxHeartbeats 8000000
namespace Go.Proofs.YtaedbimbbeploaaGreat
open Go.RowKit
theorem va2 (x:Value) (z:Int) (L:Nat) (w:World) (h:yg w x z L) (hs:L<=17592186044416):Calls Tryz.prog 53 #[x] w (qj (z:Rat) w):=by
 have H:=Lib.hid h;obtain ⟨neg,v,ds,rfl,⟨A,c,rfl,h1,h2,h3⟩,hz,hl⟩:=h;clear h3 hz;go_enter Tryz.func53,Tryz.ntmps53;go_wp2_with fail;generalize hW:(w.alloc (Obj.cells #[.bool neg,.slice A ds.length c] 26)).alloc (Obj.cells #[.bool false,.slice none 0 0,.slice none 0 0] 34)=W;have HX0:Hid (Ext w W):=by
  have:Ext w W:=by rw [<- hW]; exact ((Ext.refl w).alloc _).alloc _
  exact this
 have HWS:Hid (W.heap.size=w.heap.size+1+1):=by
  have:W.heap.size=w.heap.size+1+1:=by rw [<- hW]; simp
  exact this
 have HS:Hid (∀ W',Ext W W'->(Ext w W'/\W'.cell? ⟨w.heap.size,0,none⟩=some (.bool neg)/\W'.cell? ⟨w.heap.size,1,none⟩=some (.slice A ds.length c))):=by
  intro W' hx;obtain ⟨hc,hf⟩:=hx.cells;have hsz:=HWS.out;refine ⟨HX0.out.trans hx,?_,?_⟩ <;> (rw [hc _ _ (by omega),<- hW]; simp [go_sem])
 have HR:Hid (∀ W',Ext W W'->(W'.cell? ⟨w.heap.size+1,0,none⟩=some (.bool false)/\W'.cell? ⟨w.heap.size+1,1,none⟩=some (.slice none 0 0)/\W'.cell? ⟨w.heap.size+1,2,none⟩=some (.slice none 0 0)/\W'.frozen? ⟨w.heap.size+1,0,none⟩=false/\W'.frozen? ⟨w.heap.size+1,1,none⟩=false/\W'.frozen? ⟨w.heap.size+1,2,none⟩=false)):=by
  intro W' hx;obtain ⟨hc,hf⟩:=hx.cells;have hsz:=HWS.out;refine ⟨?_,?_,?_,?_,?_,?_⟩ <;> first | (rw [hc _ _ (by omega),<- hW]; simp [go_sem]; done) | (rw [hf _ _ (by omega),<- hW]; simp [go_sem]; done)
 clear hW;obtain ⟨e0,b0,b1⟩:=HS.out W (Ext.refl W);refine (yaf _ z L _ (H.out.ext e0) (by omega)).mono ?_;rintro e w1 ⟨xn,rfl,⟨vn,rfl,An,cn,rfl,q1,q2,q3⟩,y1⟩;have Y1:=Lib.hid y1;have Q3:=Lib.hid q3;clear e0 b0 b1 y1 q3;go_wp2_with fail;refine (uan 1 _ (by omega)).mono ?_;rintro e w2 ⟨v2,rfl,⟨A2,c2,rfl,p1,p2,p3⟩,y2⟩;obtain ⟨r0,r1,r2,f0,f1,f2⟩:=HR.out w2 (Y1.out.trans y2);have HF:=Lib.hid (vk (q:=(z:Rat)) (g:=w.heap.size+1) (HX0.out.trans (Y1.out.trans y2)) (by omega) r0 r1 r2 rfl rfl rfl ⟨_,_,rfl,⟨An,cn,rfl,q1,q2,Q3.out.ext y2⟩,⟨A2,c2,rfl,p1,p2,p3⟩⟩);clear y2 p3;go_wp2_with fail;exact bodyPost_ret (v:=.agg #[.bool (decide (z < 0)),.slice An (dg z.natAbs).length cn,.slice A2 (dg 1).length c2]) (by simp [results,Tryz.results53,go_sem,r0,r1,r2]) rfl HF.out
theorem jas (z:Int) (w:World) (h0:-9223372036854775808<=z) (h1:z<=9223372036854775807):Calls Tryz.prog 20 #[.int .i64 z] w (qj (z:Rat) w):=by
 go_enter Tryz.func20,Tryz.ntmps20;go_wp2_with fail;generalize hW:w.alloc (Obj.cells #[.bool false,.slice none 0 0,.slice none 0 0] 34)=W;have HX0:Hid (Ext w W):=by
  have:Ext w W:=by rw [<- hW]; exact (Ext.refl w).alloc _
  exact this
 have HWS:Hid (W.heap.size=w.heap.size+1):=by
  have:W.heap.size=w.heap.size+1:=by rw [<- hW]; simp
  exact this
 have HS:Hid (∀ W',Ext W W'->(Ext w W')):=by
  intro W' hx;obtain ⟨hc,hf⟩:=hx.cells;have hsz:=HWS.out;exact HX0.out.trans hx
 have HR:Hid (∀ W',Ext W W'->(W'.cell? ⟨w.heap.size,0,none⟩=some (.bool false)/\W'.cell? ⟨w.heap.size,1,none⟩=some (.slice none 0 0)/\W'.cell? ⟨w.heap.size,2,none⟩=some (.slice none 0 0)/\W'.frozen? ⟨w.heap.size,0,none⟩=false/\W'.frozen? ⟨w.heap.size,1,none⟩=false/\W'.frozen? ⟨w.heap.size,2,none⟩=false)):=by
  intro W' hx;obtain ⟨hc,hf⟩:=hx.cells;have hsz:=HWS.out;refine ⟨?_,?_,?_,?_,?_,?_⟩ <;> first | (rw [hc _ _ (by omega),<- hW]; simp [go_sem]; done) | (rw [hf _ _ (by omega),<- hW]; simp [go_sem]; done)
 clear hW;refine (of_int z _ h0 h1).mono ?_;rintro e w1 ⟨xn,rfl,nn,y1⟩;have hl:(dg z.natAbs).length<=2:=yh (by (have h6:B32 ^ 2=18446744073709551616:=by decide); omega);have Y1:=Lib.hid y1;have NN:=Lib.hid nn;clear y1 nn;go_wp2_with fail;refine (va2 _ z _ _ NN.out.raw (by omega)).mono ?_;rintro e w2 ⟨x2,rfl,m2,y2⟩;obtain ⟨bz,Az,nz,cz,Bz,mz,dz,rfl⟩:=m2.unpack;obtain ⟨r0,r1,r2,f0,f1,f2⟩:=HR.out w2 (Y1.out.trans y2);have HF:=Lib.hid (vk (g:=w.heap.size) (HX0.out.trans (Y1.out.trans y2)) (by omega) r0 r1 r2 rfl rfl rfl m2);clear y2 m2;go_wp2_with fail;exact bodyPost_ret (v:=.agg #[.bool bz,.slice Az nz cz,.slice Bz mz dz]) (by simp [results,Tryz.results20,go_sem,r0,r1,r2]) rfl HF.out
def xau (p q:Rat):Int:=if p < q then -1 else if q < p then 1 else 0
theorem yb9 {n1 n2:Int} {d1 d2:Nat} (h1:0 < d1) (h2:0 < d2):mkRat n1 d1<=mkRat n2 d2 ↔ n1 * d2<=n2 * d1:=by
 rw [Rat.le_iff_sub_nonneg,Rat.sub_eq_add_neg,Rat.neg_mkRat,Rat.mkRat_add_mkRat _ _ (by omega) (by omega),Int.neg_mul,<- Int.sub_eq_add_neg,<- Rat.divInt_ofNat];rw [Rat.divInt_nonneg_iff_of_pos_right (Int.natCast_pos.2 (Nat.mul_pos h2 h1))];omega
theorem xbg {n1 n2:Int} {d1 d2:Nat} (h1:0 < d1) (h2:0 < d2):mkRat n1 d1 < mkRat n2 d2 ↔ n1 * d2 < n2 * d1:=by
 rw [<- Rat.not_le,yb9 h2 h1];omega
theorem ga5 {n1 n2:Int} {d1 d2:Nat} (h1:0 < d1) (h2:0 < d2):qg (n1 * d2) (n2 * d1)=xau (mkRat n1 d1) (mkRat n2 d2):=by
 unfold qg xau;simp only [xbg h1 h2,xbg h2 h1]
end Go.Proofs.YtaedbimbbeploaaGreat
