/- Layer 2 (integer): what each function returns. -/
import Derived.Test.YtcfcjabgkfehlaaGreatNatProd2
set_option linter.unusedSimpArgs false
set_option linter.unusedVariables false
set_option maxRecDepth 100000
set_option maxHeartbeats 8000000
namespace Go.Proofs.YtcfcjabgkfehlaaGreat
open Go.RowKit
def sgn (neg:Bool) (n:Nat):Int:=if neg then -(n:Int) else n
theorem jr (neg:Bool) (n:Nat):(sgn neg n).natAbs=n:=by cases neg <;> simp [sgn]
def yh (w:World) (x:Value) (z:Int) (L:Nat):Prop:=∃ neg v ds,x=.agg #[.bool neg,v]/\jb w v ds/\z=sgn neg (val ds)/\ds.length<=L
def uab (w:World) (x:Value) (z:Int):Prop:=∃ v,x=.agg #[.bool (decide (z < 0)),v]/\jb w v (dg z.natAbs)
theorem vai (z:Int):sgn (decide (z < 0)) z.natAbs=z:=by
 unfold sgn
 by_cases h:z < 0
 · simp [h]; omega
 · simp [h]; omega
theorem uab.raw {w:World} {x:Value} {z:Int} (h:uab w x z):yh w x z (dg z.natAbs).length:=by
 obtain ⟨v,e,hv⟩:=h;exact ⟨_,v,_,e,hv,by rw [je,vai],Nat.le_refl _⟩
theorem yh.mono {w:World} {x:Value} {z:Int} {L L':Nat} (h:yh w x z L) (hl:L<=L'):yh w x z L':=by
 obtain ⟨neg,v,ds,e,hv,hz,hl'⟩:=h;exact ⟨neg,v,ds,e,hv,hz,Nat.le_trans hl' hl⟩
theorem yh.ext {w w':World} {x:Value} {z:Int} {L:Nat} (h:yh w x z L) (hx:Ext w w'):yh w' x z L:=by
 obtain ⟨neg,v,ds,e,hv,hz,hl'⟩:=h;exact ⟨neg,v,ds,e,hv.ext hx,hz,hl'⟩
theorem uab.ext {w w':World} {x:Value} {z:Int} (h:uab w x z) (hx:Ext w w'):uab w' x z:=by
 obtain ⟨v,e,hv⟩:=h;exact ⟨v,e,hv.ext hx⟩
theorem yh.len {w:World} {x:Value} {z:Int} {L:Nat} (h:yh w x z L):(dg z.natAbs).length<=L:=by
 obtain ⟨neg,v,ds,e,hv,rfl,hl'⟩:=h;rw [jr];exact Nat.le_trans (ve hv.digs) hl'
def ku : Value -> Bool
 | .int .u32 _=>true
 | _=>false
theorem ji.box {w:World} {A:Option Addr} {ds:List Nat} {p:Addr} {u:Value} (h:ji w A ds) (hp:w.cell? p=some u) (hu:ku u=false) (v:Value):ji (w.setCell p v) A ds:=
 ⟨h.1,fun hl=>by
   obtain ⟨ad,e,hb,hc⟩:=h.2 hl;refine ⟨ad,e,by simpa [World.setCell] using hb,fun j hj=>?_⟩;rw [World.cell?_setCell_other w p _ v (fun e=>by rw [e,hc j hj] at hp; injection hp with hp; rw [<- hp] at hu; cases hu)]
   exact hc j hj⟩
theorem jb.box {w:World} {x:Value} {ds:List Nat} {p:Addr} {u:Value} (h:jb w x ds) (hp:w.cell? p=some u) (hu:ku u=false) (v:Value):jb (w.setCell p v) x ds:=by
 obtain ⟨A,c,e,h1,h2,h3⟩:=h;exact ⟨A,c,e,h1,h2,h3.box hp hu v⟩
theorem uab.box {w:World} {x:Value} {z:Int} {p:Addr} {u:Value} (h:uab w x z) (hp:w.cell? p=some u) (hu:ku u=false) (v:Value):uab (w.setCell p v) x z:=by
 obtain ⟨y,e,hy⟩:=h;exact ⟨y,e,hy.box hp hu v⟩
theorem yh.box {w:World} {x:Value} {z:Int} {L:Nat} {p:Addr} {u:Value} (h:yh w x z L) (hp:w.cell? p=some u) (hu:ku u=false) (v:Value):yh (w.setCell p v) x z L:=by
 obtain ⟨neg,y,ds,e,hv,hz,hl'⟩:=h;exact ⟨neg,y,ds,e,hv.box hp hu v,hz,hl'⟩
def xag (z:Int) (w:World) (e:Ending) (w':World):Prop:=∃ x,e=.returned x/\uab w' x z/\Ext w w'
theorem jy {w W : World} {g : Nat} {z : Int} {b s u0 u1 : Value} (hx : Ext w W) (hg : w.heap.size <= g) (h0 : W.cell? ⟨g, 0, none⟩ = some u0) (h1 : W.cell? ⟨g, 1, none⟩ = some u1)
 (d0:ku u0=false) (d1:ku u1=false) (hN:uab W (.agg #[b,s]) z):xag z w (.returned (.agg #[b,s])) ((W.setCell ⟨g,0,none⟩ b).setCell ⟨g,1,none⟩ s):=by
 refine ⟨_,rfl,(hN.box h0 d0 b).box (u:=u1) ?_ d1 s,(hx.setCell (by simpa using hg) _).setCell (by simpa using hg) _⟩;rw [World.cell?_setCell_other _ _ _ _ (by simp),h1]
theorem qa3 (neg:Bool) (n:Nat):decide (sgn neg n < 0)=(neg && decide (0 < (dg n).length)):=by
 have h:0 < (dg n).length ↔ 0 < n:=by
  constructor
  · intro h; rcases Nat.eq_zero_or_pos n with e | e
    · subst e; rw [jk] at h; simp at h
    · exact e
  · intro h; exact yar (by omega)
 cases neg
 · simp [sgn]
 · simp only [sgn,if_true,Bool.true_and];rw [Bool.eq_iff_iff,decide_eq_true_eq,decide_eq_true_eq,h]; omega
theorem jan (neg:Bool) (v:Value) (n:Nat) (w:World) (h:jb w v (dg n)):Calls Tryz.prog 136 #[.bool neg,v] w (xag (sgn neg n) w):=by
 obtain ⟨A,c,rfl,h1,h2,h3⟩:=h;have H3:=Lib.hid h3;clear h3;have HS:=Lib.hid (qa3 neg n);generalize hE:dg n=E at *;have HE:=Lib.hid hE;clear hE;have HF:Hid (∀ b,b=(neg && decide (0 < E.length))->xag (sgn neg n) w (.returned (.agg #[.bool b,.slice A E.length c])) (w.alloc (Obj.cells #[.bool b,.slice A E.length c] 33))):=by
  intro b hb;refine ⟨_,rfl,⟨.slice A E.length c,?_,A,c,?_,?_,h2,?_⟩,(Ext.refl w).alloc _⟩
  · rw [hb,HS.out]
  · rw [jr,HE.out]
  · rw [jr,HE.out]; exact h1
  · rw [jr,HE.out]; exact H3.out.ext ((Ext.refl w).alloc _)
 cases neg
 · go_enter Tryz.func136,Tryz.ntmps136
   go_wp2
   exact bodyPost_ret (v:=.agg #[.bool false,.slice A E.length c]) (by simp [results,Tryz.results136,go_sem]) rfl (HF.out _ rfl)
 · by_cases hl:0 < E.length
   · have hlb:decide ((E.length:Int) > 0)=true:=by simp; omega
     go_enter Tryz.func136,Tryz.ntmps136
     go_wp2
     exact bodyPost_ret (v:=.agg #[.bool true,.slice A E.length c]) (by simp [results,Tryz.results136,go_sem]) rfl (HF.out _ (by simp [hl]))
   · go_enter Tryz.func136,Tryz.ntmps136
     go_wp2
     exact bodyPost_ret (v:=.agg #[.bool false,.slice A E.length c]) (by simp [results,Tryz.results136,go_sem]) rfl (HF.out _ (by simp [hl]))
theorem wai (neg:Bool) (v:Value) (ds:List Nat) (w:World) (h:jb w v ds) (hs:ds.length<=35184372088832):Calls Tryz.prog 90 #[.bool neg,v] w (xag (sgn neg (val ds)) w):=by
 go_enter Tryz.func90,Tryz.ntmps90;go_wp2_with fail;refine (gab _ _ _ (h.ext ((Ext.refl w).alloc _)) hs).mono ?_;rintro e w1 ⟨v1,rfl,hv,hx⟩;go_wp2_with fail;refine (jan _ _ _ _ hv).mono ?_;rintro e w2 ⟨x,rfl,⟨v2,rfl,hv2⟩,hx2⟩;obtain ⟨A2,c2,rfl,q1,q2,q3⟩:=hv2;have hx3:=hx.trans hx2;obtain ⟨hc,hf⟩:=hx3.cells;have hz:=hx3.size;have HF:=Lib.hid (jy (g:=w.heap.size) (z:=sgn neg (val ds)) (u0:=.bool false) (u1:=.slice none 0 0) (((Ext.refl w).alloc (Obj.cells #[.bool false,.slice none 0 0] 33)).trans hx3) (Nat.le_refl _) (by rw [hc _ _ (by simp)]; simp [World.cell?_alloc_new]) (by rw [hc _ _ (by simp)]; simp [World.cell?_alloc_new]) rfl rfl ⟨_,rfl,A2,c2,rfl,q1,q2,q3⟩);clear hv hx hx2 hx3 q3;rw [World.size_alloc] at hz;go_wp2_with fail;exact bodyPost_ret (v:=.agg #[.bool (decide (sgn neg (val ds) < 0)),.slice A2 (dg (sgn neg (val ds)).natAbs).length c2]) (by simp [results,Tryz.results90,go_sem,hc]) rfl HF.out
theorem gak (x:Value) (z:Int) (L:Nat) (w:World) (h:yh w x z L) (hs:L<=35184372088832):Calls Tryz.prog 68 #[x] w (xag (z) w):=by
 obtain ⟨neg,v,ds,rfl,⟨A,c,rfl,h1,h2,h3⟩,hz,hl⟩:=h;have hzz:z=sgn (neg) (val ds):=by rw [hz]
 rw [hzz];clear hz hzz;have hx0:Ext w ((w.alloc (Obj.cells #[.bool neg,.slice A ds.length c] 33)).alloc (Obj.cells #[.bool false,.slice none 0 0] 33)):=((Ext.refl w).alloc _).alloc _;have HX0:=Lib.hid hx0;have H3:=Lib.hid h3;clear hx0 h3;go_enter Tryz.func68,Tryz.ntmps68;go_wp2_with fail;refine (wai _ _ _ _ ⟨A,c,rfl,h1,h2,H3.out.ext HX0.out⟩ (by omega)).mono ?_;rintro e w2 ⟨x,rfl,⟨v2,rfl,A2,c2,rfl,q1,q2,q3⟩,hx2⟩;obtain ⟨hc,hf⟩:=hx2.cells;have hz:=hx2.size;have HF:=Lib.hid (jy (g:=w.heap.size+1) (z:=sgn (neg) (val ds)) (u0:=.bool false) (u1:=.slice none 0 0) (HX0.out.trans hx2) (by omega) (by rw [hc _ _ (by simp)]; simp [go_sem]) (by rw [hc _ _ (by simp)]; simp [go_sem]) rfl rfl ⟨_,rfl,A2,c2,rfl,q1,q2,q3⟩);clear hx2 q3;rw [World.size_alloc,World.size_alloc] at hz;go_wp2_with fail;exact bodyPost_ret (v:=.agg #[.bool (decide (sgn (neg) (val ds) < 0)),.slice A2 (dg (sgn (neg) (val ds)).natAbs).length c2]) (by simp [results,Tryz.results68,go_sem,hc]) rfl HF.out
theorem uco (x:Value) (z:Int) (L:Nat) (w:World) (h:yh w x z L) (hs:L<=35184372088832):Calls Tryz.prog 114 #[x] w (xag (-z) w):=by
 obtain ⟨neg,v,ds,rfl,⟨A,c,rfl,h1,h2,h3⟩,hz,hl⟩:=h;have hzz:-z=sgn (!neg) (val ds):=by rw [hz]; cases neg <;> simp [sgn]
 rw [hzz];clear hz hzz;have hx0:Ext w ((w.alloc (Obj.cells #[.bool neg,.slice A ds.length c] 33)).alloc (Obj.cells #[.bool false,.slice none 0 0] 33)):=((Ext.refl w).alloc _).alloc _;have HX0:=Lib.hid hx0;have H3:=Lib.hid h3;clear hx0 h3;go_enter Tryz.func114,Tryz.ntmps114;go_wp2_with fail;refine (wai _ _ _ _ ⟨A,c,rfl,h1,h2,H3.out.ext HX0.out⟩ (by omega)).mono ?_;rintro e w2 ⟨x,rfl,⟨v2,rfl,A2,c2,rfl,q1,q2,q3⟩,hx2⟩;obtain ⟨hc,hf⟩:=hx2.cells;have hz:=hx2.size;have HF:=Lib.hid (jy (g:=w.heap.size+1) (z:=sgn (!neg) (val ds)) (u0:=.bool false) (u1:=.slice none 0 0) (HX0.out.trans hx2) (by omega) (by rw [hc _ _ (by simp)]; simp [go_sem]) (by rw [hc _ _ (by simp)]; simp [go_sem]) rfl rfl ⟨_,rfl,A2,c2,rfl,q1,q2,q3⟩);clear hx2 q3;rw [World.size_alloc,World.size_alloc] at hz;go_wp2_with fail;exact bodyPost_ret (v:=.agg #[.bool (decide (sgn (!neg) (val ds) < 0)),.slice A2 (dg (sgn (!neg) (val ds)).natAbs).length c2]) (by simp [results,Tryz.results114,go_sem,hc]) rfl HF.out
theorem jcs (x:Value) (z:Int) (L:Nat) (w:World) (h:yh w x z L) (hs:L<=35184372088832):Calls Tryz.prog 231 #[x] w (xag ((z.natAbs:Int)) w):=by
 obtain ⟨neg,v,ds,rfl,⟨A,c,rfl,h1,h2,h3⟩,hz,hl⟩:=h;have hzz:(z.natAbs:Int)=sgn (false) (val ds):=by rw [hz]; rw [jr]; rfl
 rw [hzz];clear hz hzz;have hx0:Ext w ((w.alloc (Obj.cells #[.bool neg,.slice A ds.length c] 33)).alloc (Obj.cells #[.bool false,.slice none 0 0] 33)):=((Ext.refl w).alloc _).alloc _;have HX0:=Lib.hid hx0;have H3:=Lib.hid h3;clear hx0 h3;go_enter Tryz.func231,Tryz.ntmps231;go_wp2_with fail;refine (wai _ _ _ _ ⟨A,c,rfl,h1,h2,H3.out.ext HX0.out⟩ (by omega)).mono ?_;rintro e w2 ⟨x,rfl,⟨v2,rfl,A2,c2,rfl,q1,q2,q3⟩,hx2⟩;obtain ⟨hc,hf⟩:=hx2.cells;have hz:=hx2.size;have HF:=Lib.hid (jy (g:=w.heap.size+1) (z:=sgn (false) (val ds)) (u0:=.bool false) (u1:=.slice none 0 0) (HX0.out.trans hx2) (by omega) (by rw [hc _ _ (by simp)]; simp [go_sem]) (by rw [hc _ _ (by simp)]; simp [go_sem]) rfl rfl ⟨_,rfl,A2,c2,rfl,q1,q2,q3⟩);clear hx2 q3;rw [World.size_alloc,World.size_alloc] at hz;go_wp2_with fail;exact bodyPost_ret (v:=.agg #[.bool (decide (sgn (false) (val ds) < 0)),.slice A2 (dg (sgn (false) (val ds)).natAbs).length c2]) (by simp [results,Tryz.results231,go_sem,hc]) rfl HF.out
/- Layer 2 (integer): sign, comparison, sums, products. -/
set_option maxRecDepth 100000
set_option maxHeartbeats 8000000
def sgI (z:Int):Int:=xh z 0
theorem zam (x:Value) (z:Int) (L:Nat) (w:World) (h:yh w x z L):Calls Tryz.prog 113 #[x] w fun e w'=>e=.returned (.int .i64 (sgI z))/\Ext w w':=by
 obtain ⟨neg,v,ds,rfl,⟨A,c,rfl,h1,h2,h3⟩,hz,hl⟩:=h;have HX0:Hid (Ext w (w.alloc (Obj.cells #[.bool neg,.slice A ds.length c] 33))):=(Ext.refl w).alloc _;have H3:=Lib.hid h3;have HZ:=Lib.hid hz;clear h3 hz;go_enter Tryz.func113,Tryz.ntmps113;go_wp2_with fail;refine (wag _ _ _ ⟨A,c,rfl,h1,h2,H3.out.ext HX0.out⟩).mono ?_;rintro e w2 ⟨rfl,rfl⟩
 by_cases h0:val ds=0
 · have hb:(val ds == 0)=true:=by simp [h0]
   have H0:=Lib.hid h0;clear h0;go_wp2_with fail;go_ret;exact ⟨wao (by rw [HZ.out,H0.out]; cases neg <;> rfl),HX0.out⟩
 · have hb:(val ds == 0)=false:=by simp [h0]
   cases neg
   · go_wp2_with fail;go_ret;exact ⟨wao (by rw [HZ.out]; exact (wam (by simp [sgn]; omega)).symm),HX0.out⟩
   · go_wp2_with fail;go_ret;exact ⟨wao (by rw [HZ.out]; exact (uaf (by simp [sgn]; omega)).symm),HX0.out⟩
theorem of_int (z:Int) (w:World) (h0:-9223372036854775808<=z) (h1:z<=9223372036854775807):Calls Tryz.prog 28 #[.int .i64 z] w (xag z w):=by
 have HX0:Hid (Ext w (w.alloc (Obj.cells #[.bool false,.slice none 0 0] 33))):=(Ext.refl w).alloc _
 by_cases hn:z < 0
 · go_enter Tryz.func28,Tryz.ntmps28;go_wp2_with fail;have e1:IntKind.u64.wrap (-IntKind.u64.wrap z)=((z.natAbs:Nat):Int):=by
    rw [IntKind.wrap_u64,IntKind.wrap_u64]; omega
   rw [e1];refine (jaq _ _ (by omega)).mono ?_;rintro e w2 ⟨v,rfl,⟨A2,c2,rfl,q1,q2,q3⟩,hx2⟩;obtain ⟨hc,hf⟩:=hx2.cells;have hz:=hx2.size;have HF:=Lib.hid (jy (g:=w.heap.size) (z:=z) (u0:=.bool false) (u1:=.slice none 0 0) (HX0.out.trans hx2) (by omega) (by rw [hc _ _ (by simp)]; simp [World.cell?_alloc_new]) (by rw [hc _ _ (by simp)]; simp [World.cell?_alloc_new]) rfl rfl ⟨_,by rw [decide_eq_true hn],A2,c2,rfl,q1,q2,q3⟩);clear hx2 q3 e1;rw [World.size_alloc] at hz;go_wp2_with fail;exact bodyPost_ret (v:=.agg #[.bool true,.slice A2 (dg z.natAbs).length c2]) (by simp [results,Tryz.results28,go_sem,hc]) rfl HF.out
 · obtain ⟨n,rfl⟩:=Int.eq_ofNat_of_zero_le (show 0<=z by omega);go_enter Tryz.func28,Tryz.ntmps28;go_wp2_with fail;refine (jaq _ _ (by omega)).mono ?_;rintro e w2 ⟨v,rfl,⟨A2,c2,rfl,q1,q2,q3⟩,hx2⟩;obtain ⟨hc,hf⟩:=hx2.cells;have hz:=hx2.size;have HF:=Lib.hid (jy (g:=w.heap.size) (z:=(n:Int)) (b:=.bool false) (u0:=.bool false) (u1:=.slice none 0 0) (HX0.out.trans hx2) (by omega) (by rw [hc _ _ (by simp)]; simp [World.cell?_alloc_new]) (by rw [hc _ _ (by simp)]; simp [World.cell?_alloc_new]) rfl rfl ⟨_,by rw [decide_eq_false (by omega)],A2,c2,rfl,q1,q2,q3⟩);clear hx2 q3;rw [World.size_alloc] at hz;go_wp2_with fail;exact bodyPost_ret (v:=.agg #[.bool false,.slice A2 (dg n).length c2]) (by simp [results,Tryz.results28,go_sem,hc]) rfl HF.out
theorem vae (x y:Value) (a b:Int) (L M:Nat) (w:World) (h:yh w x a L) (k:yh w y b M) (hs:L+M<=35184372088000) :
 Calls Tryz.prog 92 #[x,y] w (xag (a * b) w):=by
 obtain ⟨neg,v,ds,rfl,⟨A,c,rfl,h1,h2,h3⟩,hz,hl⟩:=h;obtain ⟨neg',v',ds',rfl,⟨A',c',rfl,h1',h2',h3'⟩,hz',hl'⟩:=k;have hab:a * b=sgn (!neg == neg') (val ds * val ds'):=by
  rw [hz,hz']; cases neg <;> cases neg' <;> simp [sgn,Int.neg_mul,Int.mul_neg]
 rw [hab];have H3:=Lib.hid h3;have H3':=Lib.hid h3';clear h3 h3' hz hz' hab;go_enter Tryz.func92,Tryz.ntmps92;go_wp2_with fail;generalize hW:((w.alloc (Obj.cells #[.bool neg,.slice A ds.length c] 33)).alloc (Obj.cells #[.bool neg',.slice A' ds'.length c'] 33)).alloc (Obj.cells #[.bool false,.slice none 0 0] 33)=W;have HX0:Hid (Ext w W):=by
  have:Ext w W:=by rw [<- hW]; exact (((Ext.refl w).alloc _).alloc _).alloc _
  exact this
 have HS:Hid (∀ W',Ext W W'->(Ext w W'/\W'.cell? ⟨w.heap.size,0,none⟩=some (.bool neg)/\W'.cell? ⟨w.heap.size,1,none⟩=some (.slice A ds.length c)/\W'.cell? ⟨w.heap.size+1,0,none⟩=some (.bool neg')/\W'.cell? ⟨w.heap.size+1,1,none⟩=some (.slice A' ds'.length c'))):=by
  intro W' hx;obtain ⟨hc,hf⟩:=hx.cells;have hsz:W.heap.size=w.heap.size+1+1+1:=by rw [<- hW]; simp
  refine ⟨HX0.out.trans hx,?_,?_,?_,?_⟩ <;> (rw [hc _ _ (by omega),<- hW]; simp [go_sem])
 have HR:Hid (∀ W',Ext W W'->(W'.cell? ⟨w.heap.size+1+1,0,none⟩=some (.bool false)/\W'.cell? ⟨w.heap.size+1+1,1,none⟩=some (.slice none 0 0)/\W'.frozen? ⟨w.heap.size+1+1,0,none⟩=false/\W'.frozen? ⟨w.heap.size+1+1,1,none⟩=false)):=by
  intro W' hx;obtain ⟨hc,hf⟩:=hx.cells;have hsz:W.heap.size=w.heap.size+1+1+1:=by rw [<- hW]; simp
  refine ⟨?_,?_,?_,?_⟩ <;> first | (rw [hc _ _ (by omega),<- hW]; simp [go_sem]; done) | (rw [hf _ _ (by omega),<- hW]; simp [go_sem]; done)
 have HS2:Hid (∀ W'' u v,Ext W W''->∀ W',W'=(W''.setCell ⟨w.heap.size+1+1,0,none⟩ u).setCell ⟨w.heap.size+1+1,1,none⟩ v->(Ext w W'/\W'.cell? ⟨w.heap.size,0,none⟩=some (.bool neg)/\W'.cell? ⟨w.heap.size,1,none⟩=some (.slice A ds.length c)/\W'.cell? ⟨w.heap.size+1,0,none⟩=some (.bool neg')/\W'.cell? ⟨w.heap.size+1,1,none⟩=some (.slice A' ds'.length c'))):=by
  intro W'' u v hx W' hW';obtain ⟨s1,s2,s3,s4,s5⟩:=HS.out W'' hx;rw [hW'];refine ⟨(s1.setCell (by simp; omega) _).setCell (by simp; omega) _,?_,?_,?_,?_⟩ <;> rw [World.cell?_setCell_other _ _ _ _ (by simp),World.cell?_setCell_other _ _ _ _ (by simp)] <;> assumption
 clear hW
 go_region_held3 (fun W' => Ext w W' /\ W'.cell? ⟨w.heap.size, 0, none⟩ = some (.bool neg) /\ W'.cell? ⟨w.heap.size, 1, none⟩ = some (.slice A ds.length c) /\ W'.cell? ⟨w.heap.size + 1, 0, none⟩ = some (.bool neg') /\ W'.cell? ⟨w.heap.size + 1, 1, none⟩ = some (.slice A' ds'.length c'))
  (first | exact HS.out _ ((Ext.refl W).drew) | exact HS.out _ (by assumption) | exact HS2.out _ _ _ (by assumption) _ rfl)
  (first
    | (go_at_call 137
       have hxx:=(‹Ext w _/\_›).1;refine (wco _ _ ds ds' _ ⟨A,c,rfl,h1,h2,H3.out.ext hxx⟩ ⟨A',c',rfl,h1',h2',H3'.out.ext hxx⟩ (by omega)).mono ?_;rintro e w2 ⟨v2,rfl,nv2,x2⟩
       have y2:Ext W w2:=Ext.trans ((Ext.refl W).drew) x2)
    | (go_at_call 136
       refine (jan _ _ _ _ nv2).mono ?_;rintro e w3 ⟨v3,rfl,⟨v4,rfl,A2,c2,rfl,q1,q2,q3⟩,x3⟩;have y3:Ext W w3:=Ext.trans y2 x3
       obtain ⟨r1,r2,r3,r4⟩:=HR.out w3 y3))
 have HF:=Lib.hid (jy (g:=w.heap.size+1+1) (z:=sgn (!neg == neg') (val ds * val ds')) (u0:=.bool false) (u1:=.slice none 0 0) (HX0.out.trans y3) (by omega) r1 r2 rfl rfl ⟨_,rfl,A2,c2,rfl,q1,q2,q3⟩);clear HS HS2 HR y3 y2 x2 x3 q3 nv2;go_wp2_with fail;exact bodyPost_ret (v:=.agg #[.bool (decide (sgn (!neg == neg') (val ds * val ds') < 0)),.slice A2 (dg (sgn (!neg == neg') (val ds * val ds')).natAbs).length c2]) (by simp [results,Tryz.results92,go_sem,r1,r2]) rfl HF.out
end Go.Proofs.YtcfcjabgkfehlaaGreat
