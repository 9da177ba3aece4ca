/- Layer 2 (integer): what each function returns. -/
import Derived.Test.YtklnlgnnlmdibaaGreatNatProd2
set_option linter.unusedSimpArgs false
set_option linter.unusedVariables false
set_option maxRecDepth 100000
set_option maxHeartbeats 8000000
namespace Go.Proofs.YtklnlgnnlmdibaaGreat
open Go.RowKit
def sgn (neg:Bool) (n:Nat):Int:=if neg then -(n:Int) else n
theorem zq (neg:Bool) (n:Nat):(sgn neg n).natAbs=n:=by cases neg <;> simp [sgn]
def jk (w:World) (x:Value) (z:Int) (L:Nat):Prop:=∃ neg v ds,x=.agg #[.bool neg,v]/\jc w v ds/\z=sgn neg (val ds)/\ds.length<=L
def yl (w:World) (x:Value) (z:Int):Prop:=∃ v,x=.agg #[.bool (decide (z < 0)),v]/\jc w v (dg z.natAbs)
theorem qaj (z:Int):sgn (decide (z < 0)) z.natAbs=z:=by
 unfold sgn
 by_cases h:z < 0
 · simp [h]; omega
 · simp [h]; omega
theorem yl.raw {w:World} {x:Value} {z:Int} (h:yl w x z):jk w x z (dg z.natAbs).length:=by
 obtain ⟨v,e,hv⟩:=h;exact ⟨_,v,_,e,hv,by rw [zg,qaj],Nat.le_refl _⟩
theorem jk.mono {w:World} {x:Value} {z:Int} {L L':Nat} (h:jk w x z L) (hl:L<=L'):jk w x z L':=by
 obtain ⟨neg,v,ds,e,hv,hz,hl'⟩:=h;exact ⟨neg,v,ds,e,hv,hz,Nat.le_trans hl' hl⟩
theorem jk.ext {w w':World} {x:Value} {z:Int} {L:Nat} (h:jk w x z L) (hx:Ext w w'):jk w' x z L:=by
 obtain ⟨neg,v,ds,e,hv,hz,hl'⟩:=h;exact ⟨neg,v,ds,e,hv.ext hx,hz,hl'⟩
theorem yl.ext {w w':World} {x:Value} {z:Int} (h:yl w x z) (hx:Ext w w'):yl w' x z:=by
 obtain ⟨v,e,hv⟩:=h;exact ⟨v,e,hv.ext hx⟩
theorem jk.len {w:World} {x:Value} {z:Int} {L:Nat} (h:jk w x z L):(dg z.natAbs).length<=L:=by
 obtain ⟨neg,v,ds,e,hv,rfl,hl'⟩:=h;rw [zq];exact Nat.le_trans (ug hv.digs) hl'
def um : Value -> Bool
 | .int .u32 _=>true
 | _=>false
theorem qi.box {w:World} {A:Option Addr} {ds:List Nat} {p:Addr} {u:Value} (h:qi w A ds) (hp:w.cell? p=some u) (hu:um u=false) (v:Value):qi (w.setCell p v) A ds:=
 ⟨h.1,fun hl=>by
   obtain ⟨ad,e,hb,hc⟩:=h.2 hl;refine ⟨ad,e,by simpa [World.setCell] using hb,fun j hj=>?_⟩;rw [World.cell?_setCell_other w p _ v (fun e=>by rw [e,hc j hj] at hp; injection hp with hp; rw [<- hp] at hu; cases hu)]
   exact hc j hj⟩
theorem jc.box {w:World} {x:Value} {ds:List Nat} {p:Addr} {u:Value} (h:jc w x ds) (hp:w.cell? p=some u) (hu:um u=false) (v:Value):jc (w.setCell p v) x ds:=by
 obtain ⟨A,c,e,h1,h2,h3⟩:=h;exact ⟨A,c,e,h1,h2,h3.box hp hu v⟩
theorem yl.box {w:World} {x:Value} {z:Int} {p:Addr} {u:Value} (h:yl w x z) (hp:w.cell? p=some u) (hu:um u=false) (v:Value):yl (w.setCell p v) x z:=by
 obtain ⟨y,e,hy⟩:=h;exact ⟨y,e,hy.box hp hu v⟩
def gad (z:Int) (w:World) (e:Ending) (w':World):Prop:=∃ x,e=.returned x/\yl w' x z/\Ext w w'
theorem zt {w W : World} {g : Nat} {z : Int} {b s u0 u1 : Value} (hx : Ext w W) (hg : w.heap.size <= g) (h0 : W.cell? ⟨g, 0, none⟩ = some u0) (h1 : W.cell? ⟨g, 1, none⟩ = some u1)
 (d0:um u0=false) (d1:um u1=false) (hN:yl W (.agg #[b,s]) z):gad z w (.returned (.agg #[b,s])) ((W.setCell ⟨g,0,none⟩ b).setCell ⟨g,1,none⟩ s):=by
 refine ⟨_,rfl,(hN.box h0 d0 b).box (u:=u1) ?_ d1 s,(hx.setCell (by simpa using hg) _).setCell (by simpa using hg) _⟩;rw [World.cell?_setCell_other _ _ _ _ (by simp),h1]
theorem gaz (neg:Bool) (n:Nat):decide (sgn neg n < 0)=(neg && decide (0 < (dg n).length)):=by
 have h:0 < (dg n).length ↔ 0 < n:=by
  constructor
  · intro h; rcases Nat.eq_zero_or_pos n with e | e
    · subst e; rw [uk] at h; simp at h
    · exact e
  · intro h; exact jag (by omega)
 cases neg
 · simp [sgn]
 · simp only [sgn,if_true,Bool.true_and];rw [Bool.eq_iff_iff,decide_eq_true_eq,decide_eq_true_eq,h]; omega
theorem uah (neg:Bool) (v:Value) (n:Nat) (w:World) (h:jc w v (dg n)):Calls Tryz.prog 104 #[.bool neg,v] w (gad (sgn neg n) w):=by
 obtain ⟨A,c,rfl,h1,h2,h3⟩:=h;have H3:=Lib.hid h3;clear h3;have HS:=Lib.hid (gaz neg n);generalize hE:dg n=E at *;have HE:=Lib.hid hE;clear hE;have HF:Hid (∀ b,b=(neg && decide (0 < E.length))->gad (sgn neg n) w (.returned (.agg #[.bool b,.slice A E.length c])) (w.alloc (Obj.cells #[.bool b,.slice A E.length c] 33))):=by
  intro b hb;refine ⟨_,rfl,⟨.slice A E.length c,?_,A,c,?_,?_,h2,?_⟩,(Ext.refl w).alloc _⟩
  · rw [hb,HS.out]
  · rw [zq,HE.out]
  · rw [zq,HE.out]; exact h1
  · rw [zq,HE.out]; exact H3.out.ext ((Ext.refl w).alloc _)
 cases neg
 · go_enter Tryz.func104,Tryz.ntmps104
   go_wp2
   exact bodyPost_ret (v:=.agg #[.bool false,.slice A E.length c]) (by simp [results,Tryz.results104,go_sem]) rfl (HF.out _ rfl)
 · by_cases hl:0 < E.length
   · have hlb:decide ((E.length:Int) > 0)=true:=by simp; omega
     go_enter Tryz.func104,Tryz.ntmps104
     go_wp2
     exact bodyPost_ret (v:=.agg #[.bool true,.slice A E.length c]) (by simp [results,Tryz.results104,go_sem]) rfl (HF.out _ (by simp [hl]))
   · go_enter Tryz.func104,Tryz.ntmps104
     go_wp2
     exact bodyPost_ret (v:=.agg #[.bool false,.slice A E.length c]) (by simp [results,Tryz.results104,go_sem]) rfl (HF.out _ (by simp [hl]))
theorem waj (neg:Bool) (v:Value) (ds:List Nat) (w:World) (h:jc w v ds) (hs:ds.length<=35184372088832):Calls Tryz.prog 84 #[.bool neg,v] w (gad (sgn neg (val ds)) w):=by
 go_enter Tryz.func84,Tryz.ntmps84;go_wp2_with fail;refine (zaa _ _ _ (h.ext ((Ext.refl w).alloc _)) hs).mono ?_;rintro e w1 ⟨v1,rfl,hv,hx⟩;go_wp2_with fail;refine (uah _ _ _ _ hv).mono ?_;rintro e w2 ⟨x,rfl,⟨v2,rfl,hv2⟩,hx2⟩;obtain ⟨A2,c2,rfl,q1,q2,q3⟩:=hv2;have hx3:=hx.trans hx2;obtain ⟨hc,hf⟩:=hx3.cells;have hz:=hx3.size;have HF:=Lib.hid (zt (g:=w.heap.size) (z:=sgn neg (val ds)) (u0:=.bool false) (u1:=.slice none 0 0) (((Ext.refl w).alloc (Obj.cells #[.bool false,.slice none 0 0] 33)).trans hx3) (Nat.le_refl _) (by rw [hc _ _ (by simp)]; simp [World.cell?_alloc_new]) (by rw [hc _ _ (by simp)]; simp [World.cell?_alloc_new]) rfl rfl ⟨_,rfl,A2,c2,rfl,q1,q2,q3⟩);clear hv hx hx2 hx3 q3;rw [World.size_alloc] at hz;go_wp2_with fail;exact bodyPost_ret (v:=.agg #[.bool (decide (sgn neg (val ds) < 0)),.slice A2 (dg (sgn neg (val ds)).natAbs).length c2]) (by simp [results,Tryz.results84,go_sem,hc]) rfl HF.out
theorem vai (x:Value) (z:Int) (L:Nat) (w:World) (h:jk w x z L) (hs:L<=35184372088832):Calls Tryz.prog 57 #[x] w (gad (z) w):=by
 obtain ⟨neg,v,ds,rfl,⟨A,c,rfl,h1,h2,h3⟩,hz,hl⟩:=h;have hzz:z=sgn (neg) (val ds):=by rw [hz]
 rw [hzz];clear hz hzz;have hx0:Ext w ((w.alloc (Obj.cells #[.bool neg,.slice A ds.length c] 33)).alloc (Obj.cells #[.bool false,.slice none 0 0] 33)):=((Ext.refl w).alloc _).alloc _;have HX0:=Lib.hid hx0;have H3:=Lib.hid h3;clear hx0 h3;go_enter Tryz.func57,Tryz.ntmps57;go_wp2_with fail;refine (waj _ _ _ _ ⟨A,c,rfl,h1,h2,H3.out.ext HX0.out⟩ (by omega)).mono ?_;rintro e w2 ⟨x,rfl,⟨v2,rfl,A2,c2,rfl,q1,q2,q3⟩,hx2⟩;obtain ⟨hc,hf⟩:=hx2.cells;have hz:=hx2.size;have HF:=Lib.hid (zt (g:=w.heap.size+1) (z:=sgn (neg) (val ds)) (u0:=.bool false) (u1:=.slice none 0 0) (HX0.out.trans hx2) (by omega) (by rw [hc _ _ (by simp)]; simp [go_sem]) (by rw [hc _ _ (by simp)]; simp [go_sem]) rfl rfl ⟨_,rfl,A2,c2,rfl,q1,q2,q3⟩);clear hx2 q3;rw [World.size_alloc,World.size_alloc] at hz;go_wp2_with fail;exact bodyPost_ret (v:=.agg #[.bool (decide (sgn (neg) (val ds) < 0)),.slice A2 (dg (sgn (neg) (val ds)).natAbs).length c2]) (by simp [results,Tryz.results57,go_sem,hc]) rfl HF.out
theorem wch (x:Value) (z:Int) (L:Nat) (w:World) (h:jk w x z L) (hs:L<=35184372088832):Calls Tryz.prog 88 #[x] w (gad (-z) w):=by
 obtain ⟨neg,v,ds,rfl,⟨A,c,rfl,h1,h2,h3⟩,hz,hl⟩:=h;have hzz:-z=sgn (!neg) (val ds):=by rw [hz]; cases neg <;> simp [sgn]
 rw [hzz];clear hz hzz;have hx0:Ext w ((w.alloc (Obj.cells #[.bool neg,.slice A ds.length c] 33)).alloc (Obj.cells #[.bool false,.slice none 0 0] 33)):=((Ext.refl w).alloc _).alloc _;have HX0:=Lib.hid hx0;have H3:=Lib.hid h3;clear hx0 h3;go_enter Tryz.func88,Tryz.ntmps88;go_wp2_with fail;refine (waj _ _ _ _ ⟨A,c,rfl,h1,h2,H3.out.ext HX0.out⟩ (by omega)).mono ?_;rintro e w2 ⟨x,rfl,⟨v2,rfl,A2,c2,rfl,q1,q2,q3⟩,hx2⟩;obtain ⟨hc,hf⟩:=hx2.cells;have hz:=hx2.size;have HF:=Lib.hid (zt (g:=w.heap.size+1) (z:=sgn (!neg) (val ds)) (u0:=.bool false) (u1:=.slice none 0 0) (HX0.out.trans hx2) (by omega) (by rw [hc _ _ (by simp)]; simp [go_sem]) (by rw [hc _ _ (by simp)]; simp [go_sem]) rfl rfl ⟨_,rfl,A2,c2,rfl,q1,q2,q3⟩);clear hx2 q3;rw [World.size_alloc,World.size_alloc] at hz;go_wp2_with fail;exact bodyPost_ret (v:=.agg #[.bool (decide (sgn (!neg) (val ds) < 0)),.slice A2 (dg (sgn (!neg) (val ds)).natAbs).length c2]) (by simp [results,Tryz.results88,go_sem,hc]) rfl HF.out
/- Layer 2 (integer): sign, comparison, sums, products. -/
set_option maxRecDepth 100000
set_option maxHeartbeats 8000000
def sgI (z:Int):Int:=zh z 0
theorem kan (x:Value) (z:Int) (L:Nat) (w:World) (h:jk w x z L):Calls Tryz.prog 87 #[x] w fun e w'=>e=.returned (.int .i64 (sgI z))/\Ext w w':=by
 obtain ⟨neg,v,ds,rfl,⟨A,c,rfl,h1,h2,h3⟩,hz,hl⟩:=h;have HX0:Hid (Ext w (w.alloc (Obj.cells #[.bool neg,.slice A ds.length c] 33))):=(Ext.refl w).alloc _;have H3:=Lib.hid h3;have HZ:=Lib.hid hz;clear h3 hz;go_enter Tryz.func87,Tryz.ntmps87;go_wp2_with fail;refine (xau _ _ _ ⟨A,c,rfl,h1,h2,H3.out.ext HX0.out⟩).mono ?_;rintro e w2 ⟨rfl,rfl⟩
 by_cases h0:val ds=0
 · have hb:(val ds == 0)=true:=by simp [h0]
   have H0:=Lib.hid h0;clear h0;go_wp2_with fail;go_ret;exact ⟨jaj (by rw [HZ.out,H0.out]; cases neg <;> rfl),HX0.out⟩
 · have hb:(val ds == 0)=false:=by simp [h0]
   cases neg
   · go_wp2_with fail;go_ret;exact ⟨jaj (by rw [HZ.out]; exact (qak (by simp [sgn]; omega)).symm),HX0.out⟩
   · go_wp2_with fail;go_ret;exact ⟨jaj (by rw [HZ.out]; exact (wac (by simp [sgn]; omega)).symm),HX0.out⟩
theorem of_int (z:Int) (w:World) (h0:-9223372036854775808<=z) (h1:z<=9223372036854775807):Calls Tryz.prog 27 #[.int .i64 z] w (gad z w):=by
 have HX0:Hid (Ext w (w.alloc (Obj.cells #[.bool false,.slice none 0 0] 33))):=(Ext.refl w).alloc _
 by_cases hn:z < 0
 · go_enter Tryz.func27,Tryz.ntmps27;go_wp2_with fail;have e1:IntKind.u64.wrap (-IntKind.u64.wrap z)=((z.natAbs:Nat):Int):=by
    rw [IntKind.wrap_u64,IntKind.wrap_u64]; omega
   rw [e1];refine (wap _ _ (by omega)).mono ?_;rintro e w2 ⟨v,rfl,⟨A2,c2,rfl,q1,q2,q3⟩,hx2⟩;obtain ⟨hc,hf⟩:=hx2.cells;have hz:=hx2.size;have HF:=Lib.hid (zt (g:=w.heap.size) (z:=z) (u0:=.bool false) (u1:=.slice none 0 0) (HX0.out.trans hx2) (by omega) (by rw [hc _ _ (by simp)]; simp [World.cell?_alloc_new]) (by rw [hc _ _ (by simp)]; simp [World.cell?_alloc_new]) rfl rfl ⟨_,by rw [decide_eq_true hn],A2,c2,rfl,q1,q2,q3⟩);clear hx2 q3 e1;rw [World.size_alloc] at hz;go_wp2_with fail;exact bodyPost_ret (v:=.agg #[.bool true,.slice A2 (dg z.natAbs).length c2]) (by simp [results,Tryz.results27,go_sem,hc]) rfl HF.out
 · obtain ⟨n,rfl⟩:=Int.eq_ofNat_of_zero_le (show 0<=z by omega);go_enter Tryz.func27,Tryz.ntmps27;go_wp2_with fail;refine (wap _ _ (by omega)).mono ?_;rintro e w2 ⟨v,rfl,⟨A2,c2,rfl,q1,q2,q3⟩,hx2⟩;obtain ⟨hc,hf⟩:=hx2.cells;have hz:=hx2.size;have HF:=Lib.hid (zt (g:=w.heap.size) (z:=(n:Int)) (b:=.bool false) (u0:=.bool false) (u1:=.slice none 0 0) (HX0.out.trans hx2) (by omega) (by rw [hc _ _ (by simp)]; simp [World.cell?_alloc_new]) (by rw [hc _ _ (by simp)]; simp [World.cell?_alloc_new]) rfl rfl ⟨_,by rw [decide_eq_false (by omega)],A2,c2,rfl,q1,q2,q3⟩);clear hx2 q3;rw [World.size_alloc] at hz;go_wp2_with fail;exact bodyPost_ret (v:=.agg #[.bool false,.slice A2 (dg n).length c2]) (by simp [results,Tryz.results27,go_sem,hc]) rfl HF.out
theorem yci (x y:Value) (a b:Int) (L M:Nat) (w:World) (h:jk w x a L) (k:jk w y b M) (hs:L+M<=35184372088000) :
 Calls Tryz.prog 76 #[x,y] w (gad (a * b) w):=by
 obtain ⟨neg,v,ds,rfl,⟨A,c,rfl,h1,h2,h3⟩,hz,hl⟩:=h;obtain ⟨neg',v',ds',rfl,⟨A',c',rfl,h1',h2',h3'⟩,hz',hl'⟩:=k;have hab:a * b=sgn (!neg == neg') (val ds * val ds'):=by
  rw [hz,hz']; cases neg <;> cases neg' <;> simp [sgn,Int.neg_mul,Int.mul_neg]
 rw [hab];have H3:=Lib.hid h3;have H3':=Lib.hid h3';clear h3 h3' hz hz' hab;go_enter Tryz.func76,Tryz.ntmps76;go_wp2_with fail;generalize hW:((w.alloc (Obj.cells #[.bool neg,.slice A ds.length c] 33)).alloc (Obj.cells #[.bool neg',.slice A' ds'.length c'] 33)).alloc (Obj.cells #[.bool false,.slice none 0 0] 33)=W;have HX0:Hid (Ext w W):=by
  have:Ext w W:=by rw [<- hW]; exact (((Ext.refl w).alloc _).alloc _).alloc _
  exact this
 have HS:Hid (∀ W',Ext W W'->(Ext w W'/\W'.cell? ⟨w.heap.size,0,none⟩=some (.bool neg)/\W'.cell? ⟨w.heap.size,1,none⟩=some (.slice A ds.length c)/\W'.cell? ⟨w.heap.size+1,0,none⟩=some (.bool neg')/\W'.cell? ⟨w.heap.size+1,1,none⟩=some (.slice A' ds'.length c'))):=by
  intro W' hx;obtain ⟨hc,hf⟩:=hx.cells;have hsz:W.heap.size=w.heap.size+1+1+1:=by rw [<- hW]; simp
  refine ⟨HX0.out.trans hx,?_,?_,?_,?_⟩ <;> (rw [hc _ _ (by omega),<- hW]; simp [go_sem])
 have HR:Hid (∀ W',Ext W W'->(W'.cell? ⟨w.heap.size+1+1,0,none⟩=some (.bool false)/\W'.cell? ⟨w.heap.size+1+1,1,none⟩=some (.slice none 0 0)/\W'.frozen? ⟨w.heap.size+1+1,0,none⟩=false/\W'.frozen? ⟨w.heap.size+1+1,1,none⟩=false)):=by
  intro W' hx;obtain ⟨hc,hf⟩:=hx.cells;have hsz:W.heap.size=w.heap.size+1+1+1:=by rw [<- hW]; simp
  refine ⟨?_,?_,?_,?_⟩ <;> first | (rw [hc _ _ (by omega),<- hW]; simp [go_sem]; done) | (rw [hf _ _ (by omega),<- hW]; simp [go_sem]; done)
 have HS2:Hid (∀ W'' u v,Ext W W''->∀ W',W'=(W''.setCell ⟨w.heap.size+1+1,0,none⟩ u).setCell ⟨w.heap.size+1+1,1,none⟩ v->(Ext w W'/\W'.cell? ⟨w.heap.size,0,none⟩=some (.bool neg)/\W'.cell? ⟨w.heap.size,1,none⟩=some (.slice A ds.length c)/\W'.cell? ⟨w.heap.size+1,0,none⟩=some (.bool neg')/\W'.cell? ⟨w.heap.size+1,1,none⟩=some (.slice A' ds'.length c'))):=by
  intro W'' u v hx W' hW';obtain ⟨s1,s2,s3,s4,s5⟩:=HS.out W'' hx;rw [hW'];refine ⟨(s1.setCell (by simp; omega) _).setCell (by simp; omega) _,?_,?_,?_,?_⟩ <;> rw [World.cell?_setCell_other _ _ _ _ (by simp),World.cell?_setCell_other _ _ _ _ (by simp)] <;> assumption
 clear hW
 go_region_held3 (fun W' => Ext w W' /\ W'.cell? ⟨w.heap.size, 0, none⟩ = some (.bool neg) /\ W'.cell? ⟨w.heap.size, 1, none⟩ = some (.slice A ds.length c) /\ W'.cell? ⟨w.heap.size + 1, 0, none⟩ = some (.bool neg') /\ W'.cell? ⟨w.heap.size + 1, 1, none⟩ = some (.slice A' ds'.length c'))
  (first | exact HS.out _ ((Ext.refl W).drew) | exact HS.out _ (by assumption) | exact HS2.out _ _ _ (by assumption) _ rfl)
  (first
    | (go_at_call 105
       have hxx:=(‹Ext w _/\_›).1;refine (zci _ _ ds ds' _ ⟨A,c,rfl,h1,h2,H3.out.ext hxx⟩ ⟨A',c',rfl,h1',h2',H3'.out.ext hxx⟩ (by omega)).mono ?_;rintro e w2 ⟨v2,rfl,nv2,x2⟩
       have y2:Ext W w2:=Ext.trans ((Ext.refl W).drew) x2)
    | (go_at_call 104
       refine (uah _ _ _ _ nv2).mono ?_;rintro e w3 ⟨v3,rfl,⟨v4,rfl,A2,c2,rfl,q1,q2,q3⟩,x3⟩;have y3:Ext W w3:=Ext.trans y2 x3
       obtain ⟨r1,r2,r3,r4⟩:=HR.out w3 y3))
 have HF:=Lib.hid (zt (g:=w.heap.size+1+1) (z:=sgn (!neg == neg') (val ds * val ds')) (u0:=.bool false) (u1:=.slice none 0 0) (HX0.out.trans y3) (by omega) r1 r2 rfl rfl ⟨_,rfl,A2,c2,rfl,q1,q2,q3⟩);clear HS HS2 HR y3 y2 x2 x3 q3 nv2;go_wp2_with fail;exact bodyPost_ret (v:=.agg #[.bool (decide (sgn (!neg == neg') (val ds * val ds') < 0)),.slice A2 (dg (sgn (!neg == neg') (val ds * val ds')).natAbs).length c2]) (by simp [results,Tryz.results76,go_sem,r1,r2]) rfl HF.out
/- Layer 2 (integer): sums, differences, comparison. -/
set_option maxRecDepth 100000
set_option maxHeartbeats 8000000
theorem zbj {a b:Int} (h:zh a 0 < zh b 0):a < b:=by
 rcases Int.lt_trichotomy a 0 with ha | ha | ha
 · rcases Int.lt_trichotomy b 0 with hb | hb | hb
   · rw [wac ha,wac hb] at h; omega
   · omega
   · omega
 · rcases Int.lt_trichotomy b 0 with hb | hb | hb
   · rw [ww ha,wac hb] at h; omega
   · rw [ww ha,ww hb] at h; omega
   · omega
 · have:=(xah b 0).2;rw [qak ha] at h; omega
theorem qbs (x y:Value) (a b:Int) (L M:Nat) (w:World) (h:jk w x a L) (k:jk w y b M) (hs:L+M<=35184372088000) :
 Calls Tryz.prog 101 #[x,y] w (gad (a+b) w):=by
 obtain ⟨neg,v,ds,rfl,⟨A,c,rfl,h1,h2,h3⟩,hz,hl⟩:=h;obtain ⟨neg',v',ds',rfl,⟨A',c',rfl,h1',h2',h3'⟩,hz',hl'⟩:=k;have H3:=Lib.hid h3;have H3':=Lib.hid h3';clear h3 h3'
 by_cases hn:neg=neg'
 · subst hn;have hab:a+b=sgn neg (val ds+val ds'):=by rw [hz,hz']; cases neg <;> simp [sgn] <;> omega
   rw [hab];clear hz hz' hab;have hnb:(neg == neg)=true:=by simp
   go_enter Tryz.func101,Tryz.ntmps101;go_wp2_with fail;generalize hW:((w.alloc (Obj.cells #[.bool neg,.slice A ds.length c] 33)).alloc (Obj.cells #[.bool neg,.slice A' ds'.length c'] 33)).alloc (Obj.cells #[.bool false,.slice none 0 0] 33)=W;have HX0:Hid (Ext w W):=by
    have:Ext w W:=by rw [<- hW]; exact (((Ext.refl w).alloc _).alloc _).alloc _
    exact this
   have HWS:Hid (W.heap.size=w.heap.size+1+1+1):=by
    have:W.heap.size=w.heap.size+1+1+1:=by rw [<- hW]; simp
    exact this
   have HS:Hid (∀ W',Ext W W'->(Ext w W'/\W'.cell? ⟨w.heap.size,0,none⟩=some (.bool neg)/\W'.cell? ⟨w.heap.size,1,none⟩=some (.slice A ds.length c)/\W'.cell? ⟨w.heap.size+1,0,none⟩=some (.bool neg)/\W'.cell? ⟨w.heap.size+1,1,none⟩=some (.slice A' ds'.length c'))):=by
    intro W' hx;obtain ⟨hc,hf⟩:=hx.cells;have hsz:=HWS.out;refine ⟨HX0.out.trans hx,?_,?_,?_,?_⟩ <;> (rw [hc _ _ (by omega),<- hW]; simp [go_sem])
   have HR:Hid (∀ W',Ext W W'->(W'.cell? ⟨w.heap.size+1+1,0,none⟩=some (.bool false)/\W'.cell? ⟨w.heap.size+1+1,1,none⟩=some (.slice none 0 0)/\W'.frozen? ⟨w.heap.size+1+1,0,none⟩=false/\W'.frozen? ⟨w.heap.size+1+1,1,none⟩=false)):=by
    intro W' hx;obtain ⟨hc,hf⟩:=hx.cells;have hsz:=HWS.out;refine ⟨?_,?_,?_,?_⟩ <;> first | (rw [hc _ _ (by omega),<- hW]; simp [go_sem]; done) | (rw [hf _ _ (by omega),<- hW]; simp [go_sem]; done)
   have HS2:Hid (∀ W'' v0 v1,Ext W W''->∀ W',W'=(W''.setCell ⟨w.heap.size+1+1,0,none⟩ v0).setCell ⟨w.heap.size+1+1,1,none⟩ v1->(Ext w W'/\W'.cell? ⟨w.heap.size,0,none⟩=some (.bool neg)/\W'.cell? ⟨w.heap.size,1,none⟩=some (.slice A ds.length c)/\W'.cell? ⟨w.heap.size+1,0,none⟩=some (.bool neg)/\W'.cell? ⟨w.heap.size+1,1,none⟩=some (.slice A' ds'.length c'))):=by
    intro W'' v0 v1 hx W' hW';obtain ⟨s1,c0,c1,c2,c3⟩:=HS.out W'' hx;rw [hW'];refine ⟨(s1.setCell (by simp; try omega) _).setCell (by simp; try omega) _,?_,?_,?_,?_⟩ <;> rw [World.cell?_setCell_other _ _ _ _ (by simp; try omega),World.cell?_setCell_other _ _ _ _ (by simp; try omega)] <;> assumption
   clear hW
   go_region_held3 (fun W' => Ext w W' /\ W'.cell? ⟨w.heap.size, 0, none⟩ = some (.bool neg) /\ W'.cell? ⟨w.heap.size, 1, none⟩ = some (.slice A ds.length c) /\ W'.cell? ⟨w.heap.size + 1, 0, none⟩ = some (.bool neg) /\ W'.cell? ⟨w.heap.size + 1, 1, none⟩ = some (.slice A' ds'.length c'))
    (first | exact HS.out _ ((Ext.refl W).drew) | exact HS.out _ (by assumption) | exact HS2.out _ _ _ (by assumption) _ rfl)
    (first
      | (go_at_call 127
         have hxx:=(‹Ext w _/\_›).1;refine (kay _ _ ds ds' _ ⟨A,c,rfl,h1,h2,H3.out.ext hxx⟩ ⟨A',c',rfl,h1',h2',H3'.out.ext hxx⟩ (by omega)).mono ?_;rintro e w2 ⟨v2,rfl,nv2,x2⟩
         have y2:Ext W w2:=Ext.trans ((Ext.refl W).drew) x2)
      | (go_at_call 104
         refine (uah _ _ _ _ nv2).mono ?_;rintro e w3 ⟨v3,rfl,⟨v4,rfl,A2,c2,rfl,q1,q2,q3⟩,x3⟩;have y3:Ext W w3:=Ext.trans y2 x3
         obtain ⟨r0,r1,f0,f1⟩:=HR.out w3 y3))
   have HF:=Lib.hid (zt (g:=w.heap.size+1+1) (z:=sgn neg (val ds+val ds')) (u0:=.bool false) (u1:=.slice none 0 0) (HX0.out.trans y3) (by omega) r0 r1 rfl rfl ⟨_,rfl,A2,c2,rfl,q1,q2,q3⟩);clear HS HS2 HR y3 y2 x2 x3 q3 nv2;go_wp2_with fail;exact bodyPost_ret (v:=.agg #[.bool (decide (sgn neg (val ds+val ds') < 0)),.slice A2 (dg (sgn neg (val ds+val ds')).natAbs).length c2]) (by simp [results,Tryz.results101,go_sem,r0,r1]) rfl HF.out
 · have hnb:(neg == neg')=false:=by simp [hn]
   go_enter Tryz.func101,Tryz.ntmps101;go_wp2_with fail;generalize hW:((w.alloc (Obj.cells #[.bool neg,.slice A ds.length c] 33)).alloc (Obj.cells #[.bool neg',.slice A' ds'.length c'] 33)).alloc (Obj.cells #[.bool false,.slice none 0 0] 33)=W;have HX0:Hid (Ext w W):=by
    have:Ext w W:=by rw [<- hW]; exact (((Ext.refl w).alloc _).alloc _).alloc _
    exact this
   have HWS:Hid (W.heap.size=w.heap.size+1+1+1):=by
    have:W.heap.size=w.heap.size+1+1+1:=by rw [<- hW]; simp
    exact this
   have HS:Hid (∀ W',Ext W W'->(Ext w W'/\W'.cell? ⟨w.heap.size,0,none⟩=some (.bool neg)/\W'.cell? ⟨w.heap.size,1,none⟩=some (.slice A ds.length c)/\W'.cell? ⟨w.heap.size+1,0,none⟩=some (.bool neg')/\W'.cell? ⟨w.heap.size+1,1,none⟩=some (.slice A' ds'.length c'))):=by
    intro W' hx;obtain ⟨hc,hf⟩:=hx.cells;have hsz:=HWS.out;refine ⟨HX0.out.trans hx,?_,?_,?_,?_⟩ <;> (rw [hc _ _ (by omega),<- hW]; simp [go_sem])
   have HR:Hid (∀ W',Ext W W'->(W'.cell? ⟨w.heap.size+1+1,0,none⟩=some (.bool false)/\W'.cell? ⟨w.heap.size+1+1,1,none⟩=some (.slice none 0 0)/\W'.frozen? ⟨w.heap.size+1+1,0,none⟩=false/\W'.frozen? ⟨w.heap.size+1+1,1,none⟩=false)):=by
    intro W' hx;obtain ⟨hc,hf⟩:=hx.cells;have hsz:=HWS.out;refine ⟨?_,?_,?_,?_⟩ <;> first | (rw [hc _ _ (by omega),<- hW]; simp [go_sem]; done) | (rw [hf _ _ (by omega),<- hW]; simp [go_sem]; done)
   have HS2:Hid (∀ W'' v0 v1,Ext W W''->∀ W',W'=(W''.setCell ⟨w.heap.size+1+1,0,none⟩ v0).setCell ⟨w.heap.size+1+1,1,none⟩ v1->(Ext w W'/\W'.cell? ⟨w.heap.size,0,none⟩=some (.bool neg)/\W'.cell? ⟨w.heap.size,1,none⟩=some (.slice A ds.length c)/\W'.cell? ⟨w.heap.size+1,0,none⟩=some (.bool neg')/\W'.cell? ⟨w.heap.size+1,1,none⟩=some (.slice A' ds'.length c'))):=by
    intro W'' v0 v1 hx W' hW';obtain ⟨s1,c0,c1,c2,c3⟩:=HS.out W'' hx;rw [hW'];refine ⟨(s1.setCell (by simp; try omega) _).setCell (by simp; try omega) _,?_,?_,?_,?_⟩ <;> rw [World.cell?_setCell_other _ _ _ _ (by simp; try omega),World.cell?_setCell_other _ _ _ _ (by simp; try omega)] <;> assumption
   clear hW;obtain ⟨e0,b0,b1,b2,b3⟩:=HS.out W (Ext.refl W);refine (xak _ _ ds ds' _ ⟨A,c,rfl,h1,h2,H3.out.ext e0⟩ ⟨A',c',rfl,h1',h2',H3'.out.ext e0⟩).mono ?_;rintro e w1 ⟨rfl,n1,hw1⟩;have y1:Ext W w1:=by rw [hw1]; exact (Ext.refl W).drewN n1
   clear hw1 e0 b0 b1 b2 b3;obtain ⟨e0,b0,b1,b2,b3⟩:=HS.out w1 y1;have E0:=Lib.hid e0;have Y1:=Lib.hid y1;clear e0 y1;have HN:=Lib.hid hn;have HZ:=Lib.hid hz;have HZ':=Lib.hid hz';clear hn hz hz'
   by_cases hge:val ds'<=val ds
   · have hcm:0<=zh (val ds) (val ds'):=by unfold zh; split <;> (try split) <;> omega
     have hcm2:=(xah (val ds) (val ds')).2;generalize zh (val ds) (val ds')=cm at *;go_wp2_with fail;refine (ga8 _ _ ds ds' _ ⟨A,c,rfl,h1,h2,H3.out.ext E0.out⟩ ⟨A',c',rfl,h1',h2',H3'.out.ext E0.out⟩ (by omega) hge).mono ?_;rintro e w2 ⟨v2,rfl,nv2,-,x2⟩;have y2:=Y1.out.trans x2;obtain ⟨e0',b0',b1',b2',b3'⟩:=HS.out w2 y2;have NV2:=Lib.hid nv2;have Y2:=Lib.hid y2;clear nv2 y2 x2 e0' b0 b1 b2 b3;go_wp2_with fail;refine (uah _ _ _ _ NV2.out).mono ?_;rintro e w3 ⟨v3,rfl,⟨v4,rfl,A2,c2,rfl,q1,q2,q3⟩,x3⟩;have y3:Ext W w3:=Ext.trans Y2.out x3;obtain ⟨r0,r1,f0,f1⟩:=HR.out w3 y3;have HF:=Lib.hid (zt (g:=w.heap.size+1+1) (z:=sgn neg (val ds - val ds')) (u0:=.bool false) (u1:=.slice none 0 0) (HX0.out.trans y3) (by omega) r0 r1 rfl rfl ⟨_,rfl,A2,c2,rfl,q1,q2,q3⟩);have hab:a+b=sgn neg (val ds - val ds'):=by
      have:=HN.out;rw [HZ.out,HZ'.out]; cases neg <;> cases neg' <;> simp_all [sgn] <;> omega
     have HAB:=Lib.hid hab;clear y3 q3 x3 hab;go_wp2_with fail;refine bodyPost_ret (v:=.agg #[.bool (decide (sgn neg (val ds - val ds') < 0)),.slice A2 (dg (sgn neg (val ds - val ds')).natAbs).length c2]) (by simp [results,Tryz.results101,go_sem,r0,r1]) rfl ?_;rw [HAB.out];exact HF.out
   · have hcm:zh (val ds) (val ds') < 0:=by rw [wac (by omega)]; omega
     have hcm2:=(xah (val ds) (val ds')).1;generalize zh (val ds) (val ds')=cm at *;go_wp2_with fail;refine (ga8 _ _ ds' ds _ ⟨A',c',rfl,h1',h2',H3'.out.ext E0.out⟩ ⟨A,c,rfl,h1,h2,H3.out.ext E0.out⟩ (by omega) (by omega)).mono ?_;rintro e w2 ⟨v2,rfl,nv2,-,x2⟩;have y2:=Y1.out.trans x2;obtain ⟨e0',b0',b1',b2',b3'⟩:=HS.out w2 y2;have NV2:=Lib.hid nv2;have Y2:=Lib.hid y2;clear nv2 y2 x2 e0' b0 b1 b2 b3;go_wp2_with fail;refine (uah _ _ _ _ NV2.out).mono ?_;rintro e w3 ⟨v3,rfl,⟨v4,rfl,A2,c2,rfl,q1,q2,q3⟩,x3⟩;have y3:Ext W w3:=Ext.trans Y2.out x3;obtain ⟨r0,r1,f0,f1⟩:=HR.out w3 y3;have HF:=Lib.hid (zt (g:=w.heap.size+1+1) (z:=sgn neg' (val ds' - val ds)) (u0:=.bool false) (u1:=.slice none 0 0) (HX0.out.trans y3) (by omega) r0 r1 rfl rfl ⟨_,rfl,A2,c2,rfl,q1,q2,q3⟩);have hab:a+b=sgn neg' (val ds' - val ds):=by
      have:=HN.out;rw [HZ.out,HZ'.out]; cases neg <;> cases neg' <;> simp_all [sgn] <;> omega
     have HAB:=Lib.hid hab;clear y3 q3 x3 hab;go_wp2_with fail;refine bodyPost_ret (v:=.agg #[.bool (decide (sgn neg' (val ds' - val ds) < 0)),.slice A2 (dg (sgn neg' (val ds' - val ds)).natAbs).length c2]) (by simp [results,Tryz.results101,go_sem,r0,r1]) rfl ?_;rw [HAB.out];exact HF.out
theorem kcj (x y:Value) (a b:Int) (L M:Nat) (w:World) (h:jk w x a L) (k:jk w y b M) :
 Calls Tryz.prog 95 #[x,y] w fun e w'=>e=.returned (.int .i64 (zh a b))/\Ext w w':=by
 obtain ⟨neg,v,ds,rfl,⟨A,c,rfl,h1,h2,h3⟩,hz,hl⟩:=h;obtain ⟨neg',v',ds',rfl,⟨A',c',rfl,h1',h2',h3'⟩,hz',hl'⟩:=k;have H3:=Lib.hid h3;have H3':=Lib.hid h3';have HZ:=Lib.hid hz;have HZ':=Lib.hid hz';clear h3 h3' hz hz';go_enter Tryz.func95,Tryz.ntmps95;go_wp2_with fail;generalize hW:(w.alloc (Obj.cells #[.bool neg,.slice A ds.length c] 33)).alloc (Obj.cells #[.bool neg',.slice A' ds'.length c'] 33)=W;have HX0:Hid (Ext w W):=by
  have:Ext w W:=by rw [<- hW]; exact ((Ext.refl w).alloc _).alloc _
  exact this
 have HWS:Hid (W.heap.size=w.heap.size+1+1):=by
  have:W.heap.size=w.heap.size+1+1:=by rw [<- hW]; simp
  exact this
 have HS:Hid (∀ W',Ext W W'->(Ext w W'/\W'.cell? ⟨w.heap.size,0,none⟩=some (.bool neg)/\W'.cell? ⟨w.heap.size,1,none⟩=some (.slice A ds.length c)/\W'.cell? ⟨w.heap.size+1,0,none⟩=some (.bool neg')/\W'.cell? ⟨w.heap.size+1,1,none⟩=some (.slice A' ds'.length c'))):=by
  intro W' hx;obtain ⟨hc,hf⟩:=hx.cells;have hsz:=HWS.out;refine ⟨HX0.out.trans hx,?_,?_,?_,?_⟩ <;> (rw [hc _ _ (by omega),<- hW]; simp [go_sem])
 clear hW
 go_region_held3 (fun W' => Ext w W' /\ W'.cell? ⟨w.heap.size, 0, none⟩ = some (.bool neg) /\ W'.cell? ⟨w.heap.size, 1, none⟩ = some (.slice A ds.length c) /\ W'.cell? ⟨w.heap.size + 1, 0, none⟩ = some (.bool neg') /\ W'.cell? ⟨w.heap.size + 1, 1, none⟩ = some (.slice A' ds'.length c'))
  (first | exact HS.out _ ((Ext.refl W).drew) | exact HS.out _ (by assumption))
  (first
    | (go_at_call_of 87 (Value.agg #[.bool neg,.slice A ds.length c])
       have hxx:=(‹Ext w _/\_›).1;refine (kan _ a L _ ⟨neg,_,ds,rfl,⟨A,c,rfl,h1,h2,H3.out.ext hxx⟩,HZ.out,hl⟩).mono ?_;rintro e w2 ⟨rfl,x2⟩
       have y2:Ext W w2:=Ext.trans ((Ext.refl W).drew) x2)
    | (go_at_call_of 87 (Value.agg #[.bool neg',.slice A' ds'.length c'])
       have hxx:=(‹Ext w _/\_›).1;refine (kan _ b M _ ⟨neg',_,ds',rfl,⟨A',c',rfl,h1',h2',H3'.out.ext hxx⟩,HZ'.out,hl'⟩).mono ?_;rintro e w3 ⟨rfl,x3⟩
       have y3:Ext W w3:=Ext.trans y2 x3))
 obtain ⟨e0,b0,b1,b2,b3⟩:=HS.out w3 y3;have E0:=Lib.hid e0;have bA:=xah a 0;have bB:=xah b 0;have HSA:Hid (sgI a=zh a 0):=rfl;have HSB:Hid (sgI b=zh b 0):=rfl
 change -1<=sgI a/\sgI a<=1 at bA
 change -1<=sgI b/\sgI b<=1 at bB
 obtain ⟨bA0,bA1⟩:=bA;obtain ⟨bB0,bB1⟩:=bB;clear e0 y2 y3 x2 x3 HS;generalize sgI a=sa at *;generalize sgI b=sb at *;rcases Int.lt_trichotomy sa sb with hlt | heq | hgt
 · go_wp2_with fail;go_ret;exact ⟨jaj (wac (zbj (by rw [<- HSA.out,<- HSB.out]; exact hlt))).symm,E0.out⟩
 · subst heq
   by_cases hneg:sa < 0
   · go_wp2_with fail;refine (xak _ _ ds' ds _ ⟨A',c',rfl,h1',h2',H3'.out.ext E0.out⟩ ⟨A,c,rfl,h1,h2,H3.out.ext E0.out⟩).mono ?_;rintro e w4 ⟨rfl,n4,hw4⟩;have y4:Ext w w4:=by rw [hw4]; exact E0.out.drewN n4
     have Y4:=Lib.hid y4;have hcm:zh (val ds') (val ds)=zh a b:=by
      have ha:a < 0:=by have:=HSA.out; unfold zh at this; split at this <;> (try split at this) <;> omega
      have hb:b < 0:=by have:=HSB.out; unfold zh at this; split at this <;> (try split at this) <;> omega
      have z1:=HZ.out;have z2:=HZ'.out;cases neg <;> cases neg' <;> simp [sgn] at z1 z2 <;> first | omega | (rw [z1,z2]; unfold zh; split <;> (try split) <;> (try split) <;> (try split) <;> omega)
     have HCM:=Lib.hid hcm;clear hw4 y4 hcm;go_wp2_with fail;go_ret;exact ⟨jaj HCM.out,Y4.out⟩
   · go_wp2_with fail;refine (xak _ _ ds ds' _ ⟨A,c,rfl,h1,h2,H3.out.ext E0.out⟩ ⟨A',c',rfl,h1',h2',H3'.out.ext E0.out⟩).mono ?_;rintro e w4 ⟨rfl,n4,hw4⟩;have y4:Ext w w4:=by rw [hw4]; exact E0.out.drewN n4
     have Y4:=Lib.hid y4;have hcm:zh (val ds) (val ds')=zh a b:=by
      have ha:0<=a:=by have:=HSA.out; unfold zh at this; split at this <;> (try split at this) <;> omega
      have hb:0<=b:=by have:=HSB.out; unfold zh at this; split at this <;> (try split at this) <;> omega
      have z1:=HZ.out;have z2:=HZ'.out;have e1:a=val ds:=by cases neg <;> simp [sgn] at z1 <;> omega
      have e2:b=val ds':=by cases neg' <;> simp [sgn] at z2 <;> omega
      rw [e1,e2]
     have HCM:=Lib.hid hcm;clear hw4 y4 hcm;go_wp2_with fail;go_ret;exact ⟨jaj HCM.out,Y4.out⟩
 · go_wp2_with fail;go_ret;exact ⟨jaj (qak (zbj (by rw [<- HSA.out,<- HSB.out]; exact hgt))).symm,E0.out⟩
theorem jk.unpack {w:World} {x:Value} {z:Int} {L:Nat} (h:jk w x z L):∃ b A n c,x=.agg #[.bool b,.slice A n c]:=by
 obtain ⟨neg,v,ds,rfl,⟨A,c,rfl,-⟩,-⟩:=h;exact ⟨neg,A,_,c,rfl⟩
theorem yl.unpack {w:World} {x:Value} {z:Int} (h:yl w x z):∃ b A n c,x=.agg #[.bool b,.slice A n c]:=h.raw.unpack
end Go.Proofs.YtklnlgnnlmdibaaGreat
