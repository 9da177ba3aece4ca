/- Layer 2 (integer): what each function returns. -/
import Derived.Test.YtklnlgnnlmdibaaGreatNatProd2
set_option linter.unusedSimpArgs false
set_option linter.unusedVariables false
set_option maxRecDepth 100000
set_option maxHeartbeats 8000000
namespace Go.Proofs.YtklnlgnnlmdibaaGreat
open Lib (hid)
open Go.RowKit
def sgn (neg:Bool) (n:Nat):Int:=if neg then -(n:Int) else n
theorem ku (neg:Bool) (n:Nat):(sgn neg n).natAbs=n:=by cases neg <;> simp [sgn]
def um (w:World) (x:Value) (z:Int) (L:Nat):Prop:=∃ neg v ds,x=.agg #[.bool neg,v]/\jd w v ds/\z=sgn neg (val ds)/\ds.length<=L
def zo (w:World) (x:Value) (z:Int):Prop:=∃ v,x=.agg #[.bool (decide (z < 0)),v]/\jd w v (dg z.natAbs)
theorem zan (z:Int):sgn (decide (z < 0)) z.natAbs=z:=by
 unfold sgn
 by_cases h:z < 0
 · simp [h]; omega
 · simp [h]; omega
theorem zo.raw {w:World} {x:Value} {z:Int} (h:zo w x z):um w x z (dg z.natAbs).length:=by
 obtain ⟨v,e,hv⟩:=h;exact ⟨_,v,_,e,hv,by rw [xg,zan],Nat.le_refl _⟩
theorem um.mono {w:World} {x:Value} {z:Int} {L L':Nat} (h:um w x z L) (hl:L<=L'):um w x z L':=by
 obtain ⟨neg,v,ds,e,hv,hz,nY⟩:=h;exact ⟨neg,v,ds,e,hv,hz,Nat.le_trans nY hl⟩
theorem um.ext {w w':World} {x:Value} {z:Int} {L:Nat} (h:um w x z L) (hx:Ext w w'):um w' x z L:=by
 obtain ⟨neg,v,ds,e,hv,hz,nY⟩:=h;exact ⟨neg,v,ds,e,hv.ext hx,hz,nY⟩
theorem zo.ext {w w':World} {x:Value} {z:Int} (h:zo w x z) (hx:Ext w w'):zo w' x z:=by
 obtain ⟨v,e,hv⟩:=h;exact ⟨v,e,hv.ext hx⟩
theorem um.len {w:World} {x:Value} {z:Int} {L:Nat} (h:um w x z L):(dg z.natAbs).length<=L:=by
 obtain ⟨neg,v,ds,e,hv,rfl,nY⟩:=h;rw [ku];exact Nat.le_trans (jh hv.digs) nY
def jq : Value -> Bool
 | .int .u32 _=>true
 | _=>false
theorem zk.box {w:World} {A:Option Addr} {ds:List Nat} {p:Addr} {u:Value} (h:zk w A ds) (hp:w.cell? p=some u) (hu:jq u=false) (v:Value):zk (w.setCell p v) A ds:=
 ⟨h.1,fun hl=>by
   obtain ⟨ad,e,hb,hc⟩:=h.2 hl;refine ⟨ad,e,by simpa [World.setCell] using hb,fun j hj=>?_⟩;rw [World.cell?_setCell_other w p _ v (fun e=>by rw [e,hc j hj] at hp; injection hp with hp; rw [<- hp] at hu; cases hu)]
   exact hc j hj⟩
theorem jd.box {w:World} {x:Value} {ds:List Nat} {p:Addr} {u:Value} (h:jd w x ds) (hp:w.cell? p=some u) (hu:jq u=false) (v:Value):jd (w.setCell p v) x ds:=by
 obtain ⟨A,c,e,h1,h2,h3⟩:=h;exact ⟨A,c,e,h1,h2,h3.box hp hu v⟩
theorem zo.box {w:World} {x:Value} {z:Int} {p:Addr} {u:Value} (h:zo w x z) (hp:w.cell? p=some u) (hu:jq u=false) (v:Value):zo (w.setCell p v) x z:=by
 obtain ⟨y,e,hy⟩:=h;exact ⟨y,e,hy.box hp hu v⟩
def wag (z:Int) (w:World) (e:Ending) (w':World):Prop:=∃ x,e=.returned x/\zo w' x z/\Ext w w'
theorem jw {w W : World} {g : Nat} {z : Int} {b s u0 u1 : Value} (hx : Ext w W) (hg : w.heap.size <= g) (h0 : W.cell? ⟨g, 0, none⟩ = some u0) (h1 : W.cell? ⟨g, 1, none⟩ = some u1)
 (d0:jq u0=false) (d1:jq u1=false) (hN:zo W (.agg #[b,s]) z):wag z w (.returned (.agg #[b,s])) ((W.setCell ⟨g,0,none⟩ b).setCell ⟨g,1,none⟩ s):=by
 refine ⟨_,rfl,(hN.box h0 d0 b).box (u:=u1) ?_ d1 s,(hx.setCell (by simpa using hg) _).setCell (by simpa using hg) _⟩;rw [World.cell?_setCell_other _ _ _ _ (by simp),h1]
theorem ga6 (neg:Bool) (n:Nat):decide (sgn neg n < 0)=(neg && decide (0 < (dg n).length)):=by
 have h:0 < (dg n).length ↔ 0 < n:=by
  constructor
  · intro h; rcases Nat.eq_zero_or_pos n with e | e
    · subst e; rw [jm] at h; simp at h
    · exact e
  · intro h; exact kaj (by omega)
 cases neg
 · simp [sgn]
 · simp only [sgn,if_true,Bool.true_and];rw [Bool.eq_iff_iff,decide_eq_true_eq,decide_eq_true_eq,h]; omega
theorem jal (neg:Bool) (v:Value) (n:Nat) (w:World) (h:jd w v (dg n)):Calls Tryz.prog 104 #[.bool neg,v] w (wag (sgn neg n) w):=by
 obtain ⟨A,c,rfl,h1,h2,h3⟩:=h;have H3:=hid h3;clear h3;have HS:=hid (ga6 neg n);generalize hE:dg n=E at *;have HE:=hid hE;clear hE;have HF:Hid (∀ b,b=(neg && decide (0 < E.length))->wag (sgn neg n) w (.returned (.agg #[.bool b,.slice A E.length c])) (w.alloc (Obj.cells #[.bool b,.slice A E.length c] 33))):=by
  intro b hb;refine ⟨_,rfl,⟨.slice A E.length c,?_,A,c,?_,?_,h2,?_⟩,(Ext.refl w).alloc _⟩
  · rw [hb,HS.out]
  · rw [ku,HE.out]
  · rw [ku,HE.out]; exact h1
  · rw [ku,HE.out]; exact H3.out.ext ((Ext.refl w).alloc _)
 cases neg
 · go_enter Tryz.func104,Tryz.ntmps104
   go_wp2
   exact bodyPost_ret (v:=.agg #[.bool false,.slice A E.length c]) (by simp [results,Tryz.results104,go_sem]) rfl (HF.out _ rfl)
 · by_cases hl:0 < E.length
   · have rE:decide ((E.length:Int) > 0)=true:=by simp; omega
     go_enter Tryz.func104,Tryz.ntmps104
     go_wp2
     exact bodyPost_ret (v:=.agg #[.bool true,.slice A E.length c]) (by simp [results,Tryz.results104,go_sem]) rfl (HF.out _ (by simp [hl]))
   · go_enter Tryz.func104,Tryz.ntmps104
     go_wp2
     exact bodyPost_ret (v:=.agg #[.bool false,.slice A E.length c]) (by simp [results,Tryz.results104,go_sem]) rfl (HF.out _ (by simp [hl]))
theorem uan (neg:Bool) (v:Value) (ds:List Nat) (w:World) (h:jd w v ds) (hs:ds.length<=35184372088832):Calls Tryz.prog 84 #[.bool neg,v] w (wag (sgn neg (val ds)) w):=by
 go_enter Tryz.func84,Tryz.ntmps84;go_wp2_with fail;refine (vab _ _ _ (h.ext ((Ext.refl w).alloc _)) hs).mono ?_;rintro e w1 ⟨v1,rfl,hv,hx⟩;go_wp2_with fail;refine (jal _ _ _ _ hv).mono ?_;rintro e w2 ⟨x,rfl,⟨v2,rfl,ry⟩,aN⟩;obtain ⟨A2,c2,rfl,q1,q2,q3⟩:=ry;have wV:=hx.trans aN;obtain ⟨hc,hf⟩:=wV.cells;have hz:=wV.size;have HF:=hid (jw (g:=w.heap.size) (z:=sgn neg (val ds)) (u0:=.bool false) (u1:=.slice none 0 0) (((Ext.refl w).alloc (Obj.cells #[.bool false,.slice none 0 0] 33)).trans wV) (Nat.le_refl _) (by rw [hc _ _ (by simp)]; simp [World.cell?_alloc_new]) (by rw [hc _ _ (by simp)]; simp [World.cell?_alloc_new]) rfl rfl ⟨_,rfl,A2,c2,rfl,q1,q2,q3⟩);clear hv hx aN wV q3;rw [World.size_alloc] at hz;go_wp2_with fail;exact bodyPost_ret (v:=.agg #[.bool (decide (sgn neg (val ds) < 0)),.slice A2 (dg (sgn neg (val ds)).natAbs).length c2]) (by simp [results,Tryz.results84,go_sem,hc]) rfl HF.out
theorem xam (x:Value) (z:Int) (L:Nat) (w:World) (h:um w x z L) (hs:L<=35184372088832):Calls Tryz.prog 57 #[x] w (wag (z) w):=by
 obtain ⟨neg,v,ds,rfl,⟨A,c,rfl,h1,h2,h3⟩,hz,hl⟩:=h;have AU:z=sgn (neg) (val ds):=by rw [hz]
 rw [AU];clear hz AU;have aC:Ext w ((w.alloc (Obj.cells #[.bool neg,.slice A ds.length c] 33)).alloc (Obj.cells #[.bool false,.slice none 0 0] 33)):=((Ext.refl w).alloc _).alloc _;have ax:=hid aC;have H3:=hid h3;clear aC h3;go_enter Tryz.func57,Tryz.ntmps57;go_wp2_with fail;refine (uan _ _ _ _ ⟨A,c,rfl,h1,h2,H3.out.ext ax.out⟩ (by omega)).mono ?_;rintro e w2 ⟨x,rfl,⟨v2,rfl,A2,c2,rfl,q1,q2,q3⟩,aN⟩;obtain ⟨hc,hf⟩:=aN.cells;have hz:=aN.size;have HF:=hid (jw (g:=w.heap.size+1) (z:=sgn (neg) (val ds)) (u0:=.bool false) (u1:=.slice none 0 0) (ax.out.trans aN) (by omega) (by rw [hc _ _ (by simp)]; simp [go_sem]) (by rw [hc _ _ (by simp)]; simp [go_sem]) rfl rfl ⟨_,rfl,A2,c2,rfl,q1,q2,q3⟩);clear aN q3;rw [World.size_alloc,World.size_alloc] at hz;go_wp2_with fail;exact bodyPost_ret (v:=.agg #[.bool (decide (sgn (neg) (val ds) < 0)),.slice A2 (dg (sgn (neg) (val ds)).natAbs).length c2]) (by simp [results,Tryz.results57,go_sem,hc]) rfl HF.out
theorem qct (x:Value) (z:Int) (L:Nat) (w:World) (h:um w x z L) (hs:L<=35184372088832):Calls Tryz.prog 88 #[x] w (wag (-z) w):=by
 obtain ⟨neg,v,ds,rfl,⟨A,c,rfl,h1,h2,h3⟩,hz,hl⟩:=h;have AU:-z=sgn (!neg) (val ds):=by rw [hz]; cases neg <;> simp [sgn]
 rw [AU];clear hz AU;have aC:Ext w ((w.alloc (Obj.cells #[.bool neg,.slice A ds.length c] 33)).alloc (Obj.cells #[.bool false,.slice none 0 0] 33)):=((Ext.refl w).alloc _).alloc _;have ax:=hid aC;have H3:=hid h3;clear aC h3;go_enter Tryz.func88,Tryz.ntmps88;go_wp2_with fail;refine (uan _ _ _ _ ⟨A,c,rfl,h1,h2,H3.out.ext ax.out⟩ (by omega)).mono ?_;rintro e w2 ⟨x,rfl,⟨v2,rfl,A2,c2,rfl,q1,q2,q3⟩,aN⟩;obtain ⟨hc,hf⟩:=aN.cells;have hz:=aN.size;have HF:=hid (jw (g:=w.heap.size+1) (z:=sgn (!neg) (val ds)) (u0:=.bool false) (u1:=.slice none 0 0) (ax.out.trans aN) (by omega) (by rw [hc _ _ (by simp)]; simp [go_sem]) (by rw [hc _ _ (by simp)]; simp [go_sem]) rfl rfl ⟨_,rfl,A2,c2,rfl,q1,q2,q3⟩);clear aN q3;rw [World.size_alloc,World.size_alloc] at hz;go_wp2_with fail;exact bodyPost_ret (v:=.agg #[.bool (decide (sgn (!neg) (val ds) < 0)),.slice A2 (dg (sgn (!neg) (val ds)).natAbs).length c2]) (by simp [results,Tryz.results88,go_sem,hc]) rfl HF.out
def sgI (z:Int):Int:=qi z 0
theorem uar (x:Value) (z:Int) (L:Nat) (w:World) (h:um w x z L):Calls Tryz.prog 87 #[x] w fun e w'=>e=.returned (.int .i64 (sgI z))/\Ext w w':=by
 obtain ⟨neg,v,ds,rfl,⟨A,c,rfl,h1,h2,h3⟩,hz,hl⟩:=h;have ax:Hid (Ext w (w.alloc (Obj.cells #[.bool neg,.slice A ds.length c] 33))):=(Ext.refl w).alloc _;have H3:=hid h3;have HZ:=hid hz;clear h3 hz;go_enter Tryz.func87,Tryz.ntmps87;go_wp2_with fail;refine (kaz _ _ _ ⟨A,c,rfl,h1,h2,H3.out.ext ax.out⟩).mono ?_;rintro e w2 ⟨rfl,rfl⟩
 by_cases h0:val ds=0
 · have hb:(val ds == 0)=true:=by simp [h0]
   have H0:=hid h0;clear h0;go_wp2_with fail;go_ret;exact ⟨yan (by rw [HZ.out,H0.out]; cases neg <;> rfl),ax.out⟩
 · have hb:(val ds == 0)=false:=by simp [h0]
   cases neg
   · go_wp2_with fail;go_ret;exact ⟨yan (by rw [HZ.out]; exact (wan (by simp [sgn]; omega)).symm),ax.out⟩
   · go_wp2_with fail;go_ret;exact ⟨yan (by rw [HZ.out]; exact (qaf (by simp [sgn]; omega)).symm),ax.out⟩
theorem of_int (z:Int) (w:World) (h0:-9223372036854775808<=z) (h1:z<=9223372036854775807):Calls Tryz.prog 27 #[.int .i64 z] w (wag z w):=by
 have ax:Hid (Ext w (w.alloc (Obj.cells #[.bool false,.slice none 0 0] 33))):=(Ext.refl w).alloc _
 by_cases hn:z < 0
 · go_enter Tryz.func27,Tryz.ntmps27;go_wp2_with fail;have e1:IntKind.u64.wrap (-IntKind.u64.wrap z)=((z.natAbs:Nat):Int):=by
    rw [IntKind.wrap_u64,IntKind.wrap_u64]; omega
   rw [e1];refine (jau _ _ (by omega)).mono ?_;rintro e w2 ⟨v,rfl,⟨A2,c2,rfl,q1,q2,q3⟩,aN⟩;obtain ⟨hc,hf⟩:=aN.cells;have hz:=aN.size;have HF:=hid (jw (g:=w.heap.size) (z:=z) (u0:=.bool false) (u1:=.slice none 0 0) (ax.out.trans aN) (by omega) (by rw [hc _ _ (by simp)]; simp [World.cell?_alloc_new]) (by rw [hc _ _ (by simp)]; simp [World.cell?_alloc_new]) rfl rfl ⟨_,by rw [decide_eq_true hn],A2,c2,rfl,q1,q2,q3⟩);clear aN q3 e1;rw [World.size_alloc] at hz;go_wp2_with fail;exact bodyPost_ret (v:=.agg #[.bool true,.slice A2 (dg z.natAbs).length c2]) (by simp [results,Tryz.results27,go_sem,hc]) rfl HF.out
 · obtain ⟨n,rfl⟩:=Int.eq_ofNat_of_zero_le (show 0<=z by omega);go_enter Tryz.func27,Tryz.ntmps27;go_wp2_with fail;refine (jau _ _ (by omega)).mono ?_;rintro e w2 ⟨v,rfl,⟨A2,c2,rfl,q1,q2,q3⟩,aN⟩;obtain ⟨hc,hf⟩:=aN.cells;have hz:=aN.size;have HF:=hid (jw (g:=w.heap.size) (z:=(n:Int)) (b:=.bool false) (u0:=.bool false) (u1:=.slice none 0 0) (ax.out.trans aN) (by omega) (by rw [hc _ _ (by simp)]; simp [World.cell?_alloc_new]) (by rw [hc _ _ (by simp)]; simp [World.cell?_alloc_new]) rfl rfl ⟨_,by rw [decide_eq_false (by omega)],A2,c2,rfl,q1,q2,q3⟩);clear aN q3;rw [World.size_alloc] at hz;go_wp2_with fail;exact bodyPost_ret (v:=.agg #[.bool false,.slice A2 (dg n).length c2]) (by simp [results,Tryz.results27,go_sem,hc]) rfl HF.out
theorem vct (x y:Value) (a b:Int) (L M:Nat) (w:World) (h:um w x a L) (k:um w y b M) (hs:L+M<=35184372088000) :
 Calls Tryz.prog 76 #[x,y] w (wag (a * b) w):=by
 obtain ⟨neg,v,ds,rfl,⟨A,c,rfl,h1,h2,h3⟩,hz,hl⟩:=h;obtain ⟨aI,v',ds',rfl,⟨A',c',rfl,jO,mD,kW⟩,lG,nY⟩:=k;have oO:a * b=sgn (!neg == aI) (val ds * val ds'):=by
  rw [hz,lG]; cases neg <;> cases aI <;> simp [sgn,Int.neg_mul,Int.mul_neg]
 rw [oO];have H3:=hid h3;have nM:=hid kW;clear h3 kW hz lG oO;go_enter Tryz.func76,Tryz.ntmps76;go_wp2_with fail;generalize hW:((w.alloc (Obj.cells #[.bool neg,.slice A ds.length c] 33)).alloc (Obj.cells #[.bool aI,.slice A' ds'.length c'] 33)).alloc (Obj.cells #[.bool false,.slice none 0 0] 33)=W;have ax:Hid (Ext w W):=by
  have:Ext w W:=by rw [<- hW]; exact (((Ext.refl w).alloc _).alloc _).alloc _
  exact this
 have HS:Hid (∀ W',Ext W W'->(Ext w W'/\W'.cell? ⟨w.heap.size,0,none⟩=some (.bool neg)/\W'.cell? ⟨w.heap.size,1,none⟩=some (.slice A ds.length c)/\W'.cell? ⟨w.heap.size+1,0,none⟩=some (.bool aI)/\W'.cell? ⟨w.heap.size+1,1,none⟩=some (.slice A' ds'.length c'))):=by
  intro W' hx;obtain ⟨hc,hf⟩:=hx.cells;have hsz:W.heap.size=w.heap.size+1+1+1:=by rw [<- hW]; simp
  refine ⟨ax.out.trans hx,?_,?_,?_,?_⟩ <;> (rw [hc _ _ (by omega),<- hW]; simp [go_sem])
 have HR:Hid (∀ W',Ext W W'->(W'.cell? ⟨w.heap.size+1+1,0,none⟩=some (.bool false)/\W'.cell? ⟨w.heap.size+1+1,1,none⟩=some (.slice none 0 0)/\W'.frozen? ⟨w.heap.size+1+1,0,none⟩=false/\W'.frozen? ⟨w.heap.size+1+1,1,none⟩=false)):=by
  intro W' hx;obtain ⟨hc,hf⟩:=hx.cells;have hsz:W.heap.size=w.heap.size+1+1+1:=by rw [<- hW]; simp
  refine ⟨?_,?_,?_,?_⟩ <;> first | (rw [hc _ _ (by omega),<- hW]; simp [go_sem]; done) | (rw [hf _ _ (by omega),<- hW]; simp [go_sem]; done)
 have bK:Hid (∀ W'' u v,Ext W W''->∀ W',W'=(W''.setCell ⟨w.heap.size+1+1,0,none⟩ u).setCell ⟨w.heap.size+1+1,1,none⟩ v->(Ext w W'/\W'.cell? ⟨w.heap.size,0,none⟩=some (.bool neg)/\W'.cell? ⟨w.heap.size,1,none⟩=some (.slice A ds.length c)/\W'.cell? ⟨w.heap.size+1,0,none⟩=some (.bool aI)/\W'.cell? ⟨w.heap.size+1,1,none⟩=some (.slice A' ds'.length c'))):=by
  intro W'' u v hx W' bJ;obtain ⟨s1,s2,s3,s4,s5⟩:=HS.out W'' hx;rw [bJ];refine ⟨(s1.setCell (by simp; omega) _).setCell (by simp; omega) _,?_,?_,?_,?_⟩ <;> rw [World.cell?_setCell_other _ _ _ _ (by simp),World.cell?_setCell_other _ _ _ _ (by simp)] <;> assumption
 clear hW
 go_region_held3 (fun W' => Ext w W' /\ W'.cell? ⟨w.heap.size, 0, none⟩ = some (.bool neg) /\ W'.cell? ⟨w.heap.size, 1, none⟩ = some (.slice A ds.length c) /\ W'.cell? ⟨w.heap.size + 1, 0, none⟩ = some (.bool aI) /\ W'.cell? ⟨w.heap.size + 1, 1, none⟩ = some (.slice A' ds'.length c'))
  (first | exact HS.out _ ((Ext.refl W).drew) | exact HS.out _ (by assumption) | exact bK.out _ _ _ (by assumption) _ rfl)
  (first
    | (go_at_call 105
       have bW:=(‹Ext w _/\_›).1;refine (kct _ _ ds ds' _ ⟨A,c,rfl,h1,h2,H3.out.ext bW⟩ ⟨A',c',rfl,jO,mD,nM.out.ext bW⟩ (by omega)).mono ?_;rintro e w2 ⟨v2,rfl,wS,x2⟩
       have y2:Ext W w2:=Ext.trans ((Ext.refl W).drew) x2)
    | (go_at_call 104
       refine (jal _ _ _ _ wS).mono ?_;rintro e w3 ⟨v3,rfl,⟨v4,rfl,A2,c2,rfl,q1,q2,q3⟩,x3⟩;have y3:Ext W w3:=Ext.trans y2 x3
       obtain ⟨r1,r2,r3,r4⟩:=HR.out w3 y3))
 have HF:=hid (jw (g:=w.heap.size+1+1) (z:=sgn (!neg == aI) (val ds * val ds')) (u0:=.bool false) (u1:=.slice none 0 0) (ax.out.trans y3) (by omega) r1 r2 rfl rfl ⟨_,rfl,A2,c2,rfl,q1,q2,q3⟩);clear HS bK HR y3 y2 x2 x3 q3 wS;go_wp2_with fail;exact bodyPost_ret (v:=.agg #[.bool (decide (sgn (!neg == aI) (val ds * val ds') < 0)),.slice A2 (dg (sgn (!neg == aI) (val ds * val ds')).natAbs).length c2]) (by simp [results,Tryz.results76,go_sem,r1,r2]) rfl HF.out
theorem vbq {a b:Int} (h:qi a 0 < qi b 0):a < b:=by
 rcases Int.lt_trichotomy a 0 with ha | ha | ha
 · rcases Int.lt_trichotomy b 0 with hb | hb | hb
   · rw [qaf ha,qaf hb] at h; omega
   · omega
   · omega
 · rcases Int.lt_trichotomy b 0 with hb | hb | hb
   · rw [uz ha,qaf hb] at h; omega
   · rw [uz ha,uz hb] at h; omega
   · omega
 · have:=(wak b 0).2;rw [wan ha] at h; omega
theorem yb0 (x y:Value) (a b:Int) (L M:Nat) (w:World) (h:um w x a L) (k:um w y b M) (hs:L+M<=35184372088000) :
 Calls Tryz.prog 101 #[x,y] w (wag (a+b) w):=by
 obtain ⟨neg,v,ds,rfl,⟨A,c,rfl,h1,h2,h3⟩,hz,hl⟩:=h;obtain ⟨aI,v',ds',rfl,⟨A',c',rfl,jO,mD,kW⟩,lG,nY⟩:=k;have H3:=hid h3;have nM:=hid kW;clear h3 kW
 by_cases hn:neg=aI
 · subst hn;have oO:a+b=sgn neg (val ds+val ds'):=by rw [hz,lG]; cases neg <;> simp [sgn] <;> omega
   rw [oO];clear hz lG oO;have CW:(neg == neg)=true:=by simp
   go_enter Tryz.func101,Tryz.ntmps101;go_wp2_with fail;generalize hW:((w.alloc (Obj.cells #[.bool neg,.slice A ds.length c] 33)).alloc (Obj.cells #[.bool neg,.slice A' ds'.length c'] 33)).alloc (Obj.cells #[.bool false,.slice none 0 0] 33)=W;have ax:Hid (Ext w W):=by
    have:Ext w W:=by rw [<- hW]; exact (((Ext.refl w).alloc _).alloc _).alloc _
    exact this
   have qG:Hid (W.heap.size=w.heap.size+1+1+1):=by
    have:W.heap.size=w.heap.size+1+1+1:=by rw [<- hW]; simp
    exact this
   have HS:Hid (∀ W',Ext W W'->(Ext w W'/\W'.cell? ⟨w.heap.size,0,none⟩=some (.bool neg)/\W'.cell? ⟨w.heap.size,1,none⟩=some (.slice A ds.length c)/\W'.cell? ⟨w.heap.size+1,0,none⟩=some (.bool neg)/\W'.cell? ⟨w.heap.size+1,1,none⟩=some (.slice A' ds'.length c'))):=by
    intro W' hx;obtain ⟨hc,hf⟩:=hx.cells;have hsz:=qG.out;refine ⟨ax.out.trans hx,?_,?_,?_,?_⟩ <;> (rw [hc _ _ (by omega),<- hW]; simp [go_sem])
   have HR:Hid (∀ W',Ext W W'->(W'.cell? ⟨w.heap.size+1+1,0,none⟩=some (.bool false)/\W'.cell? ⟨w.heap.size+1+1,1,none⟩=some (.slice none 0 0)/\W'.frozen? ⟨w.heap.size+1+1,0,none⟩=false/\W'.frozen? ⟨w.heap.size+1+1,1,none⟩=false)):=by
    intro W' hx;obtain ⟨hc,hf⟩:=hx.cells;have hsz:=qG.out;refine ⟨?_,?_,?_,?_⟩ <;> first | (rw [hc _ _ (by omega),<- hW]; simp [go_sem]; done) | (rw [hf _ _ (by omega),<- hW]; simp [go_sem]; done)
   have bK:Hid (∀ W'' v0 v1,Ext W W''->∀ W',W'=(W''.setCell ⟨w.heap.size+1+1,0,none⟩ v0).setCell ⟨w.heap.size+1+1,1,none⟩ v1->(Ext w W'/\W'.cell? ⟨w.heap.size,0,none⟩=some (.bool neg)/\W'.cell? ⟨w.heap.size,1,none⟩=some (.slice A ds.length c)/\W'.cell? ⟨w.heap.size+1,0,none⟩=some (.bool neg)/\W'.cell? ⟨w.heap.size+1,1,none⟩=some (.slice A' ds'.length c'))):=by
    intro W'' v0 v1 hx W' bJ;obtain ⟨s1,c0,c1,c2,c3⟩:=HS.out W'' hx;rw [bJ];refine ⟨(s1.setCell (by simp; try omega) _).setCell (by simp; try omega) _,?_,?_,?_,?_⟩ <;> rw [World.cell?_setCell_other _ _ _ _ (by simp; try omega),World.cell?_setCell_other _ _ _ _ (by simp; try omega)] <;> assumption
   clear hW
   go_region_held3 (fun W' => Ext w W' /\ W'.cell? ⟨w.heap.size, 0, none⟩ = some (.bool neg) /\ W'.cell? ⟨w.heap.size, 1, none⟩ = some (.slice A ds.length c) /\ W'.cell? ⟨w.heap.size + 1, 0, none⟩ = some (.bool neg) /\ W'.cell? ⟨w.heap.size + 1, 1, none⟩ = some (.slice A' ds'.length c'))
    (first | exact HS.out _ ((Ext.refl W).drew) | exact HS.out _ (by assumption) | exact bK.out _ _ _ (by assumption) _ rfl)
    (first
      | (go_at_call 127
         have bW:=(‹Ext w _/\_›).1;refine (ua5 _ _ ds ds' _ ⟨A,c,rfl,h1,h2,H3.out.ext bW⟩ ⟨A',c',rfl,jO,mD,nM.out.ext bW⟩ (by omega)).mono ?_;rintro e w2 ⟨v2,rfl,wS,x2⟩
         have y2:Ext W w2:=Ext.trans ((Ext.refl W).drew) x2)
      | (go_at_call 104
         refine (jal _ _ _ _ wS).mono ?_;rintro e w3 ⟨v3,rfl,⟨v4,rfl,A2,c2,rfl,q1,q2,q3⟩,x3⟩;have y3:Ext W w3:=Ext.trans y2 x3
         obtain ⟨r0,r1,f0,f1⟩:=HR.out w3 y3))
   have HF:=hid (jw (g:=w.heap.size+1+1) (z:=sgn neg (val ds+val ds')) (u0:=.bool false) (u1:=.slice none 0 0) (ax.out.trans y3) (by omega) r0 r1 rfl rfl ⟨_,rfl,A2,c2,rfl,q1,q2,q3⟩);clear HS bK HR y3 y2 x2 x3 q3 wS;go_wp2_with fail;exact bodyPost_ret (v:=.agg #[.bool (decide (sgn neg (val ds+val ds') < 0)),.slice A2 (dg (sgn neg (val ds+val ds')).natAbs).length c2]) (by simp [results,Tryz.results101,go_sem,r0,r1]) rfl HF.out
 · have CW:(neg == aI)=false:=by simp [hn]
   go_enter Tryz.func101,Tryz.ntmps101;go_wp2_with fail;generalize hW:((w.alloc (Obj.cells #[.bool neg,.slice A ds.length c] 33)).alloc (Obj.cells #[.bool aI,.slice A' ds'.length c'] 33)).alloc (Obj.cells #[.bool false,.slice none 0 0] 33)=W;have ax:Hid (Ext w W):=by
    have:Ext w W:=by rw [<- hW]; exact (((Ext.refl w).alloc _).alloc _).alloc _
    exact this
   have qG:Hid (W.heap.size=w.heap.size+1+1+1):=by
    have:W.heap.size=w.heap.size+1+1+1:=by rw [<- hW]; simp
    exact this
   have HS:Hid (∀ W',Ext W W'->(Ext w W'/\W'.cell? ⟨w.heap.size,0,none⟩=some (.bool neg)/\W'.cell? ⟨w.heap.size,1,none⟩=some (.slice A ds.length c)/\W'.cell? ⟨w.heap.size+1,0,none⟩=some (.bool aI)/\W'.cell? ⟨w.heap.size+1,1,none⟩=some (.slice A' ds'.length c'))):=by
    intro W' hx;obtain ⟨hc,hf⟩:=hx.cells;have hsz:=qG.out;refine ⟨ax.out.trans hx,?_,?_,?_,?_⟩ <;> (rw [hc _ _ (by omega),<- hW]; simp [go_sem])
   have HR:Hid (∀ W',Ext W W'->(W'.cell? ⟨w.heap.size+1+1,0,none⟩=some (.bool false)/\W'.cell? ⟨w.heap.size+1+1,1,none⟩=some (.slice none 0 0)/\W'.frozen? ⟨w.heap.size+1+1,0,none⟩=false/\W'.frozen? ⟨w.heap.size+1+1,1,none⟩=false)):=by
    intro W' hx;obtain ⟨hc,hf⟩:=hx.cells;have hsz:=qG.out;refine ⟨?_,?_,?_,?_⟩ <;> first | (rw [hc _ _ (by omega),<- hW]; simp [go_sem]; done) | (rw [hf _ _ (by omega),<- hW]; simp [go_sem]; done)
   have bK:Hid (∀ W'' v0 v1,Ext W W''->∀ W',W'=(W''.setCell ⟨w.heap.size+1+1,0,none⟩ v0).setCell ⟨w.heap.size+1+1,1,none⟩ v1->(Ext w W'/\W'.cell? ⟨w.heap.size,0,none⟩=some (.bool neg)/\W'.cell? ⟨w.heap.size,1,none⟩=some (.slice A ds.length c)/\W'.cell? ⟨w.heap.size+1,0,none⟩=some (.bool aI)/\W'.cell? ⟨w.heap.size+1,1,none⟩=some (.slice A' ds'.length c'))):=by
    intro W'' v0 v1 hx W' bJ;obtain ⟨s1,c0,c1,c2,c3⟩:=HS.out W'' hx;rw [bJ];refine ⟨(s1.setCell (by simp; try omega) _).setCell (by simp; try omega) _,?_,?_,?_,?_⟩ <;> rw [World.cell?_setCell_other _ _ _ _ (by simp; try omega),World.cell?_setCell_other _ _ _ _ (by simp; try omega)] <;> assumption
   clear hW;obtain ⟨e0,b0,b1,b2,b3⟩:=HS.out W (Ext.refl W);refine (gan _ _ ds ds' _ ⟨A,c,rfl,h1,h2,H3.out.ext e0⟩ ⟨A',c',rfl,jO,mD,nM.out.ext e0⟩).mono ?_;rintro e w1 ⟨rfl,n1,uX⟩;have y1:Ext W w1:=by rw [uX]; exact (Ext.refl W).drewN n1
   clear uX e0 b0 b1 b2 b3;obtain ⟨e0,b0,b1,b2,b3⟩:=HS.out w1 y1;have E0:=hid e0;have Y1:=hid y1;clear e0 y1;have HN:=hid hn;have HZ:=hid hz;have Jo:=hid lG;clear hn hz lG
   by_cases oN:val ds'<=val ds
   · have iT:0<=qi (val ds) (val ds'):=by unfold qi; split <;> (try split) <;> omega
     have Gf:=(wak (val ds) (val ds')).2;generalize qi (val ds) (val ds')=cm at *;go_wp2_with fail;refine (zbg _ _ ds ds' _ ⟨A,c,rfl,h1,h2,H3.out.ext E0.out⟩ ⟨A',c',rfl,jO,mD,nM.out.ext E0.out⟩ (by omega) oN).mono ?_;rintro e w2 ⟨v2,rfl,wS,-,x2⟩;have y2:=Y1.out.trans x2;obtain ⟨e0',b0',b1',b2',b3'⟩:=HS.out w2 y2;have NV2:=hid wS;have Y2:=hid y2;clear wS y2 x2 e0' b0 b1 b2 b3;go_wp2_with fail;refine (jal _ _ _ _ NV2.out).mono ?_;rintro e w3 ⟨v3,rfl,⟨v4,rfl,A2,c2,rfl,q1,q2,q3⟩,x3⟩;have y3:Ext W w3:=Ext.trans Y2.out x3;obtain ⟨r0,r1,f0,f1⟩:=HR.out w3 y3;have HF:=hid (jw (g:=w.heap.size+1+1) (z:=sgn neg (val ds - val ds')) (u0:=.bool false) (u1:=.slice none 0 0) (ax.out.trans y3) (by omega) r0 r1 rfl rfl ⟨_,rfl,A2,c2,rfl,q1,q2,q3⟩);have oO:a+b=sgn neg (val ds - val ds'):=by
      have:=HN.out;rw [HZ.out,Jo.out]; cases neg <;> cases aI <;> simp_all [sgn] <;> omega
     have HAB:=hid oO;clear y3 q3 x3 oO;go_wp2_with fail;refine bodyPost_ret (v:=.agg #[.bool (decide (sgn neg (val ds - val ds') < 0)),.slice A2 (dg (sgn neg (val ds - val ds')).natAbs).length c2]) (by simp [results,Tryz.results101,go_sem,r0,r1]) rfl ?_;rw [HAB.out];exact HF.out
   · have iT:qi (val ds) (val ds') < 0:=by rw [qaf (by omega)]; omega
     have Gf:=(wak (val ds) (val ds')).1;generalize qi (val ds) (val ds')=cm at *;go_wp2_with fail;refine (zbg _ _ ds' ds _ ⟨A',c',rfl,jO,mD,nM.out.ext E0.out⟩ ⟨A,c,rfl,h1,h2,H3.out.ext E0.out⟩ (by omega) (by omega)).mono ?_;rintro e w2 ⟨v2,rfl,wS,-,x2⟩;have y2:=Y1.out.trans x2;obtain ⟨e0',b0',b1',b2',b3'⟩:=HS.out w2 y2;have NV2:=hid wS;have Y2:=hid y2;clear wS y2 x2 e0' b0 b1 b2 b3;go_wp2_with fail;refine (jal _ _ _ _ NV2.out).mono ?_;rintro e w3 ⟨v3,rfl,⟨v4,rfl,A2,c2,rfl,q1,q2,q3⟩,x3⟩;have y3:Ext W w3:=Ext.trans Y2.out x3;obtain ⟨r0,r1,f0,f1⟩:=HR.out w3 y3;have HF:=hid (jw (g:=w.heap.size+1+1) (z:=sgn aI (val ds' - val ds)) (u0:=.bool false) (u1:=.slice none 0 0) (ax.out.trans y3) (by omega) r0 r1 rfl rfl ⟨_,rfl,A2,c2,rfl,q1,q2,q3⟩);have oO:a+b=sgn aI (val ds' - val ds):=by
      have:=HN.out;rw [HZ.out,Jo.out]; cases neg <;> cases aI <;> simp_all [sgn] <;> omega
     have HAB:=hid oO;clear y3 q3 x3 oO;go_wp2_with fail;refine bodyPost_ret (v:=.agg #[.bool (decide (sgn aI (val ds' - val ds) < 0)),.slice A2 (dg (sgn aI (val ds' - val ds)).natAbs).length c2]) (by simp [results,Tryz.results101,go_sem,r0,r1]) rfl ?_;rw [HAB.out];exact HF.out
theorem vcv (x y:Value) (a b:Int) (L M:Nat) (w:World) (h:um w x a L) (k:um w y b M) :
 Calls Tryz.prog 95 #[x,y] w fun e w'=>e=.returned (.int .i64 (qi a b))/\Ext w w':=by
 obtain ⟨neg,v,ds,rfl,⟨A,c,rfl,h1,h2,h3⟩,hz,hl⟩:=h;obtain ⟨aI,v',ds',rfl,⟨A',c',rfl,jO,mD,kW⟩,lG,nY⟩:=k;have H3:=hid h3;have nM:=hid kW;have HZ:=hid hz;have Jo:=hid lG;clear h3 kW hz lG;go_enter Tryz.func95,Tryz.ntmps95;go_wp2_with fail;generalize hW:(w.alloc (Obj.cells #[.bool neg,.slice A ds.length c] 33)).alloc (Obj.cells #[.bool aI,.slice A' ds'.length c'] 33)=W;have ax:Hid (Ext w W):=by
  have:Ext w W:=by rw [<- hW]; exact ((Ext.refl w).alloc _).alloc _
  exact this
 have qG:Hid (W.heap.size=w.heap.size+1+1):=by
  have:W.heap.size=w.heap.size+1+1:=by rw [<- hW]; simp
  exact this
 have HS:Hid (∀ W',Ext W W'->(Ext w W'/\W'.cell? ⟨w.heap.size,0,none⟩=some (.bool neg)/\W'.cell? ⟨w.heap.size,1,none⟩=some (.slice A ds.length c)/\W'.cell? ⟨w.heap.size+1,0,none⟩=some (.bool aI)/\W'.cell? ⟨w.heap.size+1,1,none⟩=some (.slice A' ds'.length c'))):=by
  intro W' hx;obtain ⟨hc,hf⟩:=hx.cells;have hsz:=qG.out;refine ⟨ax.out.trans hx,?_,?_,?_,?_⟩ <;> (rw [hc _ _ (by omega),<- hW]; simp [go_sem])
 clear hW
 go_region_held3 (fun W' => Ext w W' /\ W'.cell? ⟨w.heap.size, 0, none⟩ = some (.bool neg) /\ W'.cell? ⟨w.heap.size, 1, none⟩ = some (.slice A ds.length c) /\ W'.cell? ⟨w.heap.size + 1, 0, none⟩ = some (.bool aI) /\ W'.cell? ⟨w.heap.size + 1, 1, none⟩ = some (.slice A' ds'.length c'))
  (first | exact HS.out _ ((Ext.refl W).drew) | exact HS.out _ (by assumption))
  (first
    | (go_at_call_of 87 (Value.agg #[.bool neg,.slice A ds.length c])
       have bW:=(‹Ext w _/\_›).1;refine (uar _ a L _ ⟨neg,_,ds,rfl,⟨A,c,rfl,h1,h2,H3.out.ext bW⟩,HZ.out,hl⟩).mono ?_;rintro e w2 ⟨rfl,x2⟩
       have y2:Ext W w2:=Ext.trans ((Ext.refl W).drew) x2)
    | (go_at_call_of 87 (Value.agg #[.bool aI,.slice A' ds'.length c'])
       have bW:=(‹Ext w _/\_›).1;refine (uar _ b M _ ⟨aI,_,ds',rfl,⟨A',c',rfl,jO,mD,nM.out.ext bW⟩,Jo.out,nY⟩).mono ?_;rintro e w3 ⟨rfl,x3⟩
       have y3:Ext W w3:=Ext.trans y2 x3))
 obtain ⟨e0,b0,b1,b2,b3⟩:=HS.out w3 y3;have E0:=hid e0;have bA:=wak a 0;have bB:=wak b 0;have Nl:Hid (sgI a=qi a 0):=rfl;have Nk:Hid (sgI b=qi b 0):=rfl
 change -1<=sgI a/\sgI a<=1 at bA
 change -1<=sgI b/\sgI b<=1 at bB
 obtain ⟨bA0,bA1⟩:=bA;obtain ⟨bB0,bB1⟩:=bB;clear e0 y2 y3 x2 x3 HS;generalize sgI a=sa at *;generalize sgI b=sb at *;rcases Int.lt_trichotomy sa sb with af | heq | II
 · go_wp2_with fail;go_ret;exact ⟨yan (qaf (vbq (by rw [<- Nl.out,<- Nk.out]; exact af))).symm,E0.out⟩
 · subst heq
   by_cases vO:sa < 0
   · go_wp2_with fail;refine (gan _ _ ds' ds _ ⟨A',c',rfl,jO,mD,nM.out.ext E0.out⟩ ⟨A,c,rfl,h1,h2,H3.out.ext E0.out⟩).mono ?_;rintro e w4 ⟨rfl,n4,Oz⟩;have y4:Ext w w4:=by rw [Oz]; exact E0.out.drewN n4
     have Y4:=hid y4;have iT:qi (val ds') (val ds)=qi a b:=by
      have ha:a < 0:=by have:=Nl.out; unfold qi at this; split at this <;> (try split at this) <;> omega
      have hb:b < 0:=by have:=Nk.out; unfold qi at this; split at this <;> (try split at this) <;> omega
      have z1:=HZ.out;have z2:=Jo.out;cases neg <;> cases aI <;> simp [sgn] at z1 z2 <;> first | omega | (rw [z1,z2]; unfold qi; split <;> (try split) <;> (try split) <;> (try split) <;> omega)
     have Qk:=hid iT;clear Oz y4 iT;go_wp2_with fail;go_ret;exact ⟨yan Qk.out,Y4.out⟩
   · go_wp2_with fail;refine (gan _ _ ds ds' _ ⟨A,c,rfl,h1,h2,H3.out.ext E0.out⟩ ⟨A',c',rfl,jO,mD,nM.out.ext E0.out⟩).mono ?_;rintro e w4 ⟨rfl,n4,Oz⟩;have y4:Ext w w4:=by rw [Oz]; exact E0.out.drewN n4
     have Y4:=hid y4;have iT:qi (val ds) (val ds')=qi a b:=by
      have ha:0<=a:=by have:=Nl.out; unfold qi at this; split at this <;> (try split at this) <;> omega
      have hb:0<=b:=by have:=Nk.out; unfold qi at this; split at this <;> (try split at this) <;> omega
      have z1:=HZ.out;have z2:=Jo.out;have e1:a=val ds:=by cases neg <;> simp [sgn] at z1 <;> omega
      have e2:b=val ds':=by cases aI <;> simp [sgn] at z2 <;> omega
      rw [e1,e2]
     have Qk:=hid iT;clear Oz y4 iT;go_wp2_with fail;go_ret;exact ⟨yan Qk.out,Y4.out⟩
 · go_wp2_with fail;go_ret;exact ⟨yan (wan (vbq (by rw [<- Nl.out,<- Nk.out]; exact II))).symm,E0.out⟩
theorem um.unpack {w:World} {x:Value} {z:Int} {L:Nat} (h:um w x z L):∃ b A n c,x=.agg #[.bool b,.slice A n c]:=by
 obtain ⟨neg,v,ds,rfl,⟨A,c,rfl,-⟩,-⟩:=h;exact ⟨neg,A,_,c,rfl⟩
theorem zo.unpack {w:World} {x:Value} {z:Int} (h:zo w x z):∃ b A n c,x=.agg #[.bool b,.slice A n c]:=h.raw.unpack
end Go.Proofs.YtklnlgnnlmdibaaGreat
