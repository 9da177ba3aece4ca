/- Layer 2 (integer): what each function returns. -/
import Derived.Test.YtcepajijiabkmaaGreatMp3
set_option linter.unusedSimpArgs false
set_option linter.unusedVariables false
set_option maxRecDepth 100000
set_option maxHeartbeats 8000000
namespace Go.Proofs.YtcepajijiabkmaaGreat
open Lib (hid)
open Go.RowKit
def sgn (neg:Bool) (n:Nat):Int:=if neg then -(n:Int) else n
theorem ku (neg:Bool) (n:Nat):(sgn neg n).natAbs=n:=by cases neg <;> simp [sgn]
def jm (w:World) (x:Value) (z:Int) (L:Nat):Prop:=∃ neg v ds,x=.agg #[.bool neg,v]/\jc w v ds/\z=sgn neg (val ds)/\ds.length<=L
def ul (w:World) (x:Value) (z:Int):Prop:=∃ v,x=.agg #[.bool (decide (z < 0)),v]/\jc w v (dg z.natAbs)
theorem wao (z:Int):sgn (decide (z < 0)) z.natAbs=z:=by
 unfold sgn
 by_cases h:z < 0
 · simp [h]; omega
 · simp [h]; omega
theorem ul.raw {w:World} {x:Value} {z:Int} (h:ul w x z):jm w x z (dg z.natAbs).length:=by
 obtain ⟨v,e,hv⟩:=h;exact ⟨_,v,_,e,hv,by rw [qg,wao],pj _⟩
theorem jm.mono {w:World} {x:Value} {z:Int} {L L':Nat} (h:jm w x z L) (hl:L<=L'):jm w x z L':=by
 obtain ⟨neg,v,ds,e,hv,hz,mQ⟩:=h;exact ⟨neg,v,ds,e,hv,hz,py mQ hl⟩
theorem jm.ext {w w':World} {x:Value} {z:Int} {L:Nat} (h:jm w x z L) (hx:Ext w w'):jm w' x z L:=by
 obtain ⟨neg,v,ds,e,hv,hz,mQ⟩:=h;exact ⟨neg,v,ds,e,hv.ext hx,hz,mQ⟩
theorem ul.ext {w w':World} {x:Value} {z:Int} (h:ul w x z) (hx:Ext w w'):ul w' x z:=by
 obtain ⟨v,e,hv⟩:=h;exact ⟨v,e,hv.ext hx⟩
theorem jm.len {w:World} {x:Value} {z:Int} {L:Nat} (h:jm w x z L):(dg z.natAbs).length<=L:=by
 obtain ⟨neg,v,ds,e,hv,rfl,mQ⟩:=h;rw [ku];exact py (zi hv.kq) mQ
def jo : Value -> Bool
 | .int .u32 _=>true
 | _=>false
theorem uj.box {w:World} {A:Option Addr} {ds:List Nat} {p:Addr} {u:Value} (h:uj w A ds) (hp:w.cell? p=some u) (hu:jo u=false) (v:Value):uj (w.setCell p v) A ds:=
 ⟨h.1,fun hl=>by
   obtain ⟨ad,e,hb,hc⟩:=h.2 hl;refine ⟨ad,e,by simpa [World.setCell] using hb,fun j hj=>?_⟩;rw [ph w p _ v (fun e=>by rw [e,hc j hj] at hp; injection hp with hp; rw [<- hp] at hu; cases hu)]
   exact hc j hj⟩
theorem jc.box {w:World} {x:Value} {ds:List Nat} {p:Addr} {u:Value} (h:jc w x ds) (hp:w.cell? p=some u) (hu:jo u=false) (v:Value):jc (w.setCell p v) x ds:=by
 obtain ⟨A,c,e,h1,h2,h3⟩:=h;exact ⟨A,c,e,h1,h2,h3.box hp hu v⟩
theorem ul.box {w:World} {x:Value} {z:Int} {p:Addr} {u:Value} (h:ul w x z) (hp:w.cell? p=some u) (hu:jo u=false) (v:Value):ul (w.setCell p v) x z:=by
 obtain ⟨y,e,hy⟩:=h;exact ⟨y,e,hy.box hp hu v⟩
def vah (z:Int) (w:World) (e:Ending) (w':World):Prop:=∃ x,e=.returned x/\ul w' x z/\Ext w w'
theorem kw {w W : World} {g : Nat} {z : Int} {b s u0 u1 : Value} (hx : Ext w W) (hg : w.heap.size <= g) (h0 : W.cell? ⟨g, 0, none⟩ = some u0) (h1 : W.cell? ⟨g, 1, none⟩ = some u1)
 (d0:jo u0=false) (d1:jo u1=false) (hN:ul W (.agg #[b,s]) z):vah z w (.returned (.agg #[b,s])) ((W.setCell ⟨g,0,none⟩ b).setCell ⟨g,1,none⟩ s):=by
 refine ⟨_,rfl,(hN.box h0 d0 b).box (u:=u1) ?_ d1 s,(hx.setCell (by simpa using hg) _).setCell (by simpa using hg) _⟩;rw [ph _ _ _ _ (by simp),h1]
theorem xba (neg:Bool) (n:Nat):decide (sgn neg n < 0)=(neg && decide (0 < (dg n).length)):=by
 have h:0 < (dg n).length ↔ 0 < n:=by
  constructor
  · intro h; rcases tR n with e | e
    · subst e; rw [qm] at h; simp at h
    · exact e
  · intro h; exact vak (by omega)
 cases neg
 · simp [sgn]
 · simp only [sgn,if_true,Bool.true_and];rw [RC,decide_eq_true_eq,decide_eq_true_eq,h]; omega
theorem wam (neg:Bool) (v:Value) (n:Nat) (w:World) (h:jc w v (dg n)):Calls Tryz.prog 83 #[.bool neg,v] w (vah (sgn neg n) w):=by
 obtain ⟨A,c,rfl,h1,h2,h3⟩:=h;have H3:=hid h3;clear h3;have HS:=hid (xba neg n);generalize hE:dg n=E at *;have HE:=hid hE;clear hE;have HF:Hid (∀ b,b=(neg && decide (0 < E.length))->vah (sgn neg n) w (.returned (.agg #[.bool b,.slice A E.length c])) (w.alloc (Obj.cells #[.bool b,.slice A E.length c] 30))):=by
  intro b hb;refine ⟨_,rfl,⟨.slice A E.length c,?_,A,c,?_,?_,h2,?_⟩,(Ext.refl w).alloc _⟩
  · rw [hb,HS.out]
  · rw [ku,HE.out]
  · rw [ku,HE.out]; exact h1
  · rw [ku,HE.out]; exact H3.out.ext ((Ext.refl w).alloc _)
 cases neg
 · go_enter Tryz.func83,Tryz.ntmps83
   go_wp2
   exact bodyPost_ret (v:=.agg #[.bool false,.slice A E.length c]) (by simp [results,Tryz.results83,go_sem]) rfl (HF.out _ rfl)
 · by_cases hl:0 < E.length
   · have rC:decide ((E.length:Int) > 0)=true:=by simp; omega
     go_enter Tryz.func83,Tryz.ntmps83
     go_wp2
     exact bodyPost_ret (v:=.agg #[.bool true,.slice A E.length c]) (by simp [results,Tryz.results83,go_sem]) rfl (HF.out _ (by simp [hl]))
   · go_enter Tryz.func83,Tryz.ntmps83
     go_wp2
     exact bodyPost_ret (v:=.agg #[.bool false,.slice A E.length c]) (by simp [results,Tryz.results83,go_sem]) rfl (HF.out _ (by simp [hl]))
theorem wap (neg:Bool) (v:Value) (ds:List Nat) (w:World) (h:jc w v ds) (hs:ds.length<=35184372088832):Calls Tryz.prog 56 #[.bool neg,v] w (vah (sgn neg (val ds)) w):=by
 go_enter Tryz.func56,Tryz.ntmps56;go_wp2_with fail;refine (jab _ _ _ (h.ext ((Ext.refl w).alloc _)) hs).mono ?_;rintro e w1 ⟨v1,rfl,hv,hx⟩;go_wp2_with fail;refine (wam _ _ _ _ hv).mono ?_;rintro e w2 ⟨x,rfl,⟨v2,rfl,uQ⟩,aN⟩;obtain ⟨A2,c2,rfl,q1,q2,q3⟩:=uQ;have rU:=hx.trans aN;obtain ⟨hc,hf⟩:=rU.cells;have hz:=rU.size;have HF:=hid (kw (g:=w.heap.size) (z:=sgn neg (val ds)) (u0:=.bool false) (u1:=.slice none 0 0) (((Ext.refl w).alloc (Obj.cells #[.bool false,.slice none 0 0] 30)).trans rU) (pj _) (by rw [hc _ _ (by simp)]; simp [Pp]) (by rw [hc _ _ (by simp)]; simp [Pp]) rfl rfl ⟨_,rfl,A2,c2,rfl,q1,q2,q3⟩);clear hv hx aN rU q3;rw [tL] at hz;go_wp2_with fail;exact bodyPost_ret (v:=.agg #[.bool (decide (sgn neg (val ds) < 0)),.slice A2 (dg (sgn neg (val ds)).natAbs).length c2]) (by simp [results,Tryz.results56,go_sem,hc]) rfl HF.out
theorem gan (x:Value) (z:Int) (L:Nat) (w:World) (h:jm w x z L) (hs:L<=35184372088832):Calls Tryz.prog 32 #[x] w (vah (z) w):=by
 obtain ⟨neg,v,ds,rfl,⟨A,c,rfl,h1,h2,h3⟩,hz,hl⟩:=h;have AL:z=sgn (neg) (val ds):=by rw [hz]
 rw [AL];clear hz AL;have aC:Ext w ((w.alloc (Obj.cells #[.bool neg,.slice A ds.length c] 30)).alloc (Obj.cells #[.bool false,.slice none 0 0] 30)):=((Ext.refl w).alloc _).alloc _;have ay:=hid aC;have H3:=hid h3;clear aC h3;go_enter Tryz.func32,Tryz.ntmps32;go_wp2_with fail;refine (wap _ _ _ _ ⟨A,c,rfl,h1,h2,H3.out.ext ay.out⟩ (by omega)).mono ?_;rintro e w2 ⟨x,rfl,⟨v2,rfl,A2,c2,rfl,q1,q2,q3⟩,aN⟩;obtain ⟨hc,hf⟩:=aN.cells;have hz:=aN.size;have HF:=hid (kw (g:=w.heap.size+1) (z:=sgn (neg) (val ds)) (u0:=.bool false) (u1:=.slice none 0 0) (ay.out.trans aN) (by omega) (by rw [hc _ _ (by simp)]; simp [go_sem]) (by rw [hc _ _ (by simp)]; simp [go_sem]) rfl rfl ⟨_,rfl,A2,c2,rfl,q1,q2,q3⟩);clear aN q3;rw [tL,tL] at hz;go_wp2_with fail;exact bodyPost_ret (v:=.agg #[.bool (decide (sgn (neg) (val ds) < 0)),.slice A2 (dg (sgn (neg) (val ds)).natAbs).length c2]) (by simp [results,Tryz.results32,go_sem,hc]) rfl HF.out
theorem gc6 (x:Value) (z:Int) (L:Nat) (w:World) (h:jm w x z L) (hs:L<=35184372088832):Calls Tryz.prog 71 #[x] w (vah (-z) w):=by
 obtain ⟨neg,v,ds,rfl,⟨A,c,rfl,h1,h2,h3⟩,hz,hl⟩:=h;have AL:-z=sgn (!neg) (val ds):=by rw [hz]; cases neg <;> simp [sgn]
 rw [AL];clear hz AL;have aC:Ext w ((w.alloc (Obj.cells #[.bool neg,.slice A ds.length c] 30)).alloc (Obj.cells #[.bool false,.slice none 0 0] 30)):=((Ext.refl w).alloc _).alloc _;have ay:=hid aC;have H3:=hid h3;clear aC h3;go_enter Tryz.func71,Tryz.ntmps71;go_wp2_with fail;refine (wap _ _ _ _ ⟨A,c,rfl,h1,h2,H3.out.ext ay.out⟩ (by omega)).mono ?_;rintro e w2 ⟨x,rfl,⟨v2,rfl,A2,c2,rfl,q1,q2,q3⟩,aN⟩;obtain ⟨hc,hf⟩:=aN.cells;have hz:=aN.size;have HF:=hid (kw (g:=w.heap.size+1) (z:=sgn (!neg) (val ds)) (u0:=.bool false) (u1:=.slice none 0 0) (ay.out.trans aN) (by omega) (by rw [hc _ _ (by simp)]; simp [go_sem]) (by rw [hc _ _ (by simp)]; simp [go_sem]) rfl rfl ⟨_,rfl,A2,c2,rfl,q1,q2,q3⟩);clear aN q3;rw [tL,tL] at hz;go_wp2_with fail;exact bodyPost_ret (v:=.agg #[.bool (decide (sgn (!neg) (val ds) < 0)),.slice A2 (dg (sgn (!neg) (val ds)).natAbs).length c2]) (by simp [results,Tryz.results71,go_sem,hc]) rfl HF.out
def sgI (z:Int):Int:=jh z 0
theorem vau (x:Value) (z:Int) (L:Nat) (w:World) (h:jm w x z L):Calls Tryz.prog 70 #[x] w fun e w'=>e=.returned (.int .i64 (sgI z))/\Ext w w':=by
 obtain ⟨neg,v,ds,rfl,⟨A,c,rfl,h1,h2,h3⟩,hz,hl⟩:=h;have ay:Hid (Ext w (w.alloc (Obj.cells #[.bool neg,.slice A ds.length c] 30))):=(Ext.refl w).alloc _;have H3:=hid h3;have HZ:=hid hz;clear h3 hz;go_enter Tryz.func70,Tryz.ntmps70;go_wp2_with fail;refine (za3 _ _ _ ⟨A,c,rfl,h1,h2,H3.out.ext ay.out⟩).mono ?_;rintro e w2 ⟨rfl,rfl⟩
 by_cases h0:val ds=0
 · have hb:(val ds == 0)=true:=by simp [h0]
   have H0:=hid h0;clear h0;go_wp2_with fail;go_ret;exact ⟨yap (by rw [HZ.out,H0.out]; cases neg <;> rfl),ay.out⟩
 · have hb:(val ds == 0)=false:=by simp [h0]
   cases neg
   · go_wp2_with fail;go_ret;exact ⟨yap (by rw [HZ.out]; exact (qaq (by simp [sgn]; omega)).symm),ay.out⟩
   · go_wp2_with fail;go_ret;exact ⟨yap (by rw [HZ.out]; exact (yag (by simp [sgn]; omega)).symm),ay.out⟩
theorem of_int (z:Int) (w:World) (h0:-9223372036854775808<=z) (h1:z<=9223372036854775807):Calls Tryz.prog 11 #[.int .i64 z] w (vah z w):=by
 have ay:Hid (Ext w (w.alloc (Obj.cells #[.bool false,.slice none 0 0] 30))):=(Ext.refl w).alloc _
 by_cases hn:z < 0
 · go_enter Tryz.func11,Tryz.ntmps11;go_wp2_with fail;have e1:IntKind.u64.wrap (-IntKind.u64.wrap z)=((z.natAbs:Nat):Int):=by
    rw [IntKind.wrap_u64,IntKind.wrap_u64]; omega
   rw [e1];refine (xax _ _ (by omega)).mono ?_;rintro e w2 ⟨v,rfl,⟨A2,c2,rfl,q1,q2,q3⟩,aN⟩;obtain ⟨hc,hf⟩:=aN.cells;have hz:=aN.size;have HF:=hid (kw (g:=w.heap.size) (z:=z) (u0:=.bool false) (u1:=.slice none 0 0) (ay.out.trans aN) (by omega) (by rw [hc _ _ (by simp)]; simp [Pp]) (by rw [hc _ _ (by simp)]; simp [Pp]) rfl rfl ⟨_,by rw [decide_eq_true hn],A2,c2,rfl,q1,q2,q3⟩);clear aN q3 e1;rw [tL] at hz;go_wp2_with fail;exact bodyPost_ret (v:=.agg #[.bool true,.slice A2 (dg z.natAbs).length c2]) (by simp [results,Tryz.results11,go_sem,hc]) rfl HF.out
 · obtain ⟨n,rfl⟩:=sI (show 0<=z by omega);go_enter Tryz.func11,Tryz.ntmps11;go_wp2_with fail;refine (xax _ _ (by omega)).mono ?_;rintro e w2 ⟨v,rfl,⟨A2,c2,rfl,q1,q2,q3⟩,aN⟩;obtain ⟨hc,hf⟩:=aN.cells;have hz:=aN.size;have HF:=hid (kw (g:=w.heap.size) (z:=(n:Int)) (b:=.bool false) (u0:=.bool false) (u1:=.slice none 0 0) (ay.out.trans aN) (by omega) (by rw [hc _ _ (by simp)]; simp [Pp]) (by rw [hc _ _ (by simp)]; simp [Pp]) rfl rfl ⟨_,by rw [decide_eq_false (by omega)],A2,c2,rfl,q1,q2,q3⟩);clear aN q3;rw [tL] at hz;go_wp2_with fail;exact bodyPost_ret (v:=.agg #[.bool false,.slice A2 (dg n).length c2]) (by simp [results,Tryz.results11,go_sem,hc]) rfl HF.out
theorem yc7 (x y:Value) (a b:Int) (L M:Nat) (w:World) (h:jm w x a L) (k:jm w y b M) (hs:L+M<=35184372088000) :
 Calls Tryz.prog 66 #[x,y] w (vah (a * b) w):=by
 obtain ⟨neg,v,ds,rfl,⟨A,c,rfl,h1,h2,h3⟩,hz,hl⟩:=h;obtain ⟨aI,v',ds',rfl,⟨A',c',rfl,jV,mi,lg⟩,lH,mQ⟩:=k;have oK:a * b=sgn (!neg == aI) (val ds * val ds'):=by
  rw [hz,lH]; cases neg <;> cases aI <;> simp [sgn,Int.neg_mul,Int.mul_neg]
 rw [oK];have H3:=hid h3;have mY:=hid lg;clear h3 lg hz lH oK;go_enter Tryz.func66,Tryz.ntmps66;go_wp2_with fail;generalize hW:((w.alloc (Obj.cells #[.bool neg,.slice A ds.length c] 30)).alloc (Obj.cells #[.bool aI,.slice A' ds'.length c'] 30)).alloc (Obj.cells #[.bool false,.slice none 0 0] 30)=W;have ay:Hid (Ext w W):=by
  have:Ext w W:=by rw [<- hW]; exact (((Ext.refl w).alloc _).alloc _).alloc _
  exact this
 have HS:Hid (∀ W',Ext W W'->(Ext w W'/\W'.cell? ⟨w.heap.size,0,none⟩=some (.bool neg)/\W'.cell? ⟨w.heap.size,1,none⟩=some (.slice A ds.length c)/\W'.cell? ⟨w.heap.size+1,0,none⟩=some (.bool aI)/\W'.cell? ⟨w.heap.size+1,1,none⟩=some (.slice A' ds'.length c'))):=by
  intro W' hx;obtain ⟨hc,hf⟩:=hx.cells;have hsz:W.heap.size=w.heap.size+1+1+1:=by rw [<- hW]; simp
  refine ⟨ay.out.trans hx,?_,?_,?_,?_⟩ <;> (rw [hc _ _ (by omega),<- hW]; simp [go_sem])
 have HR:Hid (∀ W',Ext W W'->(W'.cell? ⟨w.heap.size+1+1,0,none⟩=some (.bool false)/\W'.cell? ⟨w.heap.size+1+1,1,none⟩=some (.slice none 0 0)/\W'.frozen? ⟨w.heap.size+1+1,0,none⟩=false/\W'.frozen? ⟨w.heap.size+1+1,1,none⟩=false)):=by
  intro W' hx;obtain ⟨hc,hf⟩:=hx.cells;have hsz:W.heap.size=w.heap.size+1+1+1:=by rw [<- hW]; simp
  refine ⟨?_,?_,?_,?_⟩ <;> first | (rw [hc _ _ (by omega),<- hW]; simp [go_sem]; done) | (rw [hf _ _ (by omega),<- hW]; simp [go_sem]; done)
 have aY:Hid (∀ W'' u v,Ext W W''->∀ W',W'=(W''.setCell ⟨w.heap.size+1+1,0,none⟩ u).setCell ⟨w.heap.size+1+1,1,none⟩ v->(Ext w W'/\W'.cell? ⟨w.heap.size,0,none⟩=some (.bool neg)/\W'.cell? ⟨w.heap.size,1,none⟩=some (.slice A ds.length c)/\W'.cell? ⟨w.heap.size+1,0,none⟩=some (.bool aI)/\W'.cell? ⟨w.heap.size+1,1,none⟩=some (.slice A' ds'.length c'))):=by
  intro W'' u v hx W' bJ;obtain ⟨s1,s2,s3,s4,s5⟩:=HS.out W'' hx;rw [bJ];refine ⟨(s1.setCell (by simp; omega) _).setCell (by simp; omega) _,?_,?_,?_,?_⟩ <;> rw [ph _ _ _ _ (by simp),ph _ _ _ _ (by simp)] <;> assumption
 clear hW
 go_region_held3 (fun W' => Ext w W' /\ W'.cell? ⟨w.heap.size, 0, none⟩ = some (.bool neg) /\ W'.cell? ⟨w.heap.size, 1, none⟩ = some (.slice A ds.length c) /\ W'.cell? ⟨w.heap.size + 1, 0, none⟩ = some (.bool aI) /\ W'.cell? ⟨w.heap.size + 1, 1, none⟩ = some (.slice A' ds'.length c'))
  (first | exact HS.out _ ((Ext.refl W).drew) | exact HS.out _ (by assumption) | exact aY.out _ _ _ (by assumption) _ rfl)
  (first
    | (go_at_call 89
       have bQ:=(‹Ext w _/\_›).1;refine (zc7 _ _ ds ds' _ ⟨A,c,rfl,h1,h2,H3.out.ext bQ⟩ ⟨A',c',rfl,jV,mi,mY.out.ext bQ⟩ (by omega)).mono ?_;rintro e w2 ⟨v2,rfl,wI,x2⟩
       have y2:Ext W w2:=Ext.trans ((Ext.refl W).drew) x2)
    | (go_at_call 83
       refine (wam _ _ _ _ wI).mono ?_;rintro e w3 ⟨v3,rfl,⟨v4,rfl,A2,c2,rfl,q1,q2,q3⟩,x3⟩;have y3:Ext W w3:=Ext.trans y2 x3
       obtain ⟨r1,r2,r3,r4⟩:=HR.out w3 y3))
 have HF:=hid (kw (g:=w.heap.size+1+1) (z:=sgn (!neg == aI) (val ds * val ds')) (u0:=.bool false) (u1:=.slice none 0 0) (ay.out.trans y3) (by omega) r1 r2 rfl rfl ⟨_,rfl,A2,c2,rfl,q1,q2,q3⟩);clear HS aY HR y3 y2 x2 x3 q3 wI;go_wp2_with fail;exact bodyPost_ret (v:=.agg #[.bool (decide (sgn (!neg == aI) (val ds * val ds') < 0)),.slice A2 (dg (sgn (!neg == aI) (val ds * val ds')).natAbs).length c2]) (by simp [results,Tryz.results66,go_sem,r1,r2]) rfl HF.out
theorem jbx {a b:Int} (h:jh a 0 < jh b 0):a < b:=by
 rcases wg a 0 with ha | ha | ha
 · rcases wg b 0 with hb | hb | hb
   · rw [yag ha,yag hb] at h; omega
   · omega
   · omega
 · rcases wg b 0 with hb | hb | hb
   · rw [wz ha,yag hb] at h; omega
   · rw [wz ha,wz hb] at h; omega
   · omega
 · have:=(zak b 0).2;rw [qaq ha] at h; omega
theorem qcb (x y:Value) (a b:Int) (L M:Nat) (w:World) (h:jm w x a L) (k:jm w y b M) (hs:L+M<=35184372088000) :
 Calls Tryz.prog 80 #[x,y] w (vah (a+b) w):=by
 obtain ⟨neg,v,ds,rfl,⟨A,c,rfl,h1,h2,h3⟩,hz,hl⟩:=h;obtain ⟨aI,v',ds',rfl,⟨A',c',rfl,jV,mi,lg⟩,lH,mQ⟩:=k;have H3:=hid h3;have mY:=hid lg;clear h3 lg
 by_cases hn:neg=aI
 · subst hn;have oK:a+b=sgn neg (val ds+val ds'):=by rw [hz,lH]; cases neg <;> simp [sgn] <;> omega
   rw [oK];clear hz lH oK;have Ce:(neg == neg)=true:=by simp
   go_enter Tryz.func80,Tryz.ntmps80;go_wp2_with fail;generalize hW:((w.alloc (Obj.cells #[.bool neg,.slice A ds.length c] 30)).alloc (Obj.cells #[.bool neg,.slice A' ds'.length c'] 30)).alloc (Obj.cells #[.bool false,.slice none 0 0] 30)=W;have ay:Hid (Ext w W):=by
    have:Ext w W:=by rw [<- hW]; exact (((Ext.refl w).alloc _).alloc _).alloc _
    exact this
   have qF:Hid (W.heap.size=w.heap.size+1+1+1):=by
    have:W.heap.size=w.heap.size+1+1+1:=by rw [<- hW]; simp
    exact this
   have HS:Hid (∀ W',Ext W W'->(Ext w W'/\W'.cell? ⟨w.heap.size,0,none⟩=some (.bool neg)/\W'.cell? ⟨w.heap.size,1,none⟩=some (.slice A ds.length c)/\W'.cell? ⟨w.heap.size+1,0,none⟩=some (.bool neg)/\W'.cell? ⟨w.heap.size+1,1,none⟩=some (.slice A' ds'.length c'))):=by
    intro W' hx;obtain ⟨hc,hf⟩:=hx.cells;have hsz:=qF.out;refine ⟨ay.out.trans hx,?_,?_,?_,?_⟩ <;> (rw [hc _ _ (by omega),<- hW]; simp [go_sem])
   have HR:Hid (∀ W',Ext W W'->(W'.cell? ⟨w.heap.size+1+1,0,none⟩=some (.bool false)/\W'.cell? ⟨w.heap.size+1+1,1,none⟩=some (.slice none 0 0)/\W'.frozen? ⟨w.heap.size+1+1,0,none⟩=false/\W'.frozen? ⟨w.heap.size+1+1,1,none⟩=false)):=by
    intro W' hx;obtain ⟨hc,hf⟩:=hx.cells;have hsz:=qF.out;refine ⟨?_,?_,?_,?_⟩ <;> first | (rw [hc _ _ (by omega),<- hW]; simp [go_sem]; done) | (rw [hf _ _ (by omega),<- hW]; simp [go_sem]; done)
   have aY:Hid (∀ W'' v0 v1,Ext W W''->∀ W',W'=(W''.setCell ⟨w.heap.size+1+1,0,none⟩ v0).setCell ⟨w.heap.size+1+1,1,none⟩ v1->(Ext w W'/\W'.cell? ⟨w.heap.size,0,none⟩=some (.bool neg)/\W'.cell? ⟨w.heap.size,1,none⟩=some (.slice A ds.length c)/\W'.cell? ⟨w.heap.size+1,0,none⟩=some (.bool neg)/\W'.cell? ⟨w.heap.size+1,1,none⟩=some (.slice A' ds'.length c'))):=by
    intro W'' v0 v1 hx W' bJ;obtain ⟨s1,c0,c1,c2,c3⟩:=HS.out W'' hx;rw [bJ];refine ⟨(s1.setCell (by simp; try omega) _).setCell (by simp; try omega) _,?_,?_,?_,?_⟩ <;> rw [ph _ _ _ _ (by simp; try omega),ph _ _ _ _ (by simp; try omega)] <;> assumption
   clear hW
   go_region_held3 (fun W' => Ext w W' /\ W'.cell? ⟨w.heap.size, 0, none⟩ = some (.bool neg) /\ W'.cell? ⟨w.heap.size, 1, none⟩ = some (.slice A ds.length c) /\ W'.cell? ⟨w.heap.size + 1, 0, none⟩ = some (.bool neg) /\ W'.cell? ⟨w.heap.size + 1, 1, none⟩ = some (.slice A' ds'.length c'))
    (first | exact HS.out _ ((Ext.refl W).drew) | exact HS.out _ (by assumption) | exact aY.out _ _ _ (by assumption) _ rfl)
    (first
      | (go_at_call 106
         have bQ:=(‹Ext w _/\_›).1;refine (ya9 _ _ ds ds' _ ⟨A,c,rfl,h1,h2,H3.out.ext bQ⟩ ⟨A',c',rfl,jV,mi,mY.out.ext bQ⟩ (by omega)).mono ?_;rintro e w2 ⟨v2,rfl,wI,x2⟩
         have y2:Ext W w2:=Ext.trans ((Ext.refl W).drew) x2)
      | (go_at_call 83
         refine (wam _ _ _ _ wI).mono ?_;rintro e w3 ⟨v3,rfl,⟨v4,rfl,A2,c2,rfl,q1,q2,q3⟩,x3⟩;have y3:Ext W w3:=Ext.trans y2 x3
         obtain ⟨r0,r1,f0,f1⟩:=HR.out w3 y3))
   have HF:=hid (kw (g:=w.heap.size+1+1) (z:=sgn neg (val ds+val ds')) (u0:=.bool false) (u1:=.slice none 0 0) (ay.out.trans y3) (by omega) r0 r1 rfl rfl ⟨_,rfl,A2,c2,rfl,q1,q2,q3⟩);clear HS aY HR y3 y2 x2 x3 q3 wI;go_wp2_with fail;exact bodyPost_ret (v:=.agg #[.bool (decide (sgn neg (val ds+val ds') < 0)),.slice A2 (dg (sgn neg (val ds+val ds')).natAbs).length c2]) (by simp [results,Tryz.results80,go_sem,r0,r1]) rfl HF.out
 · have Ce:(neg == aI)=false:=by simp [hn]
   go_enter Tryz.func80,Tryz.ntmps80;go_wp2_with fail;generalize hW:((w.alloc (Obj.cells #[.bool neg,.slice A ds.length c] 30)).alloc (Obj.cells #[.bool aI,.slice A' ds'.length c'] 30)).alloc (Obj.cells #[.bool false,.slice none 0 0] 30)=W;have ay:Hid (Ext w W):=by
    have:Ext w W:=by rw [<- hW]; exact (((Ext.refl w).alloc _).alloc _).alloc _
    exact this
   have qF:Hid (W.heap.size=w.heap.size+1+1+1):=by
    have:W.heap.size=w.heap.size+1+1+1:=by rw [<- hW]; simp
    exact this
   have HS:Hid (∀ W',Ext W W'->(Ext w W'/\W'.cell? ⟨w.heap.size,0,none⟩=some (.bool neg)/\W'.cell? ⟨w.heap.size,1,none⟩=some (.slice A ds.length c)/\W'.cell? ⟨w.heap.size+1,0,none⟩=some (.bool aI)/\W'.cell? ⟨w.heap.size+1,1,none⟩=some (.slice A' ds'.length c'))):=by
    intro W' hx;obtain ⟨hc,hf⟩:=hx.cells;have hsz:=qF.out;refine ⟨ay.out.trans hx,?_,?_,?_,?_⟩ <;> (rw [hc _ _ (by omega),<- hW]; simp [go_sem])
   have HR:Hid (∀ W',Ext W W'->(W'.cell? ⟨w.heap.size+1+1,0,none⟩=some (.bool false)/\W'.cell? ⟨w.heap.size+1+1,1,none⟩=some (.slice none 0 0)/\W'.frozen? ⟨w.heap.size+1+1,0,none⟩=false/\W'.frozen? ⟨w.heap.size+1+1,1,none⟩=false)):=by
    intro W' hx;obtain ⟨hc,hf⟩:=hx.cells;have hsz:=qF.out;refine ⟨?_,?_,?_,?_⟩ <;> first | (rw [hc _ _ (by omega),<- hW]; simp [go_sem]; done) | (rw [hf _ _ (by omega),<- hW]; simp [go_sem]; done)
   have aY:Hid (∀ W'' v0 v1,Ext W W''->∀ W',W'=(W''.setCell ⟨w.heap.size+1+1,0,none⟩ v0).setCell ⟨w.heap.size+1+1,1,none⟩ v1->(Ext w W'/\W'.cell? ⟨w.heap.size,0,none⟩=some (.bool neg)/\W'.cell? ⟨w.heap.size,1,none⟩=some (.slice A ds.length c)/\W'.cell? ⟨w.heap.size+1,0,none⟩=some (.bool aI)/\W'.cell? ⟨w.heap.size+1,1,none⟩=some (.slice A' ds'.length c'))):=by
    intro W'' v0 v1 hx W' bJ;obtain ⟨s1,c0,c1,c2,c3⟩:=HS.out W'' hx;rw [bJ];refine ⟨(s1.setCell (by simp; try omega) _).setCell (by simp; try omega) _,?_,?_,?_,?_⟩ <;> rw [ph _ _ _ _ (by simp; try omega),ph _ _ _ _ (by simp; try omega)] <;> assumption
   clear hW;obtain ⟨e0,b0,b1,b2,b3⟩:=HS.out W (Ext.refl W);refine (xaq _ _ ds ds' _ ⟨A,c,rfl,h1,h2,H3.out.ext e0⟩ ⟨A',c',rfl,jV,mi,mY.out.ext e0⟩).mono ?_;rintro e w1 ⟨rfl,n1,uN⟩;have y1:Ext W w1:=by rw [uN]; exact (Ext.refl W).drewN n1
   clear uN e0 b0 b1 b2 b3;obtain ⟨e0,b0,b1,b2,b3⟩:=HS.out w1 y1;have E0:=hid e0;have Y1:=hid y1;clear e0 y1;have HN:=hid hn;have HZ:=hid hz;have IU:=hid lH;clear hn hz lH
   by_cases oJ:val ds'<=val ds
   · have gU:0<=jh (val ds) (val ds'):=by unfold jh; split <;> (try split) <;> omega
     have FI:=(zak (val ds) (val ds')).2;generalize jh (val ds) (val ds')=cm at *;go_wp2_with fail;refine (vbk _ _ ds ds' _ ⟨A,c,rfl,h1,h2,H3.out.ext E0.out⟩ ⟨A',c',rfl,jV,mi,mY.out.ext E0.out⟩ (by omega) oJ).mono ?_;rintro e w2 ⟨v2,rfl,wI,-,x2⟩;have y2:=Y1.out.trans x2;obtain ⟨e0',b0',b1',b2',b3'⟩:=HS.out w2 y2;have NV2:=hid wI;have Y2:=hid y2;clear wI y2 x2 e0' b0 b1 b2 b3;go_wp2_with fail;refine (wam _ _ _ _ NV2.out).mono ?_;rintro e w3 ⟨v3,rfl,⟨v4,rfl,A2,c2,rfl,q1,q2,q3⟩,x3⟩;have y3:Ext W w3:=Ext.trans Y2.out x3;obtain ⟨r0,r1,f0,f1⟩:=HR.out w3 y3;have HF:=hid (kw (g:=w.heap.size+1+1) (z:=sgn neg (val ds - val ds')) (u0:=.bool false) (u1:=.slice none 0 0) (ay.out.trans y3) (by omega) r0 r1 rfl rfl ⟨_,rfl,A2,c2,rfl,q1,q2,q3⟩);have oK:a+b=sgn neg (val ds - val ds'):=by
      have:=HN.out;rw [HZ.out,IU.out]; cases neg <;> cases aI <;> simp_all [sgn] <;> omega
     have HAB:=hid oK;clear y3 q3 x3 oK;go_wp2_with fail;refine bodyPost_ret (v:=.agg #[.bool (decide (sgn neg (val ds - val ds') < 0)),.slice A2 (dg (sgn neg (val ds - val ds')).natAbs).length c2]) (by simp [results,Tryz.results80,go_sem,r0,r1]) rfl ?_;rw [HAB.out];exact HF.out
   · have gU:jh (val ds) (val ds') < 0:=by rw [yag (by omega)]; omega
     have FI:=(zak (val ds) (val ds')).1;generalize jh (val ds) (val ds')=cm at *;go_wp2_with fail;refine (vbk _ _ ds' ds _ ⟨A',c',rfl,jV,mi,mY.out.ext E0.out⟩ ⟨A,c,rfl,h1,h2,H3.out.ext E0.out⟩ (by omega) (by omega)).mono ?_;rintro e w2 ⟨v2,rfl,wI,-,x2⟩;have y2:=Y1.out.trans x2;obtain ⟨e0',b0',b1',b2',b3'⟩:=HS.out w2 y2;have NV2:=hid wI;have Y2:=hid y2;clear wI y2 x2 e0' b0 b1 b2 b3;go_wp2_with fail;refine (wam _ _ _ _ NV2.out).mono ?_;rintro e w3 ⟨v3,rfl,⟨v4,rfl,A2,c2,rfl,q1,q2,q3⟩,x3⟩;have y3:Ext W w3:=Ext.trans Y2.out x3;obtain ⟨r0,r1,f0,f1⟩:=HR.out w3 y3;have HF:=hid (kw (g:=w.heap.size+1+1) (z:=sgn aI (val ds' - val ds)) (u0:=.bool false) (u1:=.slice none 0 0) (ay.out.trans y3) (by omega) r0 r1 rfl rfl ⟨_,rfl,A2,c2,rfl,q1,q2,q3⟩);have oK:a+b=sgn aI (val ds' - val ds):=by
      have:=HN.out;rw [HZ.out,IU.out]; cases neg <;> cases aI <;> simp_all [sgn] <;> omega
     have HAB:=hid oK;clear y3 q3 x3 oK;go_wp2_with fail;refine bodyPost_ret (v:=.agg #[.bool (decide (sgn aI (val ds' - val ds) < 0)),.slice A2 (dg (sgn aI (val ds' - val ds)).natAbs).length c2]) (by simp [results,Tryz.results80,go_sem,r0,r1]) rfl ?_;rw [HAB.out];exact HF.out
theorem wca (x y:Value) (a b:Int) (L M:Nat) (w:World) (h:jm w x a L) (k:jm w y b M) :
 Calls Tryz.prog 78 #[x,y] w fun e w'=>e=.returned (.int .i64 (jh a b))/\Ext w w':=by
 obtain ⟨neg,v,ds,rfl,⟨A,c,rfl,h1,h2,h3⟩,hz,hl⟩:=h;obtain ⟨aI,v',ds',rfl,⟨A',c',rfl,jV,mi,lg⟩,lH,mQ⟩:=k;have H3:=hid h3;have mY:=hid lg;have HZ:=hid hz;have IU:=hid lH;clear h3 lg hz lH;go_enter Tryz.func78,Tryz.ntmps78;go_wp2_with fail;generalize hW:(w.alloc (Obj.cells #[.bool neg,.slice A ds.length c] 30)).alloc (Obj.cells #[.bool aI,.slice A' ds'.length c'] 30)=W;have ay:Hid (Ext w W):=by
  have:Ext w W:=by rw [<- hW]; exact ((Ext.refl w).alloc _).alloc _
  exact this
 have qF:Hid (W.heap.size=w.heap.size+1+1):=by
  have:W.heap.size=w.heap.size+1+1:=by rw [<- hW]; simp
  exact this
 have HS:Hid (∀ W',Ext W W'->(Ext w W'/\W'.cell? ⟨w.heap.size,0,none⟩=some (.bool neg)/\W'.cell? ⟨w.heap.size,1,none⟩=some (.slice A ds.length c)/\W'.cell? ⟨w.heap.size+1,0,none⟩=some (.bool aI)/\W'.cell? ⟨w.heap.size+1,1,none⟩=some (.slice A' ds'.length c'))):=by
  intro W' hx;obtain ⟨hc,hf⟩:=hx.cells;have hsz:=qF.out;refine ⟨ay.out.trans hx,?_,?_,?_,?_⟩ <;> (rw [hc _ _ (by omega),<- hW]; simp [go_sem])
 clear hW
 go_region_held3 (fun W' => Ext w W' /\ W'.cell? ⟨w.heap.size, 0, none⟩ = some (.bool neg) /\ W'.cell? ⟨w.heap.size, 1, none⟩ = some (.slice A ds.length c) /\ W'.cell? ⟨w.heap.size + 1, 0, none⟩ = some (.bool aI) /\ W'.cell? ⟨w.heap.size + 1, 1, none⟩ = some (.slice A' ds'.length c'))
  (first | exact HS.out _ ((Ext.refl W).drew) | exact HS.out _ (by assumption))
  (first
    | (go_at_call_of 70 (Value.agg #[.bool neg,.slice A ds.length c])
       have bQ:=(‹Ext w _/\_›).1;refine (vau _ a L _ ⟨neg,_,ds,rfl,⟨A,c,rfl,h1,h2,H3.out.ext bQ⟩,HZ.out,hl⟩).mono ?_;rintro e w2 ⟨rfl,x2⟩
       have y2:Ext W w2:=Ext.trans ((Ext.refl W).drew) x2)
    | (go_at_call_of 70 (Value.agg #[.bool aI,.slice A' ds'.length c'])
       have bQ:=(‹Ext w _/\_›).1;refine (vau _ b M _ ⟨aI,_,ds',rfl,⟨A',c',rfl,jV,mi,mY.out.ext bQ⟩,IU.out,mQ⟩).mono ?_;rintro e w3 ⟨rfl,x3⟩
       have y3:Ext W w3:=Ext.trans y2 x3))
 obtain ⟨e0,b0,b1,b2,b3⟩:=HS.out w3 y3;have E0:=hid e0;have bA:=zak a 0;have bB:=zak b 0;have MQ:Hid (sgI a=jh a 0):=rfl;have Yu:Hid (sgI b=jh b 0):=rfl
 change -1<=sgI a/\sgI a<=1 at bA
 change -1<=sgI b/\sgI b<=1 at bB
 obtain ⟨bA0,bA1⟩:=bA;obtain ⟨bB0,bB1⟩:=bB;clear e0 y2 y3 x2 x3 HS;generalize sgI a=sa at *;generalize sgI b=sb at *;rcases wg sa sb with af | heq | H9
 · go_wp2_with fail;go_ret;exact ⟨yap (yag (jbx (by rw [<- MQ.out,<- Yu.out]; exact af))).symm,E0.out⟩
 · subst heq
   by_cases vH:sa < 0
   · go_wp2_with fail;refine (xaq _ _ ds' ds _ ⟨A',c',rfl,jV,mi,mY.out.ext E0.out⟩ ⟨A,c,rfl,h1,h2,H3.out.ext E0.out⟩).mono ?_;rintro e w4 ⟨rfl,n4,Ob⟩;have y4:Ext w w4:=by rw [Ob]; exact E0.out.drewN n4
     have Y4:=hid y4;have gU:jh (val ds') (val ds)=jh a b:=by
      have ha:a < 0:=by have:=MQ.out; unfold jh at this; split at this <;> (try split at this) <;> omega
      have hb:b < 0:=by have:=Yu.out; unfold jh at this; split at this <;> (try split at this) <;> omega
      have z1:=HZ.out;have z2:=IU.out;cases neg <;> cases aI <;> simp [sgn] at z1 z2 <;> first | omega | (rw [z1,z2]; unfold jh; split <;> (try split) <;> (try split) <;> (try split) <;> omega)
     have DR:=hid gU;clear Ob y4 gU;go_wp2_with fail;go_ret;exact ⟨yap DR.out,Y4.out⟩
   · go_wp2_with fail;refine (xaq _ _ ds ds' _ ⟨A,c,rfl,h1,h2,H3.out.ext E0.out⟩ ⟨A',c',rfl,jV,mi,mY.out.ext E0.out⟩).mono ?_;rintro e w4 ⟨rfl,n4,Ob⟩;have y4:Ext w w4:=by rw [Ob]; exact E0.out.drewN n4
     have Y4:=hid y4;have gU:jh (val ds) (val ds')=jh a b:=by
      have ha:0<=a:=by have:=MQ.out; unfold jh at this; split at this <;> (try split at this) <;> omega
      have hb:0<=b:=by have:=Yu.out; unfold jh at this; split at this <;> (try split at this) <;> omega
      have z1:=HZ.out;have z2:=IU.out;have e1:a=val ds:=by cases neg <;> simp [sgn] at z1 <;> omega
      have e2:b=val ds':=by cases aI <;> simp [sgn] at z2 <;> omega
      rw [e1,e2]
     have DR:=hid gU;clear Ob y4 gU;go_wp2_with fail;go_ret;exact ⟨yap DR.out,Y4.out⟩
 · go_wp2_with fail;go_ret;exact ⟨yap (qaq (jbx (by rw [<- MQ.out,<- Yu.out]; exact H9))).symm,E0.out⟩
theorem jm.unpack {w:World} {x:Value} {z:Int} {L:Nat} (h:jm w x z L):∃ b A n c,x=.agg #[.bool b,.slice A n c]:=by
 obtain ⟨neg,v,ds,rfl,⟨A,c,rfl,-⟩,-⟩:=h;exact ⟨neg,A,_,c,rfl⟩
theorem ul.unpack {w:World} {x:Value} {z:Int} (h:ul w x z):∃ b A n c,x=.agg #[.bool b,.slice A n c]:=h.raw.unpack
end Go.Proofs.YtcepajijiabkmaaGreat
