/- Layer 2 (integer): what each function returns. -/
import Derived.Test.YtcepajijiabkmaaGreatMo3
set_option linter.all false
set_option maxRecDepth 100000
set_option maxHeartbeats 8000000
namespace Go.Proofs.YtcepajijiabkmaaGreat
open Lib (hid)
open Go.RowKit
def sgn (neg:Bool) (n:Nat):Int:=if neg then -(n:Int) else n
theorem qw (neg:Bool) (n:Nat):(sgn neg n).natAbs=n:=by cases neg <;> simp [sgn]
def qo (w:World) (x:Value) (z:Int) (L:Nat):Prop:=∃ neg v ds,x=.agg #[.bool neg,v]/\jc w v ds/\z=sgn neg (val ds)/\ds.length<=L
def qm (w:World) (x:Value) (z:Int):Prop:=∃ v,x=.agg #[.bool (decide (z < 0)),v]/\jc w v (dg z.natAbs)
theorem xaq (z:Int):sgn (decide (z < 0)) z.natAbs=z:=by
 unfold sgn
 by_cases h:z < 0
 · simp [h]; omega
 · simp [h]; omega
theorem qm.raw {w:World} {x:Value} {z:Int} (h:qm w x z):qo w x z (dg z.natAbs).length:=by
 obtain ⟨v,e,hv⟩:=h;exact ⟨_,v,_,e,hv,by rw [jg,xaq],pj _⟩
theorem qo.mono {w:World} {x:Value} {z:Int} {L L':Nat} (h:qo w x z L) (hl:L<=L'):qo w x z L':=by
 obtain ⟨neg,v,ds,e,hv,hz,mX⟩:=h;exact ⟨neg,v,ds,e,hv,hz,py mX hl⟩
theorem qo.ext {w w':World} {x:Value} {z:Int} {L:Nat} (h:qo w x z L) (hx:Ext w w'):qo w' x z L:=by
 obtain ⟨neg,v,ds,e,hv,hz,mX⟩:=h;exact ⟨neg,v,ds,e,hv.ext hx,hz,mX⟩
theorem qm.ext {w w':World} {x:Value} {z:Int} (h:qm w x z) (hx:Ext w w'):qm w' x z:=by
 obtain ⟨v,e,hv⟩:=h;exact ⟨v,e,hv.ext hx⟩
theorem qo.len {w:World} {x:Value} {z:Int} {L:Nat} (h:qo w x z L):(dg z.natAbs).length<=L:=by
 obtain ⟨neg,v,ds,e,hv,rfl,mX⟩:=h;rw [qw];exact py (zi hv.kr) mX
def uo : Value -> Bool
 | .int .u32 _=>true
 | _=>false
theorem uj.box {w:World} {A:Option Addr} {ds:List Nat} {p:Addr} {u:Value} (h:uj w A ds) (hp:w.cell? p=some u) (hu:uo u=false) (v:Value):uj (w.setCell p v) A ds:=
 ⟨h.1,fun hl=>by
   obtain ⟨ad,e,hb,hc⟩:=h.2 hl;refine ⟨ad,e,by simpa [World.setCell] using hb,fun j hj=>?_⟩;rw [ph w p _ v (fun e=>by rw [e,hc j hj] at hp; injection hp with hp; rw [<- hp] at hu; cases hu)]
   exact hc j hj⟩
theorem jc.box {w:World} {x:Value} {ds:List Nat} {p:Addr} {u:Value} (h:jc w x ds) (hp:w.cell? p=some u) (hu:uo u=false) (v:Value):jc (w.setCell p v) x ds:=by
 obtain ⟨A,c,e,h1,h2,h3⟩:=h;exact ⟨A,c,e,h1,h2,h3.box hp hu v⟩
theorem qm.box {w:World} {x:Value} {z:Int} {p:Addr} {u:Value} (h:qm w x z) (hp:w.cell? p=some u) (hu:uo u=false) (v:Value):qm (w.setCell p v) x z:=by
 obtain ⟨y,e,hy⟩:=h;exact ⟨y,e,hy.box hp hu v⟩
def gai (z:Int) (w:World) (e:Ending) (w':World):Prop:=∃ x,e=.returned x/\qm w' x z/\Ext w w'
theorem yx {w W : World} {g : Nat} {z : Int} {b s u0 u1 : Value} (hx : Ext w W) (hg : w.heap.size <= g) (h0 : W.cell? ⟨g, 0, none⟩ = some u0) (h1 : W.cell? ⟨g, 1, none⟩ = some u1)
 (d0:uo u0=false) (d1:uo u1=false) (hN:qm W (.agg #[b,s]) z):gai z w (.returned (.agg #[b,s])) ((W.setCell ⟨g,0,none⟩ b).setCell ⟨g,1,none⟩ s):=by
 refine ⟨_,rfl,(hN.box h0 d0 b).box (u:=u1) ?_ d1 s,(hx.setCell (by simpa using hg) _).setCell (by simpa using hg) _⟩;rw [ph _ _ _ _ (by simp),h1]
theorem jbc (neg:Bool) (n:Nat):decide (sgn neg n < 0)=(neg && decide (0 < (dg n).length)):=by
 have h:0 < (dg n).length ↔ 0 < n:=by
  constructor
  · intro h; rcases tU n with e | e
    · subst e; rw [zo] at h; simp at h
    · exact e
  · intro h; exact ual (by omega)
 cases neg
 · simp [sgn]
 · simp only [sgn,if_true,Bool.true_and];rw [RM,decide_eq_true_eq,decide_eq_true_eq,h]; omega
theorem yao (neg:Bool) (v:Value) (n:Nat) (w:World) (h:jc w v (dg n)):Calls Tryz.prog 83 #[.bool neg,v] w (gai (sgn neg n) w):=by
 obtain ⟨A,c,rfl,h1,h2,h3⟩:=h;have H3:=hid h3;clear h3;have HS:=hid (jbc neg n);generalize hE:dg n=E at *;have HE:=hid hE;clear hE;have HF:Hid (∀ b,b=(neg && decide (0 < E.length))->gai (sgn neg n) w (.returned (.agg #[.bool b,.slice A E.length c])) (w.alloc (Obj.cells #[.bool b,.slice A E.length c] 30))):=by
  intro b hb;refine ⟨_,rfl,⟨.slice A E.length c,?_,A,c,?_,?_,h2,?_⟩,(Ext.refl w).alloc _⟩
  · rw [hb,HS.out]
  · rw [qw,HE.out]
  · rw [qw,HE.out]; exact h1
  · rw [qw,HE.out]; exact H3.out.ext ((Ext.refl w).alloc _)
 cases neg
 · go_enter Tryz.func83,Tryz.ntmps83
   go_wp2
   exact bodyPost_ret (v:=.agg #[.bool false,.slice A E.length c]) (by simp [results,paY,go_sem]) rfl (HF.out _ rfl)
 · by_cases hl:0 < E.length
   · have ru:decide ((E.length:Int) > 0)=true:=by simp; omega
     go_enter Tryz.func83,Tryz.ntmps83
     go_wp2
     exact bodyPost_ret (v:=.agg #[.bool true,.slice A E.length c]) (by simp [results,paY,go_sem]) rfl (HF.out _ (by simp [hl]))
   · go_enter Tryz.func83,Tryz.ntmps83
     go_wp2
     exact bodyPost_ret (v:=.agg #[.bool false,.slice A E.length c]) (by simp [results,paY,go_sem]) rfl (HF.out _ (by simp [hl]))
theorem yar (neg:Bool) (v:Value) (ds:List Nat) (w:World) (h:jc w v ds) (hs:ds.length<=35184372088832):Calls Tryz.prog 56 #[.bool neg,v] w (gai (sgn neg (val ds)) w):=by
 go_enter Tryz.func56,Tryz.ntmps56;go_wp2_with fail;refine (jac _ _ _ (h.ext ((Ext.refl w).alloc _)) hs).mono ?_;rintro e w1 ⟨v1,rfl,hv,hx⟩;go_wp2_with fail;refine (yao _ _ _ _ hv).mono ?_;rintro e w2 ⟨x,rfl,⟨v2,rfl,uQ⟩,aN⟩;obtain ⟨A2,c2,rfl,q1,q2,q3⟩:=uQ;have rQ:=hx.trans aN;obtain ⟨hc,hf⟩:=rQ.cells;have hz:=rQ.size;have HF:=hid (yx (g:=w.heap.size) (z:=sgn neg (val ds)) (u0:=.bool false) (u1:=.slice none 0 0) (((Ext.refl w).alloc (Obj.cells #[.bool false,.slice none 0 0] 30)).trans rQ) (pj _) (by rw [hc _ _ (by simp)]; simp [Pt]) (by rw [hc _ _ (by simp)]; simp [Pt]) rfl rfl ⟨_,rfl,A2,c2,rfl,q1,q2,q3⟩);clear hv hx aN rQ q3;rw [tP] at hz;go_wp2_with fail;exact bodyPost_ret (v:=.agg #[.bool (decide (sgn neg (val ds) < 0)),.slice A2 (dg (sgn neg (val ds)).natAbs).length c2]) (by simp [results,Tryz.results56,go_sem,hc]) rfl HF.out
theorem wao (x:Value) (z:Int) (L:Nat) (w:World) (h:qo w x z L) (hs:L<=35184372088832):Calls Tryz.prog 32 #[x] w (gai (z) w):=by
 obtain ⟨neg,v,ds,rfl,⟨A,c,rfl,h1,h2,h3⟩,hz,hl⟩:=h;have Aw:z=sgn (neg) (val ds):=by rw [hz]
 rw [Aw];clear hz Aw;have aC:Ext w ((w.alloc (Obj.cells #[.bool neg,.slice A ds.length c] 30)).alloc (Obj.cells #[.bool false,.slice none 0 0] 30)):=((Ext.refl w).alloc _).alloc _;have ay:=hid aC;have H3:=hid h3;clear aC h3;go_enter Tryz.func32,Tryz.ntmps32;go_wp2_with fail;refine (yar _ _ _ _ ⟨A,c,rfl,h1,h2,H3.out.ext ay.out⟩ (by omega)).mono ?_;rintro e w2 ⟨x,rfl,⟨v2,rfl,A2,c2,rfl,q1,q2,q3⟩,aN⟩;obtain ⟨hc,hf⟩:=aN.cells;have hz:=aN.size;have HF:=hid (yx (g:=w.heap.size+1) (z:=sgn (neg) (val ds)) (u0:=.bool false) (u1:=.slice none 0 0) (ay.out.trans aN) (by omega) (by rw [hc _ _ (by simp)]; simp [go_sem]) (by rw [hc _ _ (by simp)]; simp [go_sem]) rfl rfl ⟨_,rfl,A2,c2,rfl,q1,q2,q3⟩);clear aN q3;rw [tP,tP] at hz;go_wp2_with fail;exact bodyPost_ret (v:=.agg #[.bool (decide (sgn (neg) (val ds) < 0)),.slice A2 (dg (sgn (neg) (val ds)).natAbs).length c2]) (by simp [results,Tryz.results32,go_sem,hc]) rfl HF.out
theorem qdc (x:Value) (z:Int) (L:Nat) (w:World) (h:qo w x z L) (hs:L<=35184372088832):Calls Tryz.prog 71 #[x] w (gai (-z) w):=by
 obtain ⟨neg,v,ds,rfl,⟨A,c,rfl,h1,h2,h3⟩,hz,hl⟩:=h;have Aw:-z=sgn (!neg) (val ds):=by rw [hz]; cases neg <;> simp [sgn]
 rw [Aw];clear hz Aw;have aC:Ext w ((w.alloc (Obj.cells #[.bool neg,.slice A ds.length c] 30)).alloc (Obj.cells #[.bool false,.slice none 0 0] 30)):=((Ext.refl w).alloc _).alloc _;have ay:=hid aC;have H3:=hid h3;clear aC h3;go_enter Tryz.func71,Tryz.ntmps71;go_wp2_with fail;refine (yar _ _ _ _ ⟨A,c,rfl,h1,h2,H3.out.ext ay.out⟩ (by omega)).mono ?_;rintro e w2 ⟨x,rfl,⟨v2,rfl,A2,c2,rfl,q1,q2,q3⟩,aN⟩;obtain ⟨hc,hf⟩:=aN.cells;have hz:=aN.size;have HF:=hid (yx (g:=w.heap.size+1) (z:=sgn (!neg) (val ds)) (u0:=.bool false) (u1:=.slice none 0 0) (ay.out.trans aN) (by omega) (by rw [hc _ _ (by simp)]; simp [go_sem]) (by rw [hc _ _ (by simp)]; simp [go_sem]) rfl rfl ⟨_,rfl,A2,c2,rfl,q1,q2,q3⟩);clear aN q3;rw [tP,tP] at hz;go_wp2_with fail;exact bodyPost_ret (v:=.agg #[.bool (decide (sgn (!neg) (val ds) < 0)),.slice A2 (dg (sgn (!neg) (val ds)).natAbs).length c2]) (by simp [results,Tryz.results71,go_sem,hc]) rfl HF.out
def sgI (z:Int):Int:=uh z 0
theorem gav (x:Value) (z:Int) (L:Nat) (w:World) (h:qo w x z L):Calls Tryz.prog 70 #[x] w fun e w'=>e=.returned (.int .i64 (sgI z))/\Ext w w':=by
 obtain ⟨neg,v,ds,rfl,⟨A,c,rfl,h1,h2,h3⟩,hz,hl⟩:=h;have ay:Hid (Ext w (w.alloc (Obj.cells #[.bool neg,.slice A ds.length c] 30))):=(Ext.refl w).alloc _;have H3:=hid h3;have HZ:=hid hz;clear h3 hz;go_enter Tryz.func70,Tryz.ntmps70;go_wp2_with fail;refine (ga4 _ _ _ ⟨A,c,rfl,h1,h2,H3.out.ext ay.out⟩).mono ?_;rintro e w2 ⟨rfl,rfl⟩
 by_cases h0:val ds=0
 · have hb:(val ds == 0)=true:=by simp [h0]
   have H0:=hid h0;clear h0;go_wp2_with fail;go_ret;exact ⟨kaq (by rw [HZ.out,H0.out]; cases neg <;> rfl),ay.out⟩
 · have hb:(val ds == 0)=false:=by simp [h0]
   cases neg
   · go_wp2_with fail;go_ret;exact ⟨kaq (by rw [HZ.out]; exact (kar (by simp [sgn]; omega)).symm),ay.out⟩
   · go_wp2_with fail;go_ret;exact ⟨kaq (by rw [HZ.out]; exact (jah (by simp [sgn]; omega)).symm),ay.out⟩
theorem of_int (z:Int) (w:World) (h0:-9223372036854775808<=z) (h1:z<=9223372036854775807):Calls Tryz.prog 11 #[.int .i64 z] w (gai z w):=by
 have ay:Hid (Ext w (w.alloc (Obj.cells #[.bool false,.slice none 0 0] 30))):=(Ext.refl w).alloc _
 by_cases hn:z < 0
 · go_enter Tryz.func11,Tryz.ntmps11;go_wp2_with fail;have e1:IntKind.u64.wrap (-IntKind.u64.wrap z)=((z.natAbs:Nat):Int):=by
    rw [IntKind.wrap_u64,IntKind.wrap_u64]; omega
   rw [e1];refine (uay _ _ (by omega)).mono ?_;rintro e w2 ⟨v,rfl,⟨A2,c2,rfl,q1,q2,q3⟩,aN⟩;obtain ⟨hc,hf⟩:=aN.cells;have hz:=aN.size;have HF:=hid (yx (g:=w.heap.size) (z:=z) (u0:=.bool false) (u1:=.slice none 0 0) (ay.out.trans aN) (by omega) (by rw [hc _ _ (by simp)]; simp [Pt]) (by rw [hc _ _ (by simp)]; simp [Pt]) rfl rfl ⟨_,by rw [decide_eq_true hn],A2,c2,rfl,q1,q2,q3⟩);clear aN q3 e1;rw [tP] at hz;go_wp2_with fail;exact bodyPost_ret (v:=.agg #[.bool true,.slice A2 (dg z.natAbs).length c2]) (by simp [results,Tryz.results11,go_sem,hc]) rfl HF.out
 · obtain ⟨n,rfl⟩:=sM (show 0<=z by omega);go_enter Tryz.func11,Tryz.ntmps11;go_wp2_with fail;refine (uay _ _ (by omega)).mono ?_;rintro e w2 ⟨v,rfl,⟨A2,c2,rfl,q1,q2,q3⟩,aN⟩;obtain ⟨hc,hf⟩:=aN.cells;have hz:=aN.size;have HF:=hid (yx (g:=w.heap.size) (z:=(n:Int)) (b:=.bool false) (u0:=.bool false) (u1:=.slice none 0 0) (ay.out.trans aN) (by omega) (by rw [hc _ _ (by simp)]; simp [Pt]) (by rw [hc _ _ (by simp)]; simp [Pt]) rfl rfl ⟨_,by rw [decide_eq_false (by omega)],A2,c2,rfl,q1,q2,q3⟩);clear aN q3;rw [tP] at hz;go_wp2_with fail;exact bodyPost_ret (v:=.agg #[.bool false,.slice A2 (dg n).length c2]) (by simp [results,Tryz.results11,go_sem,hc]) rfl HF.out
theorem udc (x y:Value) (a b:Int) (L M:Nat) (w:World) (h:qo w x a L) (k:qo w y b M) (hs:L+M<=35184372088000) :
 Calls Tryz.prog 66 #[x,y] w (gai (a * b) w):=by
 obtain ⟨neg,v,ds,rfl,⟨A,c,rfl,h1,h2,h3⟩,hz,hl⟩:=h;obtain ⟨aI,v',ds',rfl,⟨A',c',rfl,jR,mD,kZ⟩,lI,mX⟩:=k;have kF:a * b=sgn (!neg == aI) (val ds * val ds'):=by
  rw [hz,lI]; cases neg <;> cases aI <;> simp [sgn,Int.neg_mul,Int.mul_neg]
 rw [kF];have H3:=hid h3;have nC:=hid kZ;clear h3 kZ hz lI kF;go_enter Tryz.func66,Tryz.ntmps66;go_wp2_with fail;generalize hW:((w.alloc (Obj.cells #[.bool neg,.slice A ds.length c] 30)).alloc (Obj.cells #[.bool aI,.slice A' ds'.length c'] 30)).alloc (Obj.cells #[.bool false,.slice none 0 0] 30)=W;have ay:Hid (Ext w W):=by
  have:Ext w W:=by rw [<- hW]; exact (((Ext.refl w).alloc _).alloc _).alloc _
  exact this
 have HS:Hid (∀ W',Ext W W'->(Ext w W'/\W'.cell? ⟨w.heap.size,0,none⟩=some (.bool neg)/\W'.cell? ⟨w.heap.size,1,none⟩=some (.slice A ds.length c)/\W'.cell? ⟨w.heap.size+1,0,none⟩=some (.bool aI)/\W'.cell? ⟨w.heap.size+1,1,none⟩=some (.slice A' ds'.length c'))):=by
  intro W' hx;obtain ⟨hc,hf⟩:=hx.cells;have hsz:W.heap.size=w.heap.size+1+1+1:=by rw [<- hW]; simp
  refine ⟨ay.out.trans hx,?_,?_,?_,?_⟩ <;> (rw [hc _ _ (by omega),<- hW]; simp [go_sem])
 have HR:Hid (∀ W',Ext W W'->(W'.cell? ⟨w.heap.size+1+1,0,none⟩=some (.bool false)/\W'.cell? ⟨w.heap.size+1+1,1,none⟩=some (.slice none 0 0)/\W'.frozen? ⟨w.heap.size+1+1,0,none⟩=false/\W'.frozen? ⟨w.heap.size+1+1,1,none⟩=false)):=by
  intro W' hx;obtain ⟨hc,hf⟩:=hx.cells;have hsz:W.heap.size=w.heap.size+1+1+1:=by rw [<- hW]; simp
  refine ⟨?_,?_,?_,?_⟩ <;> first | (rw [hc _ _ (by omega),<- hW]; simp [go_sem]; done) | (rw [hf _ _ (by omega),<- hW]; simp [go_sem]; done)
 have bC:Hid (∀ W'' u v,Ext W W''->∀ W',W'=(W''.setCell ⟨w.heap.size+1+1,0,none⟩ u).setCell ⟨w.heap.size+1+1,1,none⟩ v->(Ext w W'/\W'.cell? ⟨w.heap.size,0,none⟩=some (.bool neg)/\W'.cell? ⟨w.heap.size,1,none⟩=some (.slice A ds.length c)/\W'.cell? ⟨w.heap.size+1,0,none⟩=some (.bool aI)/\W'.cell? ⟨w.heap.size+1,1,none⟩=some (.slice A' ds'.length c'))):=by
  intro W'' u v hx W' bJ;obtain ⟨s1,s2,s3,s4,s5⟩:=HS.out W'' hx;rw [bJ];refine ⟨(s1.setCell (by simp; omega) _).setCell (by simp; omega) _,?_,?_,?_,?_⟩ <;> rw [ph _ _ _ _ (by simp),ph _ _ _ _ (by simp)] <;> assumption
 clear hW
 go_region_held3 (fun W' => Ext w W' /\ W'.cell? ⟨w.heap.size, 0, none⟩ = some (.bool neg) /\ W'.cell? ⟨w.heap.size, 1, none⟩ = some (.slice A ds.length c) /\ W'.cell? ⟨w.heap.size + 1, 0, none⟩ = some (.bool aI) /\ W'.cell? ⟨w.heap.size + 1, 1, none⟩ = some (.slice A' ds'.length c'))
  (first | exact HS.out _ ((Ext.refl W).drew) | exact HS.out _ (by assumption) | exact bC.out _ _ _ (by assumption) _ rfl)
  (first
    | (go_at_call 89
       have bQ:=(‹Ext w _/\_›).1;refine (vdc _ _ ds ds' _ ⟨A,c,rfl,h1,h2,H3.out.ext bQ⟩ ⟨A',c',rfl,jR,mD,nC.out.ext bQ⟩ (by omega)).mono ?_;rintro e w2 ⟨v2,rfl,wG,x2⟩
       have y2:Ext W w2:=Ext.trans ((Ext.refl W).drew) x2)
    | (go_at_call 83
       refine (yao _ _ _ _ wG).mono ?_;rintro e w3 ⟨v3,rfl,⟨v4,rfl,A2,c2,rfl,q1,q2,q3⟩,x3⟩;have y3:Ext W w3:=Ext.trans y2 x3
       obtain ⟨r1,r2,r3,r4⟩:=HR.out w3 y3))
 have HF:=hid (yx (g:=w.heap.size+1+1) (z:=sgn (!neg == aI) (val ds * val ds')) (u0:=.bool false) (u1:=.slice none 0 0) (ay.out.trans y3) (by omega) r1 r2 rfl rfl ⟨_,rfl,A2,c2,rfl,q1,q2,q3⟩);clear HS bC HR y3 y2 x2 x3 q3 wG;go_wp2_with fail;exact bodyPost_ret (v:=.agg #[.bool (decide (sgn (!neg == aI) (val ds * val ds') < 0)),.slice A2 (dg (sgn (!neg == aI) (val ds * val ds')).natAbs).length c2]) (by simp [results,Tryz.results66,go_sem,r1,r2]) rfl HF.out
theorem wb1 {a b:Int} (h:uh a 0 < uh b 0):a < b:=by
 rcases wj a 0 with ha | ha | ha
 · rcases wj b 0 with hb | hb | hb
   · rw [jah ha,jah hb] at h; omega
   · omega
   · omega
 · rcases wj b 0 with hb | hb | hb
   · rw [uaa ha,jah hb] at h; omega
   · rw [uaa ha,uaa hb] at h; omega
   · omega
 · have:=(xal b 0).2;rw [kar ha] at h; omega
theorem gcf (x y:Value) (a b:Int) (L M:Nat) (w:World) (h:qo w x a L) (k:qo w y b M) (hs:L+M<=35184372088000) :
 Calls Tryz.prog 80 #[x,y] w (gai (a+b) w):=by
 obtain ⟨neg,v,ds,rfl,⟨A,c,rfl,h1,h2,h3⟩,hz,hl⟩:=h;obtain ⟨aI,v',ds',rfl,⟨A',c',rfl,jR,mD,kZ⟩,lI,mX⟩:=k;have H3:=hid h3;have nC:=hid kZ;clear h3 kZ
 by_cases hn:neg=aI
 · subst hn;have kF:a+b=sgn neg (val ds+val ds'):=by rw [hz,lI]; cases neg <;> simp [sgn] <;> omega
   rw [kF];clear hz lI kF;have Ce:(neg == neg)=true:=by simp
   go_enter Tryz.func80,Tryz.ntmps80;go_wp2_with fail;generalize hW:((w.alloc (Obj.cells #[.bool neg,.slice A ds.length c] 30)).alloc (Obj.cells #[.bool neg,.slice A' ds'.length c'] 30)).alloc (Obj.cells #[.bool false,.slice none 0 0] 30)=W;have ay:Hid (Ext w W):=by
    have:Ext w W:=by rw [<- hW]; exact (((Ext.refl w).alloc _).alloc _).alloc _
    exact this
   have qG:Hid (W.heap.size=w.heap.size+1+1+1):=by
    have:W.heap.size=w.heap.size+1+1+1:=by rw [<- hW]; simp
    exact this
   have HS:Hid (∀ W',Ext W W'->(Ext w W'/\W'.cell? ⟨w.heap.size,0,none⟩=some (.bool neg)/\W'.cell? ⟨w.heap.size,1,none⟩=some (.slice A ds.length c)/\W'.cell? ⟨w.heap.size+1,0,none⟩=some (.bool neg)/\W'.cell? ⟨w.heap.size+1,1,none⟩=some (.slice A' ds'.length c'))):=by
    intro W' hx;obtain ⟨hc,hf⟩:=hx.cells;have hsz:=qG.out;refine ⟨ay.out.trans hx,?_,?_,?_,?_⟩ <;> (rw [hc _ _ (by omega),<- hW]; simp [go_sem])
   have HR:Hid (∀ W',Ext W W'->(W'.cell? ⟨w.heap.size+1+1,0,none⟩=some (.bool false)/\W'.cell? ⟨w.heap.size+1+1,1,none⟩=some (.slice none 0 0)/\W'.frozen? ⟨w.heap.size+1+1,0,none⟩=false/\W'.frozen? ⟨w.heap.size+1+1,1,none⟩=false)):=by
    intro W' hx;obtain ⟨hc,hf⟩:=hx.cells;have hsz:=qG.out;refine ⟨?_,?_,?_,?_⟩ <;> first | (rw [hc _ _ (by omega),<- hW]; simp [go_sem]; done) | (rw [hf _ _ (by omega),<- hW]; simp [go_sem]; done)
   have bC:Hid (∀ W'' v0 v1,Ext W W''->∀ W',W'=(W''.setCell ⟨w.heap.size+1+1,0,none⟩ v0).setCell ⟨w.heap.size+1+1,1,none⟩ v1->(Ext w W'/\W'.cell? ⟨w.heap.size,0,none⟩=some (.bool neg)/\W'.cell? ⟨w.heap.size,1,none⟩=some (.slice A ds.length c)/\W'.cell? ⟨w.heap.size+1,0,none⟩=some (.bool neg)/\W'.cell? ⟨w.heap.size+1,1,none⟩=some (.slice A' ds'.length c'))):=by
    intro W'' v0 v1 hx W' bJ;obtain ⟨s1,c0,c1,c2,c3⟩:=HS.out W'' hx;rw [bJ];refine ⟨(s1.setCell (by simp; try omega) _).setCell (by simp; try omega) _,?_,?_,?_,?_⟩ <;> rw [ph _ _ _ _ (by simp; try omega),ph _ _ _ _ (by simp; try omega)] <;> assumption
   clear hW
   go_region_held3 (fun W' => Ext w W' /\ W'.cell? ⟨w.heap.size, 0, none⟩ = some (.bool neg) /\ W'.cell? ⟨w.heap.size, 1, none⟩ = some (.slice A ds.length c) /\ W'.cell? ⟨w.heap.size + 1, 0, none⟩ = some (.bool neg) /\ W'.cell? ⟨w.heap.size + 1, 1, none⟩ = some (.slice A' ds'.length c'))
    (first | exact HS.out _ ((Ext.refl W).drew) | exact HS.out _ (by assumption) | exact bC.out _ _ _ (by assumption) _ rfl)
    (first
      | (go_at_call 106
         have bQ:=(‹Ext w _/\_›).1;refine (qbb _ _ ds ds' _ ⟨A,c,rfl,h1,h2,H3.out.ext bQ⟩ ⟨A',c',rfl,jR,mD,nC.out.ext bQ⟩ (by omega)).mono ?_;rintro e w2 ⟨v2,rfl,wG,x2⟩
         have y2:Ext W w2:=Ext.trans ((Ext.refl W).drew) x2)
      | (go_at_call 83
         refine (yao _ _ _ _ wG).mono ?_;rintro e w3 ⟨v3,rfl,⟨v4,rfl,A2,c2,rfl,q1,q2,q3⟩,x3⟩;have y3:Ext W w3:=Ext.trans y2 x3
         obtain ⟨r0,r1,f0,f1⟩:=HR.out w3 y3))
   have HF:=hid (yx (g:=w.heap.size+1+1) (z:=sgn neg (val ds+val ds')) (u0:=.bool false) (u1:=.slice none 0 0) (ay.out.trans y3) (by omega) r0 r1 rfl rfl ⟨_,rfl,A2,c2,rfl,q1,q2,q3⟩);clear HS bC HR y3 y2 x2 x3 q3 wG;go_wp2_with fail;exact bodyPost_ret (v:=.agg #[.bool (decide (sgn neg (val ds+val ds') < 0)),.slice A2 (dg (sgn neg (val ds+val ds')).natAbs).length c2]) (by simp [results,paZ,go_sem,r0,r1]) rfl HF.out
 · have Ce:(neg == aI)=false:=by simp [hn]
   go_enter Tryz.func80,Tryz.ntmps80;go_wp2_with fail;generalize hW:((w.alloc (Obj.cells #[.bool neg,.slice A ds.length c] 30)).alloc (Obj.cells #[.bool aI,.slice A' ds'.length c'] 30)).alloc (Obj.cells #[.bool false,.slice none 0 0] 30)=W;have ay:Hid (Ext w W):=by
    have:Ext w W:=by rw [<- hW]; exact (((Ext.refl w).alloc _).alloc _).alloc _
    exact this
   have qG:Hid (W.heap.size=w.heap.size+1+1+1):=by
    have:W.heap.size=w.heap.size+1+1+1:=by rw [<- hW]; simp
    exact this
   have HS:Hid (∀ W',Ext W W'->(Ext w W'/\W'.cell? ⟨w.heap.size,0,none⟩=some (.bool neg)/\W'.cell? ⟨w.heap.size,1,none⟩=some (.slice A ds.length c)/\W'.cell? ⟨w.heap.size+1,0,none⟩=some (.bool aI)/\W'.cell? ⟨w.heap.size+1,1,none⟩=some (.slice A' ds'.length c'))):=by
    intro W' hx;obtain ⟨hc,hf⟩:=hx.cells;have hsz:=qG.out;refine ⟨ay.out.trans hx,?_,?_,?_,?_⟩ <;> (rw [hc _ _ (by omega),<- hW]; simp [go_sem])
   have HR:Hid (∀ W',Ext W W'->(W'.cell? ⟨w.heap.size+1+1,0,none⟩=some (.bool false)/\W'.cell? ⟨w.heap.size+1+1,1,none⟩=some (.slice none 0 0)/\W'.frozen? ⟨w.heap.size+1+1,0,none⟩=false/\W'.frozen? ⟨w.heap.size+1+1,1,none⟩=false)):=by
    intro W' hx;obtain ⟨hc,hf⟩:=hx.cells;have hsz:=qG.out;refine ⟨?_,?_,?_,?_⟩ <;> first | (rw [hc _ _ (by omega),<- hW]; simp [go_sem]; done) | (rw [hf _ _ (by omega),<- hW]; simp [go_sem]; done)
   have bC:Hid (∀ W'' v0 v1,Ext W W''->∀ W',W'=(W''.setCell ⟨w.heap.size+1+1,0,none⟩ v0).setCell ⟨w.heap.size+1+1,1,none⟩ v1->(Ext w W'/\W'.cell? ⟨w.heap.size,0,none⟩=some (.bool neg)/\W'.cell? ⟨w.heap.size,1,none⟩=some (.slice A ds.length c)/\W'.cell? ⟨w.heap.size+1,0,none⟩=some (.bool aI)/\W'.cell? ⟨w.heap.size+1,1,none⟩=some (.slice A' ds'.length c'))):=by
    intro W'' v0 v1 hx W' bJ;obtain ⟨s1,c0,c1,c2,c3⟩:=HS.out W'' hx;rw [bJ];refine ⟨(s1.setCell (by simp; try omega) _).setCell (by simp; try omega) _,?_,?_,?_,?_⟩ <;> rw [ph _ _ _ _ (by simp; try omega),ph _ _ _ _ (by simp; try omega)] <;> assumption
   clear hW;obtain ⟨e0,b0,b1,b2,b3⟩:=HS.out W (Ext.refl W);refine (jar _ _ ds ds' _ ⟨A,c,rfl,h1,h2,H3.out.ext e0⟩ ⟨A',c',rfl,jR,mD,nC.out.ext e0⟩).mono ?_;rintro e w1 ⟨rfl,n1,uN⟩;have y1:Ext W w1:=by rw [uN]; exact (Ext.refl W).drewN n1
   clear uN e0 b0 b1 b2 b3;obtain ⟨e0,b0,b1,b2,b3⟩:=HS.out w1 y1;have E0:=hid e0;have Y1:=hid y1;clear e0 y1;have HN:=hid hn;have HZ:=hid hz;have I9:=hid lI;clear hn hz lI
   by_cases oL:val ds'<=val ds
   · have gY:0<=uh (val ds) (val ds'):=by unfold uh; split <;> (try split) <;> omega
     have FP:=(xal (val ds) (val ds')).2;generalize uh (val ds) (val ds')=cm at *;go_wp2_with fail;refine (zbo _ _ ds ds' _ ⟨A,c,rfl,h1,h2,H3.out.ext E0.out⟩ ⟨A',c',rfl,jR,mD,nC.out.ext E0.out⟩ (by omega) oL).mono ?_;rintro e w2 ⟨v2,rfl,wG,-,x2⟩;have y2:=Y1.out.trans x2;obtain ⟨e0',b0',b1',b2',b3'⟩:=HS.out w2 y2;have NV2:=hid wG;have Y2:=hid y2;clear wG y2 x2 e0' b0 b1 b2 b3;go_wp2_with fail;refine (yao _ _ _ _ NV2.out).mono ?_;rintro e w3 ⟨v3,rfl,⟨v4,rfl,A2,c2,rfl,q1,q2,q3⟩,x3⟩;have y3:Ext W w3:=Ext.trans Y2.out x3;obtain ⟨r0,r1,f0,f1⟩:=HR.out w3 y3;have HF:=hid (yx (g:=w.heap.size+1+1) (z:=sgn neg (val ds - val ds')) (u0:=.bool false) (u1:=.slice none 0 0) (ay.out.trans y3) (by omega) r0 r1 rfl rfl ⟨_,rfl,A2,c2,rfl,q1,q2,q3⟩);have kF:a+b=sgn neg (val ds - val ds'):=by
      have:=HN.out;rw [HZ.out,I9.out]; cases neg <;> cases aI <;> simp_all [sgn] <;> omega
     have HAB:=hid kF;clear y3 q3 x3 kF;go_wp2_with fail;refine bodyPost_ret (v:=.agg #[.bool (decide (sgn neg (val ds - val ds') < 0)),.slice A2 (dg (sgn neg (val ds - val ds')).natAbs).length c2]) (by simp [results,paZ,go_sem,r0,r1]) rfl ?_;rw [HAB.out];exact HF.out
   · have gY:uh (val ds) (val ds') < 0:=by rw [jah (by omega)]; omega
     have FP:=(xal (val ds) (val ds')).1;generalize uh (val ds) (val ds')=cm at *;go_wp2_with fail;refine (zbo _ _ ds' ds _ ⟨A',c',rfl,jR,mD,nC.out.ext E0.out⟩ ⟨A,c,rfl,h1,h2,H3.out.ext E0.out⟩ (by omega) (by omega)).mono ?_;rintro e w2 ⟨v2,rfl,wG,-,x2⟩;have y2:=Y1.out.trans x2;obtain ⟨e0',b0',b1',b2',b3'⟩:=HS.out w2 y2;have NV2:=hid wG;have Y2:=hid y2;clear wG y2 x2 e0' b0 b1 b2 b3;go_wp2_with fail;refine (yao _ _ _ _ NV2.out).mono ?_;rintro e w3 ⟨v3,rfl,⟨v4,rfl,A2,c2,rfl,q1,q2,q3⟩,x3⟩;have y3:Ext W w3:=Ext.trans Y2.out x3;obtain ⟨r0,r1,f0,f1⟩:=HR.out w3 y3;have HF:=hid (yx (g:=w.heap.size+1+1) (z:=sgn aI (val ds' - val ds)) (u0:=.bool false) (u1:=.slice none 0 0) (ay.out.trans y3) (by omega) r0 r1 rfl rfl ⟨_,rfl,A2,c2,rfl,q1,q2,q3⟩);have kF:a+b=sgn aI (val ds' - val ds):=by
      have:=HN.out;rw [HZ.out,I9.out]; cases neg <;> cases aI <;> simp_all [sgn] <;> omega
     have HAB:=hid kF;clear y3 q3 x3 kF;go_wp2_with fail;refine bodyPost_ret (v:=.agg #[.bool (decide (sgn aI (val ds' - val ds) < 0)),.slice A2 (dg (sgn aI (val ds' - val ds)).natAbs).length c2]) (by simp [results,paZ,go_sem,r0,r1]) rfl ?_;rw [HAB.out];exact HF.out
theorem jcf (x y:Value) (a b:Int) (L M:Nat) (w:World) (h:qo w x a L) (k:qo w y b M) :
 Calls Tryz.prog 78 #[x,y] w fun e w'=>e=.returned (.int .i64 (uh a b))/\Ext w w':=by
 obtain ⟨neg,v,ds,rfl,⟨A,c,rfl,h1,h2,h3⟩,hz,hl⟩:=h;obtain ⟨aI,v',ds',rfl,⟨A',c',rfl,jR,mD,kZ⟩,lI,mX⟩:=k;have H3:=hid h3;have nC:=hid kZ;have HZ:=hid hz;have I9:=hid lI;clear h3 kZ hz lI;go_enter Tryz.func78,Tryz.ntmps78;go_wp2_with fail;generalize hW:(w.alloc (Obj.cells #[.bool neg,.slice A ds.length c] 30)).alloc (Obj.cells #[.bool aI,.slice A' ds'.length c'] 30)=W;have ay:Hid (Ext w W):=by
  have:Ext w W:=by rw [<- hW]; exact ((Ext.refl w).alloc _).alloc _
  exact this
 have qG:Hid (W.heap.size=w.heap.size+1+1):=by
  have:W.heap.size=w.heap.size+1+1:=by rw [<- hW]; simp
  exact this
 have HS:Hid (∀ W',Ext W W'->(Ext w W'/\W'.cell? ⟨w.heap.size,0,none⟩=some (.bool neg)/\W'.cell? ⟨w.heap.size,1,none⟩=some (.slice A ds.length c)/\W'.cell? ⟨w.heap.size+1,0,none⟩=some (.bool aI)/\W'.cell? ⟨w.heap.size+1,1,none⟩=some (.slice A' ds'.length c'))):=by
  intro W' hx;obtain ⟨hc,hf⟩:=hx.cells;have hsz:=qG.out;refine ⟨ay.out.trans hx,?_,?_,?_,?_⟩ <;> (rw [hc _ _ (by omega),<- hW]; simp [go_sem])
 clear hW
 go_region_held3 (fun W' => Ext w W' /\ W'.cell? ⟨w.heap.size, 0, none⟩ = some (.bool neg) /\ W'.cell? ⟨w.heap.size, 1, none⟩ = some (.slice A ds.length c) /\ W'.cell? ⟨w.heap.size + 1, 0, none⟩ = some (.bool aI) /\ W'.cell? ⟨w.heap.size + 1, 1, none⟩ = some (.slice A' ds'.length c'))
  (first | exact HS.out _ ((Ext.refl W).drew) | exact HS.out _ (by assumption))
  (first
    | (go_at_call_of 70 (Value.agg #[.bool neg,.slice A ds.length c])
       have bQ:=(‹Ext w _/\_›).1;refine (gav _ a L _ ⟨neg,_,ds,rfl,⟨A,c,rfl,h1,h2,H3.out.ext bQ⟩,HZ.out,hl⟩).mono ?_;rintro e w2 ⟨rfl,x2⟩
       have y2:Ext W w2:=Ext.trans ((Ext.refl W).drew) x2)
    | (go_at_call_of 70 (Value.agg #[.bool aI,.slice A' ds'.length c'])
       have bQ:=(‹Ext w _/\_›).1;refine (gav _ b M _ ⟨aI,_,ds',rfl,⟨A',c',rfl,jR,mD,nC.out.ext bQ⟩,I9.out,mX⟩).mono ?_;rintro e w3 ⟨rfl,x3⟩
       have y3:Ext W w3:=Ext.trans y2 x3))
 obtain ⟨e0,b0,b1,b2,b3⟩:=HS.out w3 y3;have E0:=hid e0;have bA:=xal a 0;have bB:=xal b 0;have Du:Hid (sgI a=uh a 0):=rfl;have Yx:Hid (sgI b=uh b 0):=rfl
 change -1<=sgI a/\sgI a<=1 at bA
 change -1<=sgI b/\sgI b<=1 at bB
 obtain ⟨bA0,bA1⟩:=bA;obtain ⟨bB0,bB1⟩:=bB;clear e0 y2 y3 x2 x3 HS;generalize sgI a=sa at *;generalize sgI b=sb at *;rcases wj sa sb with af | heq | Ii
 · go_wp2_with fail;go_ret;exact ⟨kaq (jah (wb1 (by rw [<- Du.out,<- Yx.out]; exact af))).symm,E0.out⟩
 · subst heq
   by_cases vC:sa < 0
   · go_wp2_with fail;refine (jar _ _ ds' ds _ ⟨A',c',rfl,jR,mD,nC.out.ext E0.out⟩ ⟨A,c,rfl,h1,h2,H3.out.ext E0.out⟩).mono ?_;rintro e w4 ⟨rfl,n4,Oi⟩;have y4:Ext w w4:=by rw [Oi]; exact E0.out.drewN n4
     have Y4:=hid y4;have gY:uh (val ds') (val ds)=uh a b:=by
      have ha:a < 0:=by have:=Du.out; unfold uh at this; split at this <;> (try split at this) <;> omega
      have hb:b < 0:=by have:=Yx.out; unfold uh at this; split at this <;> (try split at this) <;> omega
      have z1:=HZ.out;have z2:=I9.out;cases neg <;> cases aI <;> simp [sgn] at z1 z2 <;> first | omega | (rw [z1,z2]; unfold uh; split <;> (try split) <;> (try split) <;> (try split) <;> omega)
     have DV:=hid gY;clear Oi y4 gY;go_wp2_with fail;go_ret;exact ⟨kaq DV.out,Y4.out⟩
   · go_wp2_with fail;refine (jar _ _ ds ds' _ ⟨A,c,rfl,h1,h2,H3.out.ext E0.out⟩ ⟨A',c',rfl,jR,mD,nC.out.ext E0.out⟩).mono ?_;rintro e w4 ⟨rfl,n4,Oi⟩;have y4:Ext w w4:=by rw [Oi]; exact E0.out.drewN n4
     have Y4:=hid y4;have gY:uh (val ds) (val ds')=uh a b:=by
      have ha:0<=a:=by have:=Du.out; unfold uh at this; split at this <;> (try split at this) <;> omega
      have hb:0<=b:=by have:=Yx.out; unfold uh at this; split at this <;> (try split at this) <;> omega
      have z1:=HZ.out;have z2:=I9.out;have e1:a=val ds:=by cases neg <;> simp [sgn] at z1 <;> omega
      have e2:b=val ds':=by cases aI <;> simp [sgn] at z2 <;> omega
      rw [e1,e2]
     have DV:=hid gY;clear Oi y4 gY;go_wp2_with fail;go_ret;exact ⟨kaq DV.out,Y4.out⟩
 · go_wp2_with fail;go_ret;exact ⟨kaq (kar (wb1 (by rw [<- Du.out,<- Yx.out]; exact Ii))).symm,E0.out⟩
theorem qo.unpack {w:World} {x:Value} {z:Int} {L:Nat} (h:qo w x z L):∃ b A n c,x=.agg #[.bool b,.slice A n c]:=by
 obtain ⟨neg,v,ds,rfl,⟨A,c,rfl,-⟩,-⟩:=h;exact ⟨neg,A,_,c,rfl⟩
theorem qm.unpack {w:World} {x:Value} {z:Int} (h:qm w x z):∃ b A n c,x=.agg #[.bool b,.slice A n c]:=h.raw.unpack
end Go.Proofs.YtcepajijiabkmaaGreat
