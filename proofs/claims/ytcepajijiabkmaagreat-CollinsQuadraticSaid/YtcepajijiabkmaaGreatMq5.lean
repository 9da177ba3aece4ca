/- Layer 2 (integer): what each function returns. -/
import Derived.Test.YtcepajijiabkmaaGreatNatProd2
set_option linter.unusedSimpArgs false
set_option linter.unusedVariables false
set_option maxRecDepth 100000
set_option maxHeartbeats 8000000
namespace Go.Proofs.YtcepajijiabkmaaGreat
open Lib (hid)
open Go.RowKit
def sgn (neg:Bool) (n:Nat):Int:=if neg then -(n:Int) else n
theorem uu (neg:Bool) (n:Nat):(sgn neg n).natAbs=n:=by cases neg <;> simp [sgn]
def qm (w:World) (x:Value) (z:Int) (L:Nat):Prop:=∃ neg v ds,x=.agg #[.bool neg,v]/\jb w v ds/\z=sgn neg (val ds)/\ds.length<=L
def vk (w:World) (x:Value) (z:Int):Prop:=∃ v,x=.agg #[.bool (decide (z < 0)),v]/\jb w v (dg z.natAbs)
theorem xan (z:Int):sgn (decide (z < 0)) z.natAbs=z:=by
 unfold sgn
 by_cases h:z < 0
 · simp [h]; omega
 · simp [h]; omega
theorem vk.raw {w:World} {x:Value} {z:Int} (h:vk w x z):qm w x z (dg z.natAbs).length:=by
 obtain ⟨v,e,hv⟩:=h;exact ⟨_,v,_,e,hv,by rw [qg,xan],Nat.le_refl _⟩
theorem qm.mono {w:World} {x:Value} {z:Int} {L L':Nat} (h:qm w x z L) (hl:L<=L'):qm w x z L':=by
 obtain ⟨neg,v,ds,e,hv,hz,kL⟩:=h;exact ⟨neg,v,ds,e,hv,hz,Nat.le_trans kL hl⟩
theorem qm.ext {w w':World} {x:Value} {z:Int} {L:Nat} (h:qm w x z L) (hx:Ext w w'):qm w' x z L:=by
 obtain ⟨neg,v,ds,e,hv,hz,kL⟩:=h;exact ⟨neg,v,ds,e,hv.ext hx,hz,kL⟩
theorem vk.ext {w w':World} {x:Value} {z:Int} (h:vk w x z) (hx:Ext w w'):vk w' x z:=by
 obtain ⟨v,e,hv⟩:=h;exact ⟨v,e,hv.ext hx⟩
theorem qm.len {w:World} {x:Value} {z:Int} {L:Nat} (h:qm w x z L):(dg z.natAbs).length<=L:=by
 obtain ⟨neg,v,ds,e,hv,rfl,kL⟩:=h;rw [uu];exact Nat.le_trans (uh hv.digs) kL
def qo : Value -> Bool
 | .int .u32 _=>true
 | _=>false
theorem yj.box {w:World} {A:Option Addr} {ds:List Nat} {p:Addr} {u:Value} (h:yj w A ds) (hp:w.cell? p=some u) (hu:qo u=false) (v:Value):yj (w.setCell p v) A ds:=
 ⟨h.1,fun hl=>by
   obtain ⟨ad,e,hb,hc⟩:=h.2 hl;refine ⟨ad,e,by simpa [World.setCell] using hb,fun j hj=>?_⟩;rw [World.cell?_setCell_other w p _ v (fun e=>by rw [e,hc j hj] at hp; injection hp with hp; rw [<- hp] at hu; cases hu)]
   exact hc j hj⟩
theorem jb.box {w:World} {x:Value} {ds:List Nat} {p:Addr} {u:Value} (h:jb w x ds) (hp:w.cell? p=some u) (hu:qo u=false) (v:Value):jb (w.setCell p v) x ds:=by
 obtain ⟨A,c,e,h1,h2,h3⟩:=h;exact ⟨A,c,e,h1,h2,h3.box hp hu v⟩
theorem vk.box {w:World} {x:Value} {z:Int} {p:Addr} {u:Value} (h:vk w x z) (hp:w.cell? p=some u) (hu:qo u=false) (v:Value):vk (w.setCell p v) x z:=by
 obtain ⟨y,e,hy⟩:=h;exact ⟨y,e,hy.box hp hu v⟩
def waf (z:Int) (w:World) (e:Ending) (w':World):Prop:=∃ x,e=.returned x/\vk w' x z/\Ext w w'
theorem kw {w W : World} {g : Nat} {z : Int} {b s u0 u1 : Value} (hx : Ext w W) (hg : w.heap.size <= g) (h0 : W.cell? ⟨g, 0, none⟩ = some u0) (h1 : W.cell? ⟨g, 1, none⟩ = some u1)
 (d0:qo u0=false) (d1:qo u1=false) (hN:vk W (.agg #[b,s]) z):waf z w (.returned (.agg #[b,s])) ((W.setCell ⟨g,0,none⟩ b).setCell ⟨g,1,none⟩ s):=by
 refine ⟨_,rfl,(hN.box h0 d0 b).box (u:=u1) ?_ d1 s,(hx.setCell (by simpa using hg) _).setCell (by simpa using hg) _⟩;rw [World.cell?_setCell_other _ _ _ _ (by simp),h1]
theorem ja8 (neg:Bool) (n:Nat):decide (sgn neg n < 0)=(neg && decide (0 < (dg n).length)):=by
 have h:0 < (dg n).length ↔ 0 < n:=by
  constructor
  · intro h; rcases Nat.eq_zero_or_pos n with e | e
    · subst e; rw [xn] at h; simp at h
    · exact e
  · intro h; exact waj (by omega)
 cases neg
 · simp [sgn]
 · simp only [sgn,if_true,Bool.true_and];rw [Bool.eq_iff_iff,decide_eq_true_eq,decide_eq_true_eq,h]; omega
theorem qal (neg:Bool) (v:Value) (n:Nat) (w:World) (h:jb w v (dg n)):Calls Tryz.prog 83 #[.bool neg,v] w (waf (sgn neg n) w):=by
 obtain ⟨A,c,rfl,h1,h2,h3⟩:=h;have H3:=hid h3;clear h3;have HS:=hid (ja8 neg n);generalize hE:dg n=E at *;have HE:=hid hE;clear hE;have HF:Hid (∀ b,b=(neg && decide (0 < E.length))->waf (sgn neg n) w (.returned (.agg #[.bool b,.slice A E.length c])) (w.alloc (Obj.cells #[.bool b,.slice A E.length c] 30))):=by
  intro b hb;refine ⟨_,rfl,⟨.slice A E.length c,?_,A,c,?_,?_,h2,?_⟩,(Ext.refl w).alloc _⟩
  · rw [hb,HS.out]
  · rw [uu,HE.out]
  · rw [uu,HE.out]; exact h1
  · rw [uu,HE.out]; exact H3.out.ext ((Ext.refl w).alloc _)
 cases neg
 · go_enter Tryz.func83,Tryz.ntmps83
   go_wp2
   exact bodyPost_ret (v:=.agg #[.bool false,.slice A E.length c]) (by simp [results,Tryz.results83,go_sem]) rfl (HF.out _ rfl)
 · by_cases hl:0 < E.length
   · have oV:decide ((E.length:Int) > 0)=true:=by simp; omega
     go_enter Tryz.func83,Tryz.ntmps83
     go_wp2
     exact bodyPost_ret (v:=.agg #[.bool true,.slice A E.length c]) (by simp [results,Tryz.results83,go_sem]) rfl (HF.out _ (by simp [hl]))
   · go_enter Tryz.func83,Tryz.ntmps83
     go_wp2
     exact bodyPost_ret (v:=.agg #[.bool false,.slice A E.length c]) (by simp [results,Tryz.results83,go_sem]) rfl (HF.out _ (by simp [hl]))
theorem gan (neg:Bool) (v:Value) (ds:List Nat) (w:World) (h:jb w v ds) (hs:ds.length<=35184372088832):Calls Tryz.prog 56 #[.bool neg,v] w (waf (sgn neg (val ds)) w):=by
 go_enter Tryz.func56,Tryz.ntmps56;go_wp2_with fail;refine (jab _ _ _ (h.ext ((Ext.refl w).alloc _)) hs).mono ?_;rintro e w1 ⟨v1,rfl,hv,hx⟩;go_wp2_with fail;refine (qal _ _ _ _ hv).mono ?_;rintro e w2 ⟨x,rfl,⟨v2,rfl,rW⟩,aO⟩;obtain ⟨A2,c2,rfl,q1,q2,q3⟩:=rW;have yH:=hx.trans aO;obtain ⟨hc,hf⟩:=yH.cells;have hz:=yH.size;have HF:=hid (kw (g:=w.heap.size) (z:=sgn neg (val ds)) (u0:=.bool false) (u1:=.slice none 0 0) (((Ext.refl w).alloc (Obj.cells #[.bool false,.slice none 0 0] 30)).trans yH) (Nat.le_refl _) (by rw [hc _ _ (by simp)]; simp [World.cell?_alloc_new]) (by rw [hc _ _ (by simp)]; simp [World.cell?_alloc_new]) rfl rfl ⟨_,rfl,A2,c2,rfl,q1,q2,q3⟩);clear hv hx aO yH q3;rw [World.size_alloc] at hz;go_wp2_with fail;exact bodyPost_ret (v:=.agg #[.bool (decide (sgn neg (val ds) < 0)),.slice A2 (dg (sgn neg (val ds)).natAbs).length c2]) (by simp [results,Tryz.results56,go_sem,hc]) rfl HF.out
theorem xam (x:Value) (z:Int) (L:Nat) (w:World) (h:qm w x z L) (hs:L<=35184372088832):Calls Tryz.prog 32 #[x] w (waf (z) w):=by
 obtain ⟨neg,v,ds,rfl,⟨A,c,rfl,h1,h2,h3⟩,hz,hl⟩:=h;have CY:z=sgn (neg) (val ds):=by rw [hz]
 rw [CY];clear hz CY;have aF:Ext w ((w.alloc (Obj.cells #[.bool neg,.slice A ds.length c] 30)).alloc (Obj.cells #[.bool false,.slice none 0 0] 30)):=((Ext.refl w).alloc _).alloc _;have ay:=hid aF;have H3:=hid h3;clear aF h3;go_enter Tryz.func32,Tryz.ntmps32;go_wp2_with fail;refine (gan _ _ _ _ ⟨A,c,rfl,h1,h2,H3.out.ext ay.out⟩ (by omega)).mono ?_;rintro e w2 ⟨x,rfl,⟨v2,rfl,A2,c2,rfl,q1,q2,q3⟩,aO⟩;obtain ⟨hc,hf⟩:=aO.cells;have hz:=aO.size;have HF:=hid (kw (g:=w.heap.size+1) (z:=sgn (neg) (val ds)) (u0:=.bool false) (u1:=.slice none 0 0) (ay.out.trans aO) (by omega) (by rw [hc _ _ (by simp)]; simp [go_sem]) (by rw [hc _ _ (by simp)]; simp [go_sem]) rfl rfl ⟨_,rfl,A2,c2,rfl,q1,q2,q3⟩);clear aO q3;rw [World.size_alloc,World.size_alloc] at hz;go_wp2_with fail;exact bodyPost_ret (v:=.agg #[.bool (decide (sgn (neg) (val ds) < 0)),.slice A2 (dg (sgn (neg) (val ds)).natAbs).length c2]) (by simp [results,Tryz.results32,go_sem,hc]) rfl HF.out
theorem wc0 (x:Value) (z:Int) (L:Nat) (w:World) (h:qm w x z L) (hs:L<=35184372088832):Calls Tryz.prog 71 #[x] w (waf (-z) w):=by
 obtain ⟨neg,v,ds,rfl,⟨A,c,rfl,h1,h2,h3⟩,hz,hl⟩:=h;have CY:-z=sgn (!neg) (val ds):=by rw [hz]; cases neg <;> simp [sgn]
 rw [CY];clear hz CY;have aF:Ext w ((w.alloc (Obj.cells #[.bool neg,.slice A ds.length c] 30)).alloc (Obj.cells #[.bool false,.slice none 0 0] 30)):=((Ext.refl w).alloc _).alloc _;have ay:=hid aF;have H3:=hid h3;clear aF h3;go_enter Tryz.func71,Tryz.ntmps71;go_wp2_with fail;refine (gan _ _ _ _ ⟨A,c,rfl,h1,h2,H3.out.ext ay.out⟩ (by omega)).mono ?_;rintro e w2 ⟨x,rfl,⟨v2,rfl,A2,c2,rfl,q1,q2,q3⟩,aO⟩;obtain ⟨hc,hf⟩:=aO.cells;have hz:=aO.size;have HF:=hid (kw (g:=w.heap.size+1) (z:=sgn (!neg) (val ds)) (u0:=.bool false) (u1:=.slice none 0 0) (ay.out.trans aO) (by omega) (by rw [hc _ _ (by simp)]; simp [go_sem]) (by rw [hc _ _ (by simp)]; simp [go_sem]) rfl rfl ⟨_,rfl,A2,c2,rfl,q1,q2,q3⟩);clear aO q3;rw [World.size_alloc,World.size_alloc] at hz;go_wp2_with fail;exact bodyPost_ret (v:=.agg #[.bool (decide (sgn (!neg) (val ds) < 0)),.slice A2 (dg (sgn (!neg) (val ds)).natAbs).length c2]) (by simp [results,Tryz.results71,go_sem,hc]) rfl HF.out
def sgI (z:Int):Int:=xh z 0
theorem uas (x:Value) (z:Int) (L:Nat) (w:World) (h:qm w x z L):Calls Tryz.prog 70 #[x] w fun e w'=>e=.returned (.int .i64 (sgI z))/\Ext w w':=by
 obtain ⟨neg,v,ds,rfl,⟨A,c,rfl,h1,h2,h3⟩,hz,hl⟩:=h;have ay:Hid (Ext w (w.alloc (Obj.cells #[.bool neg,.slice A ds.length c] 30))):=(Ext.refl w).alloc _;have H3:=hid h3;have HZ:=hid hz;clear h3 hz;go_enter Tryz.func70,Tryz.ntmps70;go_wp2_with fail;refine (xa1 _ _ _ ⟨A,c,rfl,h1,h2,H3.out.ext ay.out⟩).mono ?_;rintro e w2 ⟨rfl,rfl⟩
 by_cases h0:val ds=0
 · have hb:(val ds == 0)=true:=by simp [h0]
   have H0:=hid h0;clear h0;go_wp2_with fail;go_ret;exact ⟨qan (by rw [HZ.out,H0.out]; cases neg <;> rfl),ay.out⟩
 · have hb:(val ds == 0)=false:=by simp [h0]
   cases neg
   · go_wp2_with fail;go_ret;exact ⟨qan (by rw [HZ.out]; exact (qao (by simp [sgn]; omega)).symm),ay.out⟩
   · go_wp2_with fail;go_ret;exact ⟨qan (by rw [HZ.out]; exact (uae (by simp [sgn]; omega)).symm),ay.out⟩
theorem of_int (z:Int) (w:World) (h0:-9223372036854775808<=z) (h1:z<=9223372036854775807):Calls Tryz.prog 11 #[.int .i64 z] w (waf z w):=by
 have ay:Hid (Ext w (w.alloc (Obj.cells #[.bool false,.slice none 0 0] 30))):=(Ext.refl w).alloc _
 by_cases hn:z < 0
 · go_enter Tryz.func11,Tryz.ntmps11;go_wp2_with fail;have e1:IntKind.u64.wrap (-IntKind.u64.wrap z)=((z.natAbs:Nat):Int):=by
    rw [IntKind.wrap_u64,IntKind.wrap_u64]; omega
   rw [e1];refine (jav _ _ (by omega)).mono ?_;rintro e w2 ⟨v,rfl,⟨A2,c2,rfl,q1,q2,q3⟩,aO⟩;obtain ⟨hc,hf⟩:=aO.cells;have hz:=aO.size;have HF:=hid (kw (g:=w.heap.size) (z:=z) (u0:=.bool false) (u1:=.slice none 0 0) (ay.out.trans aO) (by omega) (by rw [hc _ _ (by simp)]; simp [World.cell?_alloc_new]) (by rw [hc _ _ (by simp)]; simp [World.cell?_alloc_new]) rfl rfl ⟨_,by rw [decide_eq_true hn],A2,c2,rfl,q1,q2,q3⟩);clear aO q3 e1;rw [World.size_alloc] at hz;go_wp2_with fail;exact bodyPost_ret (v:=.agg #[.bool true,.slice A2 (dg z.natAbs).length c2]) (by simp [results,Tryz.results11,go_sem,hc]) rfl HF.out
 · obtain ⟨n,rfl⟩:=Int.eq_ofNat_of_zero_le (show 0<=z by omega);go_enter Tryz.func11,Tryz.ntmps11;go_wp2_with fail;refine (jav _ _ (by omega)).mono ?_;rintro e w2 ⟨v,rfl,⟨A2,c2,rfl,q1,q2,q3⟩,aO⟩;obtain ⟨hc,hf⟩:=aO.cells;have hz:=aO.size;have HF:=hid (kw (g:=w.heap.size) (z:=(n:Int)) (b:=.bool false) (u0:=.bool false) (u1:=.slice none 0 0) (ay.out.trans aO) (by omega) (by rw [hc _ _ (by simp)]; simp [World.cell?_alloc_new]) (by rw [hc _ _ (by simp)]; simp [World.cell?_alloc_new]) rfl rfl ⟨_,by rw [decide_eq_false (by omega)],A2,c2,rfl,q1,q2,q3⟩);clear aO q3;rw [World.size_alloc] at hz;go_wp2_with fail;exact bodyPost_ret (v:=.agg #[.bool false,.slice A2 (dg n).length c2]) (by simp [results,Tryz.results11,go_sem,hc]) rfl HF.out
theorem kc1 (x y:Value) (a b:Int) (L M:Nat) (w:World) (h:qm w x a L) (k:qm w y b M) (hs:L+M<=35184372088000) :
 Calls Tryz.prog 66 #[x,y] w (waf (a * b) w):=by
 obtain ⟨neg,v,ds,rfl,⟨A,c,rfl,h1,h2,h3⟩,hz,hl⟩:=h;obtain ⟨aG,v',ds',rfl,⟨A',c',rfl,iI,kC,jG⟩,jL,kL⟩:=k;have kZ:a * b=sgn (!neg == aG) (val ds * val ds'):=by
  rw [hz,jL]; cases neg <;> cases aG <;> simp [sgn,Int.neg_mul,Int.mul_neg]
 rw [kZ];have H3:=hid h3;have kS:=hid jG;clear h3 jG hz jL kZ;go_enter Tryz.func66,Tryz.ntmps66;go_wp2_with fail;generalize hW:((w.alloc (Obj.cells #[.bool neg,.slice A ds.length c] 30)).alloc (Obj.cells #[.bool aG,.slice A' ds'.length c'] 30)).alloc (Obj.cells #[.bool false,.slice none 0 0] 30)=W;have ay:Hid (Ext w W):=by
  have:Ext w W:=by rw [<- hW]; exact (((Ext.refl w).alloc _).alloc _).alloc _
  exact this
 have HS:Hid (∀ W',Ext W W'->(Ext w W'/\W'.cell? ⟨w.heap.size,0,none⟩=some (.bool neg)/\W'.cell? ⟨w.heap.size,1,none⟩=some (.slice A ds.length c)/\W'.cell? ⟨w.heap.size+1,0,none⟩=some (.bool aG)/\W'.cell? ⟨w.heap.size+1,1,none⟩=some (.slice A' ds'.length c'))):=by
  intro W' hx;obtain ⟨hc,hf⟩:=hx.cells;have hsz:W.heap.size=w.heap.size+1+1+1:=by rw [<- hW]; simp
  refine ⟨ay.out.trans hx,?_,?_,?_,?_⟩ <;> (rw [hc _ _ (by omega),<- hW]; simp [go_sem])
 have HR:Hid (∀ W',Ext W W'->(W'.cell? ⟨w.heap.size+1+1,0,none⟩=some (.bool false)/\W'.cell? ⟨w.heap.size+1+1,1,none⟩=some (.slice none 0 0)/\W'.frozen? ⟨w.heap.size+1+1,0,none⟩=false/\W'.frozen? ⟨w.heap.size+1+1,1,none⟩=false)):=by
  intro W' hx;obtain ⟨hc,hf⟩:=hx.cells;have hsz:W.heap.size=w.heap.size+1+1+1:=by rw [<- hW]; simp
  refine ⟨?_,?_,?_,?_⟩ <;> first | (rw [hc _ _ (by omega),<- hW]; simp [go_sem]; done) | (rw [hf _ _ (by omega),<- hW]; simp [go_sem]; done)
 have aW:Hid (∀ W'' u v,Ext W W''->∀ W',W'=(W''.setCell ⟨w.heap.size+1+1,0,none⟩ u).setCell ⟨w.heap.size+1+1,1,none⟩ v->(Ext w W'/\W'.cell? ⟨w.heap.size,0,none⟩=some (.bool neg)/\W'.cell? ⟨w.heap.size,1,none⟩=some (.slice A ds.length c)/\W'.cell? ⟨w.heap.size+1,0,none⟩=some (.bool aG)/\W'.cell? ⟨w.heap.size+1,1,none⟩=some (.slice A' ds'.length c'))):=by
  intro W'' u v hx W' bg;obtain ⟨s1,s2,s3,s4,s5⟩:=HS.out W'' hx;rw [bg];refine ⟨(s1.setCell (by simp; omega) _).setCell (by simp; omega) _,?_,?_,?_,?_⟩ <;> rw [World.cell?_setCell_other _ _ _ _ (by simp),World.cell?_setCell_other _ _ _ _ (by simp)] <;> assumption
 clear hW
 go_region_held3 (fun W' => Ext w W' /\ W'.cell? ⟨w.heap.size, 0, none⟩ = some (.bool neg) /\ W'.cell? ⟨w.heap.size, 1, none⟩ = some (.slice A ds.length c) /\ W'.cell? ⟨w.heap.size + 1, 0, none⟩ = some (.bool aG) /\ W'.cell? ⟨w.heap.size + 1, 1, none⟩ = some (.slice A' ds'.length c'))
  (first | exact HS.out _ ((Ext.refl W).drew) | exact HS.out _ (by assumption) | exact aW.out _ _ _ (by assumption) _ rfl)
  (first
    | (go_at_call 89
       have bC:=(‹Ext w _/\_›).1;refine (jc1 _ _ ds ds' _ ⟨A,c,rfl,h1,h2,H3.out.ext bC⟩ ⟨A',c',rfl,iI,kC,kS.out.ext bC⟩ (by omega)).mono ?_;rintro e w2 ⟨v2,rfl,tZ,x2⟩
       have y2:Ext W w2:=Ext.trans ((Ext.refl W).drew) x2)
    | (go_at_call 83
       refine (qal _ _ _ _ tZ).mono ?_;rintro e w3 ⟨v3,rfl,⟨v4,rfl,A2,c2,rfl,q1,q2,q3⟩,x3⟩;have y3:Ext W w3:=Ext.trans y2 x3
       obtain ⟨r1,r2,r3,r4⟩:=HR.out w3 y3))
 have HF:=hid (kw (g:=w.heap.size+1+1) (z:=sgn (!neg == aG) (val ds * val ds')) (u0:=.bool false) (u1:=.slice none 0 0) (ay.out.trans y3) (by omega) r1 r2 rfl rfl ⟨_,rfl,A2,c2,rfl,q1,q2,q3⟩);clear HS aW HR y3 y2 x2 x3 q3 tZ;go_wp2_with fail;exact bodyPost_ret (v:=.agg #[.bool (decide (sgn (!neg == aG) (val ds * val ds') < 0)),.slice A2 (dg (sgn (!neg == aG) (val ds * val ds')).natAbs).length c2]) (by simp [results,Tryz.results66,go_sem,r1,r2]) rfl HF.out
theorem gbu {a b:Int} (h:xh a 0 < xh b 0):a < b:=by
 rcases Int.lt_trichotomy a 0 with ha | ha | ha
 · rcases Int.lt_trichotomy b 0 with hb | hb | hb
   · rw [uae ha,uae hb] at h; omega
   · omega
   · omega
 · rcases Int.lt_trichotomy b 0 with hb | hb | hb
   · rw [uz ha,uae hb] at h; omega
   · rw [uz ha,uz hb] at h; omega
   · omega
 · have:=(yaj b 0).2;rw [qao ha] at h; omega
theorem xb8 (x y:Value) (a b:Int) (L M:Nat) (w:World) (h:qm w x a L) (k:qm w y b M) (hs:L+M<=35184372088000) :
 Calls Tryz.prog 80 #[x,y] w (waf (a+b) w):=by
 obtain ⟨neg,v,ds,rfl,⟨A,c,rfl,h1,h2,h3⟩,hz,hl⟩:=h;obtain ⟨aG,v',ds',rfl,⟨A',c',rfl,iI,kC,jG⟩,jL,kL⟩:=k;have H3:=hid h3;have kS:=hid jG;clear h3 jG
 by_cases hn:neg=aG
 · subst hn;have kZ:a+b=sgn neg (val ds+val ds'):=by rw [hz,jL]; cases neg <;> simp [sgn] <;> omega
   rw [kZ];clear hz jL kZ;have hnb:(neg == neg)=true:=by simp
   go_enter Tryz.func80,Tryz.ntmps80;go_wp2_with fail;generalize hW:((w.alloc (Obj.cells #[.bool neg,.slice A ds.length c] 30)).alloc (Obj.cells #[.bool neg,.slice A' ds'.length c'] 30)).alloc (Obj.cells #[.bool false,.slice none 0 0] 30)=W;have ay:Hid (Ext w W):=by
    have:Ext w W:=by rw [<- hW]; exact (((Ext.refl w).alloc _).alloc _).alloc _
    exact this
   have nU:Hid (W.heap.size=w.heap.size+1+1+1):=by
    have:W.heap.size=w.heap.size+1+1+1:=by rw [<- hW]; simp
    exact this
   have HS:Hid (∀ W',Ext W W'->(Ext w W'/\W'.cell? ⟨w.heap.size,0,none⟩=some (.bool neg)/\W'.cell? ⟨w.heap.size,1,none⟩=some (.slice A ds.length c)/\W'.cell? ⟨w.heap.size+1,0,none⟩=some (.bool neg)/\W'.cell? ⟨w.heap.size+1,1,none⟩=some (.slice A' ds'.length c'))):=by
    intro W' hx;obtain ⟨hc,hf⟩:=hx.cells;have hsz:=nU.out;refine ⟨ay.out.trans hx,?_,?_,?_,?_⟩ <;> (rw [hc _ _ (by omega),<- hW]; simp [go_sem])
   have HR:Hid (∀ W',Ext W W'->(W'.cell? ⟨w.heap.size+1+1,0,none⟩=some (.bool false)/\W'.cell? ⟨w.heap.size+1+1,1,none⟩=some (.slice none 0 0)/\W'.frozen? ⟨w.heap.size+1+1,0,none⟩=false/\W'.frozen? ⟨w.heap.size+1+1,1,none⟩=false)):=by
    intro W' hx;obtain ⟨hc,hf⟩:=hx.cells;have hsz:=nU.out;refine ⟨?_,?_,?_,?_⟩ <;> first | (rw [hc _ _ (by omega),<- hW]; simp [go_sem]; done) | (rw [hf _ _ (by omega),<- hW]; simp [go_sem]; done)
   have aW:Hid (∀ W'' v0 v1,Ext W W''->∀ W',W'=(W''.setCell ⟨w.heap.size+1+1,0,none⟩ v0).setCell ⟨w.heap.size+1+1,1,none⟩ v1->(Ext w W'/\W'.cell? ⟨w.heap.size,0,none⟩=some (.bool neg)/\W'.cell? ⟨w.heap.size,1,none⟩=some (.slice A ds.length c)/\W'.cell? ⟨w.heap.size+1,0,none⟩=some (.bool neg)/\W'.cell? ⟨w.heap.size+1,1,none⟩=some (.slice A' ds'.length c'))):=by
    intro W'' v0 v1 hx W' bg;obtain ⟨s1,c0,c1,c2,c3⟩:=HS.out W'' hx;rw [bg];refine ⟨(s1.setCell (by simp; try omega) _).setCell (by simp; try omega) _,?_,?_,?_,?_⟩ <;> rw [World.cell?_setCell_other _ _ _ _ (by simp; try omega),World.cell?_setCell_other _ _ _ _ (by simp; try omega)] <;> assumption
   clear hW
   go_region_held3 (fun W' => Ext w W' /\ W'.cell? ⟨w.heap.size, 0, none⟩ = some (.bool neg) /\ W'.cell? ⟨w.heap.size, 1, none⟩ = some (.slice A ds.length c) /\ W'.cell? ⟨w.heap.size + 1, 0, none⟩ = some (.bool neg) /\ W'.cell? ⟨w.heap.size + 1, 1, none⟩ = some (.slice A' ds'.length c'))
    (first | exact HS.out _ ((Ext.refl W).drew) | exact HS.out _ (by assumption) | exact aW.out _ _ _ (by assumption) _ rfl)
    (first
      | (go_at_call 106
         have bC:=(‹Ext w _/\_›).1;refine (xa7 _ _ ds ds' _ ⟨A,c,rfl,h1,h2,H3.out.ext bC⟩ ⟨A',c',rfl,iI,kC,kS.out.ext bC⟩ (by omega)).mono ?_;rintro e w2 ⟨v2,rfl,tZ,x2⟩
         have y2:Ext W w2:=Ext.trans ((Ext.refl W).drew) x2)
      | (go_at_call 83
         refine (qal _ _ _ _ tZ).mono ?_;rintro e w3 ⟨v3,rfl,⟨v4,rfl,A2,c2,rfl,q1,q2,q3⟩,x3⟩;have y3:Ext W w3:=Ext.trans y2 x3
         obtain ⟨r0,r1,f0,f1⟩:=HR.out w3 y3))
   have HF:=hid (kw (g:=w.heap.size+1+1) (z:=sgn neg (val ds+val ds')) (u0:=.bool false) (u1:=.slice none 0 0) (ay.out.trans y3) (by omega) r0 r1 rfl rfl ⟨_,rfl,A2,c2,rfl,q1,q2,q3⟩);clear HS aW HR y3 y2 x2 x3 q3 tZ;go_wp2_with fail;exact bodyPost_ret (v:=.agg #[.bool (decide (sgn neg (val ds+val ds') < 0)),.slice A2 (dg (sgn neg (val ds+val ds')).natAbs).length c2]) (by simp [results,Tryz.results80,go_sem,r0,r1]) rfl HF.out
 · have hnb:(neg == aG)=false:=by simp [hn]
   go_enter Tryz.func80,Tryz.ntmps80;go_wp2_with fail;generalize hW:((w.alloc (Obj.cells #[.bool neg,.slice A ds.length c] 30)).alloc (Obj.cells #[.bool aG,.slice A' ds'.length c'] 30)).alloc (Obj.cells #[.bool false,.slice none 0 0] 30)=W;have ay:Hid (Ext w W):=by
    have:Ext w W:=by rw [<- hW]; exact (((Ext.refl w).alloc _).alloc _).alloc _
    exact this
   have nU:Hid (W.heap.size=w.heap.size+1+1+1):=by
    have:W.heap.size=w.heap.size+1+1+1:=by rw [<- hW]; simp
    exact this
   have HS:Hid (∀ W',Ext W W'->(Ext w W'/\W'.cell? ⟨w.heap.size,0,none⟩=some (.bool neg)/\W'.cell? ⟨w.heap.size,1,none⟩=some (.slice A ds.length c)/\W'.cell? ⟨w.heap.size+1,0,none⟩=some (.bool aG)/\W'.cell? ⟨w.heap.size+1,1,none⟩=some (.slice A' ds'.length c'))):=by
    intro W' hx;obtain ⟨hc,hf⟩:=hx.cells;have hsz:=nU.out;refine ⟨ay.out.trans hx,?_,?_,?_,?_⟩ <;> (rw [hc _ _ (by omega),<- hW]; simp [go_sem])
   have HR:Hid (∀ W',Ext W W'->(W'.cell? ⟨w.heap.size+1+1,0,none⟩=some (.bool false)/\W'.cell? ⟨w.heap.size+1+1,1,none⟩=some (.slice none 0 0)/\W'.frozen? ⟨w.heap.size+1+1,0,none⟩=false/\W'.frozen? ⟨w.heap.size+1+1,1,none⟩=false)):=by
    intro W' hx;obtain ⟨hc,hf⟩:=hx.cells;have hsz:=nU.out;refine ⟨?_,?_,?_,?_⟩ <;> first | (rw [hc _ _ (by omega),<- hW]; simp [go_sem]; done) | (rw [hf _ _ (by omega),<- hW]; simp [go_sem]; done)
   have aW:Hid (∀ W'' v0 v1,Ext W W''->∀ W',W'=(W''.setCell ⟨w.heap.size+1+1,0,none⟩ v0).setCell ⟨w.heap.size+1+1,1,none⟩ v1->(Ext w W'/\W'.cell? ⟨w.heap.size,0,none⟩=some (.bool neg)/\W'.cell? ⟨w.heap.size,1,none⟩=some (.slice A ds.length c)/\W'.cell? ⟨w.heap.size+1,0,none⟩=some (.bool aG)/\W'.cell? ⟨w.heap.size+1,1,none⟩=some (.slice A' ds'.length c'))):=by
    intro W'' v0 v1 hx W' bg;obtain ⟨s1,c0,c1,c2,c3⟩:=HS.out W'' hx;rw [bg];refine ⟨(s1.setCell (by simp; try omega) _).setCell (by simp; try omega) _,?_,?_,?_,?_⟩ <;> rw [World.cell?_setCell_other _ _ _ _ (by simp; try omega),World.cell?_setCell_other _ _ _ _ (by simp; try omega)] <;> assumption
   clear hW;obtain ⟨e0,b0,b1,b2,b3⟩:=HS.out W (Ext.refl W);refine (xao _ _ ds ds' _ ⟨A,c,rfl,h1,h2,H3.out.ext e0⟩ ⟨A',c',rfl,iI,kC,kS.out.ext e0⟩).mono ?_;rintro e w1 ⟨rfl,n1,rQ⟩;have y1:Ext W w1:=by rw [rQ]; exact (Ext.refl W).drewN n1
   clear rQ e0 b0 b1 b2 b3;obtain ⟨e0,b0,b1,b2,b3⟩:=HS.out w1 y1;have E0:=hid e0;have Y1:=hid y1;clear e0 y1;have HN:=hid hn;have HZ:=hid hz;have Gf:=hid jL;clear hn hz jL
   by_cases lS:val ds'<=val ds
   · have fC:0<=xh (val ds) (val ds'):=by unfold xh; split <;> (try split) <;> omega
     have DT:=(yaj (val ds) (val ds')).2;generalize xh (val ds) (val ds')=cm at *;go_wp2_with fail;refine (jbi _ _ ds ds' _ ⟨A,c,rfl,h1,h2,H3.out.ext E0.out⟩ ⟨A',c',rfl,iI,kC,kS.out.ext E0.out⟩ (by omega) lS).mono ?_;rintro e w2 ⟨v2,rfl,tZ,-,x2⟩;have y2:=Y1.out.trans x2;obtain ⟨e0',b0',b1',b2',b3'⟩:=HS.out w2 y2;have Zw:=hid tZ;have Y2:=hid y2;clear tZ y2 x2 e0' b0 b1 b2 b3;go_wp2_with fail;refine (qal _ _ _ _ Zw.out).mono ?_;rintro e w3 ⟨v3,rfl,⟨v4,rfl,A2,c2,rfl,q1,q2,q3⟩,x3⟩;have y3:Ext W w3:=Ext.trans Y2.out x3;obtain ⟨r0,r1,f0,f1⟩:=HR.out w3 y3;have HF:=hid (kw (g:=w.heap.size+1+1) (z:=sgn neg (val ds - val ds')) (u0:=.bool false) (u1:=.slice none 0 0) (ay.out.trans y3) (by omega) r0 r1 rfl rfl ⟨_,rfl,A2,c2,rfl,q1,q2,q3⟩);have kZ:a+b=sgn neg (val ds - val ds'):=by
      have:=HN.out;rw [HZ.out,Gf.out]; cases neg <;> cases aG <;> simp_all [sgn] <;> omega
     have HAB:=hid kZ;clear y3 q3 x3 kZ;go_wp2_with fail;refine bodyPost_ret (v:=.agg #[.bool (decide (sgn neg (val ds - val ds') < 0)),.slice A2 (dg (sgn neg (val ds - val ds')).natAbs).length c2]) (by simp [results,Tryz.results80,go_sem,r0,r1]) rfl ?_;rw [HAB.out];exact HF.out
   · have fC:xh (val ds) (val ds') < 0:=by rw [uae (by omega)]; omega
     have DT:=(yaj (val ds) (val ds')).1;generalize xh (val ds) (val ds')=cm at *;go_wp2_with fail;refine (jbi _ _ ds' ds _ ⟨A',c',rfl,iI,kC,kS.out.ext E0.out⟩ ⟨A,c,rfl,h1,h2,H3.out.ext E0.out⟩ (by omega) (by omega)).mono ?_;rintro e w2 ⟨v2,rfl,tZ,-,x2⟩;have y2:=Y1.out.trans x2;obtain ⟨e0',b0',b1',b2',b3'⟩:=HS.out w2 y2;have Zw:=hid tZ;have Y2:=hid y2;clear tZ y2 x2 e0' b0 b1 b2 b3;go_wp2_with fail;refine (qal _ _ _ _ Zw.out).mono ?_;rintro e w3 ⟨v3,rfl,⟨v4,rfl,A2,c2,rfl,q1,q2,q3⟩,x3⟩;have y3:Ext W w3:=Ext.trans Y2.out x3;obtain ⟨r0,r1,f0,f1⟩:=HR.out w3 y3;have HF:=hid (kw (g:=w.heap.size+1+1) (z:=sgn aG (val ds' - val ds)) (u0:=.bool false) (u1:=.slice none 0 0) (ay.out.trans y3) (by omega) r0 r1 rfl rfl ⟨_,rfl,A2,c2,rfl,q1,q2,q3⟩);have kZ:a+b=sgn aG (val ds' - val ds):=by
      have:=HN.out;rw [HZ.out,Gf.out]; cases neg <;> cases aG <;> simp_all [sgn] <;> omega
     have HAB:=hid kZ;clear y3 q3 x3 kZ;go_wp2_with fail;refine bodyPost_ret (v:=.agg #[.bool (decide (sgn aG (val ds' - val ds) < 0)),.slice A2 (dg (sgn aG (val ds' - val ds)).natAbs).length c2]) (by simp [results,Tryz.results80,go_sem,r0,r1]) rfl ?_;rw [HAB.out];exact HF.out
theorem gb7 (x y:Value) (a b:Int) (L M:Nat) (w:World) (h:qm w x a L) (k:qm w y b M) :
 Calls Tryz.prog 78 #[x,y] w fun e w'=>e=.returned (.int .i64 (xh a b))/\Ext w w':=by
 obtain ⟨neg,v,ds,rfl,⟨A,c,rfl,h1,h2,h3⟩,hz,hl⟩:=h;obtain ⟨aG,v',ds',rfl,⟨A',c',rfl,iI,kC,jG⟩,jL,kL⟩:=k;have H3:=hid h3;have kS:=hid jG;have HZ:=hid hz;have Gf:=hid jL;clear h3 jG hz jL;go_enter Tryz.func78,Tryz.ntmps78;go_wp2_with fail;generalize hW:(w.alloc (Obj.cells #[.bool neg,.slice A ds.length c] 30)).alloc (Obj.cells #[.bool aG,.slice A' ds'.length c'] 30)=W;have ay:Hid (Ext w W):=by
  have:Ext w W:=by rw [<- hW]; exact ((Ext.refl w).alloc _).alloc _
  exact this
 have nU:Hid (W.heap.size=w.heap.size+1+1):=by
  have:W.heap.size=w.heap.size+1+1:=by rw [<- hW]; simp
  exact this
 have HS:Hid (∀ W',Ext W W'->(Ext w W'/\W'.cell? ⟨w.heap.size,0,none⟩=some (.bool neg)/\W'.cell? ⟨w.heap.size,1,none⟩=some (.slice A ds.length c)/\W'.cell? ⟨w.heap.size+1,0,none⟩=some (.bool aG)/\W'.cell? ⟨w.heap.size+1,1,none⟩=some (.slice A' ds'.length c'))):=by
  intro W' hx;obtain ⟨hc,hf⟩:=hx.cells;have hsz:=nU.out;refine ⟨ay.out.trans hx,?_,?_,?_,?_⟩ <;> (rw [hc _ _ (by omega),<- hW]; simp [go_sem])
 clear hW
 go_region_held3 (fun W' => Ext w W' /\ W'.cell? ⟨w.heap.size, 0, none⟩ = some (.bool neg) /\ W'.cell? ⟨w.heap.size, 1, none⟩ = some (.slice A ds.length c) /\ W'.cell? ⟨w.heap.size + 1, 0, none⟩ = some (.bool aG) /\ W'.cell? ⟨w.heap.size + 1, 1, none⟩ = some (.slice A' ds'.length c'))
  (first | exact HS.out _ ((Ext.refl W).drew) | exact HS.out _ (by assumption))
  (first
    | (go_at_call_of 70 (Value.agg #[.bool neg,.slice A ds.length c])
       have bC:=(‹Ext w _/\_›).1;refine (uas _ a L _ ⟨neg,_,ds,rfl,⟨A,c,rfl,h1,h2,H3.out.ext bC⟩,HZ.out,hl⟩).mono ?_;rintro e w2 ⟨rfl,x2⟩
       have y2:Ext W w2:=Ext.trans ((Ext.refl W).drew) x2)
    | (go_at_call_of 70 (Value.agg #[.bool aG,.slice A' ds'.length c'])
       have bC:=(‹Ext w _/\_›).1;refine (uas _ b M _ ⟨aG,_,ds',rfl,⟨A',c',rfl,iI,kC,kS.out.ext bC⟩,Gf.out,kL⟩).mono ?_;rintro e w3 ⟨rfl,x3⟩
       have y3:Ext W w3:=Ext.trans y2 x3))
 obtain ⟨e0,b0,b1,b2,b3⟩:=HS.out w3 y3;have E0:=hid e0;have bA:=yaj a 0;have bB:=yaj b 0;have xW:Hid (sgI a=xh a 0):=rfl;have CE:Hid (sgI b=xh b 0):=rfl
 change -1<=sgI a/\sgI a<=1 at bA
 change -1<=sgI b/\sgI b<=1 at bB
 obtain ⟨bA0,bA1⟩:=bA;obtain ⟨bB0,bB1⟩:=bB;clear e0 y2 y3 x2 x3 HS;generalize sgI a=sa at *;generalize sgI b=sb at *;rcases Int.lt_trichotomy sa sb with af | heq | Lm
 · go_wp2_with fail;go_ret;exact ⟨qan (uae (gbu (by rw [<- xW.out,<- CE.out]; exact af))).symm,E0.out⟩
 · subst heq
   by_cases sG:sa < 0
   · go_wp2_with fail;refine (xao _ _ ds' ds _ ⟨A',c',rfl,iI,kC,kS.out.ext E0.out⟩ ⟨A,c,rfl,h1,h2,H3.out.ext E0.out⟩).mono ?_;rintro e w4 ⟨rfl,n4,ND⟩;have y4:Ext w w4:=by rw [ND]; exact E0.out.drewN n4
     have Y4:=hid y4;have fC:xh (val ds') (val ds)=xh a b:=by
      have ha:a < 0:=by have:=xW.out; unfold xh at this; split at this <;> (try split at this) <;> omega
      have hb:b < 0:=by have:=CE.out; unfold xh at this; split at this <;> (try split at this) <;> omega
      have z1:=HZ.out;have z2:=Gf.out;cases neg <;> cases aG <;> simp [sgn] at z1 z2 <;> first | omega | (rw [z1,z2]; unfold xh; split <;> (try split) <;> (try split) <;> (try split) <;> omega)
     have BM:=hid fC;clear ND y4 fC;go_wp2_with fail;go_ret;exact ⟨qan BM.out,Y4.out⟩
   · go_wp2_with fail;refine (xao _ _ ds ds' _ ⟨A,c,rfl,h1,h2,H3.out.ext E0.out⟩ ⟨A',c',rfl,iI,kC,kS.out.ext E0.out⟩).mono ?_;rintro e w4 ⟨rfl,n4,ND⟩;have y4:Ext w w4:=by rw [ND]; exact E0.out.drewN n4
     have Y4:=hid y4;have fC:xh (val ds) (val ds')=xh a b:=by
      have ha:0<=a:=by have:=xW.out; unfold xh at this; split at this <;> (try split at this) <;> omega
      have hb:0<=b:=by have:=CE.out; unfold xh at this; split at this <;> (try split at this) <;> omega
      have z1:=HZ.out;have z2:=Gf.out;have e1:a=val ds:=by cases neg <;> simp [sgn] at z1 <;> omega
      have e2:b=val ds':=by cases aG <;> simp [sgn] at z2 <;> omega
      rw [e1,e2]
     have BM:=hid fC;clear ND y4 fC;go_wp2_with fail;go_ret;exact ⟨qan BM.out,Y4.out⟩
 · go_wp2_with fail;go_ret;exact ⟨qan (qao (gbu (by rw [<- xW.out,<- CE.out]; exact Lm))).symm,E0.out⟩
theorem qm.unpack {w:World} {x:Value} {z:Int} {L:Nat} (h:qm w x z L):∃ b A n c,x=.agg #[.bool b,.slice A n c]:=by
 obtain ⟨neg,v,ds,rfl,⟨A,c,rfl,-⟩,-⟩:=h;exact ⟨neg,A,_,c,rfl⟩
theorem vk.unpack {w:World} {x:Value} {z:Int} (h:vk w x z):∃ b A n c,x=.agg #[.bool b,.slice A n c]:=h.raw.unpack
end Go.Proofs.YtcepajijiabkmaaGreat
