/- Layer 5 (rational): numerator and denominator. -/
import Derived.Test.YtcfcjabgkfehlaaGreatGcd
set_option linter.unusedSimpArgs false
set_option linter.unusedVariables false

set_option maxRecDepth 100000
set_option maxHeartbeats 8000000
namespace Go.Proofs.YtcfcjabgkfehlaaGreat
open Go.RowKit
def qw (w:World) (v:Value) (q:Rat) (L:Nat):Prop:=
 ∃ neg s1 s2 ds es,v=.agg #[.bool neg,s1,s2]/\jb w s1 ds/\jb w s2 es/\q=mkRat (sgn neg (val ds)) (val es)/\ds.length<=L/\es.length<=L
def kab (w:World) (v:Value) (q:Rat):Prop:=∃ s1 s2,v=.agg #[.bool (decide (q.num < 0)),s1,s2]/\jb w s1 (dg q.num.natAbs)/\jb w s2 (dg q.den)
def rlen (q:Rat):Nat:=max (dg q.num.natAbs).length (dg q.den).length
theorem qw.ext {w w':World} {v:Value} {q:Rat} {L:Nat} (h:qw w v q L) (hx:Ext w w'):qw w' v q L:=by
 obtain ⟨neg,s1,s2,ds,es,e,h1,h2,h3,h4,h5⟩:=h;exact ⟨neg,s1,s2,ds,es,e,h1.ext hx,h2.ext hx,h3,h4,h5⟩
theorem qw.mono {w:World} {v:Value} {q:Rat} {L L':Nat} (h:qw w v q L) (hl:L<=L'):qw w v q L':=by
 obtain ⟨neg,s1,s2,ds,es,e,h1,h2,h3,h4,h5⟩:=h;exact ⟨neg,s1,s2,ds,es,e,h1,h2,h3,Nat.le_trans h4 hl,Nat.le_trans h5 hl⟩
theorem kab.ext {w w':World} {v:Value} {q:Rat} (h:kab w v q) (hx:Ext w w'):kab w' v q:=by
 obtain ⟨s1,s2,e,h1,h2⟩:=h;exact ⟨s1,s2,e,h1.ext hx,h2.ext hx⟩
theorem kab.raw {w:World} {v:Value} {q:Rat} (h:kab w v q):qw w v q (rlen q):=by
 obtain ⟨s1,s2,e,h1,h2⟩:=h;exact ⟨_,s1,s2,_,_,e,h1,h2,by rw [je,je,vai,Rat.mkRat_self],Nat.le_max_left _ _,Nat.le_max_right _ _⟩
theorem kab.box {w:World} {x:Value} {q:Rat} {p:Addr} {u:Value} (h:kab w x q) (hp:w.cell? p=some u) (hu:ku u=false) (v:Value):kab (w.setCell p v) x q:=by
 obtain ⟨s1,s2,e,h1,h2⟩:=h;exact ⟨s1,s2,e,h1.box hp hu v,h2.box hp hu v⟩
def wa6 (q:Rat) (L:Nat) (w:World) (e:Ending) (w':World):Prop:=
 ∃ (x y:Value) (n:Int) (d:Nat),e=.returned (.tuple #[x,y])/\yh w' x n L/\yh w' y (d:Nat) L/\0 < d/\q=mkRat n d/\Ext w w'
theorem ga4 {w W : World} {g g' : Nat} {q : Rat} {n : Int} {d L : Nat} {b s b' s' u0 u1 u2 u3 : Value} (hx : Ext w W) (hg : w.heap.size <= g) (hg' : w.heap.size <= g') (hne : g ≠ g') (h0 : W.cell? ⟨g, 0, none⟩ = some u0) (h1 : W.cell? ⟨g, 1, none⟩ = some u1)
 (h2:W.cell? ⟨g',0,none⟩=some u2) (h3:W.cell? ⟨g',1,none⟩=some u3) (d0:ku u0=false) (d1:ku u1=false) (d2:ku u2=false) (d3:ku u3=false) (hN:yh W (.agg #[b,s]) n L) (hM:yh W (.agg #[b',s']) (d:Nat) L) (hd:0 < d) (hq:q=mkRat n d) :
 wa6 q L w (.returned (.tuple #[.agg #[b,s],.agg #[b',s']])) ((((W.setCell ⟨g,0,none⟩ b).setCell ⟨g,1,none⟩ s).setCell ⟨g',0,none⟩ b').setCell ⟨g',1,none⟩ s'):=by
 have k1:(W.setCell ⟨g,0,none⟩ b).cell? ⟨g,1,none⟩=some u1:=by rw [World.cell?_setCell_other _ _ _ _ (by simp),h1]
 have k2:((W.setCell ⟨g,0,none⟩ b).setCell ⟨g,1,none⟩ s).cell? ⟨g',0,none⟩=some u2:=by
  rw [World.cell?_setCell_other _ _ _ _ (by simp),World.cell?_setCell_other _ _ _ _ (by intro e; injection e; omega),h2]
 have k3:(((W.setCell ⟨g,0,none⟩ b).setCell ⟨g,1,none⟩ s).setCell ⟨g',0,none⟩ b').cell? ⟨g',1,none⟩=some u3:=by
  rw [World.cell?_setCell_other _ _ _ _ (by simp),World.cell?_setCell_other _ _ _ _ (by intro e; injection e; omega),World.cell?_setCell_other _ _ _ _ (by simp),h3]
 exact ⟨_,_,n,d,rfl,(((hN.box h0 d0 _).box k1 d1 _).box k2 d2 _).box k3 d3 _,(((hM.box h0 d0 _).box k1 d1 _).box k2 d2 _).box k3 d3 _,hd,hq,(((hx.setCell (by simpa using hg) _).setCell (by simpa using hg) _).setCell (by simpa using hg') _).setCell (by simpa using hg') _⟩
theorem qac (v:Value) (q:Rat) (L:Nat) (w:World) (h:qw w v q L) (hL:1<=L):Calls Tryz.prog 132 #[v] w (wa6 q L w):=by
 obtain ⟨neg,s1,s2,ds,es,rfl,⟨A,c,rfl,h1,h2,h3⟩,⟨A',c',rfl,h1',h2',h3'⟩,hq,hl,hl'⟩:=h;have H3:=Lib.hid h3;have H3':=Lib.hid h3';have HQ:=Lib.hid hq;clear h3 h3' hq;go_enter Tryz.func132,Tryz.ntmps132;go_wp2_with fail;generalize hW:((w.alloc (Obj.cells #[.bool neg,.slice A ds.length c,.slice A' es.length c'] 65)).alloc (Obj.cells #[.bool false,.slice none 0 0] 33)).alloc (Obj.cells #[.bool false,.slice none 0 0] 33)=W;have HX0:Hid (Ext w W):=by
  have:Ext w W:=by rw [<- hW]; exact (((Ext.refl w).alloc _).alloc _).alloc _
  exact this
 have HWS:Hid (W.heap.size=w.heap.size+1+1+1):=by
  have:W.heap.size=w.heap.size+1+1+1:=by rw [<- hW]; simp
  exact this
 have HS:Hid (∀ W',Ext W W'->(Ext w W'/\W'.cell? ⟨w.heap.size,0,none⟩=some (.bool neg)/\W'.cell? ⟨w.heap.size,1,none⟩=some (.slice A ds.length c)/\W'.cell? ⟨w.heap.size,2,none⟩=some (.slice A' es.length c'))):=by
  intro W' hx;obtain ⟨hc,hf⟩:=hx.cells;have hsz:=HWS.out;refine ⟨HX0.out.trans hx,?_,?_,?_⟩ <;> (rw [hc _ _ (by omega),<- hW]; simp [go_sem])
 have HR:Hid (∀ W',Ext W W'->(W'.cell? ⟨w.heap.size+1,0,none⟩=some (.bool false)/\W'.cell? ⟨w.heap.size+1,1,none⟩=some (.slice none 0 0)/\W'.cell? ⟨w.heap.size+1+1,0,none⟩=some (.bool false)/\W'.cell? ⟨w.heap.size+1+1,1,none⟩=some (.slice none 0 0)/\W'.frozen? ⟨w.heap.size+1,0,none⟩=false/\W'.frozen? ⟨w.heap.size+1,1,none⟩=false/\W'.frozen? ⟨w.heap.size+1+1,0,none⟩=false/\W'.frozen? ⟨w.heap.size+1+1,1,none⟩=false)):=by
  intro W' hx;obtain ⟨hc,hf⟩:=hx.cells;have hsz:=HWS.out;refine ⟨?_,?_,?_,?_,?_,?_,?_,?_⟩ <;> first | (rw [hc _ _ (by omega),<- hW]; simp [go_sem]; done) | (rw [hf _ _ (by omega),<- hW]; simp [go_sem]; done)
 have HS2_2:Hid (∀ W'' v0 v1,Ext W W''->∀ W',W'=(W''.setCell ⟨w.heap.size+1,0,none⟩ v0).setCell ⟨w.heap.size+1,1,none⟩ v1->(Ext w W'/\W'.cell? ⟨w.heap.size,0,none⟩=some (.bool neg)/\W'.cell? ⟨w.heap.size,1,none⟩=some (.slice A ds.length c)/\W'.cell? ⟨w.heap.size,2,none⟩=some (.slice A' es.length c'))):=by
  intro W'' v0 v1 hx W' hW';obtain ⟨s1,c0,c1,c2⟩:=HS.out W'' hx;rw [hW'];refine ⟨(s1.setCell (by simp; try omega) _).setCell (by simp; try omega) _,?_,?_,?_⟩ <;> rw [World.cell?_setCell_other _ _ _ _ (by simp; try omega),World.cell?_setCell_other _ _ _ _ (by simp; try omega)] <;> assumption
 have HS2:Hid (∀ W'' v0 v1 v2 v3,Ext W W''->∀ W',W'=(((W''.setCell ⟨w.heap.size+1,0,none⟩ v0).setCell ⟨w.heap.size+1,1,none⟩ v1).setCell ⟨w.heap.size+1+1,0,none⟩ v2).setCell ⟨w.heap.size+1+1,1,none⟩ v3->(Ext w W'/\W'.cell? ⟨w.heap.size,0,none⟩=some (.bool neg)/\W'.cell? ⟨w.heap.size,1,none⟩=some (.slice A ds.length c)/\W'.cell? ⟨w.heap.size,2,none⟩=some (.slice A' es.length c'))):=by
  intro W'' v0 v1 v2 v3 hx W' hW';obtain ⟨s1,c0,c1,c2⟩:=HS.out W'' hx;rw [hW'];refine ⟨(((s1.setCell (by simp; try omega) _).setCell (by simp; try omega) _).setCell (by simp; try omega) _).setCell (by simp; try omega) _,?_,?_,?_⟩ <;> rw [World.cell?_setCell_other _ _ _ _ (by simp; try omega),World.cell?_setCell_other _ _ _ _ (by simp; try omega),World.cell?_setCell_other _ _ _ _ (by simp; try omega),World.cell?_setCell_other _ _ _ _ (by simp; try omega)] <;> assumption
 clear hW;obtain ⟨e0,b0,b1,b2⟩:=HS.out W (Ext.refl W);have E0:=Lib.hid e0;clear e0;refine (wag _ es _ ⟨A',c',rfl,h1',h2',H3'.out.ext E0.out⟩).mono ?_;rintro e w1 ⟨rfl,rfl⟩
 by_cases h0:val es=0
 · have hb:(val es == 0)=true:=by simp [h0]
   have H0:=Lib.hid h0;clear h0;go_wp2_with fail;refine (of_int 1 _ (by omega) (by omega)).mono ?_;rintro e w2 ⟨x2,rfl,⟨v2,rfl,A2,c2,rfl,q1,q2,q3⟩,y2⟩;obtain ⟨r0,r1,r2,r3,f0,f1,f2,f3⟩:=HR.out w2 y2;have hN:yh w2 (.agg #[.bool (decide ((1:Int) < 0)),.slice A2 (dg (1:Int).natAbs).length c2]) ((1:Nat):Int) L:=yh.mono (uab.raw ⟨_,rfl,A2,c2,rfl,q1,q2,q3⟩) (by rw [show dg (((1:Nat):Int)).natAbs=[1] from jap (by decide) ga2]; exact hL);have HF:=Lib.hid (ga4 (q:=q) (n:=0) (d:=1) (g:=w.heap.size+1) (g':=w.heap.size+1+1) (E0.out.trans y2) (by omega) (by omega) (by omega) r0 r1 r2 r3 rfl rfl rfl rfl (show yh w2 (.agg #[.bool false,.slice none 0 0]) 0 L from ⟨false,_,[],rfl,jb.nil _,rfl,Nat.zero_le _⟩) hN (by omega) (by rw [HQ.out,H0.out]; simp));clear hN q3 y2;go_wp2_with fail;exact bodyPost_ret (v:=.tuple #[.agg #[.bool false,.slice none 0 0],.agg #[.bool false,.slice A2 (dg 1).length c2]]) (by simp [results,Tryz.results132,go_sem,r0,r1,r2,r3]) rfl HF.out
 · have hb:(val es == 0)=false:=by simp [h0]
   obtain ⟨r0,r1,r2,r3,f0,f1,f2,f3⟩:=HR.out W (Ext.refl W);have HF:Hid (∀ W',W'=W.drewN 1->wa6 q L w (.returned (.tuple #[.agg #[.bool neg,.slice A ds.length c],.agg #[.bool false,.slice A' es.length c']])) ((((W'.setCell ⟨w.heap.size+1,0,none⟩ (.bool neg)).setCell ⟨w.heap.size+1,1,none⟩ (.slice A ds.length c)).setCell ⟨w.heap.size+1+1,0,none⟩ (.bool false)).setCell ⟨w.heap.size+1+1,1,none⟩ (.slice A' es.length c'))):=by
    intro W' hW';have x1:Ext w W':=by rw [hW']; exact E0.out.drewN 1
    exact ga4 (n:=sgn neg (val ds)) (d:=val es) x1 (by omega) (by omega) (by omega) (by rw [hW']; exact r0) (by rw [hW']; exact r1) (by rw [hW']; exact r2) (by rw [hW']; exact r3) rfl rfl rfl rfl ⟨neg,_,ds,rfl,⟨A,c,rfl,h1,h2,H3.out.ext x1⟩,rfl,hl⟩ ⟨false,_,es,rfl,⟨A',c',rfl,h1',h2',H3'.out.ext x1⟩,rfl,hl'⟩ (Nat.pos_of_ne_zero h0) HQ.out
   clear h0;go_wp2_with fail
   go_region_held3 (fun W' => Ext w W' /\ W'.cell? ⟨w.heap.size, 0, none⟩ = some (.bool neg) /\ W'.cell? ⟨w.heap.size, 1, none⟩ = some (.slice A ds.length c) /\ W'.cell? ⟨w.heap.size, 2, none⟩ = some (.slice A' es.length c'))
    (first | exact HS.out _ ((Ext.refl W).drew) | exact HS2_2.out _ _ _ ((Ext.refl W).drew) _ rfl | exact HS2.out _ _ _ _ _ ((Ext.refl W).drew) _ rfl)
    (fail)
   clear HS HS2 HS2_2 HR;go_wp2_with fail;exact bodyPost_ret (v:=.tuple #[.agg #[.bool neg,.slice A ds.length c],.agg #[.bool false,.slice A' es.length c']]) (by simp [results,Tryz.results132,go_sem,r0,r1,r2,r3]) rfl (HF.out _ rfl)
end Go.Proofs.YtcfcjabgkfehlaaGreat
