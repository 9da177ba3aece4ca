/- Layer 22: recpoly.Const, mul by a constant, scale, Scale, Neg. -/
import Derived.Test.YtaedbimbbeploaaGreatMz43
import Derived.Test.YtaedbimbbeploaaGreatMz42
import Derived.Test.YtaedbimbbeploaaGreatMz30
import Derived.Test.YtaedbimbbeploaaGreatMz34
import Derived.Test.YtaedbimbbeploaaGreatMz38
set_option linter.unusedSimpArgs false
set_option linter.unusedVariables false
set_option maxRecDepth 100000
set_option maxHeartbeats 8000000
namespace Go.Proofs.YtaedbimbbeploaaGreat
open Go.RowKit
theorem yg.lt {w:World} {x:Value} {z:Int} {L:Nat} (h:yg w x z L):z.natAbs < B32 ^ L:=by
 obtain ⟨n,s,ds,rfl,hn,hz,hl⟩:=h;rw [hz,zn];exact Nat.lt_of_lt_of_le (ww (ja.digs hn)) (Nat.pow_le_pow_right (by decide) hl)
theorem wci {w:World} {s:Value} {z:Int} {L:Nat} (h:ja w s (dg z.natAbs)) (hL:(dg z.natAbs).length<=L):yg w (.agg #[.bool (decide (z < 0)),s]) z L:=⟨_,_,_,rfl,h,by rw [je,jam],hL⟩
theorem jby (z:Int) (s A:Value):plV (Pl.const z) s A=.agg #[.int .i64 0,.bool (decide (z < 0)),s,A]:=rfl
theorem jb2 {w:World} {s:Value} {z:Int} (q:Nat->Prop) (h:ja w s (dg z.natAbs)):PlV w q (Pl.const z) (plV (Pl.const z) s (.slice none 0 0)):=
 PlV.mk (t:=Pl.const z) (A:=none) (c:=0) h (Nat.le_refl _) (by omega) (by unfold Pl.const Pl.cs jg; trivial)
theorem xbr {w:World} {z:Int} {L:Nat} (v0:Value) (h0:yg w v0 z L) (hL:L<=35184372088832):Calls Tryz.prog 94 #[v0] w (qo (fun b=>w.heap.size<=b) (Pl.const z) w):=by
 have H0:=Lib.hid h0;obtain ⟨n0,s0,e0,rfl,⟨A0,c0,rfl,-,-,-⟩,-,-⟩:=h0;obtain ⟨W,hW⟩:∃ W,(w.alloc (.cells #[.bool n0,.slice A0 e0.length c0] 26)).alloc (.cells #[.int .i64 0,.bool false,.slice none 0 0,.slice none 0 0] 29)=W:=⟨_,rfl⟩;have hWx:Ext w W:=by rw [<- hW]; exact ((Ext.refl w).alloc _).alloc _
 have hWs:W.heap.size=w.heap.size+1+1:=by rw [<- hW]; simp
 have HX0:=Lib.hid hWx;have HS:Hid (∀ W',Ext W W'->(Ext w W'/\W'.cell? ⟨w.heap.size,0,none⟩=some (.bool n0)/\W'.cell? ⟨w.heap.size,1,none⟩=some (.slice A0 e0.length c0))):=by
  have:∀ W',Ext W W'->(Ext w W'/\W'.cell? ⟨w.heap.size,0,none⟩=some (.bool n0)/\W'.cell? ⟨w.heap.size,1,none⟩=some (.slice A0 e0.length c0)):=fun W' hx=>by
   obtain ⟨hc,hf⟩:=hx.cells;refine ⟨hWx.trans hx,?_,?_⟩ <;> (rw [hc _ _ (by omega),<- hW]; simp [go_sem])
  exact this
 have HZ:Hid (yt W (w.heap.size+1)):=by
  have:yt W (w.heap.size+1):=by
   rw [<- hW];refine ⟨⟨?_,?_,?_,?_⟩,fun i=>?_⟩ <;> simp [go_sem]
  exact this
 obtain ⟨-,b0,b1⟩:=HS.out W (Ext.refl W);clear hWx;go_enter Tryz.func94,Tryz.ntmps94;go_wp2_with fail;clear hW b0 b1;refine (yaf _ z L _ (H0.out.ext HX0.out) hL).mono ?_;rintro e w1 ⟨z1,rfl,⟨y1,rfl,m1⟩,x1⟩;obtain ⟨C1,k1,rfl,-⟩:=id m1;have YY1:=Lib.hid (x1);have hzn:=HZ.out.ext YY1.out (by omega);have hsn:=(YY1.out:Ext W _).size
 have HF:Hid (qo (fun b=>w.heap.size<=b) (Pl.const z) w (.returned (plV (Pl.const z) (.slice C1 (dg z.natAbs).length k1) (.slice none 0 0))) ((((w1.setCell ⟨w.heap.size+1,0,none⟩ (.int .i64 0)).setCell ⟨w.heap.size+1,1,none⟩ (.bool (decide (z < 0)))).setCell ⟨w.heap.size+1,2,none⟩ (.slice C1 (dg z.natAbs).length k1)).setCell ⟨w.heap.size+1,3,none⟩ (.slice none 0 0))):=
  xw (p:=Pl.const z) (q:=fun _=>False) (HX0.out.trans YY1.out) (by omega) hzn (jb2 _ m1) (fun b _ h=>h.elim)
 obtain ⟨⟨r0,r1,r2,r3⟩,rf⟩:=hzn;clear m1 x1 HS HZ;go_wp2_with fail;exact bodyPost_ret (v:=plV (Pl.const z) (.slice C1 (dg z.natAbs).length k1) (.slice none 0 0)) (by simp [results,Tryz.results94,go_sem,r0,r1,r2,r3,jby]) rfl HF.out
theorem jci (w0:World) (z:Int) (u:Value) (E D G:Nat) (hE:E<=1000000) (hD:D+G<=35184372088000) (hz:z.natAbs < B32 ^ G) (k:PlV w0 (fun _=>True) (Pl.const z) u) (n:Nat) :
 ∀ (p:Pl) (v:Value) (w:World),p.sz < n->Fit p E D->PlV w0 (fun _=>True) p v->Ext w0 w->Calls Tryz.prog 93 #[v,u] w (qo (fun i=>w.heap.size<=i) (p.mul (Pl.const z)) w):=by
 induction n with
 | zero=>intro p v w h; omega
 | succ n ih =>
   intro p v w hn hp h hx;refine qci (F:=0) p (Pl.const z) v u hp (Fit.const hz) hE (by omega) hD h k hx (fun e=>e) (fun a h1 x pa W' hx'=>?_) (fun a h1=>by simp [Pl.const,Pl.cs] at h1);obtain ⟨l,ng,ds,cs⟩:=p;have hl:0 < l:=by
    have:=hp.can;unfold Pl.Can at this;rcases this with h | h
    · simp only [Pl.cs,h.2.1] at h1; cases h1
    · omega
   exact ih a x W' (by have:=Pl.sz_kid h1; omega) (hp.kid hl h1) pa hx'
theorem wb8 {w:World} {q q':Nat->Prop} {z:Int} {E D G:Nat} (p:Pl) (v u:Value) (hp:Fit p E D) (hz:z.natAbs < B32 ^ G) (hE:E<=1000000) (hD:D+G<=35184372088000) (h:PlV w q p v) (k:PlV w q' (Pl.const z) u):Calls Tryz.prog 93 #[v,u] w (qo (fun i=>w.heap.size<=i) (p.mul (Pl.const z)) w):=
 jci w z u E D G hE hD hz (k.mono fun _ _=>trivial) (p.sz+1) p v w (Nat.lt_succ_self _) hp (h.mono fun _ _=>trivial) (Ext.refl w)
theorem ybx {w:World} {p:Pl} {z:Int} {L E D:Nat} {q0:Nat->Prop} (v0:Value) (v1:Value) (h0:PlV w q0 p v0) (h1:yg w v1 z L) (hp:Fit p E D) (hE:E<=1000000) (hD:D+L<=35184372088000):Calls Tryz.prog 68 #[v0,v1] w (qo (fun b=>w.heap.size<=b) (p.mul (Pl.const z)) w):=by
 have H0:=Lib.hid h0;obtain ⟨A0,n0,c0,B0,d0,rfl,-,-,-,-⟩:=h0.open_;clear h0;have H1:=Lib.hid h1;obtain ⟨n1,s1,e1,rfl,⟨A1,c1,rfl,-,-,-⟩,-,-⟩:=h1;obtain ⟨W,hW⟩:∃ W,((w.alloc (.cells #[.int .i64 (p).lv,.bool (p).neg,.slice A0 n0 c0,.slice B0 (p).cs.length d0] 29)).alloc (.cells #[.bool n1,.slice A1 e1.length c1] 26)).alloc (.cells #[.int .i64 0,.bool false,.slice none 0 0,.slice none 0 0] 29)=W:=⟨_,rfl⟩;have hWx:Ext w W:=by rw [<- hW]; exact (((Ext.refl w).alloc _).alloc _).alloc _
 have hWs:W.heap.size=w.heap.size+1+1+1:=by rw [<- hW]; simp
 have HX0:=Lib.hid hWx;have HS:Hid (∀ W',Ext W W'->(Ext w W'/\W'.cell? ⟨w.heap.size,0,none⟩=some (.int .i64 (p).lv)/\W'.cell? ⟨w.heap.size,1,none⟩=some (.bool (p).neg)/\W'.cell? ⟨w.heap.size,2,none⟩=some (.slice A0 n0 c0)/\W'.cell? ⟨w.heap.size,3,none⟩=some (.slice B0 (p).cs.length d0)/\W'.cell? ⟨w.heap.size+1,0,none⟩=some (.bool n1)/\W'.cell? ⟨w.heap.size+1,1,none⟩=some (.slice A1 e1.length c1))):=by
  have:∀ W',Ext W W'->(Ext w W'/\W'.cell? ⟨w.heap.size,0,none⟩=some (.int .i64 (p).lv)/\W'.cell? ⟨w.heap.size,1,none⟩=some (.bool (p).neg)/\W'.cell? ⟨w.heap.size,2,none⟩=some (.slice A0 n0 c0)/\W'.cell? ⟨w.heap.size,3,none⟩=some (.slice B0 (p).cs.length d0)/\W'.cell? ⟨w.heap.size+1,0,none⟩=some (.bool n1)/\W'.cell? ⟨w.heap.size+1,1,none⟩=some (.slice A1 e1.length c1)):=fun W' hx=>by
   obtain ⟨hc,hf⟩:=hx.cells;refine ⟨hWx.trans hx,?_,?_,?_,?_,?_,?_⟩ <;> (rw [hc _ _ (by omega),<- hW]; simp [go_sem])
  exact this
 have HZ:Hid (yt W (w.heap.size+1+1)):=by
  have:yt W (w.heap.size+1+1):=by
   rw [<- hW];refine ⟨⟨?_,?_,?_,?_⟩,fun i=>?_⟩ <;> simp [go_sem]
  exact this
 have HS2:Hid (∀ W'' u0 u1 u2 u3,Ext W W''->∀ W',W'=(((W''.setCell ⟨w.heap.size+1+1,0,none⟩ u0).setCell ⟨w.heap.size+1+1,1,none⟩ u1).setCell ⟨w.heap.size+1+1,2,none⟩ u2).setCell ⟨w.heap.size+1+1,3,none⟩ u3->(Ext w W'/\W'.cell? ⟨w.heap.size,0,none⟩=some (.int .i64 (p).lv)/\W'.cell? ⟨w.heap.size,1,none⟩=some (.bool (p).neg)/\W'.cell? ⟨w.heap.size,2,none⟩=some (.slice A0 n0 c0)/\W'.cell? ⟨w.heap.size,3,none⟩=some (.slice B0 (p).cs.length d0)/\W'.cell? ⟨w.heap.size+1,0,none⟩=some (.bool n1)/\W'.cell? ⟨w.heap.size+1,1,none⟩=some (.slice A1 e1.length c1))):=by
  have:∀ W'' u0 u1 u2 u3,Ext W W''->∀ W',W'=(((W''.setCell ⟨w.heap.size+1+1,0,none⟩ u0).setCell ⟨w.heap.size+1+1,1,none⟩ u1).setCell ⟨w.heap.size+1+1,2,none⟩ u2).setCell ⟨w.heap.size+1+1,3,none⟩ u3->(Ext w W'/\W'.cell? ⟨w.heap.size,0,none⟩=some (.int .i64 (p).lv)/\W'.cell? ⟨w.heap.size,1,none⟩=some (.bool (p).neg)/\W'.cell? ⟨w.heap.size,2,none⟩=some (.slice A0 n0 c0)/\W'.cell? ⟨w.heap.size,3,none⟩=some (.slice B0 (p).cs.length d0)/\W'.cell? ⟨w.heap.size+1,0,none⟩=some (.bool n1)/\W'.cell? ⟨w.heap.size+1,1,none⟩=some (.slice A1 e1.length c1)):=fun W'' u0 u1 u2 u3 hx W' hW'=>by
   obtain ⟨s1,k0,k1,k2,k3,k4,k5⟩:=HS.out W'' hx;rw [hW'];refine ⟨(((s1.setCell (by simp; try omega) _).setCell (by simp; try omega) _).setCell (by simp; try omega) _).setCell (by simp; try omega) _,?_,?_,?_,?_,?_,?_⟩ <;> rw [World.cell?_setCell_other _ _ _ _ (by simp; try omega),World.cell?_setCell_other _ _ _ _ (by simp; try omega),World.cell?_setCell_other _ _ _ _ (by simp; try omega),World.cell?_setCell_other _ _ _ _ (by simp; try omega)] <;> assumption
  exact this
 have HFP:=Lib.hid hp;have HZL:=Lib.hid (yg.lt H1.out);clear hp;obtain ⟨-,b0,b1,b2,b3,b4,b5⟩:=HS.out W (Ext.refl W);clear hWx;unfold plV at *;go_enter Tryz.func68,Tryz.ntmps68;go_wp2_with fail;clear hW b0 b1 b2 b3 b4 b5;have yy0:Ext W W.drew:=(Ext.refl W).drew;have Y0:=Lib.hid yy0;clear yy0
 go_region_held3 (fun W' => Ext w W' /\ W'.cell? ⟨w.heap.size, 0, none⟩ = some (.int .i64 (p).lv) /\ W'.cell? ⟨w.heap.size, 1, none⟩ = some (.bool (p).neg) /\ W'.cell? ⟨w.heap.size, 2, none⟩ = some (.slice A0 n0 c0) /\ W'.cell? ⟨w.heap.size, 3, none⟩ = some (.slice B0 (p).cs.length d0) /\ W'.cell? ⟨w.heap.size + 1, 0, none⟩ = some (.bool n1) /\ W'.cell? ⟨w.heap.size + 1, 1, none⟩ = some (.slice A1 e1.length c1))
  (first | with_reducible exact HS.out _ Y0.out | with_reducible exact HS.out _ yy1 | with_reducible exact HS.out _ yy2 | exact HS2.out _ _ _ _ _ yy2 _ rfl)
  (first
    | (go_at_call 94
       refine (xbr _ (H1.out.ext (HX0.out.trans Y0.out)) (by omega)).mono ?_;rintro e w1 ⟨z1,rfl,m1,x1⟩;obtain ⟨C1,i1,j1,D1,k1,rfl,-⟩:=id m1.open_;have yy1:Ext W w1:=Ext.trans Y0.out x1
       unfold plV)
    | (go_at_call 93
       refine (wb8 (G:=L) p _ _ HFP.out HZL.out hE hD (H0.out.ext (HX0.out.trans yy1)) m1).mono ?_;rintro e w2 ⟨z2,rfl,m2,x2⟩;obtain ⟨C2,i2,j2,D2,k2,rfl,-⟩:=id m2.open_;have yy2:Ext W w2:=Ext.trans yy1 x2
       replace m1:=m1.ext x2
       obtain ⟨⟨r0,r1,r2,r3⟩,rf⟩:=HZ.out.ext yy2 (by omega)
       unfold plV))
 have hzn:=HZ.out.ext yy2 (by omega);have hsn:=(yy2:Ext W _).size;have hsp:=(yy1:Ext W _).size;have HF:=Lib.hid (xw (q':=fun b=>w.heap.size<=b) (HX0.out.trans yy2) (by omega) hzn m2 (fun b _ hb=>⟨by omega,by omega⟩));clear m2 x2 m1 x1 yy2 yy1 HS2 HS HZ
 try unfold plV
 go_wp2_with fail;exact bodyPost_ret (by simp [results,Tryz.results68,go_sem,r0,r1,r2,r3,plV]) rfl HF.out
theorem qbr {w:World} {p:Pl} {z:Int} {L E D:Nat} {q0:Nat->Prop} (v0:Value) (v1:Value) (h0:PlV w q0 p v0) (h1:yg w v1 z L) (hs0:∀ W',Ext w W'->Calls Tryz.prog 30 #[v0] W' (qo (fun b=>q0 b\/W'.heap.size<=b) p.nf W')) (hp:Fit p.nf E D) (hE:E<=1000) (hD:D+L<=35184372088000):Calls Tryz.prog 44 #[v0,v1] w (qo (fun b=>w.heap.size<=b) (p.nf.mul (Pl.const z)) w):=by
 have H0:=Lib.hid h0;obtain ⟨A0,n0,c0,B0,d0,rfl,-,-,-,-⟩:=h0.open_;clear h0;have H1:=Lib.hid h1;obtain ⟨n1,s1,e1,rfl,⟨A1,c1,rfl,-,-,-⟩,-,-⟩:=h1;obtain ⟨W,hW⟩:∃ W,((w.alloc (.cells #[.int .i64 (p).lv,.bool (p).neg,.slice A0 n0 c0,.slice B0 (p).cs.length d0] 29)).alloc (.cells #[.bool n1,.slice A1 e1.length c1] 26)).alloc (.cells #[.int .i64 0,.bool false,.slice none 0 0,.slice none 0 0] 29)=W:=⟨_,rfl⟩;have hWx:Ext w W:=by rw [<- hW]; exact (((Ext.refl w).alloc _).alloc _).alloc _
 have hWs:W.heap.size=w.heap.size+1+1+1:=by rw [<- hW]; simp
 have HX0:=Lib.hid hWx;have HS:Hid (∀ W',Ext W W'->(Ext w W'/\W'.cell? ⟨w.heap.size,0,none⟩=some (.int .i64 (p).lv)/\W'.cell? ⟨w.heap.size,1,none⟩=some (.bool (p).neg)/\W'.cell? ⟨w.heap.size,2,none⟩=some (.slice A0 n0 c0)/\W'.cell? ⟨w.heap.size,3,none⟩=some (.slice B0 (p).cs.length d0)/\W'.cell? ⟨w.heap.size+1,0,none⟩=some (.bool n1)/\W'.cell? ⟨w.heap.size+1,1,none⟩=some (.slice A1 e1.length c1))):=by
  have:∀ W',Ext W W'->(Ext w W'/\W'.cell? ⟨w.heap.size,0,none⟩=some (.int .i64 (p).lv)/\W'.cell? ⟨w.heap.size,1,none⟩=some (.bool (p).neg)/\W'.cell? ⟨w.heap.size,2,none⟩=some (.slice A0 n0 c0)/\W'.cell? ⟨w.heap.size,3,none⟩=some (.slice B0 (p).cs.length d0)/\W'.cell? ⟨w.heap.size+1,0,none⟩=some (.bool n1)/\W'.cell? ⟨w.heap.size+1,1,none⟩=some (.slice A1 e1.length c1)):=fun W' hx=>by
   obtain ⟨hc,hf⟩:=hx.cells;refine ⟨hWx.trans hx,?_,?_,?_,?_,?_,?_⟩ <;> (rw [hc _ _ (by omega),<- hW]; simp [go_sem])
  exact this
 have HZ:Hid (yt W (w.heap.size+1+1)):=by
  have:yt W (w.heap.size+1+1):=by
   rw [<- hW];refine ⟨⟨?_,?_,?_,?_⟩,fun i=>?_⟩ <;> simp [go_sem]
  exact this
 have HS2:Hid (∀ W'' u0 u1 u2 u3,Ext W W''->∀ W',W'=(((W''.setCell ⟨w.heap.size+1+1,0,none⟩ u0).setCell ⟨w.heap.size+1+1,1,none⟩ u1).setCell ⟨w.heap.size+1+1,2,none⟩ u2).setCell ⟨w.heap.size+1+1,3,none⟩ u3->(Ext w W'/\W'.cell? ⟨w.heap.size,0,none⟩=some (.int .i64 (p).lv)/\W'.cell? ⟨w.heap.size,1,none⟩=some (.bool (p).neg)/\W'.cell? ⟨w.heap.size,2,none⟩=some (.slice A0 n0 c0)/\W'.cell? ⟨w.heap.size,3,none⟩=some (.slice B0 (p).cs.length d0)/\W'.cell? ⟨w.heap.size+1,0,none⟩=some (.bool n1)/\W'.cell? ⟨w.heap.size+1,1,none⟩=some (.slice A1 e1.length c1))):=by
  have:∀ W'' u0 u1 u2 u3,Ext W W''->∀ W',W'=(((W''.setCell ⟨w.heap.size+1+1,0,none⟩ u0).setCell ⟨w.heap.size+1+1,1,none⟩ u1).setCell ⟨w.heap.size+1+1,2,none⟩ u2).setCell ⟨w.heap.size+1+1,3,none⟩ u3->(Ext w W'/\W'.cell? ⟨w.heap.size,0,none⟩=some (.int .i64 (p).lv)/\W'.cell? ⟨w.heap.size,1,none⟩=some (.bool (p).neg)/\W'.cell? ⟨w.heap.size,2,none⟩=some (.slice A0 n0 c0)/\W'.cell? ⟨w.heap.size,3,none⟩=some (.slice B0 (p).cs.length d0)/\W'.cell? ⟨w.heap.size+1,0,none⟩=some (.bool n1)/\W'.cell? ⟨w.heap.size+1,1,none⟩=some (.slice A1 e1.length c1)):=fun W'' u0 u1 u2 u3 hx W' hW'=>by
   obtain ⟨s1,k0,k1,k2,k3,k4,k5⟩:=HS.out W'' hx;rw [hW'];refine ⟨(((s1.setCell (by simp; try omega) _).setCell (by simp; try omega) _).setCell (by simp; try omega) _).setCell (by simp; try omega) _,?_,?_,?_,?_,?_,?_⟩ <;> rw [World.cell?_setCell_other _ _ _ _ (by simp; try omega),World.cell?_setCell_other _ _ _ _ (by simp; try omega),World.cell?_setCell_other _ _ _ _ (by simp; try omega),World.cell?_setCell_other _ _ _ _ (by simp; try omega)] <;> assumption
  exact this
 have HFP:=Lib.hid hp;have HS0:=Lib.hid hs0;have hfm:=hp.mul (Fit.const (E:=0) (yg.lt H1.out));have HSZ:=Lib.hid (Nat.le_trans hfm.sz (Nat.le_trans (Nat.pow_le_pow_left (show E+0+2<=1002 by omega) 4) (show 1002 ^ 4<=1099511627776 by decide)));have HDM:=Lib.hid (Nat.le_trans hfm.dm (show D+L<=35184372088832 by omega));clear hp hfm hs0;obtain ⟨-,b0,b1,b2,b3,b4,b5⟩:=HS.out W (Ext.refl W);clear hWx;unfold plV at *;go_enter Tryz.func44,Tryz.ntmps44;go_wp2_with fail;clear hW b0 b1 b2 b3 b4 b5;have yy0:Ext W W.drew:=(Ext.refl W).drew;have Y0:=Lib.hid yy0;clear yy0
 go_region_held3 (fun W' => Ext w W' /\ W'.cell? ⟨w.heap.size, 0, none⟩ = some (.int .i64 (p).lv) /\ W'.cell? ⟨w.heap.size, 1, none⟩ = some (.bool (p).neg) /\ W'.cell? ⟨w.heap.size, 2, none⟩ = some (.slice A0 n0 c0) /\ W'.cell? ⟨w.heap.size, 3, none⟩ = some (.slice B0 (p).cs.length d0) /\ W'.cell? ⟨w.heap.size + 1, 0, none⟩ = some (.bool n1) /\ W'.cell? ⟨w.heap.size + 1, 1, none⟩ = some (.slice A1 e1.length c1))
  (first | with_reducible exact HS.out _ Y0.out | with_reducible exact HS.out _ yy1 | with_reducible exact HS.out _ yy2 | with_reducible exact HS.out _ yy3 | exact HS2.out _ _ _ _ _ yy3 _ rfl)
  (first
    | (go_at_call 30
       refine (HS0.out _ (HX0.out.trans Y0.out)).mono ?_;rintro e w1 ⟨z1,rfl,m1,x1⟩;obtain ⟨C1,i1,j1,D1,k1,rfl,-⟩:=id m1.open_;have yy1:Ext W w1:=Ext.trans Y0.out x1
       unfold plV)
    | (go_at_call 68
       refine (ybx _ _ m1 (H1.out.ext (HX0.out.trans yy1)) HFP.out (by omega) hD).mono ?_;rintro e w2 ⟨z2,rfl,m2,x2⟩;obtain ⟨C2,i2,j2,D2,k2,rfl,-⟩:=id m2.open_;have yy2:Ext W w2:=Ext.trans yy1 x2
       replace m1:=m1.ext x2
       unfold plV)
    | (go_at_call 33
       refine (ubi _ _ (Pl.mul_can _ _) HSZ.out HDM.out m2).mono ?_;rintro e w3 ⟨z3,rfl,m3,x3⟩;obtain ⟨C3,i3,j3,D3,k3,rfl,-⟩:=id m3.open_;have yy3:Ext W w3:=Ext.trans yy2 x3
       replace m1:=m1.ext x3
       replace m2:=m2.ext x3
       obtain ⟨⟨r0,r1,r2,r3⟩,rf⟩:=HZ.out.ext yy3 (by omega)
       unfold plV))
 have hzn:=HZ.out.ext yy3 (by omega);have hsn:=(yy3:Ext W _).size;have hsp:=(yy2:Ext W _).size;have HF:=Lib.hid (xw (q':=fun b=>w.heap.size<=b) (HX0.out.trans yy3) (by omega) hzn m3 (fun b _ hb=>⟨by omega,by omega⟩));clear m3 x3 m2 x2 m1 x1 yy3 yy2 yy1 HS2 HS HZ
 try unfold plV
 go_wp2_with fail;exact bodyPost_ret (by simp [results,Tryz.results44,go_sem,r0,r1,r2,r3,plV]) rfl HF.out
theorem wb6 {w:World} {p:Pl} {E D:Nat} {q0:Nat->Prop} (v0:Value) (h0:PlV w q0 p v0) (hs0:∀ W',Ext w W'->Calls Tryz.prog 30 #[v0] W' (qo (fun b=>q0 b\/W'.heap.size<=b) p.nf W')) (hp:Fit p.nf E D) (hE:E<=1000) (hD:D+1<=35184372088000):Calls Tryz.prog 17 #[v0] w (qo (fun b=>w.heap.size<=b) (p.nf.mul (Pl.const (-1))) w):=by
 have H0:=Lib.hid h0;obtain ⟨A0,n0,c0,B0,d0,rfl,-,-,-,-⟩:=h0.open_;clear h0;obtain ⟨W,hW⟩:∃ W,(w.alloc (.cells #[.int .i64 (p).lv,.bool (p).neg,.slice A0 n0 c0,.slice B0 (p).cs.length d0] 29)).alloc (.cells #[.int .i64 0,.bool false,.slice none 0 0,.slice none 0 0] 29)=W:=⟨_,rfl⟩;have hWx:Ext w W:=by rw [<- hW]; exact ((Ext.refl w).alloc _).alloc _
 have hWs:W.heap.size=w.heap.size+1+1:=by rw [<- hW]; simp
 have HX0:=Lib.hid hWx;have HS:Hid (∀ W',Ext W W'->(Ext w W'/\W'.cell? ⟨w.heap.size,0,none⟩=some (.int .i64 (p).lv)/\W'.cell? ⟨w.heap.size,1,none⟩=some (.bool (p).neg)/\W'.cell? ⟨w.heap.size,2,none⟩=some (.slice A0 n0 c0)/\W'.cell? ⟨w.heap.size,3,none⟩=some (.slice B0 (p).cs.length d0))):=by
  have:∀ W',Ext W W'->(Ext w W'/\W'.cell? ⟨w.heap.size,0,none⟩=some (.int .i64 (p).lv)/\W'.cell? ⟨w.heap.size,1,none⟩=some (.bool (p).neg)/\W'.cell? ⟨w.heap.size,2,none⟩=some (.slice A0 n0 c0)/\W'.cell? ⟨w.heap.size,3,none⟩=some (.slice B0 (p).cs.length d0)):=fun W' hx=>by
   obtain ⟨hc,hf⟩:=hx.cells;refine ⟨hWx.trans hx,?_,?_,?_,?_⟩ <;> (rw [hc _ _ (by omega),<- hW]; simp [go_sem])
  exact this
 have HZ:Hid (yt W (w.heap.size+1)):=by
  have:yt W (w.heap.size+1):=by
   rw [<- hW];refine ⟨⟨?_,?_,?_,?_⟩,fun i=>?_⟩ <;> simp [go_sem]
  exact this
 have HS2:Hid (∀ W'' u0 u1 u2 u3,Ext W W''->∀ W',W'=(((W''.setCell ⟨w.heap.size+1,0,none⟩ u0).setCell ⟨w.heap.size+1,1,none⟩ u1).setCell ⟨w.heap.size+1,2,none⟩ u2).setCell ⟨w.heap.size+1,3,none⟩ u3->(Ext w W'/\W'.cell? ⟨w.heap.size,0,none⟩=some (.int .i64 (p).lv)/\W'.cell? ⟨w.heap.size,1,none⟩=some (.bool (p).neg)/\W'.cell? ⟨w.heap.size,2,none⟩=some (.slice A0 n0 c0)/\W'.cell? ⟨w.heap.size,3,none⟩=some (.slice B0 (p).cs.length d0))):=by
  have:∀ W'' u0 u1 u2 u3,Ext W W''->∀ W',W'=(((W''.setCell ⟨w.heap.size+1,0,none⟩ u0).setCell ⟨w.heap.size+1,1,none⟩ u1).setCell ⟨w.heap.size+1,2,none⟩ u2).setCell ⟨w.heap.size+1,3,none⟩ u3->(Ext w W'/\W'.cell? ⟨w.heap.size,0,none⟩=some (.int .i64 (p).lv)/\W'.cell? ⟨w.heap.size,1,none⟩=some (.bool (p).neg)/\W'.cell? ⟨w.heap.size,2,none⟩=some (.slice A0 n0 c0)/\W'.cell? ⟨w.heap.size,3,none⟩=some (.slice B0 (p).cs.length d0)):=fun W'' u0 u1 u2 u3 hx W' hW'=>by
   obtain ⟨s1,k0,k1,k2,k3⟩:=HS.out W'' hx;rw [hW'];refine ⟨(((s1.setCell (by simp; try omega) _).setCell (by simp; try omega) _).setCell (by simp; try omega) _).setCell (by simp; try omega) _,?_,?_,?_,?_⟩ <;> rw [World.cell?_setCell_other _ _ _ _ (by simp; try omega),World.cell?_setCell_other _ _ _ _ (by simp; try omega),World.cell?_setCell_other _ _ _ _ (by simp; try omega),World.cell?_setCell_other _ _ _ _ (by simp; try omega)] <;> assumption
  exact this
 have HFP:=Lib.hid hp;have HS0:=Lib.hid hs0;have HM1:Hid ((dg (-1:Int).natAbs).length<=1):=yh (by decide);clear hp hs0;obtain ⟨-,b0,b1,b2,b3⟩:=HS.out W (Ext.refl W);clear hWx;unfold plV at *;go_enter Tryz.func17,Tryz.ntmps17;go_wp2_with fail;clear hW b0 b1 b2 b3;have yy0:Ext W W.drew:=(Ext.refl W).drew;have Y0:=Lib.hid yy0;clear yy0
 go_region_held3 (fun W' => Ext w W' /\ W'.cell? ⟨w.heap.size, 0, none⟩ = some (.int .i64 (p).lv) /\ W'.cell? ⟨w.heap.size, 1, none⟩ = some (.bool (p).neg) /\ W'.cell? ⟨w.heap.size, 2, none⟩ = some (.slice A0 n0 c0) /\ W'.cell? ⟨w.heap.size, 3, none⟩ = some (.slice B0 (p).cs.length d0))
  (first | with_reducible exact HS.out _ Y0.out | with_reducible exact HS.out _ yy1 | with_reducible exact HS.out _ yy2 | exact HS2.out _ _ _ _ _ yy2 _ rfl)
  (first
    | (go_at_call 37
       refine (of_int (-1) _ (by omega) (by omega)).mono ?_;rintro e w1 ⟨z1,rfl,⟨y1,rfl,m1⟩,x1⟩;obtain ⟨C1,k1,rfl,-⟩:=id m1
       have yy1:Ext W w1:=Ext.trans Y0.out x1)
    | (go_at_call 44
       refine (qbr (L:=1) _ _ (H0.out.ext (HX0.out.trans yy1)) (wci m1 HM1.out) (fun W' hx=>HS0.out W' (((HX0.out.trans yy1)).trans hx)) HFP.out hE hD).mono ?_;rintro e w2 ⟨z2,rfl,m2,x2⟩;obtain ⟨C2,i2,j2,D2,k2,rfl,-⟩:=id m2.open_;have yy2:Ext W w2:=Ext.trans yy1 x2
       replace m1:=m1.ext x2
       obtain ⟨⟨r0,r1,r2,r3⟩,rf⟩:=HZ.out.ext yy2 (by omega)
       unfold plV))
 have hzn:=HZ.out.ext yy2 (by omega);have hsn:=(yy2:Ext W _).size;have hsp:=(yy1:Ext W _).size;have HF:=Lib.hid (xw (q':=fun b=>w.heap.size<=b) (HX0.out.trans yy2) (by omega) hzn m2 (fun b _ hb=>⟨by omega,by omega⟩));clear m2 x2 m1 x1 yy2 yy1 HS2 HS HZ
 try unfold plV
 go_wp2_with fail;exact bodyPost_ret (by simp [results,Tryz.results17,go_sem,r0,r1,r2,r3,plV]) rfl HF.out
theorem wbe {w:World} {q:Nat->Prop} {p:Pl} {E D:Nat} (v:Value) (h:PlV w q p v) (hp:Fit p E D) (hE:E<=1000) (hD:D<=1099511627776):Calls Tryz.prog 17 #[v] w (qo (fun b=>w.heap.size<=b) p.opp w):=by
 have h1:=wb6 (E:=E) (D:=D) v h (fun W' hx=>by rw [Pl.nf_of_can hp.can]; exact kbb v (h.ext hx) hp.can) (by rw [Pl.nf_of_can hp.can]; exact hp) hE (by omega);rw [Pl.nf_of_can hp.can] at h1;exact h1
/- Equality of integers and of polynomials: cylinderref34.SameInt, cylinderref38.SamePoly, integer.Same, recpoly.same, Same. -/
noncomputable def eqB {α:Type} (a b:α):Bool:=@decide (a=b) (Classical.propDecidable _)
theorem uap {α:Type} {a b:α}:eqB a b=true ↔ a=b:=by unfold eqB; exact @decide_eq_true_iff _ (Classical.propDecidable _)
theorem vaq {α:Type} {a b:α} (h:a ≠ b):eqB a b=false:=by
 cases hb:eqB a b
 · rfl
 · exact absurd (uap.1 hb) h
theorem uaw {α:Type} {a b:α} (h:a=b):eqB a b=true:=uap.2 h
theorem zb2 {α β:Type} {a b:α} {c d:β} (h:a=b ↔ c=d):eqB a b=eqB c d:=by
 by_cases hh:a=b
 · rw [uaw hh,uaw (h.1 hh)]
 · rw [vaq hh,vaq fun e=>hh (h.2 e)]
theorem zbw {α:Type} {l r:List α} {k:Nat} (h:l.take k=r.take k) (hl:k < l.length) (hr:k < r.length) (he:l[k]=r[k]):l.take (k+1)=r.take (k+1):=by
 rw [List.take_succ_eq_append_getElem hl,List.take_succ_eq_append_getElem hr,h,he]
theorem gb4 {α:Type} {l r:List α} (h:l.length=r.length) (he:l.take l.length=r.take l.length):l=r:=by
 rw [List.take_length] at he;rw [he,h,List.take_length]
theorem Pl.ext_ {p q:Pl} (h1:p.lv=q.lv) (h2:p.neg=q.neg) (h3:p.ds=q.ds) (h4:p.cs=q.cs):p=q:=by
 obtain ⟨l,n,d,c⟩:=p;obtain ⟨l',n',d',c'⟩:=q;simp only [Pl.lv,Pl.neg,Pl.ds,Pl.cs] at h1 h2 h3 h4;rw [h1,h2,h3,h4]
theorem Pl.Can.kid_can {p:Pl} (h:p.Can) {c:Pl} (hc:c ∈ p.cs):c.Can:=by
 obtain ⟨l,n,d,cs⟩:=p;unfold Pl.Can at h;rcases h with h | h
 · simp only [Pl.cs,h.2.1] at hc; cases hc
 · exact (h.2.2.2.2.2.1.mem c hc).2
/- integer.Same, recpoly.same. -/
set_option maxRecDepth 100000
set_option maxHeartbeats 8000000
theorem jb0 (x y:Value) (a b:Int) (L M:Nat) (w:World) (h:yg w x a L) (k:yg w y b M):Calls Tryz.prog 121 #[x,y] w (zaa (eqB a b) w):=by
 have H:=Lib.hid h;have K:=Lib.hid k;obtain ⟨n1,s1,ds,rfl,⟨A1,c1,rfl,-⟩,-⟩:=h;obtain ⟨n2,s2,es,rfl,⟨A2,c2,rfl,-⟩,-⟩:=k;obtain ⟨W,hW⟩:∃ W,(w.alloc (.cells #[.bool n1,.slice A1 ds.length c1] 26)).alloc (.cells #[.bool n2,.slice A2 es.length c2] 26)=W:=⟨_,rfl⟩;have hWx:Ext w W:=by rw [<- hW]; exact ((Ext.refl w).alloc _).alloc _
 have q0:W.cell? ⟨w.heap.size,0,none⟩=some (.bool n1):=by rw [<- hW]; simp [go_sem]
 have q1:W.cell? ⟨w.heap.size,1,none⟩=some (.slice A1 ds.length c1):=by rw [<- hW]; simp [go_sem]
 have q2:W.cell? ⟨w.heap.size+1,0,none⟩=some (.bool n2):=by rw [<- hW]; simp [go_sem]
 have q3:W.cell? ⟨w.heap.size+1,1,none⟩=some (.slice A2 es.length c2):=by rw [<- hW]; simp [go_sem]
 have HWX:=Lib.hid hWx;have HC:=Lib.hid (ubo _ _ a b _ _ W (H.out.ext hWx) (K.out.ext hWx));clear hWx;have HE:Hid ((qg a b == 0)=eqB a b):=by
  have:(qg a b == 0)=eqB a b:=by
   by_cases hab:a=b
   · rw [uaw hab,hab]; simp [qg]
   · rw [vaq hab];simp only [qg]
     split <;> (try split) <;> simp <;> omega
  exact this
 go_enter Tryz.func121,Tryz.ntmps121;go_wp2_with fail;clear hW q0 q1 q2 q3;refine HC.out.mono ?_;rintro e w1 ⟨rfl,x1⟩;have X1:=Lib.hid (HWX.out.trans x1);clear x1 HC;generalize qg a b=cq at *;go_wp2_with fail;go_ret;exact ⟨by rw [<- HE.out]; rfl,X1.out⟩
def ucf (w0:World) (n:Nat):Prop:=∀ (p q:Pl) (v u:Value) (w:World),p.sz < n->p.sz<=1099511627776->p.Can->q.Can->PlV w0 (fun _=>True) p v->PlV w0 (fun _=>True) q u->Ext w0 w->Calls Tryz.prog 96 #[v,u] w (zaa (eqB p q) w)
theorem qb6 (w0:World) (n:Nat):ucf w0 n:=by
 induction n with
 | zero=>intro p q v u w h; omega
 | succ n ih =>
 intro p q v u w hn hsz hp hq h h' hx0;have IH:=Lib.hid ih;have HX0:=Lib.hid hx0;have HSZ:Hid (∀ k (hk:k < p.cs.length),p.cs[k].sz < n/\p.cs[k].sz<=1099511627776):=by
  have:∀ k (hk:k < p.cs.length),p.cs[k].sz < n/\p.cs[k].sz<=1099511627776:=fun k hk=>by have:=Pl.sz_kid (List.getElem_mem hk); omega
  exact this
 have hszl:=p.sz_len;have HKC:Hid ((∀ k (hk:k < p.cs.length),p.cs[k].Can)/\∀ k (hk:k < q.cs.length),q.cs[k].Can):=by
  have:(∀ k (hk:k < p.cs.length),p.cs[k].Can)/\∀ k (hk:k < q.cs.length),q.cs[k].Can:=⟨fun k hk=>hp.kid_can (List.getElem_mem hk),fun k hk=>hq.kid_can (List.getElem_mem hk)⟩;exact this
 have HPC:=Lib.hid hp;have HQC:=Lib.hid hq;obtain ⟨A0,n0,c0,A,c,rfl,hnat,hl1,hl2,h4⟩:=h.open_;obtain ⟨B0,m0,d0,B,d,rfl,hnat',hl1',hl2',h4'⟩:=h'.open_;have H4:=Lib.hid h4;have H4':=Lib.hid h4';have HN:=Lib.hid hnat;have HN':=Lib.hid hnat';obtain ⟨W,hW⟩:∃ W,(w.alloc (.cells #[.int .i64 p.lv,.bool p.neg,.slice A0 n0 c0,.slice A p.cs.length c] 29)).alloc (.cells #[.int .i64 q.lv,.bool q.neg,.slice B0 m0 d0,.slice B q.cs.length d] 29)=W:=⟨_,rfl⟩;have hWx:Ext w W:=by rw [<- hW]; exact ((Ext.refl w).alloc _).alloc _
 have hWs:W.heap.size=w.heap.size+1+1:=by rw [<- hW]; simp
 have hbx:uf W w.heap.size p (.slice A0 n0 c0) (.slice A p.cs.length c):=by rw [<- hW]; exact (uf.new w p _ _ _).ext ((Ext.refl _).alloc _) (by simp)
 have hby:uf W (w.heap.size+1) q (.slice B0 m0 d0) (.slice B q.cs.length d):=by
  rw [<- hW];have h1:=uf.new (w.alloc (.cells #[.int .i64 p.lv,.bool p.neg,.slice A0 n0 c0,.slice A p.cs.length c] 29)) q (.slice B0 m0 d0) (.slice B q.cs.length d) 29;simpa using h1
 have HWX:=Lib.hid hWx;have HBX:=Lib.hid hbx;have HBY:=Lib.hid hby;obtain ⟨b0,b1,b2,b3⟩:=hbx;obtain ⟨e0,e1,e2,e3⟩:=hby;clear h h' ih h4 h4' hx0 hnat hnat' hWx hp hq;obtain ⟨res,hres⟩:∃ res,eqB p q=res:=⟨_,rfl⟩;rw [hres];have HRES:=Lib.hid hres;clear hres;unfold plV;go_enter Tryz.func96,Tryz.ntmps96
 by_cases hlv:p.lv=q.lv
 case neg =>
  have HF:Hid (res=false):=Lib.hid (HRES.out.symm.trans (vaq fun e=>hlv (by rw [e])));have hlv2:(p.lv != q.lv)=true:=by simpa using hlv
  go_wp2_with fail;go_ret;exact ⟨by rw [HF.out]; rfl,HWX.out⟩
 by_cases hl:p.cs.length=q.cs.length
 case neg =>
  have HF:Hid (res=false):=Lib.hid (HRES.out.symm.trans (vaq fun e=>hl (by rw [e])));have HL:=Lib.hid hlv;rw [<- hlv] at e0 hW;clear hlv;rw [<- HL.out];go_wp2_with fail;go_ret;exact ⟨by rw [HF.out]; rfl,HWX.out⟩
 have HLV:=Lib.hid hlv;have HL:=Lib.hid hl;rw [<- hlv] at e0 hW;rw [<- hl] at e3 hW hl1' HBY;rw [<- hlv,<- hl];clear hlv hl
 by_cases hz:p.lv=0
 · have hz2:(p.lv == 0)=true:=by simpa using hz
   have HZ:=Lib.hid hz;have hip:yg W (.agg #[.bool p.neg,.slice A0 n0 c0]) p.z p.ds.length:=⟨_,_,_,rfl,HN.out.ext (HX0.out.trans HWX.out),rfl,Nat.le_refl _⟩;have hiq:yg W (.agg #[.bool q.neg,.slice B0 m0 d0]) q.z q.ds.length:=⟨_,_,_,rfl,HN'.out.ext (HX0.out.trans HWX.out),rfl,Nat.le_refl _⟩;have HSI:=Lib.hid (jb0 _ _ p.z q.z _ _ W hip hiq);clear hip hiq hz;go_wp2_with fail;clear hW b0 b1 b2 b3 e0 e1 e2 e3;refine HSI.out.mono ?_;rintro e w1 ⟨rfl,x1⟩;have HF:Hid (eqB p.z q.z=res):=Lib.hid ((zb2 ⟨fun e=>by rw [wax HPC.out HZ.out,wax HQC.out (HLV.out.symm.trans HZ.out),e],fun e=>by rw [e]⟩).trans HRES.out);have X1:=Lib.hid (HWX.out.trans x1);clear x1 HSI;generalize eqB p.z q.z=bz at *;go_wp2_with fail;go_ret;exact ⟨by rw [HF.out]; rfl,X1.out⟩
 have hz2:(p.lv == 0)=false:=by simpa using hz
 have HND:Hid ((p.neg,p.ds)=(q.neg,q.ds)):=by
  have h1:=HPC.out.lv_nonneg.1;obtain ⟨l,ng,ds,cs⟩:=p;obtain ⟨l',ng',ds',cs'⟩:=q;have hl:0 < l:=by simp only [Pl.lv] at h1 hz; omega
  have e1:=HPC.out.kids hl;have e2:=HQC.out.kids (by have:=HLV.out; simp only [Pl.lv] at this; omega);show ((ng,ds)=(ng',ds'));rw [e1.1,e1.2.1,e2.1,e2.2.1]
 obtain ⟨w1,hw1⟩:∃ w1,W=w1:=⟨_,rfl⟩;have X1:Hid (Ext w w1):=Lib.hid (by rw [<- hw1]; exact HWX.out);have hws:W.heap.size<=w1.heap.size:=by rw [hw1]; exact Nat.le_refl _
 have HBX1:Hid (uf w1 w.heap.size p (.slice A0 n0 c0) (.slice A p.cs.length c)):=Lib.hid (by rw [<- hw1]; exact HBX.out);have HBY1:Hid (uf w1 (w.heap.size+1) q (.slice B0 m0 d0) (.slice B p.cs.length d)):=Lib.hid (by rw [<- hw1]; exact HBY.out);have hw1':=Lib.hid hw1;clear hw1 hz HPC HQC HN HN';go_wp2_with fail;clear hW b0 b1 b2 b3 e0 e1 e2 e3;obtain rfl:W=w1:=hw1'.out
 go_loopw [31] (fun iv wr=>∃ k:Nat,k<=p.cs.length/\iv=.int .i64 k/\Hid (p.cs.take k=q.cs.take k/\Ext W wr)) (fun iv _=>p.cs.length - (intOf iv).toNat)
 case atStart=>exact ⟨0,Nat.zero_le _,rfl,⟨by simp,Ext.refl _⟩⟩
 case round =>
  obtain ⟨k,hk,rfl,⟨htk,hx⟩⟩:=hrel;have HX:=Lib.hid hx;have HT:=Lib.hid htk;obtain ⟨b0,b1,b2,b3⟩:=HBX1.out.ext hx (by omega);obtain ⟨e0,e1,e2,e3⟩:=HBY1.out.ext hx (by omega);have hws2:=hx.size;clear hx htk
  by_cases hlt:k < p.cs.length
  · have hlt':k < q.cs.length:=by have:=HL.out; omega
    obtain ⟨ad,C0,j0,f0,C1,j1,f1,rfl,hadb,hnd,hkt⟩:=jg.kid H4.out k hlt;obtain ⟨ad',D0,i0,g0,D1,i1,g1,rfl,hadb',hnd',hkt'⟩:=jg.kid H4'.out k hlt';have hxx:Ext w0 wr:=(HX0.out.trans X1.out).trans HX.out;have HNA:=Lib.hid (hnd.ext hxx (by rw [jb]; exact hadb));have HNB:=Lib.hid (hnd'.ext hxx (by rw [jb]; exact hadb'));have hb1:ad.block < wr.heap.size:=Nat.lt_of_lt_of_le hadb hxx.size;have hb2:ad'.block < wr.heap.size:=Nat.lt_of_lt_of_le hadb' hxx.size;have HKID:=Lib.hid (fun W' (hW':Ext wr W')=>IH.out p.cs[k] q.cs[k] _ _ W' (HSZ.out k hlt).1 (HSZ.out k hlt).2 (HKC.out.1 k hlt) (HKC.out.2 k hlt') hkt hkt' (hxx.trans hW'));have HSTEP:Hid (p.cs[k]=q.cs[k]->p.cs.take (k+1)=q.cs.take (k+1)):=Lib.hid (zbw HT.out hlt hlt');have HNE:Hid (p.cs[k] ≠ q.cs[k]->res=false):=Lib.hid (fun hne=>HRES.out.symm.trans (vaq fun e=>hne (by subst e; rfl)));unfold plV at HKID;generalize p.cs[k]=pk at *;generalize q.cs[k]=qk at *;have HSS:Hid (∀ W2,Ext wr W2->(Ext wr W2/\W2.cell? ⟨w.heap.size,3,none⟩=some (.slice (some ad) p.cs.length c)/\W2.cell? ⟨w.heap.size+1,3,none⟩=some (.slice (some ad') p.cs.length d)/\W2.cell? (Addr.add ad (k * 4))=some (.int .i64 pk.lv)/\W2.cell? ⟨(Addr.add ad (k * 4)).block,(Addr.add ad (k * 4)).off+1,none⟩=some (.bool pk.neg)/\W2.cell? ⟨(Addr.add ad (k * 4)).block,(Addr.add ad (k * 4)).off+2,none⟩=some (.slice C0 j0 f0)/\W2.cell? ⟨(Addr.add ad (k * 4)).block,(Addr.add ad (k * 4)).off+3,none⟩=some (.slice C1 j1 f1)/\W2.cell? (Addr.add ad' (k * 4))=some (.int .i64 qk.lv)/\W2.cell? ⟨(Addr.add ad' (k * 4)).block,(Addr.add ad' (k * 4)).off+1,none⟩=some (.bool qk.neg)/\W2.cell? ⟨(Addr.add ad' (k * 4)).block,(Addr.add ad' (k * 4)).off+2,none⟩=some (.slice D0 i0 g0)/\W2.cell? ⟨(Addr.add ad' (k * 4)).block,(Addr.add ad' (k * 4)).off+3,none⟩=some (.slice D1 i1 g1))):=by
     have:∀ W2,Ext wr W2->(Ext wr W2/\W2.cell? ⟨w.heap.size,3,none⟩=some (.slice (some ad) p.cs.length c)/\W2.cell? ⟨w.heap.size+1,3,none⟩=some (.slice (some ad') p.cs.length d)/\W2.cell? (Addr.add ad (k * 4))=some (.int .i64 pk.lv)/\W2.cell? ⟨(Addr.add ad (k * 4)).block,(Addr.add ad (k * 4)).off+1,none⟩=some (.bool pk.neg)/\W2.cell? ⟨(Addr.add ad (k * 4)).block,(Addr.add ad (k * 4)).off+2,none⟩=some (.slice C0 j0 f0)/\W2.cell? ⟨(Addr.add ad (k * 4)).block,(Addr.add ad (k * 4)).off+3,none⟩=some (.slice C1 j1 f1)/\W2.cell? (Addr.add ad' (k * 4))=some (.int .i64 qk.lv)/\W2.cell? ⟨(Addr.add ad' (k * 4)).block,(Addr.add ad' (k * 4)).off+1,none⟩=some (.bool qk.neg)/\W2.cell? ⟨(Addr.add ad' (k * 4)).block,(Addr.add ad' (k * 4)).off+2,none⟩=some (.slice D0 i0 g0)/\W2.cell? ⟨(Addr.add ad' (k * 4)).block,(Addr.add ad' (k * 4)).off+3,none⟩=some (.slice D1 i1 g1)):=fun W2 hx2=>by
      obtain ⟨a0,a1,a2,a3⟩:=HNA.out.ext hx2 (by rw [jb]; exact hb1);obtain ⟨a0',a1',a2',a3'⟩:=HNB.out.ext hx2 (by rw [jb]; exact hb2);exact ⟨hx2,(hx2.cell (p:=⟨w.heap.size,3,none⟩) (by show w.heap.size < _; omega)).trans b3,(hx2.cell (p:=⟨w.heap.size+1,3,none⟩) (by show w.heap.size+1 < _; omega)).trans e3,a0,a1,a2,a3,a0',a1',a2',a3'⟩
     exact this
    clear hnd hnd' hkt hkt' hxx hadb hadb';have y0:Ext wr wr.drew:=(Ext.refl wr).drew;have Y0:=Lib.hid y0;clear y0;go_upto_region 8 with fail;clear b0 b1 b2 b3 e0 e1 e2 e3
    go_region_held3 (fun W2 => Ext wr W2 /\ W2.cell? ⟨w.heap.size, 3, none⟩ = some (.slice (some ad) p.cs.length c) /\ W2.cell? ⟨w.heap.size + 1, 3, none⟩ = some (.slice (some ad') p.cs.length d) /\ W2.cell? (Addr.add ad (k * 4)) = some (.int .i64 pk.lv) /\ W2.cell? ⟨(Addr.add ad (k * 4)).block, (Addr.add ad (k * 4)).off + 1, none⟩ = some (.bool pk.neg) /\ W2.cell? ⟨(Addr.add ad (k * 4)).block, (Addr.add ad (k * 4)).off + 2, none⟩ = some (.slice C0 j0 f0) /\ W2.cell? ⟨(Addr.add ad (k * 4)).block, (Addr.add ad (k * 4)).off + 3, none⟩ = some (.slice C1 j1 f1) /\ W2.cell? (Addr.add ad' (k * 4)) = some (.int .i64 qk.lv) /\ W2.cell? ⟨(Addr.add ad' (k * 4)).block, (Addr.add ad' (k * 4)).off + 1, none⟩ = some (.bool qk.neg) /\ W2.cell? ⟨(Addr.add ad' (k * 4)).block, (Addr.add ad' (k * 4)).off + 2, none⟩ = some (.slice D0 i0 g0) /\ W2.cell? ⟨(Addr.add ad' (k * 4)).block, (Addr.add ad' (k * 4)).off + 3, none⟩ = some (.slice D1 i1 g1))
     (first | with_reducible exact HSS.out _ Y0.out | with_reducible exact HSS.out _ y1)
     ((go_at_call 96
       refine (HKID.out _ Y0.out).mono ?_;rintro e v1 ⟨rfl,x1⟩
       have y1:Ext wr v1:=Ext.trans Y0.out x1))
    all_goals
     have X2:=Lib.hid (HX.out.trans y1);clear y1 x1 HKID HSS Y0
     by_cases hpq:pk=qk
     · have HT2:=Lib.hid (HSTEP.out hpq);rw [uaw hpq];clear hpq;go_wp2_with fail
       go_roundw
       case rel=>exact ⟨k+1,by omega,by go_num,⟨HT2.out,X2.out⟩⟩
       case measure=>simp [intOf]; omega
     · have HF:=Lib.hid (HNE.out hpq);rw [vaq hpq];clear hpq;go_wp2_with fail;go_ret;exact ⟨by rw [HF.out]; rfl,X1.out.trans X2.out⟩
  · have HF:Hid (res=true):=Lib.hid (HRES.out.symm.trans (uaw (by
     have h1:=HT.out;rw [show k=p.cs.length by omega] at h1;have h2:=gb4 HL.out h1;have h3:=HND.out
     exact Pl.ext_ HLV.out (congrArg Prod.fst h3) (congrArg Prod.snd h3) h2)))
    clear b0 b1 b2 b3 e0 e1 e2 e3;go_wp2_with fail;go_ret;exact ⟨by rw [HF.out]; rfl,X1.out.trans HX.out⟩
theorem qbx {w:World} {q1 q2:Nat->Prop} (p q:Pl) (v u:Value) (hsz:p.sz<=1099511627776) (hp:p.Can) (hq:q.Can) (h:PlV w q1 p v) (k:PlV w q2 q u):Calls Tryz.prog 96 #[v,u] w (zaa (eqB p q) w):=
 qb6 w (p.sz+1) p q v u w (Nat.lt_succ_self _) hsz hp hq (h.mono fun _ _=>trivial) (k.mono fun _ _=>trivial) (Ext.refl w)
/- Layer 22: recpoly.Same; polynomials of a small size. -/
set_option maxRecDepth 100000
set_option maxHeartbeats 8000000
theorem Fit.of_raw {p:Pl} {S M:Nat} (hd:p.dig) (hs:p.sz<=S) (hm:p.dm<=M) (hS:S < B32):Fit p.nf S (M+1):=by
 refine ⟨p.nf_can,Pl.ofS_ex fun x hx=>(Pl.terms_le p Mo.one 0 Mo.one_le x hx).mono (by omega),Nat.lt_of_le_of_lt (Pl.ofS_nr _) (Nat.lt_of_le_of_lt (Pl.terms_nrm p Mo.one M hm hd) ?_)⟩;rw [Nat.pow_succ,Nat.mul_comm];exact Nat.mul_lt_mul_of_pos_left (by omega) (Nat.pow_pos (by decide))
theorem Fit.small {p:Pl} {E D:Nat} (h:Fit p E D) (hE:E<=170):p.sz<=1073741824:=Nat.le_trans h.sz (Nat.le_trans (Nat.pow_le_pow_left (show E+2<=172 by omega) 4) (by decide))
theorem qa9 {w:World} {p q:Pl} {E D:Nat} {q0:Nat->Prop} (v0:Value) {q1:Nat->Prop} (v1:Value) (h0:PlV w q0 p v0) (h1:PlV w q1 q v1) (hs1:p.sz<=1073741824) (hd1:p.dm<=1099511627776) (hs2:q.sz<=1073741824) (hd2:q.dm<=1099511627776) (hp:Fit p.nf E D) (hE:E<=170):Calls Tryz.prog 73 #[v0,v1] w (zaa (eqB p.nf q.nf) w):=by
 have H0:=Lib.hid h0;obtain ⟨A0,n0,c0,B0,d0,rfl,-,-,-,-⟩:=h0.open_;clear h0;have H1:=Lib.hid h1;obtain ⟨A1,n1,c1,B1,d1,rfl,-,-,-,-⟩:=h1.open_;clear h1;obtain ⟨W,hW⟩:∃ W,(w.alloc (.cells #[.int .i64 (p).lv,.bool (p).neg,.slice A0 n0 c0,.slice B0 (p).cs.length d0] 29)).alloc (.cells #[.int .i64 (q).lv,.bool (q).neg,.slice A1 n1 c1,.slice B1 (q).cs.length d1] 29)=W:=⟨_,rfl⟩;have hWx:Ext w W:=by rw [<- hW]; exact ((Ext.refl w).alloc _).alloc _
 have hWs:W.heap.size=w.heap.size+1+1:=by rw [<- hW]; simp
 have HX0:=Lib.hid hWx;have HS:Hid (∀ W',Ext W W'->(Ext w W'/\W'.cell? ⟨w.heap.size,0,none⟩=some (.int .i64 (p).lv)/\W'.cell? ⟨w.heap.size,1,none⟩=some (.bool (p).neg)/\W'.cell? ⟨w.heap.size,2,none⟩=some (.slice A0 n0 c0)/\W'.cell? ⟨w.heap.size,3,none⟩=some (.slice B0 (p).cs.length d0)/\W'.cell? ⟨w.heap.size+1,0,none⟩=some (.int .i64 (q).lv)/\W'.cell? ⟨w.heap.size+1,1,none⟩=some (.bool (q).neg)/\W'.cell? ⟨w.heap.size+1,2,none⟩=some (.slice A1 n1 c1)/\W'.cell? ⟨w.heap.size+1,3,none⟩=some (.slice B1 (q).cs.length d1))):=by
  have:∀ W',Ext W W'->(Ext w W'/\W'.cell? ⟨w.heap.size,0,none⟩=some (.int .i64 (p).lv)/\W'.cell? ⟨w.heap.size,1,none⟩=some (.bool (p).neg)/\W'.cell? ⟨w.heap.size,2,none⟩=some (.slice A0 n0 c0)/\W'.cell? ⟨w.heap.size,3,none⟩=some (.slice B0 (p).cs.length d0)/\W'.cell? ⟨w.heap.size+1,0,none⟩=some (.int .i64 (q).lv)/\W'.cell? ⟨w.heap.size+1,1,none⟩=some (.bool (q).neg)/\W'.cell? ⟨w.heap.size+1,2,none⟩=some (.slice A1 n1 c1)/\W'.cell? ⟨w.heap.size+1,3,none⟩=some (.slice B1 (q).cs.length d1)):=fun W' hx=>by
   obtain ⟨hc,hf⟩:=hx.cells;refine ⟨hWx.trans hx,?_,?_,?_,?_,?_,?_,?_,?_⟩ <;> (rw [hc _ _ (by omega),<- hW]; simp [go_sem])
  exact this
 have HSZ:=Lib.hid (Nat.le_trans (hp.small hE) (show 1073741824<=1099511627776 by decide));clear hp;obtain ⟨-,b0,b1,b2,b3,b4,b5,b6,b7⟩:=HS.out W (Ext.refl W);clear hWx;unfold plV at *;go_enter Tryz.func73,Tryz.ntmps73;go_wp2_with fail;clear hW b0 b1 b2 b3 b4 b5 b6 b7;have yy0:Ext W W.drew:=(Ext.refl W).drew;have Y0:=Lib.hid yy0;clear yy0
 go_region_held3 (fun W' => Ext w W' /\ W'.cell? ⟨w.heap.size, 0, none⟩ = some (.int .i64 (p).lv) /\ W'.cell? ⟨w.heap.size, 1, none⟩ = some (.bool (p).neg) /\ W'.cell? ⟨w.heap.size, 2, none⟩ = some (.slice A0 n0 c0) /\ W'.cell? ⟨w.heap.size, 3, none⟩ = some (.slice B0 (p).cs.length d0) /\ W'.cell? ⟨w.heap.size + 1, 0, none⟩ = some (.int .i64 (q).lv) /\ W'.cell? ⟨w.heap.size + 1, 1, none⟩ = some (.bool (q).neg) /\ W'.cell? ⟨w.heap.size + 1, 2, none⟩ = some (.slice A1 n1 c1) /\ W'.cell? ⟨w.heap.size + 1, 3, none⟩ = some (.slice B1 (q).cs.length d1))
  (first | with_reducible exact HS.out _ Y0.out | with_reducible exact HS.out _ yy1 | with_reducible exact HS.out _ yy2 | with_reducible exact HS.out _ yy3)
  (first
    | (go_at_call 30
       (fail_if_success have _:=yy1)
       refine (uaj p _ (H0.out.ext (HX0.out.trans Y0.out)) hs1 hd1).mono ?_;rintro e w1 ⟨z1,rfl,m1,x1⟩;obtain ⟨C1,i1,j1,D1,k1,rfl,-⟩:=id m1.open_;have yy1:Ext W w1:=Ext.trans Y0.out x1
       unfold plV)
    | (go_at_call 30
       refine (uaj q _ (H1.out.ext (HX0.out.trans yy1)) hs2 hd2).mono ?_;rintro e w2 ⟨z2,rfl,m2,x2⟩;obtain ⟨C2,i2,j2,D2,k2,rfl,-⟩:=id m2.open_;have yy2:Ext W w2:=Ext.trans yy1 x2
       replace m1:=m1.ext x2
       unfold plV)
    | (go_at_call 96
       refine (qbx p.nf q.nf _ _ HSZ.out p.nf_can q.nf_can m1 m2).mono ?_;rintro e w3 ⟨rfl,x3⟩;have yy3:Ext W w3:=Ext.trans yy2 x3
       replace m1:=m1.ext x3
       replace m2:=m2.ext x3))
 have X3:=Lib.hid (HX0.out.trans yy3);clear m1 m2 x1 x2 x3 yy1 yy2 yy3 HS;generalize eqB p.nf q.nf=res at *;go_wp2_with fail;go_ret;exact ⟨rfl,X3.out⟩
/- Layer 22: recpoly.Constant. -/
set_option maxRecDepth 100000
set_option maxHeartbeats 8000000
def vcq (z:Int) (b:Bool) (w:World) (e:Ending) (w':World):Prop:=∃ x,e=.returned (.tuple #[x,.bool b])/\xaa w' x z/\Ext w w'
theorem gbi {w:World} {q:Nat->Prop} {E D:Nat} (p:Pl) (v:Value) (h:PlV w q p v) (hsz:p.sz<=1073741824) (hdm:p.dm<=1099511627776) (hp:Fit p.nf E D) (hD:D<=35184372088832) :
 Calls Tryz.prog 72 #[v] w (vcq (if p.nf.lv=0 then p.nf.z else 0) (decide (p.nf.lv=0)) w):=by
 have HH:=Lib.hid h;obtain ⟨A0,n0,c0,A,c,rfl,-,-,-,-⟩:=h.open_;clear h;obtain ⟨W,hW⟩:∃ W,(w.alloc (.cells #[.int .i64 p.lv,.bool p.neg,.slice A0 n0 c0,.slice A p.cs.length c] 29)).alloc (.cells #[.bool false,.slice none 0 0] 26)=W:=⟨_,rfl⟩;have hWx:Ext w W:=by rw [<- hW]; exact ((Ext.refl w).alloc _).alloc _
 have hWs:W.heap.size=w.heap.size+1+1:=by rw [<- hW]; simp
 have hbx:uf W w.heap.size p (.slice A0 n0 c0) (.slice A p.cs.length c):=by rw [<- hW]; exact (uf.new w p _ _ _).ext ((Ext.refl _).alloc _) (by simp)
 have hfr:∀ i,W.frozen? ⟨w.heap.size,i,none⟩=false:=fun i=>by rw [<- hW]; simp [go_sem]
 have hz:(W.cell? ⟨w.heap.size+1,0,none⟩=some (.bool false)/\W.cell? ⟨w.heap.size+1,1,none⟩=some (.slice none 0 0))/\∀ i,W.frozen? ⟨w.heap.size+1,i,none⟩=false:=by
  rw [<- hW]; refine ⟨⟨?_,?_⟩,fun i=>?_⟩ <;> simp [go_sem]
 have HZ:=Lib.hid hz;have HBX:=Lib.hid hbx;have HFR:=Lib.hid hfr;have HWX:=Lib.hid hWx;have HCA:=Lib.hid (uaj p _ (HH.out.ext hWx) hsz hdm);have HNC:=Lib.hid p.nf_can;have HFD:=Lib.hid (Nat.le_trans p.nf.dm_ds hp.dm);obtain ⟨b0,b1,b2,b3⟩:=hbx;clear hz hfr hWx hp hsz hdm;generalize p.nf=P at *;unfold plV at HCA;unfold plV;obtain ⟨zz,hzz⟩:∃ zz,(if P.lv=0 then P.z else 0)=zz:=⟨_,rfl⟩;obtain ⟨bb,hbb⟩:∃ bb,decide (P.lv=0)=bb:=⟨_,rfl⟩;rw [hzz,hbb];have HZZ:=Lib.hid hzz;have HBB:=Lib.hid hbb;clear hzz hbb;go_enter Tryz.func72,Tryz.ntmps72;go_wp2_with fail;clear hW b0 b1 b2 b3;refine HCA.out.mono ?_;rintro e w1 ⟨v1,rfl,m1,x1⟩;obtain ⟨C0,j0,f0,C1,f1,rfl,-⟩:=id m1.open_;have hs1:=x1.size;obtain ⟨b0,b1,b2,b3⟩:=HBX.out.ext x1 (by omega);have fr:∀ i,w1.frozen? ⟨w.heap.size,i,none⟩=false:=fun i=>(x1.frozen (p:=⟨w.heap.size,i,none⟩) (by show w.heap.size < _; omega)).trans (HFR.out i)
 obtain ⟨W1,hW1⟩:∃ W1,((((w1.setCell ⟨w.heap.size,0,none⟩ (.int .i64 P.lv)).setCell ⟨w.heap.size,1,none⟩ (.bool P.neg)).setCell ⟨w.heap.size,2,none⟩ (.slice C0 j0 f0)).setCell ⟨w.heap.size,3,none⟩ (.slice C1 P.cs.length f1))=W1:=⟨_,rfl⟩;have X1:Hid (Ext w W1):=Lib.hid (by rw [<- hW1]; exact ((((HWX.out.trans x1).setCell (Nat.le_refl _) _).setCell (Nat.le_refl _) _).setCell (Nat.le_refl _) _).setCell (Nat.le_refl _) _);have hbb:uf W1 w.heap.size P (.slice C0 j0 f0) (.slice C1 P.cs.length f1):=by rw [<- hW1]; exact uf.set (HBX.out.ext x1 (by omega))
 have hb1:W1.heap[w.heap.size+1]?=W.heap[w.heap.size+1]?:=by
  rw [<- hW1,van _ _ _ _ _ _ _ (by omega)];exact x1.below.block _ (by omega)
 have hs2:W1.heap.size=w1.heap.size:=by rw [<- hW1]; simp [World.setCell]
 have HIN:Hid (yg W1 (.agg #[.bool P.neg,.slice C0 j0 f0]) P.z P.ds.length):=by
  have:yg W1 (.agg #[.bool P.neg,.slice C0 j0 f0]) P.z P.ds.length:=by
   obtain ⟨A1,n1,c1,A2,c2,e,hn,-⟩:=m1.open_;unfold plV at e;simp only [Value.agg.injEq,Array.mk.injEq,List.cons.injEq,and_true,true_and] at e;rw [e.1];refine ⟨_,_,_,rfl,?_,rfl,Nat.le_refl _⟩;rw [<- hW1];have e1:=fun (i j:Nat) (hij:i ≠ j) (X:World) (u:Value)=>World.cell?_setCell_other X ⟨w.heap.size,i,none⟩ ⟨w.heap.size,j,none⟩ u (by intro e; injection e; omega)
   refine (((hn.box b0 rfl _).box (u:=.bool p.neg) ?_ rfl _).box (u:=.slice A0 n0 c0) ?_ rfl _).box (u:=.slice A p.cs.length c) ?_ rfl _
   · rw [World.cell?_setCell_other _ _ _ _ (by simp)]; exact b1
   · rw [World.cell?_setCell_other _ _ _ _ (by simp),World.cell?_setCell_other _ _ _ _ (by simp)]; exact b2
   · rw [World.cell?_setCell_other _ _ _ _ (by simp),World.cell?_setCell_other _ _ _ _ (by simp),World.cell?_setCell_other _ _ _ _ (by simp)]; exact b3
  exact this
 have HZ1:Hid (∀ W',Ext W1 W'->(W'.cell? ⟨w.heap.size+1,0,none⟩=some (.bool false)/\W'.cell? ⟨w.heap.size+1,1,none⟩=some (.slice none 0 0))/\∀ i,W'.frozen? ⟨w.heap.size+1,i,none⟩=false):=by
  have:∀ W',Ext W1 W'->(W'.cell? ⟨w.heap.size+1,0,none⟩=some (.bool false)/\W'.cell? ⟨w.heap.size+1,1,none⟩=some (.slice none 0 0))/\∀ i,W'.frozen? ⟨w.heap.size+1,i,none⟩=false:=fun W' hx=>by
   have hh:=(hx.below.block (w.heap.size+1) (by omega)).trans hb1;have k1:∀ i,W'.cell? ⟨w.heap.size+1,i,none⟩=W.cell? ⟨w.heap.size+1,i,none⟩:=fun i=>World.cell?_of_block (a:=⟨w.heap.size+1,i,none⟩) hh
   have k2:∀ i,W'.frozen? ⟨w.heap.size+1,i,none⟩=W.frozen? ⟨w.heap.size+1,i,none⟩:=fun i=>by
    rw [hx.frozen (p:=⟨w.heap.size+1,i,none⟩) (by show w.heap.size+1 < _; omega),<- hW1];simp only [World.frozen?_setCell];exact x1.frozen (p:=⟨w.heap.size+1,i,none⟩) (by show w.heap.size+1 < _; omega)
   exact ⟨⟨(k1 0).trans HZ.out.1.1,(k1 1).trans HZ.out.1.2⟩,fun i=>(k2 i).trans (HZ.out.2 i)⟩
  exact this
 have hs3:=X1.out.size;unfold plV
 by_cases hl:P.lv=0
 · have hl2:(P.lv != 0)=false:=by simpa using hl
   have HB:Hid (bb=true):=Lib.hid (HBB.out.symm.trans (by simpa using hl));have HV:Hid (zz=P.z):=Lib.hid (HZZ.out.symm.trans (if_pos hl));have HLZ:=Lib.hid hl;clear hl;have HNO:=Lib.hid (yaf _ P.z _ W1 HIN.out (Nat.le_trans HFD.out hD));go_upto_region 2 with fail;obtain ⟨d0,d1,d2,d3⟩:=hbb;have hl:=HLZ.out;clear hW1 b0 b1 b2 b3 fr;go_wp2_with fail;clear d0 d1 d2 d3;refine HNO.out.mono ?_;rintro e w2 ⟨z2,rfl,⟨y2,rfl,m2⟩,x2⟩;obtain ⟨C2,k2,rfl,-⟩:=id m2;obtain ⟨⟨z0,z1⟩,zf⟩:=HZ1.out _ x2;have hcl:=qw (g:=w.heap.size+1) (z:=P.z) (u0:=.bool false) (u1:=.slice none 0 0) (X1.out.trans x2) (Nat.le_succ _) z0 z1 rfl rfl ⟨_,rfl,m2⟩;have HF:=Lib.hid hcl;have HI2:=Lib.hid m2;clear m2 x2 HNO HZ1 HIN hcl;go_wp2_with fail;obtain ⟨x,ex,hx1,hx2⟩:=HF.out;injection ex with ex
   subst ex;exact bodyPost_ret (v:=.tuple #[.agg #[.bool (decide (P.z < 0)),.slice C2 (dg P.z.natAbs).length k2],.bool true]) (by simp [results,Tryz.results72,go_sem,z0,z1]) rfl ⟨_,by rw [HB.out],by rw [HV.out]; exact hx1,hx2⟩
 · have hl2:(P.lv != 0)=true:=by simpa using hl
   have HB:Hid (bb=false):=Lib.hid (HBB.out.symm.trans (by simpa using hl));have HV:Hid (zz=0):=Lib.hid (HZZ.out.symm.trans (if_neg hl));have HLZ:=Lib.hid hl;clear hl;go_upto_region 2 with fail;obtain ⟨d0,d1,d2,d3⟩:=hbb;obtain ⟨⟨z0,z1⟩,zf⟩:=HZ1.out _ (Ext.refl _);clear hW1 b0 b1 b2 b3 fr;have hl:=HLZ.out;have hcl:=qw (g:=w.heap.size+1) (z:=0) (u0:=.bool false) (u1:=.slice none 0 0) (b:=.bool false) (s:=.slice none 0 0) X1.out (Nat.le_succ _) z0 z1 rfl rfl ⟨_,rfl,by rw [Int.natAbs_zero,jm]; exact ja.nil _⟩;have HF:=Lib.hid hcl;clear hcl;go_wp2_with fail;obtain ⟨x,ex,hx1,hx2⟩:=HF.out;injection ex with ex
   subst ex;exact bodyPost_ret (v:=.tuple #[.agg #[.bool false,.slice none 0 0],.bool false]) (by simp [results,Tryz.results72,go_sem,z0,z1]) rfl ⟨_,by rw [HB.out],by rw [HV.out]; exact hx1,hx2⟩
end Go.Proofs.YtaedbimbbeploaaGreat
