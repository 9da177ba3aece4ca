/- Layer 22: recpoly.Const, mul by a constant, scale, Scale, Neg. -/
import Derived.Test.YtklnlgnnlmdibaaGreatMulLow
import Derived.Test.YtklnlgnnlmdibaaGreatMq19
set_option linter.unusedSimpArgs false
set_option linter.unusedVariables false

set_option maxRecDepth 100000
set_option maxHeartbeats 8000000
namespace Go.Proofs.YtklnlgnnlmdibaaGreat
open Lib (hid)
open Go.RowKit
theorem um.lt {w:World} {x:Value} {z:Int} {L:Nat} (h:um w x z L):z.natAbs < B32 ^ L:=by
 obtain ⟨n,s,ds,rfl,hn,hz,hl⟩:=h;rw [hz,ku];exact Nat.lt_of_lt_of_le (jy (jd.digs hn)) (Nat.pow_le_pow_right (by decide) hl)
theorem zar {w:World} {s:Value} {z:Int} {L:Nat} (h:jd w s (dg z.natAbs)) (hL:(dg z.natAbs).length<=L):um w (.agg #[.bool (decide (z < 0)),s]) z L:=⟨_,_,_,rfl,h,by rw [xg,zan],hL⟩
theorem ycb (z:Int) (s A:Value):plV (Pl.const z) s A=.agg #[.int .i64 0,.bool (decide (z < 0)),s,A]:=rfl
theorem kbk {w:World} {s:Value} {z:Int} (q:Nat->Prop) (h:jd w s (dg z.natAbs)):PlV w q (Pl.const z) (plV (Pl.const z) s (.slice none 0 0)):=
 PlV.mk (t:=Pl.const z) (A:=none) (c:=0) h (Nat.le_refl _) (by omega) (by unfold Pl.const Pl.cs jc; trivial)
theorem qaq {w:World} {z:Int} {L:Nat} (v0:Value) (h0:um w v0 z L) (hL:L<=35184372088832):Calls Tryz.prog 26 #[v0] w (uf (fun b=>w.heap.size<=b) (Pl.const z) w):=by
 have H0:=hid h0;obtain ⟨n0,s0,e0,rfl,⟨A0,c0,rfl,-,-,-⟩,-,-⟩:=h0;obtain ⟨W,hW⟩:=n_m ((w.alloc (.cells #[.bool n0,.slice A0 e0.length c0] 33)).alloc (.cells #[.int .i64 0,.bool false,.slice none 0 0,.slice none 0 0] 35));have ai:Ext w W:=by rw [<- hW]; exact ((Ext.refl w).alloc _).alloc _
 have dE:W.heap.size=w.heap.size+1+1:=by rw [<- hW]; simp
 have ax:=hid ai;have HS:Hid (∀ W',Ext W W'->(Ext w W'/\W'.cell? ⟨w.heap.size,0,none⟩=some (.bool n0)/\W'.cell? ⟨w.heap.size,1,none⟩=some (.slice A0 e0.length c0))):=by
  have:∀ W',Ext W W'->(Ext w W'/\W'.cell? ⟨w.heap.size,0,none⟩=some (.bool n0)/\W'.cell? ⟨w.heap.size,1,none⟩=some (.slice A0 e0.length c0)):=fun W' hx=>by
   obtain ⟨hc,hf⟩:=hx.cells;refine ⟨ai.trans hx,?_,?_⟩ <;> (rw [hc _ _ (by omega),<- hW]; simp [go_sem])
  exact this
 have HZ:Hid (jf W (w.heap.size+1)):=by
  have:jf W (w.heap.size+1):=by
   rw [<- hW];refine ⟨⟨?_,?_,?_,?_⟩,fun i=>?_⟩ <;> simp [go_sem]
  exact this
 obtain ⟨-,b0,b1⟩:=HS.out W (Ext.refl W);clear ai;go_enter Tryz.func26,Tryz.ntmps26;go_wp2_with fail;clear hW b0 b1;refine (xam _ z L _ (H0.out.ext ax.out) hL).mono ?_;rintro e w1 ⟨z1,rfl,⟨y1,rfl,m1⟩,x1⟩;obtain ⟨C1,k1,rfl,-⟩:=id m1;have PH:=hid (x1);have aQ:=HZ.out.ext PH.out (by omega);have BZ:=(PH.out:Ext W _).size
 have HF:Hid (uf (fun b=>w.heap.size<=b) (Pl.const z) w (.returned (plV (Pl.const z) (.slice C1 (dg z.natAbs).length k1) (.slice none 0 0))) ((((w1.setCell ⟨w.heap.size+1,0,none⟩ (.int .i64 0)).setCell ⟨w.heap.size+1,1,none⟩ (.bool (decide (z < 0)))).setCell ⟨w.heap.size+1,2,none⟩ (.slice C1 (dg z.natAbs).length k1)).setCell ⟨w.heap.size+1,3,none⟩ (.slice none 0 0))):=
  qf (p:=Pl.const z) (q:=fun _=>False) (ax.out.trans PH.out) (by omega) aQ (kbk _ m1) (fun b _ h=>h.elim)
 obtain ⟨⟨r0,r1,r2,r3⟩,rf⟩:=aQ;clear m1 x1 HS HZ;go_wp2_with fail;exact bodyPost_ret (v:=plV (Pl.const z) (.slice C1 (dg z.natAbs).length k1) (.slice none 0 0)) (by simp [results,Tryz.results26,go_sem,r0,r1,r2,r3,ycb]) rfl HF.out
theorem uct (w0:World) (z:Int) (u:Value) (E D G:Nat) (hE:E<=1000000) (hD:D+G<=35184372088000) (hz:z.natAbs < B32 ^ G) (k:PlV w0 (fun _=>True) (Pl.const z) u) (n:Nat) :
 ∀ (p:Pl) (v:Value) (w:World),p.sz < n->Fit p E D->PlV w0 (fun _=>True) p v->Ext w0 w->Calls Tryz.prog 47 #[v,u] w (uf (fun i=>w.heap.size<=i) (p.mul (Pl.const z)) w):=by
 induction n with
 | zero=>intro p v w h; omega
 | succ n ih =>
   intro p v w hn hp h hx;refine xbz (F:=0) p (Pl.const z) v u hp (Fit.const hz) hE (by omega) hD h k hx (fun e=>e) (fun a h1 x pa W' iY=>?_) (fun a h1=>by simp [Pl.const,Pl.cs] at h1);obtain ⟨l,ng,ds,cs⟩:=p;have hl:0 < l:=by
    have:=hp.can;unfold Pl.Can at this;rcases this with h | h
    · simp only [Pl.cs,h.2.1] at h1; cases h1
    · omega
   exact ih a x W' (by have:=Pl.sz_kid h1; omega) (hp.kid hl h1) pa iY
theorem zcm {w:World} {q q':Nat->Prop} {z:Int} {E D G:Nat} (p:Pl) (v u:Value) (hp:Fit p E D) (hz:z.natAbs < B32 ^ G) (hE:E<=1000000) (hD:D+G<=35184372088000) (h:PlV w q p v) (k:PlV w q' (Pl.const z) u):Calls Tryz.prog 47 #[v,u] w (uf (fun i=>w.heap.size<=i) (p.mul (Pl.const z)) w):=
 uct w z u E D G hE hD hz (k.mono fun _ _=>trivial) (p.sz+1) p v w (Nat.lt_succ_self _) hp (h.mono fun _ _=>trivial) (Ext.refl w)
theorem vbi {w:World} {p:Pl} {z:Int} {L E D:Nat} {q0:Nat->Prop} (v0:Value) (v1:Value) (h0:PlV w q0 p v0) (h1:um w v1 z L) (hp:Fit p E D) (hE:E<=1000000) (hD:D+L<=35184372088000):Calls Tryz.prog 59 #[v0,v1] w (uf (fun b=>w.heap.size<=b) (p.mul (Pl.const z)) w):=by
 have H0:=hid h0;obtain ⟨A0,n0,c0,B0,d0,rfl,-,-,-,-⟩:=h0.open_;clear h0;have H1:=hid h1;obtain ⟨n1,s1,e1,rfl,⟨A1,c1,rfl,-,-,-⟩,-,-⟩:=h1;obtain ⟨W,hW⟩:=n_m (((w.alloc (.cells #[.int .i64 (p).lv,.bool (p).neg,.slice A0 n0 c0,.slice B0 (p).cs.length d0] 35)).alloc (.cells #[.bool n1,.slice A1 e1.length c1] 33)).alloc (.cells #[.int .i64 0,.bool false,.slice none 0 0,.slice none 0 0] 35));have ai:Ext w W:=by rw [<- hW]; exact (((Ext.refl w).alloc _).alloc _).alloc _
 have dE:W.heap.size=w.heap.size+1+1+1:=by rw [<- hW]; simp
 have ax:=hid ai;have HS:Hid (∀ W',Ext W W'->(Ext w W'/\W'.cell? ⟨w.heap.size,0,none⟩=some (.int .i64 (p).lv)/\W'.cell? ⟨w.heap.size,1,none⟩=some (.bool (p).neg)/\W'.cell? ⟨w.heap.size,2,none⟩=some (.slice A0 n0 c0)/\W'.cell? ⟨w.heap.size,3,none⟩=some (.slice B0 (p).cs.length d0)/\W'.cell? ⟨w.heap.size+1,0,none⟩=some (.bool n1)/\W'.cell? ⟨w.heap.size+1,1,none⟩=some (.slice A1 e1.length c1))):=by
  have:∀ W',Ext W W'->(Ext w W'/\W'.cell? ⟨w.heap.size,0,none⟩=some (.int .i64 (p).lv)/\W'.cell? ⟨w.heap.size,1,none⟩=some (.bool (p).neg)/\W'.cell? ⟨w.heap.size,2,none⟩=some (.slice A0 n0 c0)/\W'.cell? ⟨w.heap.size,3,none⟩=some (.slice B0 (p).cs.length d0)/\W'.cell? ⟨w.heap.size+1,0,none⟩=some (.bool n1)/\W'.cell? ⟨w.heap.size+1,1,none⟩=some (.slice A1 e1.length c1)):=fun W' hx=>by
   obtain ⟨hc,hf⟩:=hx.cells;refine ⟨ai.trans hx,?_,?_,?_,?_,?_,?_⟩ <;> (rw [hc _ _ (by omega),<- hW]; simp [go_sem])
  exact this
 have HZ:Hid (jf W (w.heap.size+1+1)):=by
  have:jf W (w.heap.size+1+1):=by
   rw [<- hW];refine ⟨⟨?_,?_,?_,?_⟩,fun i=>?_⟩ <;> simp [go_sem]
  exact this
 have bK:Hid (∀ W'' u0 u1 u2 u3,Ext W W''->∀ W',W'=(((W''.setCell ⟨w.heap.size+1+1,0,none⟩ u0).setCell ⟨w.heap.size+1+1,1,none⟩ u1).setCell ⟨w.heap.size+1+1,2,none⟩ u2).setCell ⟨w.heap.size+1+1,3,none⟩ u3->(Ext w W'/\W'.cell? ⟨w.heap.size,0,none⟩=some (.int .i64 (p).lv)/\W'.cell? ⟨w.heap.size,1,none⟩=some (.bool (p).neg)/\W'.cell? ⟨w.heap.size,2,none⟩=some (.slice A0 n0 c0)/\W'.cell? ⟨w.heap.size,3,none⟩=some (.slice B0 (p).cs.length d0)/\W'.cell? ⟨w.heap.size+1,0,none⟩=some (.bool n1)/\W'.cell? ⟨w.heap.size+1,1,none⟩=some (.slice A1 e1.length c1))):=by
  have:∀ W'' u0 u1 u2 u3,Ext W W''->∀ W',W'=(((W''.setCell ⟨w.heap.size+1+1,0,none⟩ u0).setCell ⟨w.heap.size+1+1,1,none⟩ u1).setCell ⟨w.heap.size+1+1,2,none⟩ u2).setCell ⟨w.heap.size+1+1,3,none⟩ u3->(Ext w W'/\W'.cell? ⟨w.heap.size,0,none⟩=some (.int .i64 (p).lv)/\W'.cell? ⟨w.heap.size,1,none⟩=some (.bool (p).neg)/\W'.cell? ⟨w.heap.size,2,none⟩=some (.slice A0 n0 c0)/\W'.cell? ⟨w.heap.size,3,none⟩=some (.slice B0 (p).cs.length d0)/\W'.cell? ⟨w.heap.size+1,0,none⟩=some (.bool n1)/\W'.cell? ⟨w.heap.size+1,1,none⟩=some (.slice A1 e1.length c1)):=fun W'' u0 u1 u2 u3 hx W' bJ=>by
   obtain ⟨s1,k0,k1,k2,k3,k4,k5⟩:=HS.out W'' hx;rw [bJ];refine ⟨(((s1.setCell (by simp; try omega) _).setCell (by simp; try omega) _).setCell (by simp; try omega) _).setCell (by simp; try omega) _,?_,?_,?_,?_,?_,?_⟩ <;> rw [World.cell?_setCell_other _ _ _ _ (by simp; try omega),World.cell?_setCell_other _ _ _ _ (by simp; try omega),World.cell?_setCell_other _ _ _ _ (by simp; try omega),World.cell?_setCell_other _ _ _ _ (by simp; try omega)] <;> assumption
  exact this
 have oJ:=hid hp;have tX:=hid (um.lt H1.out);clear hp;obtain ⟨-,b0,b1,b2,b3,b4,b5⟩:=HS.out W (Ext.refl W);clear ai;unfold plV at *;go_enter Tryz.func59,Tryz.ntmps59;go_wp2_with fail;clear hW b0 b1 b2 b3 b4 b5;have pU:Ext W W.drew:=(Ext.refl W).drew;have Y0:=hid pU;clear pU
 go_region_held3 (fun W' => Ext w W' /\ W'.cell? ⟨w.heap.size, 0, none⟩ = some (.int .i64 (p).lv) /\ W'.cell? ⟨w.heap.size, 1, none⟩ = some (.bool (p).neg) /\ W'.cell? ⟨w.heap.size, 2, none⟩ = some (.slice A0 n0 c0) /\ W'.cell? ⟨w.heap.size, 3, none⟩ = some (.slice B0 (p).cs.length d0) /\ W'.cell? ⟨w.heap.size + 1, 0, none⟩ = some (.bool n1) /\ W'.cell? ⟨w.heap.size + 1, 1, none⟩ = some (.slice A1 e1.length c1))
  (first | with_reducible exact HS.out _ Y0.out | with_reducible exact HS.out _ gV | with_reducible exact HS.out _ iM | exact bK.out _ _ _ _ _ iM _ rfl)
  (first
    | (go_at_call 26
       refine (qaq _ (H1.out.ext (ax.out.trans Y0.out)) (by omega)).mono ?_;rintro e w1 ⟨z1,rfl,m1,x1⟩;obtain ⟨C1,i1,j1,D1,k1,rfl,-⟩:=id m1.open_;have gV:Ext W w1:=Ext.trans Y0.out x1
       unfold plV)
    | (go_at_call 47
       refine (zcm (G:=L) p _ _ oJ.out tX.out hE hD (H0.out.ext (ax.out.trans gV)) m1).mono ?_;rintro e w2 ⟨z2,rfl,m2,x2⟩;obtain ⟨C2,i2,j2,D2,k2,rfl,-⟩:=id m2.open_;have iM:Ext W w2:=Ext.trans gV x2
       replace m1:=m1.ext x2
       obtain ⟨⟨r0,r1,r2,r3⟩,rf⟩:=HZ.out.ext iM (by omega)
       unfold plV))
 have aQ:=HZ.out.ext iM (by omega);have BZ:=(iM:Ext W _).size;have rC:=(gV:Ext W _).size;have HF:=hid (qf (q':=fun b=>w.heap.size<=b) (ax.out.trans iM) (by omega) aQ m2 (fun b _ hb=>⟨by omega,by omega⟩));clear m2 x2 m1 x1 iM gV bK HS HZ
 try unfold plV
 go_wp2_with fail;exact bodyPost_ret (by simp [results,Tryz.results59,go_sem,r0,r1,r2,r3,plV]) rfl HF.out
theorem gbc {w:World} {p:Pl} {z:Int} {L E D:Nat} {q0:Nat->Prop} (v0:Value) (v1:Value) (h0:PlV w q0 p v0) (h1:um w v1 z L) (fD:∀ W',Ext w W'->Calls Tryz.prog 48 #[v0] W' (uf (fun b=>q0 b\/W'.heap.size<=b) p.nf W')) (hp:Fit p.nf E D) (hE:E<=1000) (hD:D+L<=35184372088000):Calls Tryz.prog 30 #[v0,v1] w (uf (fun b=>w.heap.size<=b) (p.nf.mul (Pl.const z)) w):=by
 have H0:=hid h0;obtain ⟨A0,n0,c0,B0,d0,rfl,-,-,-,-⟩:=h0.open_;clear h0;have H1:=hid h1;obtain ⟨n1,s1,e1,rfl,⟨A1,c1,rfl,-,-,-⟩,-,-⟩:=h1;obtain ⟨W,hW⟩:=n_m (((w.alloc (.cells #[.int .i64 (p).lv,.bool (p).neg,.slice A0 n0 c0,.slice B0 (p).cs.length d0] 35)).alloc (.cells #[.bool n1,.slice A1 e1.length c1] 33)).alloc (.cells #[.int .i64 0,.bool false,.slice none 0 0,.slice none 0 0] 35));have ai:Ext w W:=by rw [<- hW]; exact (((Ext.refl w).alloc _).alloc _).alloc _
 have dE:W.heap.size=w.heap.size+1+1+1:=by rw [<- hW]; simp
 have ax:=hid ai;have HS:Hid (∀ W',Ext W W'->(Ext w W'/\W'.cell? ⟨w.heap.size,0,none⟩=some (.int .i64 (p).lv)/\W'.cell? ⟨w.heap.size,1,none⟩=some (.bool (p).neg)/\W'.cell? ⟨w.heap.size,2,none⟩=some (.slice A0 n0 c0)/\W'.cell? ⟨w.heap.size,3,none⟩=some (.slice B0 (p).cs.length d0)/\W'.cell? ⟨w.heap.size+1,0,none⟩=some (.bool n1)/\W'.cell? ⟨w.heap.size+1,1,none⟩=some (.slice A1 e1.length c1))):=by
  have:∀ W',Ext W W'->(Ext w W'/\W'.cell? ⟨w.heap.size,0,none⟩=some (.int .i64 (p).lv)/\W'.cell? ⟨w.heap.size,1,none⟩=some (.bool (p).neg)/\W'.cell? ⟨w.heap.size,2,none⟩=some (.slice A0 n0 c0)/\W'.cell? ⟨w.heap.size,3,none⟩=some (.slice B0 (p).cs.length d0)/\W'.cell? ⟨w.heap.size+1,0,none⟩=some (.bool n1)/\W'.cell? ⟨w.heap.size+1,1,none⟩=some (.slice A1 e1.length c1)):=fun W' hx=>by
   obtain ⟨hc,hf⟩:=hx.cells;refine ⟨ai.trans hx,?_,?_,?_,?_,?_,?_⟩ <;> (rw [hc _ _ (by omega),<- hW]; simp [go_sem])
  exact this
 have HZ:Hid (jf W (w.heap.size+1+1)):=by
  have:jf W (w.heap.size+1+1):=by
   rw [<- hW];refine ⟨⟨?_,?_,?_,?_⟩,fun i=>?_⟩ <;> simp [go_sem]
  exact this
 have bK:Hid (∀ W'' u0 u1 u2 u3,Ext W W''->∀ W',W'=(((W''.setCell ⟨w.heap.size+1+1,0,none⟩ u0).setCell ⟨w.heap.size+1+1,1,none⟩ u1).setCell ⟨w.heap.size+1+1,2,none⟩ u2).setCell ⟨w.heap.size+1+1,3,none⟩ u3->(Ext w W'/\W'.cell? ⟨w.heap.size,0,none⟩=some (.int .i64 (p).lv)/\W'.cell? ⟨w.heap.size,1,none⟩=some (.bool (p).neg)/\W'.cell? ⟨w.heap.size,2,none⟩=some (.slice A0 n0 c0)/\W'.cell? ⟨w.heap.size,3,none⟩=some (.slice B0 (p).cs.length d0)/\W'.cell? ⟨w.heap.size+1,0,none⟩=some (.bool n1)/\W'.cell? ⟨w.heap.size+1,1,none⟩=some (.slice A1 e1.length c1))):=by
  have:∀ W'' u0 u1 u2 u3,Ext W W''->∀ W',W'=(((W''.setCell ⟨w.heap.size+1+1,0,none⟩ u0).setCell ⟨w.heap.size+1+1,1,none⟩ u1).setCell ⟨w.heap.size+1+1,2,none⟩ u2).setCell ⟨w.heap.size+1+1,3,none⟩ u3->(Ext w W'/\W'.cell? ⟨w.heap.size,0,none⟩=some (.int .i64 (p).lv)/\W'.cell? ⟨w.heap.size,1,none⟩=some (.bool (p).neg)/\W'.cell? ⟨w.heap.size,2,none⟩=some (.slice A0 n0 c0)/\W'.cell? ⟨w.heap.size,3,none⟩=some (.slice B0 (p).cs.length d0)/\W'.cell? ⟨w.heap.size+1,0,none⟩=some (.bool n1)/\W'.cell? ⟨w.heap.size+1,1,none⟩=some (.slice A1 e1.length c1)):=fun W'' u0 u1 u2 u3 hx W' bJ=>by
   obtain ⟨s1,k0,k1,k2,k3,k4,k5⟩:=HS.out W'' hx;rw [bJ];refine ⟨(((s1.setCell (by simp; try omega) _).setCell (by simp; try omega) _).setCell (by simp; try omega) _).setCell (by simp; try omega) _,?_,?_,?_,?_,?_,?_⟩ <;> rw [World.cell?_setCell_other _ _ _ _ (by simp; try omega),World.cell?_setCell_other _ _ _ _ (by simp; try omega),World.cell?_setCell_other _ _ _ _ (by simp; try omega),World.cell?_setCell_other _ _ _ _ (by simp; try omega)] <;> assumption
  exact this
 have oJ:=hid hp;have Ju:=hid fD;have Dl:=hp.mul (Fit.const (E:=0) (um.lt H1.out));have jC:=hid (Nat.le_trans Dl.sz (Nat.le_trans (Nat.pow_le_pow_left (show E+0+2<=1002 by omega) 4) (show 1002 ^ 4<=1099511627776 by decide)));have o8:=hid (Nat.le_trans Dl.dm (show D+L<=35184372088832 by omega));clear hp Dl fD;obtain ⟨-,b0,b1,b2,b3,b4,b5⟩:=HS.out W (Ext.refl W);clear ai;unfold plV at *;go_enter Tryz.func30,Tryz.ntmps30;go_wp2_with fail;clear hW b0 b1 b2 b3 b4 b5;have pU:Ext W W.drew:=(Ext.refl W).drew;have Y0:=hid pU;clear pU
 go_region_held3 (fun W' => Ext w W' /\ W'.cell? ⟨w.heap.size, 0, none⟩ = some (.int .i64 (p).lv) /\ W'.cell? ⟨w.heap.size, 1, none⟩ = some (.bool (p).neg) /\ W'.cell? ⟨w.heap.size, 2, none⟩ = some (.slice A0 n0 c0) /\ W'.cell? ⟨w.heap.size, 3, none⟩ = some (.slice B0 (p).cs.length d0) /\ W'.cell? ⟨w.heap.size + 1, 0, none⟩ = some (.bool n1) /\ W'.cell? ⟨w.heap.size + 1, 1, none⟩ = some (.slice A1 e1.length c1))
  (first | with_reducible exact HS.out _ Y0.out | with_reducible exact HS.out _ gV | with_reducible exact HS.out _ iM | with_reducible exact HS.out _ mP | exact bK.out _ _ _ _ _ mP _ rfl)
  (first
    | (go_at_call 48
       refine (Ju.out _ (ax.out.trans Y0.out)).mono ?_;rintro e w1 ⟨z1,rfl,m1,x1⟩;obtain ⟨C1,i1,j1,D1,k1,rfl,-⟩:=id m1.open_;have gV:Ext W w1:=Ext.trans Y0.out x1
       unfold plV)
    | (go_at_call 59
       refine (vbi _ _ m1 (H1.out.ext (ax.out.trans gV)) oJ.out (by omega) hD).mono ?_;rintro e w2 ⟨z2,rfl,m2,x2⟩;obtain ⟨C2,i2,j2,D2,k2,rfl,-⟩:=id m2.open_;have iM:Ext W w2:=Ext.trans gV x2
       replace m1:=m1.ext x2
       unfold plV)
    | (go_at_call 43
       refine (qag _ _ (Pl.mul_can _ _) jC.out o8.out m2).mono ?_;rintro e w3 ⟨z3,rfl,m3,x3⟩;obtain ⟨C3,i3,j3,D3,k3,rfl,-⟩:=id m3.open_;have mP:Ext W w3:=Ext.trans iM x3
       replace m1:=m1.ext x3
       replace m2:=m2.ext x3
       obtain ⟨⟨r0,r1,r2,r3⟩,rf⟩:=HZ.out.ext mP (by omega)
       unfold plV))
 have aQ:=HZ.out.ext mP (by omega);have BZ:=(mP:Ext W _).size;have rC:=(iM:Ext W _).size;have HF:=hid (qf (q':=fun b=>w.heap.size<=b) (ax.out.trans mP) (by omega) aQ m3 (fun b _ hb=>⟨by omega,by omega⟩));clear m3 x3 m2 x2 m1 x1 mP iM gV bK HS HZ
 try unfold plV
 go_wp2_with fail;exact bodyPost_ret (by simp [results,Tryz.results30,go_sem,r0,r1,r2,r3,plV]) rfl HF.out
theorem kck {w:World} {p:Pl} {E D:Nat} {q0:Nat->Prop} (v0:Value) (h0:PlV w q0 p v0) (fD:∀ W',Ext w W'->Calls Tryz.prog 48 #[v0] W' (uf (fun b=>q0 b\/W'.heap.size<=b) p.nf W')) (hp:Fit p.nf E D) (hE:E<=1000) (hD:D+1<=35184372088000):Calls Tryz.prog 126 #[v0] w (uf (fun b=>w.heap.size<=b) (p.nf.mul (Pl.const (-1))) w):=by
 have H0:=hid h0;obtain ⟨A0,n0,c0,B0,d0,rfl,-,-,-,-⟩:=h0.open_;clear h0;obtain ⟨W,hW⟩:=n_m ((w.alloc (.cells #[.int .i64 (p).lv,.bool (p).neg,.slice A0 n0 c0,.slice B0 (p).cs.length d0] 35)).alloc (.cells #[.int .i64 0,.bool false,.slice none 0 0,.slice none 0 0] 35));have ai:Ext w W:=by rw [<- hW]; exact ((Ext.refl w).alloc _).alloc _
 have dE:W.heap.size=w.heap.size+1+1:=by rw [<- hW]; simp
 have ax:=hid ai;have HS:Hid (∀ W',Ext W W'->(Ext w W'/\W'.cell? ⟨w.heap.size,0,none⟩=some (.int .i64 (p).lv)/\W'.cell? ⟨w.heap.size,1,none⟩=some (.bool (p).neg)/\W'.cell? ⟨w.heap.size,2,none⟩=some (.slice A0 n0 c0)/\W'.cell? ⟨w.heap.size,3,none⟩=some (.slice B0 (p).cs.length d0))):=by
  have:∀ W',Ext W W'->(Ext w W'/\W'.cell? ⟨w.heap.size,0,none⟩=some (.int .i64 (p).lv)/\W'.cell? ⟨w.heap.size,1,none⟩=some (.bool (p).neg)/\W'.cell? ⟨w.heap.size,2,none⟩=some (.slice A0 n0 c0)/\W'.cell? ⟨w.heap.size,3,none⟩=some (.slice B0 (p).cs.length d0)):=fun W' hx=>by
   obtain ⟨hc,hf⟩:=hx.cells;refine ⟨ai.trans hx,?_,?_,?_,?_⟩ <;> (rw [hc _ _ (by omega),<- hW]; simp [go_sem])
  exact this
 have HZ:Hid (jf W (w.heap.size+1)):=by
  have:jf W (w.heap.size+1):=by
   rw [<- hW];refine ⟨⟨?_,?_,?_,?_⟩,fun i=>?_⟩ <;> simp [go_sem]
  exact this
 have bK:Hid (∀ W'' u0 u1 u2 u3,Ext W W''->∀ W',W'=(((W''.setCell ⟨w.heap.size+1,0,none⟩ u0).setCell ⟨w.heap.size+1,1,none⟩ u1).setCell ⟨w.heap.size+1,2,none⟩ u2).setCell ⟨w.heap.size+1,3,none⟩ u3->(Ext w W'/\W'.cell? ⟨w.heap.size,0,none⟩=some (.int .i64 (p).lv)/\W'.cell? ⟨w.heap.size,1,none⟩=some (.bool (p).neg)/\W'.cell? ⟨w.heap.size,2,none⟩=some (.slice A0 n0 c0)/\W'.cell? ⟨w.heap.size,3,none⟩=some (.slice B0 (p).cs.length d0))):=by
  have:∀ W'' u0 u1 u2 u3,Ext W W''->∀ W',W'=(((W''.setCell ⟨w.heap.size+1,0,none⟩ u0).setCell ⟨w.heap.size+1,1,none⟩ u1).setCell ⟨w.heap.size+1,2,none⟩ u2).setCell ⟨w.heap.size+1,3,none⟩ u3->(Ext w W'/\W'.cell? ⟨w.heap.size,0,none⟩=some (.int .i64 (p).lv)/\W'.cell? ⟨w.heap.size,1,none⟩=some (.bool (p).neg)/\W'.cell? ⟨w.heap.size,2,none⟩=some (.slice A0 n0 c0)/\W'.cell? ⟨w.heap.size,3,none⟩=some (.slice B0 (p).cs.length d0)):=fun W'' u0 u1 u2 u3 hx W' bJ=>by
   obtain ⟨s1,k0,k1,k2,k3⟩:=HS.out W'' hx;rw [bJ];refine ⟨(((s1.setCell (by simp; try omega) _).setCell (by simp; try omega) _).setCell (by simp; try omega) _).setCell (by simp; try omega) _,?_,?_,?_,?_⟩ <;> rw [World.cell?_setCell_other _ _ _ _ (by simp; try omega),World.cell?_setCell_other _ _ _ _ (by simp; try omega),World.cell?_setCell_other _ _ _ _ (by simp; try omega),World.cell?_setCell_other _ _ _ _ (by simp; try omega)] <;> assumption
  exact this
 have oJ:=hid hp;have Ju:=hid fD;have P9:Hid ((dg (-1:Int).natAbs).length<=1):=zg (by decide);clear hp fD;obtain ⟨-,b0,b1,b2,b3⟩:=HS.out W (Ext.refl W);clear ai;unfold plV at *;go_enter Tryz.func126,Tryz.ntmps126;go_wp2_with fail;clear hW b0 b1 b2 b3;have pU:Ext W W.drew:=(Ext.refl W).drew;have Y0:=hid pU;clear pU
 go_region_held3 (fun W' => Ext w W' /\ W'.cell? ⟨w.heap.size, 0, none⟩ = some (.int .i64 (p).lv) /\ W'.cell? ⟨w.heap.size, 1, none⟩ = some (.bool (p).neg) /\ W'.cell? ⟨w.heap.size, 2, none⟩ = some (.slice A0 n0 c0) /\ W'.cell? ⟨w.heap.size, 3, none⟩ = some (.slice B0 (p).cs.length d0))
  (first | with_reducible exact HS.out _ Y0.out | with_reducible exact HS.out _ gV | with_reducible exact HS.out _ iM | exact bK.out _ _ _ _ _ iM _ rfl)
  (first
    | (go_at_call 27
       refine (of_int (-1) _ (by omega) (by omega)).mono ?_;rintro e w1 ⟨z1,rfl,⟨y1,rfl,m1⟩,x1⟩;obtain ⟨C1,k1,rfl,-⟩:=id m1
       have gV:Ext W w1:=Ext.trans Y0.out x1)
    | (go_at_call 30
       refine (gbc (L:=1) _ _ (H0.out.ext (ax.out.trans gV)) (zar m1 P9.out) (fun W' hx=>Ju.out W' (((ax.out.trans gV)).trans hx)) oJ.out hE hD).mono ?_;rintro e w2 ⟨z2,rfl,m2,x2⟩;obtain ⟨C2,i2,j2,D2,k2,rfl,-⟩:=id m2.open_;have iM:Ext W w2:=Ext.trans gV x2
       replace m1:=m1.ext x2
       obtain ⟨⟨r0,r1,r2,r3⟩,rf⟩:=HZ.out.ext iM (by omega)
       unfold plV))
 have aQ:=HZ.out.ext iM (by omega);have BZ:=(iM:Ext W _).size;have rC:=(gV:Ext W _).size;have HF:=hid (qf (q':=fun b=>w.heap.size<=b) (ax.out.trans iM) (by omega) aQ m2 (fun b _ hb=>⟨by omega,by omega⟩));clear m2 x2 m1 x1 iM gV bK HS HZ
 try unfold plV
 go_wp2_with fail;exact bodyPost_ret (by simp [results,Tryz.results126,go_sem,r0,r1,r2,r3,plV]) rfl HF.out
theorem jck {w:World} {q:Nat->Prop} {p:Pl} {E D:Nat} (v:Value) (h:PlV w q p v) (hp:Fit p E D) (hE:E<=1000) (hD:D<=1099511627776):Calls Tryz.prog 126 #[v] w (uf (fun b=>w.heap.size<=b) p.opp w):=by
 have h1:=kck (E:=E) (D:=D) v h (fun W' hx=>by rw [Pl.nf_of_can hp.can]; exact zu v (h.ext hx) hp.can) (by rw [Pl.nf_of_can hp.can]; exact hp) hE (by omega);rw [Pl.nf_of_can hp.can] at h1;exact h1
theorem SpO.set_ {base:Nat} {W:World} {g c:Nat} {l:Sp} (h:SpO base W (.slice (some ⟨g,0,none⟩) l.length c) l) (k:Nat) (hk:k < l.length) {b:Bool} {A:Option Addr} {n d:Nat} {z:Int} (hc:zo W (.agg #[.bool b,.slice A n d]) z) :
 SpO base ((W.setCell ⟨g,k * 6,none⟩ (.bool b)).setCell ⟨g,k * 6+1,none⟩ (.slice A n d)) (.slice (some ⟨g,0,none⟩) l.length c) (l.set k (z,l[k].2))/\(∀ v ds,jd W v ds->jd ((W.setCell ⟨g,k * 6,none⟩ (.bool b)).setCell ⟨g,k * 6+1,none⟩ (.slice A n d)) v ds):=by
 obtain ⟨⟨A',c',e,h1,h2,aO⟩,ho⟩:=h;injection e with e1 e2 e3
 subst e1 e3;obtain ⟨g',c',e,hb,af,hf⟩:=ho (by omega);injection e with e1 e2 e3
 injection e1 with e1
 injection e1 with e1
 subst e1 e3;obtain ⟨ad,b0,B0,n0,c0,e,ah,lQ,dZ⟩:=aO k hk;injection e with e
 subst e;rw [kw,Nat.zero_add] at lQ;have q0:=lQ.1;have q1:=lQ.2.1;simp only at q1
 have au:∀ v ds,jd W v ds->jd ((W.setCell ⟨g,k * 6,none⟩ (.bool b)).setCell ⟨g,k * 6+1,none⟩ (.slice A n d)) v ds:=fun v ds hv =>
  (hv.box q0 rfl _).box (u:=.slice B0 n0 c0) (by rw [World.cell?_setCell_other _ _ _ _ (by simp)]; exact q1) rfl _
 have other:∀ j,j ≠ k * 6->j ≠ k * 6+1->((W.setCell ⟨g,k * 6,none⟩ (.bool b)).setCell ⟨g,k * 6+1,none⟩ (.slice A n d)).cell? ⟨g,j,none⟩=W.cell? ⟨g,j,none⟩:=fun j h1 h2=>by
  rw [World.cell?_setCell_other _ _ _ _ (by intro e; injection e with _ e; omega),World.cell?_setCell_other _ _ _ _ (by intro e; injection e with _ e; omega)]
 have hsz:((W.setCell ⟨g,k * 6,none⟩ (.bool b)).setCell ⟨g,k * 6+1,none⟩ (.slice A n d)).heap.size=W.heap.size:=by simp [World.setCell]
 have sU:(l.set k (z,l[k].2)).length=l.length:=List.length_set;refine ⟨⟨⟨some ⟨g,0,none⟩,c,by rw [sU],by rw [sU]; exact h1,h2,fun i hi=>?_⟩,fun _=>⟨g,c,by rw [sU],hb,by rw [hsz]; exact af,fun i hi=>?_⟩⟩,au⟩
 · rw [sU] at hi
   by_cases oM:i=k
   · subst oM;refine ⟨_,b,A,n,d,rfl,by rw [hsz]; exact af,?_,?_⟩
     · rw [kw,Nat.zero_add,List.getElem_set_self];obtain ⟨t0,t1,t2,t3,t4,t5⟩:=lQ;refine ⟨?_,World.cell?_setCell_same _ _ _ (u:=.slice B0 n0 c0) (by rw [World.cell?_setCell_other _ _ _ _ (by simp)]; exact q1),?_,?_,?_,?_⟩
       · rw [World.cell?_setCell_other _ _ _ _ (by simp)];exact World.cell?_setCell_same _ _ _ t0
       · exact (other (i * 6+2) (by omega) (by omega)).trans t2
       · exact (other (i * 6+3) (by omega) (by omega)).trans t3
       · exact (other (i * 6+4) (by omega) (by omega)).trans t4
       · exact (other (i * 6+5) (by omega) (by omega)).trans t5
     · rw [List.getElem_set_self];exact Cf.turn (k:=none) hc au
   · obtain ⟨ad,b1,B1,n1,c1,e,agw,QV,abY⟩:=aO i hi;injection e with e
     subst e;refine ⟨_,b1,B1,n1,c1,rfl,by rw [hsz]; exact af,?_,?_⟩
     · rw [List.getElem_set_ne (fun e=>oM e.symm)];rw [kw,Nat.zero_add] at QV ⊢;exact QV.same (other _ (by omega) (by omega)) (fun j hj=>other _ (by simp only; omega) (by simp only; omega))
     · rw [List.getElem_set_ne (fun e=>oM e.symm)];exact Cf.turn (k:=none) abY au
 · rw [World.frozen?_setCell,World.frozen?_setCell];exact hf i (by rw [sU] at hi; exact hi)
theorem tk {P : Program} {ops : Array Oper} {Q : Exit -> Act -> World -> Prop} {md : Region.Mode} {S : World -> Prop} {oi : Oper} {v : Value} {fuel : Nat} {listed l' : Array Bool} {a a' : Act} {w : World} (i : Nat) (h : wpAnyH P md ops Q S fuel l' a' w) (hi : ops[i]? = some oi := by rfl) (hs : Region.noSelect ops = true := by kernel_rfl) (hf : Region.free md ops listed i = true := by kernel_rfl) (hr : (Region.ready md ops listed).contains i = true := by kernel_rfl)
 (hy:YieldsIf P ops S oi v a:=by (first | exact Or.inl ⟨by rfl,by intro w' aK; (try dsimp only at aK); go_simp; (try (with_reducible rfl))⟩ | exact Or.inr ⟨by rfl,rfl⟩)) (hS:S w:=by assumption)
 (ha:a.put oi.dst v=a':=by ((try simp only [Act.put,List.getElem_toArray,List.getElem_cons_zero,List.getElem_cons_succ,List.setIfInBounds_toArray,List.set_cons_zero,List.set_cons_succ]) <;> rfl))
 (hl:listed.setIfInBounds i true=l':=by ((try simp only [List.setIfInBounds_toArray,List.set_cons_zero,List.set_cons_succ]) <;> rfl)) (hq:∀ c a w,Q (.panic c) (a.put oi.dst v) w->Q (.panic c) a w:=by exact fun _ _ _ h=>h):wpAnyH P md ops Q S (fuel+1) listed a w:=
 wpAnyH_take hi hs hf hr hq hy hS (by rw [ha,hl]; exact h)
section
variable {P:Program} {ops:Array Oper} {Q:Exit->Act->World->Prop} {md:Region.Mode} {S:World->Prop} {fuel:Nat}
theorem k_t {l0 l':Array Bool} {K':Act->World->Prop} {a a':Act} {w:World} (hK:Shut (∀ a w,S w->(S w->wpAnyH P md ops Q S fuel l0 a w)->K' a w)) (hS:S w) (h:S w->wpAnyH P md ops Q S fuel l' a' w) (ha:a=a':=by ((try simp only [Act.put,List.getElem_toArray,List.getElem_cons_zero,List.getElem_cons_succ,List.setIfInBounds_toArray,List.set_cons_zero,List.set_cons_succ]) <;> rfl)) (hl:l0=l':=by ((try simp only [List.setIfInBounds_toArray,List.set_cons_zero,List.set_cons_succ]) <;> rfl)):K' a w:=
  hK.out a w hS fun hs=>by rw [ha,hl]; exact h hs
theorem r_1 {listed:Array Bool} {a:Act} {w:World} {o:Oper} (i:Nat) (h:∀ K':Act->World->Prop,Shut (∀ a w,S w->(S w->wpAnyH P md ops Q S fuel (listed.setIfInBounds i true) a w)->K' a w)->if Region.wanted o (yielded ops a.tmps)=true then Oper.wp P o a w K' Q else K' (a.put o.dst undef) w) (hr:Region.ready md ops listed=[i]:=by kernel_rfl) (ho:ops[i]?=some o:=by rfl):wpAnyH P md ops Q S (fuel+1) listed a w:=
  wpAnyH_ready hr (by simp) (AllReadyH.cons ho h AllReadyH.nil)
theorem r_2 {listed:Array Bool} {a:Act} {w:World} {o p:Oper} (i j:Nat) (h:∀ K':Act->World->Prop,Shut (∀ a w,S w->(S w->wpAnyH P md ops Q S fuel (listed.setIfInBounds i true) a w)->K' a w)->if Region.wanted o (yielded ops a.tmps)=true then Oper.wp P o a w K' Q else K' (a.put o.dst undef) w) (h2:∀ K':Act->World->Prop,Shut (∀ a w,S w->(S w->wpAnyH P md ops Q S fuel (listed.setIfInBounds j true) a w)->K' a w)->if Region.wanted p (yielded ops a.tmps)=true then Oper.wp P p a w K' Q else K' (a.put p.dst undef) w) (hr:Region.ready md ops listed=[i,j]:=by kernel_rfl) (ho:ops[i]?=some o:=by rfl) (hp:ops[j]?=some p:=by rfl):wpAnyH P md ops Q S (fuel+1) listed a w:=
  wpAnyH_ready hr (by simp) (AllReadyH.cons ho h (AllReadyH.cons hp h2 AllReadyH.nil))
theorem w_d {listed:Array Bool} {a:Act} {w:World} (h:Q .normal a w) (hr:Region.ready md ops listed=[]:=by kernel_rfl):wpAnyH P md ops Q S fuel listed a w:=wpAnyH_done hr h _
end
theorem ybf {p:Pl} {E D:Nat} (hp:Fit p E D) (h0:0 < p.lv) (i:Nat):Fit (Pl.at_ p.cs i) E D:=by
 unfold Pl.at_;rw [List.getD_eq_getElem?_getD];rcases Nat.lt_or_ge i p.cs.length with h | h
 · rw [List.getElem?_eq_getElem h];obtain ⟨l,n,d,cs⟩:=p;exact hp.kid h0 (List.getElem_mem h)
 · rw [List.getElem?_eq_none h];exact Fit.zero
theorem yb4 {p q:Pl} {E D F G:Nat} (hp:Fit p E D) (hq:Fit q F G) (h0:0 < p.lv) (DF:0 < q.lv) (FK:p.cs.length<=901) (OO:q.cs.length<=901) (k:Nat) :
 (∀ r ∈ qo p.cs q.cs (gp (prs p.cs p.cs.length) (prs q.cs q.cs.length)) k,r.Can/\r.ex (E+F))/\lnr (qo p.cs q.cs (gp (prs p.cs p.cs.length) (prs q.cs q.cs.length)) k) < B32 ^ (D+G)/\(qo p.cs q.cs (gp (prs p.cs p.cs.length) (prs q.cs q.cs.length)) k).length<=1000000:=by
 refine ⟨fun r hr=>?_,?_,?_⟩
 · unfold qo at hr;obtain ⟨x,-,rfl⟩:=List.mem_map.1 hr;have h:=(ybf hp h0 x.1).mul (ybf hq DF x.2);exact ⟨h.can,h.ex⟩
 · have h1:=zcl (fun i=>(ybf hp h0 i).can) (fun i=>(ybf hq DF i).can) k (prs p.cs p.cs.length) (prs q.cs q.cs.length);have h2:=wbx p.cs p.cs.length (Nat.le_refl _);have h3:=wbx q.cs q.cs.length (Nat.le_refl _);rw [List.take_length] at h2 h3;have h4:ul p.cs < B32 ^ D:=by
    have:=hp.nr;obtain ⟨l,n,d,cs⟩:=p;rw [Pl.nr,if_neg (by simp only [Pl.lv] at h0; omega)] at this;exact this
   have h5:ul q.cs < B32 ^ G:=by
    have:=hq.nr;obtain ⟨l,n,d,cs⟩:=q;rw [Pl.nr,if_neg (by simp only [Pl.lv] at DF; omega)] at this;exact this
   rw [Nat.pow_add];refine Nat.lt_of_le_of_lt h1 (Nat.lt_of_le_of_lt (Nat.mul_le_mul h2 h3) ?_);exact Nat.mul_lt_mul'' h4 h5
 · refine Nat.le_trans (wbi _ _ _ _) ?_;rw [jbd];have h1:=xaw p.cs p.cs.length;have h2:=xaw q.cs q.cs.length;exact Nat.le_trans (Nat.mul_le_mul (Nat.le_trans h1 FK) (Nat.le_trans h2 OO)) (by decide)
end Go.Proofs.YtklnlgnnlmdibaaGreat
