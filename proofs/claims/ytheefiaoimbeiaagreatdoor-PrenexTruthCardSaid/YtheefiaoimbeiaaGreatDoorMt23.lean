/- Layer 22: recpoly.Add, Sub at canonical polynomials. -/
import Derived.Test.YtheefiaoimbeiaaGreatDoorMt22
import Derived.Test.YtheefiaoimbeiaaGreatDoorMt9
import Derived.Test.YtheefiaoimbeiaaGreatDoorMt7
import Derived.Test.YtheefiaoimbeiaaGreatDoorMt19
import Derived.Test.YtheefiaoimbeiaaGreatDoorMt21
import Derived.Lib.SliceRun
import Derived.Lib.MinMax
set_option linter.unusedSimpArgs false
set_option linter.unusedVariables false

set_option maxRecDepth 100000
set_option maxHeartbeats 8000000
namespace Go.Proofs.YtheefiaoimbeiaaGreatDoor
open Go.RowKit
theorem yck {w:World} {p q:Pl} {E D:Nat} {q0:Nat->Prop} (v0:Value) {q1:Nat->Prop} (v1:Value) (h0:PlV w q0 p v0) (h1:PlV w q1 q v1) (hp:Fit p E D) (hq:Fit q E D) (hE:E<=500) (hD:D+2<=8796093022000):Calls Tryz.prog 101 #[v0,v1] w (ji (fun b=>w.heap.size<=b) (p.add q) w):=by
 have H0:=Lib.hid h0;obtain ⟨A0,n0,c0,B0,d0,rfl,-,-,-,-⟩:=h0.open_;clear h0;have H1:=Lib.hid h1;obtain ⟨A1,n1,c1,B1,d1,rfl,-,-,-,-⟩:=h1.open_;clear h1;obtain ⟨W,hW⟩:=n_m (((w.alloc (.cells #[.int .i64 (p).lv,.bool (p).neg,.slice A0 n0 c0,.slice B0 (p).cs.length d0] 44)).alloc (.cells #[.int .i64 (q).lv,.bool (q).neg,.slice A1 n1 c1,.slice B1 (q).cs.length d1] 44)).alloc (.cells #[.int .i64 0,.bool false,.slice none 0 0,.slice none 0 0] 44));have hWx:Ext w W:=by rw [<- hW]; exact (((Ext.refl w).alloc _).alloc _).alloc _
 have hWs:W.heap.size=w.heap.size+1+1+1:=by rw [<- hW]; simp
 have HX0:=Lib.hid hWx;have HS:Hid (∀ W',Ext W W'->(Ext w W'/\W'.cell? ⟨w.heap.size,0,none⟩=some (.int .i64 (p).lv)/\W'.cell? ⟨w.heap.size,1,none⟩=some (.bool (p).neg)/\W'.cell? ⟨w.heap.size,2,none⟩=some (.slice A0 n0 c0)/\W'.cell? ⟨w.heap.size,3,none⟩=some (.slice B0 (p).cs.length d0)/\W'.cell? ⟨w.heap.size+1,0,none⟩=some (.int .i64 (q).lv)/\W'.cell? ⟨w.heap.size+1,1,none⟩=some (.bool (q).neg)/\W'.cell? ⟨w.heap.size+1,2,none⟩=some (.slice A1 n1 c1)/\W'.cell? ⟨w.heap.size+1,3,none⟩=some (.slice B1 (q).cs.length d1))):=by
  have:∀ W',Ext W W'->(Ext w W'/\W'.cell? ⟨w.heap.size,0,none⟩=some (.int .i64 (p).lv)/\W'.cell? ⟨w.heap.size,1,none⟩=some (.bool (p).neg)/\W'.cell? ⟨w.heap.size,2,none⟩=some (.slice A0 n0 c0)/\W'.cell? ⟨w.heap.size,3,none⟩=some (.slice B0 (p).cs.length d0)/\W'.cell? ⟨w.heap.size+1,0,none⟩=some (.int .i64 (q).lv)/\W'.cell? ⟨w.heap.size+1,1,none⟩=some (.bool (q).neg)/\W'.cell? ⟨w.heap.size+1,2,none⟩=some (.slice A1 n1 c1)/\W'.cell? ⟨w.heap.size+1,3,none⟩=some (.slice B1 (q).cs.length d1)):=fun W' hx=>by
   obtain ⟨hc,hf⟩:=hx.cells;refine ⟨hWx.trans hx,?_,?_,?_,?_,?_,?_,?_,?_⟩ <;> (rw [hc _ _ (by omega),<- hW]; simp [go_sem])
  exact this
 have HZ:Hid (yh W (w.heap.size+1+1)):=by
  have:yh W (w.heap.size+1+1):=by
   rw [<- hW];refine ⟨⟨?_,?_,?_,?_⟩,fun i=>?_⟩ <;> simp [go_sem]
  exact this
 have HS2:Hid (∀ W'' u0 u1 u2 u3,Ext W W''->∀ W',W'=(((W''.setCell ⟨w.heap.size+1+1,0,none⟩ u0).setCell ⟨w.heap.size+1+1,1,none⟩ u1).setCell ⟨w.heap.size+1+1,2,none⟩ u2).setCell ⟨w.heap.size+1+1,3,none⟩ u3->(Ext w W'/\W'.cell? ⟨w.heap.size,0,none⟩=some (.int .i64 (p).lv)/\W'.cell? ⟨w.heap.size,1,none⟩=some (.bool (p).neg)/\W'.cell? ⟨w.heap.size,2,none⟩=some (.slice A0 n0 c0)/\W'.cell? ⟨w.heap.size,3,none⟩=some (.slice B0 (p).cs.length d0)/\W'.cell? ⟨w.heap.size+1,0,none⟩=some (.int .i64 (q).lv)/\W'.cell? ⟨w.heap.size+1,1,none⟩=some (.bool (q).neg)/\W'.cell? ⟨w.heap.size+1,2,none⟩=some (.slice A1 n1 c1)/\W'.cell? ⟨w.heap.size+1,3,none⟩=some (.slice B1 (q).cs.length d1))):=by
  have:∀ W'' u0 u1 u2 u3,Ext W W''->∀ W',W'=(((W''.setCell ⟨w.heap.size+1+1,0,none⟩ u0).setCell ⟨w.heap.size+1+1,1,none⟩ u1).setCell ⟨w.heap.size+1+1,2,none⟩ u2).setCell ⟨w.heap.size+1+1,3,none⟩ u3->(Ext w W'/\W'.cell? ⟨w.heap.size,0,none⟩=some (.int .i64 (p).lv)/\W'.cell? ⟨w.heap.size,1,none⟩=some (.bool (p).neg)/\W'.cell? ⟨w.heap.size,2,none⟩=some (.slice A0 n0 c0)/\W'.cell? ⟨w.heap.size,3,none⟩=some (.slice B0 (p).cs.length d0)/\W'.cell? ⟨w.heap.size+1,0,none⟩=some (.int .i64 (q).lv)/\W'.cell? ⟨w.heap.size+1,1,none⟩=some (.bool (q).neg)/\W'.cell? ⟨w.heap.size+1,2,none⟩=some (.slice A1 n1 c1)/\W'.cell? ⟨w.heap.size+1,3,none⟩=some (.slice B1 (q).cs.length d1)):=fun W'' u0 u1 u2 u3 hx W' hW'=>by
   obtain ⟨s1,k0,k1,k2,k3,k4,k5,k6,k7⟩:=HS.out W'' hx;rw [hW'];refine ⟨(((s1.setCell (by simp; try omega) _).setCell (by simp; try omega) _).setCell (by simp; try omega) _).setCell (by simp; try omega) _,?_,?_,?_,?_,?_,?_,?_,?_⟩ <;> rw [World.cell?_setCell_other _ _ _ _ (by simp; try omega),World.cell?_setCell_other _ _ _ _ (by simp; try omega),World.cell?_setCell_other _ _ _ _ (by simp; try omega),World.cell?_setCell_other _ _ _ _ (by simp; try omega)] <;> assumption
  exact this
 have HFP:=Lib.hid hp;have HFQ:=Lib.hid hq;clear hp hq;have HSZ:Hid ((p.add q).sz<=1099511627776):=Lib.hid (((HFP.out.add HFQ.out)).copy (by omega));have HDM:Hid ((p.add q).dm<=35184372088832):=Lib.hid (Nat.le_trans ((HFP.out.add HFQ.out)).dm (by omega));have HFR:=Lib.hid ((HFP.out.add HFQ.out));obtain ⟨-,b0,b1,b2,b3,b4,b5,b6,b7⟩:=HS.out W (Ext.refl W);clear hWx;unfold plV at *;go_enter Tryz.func101,Tryz.ntmps101;go_wp2_with fail;clear hW b0 b1 b2 b3 b4 b5 b6 b7;have yy0:Ext W W.drew:=(Ext.refl W).drew;have Y0:=Lib.hid yy0;clear yy0
 go_region_held3 (fun W' => Ext w W' /\ W'.cell? ⟨w.heap.size, 0, none⟩ = some (.int .i64 (p).lv) /\ W'.cell? ⟨w.heap.size, 1, none⟩ = some (.bool (p).neg) /\ W'.cell? ⟨w.heap.size, 2, none⟩ = some (.slice A0 n0 c0) /\ W'.cell? ⟨w.heap.size, 3, none⟩ = some (.slice B0 (p).cs.length d0) /\ W'.cell? ⟨w.heap.size + 1, 0, none⟩ = some (.int .i64 (q).lv) /\ W'.cell? ⟨w.heap.size + 1, 1, none⟩ = some (.bool (q).neg) /\ W'.cell? ⟨w.heap.size + 1, 2, none⟩ = some (.slice A1 n1 c1) /\ W'.cell? ⟨w.heap.size + 1, 3, none⟩ = some (.slice B1 (q).cs.length d1))
  (first | with_reducible exact HS.out _ Y0.out | with_reducible exact HS.out _ yy1 | with_reducible exact HS.out _ yy2 | with_reducible exact HS.out _ yy3 | with_reducible exact HS.out _ yy4 | with_reducible exact HS.out _ (yy2.alloc _) | exact HS2.out _ _ _ _ _ yy4 _ rfl)
  (first
    | (go_at_call 97
       (fail_if_success have _:=yy1)
       refine (yab _ (H0.out.ext (HX0.out.trans Y0.out)) HFP.out.can).mono ?_;rintro e w1 ⟨z1,rfl,m1,x1⟩;obtain ⟨C1,i1,j1,D1,k1,rfl,-⟩:=id m1.open_;have yy1:Ext W w1:=Ext.trans Y0.out x1
       unfold plV)
    | (go_at_call 97
       refine (yab _ (H1.out.ext (HX0.out.trans yy1)) HFQ.out.can).mono ?_;rintro e w2 ⟨z2,rfl,m2,x2⟩;obtain ⟨C2,i2,j2,D2,k2,rfl,-⟩:=id m2.open_;have yy2:Ext W w2:=Ext.trans yy1 x2
       replace m1:=m1.ext x2
       unfold plV)
    | (go_at_call 96
       refine (xbt HFP.out HFQ.out (by omega) (by omega) (Nat.le_refl 2) (by decide) (vbr m1 m2 _)).mono ?_;rintro e w3 ⟨z3,rfl,m3,x3⟩;obtain ⟨C3,i3,j3,D3,k3,rfl,-⟩:=id m3.open_;have yy3:Ext W w3:=Ext.trans (yy2.alloc _) x3
       replace m1:=m1.ext (((Ext.refl _).alloc _).trans x3)
       replace m2:=m2.ext (((Ext.refl _).alloc _).trans x3)
       unfold plV)
    | (go_at_call 95
       refine (jap _ _ (Pl.add_can _ _) HSZ.out HDM.out m3).mono ?_;rintro e w4 ⟨z4,rfl,m4,x4⟩;obtain ⟨C4,i4,j4,D4,k4,rfl,-⟩:=id m4.open_;have yy4:Ext W w4:=Ext.trans yy3 x4
       replace m1:=m1.ext x4
       replace m2:=m2.ext x4
       replace m3:=m3.ext x4
       obtain ⟨⟨r0,r1,r2,r3⟩,rf⟩:=HZ.out.ext yy4 (by omega)
       unfold plV))
 have hzn:=HZ.out.ext yy4 (by omega);have hsn:=(yy4:Ext W _).size;have hsp:=(yy3:Ext W _).size;have HF:=Lib.hid (qi (q':=fun b=>w.heap.size<=b) (HX0.out.trans yy4) (by omega) hzn m4 (fun b _ hb=>⟨by omega,by omega⟩));clear m4 x4 m3 x3 m2 x2 m1 x1 yy4 yy3 yy2 yy1 HS2 HS HZ
 try unfold plV
 go_wp2_with fail;exact bodyPost_ret (by simp [results,Tryz.results101,go_sem,r0,r1,r2,r3,plV]) rfl HF.out
theorem zbn {w:World} {p q:Pl} {E D:Nat} {q0:Nat->Prop} (v0:Value) {q1:Nat->Prop} (v1:Value) (h0:PlV w q0 p v0) (h1:PlV w q1 q v1) (hp:Fit p E D) (hq:Fit q E D) (hE:E<=500) (hD:D+2<=8796093022000):Calls Tryz.prog 65 #[v0,v1] w (ji (fun b=>w.heap.size<=b) (p.add q.opp) w):=by
 have H0:=Lib.hid h0;obtain ⟨A0,n0,c0,B0,d0,rfl,-,-,-,-⟩:=h0.open_;clear h0;have H1:=Lib.hid h1;obtain ⟨A1,n1,c1,B1,d1,rfl,-,-,-,-⟩:=h1.open_;clear h1;obtain ⟨W,hW⟩:=n_m (((w.alloc (.cells #[.int .i64 (p).lv,.bool (p).neg,.slice A0 n0 c0,.slice B0 (p).cs.length d0] 44)).alloc (.cells #[.int .i64 (q).lv,.bool (q).neg,.slice A1 n1 c1,.slice B1 (q).cs.length d1] 44)).alloc (.cells #[.int .i64 0,.bool false,.slice none 0 0,.slice none 0 0] 44));have hWx:Ext w W:=by rw [<- hW]; exact (((Ext.refl w).alloc _).alloc _).alloc _
 have hWs:W.heap.size=w.heap.size+1+1+1:=by rw [<- hW]; simp
 have HX0:=Lib.hid hWx;have HS:Hid (∀ W',Ext W W'->(Ext w W'/\W'.cell? ⟨w.heap.size,0,none⟩=some (.int .i64 (p).lv)/\W'.cell? ⟨w.heap.size,1,none⟩=some (.bool (p).neg)/\W'.cell? ⟨w.heap.size,2,none⟩=some (.slice A0 n0 c0)/\W'.cell? ⟨w.heap.size,3,none⟩=some (.slice B0 (p).cs.length d0)/\W'.cell? ⟨w.heap.size+1,0,none⟩=some (.int .i64 (q).lv)/\W'.cell? ⟨w.heap.size+1,1,none⟩=some (.bool (q).neg)/\W'.cell? ⟨w.heap.size+1,2,none⟩=some (.slice A1 n1 c1)/\W'.cell? ⟨w.heap.size+1,3,none⟩=some (.slice B1 (q).cs.length d1))):=by
  have:∀ W',Ext W W'->(Ext w W'/\W'.cell? ⟨w.heap.size,0,none⟩=some (.int .i64 (p).lv)/\W'.cell? ⟨w.heap.size,1,none⟩=some (.bool (p).neg)/\W'.cell? ⟨w.heap.size,2,none⟩=some (.slice A0 n0 c0)/\W'.cell? ⟨w.heap.size,3,none⟩=some (.slice B0 (p).cs.length d0)/\W'.cell? ⟨w.heap.size+1,0,none⟩=some (.int .i64 (q).lv)/\W'.cell? ⟨w.heap.size+1,1,none⟩=some (.bool (q).neg)/\W'.cell? ⟨w.heap.size+1,2,none⟩=some (.slice A1 n1 c1)/\W'.cell? ⟨w.heap.size+1,3,none⟩=some (.slice B1 (q).cs.length d1)):=fun W' hx=>by
   obtain ⟨hc,hf⟩:=hx.cells;refine ⟨hWx.trans hx,?_,?_,?_,?_,?_,?_,?_,?_⟩ <;> (rw [hc _ _ (by omega),<- hW]; simp [go_sem])
  exact this
 have HZ:Hid (yh W (w.heap.size+1+1)):=by
  have:yh W (w.heap.size+1+1):=by
   rw [<- hW];refine ⟨⟨?_,?_,?_,?_⟩,fun i=>?_⟩ <;> simp [go_sem]
  exact this
 have HS2:Hid (∀ W'' u0 u1 u2 u3,Ext W W''->∀ W',W'=(((W''.setCell ⟨w.heap.size+1+1,0,none⟩ u0).setCell ⟨w.heap.size+1+1,1,none⟩ u1).setCell ⟨w.heap.size+1+1,2,none⟩ u2).setCell ⟨w.heap.size+1+1,3,none⟩ u3->(Ext w W'/\W'.cell? ⟨w.heap.size,0,none⟩=some (.int .i64 (p).lv)/\W'.cell? ⟨w.heap.size,1,none⟩=some (.bool (p).neg)/\W'.cell? ⟨w.heap.size,2,none⟩=some (.slice A0 n0 c0)/\W'.cell? ⟨w.heap.size,3,none⟩=some (.slice B0 (p).cs.length d0)/\W'.cell? ⟨w.heap.size+1,0,none⟩=some (.int .i64 (q).lv)/\W'.cell? ⟨w.heap.size+1,1,none⟩=some (.bool (q).neg)/\W'.cell? ⟨w.heap.size+1,2,none⟩=some (.slice A1 n1 c1)/\W'.cell? ⟨w.heap.size+1,3,none⟩=some (.slice B1 (q).cs.length d1))):=by
  have:∀ W'' u0 u1 u2 u3,Ext W W''->∀ W',W'=(((W''.setCell ⟨w.heap.size+1+1,0,none⟩ u0).setCell ⟨w.heap.size+1+1,1,none⟩ u1).setCell ⟨w.heap.size+1+1,2,none⟩ u2).setCell ⟨w.heap.size+1+1,3,none⟩ u3->(Ext w W'/\W'.cell? ⟨w.heap.size,0,none⟩=some (.int .i64 (p).lv)/\W'.cell? ⟨w.heap.size,1,none⟩=some (.bool (p).neg)/\W'.cell? ⟨w.heap.size,2,none⟩=some (.slice A0 n0 c0)/\W'.cell? ⟨w.heap.size,3,none⟩=some (.slice B0 (p).cs.length d0)/\W'.cell? ⟨w.heap.size+1,0,none⟩=some (.int .i64 (q).lv)/\W'.cell? ⟨w.heap.size+1,1,none⟩=some (.bool (q).neg)/\W'.cell? ⟨w.heap.size+1,2,none⟩=some (.slice A1 n1 c1)/\W'.cell? ⟨w.heap.size+1,3,none⟩=some (.slice B1 (q).cs.length d1)):=fun W'' u0 u1 u2 u3 hx W' hW'=>by
   obtain ⟨s1,k0,k1,k2,k3,k4,k5,k6,k7⟩:=HS.out W'' hx;rw [hW'];refine ⟨(((s1.setCell (by simp; try omega) _).setCell (by simp; try omega) _).setCell (by simp; try omega) _).setCell (by simp; try omega) _,?_,?_,?_,?_,?_,?_,?_,?_⟩ <;> rw [World.cell?_setCell_other _ _ _ _ (by simp; try omega),World.cell?_setCell_other _ _ _ _ (by simp; try omega),World.cell?_setCell_other _ _ _ _ (by simp; try omega),World.cell?_setCell_other _ _ _ _ (by simp; try omega)] <;> assumption
  exact this
 have HFP:=Lib.hid hp;have HFQ:=Lib.hid hq;clear hp hq;have HM1:Hid ((dg (-1:Int).natAbs).length<=1):=Lib.hid (by rw [show (-1:Int).natAbs=1 from rfl,yam (by decide) (by decide)]; exact Nat.le_refl 1);have HFO:Hid (Fit (q.mul (Pl.const (-1))) E (D+1)):=Lib.hid HFQ.out.opp;have HSZ:Hid ((p.add (q.mul (Pl.const (-1)))).sz<=1099511627776):=Lib.hid ((((HFP.out.mono (Nat.le_refl _) (Nat.le_succ _)).add HFO.out)).copy (by omega));have HDM:Hid ((p.add (q.mul (Pl.const (-1)))).dm<=35184372088832):=Lib.hid (Nat.le_trans (((HFP.out.mono (Nat.le_refl _) (Nat.le_succ _)).add HFO.out)).dm (by omega));have HFR:=Lib.hid (((HFP.out.mono (Nat.le_refl _) (Nat.le_succ _)).add HFO.out));obtain ⟨-,b0,b1,b2,b3,b4,b5,b6,b7⟩:=HS.out W (Ext.refl W);clear hWx;unfold plV at *;go_enter Tryz.func65,Tryz.ntmps65;go_wp2_with fail;clear hW b0 b1 b2 b3 b4 b5 b6 b7;have yy0:Ext W W.drew:=(Ext.refl W).drew;have Y0:=Lib.hid yy0;clear yy0
 go_region_held3 (fun W' => Ext w W' /\ W'.cell? ⟨w.heap.size, 0, none⟩ = some (.int .i64 (p).lv) /\ W'.cell? ⟨w.heap.size, 1, none⟩ = some (.bool (p).neg) /\ W'.cell? ⟨w.heap.size, 2, none⟩ = some (.slice A0 n0 c0) /\ W'.cell? ⟨w.heap.size, 3, none⟩ = some (.slice B0 (p).cs.length d0) /\ W'.cell? ⟨w.heap.size + 1, 0, none⟩ = some (.int .i64 (q).lv) /\ W'.cell? ⟨w.heap.size + 1, 1, none⟩ = some (.bool (q).neg) /\ W'.cell? ⟨w.heap.size + 1, 2, none⟩ = some (.slice A1 n1 c1) /\ W'.cell? ⟨w.heap.size + 1, 3, none⟩ = some (.slice B1 (q).cs.length d1))
  (first | with_reducible exact HS.out _ Y0.out | with_reducible exact HS.out _ yy1 | with_reducible exact HS.out _ yy2 | with_reducible exact HS.out _ yy3 | with_reducible exact HS.out _ yy4 | with_reducible exact HS.out _ yy5 | with_reducible exact HS.out _ yy6 | with_reducible exact HS.out _ (yy4.alloc _) | exact HS2.out _ _ _ _ _ yy6 _ rfl)
  (first
    | (go_at_call 97
       (fail_if_success have _:=yy1)
       refine (yab _ (H0.out.ext (HX0.out.trans Y0.out)) HFP.out.can).mono ?_;rintro e w1 ⟨z1,rfl,m1,x1⟩;obtain ⟨C1,i1,j1,D1,k1,rfl,-⟩:=id m1.open_;have yy1:Ext W w1:=Ext.trans Y0.out x1
       unfold plV)
    | (go_at_call 97
       refine (yab _ (H1.out.ext (HX0.out.trans yy1)) HFQ.out.can).mono ?_;rintro e w2 ⟨z2,rfl,m2,x2⟩;obtain ⟨C2,i2,j2,D2,k2,rfl,-⟩:=id m2.open_;have yy2:Ext W w2:=Ext.trans yy1 x2
       replace m1:=m1.ext x2
       unfold plV)
    | (go_at_call 40
       refine (of_int (-1) _ (by omega) (by omega)).mono ?_;rintro e w3 ⟨z3,rfl,⟨y3,rfl,m3⟩,x3⟩;obtain ⟨C3,k3,rfl,-⟩:=id m3;have yy3:Ext W w3:=Ext.trans yy2 x3
       replace m1:=m1.ext x3
       replace m2:=m2.ext x3)
    | (go_at_call 98
       refine (jbd _ _ m2 (kbb m3 HM1.out) HFQ.out (by omega) (by omega)).mono ?_;rintro e w4 ⟨z4,rfl,m4,x4⟩;obtain ⟨C4,i4,j4,D4,k4,rfl,-⟩:=id m4.open_;have yy4:Ext W w4:=Ext.trans yy3 x4
       replace m1:=m1.ext x4
       replace m2:=m2.ext x4
       replace m3:=m3.ext x4
       unfold plV)
    | (go_at_call 96
       refine (xbt (HFP.out.mono (Nat.le_refl _) (Nat.le_succ _)) HFO.out (by omega) (by omega) (Nat.le_refl 2) (by decide) (vbr m1 m4 _)).mono ?_;rintro e w5 ⟨z5,rfl,m5,x5⟩;obtain ⟨C5,i5,j5,D5,k5,rfl,-⟩:=id m5.open_;have yy5:Ext W w5:=Ext.trans (yy4.alloc _) x5
       replace m1:=m1.ext (((Ext.refl _).alloc _).trans x5)
       replace m2:=m2.ext (((Ext.refl _).alloc _).trans x5)
       replace m3:=m3.ext (((Ext.refl _).alloc _).trans x5)
       replace m4:=m4.ext (((Ext.refl _).alloc _).trans x5)
       unfold plV)
    | (go_at_call 95
       refine (jap _ _ (Pl.add_can _ _) HSZ.out HDM.out m5).mono ?_;rintro e w6 ⟨z6,rfl,m6,x6⟩;obtain ⟨C6,i6,j6,D6,k6,rfl,-⟩:=id m6.open_;have yy6:Ext W w6:=Ext.trans yy5 x6
       replace m1:=m1.ext x6
       replace m2:=m2.ext x6
       replace m3:=m3.ext x6
       replace m4:=m4.ext x6
       replace m5:=m5.ext x6
       obtain ⟨⟨r0,r1,r2,r3⟩,rf⟩:=HZ.out.ext yy6 (by omega)
       unfold plV))
 have hzn:=HZ.out.ext yy6 (by omega);have hsn:=(yy6:Ext W _).size;have hsp:=(yy5:Ext W _).size;have HF:=Lib.hid (qi (q':=fun b=>w.heap.size<=b) (HX0.out.trans yy6) (by omega) hzn m6 (fun b _ hb=>⟨by omega,by omega⟩));clear m6 x6 m5 x5 m4 x4 m3 x3 m2 x2 m1 x1 yy6 yy5 yy4 yy3 yy2 yy1 HS2 HS HZ
 try unfold plV
 go_wp2_with fail;exact bodyPost_ret (by simp [results,Tryz.results65,go_sem,r0,r1,r2,r3,plV]) rfl HF.out
end Go.Proofs.YtheefiaoimbeiaaGreatDoor

/- Layer 38: builder.matrix at any formula without equivalences. -/
set_option maxRecDepth 100000
set_option maxHeartbeats 8000000
namespace Go.Proofs.YtheefiaoimbeiaaGreatDoor
open Go.RowKit
attribute [local go_sem] xaa xy gaa zaa kaa jaa yaa yt qy qaa uaa yad qm vaa ut
section
variable {w0:World} {L base gb bl bt:Nat}
theorem vbk {l k:Tm} {r:Int} (hpl:∀ g,jab w0 L gb bl g l) (hpk:∀ g,jab w0 L gb bl g k):yac w0 L base gb bl bt (.atom l r k):=by
 intro v W own s tk pos cp hx0 hf hp hl hn ha hb;obtain ⟨x,y,rfl,hx,hy⟩:=hf;have hwl:l.wt<=320:=hl.1;have hwk:k.wt<=320:=hl.2;obtain ⟨W1,hW⟩:=n_m ((W.alloc (.cells #[.int .i64 0,.int .i64 0,.int .i64 0,.bool false,.slice none 0 0,.slice none 0 0,.slice none 0 0] 47)).alloc (.cells #[x,.int .i64 r,y] 77));have hWx:Ext W W1:=by rw [<- hW]; exact ((Ext.refl W).alloc _).alloc _
 have hWs:W.heap.size+1 < W1.heap.size:=by rw [<- hW]; simp
 have hz:zn W1 W.heap.size:=by rw [<- hW]; exact (zn.new W _).ext ((Ext.refl _).alloc _) (by simp)
 have hb1:=hb.ext hWx;have HA:=Lib.hid (fun W' (hx':Ext W1 W')=>hpl s.lev x W' ((hx0.trans hWx).trans hx') hx ((hb1.ext hx').pbld) (by omega));have HC:=Lib.hid (fun W' (hx':Ext W1 W')=>hpk s.lev y W' ((hx0.trans hWx).trans hx') hy ((hb1.ext hx').pbld) (by omega));have HFA:=Lib.hid ((vag s.lev l (by omega)).fit400 (by omega));have HFC:=Lib.hid ((vag s.lev k (by omega)).fit400 (by omega));obtain ⟨Tf,x,rfl⟩:=hx.iface;obtain ⟨Tg,y,rfl⟩:=hy.iface;have d1:W1.cell? ⟨W.heap.size+1,1,none⟩=some (.int .i64 r):=by rw [<- hW]; simp [go_sem]
 have HS:Hid (∀ W',Ext W1 W'->(Ext W W'/\W'.cell? ⟨W.heap.size+1,0,none⟩=some (.iface Tf x)/\W'.cell? ⟨W.heap.size+1,2,none⟩=some (.iface Tg y))):=by
  intro W' hx';obtain ⟨hc,hf⟩:=hx'.cells;refine ⟨hWx.trans hx',?_,?_⟩ <;> (rw [hc _ _ (by omega),<- hW]; simp [go_sem])
 have HS2:Hid (∀ W'' u0 u1 u2 u3 u4 u5 u6,Ext W1 W''->∀ W',W'=((((((W''.setCell ⟨W.heap.size,0,none⟩ u0).setCell ⟨W.heap.size,1,none⟩ u1).setCell ⟨W.heap.size,2,none⟩ u2).setCell ⟨W.heap.size,3,none⟩ u3).setCell ⟨W.heap.size,4,none⟩ u4).setCell ⟨W.heap.size,5,none⟩ u5).setCell ⟨W.heap.size,6,none⟩ u6->(Ext W W'/\W'.cell? ⟨W.heap.size+1,0,none⟩=some (.iface Tf x)/\W'.cell? ⟨W.heap.size+1,2,none⟩=some (.iface Tg y))):=by
  intro W'' u0 u1 u2 u3 u4 u5 u6 hx' W' hW';obtain ⟨s1,k0,k1⟩:=HS.out W'' hx';rw [hW'];refine ⟨((((((s1.setCell (by simp) _).setCell (by simp) _).setCell (by simp) _).setCell (by simp) _).setCell (by simp) _).setCell (by simp) _).setCell (by simp) _,?_,?_⟩ <;> rw [World.cell?_setCell_other _ _ _ _ (by simp; try omega),World.cell?_setCell_other _ _ _ _ (by simp; try omega),World.cell?_setCell_other _ _ _ _ (by simp; try omega),World.cell?_setCell_other _ _ _ _ (by simp; try omega),World.cell?_setCell_other _ _ _ _ (by simp; try omega),World.cell?_setCell_other _ _ _ _ (by simp; try omega),World.cell?_setCell_other _ _ _ _ (by simp; try omega)] <;> assumption
 have HB:=Lib.hid hb;have HX:=Lib.hid hWx;have HZ:=Lib.hid hz;have HRE:Hid (∃ rr,rr=if pos then yal r else za1 (yal r)):=Lib.hid ⟨_,rfl⟩;obtain ⟨rr,hrr⟩:=HRE.out;clear hb hb1 hx0 hWx hz hp hl hn ha hx hy hwl hwk HRE hpl hpk;rw [show yc (.atom l r k) pos s=(wba (if pos then yal r else za1 (yal r)) ((yl s.lev l).add (yl s.lev k).opp),s) from rfl,<- hrr];have HRR:=Lib.hid hrr;clear hrr;generalize yl s.lev l=p at *;generalize yl s.lev k=q at *;go_enter Tryz.func28,Tryz.ntmps28;go_wp2_with fail;clear hW;refine (xcd r W1).mono ?_;rintro e w1 ⟨rfl,rfl⟩;clear d1;generalize yal r=rm at *;have HR1:Hid (pos=false->za1 rm=rr):=Lib.hid (fun e=>by rw [HRR.out,e]; rfl);have HR2:Hid (pos=true->rm=rr):=Lib.hid (fun e=>by rw [HRR.out,e]; rfl);clear HRR;cases pos
 all_goals
  go_wp2_with fail
  first
   | (refine (wb7 rm w1).mono ?_
      rintro e w0' ⟨rfl,hw⟩;have hw2:=hw.symm;subst hw2;rw [HR1.out (by first | rfl | trivial)]
      go_wp2_with fail)
   | (rw [HR2.out (by first | rfl | trivial)])
  have yy0:Ext w1 w1.drew:=(Ext.refl w1).drew;have Y0:=Lib.hid yy0;clear yy0 HR1 HR2
  go_region_held3 (fun W' => Ext W W' /\ W'.cell? ⟨W.heap.size + 1, 0, none⟩ = some (.iface Tf x) /\ W'.cell? ⟨W.heap.size + 1, 2, none⟩ = some (.iface Tg y))
   (first | with_reducible exact HS.out _ Y0.out | with_reducible exact HS.out _ yy1 | with_reducible exact HS.out _ yy2 | with_reducible exact HS.out _ yy3 | with_reducible exact HS2.out _ _ _ _ _ _ _ _ yy3 _ rfl)
   (first
     | (go_at_call 66
        (fail_if_success have _:=yy1)
        refine (HA.out _ Y0.out).mono ?_;rintro e w1' ⟨z1,rfl,m1,x1⟩;obtain ⟨C1,i1,j1,D1,k1,rfl,-⟩:=id m1.open_;have yy1:Ext w1 w1':=Ext.trans Y0.out x1
        unfold plV)
     | (go_at_call 66
        refine (HC.out _ yy1).mono ?_;rintro e w2 ⟨z2,rfl,m2,x2⟩;obtain ⟨C2,i2,j2,D2,k2,rfl,-⟩:=id m2.open_;have yy2:Ext w1 w2:=Ext.trans yy1 x2
        replace m1:=m1.ext x2
        unfold plV)
     | (go_at_call 65
        refine (zbn _ _ m1 m2 HFA.out HFC.out (by omega) (by omega)).mono ?_;rintro e w3 ⟨z3,rfl,m3,x3⟩;obtain ⟨C3,i3,j3,D3,k3,rfl,-⟩:=id m3.open_;have yy3:Ext w1 w3:=Ext.trans yy2 x3;obtain ⟨⟨r0,r1,r2,r3,r4,r5,r6⟩,rf⟩:=HZ.out.ext yy3 (by omega)
        unfold plV))
  all_goals
   have hzn:=HZ.out.ext yy3 (by omega);have hsn:=(yy2:Ext w1 _).size;have HF:=Lib.hid (gaq (yu.of_ext (HX.out.trans yy3)) (Nat.le_refl _) (fun ho=>by have:=(HB.out.own_ ho).1; omega) hzn (HB.out.ext (HX.out.trans yy3)) (MxV.mk (t:=.mk 2 rr (p.add q.opp) []) (K:=none) (c:=0) m3 (by simp [Mx.ks]) (by omega) (by unfold Mx.ks qac; trivial)) (fun b _ hb=>⟨by omega,by omega,fun ho=>by have:=(HB.out.own_ ho).1; omega⟩));clear m1 m2 m3 x1 x2 x3 yy1 yy2 yy3 HS HS2 HZ HB HX HA HC hzn;simp only [Mx.kind,Mx.rel,Mx.p,Pl.zero,Pl.lv,Pl.neg] at r0 r1 r2 r3
   try unfold plV
   generalize p.add q.opp=P at *;go_wp2_with fail;exact bodyPost_ret (v:=mxV (.mk 2 rr P []) (.slice C3 i3 j3) (.slice D3 P.cs.length k3) (.slice none 0 0)) (by simp [results,Tryz.results28,go_sem,r0,r1,r2,r3,r4,r5,r6,mxV,Mx.kind,Mx.rel,Mx.p]) rfl HF.out
theorem vbx {P:Tm->Prop} (HP:∀ t,P t->∀ g,jab w0 L gb bl g t) (hlo:w0.heap.size<=gb/\w0.heap.size<=bl/\w0.heap.size<=bt/\w0.heap.size<=base) (f:Fm) (hf:f.terms P):yac w0 L base gb bl bt f:=by
 induction f with
 | truth b=>exact ub5
 | atom l r k=>exact vbk (HP l hf.1) (HP k hf.2)
 | not f ih=>exact zcq (ih hf)
 | and f g ihf ihg=>exact qcq hlo (ihf hf.1) (ihg hf.2)
 | or f g ihf ihg=>exact qcy hlo (ihf hf.1) (ihg hf.2)
 | imp f g ihf ihg=>exact ycq hlo (ihf hf.1) (ihg hf.2)
 | iff f g ihf ihg=>exact xcq hlo (ihf hf.1) (ihg hf.2)
 | quant a nm f ih=>exact qbe hlo (ih hf)
end
end Go.Proofs.YtheefiaoimbeiaaGreatDoor

/- slices.Clone at []string; values of prenex forms. -/
set_option maxRecDepth 100000
set_option maxHeartbeats 8000000
namespace Go.Proofs.YtheefiaoimbeiaaGreatDoor
open Go.RowKit
def Strs (w:World) (v:Value) (l:List ByteArray):Prop:=SlR (fun _ (s:ByteArray) x=>x=.string s) w v l
def Bools (w:World) (v:Value) (l:List Bool):Prop:=SlR (fun _ (s:Bool) x=>x=.bool s) w v l
theorem Strs.ext {w w':World} {v:Value} {l:List ByteArray} (h:Strs w v l) (hx:Ext w w'):Strs w' v l:=SlR.ext h (fun _ _ h=>h) hx
theorem Bools.ext {w w':World} {v:Value} {l:List Bool} (h:Bools w v l) (hx:Ext w w'):Bools w' v l:=SlR.ext h (fun _ _ h=>h) hx
theorem wcb {base:Nat} {w:World} {v:Value} {l:List ByteArray} (h:yj 9 1 base w v l.length (strs l)):Strs w v l:=jh.slr h.1
theorem SNm.strs_ {base:Nat} {w:World} {v:Value} {l:List ByteArray} {o:Option Nat} (h:SNm base w v l o):Strs w v l:=by
 rcases h with ⟨h,-⟩ | ⟨rfl,-,A,rfl⟩
 · exact wcb h
 · exact ⟨A,0,rfl,by simp,by simp,fun j hj=>absurd hj (by simp)⟩
theorem vb3 {base:Nat} {w:World} {v:Value} {l:List Bool} (h:yj 4 1 base w v l.length (bools l)):Bools w v l:=by
 rcases Nat.eq_zero_or_pos l.length with h0 | h0
 · obtain ⟨A,c,rfl,h1,h2⟩:=h.len;exact ⟨A,c,rfl,h1,h2,fun j hj=>by omega⟩
 · obtain ⟨g,c,rfl,h1,h2,h3,h4,-⟩:=h.pos h0;refine ⟨_,c,rfl,h1,h2,fun j hj=>⟨_,_,rfl,h4,?_,rfl⟩⟩;rw [yx,Nat.zero_add,h.cell j (by omega)];simp [bools,hj]
theorem clone_any {w:World} {v:Value} {l:List ByteArray} (h:Strs w v l) (hl:l.length<=1000000):Calls Tryz.prog 26 #[v] w fun e w'=>∃ v',e=.returned v'/\yj 9 1 w.heap.size w' v' l.length (strs l)/\Ext w w':=by
 obtain ⟨A,c,rfl,h1,h2,h3⟩:=h;cases A with
 | none =>
   have h0:l=[]:=by
    cases l with
    | nil=>rfl
    | cons a r=>obtain ⟨ad,x,e,-⟩:=h3 0 (by simp); cases e
   subst h0;have he:=Lib.run_eql_slice_nil (P:=Tryz.prog) w 34 9 none 0 c 0 0 kak.und;go_enter Tryz.func26,Tryz.ntmps26;go_wp2_with fail;go_ret;exact ⟨_,rfl,yj.nil _ _ _ _,Ext.refl w⟩
 | some ad =>
   obtain ⟨W,hW⟩:=n_m (w.alloc (.cells #[] 9));have hWx:Ext w W:=by rw [<- hW]; exact (Ext.refl w).alloc _
   have hrow:yj 9 1 w.heap.size W (.slice (some ⟨w.heap.size,0,none⟩) 0 0) 0 []:=by
    rw [<- hW];refine ⟨World.ownsRow_made w #[] 0 (Nat.le_refl _) (by unfold maxLen; omega) (by simp),fun R cur T fr e hb u hu=>?_⟩;have hR:w.heap.size=R:=by simpa [Value.ownBlock] using e
    rw [<- hR,heap_alloc_new] at hb;injection hb with hb
    injection hb with hb
    rw [<- hb] at hu;simp at hu
   have hrun:∃ v4 w4,(Builtin.append_ #[34,34] 34 #[.slice (some ⟨w.heap.size,0,none⟩) 0 0,.slice (some ad) l.length c]).run Tryz.prog W=.ok v4 w4/\yj 9 1 w.heap.size w4 v4 l.length (strs l)/\Ext w w4:=by
    rcases Nat.eq_zero_or_pos l.length with h0 | h0
    · have:l=[]:=List.eq_nil_of_length_eq_zero h0;subst this;refine ⟨.slice (some ⟨w.heap.size,0,none⟩) 0 0,W,?_,hrow,hWx⟩;obtain ⟨i0,hi,hz0,hz1,hz2⟩:=info_parts kak.info;simp [Builtin.append_,run_underlying kak.und,sizeOf,typeInfo,hi,Builtin.lenOf,Builtin.firstCells,loadCells,loadCellsFrom,storeCells]
    · obtain ⟨v4,w4,e,r1,r2,-,-⟩:=yj.append kak hrow hWx.size ad l.length c (strs l) (by simp [strs]) (fun j u hu=>by
       have hj:j < l.length:=by
        rcases Nat.lt_or_ge j l.length with h | h
        · exact h
        · rw [List.getElem?_eq_none (by simpa [strs] using h)] at hu; cases hu
       obtain ⟨ad',x,e,hb,hc,hx⟩:=h3 j hj;injection e with e
       subst e hx;rw [hWx.cell (p:=ad.add j) (by rw [jb]; exact hb),hc,<- hu];simp [strs,hj]) (fun u hu=>by
       simp only [strs,List.mem_map] at hu;obtain ⟨s,-,rfl⟩:=hu
       exact ⟨rfl,rfl⟩) h0 (by omega) (by omega) 34
      refine ⟨v4,w4,e,by simpa using r1,?_⟩;exact uaq hWx r2 (fun R hR=>by have:=(hrow.own hR).1; omega)
   obtain ⟨v4,w4,hr,hg,hx⟩:=hrun;have HRUN:=Lib.hid hr;have HF:Hid (yj 9 1 w.heap.size w4 v4 l.length (strs l)/\Ext w w4):=Lib.hid ⟨hg,hx⟩;have he:=Lib.run_eql_slice_nil (P:=Tryz.prog) w 34 9 (some ad) l.length c 0 0 kak.und;clear hr hg hx hrow hWx h3;go_enter Tryz.func26,Tryz.ntmps26;go_upto_region 3 with fail;clear he
   iterate 16 (first | at_builtin | go_values | go_skip | go_guarded | go_step | go_upon | go_back | go_simp)
   refine wpList_append_run rfl (.tmp 5) (.tmp 6) _ _ rfl _ _ _ _ rfl rfl HRUN.out ?_;clear HRUN;go_wp2_with fail;go_ret;exact ⟨_,rfl,HF.out⟩
end Go.Proofs.YtheefiaoimbeiaaGreatDoor

/- Layer 38: prenex forms as values. -/
namespace Go.Proofs.YtheefiaoimbeiaaGreatDoor
open Go.RowKit
def pxC (fr:Int) (all nms:Value) (m:Mx) (s A K:Value):Value:=.agg #[.int .i64 fr,all,nms,.int .i64 m.kind,.int .i64 m.rel,.int .i64 m.p.lv,.bool m.p.neg,s,A,K]
def PxV (w:World) (q:Nat->Prop) (fr:Int) (all:List Bool) (nms:List ByteArray) (m:Mx) (v:Value):Prop:=
 ∃ A1 c1 A2 c2 A0 n0 c0 B n1 c3 K n2 c4,v=pxC fr (.slice A1 all.length c1) (.slice A2 nms.length c2) m (.slice A0 n0 c0) (.slice B n1 c3) (.slice K n2 c4)/\Bools w (.slice A1 all.length c1) all/\Strs w (.slice A2 nms.length c2) nms/\MxV w q m (mxV m (.slice A0 n0 c0) (.slice B n1 c3) (.slice K n2 c4))
theorem SlR.turn {α:Type} {P:α->Value->Prop} {w w':World} {A:Option Addr} {n c:Nat} {l:List α} (h:SlR (fun _=>P) w (.slice A n c) l) (hs:w.heap.size<=w'.heap.size) (hb:∀ ad,A=some ad->0 < l.length->w'.heap[ad.block]?=w.heap[ad.block]?):SlR (fun _=>P) w' (.slice A n c) l:=by
 obtain ⟨A',c',e,h1,h2,h3⟩:=h;injection e with e1 e2 e3
 subst e1 e2 e3;refine ⟨A,c,rfl,h1,h2,fun j hj=>?_⟩;obtain ⟨ad,x,rfl,hlt,hc,hp⟩:=h3 j hj;exact ⟨ad,x,rfl,Nat.lt_of_lt_of_le hlt hs,(World.cell?_of_block (a:=ad.add j) (by rw [jb]; exact hb ad rfl (by omega))).trans hc,hp⟩
theorem PxV.ext {w w':World} {q:Nat->Prop} {fr:Int} {all:List Bool} {nms:List ByteArray} {m:Mx} {v:Value} (h:PxV w q fr all nms m v) (hx:Ext w w'):PxV w' q fr all nms m v:=by
 obtain ⟨A1,c1,A2,c2,A0,n0,c0,B,n1,c3,K,n2,c4,e,h1,h2,h3⟩:=h;exact ⟨A1,c1,A2,c2,A0,n0,c0,B,n1,c3,K,n2,c4,e,h1.ext hx,h2.ext hx,h3.ext hx⟩
theorem xaz (b : Nat) : ∀ (vs : List Value) (o : Nat) (w : World), (∀ j, j < vs.length -> ∃ u, w.cell? ⟨b, o + j, none⟩ = some u /\ uu u = false) -> ∀ x ds, ja w x ds -> ja (w.setCells b o vs) x ds
 | [],o,w,_,x,ds,h=>h
 | v :: vs,o,w,hu,x,ds,h=>by
   obtain ⟨u,h1,h2⟩:=hu 0 (by simp);refine xaz b vs (o+1) (w.setCell ⟨b,o,none⟩ v) (fun j hj=>?_) x ds (h.box h1 h2 v);obtain ⟨u',h3,h4⟩:=hu (j+1) (by simpa using hj);refine ⟨u',?_,h4⟩;rw [World.cell?_setCell_other _ _ _ _ (by intro e; injection e; omega),<- h3]
   congr 2; omega
theorem gat {w : World} {b : Nat} (hb : w.heap.size <= b) : ∀ (vs : List Value) (o : Nat) (w' : World), Ext w w' -> Ext w (w'.setCells b o vs)
 | [],o,w',h=>h
 | v :: vs,o,w',h=>gat hb vs (o+1) (w'.setCell ⟨b,o,none⟩ v) (h.setCell hb v)
theorem uap {b i : Nat} (hne : i ≠ b) : ∀ (vs : List Value) (o : Nat) (w : World), (w.setCells b o vs).heap[i]? = w.heap[i]?
 | [],o,w=>rfl
 | v :: vs,o,w=>(uap hne vs (o+1) (w.setCell ⟨b,o,none⟩ v)).trans (Below.heap_setCell w _ v i hne)
theorem size_setCells {b : Nat} : ∀ (vs : List Value) (o : Nat) (w : World), (w.setCells b o vs).heap.size = w.heap.size
 | [],o,w=>rfl
 | v :: vs,o,w=>(size_setCells vs (o+1) (w.setCell ⟨b,o,none⟩ v)).trans (by simp [World.setCell])
def gaw (W:World) (g:Nat) (u0 u1 u2 u3 u4 u5 u6 u7 u8 u9:Value):World:=
 (((((((((W.setCell ⟨g,0,none⟩ u0).setCell ⟨g,1,none⟩ u1).setCell ⟨g,2,none⟩ u2).setCell ⟨g,3,none⟩ u3).setCell ⟨g,4,none⟩ u4).setCell ⟨g,5,none⟩ u5).setCell ⟨g,6,none⟩ u6).setCell ⟨g,7,none⟩ u7).setCell ⟨g,8,none⟩ u8).setCell ⟨g,9,none⟩ u9
theorem yav (W:World) (g:Nat) (u0 u1 u2 u3 u4 u5 u6 u7 u8 u9:Value):gaw W g u0 u1 u2 u3 u4 u5 u6 u7 u8 u9=W.setCells g 0 [u0,u1,u2,u3,u4,u5,u6,u7,u8,u9]:=rfl
theorem kcj {w Wf : World} {g : Nat} {q q' : Nat -> Prop} {fr : Int} {all : List Bool} {nms : List ByteArray} {m : Mx} {A1 A2 A0 B K : Option Addr} {c1 c2 n0 c0 n1 c3 n2 c4 : Nat} (hx : Ext w Wf) (hg : w.heap.size <= g) (hz : ∀ j, j < 10 -> ∃ u, Wf.cell? ⟨g, j, none⟩ = some u /\ uu u = false)
 (h1:Bools Wf (.slice A1 all.length c1) all) (k1:∀ ad,A1=some ad->0 < all.length->ad.block ≠ g) (h2:Strs Wf (.slice A2 nms.length c2) nms) (k2:∀ ad,A2=some ad->0 < nms.length->ad.block ≠ g)
 (hm:MxV Wf q m (mxV m (.slice A0 n0 c0) (.slice B n1 c3) (.slice K n2 c4))) (hq:∀ b,b < Wf.heap.size->q b->b ≠ g/\q' b) :
 Ext w (gaw Wf g (.int .i64 fr) (.slice A1 all.length c1) (.slice A2 nms.length c2) (.int .i64 m.kind) (.int .i64 m.rel) (.int .i64 m.p.lv) (.bool m.p.neg) (.slice A0 n0 c0) (.slice B n1 c3) (.slice K n2 c4)) /\
 PxV (gaw Wf g (.int .i64 fr) (.slice A1 all.length c1) (.slice A2 nms.length c2) (.int .i64 m.kind) (.int .i64 m.rel) (.int .i64 m.p.lv) (.bool m.p.neg) (.slice A0 n0 c0) (.slice B n1 c3) (.slice K n2 c4)) q' fr all nms m (pxC fr (.slice A1 all.length c1) (.slice A2 nms.length c2) m (.slice A0 n0 c0) (.slice B n1 c3) (.slice K n2 c4)):=by
 rw [yav];have hb:∀ i,i ≠ g->(Wf.setCells g 0 [.int .i64 fr,.slice A1 all.length c1,.slice A2 nms.length c2,.int .i64 m.kind,.int .i64 m.rel,.int .i64 m.p.lv,.bool m.p.neg,.slice A0 n0 c0,.slice B n1 c3,.slice K n2 c4]).heap[i]?=Wf.heap[i]?:=fun i hi=>uap hi _ _ _
 have hs:=size_setCells (b:=g) [.int .i64 fr,.slice A1 all.length c1,.slice A2 nms.length c2,.int .i64 m.kind,.int .i64 m.rel,.int .i64 m.p.lv,.bool m.p.neg,.slice A0 n0 c0,.slice B n1 c3,.slice K n2 c4] 0 Wf;have hn:=xaz g [.int .i64 fr,.slice A1 all.length c1,.slice A2 nms.length c2,.int .i64 m.kind,.int .i64 m.rel,.int .i64 m.p.lv,.bool m.p.neg,.slice A0 n0 c0,.slice B n1 c3,.slice K n2 c4] 0 Wf (fun j hj=>by rw [Nat.zero_add]; exact hz j (by simpa using hj));have hxx:=gat hg [.int .i64 fr,.slice A1 all.length c1,.slice A2 nms.length c2,.int .i64 m.kind,.int .i64 m.rel,.int .i64 m.p.lv,.bool m.p.neg,.slice A0 n0 c0,.slice B n1 c3,.slice K n2 c4] 0 Wf hx;generalize Wf.setCells g 0 [.int .i64 fr,.slice A1 all.length c1,.slice A2 nms.length c2,.int .i64 m.kind,.int .i64 m.rel,.int .i64 m.p.lv,.bool m.p.neg,.slice A0 n0 c0,.slice B n1 c3,.slice K n2 c4]=W' at *;exact ⟨hxx,_,_,_,_,_,_,_,_,_,_,_,_,_,rfl,SlR.turn h1 (by omega) (fun ad e h=>hb _ (k1 ad e h)),SlR.turn h2 (by omega) (fun ad e h=>hb _ (k2 ad e h)),MxV.turn_ (by omega) hn (fun b hlt hqb=>⟨(hq b hlt hqb).2,hb b (hq b hlt hqb).1⟩) hm⟩
end Go.Proofs.YtheefiaoimbeiaaGreatDoor

/- Layer 38: prenex.quantifiers, Names. -/
set_option maxRecDepth 100000
set_option maxHeartbeats 8000000
namespace Go.Proofs.YtheefiaoimbeiaaGreatDoor
open Go.RowKit
attribute [local go_sem] xaa xy gaa zaa kaa jaa yaa yt qy qaa uaa yad qm vaa ut
def Fm.qn : Fm -> Int
 | .truth _=>0
 | .atom _ _ _=>0
 | .not f=>min f.qn 2147483647
 | .and f g=>min (f.qn+g.qn) 2147483647
 | .or f g=>min (f.qn+g.qn) 2147483647
 | .imp f g=>min (f.qn+g.qn) 2147483647
 | .iff f g=>min (2 * (f.qn+g.qn)) 2147483647
 | .quant _ _ f=>min (1+f.qn) 2147483647
theorem Fm.qn_bd (f:Fm):0<=f.qn/\f.qn<=2147483647:=by induction f <;> simp only [Fm.qn] <;> omega
def wag (w0:World) (L:Nat) (f:Fm):Prop:=∀ (v:Value) (W:World),FmV w0 L f v->Calls Tryz.prog 60 #[v] W (qp f.qn W)
theorem wcc {w0:World} {L:Nat} {b:Bool}:wag w0 L (.truth b):=by
 intro v W h;obtain rfl:=h;go_enter Tryz.func60,Tryz.ntmps60;go_wp2_with fail;go_ret;exact ⟨rfl,Ext.refl _⟩
theorem kbr {w0:World} {L:Nat} {l k:Tm} {r:Int}:wag w0 L (.atom l r k):=by
 intro v W h;obtain ⟨x,y,rfl,hx,hy⟩:=h;obtain ⟨T,x,rfl⟩:=hx.iface;obtain ⟨U,y,rfl⟩:=hy.iface;clear hx hy;go_enter Tryz.func60,Tryz.ntmps60;go_wp2_with fail;go_ret;exact ⟨rfl,Ext.refl _⟩
theorem jcw {w0:World} {L:Nat} {f:Fm}  (ih:wag w0 L f):wag w0 L (.not f):=by
 intro v W h;obtain ⟨x,rfl,hx⟩:=h;have IH:=Lib.hid (fun W'=>ih x W' hx);obtain ⟨T,x,rfl⟩:=hx.iface;have hb:=f.qn_bd;unfold Fm.qn;clear hx ih;generalize f.qn=a at *;go_enter Tryz.func60,Tryz.ntmps60;go_wp2_with fail;refine (IH.out _).mono ?_;rintro e w1 ⟨rfl,x1⟩;have X1:=Lib.hid (Ext.trans ((Ext.refl W).alloc _) x1);clear x1;go_wp2_with fail;go_ret;exact ⟨rfl,X1.out⟩
theorem kbj {w0:World} {L:Nat} {f:Fm} {al:Bool} {s:ByteArray} (ih:wag w0 L f):wag w0 L (.quant al s f):=by
 intro v W h;obtain ⟨x,rfl,hx⟩:=h;have IH:=Lib.hid (fun W'=>ih x W' hx);obtain ⟨T,x,rfl⟩:=hx.iface;have hb:=f.qn_bd;unfold Fm.qn;clear hx ih;generalize f.qn=a at *;have hw:IntKind.i64.wrap (1+a)=1+a:=IntWalk.i64_in _ (by omega);go_enter Tryz.func60,Tryz.ntmps60;go_wp2_with fail;refine (IH.out _).mono ?_;rintro e w1 ⟨rfl,x1⟩;have X1:=Lib.hid (Ext.trans ((Ext.refl W).alloc _) x1);clear x1;go_wp2_with fail;go_ret;exact ⟨rfl,X1.out⟩
theorem gcw {w0:World} {L:Nat} {f g:Fm} (ihf:wag w0 L f) (ihg:wag w0 L g):wag w0 L (.and f g):=by
 intro v W h;obtain ⟨x,y,rfl,hx,hy⟩:=h;have IHF:=Lib.hid (fun W'=>ihf x W' hx);have IHG:=Lib.hid (fun W'=>ihg y W' hy);obtain ⟨T,x,rfl⟩:=hx.iface;obtain ⟨U,y,rfl⟩:=hy.iface;have hb:=f.qn_bd;have hb2:=g.qn_bd;unfold Fm.qn;clear hx hy ihf ihg;generalize f.qn=a at *;generalize g.qn=b at *;obtain ⟨c,hc⟩:=n_m (a+b);have hw:IntKind.i64.wrap (a+b)=c:=by rw [hc]; exact IntWalk.i64_in _ (by omega)
 have hcb:0<=c/\c<=4294967294:=by omega
 rw [hc];clear hc;obtain ⟨W1,hW⟩:=n_m (W.alloc (.cells #[.iface T x,.iface U y] 136));have HB:Hid (∀ W',Ext W1 W'->(Ext W1 W'/\W'.cell? ⟨W.heap.size,0,none⟩=some (.iface T x)/\W'.cell? ⟨W.heap.size,1,none⟩=some (.iface U y))):=by
  intro W' hx;obtain ⟨hc,hf⟩:=hx.cells;refine ⟨hx,?_,?_⟩ <;> (rw [hc _ _ (by rw [<- hW]; simp),<- hW]; simp [go_sem])
 have HX0:Hid (Ext W W1):=Lib.hid (by rw [<- hW]; exact (Ext.refl W).alloc _);go_enter Tryz.func60,Tryz.ntmps60;go_wp2_with fail;clear hW
 go_region_held3 (fun W' => Ext W1 W' /\ W'.cell? ⟨W.heap.size, 0, none⟩ = some (.iface T x) /\ W'.cell? ⟨W.heap.size, 1, none⟩ = some (.iface U y))
  (first | exact HB.out _ ((Ext.refl W1).drew) | exact HB.out _ (by assumption))
  (first
    | (go_at_call_of 60 (Value.iface T x)
       refine (IHF.out _).mono ?_;rintro e v1 ⟨rfl,x1⟩
       have y1:Ext W1 v1:=Ext.trans ((Ext.refl W1).drew) x1)
    | (go_at_call_of 60 (Value.iface U y)
       refine (IHG.out _).mono ?_;rintro e v2 ⟨rfl,x2⟩
       have y2:Ext W1 v2:=Ext.trans y1 x2))
 have HY2:=Lib.hid (HX0.out.trans y2);clear y1 y2 x1 x2 HB HX0;go_wp2_with fail;go_ret;exact ⟨rfl,HY2.out⟩
theorem kc1 {w0:World} {L:Nat} {f g:Fm} (ihf:wag w0 L f) (ihg:wag w0 L g):wag w0 L (.or f g):=by
 intro v W h;obtain ⟨x,y,rfl,hx,hy⟩:=h;have IHF:=Lib.hid (fun W'=>ihf x W' hx);have IHG:=Lib.hid (fun W'=>ihg y W' hy);obtain ⟨T,x,rfl⟩:=hx.iface;obtain ⟨U,y,rfl⟩:=hy.iface;have hb:=f.qn_bd;have hb2:=g.qn_bd;unfold Fm.qn;clear hx hy ihf ihg;generalize f.qn=a at *;generalize g.qn=b at *;obtain ⟨c,hc⟩:=n_m (a+b);have hw:IntKind.i64.wrap (a+b)=c:=by rw [hc]; exact IntWalk.i64_in _ (by omega)
 have hcb:0<=c/\c<=4294967294:=by omega
 rw [hc];clear hc;obtain ⟨W1,hW⟩:=n_m (W.alloc (.cells #[.iface T x,.iface U y] 137));have HB:Hid (∀ W',Ext W1 W'->(Ext W1 W'/\W'.cell? ⟨W.heap.size,0,none⟩=some (.iface T x)/\W'.cell? ⟨W.heap.size,1,none⟩=some (.iface U y))):=by
  intro W' hx;obtain ⟨hc,hf⟩:=hx.cells;refine ⟨hx,?_,?_⟩ <;> (rw [hc _ _ (by rw [<- hW]; simp),<- hW]; simp [go_sem])
 have HX0:Hid (Ext W W1):=Lib.hid (by rw [<- hW]; exact (Ext.refl W).alloc _);go_enter Tryz.func60,Tryz.ntmps60;go_wp2_with fail;clear hW
 go_region_held3 (fun W' => Ext W1 W' /\ W'.cell? ⟨W.heap.size, 0, none⟩ = some (.iface T x) /\ W'.cell? ⟨W.heap.size, 1, none⟩ = some (.iface U y))
  (first | exact HB.out _ ((Ext.refl W1).drew) | exact HB.out _ (by assumption))
  (first
    | (go_at_call_of 60 (Value.iface T x)
       refine (IHF.out _).mono ?_;rintro e v1 ⟨rfl,x1⟩
       have y1:Ext W1 v1:=Ext.trans ((Ext.refl W1).drew) x1)
    | (go_at_call_of 60 (Value.iface U y)
       refine (IHG.out _).mono ?_;rintro e v2 ⟨rfl,x2⟩
       have y2:Ext W1 v2:=Ext.trans y1 x2))
 have HY2:=Lib.hid (HX0.out.trans y2);clear y1 y2 x1 x2 HB HX0;go_wp2_with fail;go_ret;exact ⟨rfl,HY2.out⟩
theorem kcw {w0:World} {L:Nat} {f g:Fm} (ihf:wag w0 L f) (ihg:wag w0 L g):wag w0 L (.imp f g):=by
 intro v W h;obtain ⟨x,y,rfl,hx,hy⟩:=h;have IHF:=Lib.hid (fun W'=>ihf x W' hx);have IHG:=Lib.hid (fun W'=>ihg y W' hy);obtain ⟨T,x,rfl⟩:=hx.iface;obtain ⟨U,y,rfl⟩:=hy.iface;have hb:=f.qn_bd;have hb2:=g.qn_bd;unfold Fm.qn;clear hx hy ihf ihg;generalize f.qn=a at *;generalize g.qn=b at *;obtain ⟨c,hc⟩:=n_m (a+b);have hw:IntKind.i64.wrap (a+b)=c:=by rw [hc]; exact IntWalk.i64_in _ (by omega)
 have hcb:0<=c/\c<=4294967294:=by omega
 rw [hc];clear hc;obtain ⟨W1,hW⟩:=n_m (W.alloc (.cells #[.iface T x,.iface U y] 138));have HB:Hid (∀ W',Ext W1 W'->(Ext W1 W'/\W'.cell? ⟨W.heap.size,0,none⟩=some (.iface T x)/\W'.cell? ⟨W.heap.size,1,none⟩=some (.iface U y))):=by
  intro W' hx;obtain ⟨hc,hf⟩:=hx.cells;refine ⟨hx,?_,?_⟩ <;> (rw [hc _ _ (by rw [<- hW]; simp),<- hW]; simp [go_sem])
 have HX0:Hid (Ext W W1):=Lib.hid (by rw [<- hW]; exact (Ext.refl W).alloc _);go_enter Tryz.func60,Tryz.ntmps60;go_wp2_with fail;clear hW
 go_region_held3 (fun W' => Ext W1 W' /\ W'.cell? ⟨W.heap.size, 0, none⟩ = some (.iface T x) /\ W'.cell? ⟨W.heap.size, 1, none⟩ = some (.iface U y))
  (first | exact HB.out _ ((Ext.refl W1).drew) | exact HB.out _ (by assumption))
  (first
    | (go_at_call_of 60 (Value.iface T x)
       refine (IHF.out _).mono ?_;rintro e v1 ⟨rfl,x1⟩
       have y1:Ext W1 v1:=Ext.trans ((Ext.refl W1).drew) x1)
    | (go_at_call_of 60 (Value.iface U y)
       refine (IHG.out _).mono ?_;rintro e v2 ⟨rfl,x2⟩
       have y2:Ext W1 v2:=Ext.trans y1 x2))
 have HY2:=Lib.hid (HX0.out.trans y2);clear y1 y2 x1 x2 HB HX0;go_wp2_with fail;go_ret;exact ⟨rfl,HY2.out⟩
theorem vcw {w0:World} {L:Nat} {f g:Fm} (ihf:wag w0 L f) (ihg:wag w0 L g):wag w0 L (.iff f g):=by
 intro v W h;obtain ⟨x,y,rfl,hx,hy⟩:=h;have IHF:=Lib.hid (fun W'=>ihf x W' hx);have IHG:=Lib.hid (fun W'=>ihg y W' hy);obtain ⟨T,x,rfl⟩:=hx.iface;obtain ⟨U,y,rfl⟩:=hy.iface;have hb:=f.qn_bd;have hb2:=g.qn_bd;unfold Fm.qn;clear hx hy ihf ihg;generalize f.qn=a at *;generalize g.qn=b at *;obtain ⟨c,hc⟩:=n_m (a+b);have hw:IntKind.i64.wrap (a+b)=c:=by rw [hc]; exact IntWalk.i64_in _ (by omega)
 have hw2:IntKind.i64.wrap (2 * c)=2 * c:=IntWalk.i64_in _ (by omega);have hcb:0<=c/\c<=4294967294:=by omega
 rw [hc];clear hc;obtain ⟨W1,hW⟩:=n_m (W.alloc (.cells #[.iface T x,.iface U y] 139));have HB:Hid (∀ W',Ext W1 W'->(Ext W1 W'/\W'.cell? ⟨W.heap.size,0,none⟩=some (.iface T x)/\W'.cell? ⟨W.heap.size,1,none⟩=some (.iface U y))):=by
  intro W' hx;obtain ⟨hc,hf⟩:=hx.cells;refine ⟨hx,?_,?_⟩ <;> (rw [hc _ _ (by rw [<- hW]; simp),<- hW]; simp [go_sem])
 have HX0:Hid (Ext W W1):=Lib.hid (by rw [<- hW]; exact (Ext.refl W).alloc _);go_enter Tryz.func60,Tryz.ntmps60;go_wp2_with fail;clear hW
 go_region_held3 (fun W' => Ext W1 W' /\ W'.cell? ⟨W.heap.size, 0, none⟩ = some (.iface T x) /\ W'.cell? ⟨W.heap.size, 1, none⟩ = some (.iface U y))
  (first | exact HB.out _ ((Ext.refl W1).drew) | exact HB.out _ (by assumption))
  (first
    | (go_at_call_of 60 (Value.iface T x)
       refine (IHF.out _).mono ?_;rintro e v1 ⟨rfl,x1⟩
       have y1:Ext W1 v1:=Ext.trans ((Ext.refl W1).drew) x1)
    | (go_at_call_of 60 (Value.iface U y)
       refine (IHG.out _).mono ?_;rintro e v2 ⟨rfl,x2⟩
       have y2:Ext W1 v2:=Ext.trans y1 x2))
 have HY2:=Lib.hid (HX0.out.trans y2);clear y1 y2 x1 x2 HB HX0;go_wp2_with fail;go_ret;exact ⟨rfl,HY2.out⟩
theorem ucw {w0:World} {L:Nat} (f:Fm):wag w0 L f:=by
 induction f with
 | truth b=>exact wcc
 | atom l r k=>exact kbr
 | not f ih=>exact jcw ih
 | and f g ihf ihg=>exact gcw ihf ihg
 | or f g ihf ihg=>exact kc1 ihf ihg
 | imp f g ihf ihg=>exact kcw ihf ihg
 | iff f g ihf ihg=>exact vcw ihf ihg
 | quant a s f ih=>exact kbj ih
theorem jh.base {w:World} {b b':Nat} {v:Value} {l:List ByteArray} (h:jh w b v l) (hb:b'<=b):jh w b' v l:=by
 unfold jh World.ownsRow at h ⊢;refine ⟨h.1,?_⟩;rcases h.2 with h | ⟨g,cap,cur,h1,h2,h3⟩
 · exact .inl h
 · exact .inr ⟨g,cap,cur,h1,by omega,h3⟩
def Fm.nmE (f:Fm):Int:=if f.chk=0 then (if (f.free.length:Int)+f.qn<=4 then 0 else 8) else f.chk
def wa6 (f:Fm) (w:World) (e:Ending) (w':World):Prop:=∃ s,e=.returned (.tuple #[s,.int .i64 f.nmE])/\(f.nmE=0->jh w' w.heap.size s f.free)/\(f.nmE ≠ 0->s=.slice none 0 0)/\Ext w w'
theorem vbl (a:ByteArray->Int) (s:ByteArray) (acc:List ByteArray):(zi a s acc).length<=acc.length+1:=by unfold zi; split <;> simp
theorem Tm.free_len (t:Tm) (a:ByteArray->Int):∀ acc:List ByteArray,(t.fold (zi a) acc).length<=acc.length+t.sz:=by
 induction t <;> intro acc <;> simp only [Tm.fold,Tm.sz]
 case num=>omega
 case name=>exact vbl _ _ _
 case add p q iha ihb=>have:=iha acc; have:=ihb (p.fold (zi a) acc); omega
 case sub p q iha ihb=>have:=iha acc; have:=ihb (p.fold (zi a) acc); omega
 case mul p q iha ihb=>have:=iha acc; have:=ihb (p.fold (zi a) acc); omega
 case neg p iha=>have:=iha acc; omega
 case pow p e iha=>have:=iha acc; omega
theorem Fm.free_len (f:Fm):∀ (a:ByteArray->Int) (acc:List ByteArray),(f.fold zi a acc).length<=acc.length+f.sz:=by
 induction f <;> intro a acc <;> simp only [Fm.fold,Fm.sz]
 case truth=>omega
 case atom l r k=>have:=l.free_len a acc; have:=k.free_len a (l.fold (zi a) acc); omega
 case not f ih=>have:=ih a acc; omega
 case quant al s f ih=>have:=ih (bump a s) acc; omega
 all_goals rename_i f g ihf ihg; have:=ihf a acc; have:=ihg a (f.fold zi a acc); omega
def NmC (w0:World) (L:Nat) (f:Fm):Prop:=f.terms (ua6 w0 L)/\wag w0 L f
theorem xbs {w0:World} {L:Nat} (hs:L<=1000000000000) (f:Fm):NmC w0 L f:=⟨f.terms_of (qbh hs),ucw f⟩
theorem xbe {w0 w:World} {L:Nat} (hs:L<=1000000000000) (f:Fm) {v:Value} (hx0:Ext w0 w) (h:FmV w0 L f v) (hl:f.sz<=1099511627776) (hc:NmC w0 L f):Calls Tryz.prog 25 #[v] w (wa6 f w):=by
 have H:=Lib.hid h;have HC:=Lib.hid (check_any hs f hx0 h hl hc.1);have HFR:=Lib.hid (fun W'=>kbl (w:=W') f h hl);have HQ:=Lib.hid (fun W'=>hc.2 v W' h);have hq:=f.qn_bd;obtain ⟨T,x,rfl⟩:=h.iface;unfold wa6;have HE:Hid (f.nmE=if f.chk=0 then (if (f.free.length:Int)+f.qn<=4 then 0 else 8) else f.chk):=Lib.hid rfl;clear h hx0;generalize f.nmE=res at *;generalize f.chk=c at *;generalize f.qn=q at *
 by_cases hc:c=0
 · have hc':(c != 0)=false:=by simp [hc]
   have HC0:=Lib.hid hc;clear hc;go_enter Tryz.func25,Tryz.ntmps25;go_wp2_with fail;refine HC.out.mono ?_;rintro e w1 ⟨rfl,x1⟩;have X1:=Lib.hid x1;clear x1;go_wp2_with fail;refine (HFR.out w1).mono ?_;rintro e w2 ⟨v2,rfl,hrow,x2⟩;obtain ⟨A,cc,e2,hn1,hn2,-⟩:=hrow.slr;subst e2;have X2:=Lib.hid (X1.out.trans x2);have HROW:Hid (jh w2 w.heap.size (.slice A f.free.length cc) f.free):=Lib.hid (hrow.base X1.out.size);have hfl:f.free.length<=1099511627776:=Nat.le_trans (show f.free.length<=0+f.sz from f.free_len (fun _=>0) []) (by omega);clear x2 hrow;obtain ⟨n,hn⟩:=n_m (f.free.length);have HN:=Lib.hid hn;simp only [hn] at HROW HE hfl ⊢;clear hn hn1 hn2;have hw:IntKind.i64.wrap ((n:Int)+q)=(n:Int)+q:=IntWalk.i64_in _ (by omega)
   by_cases hlt:4 < (n:Int)+q
   · have HR:Hid (res=8):=Lib.hid (by rw [HE.out,if_pos HC0.out,if_neg (by omega)]);go_wp2_with fail;refine (HQ.out w2).mono ?_;rintro e w3 ⟨rfl,x3⟩;have X3:=Lib.hid (X2.out.trans x3);clear x3;go_wp2_with fail;exact bodyPost_ret (v:=.tuple #[.slice none 0 0,.int .i64 8]) (by simp [results,Tryz.results25,go_sem]) rfl ⟨_,by rw [HR.out],fun h=>absurd h (by rw [HR.out]; decide),fun _=>rfl,X3.out⟩
   · have HR:Hid (res=0):=Lib.hid (by rw [HE.out,if_pos HC0.out,if_pos (by omega)]);go_wp2_with fail;refine (HQ.out w2).mono ?_;rintro e w3 ⟨rfl,x3⟩;have X3:=Lib.hid (X2.out.trans x3);have HROW3:=Lib.hid (HROW.out.ext x3);clear x3;go_wp2_with fail;exact bodyPost_ret (v:=.tuple #[.slice A n cc,.int .i64 0]) (by simp [results,Tryz.results25,go_sem]) rfl ⟨_,by rw [HR.out],fun _=>HROW3.out,fun h=>absurd HR.out h,X3.out⟩
 · have hc':(c != 0)=true:=by simp [hc]
   have HR:Hid (res=c):=Lib.hid (by rw [HE.out,if_neg hc]);have HC0:=Lib.hid hc;clear hc;go_enter Tryz.func25,Tryz.ntmps25;go_wp2_with fail;refine HC.out.mono ?_;rintro e w1 ⟨rfl,x1⟩;have X1:=Lib.hid x1;clear x1;go_wp2_with fail;exact bodyPost_ret (v:=.tuple #[.slice none 0 0,.int .i64 c]) (by simp [results,Tryz.results25,go_sem]) rfl ⟨_,by rw [HR.out],fun h=>absurd (HR.out.symm.trans h) HC0.out,fun _=>rfl,X1.out⟩
end Go.Proofs.YtheefiaoimbeiaaGreatDoor
