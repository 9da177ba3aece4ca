/- Layer 22: recpoly.Add, Sub at canonical polynomials. -/
import Derived.Test.YtheefiaoimbeiaaGreatDoorMulC
import Derived.Test.YtheefiaoimbeiaaGreatDoorMatB
set_option linter.unusedSimpArgs false
set_option linter.unusedVariables false

set_option maxRecDepth 100000
set_option maxHeartbeats 8000000
namespace Go.Proofs.YtheefiaoimbeiaaGreatDoor
open Lib (hid)
open Go.RowKit
theorem xf6 {w:World} {p q:Pl} {E D:Nat} {q0:Nat->Prop} (v0:Value) {q1:Nat->Prop} (v1:Value) (h0:PlV w q0 p v0) (h1:PlV w q1 q v1) (hp:Fit p E D) (hq:Fit q E D) (hE:E<=500) (hD:D+2<=8796093022000):Calls Tryz.prog 101 #[v0,v1] w (gdl (fun b=>w.heap.size<=b) (p.add q) w):=by
 have H0:=hid h0;obtain ⟨A0,n0,c0,B0,d0,rfl,-,-,-,-⟩:=h0.open_;clear h0;have H1:=hid h1;obtain ⟨A1,n1,c1,B1,d1,rfl,-,-,-,-⟩:=h1.open_;clear h1;obtain ⟨W,hW⟩:=n_m (((w.alloc (.cells #[.int .i64 (p).lv,.bool (p).neg,.slice A0 n0 c0,.slice B0 (p).cs.length d0] 44)).alloc (.cells #[.int .i64 (q).lv,.bool (q).neg,.slice A1 n1 c1,.slice B1 (q).cs.length d1] 44)).alloc (.cells #[.int .i64 0,.bool false,.slice none 0 0,.slice none 0 0] 44));have hWx:Ext w W:=by rw [<- hW]; exact (((Ext.refl w).alloc _).alloc _).alloc _
 have hWs:W.heap.size=w.heap.size+1+1+1:=by rw [<- hW]; simp
 have HX0:=hid hWx;have HS:Hid (∀ W',Ext W W'->(Ext w W'/\W'.cell? ⟨w.heap.size,0,none⟩=some (.int .i64 (p).lv)/\W'.cell? ⟨w.heap.size,1,none⟩=some (.bool (p).neg)/\W'.cell? ⟨w.heap.size,2,none⟩=some (.slice A0 n0 c0)/\W'.cell? ⟨w.heap.size,3,none⟩=some (.slice B0 (p).cs.length d0)/\W'.cell? ⟨w.heap.size+1,0,none⟩=some (.int .i64 (q).lv)/\W'.cell? ⟨w.heap.size+1,1,none⟩=some (.bool (q).neg)/\W'.cell? ⟨w.heap.size+1,2,none⟩=some (.slice A1 n1 c1)/\W'.cell? ⟨w.heap.size+1,3,none⟩=some (.slice B1 (q).cs.length d1))):=by
  have:∀ W',Ext W W'->(Ext w W'/\W'.cell? ⟨w.heap.size,0,none⟩=some (.int .i64 (p).lv)/\W'.cell? ⟨w.heap.size,1,none⟩=some (.bool (p).neg)/\W'.cell? ⟨w.heap.size,2,none⟩=some (.slice A0 n0 c0)/\W'.cell? ⟨w.heap.size,3,none⟩=some (.slice B0 (p).cs.length d0)/\W'.cell? ⟨w.heap.size+1,0,none⟩=some (.int .i64 (q).lv)/\W'.cell? ⟨w.heap.size+1,1,none⟩=some (.bool (q).neg)/\W'.cell? ⟨w.heap.size+1,2,none⟩=some (.slice A1 n1 c1)/\W'.cell? ⟨w.heap.size+1,3,none⟩=some (.slice B1 (q).cs.length d1)):=fun W' hx=>by
   obtain ⟨hc,hf⟩:=hx.cells;refine ⟨hWx.trans hx,?_,?_,?_,?_,?_,?_,?_,?_⟩ <;> (rw [hc _ _ (by omega),<- hW]; simp [go_sem])
  exact this
 have HZ:Hid (zdl W (w.heap.size+1+1)):=by
  have:zdl W (w.heap.size+1+1):=by
   rw [<- hW];refine ⟨⟨?_,?_,?_,?_⟩,fun i=>?_⟩ <;> simp [go_sem]
  exact this
 have HS2:Hid (∀ W'' u0 u1 u2 u3,Ext W W''->∀ W',W'=(((W''.setCell ⟨w.heap.size+1+1,0,none⟩ u0).setCell ⟨w.heap.size+1+1,1,none⟩ u1).setCell ⟨w.heap.size+1+1,2,none⟩ u2).setCell ⟨w.heap.size+1+1,3,none⟩ u3->(Ext w W'/\W'.cell? ⟨w.heap.size,0,none⟩=some (.int .i64 (p).lv)/\W'.cell? ⟨w.heap.size,1,none⟩=some (.bool (p).neg)/\W'.cell? ⟨w.heap.size,2,none⟩=some (.slice A0 n0 c0)/\W'.cell? ⟨w.heap.size,3,none⟩=some (.slice B0 (p).cs.length d0)/\W'.cell? ⟨w.heap.size+1,0,none⟩=some (.int .i64 (q).lv)/\W'.cell? ⟨w.heap.size+1,1,none⟩=some (.bool (q).neg)/\W'.cell? ⟨w.heap.size+1,2,none⟩=some (.slice A1 n1 c1)/\W'.cell? ⟨w.heap.size+1,3,none⟩=some (.slice B1 (q).cs.length d1))):=by
  have:∀ W'' u0 u1 u2 u3,Ext W W''->∀ W',W'=(((W''.setCell ⟨w.heap.size+1+1,0,none⟩ u0).setCell ⟨w.heap.size+1+1,1,none⟩ u1).setCell ⟨w.heap.size+1+1,2,none⟩ u2).setCell ⟨w.heap.size+1+1,3,none⟩ u3->(Ext w W'/\W'.cell? ⟨w.heap.size,0,none⟩=some (.int .i64 (p).lv)/\W'.cell? ⟨w.heap.size,1,none⟩=some (.bool (p).neg)/\W'.cell? ⟨w.heap.size,2,none⟩=some (.slice A0 n0 c0)/\W'.cell? ⟨w.heap.size,3,none⟩=some (.slice B0 (p).cs.length d0)/\W'.cell? ⟨w.heap.size+1,0,none⟩=some (.int .i64 (q).lv)/\W'.cell? ⟨w.heap.size+1,1,none⟩=some (.bool (q).neg)/\W'.cell? ⟨w.heap.size+1,2,none⟩=some (.slice A1 n1 c1)/\W'.cell? ⟨w.heap.size+1,3,none⟩=some (.slice B1 (q).cs.length d1)):=fun W'' u0 u1 u2 u3 hx W' hW'=>by
   obtain ⟨s1,k0,k1,k2,k3,k4,k5,k6,k7⟩:=HS.out W'' hx;rw [hW'];refine ⟨(((s1.setCell (by simp; try omega) _).setCell (by simp; try omega) _).setCell (by simp; try omega) _).setCell (by simp; try omega) _,?_,?_,?_,?_,?_,?_,?_,?_⟩ <;> rw [pe _ _ _ _ (by simp; try omega),pe _ _ _ _ (by simp; try omega),pe _ _ _ _ (by simp; try omega),pe _ _ _ _ (by simp; try omega)] <;> assumption
  exact this
 have HFP:=hid hp;have HFQ:=hid hq;clear hp hq;have HSZ:Hid ((p.add q).sz<=1099511627776):=hid (((HFP.out.add HFQ.out)).copy (by omega));have HDM:Hid ((p.add q).dm<=35184372088832):=hid (po ((HFP.out.add HFQ.out)).dm (by omega));have HFR:=hid ((HFP.out.add HFQ.out));obtain ⟨-,b0,b1,b2,b3,b4,b5,b6,b7⟩:=HS.out W (Ext.refl W);clear hWx;unfold plV at *;go_enter Tryz.func101,Tryz.ntmps101;go_wp2_with fail;clear hW b0 b1 b2 b3 b4 b5 b6 b7;have yy0:Ext W W.drew:=(Ext.refl W).drew;have Y0:=hid yy0;clear yy0
 go_region_held3 (fun W' => Ext w W' /\ W'.cell? ⟨w.heap.size, 0, none⟩ = some (.int .i64 (p).lv) /\ W'.cell? ⟨w.heap.size, 1, none⟩ = some (.bool (p).neg) /\ W'.cell? ⟨w.heap.size, 2, none⟩ = some (.slice A0 n0 c0) /\ W'.cell? ⟨w.heap.size, 3, none⟩ = some (.slice B0 (p).cs.length d0) /\ W'.cell? ⟨w.heap.size + 1, 0, none⟩ = some (.int .i64 (q).lv) /\ W'.cell? ⟨w.heap.size + 1, 1, none⟩ = some (.bool (q).neg) /\ W'.cell? ⟨w.heap.size + 1, 2, none⟩ = some (.slice A1 n1 c1) /\ W'.cell? ⟨w.heap.size + 1, 3, none⟩ = some (.slice B1 (q).cs.length d1))
  (first | with_reducible exact HS.out _ Y0.out | with_reducible exact HS.out _ yy1 | with_reducible exact HS.out _ yy2 | with_reducible exact HS.out _ yy3 | with_reducible exact HS.out _ yy4 | with_reducible exact HS.out _ (yy2.alloc _) | exact HS2.out _ _ _ _ _ yy4 _ rfl)
  (first
    | (go_at_call 97
       (fail_if_success have _:=yy1)
       refine (vdt _ (H0.out.ext (HX0.out.trans Y0.out)) HFP.out.can).mono ?_;rintro e w1 ⟨z1,rfl,m1,x1⟩;obtain ⟨C1,i1,j1,D1,k1,rfl,-⟩:=id m1.open_;have yy1:Ext W w1:=Ext.trans Y0.out x1
       unfold plV)
    | (go_at_call 97
       refine (vdt _ (H1.out.ext (HX0.out.trans yy1)) HFQ.out.can).mono ?_;rintro e w2 ⟨z2,rfl,m2,x2⟩;obtain ⟨C2,i2,j2,D2,k2,rfl,-⟩:=id m2.open_;have yy2:Ext W w2:=Ext.trans yy1 x2
       replace m1:=m1.ext x2
       unfold plV)
    | (go_at_call 96
       refine (qfe HFP.out HFQ.out (by omega) (by omega) (pf 2) (by decide) (gfc m1 m2 _)).mono ?_;rintro e w3 ⟨z3,rfl,m3,x3⟩;obtain ⟨C3,i3,j3,D3,k3,rfl,-⟩:=id m3.open_;have yy3:Ext W w3:=Ext.trans (yy2.alloc _) x3
       replace m1:=m1.ext (((Ext.refl _).alloc _).trans x3)
       replace m2:=m2.ext (((Ext.refl _).alloc _).trans x3)
       unfold plV)
    | (go_at_call 95
       refine (ud8 _ _ (Pl.xI _ _) HSZ.out HDM.out m3).mono ?_;rintro e w4 ⟨z4,rfl,m4,x4⟩;obtain ⟨C4,i4,j4,D4,k4,rfl,-⟩:=id m4.open_;have yy4:Ext W w4:=Ext.trans yy3 x4
       replace m1:=m1.ext x4
       replace m2:=m2.ext x4
       replace m3:=m3.ext x4
       obtain ⟨⟨r0,r1,r2,r3⟩,rf⟩:=HZ.out.ext yy4 (by omega)
       unfold plV))
 have hzn:=HZ.out.ext yy4 (by omega);have hsn:=(yy4:Ext W _).size;have hsp:=(yy3:Ext W _).size;have HF:=hid (zdm (q':=fun b=>w.heap.size<=b) (HX0.out.trans yy4) (by omega) hzn m4 (fun b _ hb=>⟨by omega,by omega⟩));clear m4 x4 m3 x3 m2 x2 m1 x1 yy4 yy3 yy2 yy1 HS2 HS HZ
 try unfold plV
 go_wp2_with fail;exact bodyPost_ret (by simp [results,Tryz.results101,go_sem,r0,r1,r2,r3,plV]) rfl HF.out
theorem ge7 {w:World} {p q:Pl} {E D:Nat} {q0:Nat->Prop} (v0:Value) {q1:Nat->Prop} (v1:Value) (h0:PlV w q0 p v0) (h1:PlV w q1 q v1) (hp:Fit p E D) (hq:Fit q E D) (hE:E<=500) (hD:D+2<=8796093022000):Calls Tryz.prog 65 #[v0,v1] w (gdl (fun b=>w.heap.size<=b) (p.add q.xJ) w):=by
 have H0:=hid h0;obtain ⟨A0,n0,c0,B0,d0,rfl,-,-,-,-⟩:=h0.open_;clear h0;have H1:=hid h1;obtain ⟨A1,n1,c1,B1,d1,rfl,-,-,-,-⟩:=h1.open_;clear h1;obtain ⟨W,hW⟩:=n_m (((w.alloc (.cells #[.int .i64 (p).lv,.bool (p).neg,.slice A0 n0 c0,.slice B0 (p).cs.length d0] 44)).alloc (.cells #[.int .i64 (q).lv,.bool (q).neg,.slice A1 n1 c1,.slice B1 (q).cs.length d1] 44)).alloc (.cells #[.int .i64 0,.bool false,.slice none 0 0,.slice none 0 0] 44));have hWx:Ext w W:=by rw [<- hW]; exact (((Ext.refl w).alloc _).alloc _).alloc _
 have hWs:W.heap.size=w.heap.size+1+1+1:=by rw [<- hW]; simp
 have HX0:=hid hWx;have HS:Hid (∀ W',Ext W W'->(Ext w W'/\W'.cell? ⟨w.heap.size,0,none⟩=some (.int .i64 (p).lv)/\W'.cell? ⟨w.heap.size,1,none⟩=some (.bool (p).neg)/\W'.cell? ⟨w.heap.size,2,none⟩=some (.slice A0 n0 c0)/\W'.cell? ⟨w.heap.size,3,none⟩=some (.slice B0 (p).cs.length d0)/\W'.cell? ⟨w.heap.size+1,0,none⟩=some (.int .i64 (q).lv)/\W'.cell? ⟨w.heap.size+1,1,none⟩=some (.bool (q).neg)/\W'.cell? ⟨w.heap.size+1,2,none⟩=some (.slice A1 n1 c1)/\W'.cell? ⟨w.heap.size+1,3,none⟩=some (.slice B1 (q).cs.length d1))):=by
  have:∀ W',Ext W W'->(Ext w W'/\W'.cell? ⟨w.heap.size,0,none⟩=some (.int .i64 (p).lv)/\W'.cell? ⟨w.heap.size,1,none⟩=some (.bool (p).neg)/\W'.cell? ⟨w.heap.size,2,none⟩=some (.slice A0 n0 c0)/\W'.cell? ⟨w.heap.size,3,none⟩=some (.slice B0 (p).cs.length d0)/\W'.cell? ⟨w.heap.size+1,0,none⟩=some (.int .i64 (q).lv)/\W'.cell? ⟨w.heap.size+1,1,none⟩=some (.bool (q).neg)/\W'.cell? ⟨w.heap.size+1,2,none⟩=some (.slice A1 n1 c1)/\W'.cell? ⟨w.heap.size+1,3,none⟩=some (.slice B1 (q).cs.length d1)):=fun W' hx=>by
   obtain ⟨hc,hf⟩:=hx.cells;refine ⟨hWx.trans hx,?_,?_,?_,?_,?_,?_,?_,?_⟩ <;> (rw [hc _ _ (by omega),<- hW]; simp [go_sem])
  exact this
 have HZ:Hid (zdl W (w.heap.size+1+1)):=by
  have:zdl W (w.heap.size+1+1):=by
   rw [<- hW];refine ⟨⟨?_,?_,?_,?_⟩,fun i=>?_⟩ <;> simp [go_sem]
  exact this
 have HS2:Hid (∀ W'' u0 u1 u2 u3,Ext W W''->∀ W',W'=(((W''.setCell ⟨w.heap.size+1+1,0,none⟩ u0).setCell ⟨w.heap.size+1+1,1,none⟩ u1).setCell ⟨w.heap.size+1+1,2,none⟩ u2).setCell ⟨w.heap.size+1+1,3,none⟩ u3->(Ext w W'/\W'.cell? ⟨w.heap.size,0,none⟩=some (.int .i64 (p).lv)/\W'.cell? ⟨w.heap.size,1,none⟩=some (.bool (p).neg)/\W'.cell? ⟨w.heap.size,2,none⟩=some (.slice A0 n0 c0)/\W'.cell? ⟨w.heap.size,3,none⟩=some (.slice B0 (p).cs.length d0)/\W'.cell? ⟨w.heap.size+1,0,none⟩=some (.int .i64 (q).lv)/\W'.cell? ⟨w.heap.size+1,1,none⟩=some (.bool (q).neg)/\W'.cell? ⟨w.heap.size+1,2,none⟩=some (.slice A1 n1 c1)/\W'.cell? ⟨w.heap.size+1,3,none⟩=some (.slice B1 (q).cs.length d1))):=by
  have:∀ W'' u0 u1 u2 u3,Ext W W''->∀ W',W'=(((W''.setCell ⟨w.heap.size+1+1,0,none⟩ u0).setCell ⟨w.heap.size+1+1,1,none⟩ u1).setCell ⟨w.heap.size+1+1,2,none⟩ u2).setCell ⟨w.heap.size+1+1,3,none⟩ u3->(Ext w W'/\W'.cell? ⟨w.heap.size,0,none⟩=some (.int .i64 (p).lv)/\W'.cell? ⟨w.heap.size,1,none⟩=some (.bool (p).neg)/\W'.cell? ⟨w.heap.size,2,none⟩=some (.slice A0 n0 c0)/\W'.cell? ⟨w.heap.size,3,none⟩=some (.slice B0 (p).cs.length d0)/\W'.cell? ⟨w.heap.size+1,0,none⟩=some (.int .i64 (q).lv)/\W'.cell? ⟨w.heap.size+1,1,none⟩=some (.bool (q).neg)/\W'.cell? ⟨w.heap.size+1,2,none⟩=some (.slice A1 n1 c1)/\W'.cell? ⟨w.heap.size+1,3,none⟩=some (.slice B1 (q).cs.length d1)):=fun W'' u0 u1 u2 u3 hx W' hW'=>by
   obtain ⟨s1,k0,k1,k2,k3,k4,k5,k6,k7⟩:=HS.out W'' hx;rw [hW'];refine ⟨(((s1.setCell (by simp; try omega) _).setCell (by simp; try omega) _).setCell (by simp; try omega) _).setCell (by simp; try omega) _,?_,?_,?_,?_,?_,?_,?_,?_⟩ <;> rw [pe _ _ _ _ (by simp; try omega),pe _ _ _ _ (by simp; try omega),pe _ _ _ _ (by simp; try omega),pe _ _ _ _ (by simp; try omega)] <;> assumption
  exact this
 have HFP:=hid hp;have HFQ:=hid hq;clear hp hq;have HM1:Hid ((dg (-1:Int).natAbs).length<=1):=hid (by rw [show (-1:Int).natAbs=1 from rfl,gd5 (by decide) (by decide)]; exact pf 1);have HFO:Hid (Fit (q.mul (Pl.const (-1))) E (D+1)):=hid HFQ.out.xJ;have HSZ:Hid ((p.add (q.mul (Pl.const (-1)))).sz<=1099511627776):=hid ((((HFP.out.mono (pf _) (rY _)).add HFO.out)).copy (by omega));have HDM:Hid ((p.add (q.mul (Pl.const (-1)))).dm<=35184372088832):=hid (po (((HFP.out.mono (pf _) (rY _)).add HFO.out)).dm (by omega));have HFR:=hid (((HFP.out.mono (pf _) (rY _)).add HFO.out));obtain ⟨-,b0,b1,b2,b3,b4,b5,b6,b7⟩:=HS.out W (Ext.refl W);clear hWx;unfold plV at *;go_enter Tryz.func65,Tryz.ntmps65;go_wp2_with fail;clear hW b0 b1 b2 b3 b4 b5 b6 b7;have yy0:Ext W W.drew:=(Ext.refl W).drew;have Y0:=hid yy0;clear yy0
 go_region_held3 (fun W' => Ext w W' /\ W'.cell? ⟨w.heap.size, 0, none⟩ = some (.int .i64 (p).lv) /\ W'.cell? ⟨w.heap.size, 1, none⟩ = some (.bool (p).neg) /\ W'.cell? ⟨w.heap.size, 2, none⟩ = some (.slice A0 n0 c0) /\ W'.cell? ⟨w.heap.size, 3, none⟩ = some (.slice B0 (p).cs.length d0) /\ W'.cell? ⟨w.heap.size + 1, 0, none⟩ = some (.int .i64 (q).lv) /\ W'.cell? ⟨w.heap.size + 1, 1, none⟩ = some (.bool (q).neg) /\ W'.cell? ⟨w.heap.size + 1, 2, none⟩ = some (.slice A1 n1 c1) /\ W'.cell? ⟨w.heap.size + 1, 3, none⟩ = some (.slice B1 (q).cs.length d1))
  (first | with_reducible exact HS.out _ Y0.out | with_reducible exact HS.out _ yy1 | with_reducible exact HS.out _ yy2 | with_reducible exact HS.out _ yy3 | with_reducible exact HS.out _ yy4 | with_reducible exact HS.out _ yy5 | with_reducible exact HS.out _ yy6 | with_reducible exact HS.out _ (yy4.alloc _) | exact HS2.out _ _ _ _ _ yy6 _ rfl)
  (first
    | (go_at_call 97
       (fail_if_success have _:=yy1)
       refine (vdt _ (H0.out.ext (HX0.out.trans Y0.out)) HFP.out.can).mono ?_;rintro e w1 ⟨z1,rfl,m1,x1⟩;obtain ⟨C1,i1,j1,D1,k1,rfl,-⟩:=id m1.open_;have yy1:Ext W w1:=Ext.trans Y0.out x1
       unfold plV)
    | (go_at_call 97
       refine (vdt _ (H1.out.ext (HX0.out.trans yy1)) HFQ.out.can).mono ?_;rintro e w2 ⟨z2,rfl,m2,x2⟩;obtain ⟨C2,i2,j2,D2,k2,rfl,-⟩:=id m2.open_;have yy2:Ext W w2:=Ext.trans yy1 x2
       replace m1:=m1.ext x2
       unfold plV)
    | (go_at_call 40
       refine (of_int (-1) _ (by omega) (by omega)).mono ?_;rintro e w3 ⟨z3,rfl,⟨y3,rfl,m3⟩,x3⟩;obtain ⟨C3,k3,rfl,-⟩:=id m3;have yy3:Ext W w3:=Ext.trans yy2 x3
       replace m1:=m1.ext x3
       replace m2:=m2.ext x3)
    | (go_at_call 98
       refine (gex _ _ m2 (zew m3 HM1.out) HFQ.out (by omega) (by omega)).mono ?_;rintro e w4 ⟨z4,rfl,m4,x4⟩;obtain ⟨C4,i4,j4,D4,k4,rfl,-⟩:=id m4.open_;have yy4:Ext W w4:=Ext.trans yy3 x4
       replace m1:=m1.ext x4
       replace m2:=m2.ext x4
       replace m3:=m3.ext x4
       unfold plV)
    | (go_at_call 96
       refine (qfe (HFP.out.mono (pf _) (rY _)) HFO.out (by omega) (by omega) (pf 2) (by decide) (gfc m1 m4 _)).mono ?_;rintro e w5 ⟨z5,rfl,m5,x5⟩;obtain ⟨C5,i5,j5,D5,k5,rfl,-⟩:=id m5.open_;have yy5:Ext W w5:=Ext.trans (yy4.alloc _) x5
       replace m1:=m1.ext (((Ext.refl _).alloc _).trans x5)
       replace m2:=m2.ext (((Ext.refl _).alloc _).trans x5)
       replace m3:=m3.ext (((Ext.refl _).alloc _).trans x5)
       replace m4:=m4.ext (((Ext.refl _).alloc _).trans x5)
       unfold plV)
    | (go_at_call 95
       refine (ud8 _ _ (Pl.xI _ _) HSZ.out HDM.out m5).mono ?_;rintro e w6 ⟨z6,rfl,m6,x6⟩;obtain ⟨C6,i6,j6,D6,k6,rfl,-⟩:=id m6.open_;have yy6:Ext W w6:=Ext.trans yy5 x6
       replace m1:=m1.ext x6
       replace m2:=m2.ext x6
       replace m3:=m3.ext x6
       replace m4:=m4.ext x6
       replace m5:=m5.ext x6
       obtain ⟨⟨r0,r1,r2,r3⟩,rf⟩:=HZ.out.ext yy6 (by omega)
       unfold plV))
 have hzn:=HZ.out.ext yy6 (by omega);have hsn:=(yy6:Ext W _).size;have hsp:=(yy5:Ext W _).size;have HF:=hid (zdm (q':=fun b=>w.heap.size<=b) (HX0.out.trans yy6) (by omega) hzn m6 (fun b _ hb=>⟨by omega,by omega⟩));clear m6 x6 m5 x5 m4 x4 m3 x3 m2 x2 m1 x1 yy6 yy5 yy4 yy3 yy2 yy1 HS2 HS HZ
 try unfold plV
 go_wp2_with fail;exact bodyPost_ret (by simp [results,Tryz.results65,go_sem,r0,r1,r2,r3,plV]) rfl HF.out
attribute [local go_sem] uds ydr qdt kds zdt wds vds ydp xdr gds xdt udv qdn ydt xdp
section
variable {w0:World} {L base gb bl bt:Nat}
theorem xf2 {l k:Tm} {r:Int} (hpl:∀ g,wdt w0 L gb bl g l) (hpk:∀ g,wdt w0 L gb bl g k):vdu w0 L base gb bl bt (.atom l r k):=by
 intro v W own s tk pos cp hx0 hf hp hl hn ha hb;obtain ⟨x,y,rfl,hx,hy⟩:=hf;have hwl:l.wt<=320:=hl.1;have hwk:k.wt<=320:=hl.2;obtain ⟨W1,hW⟩:=n_m ((W.alloc (.cells #[.int .i64 0,.int .i64 0,.int .i64 0,.bool false,.slice none 0 0,.slice none 0 0,.slice none 0 0] 47)).alloc (.cells #[x,.int .i64 r,y] 77));have hWx:Ext W W1:=by rw [<- hW]; exact ((Ext.refl W).alloc _).alloc _
 have hWs:W.heap.size+1 < W1.heap.size:=by rw [<- hW]; simp
 have hz:gdn W1 W.heap.size:=by rw [<- hW]; exact (gdn.new W _).ext ((Ext.refl _).alloc _) (by simp)
 have hb1:=hb.ext hWx;have HA:=hid (fun W' (hx':Ext W1 W')=>hpl s.lev x W' ((hx0.trans hWx).trans hx') hx ((hb1.ext hx').jo) (by omega));have HC:=hid (fun W' (hx':Ext W1 W')=>hpk s.lev y W' ((hx0.trans hWx).trans hx') hy ((hb1.ext hx').jo) (by omega));have HFA:=hid ((qdz s.lev l (by omega)).xh (by omega));have HFC:=hid ((qdz s.lev k (by omega)).xh (by omega));obtain ⟨Tf,x,rfl⟩:=hx.iface;obtain ⟨Tg,y,rfl⟩:=hy.iface;have d1:W1.cell? ⟨W.heap.size+1,1,none⟩=some (.int .i64 r):=by rw [<- hW]; simp [go_sem]
 have HS:Hid (∀ W',Ext W1 W'->(Ext W W'/\W'.cell? ⟨W.heap.size+1,0,none⟩=some (.iface Tf x)/\W'.cell? ⟨W.heap.size+1,2,none⟩=some (.iface Tg y))):=by
  intro W' hx';obtain ⟨hc,hf⟩:=hx'.cells;refine ⟨hWx.trans hx',?_,?_⟩ <;> (rw [hc _ _ (by omega),<- hW]; simp [go_sem])
 have HS2:Hid (∀ W'' u0 u1 u2 u3 u4 u5 u6,Ext W1 W''->∀ W',W'=((((((W''.setCell ⟨W.heap.size,0,none⟩ u0).setCell ⟨W.heap.size,1,none⟩ u1).setCell ⟨W.heap.size,2,none⟩ u2).setCell ⟨W.heap.size,3,none⟩ u3).setCell ⟨W.heap.size,4,none⟩ u4).setCell ⟨W.heap.size,5,none⟩ u5).setCell ⟨W.heap.size,6,none⟩ u6->(Ext W W'/\W'.cell? ⟨W.heap.size+1,0,none⟩=some (.iface Tf x)/\W'.cell? ⟨W.heap.size+1,2,none⟩=some (.iface Tg y))):=by
  intro W'' u0 u1 u2 u3 u4 u5 u6 hx' W' hW';obtain ⟨s1,k0,k1⟩:=HS.out W'' hx';rw [hW'];refine ⟨((((((s1.setCell (by simp) _).setCell (by simp) _).setCell (by simp) _).setCell (by simp) _).setCell (by simp) _).setCell (by simp) _).setCell (by simp) _,?_,?_⟩ <;> rw [pe _ _ _ _ (by simp; try omega),pe _ _ _ _ (by simp; try omega),pe _ _ _ _ (by simp; try omega),pe _ _ _ _ (by simp; try omega),pe _ _ _ _ (by simp; try omega),pe _ _ _ _ (by simp; try omega),pe _ _ _ _ (by simp; try omega)] <;> assumption
 have HB:=hid hb;have HX:=hid hWx;have HZ:=hid hz;have HRE:Hid (∃ rr,rr=if pos then ud4 r else wek (ud4 r)):=hid ⟨_,rfl⟩;obtain ⟨rr,hrr⟩:=HRE.out;clear hb hb1 hx0 hWx hz hp hl hn ha hx hy hwl hwk HRE hpl hpk;rw [show zc2 (.atom l r k) pos s=(vfi (if pos then ud4 r else wek (ud4 r)) ((wdm s.lev l).add (wdm s.lev k).xJ),s) from rfl,<- hrr];have HRR:=hid hrr;clear hrr;generalize wdm s.lev l=p at *;generalize wdm s.lev k=q at *;go_enter uE,ua;go_wp2_with fail;clear hW;refine (vfy r W1).mono ?_;rintro e w1 ⟨rfl,rfl⟩;clear d1;generalize ud4 r=rm at *;have HR1:Hid (pos=false->wek rm=rr):=hid (fun e=>by rw [HRR.out,e]; rfl);have HR2:Hid (pos=true->rm=rr):=hid (fun e=>by rw [HRR.out,e]; rfl);clear HRR;cases pos
 all_goals
  go_wp2_with fail
  first
   | (refine (qft rm w1).mono ?_
      rintro e w0' ⟨rfl,hw⟩;have hw2:=hw.symm;subst hw2;rw [HR1.out (by first | rfl | trivial)]
      go_wp2_with fail)
   | (rw [HR2.out (by first | rfl | trivial)])
  have yy0:Ext w1 w1.drew:=(Ext.refl w1).drew;have Y0:=hid yy0;clear yy0 HR1 HR2
  go_region_held3 (fun W' => Ext W W' /\ W'.cell? ⟨W.heap.size + 1, 0, none⟩ = some (.iface Tf x) /\ W'.cell? ⟨W.heap.size + 1, 2, none⟩ = some (.iface Tg y))
   (first | with_reducible exact HS.out _ Y0.out | with_reducible exact HS.out _ yy1 | with_reducible exact HS.out _ yy2 | with_reducible exact HS.out _ yy3 | with_reducible exact HS2.out _ _ _ _ _ _ _ _ yy3 _ rfl)
   (first
     | (go_at_call 66
        (fail_if_success have _:=yy1)
        refine (HA.out _ Y0.out).mono ?_;rintro e w1' ⟨z1,rfl,m1,x1⟩;obtain ⟨C1,i1,j1,D1,k1,rfl,-⟩:=id m1.open_;have yy1:Ext w1 w1':=Ext.trans Y0.out x1
        unfold plV)
     | (go_at_call 66
        refine (HC.out _ yy1).mono ?_;rintro e w2 ⟨z2,rfl,m2,x2⟩;obtain ⟨C2,i2,j2,D2,k2,rfl,-⟩:=id m2.open_;have yy2:Ext w1 w2:=Ext.trans yy1 x2
        replace m1:=m1.ext x2
        unfold plV)
     | (go_at_call 65
        refine (ge7 _ _ m1 m2 HFA.out HFC.out (by omega) (by omega)).mono ?_;rintro e w3 ⟨z3,rfl,m3,x3⟩;obtain ⟨C3,i3,j3,D3,k3,rfl,-⟩:=id m3.open_;have yy3:Ext w1 w3:=Ext.trans yy2 x3;obtain ⟨⟨r0,r1,r2,r3,r4,r5,r6⟩,rf⟩:=HZ.out.ext yy3 (by omega)
        unfold plV))
  all_goals
   have hzn:=HZ.out.ext yy3 (by omega);have hsn:=(yy2:Ext w1 _).size;have HF:=hid (yea (vdp.qo (HX.out.trans yy3)) (pf _) (fun ho=>by have:=(HB.out.xA ho).1; omega) hzn (HB.out.ext (HX.out.trans yy3)) (MxV.mk (t:=.mk 2 rr (p.add q.xJ) []) (K:=none) (c:=0) m3 (by simp [Mx.ks]) (by omega) (by unfold Mx.ks zdr; trivial)) (fun b _ hb=>⟨by omega,by omega,fun ho=>by have:=(HB.out.xA ho).1; omega⟩));clear m1 m2 m3 x1 x2 x3 yy1 yy2 yy3 HS HS2 HZ HB HX HA HC hzn;simp only [Mx.kind,Mx.rel,Mx.p,Pl.zero,Pl.lv,Pl.neg] at r0 r1 r2 r3
   try unfold plV
   generalize p.add q.xJ=P at *;go_wp2_with fail;exact bodyPost_ret (v:=mxV (.mk 2 rr P []) (.slice C3 i3 j3) (.slice D3 P.cs.length k3) (.slice none 0 0)) (by simp [results,tw,go_sem,r0,r1,r2,r3,r4,r5,r6,mxV,Mx.kind,Mx.rel,Mx.p]) rfl HF.out
theorem zfj {P:Tm->Prop} (HP:∀ t,P t->∀ g,wdt w0 L gb bl g t) (hlo:w0.heap.size<=gb/\w0.heap.size<=bl/\w0.heap.size<=bt/\w0.heap.size<=base) (f:Fm) (hf:f.qe P):vdu w0 L base gb bl bt f:=by
 induction f with
 | truth b=>exact ufq
 | atom l r k=>exact xf2 (HP l hf.1) (HP k hf.2)
 | not f ih=>exact vgd (ih hf)
 | and f g ihf ihg=>exact zge hlo (ihf hf.1) (ihg hf.2)
 | or f g ihf ihg=>exact vgn hlo (ihf hf.1) (ihg hf.2)
 | imp f g ihf ihg=>exact ugd hlo (ihf hf.1) (ihg hf.2)
 | iff f g ihf ihg=>exact ggd hlo (ihf hf.1) (ihg hf.2)
 | quant a nm f ih=>exact gfq hlo (ih hf)
end
end Go.Proofs.YtheefiaoimbeiaaGreatDoor

namespace Go.Proofs.YtheefiaoimbeiaaGreatDoor
open Lib (hid)
open Go.RowKit
def Strs (w:World) (v:Value) (l:List ByteArray):Prop:=SlR (fun _ (s:ByteArray) x=>x=.string s) w v l
def Bools (w:World) (v:Value) (l:List Bool):Prop:=SlR (fun _ (s:Bool) x=>x=.bool s) w v l
theorem Strs.ext {w w':World} {v:Value} {l:List ByteArray} (h:Strs w v l) (hx:Ext w w'):Strs w' v l:=SlR.ext h (fun _ _ h=>h) hx
theorem Bools.ext {w w':World} {v:Value} {l:List Bool} (h:Bools w v l) (hx:Ext w w'):Bools w' v l:=SlR.ext h (fun _ _ h=>h) hx
theorem qfx {base:Nat} {w:World} {v:Value} {l:List ByteArray} (h:vdm 9 1 base w v l.length (strs l)):Strs w v l:=jdl.yC h.1
theorem SNm.jn {base:Nat} {w:World} {v:Value} {l:List ByteArray} {o:Option Nat} (h:SNm base w v l o):Strs w v l:=by
 rcases h with ⟨h,-⟩ | ⟨rfl,-,A,rfl⟩
 · exact qfx h
 · exact ⟨A,0,rfl,by simp,by simp,fun j hj=>absurd hj (by simp)⟩
theorem kfo {base:Nat} {w:World} {v:Value} {l:List Bool} (h:vdm 4 1 base w v l.length (bools l)):Bools w v l:=by
 rcases rO l.length with h0 | h0
 · obtain ⟨A,c,rfl,h1,h2⟩:=h.len;exact ⟨A,c,rfl,h1,h2,fun j hj=>by omega⟩
 · obtain ⟨g,c,rfl,h1,h2,h3,h4,-⟩:=h.pos h0;refine ⟨_,c,rfl,h1,h2,fun j hj=>⟨_,_,rfl,h4,?_,rfl⟩⟩;rw [kdo,pH,h.cell j (by omega)];simp [bools,hj]
theorem clone_any {w:World} {v:Value} {l:List ByteArray} (h:Strs w v l) (hl:l.length<=1000000):Calls Tryz.prog 26 #[v] w fun e w'=>∃ v',e=.returned v'/\vdm 9 1 w.heap.size w' v' l.length (strs l)/\Ext w w':=by
 obtain ⟨A,c,rfl,h1,h2,h3⟩:=h;cases A with
 | none =>
   have h0:l=[]:=by
    cases l with
    | nil=>rfl
    | cons a r=>obtain ⟨ad,x,e,-⟩:=h3 0 (by simp); cases e
   subst h0;have he:=Lib.run_eql_slice_nil (P:=Tryz.prog) w 34 9 none 0 c 0 0 yd4.und;go_enter Tryz.func26,Tryz.ntmps26;go_wp2_with fail;go_ret;exact ⟨_,rfl,vdm.nil _ _ _ _,Ext.refl w⟩
 | some ad =>
   obtain ⟨W,hW⟩:=n_m (w.alloc (.cells #[] 9));have hWx:Ext w W:=by rw [<- hW]; exact (Ext.refl w).alloc _
   have aaC:vdm 9 1 w.heap.size W (.slice (some ⟨w.heap.size,0,none⟩) 0 0) 0 []:=by
    rw [<- hW];refine ⟨World.ownsRow_made w #[] 0 (pf _) (by unfold maxLen; omega) (by simp),fun R cur T fr e hb u hu=>?_⟩;have hR:w.heap.size=R:=by simpa [Value.ownBlock] using e
    rw [<- hR,heap_alloc_new] at hb;injection hb with hb
    injection hb with hb
    rw [<- hb] at hu;simp at hu
   have ab3:∃ v4 w4,(Builtin.append_ #[34,34] 34 #[.slice (some ⟨w.heap.size,0,none⟩) 0 0,.slice (some ad) l.length c]).run Tryz.prog W=.ok v4 w4/\vdm 9 1 w.heap.size w4 v4 l.length (strs l)/\Ext w w4:=by
    rcases rO l.length with h0 | h0
    · have:l=[]:=pV h0;subst this;refine ⟨.slice (some ⟨w.heap.size,0,none⟩) 0 0,W,?_,aaC,hWx⟩;obtain ⟨i0,hi,hz0,hz1,hz2⟩:=info_parts yd4.info;simp [Builtin.append_,run_underlying yd4.und,sizeOf,typeInfo,hi,Builtin.lenOf,Builtin.firstCells,loadCells,loadCellsFrom,storeCells]
    · obtain ⟨v4,w4,e,r1,r2,-,-⟩:=vdm.append yd4 aaC hWx.size ad l.length c (strs l) (by simp [strs]) (fun j u hu=>by
       have hj:j < l.length:=by
        rcases rz j l.length with h | h
        · exact h
        · rw [sA (by simpa [strs] using h)] at hu; cases hu
       obtain ⟨ad',x,e,hb,hc,hx⟩:=h3 j hj;injection e with e
       subst e hx;rw [hWx.cell (p:=ad.add j) (by rw [zc1]; exact hb),hc,<- hu];simp [strs,hj]) (fun u hu=>by
       simp only [strs,sF] at hu;obtain ⟨s,-,rfl⟩:=hu
       exact ⟨rfl,rfl⟩) h0 (by omega) (by omega) 34
      refine ⟨v4,w4,e,by simpa using r1,?_⟩;exact zea hWx r2 (fun R hR=>by have:=(aaC.own hR).1; omega)
   obtain ⟨v4,w4,hr,hg,hx⟩:=ab3;have afU:=hid hr;have HF:Hid (vdm 9 1 w.heap.size w4 v4 l.length (strs l)/\Ext w w4):=hid ⟨hg,hx⟩;have he:=Lib.run_eql_slice_nil (P:=Tryz.prog) w 34 9 (some ad) l.length c 0 0 yd4.und;clear hr hg hx aaC hWx h3;go_enter Tryz.func26,Tryz.ntmps26;go_upto_region 3 with fail;clear he
   iterate 16 (first | at_builtin | go_values | go_skip | go_guarded | go_step | go_upon | go_back | go_simp)
   refine wpList_append_run rfl (.tmp 5) (.tmp 6) _ _ rfl _ _ _ _ rfl rfl afU.out ?_;clear afU;go_wp2_with fail;go_ret;exact ⟨_,rfl,HF.out⟩
def pxC (fr:Int) (all nms:Value) (m:Mx) (s A K:Value):Value:=.agg #[.int .i64 fr,all,nms,.int .i64 m.kind,.int .i64 m.rel,.int .i64 m.p.lv,.bool m.p.neg,s,A,K]
def PxV (w:World) (q:Nat->Prop) (fr:Int) (all:List Bool) (nms:List ByteArray) (m:Mx) (v:Value):Prop:=
 ∃ A1 c1 A2 c2 A0 n0 c0 B n1 c3 K n2 c4,v=pxC fr (.slice A1 all.length c1) (.slice A2 nms.length c2) m (.slice A0 n0 c0) (.slice B n1 c3) (.slice K n2 c4)/\Bools w (.slice A1 all.length c1) all/\Strs w (.slice A2 nms.length c2) nms/\MxV w q m (mxV m (.slice A0 n0 c0) (.slice B n1 c3) (.slice K n2 c4))
theorem SlR.ql {α:Type} {P:α->Value->Prop} {w w':World} {A:Option Addr} {n c:Nat} {l:List α} (h:SlR (fun _=>P) w (.slice A n c) l) (hs:w.heap.size<=w'.heap.size) (hb:∀ ad,A=some ad->0 < l.length->w'.heap[ad.block]?=w.heap[ad.block]?):SlR (fun _=>P) w' (.slice A n c) l:=by
 obtain ⟨A',c',e,h1,h2,h3⟩:=h;injection e with e1 e2 e3
 subst e1 e2 e3;refine ⟨A,c,rfl,h1,h2,fun j hj=>?_⟩;obtain ⟨ad,x,rfl,hlt,hc,hp⟩:=h3 j hj;exact ⟨ad,x,rfl,pr hlt hs,(ph (a:=ad.add j) (by rw [zc1]; exact hb ad rfl (by omega))).trans hc,hp⟩
theorem PxV.ext {w w':World} {q:Nat->Prop} {fr:Int} {all:List Bool} {nms:List ByteArray} {m:Mx} {v:Value} (h:PxV w q fr all nms m v) (hx:Ext w w'):PxV w' q fr all nms m v:=by
 obtain ⟨A1,c1,A2,c2,A0,n0,c0,B,n1,c3,K,n2,c4,e,h1,h2,h3⟩:=h;exact ⟨A1,c1,A2,c2,A0,n0,c0,B,n1,c3,K,n2,c4,e,h1.ext hx,h2.ext hx,h3.ext hx⟩
theorem xej (b : Nat) : ∀ (vs : List Value) (o : Nat) (w : World), (∀ j, j < vs.length -> ∃ u, w.cell? ⟨b, o + j, none⟩ = some u /\ wdo u = false) -> ∀ x ds, zb1 w x ds -> zb1 (w.setCells b o vs) x ds
 | [],o,w,_,x,ds,h=>h
 | v :: vs,o,w,hu,x,ds,h=>by
   obtain ⟨u,h1,h2⟩:=hu 0 (by simp);refine xej b vs (o+1) (w.setCell ⟨b,o,none⟩ v) (fun j hj=>?_) x ds (h.box h1 h2 v);obtain ⟨u',h3,h4⟩:=hu (j+1) (by simpa using hj);refine ⟨u',?_,h4⟩;rw [pe _ _ _ _ (by intro e; injection e; omega),<- h3]
   congr 2; omega
theorem wec {w : World} {b : Nat} (hb : w.heap.size <= b) : ∀ (vs : List Value) (o : Nat) (w' : World), Ext w w' -> Ext w (w'.setCells b o vs)
 | [],o,w',h=>h
 | v :: vs,o,w',h=>wec hb vs (o+1) (w'.setCell ⟨b,o,none⟩ v) (h.setCell hb v)
theorem zd9 {b i : Nat} (hne : i ≠ b) : ∀ (vs : List Value) (o : Nat) (w : World), (w.setCells b o vs).heap[i]? = w.heap[i]?
 | [],o,w=>rfl
 | v :: vs,o,w=>(zd9 hne vs (o+1) (w.setCell ⟨b,o,none⟩ v)).trans (Below.heap_setCell w _ v i hne)
theorem size_setCells {b : Nat} : ∀ (vs : List Value) (o : Nat) (w : World), (w.setCells b o vs).heap.size = w.heap.size
 | [],o,w=>rfl
 | v :: vs,o,w=>(size_setCells vs (o+1) (w.setCell ⟨b,o,none⟩ v)).trans (by simp [World.setCell])
def geg (W:World) (g:Nat) (u0 u1 u2 u3 u4 u5 u6 u7 u8 u9:Value):World:=
 (((((((((W.setCell ⟨g,0,none⟩ u0).setCell ⟨g,1,none⟩ u1).setCell ⟨g,2,none⟩ u2).setCell ⟨g,3,none⟩ u3).setCell ⟨g,4,none⟩ u4).setCell ⟨g,5,none⟩ u5).setCell ⟨g,6,none⟩ u6).setCell ⟨g,7,none⟩ u7).setCell ⟨g,8,none⟩ u8).setCell ⟨g,9,none⟩ u9
theorem gee (W:World) (g:Nat) (u0 u1 u2 u3 u4 u5 u6 u7 u8 u9:Value):geg W g u0 u1 u2 u3 u4 u5 u6 u7 u8 u9=W.setCells g 0 [u0,u1,u2,u3,u4,u5,u6,u7,u8,u9]:=rfl
theorem vf5 {w Wf : World} {g : Nat} {q q' : Nat -> Prop} {fr : Int} {all : List Bool} {nms : List ByteArray} {m : Mx} {A1 A2 A0 B K : Option Addr} {c1 c2 n0 c0 n1 c3 n2 c4 : Nat} (hx : Ext w Wf) (hg : w.heap.size <= g) (hz : ∀ j, j < 10 -> ∃ u, Wf.cell? ⟨g, j, none⟩ = some u /\ wdo u = false)
 (h1:Bools Wf (.slice A1 all.length c1) all) (k1:∀ ad,A1=some ad->0 < all.length->ad.block ≠ g) (h2:Strs Wf (.slice A2 nms.length c2) nms) (k2:∀ ad,A2=some ad->0 < nms.length->ad.block ≠ g)
 (hm:MxV Wf q m (mxV m (.slice A0 n0 c0) (.slice B n1 c3) (.slice K n2 c4))) (hq:∀ b,b < Wf.heap.size->q b->b ≠ g/\q' b) :
 Ext w (geg Wf g (.int .i64 fr) (.slice A1 all.length c1) (.slice A2 nms.length c2) (.int .i64 m.kind) (.int .i64 m.rel) (.int .i64 m.p.lv) (.bool m.p.neg) (.slice A0 n0 c0) (.slice B n1 c3) (.slice K n2 c4)) /\
 PxV (geg Wf g (.int .i64 fr) (.slice A1 all.length c1) (.slice A2 nms.length c2) (.int .i64 m.kind) (.int .i64 m.rel) (.int .i64 m.p.lv) (.bool m.p.neg) (.slice A0 n0 c0) (.slice B n1 c3) (.slice K n2 c4)) q' fr all nms m (pxC fr (.slice A1 all.length c1) (.slice A2 nms.length c2) m (.slice A0 n0 c0) (.slice B n1 c3) (.slice K n2 c4)):=by
 rw [gee];have hb:∀ i,i ≠ g->(Wf.setCells g 0 [.int .i64 fr,.slice A1 all.length c1,.slice A2 nms.length c2,.int .i64 m.kind,.int .i64 m.rel,.int .i64 m.p.lv,.bool m.p.neg,.slice A0 n0 c0,.slice B n1 c3,.slice K n2 c4]).heap[i]?=Wf.heap[i]?:=fun i hi=>zd9 hi _ _ _
 have hs:=size_setCells (b:=g) [.int .i64 fr,.slice A1 all.length c1,.slice A2 nms.length c2,.int .i64 m.kind,.int .i64 m.rel,.int .i64 m.p.lv,.bool m.p.neg,.slice A0 n0 c0,.slice B n1 c3,.slice K n2 c4] 0 Wf;have hn:=xej g [.int .i64 fr,.slice A1 all.length c1,.slice A2 nms.length c2,.int .i64 m.kind,.int .i64 m.rel,.int .i64 m.p.lv,.bool m.p.neg,.slice A0 n0 c0,.slice B n1 c3,.slice K n2 c4] 0 Wf (fun j hj=>by rw [pH]; exact hz j (by simpa using hj));have hxx:=wec hg [.int .i64 fr,.slice A1 all.length c1,.slice A2 nms.length c2,.int .i64 m.kind,.int .i64 m.rel,.int .i64 m.p.lv,.bool m.p.neg,.slice A0 n0 c0,.slice B n1 c3,.slice K n2 c4] 0 Wf hx;generalize Wf.setCells g 0 [.int .i64 fr,.slice A1 all.length c1,.slice A2 nms.length c2,.int .i64 m.kind,.int .i64 m.rel,.int .i64 m.p.lv,.bool m.p.neg,.slice A0 n0 c0,.slice B n1 c3,.slice K n2 c4]=W' at *;exact ⟨hxx,_,_,_,_,_,_,_,_,_,_,_,_,_,rfl,SlR.ql h1 (by omega) (fun ad e h=>hb _ (k1 ad e h)),SlR.ql h2 (by omega) (fun ad e h=>hb _ (k2 ad e h)),MxV.qO (by omega) hn (fun b hlt hqb=>⟨(hq b hlt hqb).2,hb b (hq b hlt hqb).1⟩) hm⟩
end Go.Proofs.YtheefiaoimbeiaaGreatDoor
