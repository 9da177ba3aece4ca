/- Layer 38: builder.poly at sums, differences, products. -/
import Derived.Test.YtheefiaoimbeiaaGreatDoorMp49
set_option linter.unusedSimpArgs false
set_option linter.unusedVariables false

set_option maxRecDepth 100000
set_option maxHeartbeats 8000000
namespace Go.Proofs.YtheefiaoimbeiaaGreatDoor
open Lib (hid)
open Go.RowKit
attribute [local go_sem] uds ydr qdt kds zdt wds vds ydp xdr gds xdt udv qdn ydt xdp
section
variable {w0:World} {L gb bl:Nat} {g:ByteArray->Int}
theorem jfz {a b:Tm} (iha:wdt w0 L gb bl g a) (ihb:wdt w0 L gb bl g b):wdt w0 L gb bl g (.add a b):=by
 intro v W hx0 h hp hw;obtain ⟨hwa,hwb⟩:=qfm hw;obtain ⟨x,y,rfl,hx,hy⟩:=h;have HPB:=hid hp;have HXW:=hid hx0;have HFA:=hid ((qdz g a hwa).xh (by omega));have HFB:=hid ((qdz g b hwb).xh (by omega));have HA:=hid (fun W' (k:Ext W W')=>iha x W' (hx0.trans k) hx (hp.ext k) hwa);have HB:=hid (fun W' (k:Ext W W')=>ihb y W' (hx0.trans k) hy (hp.ext k) hwb);obtain ⟨T,x,rfl⟩:=hx.iface;obtain ⟨U,y,rfl⟩:=hy.iface;rw [show wdm g (.add a b)=(wdm g a).add (wdm g b) from rfl];clear hx hy iha ihb hp hx0 hw hwa hwb;generalize wdm g a=p at *;generalize wdm g b=q at *;obtain ⟨W1,hW⟩:=n_m ((W.alloc (.cells #[.int .i64 0,.bool false,.slice none 0 0,.slice none 0 0] 44)).alloc (.cells #[Value.iface T x,Value.iface U y] 175));have HX0:Hid (Ext W W1):=hid (by rw [<- hW]; exact ((Ext.refl W).alloc _).alloc _);have hs0:W1.heap.size=W.heap.size+2:=by rw [<- hW]; simp
 have HZ:Hid (zdl W1 W.heap.size):=hid (by rw [<- hW]; exact (zdl.new W _).ext ((Ext.refl _).alloc _) (by simp));have HS:Hid (∀ W',Ext W1 W'->(Ext W W'/\W'.cell? ⟨W.heap.size+1,0,none⟩=some (Value.iface T x)/\W'.cell? ⟨W.heap.size+1,1,none⟩=some (Value.iface U y))):=by
  intro W' hx;obtain ⟨hc,hf⟩:=hx.cells;refine ⟨HX0.out.trans hx,?_,?_⟩ <;> (rw [hc _ _ (by omega),<- hW]; simp [go_sem])
 have HS2:Hid (∀ W'' u0 u1 u2 u3,Ext W1 W''->∀ W',W'=(((W''.setCell ⟨W.heap.size,0,none⟩ u0).setCell ⟨W.heap.size,1,none⟩ u1).setCell ⟨W.heap.size,2,none⟩ u2).setCell ⟨W.heap.size,3,none⟩ u3->(Ext W W'/\W'.cell? ⟨W.heap.size+1,0,none⟩=some (Value.iface T x)/\W'.cell? ⟨W.heap.size+1,1,none⟩=some (Value.iface U y))):=by
  intro W'' u0 u1 u2 u3 hx W' hW';obtain ⟨s1,k0,k1⟩:=HS.out W'' hx;rw [hW'];refine ⟨(((s1.setCell (by simp) _).setCell (by simp) _).setCell (by simp) _).setCell (by simp) _,?_,?_⟩ <;> rw [pe _ _ _ _ (by simp; try omega),pe _ _ _ _ (by simp; try omega),pe _ _ _ _ (by simp; try omega),pe _ _ _ _ (by simp; try omega)] <;> assumption
 go_enter uV,uK;go_wp2_with fail;clear hW;have yy0:Ext W1 W1.drew:=(Ext.refl W1).drew;have Y0:=hid yy0;clear yy0
 go_region_held3 (fun W' => Ext W W' /\ W'.cell? ⟨W.heap.size + 1, 0, none⟩ = some (Value.iface T x) /\ W'.cell? ⟨W.heap.size + 1, 1, none⟩ = some (Value.iface U y))
  (first | with_reducible exact HS.out _ Y0.out | with_reducible exact HS.out _ yy1 | with_reducible exact HS.out _ yy2 | with_reducible exact HS.out _ yy3 | with_reducible exact HS2.out _ _ _ _ _ yy3 _ rfl)
  (first
    | (go_at_call 66
       (fail_if_success have _:=yy1)
       refine (HA.out _ (HX0.out.trans Y0.out)).mono ?_;rintro e w1 ⟨z1,rfl,m1,x1⟩;obtain ⟨C1,i1,j1,D1,k1,rfl,-⟩:=id m1.open_;have yy1:Ext W1 w1:=Ext.trans Y0.out x1
       unfold plV)
    | (go_at_call 66
       refine (HB.out _ (HX0.out.trans yy1)).mono ?_;rintro e w2 ⟨z2,rfl,m2,x2⟩;obtain ⟨C2,i2,j2,D2,k2,rfl,-⟩:=id m2.open_;have yy2:Ext W1 w2:=Ext.trans yy1 x2
       replace m1:=m1.ext x2
       unfold plV)
    | (go_at_call 101
       refine (xf6 _ _ m1 m2 HFA.out HFB.out (by omega) (by omega)).mono ?_;rintro e w3 ⟨z3,rfl,m3,x3⟩;obtain ⟨C3,i3,j3,D3,k3,rfl,-⟩:=id m3.open_;have yy3:Ext W1 w3:=Ext.trans yy2 x3;obtain ⟨⟨r0,r1,r2,r3⟩,rf⟩:=HZ.out.ext yy3 (by omega)
       unfold plV))
 have hzn:=HZ.out.ext yy3 (by omega);have hsn:=(yy3:Ext W1 _).size;have hsp:=(yy2:Ext W1 _).size;have HF:=hid (zdm (q':=fun b=>W.heap.size<=b) (HX0.out.trans yy3) (by omega) hzn m3 (fun b _ hb=>⟨by omega,by omega⟩));clear m1 m2 m3 x1 x2 x3 yy1 yy2 yy3 HS HS2 HZ
 try unfold plV
 go_wp2_with fail;exact bodyPost_ret (by simp [results,tM,go_sem,r0,r1,r2,r3,plV]) rfl HF.out
theorem gfy {a b:Tm} (iha:wdt w0 L gb bl g a) (ihb:wdt w0 L gb bl g b):wdt w0 L gb bl g (.sub a b):=by
 intro v W hx0 h hp hw;obtain ⟨hwa,hwb⟩:=qfm hw;obtain ⟨x,y,rfl,hx,hy⟩:=h;have HPB:=hid hp;have HXW:=hid hx0;have HFA:=hid ((qdz g a hwa).xh (by omega));have HFB:=hid ((qdz g b hwb).xh (by omega));have HA:=hid (fun W' (k:Ext W W')=>iha x W' (hx0.trans k) hx (hp.ext k) hwa);have HB:=hid (fun W' (k:Ext W W')=>ihb y W' (hx0.trans k) hy (hp.ext k) hwb);obtain ⟨T,x,rfl⟩:=hx.iface;obtain ⟨U,y,rfl⟩:=hy.iface;rw [show wdm g (.sub a b)=(wdm g a).add (wdm g b).xJ from rfl];clear hx hy iha ihb hp hx0 hw hwa hwb;generalize wdm g a=p at *;generalize wdm g b=q at *;obtain ⟨W1,hW⟩:=n_m ((W.alloc (.cells #[.int .i64 0,.bool false,.slice none 0 0,.slice none 0 0] 44)).alloc (.cells #[Value.iface T x,Value.iface U y] 176));have HX0:Hid (Ext W W1):=hid (by rw [<- hW]; exact ((Ext.refl W).alloc _).alloc _);have hs0:W1.heap.size=W.heap.size+2:=by rw [<- hW]; simp
 have HZ:Hid (zdl W1 W.heap.size):=hid (by rw [<- hW]; exact (zdl.new W _).ext ((Ext.refl _).alloc _) (by simp));have HS:Hid (∀ W',Ext W1 W'->(Ext W W'/\W'.cell? ⟨W.heap.size+1,0,none⟩=some (Value.iface T x)/\W'.cell? ⟨W.heap.size+1,1,none⟩=some (Value.iface U y))):=by
  intro W' hx;obtain ⟨hc,hf⟩:=hx.cells;refine ⟨HX0.out.trans hx,?_,?_⟩ <;> (rw [hc _ _ (by omega),<- hW]; simp [go_sem])
 have HS2:Hid (∀ W'' u0 u1 u2 u3,Ext W1 W''->∀ W',W'=(((W''.setCell ⟨W.heap.size,0,none⟩ u0).setCell ⟨W.heap.size,1,none⟩ u1).setCell ⟨W.heap.size,2,none⟩ u2).setCell ⟨W.heap.size,3,none⟩ u3->(Ext W W'/\W'.cell? ⟨W.heap.size+1,0,none⟩=some (Value.iface T x)/\W'.cell? ⟨W.heap.size+1,1,none⟩=some (Value.iface U y))):=by
  intro W'' u0 u1 u2 u3 hx W' hW';obtain ⟨s1,k0,k1⟩:=HS.out W'' hx;rw [hW'];refine ⟨(((s1.setCell (by simp) _).setCell (by simp) _).setCell (by simp) _).setCell (by simp) _,?_,?_⟩ <;> rw [pe _ _ _ _ (by simp; try omega),pe _ _ _ _ (by simp; try omega),pe _ _ _ _ (by simp; try omega),pe _ _ _ _ (by simp; try omega)] <;> assumption
 go_enter uV,uK;go_wp2_with fail;clear hW;have yy0:Ext W1 W1.drew:=(Ext.refl W1).drew;have Y0:=hid yy0;clear yy0
 go_region_held3 (fun W' => Ext W W' /\ W'.cell? ⟨W.heap.size + 1, 0, none⟩ = some (Value.iface T x) /\ W'.cell? ⟨W.heap.size + 1, 1, none⟩ = some (Value.iface U y))
  (first | with_reducible exact HS.out _ Y0.out | with_reducible exact HS.out _ yy1 | with_reducible exact HS.out _ yy2 | with_reducible exact HS.out _ yy3 | with_reducible exact HS2.out _ _ _ _ _ yy3 _ rfl)
  (first
    | (go_at_call 66
       (fail_if_success have _:=yy1)
       refine (HA.out _ (HX0.out.trans Y0.out)).mono ?_;rintro e w1 ⟨z1,rfl,m1,x1⟩;obtain ⟨C1,i1,j1,D1,k1,rfl,-⟩:=id m1.open_;have yy1:Ext W1 w1:=Ext.trans Y0.out x1
       unfold plV)
    | (go_at_call 66
       refine (HB.out _ (HX0.out.trans yy1)).mono ?_;rintro e w2 ⟨z2,rfl,m2,x2⟩;obtain ⟨C2,i2,j2,D2,k2,rfl,-⟩:=id m2.open_;have yy2:Ext W1 w2:=Ext.trans yy1 x2
       replace m1:=m1.ext x2
       unfold plV)
    | (go_at_call 65
       refine (ge7 _ _ m1 m2 HFA.out HFB.out (by omega) (by omega)).mono ?_;rintro e w3 ⟨z3,rfl,m3,x3⟩;obtain ⟨C3,i3,j3,D3,k3,rfl,-⟩:=id m3.open_;have yy3:Ext W1 w3:=Ext.trans yy2 x3;obtain ⟨⟨r0,r1,r2,r3⟩,rf⟩:=HZ.out.ext yy3 (by omega)
       unfold plV))
 have hzn:=HZ.out.ext yy3 (by omega);have hsn:=(yy3:Ext W1 _).size;have hsp:=(yy2:Ext W1 _).size;have HF:=hid (zdm (q':=fun b=>W.heap.size<=b) (HX0.out.trans yy3) (by omega) hzn m3 (fun b _ hb=>⟨by omega,by omega⟩));clear m1 m2 m3 x1 x2 x3 yy1 yy2 yy3 HS HS2 HZ
 try unfold plV
 go_wp2_with fail;exact bodyPost_ret (by simp [results,tM,go_sem,r0,r1,r2,r3,plV]) rfl HF.out
theorem qfz {a b:Tm} (iha:wdt w0 L gb bl g a) (ihb:wdt w0 L gb bl g b):wdt w0 L gb bl g (.mul a b):=by
 intro v W hx0 h hp hw;obtain ⟨hwa,hwb⟩:=yff hw;obtain ⟨x,y,rfl,hx,hy⟩:=h;have HPB:=hid hp;have HXW:=hid hx0;have HFA:=hid ((qdz g a hwa).xh (by omega));have HFB:=hid ((qdz g b hwb).xh (by omega));have HA:=hid (fun W' (k:Ext W W')=>iha x W' (hx0.trans k) hx (hp.ext k) hwa);have HB:=hid (fun W' (k:Ext W W')=>ihb y W' (hx0.trans k) hy (hp.ext k) hwb);obtain ⟨T,x,rfl⟩:=hx.iface;obtain ⟨U,y,rfl⟩:=hy.iface;rw [show wdm g (.mul a b)=(wdm g a).mul (wdm g b) from rfl];clear hx hy iha ihb hp hx0 hw hwa hwb;generalize wdm g a=p at *;generalize wdm g b=q at *;obtain ⟨W1,hW⟩:=n_m ((W.alloc (.cells #[.int .i64 0,.bool false,.slice none 0 0,.slice none 0 0] 44)).alloc (.cells #[Value.iface T x,Value.iface U y] 177));have HX0:Hid (Ext W W1):=hid (by rw [<- hW]; exact ((Ext.refl W).alloc _).alloc _);have hs0:W1.heap.size=W.heap.size+2:=by rw [<- hW]; simp
 have HZ:Hid (zdl W1 W.heap.size):=hid (by rw [<- hW]; exact (zdl.new W _).ext ((Ext.refl _).alloc _) (by simp));have HS:Hid (∀ W',Ext W1 W'->(Ext W W'/\W'.cell? ⟨W.heap.size+1,0,none⟩=some (Value.iface T x)/\W'.cell? ⟨W.heap.size+1,1,none⟩=some (Value.iface U y))):=by
  intro W' hx;obtain ⟨hc,hf⟩:=hx.cells;refine ⟨HX0.out.trans hx,?_,?_⟩ <;> (rw [hc _ _ (by omega),<- hW]; simp [go_sem])
 have HS2:Hid (∀ W'' u0 u1 u2 u3,Ext W1 W''->∀ W',W'=(((W''.setCell ⟨W.heap.size,0,none⟩ u0).setCell ⟨W.heap.size,1,none⟩ u1).setCell ⟨W.heap.size,2,none⟩ u2).setCell ⟨W.heap.size,3,none⟩ u3->(Ext W W'/\W'.cell? ⟨W.heap.size+1,0,none⟩=some (Value.iface T x)/\W'.cell? ⟨W.heap.size+1,1,none⟩=some (Value.iface U y))):=by
  intro W'' u0 u1 u2 u3 hx W' hW';obtain ⟨s1,k0,k1⟩:=HS.out W'' hx;rw [hW'];refine ⟨(((s1.setCell (by simp) _).setCell (by simp) _).setCell (by simp) _).setCell (by simp) _,?_,?_⟩ <;> rw [pe _ _ _ _ (by simp; try omega),pe _ _ _ _ (by simp; try omega),pe _ _ _ _ (by simp; try omega),pe _ _ _ _ (by simp; try omega)] <;> assumption
 go_enter uV,uK;go_wp2_with fail;clear hW;have yy0:Ext W1 W1.drew:=(Ext.refl W1).drew;have Y0:=hid yy0;clear yy0
 go_region_held3 (fun W' => Ext W W' /\ W'.cell? ⟨W.heap.size + 1, 0, none⟩ = some (Value.iface T x) /\ W'.cell? ⟨W.heap.size + 1, 1, none⟩ = some (Value.iface U y))
  (first | with_reducible exact HS.out _ Y0.out | with_reducible exact HS.out _ yy1 | with_reducible exact HS.out _ yy2 | with_reducible exact HS.out _ yy3 | with_reducible exact HS2.out _ _ _ _ _ yy3 _ rfl)
  (first
    | (go_at_call 66
       (fail_if_success have _:=yy1)
       refine (HA.out _ (HX0.out.trans Y0.out)).mono ?_;rintro e w1 ⟨z1,rfl,m1,x1⟩;obtain ⟨C1,i1,j1,D1,k1,rfl,-⟩:=id m1.open_;have yy1:Ext W1 w1:=Ext.trans Y0.out x1
       unfold plV)
    | (go_at_call 66
       refine (HB.out _ (HX0.out.trans yy1)).mono ?_;rintro e w2 ⟨z2,rfl,m2,x2⟩;obtain ⟨C2,i2,j2,D2,k2,rfl,-⟩:=id m2.open_;have yy2:Ext W1 w2:=Ext.trans yy1 x2
       replace m1:=m1.ext x2
       unfold plV)
    | (go_at_call 102
       refine (yf6 _ _ m1 m2 HFA.out HFB.out (by omega) (by omega)).mono ?_;rintro e w3 ⟨z3,rfl,m3,x3⟩;obtain ⟨C3,i3,j3,D3,k3,rfl,-⟩:=id m3.open_;have yy3:Ext W1 w3:=Ext.trans yy2 x3;obtain ⟨⟨r0,r1,r2,r3⟩,rf⟩:=HZ.out.ext yy3 (by omega)
       unfold plV))
 have hzn:=HZ.out.ext yy3 (by omega);have hsn:=(yy3:Ext W1 _).size;have hsp:=(yy2:Ext W1 _).size;have HF:=hid (zdm (q':=fun b=>W.heap.size<=b) (HX0.out.trans yy3) (by omega) hzn m3 (fun b _ hb=>⟨by omega,by omega⟩));clear m1 m2 m3 x1 x2 x3 yy1 yy2 yy3 HS HS2 HZ
 try unfold plV
 go_wp2_with fail;exact bodyPost_ret (by simp [results,tM,go_sem,r0,r1,r2,r3,plV]) rfl HF.out
end
end Go.Proofs.YtheefiaoimbeiaaGreatDoor

namespace Go.Proofs.YtheefiaoimbeiaaGreatDoor
open Lib (hid)
open Go.RowKit
theorem wf7 (n:Int) (w:World):Calls Tryz.prog 100 #[.int .i64 n] w (gdl (fun b=>w.heap.size<=b) (Pl.var n) w):=by
 obtain ⟨W,hW⟩:=n_m (w.alloc (.cells #[.int .i64 0,.bool false,.slice none 0 0,.slice none 0 0] 44));have hWx:Ext w W:=by rw [<- hW]; exact (Ext.refl w).alloc _
 have hz:zdl W w.heap.size:=by rw [<- hW]; exact zdl.new w _
 have hs:=hWx.size;have hs1:W.heap.size=w.heap.size+1:=by rw [<- hW]; simp
 have HWX:=hid hWx;have HZ:=hid hz;have HL:=hid (yef n W);clear hWx hz
 by_cases h:1<=n/\n<=4
 · have hv:Pl.var n=.mk n false [] [Pl.zero,Pl.const 1]:=if_pos h;rw [hv];rw [decide_eq_true h.1,decide_eq_true h.2] at HL;clear hv;go_enter Tryz.func100,Tryz.ntmps100;go_wp2_with fail;clear hW;refine HL.out.mono ?_;rintro e w1 ⟨rfl,rfl⟩;go_wp2_with fail;refine (of_int 1 w1 (by omega) (by omega)).mono ?_;rintro e w2 ⟨z2,rfl,⟨y2,rfl,m2⟩,x2⟩;obtain ⟨C2,k2,rfl,-⟩:=id m2;have hzn:=HZ.out.ext x2 (by omega);have hs2:=x2.size
   have HF:Hid (∀ W2:World,Ext w2 W2->(∀ j,j < 8->W2.cell? ⟨w2.heap.size,j,none⟩=#[Value.int .i64 0,.bool false,.slice none 0 0,.slice none 0 0,.int .i64 0,.bool (decide ((1:Int) < 0)),.slice C2 (dg (1:Int).natAbs).length k2,.slice none 0 0][j]?)->w2.heap.size < W2.heap.size ->
    PlV W2 (fun b=>b=w2.heap.size) (.mk n false [] [Pl.zero,Pl.const 1]) (plV (.mk n false [] [Pl.zero,Pl.const 1]) (.slice none 0 0) (.slice (some ⟨w2.heap.size,0,none⟩) 2 2))):=by
    refine hid ?_;intro W2 hx hc hlt;refine PlV.mk (t:=.mk n false [] [Pl.zero,Pl.const 1]) (A:=some ⟨w2.heap.size,0,none⟩) (c:=2) (zb1.nil W2) (pf 2) (by decide) ?_;refine ⟨⟨⟨w2.heap.size,0,none⟩,.slice none 0 0,.slice none 0 0,rfl,hlt,rfl,⟨hc 0 (by omega),hc 1 (by omega),hc 2 (by omega),hc 3 (by omega)⟩,Pl.qV _ _ none 0 (by decide)⟩,⟨⟨w2.heap.size,0,none⟩,.slice C2 (dg (1:Int).natAbs).length k2,.slice none 0 0,rfl,hlt,rfl,⟨?_,hc 5 (by omega),hc 6 (by omega),hc 7 (by omega)⟩,uez _ (m2.ext hx)⟩,trivial⟩;rw [kdo];exact hc 4 (by omega)
   obtain ⟨W2,hW2⟩:=n_m (w2.alloc (.cells #[.int .i64 0,.bool false,.slice none 0 0,.slice none 0 0,.int .i64 0,.bool false,.slice C2 (dg 1).length k2,.slice none 0 0] 44));have hx2:Ext w2 W2:=by rw [<- hW2]; exact (Ext.refl w2).alloc _
   have hpl:=HF.out W2 hx2 (fun j hj=>by
    rcases (show j=0\/j=1\/j=2\/j=3\/j=4\/j=5\/j=6\/j=7 by omega) with rfl | rfl | rfl | rfl | rfl | rfl | rfl | rfl <;> (rw [<- hW2]; simp [go_sem])) (by rw [<- hW2]; simp)
   have aqv:=hzn.ext hx2 (by omega);have HFN:=hid (zdm (q':=fun b=>w.heap.size<=b) ((HWX.out.trans x2).trans hx2) (pf _) aqv hpl (fun b _ hb=>⟨by omega,by omega⟩));obtain ⟨⟨z0,z1,z2',z3⟩,zf⟩:=aqv;clear x2 m2 hzn hpl hx2 HF;go_wp2_with fail;exact bodyPost_ret (by simp [results,Tryz.results100,go_sem,z0,z1,z2',z3,plV,Pl.lv,Pl.neg,Pl.cs]) rfl HFN.out
 · have hv:Pl.var n=Pl.zero:=if_neg h;rw [hv];have HL2:Hid (Calls Tryz.prog 132 #[.int .i64 n] W fun e w'=>e=.returned (.bool false)/\w'=W):=by
    rw [show (decide (1<=n) && decide (n<=4))=false by simp; omega] at HL;exact HL
   have HFN:=hid (zdm (q':=fun b=>w.heap.size<=b) HWX.out (pf _) HZ.out (Pl.qV W (fun b=>w.heap.size<=b/\b ≠ w.heap.size) none 0 (by decide)) (fun b _ hb=>⟨hb.2,hb.1⟩));obtain ⟨⟨z0,z1,z2',z3⟩,zf⟩:=HZ.out;clear hv HL h;go_enter Tryz.func100,Tryz.ntmps100;go_wp2_with fail;clear hW;refine HL2.out.mono ?_;rintro e w1 ⟨rfl,rfl⟩;go_wp2_with fail;exact bodyPost_ret (by simp [results,Tryz.results100,go_sem,z0,z1,z2',z3,plV,Pl.zero,Pl.lv,Pl.neg,Pl.cs]) rfl HFN.out
attribute [local go_sem] uds ydr qdt kds zdt wds vds ydp xdr gds xdt udv qdn ydt xdp
section
variable {w0:World} {L gb bl:Nat} {g:ByteArray->Int}
theorem xfp {s:ByteArray}:wdt w0 L gb bl g (.name s):=by
 intro v W hx0 h hp hw;obtain rfl:=h;obtain ⟨W1,hW⟩:=n_m ((W.alloc (.cells #[.int .i64 0,.bool false,.slice none 0 0,.slice none 0 0] 44)).alloc (.cells #[.string s] 73));have hWx:Ext W W1:=by rw [<- hW]; exact ((Ext.refl W).alloc _).alloc _
 have hs0:W1.heap.size=W.heap.size+2:=by rw [<- hW]; simp
 have HX0:=hid hWx;have HZ:Hid (zdl W1 W.heap.size):=hid (by rw [<- hW]; exact (zdl.new W _).ext ((Ext.refl _).alloc _) (by simp));have d0:W1.cell? ⟨W.heap.size+1,0,none⟩=some (.string s):=by rw [<- hW]; simp [go_sem]
 have hgl:gb < W.heap.size:=hp.2.1;have HP:=hid hp;have HS:Hid (∀ W',Ext W1 W'->(Ext W W'/\W'.cell? ⟨gb,2,none⟩=some (.map (some bl))/\W'.cell? ⟨W.heap.size+1,0,none⟩=some (.string s))):=by
  intro W' hx;exact ⟨HX0.out.trans hx,(HP.out.ext (HX0.out.trans hx)).1,(hx.cell (p:=⟨W.heap.size+1,0,none⟩) (by show W.heap.size+1 < _; omega)).trans d0⟩
 have HS2:Hid (∀ W'' u0 u1 u2 u3,Ext W1 W''->∀ W',W'=(((W''.setCell ⟨W.heap.size,0,none⟩ u0).setCell ⟨W.heap.size,1,none⟩ u1).setCell ⟨W.heap.size,2,none⟩ u2).setCell ⟨W.heap.size,3,none⟩ u3->(Ext W W'/\W'.cell? ⟨gb,2,none⟩=some (.map (some bl))/\W'.cell? ⟨W.heap.size+1,0,none⟩=some (.string s))):=by
  intro W'' u0 u1 u2 u3 hx W' hW';obtain ⟨s1,k0,k1⟩:=HS.out W'' hx;rw [hW'];refine ⟨(((s1.setCell (by simp) _).setCell (by simp) _).setCell (by simp) _).setCell (by simp) _,?_,?_⟩ <;> rw [pe _ _ _ _ (by simp; try omega),pe _ _ _ _ (by simp; try omega),pe _ _ _ _ (by simp; try omega),pe _ _ _ _ (by simp; try omega)] <;> assumption
 have afe:=(hp.2.2.ext (hWx.drew)).look s;rw [show wdm g (.name s)=Pl.var (g s) from rfl];clear hx0 hp hw hWx;generalize g s=n at *;go_enter uV,uK;go_wp2_with fail;clear hW d0;have yy0:Ext W1 W1.drew:=(Ext.refl W1).drew;have Y0:=hid yy0;clear yy0
 go_region_held3 (fun W' => Ext W W' /\ W'.cell? ⟨gb, 2, none⟩ = some (.map (some bl)) /\ W'.cell? ⟨W.heap.size + 1, 0, none⟩ = some (.string s))
  (first | with_reducible exact HS.out _ Y0.out | with_reducible exact HS.out _ yy3 | with_reducible exact HS2.out _ _ _ _ _ yy3 _ rfl)
  ((go_at_call 100
    refine (wf7 n _).mono ?_;rintro e w3 ⟨z3,rfl,m3,x3⟩;obtain ⟨C3,i3,j3,D3,k3,rfl,-⟩:=id m3.open_;have yy3:Ext W1 w3:=Ext.trans Y0.out x3;obtain ⟨⟨r0,r1,r2,r3⟩,rf⟩:=HZ.out.ext yy3 (by omega)
    unfold plV))
 all_goals
  have hzn:=HZ.out.ext yy3 (by omega);have hsn:=(yy3:Ext W1 _).size;have hsp:=Y0.out.size;have HF:=hid (zdm (q':=fun b=>W.heap.size<=b) (HX0.out.trans yy3) (by omega) hzn m3 (fun b _ hb=>⟨by omega,by omega⟩));clear m3 x3 yy3 HS HS2 HZ afe
  try unfold plV
  go_wp2_with fail;exact bodyPost_ret (by simp [results,tM,go_sem,r0,r1,r2,r3,plV]) rfl HF.out
end
end Go.Proofs.YtheefiaoimbeiaaGreatDoor

namespace Go.Proofs.YtheefiaoimbeiaaGreatDoor
open Lib (hid)
open Go.RowKit
attribute [local go_sem] uds ydr qdt kds zdt wds vds ydp xdr gds xdt udv qdn ydt xdp
section
variable {w0:World} {L gb bl:Nat} {g:ByteArray->Int}
theorem yfz (hL:L<=1000000000000) {z:Int}:wdt w0 L gb bl g (.num z):=by
 intro v W hx0 h hp hw;obtain ⟨x,rfl,hx⟩:=h;have HX:=hid (hx.ext hx0);obtain ⟨b1,A1,n1,c1,rfl⟩:=hx.unpack;rw [show wdm g (.num z)=Pl.const z from rfl];clear hx hx0 hp hw;go_enter uV,uK;go_wp2_with fail;obtain ⟨W1,hW⟩:=n_m ((W.alloc (.cells #[.int .i64 0,.bool false,.slice none 0 0,.slice none 0 0] 44)).alloc (.cells #[.bool b1,.slice A1 n1 c1] 110));have hWx:Ext W W1:=by rw [<- hW]; exact ((Ext.refl W).alloc _).alloc _
 have hWs:W1.heap.size=W.heap.size+1+1:=by rw [<- hW]; simp
 have hZ:zdl W1 W.heap.size:=by rw [<- hW]; exact (zdl.new W _).ext ((Ext.refl _).alloc _) (by simp)
 rw [hW];clear hW;refine (qeh _ (HX.out.ext hWx) (by omega)).mono ?_;rintro e w3 ⟨z3,rfl,m3,y3⟩;obtain ⟨C3,i3,j3,D3,k3,rfl,-⟩:=id m3.open_;have hzn:=hZ.ext y3 (by omega);have hsn:=y3.size;have HF:=hid (zdm (q':=fun b=>W.heap.size<=b) (hWx.trans y3) (pf _) hzn m3 (fun b _ hb=>⟨by omega,by omega⟩));obtain ⟨⟨r0,r1,r2,r3⟩,rf⟩:=hzn;clear hZ hWx hWs y3 m3;unfold plV;go_wp2_with fail;exact bodyPost_ret (by simp [results,tM,go_sem,r0,r1,r2,r3,plV]) rfl HF.out
theorem xfz {a:Tm} (iha:wdt w0 L gb bl g a):wdt w0 L gb bl g (.neg a):=by
 intro v W hx0 h hp hw;have hwa:a.wt<=400:=hw;obtain ⟨x,rfl,hx⟩:=h;have HFA:=hid ((qdz g a hwa).xh (by omega));have HA:=hid (fun W' (k:Ext W W')=>iha x W' (hx0.trans k) hx (hp.ext k) hwa);obtain ⟨T,x,rfl⟩:=hx.iface;rw [show wdm g (.neg a)=(wdm g a).xJ from rfl];clear hx iha hp hx0 hw hwa;generalize wdm g a=p at *;go_enter uV,uK;go_wp2_with fail;obtain ⟨W1,hW⟩:=n_m ((W.alloc (.cells #[.int .i64 0,.bool false,.slice none 0 0,.slice none 0 0] 44)).alloc (.cells #[.iface T x] 171));have hWx:Ext W W1:=by rw [<- hW]; exact ((Ext.refl W).alloc _).alloc _
 have hWs:W1.heap.size=W.heap.size+1+1:=by rw [<- hW]; simp
 have hZ:zdl W1 W.heap.size:=by rw [<- hW]; exact (zdl.new W _).ext ((Ext.refl _).alloc _) (by simp)
 rw [hW];clear hW;refine (HA.out _ hWx).mono ?_;rintro e w1 ⟨z1,rfl,m1,x1⟩;have M1:=hid m1;have X1:=hid x1;have HWX:=hid hWx;have HZ:=hid hZ;have HWS:=hid hWs;obtain ⟨C1,i1,j1,D1,k1,rfl,-⟩:=id m1.open_;clear m1 x1 hWx hZ hWs;unfold plV at M1 ⊢;go_wp2_with fail;refine (zfy _ M1.out HFA.out (by omega) (by omega)).mono ?_;rintro e w3 ⟨z3,rfl,m3,x3⟩;have hWx:=HWX.out;have hZ:=HZ.out;have hWs:=HWS.out;have y3:=X1.out.trans x3;obtain ⟨C3,i3,j3,D3,k3,rfl,-⟩:=id m3.open_;have hzn:=hZ.ext y3 (by omega);have hsn:=y3.size;have hs1:=X1.out.size;have HF:=hid (zdm (q':=fun b=>W.heap.size<=b) (hWx.trans y3) (pf _) hzn m3 (fun b _ hb=>⟨by omega,by omega⟩));obtain ⟨⟨r0,r1,r2,r3⟩,rf⟩:=hzn;clear hZ hWx hWs y3 m3
 try unfold plV
 go_wp2_with fail;exact bodyPost_ret (by simp [results,tM,go_sem,r0,r1,r2,r3,plV]) rfl HF.out
theorem zfz {a:Tm} {n:Int} (iha:wdt w0 L gb bl g a):wdt w0 L gb bl g (.pow a n):=by
 intro v W hx0 h hp hw;obtain ⟨hw1,hwa,hn1,hn2,hn3⟩:=jex hw;have hmul:(n.toNat+1) * a.wt.toNat<=800:=by
  have h0:=a.qx;rw [hw1] at hw;obtain ⟨m,hm⟩:∃ m:Nat,wdj n 1=m:=⟨(wdj n 1).toNat,by omega⟩;obtain ⟨k,hk⟩:∃ k:Nat,a.wt=k:=⟨a.wt.toNat,by omega⟩;rw [hm,hk] at hw;have h1:m * k<=400:=by exact_mod_cast hw
  rw [hk,rV];have h2:n.toNat * k<=m * k:=pE _ (by omega);rw [Nat.succ_mul];omega
 obtain ⟨x,rfl,hx⟩:=h;have agk:=(qdz g a hwa).fit;have HFA:=hid agk;have HA:=hid (fun W' (k:Ext W W')=>iha x W' (hx0.trans k) hx (hp.ext k) hwa);obtain ⟨T,x,rfl⟩:=hx.iface;rw [show wdm g (.pow a n)=(wdm g a).pow n.toNat from rfl];have anP:(n.toNat+1) * (a.wt.toNat+1)<=1300:=by rw [pD]; omega
 clear hx iha hp hx0 hw hw1 agk;generalize wdm g a=p at *;generalize a.wt.toNat=k at *;have HM1:=hid hmul;have HM2:=hid anP;have hn:n<=400:=by omega
 clear hmul anP hwa hn1 hn2 hn3;obtain ⟨W1,hW⟩:=n_m ((W.alloc (.cells #[.int .i64 0,.bool false,.slice none 0 0,.slice none 0 0] 44)).alloc (.cells #[.iface T x,.int .i64 n] 173));have HX0:Hid (Ext W W1):=hid (by rw [<- hW]; exact ((Ext.refl W).alloc _).alloc _);have hs0:W1.heap.size=W.heap.size+2:=by rw [<- hW]; simp
 have HZ:Hid (zdl W1 W.heap.size):=hid (by rw [<- hW]; exact (zdl.new W _).ext ((Ext.refl _).alloc _) (by simp));have HS:Hid (∀ W',Ext W1 W'->(Ext W W'/\W'.cell? ⟨W.heap.size+1,0,none⟩=some (.iface T x)/\W'.cell? ⟨W.heap.size+1,1,none⟩=some (.int .i64 n))):=by
  intro W' hx;obtain ⟨hc,hf⟩:=hx.cells;refine ⟨HX0.out.trans hx,?_,?_⟩ <;> (rw [hc _ _ (by omega),<- hW]; simp [go_sem])
 have HS2:Hid (∀ W'' u0 u1 u2 u3,Ext W1 W''->∀ W',W'=(((W''.setCell ⟨W.heap.size,0,none⟩ u0).setCell ⟨W.heap.size,1,none⟩ u1).setCell ⟨W.heap.size,2,none⟩ u2).setCell ⟨W.heap.size,3,none⟩ u3->(Ext W W'/\W'.cell? ⟨W.heap.size+1,0,none⟩=some (.iface T x)/\W'.cell? ⟨W.heap.size+1,1,none⟩=some (.int .i64 n))):=by
  intro W'' u0 u1 u2 u3 hx W' hW';obtain ⟨s1,k0,k1⟩:=HS.out W'' hx;rw [hW'];refine ⟨(((s1.setCell (by simp) _).setCell (by simp) _).setCell (by simp) _).setCell (by simp) _,?_,?_⟩ <;> rw [pe _ _ _ _ (by simp; try omega),pe _ _ _ _ (by simp; try omega),pe _ _ _ _ (by simp; try omega),pe _ _ _ _ (by simp; try omega)] <;> assumption
 go_enter uV,uK;go_wp2_with fail;clear hW;have yy0:Ext W1 W1.drew:=(Ext.refl W1).drew;have Y0:=hid yy0;clear yy0
 go_region_held3 (fun W' => Ext W W' /\ W'.cell? ⟨W.heap.size + 1, 0, none⟩ = some (.iface T x) /\ W'.cell? ⟨W.heap.size + 1, 1, none⟩ = some (.int .i64 n))
  (first | with_reducible exact HS.out _ Y0.out | with_reducible exact HS.out _ yy1 | with_reducible exact HS.out _ yy3 | with_reducible exact HS2.out _ _ _ _ _ yy3 _ rfl)
  (first
    | (go_at_call 66
       refine (HA.out _ (HX0.out.trans Y0.out)).mono ?_;rintro e w1 ⟨z1,rfl,m1,x1⟩;obtain ⟨C1,i1,j1,D1,k1,rfl,-⟩:=id m1.open_;have yy1:Ext W1 w1:=Ext.trans Y0.out x1
       unfold plV)
    | (go_at_call 104
       refine (zf6 _ m1 HFA.out (by have:=HM1.out; omega) (by have:=HM2.out; omega) (by omega)).mono ?_;rintro e w3 ⟨z3,rfl,m3,x3⟩;obtain ⟨C3,i3,j3,D3,k3,rfl,-⟩:=id m3.open_;have yy3:Ext W1 w3:=Ext.trans yy1 x3;obtain ⟨⟨r0,r1,r2,r3⟩,rf⟩:=HZ.out.ext yy3 (by omega)
       unfold plV))
 all_goals
  have hzn:=HZ.out.ext yy3 (by omega);have hsn:=(yy3:Ext W1 _).size;have hsp:=(yy1:Ext W1 _).size;have HF:=hid (zdm (q':=fun b=>W.heap.size<=b) (HX0.out.trans yy3) (by omega) hzn m3 (fun b _ hb=>⟨by omega,by omega⟩));clear m1 m3 x1 x3 yy1 yy3 HS HS2 HZ
  try unfold plV
  go_wp2_with fail;exact bodyPost_ret (by simp [results,tM,go_sem,r0,r1,r2,r3,plV]) rfl HF.out
theorem kft (hL:L<=1000000000000) (t:Tm):wdt w0 L gb bl g t:=by
 induction t with
 | num z=>exact yfz hL
 | name s=>exact xfp
 | add a b iha ihb=>exact jfz iha ihb
 | sub a b iha ihb=>exact gfy iha ihb
 | mul a b iha ihb=>exact qfz iha ihb
 | neg a iha=>exact xfz iha
 | pow a n iha=>exact zfz iha
end
end Go.Proofs.YtheefiaoimbeiaaGreatDoor
