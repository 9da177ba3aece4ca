/- Layer 40: the value of a term. -/
import Derived.Test.YtopddaabiinboaaGreatMp7
import Derived.Test.YtopddaabiinboaaGreatMp24
import Derived.Test.YtopddaabiinboaaGreatMp14
set_option linter.unusedSimpArgs false
set_option linter.unusedVariables false

set_option maxRecDepth 100000
set_option maxHeartbeats 8000000
namespace Go.Proofs.YtopddaabiinboaaGreat
open Go.RowKit
attribute [local go_sem] gdg jde jdh vdg ydh zdh udg gdb kde wdg qdh wgt uc9 xdh wdb
def zgu (w:World) (g:Nat):Prop:=(w.cell? ⟨g,0,none⟩=some (.bool false)/\w.cell? ⟨g,1,none⟩=some (.slice none 0 0)/\w.cell? ⟨g,2,none⟩=some (.slice none 0 0))/\w.frozen? ⟨g,0,none⟩=false/\w.frozen? ⟨g,1,none⟩=false/\w.frozen? ⟨g,2,none⟩=false
theorem zgu.ext {w w':World} {g:Nat} (h:zgu w g) (hx:Ext w w') (hg:g < w.heap.size):zgu w' g:=by
 obtain ⟨⟨h0,h1,h2⟩,f0,f1,f2⟩:=h;have k:∀ i,w'.cell? ⟨g,i,none⟩=w.cell? ⟨g,i,none⟩:=fun i=>hx.cell (p:=⟨g,i,none⟩) hg
 have f:∀ i,w'.frozen? ⟨g,i,none⟩=w.frozen? ⟨g,i,none⟩:=fun i=>hx.frozen (p:=⟨g,i,none⟩) hg
 exact ⟨⟨(k _).trans h0,(k _).trans h1,(k _).trans h2⟩,(f _).trans f0,(f _).trans f1,(f _).trans f2⟩
theorem gdh (w:World) (t:TypeId):zgu (w.alloc (.cells #[.bool false,.slice none 0 0,.slice none 0 0] t)) w.heap.size:=by
 refine ⟨⟨?_,?_,?_⟩,?_,?_,?_⟩ <;> simp [go_sem]
def vgu (w0:World) (L b:Nat) (g:ByteArray->Option Rat) (t:Tm):Prop:=∀ (v:Value) (w:World),Ext w0 w->TmV w0 L t v->Calls Tryz.prog 88 #[.map (some b),v] w (vc6 (t.val g) w)
section
variable {w0 w:World} {L b:Nat} {g:ByteArray->Option Rat}
theorem vix {a c:Tm} {v:Value} (hL:1<=L) (hgl:∀ s q,g s=some q->rlen q<=L) (h:TmV w0 L (.add a c) v) (hx0:Ext w0 w) (hcv:(Tm.add a c).covered g) (hbt:(Tm.add a c).bt L<=1000000000000) (iha:vgu w0 L b g a) (ihc:vgu w0 L b g c) :
 Calls Tryz.prog 88 #[.map (some b),v] w (vc6 ((Tm.add a c).val g) w):=by
 have IHA:=Lib.hid iha;have IHC:=Lib.hid ihc;have HX0:=Lib.hid hx0;obtain ⟨x,y,rfl,hx,hy⟩:=h;have HX:=Lib.hid hx;have HY:=Lib.hid hy;have h1:=wdi hL hgl hx hcv.1;have h2:=wdi hL hgl hy hcv.2;have hp1:=uc8 (a.val g);have hp2:=uc8 (c.val g);have hbt':a.bt L+c.bt L<=1000000000000:=by simp only [Tm.bt] at hbt; omega
 obtain ⟨T,x,rfl⟩:=hx.iface;obtain ⟨U,y,rfl⟩:=hy.iface;show Calls _ _ _ _ (vc6 (a.val g+c.val g) w);clear hx hy iha ihc hx0 hgl hcv hbt;go_enter Tryz.func88,Tryz.ntmps88;go_wp2_with fail;obtain ⟨W,hW⟩:=n_m ((w.alloc (.cells #[.bool false,.slice none 0 0,.slice none 0 0] 37)).alloc (.cells #[.iface T x,.iface U y] 199));have hWx:Ext w W:=by rw [<- hW]; exact ((Ext.refl w).alloc _).alloc _
 have hWs:W.heap.size=w.heap.size+1+1:=by rw [<- hW]; simp
 have hZ:zgu W w.heap.size:=by rw [<- hW]; exact (gdh w _).ext ((Ext.refl _).alloc _) (by simp)
 have HB:Hid (∀ W',Ext W W'->(Ext w W'/\W'.cell? ⟨w.heap.size+1,0,none⟩=some (.iface T x)/\W'.cell? ⟨w.heap.size+1,1,none⟩=some (.iface U y))):=by
  intro W' hx;obtain ⟨hc,hf⟩:=hx.cells;refine ⟨hWx.trans hx,?_,?_⟩ <;> (rw [hc _ _ (by omega),<- hW]; simp [go_sem])
 have HB2:Hid (∀ W',Ext W W'->∀ u0 u1 u2 W2,W2=((W'.setCell ⟨w.heap.size,0,none⟩ u0).setCell ⟨w.heap.size,1,none⟩ u1).setCell ⟨w.heap.size,2,none⟩ u2->(Ext w W2/\W2.cell? ⟨w.heap.size+1,0,none⟩=some (.iface T x)/\W2.cell? ⟨w.heap.size+1,1,none⟩=some (.iface U y))):=by
  intro W' hx u0 u1 u2 W2 e;obtain ⟨k0,k1,k2⟩:=HB.out _ hx;rw [e];refine ⟨((k0.setCell (Nat.le_refl _) _).setCell (Nat.le_refl _) _).setCell (Nat.le_refl _) _,?_,?_⟩ <;> rw [World.cell?_setCell_other _ _ _ _ (by intro e; injection e; omega),World.cell?_setCell_other _ _ _ _ (by intro e; injection e; omega),World.cell?_setCell_other _ _ _ _ (by intro e; injection e; omega)] <;> assumption
 have HZ:=Lib.hid hZ;have HWX:=Lib.hid hWx;have HWS:=Lib.hid hWs;rw [hW];clear hW hZ hWx hWs;have y0:Ext W W.drew:=(Ext.refl W).drew;have Y0:=Lib.hid y0;clear y0
 go_region_held3 (fun W' => Ext w W' /\ W'.cell? ⟨w.heap.size + 1, 0, none⟩ = some (.iface T x) /\ W'.cell? ⟨w.heap.size + 1, 1, none⟩ = some (.iface U y))
  (first | with_reducible exact HB.out _ Y0.out | with_reducible exact HB.out _ y1 | with_reducible exact HB.out _ y2 | with_reducible exact HB.out _ y3 | exact HB2.out _ y3 _ _ _ _ rfl)
  (first
    | (go_at_call_of 88 (Value.iface T x)
       refine (IHA.out _ _ (HX0.out.trans (HWX.out.trans Y0.out)) HX.out).mono ?_;rintro e v1 ⟨z1,rfl,m1,x1⟩;obtain ⟨b1,A1,n1,c1,B1,k1,d1,rfl⟩:=m1.unpack
       have y1:Ext W v1:=Ext.trans Y0.out x1)
    | (go_at_call_of 88 (Value.iface U y)
       refine (IHC.out _ _ (HX0.out.trans (HWX.out.trans y1)) HY.out).mono ?_;rintro e v2 ⟨z2,rfl,m2,x2⟩;obtain ⟨b2,A2,n2,c2,B2,k2,d2,rfl⟩:=m2.unpack
       have y2:Ext W v2:=Ext.trans y1 x2)
    | (go_at_call 76
       refine (jh6 _ _ (a.val g) (c.val g) (rlen (a.val g)) (rlen (c.val g)) _ (m1.raw.ext x2) m2.raw hp1 hp2 (by omega)).mono ?_;rintro e v3 ⟨z3,rfl,m3,x3⟩;obtain ⟨b3,A3,n3,c3,B3,k3,d3,rfl⟩:=m3.unpack;have y3:Ext W v3:=Ext.trans y2 x3
       obtain ⟨⟨r0,r1,r2⟩,f0,f1,f2⟩:=HZ.out.ext y3 (by have:=HWS.out; omega)))
 have HF:=Lib.hid (yc7 (g:=w.heap.size) (HWX.out.trans y3) (Nat.le_refl _) r0 r1 r2 rfl rfl rfl m3);clear HB HB2 HZ HWX HWS HX0 IHA IHC HX HY m1 m2 m3 x1 x2 x3 y1 y2 y3 Y0;go_wp2_with fail;exact bodyPost_ret (v:=.agg #[.bool b3,.slice A3 n3 c3,.slice B3 k3 d3]) (by simp [results,Tryz.results88,go_sem,r0,r1,r2]) rfl HF.out
theorem xix {a c:Tm} {v:Value} (hL:1<=L) (hgl:∀ s q,g s=some q->rlen q<=L) (h:TmV w0 L (.sub a c) v) (hx0:Ext w0 w) (hcv:(Tm.sub a c).covered g) (hbt:(Tm.sub a c).bt L<=1000000000000) (iha:vgu w0 L b g a) (ihc:vgu w0 L b g c) :
 Calls Tryz.prog 88 #[.map (some b),v] w (vc6 ((Tm.sub a c).val g) w):=by
 have IHA:=Lib.hid iha;have IHC:=Lib.hid ihc;have HX0:=Lib.hid hx0;obtain ⟨x,y,rfl,hx,hy⟩:=h;have HX:=Lib.hid hx;have HY:=Lib.hid hy;have h1:=wdi hL hgl hx hcv.1;have h2:=wdi hL hgl hy hcv.2;have hp1:=uc8 (a.val g);have hp2:=uc8 (c.val g);have hbt':a.bt L+c.bt L<=1000000000000:=by simp only [Tm.bt] at hbt; omega
 obtain ⟨T,x,rfl⟩:=hx.iface;obtain ⟨U,y,rfl⟩:=hy.iface;show Calls _ _ _ _ (vc6 (a.val g - c.val g) w);clear hx hy iha ihc hx0 hgl hcv hbt;go_enter Tryz.func88,Tryz.ntmps88;go_wp2_with fail;obtain ⟨W,hW⟩:=n_m ((w.alloc (.cells #[.bool false,.slice none 0 0,.slice none 0 0] 37)).alloc (.cells #[.iface T x,.iface U y] 200));have hWx:Ext w W:=by rw [<- hW]; exact ((Ext.refl w).alloc _).alloc _
 have hWs:W.heap.size=w.heap.size+1+1:=by rw [<- hW]; simp
 have hZ:zgu W w.heap.size:=by rw [<- hW]; exact (gdh w _).ext ((Ext.refl _).alloc _) (by simp)
 have HB:Hid (∀ W',Ext W W'->(Ext w W'/\W'.cell? ⟨w.heap.size+1,0,none⟩=some (.iface T x)/\W'.cell? ⟨w.heap.size+1,1,none⟩=some (.iface U y))):=by
  intro W' hx;obtain ⟨hc,hf⟩:=hx.cells;refine ⟨hWx.trans hx,?_,?_⟩ <;> (rw [hc _ _ (by omega),<- hW]; simp [go_sem])
 have HB2:Hid (∀ W',Ext W W'->∀ u0 u1 u2 W2,W2=((W'.setCell ⟨w.heap.size,0,none⟩ u0).setCell ⟨w.heap.size,1,none⟩ u1).setCell ⟨w.heap.size,2,none⟩ u2->(Ext w W2/\W2.cell? ⟨w.heap.size+1,0,none⟩=some (.iface T x)/\W2.cell? ⟨w.heap.size+1,1,none⟩=some (.iface U y))):=by
  intro W' hx u0 u1 u2 W2 e;obtain ⟨k0,k1,k2⟩:=HB.out _ hx;rw [e];refine ⟨((k0.setCell (Nat.le_refl _) _).setCell (Nat.le_refl _) _).setCell (Nat.le_refl _) _,?_,?_⟩ <;> rw [World.cell?_setCell_other _ _ _ _ (by intro e; injection e; omega),World.cell?_setCell_other _ _ _ _ (by intro e; injection e; omega),World.cell?_setCell_other _ _ _ _ (by intro e; injection e; omega)] <;> assumption
 have HZ:=Lib.hid hZ;have HWX:=Lib.hid hWx;have HWS:=Lib.hid hWs;rw [hW];clear hW hZ hWx hWs;have y0:Ext W W.drew:=(Ext.refl W).drew;have Y0:=Lib.hid y0;clear y0
 go_region_held3 (fun W' => Ext w W' /\ W'.cell? ⟨w.heap.size + 1, 0, none⟩ = some (.iface T x) /\ W'.cell? ⟨w.heap.size + 1, 1, none⟩ = some (.iface U y))
  (first | with_reducible exact HB.out _ Y0.out | with_reducible exact HB.out _ y1 | with_reducible exact HB.out _ y2 | with_reducible exact HB.out _ y3 | exact HB2.out _ y3 _ _ _ _ rfl)
  (first
    | (go_at_call_of 88 (Value.iface T x)
       refine (IHA.out _ _ (HX0.out.trans (HWX.out.trans Y0.out)) HX.out).mono ?_;rintro e v1 ⟨z1,rfl,m1,x1⟩;obtain ⟨b1,A1,n1,c1,B1,k1,d1,rfl⟩:=m1.unpack
       have y1:Ext W v1:=Ext.trans Y0.out x1)
    | (go_at_call_of 88 (Value.iface U y)
       refine (IHC.out _ _ (HX0.out.trans (HWX.out.trans y1)) HY.out).mono ?_;rintro e v2 ⟨z2,rfl,m2,x2⟩;obtain ⟨b2,A2,n2,c2,B2,k2,d2,rfl⟩:=m2.unpack
       have y2:Ext W v2:=Ext.trans y1 x2)
    | (go_at_call 121
       refine (yiy _ _ (a.val g) (c.val g) (rlen (a.val g)) (rlen (c.val g)) _ (m1.raw.ext x2) m2.raw hp1 hp2 (by omega)).mono ?_;rintro e v3 ⟨z3,rfl,m3,x3⟩;obtain ⟨b3,A3,n3,c3,B3,k3,d3,rfl⟩:=m3.unpack;have y3:Ext W v3:=Ext.trans y2 x3
       obtain ⟨⟨r0,r1,r2⟩,f0,f1,f2⟩:=HZ.out.ext y3 (by have:=HWS.out; omega)))
 have HF:=Lib.hid (yc7 (g:=w.heap.size) (HWX.out.trans y3) (Nat.le_refl _) r0 r1 r2 rfl rfl rfl m3);clear HB HB2 HZ HWX HWS HX0 IHA IHC HX HY m1 m2 m3 x1 x2 x3 y1 y2 y3 Y0;go_wp2_with fail;exact bodyPost_ret (v:=.agg #[.bool b3,.slice A3 n3 c3,.slice B3 k3 d3]) (by simp [results,Tryz.results88,go_sem,r0,r1,r2]) rfl HF.out
theorem val_mul {a c:Tm} {v:Value} (hL:1<=L) (hgl:∀ s q,g s=some q->rlen q<=L) (h:TmV w0 L (.mul a c) v) (hx0:Ext w0 w) (hcv:(Tm.mul a c).covered g) (hbt:(Tm.mul a c).bt L<=1000000000000) (iha:vgu w0 L b g a) (ihc:vgu w0 L b g c) :
 Calls Tryz.prog 88 #[.map (some b),v] w (vc6 ((Tm.mul a c).val g) w):=by
 have IHA:=Lib.hid iha;have IHC:=Lib.hid ihc;have HX0:=Lib.hid hx0;obtain ⟨x,y,rfl,hx,hy⟩:=h;have HX:=Lib.hid hx;have HY:=Lib.hid hy;have h1:=wdi hL hgl hx hcv.1;have h2:=wdi hL hgl hy hcv.2;have hp1:=uc8 (a.val g);have hp2:=uc8 (c.val g);have hbt':a.bt L+c.bt L<=1000000000000:=by simp only [Tm.bt] at hbt; omega
 obtain ⟨T,x,rfl⟩:=hx.iface;obtain ⟨U,y,rfl⟩:=hy.iface;show Calls _ _ _ _ (vc6 (a.val g * c.val g) w);clear hx hy iha ihc hx0 hgl hcv hbt;go_enter Tryz.func88,Tryz.ntmps88;go_wp2_with fail;obtain ⟨W,hW⟩:=n_m ((w.alloc (.cells #[.bool false,.slice none 0 0,.slice none 0 0] 37)).alloc (.cells #[.iface T x,.iface U y] 201));have hWx:Ext w W:=by rw [<- hW]; exact ((Ext.refl w).alloc _).alloc _
 have hWs:W.heap.size=w.heap.size+1+1:=by rw [<- hW]; simp
 have hZ:zgu W w.heap.size:=by rw [<- hW]; exact (gdh w _).ext ((Ext.refl _).alloc _) (by simp)
 have HB:Hid (∀ W',Ext W W'->(Ext w W'/\W'.cell? ⟨w.heap.size+1,0,none⟩=some (.iface T x)/\W'.cell? ⟨w.heap.size+1,1,none⟩=some (.iface U y))):=by
  intro W' hx;obtain ⟨hc,hf⟩:=hx.cells;refine ⟨hWx.trans hx,?_,?_⟩ <;> (rw [hc _ _ (by omega),<- hW]; simp [go_sem])
 have HB2:Hid (∀ W',Ext W W'->∀ u0 u1 u2 W2,W2=((W'.setCell ⟨w.heap.size,0,none⟩ u0).setCell ⟨w.heap.size,1,none⟩ u1).setCell ⟨w.heap.size,2,none⟩ u2->(Ext w W2/\W2.cell? ⟨w.heap.size+1,0,none⟩=some (.iface T x)/\W2.cell? ⟨w.heap.size+1,1,none⟩=some (.iface U y))):=by
  intro W' hx u0 u1 u2 W2 e;obtain ⟨k0,k1,k2⟩:=HB.out _ hx;rw [e];refine ⟨((k0.setCell (Nat.le_refl _) _).setCell (Nat.le_refl _) _).setCell (Nat.le_refl _) _,?_,?_⟩ <;> rw [World.cell?_setCell_other _ _ _ _ (by intro e; injection e; omega),World.cell?_setCell_other _ _ _ _ (by intro e; injection e; omega),World.cell?_setCell_other _ _ _ _ (by intro e; injection e; omega)] <;> assumption
 have HZ:=Lib.hid hZ;have HWX:=Lib.hid hWx;have HWS:=Lib.hid hWs;rw [hW];clear hW hZ hWx hWs;have y0:Ext W W.drew:=(Ext.refl W).drew;have Y0:=Lib.hid y0;clear y0
 go_region_held3 (fun W' => Ext w W' /\ W'.cell? ⟨w.heap.size + 1, 0, none⟩ = some (.iface T x) /\ W'.cell? ⟨w.heap.size + 1, 1, none⟩ = some (.iface U y))
  (first | with_reducible exact HB.out _ Y0.out | with_reducible exact HB.out _ y1 | with_reducible exact HB.out _ y2 | with_reducible exact HB.out _ y3 | exact HB2.out _ y3 _ _ _ _ rfl)
  (first
    | (go_at_call_of 88 (Value.iface T x)
       refine (IHA.out _ _ (HX0.out.trans (HWX.out.trans Y0.out)) HX.out).mono ?_;rintro e v1 ⟨z1,rfl,m1,x1⟩;obtain ⟨b1,A1,n1,c1,B1,k1,d1,rfl⟩:=m1.unpack
       have y1:Ext W v1:=Ext.trans Y0.out x1)
    | (go_at_call_of 88 (Value.iface U y)
       refine (IHC.out _ _ (HX0.out.trans (HWX.out.trans y1)) HY.out).mono ?_;rintro e v2 ⟨z2,rfl,m2,x2⟩;obtain ⟨b2,A2,n2,c2,B2,k2,d2,rfl⟩:=m2.unpack
       have y2:Ext W v2:=Ext.trans y1 x2)
    | (go_at_call 77
       refine (vhm _ _ (a.val g) (c.val g) (rlen (a.val g)) (rlen (c.val g)) _ (m1.raw.ext x2) m2.raw hp1 hp2 (by omega)).mono ?_;rintro e v3 ⟨z3,rfl,m3,x3⟩;obtain ⟨b3,A3,n3,c3,B3,k3,d3,rfl⟩:=m3.unpack;have y3:Ext W v3:=Ext.trans y2 x3
       obtain ⟨⟨r0,r1,r2⟩,f0,f1,f2⟩:=HZ.out.ext y3 (by have:=HWS.out; omega)))
 have HF:=Lib.hid (yc7 (g:=w.heap.size) (HWX.out.trans y3) (Nat.le_refl _) r0 r1 r2 rfl rfl rfl m3);clear HB HB2 HZ HWX HWS HX0 IHA IHC HX HY m1 m2 m3 x1 x2 x3 y1 y2 y3 Y0;go_wp2_with fail;exact bodyPost_ret (v:=.agg #[.bool b3,.slice A3 n3 c3,.slice B3 k3 d3]) (by simp [results,Tryz.results88,go_sem,r0,r1,r2]) rfl HF.out
theorem jix {z:Int} {v:Value} (h:TmV w0 L (.num z) v) (hx0:Ext w0 w) (hs:L<=1000000000000) :
 Calls Tryz.prog 88 #[.map (some b),v] w (vc6 ((Tm.num z).val g) w):=by
 obtain ⟨x,rfl,hx⟩:=h;have HX:=Lib.hid (hx.ext hx0);obtain ⟨b1,A1,n1,c1,rfl⟩:=hx.unpack;clear hx hx0;show Calls _ _ _ _ (vc6 (z:Rat) w);go_enter Tryz.func88,Tryz.ntmps88;go_wp2_with fail;obtain ⟨W,hW⟩:=n_m ((w.alloc (.cells #[.bool false,.slice none 0 0,.slice none 0 0] 37)).alloc (.cells #[.bool b1,.slice A1 n1 c1] 63));have hWx:Ext w W:=by rw [<- hW]; exact ((Ext.refl w).alloc _).alloc _
 have hWs:W.heap.size=w.heap.size+1+1:=by rw [<- hW]; simp
 have hZ:zgu W w.heap.size:=by rw [<- hW]; exact (gdh w _).ext ((Ext.refl _).alloc _) (by simp)
 rw [hW];clear hW;refine (khh _ z L _ (HX.out.ext hWx) (by omega)).mono ?_;rintro e v3 ⟨z3,rfl,m3,y3⟩;obtain ⟨b3,A3,n3,c3,B3,k3,d3,rfl⟩:=m3.unpack;obtain ⟨⟨r0,r1,r2⟩,f0,f1,f2⟩:=hZ.ext y3 (by omega);have HF:=Lib.hid (yc7 (g:=w.heap.size) (hWx.trans y3) (Nat.le_refl _) r0 r1 r2 rfl rfl rfl m3);clear hZ hWx hWs y3 m3;go_wp2_with fail;exact bodyPost_ret (v:=.agg #[.bool b3,.slice A3 n3 c3,.slice B3 k3 d3]) (by simp [results,Tryz.results88,go_sem,r0,r1,r2]) rfl HF.out
theorem vim {s:ByteArray} {v:Value} (hm:kdj w0 L b g) (h:TmV w0 L (.name s) v) (hx0:Ext w0 w) (hcv:(g s).isSome=true) (hL:1<=L) (hs:L<=1000000000000) :
 Calls Tryz.prog 88 #[.map (some b),v] w (vc6 ((Tm.name s).val g) w):=by
 obtain rfl:=h;obtain ⟨q,hq⟩:=Option.isSome_iff_exists.1 hcv;have hv:(Tm.name s).val g=q:=by show (g s).getD 0=q; rw [hq]; rfl
 rw [hv];obtain ⟨W,hW⟩:=n_m ((w.alloc (.cells #[.bool false,.slice none 0 0,.slice none 0 0] 37)).alloc (.cells #[.string s] 60));have hWx:Ext w W:=by rw [<- hW]; exact ((Ext.refl w).alloc _).alloc _
 have hWs:W.heap.size=w.heap.size+1+1:=by rw [<- hW]; simp
 have hZ:zgu W w.heap.size:=by rw [<- hW]; exact (gdh w _).ext ((Ext.refl _).alloc _) (by simp)
 have d0:W.cell? ⟨w.heap.size+1,0,none⟩=some (.string s):=by rw [<- hW]; simp [go_sem]
 obtain ⟨b1,A1,n1,c1,B1,k1,d1,hlook,hrl⟩:=(hm.ext (hx0.trans hWx)).look s;have hlo:=hlook false;simp only [Bool.false_eq_true,if_false] at hlo;have HR:=Lib.hid (hrl q hq);have HWX:=Lib.hid hWx;have HZ:=Lib.hid hZ;have HWS:=Lib.hid hWs;clear hlook hrl hv hm hx0 hcv hq hWx hZ hWs;go_enter Tryz.func88,Tryz.ntmps88;go_wp2_with fail;refine (zg8 _ q L _ HR.out hL (by omega)).mono ?_;rintro e v3 ⟨z3,rfl,m3,y3⟩;have hWx:=HWX.out;have hZ:=HZ.out;have hWs:=HWS.out;clear d0 hlo hW;obtain ⟨b3,A3,n3,c3,B3,k3,d3,rfl⟩:=m3.unpack;obtain ⟨⟨r0,r1,r2⟩,f0,f1,f2⟩:=hZ.ext y3 (by omega);have HF:=Lib.hid (yc7 (g:=w.heap.size) (hWx.trans y3) (Nat.le_refl _) r0 r1 r2 rfl rfl rfl m3);clear hZ hWx hWs y3 m3;go_wp2_with fail;exact bodyPost_ret (v:=.agg #[.bool b3,.slice A3 n3 c3,.slice B3 k3 d3]) (by simp [results,Tryz.results88,go_sem,r0,r1,r2]) rfl HF.out
theorem kix {a:Tm} {v:Value} (hL:1<=L) (hgl:∀ s q,g s=some q->rlen q<=L) (h:TmV w0 L (.neg a) v) (hx0:Ext w0 w) (hcv:(Tm.neg a).covered g) (hbt:(Tm.neg a).bt L<=1000000000000) (iha:vgu w0 L b g a) :
 Calls Tryz.prog 88 #[.map (some b),v] w (vc6 ((Tm.neg a).val g) w):=by
 obtain ⟨x,rfl,hx⟩:=h;have HX:=Lib.hid hx;have h1:=wdi hL hgl hx hcv;have hp1:=uc8 (a.val g);have hbt':a.bt L<=1000000000000:=hbt;obtain ⟨T,x,rfl⟩:=hx.iface;have IHA:=Lib.hid iha;show Calls _ _ _ _ (vc6 (-a.val g) w);clear hx hgl hcv hbt iha;go_enter Tryz.func88,Tryz.ntmps88;go_wp2_with fail;obtain ⟨W,hW⟩:=n_m ((w.alloc (.cells #[.bool false,.slice none 0 0,.slice none 0 0] 37)).alloc (.cells #[.iface T x] 197));have hWx:Ext w W:=by rw [<- hW]; exact ((Ext.refl w).alloc _).alloc _
 have hWs:W.heap.size=w.heap.size+1+1:=by rw [<- hW]; simp
 have hZ:zgu W w.heap.size:=by rw [<- hW]; exact (gdh w _).ext ((Ext.refl _).alloc _) (by simp)
 rw [hW];clear hW;refine (IHA.out _ _ (hx0.trans hWx) HX.out).mono ?_;rintro e v1 ⟨z1,rfl,m1,x1⟩;have M1:=Lib.hid m1;have X1:=Lib.hid x1;have HWX:=Lib.hid hWx;have HZ:=Lib.hid hZ;have HWS:=Lib.hid hWs;obtain ⟨b1,A1,n1,c1,B1,k1,d1,rfl⟩:=m1.unpack;clear m1 x1 hWx hZ hWs;go_wp2_with fail;refine (ki1 _ (a.val g) (rlen (a.val g)) _ M1.out.raw hp1 (by omega)).mono ?_;rintro e v3 ⟨z3,rfl,m3,x3⟩;have hWx:=HWX.out;have hZ:=HZ.out;have hWs:=HWS.out;have y3:=X1.out.trans x3;obtain ⟨b3,A3,n3,c3,B3,k3,d3,rfl⟩:=m3.unpack;obtain ⟨⟨r0,r1,r2⟩,f0,f1,f2⟩:=hZ.ext y3 (by omega);have HF:=Lib.hid (yc7 (g:=w.heap.size) (hWx.trans y3) (Nat.le_refl _) r0 r1 r2 rfl rfl rfl m3);clear hZ hWx hWs y3 m3;go_wp2_with fail;exact bodyPost_ret (v:=.agg #[.bool b3,.slice A3 n3 c3,.slice B3 k3 d3]) (by simp [results,Tryz.results88,go_sem,r0,r1,r2]) rfl HF.out
def jdi (w:World) (gb:Nat) (q:Rat):Prop:=∃ bb A1 n1 c1 A2 n2 c2,w.heap[gb]?=some (.cells #[.bool bb,.slice A1 n1 c1,.slice A2 n2 c2] 37 (0,0))/\uc7 w (.agg #[.bool bb,.slice A1 n1 c1,.slice A2 n2 c2]) q
theorem jdi.ext {w w':World} {gb:Nat} {q:Rat} (h:jdi w gb q) (hx:Ext w w'):jdi w' gb q:=by
 obtain ⟨bb,A1,n1,c1,A2,n2,c2,h1,h2⟩:=h;exact ⟨bb,A1,n1,c1,A2,n2,c2,(hx.below.block _ (Array.getElem?_eq_some_iff.1 h1).1).trans h1,h2.ext hx⟩
theorem jdi.new {w:World} {q:Rat} {bb:Bool} {A1 A2:Option Addr} {n1 c1 n2 c2:Nat} (h:uc7 w (.agg #[.bool bb,.slice A1 n1 c1,.slice A2 n2 c2]) q):jdi (w.alloc (.cells #[.bool bb,.slice A1 n1 c1,.slice A2 n2 c2] 37)) w.heap.size q:=
 ⟨bb,A1,n1,c1,A2,n2,c2,heap_alloc_new w _,h.ext ((Ext.refl w).alloc _)⟩
theorem jdi.put {w:World} {gb:Nat} {q q':Rat} {bb:Bool} {A1 A2:Option Addr} {n1 c1 n2 c2:Nat} (h:jdi w gb q) (k:uc7 w (.agg #[.bool bb,.slice A1 n1 c1,.slice A2 n2 c2]) q') :
 jdi (((w.setCell ⟨gb,0,none⟩ (.bool bb)).setCell ⟨gb,1,none⟩ (.slice A1 n1 c1)).setCell ⟨gb,2,none⟩ (.slice A2 n2 c2)) gb q'/\(∀ {x q},uc7 w x q->uc7 (((w.setCell ⟨gb,0,none⟩ (.bool bb)).setCell ⟨gb,1,none⟩ (.slice A1 n1 c1)).setCell ⟨gb,2,none⟩ (.slice A2 n2 c2)) x q):=by
 obtain ⟨b',B1,m1,d1,B2,m2,d2,h1,h2⟩:=h;have c0:w.cell? ⟨gb,0,none⟩=some (.bool b'):=by simp [World.cell?,h1]
 have c1':(w.setCell ⟨gb,0,none⟩ (.bool bb)).cell? ⟨gb,1,none⟩=some (.slice B1 m1 d1):=by
  rw [World.cell?_setCell_other _ _ _ _ (by simp)]; simp [World.cell?,h1]
 have c2':((w.setCell ⟨gb,0,none⟩ (.bool bb)).setCell ⟨gb,1,none⟩ (.slice A1 n1 c1)).cell? ⟨gb,2,none⟩=some (.slice B2 m2 d2):=by
  rw [World.cell?_setCell_other _ _ _ _ (by simp),World.cell?_setCell_other _ _ _ _ (by simp)]; simp [World.cell?,h1]
 have key:∀ {x q},uc7 w x q->uc7 (((w.setCell ⟨gb,0,none⟩ (.bool bb)).setCell ⟨gb,1,none⟩ (.slice A1 n1 c1)).setCell ⟨gb,2,none⟩ (.slice A2 n2 c2)) x q:=fun {x q} h=>((h.box c0 rfl _).box c1' rfl _).box c2' rfl _
 exact ⟨⟨bb,A1,n1,c1,A2,n2,c2,by simp [World.setCell,Array.getElem?_modify,h1],key k⟩,fun h=>key h⟩
theorem jdi.far {w:World} {gb gp:Nat} {q:Rat} (h:jdi w gb q) (hne:gb ≠ gp) {u0 u1 u2:Value} (hk:∀ {x q},uc7 w x q->uc7 (((w.setCell ⟨gp,0,none⟩ u0).setCell ⟨gp,1,none⟩ u1).setCell ⟨gp,2,none⟩ u2) x q):jdi (((w.setCell ⟨gp,0,none⟩ u0).setCell ⟨gp,1,none⟩ u1).setCell ⟨gp,2,none⟩ u2) gb q:=by
 obtain ⟨b',B1,m1,d1,B2,m2,d2,h1,h2⟩:=h;refine ⟨b',B1,m1,d1,B2,m2,d2,?_,hk h2⟩;rw [Below.heap_setCell _ _ _ _ hne,Below.heap_setCell _ _ _ _ hne,Below.heap_setCell _ _ _ _ hne];exact h1
def PowInv (w:World) (gr gp gb:Nat) (q:Rat) (k:Nat) (wr:World):Prop:=Ext w wr/\zgu wr gr/\gr < wr.heap.size/\jdi wr gp (q ^ k)/\jdi wr gb q
theorem gig {a:Tm} {n:Int} {T:TypeId} {x:Value} (hL:1<=L) (hgl:∀ s q,g s=some q->rlen q<=L) (h:TmV w0 L a (.iface T x)) (hx0:Ext w0 w) (hcv:a.covered g) (hbt:(Tm.pow a n).bt L<=1000000000000) (hn:n<=9223372036854775807) (iha:vgu w0 L b g a) :
 Calls Tryz.prog 123 #[.map (some b),.agg #[.iface T x,.int .i64 n]] w (vc6 (a.val g ^ n.toNat) w):=by
 have h1:=wdi hL hgl h hcv;have hp1:=uc8 (a.val g);have HX:=Lib.hid h;have IHA:=Lib.hid iha;have HX0:=Lib.hid hx0;obtain ⟨W,hW⟩:=n_m ((w.alloc (.cells #[.iface T x,.int .i64 n] 204)).alloc (.cells #[.bool false,.slice none 0 0,.slice none 0 0] 37));have hWx:Ext w W:=by rw [<- hW]; exact ((Ext.refl w).alloc _).alloc _
 have hWs:W.heap.size=w.heap.size+1+1:=by rw [<- hW]; simp
 have hZ:zgu W (w.heap.size+1):=by
  rw [<- hW];have:=gdh (w.alloc (.cells #[.iface T x,.int .i64 n] 204)) 37
  rwa [World.size_alloc] at this
 have hB:W.heap[w.heap.size]?=some (.cells #[.iface T x,.int .i64 n] 204 (0,0)):=by
  rw [<- hW,Below.heap_alloc _ _ _ (by simp)]; exact heap_alloc_new w _
 have HWX:=Lib.hid hWx;have HWS:=Lib.hid hWs;have HZ:=Lib.hid hZ;have HBX:=Lib.hid hB;clear h iha hx0 hgl hcv hWx hZ hB;have hsz0:w.heap.size+1 < W.heap.size:=by omega
 clear hWs
 by_cases hneg:n<=0
 · have hq:a.val g ^ n.toNat=1:=by rw [show n.toNat=0 by omega,Rat.pow_zero]
   rw [hq];clear hq hbt;go_enter Tryz.func123,Tryz.ntmps123;go_wp2_with fail;clear hW;refine (gg5 1 _ (by omega) (by omega)).mono ?_;rintro e w1 ⟨z1,rfl,m1,x1⟩;obtain ⟨b1,A1,n1,c1,B1,k1,d1,rfl⟩:=m1.unpack;have hb1:=(x1.below.block _ (by omega)).trans HBX.out;have e1:w1.cell? ⟨w.heap.size,1,none⟩=some (.int .i64 n):=by simp [World.cell?,hb1]
   have hz1:=HZ.out.ext x1 hsz0;obtain ⟨⟨r0,r1,r2⟩,f0,f1,f2⟩:=hz1;have hs1:=x1.size;obtain ⟨W2,hW2⟩:=n_m (w1.alloc (.cells #[.bool b1,.slice A1 n1 c1,.slice B1 k1 d1] 37));have x2:Ext w1 W2:=by rw [<- hW2]; exact (Ext.refl w1).alloc _
   obtain ⟨⟨r0,r1,r2⟩,f0,f1,f2⟩:=(HZ.out.ext x1 hsz0).ext x2 (by omega);have g0:W2.cell? ⟨w1.heap.size,0,none⟩=some (.bool b1):=by rw [<- hW2]; simp [go_sem]
   have g1:W2.cell? ⟨w1.heap.size,1,none⟩=some (.slice A1 n1 c1):=by rw [<- hW2]; simp [go_sem]
   have g2:W2.cell? ⟨w1.heap.size,2,none⟩=some (.slice B1 k1 d1):=by rw [<- hW2]; simp [go_sem]
   have e2:W2.cell? ⟨w.heap.size,1,none⟩=some (.int .i64 n):=by rw [x2.cell (p:=⟨w.heap.size,1,none⟩) (by simp; omega)]; exact e1
   have HF:=Lib.hid (yc7 (g:=w.heap.size+1) ((HWX.out.trans x1).trans x2) (by omega) r0 r1 r2 rfl rfl rfl (m1.ext x2));clear hb1 m1 x1 x2 HBX HZ HWX;go_wp2_with fail;exact bodyPost_ret (v:=.agg #[.bool b1,.slice A1 n1 c1,.slice B1 k1 d1]) (by simp [results,Tryz.results123,go_sem,r0,r1,r2]) rfl HF.out
 · have hn1:1<=n:=by omega
   obtain ⟨N,hN⟩:∃ N:Nat,n=N:=⟨n.toNat,by omega⟩;subst hN;simp only [Int.toNat_natCast];have hbd:N * rlen (a.val g)<=1000000000000:=by
    simp only [Tm.bt,Int.toNat_natCast] at hbt;rw [show max N 1=N by omega] at hbt;exact Nat.le_trans (Nat.mul_le_mul_left _ h1) hbt
   have hbe:rlen (a.val g)<=N * rlen (a.val g):=Nat.le_mul_of_pos_left _ (by omega);clear hbt h1;go_enter Tryz.func123,Tryz.ntmps123;go_wp2_with fail;clear hW;refine (gg5 1 _ (by omega) (by omega)).mono ?_;rintro e w1 ⟨z1,rfl,m1,x1⟩;obtain ⟨b1,A1,n1,c1,B1,k1,d1,rfl⟩:=m1.unpack;have hs1:=x1.size;obtain ⟨W2,hW2⟩:=n_m (w1.alloc (.cells #[.bool b1,.slice A1 n1 c1,.slice B1 k1 d1] 37));have x2:Ext w1 W2:=by rw [<- hW2]; exact (Ext.refl w1).alloc _
   have hb2:=((x1.trans x2).below.block _ (by omega)).trans HBX.out;have e0:W2.cell? ⟨w.heap.size,0,none⟩=some (.iface T x):=by simp [World.cell?,hb2]
   have e1:W2.cell? ⟨w.heap.size,1,none⟩=some (.int .i64 N):=by simp [World.cell?,hb2]
   have R2:Hid (jdi W2 w1.heap.size 1):=by
    have:jdi W2 w1.heap.size 1:=by rw [<- hW2]; exact jdi.new m1
    exact this
   have Z2:=Lib.hid (HZ.out.ext (x1.trans x2) hsz0);have B2X:=Lib.hid hb2;have X2:=Lib.hid (HWX.out.trans (x1.trans x2));have hs2:w1.heap.size < W2.heap.size:=by rw [<- hW2]; simp
   clear hb2 m1 x1 x2 HBX HZ;go_wp2_with fail;clear hW2 e0 e1;refine (IHA.out _ _ (HX0.out.trans X2.out) HX.out).mono ?_;rintro e w3 ⟨z3,rfl,m3,x3⟩;obtain ⟨b3,A3,n3,c3,B3,k3,d3,rfl⟩:=m3.unpack;obtain ⟨W4,hW4⟩:=n_m (w3.alloc (.cells #[.bool b3,.slice A3 n3 c3,.slice B3 k3 d3] 37));have x4:Ext w3 W4:=by rw [<- hW4]; exact (Ext.refl w3).alloc _
   have hs3:=x3.size;have hb4:=((x3.trans x4).below.block _ (by omega)).trans B2X.out;have e1:W4.cell? ⟨w.heap.size,1,none⟩=some (.int .i64 N):=by simp [World.cell?,hb4]
   have hs4:w3.heap.size < W4.heap.size:=by rw [<- hW4]; simp
   have HINV:Hid (PowInv w (w.heap.size+1) w1.heap.size w3.heap.size (a.val g) 0 W4):=by
    have:PowInv w (w.heap.size+1) w1.heap.size w3.heap.size (a.val g) 0 W4:=by
     refine ⟨X2.out.trans (x3.trans x4),Z2.out.ext (x3.trans x4) (by omega),by omega,by rw [Rat.pow_zero]; exact R2.out.ext (x3.trans x4),?_⟩;rw [<- hW4]; exact jdi.new m3
    exact this
   clear hb4 m3 x3 x4 R2 Z2 B2X X2;go_wp2_with fail;clear hW4 e1
   go_loopw [18] (fun iv wr=>∃ k:Nat,k<=N/\iv=.int .i64 k/\Hid (PowInv w (w.heap.size+1) w1.heap.size w3.heap.size (a.val g) k wr)) (fun iv _=>N - (intOf iv).toNat)
   case atStart=>exact ⟨0,Nat.zero_le _,rfl,HINV⟩
   case round =>
    obtain ⟨k,hk,rfl,⟨hxw,hz,hgr,⟨p1,P1,pn,pc,P2,pm,pd,hp,mp⟩,⟨q1,Q1,qn,qc,Q2,qm,qd,hq,mq⟩⟩⟩:=hrel;have g0:wr.cell? ⟨w1.heap.size,0,none⟩=some (.bool p1):=by simp [World.cell?,hp]
    have g1:wr.cell? ⟨w1.heap.size,1,none⟩=some (.slice P1 pn pc):=by simp [World.cell?,hp]
    have g2:wr.cell? ⟨w1.heap.size,2,none⟩=some (.slice P2 pm pd):=by simp [World.cell?,hp]
    by_cases hlt:k < N
    · have j0:wr.cell? ⟨w3.heap.size,0,none⟩=some (.bool q1):=by simp [World.cell?,hq]
      have j1:wr.cell? ⟨w3.heap.size,1,none⟩=some (.slice Q1 qn qc):=by simp [World.cell?,hq]
      have j2:wr.cell? ⟨w3.heap.size,2,none⟩=some (.slice Q2 qm qd):=by simp [World.cell?,hq]
      have HP:=Lib.hid (show jdi wr w1.heap.size (a.val g ^ k) from ⟨p1,P1,pn,pc,P2,pm,pd,hp,mp⟩);have HQ:=Lib.hid (show jdi wr w3.heap.size (a.val g) from ⟨q1,Q1,qn,qc,Q2,qm,qd,hq,mq⟩);have MP:=Lib.hid mp;have MQ:=Lib.hid mq;have HXW:=Lib.hid hxw;have HZ:=Lib.hid hz;have hpl:=vhu (a.val g) k;have hkm:max k 1 * rlen (a.val g)<=N * rlen (a.val g):=Nat.mul_le_mul_right _ (by omega);have hpp:=uc8 (a.val g ^ k);clear hp hq mp mq hxw hz;generalize hNr:N * rlen (a.val g)=NR at *;generalize hkr:max k 1 * rlen (a.val g)=KR at *;have hnr:=Lib.hid hNr;have hkr':=Lib.hid hkr;clear hNr hkr;go_wp2_with fail;refine (vhm _ _ (a.val g ^ k) (a.val g) (rlen (a.val g ^ k)) (rlen (a.val g)) _ MP.out.raw MQ.out.raw hpp hp1 (by omega)).mono ?_;rintro e w5 ⟨z5,rfl,m5,x5⟩;obtain ⟨b5,A5,n5,c5,B5,k5,d5,rfl⟩:=m5.unpack;have hP5:=HP.out.ext x5;have hQ5:=HQ.out.ext x5;obtain ⟨hP6,hkp⟩:=hP5.put m5;have hQ6:=hQ5.far (gp:=w1.heap.size) (by omega) hkp;obtain ⟨p1',P1',pn',pc',P2',pm',pd',hp',-⟩:=hP5;have g0:w5.cell? ⟨w1.heap.size,0,none⟩=some (.bool p1'):=by simp [World.cell?,hp']
      have g1:w5.cell? ⟨w1.heap.size,1,none⟩=some (.slice P1' pn' pc'):=by simp [World.cell?,hp']
      have g2:w5.cell? ⟨w1.heap.size,2,none⟩=some (.slice P2' pm' pd'):=by simp [World.cell?,hp']
      have gf0:w5.frozen? ⟨w1.heap.size,0,none⟩=false:=by simp [World.frozen?,hp']
      have gf1:w5.frozen? ⟨w1.heap.size,1,none⟩=false:=by simp [World.frozen?,hp']
      have gf2:w5.frozen? ⟨w1.heap.size,2,none⟩=false:=by simp [World.frozen?,hp']
      have HN:Hid (PowInv w (w.heap.size+1) w1.heap.size w3.heap.size (a.val g) (k+1) (((w5.setCell ⟨w1.heap.size,0,none⟩ (.bool b5)).setCell ⟨w1.heap.size,1,none⟩ (.slice A5 n5 c5)).setCell ⟨w1.heap.size,2,none⟩ (.slice B5 k5 d5))):=by
       have hz5:=HZ.out.ext x5 hgr;have hsz5:=x5.size;have hlw:w.heap.size<=w1.heap.size:=by have:=HWX.out.size; omega
       refine ⟨(((HXW.out.trans x5).setCell hlw _).setCell hlw _).setCell hlw _,?_,by simp; omega,by rw [Rat.pow_succ]; exact hP6,hQ6⟩;have hne:w.heap.size+1 ≠ w1.heap.size:=by omega
       have hblk:((((w5.setCell ⟨w1.heap.size,0,none⟩ (.bool b5)).setCell ⟨w1.heap.size,1,none⟩ (.slice A5 n5 c5)).setCell ⟨w1.heap.size,2,none⟩ (.slice B5 k5 d5))).heap[w.heap.size+1]?=w5.heap[w.heap.size+1]?:=by
        rw [Below.heap_setCell _ _ _ _ hne,Below.heap_setCell _ _ _ _ hne,Below.heap_setCell _ _ _ _ hne]
       obtain ⟨⟨r0,r1,r2⟩,f0,f1,f2⟩:=hz5;exact ⟨⟨(World.cell?_of_block (a:=⟨w.heap.size+1,0,none⟩) hblk).trans r0,(World.cell?_of_block (a:=⟨w.heap.size+1,1,none⟩) hblk).trans r1,(World.cell?_of_block (a:=⟨w.heap.size+1,2,none⟩) hblk).trans r2⟩,(World.frozen?_of_block (a:=⟨w.heap.size+1,0,none⟩) hblk).trans f0,(World.frozen?_of_block (a:=⟨w.heap.size+1,1,none⟩) hblk).trans f1,(World.frozen?_of_block (a:=⟨w.heap.size+1,2,none⟩) hblk).trans f2⟩
      clear m5 x5 hP6 hkp hQ5 hQ6 hp' HP HQ MP MQ HXW HZ j0 j1 j2;go_wp2_with fail
      go_roundw
      case rel=>exact ⟨k+1,by omega,by go_num,HN⟩
      case measure=>simp [intOf]; omega
    · have hke:k=N:=by omega
      rw [hke] at mp;obtain ⟨⟨r0,r1,r2⟩,f0,f1,f2⟩:=hz;have HF:=Lib.hid (yc7 (g:=w.heap.size+1) hxw (by omega) r0 r1 r2 rfl rfl rfl mp);clear hke hp hq mp mq hxw;go_wp2_with fail;exact bodyPost_ret (v:=.agg #[.bool p1,.slice P1 pn pc,.slice P2 pm pd]) (by simp [results,Tryz.results123,go_sem,r0,r1,r2]) rfl HF.out
theorem qix {a:Tm} {n:Int} {v:Value} (hL:1<=L) (hgl:∀ s q,g s=some q->rlen q<=L) (h:TmV w0 L (.pow a n) v) (hx0:Ext w0 w) (hcv:(Tm.pow a n).covered g) (hbt:(Tm.pow a n).bt L<=1000000000000) (iha:vgu w0 L b g a) :
 Calls Tryz.prog 88 #[.map (some b),v] w (vc6 ((Tm.pow a n).val g) w):=by
 have hnn:n<=9223372036854775807:=by
  simp only [Tm.bt] at hbt;have h4:=Tm.bt_pos L hL a;have:max n.toNat 1 * 1<=max n.toNat 1 * a.bt L:=Nat.mul_le_mul_left _ h4;omega
 obtain ⟨x,rfl,hx⟩:=h;obtain ⟨T,x,rfl⟩:=hx.iface;have HPW:Hid (∀ w',Ext w0 w'->Calls Tryz.prog 123 #[.map (some b),.agg #[.iface T x,.int .i64 n]] w' (vc6 (a.val g ^ n.toNat) w')):=fun w' hx'=>gig hL hgl hx hx' hcv hbt hnn iha
 show Calls _ _ _ _ (vc6 (a.val g ^ n.toNat) w);clear hx hgl hcv hbt iha;go_enter Tryz.func88,Tryz.ntmps88;go_wp2_with fail;obtain ⟨W,hW⟩:=n_m ((w.alloc (.cells #[.bool false,.slice none 0 0,.slice none 0 0] 37)).alloc (.cells #[.iface T x,.int .i64 n] 204));have hWx:Ext w W:=by rw [<- hW]; exact ((Ext.refl w).alloc _).alloc _
 have hWs:W.heap.size=w.heap.size+1+1:=by rw [<- hW]; simp
 have hZ:zgu W w.heap.size:=by rw [<- hW]; exact (gdh w _).ext ((Ext.refl _).alloc _) (by simp)
 rw [hW];clear hW;refine (HPW.out _ (hx0.trans hWx)).mono ?_;rintro e v3 ⟨z3,rfl,m3,y3⟩;obtain ⟨b3,A3,n3,c3,B3,k3,d3,rfl⟩:=m3.unpack;obtain ⟨⟨r0,r1,r2⟩,f0,f1,f2⟩:=hZ.ext y3 (by omega);have HF:=Lib.hid (yc7 (g:=w.heap.size) (hWx.trans y3) (Nat.le_refl _) r0 r1 r2 rfl rfl rfl m3);clear hZ hWx hWs y3 m3;go_wp2_with fail;exact bodyPost_ret (v:=.agg #[.bool b3,.slice A3 n3 c3,.slice B3 k3 d3]) (by simp [results,Tryz.results88,go_sem,r0,r1,r2]) rfl HF.out
theorem qhs (hm:kdj w0 L b g) (hL:1<=L) (hgl:∀ s q,g s=some q->rlen q<=L) (t:Tm) (hcv:t.covered g) (hbt:t.bt L<=1000000000000):vgu w0 L b g t:=by
 induction t with
 | num z=>exact fun v w hx h=>jix h hx hbt
 | name s=>exact fun v w hx h=>vim hm h hx hcv hL hbt
 | add a c iha ihc=>exact fun v w hx h=>vix hL hgl h hx hcv hbt (iha hcv.1 (by simp only [Tm.bt] at hbt; omega)) (ihc hcv.2 (by simp only [Tm.bt] at hbt; omega))
 | sub a c iha ihc=>exact fun v w hx h=>xix hL hgl h hx hcv hbt (iha hcv.1 (by simp only [Tm.bt] at hbt; omega)) (ihc hcv.2 (by simp only [Tm.bt] at hbt; omega))
 | mul a c iha ihc=>exact fun v w hx h=>val_mul hL hgl h hx hcv hbt (iha hcv.1 (by simp only [Tm.bt] at hbt; omega)) (ihc hcv.2 (by simp only [Tm.bt] at hbt; omega))
 | neg a iha=>exact fun v w hx h=>kix hL hgl h hx hcv hbt (iha hcv hbt)
 | pow a n iha =>
   exact fun v w hx h=>qix hL hgl h hx hcv hbt (iha hcv (by
    simp only [Tm.bt] at hbt
    exact Nat.le_trans (Nat.le_mul_of_pos_left _ (by omega)) hbt))
end
end Go.Proofs.YtopddaabiinboaaGreat
