/- Layer 40: the truth of a formula. -/
import Derived.Test.YtheefiaoimbeiaaGreatDoorVal
set_option linter.unusedSimpArgs false
set_option linter.unusedVariables false

set_option maxRecDepth 100000
set_option maxHeartbeats 8000000
namespace Go.Proofs.YtheefiaoimbeiaaGreatDoor
open Lib (hid)
open Go.RowKit
attribute [local go_sem] uds ydr qdt kds zdt wds vds ydp xdr gds xdt udv qdn ydt xdp
def Fm.tv (g : ByteArray -> Option Rat) : Fm -> Bool
 | .truth b=>b
 | .atom l r k=>wdu r (jei (l.val g) (k.val g))
 | .not f=>!f.tv g
 | .and f h=>f.tv g && h.tv g
 | .or f h=>f.tv g || h.tv g
 | .imp f h=>!f.tv g || h.tv g
 | .iff f h=>f.tv g == h.tv g
 | .quant _ _ _=>false
def Fm.xt (g : ByteArray -> Option Rat) (L : Nat) : Fm -> Prop
 | .truth _=>True
 | .atom l _ k=>(l.covered g/\l.bt L<=1000000000000)/\(k.covered g/\k.bt L<=1000000000000)
 | .not f=>f.xt g L
 | .and f h=>f.xt g L/\h.xt g L
 | .or f h=>f.xt g L/\h.xt g L
 | .imp f h=>f.xt g L/\h.xt g L
 | .iff f h=>f.xt g L/\h.xt g L
 | .quant _ _ _=>True
def qef (w0:World) (L b:Nat) (g:ByteArray->Option Rat) (f:Fm):Prop:=∀ (v:Value) (w:World),Ext w0 w->FmV w0 L f v->Calls Tryz.prog 53 #[.map (some b),v] w (wdr (f.tv g) w)
section
variable {w0 w:World} {L b:Nat} {g:ByteArray->Option Rat}
theorem jfv {t:Bool} {v:Value} (h:FmV w0 L (.truth t) v):Calls Tryz.prog 53 #[.map (some b),v] w (wdr t w):=by
 obtain rfl:=h;go_enter tr,sZ;go_wp2_with fail;go_ret;exact ⟨rfl,(Ext.refl w).alloc _⟩
theorem kfv {al:Bool} {s:ByteArray} {f:Fm} {v:Value} (h:FmV w0 L (.quant al s f) v):Calls Tryz.prog 53 #[.map (some b),v] w (wdr false w):=by
 obtain ⟨x,rfl,-⟩:=h;go_enter tr,sZ;go_wp2_with fail;go_ret;exact ⟨rfl,Ext.refl w⟩
theorem kgj {f:Fm} {v:Value} (h:FmV w0 L (.not f) v) (hx0:Ext w0 w) (ihf:qef w0 L b g f):Calls Tryz.prog 53 #[.map (some b),v] w (wdr (!f.tv g) w):=by
 obtain ⟨x,rfl,hx⟩:=h;have HX:=hid hx;have IHF:=hid ihf;obtain ⟨T,x,rfl⟩:=hx.iface;clear hx ihf;go_enter tr,sZ;go_wp2_with fail;refine (IHF.out _ _ (hx0.trans ((Ext.refl w).alloc _)) HX.out).mono ?_;rintro e w1 ⟨rfl,x1⟩;have X1:=hid (((Ext.refl w).alloc _).trans x1);clear x1;go_wp2_with fail;go_ret;exact ⟨rfl,X1.out⟩
theorem wgj {f h:Fm} {v:Value} (hv:FmV w0 L (.and f h) v) (hx0:Ext w0 w) (ihf:qef w0 L b g f) (ihh:qef w0 L b g h):Calls Tryz.prog 53 #[.map (some b),v] w (wdr (f.tv g && h.tv g) w):=by
 obtain ⟨x,y,rfl,hx,hy⟩:=hv;have HX:=hid hx;have HY:=hid hy;obtain ⟨T,x,rfl⟩:=hx.iface;obtain ⟨U,y,rfl⟩:=hy.iface;obtain ⟨W,hW⟩:=n_m (w.alloc (.cells #[.iface T x,.iface U y] 136));have hWx:Ext w W:=by rw [<- hW]; exact (Ext.refl w).alloc _
 have d0:W.cell? ⟨w.heap.size,0,none⟩=some (.iface T x):=by rw [<- hW]; simp [go_sem]
 have D1:Hid (W.cell? ⟨w.heap.size,1,none⟩=some (.iface U y)):=by
  have:W.cell? ⟨w.heap.size,1,none⟩=some (.iface U y):=by rw [<- hW]; simp [go_sem]
  exact this
 have hws:w.heap.size < W.heap.size:=by rw [<- hW]; simp
 have HF:=hid (ihf _ W (hx0.trans hWx) hx);have HH:=hid ihh;have HWX:=hid hWx;have HX0:=hid hx0;clear hx hy ihf ihh hWx hx0
 by_cases ht:f.tv g=false
 · rw [ht] at HF ⊢;show Calls _ _ _ _ (wdr false w);go_enter tr,sZ;go_wp2_with fail;refine HF.out.mono ?_;rintro e w1 ⟨rfl,x1⟩;have X1:=hid (HWX.out.trans x1);clear x1 d0 hW;go_wp2_with fail;go_ret;exact ⟨rfl,X1.out⟩
 · have ht':f.tv g=true:=by simpa using ht
   rw [ht'] at HF ⊢;clear ht ht';show Calls _ _ _ _ (wdr (h.tv g) w);go_enter tr,sZ;go_wp2_with fail;refine HF.out.mono ?_;rintro e w1 ⟨rfl,x1⟩;have d1:w1.cell? ⟨w.heap.size,1,none⟩=some (.iface U y):=(x1.cell (p:=⟨w.heap.size,1,none⟩) hws).trans D1.out;have X1:=hid (HWX.out.trans x1);clear x1 d0 hW;go_wp2_with fail;clear d1;refine (HH.out _ _ (HX0.out.trans X1.out) HY.out).mono ?_;rintro e w2 ⟨rfl,x2⟩;have X2:=hid (X1.out.trans x2);clear x2;go_wp2_with fail;go_ret;exact ⟨rfl,X2.out⟩
theorem qgq {f h:Fm} {v:Value} (hv:FmV w0 L (.or f h) v) (hx0:Ext w0 w) (ihf:qef w0 L b g f) (ihh:qef w0 L b g h):Calls Tryz.prog 53 #[.map (some b),v] w (wdr (f.tv g || h.tv g) w):=by
 obtain ⟨x,y,rfl,hx,hy⟩:=hv;have HX:=hid hx;have HY:=hid hy;obtain ⟨T,x,rfl⟩:=hx.iface;obtain ⟨U,y,rfl⟩:=hy.iface;obtain ⟨W,hW⟩:=n_m (w.alloc (.cells #[.iface T x,.iface U y] 137));have hWx:Ext w W:=by rw [<- hW]; exact (Ext.refl w).alloc _
 have d0:W.cell? ⟨w.heap.size,0,none⟩=some (.iface T x):=by rw [<- hW]; simp [go_sem]
 have D1:Hid (W.cell? ⟨w.heap.size,1,none⟩=some (.iface U y)):=by
  have:W.cell? ⟨w.heap.size,1,none⟩=some (.iface U y):=by rw [<- hW]; simp [go_sem]
  exact this
 have hws:w.heap.size < W.heap.size:=by rw [<- hW]; simp
 have HF:=hid (ihf _ W (hx0.trans hWx) hx);have HH:=hid ihh;have HWX:=hid hWx;have HX0:=hid hx0;clear hx hy ihf ihh hWx hx0
 by_cases ht:f.tv g=true
 · rw [ht] at HF ⊢;show Calls _ _ _ _ (wdr true w);go_enter tr,sZ;go_wp2_with fail;refine HF.out.mono ?_;rintro e w1 ⟨rfl,x1⟩;have X1:=hid (HWX.out.trans x1);clear x1 d0 hW;go_wp2_with fail;go_ret;exact ⟨rfl,X1.out⟩
 · have ht':f.tv g=false:=by simpa using ht
   rw [ht'] at HF ⊢;clear ht ht';show Calls _ _ _ _ (wdr (h.tv g) w);go_enter tr,sZ;go_wp2_with fail;refine HF.out.mono ?_;rintro e w1 ⟨rfl,x1⟩;have d1:w1.cell? ⟨w.heap.size,1,none⟩=some (.iface U y):=(x1.cell (p:=⟨w.heap.size,1,none⟩) hws).trans D1.out;have X1:=hid (HWX.out.trans x1);clear x1 d0 hW;go_wp2_with fail;clear d1;refine (HH.out _ _ (HX0.out.trans X1.out) HY.out).mono ?_;rintro e w2 ⟨rfl,x2⟩;have X2:=hid (X1.out.trans x2);clear x2;go_wp2_with fail;go_ret;exact ⟨rfl,X2.out⟩
theorem vgj {f h:Fm} {v:Value} (hv:FmV w0 L (.imp f h) v) (hx0:Ext w0 w) (ihf:qef w0 L b g f) (ihh:qef w0 L b g h):Calls Tryz.prog 53 #[.map (some b),v] w (wdr (!f.tv g || h.tv g) w):=by
 obtain ⟨x,y,rfl,hx,hy⟩:=hv;have HX:=hid hx;have HY:=hid hy;obtain ⟨T,x,rfl⟩:=hx.iface;obtain ⟨U,y,rfl⟩:=hy.iface;obtain ⟨W,hW⟩:=n_m (w.alloc (.cells #[.iface T x,.iface U y] 138));have hWx:Ext w W:=by rw [<- hW]; exact (Ext.refl w).alloc _
 have d0:W.cell? ⟨w.heap.size,0,none⟩=some (.iface T x):=by rw [<- hW]; simp [go_sem]
 have D1:Hid (W.cell? ⟨w.heap.size,1,none⟩=some (.iface U y)):=by
  have:W.cell? ⟨w.heap.size,1,none⟩=some (.iface U y):=by rw [<- hW]; simp [go_sem]
  exact this
 have hws:w.heap.size < W.heap.size:=by rw [<- hW]; simp
 have HF:=hid (ihf _ W (hx0.trans hWx) hx);have HH:=hid ihh;have HWX:=hid hWx;have HX0:=hid hx0;clear hx hy ihf ihh hWx hx0
 by_cases ht:f.tv g=false
 · rw [ht] at HF ⊢;show Calls _ _ _ _ (wdr true w);go_enter tr,sZ;go_wp2_with fail;refine HF.out.mono ?_;rintro e w1 ⟨rfl,x1⟩;have X1:=hid (HWX.out.trans x1);clear x1 d0 hW;go_wp2_with fail;go_ret;exact ⟨rfl,X1.out⟩
 · have ht':f.tv g=true:=by simpa using ht
   rw [ht'] at HF ⊢;clear ht ht';show Calls _ _ _ _ (wdr (h.tv g) w);go_enter tr,sZ;go_wp2_with fail;refine HF.out.mono ?_;rintro e w1 ⟨rfl,x1⟩;have d1:w1.cell? ⟨w.heap.size,1,none⟩=some (.iface U y):=(x1.cell (p:=⟨w.heap.size,1,none⟩) hws).trans D1.out;have X1:=hid (HWX.out.trans x1);clear x1 d0 hW;go_wp2_with fail;clear d1;refine (HH.out _ _ (HX0.out.trans X1.out) HY.out).mono ?_;rintro e w2 ⟨rfl,x2⟩;have X2:=hid (X1.out.trans x2);clear x2;go_wp2_with fail;go_ret;exact ⟨rfl,X2.out⟩
theorem ugj {f h:Fm} {v:Value} (hv:FmV w0 L (.iff f h) v) (hx0:Ext w0 w) (ihf:qef w0 L b g f) (ihh:qef w0 L b g h):Calls Tryz.prog 53 #[.map (some b),v] w (wdr (f.tv g == h.tv g) w):=by
 obtain ⟨x,y,rfl,hx,hy⟩:=hv;have HX:=hid hx;have HY:=hid hy;obtain ⟨T,x,rfl⟩:=hx.iface;obtain ⟨U,y,rfl⟩:=hy.iface;have IHF:=hid ihf;have IHH:=hid ihh;have HX0:=hid hx0;clear hx hy ihf ihh hx0;go_enter tr,sZ;go_wp2_with fail;obtain ⟨W,hW⟩:=n_m (w.alloc (.cells #[.iface T x,.iface U y] 139));have HB:Hid (∀ W',Ext W W'->(Ext W W'/\W'.cell? ⟨w.heap.size,0,none⟩=some (.iface T x)/\W'.cell? ⟨w.heap.size,1,none⟩=some (.iface U y))):=by
  intro W' hx;obtain ⟨hc,hf⟩:=hx.cells;refine ⟨hx,?_,?_⟩ <;> (rw [hc _ _ (by rw [<- hW]; simp),<- hW]; simp [go_sem])
 have HWX:Hid (Ext w W):=by
  have:Ext w W:=by rw [<- hW]; exact (Ext.refl w).alloc _
  exact this
 rw [hW];clear hW;have y0:Ext W W.drew:=(Ext.refl W).drew;have Y0:=hid y0;clear y0
 go_region_held3 (fun W' => Ext W W' /\ W'.cell? ⟨w.heap.size, 0, none⟩ = some (.iface T x) /\ W'.cell? ⟨w.heap.size, 1, none⟩ = some (.iface U y))
  (first | with_reducible exact HB.out _ Y0.out | with_reducible exact HB.out _ y1 | with_reducible exact HB.out _ y2)
  (first
    | (go_at_call_of 53 (Value.iface T x)
       refine (IHF.out _ _ (HX0.out.trans (HWX.out.trans Y0.out)) HX.out).mono ?_;rintro e v1 ⟨rfl,x1⟩
       have y1:Ext W v1:=Ext.trans Y0.out x1)
    | (go_at_call_of 53 (Value.iface U y)
       refine (IHH.out _ _ (HX0.out.trans (HWX.out.trans y1)) HY.out).mono ?_;rintro e v2 ⟨rfl,x2⟩
       have y2:Ext W v2:=Ext.trans y1 x2))
 have X2:=hid (HWX.out.trans y2);clear y1 y2 x1 x2 HB HWX Y0;go_wp2_with fail;go_ret;exact ⟨rfl,X2.out⟩
theorem vf8 {l k:Tm} {r:Int} {v:Value} (hm:qd2 w0 L b g) (hL:1<=L) (hgl:∀ s q,g s=some q->rlen q<=L) (hv:FmV w0 L (.atom l r k) v) (hx0:Ext w0 w) (hf:(Fm.atom l r k).xt g L):Calls Tryz.prog 53 #[.map (some b),v] w (wdr (wdu r (jei (l.val g) (k.val g))) w):=by
 have IHL:=hid (ge1 hm hL hgl l hf.1.1 hf.1.2);have IHK:=hid (ge1 hm hL hgl k hf.2.1 hf.2.2);obtain ⟨x,y,rfl,hx,hy⟩:=hv;have h1:=po (ud1 hL hgl hx hf.1.1) hf.1.2;have h2:=po (ud1 hL hgl hy hf.2.1) hf.2.2;have hp1:=udr (l.val g);have hp2:=udr (k.val g);have HX:=hid hx;have HY:=hid hy;obtain ⟨T,x,rfl⟩:=hx.iface;obtain ⟨U,y,rfl⟩:=hy.iface;have HX0:=hid hx0;clear hx hy hx0 hm hgl hf;go_enter tr,sZ;go_wp2_with fail;obtain ⟨W,hW⟩:=n_m (w.alloc (.cells #[.iface T x,.int .i64 r,.iface U y] 77));have HB:Hid (∀ W',Ext W W'->(Ext W W'/\W'.cell? ⟨w.heap.size,0,none⟩=some (.iface T x)/\W'.cell? ⟨w.heap.size,1,none⟩=some (.int .i64 r)/\W'.cell? ⟨w.heap.size,2,none⟩=some (.iface U y))):=by
  intro W' hx;obtain ⟨hc,hf⟩:=hx.cells;refine ⟨hx,?_,?_,?_⟩ <;> (rw [hc _ _ (by rw [<- hW]; simp),<- hW]; simp [go_sem])
 have HWX:Hid (Ext w W):=by
  have:Ext w W:=by rw [<- hW]; exact (Ext.refl w).alloc _
  exact this
 rw [hW];clear hW;have y0:Ext W W.drew:=(Ext.refl W).drew;have Y0:=hid y0;clear y0
 go_region_held3 (fun W' => Ext W W' /\ W'.cell? ⟨w.heap.size, 0, none⟩ = some (.iface T x) /\ W'.cell? ⟨w.heap.size, 1, none⟩ = some (.int .i64 r) /\ W'.cell? ⟨w.heap.size, 2, none⟩ = some (.iface U y))
  (first | with_reducible exact HB.out _ Y0.out | with_reducible exact HB.out _ y1 | with_reducible exact HB.out _ y2 | with_reducible exact HB.out _ y3)
  (first
    | (go_at_call_of 92 (Value.iface T x)
       refine (IHL.out _ _ (HX0.out.trans (HWX.out.trans Y0.out)) HX.out).mono ?_;rintro e v1 ⟨z1,rfl,m1,x1⟩;obtain ⟨b1,A1,n1,c1,B1,k1,d1,rfl⟩:=m1.unpack
       have y1:Ext W v1:=Ext.trans Y0.out x1)
    | (go_at_call_of 92 (Value.iface U y)
       refine (IHK.out _ _ (HX0.out.trans (HWX.out.trans y1)) HY.out).mono ?_;rintro e v2 ⟨z2,rfl,m2,x2⟩;obtain ⟨b2,A2,n2,c2,B2,k2,d2,rfl⟩:=m2.unpack
       have y2:Ext W v2:=Ext.trans y1 x2)
    | (go_at_call 91
       refine (ugh _ _ (l.val g) (k.val g) (rlen (l.val g)) (rlen (k.val g)) _ (m1.raw.ext x2) m2.raw hp1 hp2 (by omega)).mono ?_;rintro e v3 ⟨rfl,x3⟩
       have y3:Ext W v3:=Ext.trans y2 x3)
    | (go_at_call 44
       refine (jel _ _ _).mono ?_
       rintro e v4 ⟨rfl,rfl⟩))
 all_goals
  have X3:=hid (HWX.out.trans y3);clear y1 y2 y3 x1 x2 x3 m1 m2 HB HWX Y0;go_wp2_with fail;go_ret;exact ⟨rfl,X3.out⟩
theorem jfb (hm:qd2 w0 L b g) (hL:1<=L) (hgl:∀ s q,g s=some q->rlen q<=L) (f:Fm) (hf:f.xt g L):qef w0 L b g f:=by
 induction f with
 | truth t=>exact fun v w hx h=>jfv h
 | atom l r k=>exact fun v w hx h=>vf8 hm hL hgl h hx hf
 | not f ihf=>exact fun v w hx h=>kgj h hx (ihf hf)
 | and f h ihf ihh=>exact fun v w hx hv=>wgj hv hx (ihf hf.1) (ihh hf.2)
 | or f h ihf ihh=>exact fun v w hx hv=>qgq hv hx (ihf hf.1) (ihh hf.2)
 | imp f h ihf ihh=>exact fun v w hx hv=>vgj hv hx (ihf hf.1) (ihh hf.2)
 | iff f h ihf ihh=>exact fun v w hx hv=>ugj hv hx (ihf hf.1) (ihh hf.2)
 | quant a s f ihf=>exact fun v w hx h=>kfv h
end
end Go.Proofs.YtheefiaoimbeiaaGreatDoor

namespace Go.Proofs.YtheefiaoimbeiaaGreatDoor
open Lib (hid)
open Go.RowKit
mutual
def Mx.tv (ρ : Int -> Rat) : Mx -> Bool
 | .mk k r p ks=>if k=1 then true else if k=2 then wdu r (sgQ (p.val ρ)) else if k=3 then allM ρ ks else if k=4 then anyM ρ ks else false
def allM (ρ : Int -> Rat) : List Mx -> Bool
 | []=>true
 | t :: r=>t.tv ρ && allM ρ r
def anyM (ρ : Int -> Rat) : List Mx -> Bool
 | []=>false
 | t :: r=>t.tv ρ || anyM ρ r
end
theorem Mx.jl (ρ:Int->Rat) (t:Mx):t.tv ρ=if t.kind=1 then true else if t.kind=2 then wdu t.rel (sgQ (t.p.val ρ)) else if t.kind=3 then allM ρ t.ks else if t.kind=4 then anyM ρ t.ks else false:=by
 cases t; rw [Mx.tv]; rfl
theorem jeo (ρ:Int->Rat) (a b:List Mx):allM ρ (a ++ b)=(allM ρ a && allM ρ b):=by
 induction a with
 | nil=>simp [allM]
 | cons x r ih=>simp only [rj,allM,ih,sS]
theorem qeo (ρ:Int->Rat) (a b:List Mx):anyM ρ (a ++ b)=(anyM ρ a || anyM ρ b):=by
 induction a with
 | nil=>simp [anyM]
 | cons x r ih=>simp only [rj,anyM,ih,Bool.or_assoc]
theorem zfu (ρ:Int->Rat) (l:List Mx) (k:Nat) (hk:k < l.length):allM ρ (l.take (k+1))=(allM ρ (l.take k) && l[k].tv ρ):=by
 rw [pg hk,jeo]; simp [allM]
theorem wft (ρ:Int->Rat) (l:List Mx) (k:Nat) (hk:k < l.length):anyM ρ (l.take (k+1))=(anyM ρ (l.take k) || l[k].tv ρ):=by
 rw [pg hk,qeo]; simp [anyM]
theorem gf6 (ρ:Int->Rat) (l:List Mx) (k:Nat) (h:allM ρ (l.take k)=false):allM ρ l=false:=by
 rw [<- rl k l,jeo,h]; rfl
theorem uf6 (ρ:Int->Rat) (l:List Mx) (k:Nat) (h:anyM ρ (l.take k)=true):anyM ρ l=true:=by
 rw [<- rl k l,qeo,h]; rfl
def wgp (w0:World) (q:Nat->Prop) (L B:Nat) (xs:List Rat) (n:Nat):Prop:=∀ (t:Mx) (v:Value) (w:World),t.sz < n->t.sz<=1000000->t.each (fun p=>p.eb L<=1099511627776)->MxV w0 q t v->Ext w0 w->Calls Tryz.prog 55 #[v,.func (.func 56) #[] #[.pointer (some ⟨B,0,none⟩)]] w (wdr (t.tv (rho xs)) w)
theorem jgd {w0:World} {q:Nat->Prop} {L B:Nat} {xv:Value} {xs:List Rat} (hL:1<=L) (hL2:L<=1099511627776) (hB:w0.cell? ⟨B,0,none⟩=some xv) (hBl:B < w0.heap.size) (hxs:RsV w0 L xv xs) (n:Nat):wgp w0 q L B xs n:=by
 induction n with
 | zero=>intro t v w h; omega
 | succ n ih =>
 intro t v w hn agD ag4 h hx0;have hkl:t.ks.length<=1000000:=by have:=t.yx; omega
 have IH:=hid ih;have HSZ:=hid (fun k hk=>t.zD k hk);have HEA:=hid (Mx.zT ag4);have heb:=Mx.yz ag4;have aBl:∀ args w,(callFunc 56 args).run Tryz.prog w=.ok (.enter 56 args) w:=enters_of Tryz.func56 (by kernel_rfl) rfl;obtain ⟨A0,n0,c0,A,n1,c1,K,c,rfl,hp,hl1,hl2,h4⟩:=h.open_;have HP:=hid hp;have H4:=hid h4;have HTV:=hid (t.jl (rho xs));obtain ⟨W,hW⟩:=n_m (w.alloc (.cells #[.int .i64 t.kind,.int .i64 t.rel,.int .i64 t.p.lv,.bool t.p.neg,.slice A0 n0 c0,.slice A n1 c1,.slice K t.ks.length c] 47));have hWx:Ext w W:=by rw [<- hW]; exact (Ext.refl w).alloc _
 have hWs:W.heap.size=w.heap.size+1:=by rw [<- hW]; simp
 have hbx:udu W w.heap.size t (.slice A0 n0 c0) (.slice A n1 c1) (.slice K t.ks.length c):=by rw [<- hW]; exact udu.new w t _ _ _ _
 have HWX:=hid hWx;have HX0:=hid (hx0.trans hWx);have HBX:=hid hbx;obtain ⟨b0,b1,b2,b3,b4,b5,b6⟩:=hbx;have ahQ:Hid (∀ W',Ext W W'->Calls Tryz.prog 56 #[plV t.p (.slice A0 n0 c0) (.slice A n1 c1),.pointer (some ⟨B,0,none⟩)] W' (zdn (sgQ (t.p.val (rho xs))) W')):=by
  have:∀ W',Ext W W'->Calls Tryz.prog 56 #[plV t.p (.slice A0 n0 c0) (.slice A n1 c1),.pointer (some ⟨B,0,none⟩)] W' (zdn (sgQ (t.p.val (rho xs))) W'):=fun W' hx=>by
   have hx':Ext w0 W':=HX0.out.trans hx;exact xgi hL hL2 ((hx'.cell (p:=⟨B,0,none⟩) hBl).trans hB) (pr hBl hx'.size) (hxs.ext hx') t.p _ heb (HP.out.ext hx')
  exact this
 clear h ih h4 hWx hp ag4 hx0 hxs hB;unfold mxV;unfold plV at ahQ;generalize sgQ (t.p.val (rho xs))=sg at *;go_enter Tryz.func55,Tryz.ntmps55
 by_cases k1:t.kind=1
 · have htv:=HTV.out;rw [if_pos k1] at htv;have q1:(t.kind == 1)=true:=by simpa using k1
   clear k1;go_wp2_with fail;go_ret;exact ⟨by rw [htv]; rfl,HWX.out⟩
 have q1:(t.kind == 1)=false:=by simpa using k1
 by_cases k2:t.kind=2
 · have htv:=HTV.out;rw [if_neg k1,if_pos k2] at htv;have HT:=hid htv;have q2:(t.kind == 2)=true:=by simpa using k2
   clear k1 k2 HTV htv;have HB:Hid (∀ W',Ext W W'->(Ext W W'/\W'.cell? ⟨w.heap.size,1,none⟩=some (.int .i64 t.rel)/\W'.cell? ⟨w.heap.size,2,none⟩=some (.int .i64 t.p.lv)/\W'.cell? ⟨w.heap.size,3,none⟩=some (.bool t.p.neg)/\W'.cell? ⟨w.heap.size,4,none⟩=some (.slice A0 n0 c0)/\W'.cell? ⟨w.heap.size,5,none⟩=some (.slice A n1 c1))):=by
    have:∀ W',Ext W W'->(Ext W W'/\W'.cell? ⟨w.heap.size,1,none⟩=some (.int .i64 t.rel)/\W'.cell? ⟨w.heap.size,2,none⟩=some (.int .i64 t.p.lv)/\W'.cell? ⟨w.heap.size,3,none⟩=some (.bool t.p.neg)/\W'.cell? ⟨w.heap.size,4,none⟩=some (.slice A0 n0 c0)/\W'.cell? ⟨w.heap.size,5,none⟩=some (.slice A n1 c1)):=fun W' hx=>by
     obtain ⟨c0,c1,c2,c3,c4,c5,c6⟩:=HBX.out.ext hx (by omega);exact ⟨hx,c1,c2,c3,c4,c5⟩
    exact this
   go_wp2_with fail;clear hW b0 b1 b2 b3 b4 b5 b6;have y0:Ext W W.drew:=(Ext.refl W).drew;have Y0:=hid y0;clear y0
   go_region_held3 (fun W' => Ext W W' /\ W'.cell? ⟨w.heap.size, 1, none⟩ = some (.int .i64 t.rel) /\ W'.cell? ⟨w.heap.size, 2, none⟩ = some (.int .i64 t.p.lv) /\ W'.cell? ⟨w.heap.size, 3, none⟩ = some (.bool t.p.neg) /\ W'.cell? ⟨w.heap.size, 4, none⟩ = some (.slice A0 n0 c0) /\ W'.cell? ⟨w.heap.size, 5, none⟩ = some (.slice A n1 c1))
    (first | with_reducible exact HB.out _ Y0.out | with_reducible exact HB.out _ y1)
    (first
      | (go_at_call 56
         refine (ahQ.out _ Y0.out).mono ?_;rintro e v1 ⟨rfl,x1⟩
         have y1:Ext W v1:=Ext.trans Y0.out x1)
      | (go_at_call 44
         refine (jel _ _ _).mono ?_
         rintro e v4 ⟨rfl,rfl⟩))
   all_goals
    have X3:=hid (HWX.out.trans y1);clear y1 x1 HB Y0;go_wp2_with fail;go_ret;exact ⟨by rw [HT.out]; rfl,X3.out⟩
 have q2:(t.kind == 2)=false:=by simpa using k2
 by_cases k3:t.kind=3
 · have htv:=HTV.out;rw [if_neg k1,if_neg k2,if_pos k3] at htv;have HT:=hid htv;have q3:(t.kind == 3)=true:=by simpa using k3
   clear k1 k2 k3 HTV htv ahQ;go_wp2_with fail;clear hW b0 b1 b2 b3 b4 b5 b6
   go_loopw [27] (fun iv wr=>∃ (k:Nat),k<=t.ks.length/\iv=.int .i64 k/\Hid (allM (rho xs) (t.ks.take k)=true/\Ext W wr)) (fun iv _=>t.ks.length - (intOf iv).toNat)
   case atStart=>exact ⟨0,pM _,rfl,⟨by simp [allM],Ext.refl W⟩⟩
   case round =>
    obtain ⟨k,hk,rfl,⟨acl,hxw⟩⟩:=hrel;have aec:=hid acl;have HXW:=hid hxw
    by_cases hlt:k < t.ks.length
    · obtain ⟨ad,B0,m0,d0,B1,m1,d1,K2,n2,c2,rfl,abW,hnd,hkt⟩:=zdr.kid H4.out k hlt;obtain ⟨e0,e1,e2,e3,e4,e5,e6⟩:=hnd.ext (HX0.out.trans hxw) (by rw [zc1]; exact abW);have agC:=IH.out t.ks[k] _ (wr.alloc (.cells #[.int .i64 t.ks[k].kind,.int .i64 t.ks[k].rel,.int .i64 t.ks[k].p.lv,.bool t.ks[k].p.neg,.slice B0 m0 d0,.slice B1 m1 d1,.slice K2 n2 c2] 47)) (by have:=HSZ.out k hlt; omega) (by have:=HSZ.out k hlt; omega) (jee HEA.out (pt hlt)) hkt ((HX0.out.trans hxw).alloc _);have af9:=hid agC;have HST:Hid (allM (rho xs) (t.ks.take (k+1))=(allM (rho xs) (t.ks.take k) && t.ks[k].tv (rho xs))):=by
       have:allM (rho xs) (t.ks.take (k+1))=(allM (rho xs) (t.ks.take k) && t.ks[k].tv (rho xs)):=zfu _ _ _ hlt;exact this
      clear agC hkt hnd abW acl hxw;generalize t.ks[k].tv (rho xs)=tk at *;unfold mxV at af9;go_wp2_with fail;refine af9.out.mono ?_;rintro e w2 ⟨rfl,x2⟩;have X2:=hid ((HXW.out.alloc _).trans x2);clear x2 af9 e0 e1 e2 e3 e4 e5 e6;cases tk
      · have HF:Hid (t.tv (rho xs)=false):=by
         have h:=HST.out;rw [Bool.and_false] at h;have:t.tv (rho xs)=false:=by rw [HT.out]; exact gf6 _ _ _ h
         exact this
        go_wp2_with fail;go_ret;exact ⟨by rw [HF.out]; rfl,HWX.out.trans X2.out⟩
      · have HF:Hid (allM (rho xs) (t.ks.take (k+1))=true):=by
         have h:=HST.out;rw [aec.out] at h;exact h
        go_wp2_with fail
        go_roundw
        case rel=>exact ⟨k+1,by omega,by go_num,⟨HF.out,X2.out⟩⟩
        case measure=>simp [intOf]; omega
    · have hke:k=t.ks.length:=by omega
      have HF:Hid (t.tv (rho xs)=true):=by
       have h:=aec.out;rw [hke,pw] at h;have:t.tv (rho xs)=true:=by rw [HT.out]; exact h
       exact this
      clear hke acl hxw;go_wp2_with fail;go_ret;exact ⟨by rw [HF.out]; rfl,HWX.out.trans HXW.out⟩
 have q3:(t.kind == 3)=false:=by simpa using k3
 by_cases k4:t.kind=4
 · have htv:=HTV.out;rw [if_neg k1,if_neg k2,if_neg k3,if_pos k4] at htv;have HT:=hid htv;have q4:(t.kind == 4)=true:=by simpa using k4
   clear k1 k2 k3 k4 HTV htv ahQ;go_wp2_with fail;clear hW b0 b1 b2 b3 b4 b5 b6
   go_loopw [41] (fun iv wr=>∃ (k:Nat),k<=t.ks.length/\iv=.int .i64 k/\Hid (anyM (rho xs) (t.ks.take k)=false/\Ext W wr)) (fun iv _=>t.ks.length - (intOf iv).toNat)
   case atStart=>exact ⟨0,pM _,rfl,⟨by simp [anyM],Ext.refl W⟩⟩
   case round =>
    obtain ⟨k,hk,rfl,⟨acl,hxw⟩⟩:=hrel;have aec:=hid acl;have HXW:=hid hxw
    by_cases hlt:k < t.ks.length
    · obtain ⟨ad,B0,m0,d0,B1,m1,d1,K2,n2,c2,rfl,abW,hnd,hkt⟩:=zdr.kid H4.out k hlt;obtain ⟨e0,e1,e2,e3,e4,e5,e6⟩:=hnd.ext (HX0.out.trans hxw) (by rw [zc1]; exact abW);have agC:=IH.out t.ks[k] _ (wr.alloc (.cells #[.int .i64 t.ks[k].kind,.int .i64 t.ks[k].rel,.int .i64 t.ks[k].p.lv,.bool t.ks[k].p.neg,.slice B0 m0 d0,.slice B1 m1 d1,.slice K2 n2 c2] 47)) (by have:=HSZ.out k hlt; omega) (by have:=HSZ.out k hlt; omega) (jee HEA.out (pt hlt)) hkt ((HX0.out.trans hxw).alloc _);have af9:=hid agC;have HST:Hid (anyM (rho xs) (t.ks.take (k+1))=(anyM (rho xs) (t.ks.take k) || t.ks[k].tv (rho xs))):=by
       have:anyM (rho xs) (t.ks.take (k+1))=(anyM (rho xs) (t.ks.take k) || t.ks[k].tv (rho xs)):=wft _ _ _ hlt;exact this
      clear agC hkt hnd abW acl hxw;generalize t.ks[k].tv (rho xs)=tk at *;unfold mxV at af9;go_wp2_with fail;refine af9.out.mono ?_;rintro e w2 ⟨rfl,x2⟩;have X2:=hid ((HXW.out.alloc _).trans x2);clear x2 af9 e0 e1 e2 e3 e4 e5 e6;cases tk
      · have HF:Hid (anyM (rho xs) (t.ks.take (k+1))=false):=by
         have h:=HST.out;rw [aec.out] at h;exact h
        go_wp2_with fail
        go_roundw
        case rel=>exact ⟨k+1,by omega,by go_num,⟨HF.out,X2.out⟩⟩
        case measure=>simp [intOf]; omega
      · have HF:Hid (t.tv (rho xs)=true):=by
         have h:=HST.out;rw [Bool.or_true] at h;have:t.tv (rho xs)=true:=by rw [HT.out]; exact uf6 _ _ _ h
         exact this
        go_wp2_with fail;go_ret;exact ⟨by rw [HF.out]; rfl,HWX.out.trans X2.out⟩
    · have hke:k=t.ks.length:=by omega
      have HF:Hid (t.tv (rho xs)=false):=by
       have h:=aec.out;rw [hke,pw] at h;have:t.tv (rho xs)=false:=by rw [HT.out]; exact h
       exact this
      clear hke acl hxw;go_wp2_with fail;go_ret;exact ⟨by rw [HF.out]; rfl,HWX.out.trans HXW.out⟩
 · have htv:=HTV.out;rw [if_neg k1,if_neg k2,if_neg k3,if_neg k4] at htv;have HT:=hid htv;have q4:(t.kind == 4)=false:=by simpa using k4
   clear k1 k2 k3 k4 HTV htv ahQ;go_wp2_with fail;go_ret;exact ⟨by rw [HT.out]; rfl,HWX.out⟩
theorem len0 {α:Type} {l:List α} (h:l.length=0):l=[]:=pV h
theorem len1 {α:Type} {l:List α} (h:l.length=1):∃ x,l=[x]:=by
 cases l with
 | nil=>simp at h
 | cons x r=>exact ⟨x,by rw [len0 (l:=r) (by simpa using h)]⟩
theorem gep {α:Type} {l:List α} (h:l.length=2):∃ x y,l=[x,y]:=by
 cases l with
 | nil=>simp at h
 | cons x r =>
   obtain ⟨y,rfl⟩:=len1 (l:=r) (by simpa using h);exact ⟨x,y,rfl⟩
def jd1 (w:World) (g:Nat) (d:Nd) (s A:Value):Prop:=
 w.cell? ⟨g,0,none⟩=some (.int .i64 d.kind)/\w.cell? ⟨g,1,none⟩=some (.bool d.neg)/\w.cell? ⟨g,2,none⟩=some s/\w.cell? ⟨g,3,none⟩=some (.string d.name)/\w.cell? ⟨g,4,none⟩=some (.int .i64 d.exp)/\w.cell? ⟨g,5,none⟩=some (.int .i64 d.rel)/\w.cell? ⟨g,6,none⟩=some (.bool d.truth)/\w.cell? ⟨g,7,none⟩=some (.bool d.all)/\w.cell? ⟨g,8,none⟩=some A
theorem jd1.ext {w w':World} {g:Nat} {d:Nd} {s A:Value} (h:jd1 w g d s A) (hx:Ext w w') (hg:g < w.heap.size):jd1 w' g d s A:=by
 obtain ⟨h0,h1,h2,h3,h4,h5,h6,h7,h8⟩:=h;have k:∀ i,w'.cell? ⟨g,i,none⟩=w.cell? ⟨g,i,none⟩:=fun i=>hx.cell (p:=⟨g,i,none⟩) hg
 exact ⟨(k _).trans h0,(k _).trans h1,(k _).trans h2,(k _).trans h3,(k _).trans h4,(k _).trans h5,(k _).trans h6,(k _).trans h7,(k _).trans h8⟩
theorem jd1.new (w:World) (d:Nd) (s A:Value) (T:TypeId):jd1 (w.alloc (.cells #[.int .i64 d.kind,.bool d.neg,s,.string d.name,.int .i64 d.exp,.int .i64 d.rel,.bool d.truth,.bool d.all,A] T)) w.heap.size d s A:=by
 refine ⟨?_,?_,?_,?_,?_,?_,?_,?_,?_⟩ <;> simp [go_sem]
mutual
def Tr.room : Tr -> Int -> Nat -> Int
 | .mk _ ks,n,deep=>match deep with
   | 0=>-1
   | d+1=>gdp ks (n - 1) d
def gdp : List Tr -> Int -> Nat -> Int
 | [],n,_=>n
 | t :: r,n,d=>if n < 0 then -1 else gdp r (t.room n d) d
end
mutual
theorem Tr.xQ : ∀ (t : Tr) (n : Int) (d : Nat), 0 <= n -> -1 <= t.room n d /\ t.room n d <= n
 | .mk _ ks,n,deep,h=>by
   cases deep with
   | zero=>simp only [Tr.room]; omega
   | succ d=>simp only [Tr.room]; have:=zeh ks (n - 1) d (by omega); omega
theorem zeh : ∀ (l : List Tr) (n : Int) (d : Nat), -1 <= n -> -1 <= gdp l n d /\ gdp l n d <= n
 | [],n,d,h=>by simp only [gdp]; omega
 | t :: r,n,d,h=>by
   simp only [gdp]
   split
   · omega
   · have h1:=Tr.xQ t n d (by omega);have h2:=zeh r (t.room n d) d h1.1;omega
end
theorem wex (l:List Tr) (d:Nat):gdp l (-1) d=-1:=by cases l <;> simp [gdp]
theorem uej (l r:List Tr) (n:Int) (d:Nat) (hn:-1<=n):gdp (l ++ r) n d=gdp r (gdp l n d) d:=by
 induction l generalizing n with
 | nil=>simp [gdp]
 | cons t l ih =>
   simp only [rj,gdp]
   split
   · rw [wex]
   · exact ih _ (Tr.xQ t n d (by omega)).1
theorem wfg (l:List Tr) (k:Nat) (hk:k < l.length) (n:Int) (d:Nat) (hn:-1<=n):gdp (l.take (k+1)) n d=if gdp (l.take k) n d < 0 then -1 else (l[k]).room (gdp (l.take k) n d) d:=by
 rw [pg hk,uej _ _ _ _ hn];simp [gdp]
theorem vfo (l:List Tr) (k:Nat) (n:Int) (d:Nat) (hn:-1<=n) (hk:k < l.length) (h:gdp (l.take k) n d < 0):gdp l n d=-1:=by
 have h1:l=l.take k ++ l.drop k:=(rl k l).symm;have hb:=(zeh (l.take k) n d hn).1;have h2:gdp (l.take k) n d=-1:=by omega
 rw [h1,uej _ _ _ _ hn,h2,wex]
mutual
def Tr.sz : Tr -> Nat
 | .mk _ ks=>qdq ks+1
def qdq : List Tr -> Nat
 | []=>0
 | t :: r=>t.sz+qdq r
end
mutual
theorem Tr.zO : ∀ (t : Tr) (n : Int) (d : Nat), 0 <= n -> 0 <= t.room n d -> t.room n d = n - t.sz
 | .mk _ ks,n,deep,h,h'=>by
   cases deep with
   | zero=>simp only [Tr.room] at h'; omega
   | succ d =>
     simp only [Tr.room,Tr.sz] at h' ⊢;have:=ze4 ks (n - 1) d (by omega) h';omega
theorem ze4 : ∀ (l : List Tr) (n : Int) (d : Nat), -1 <= n -> 0 <= gdp l n d -> gdp l n d = n - qdq l
 | [],n,d,h,h'=>by simp only [gdp,qdq]; omega
 | t :: r,n,d,h,h'=>by
   simp only [gdp] at h' ⊢
   split at h'
   · omega
   · rename_i hn;rw [if_neg hn];have hb:=Tr.xQ t n d (by omega);have h2:=ze4 r (t.room n d) d hb.1 h';have hb2:=zeh r (t.room n d) d hb.1;have h1:=Tr.zO t n d (by omega) (by omega);simp only [qdq];omega
end
theorem Tr.room_le (t:Tr) (n d:Nat) (h:0<=t.room n d):t.sz<=n:=by
 have h1:=Tr.zO t n d (by omega) h;omega
theorem xga {p:Nat->Prop} (dd:Nat):∀ (t:Tr) (v:Value) (w:World) (n:Int) (deep:Nat),deep < dd->TrV w p t v->0<=n->n<=1000000->deep<=1000000 ->
 Calls Tryz.prog 87 #[v,.int .i64 n,.int .i64 deep] w (zdn (t.room n deep) w):=by
 induction dd with
 | zero=>intro t v w n deep h; omega
 | succ dd ih =>
 intro t v w n deep hdd h hn hn' hd';have IH:=hid ih;obtain ⟨A0,n0,c0,A,c,rfl,-,hl1,hl2,h4⟩:=h.open_;have H4:=hid h4;clear h4 ih h;unfold ndV;cases deep with
 | zero =>
   obtain ⟨d,ks⟩:=t;show Calls _ _ _ _ (zdn (-1) w);go_enter Tryz.func87,Tryz.ntmps87;go_wp2_with fail;go_ret;exact ⟨rfl,(Ext.refl w).alloc _⟩
 | succ deep =>
   have hde:(((deep+1:Nat):Int) == 0)=false:=by simp; omega
   have HR:Hid (t.room n (deep+1)=gdp t.ks (n - 1) deep):=by
    have:t.room n (deep+1)=gdp t.ks (n - 1) deep:=by cases t; rfl
    exact this
   obtain ⟨dI,hdI⟩:∃ dI:Int,((deep+1:Nat):Int)=dI:=⟨_,rfl⟩;rw [hdI] at hde ⊢;have aBp:1<=dI:=by omega
   have aBo:dI<=1000000:=by omega
   have HDI:Hid (dI - 1=(deep:Int)):=by
    have:dI - 1=(deep:Int):=by omega
    exact this
   clear hdI;obtain ⟨W,hW⟩:=n_m (w.alloc (.cells #[.int .i64 t.d.kind,.bool t.d.neg,.slice A0 n0 c0,.string t.d.name,.int .i64 t.d.exp,.int .i64 t.d.rel,.bool t.d.truth,.bool t.d.all,.slice A t.ks.length c] 29));have hWx:Ext w W:=by rw [<- hW]; exact (Ext.refl w).alloc _
   have hWs:w.heap.size < W.heap.size:=by rw [<- hW]; simp
   have d8:W.cell? ⟨w.heap.size,8,none⟩=some (.slice A t.ks.length c):=by rw [<- hW]; simp [go_sem]
   have HWX:=hid hWx;have D8:=hid d8;clear hWx;go_enter Tryz.func87,Tryz.ntmps87;go_wp2_with fail;clear hW d8
   go_loopw [1,15] (fun nv iv wr=>∃ (k:Nat) (m:Int),k<=t.ks.length/\iv=.int .i64 k/\nv=.int .i64 m/\-1<=m/\m<=1000000/\Hid (gdp (t.ks.take k) (n - 1) deep=m/\Ext W wr)) (fun _ iv _=>t.ks.length - (intOf iv).toNat)
   case atStart=>exact ⟨0,n - 1,pM _,rfl,rfl,by omega,by omega,⟨by simp [gdp],Ext.refl W⟩⟩
   case round =>
    obtain ⟨k,m,hk,rfl,rfl,hm1,hm2,⟨hm,hxw⟩⟩:=hrel;have HM:=hid hm;have HXW:=hid hxw;have d8:wr.cell? ⟨w.heap.size,8,none⟩=some (.slice A t.ks.length c):=(hxw.cell (p:=⟨w.heap.size,8,none⟩) hWs).trans D8.out
    by_cases hlt:k < t.ks.length
    · by_cases akG:m < 0
      · have HF:Hid (gdp t.ks (n - 1) deep=-1):=by
         have:gdp t.ks (n - 1) deep=-1:=vfo t.ks k (n - 1) deep (by omega) hlt (by omega);exact this
        clear hm hxw;go_wp2_with fail;go_ret;exact ⟨by rw [HR.out,HF.out]; rfl,HWX.out.trans HXW.out⟩
      · obtain ⟨ad,B0,m0,d0,B1,m1,d1,rfl,abW,⟨e0,e1,e2,e3,e4,e5,e6,e7,e8⟩,hkt⟩:=xdl.kid (xdl.ext H4.out (HWX.out.trans hxw)) k hlt;have HKT:=hid hkt;have afT:Hid (gdp (t.ks.take (k+1)) (n - 1) deep=(t.ks[k]).room m deep):=by
         have:gdp (t.ks.take (k+1)) (n - 1) deep=(t.ks[k]).room m deep:=by rw [wfg _ _ hlt _ _ (by omega),hm,if_neg akG]
         exact this
        clear hkt hm hxw abW;have hm0:decide (m < 0)=false:=by simpa using akG
        go_wp2_with fail;rw [HDI.out];have hbd:=Tr.xQ (t.ks[k]) m deep (by omega);refine (IH.out (t.ks[k]) _ wr m deep (by omega) HKT.out (by omega) (by omega) (by omega)).mono ?_;rintro e w2 ⟨rfl,x2⟩;have X2:=hid x2;clear x2 e0 e1 e2 e3 e4 e5 e6 e7 e8 d8;generalize hrm:(t.ks[k]).room m deep=m2 at *;have HRM:=hid hrm;clear hrm;go_wp2_with fail
        go_roundw
        case rel=>exact ⟨k+1,m2,by omega,by go_num,rfl,by omega,by omega,⟨afT.out,HXW.out.trans X2.out⟩⟩
        case measure=>simp [intOf]; omega
    · have hke:k=t.ks.length:=by omega
      have HF:Hid (gdp t.ks (n - 1) deep=m):=by
       rw [hke,pw] at hm;exact hm
      clear hm hxw hke;go_wp2_with fail;go_ret;exact ⟨by rw [HR.out,HF.out]; rfl,HWX.out.trans HXW.out⟩
theorem jfx {p:Nat->Prop} (t:Tr) (v:Value) (w:World) (n:Int) (deep:Nat) (h:TrV w p t v) (hn:0<=n) (hn':n<=1000000) (hd:deep<=1000000) :
 Calls Tryz.prog 87 #[v,.int .i64 n,.int .i64 deep] w (zdn (t.room n deep) w):=xga (deep+1) t v w n deep (pO _) h hn hn' hd
end Go.Proofs.YtheefiaoimbeiaaGreatDoor
