/- Layer 40: the truth of a formula. -/
import Derived.Test.YtopddaabiinboaaGreatMp7
import Derived.Test.YtopddaabiinboaaGreatMp16
import Derived.Test.YtopddaabiinboaaGreatMp30
import Derived.Test.YtopddaabiinboaaGreatMp20
import Derived.Test.YtopddaabiinboaaGreatMp29
import Derived.Test.YtopddaabiinboaaGreatMp24
set_option linter.unusedSimpArgs false
set_option linter.unusedVariables false

set_option maxRecDepth 100000
set_option maxHeartbeats 8000000
namespace Go.Proofs.YtopddaabiinboaaGreat
open Go.RowKit
attribute [local go_sem] gdg jde jdh vdg ydh zdh udg gdb kde wdg qdh wgt uc9 xdh wdb
def Fm.tv (g : ByteArray -> Option Rat) : Fm -> Bool
 | .truth b=>b
 | .atom l r k=>jdg r (vg2 (l.val g) (k.val g))
 | .not f=>!f.tv g
 | .and f h=>f.tv g && h.tv g
 | .or f h=>f.tv g || h.tv g
 | .imp f h=>!f.tv g || h.tv g
 | .iff f h=>f.tv g == h.tv g
 | .quant _ _ _=>false
def Fm.fine (g : ByteArray -> Option Rat) (L : Nat) : Fm -> Prop
 | .truth _=>True
 | .atom l _ k=>(l.covered g/\l.bt L<=1000000000000)/\(k.covered g/\k.bt L<=1000000000000)
 | .not f=>f.fine g L
 | .and f h=>f.fine g L/\h.fine g L
 | .or f h=>f.fine g L/\h.fine g L
 | .imp f h=>f.fine g L/\h.fine g L
 | .iff f h=>f.fine g L/\h.fine g L
 | .quant _ _ _=>True
def kg5 (w0:World) (L b:Nat) (g:ByteArray->Option Rat) (f:Fm):Prop:=∀ (v:Value) (w:World),Ext w0 w->FmV w0 L f v->Calls Tryz.prog 49 #[.map (some b),v] w (ydd (f.tv g) w)
section
variable {w0 w:World} {L b:Nat} {g:ByteArray->Option Rat}
theorem gim {t:Bool} {v:Value} (h:FmV w0 L (.truth t) v):Calls Tryz.prog 49 #[.map (some b),v] w (ydd t w):=by
 obtain rfl:=h;go_enter Tryz.func49,Tryz.ntmps49;go_wp2_with fail;go_ret;exact ⟨rfl,(Ext.refl w).alloc _⟩
theorem wim {al:Bool} {s:ByteArray} {f:Fm} {v:Value} (h:FmV w0 L (.quant al s f) v):Calls Tryz.prog 49 #[.map (some b),v] w (ydd false w):=by
 obtain ⟨x,rfl,-⟩:=h;go_enter Tryz.func49,Tryz.ntmps49;go_wp2_with fail;go_ret;exact ⟨rfl,Ext.refl w⟩
theorem xi6 {f:Fm} {v:Value} (h:FmV w0 L (.not f) v) (hx0:Ext w0 w) (ihf:kg5 w0 L b g f):Calls Tryz.prog 49 #[.map (some b),v] w (ydd (!f.tv g) w):=by
 obtain ⟨x,rfl,hx⟩:=h;have HX:=Lib.hid hx;have IHF:=Lib.hid ihf;obtain ⟨T,x,rfl⟩:=hx.iface;clear hx ihf;go_enter Tryz.func49,Tryz.ntmps49;go_wp2_with fail;refine (IHF.out _ _ (hx0.trans ((Ext.refl w).alloc _)) HX.out).mono ?_;rintro e w1 ⟨rfl,x1⟩;have X1:=Lib.hid (((Ext.refl w).alloc _).trans x1);clear x1;go_wp2_with fail;go_ret;exact ⟨rfl,X1.out⟩
theorem ki6 {f h:Fm} {v:Value} (hv:FmV w0 L (.and f h) v) (hx0:Ext w0 w) (ihf:kg5 w0 L b g f) (ihh:kg5 w0 L b g h):Calls Tryz.prog 49 #[.map (some b),v] w (ydd (f.tv g && h.tv g) w):=by
 obtain ⟨x,y,rfl,hx,hy⟩:=hv;have HX:=Lib.hid hx;have HY:=Lib.hid hy;obtain ⟨T,x,rfl⟩:=hx.iface;obtain ⟨U,y,rfl⟩:=hy.iface;obtain ⟨W,hW⟩:=n_m (w.alloc (.cells #[.iface T x,.iface U y] 160));have hWx:Ext w W:=by rw [<- hW]; exact (Ext.refl w).alloc _
 have d0:W.cell? ⟨w.heap.size,0,none⟩=some (.iface T x):=by rw [<- hW]; simp [go_sem]
 have D1:Hid (W.cell? ⟨w.heap.size,1,none⟩=some (.iface U y)):=by
  have:W.cell? ⟨w.heap.size,1,none⟩=some (.iface U y):=by rw [<- hW]; simp [go_sem]
  exact this
 have hws:w.heap.size < W.heap.size:=by rw [<- hW]; simp
 have HF:=Lib.hid (ihf _ W (hx0.trans hWx) hx);have HH:=Lib.hid ihh;have HWX:=Lib.hid hWx;have HX0:=Lib.hid hx0;clear hx hy ihf ihh hWx hx0
 by_cases ht:f.tv g=false
 · rw [ht] at HF ⊢;show Calls _ _ _ _ (ydd false w);go_enter Tryz.func49,Tryz.ntmps49;go_wp2_with fail;refine HF.out.mono ?_;rintro e w1 ⟨rfl,x1⟩;have X1:=Lib.hid (HWX.out.trans x1);clear x1 d0 hW;go_wp2_with fail;go_ret;exact ⟨rfl,X1.out⟩
 · have ht':f.tv g=true:=by simpa using ht
   rw [ht'] at HF ⊢;clear ht ht';show Calls _ _ _ _ (ydd (h.tv g) w);go_enter Tryz.func49,Tryz.ntmps49;go_wp2_with fail;refine HF.out.mono ?_;rintro e w1 ⟨rfl,x1⟩;have d1:w1.cell? ⟨w.heap.size,1,none⟩=some (.iface U y):=(x1.cell (p:=⟨w.heap.size,1,none⟩) hws).trans D1.out;have X1:=Lib.hid (HWX.out.trans x1);clear x1 d0 hW;go_wp2_with fail;clear d1;refine (HH.out _ _ (HX0.out.trans X1.out) HY.out).mono ?_;rintro e w2 ⟨rfl,x2⟩;have X2:=Lib.hid (X1.out.trans x2);clear x2;go_wp2_with fail;go_ret;exact ⟨rfl,X2.out⟩
theorem kja {f h:Fm} {v:Value} (hv:FmV w0 L (.or f h) v) (hx0:Ext w0 w) (ihf:kg5 w0 L b g f) (ihh:kg5 w0 L b g h):Calls Tryz.prog 49 #[.map (some b),v] w (ydd (f.tv g || h.tv g) w):=by
 obtain ⟨x,y,rfl,hx,hy⟩:=hv;have HX:=Lib.hid hx;have HY:=Lib.hid hy;obtain ⟨T,x,rfl⟩:=hx.iface;obtain ⟨U,y,rfl⟩:=hy.iface;obtain ⟨W,hW⟩:=n_m (w.alloc (.cells #[.iface T x,.iface U y] 161));have hWx:Ext w W:=by rw [<- hW]; exact (Ext.refl w).alloc _
 have d0:W.cell? ⟨w.heap.size,0,none⟩=some (.iface T x):=by rw [<- hW]; simp [go_sem]
 have D1:Hid (W.cell? ⟨w.heap.size,1,none⟩=some (.iface U y)):=by
  have:W.cell? ⟨w.heap.size,1,none⟩=some (.iface U y):=by rw [<- hW]; simp [go_sem]
  exact this
 have hws:w.heap.size < W.heap.size:=by rw [<- hW]; simp
 have HF:=Lib.hid (ihf _ W (hx0.trans hWx) hx);have HH:=Lib.hid ihh;have HWX:=Lib.hid hWx;have HX0:=Lib.hid hx0;clear hx hy ihf ihh hWx hx0
 by_cases ht:f.tv g=true
 · rw [ht] at HF ⊢;show Calls _ _ _ _ (ydd true w);go_enter Tryz.func49,Tryz.ntmps49;go_wp2_with fail;refine HF.out.mono ?_;rintro e w1 ⟨rfl,x1⟩;have X1:=Lib.hid (HWX.out.trans x1);clear x1 d0 hW;go_wp2_with fail;go_ret;exact ⟨rfl,X1.out⟩
 · have ht':f.tv g=false:=by simpa using ht
   rw [ht'] at HF ⊢;clear ht ht';show Calls _ _ _ _ (ydd (h.tv g) w);go_enter Tryz.func49,Tryz.ntmps49;go_wp2_with fail;refine HF.out.mono ?_;rintro e w1 ⟨rfl,x1⟩;have d1:w1.cell? ⟨w.heap.size,1,none⟩=some (.iface U y):=(x1.cell (p:=⟨w.heap.size,1,none⟩) hws).trans D1.out;have X1:=Lib.hid (HWX.out.trans x1);clear x1 d0 hW;go_wp2_with fail;clear d1;refine (HH.out _ _ (HX0.out.trans X1.out) HY.out).mono ?_;rintro e w2 ⟨rfl,x2⟩;have X2:=Lib.hid (X1.out.trans x2);clear x2;go_wp2_with fail;go_ret;exact ⟨rfl,X2.out⟩
theorem qi6 {f h:Fm} {v:Value} (hv:FmV w0 L (.imp f h) v) (hx0:Ext w0 w) (ihf:kg5 w0 L b g f) (ihh:kg5 w0 L b g h):Calls Tryz.prog 49 #[.map (some b),v] w (ydd (!f.tv g || h.tv g) w):=by
 obtain ⟨x,y,rfl,hx,hy⟩:=hv;have HX:=Lib.hid hx;have HY:=Lib.hid hy;obtain ⟨T,x,rfl⟩:=hx.iface;obtain ⟨U,y,rfl⟩:=hy.iface;obtain ⟨W,hW⟩:=n_m (w.alloc (.cells #[.iface T x,.iface U y] 162));have hWx:Ext w W:=by rw [<- hW]; exact (Ext.refl w).alloc _
 have d0:W.cell? ⟨w.heap.size,0,none⟩=some (.iface T x):=by rw [<- hW]; simp [go_sem]
 have D1:Hid (W.cell? ⟨w.heap.size,1,none⟩=some (.iface U y)):=by
  have:W.cell? ⟨w.heap.size,1,none⟩=some (.iface U y):=by rw [<- hW]; simp [go_sem]
  exact this
 have hws:w.heap.size < W.heap.size:=by rw [<- hW]; simp
 have HF:=Lib.hid (ihf _ W (hx0.trans hWx) hx);have HH:=Lib.hid ihh;have HWX:=Lib.hid hWx;have HX0:=Lib.hid hx0;clear hx hy ihf ihh hWx hx0
 by_cases ht:f.tv g=false
 · rw [ht] at HF ⊢;show Calls _ _ _ _ (ydd true w);go_enter Tryz.func49,Tryz.ntmps49;go_wp2_with fail;refine HF.out.mono ?_;rintro e w1 ⟨rfl,x1⟩;have X1:=Lib.hid (HWX.out.trans x1);clear x1 d0 hW;go_wp2_with fail;go_ret;exact ⟨rfl,X1.out⟩
 · have ht':f.tv g=true:=by simpa using ht
   rw [ht'] at HF ⊢;clear ht ht';show Calls _ _ _ _ (ydd (h.tv g) w);go_enter Tryz.func49,Tryz.ntmps49;go_wp2_with fail;refine HF.out.mono ?_;rintro e w1 ⟨rfl,x1⟩;have d1:w1.cell? ⟨w.heap.size,1,none⟩=some (.iface U y):=(x1.cell (p:=⟨w.heap.size,1,none⟩) hws).trans D1.out;have X1:=Lib.hid (HWX.out.trans x1);clear x1 d0 hW;go_wp2_with fail;clear d1;refine (HH.out _ _ (HX0.out.trans X1.out) HY.out).mono ?_;rintro e w2 ⟨rfl,x2⟩;have X2:=Lib.hid (X1.out.trans x2);clear x2;go_wp2_with fail;go_ret;exact ⟨rfl,X2.out⟩
theorem ji6 {f h:Fm} {v:Value} (hv:FmV w0 L (.iff f h) v) (hx0:Ext w0 w) (ihf:kg5 w0 L b g f) (ihh:kg5 w0 L b g h):Calls Tryz.prog 49 #[.map (some b),v] w (ydd (f.tv g == h.tv g) w):=by
 obtain ⟨x,y,rfl,hx,hy⟩:=hv;have HX:=Lib.hid hx;have HY:=Lib.hid hy;obtain ⟨T,x,rfl⟩:=hx.iface;obtain ⟨U,y,rfl⟩:=hy.iface;have IHF:=Lib.hid ihf;have IHH:=Lib.hid ihh;have HX0:=Lib.hid hx0;clear hx hy ihf ihh hx0;go_enter Tryz.func49,Tryz.ntmps49;go_wp2_with fail;obtain ⟨W,hW⟩:=n_m (w.alloc (.cells #[.iface T x,.iface U y] 163));have HB:Hid (∀ W',Ext W W'->(Ext W W'/\W'.cell? ⟨w.heap.size,0,none⟩=some (.iface T x)/\W'.cell? ⟨w.heap.size,1,none⟩=some (.iface U y))):=by
  intro W' hx;obtain ⟨hc,hf⟩:=hx.cells;refine ⟨hx,?_,?_⟩ <;> (rw [hc _ _ (by rw [<- hW]; simp),<- hW]; simp [go_sem])
 have HWX:Hid (Ext w W):=by
  have:Ext w W:=by rw [<- hW]; exact (Ext.refl w).alloc _
  exact this
 rw [hW];clear hW;have y0:Ext W W.drew:=(Ext.refl W).drew;have Y0:=Lib.hid y0;clear y0
 go_region_held3 (fun W' => Ext W W' /\ W'.cell? ⟨w.heap.size, 0, none⟩ = some (.iface T x) /\ W'.cell? ⟨w.heap.size, 1, none⟩ = some (.iface U y))
  (first | with_reducible exact HB.out _ Y0.out | with_reducible exact HB.out _ y1 | with_reducible exact HB.out _ y2)
  (first
    | (go_at_call_of 49 (Value.iface T x)
       refine (IHF.out _ _ (HX0.out.trans (HWX.out.trans Y0.out)) HX.out).mono ?_;rintro e v1 ⟨rfl,x1⟩
       have y1:Ext W v1:=Ext.trans Y0.out x1)
    | (go_at_call_of 49 (Value.iface U y)
       refine (IHH.out _ _ (HX0.out.trans (HWX.out.trans y1)) HY.out).mono ?_;rintro e v2 ⟨rfl,x2⟩
       have y2:Ext W v2:=Ext.trans y1 x2))
 have X2:=Lib.hid (HWX.out.trans y2);clear y1 y2 x1 x2 HB HWX Y0;go_wp2_with fail;go_ret;exact ⟨rfl,X2.out⟩
theorem uix {l k:Tm} {r:Int} {v:Value} (hm:kdj w0 L b g) (hL:1<=L) (hgl:∀ s q,g s=some q->rlen q<=L) (hv:FmV w0 L (.atom l r k) v) (hx0:Ext w0 w) (hf:(Fm.atom l r k).fine g L):Calls Tryz.prog 49 #[.map (some b),v] w (ydd (jdg r (vg2 (l.val g) (k.val g))) w):=by
 have IHL:=Lib.hid (qhs hm hL hgl l hf.1.1 hf.1.2);have IHK:=Lib.hid (qhs hm hL hgl k hf.2.1 hf.2.2);obtain ⟨x,y,rfl,hx,hy⟩:=hv;have h1:=Nat.le_trans (wdi hL hgl hx hf.1.1) hf.1.2;have h2:=Nat.le_trans (wdi hL hgl hy hf.2.1) hf.2.2;have hp1:=uc8 (l.val g);have hp2:=uc8 (k.val g);have HX:=Lib.hid hx;have HY:=Lib.hid hy;obtain ⟨T,x,rfl⟩:=hx.iface;obtain ⟨U,y,rfl⟩:=hy.iface;have HX0:=Lib.hid hx0;clear hx hy hx0 hm hgl hf;go_enter Tryz.func49,Tryz.ntmps49;go_wp2_with fail;obtain ⟨W,hW⟩:=n_m (w.alloc (.cells #[.iface T x,.int .i64 r,.iface U y] 67));have HB:Hid (∀ W',Ext W W'->(Ext W W'/\W'.cell? ⟨w.heap.size,0,none⟩=some (.iface T x)/\W'.cell? ⟨w.heap.size,1,none⟩=some (.int .i64 r)/\W'.cell? ⟨w.heap.size,2,none⟩=some (.iface U y))):=by
  intro W' hx;obtain ⟨hc,hf⟩:=hx.cells;refine ⟨hx,?_,?_,?_⟩ <;> (rw [hc _ _ (by rw [<- hW]; simp),<- hW]; simp [go_sem])
 have HWX:Hid (Ext w W):=by
  have:Ext w W:=by rw [<- hW]; exact (Ext.refl w).alloc _
  exact this
 rw [hW];clear hW;have y0:Ext W W.drew:=(Ext.refl W).drew;have Y0:=Lib.hid y0;clear y0
 go_region_held3 (fun W' => Ext W W' /\ W'.cell? ⟨w.heap.size, 0, none⟩ = some (.iface T x) /\ W'.cell? ⟨w.heap.size, 1, none⟩ = some (.int .i64 r) /\ W'.cell? ⟨w.heap.size, 2, none⟩ = some (.iface U y))
  (first | with_reducible exact HB.out _ Y0.out | with_reducible exact HB.out _ y1 | with_reducible exact HB.out _ y2 | with_reducible exact HB.out _ y3)
  (first
    | (go_at_call_of 88 (Value.iface T x)
       refine (IHL.out _ _ (HX0.out.trans (HWX.out.trans Y0.out)) HX.out).mono ?_;rintro e v1 ⟨z1,rfl,m1,x1⟩;obtain ⟨b1,A1,n1,c1,B1,k1,d1,rfl⟩:=m1.unpack
       have y1:Ext W v1:=Ext.trans Y0.out x1)
    | (go_at_call_of 88 (Value.iface U y)
       refine (IHK.out _ _ (HX0.out.trans (HWX.out.trans y1)) HY.out).mono ?_;rintro e v2 ⟨z2,rfl,m2,x2⟩;obtain ⟨b2,A2,n2,c2,B2,k2,d2,rfl⟩:=m2.unpack
       have y2:Ext W v2:=Ext.trans y1 x2)
    | (go_at_call 87
       refine (xh6 _ _ (l.val g) (k.val g) (rlen (l.val g)) (rlen (k.val g)) _ (m1.raw.ext x2) m2.raw hp1 hp2 (by omega)).mono ?_;rintro e v3 ⟨rfl,x3⟩
       have y3:Ext W v3:=Ext.trans y2 x3)
    | (go_at_call 21
       refine (vg4 _ _ _).mono ?_
       rintro e v4 ⟨rfl,rfl⟩))
 all_goals
  have X3:=Lib.hid (HWX.out.trans y3);clear y1 y2 y3 x1 x2 x3 m1 m2 HB HWX Y0;go_wp2_with fail;go_ret;exact ⟨rfl,X3.out⟩
theorem qh3 (hm:kdj w0 L b g) (hL:1<=L) (hgl:∀ s q,g s=some q->rlen q<=L) (f:Fm) (hf:f.fine g L):kg5 w0 L b g f:=by
 induction f with
 | truth t=>exact fun v w hx h=>gim h
 | atom l r k=>exact fun v w hx h=>uix hm hL hgl h hx hf
 | not f ihf=>exact fun v w hx h=>xi6 h hx (ihf hf)
 | and f h ihf ihh=>exact fun v w hx hv=>ki6 hv hx (ihf hf.1) (ihh hf.2)
 | or f h ihf ihh=>exact fun v w hx hv=>kja hv hx (ihf hf.1) (ihh hf.2)
 | imp f h ihf ihh=>exact fun v w hx hv=>qi6 hv hx (ihf hf.1) (ihh hf.2)
 | iff f h ihf ihh=>exact fun v w hx hv=>ji6 hv hx (ihf hf.1) (ihh hf.2)
 | quant a s f ihf=>exact fun v w hx h=>wim h
end
end Go.Proofs.YtopddaabiinboaaGreat

/- Layer 40: evaluate.truth of a matrix. -/
set_option maxRecDepth 100000
set_option maxHeartbeats 8000000
namespace Go.Proofs.YtopddaabiinboaaGreat
open Go.RowKit
mutual
def Mx.tv (ρ : Int -> Rat) : Mx -> Bool
 | .mk k r p ks=>if k=1 then true else if k=2 then jdg r (sgQ (p.val ρ)) else if k=3 then allM ρ ks else if k=4 then anyM ρ ks else false
def allM (ρ : Int -> Rat) : List Mx -> Bool
 | []=>true
 | t :: r=>t.tv ρ && allM ρ r
def anyM (ρ : Int -> Rat) : List Mx -> Bool
 | []=>false
 | t :: r=>t.tv ρ || anyM ρ r
end
theorem Mx.tv_eq (ρ:Int->Rat) (t:Mx):t.tv ρ=if t.kind=1 then true else if t.kind=2 then jdg t.rel (sgQ (t.p.val ρ)) else if t.kind=3 then allM ρ t.ks else if t.kind=4 then anyM ρ t.ks else false:=by
 cases t; rw [Mx.tv]; rfl
theorem yhg (ρ:Int->Rat) (a b:List Mx):allM ρ (a ++ b)=(allM ρ a && allM ρ b):=by
 induction a with
 | nil=>simp [allM]
 | cons x r ih=>simp only [List.cons_append,allM,ih,Bool.and_assoc]
theorem zhg (ρ:Int->Rat) (a b:List Mx):anyM ρ (a ++ b)=(anyM ρ a || anyM ρ b):=by
 induction a with
 | nil=>simp [anyM]
 | cons x r ih=>simp only [List.cons_append,anyM,ih,Bool.or_assoc]
theorem vhq (ρ:Int->Rat) (l:List Mx) (k:Nat) (hk:k < l.length):allM ρ (l.take (k+1))=(allM ρ (l.take k) && l[k].tv ρ):=by
 rw [List.take_succ_eq_append_getElem hk,yhg]; simp [allM]
theorem khq (ρ:Int->Rat) (l:List Mx) (k:Nat) (hk:k < l.length):anyM ρ (l.take (k+1))=(anyM ρ (l.take k) || l[k].tv ρ):=by
 rw [List.take_succ_eq_append_getElem hk,zhg]; simp [anyM]
theorem uhz (ρ:Int->Rat) (l:List Mx) (k:Nat) (h:allM ρ (l.take k)=false):allM ρ l=false:=by
 rw [<- List.take_append_drop k l,yhg,h]; rfl
theorem vhz (ρ:Int->Rat) (l:List Mx) (k:Nat) (h:anyM ρ (l.take k)=true):anyM ρ l=true:=by
 rw [<- List.take_append_drop k l,zhg,h]; rfl
def wi9 (w0:World) (q:Nat->Prop) (L B:Nat) (xs:List Rat) (n:Nat):Prop:=∀ (t:Mx) (v:Value) (w:World),t.sz < n->t.sz<=1000000->t.each (fun p=>p.eb L<=1099511627776)->MxV w0 q t v->Ext w0 w->Calls Tryz.prog 33 #[v,.func (.func 39) #[] #[.pointer (some ⟨B,0,none⟩)]] w (ydd (t.tv (rho xs)) w)
theorem zi2 {w0:World} {q:Nat->Prop} {L B:Nat} {xv:Value} {xs:List Rat} (hL:1<=L) (hL2:L<=1099511627776) (hB:w0.cell? ⟨B,0,none⟩=some xv) (hBl:B < w0.heap.size) (hxs:RsV w0 L xv xs) (n:Nat):wi9 w0 q L B xs n:=by
 induction n with
 | zero=>intro t v w h; omega
 | succ n ih =>
 intro t v w hn hbig heach h hx0;have hkl:t.ks.length<=1000000:=by have:=t.ks_len; omega
 have IH:=Lib.hid ih;have HSZ:=Lib.hid (fun k hk=>t.kid_le k hk);have HEA:=Lib.hid (Mx.each_ks heach);have heb:=Mx.each_p heach;have hent:∀ args w,(callFunc 39 args).run Tryz.prog w=.ok (.enter 39 args) w:=enters_of Tryz.func39 (by kernel_rfl) rfl;obtain ⟨A0,n0,c0,A,n1,c1,K,c,rfl,hp,hl1,hl2,h4⟩:=h.open_;have HP:=Lib.hid hp;have H4:=Lib.hid h4;have HTV:=Lib.hid (t.tv_eq (rho xs));obtain ⟨W,hW⟩:=n_m (w.alloc (.cells #[.int .i64 t.kind,.int .i64 t.rel,.int .i64 t.p.lv,.bool t.p.neg,.slice A0 n0 c0,.slice A n1 c1,.slice K t.ks.length c] 50));have hWx:Ext w W:=by rw [<- hW]; exact (Ext.refl w).alloc _
 have hWs:W.heap.size=w.heap.size+1:=by rw [<- hW]; simp
 have hbx:udd W w.heap.size t (.slice A0 n0 c0) (.slice A n1 c1) (.slice K t.ks.length c):=by rw [<- hW]; exact udd.new w t _ _ _ _
 have HWX:=Lib.hid hWx;have HX0:=Lib.hid (hx0.trans hWx);have HBX:=Lib.hid hbx;obtain ⟨b0,b1,b2,b3,b4,b5,b6⟩:=hbx;have HCALL:Hid (∀ W',Ext W W'->Calls Tryz.prog 39 #[plV t.p (.slice A0 n0 c0) (.slice A n1 c1),.pointer (some ⟨B,0,none⟩)] W' (vc5 (sgQ (t.p.val (rho xs))) W')):=by
  have:∀ W',Ext W W'->Calls Tryz.prog 39 #[plV t.p (.slice A0 n0 c0) (.slice A n1 c1),.pointer (some ⟨B,0,none⟩)] W' (vc5 (sgQ (t.p.val (rho xs))) W'):=fun W' hx=>by
   have hx':Ext w0 W':=HX0.out.trans hx;exact vi4 hL hL2 ((hx'.cell (p:=⟨B,0,none⟩) hBl).trans hB) (Nat.lt_of_lt_of_le hBl hx'.size) (hxs.ext hx') t.p _ heb (HP.out.ext hx')
  exact this
 clear h ih h4 hWx hp heach hx0 hxs hB;unfold mxV;unfold plV at HCALL;generalize sgQ (t.p.val (rho xs))=sg at *;go_enter Tryz.func33,Tryz.ntmps33
 by_cases k1:t.kind=1
 · have htv:=HTV.out;rw [if_pos k1] at htv;have q1:(t.kind == 1)=true:=by simpa using k1
   clear k1;go_wp2_with fail;go_ret;exact ⟨by rw [htv]; rfl,HWX.out⟩
 have q1:(t.kind == 1)=false:=by simpa using k1
 by_cases k2:t.kind=2
 · have htv:=HTV.out;rw [if_neg k1,if_pos k2] at htv;have HT:=Lib.hid htv;have q2:(t.kind == 2)=true:=by simpa using k2
   clear k1 k2 HTV htv;have HB:Hid (∀ W',Ext W W'->(Ext W W'/\W'.cell? ⟨w.heap.size,1,none⟩=some (.int .i64 t.rel)/\W'.cell? ⟨w.heap.size,2,none⟩=some (.int .i64 t.p.lv)/\W'.cell? ⟨w.heap.size,3,none⟩=some (.bool t.p.neg)/\W'.cell? ⟨w.heap.size,4,none⟩=some (.slice A0 n0 c0)/\W'.cell? ⟨w.heap.size,5,none⟩=some (.slice A n1 c1))):=by
    have:∀ W',Ext W W'->(Ext W W'/\W'.cell? ⟨w.heap.size,1,none⟩=some (.int .i64 t.rel)/\W'.cell? ⟨w.heap.size,2,none⟩=some (.int .i64 t.p.lv)/\W'.cell? ⟨w.heap.size,3,none⟩=some (.bool t.p.neg)/\W'.cell? ⟨w.heap.size,4,none⟩=some (.slice A0 n0 c0)/\W'.cell? ⟨w.heap.size,5,none⟩=some (.slice A n1 c1)):=fun W' hx=>by
     obtain ⟨c0,c1,c2,c3,c4,c5,c6⟩:=HBX.out.ext hx (by omega);exact ⟨hx,c1,c2,c3,c4,c5⟩
    exact this
   go_wp2_with fail;clear hW b0 b1 b2 b3 b4 b5 b6;have y0:Ext W W.drew:=(Ext.refl W).drew;have Y0:=Lib.hid y0;clear y0
   go_region_held3 (fun W' => Ext W W' /\ W'.cell? ⟨w.heap.size, 1, none⟩ = some (.int .i64 t.rel) /\ W'.cell? ⟨w.heap.size, 2, none⟩ = some (.int .i64 t.p.lv) /\ W'.cell? ⟨w.heap.size, 3, none⟩ = some (.bool t.p.neg) /\ W'.cell? ⟨w.heap.size, 4, none⟩ = some (.slice A0 n0 c0) /\ W'.cell? ⟨w.heap.size, 5, none⟩ = some (.slice A n1 c1))
    (first | with_reducible exact HB.out _ Y0.out | with_reducible exact HB.out _ y1)
    (first
      | (go_at_call 39
         refine (HCALL.out _ Y0.out).mono ?_;rintro e v1 ⟨rfl,x1⟩
         have y1:Ext W v1:=Ext.trans Y0.out x1)
      | (go_at_call 21
         refine (vg4 _ _ _).mono ?_
         rintro e v4 ⟨rfl,rfl⟩))
   all_goals
    have X3:=Lib.hid (HWX.out.trans y1);clear y1 x1 HB Y0;go_wp2_with fail;go_ret;exact ⟨by rw [HT.out]; rfl,X3.out⟩
 have q2:(t.kind == 2)=false:=by simpa using k2
 by_cases k3:t.kind=3
 · have htv:=HTV.out;rw [if_neg k1,if_neg k2,if_pos k3] at htv;have HT:=Lib.hid htv;have q3:(t.kind == 3)=true:=by simpa using k3
   clear k1 k2 k3 HTV htv HCALL;go_wp2_with fail;clear hW b0 b1 b2 b3 b4 b5 b6
   go_loopw [27] (fun iv wr=>∃ (k:Nat),k<=t.ks.length/\iv=.int .i64 k/\Hid (allM (rho xs) (t.ks.take k)=true/\Ext W wr)) (fun iv _=>t.ks.length - (intOf iv).toNat)
   case atStart=>exact ⟨0,Nat.zero_le _,rfl,⟨by simp [allM],Ext.refl W⟩⟩
   case round =>
    obtain ⟨k,hk,rfl,⟨hall,hxw⟩⟩:=hrel;have HALL:=Lib.hid hall;have HXW:=Lib.hid hxw
    by_cases hlt:k < t.ks.length
    · obtain ⟨ad,B0,m0,d0,B1,m1,d1,K2,n2,c2,rfl,hadb,hnd,hkt⟩:=zc6.kid H4.out k hlt;obtain ⟨e0,e1,e2,e3,e4,e5,e6⟩:=hnd.ext (HX0.out.trans hxw) (by rw [uc2]; exact hadb);have hkid:=IH.out t.ks[k] _ (wr.alloc (.cells #[.int .i64 t.ks[k].kind,.int .i64 t.ks[k].rel,.int .i64 t.ks[k].p.lv,.bool t.ks[k].p.neg,.slice B0 m0 d0,.slice B1 m1 d1,.slice K2 n2 c2] 50)) (by have:=HSZ.out k hlt; omega) (by have:=HSZ.out k hlt; omega) (xgw HEA.out (List.getElem_mem hlt)) hkt ((HX0.out.trans hxw).alloc _);have HKID:=Lib.hid hkid;have HST:Hid (allM (rho xs) (t.ks.take (k+1))=(allM (rho xs) (t.ks.take k) && t.ks[k].tv (rho xs))):=by
       have:allM (rho xs) (t.ks.take (k+1))=(allM (rho xs) (t.ks.take k) && t.ks[k].tv (rho xs)):=vhq _ _ _ hlt;exact this
      clear hkid hkt hnd hadb hall hxw;generalize t.ks[k].tv (rho xs)=tk at *;unfold mxV at HKID;go_wp2_with fail;refine HKID.out.mono ?_;rintro e w2 ⟨rfl,x2⟩;have X2:=Lib.hid ((HXW.out.alloc _).trans x2);clear x2 HKID e0 e1 e2 e3 e4 e5 e6;cases tk
      · have HF:Hid (t.tv (rho xs)=false):=by
         have h:=HST.out;rw [Bool.and_false] at h;have:t.tv (rho xs)=false:=by rw [HT.out]; exact uhz _ _ _ h
         exact this
        go_wp2_with fail;go_ret;exact ⟨by rw [HF.out]; rfl,HWX.out.trans X2.out⟩
      · have HF:Hid (allM (rho xs) (t.ks.take (k+1))=true):=by
         have h:=HST.out;rw [HALL.out] at h;exact h
        go_wp2_with fail
        go_roundw
        case rel=>exact ⟨k+1,by omega,by go_num,⟨HF.out,X2.out⟩⟩
        case measure=>simp [intOf]; omega
    · have hke:k=t.ks.length:=by omega
      have HF:Hid (t.tv (rho xs)=true):=by
       have h:=HALL.out;rw [hke,List.take_length] at h;have:t.tv (rho xs)=true:=by rw [HT.out]; exact h
       exact this
      clear hke hall hxw;go_wp2_with fail;go_ret;exact ⟨by rw [HF.out]; rfl,HWX.out.trans HXW.out⟩
 have q3:(t.kind == 3)=false:=by simpa using k3
 by_cases k4:t.kind=4
 · have htv:=HTV.out;rw [if_neg k1,if_neg k2,if_neg k3,if_pos k4] at htv;have HT:=Lib.hid htv;have q4:(t.kind == 4)=true:=by simpa using k4
   clear k1 k2 k3 k4 HTV htv HCALL;go_wp2_with fail;clear hW b0 b1 b2 b3 b4 b5 b6
   go_loopw [41] (fun iv wr=>∃ (k:Nat),k<=t.ks.length/\iv=.int .i64 k/\Hid (anyM (rho xs) (t.ks.take k)=false/\Ext W wr)) (fun iv _=>t.ks.length - (intOf iv).toNat)
   case atStart=>exact ⟨0,Nat.zero_le _,rfl,⟨by simp [anyM],Ext.refl W⟩⟩
   case round =>
    obtain ⟨k,hk,rfl,⟨hall,hxw⟩⟩:=hrel;have HALL:=Lib.hid hall;have HXW:=Lib.hid hxw
    by_cases hlt:k < t.ks.length
    · obtain ⟨ad,B0,m0,d0,B1,m1,d1,K2,n2,c2,rfl,hadb,hnd,hkt⟩:=zc6.kid H4.out k hlt;obtain ⟨e0,e1,e2,e3,e4,e5,e6⟩:=hnd.ext (HX0.out.trans hxw) (by rw [uc2]; exact hadb);have hkid:=IH.out t.ks[k] _ (wr.alloc (.cells #[.int .i64 t.ks[k].kind,.int .i64 t.ks[k].rel,.int .i64 t.ks[k].p.lv,.bool t.ks[k].p.neg,.slice B0 m0 d0,.slice B1 m1 d1,.slice K2 n2 c2] 50)) (by have:=HSZ.out k hlt; omega) (by have:=HSZ.out k hlt; omega) (xgw HEA.out (List.getElem_mem hlt)) hkt ((HX0.out.trans hxw).alloc _);have HKID:=Lib.hid hkid;have HST:Hid (anyM (rho xs) (t.ks.take (k+1))=(anyM (rho xs) (t.ks.take k) || t.ks[k].tv (rho xs))):=by
       have:anyM (rho xs) (t.ks.take (k+1))=(anyM (rho xs) (t.ks.take k) || t.ks[k].tv (rho xs)):=khq _ _ _ hlt;exact this
      clear hkid hkt hnd hadb hall hxw;generalize t.ks[k].tv (rho xs)=tk at *;unfold mxV at HKID;go_wp2_with fail;refine HKID.out.mono ?_;rintro e w2 ⟨rfl,x2⟩;have X2:=Lib.hid ((HXW.out.alloc _).trans x2);clear x2 HKID e0 e1 e2 e3 e4 e5 e6;cases tk
      · have HF:Hid (anyM (rho xs) (t.ks.take (k+1))=false):=by
         have h:=HST.out;rw [HALL.out] at h;exact h
        go_wp2_with fail
        go_roundw
        case rel=>exact ⟨k+1,by omega,by go_num,⟨HF.out,X2.out⟩⟩
        case measure=>simp [intOf]; omega
      · have HF:Hid (t.tv (rho xs)=true):=by
         have h:=HST.out;rw [Bool.or_true] at h;have:t.tv (rho xs)=true:=by rw [HT.out]; exact vhz _ _ _ h
         exact this
        go_wp2_with fail;go_ret;exact ⟨by rw [HF.out]; rfl,HWX.out.trans X2.out⟩
    · have hke:k=t.ks.length:=by omega
      have HF:Hid (t.tv (rho xs)=false):=by
       have h:=HALL.out;rw [hke,List.take_length] at h;have:t.tv (rho xs)=false:=by rw [HT.out]; exact h
       exact this
      clear hke hall hxw;go_wp2_with fail;go_ret;exact ⟨by rw [HF.out]; rfl,HWX.out.trans HXW.out⟩
 · have htv:=HTV.out;rw [if_neg k1,if_neg k2,if_neg k3,if_neg k4] at htv;have HT:=Lib.hid htv;have q4:(t.kind == 4)=false:=by simpa using k4
   clear k1 k2 k3 k4 HTV htv HCALL;go_wp2_with fail;go_ret;exact ⟨by rw [HT.out]; rfl,HWX.out⟩
end Go.Proofs.YtopddaabiinboaaGreat

/- Layer 40: evaluate.truth of a matrix, with the closure of evaluate.AtPoint. -/
set_option maxRecDepth 100000
set_option maxHeartbeats 8000000
namespace Go.Proofs.YtopddaabiinboaaGreat
open Go.RowKit
theorem gh5 : ∀ (l : List Mx) (a : Int), a <= xda a l
 | [],_=>Int.le_refl _
 | t :: r,a=>by rw [xda]; have:=gh5 r (max a t.lvl); omega
theorem vhw : ∀ (l : List Mx) (a : Int) (t : Mx), t ∈ l -> t.lvl <= xda a l
 | s :: r,a,t,h=>by
   rw [xda];rcases List.mem_cons.1 h with rfl | h
   · have:=gh5 r (max a t.lvl); omega
   · exact vhw r _ t h
def jjb (w0:World) (q:Nat->Prop) (B:Nat) (P:Pl->Prop) (N:Int) (ρ:Int->Rat) (n:Nat):Prop:=∀ (t:Mx) (v:Value) (w:World),t.sz < n->t.sz<=1000000->t.each P->t.lvl<=N->MxV w0 q t v->Ext w0 w->Calls Tryz.prog 33 #[v,.func (.func 34) #[] #[.pointer (some ⟨B,0,none⟩)]] w (ydd (t.tv ρ) w)
theorem kir {w0:World} {q:Nat->Prop} {B:Nat} {P:Pl->Prop} {N:Int} {ρ:Int->Rat} (hcl:∀ (p:Pl) (v:Value) (W':World),P p->p.nf.lv<=N->PlV w0 q p v->Ext w0 W'->Calls Tryz.prog 34 #[v,.pointer (some ⟨B,0,none⟩)] W' (vc5 (sgQ (p.val ρ)) W')) (n:Nat):jjb w0 q B P N ρ n:=by
 induction n with
 | zero=>intro t v w h; omega
 | succ n ih =>
 intro t v w hn hbig heach hlv h hx0;have HLV:=Lib.hid hlv;have HLK:Hid (∀ k (hk:k < t.ks.length),(t.kind=3\/t.kind=4)->t.ks[k].lvl<=N):=by
  intro k hk h34;have h1:=HLV.out;rw [t.lvl_eq,if_neg (by omega),if_pos h34] at h1;exact Int.le_trans (vhw _ _ _ (List.getElem_mem hk)) h1
 clear hlv;have hkl:t.ks.length<=1000000:=by have:=t.ks_len; omega
 have IH:=Lib.hid ih;have HSZ:=Lib.hid (fun k hk=>t.kid_le k hk);have HEA:=Lib.hid (Mx.each_ks heach);have heb:=Mx.each_p heach;have hent:∀ args w,(callFunc 34 args).run Tryz.prog w=.ok (.enter 34 args) w:=enters_of Tryz.func34 (by kernel_rfl) rfl;obtain ⟨A0,n0,c0,A,n1,c1,K,c,rfl,hp,hl1,hl2,h4⟩:=h.open_;have HP:=Lib.hid hp;have H4:=Lib.hid h4;have HTV:=Lib.hid (t.tv_eq ρ);obtain ⟨W,hW⟩:=n_m (w.alloc (.cells #[.int .i64 t.kind,.int .i64 t.rel,.int .i64 t.p.lv,.bool t.p.neg,.slice A0 n0 c0,.slice A n1 c1,.slice K t.ks.length c] 50));have hWx:Ext w W:=by rw [<- hW]; exact (Ext.refl w).alloc _
 have hWs:W.heap.size=w.heap.size+1:=by rw [<- hW]; simp
 have hbx:udd W w.heap.size t (.slice A0 n0 c0) (.slice A n1 c1) (.slice K t.ks.length c):=by rw [<- hW]; exact udd.new w t _ _ _ _
 have HWX:=Lib.hid hWx;have HX0:=Lib.hid (hx0.trans hWx);have HBX:=Lib.hid hbx;obtain ⟨b0,b1,b2,b3,b4,b5,b6⟩:=hbx;have HCALL:Hid (t.p.nf.lv<=N->∀ W',Ext W W'->Calls Tryz.prog 34 #[plV t.p (.slice A0 n0 c0) (.slice A n1 c1),.pointer (some ⟨B,0,none⟩)] W' (vc5 (sgQ (t.p.val ρ)) W')):=by
  have:t.p.nf.lv<=N->∀ W',Ext W W'->Calls Tryz.prog 34 #[plV t.p (.slice A0 n0 c0) (.slice A n1 c1),.pointer (some ⟨B,0,none⟩)] W' (vc5 (sgQ (t.p.val ρ)) W'):=fun hlv W' hx=>by
   exact hcl t.p _ W' heb hlv HP.out (HX0.out.trans hx)
  exact this
 clear h ih h4 hWx hp heach hx0;unfold mxV;unfold plV at HCALL;generalize sgQ (t.p.val ρ)=sg at *;go_enter Tryz.func33,Tryz.ntmps33
 by_cases k1:t.kind=1
 · have htv:=HTV.out;rw [if_pos k1] at htv;have q1:(t.kind == 1)=true:=by simpa using k1
   clear k1;go_wp2_with fail;go_ret;exact ⟨by rw [htv]; rfl,HWX.out⟩
 have q1:(t.kind == 1)=false:=by simpa using k1
 by_cases k2:t.kind=2
 · have htv:=HTV.out;rw [if_neg k1,if_pos k2] at htv;have HT:=Lib.hid htv;have q2:(t.kind == 2)=true:=by simpa using k2
   have HK2:Hid (t.p.nf.lv<=N):=by
    have h1:=HLV.out;rw [t.lvl_eq,if_pos k2] at h1;exact h1
   clear k1 k2 HTV htv;have HB:Hid (∀ W',Ext W W'->(Ext W W'/\W'.cell? ⟨w.heap.size,1,none⟩=some (.int .i64 t.rel)/\W'.cell? ⟨w.heap.size,2,none⟩=some (.int .i64 t.p.lv)/\W'.cell? ⟨w.heap.size,3,none⟩=some (.bool t.p.neg)/\W'.cell? ⟨w.heap.size,4,none⟩=some (.slice A0 n0 c0)/\W'.cell? ⟨w.heap.size,5,none⟩=some (.slice A n1 c1))):=by
    have:∀ W',Ext W W'->(Ext W W'/\W'.cell? ⟨w.heap.size,1,none⟩=some (.int .i64 t.rel)/\W'.cell? ⟨w.heap.size,2,none⟩=some (.int .i64 t.p.lv)/\W'.cell? ⟨w.heap.size,3,none⟩=some (.bool t.p.neg)/\W'.cell? ⟨w.heap.size,4,none⟩=some (.slice A0 n0 c0)/\W'.cell? ⟨w.heap.size,5,none⟩=some (.slice A n1 c1)):=fun W' hx=>by
     obtain ⟨c0,c1,c2,c3,c4,c5,c6⟩:=HBX.out.ext hx (by omega);exact ⟨hx,c1,c2,c3,c4,c5⟩
    exact this
   go_wp2_with fail;clear hW b0 b1 b2 b3 b4 b5 b6;have y0:Ext W W.drew:=(Ext.refl W).drew;have Y0:=Lib.hid y0;clear y0
   go_region_held3 (fun W' => Ext W W' /\ W'.cell? ⟨w.heap.size, 1, none⟩ = some (.int .i64 t.rel) /\ W'.cell? ⟨w.heap.size, 2, none⟩ = some (.int .i64 t.p.lv) /\ W'.cell? ⟨w.heap.size, 3, none⟩ = some (.bool t.p.neg) /\ W'.cell? ⟨w.heap.size, 4, none⟩ = some (.slice A0 n0 c0) /\ W'.cell? ⟨w.heap.size, 5, none⟩ = some (.slice A n1 c1))
    (first | with_reducible exact HB.out _ Y0.out | with_reducible exact HB.out _ y1)
    (first
      | (go_at_call 34
         refine (HCALL.out HK2.out _ Y0.out).mono ?_;rintro e v1 ⟨rfl,x1⟩
         have y1:Ext W v1:=Ext.trans Y0.out x1)
      | (go_at_call 21
         refine (vg4 _ _ _).mono ?_
         rintro e v4 ⟨rfl,rfl⟩))
   all_goals
    have X3:=Lib.hid (HWX.out.trans y1);clear y1 x1 HB Y0;go_wp2_with fail;go_ret;exact ⟨by rw [HT.out]; rfl,X3.out⟩
 have q2:(t.kind == 2)=false:=by simpa using k2
 by_cases k3:t.kind=3
 · have htv:=HTV.out;rw [if_neg k1,if_neg k2,if_pos k3] at htv;have HT:=Lib.hid htv;have q3:(t.kind == 3)=true:=by simpa using k3
   have HK3:=Lib.hid (fun k (hk:k < t.ks.length)=>HLK.out k hk (.inl k3));clear k1 k2 k3 HTV htv HCALL;go_wp2_with fail;clear hW b0 b1 b2 b3 b4 b5 b6
   go_loopw [27] (fun iv wr=>∃ (k:Nat),k<=t.ks.length/\iv=.int .i64 k/\Hid (allM ρ (t.ks.take k)=true/\Ext W wr)) (fun iv _=>t.ks.length - (intOf iv).toNat)
   case atStart=>exact ⟨0,Nat.zero_le _,rfl,⟨by simp [allM],Ext.refl W⟩⟩
   case round =>
    obtain ⟨k,hk,rfl,⟨hall,hxw⟩⟩:=hrel;have HALL:=Lib.hid hall;have HXW:=Lib.hid hxw
    by_cases hlt:k < t.ks.length
    · obtain ⟨ad,B0,m0,d0,B1,m1,d1,K2,n2,c2,rfl,hadb,hnd,hkt⟩:=zc6.kid H4.out k hlt;obtain ⟨e0,e1,e2,e3,e4,e5,e6⟩:=hnd.ext (HX0.out.trans hxw) (by rw [uc2]; exact hadb);have hkid:=IH.out t.ks[k] _ (wr.alloc (.cells #[.int .i64 t.ks[k].kind,.int .i64 t.ks[k].rel,.int .i64 t.ks[k].p.lv,.bool t.ks[k].p.neg,.slice B0 m0 d0,.slice B1 m1 d1,.slice K2 n2 c2] 50)) (by have:=HSZ.out k hlt; omega) (by have:=HSZ.out k hlt; omega) (xgw HEA.out (List.getElem_mem hlt)) (HK3.out k hlt) hkt ((HX0.out.trans hxw).alloc _);have HKID:=Lib.hid hkid;have HST:Hid (allM ρ (t.ks.take (k+1))=(allM ρ (t.ks.take k) && t.ks[k].tv ρ)):=by
       have:allM ρ (t.ks.take (k+1))=(allM ρ (t.ks.take k) && t.ks[k].tv ρ):=vhq _ _ _ hlt;exact this
      clear hkid hkt hnd hadb hall hxw;generalize t.ks[k].tv ρ=tk at *;unfold mxV at HKID;go_wp2_with fail;refine HKID.out.mono ?_;rintro e w2 ⟨rfl,x2⟩;have X2:=Lib.hid ((HXW.out.alloc _).trans x2);clear x2 HKID e0 e1 e2 e3 e4 e5 e6;cases tk
      · have HF:Hid (t.tv ρ=false):=by
         have h:=HST.out;rw [Bool.and_false] at h;have:t.tv ρ=false:=by rw [HT.out]; exact uhz _ _ _ h
         exact this
        go_wp2_with fail;go_ret;exact ⟨by rw [HF.out]; rfl,HWX.out.trans X2.out⟩
      · have HF:Hid (allM ρ (t.ks.take (k+1))=true):=by
         have h:=HST.out;rw [HALL.out] at h;exact h
        go_wp2_with fail
        go_roundw
        case rel=>exact ⟨k+1,by omega,by go_num,⟨HF.out,X2.out⟩⟩
        case measure=>simp [intOf]; omega
    · have hke:k=t.ks.length:=by omega
      have HF:Hid (t.tv ρ=true):=by
       have h:=HALL.out;rw [hke,List.take_length] at h;have:t.tv ρ=true:=by rw [HT.out]; exact h
       exact this
      clear hke hall hxw;go_wp2_with fail;go_ret;exact ⟨by rw [HF.out]; rfl,HWX.out.trans HXW.out⟩
 have q3:(t.kind == 3)=false:=by simpa using k3
 by_cases k4:t.kind=4
 · have htv:=HTV.out;rw [if_neg k1,if_neg k2,if_neg k3,if_pos k4] at htv;have HT:=Lib.hid htv;have q4:(t.kind == 4)=true:=by simpa using k4
   have HK3:=Lib.hid (fun k (hk:k < t.ks.length)=>HLK.out k hk (.inr k4));clear k1 k2 k3 k4 HTV htv HCALL;go_wp2_with fail;clear hW b0 b1 b2 b3 b4 b5 b6
   go_loopw [41] (fun iv wr=>∃ (k:Nat),k<=t.ks.length/\iv=.int .i64 k/\Hid (anyM ρ (t.ks.take k)=false/\Ext W wr)) (fun iv _=>t.ks.length - (intOf iv).toNat)
   case atStart=>exact ⟨0,Nat.zero_le _,rfl,⟨by simp [anyM],Ext.refl W⟩⟩
   case round =>
    obtain ⟨k,hk,rfl,⟨hall,hxw⟩⟩:=hrel;have HALL:=Lib.hid hall;have HXW:=Lib.hid hxw
    by_cases hlt:k < t.ks.length
    · obtain ⟨ad,B0,m0,d0,B1,m1,d1,K2,n2,c2,rfl,hadb,hnd,hkt⟩:=zc6.kid H4.out k hlt;obtain ⟨e0,e1,e2,e3,e4,e5,e6⟩:=hnd.ext (HX0.out.trans hxw) (by rw [uc2]; exact hadb);have hkid:=IH.out t.ks[k] _ (wr.alloc (.cells #[.int .i64 t.ks[k].kind,.int .i64 t.ks[k].rel,.int .i64 t.ks[k].p.lv,.bool t.ks[k].p.neg,.slice B0 m0 d0,.slice B1 m1 d1,.slice K2 n2 c2] 50)) (by have:=HSZ.out k hlt; omega) (by have:=HSZ.out k hlt; omega) (xgw HEA.out (List.getElem_mem hlt)) (HK3.out k hlt) hkt ((HX0.out.trans hxw).alloc _);have HKID:=Lib.hid hkid;have HST:Hid (anyM ρ (t.ks.take (k+1))=(anyM ρ (t.ks.take k) || t.ks[k].tv ρ)):=by
       have:anyM ρ (t.ks.take (k+1))=(anyM ρ (t.ks.take k) || t.ks[k].tv ρ):=khq _ _ _ hlt;exact this
      clear hkid hkt hnd hadb hall hxw;generalize t.ks[k].tv ρ=tk at *;unfold mxV at HKID;go_wp2_with fail;refine HKID.out.mono ?_;rintro e w2 ⟨rfl,x2⟩;have X2:=Lib.hid ((HXW.out.alloc _).trans x2);clear x2 HKID e0 e1 e2 e3 e4 e5 e6;cases tk
      · have HF:Hid (anyM ρ (t.ks.take (k+1))=false):=by
         have h:=HST.out;rw [HALL.out] at h;exact h
        go_wp2_with fail
        go_roundw
        case rel=>exact ⟨k+1,by omega,by go_num,⟨HF.out,X2.out⟩⟩
        case measure=>simp [intOf]; omega
      · have HF:Hid (t.tv ρ=true):=by
         have h:=HST.out;rw [Bool.or_true] at h;have:t.tv ρ=true:=by rw [HT.out]; exact vhz _ _ _ h
         exact this
        go_wp2_with fail;go_ret;exact ⟨by rw [HF.out]; rfl,HWX.out.trans X2.out⟩
    · have hke:k=t.ks.length:=by omega
      have HF:Hid (t.tv ρ=false):=by
       have h:=HALL.out;rw [hke,List.take_length] at h;have:t.tv ρ=false:=by rw [HT.out]; exact h
       exact this
      clear hke hall hxw;go_wp2_with fail;go_ret;exact ⟨by rw [HF.out]; rfl,HWX.out.trans HXW.out⟩
 · have htv:=HTV.out;rw [if_neg k1,if_neg k2,if_neg k3,if_neg k4] at htv;have HT:=Lib.hid htv;have q4:(t.kind == 4)=false:=by simpa using k4
   clear k1 k2 k3 k4 HTV htv HCALL;go_wp2_with fail;go_ret;exact ⟨by rw [HT.out]; rfl,HWX.out⟩
end Go.Proofs.YtopddaabiinboaaGreat

/- evaluate.large (this text stood at XWt's end; gen/Deg.py prints both in one). -/
namespace Go.Proofs.YtopddaabiinboaaGreat
open Go.RowKit
def Tm.large (t:Tm):Bool:=decide (8 < t.deg) || decide (320 < t.wt)
theorem yhb {w0 w:World} {L:Nat} (hs:L<=1000000000000) (t:Tm) {v:Value} (hx0:Ext w0 w) (h:TmV w0 L t v):Calls Tryz.prog 48 #[v] w fun e w'=>e=.returned (.bool t.large)/\Ext w w':=by
 have H:=Lib.hid h;have HX0:=Lib.hid hx0;clear h hx0
 by_cases hd:8 < t.deg
 · have hl:t.large=true:=by unfold Tm.large; simp [hd]
   rw [hl];clear hl;go_enter Tryz.func48,Tryz.ntmps48;go_wp2_with fail;refine (uhk t _ _ H.out).mono ?_;rintro e w1 ⟨rfl,x1⟩;have X1:=Lib.hid x1;clear x1;go_wp2_with fail;go_ret;exact ⟨rfl,X1.out⟩
 · have hl:t.large=decide (320 < t.wt):=by unfold Tm.large; simp [hd]
   rw [hl];clear hl;have hd':decide (8 < t.deg)=false:=by simpa using hd
   go_enter Tryz.func48,Tryz.ntmps48;go_wp2_with fail;refine (uhk t _ _ H.out).mono ?_;rintro e w1 ⟨rfl,x1⟩;have X1:=Lib.hid x1;clear x1;go_wp2_with fail;refine (zh7 hs t _ _ (HX0.out.trans X1.out) H.out).mono ?_;rintro e w2 ⟨rfl,x2⟩;have X2:=Lib.hid (X1.out.trans x2);clear x2;go_wp2_with fail;go_ret;exact ⟨rfl,X2.out⟩
end Go.Proofs.YtopddaabiinboaaGreat
