/- Layer 40: the truth of a formula. -/
import Derived.Test.YtcfcjabgkfehlaaGreatMf19
import Derived.Test.YtcfcjabgkfehlaaGreatMf26
import Derived.Test.YtcfcjabgkfehlaaGreatMf43
import Derived.Test.YtcfcjabgkfehlaaGreatMf42
import Derived.Test.YtcfcjabgkfehlaaGreatMf32
import Derived.Test.YtcfcjabgkfehlaaGreatDeg
import Derived.Test.YtcfcjabgkfehlaaGreatInt3
set_option linter.unusedSimpArgs false
set_option linter.unusedVariables false

set_option maxRecDepth 100000
set_option maxHeartbeats 8000000
namespace Go.Proofs.YtcfcjabgkfehlaaGreat
open Go.RowKit
attribute [local go_sem] xaj gaf gaj zaj kaj jaj yaj wad waf qaj uaj jao vaa vaj zae
def Fm.tv (g : ByteArray -> Option Rat) : Fm -> Bool
 | .truth b=>b
 | .atom l r k=>yad r (wa0 (l.val g) (k.val g))
 | .not f=>!f.tv g
 | .and f h=>f.tv g && h.tv g
 | .or f h=>f.tv g || h.tv g
 | .imp f h=>!f.tv g || h.tv g
 | .iff f h=>f.tv g == h.tv g
 | .quant _ _ _=>false
def Fm.fine (g : ByteArray -> Option Rat) (L : Nat) : Fm -> Prop
 | .truth _=>True
 | .atom l _ k=>(l.covered g/\l.bt L<=1000000000000)/\(k.covered g/\k.bt L<=1000000000000)
 | .not f=>f.fine g L
 | .and f h=>f.fine g L/\h.fine g L
 | .or f h=>f.fine g L/\h.fine g L
 | .imp f h=>f.fine g L/\h.fine g L
 | .iff f h=>f.fine g L/\h.fine g L
 | .quant _ _ _=>True
def yav (w0:World) (L b:Nat) (g:ByteArray->Option Rat) (f:Fm):Prop:=∀ (v:Value) (w:World),Ext w0 w->FmV w0 L f v->Calls Tryz.prog 128 #[.map (some b),v] w (jab (f.tv g) w)
section
variable {w0 w:World} {L b:Nat} {g:ByteArray->Option Rat}
theorem wca {t:Bool} {v:Value} (h:FmV w0 L (.truth t) v):Calls Tryz.prog 128 #[.map (some b),v] w (jab t w):=by
 obtain rfl:=h;go_enter Tryz.func128,Tryz.ntmps128;go_wp2_with fail;go_ret;exact ⟨rfl,(Ext.refl w).alloc _⟩
theorem zcb {al:Bool} {s:ByteArray} {f:Fm} {v:Value} (h:FmV w0 L (.quant al s f) v):Calls Tryz.prog 128 #[.map (some b),v] w (jab false w):=by
 obtain ⟨x,rfl,-⟩:=h;go_enter Tryz.func128,Tryz.ntmps128;go_wp2_with fail;go_ret;exact ⟨rfl,Ext.refl w⟩
theorem kct {f:Fm} {v:Value} (h:FmV w0 L (.not f) v) (hx0:Ext w0 w) (ihf:yav w0 L b g f):Calls Tryz.prog 128 #[.map (some b),v] w (jab (!f.tv g) w):=by
 obtain ⟨x,rfl,hx⟩:=h;have HX:=Lib.hid hx;have IHF:=Lib.hid ihf;obtain ⟨T,x,rfl⟩:=hx.iface;clear hx ihf;go_enter Tryz.func128,Tryz.ntmps128;go_wp2_with fail;refine (IHF.out _ _ (hx0.trans ((Ext.refl w).alloc _)) HX.out).mono ?_;rintro e w1 ⟨rfl,x1⟩;have X1:=Lib.hid (((Ext.refl w).alloc _).trans x1);clear x1;go_wp2_with fail;go_ret;exact ⟨rfl,X1.out⟩
theorem gct {f h:Fm} {v:Value} (hv:FmV w0 L (.and f h) v) (hx0:Ext w0 w) (ihf:yav w0 L b g f) (ihh:yav w0 L b g h):Calls Tryz.prog 128 #[.map (some b),v] w (jab (f.tv g && h.tv g) w):=by
 obtain ⟨x,y,rfl,hx,hy⟩:=hv;have HX:=Lib.hid hx;have HY:=Lib.hid hy;obtain ⟨T,x,rfl⟩:=hx.iface;obtain ⟨U,y,rfl⟩:=hy.iface;obtain ⟨W,hW⟩:∃ W,w.alloc (.cells #[.iface T x,.iface U y] 223)=W:=⟨_,rfl⟩;have hWx:Ext w W:=by rw [<- hW]; exact (Ext.refl w).alloc _
 have d0:W.cell? ⟨w.heap.size,0,none⟩=some (.iface T x):=by rw [<- hW]; simp [go_sem]
 have D1:Hid (W.cell? ⟨w.heap.size,1,none⟩=some (.iface U y)):=by
  have:W.cell? ⟨w.heap.size,1,none⟩=some (.iface U y):=by rw [<- hW]; simp [go_sem]
  exact this
 have hws:w.heap.size < W.heap.size:=by rw [<- hW]; simp
 have HF:=Lib.hid (ihf _ W (hx0.trans hWx) hx);have HH:=Lib.hid ihh;have HWX:=Lib.hid hWx;have HX0:=Lib.hid hx0;clear hx hy ihf ihh hWx hx0
 by_cases ht:f.tv g=false
 · rw [ht] at HF ⊢;show Calls _ _ _ _ (jab false w);go_enter Tryz.func128,Tryz.ntmps128;go_wp2_with fail;refine HF.out.mono ?_;rintro e w1 ⟨rfl,x1⟩;have X1:=Lib.hid (HWX.out.trans x1);clear x1 d0 hW;go_wp2_with fail;go_ret;exact ⟨rfl,X1.out⟩
 · have ht':f.tv g=true:=by simpa using ht
   rw [ht'] at HF ⊢;clear ht ht';show Calls _ _ _ _ (jab (h.tv g) w);go_enter Tryz.func128,Tryz.ntmps128;go_wp2_with fail;refine HF.out.mono ?_;rintro e w1 ⟨rfl,x1⟩;have d1:w1.cell? ⟨w.heap.size,1,none⟩=some (.iface U y):=(x1.cell (p:=⟨w.heap.size,1,none⟩) hws).trans D1.out;have X1:=Lib.hid (HWX.out.trans x1);clear x1 d0 hW;go_wp2_with fail;clear d1;refine (HH.out _ _ (HX0.out.trans X1.out) HY.out).mono ?_;rintro e w2 ⟨rfl,x2⟩;have X2:=Lib.hid (X1.out.trans x2);clear x2;go_wp2_with fail;go_ret;exact ⟨rfl,X2.out⟩
theorem gcx {f h:Fm} {v:Value} (hv:FmV w0 L (.or f h) v) (hx0:Ext w0 w) (ihf:yav w0 L b g f) (ihh:yav w0 L b g h):Calls Tryz.prog 128 #[.map (some b),v] w (jab (f.tv g || h.tv g) w):=by
 obtain ⟨x,y,rfl,hx,hy⟩:=hv;have HX:=Lib.hid hx;have HY:=Lib.hid hy;obtain ⟨T,x,rfl⟩:=hx.iface;obtain ⟨U,y,rfl⟩:=hy.iface;obtain ⟨W,hW⟩:∃ W,w.alloc (.cells #[.iface T x,.iface U y] 224)=W:=⟨_,rfl⟩;have hWx:Ext w W:=by rw [<- hW]; exact (Ext.refl w).alloc _
 have d0:W.cell? ⟨w.heap.size,0,none⟩=some (.iface T x):=by rw [<- hW]; simp [go_sem]
 have D1:Hid (W.cell? ⟨w.heap.size,1,none⟩=some (.iface U y)):=by
  have:W.cell? ⟨w.heap.size,1,none⟩=some (.iface U y):=by rw [<- hW]; simp [go_sem]
  exact this
 have hws:w.heap.size < W.heap.size:=by rw [<- hW]; simp
 have HF:=Lib.hid (ihf _ W (hx0.trans hWx) hx);have HH:=Lib.hid ihh;have HWX:=Lib.hid hWx;have HX0:=Lib.hid hx0;clear hx hy ihf ihh hWx hx0
 by_cases ht:f.tv g=true
 · rw [ht] at HF ⊢;show Calls _ _ _ _ (jab true w);go_enter Tryz.func128,Tryz.ntmps128;go_wp2_with fail;refine HF.out.mono ?_;rintro e w1 ⟨rfl,x1⟩;have X1:=Lib.hid (HWX.out.trans x1);clear x1 d0 hW;go_wp2_with fail;go_ret;exact ⟨rfl,X1.out⟩
 · have ht':f.tv g=false:=by simpa using ht
   rw [ht'] at HF ⊢;clear ht ht';show Calls _ _ _ _ (jab (h.tv g) w);go_enter Tryz.func128,Tryz.ntmps128;go_wp2_with fail;refine HF.out.mono ?_;rintro e w1 ⟨rfl,x1⟩;have d1:w1.cell? ⟨w.heap.size,1,none⟩=some (.iface U y):=(x1.cell (p:=⟨w.heap.size,1,none⟩) hws).trans D1.out;have X1:=Lib.hid (HWX.out.trans x1);clear x1 d0 hW;go_wp2_with fail;clear d1;refine (HH.out _ _ (HX0.out.trans X1.out) HY.out).mono ?_;rintro e w2 ⟨rfl,x2⟩;have X2:=Lib.hid (X1.out.trans x2);clear x2;go_wp2_with fail;go_ret;exact ⟨rfl,X2.out⟩
theorem vct {f h:Fm} {v:Value} (hv:FmV w0 L (.imp f h) v) (hx0:Ext w0 w) (ihf:yav w0 L b g f) (ihh:yav w0 L b g h):Calls Tryz.prog 128 #[.map (some b),v] w (jab (!f.tv g || h.tv g) w):=by
 obtain ⟨x,y,rfl,hx,hy⟩:=hv;have HX:=Lib.hid hx;have HY:=Lib.hid hy;obtain ⟨T,x,rfl⟩:=hx.iface;obtain ⟨U,y,rfl⟩:=hy.iface;obtain ⟨W,hW⟩:∃ W,w.alloc (.cells #[.iface T x,.iface U y] 225)=W:=⟨_,rfl⟩;have hWx:Ext w W:=by rw [<- hW]; exact (Ext.refl w).alloc _
 have d0:W.cell? ⟨w.heap.size,0,none⟩=some (.iface T x):=by rw [<- hW]; simp [go_sem]
 have D1:Hid (W.cell? ⟨w.heap.size,1,none⟩=some (.iface U y)):=by
  have:W.cell? ⟨w.heap.size,1,none⟩=some (.iface U y):=by rw [<- hW]; simp [go_sem]
  exact this
 have hws:w.heap.size < W.heap.size:=by rw [<- hW]; simp
 have HF:=Lib.hid (ihf _ W (hx0.trans hWx) hx);have HH:=Lib.hid ihh;have HWX:=Lib.hid hWx;have HX0:=Lib.hid hx0;clear hx hy ihf ihh hWx hx0
 by_cases ht:f.tv g=false
 · rw [ht] at HF ⊢;show Calls _ _ _ _ (jab true w);go_enter Tryz.func128,Tryz.ntmps128;go_wp2_with fail;refine HF.out.mono ?_;rintro e w1 ⟨rfl,x1⟩;have X1:=Lib.hid (HWX.out.trans x1);clear x1 d0 hW;go_wp2_with fail;go_ret;exact ⟨rfl,X1.out⟩
 · have ht':f.tv g=true:=by simpa using ht
   rw [ht'] at HF ⊢;clear ht ht';show Calls _ _ _ _ (jab (h.tv g) w);go_enter Tryz.func128,Tryz.ntmps128;go_wp2_with fail;refine HF.out.mono ?_;rintro e w1 ⟨rfl,x1⟩;have d1:w1.cell? ⟨w.heap.size,1,none⟩=some (.iface U y):=(x1.cell (p:=⟨w.heap.size,1,none⟩) hws).trans D1.out;have X1:=Lib.hid (HWX.out.trans x1);clear x1 d0 hW;go_wp2_with fail;clear d1;refine (HH.out _ _ (HX0.out.trans X1.out) HY.out).mono ?_;rintro e w2 ⟨rfl,x2⟩;have X2:=Lib.hid (X1.out.trans x2);clear x2;go_wp2_with fail;go_ret;exact ⟨rfl,X2.out⟩
theorem uct {f h:Fm} {v:Value} (hv:FmV w0 L (.iff f h) v) (hx0:Ext w0 w) (ihf:yav w0 L b g f) (ihh:yav w0 L b g h):Calls Tryz.prog 128 #[.map (some b),v] w (jab (f.tv g == h.tv g) w):=by
 obtain ⟨x,y,rfl,hx,hy⟩:=hv;have HX:=Lib.hid hx;have HY:=Lib.hid hy;obtain ⟨T,x,rfl⟩:=hx.iface;obtain ⟨U,y,rfl⟩:=hy.iface;have IHF:=Lib.hid ihf;have IHH:=Lib.hid ihh;have HX0:=Lib.hid hx0;clear hx hy ihf ihh hx0;go_enter Tryz.func128,Tryz.ntmps128;go_wp2_with fail;obtain ⟨W,hW⟩:∃ W,w.alloc (.cells #[.iface T x,.iface U y] 226)=W:=⟨_,rfl⟩;have HB:Hid (∀ W',Ext W W'->(Ext W W'/\W'.cell? ⟨w.heap.size,0,none⟩=some (.iface T x)/\W'.cell? ⟨w.heap.size,1,none⟩=some (.iface U y))):=by
  intro W' hx;obtain ⟨hc,hf⟩:=hx.cells;refine ⟨hx,?_,?_⟩ <;> (rw [hc _ _ (by rw [<- hW]; simp),<- hW]; simp [go_sem])
 have HWX:Hid (Ext w W):=by
  have:Ext w W:=by rw [<- hW]; exact (Ext.refl w).alloc _
  exact this
 rw [hW];clear hW;have y0:Ext W W.drew:=(Ext.refl W).drew;have Y0:=Lib.hid y0;clear y0
 go_region_held3 (fun W' => Ext W W' /\ W'.cell? ⟨w.heap.size, 0, none⟩ = some (.iface T x) /\ W'.cell? ⟨w.heap.size, 1, none⟩ = some (.iface U y))
  (first | with_reducible exact HB.out _ Y0.out | with_reducible exact HB.out _ y1 | with_reducible exact HB.out _ y2)
  (first
    | (go_at_call_of 128 (Value.iface T x)
       refine (IHF.out _ _ (HX0.out.trans (HWX.out.trans Y0.out)) HX.out).mono ?_;rintro e v1 ⟨rfl,x1⟩
       have y1:Ext W v1:=Ext.trans Y0.out x1)
    | (go_at_call_of 128 (Value.iface U y)
       refine (IHH.out _ _ (HX0.out.trans (HWX.out.trans y1)) HY.out).mono ?_;rintro e v2 ⟨rfl,x2⟩
       have y2:Ext W v2:=Ext.trans y1 x2))
 have X2:=Lib.hid (HWX.out.trans y2);clear y1 y2 x1 x2 HB HWX Y0;go_wp2_with fail;go_ret;exact ⟨rfl,X2.out⟩
theorem zcl {l k:Tm} {r:Int} {v:Value} (hm:yai w0 L b g) (hL:1<=L) (hgl:∀ s q,g s=some q->rlen q<=L) (hv:FmV w0 L (.atom l r k) v) (hx0:Ext w0 w) (hf:(Fm.atom l r k).fine g L):Calls Tryz.prog 128 #[.map (some b),v] w (jab (yad r (wa0 (l.val g) (k.val g))) w):=by
 have IHL:=Lib.hid (kbg hm hL hgl l hf.1.1 hf.1.2);have IHK:=Lib.hid (kbg hm hL hgl k hf.2.1 hf.2.2);obtain ⟨x,y,rfl,hx,hy⟩:=hv;have h1:=Nat.le_trans (kah hL hgl hx hf.1.1) hf.1.2;have h2:=Nat.le_trans (kah hL hgl hy hf.2.1) hf.2.2;have hp1:=uw (l.val g);have hp2:=uw (k.val g);have HX:=Lib.hid hx;have HY:=Lib.hid hy;obtain ⟨T,x,rfl⟩:=hx.iface;obtain ⟨U,y,rfl⟩:=hy.iface;have HX0:=Lib.hid hx0;clear hx hy hx0 hm hgl hf;go_enter Tryz.func128,Tryz.ntmps128;go_wp2_with fail;obtain ⟨W,hW⟩:∃ W,w.alloc (.cells #[.iface T x,.int .i64 r,.iface U y] 109)=W:=⟨_,rfl⟩;have HB:Hid (∀ W',Ext W W'->(Ext W W'/\W'.cell? ⟨w.heap.size,0,none⟩=some (.iface T x)/\W'.cell? ⟨w.heap.size,1,none⟩=some (.int .i64 r)/\W'.cell? ⟨w.heap.size,2,none⟩=some (.iface U y))):=by
  intro W' hx;obtain ⟨hc,hf⟩:=hx.cells;refine ⟨hx,?_,?_,?_⟩ <;> (rw [hc _ _ (by rw [<- hW]; simp),<- hW]; simp [go_sem])
 have HWX:Hid (Ext w W):=by
  have:Ext w W:=by rw [<- hW]; exact (Ext.refl w).alloc _
  exact this
 rw [hW];clear hW;have y0:Ext W W.drew:=(Ext.refl W).drew;have Y0:=Lib.hid y0;clear y0
 go_region_held3 (fun W' => Ext W W' /\ W'.cell? ⟨w.heap.size, 0, none⟩ = some (.iface T x) /\ W'.cell? ⟨w.heap.size, 1, none⟩ = some (.int .i64 r) /\ W'.cell? ⟨w.heap.size, 2, none⟩ = some (.iface U y))
  (first | with_reducible exact HB.out _ Y0.out | with_reducible exact HB.out _ y1 | with_reducible exact HB.out _ y2 | with_reducible exact HB.out _ y3)
  (first
    | (go_at_call_of 172 (Value.iface T x)
       refine (IHL.out _ _ (HX0.out.trans (HWX.out.trans Y0.out)) HX.out).mono ?_;rintro e v1 ⟨z1,rfl,m1,x1⟩;obtain ⟨b1,A1,n1,c1,B1,k1,d1,rfl⟩:=m1.unpack
       have y1:Ext W v1:=Ext.trans Y0.out x1)
    | (go_at_call_of 172 (Value.iface U y)
       refine (IHK.out _ _ (HX0.out.trans (HWX.out.trans y1)) HY.out).mono ?_;rintro e v2 ⟨z2,rfl,m2,x2⟩;obtain ⟨b2,A2,n2,c2,B2,k2,d2,rfl⟩:=m2.unpack
       have y2:Ext W v2:=Ext.trans y1 x2)
    | (go_at_call 171
       refine (jcr _ _ (l.val g) (k.val g) (rlen (l.val g)) (rlen (k.val g)) _ (m1.raw.ext x2) m2.raw hp1 hp2 (by omega)).mono ?_;rintro e v3 ⟨rfl,x3⟩
       have y3:Ext W v3:=Ext.trans y2 x3)
    | (go_at_call 80
       refine (va1 _ _ _).mono ?_
       rintro e v4 ⟨rfl,rfl⟩))
 all_goals
  have X3:=Lib.hid (HWX.out.trans y3);clear y1 y2 y3 x1 x2 x3 m1 m2 HB HWX Y0;go_wp2_with fail;go_ret;exact ⟨rfl,X3.out⟩
theorem jbr (hm:yai w0 L b g) (hL:1<=L) (hgl:∀ s q,g s=some q->rlen q<=L) (f:Fm) (hf:f.fine g L):yav w0 L b g f:=by
 induction f with
 | truth t=>exact fun v w hx h=>wca h
 | atom l r k=>exact fun v w hx h=>zcl hm hL hgl h hx hf
 | not f ihf=>exact fun v w hx h=>kct h hx (ihf hf)
 | and f h ihf ihh=>exact fun v w hx hv=>gct hv hx (ihf hf.1) (ihh hf.2)
 | or f h ihf ihh=>exact fun v w hx hv=>gcx hv hx (ihf hf.1) (ihh hf.2)
 | imp f h ihf ihh=>exact fun v w hx hv=>vct hv hx (ihf hf.1) (ihh hf.2)
 | iff f h ihf ihh=>exact fun v w hx hv=>uct hv hx (ihf hf.1) (ihh hf.2)
 | quant a s f ihf=>exact fun v w hx h=>zcb h
end
end Go.Proofs.YtcfcjabgkfehlaaGreat

/- Layer 40: evaluate.truth of a matrix. -/
set_option maxRecDepth 100000
set_option maxHeartbeats 8000000
namespace Go.Proofs.YtcfcjabgkfehlaaGreat
open Go.RowKit
mutual
def Mx.tv (ρ : Int -> Rat) : Mx -> Bool
 | .mk k r p ks=>if k=1 then true else if k=2 then yad r (sgQ (p.val ρ)) else if k=3 then allM ρ ks else if k=4 then anyM ρ ks else false
def allM (ρ : Int -> Rat) : List Mx -> Bool
 | []=>true
 | t :: r=>t.tv ρ && allM ρ r
def anyM (ρ : Int -> Rat) : List Mx -> Bool
 | []=>false
 | t :: r=>t.tv ρ || anyM ρ r
end
theorem Mx.tv_eq (ρ:Int->Rat) (t:Mx):t.tv ρ=if t.kind=1 then true else if t.kind=2 then yad t.rel (sgQ (t.p.val ρ)) else if t.kind=3 then allM ρ t.ks else if t.kind=4 then anyM ρ t.ks else false:=by
 cases t; rw [Mx.tv]; rfl
theorem xa5 (ρ:Int->Rat) (a b:List Mx):allM ρ (a ++ b)=(allM ρ a && allM ρ b):=by
 induction a with
 | nil=>simp [allM]
 | cons x r ih=>simp only [List.cons_append,allM,ih,Bool.and_assoc]
theorem ya5 (ρ:Int->Rat) (a b:List Mx):anyM ρ (a ++ b)=(anyM ρ a || anyM ρ b):=by
 induction a with
 | nil=>simp [anyM]
 | cons x r ih=>simp only [List.cons_append,anyM,ih,Bool.or_assoc]
theorem kb9 (ρ:Int->Rat) (l:List Mx) (k:Nat) (hk:k < l.length):allM ρ (l.take (k+1))=(allM ρ (l.take k) && l[k].tv ρ):=by
 rw [List.take_succ_eq_append_getElem hk,xa5]; simp [allM]
theorem jb9 (ρ:Int->Rat) (l:List Mx) (k:Nat) (hk:k < l.length):anyM ρ (l.take (k+1))=(anyM ρ (l.take k) || l[k].tv ρ):=by
 rw [List.take_succ_eq_append_getElem hk,ya5]; simp [anyM]
theorem kcj (ρ:Int->Rat) (l:List Mx) (k:Nat) (h:allM ρ (l.take k)=false):allM ρ l=false:=by
 rw [<- List.take_append_drop k l,xa5,h]; rfl
theorem jcj (ρ:Int->Rat) (l:List Mx) (k:Nat) (h:anyM ρ (l.take k)=true):anyM ρ l=true:=by
 rw [<- List.take_append_drop k l,ya5,h]; rfl
def ycx (w0:World) (q:Nat->Prop) (L B:Nat) (xs:List Rat) (n:Nat):Prop:=∀ (t:Mx) (v:Value) (w:World),t.sz < n->t.sz<=1000000->t.each (fun p=>p.eb L<=1099511627776)->MxV w0 q t v->Ext w0 w->Calls Tryz.prog 84 #[v,.func (.func 85) #[] #[.pointer (some ⟨B,0,none⟩)]] w (jab (t.tv (rho xs)) w)
theorem xcp {w0:World} {q:Nat->Prop} {L B:Nat} {xv:Value} {xs:List Rat} (hL:1<=L) (hL2:L<=1099511627776) (hB:w0.cell? ⟨B,0,none⟩=some xv) (hBl:B < w0.heap.size) (hxs:RsV w0 L xv xs) (n:Nat):ycx w0 q L B xs n:=by
 induction n with
 | zero=>intro t v w h; omega
 | succ n ih =>
 intro t v w hn hbig heach h hx0;have hkl:t.ks.length<=1000000:=by have:=t.ks_len; omega
 have IH:=Lib.hid ih;have HSZ:=Lib.hid (fun k hk=>t.kid_le k hk);have HEA:=Lib.hid (Mx.each_ks heach);have heb:=Mx.each_p heach;have hent:∀ args w,(callFunc 85 args).run Tryz.prog w=.ok (.enter 85 args) w:=enters_of Tryz.func85 (by kernel_rfl) rfl;obtain ⟨A0,n0,c0,A,n1,c1,K,c,rfl,hp,hl1,hl2,h4⟩:=h.open_;have HP:=Lib.hid hp;have H4:=Lib.hid h4;have HTV:=Lib.hid (t.tv_eq (rho xs));obtain ⟨W,hW⟩:∃ W,w.alloc (.cells #[.int .i64 t.kind,.int .i64 t.rel,.int .i64 t.p.lv,.bool t.p.neg,.slice A0 n0 c0,.slice A n1 c1,.slice K t.ks.length c] 63)=W:=⟨_,rfl⟩;have hWx:Ext w W:=by rw [<- hW]; exact (Ext.refl w).alloc _
 have hWs:W.heap.size=w.heap.size+1:=by rw [<- hW]; simp
 have hbx:zt W w.heap.size t (.slice A0 n0 c0) (.slice A n1 c1) (.slice K t.ks.length c):=by rw [<- hW]; exact zt.new w t _ _ _ _
 have HWX:=Lib.hid hWx;have HX0:=Lib.hid (hx0.trans hWx);have HBX:=Lib.hid hbx;obtain ⟨b0,b1,b2,b3,b4,b5,b6⟩:=hbx;have HCALL:Hid (∀ W',Ext W W'->Calls Tryz.prog 85 #[plV t.p (.slice A0 n0 c0) (.slice A n1 c1),.pointer (some ⟨B,0,none⟩)] W' (jo (sgQ (t.p.val (rho xs))) W')):=by
  have:∀ W',Ext W W'->Calls Tryz.prog 85 #[plV t.p (.slice A0 n0 c0) (.slice A n1 c1),.pointer (some ⟨B,0,none⟩)] W' (jo (sgQ (t.p.val (rho xs))) W'):=fun W' hx=>by
   have hx':Ext w0 W':=HX0.out.trans hx;exact gcr hL hL2 ((hx'.cell (p:=⟨B,0,none⟩) hBl).trans hB) (Nat.lt_of_lt_of_le hBl hx'.size) (hxs.ext hx') t.p _ heb (HP.out.ext hx')
  exact this
 clear h ih h4 hWx hp heach hx0 hxs hB;unfold mxV;unfold plV at HCALL;generalize sgQ (t.p.val (rho xs))=sg at *;go_enter Tryz.func84,Tryz.ntmps84
 by_cases k1:t.kind=1
 · have htv:=HTV.out;rw [if_pos k1] at htv;have q1:(t.kind == 1)=true:=by simpa using k1
   clear k1;go_wp2_with fail;go_ret;exact ⟨by rw [htv]; rfl,HWX.out⟩
 have q1:(t.kind == 1)=false:=by simpa using k1
 by_cases k2:t.kind=2
 · have htv:=HTV.out;rw [if_neg k1,if_pos k2] at htv;have HT:=Lib.hid htv;have q2:(t.kind == 2)=true:=by simpa using k2
   clear k1 k2 HTV htv;have HB:Hid (∀ W',Ext W W'->(Ext W W'/\W'.cell? ⟨w.heap.size,1,none⟩=some (.int .i64 t.rel)/\W'.cell? ⟨w.heap.size,2,none⟩=some (.int .i64 t.p.lv)/\W'.cell? ⟨w.heap.size,3,none⟩=some (.bool t.p.neg)/\W'.cell? ⟨w.heap.size,4,none⟩=some (.slice A0 n0 c0)/\W'.cell? ⟨w.heap.size,5,none⟩=some (.slice A n1 c1))):=by
    have:∀ W',Ext W W'->(Ext W W'/\W'.cell? ⟨w.heap.size,1,none⟩=some (.int .i64 t.rel)/\W'.cell? ⟨w.heap.size,2,none⟩=some (.int .i64 t.p.lv)/\W'.cell? ⟨w.heap.size,3,none⟩=some (.bool t.p.neg)/\W'.cell? ⟨w.heap.size,4,none⟩=some (.slice A0 n0 c0)/\W'.cell? ⟨w.heap.size,5,none⟩=some (.slice A n1 c1)):=fun W' hx=>by
     obtain ⟨c0,c1,c2,c3,c4,c5,c6⟩:=HBX.out.ext hx (by omega);exact ⟨hx,c1,c2,c3,c4,c5⟩
    exact this
   go_wp2_with fail;clear hW b0 b1 b2 b3 b4 b5 b6;have y0:Ext W W.drew:=(Ext.refl W).drew;have Y0:=Lib.hid y0;clear y0
   go_region_held3 (fun W' => Ext W W' /\ W'.cell? ⟨w.heap.size, 1, none⟩ = some (.int .i64 t.rel) /\ W'.cell? ⟨w.heap.size, 2, none⟩ = some (.int .i64 t.p.lv) /\ W'.cell? ⟨w.heap.size, 3, none⟩ = some (.bool t.p.neg) /\ W'.cell? ⟨w.heap.size, 4, none⟩ = some (.slice A0 n0 c0) /\ W'.cell? ⟨w.heap.size, 5, none⟩ = some (.slice A n1 c1))
    (first | with_reducible exact HB.out _ Y0.out | with_reducible exact HB.out _ y1)
    (first
      | (go_at_call 85
         refine (HCALL.out _ Y0.out).mono ?_;rintro e v1 ⟨rfl,x1⟩
         have y1:Ext W v1:=Ext.trans Y0.out x1)
      | (go_at_call 80
         refine (va1 _ _ _).mono ?_
         rintro e v4 ⟨rfl,rfl⟩))
   all_goals
    have X3:=Lib.hid (HWX.out.trans y1);clear y1 x1 HB Y0;go_wp2_with fail;go_ret;exact ⟨by rw [HT.out]; rfl,X3.out⟩
 have q2:(t.kind == 2)=false:=by simpa using k2
 by_cases k3:t.kind=3
 · have htv:=HTV.out;rw [if_neg k1,if_neg k2,if_pos k3] at htv;have HT:=Lib.hid htv;have q3:(t.kind == 3)=true:=by simpa using k3
   clear k1 k2 k3 HTV htv HCALL;go_wp2_with fail;clear hW b0 b1 b2 b3 b4 b5 b6
   go_loopw [27] (fun iv wr=>∃ (k:Nat),k<=t.ks.length/\iv=.int .i64 k/\Hid (allM (rho xs) (t.ks.take k)=true/\Ext W wr)) (fun iv _=>t.ks.length - (intOf iv).toNat)
   case atStart=>exact ⟨0,Nat.zero_le _,rfl,⟨by simp [allM],Ext.refl W⟩⟩
   case round =>
    obtain ⟨k,hk,rfl,⟨hall,hxw⟩⟩:=hrel;have HALL:=Lib.hid hall;have HXW:=Lib.hid hxw
    by_cases hlt:k < t.ks.length
    · obtain ⟨ad,B0,m0,d0,B1,m1,d1,K2,n2,c2,rfl,hadb,hnd,hkt⟩:=zi.kid H4.out k hlt;obtain ⟨e0,e1,e2,e3,e4,e5,e6⟩:=hnd.ext (HX0.out.trans hxw) (by rw [ja]; exact hadb);have hkid:=IH.out t.ks[k] _ (wr.alloc (.cells #[.int .i64 t.ks[k].kind,.int .i64 t.ks[k].rel,.int .i64 t.ks[k].p.lv,.bool t.ks[k].p.neg,.slice B0 m0 d0,.slice B1 m1 d1,.slice K2 n2 c2] 63)) (by have:=HSZ.out k hlt; omega) (by have:=HSZ.out k hlt; omega) (vad HEA.out (List.getElem_mem hlt)) hkt ((HX0.out.trans hxw).alloc _);have HKID:=Lib.hid hkid;have HST:Hid (allM (rho xs) (t.ks.take (k+1))=(allM (rho xs) (t.ks.take k) && t.ks[k].tv (rho xs))):=by
       have:allM (rho xs) (t.ks.take (k+1))=(allM (rho xs) (t.ks.take k) && t.ks[k].tv (rho xs)):=kb9 _ _ _ hlt;exact this
      clear hkid hkt hnd hadb hall hxw;generalize t.ks[k].tv (rho xs)=tk at *;unfold mxV at HKID;go_wp2_with fail;refine HKID.out.mono ?_;rintro e w2 ⟨rfl,x2⟩;have X2:=Lib.hid ((HXW.out.alloc _).trans x2);clear x2 HKID e0 e1 e2 e3 e4 e5 e6;cases tk
      · have HF:Hid (t.tv (rho xs)=false):=by
         have h:=HST.out;rw [Bool.and_false] at h;have:t.tv (rho xs)=false:=by rw [HT.out]; exact kcj _ _ _ h
         exact this
        go_wp2_with fail;go_ret;exact ⟨by rw [HF.out]; rfl,HWX.out.trans X2.out⟩
      · have HF:Hid (allM (rho xs) (t.ks.take (k+1))=true):=by
         have h:=HST.out;rw [HALL.out] at h;exact h
        go_wp2_with fail
        go_roundw
        case rel=>exact ⟨k+1,by omega,by go_num,⟨HF.out,X2.out⟩⟩
        case measure=>simp [intOf]; omega
    · have hke:k=t.ks.length:=by omega
      have HF:Hid (t.tv (rho xs)=true):=by
       have h:=HALL.out;rw [hke,List.take_length] at h;have:t.tv (rho xs)=true:=by rw [HT.out]; exact h
       exact this
      clear hke hall hxw;go_wp2_with fail;go_ret;exact ⟨by rw [HF.out]; rfl,HWX.out.trans HXW.out⟩
 have q3:(t.kind == 3)=false:=by simpa using k3
 by_cases k4:t.kind=4
 · have htv:=HTV.out;rw [if_neg k1,if_neg k2,if_neg k3,if_pos k4] at htv;have HT:=Lib.hid htv;have q4:(t.kind == 4)=true:=by simpa using k4
   clear k1 k2 k3 k4 HTV htv HCALL;go_wp2_with fail;clear hW b0 b1 b2 b3 b4 b5 b6
   go_loopw [41] (fun iv wr=>∃ (k:Nat),k<=t.ks.length/\iv=.int .i64 k/\Hid (anyM (rho xs) (t.ks.take k)=false/\Ext W wr)) (fun iv _=>t.ks.length - (intOf iv).toNat)
   case atStart=>exact ⟨0,Nat.zero_le _,rfl,⟨by simp [anyM],Ext.refl W⟩⟩
   case round =>
    obtain ⟨k,hk,rfl,⟨hall,hxw⟩⟩:=hrel;have HALL:=Lib.hid hall;have HXW:=Lib.hid hxw
    by_cases hlt:k < t.ks.length
    · obtain ⟨ad,B0,m0,d0,B1,m1,d1,K2,n2,c2,rfl,hadb,hnd,hkt⟩:=zi.kid H4.out k hlt;obtain ⟨e0,e1,e2,e3,e4,e5,e6⟩:=hnd.ext (HX0.out.trans hxw) (by rw [ja]; exact hadb);have hkid:=IH.out t.ks[k] _ (wr.alloc (.cells #[.int .i64 t.ks[k].kind,.int .i64 t.ks[k].rel,.int .i64 t.ks[k].p.lv,.bool t.ks[k].p.neg,.slice B0 m0 d0,.slice B1 m1 d1,.slice K2 n2 c2] 63)) (by have:=HSZ.out k hlt; omega) (by have:=HSZ.out k hlt; omega) (vad HEA.out (List.getElem_mem hlt)) hkt ((HX0.out.trans hxw).alloc _);have HKID:=Lib.hid hkid;have HST:Hid (anyM (rho xs) (t.ks.take (k+1))=(anyM (rho xs) (t.ks.take k) || t.ks[k].tv (rho xs))):=by
       have:anyM (rho xs) (t.ks.take (k+1))=(anyM (rho xs) (t.ks.take k) || t.ks[k].tv (rho xs)):=jb9 _ _ _ hlt;exact this
      clear hkid hkt hnd hadb hall hxw;generalize t.ks[k].tv (rho xs)=tk at *;unfold mxV at HKID;go_wp2_with fail;refine HKID.out.mono ?_;rintro e w2 ⟨rfl,x2⟩;have X2:=Lib.hid ((HXW.out.alloc _).trans x2);clear x2 HKID e0 e1 e2 e3 e4 e5 e6;cases tk
      · have HF:Hid (anyM (rho xs) (t.ks.take (k+1))=false):=by
         have h:=HST.out;rw [HALL.out] at h;exact h
        go_wp2_with fail
        go_roundw
        case rel=>exact ⟨k+1,by omega,by go_num,⟨HF.out,X2.out⟩⟩
        case measure=>simp [intOf]; omega
      · have HF:Hid (t.tv (rho xs)=true):=by
         have h:=HST.out;rw [Bool.or_true] at h;have:t.tv (rho xs)=true:=by rw [HT.out]; exact jcj _ _ _ h
         exact this
        go_wp2_with fail;go_ret;exact ⟨by rw [HF.out]; rfl,HWX.out.trans X2.out⟩
    · have hke:k=t.ks.length:=by omega
      have HF:Hid (t.tv (rho xs)=false):=by
       have h:=HALL.out;rw [hke,List.take_length] at h;have:t.tv (rho xs)=false:=by rw [HT.out]; exact h
       exact this
      clear hke hall hxw;go_wp2_with fail;go_ret;exact ⟨by rw [HF.out]; rfl,HWX.out.trans HXW.out⟩
 · have htv:=HTV.out;rw [if_neg k1,if_neg k2,if_neg k3,if_neg k4] at htv;have HT:=Lib.hid htv;have q4:(t.kind == 4)=false:=by simpa using k4
   clear k1 k2 k3 k4 HTV htv HCALL;go_wp2_with fail;go_ret;exact ⟨by rw [HT.out]; rfl,HWX.out⟩
end Go.Proofs.YtcfcjabgkfehlaaGreat

/- Layer 34: formula.PlainTerm, formula.Plain. -/
set_option maxRecDepth 100000
set_option maxHeartbeats 8000000
namespace Go.Proofs.YtcfcjabgkfehlaaGreat
open Go.RowKit
attribute [local go_sem] xaj gaf gaj zaj kaj jaj yaj wad waf qaj uaj jao vaa vaj zae
def nd0:Nd:={ kind:=0,neg:=false,ds:=[],name:=⟨#[]⟩,exp:=0,rel:=0,truth:=false,all:=false }
def Tm.plain : Tm -> Tr
 | .num z=>.mk { nd0 with kind:=1,neg:=decide (z < 0),ds:=dg z.natAbs } []
 | .name s=>.mk { nd0 with kind:=2,name:=s } []
 | .add a b=>.mk { nd0 with kind:=3 } [a.plain,b.plain]
 | .sub a b=>.mk { nd0 with kind:=4 } [a.plain,b.plain]
 | .mul a b=>.mk { nd0 with kind:=5 } [a.plain,b.plain]
 | .neg a=>.mk { nd0 with kind:=6 } [a.plain]
 | .pow a e=>.mk { nd0 with kind:=7,exp:=xw e 0 } [a.plain]
def yat (r:Int):Int:=if r < 1\/6 < r then 3 else r
def Fm.plain : Fm -> Tr
 | .truth b=>.mk { nd0 with kind:=8,truth:=b } []
 | .atom l r k=>.mk { nd0 with kind:=9,rel:=yat r } [l.plain,k.plain]
 | .not f=>.mk { nd0 with kind:=10 } [f.plain]
 | .and f g=>.mk { nd0 with kind:=11 } [f.plain,g.plain]
 | .or f g=>.mk { nd0 with kind:=12 } [f.plain,g.plain]
 | .imp f g=>.mk { nd0 with kind:=13 } [f.plain,g.plain]
 | .iff f g=>.mk { nd0 with kind:=14 } [f.plain,g.plain]
 | .quant a s f=>.mk { nd0 with kind:=15,all:=a,name:=s } [f.plain]
def uh (t:Tr) (w:World) (e:Ending) (w':World):Prop:=∃ v,e=.returned v/\TrO w' w.heap.size w'.heap.size t v/\Ext w w'
def qj (w:World) (g:Nat):Prop:=(w.cell? ⟨g,0,none⟩=some (.int .i64 0)/\w.cell? ⟨g,1,none⟩=some (.bool false)/\w.cell? ⟨g,2,none⟩=some (.slice none 0 0)/\w.cell? ⟨g,3,none⟩=some (.string ⟨#[]⟩)/\w.cell? ⟨g,4,none⟩=some (.int .i64 0)/\w.cell? ⟨g,5,none⟩=some (.int .i64 0)/\w.cell? ⟨g,6,none⟩=some (.bool false)/\w.cell? ⟨g,7,none⟩=some (.bool false)/\w.cell? ⟨g,8,none⟩=some (.slice none 0 0))/\∀ i,w.frozen? ⟨g,i,none⟩=false
theorem qj.ext {w w':World} {g:Nat} (h:qj w g) (hx:Ext w w') (hg:g < w.heap.size):qj w' g:=by
 obtain ⟨⟨h0,h1,h2,h3,h4,h5,h6,h7,h8⟩,hf⟩:=h;have k:∀ i,w'.cell? ⟨g,i,none⟩=w.cell? ⟨g,i,none⟩:=fun i=>hx.cell (p:=⟨g,i,none⟩) hg
 exact ⟨⟨(k _).trans h0,(k _).trans h1,(k _).trans h2,(k _).trans h3,(k _).trans h4,(k _).trans h5,(k _).trans h6,(k _).trans h7,(k _).trans h8⟩,fun i=>(hx.frozen (p:=⟨g,i,none⟩) hg).trans (hf i)⟩
theorem qy (w:World) (t:TypeId):qj (w.alloc (.cells #[.int .i64 0,.bool false,.slice none 0 0,.string ⟨#[]⟩,.int .i64 0,.int .i64 0,.bool false,.bool false,.slice none 0 0] t)) w.heap.size:=by
 refine ⟨⟨?_,?_,?_,?_,?_,?_,?_,?_,?_⟩,fun i=>?_⟩ <;> simp [go_sem] <;> rfl
def set9 (W:World) (g:Nat) (u0 u1 u2 u3 u4 u5 u6 u7 u8:Value):World:=
 ((((((((W.setCell ⟨g,0,none⟩ u0).setCell ⟨g,1,none⟩ u1).setCell ⟨g,2,none⟩ u2).setCell ⟨g,3,none⟩ u3).setCell ⟨g,4,none⟩ u4).setCell ⟨g,5,none⟩ u5).setCell ⟨g,6,none⟩ u6).setCell ⟨g,7,none⟩ u7).setCell ⟨g,8,none⟩ u8
theorem zn (W:World) (g:Nat) (u0 u1 u2 u3 u4 u5 u6 u7 u8:Value) (a:Addr) (h:a.block ≠ g):(set9 W g u0 u1 u2 u3 u4 u5 u6 u7 u8).cell? a=W.cell? a:=by
 unfold set9;have k:∀ (W:World) i u,(W.setCell ⟨g,i,none⟩ u).cell? a=W.cell? a:=fun W i u=>World.cell?_setCell_other _ _ _ _ (fun e=>h (by rw [<- e]))
 simp only [k]
theorem wac {w W:World} {g:Nat} (hx:Ext w W) (hg:w.heap.size<=g) (u0 u1 u2 u3 u4 u5 u6 u7 u8:Value):Ext w (set9 W g u0 u1 u2 u3 u4 u5 u6 u7 u8):=by
 unfold set9;exact ((((((((hx.setCell hg _).setCell hg _).setCell hg _).setCell hg _).setCell hg _).setCell hg _).setCell hg _).setCell hg _).setCell hg _
theorem TrO.box {w:World} {t:Tr} {v:Value} {lo hi:Nat} (h:TrO w lo hi t v) {a:Addr} {u:Value} (ha:w.cell? a=some u) (hu:ku u=false) (hp:¬ (lo<=a.block/\a.block < hi)) (u':Value):TrO (w.setCell a u') lo hi t v:=
 TrO.turn (by simp) (fun _ _ h=>h.box ha hu u') t v lo hi lo hi (Nat.le_refl _) (Nat.le_refl _) (fun i h1 h2 _=>Below.heap_setCell w a u' i (fun e=>hp (by omega))) h
theorem TrO.set9 {W:World} {g lo hi:Nat} {t:Tr} {v:Value} (hz:qj W g) (hp:¬ (lo<=g/\g < hi)) (h:TrO W lo hi t v) (u0 u1 u2 u3 u4 u5 u6 u7 u8:Value):TrO (set9 W g u0 u1 u2 u3 u4 u5 u6 u7 u8) lo hi t v:=by
 obtain ⟨⟨h0,h1,h2,h3,h4,h5,h6,h7,h8⟩,-⟩:=hz;unfold Go.Proofs.YtcfcjabgkfehlaaGreat.set9;have o:∀ (W:World) (i j:Nat) (u:Value) (x:Option Value),i ≠ j->W.cell? ⟨g,i,none⟩=x->(W.setCell ⟨g,j,none⟩ u).cell? ⟨g,i,none⟩=x:=fun W i j u x hij h=>by
  rw [World.cell?_setCell_other _ _ _ _ (by intro e; injection e; omega)]; exact h
 have k0:=TrO.box h h0 rfl hp u0;have k1:=TrO.box k0 (o _ 1 0 _ _ (by omega) h1) rfl hp u1;have k2:=TrO.box k1 (o _ 2 1 _ _ (by omega) (o _ 2 0 _ _ (by omega) h2)) rfl hp u2;have k3:=TrO.box k2 (o _ 3 2 _ _ (by omega) (o _ 3 1 _ _ (by omega) (o _ 3 0 _ _ (by omega) h3))) rfl hp u3;have k4:=TrO.box k3 (o _ 4 3 _ _ (by omega) (o _ 4 2 _ _ (by omega) (o _ 4 1 _ _ (by omega) (o _ 4 0 _ _ (by omega) h4)))) rfl hp u4;have k5:=TrO.box k4 (o _ 5 4 _ _ (by omega) (o _ 5 3 _ _ (by omega) (o _ 5 2 _ _ (by omega) (o _ 5 1 _ _ (by omega) (o _ 5 0 _ _ (by omega) h5))))) rfl hp u5;have k6:=TrO.box k5 (o _ 6 5 _ _ (by omega) (o _ 6 4 _ _ (by omega) (o _ 6 3 _ _ (by omega) (o _ 6 2 _ _ (by omega) (o _ 6 1 _ _ (by omega) (o _ 6 0 _ _ (by omega) h6)))))) rfl hp u6;have k7:=TrO.box k6 (o _ 7 6 _ _ (by omega) (o _ 7 5 _ _ (by omega) (o _ 7 4 _ _ (by omega) (o _ 7 3 _ _ (by omega) (o _ 7 2 _ _ (by omega) (o _ 7 1 _ _ (by omega) (o _ 7 0 _ _ (by omega) h7))))))) rfl hp u7;have k8:=TrO.box k7 (o _ 8 7 _ _ (by omega) (o _ 8 6 _ _ (by omega) (o _ 8 5 _ _ (by omega) (o _ 8 4 _ _ (by omega) (o _ 8 3 _ _ (by omega) (o _ 8 2 _ _ (by omega) (o _ 8 1 _ _ (by omega) (o _ 8 0 _ _ (by omega) h8)))))))) rfl hp u8;exact k8
theorem ub3 (W:World) (g:Nat) (u0 u1 u2 u3 u4 u5 u6 u7 u8:Value):(set9 W g u0 u1 u2 u3 u4 u5 u6 u7 u8).heap.size=W.heap.size:=by
 unfold set9; simp
theorem kaa {w W:World} {g B hi:Nat} {t:Tr} {u0 u1 u2 u3 u4 u5 u6 u7 u8:Value} (hx:Ext w W) (hg:w.heap.size<=g) (hB:g < B) (hh:hi<=W.heap.size) (hz:qj W g) (h:TrO W B hi t (.agg #[u0,u1,u2,u3,u4,u5,u6,u7,u8])) :
 uh t w (.returned (.agg #[u0,u1,u2,u3,u4,u5,u6,u7,u8])) (set9 W g u0 u1 u2 u3 u4 u5 u6 u7 u8):=
 ⟨_,rfl,(TrO.set9 hz (by omega) h _ _ _ _ _ _ _ _ _).mono (by omega) (by rw [ub3]; exact hh),wac hx hg _ _ _ _ _ _ _ _ _⟩
theorem kag (w:World) (lo m:Nat) (T:TypeId) (a b:Tr) (s1 K1 s2 K2:Value) (ha:TrO w lo m a (ndV a.d s1 K1)) (hb:TrO w m w.heap.size b (ndV b.d s2 K2)) (h1:lo<=m) (h2:m<=w.heap.size) :
 ∃ g,(some ⟨w.heap.size,0,none⟩:Option Addr)=some ⟨g,0,none⟩/\lo<=g/\g < w.heap.size+1/\g < (w.alloc (.cells #[.int .i64 a.d.kind,.bool a.d.neg,s1,.string a.d.name,.int .i64 a.d.exp,.int .i64 a.d.rel,.bool a.d.truth,.bool a.d.all,K1,.int .i64 b.d.kind,.bool b.d.neg,s2,.string b.d.name,.int .i64 b.d.exp,.int .i64 b.d.rel,.bool b.d.truth,.bool b.d.all,K2] T)).heap.size/\(∀ o,(w.alloc (.cells #[.int .i64 a.d.kind,.bool a.d.neg,s1,.string a.d.name,.int .i64 a.d.exp,.int .i64 a.d.rel,.bool a.d.truth,.bool a.d.all,K1,.int .i64 b.d.kind,.bool b.d.neg,s2,.string b.d.name,.int .i64 b.d.exp,.int .i64 b.d.rel,.bool b.d.truth,.bool b.d.all,K2] T)).frozen? ⟨g,o,none⟩=false)/\yae (w.alloc (.cells #[.int .i64 a.d.kind,.bool a.d.neg,s1,.string a.d.name,.int .i64 a.d.exp,.int .i64 a.d.rel,.bool a.d.truth,.bool a.d.all,K1,.int .i64 b.d.kind,.bool b.d.neg,s2,.string b.d.name,.int .i64 b.d.exp,.int .i64 b.d.rel,.bool b.d.truth,.bool b.d.all,K2] T)) lo g [a,b] g 0:=by
 have hx:=(Ext.refl w).alloc (.cells #[.int .i64 a.d.kind,.bool a.d.neg,s1,.string a.d.name,.int .i64 a.d.exp,.int .i64 a.d.rel,.bool a.d.truth,.bool a.d.all,K1,.int .i64 b.d.kind,.bool b.d.neg,s2,.string b.d.name,.int .i64 b.d.exp,.int .i64 b.d.rel,.bool b.d.truth,.bool b.d.all,K2] T);refine ⟨w.heap.size,rfl,by omega,by omega,by simp,fun o=>by simp [go_sem] <;> rfl,?_⟩;unfold yae;refine ⟨m,s1,K1,h1,h2,?_,ha.ext hx,?_⟩
 · refine ⟨?_,?_,?_,?_,?_,?_,?_,?_,?_⟩ <;> simp [go_sem]
 · unfold yae;refine ⟨w.heap.size,s2,K2,h2,Nat.le_refl _,?_,hb.ext hx,by unfold yae; trivial⟩;refine ⟨?_,?_,?_,?_,?_,?_,?_,?_,?_⟩ <;> simp [go_sem]
theorem qaq (w:World) (lo:Nat) (T:TypeId) (a:Tr) (s1 K1:Value) (ha:TrO w lo w.heap.size a (ndV a.d s1 K1)) (h1:lo<=w.heap.size) :
 ∃ g,(some ⟨w.heap.size,0,none⟩:Option Addr)=some ⟨g,0,none⟩/\lo<=g/\g < w.heap.size+1/\g < (w.alloc (.cells #[.int .i64 a.d.kind,.bool a.d.neg,s1,.string a.d.name,.int .i64 a.d.exp,.int .i64 a.d.rel,.bool a.d.truth,.bool a.d.all,K1] T)).heap.size/\(∀ o,(w.alloc (.cells #[.int .i64 a.d.kind,.bool a.d.neg,s1,.string a.d.name,.int .i64 a.d.exp,.int .i64 a.d.rel,.bool a.d.truth,.bool a.d.all,K1] T)).frozen? ⟨g,o,none⟩=false)/\yae (w.alloc (.cells #[.int .i64 a.d.kind,.bool a.d.neg,s1,.string a.d.name,.int .i64 a.d.exp,.int .i64 a.d.rel,.bool a.d.truth,.bool a.d.all,K1] T)) lo g [a] g 0:=by
 have hx:=(Ext.refl w).alloc (.cells #[.int .i64 a.d.kind,.bool a.d.neg,s1,.string a.d.name,.int .i64 a.d.exp,.int .i64 a.d.rel,.bool a.d.truth,.bool a.d.all,K1] T);refine ⟨w.heap.size,rfl,by omega,by omega,by simp,fun o=>by simp [go_sem] <;> rfl,?_⟩;unfold yae;refine ⟨w.heap.size,s1,K1,h1,Nat.le_refl _,?_,ha.ext hx,by unfold yae; trivial⟩;refine ⟨?_,?_,?_,?_,?_,?_,?_,?_,?_⟩ <;> simp [go_sem]
theorem xcv {w0 w:World} {L:Nat} {a b:Tm} {v:Value} (h:TmV w0 L (.add a b) v) (hx0:Ext w0 w) (iha:∀ (v:Value) (w:World),Ext w0 w->TmV w0 L a v->Calls Tryz.prog 229 #[v] w (uh a.plain w)) (ihb:∀ (v:Value) (w:World),Ext w0 w->TmV w0 L b v->Calls Tryz.prog 229 #[v] w (uh b.plain w)) :
 Calls Tryz.prog 229 #[v] w (uh (Tm.add a b).plain w):=by
 have IHA:=Lib.hid iha;have IHB:=Lib.hid ihb;obtain ⟨x,y,rfl,hx,hy⟩:=h;have HX:=Lib.hid hx;obtain ⟨T,x,rfl⟩:=hx.iface;have HY:=Lib.hid hy;obtain ⟨U,y,rfl⟩:=hy.iface;clear hx hy iha ihb;go_enter Tryz.func229,Tryz.ntmps229;go_wp2_with fail;obtain ⟨W,hW⟩:∃ W,(w.alloc (.cells #[.int .i64 0,.bool false,.slice none 0 0,.string ⟨#[]⟩,.int .i64 0,.int .i64 0,.bool false,.bool false,.slice none 0 0] 254)).alloc (.cells #[.iface T x,.iface U y] 259)=W:=⟨_,rfl⟩;have hWx:Ext w W:=by rw [<- hW]; exact ((Ext.refl w).alloc _).alloc _
 have hWs:W.heap.size=w.heap.size+1+1:=by rw [<- hW]; simp
 have hZ:qj W w.heap.size:=by rw [<- hW]; exact (qy w _).ext ((Ext.refl _).alloc _) (by simp)
 have HB:Hid (∀ W',Ext W W'->(Ext w W'/\W'.cell? ⟨w.heap.size+1,0,none⟩=some (.iface T x)/\W'.cell? ⟨w.heap.size+1,1,none⟩=some (.iface U y))):=by
  intro W' hx;obtain ⟨hc,hf⟩:=hx.cells;refine ⟨hWx.trans hx,?_,?_⟩ <;> (rw [hc _ _ (by omega),<- hW]; simp [go_sem])
 have HB2:Hid (∀ W',Ext W W'->∀ o u0 u1 u2 u3 u4 u5 u6 u7 u8 W2,W2=set9 (W'.alloc o) w.heap.size u0 u1 u2 u3 u4 u5 u6 u7 u8->(Ext w W2/\W2.cell? ⟨w.heap.size+1,0,none⟩=some (.iface T x)/\W2.cell? ⟨w.heap.size+1,1,none⟩=some (.iface U y))):=by
  intro W' hx o u0 u1 u2 u3 u4 u5 u6 u7 u8 W2 e;obtain ⟨k0,k1,k2⟩:=HB.out _ (hx.alloc o);rw [e];exact ⟨wac k0 (Nat.le_refl _) _ _ _ _ _ _ _ _ _,(zn _ _ _ _ _ _ _ _ _ _ _ _ (by simp)).trans k1,(zn _ _ _ _ _ _ _ _ _ _ _ _ (by simp)).trans k2⟩
 have HZ:=Lib.hid hZ;have HWX:=Lib.hid hWx;have HWS:=Lib.hid hWs;have HX0:=Lib.hid hx0;rw [hW];clear hW hZ hWx hWs hx0;have y0:Ext W W.drew:=(Ext.refl W).drew;have Y0:=Lib.hid y0;clear y0
 go_region_held3 (fun W' => Ext w W' /\ W'.cell? ⟨w.heap.size + 1, 0, none⟩ = some (.iface T x) /\ W'.cell? ⟨w.heap.size + 1, 1, none⟩ = some (.iface U y))
  (first | with_reducible exact HB.out _ Y0.out | with_reducible exact HB.out _ y1 | with_reducible exact HB.out _ y2 | with_reducible exact HB.out _ (y2.alloc _) | exact HB2.out _ y2 _ _ _ _ _ _ _ _ _ _ _ rfl)
  (first
    | (go_at_call_of 229 (Value.iface T x)
       refine (IHA.out _ _ (HX0.out.trans (HWX.out.trans Y0.out)) HX.out).mono ?_;rintro e v1 ⟨z1,rfl,m1,x1⟩;obtain ⟨A0,n0,c0,A1,c1,rfl,-⟩:=m1.open_;unfold ndV
       have y1:Ext W v1:=Ext.trans Y0.out x1)
    | (go_at_call_of 229 (Value.iface U y)
       refine (IHB.out _ _ (HX0.out.trans (HWX.out.trans y1)) HY.out).mono ?_;rintro e v2 ⟨z2,rfl,m2,x2⟩;obtain ⟨B0,k0,d0,B1,d1,rfl,-⟩:=m2.open_;unfold ndV;have y2:Ext W v2:=Ext.trans (y1) x2;have hz2:qj v2 w.heap.size:=HZ.out.ext y2 (by have:=HWS.out; omega);have hza:∀ o,qj (v2.alloc o) w.heap.size:=fun o=>hz2.ext ((Ext.refl v2).alloc o) (by have:=y2.size; have:=HWS.out; omega)
       have r0:=fun o=>(hza o).1.1
       have r1:=fun o=>(hza o).1.2.1
       have r2:=fun o=>(hza o).1.2.2.1
       have r3:=fun o=>(hza o).1.2.2.2.1
       have r4:=fun o=>(hza o).1.2.2.2.2.1
       have r5:=fun o=>(hza o).1.2.2.2.2.2.1
       have r6:=fun o=>(hza o).1.2.2.2.2.2.2.1
       have r7:=fun o=>(hza o).1.2.2.2.2.2.2.2.1
       have r8:=fun o=>(hza o).1.2.2.2.2.2.2.2.2
       have rf:=fun o i=>(hza o).2 i
       have HZA:=Lib.hid hza;clear hz2 hza
       have hv2:w.heap.size+1 < v2.heap.size:=by have:=y2.size; have:=HWS.out; omega))
 have HF:Hid (uh (Tm.add a b).plain w (.returned (ndV { nd0 with kind:=3 } (.slice none 0 0) (.slice (some ⟨v2.heap.size,0,none⟩) 2 2))) (set9 (v2.alloc (.cells #[.int .i64 a.plain.d.kind,.bool a.plain.d.neg,.slice A0 n0 c0,.string a.plain.d.name,.int .i64 a.plain.d.exp,.int .i64 a.plain.d.rel,.bool a.plain.d.truth,.bool a.plain.d.all,.slice A1 a.plain.ks.length c1,.int .i64 b.plain.d.kind,.bool b.plain.d.neg,.slice B0 k0 d0,.string b.plain.d.name,.int .i64 b.plain.d.exp,.int .i64 b.plain.d.rel,.bool b.plain.d.truth,.bool b.plain.d.all,.slice B1 b.plain.ks.length d1] 254)) w.heap.size (.int .i64 (3)) (.bool false) (.slice none 0 0) (.string ⟨#[]⟩) (.int .i64 (0)) (.int .i64 (0)) (.bool false) (.bool false) (.slice (some ⟨v2.heap.size,0,none⟩) 2 2))):=
  kaa (B := W.heap.size) ((HWX.out.trans y2).alloc _) (Nat.le_refl _) (by have := HWS.out; omega) (hi := v2.heap.size + 1) (by simp) (HZA.out _)
   (TrO.mk (t := (Tm.add a b).plain) (c := 2) (jb.nil _) (by simp [Tm.plain, Tr.ks]) (by simp)
     (.inr (kag v2 W.heap.size v1.heap.size _ a.plain b.plain _ _ _ _ (m1.ext x2) m2 y1.size x2.size)))
 clear HZ HWX HWS HX0 IHA IHB HX HY m1 x1 y1 m2 x2 y2 HZA HB HB2 Y0;go_wp2_with fail;exact bodyPost_ret (v:=ndV { nd0 with kind:=3 } (.slice none 0 0) (.slice (some ⟨v2.heap.size,0,none⟩) 2 2)) (by simp [results,Tryz.results229,go_sem,r0,r1,r2,r3,r4,r5,r6,r7,r8,ndV,nd0]) rfl HF.out
theorem xcu {w0 w:World} {L:Nat} {a b:Tm} {v:Value} (h:TmV w0 L (.sub a b) v) (hx0:Ext w0 w) (iha:∀ (v:Value) (w:World),Ext w0 w->TmV w0 L a v->Calls Tryz.prog 229 #[v] w (uh a.plain w)) (ihb:∀ (v:Value) (w:World),Ext w0 w->TmV w0 L b v->Calls Tryz.prog 229 #[v] w (uh b.plain w)) :
 Calls Tryz.prog 229 #[v] w (uh (Tm.sub a b).plain w):=by
 have IHA:=Lib.hid iha;have IHB:=Lib.hid ihb;obtain ⟨x,y,rfl,hx,hy⟩:=h;have HX:=Lib.hid hx;obtain ⟨T,x,rfl⟩:=hx.iface;have HY:=Lib.hid hy;obtain ⟨U,y,rfl⟩:=hy.iface;clear hx hy iha ihb;go_enter Tryz.func229,Tryz.ntmps229;go_wp2_with fail;obtain ⟨W,hW⟩:∃ W,(w.alloc (.cells #[.int .i64 0,.bool false,.slice none 0 0,.string ⟨#[]⟩,.int .i64 0,.int .i64 0,.bool false,.bool false,.slice none 0 0] 254)).alloc (.cells #[.iface T x,.iface U y] 260)=W:=⟨_,rfl⟩;have hWx:Ext w W:=by rw [<- hW]; exact ((Ext.refl w).alloc _).alloc _
 have hWs:W.heap.size=w.heap.size+1+1:=by rw [<- hW]; simp
 have hZ:qj W w.heap.size:=by rw [<- hW]; exact (qy w _).ext ((Ext.refl _).alloc _) (by simp)
 have HB:Hid (∀ W',Ext W W'->(Ext w W'/\W'.cell? ⟨w.heap.size+1,0,none⟩=some (.iface T x)/\W'.cell? ⟨w.heap.size+1,1,none⟩=some (.iface U y))):=by
  intro W' hx;obtain ⟨hc,hf⟩:=hx.cells;refine ⟨hWx.trans hx,?_,?_⟩ <;> (rw [hc _ _ (by omega),<- hW]; simp [go_sem])
 have HB2:Hid (∀ W',Ext W W'->∀ o u0 u1 u2 u3 u4 u5 u6 u7 u8 W2,W2=set9 (W'.alloc o) w.heap.size u0 u1 u2 u3 u4 u5 u6 u7 u8->(Ext w W2/\W2.cell? ⟨w.heap.size+1,0,none⟩=some (.iface T x)/\W2.cell? ⟨w.heap.size+1,1,none⟩=some (.iface U y))):=by
  intro W' hx o u0 u1 u2 u3 u4 u5 u6 u7 u8 W2 e;obtain ⟨k0,k1,k2⟩:=HB.out _ (hx.alloc o);rw [e];exact ⟨wac k0 (Nat.le_refl _) _ _ _ _ _ _ _ _ _,(zn _ _ _ _ _ _ _ _ _ _ _ _ (by simp)).trans k1,(zn _ _ _ _ _ _ _ _ _ _ _ _ (by simp)).trans k2⟩
 have HZ:=Lib.hid hZ;have HWX:=Lib.hid hWx;have HWS:=Lib.hid hWs;have HX0:=Lib.hid hx0;rw [hW];clear hW hZ hWx hWs hx0;have y0:Ext W W.drew:=(Ext.refl W).drew;have Y0:=Lib.hid y0;clear y0
 go_region_held3 (fun W' => Ext w W' /\ W'.cell? ⟨w.heap.size + 1, 0, none⟩ = some (.iface T x) /\ W'.cell? ⟨w.heap.size + 1, 1, none⟩ = some (.iface U y))
  (first | with_reducible exact HB.out _ Y0.out | with_reducible exact HB.out _ y1 | with_reducible exact HB.out _ y2 | with_reducible exact HB.out _ (y2.alloc _) | exact HB2.out _ y2 _ _ _ _ _ _ _ _ _ _ _ rfl)
  (first
    | (go_at_call_of 229 (Value.iface T x)
       refine (IHA.out _ _ (HX0.out.trans (HWX.out.trans Y0.out)) HX.out).mono ?_;rintro e v1 ⟨z1,rfl,m1,x1⟩;obtain ⟨A0,n0,c0,A1,c1,rfl,-⟩:=m1.open_;unfold ndV
       have y1:Ext W v1:=Ext.trans Y0.out x1)
    | (go_at_call_of 229 (Value.iface U y)
       refine (IHB.out _ _ (HX0.out.trans (HWX.out.trans y1)) HY.out).mono ?_;rintro e v2 ⟨z2,rfl,m2,x2⟩;obtain ⟨B0,k0,d0,B1,d1,rfl,-⟩:=m2.open_;unfold ndV;have y2:Ext W v2:=Ext.trans (y1) x2;have hz2:qj v2 w.heap.size:=HZ.out.ext y2 (by have:=HWS.out; omega);have hza:∀ o,qj (v2.alloc o) w.heap.size:=fun o=>hz2.ext ((Ext.refl v2).alloc o) (by have:=y2.size; have:=HWS.out; omega)
       have r0:=fun o=>(hza o).1.1
       have r1:=fun o=>(hza o).1.2.1
       have r2:=fun o=>(hza o).1.2.2.1
       have r3:=fun o=>(hza o).1.2.2.2.1
       have r4:=fun o=>(hza o).1.2.2.2.2.1
       have r5:=fun o=>(hza o).1.2.2.2.2.2.1
       have r6:=fun o=>(hza o).1.2.2.2.2.2.2.1
       have r7:=fun o=>(hza o).1.2.2.2.2.2.2.2.1
       have r8:=fun o=>(hza o).1.2.2.2.2.2.2.2.2
       have rf:=fun o i=>(hza o).2 i
       have HZA:=Lib.hid hza;clear hz2 hza
       have hv2:w.heap.size+1 < v2.heap.size:=by have:=y2.size; have:=HWS.out; omega))
 have HF:Hid (uh (Tm.sub a b).plain w (.returned (ndV { nd0 with kind:=4 } (.slice none 0 0) (.slice (some ⟨v2.heap.size,0,none⟩) 2 2))) (set9 (v2.alloc (.cells #[.int .i64 a.plain.d.kind,.bool a.plain.d.neg,.slice A0 n0 c0,.string a.plain.d.name,.int .i64 a.plain.d.exp,.int .i64 a.plain.d.rel,.bool a.plain.d.truth,.bool a.plain.d.all,.slice A1 a.plain.ks.length c1,.int .i64 b.plain.d.kind,.bool b.plain.d.neg,.slice B0 k0 d0,.string b.plain.d.name,.int .i64 b.plain.d.exp,.int .i64 b.plain.d.rel,.bool b.plain.d.truth,.bool b.plain.d.all,.slice B1 b.plain.ks.length d1] 254)) w.heap.size (.int .i64 (4)) (.bool false) (.slice none 0 0) (.string ⟨#[]⟩) (.int .i64 (0)) (.int .i64 (0)) (.bool false) (.bool false) (.slice (some ⟨v2.heap.size,0,none⟩) 2 2))):=
  kaa (B := W.heap.size) ((HWX.out.trans y2).alloc _) (Nat.le_refl _) (by have := HWS.out; omega) (hi := v2.heap.size + 1) (by simp) (HZA.out _)
   (TrO.mk (t := (Tm.sub a b).plain) (c := 2) (jb.nil _) (by simp [Tm.plain, Tr.ks]) (by simp)
     (.inr (kag v2 W.heap.size v1.heap.size _ a.plain b.plain _ _ _ _ (m1.ext x2) m2 y1.size x2.size)))
 clear HZ HWX HWS HX0 IHA IHB HX HY m1 x1 y1 m2 x2 y2 HZA HB HB2 Y0;go_wp2_with fail;exact bodyPost_ret (v:=ndV { nd0 with kind:=4 } (.slice none 0 0) (.slice (some ⟨v2.heap.size,0,none⟩) 2 2)) (by simp [results,Tryz.results229,go_sem,r0,r1,r2,r3,r4,r5,r6,r7,r8,ndV,nd0]) rfl HF.out
theorem ucu {w0 w:World} {L:Nat} {a b:Tm} {v:Value} (h:TmV w0 L (.mul a b) v) (hx0:Ext w0 w) (iha:∀ (v:Value) (w:World),Ext w0 w->TmV w0 L a v->Calls Tryz.prog 229 #[v] w (uh a.plain w)) (ihb:∀ (v:Value) (w:World),Ext w0 w->TmV w0 L b v->Calls Tryz.prog 229 #[v] w (uh b.plain w)) :
 Calls Tryz.prog 229 #[v] w (uh (Tm.mul a b).plain w):=by
 have IHA:=Lib.hid iha;have IHB:=Lib.hid ihb;obtain ⟨x,y,rfl,hx,hy⟩:=h;have HX:=Lib.hid hx;obtain ⟨T,x,rfl⟩:=hx.iface;have HY:=Lib.hid hy;obtain ⟨U,y,rfl⟩:=hy.iface;clear hx hy iha ihb;go_enter Tryz.func229,Tryz.ntmps229;go_wp2_with fail;obtain ⟨W,hW⟩:∃ W,(w.alloc (.cells #[.int .i64 0,.bool false,.slice none 0 0,.string ⟨#[]⟩,.int .i64 0,.int .i64 0,.bool false,.bool false,.slice none 0 0] 254)).alloc (.cells #[.iface T x,.iface U y] 261)=W:=⟨_,rfl⟩;have hWx:Ext w W:=by rw [<- hW]; exact ((Ext.refl w).alloc _).alloc _
 have hWs:W.heap.size=w.heap.size+1+1:=by rw [<- hW]; simp
 have hZ:qj W w.heap.size:=by rw [<- hW]; exact (qy w _).ext ((Ext.refl _).alloc _) (by simp)
 have HB:Hid (∀ W',Ext W W'->(Ext w W'/\W'.cell? ⟨w.heap.size+1,0,none⟩=some (.iface T x)/\W'.cell? ⟨w.heap.size+1,1,none⟩=some (.iface U y))):=by
  intro W' hx;obtain ⟨hc,hf⟩:=hx.cells;refine ⟨hWx.trans hx,?_,?_⟩ <;> (rw [hc _ _ (by omega),<- hW]; simp [go_sem])
 have HB2:Hid (∀ W',Ext W W'->∀ o u0 u1 u2 u3 u4 u5 u6 u7 u8 W2,W2=set9 (W'.alloc o) w.heap.size u0 u1 u2 u3 u4 u5 u6 u7 u8->(Ext w W2/\W2.cell? ⟨w.heap.size+1,0,none⟩=some (.iface T x)/\W2.cell? ⟨w.heap.size+1,1,none⟩=some (.iface U y))):=by
  intro W' hx o u0 u1 u2 u3 u4 u5 u6 u7 u8 W2 e;obtain ⟨k0,k1,k2⟩:=HB.out _ (hx.alloc o);rw [e];exact ⟨wac k0 (Nat.le_refl _) _ _ _ _ _ _ _ _ _,(zn _ _ _ _ _ _ _ _ _ _ _ _ (by simp)).trans k1,(zn _ _ _ _ _ _ _ _ _ _ _ _ (by simp)).trans k2⟩
 have HZ:=Lib.hid hZ;have HWX:=Lib.hid hWx;have HWS:=Lib.hid hWs;have HX0:=Lib.hid hx0;rw [hW];clear hW hZ hWx hWs hx0;have y0:Ext W W.drew:=(Ext.refl W).drew;have Y0:=Lib.hid y0;clear y0
 go_region_held3 (fun W' => Ext w W' /\ W'.cell? ⟨w.heap.size + 1, 0, none⟩ = some (.iface T x) /\ W'.cell? ⟨w.heap.size + 1, 1, none⟩ = some (.iface U y))
  (first | with_reducible exact HB.out _ Y0.out | with_reducible exact HB.out _ y1 | with_reducible exact HB.out _ y2 | with_reducible exact HB.out _ (y2.alloc _) | exact HB2.out _ y2 _ _ _ _ _ _ _ _ _ _ _ rfl)
  (first
    | (go_at_call_of 229 (Value.iface T x)
       refine (IHA.out _ _ (HX0.out.trans (HWX.out.trans Y0.out)) HX.out).mono ?_;rintro e v1 ⟨z1,rfl,m1,x1⟩;obtain ⟨A0,n0,c0,A1,c1,rfl,-⟩:=m1.open_;unfold ndV
       have y1:Ext W v1:=Ext.trans Y0.out x1)
    | (go_at_call_of 229 (Value.iface U y)
       refine (IHB.out _ _ (HX0.out.trans (HWX.out.trans y1)) HY.out).mono ?_;rintro e v2 ⟨z2,rfl,m2,x2⟩;obtain ⟨B0,k0,d0,B1,d1,rfl,-⟩:=m2.open_;unfold ndV;have y2:Ext W v2:=Ext.trans (y1) x2;have hz2:qj v2 w.heap.size:=HZ.out.ext y2 (by have:=HWS.out; omega);have hza:∀ o,qj (v2.alloc o) w.heap.size:=fun o=>hz2.ext ((Ext.refl v2).alloc o) (by have:=y2.size; have:=HWS.out; omega)
       have r0:=fun o=>(hza o).1.1
       have r1:=fun o=>(hza o).1.2.1
       have r2:=fun o=>(hza o).1.2.2.1
       have r3:=fun o=>(hza o).1.2.2.2.1
       have r4:=fun o=>(hza o).1.2.2.2.2.1
       have r5:=fun o=>(hza o).1.2.2.2.2.2.1
       have r6:=fun o=>(hza o).1.2.2.2.2.2.2.1
       have r7:=fun o=>(hza o).1.2.2.2.2.2.2.2.1
       have r8:=fun o=>(hza o).1.2.2.2.2.2.2.2.2
       have rf:=fun o i=>(hza o).2 i
       have HZA:=Lib.hid hza;clear hz2 hza
       have hv2:w.heap.size+1 < v2.heap.size:=by have:=y2.size; have:=HWS.out; omega))
 have HF:Hid (uh (Tm.mul a b).plain w (.returned (ndV { nd0 with kind:=5 } (.slice none 0 0) (.slice (some ⟨v2.heap.size,0,none⟩) 2 2))) (set9 (v2.alloc (.cells #[.int .i64 a.plain.d.kind,.bool a.plain.d.neg,.slice A0 n0 c0,.string a.plain.d.name,.int .i64 a.plain.d.exp,.int .i64 a.plain.d.rel,.bool a.plain.d.truth,.bool a.plain.d.all,.slice A1 a.plain.ks.length c1,.int .i64 b.plain.d.kind,.bool b.plain.d.neg,.slice B0 k0 d0,.string b.plain.d.name,.int .i64 b.plain.d.exp,.int .i64 b.plain.d.rel,.bool b.plain.d.truth,.bool b.plain.d.all,.slice B1 b.plain.ks.length d1] 254)) w.heap.size (.int .i64 (5)) (.bool false) (.slice none 0 0) (.string ⟨#[]⟩) (.int .i64 (0)) (.int .i64 (0)) (.bool false) (.bool false) (.slice (some ⟨v2.heap.size,0,none⟩) 2 2))):=
  kaa (B := W.heap.size) ((HWX.out.trans y2).alloc _) (Nat.le_refl _) (by have := HWS.out; omega) (hi := v2.heap.size + 1) (by simp) (HZA.out _)
   (TrO.mk (t := (Tm.mul a b).plain) (c := 2) (jb.nil _) (by simp [Tm.plain, Tr.ks]) (by simp)
     (.inr (kag v2 W.heap.size v1.heap.size _ a.plain b.plain _ _ _ _ (m1.ext x2) m2 y1.size x2.size)))
 clear HZ HWX HWS HX0 IHA IHB HX HY m1 x1 y1 m2 x2 y2 HZA HB HB2 Y0;go_wp2_with fail;exact bodyPost_ret (v:=ndV { nd0 with kind:=5 } (.slice none 0 0) (.slice (some ⟨v2.heap.size,0,none⟩) 2 2)) (by simp [results,Tryz.results229,go_sem,r0,r1,r2,r3,r4,r5,r6,r7,r8,ndV,nd0]) rfl HF.out
theorem vcu {w0 w:World} {L:Nat} {a:Tm} {v:Value} (h:TmV w0 L (.neg a) v) (hx0:Ext w0 w) (iha:∀ (v:Value) (w:World),Ext w0 w->TmV w0 L a v->Calls Tryz.prog 229 #[v] w (uh a.plain w)) :
 Calls Tryz.prog 229 #[v] w (uh (Tm.neg a).plain w):=by
 have IHA:=Lib.hid iha;obtain ⟨x,rfl,hx⟩:=h;have HX:=Lib.hid hx;obtain ⟨T,x,rfl⟩:=hx.iface;clear hx iha;go_enter Tryz.func229,Tryz.ntmps229;go_wp2_with fail;obtain ⟨W,hW⟩:∃ W,(w.alloc (.cells #[.int .i64 0,.bool false,.slice none 0 0,.string ⟨#[]⟩,.int .i64 0,.int .i64 0,.bool false,.bool false,.slice none 0 0] 254)).alloc (.cells #[.iface T x] 257)=W:=⟨_,rfl⟩;have hWx:Ext w W:=by rw [<- hW]; exact ((Ext.refl w).alloc _).alloc _
 have hWs:W.heap.size=w.heap.size+1+1:=by rw [<- hW]; simp
 have hZ:qj W w.heap.size:=by rw [<- hW]; exact (qy w _).ext ((Ext.refl _).alloc _) (by simp)
 have HZ:=Lib.hid hZ;have HWX:=Lib.hid hWx;have HWS:=Lib.hid hWs;have HX0:=Lib.hid hx0;rw [hW];have b0:W.cell? ⟨w.heap.size+1,0,none⟩=some (.iface T x):=by rw [<- hW]; simp [go_sem]
 clear hW hZ hWx hWs hx0;go_wp2_with fail;refine (IHA.out _ _ (HX0.out.trans HWX.out) HX.out).mono ?_;rintro e v1 ⟨z1,rfl,m1,x1⟩;obtain ⟨A0,n0,c0,A1,c1,rfl,-⟩:=m1.open_;unfold ndV;have y1:Ext W v1:=Ext.trans (Ext.refl W) x1;have hz2:qj v1 w.heap.size:=HZ.out.ext y1 (by have:=HWS.out; omega);have hza:∀ o,qj (v1.alloc o) w.heap.size:=fun o=>hz2.ext ((Ext.refl v1).alloc o) (by have:=y1.size; have:=HWS.out; omega)
 have r0:=fun o=>(hza o).1.1
 have r1:=fun o=>(hza o).1.2.1
 have r2:=fun o=>(hza o).1.2.2.1
 have r3:=fun o=>(hza o).1.2.2.2.1
 have r4:=fun o=>(hza o).1.2.2.2.2.1
 have r5:=fun o=>(hza o).1.2.2.2.2.2.1
 have r6:=fun o=>(hza o).1.2.2.2.2.2.2.1
 have r7:=fun o=>(hza o).1.2.2.2.2.2.2.2.1
 have r8:=fun o=>(hza o).1.2.2.2.2.2.2.2.2
 have rf:=fun o i=>(hza o).2 i
 have HZA:=Lib.hid hza;clear hz2 hza;have hv2:w.heap.size+1 < v1.heap.size:=by have:=y1.size; have:=HWS.out; omega
 clear b0
 have HF:Hid (uh (Tm.neg a).plain w (.returned (ndV { nd0 with kind:=6 } (.slice none 0 0) (.slice (some ⟨v1.heap.size,0,none⟩) 1 1))) (set9 (v1.alloc (.cells #[.int .i64 a.plain.d.kind,.bool a.plain.d.neg,.slice A0 n0 c0,.string a.plain.d.name,.int .i64 a.plain.d.exp,.int .i64 a.plain.d.rel,.bool a.plain.d.truth,.bool a.plain.d.all,.slice A1 a.plain.ks.length c1] 254)) w.heap.size (.int .i64 (6)) (.bool false) (.slice none 0 0) (.string ⟨#[]⟩) (.int .i64 (0)) (.int .i64 (0)) (.bool false) (.bool false) (.slice (some ⟨v1.heap.size,0,none⟩) 1 1))):=
  kaa (B := W.heap.size) ((HWX.out.trans y1).alloc _) (Nat.le_refl _) (by have := HWS.out; omega) (hi := v1.heap.size + 1) (by simp) (HZA.out _)
   (TrO.mk (t := (Tm.neg a).plain) (c := 1) (jb.nil _) (by simp [Tm.plain, Tr.ks]) (by simp)
     (.inr (qaq v1 W.heap.size _ a.plain _ _ m1 y1.size)))
 clear HZ HWX HWS HX0 IHA HX m1 x1 y1 HZA;go_wp2_with fail;exact bodyPost_ret (v:=ndV { nd0 with kind:=6 } (.slice none 0 0) (.slice (some ⟨v1.heap.size,0,none⟩) 1 1)) (by simp [results,Tryz.results229,go_sem,r0,r1,r2,r3,r4,r5,r6,r7,r8,ndV,nd0]) rfl HF.out
theorem qcu {w0 w:World} {L:Nat} {a:Tm} {n:Int} {v:Value} (h:TmV w0 L (.pow a n) v) (hx0:Ext w0 w) (iha:∀ (v:Value) (w:World),Ext w0 w->TmV w0 L a v->Calls Tryz.prog 229 #[v] w (uh a.plain w)) :
 Calls Tryz.prog 229 #[v] w (uh (Tm.pow a n).plain w):=by
 have IHA:=Lib.hid iha;obtain ⟨x,rfl,hx⟩:=h;have HX:=Lib.hid hx;obtain ⟨T,x,rfl⟩:=hx.iface;clear hx iha
 by_cases hlt:n < 0
 · have hm:xw n 0=0:=if_pos hlt;have hif:(if n < 0 then (0:Int) else n)=0:=if_pos hlt;have hde:decide (n < 0)=true:=by simpa using hlt
   have hma:max n 0=0:=by omega
   have hpl:(Tm.pow a n).plain=.mk { nd0 with kind:=7,exp:=0 } [a.plain]:=by show Tr.mk { nd0 with kind:=7,exp:=xw n 0 } [a.plain]=_; rw [hm]
   rw [hpl];clear hm hpl;go_enter Tryz.func229,Tryz.ntmps229;go_wp2_with fail;obtain ⟨W,hW⟩:∃ W,(w.alloc (.cells #[.int .i64 0,.bool false,.slice none 0 0,.string ⟨#[]⟩,.int .i64 0,.int .i64 0,.bool false,.bool false,.slice none 0 0] 254)).alloc (.cells #[.iface T x,.int .i64 n] 264)=W:=⟨_,rfl⟩;have hWx:Ext w W:=by rw [<- hW]; exact ((Ext.refl w).alloc _).alloc _
   have hWs:W.heap.size=w.heap.size+1+1:=by rw [<- hW]; simp
   have hZ:qj W w.heap.size:=by rw [<- hW]; exact (qy w _).ext ((Ext.refl _).alloc _) (by simp)
   have HB:Hid (∀ W',Ext W W'->(Ext w W'/\W'.cell? ⟨w.heap.size+1,0,none⟩=some (.iface T x)/\W'.cell? ⟨w.heap.size+1,1,none⟩=some (.int .i64 n))):=by
    intro W' hx;obtain ⟨hc,hf⟩:=hx.cells;refine ⟨hWx.trans hx,?_,?_⟩ <;> (rw [hc _ _ (by omega),<- hW]; simp [go_sem])
   have HB2:Hid (∀ W',Ext W W'->∀ o u0 u1 u2 u3 u4 u5 u6 u7 u8 W2,W2=set9 (W'.alloc o) w.heap.size u0 u1 u2 u3 u4 u5 u6 u7 u8->(Ext w W2/\W2.cell? ⟨w.heap.size+1,0,none⟩=some (.iface T x)/\W2.cell? ⟨w.heap.size+1,1,none⟩=some (.int .i64 n))):=by
    intro W' hx o u0 u1 u2 u3 u4 u5 u6 u7 u8 W2 e;obtain ⟨k0,k1,k2⟩:=HB.out _ (hx.alloc o);rw [e];exact ⟨wac k0 (Nat.le_refl _) _ _ _ _ _ _ _ _ _,(zn _ _ _ _ _ _ _ _ _ _ _ _ (by simp)).trans k1,(zn _ _ _ _ _ _ _ _ _ _ _ _ (by simp)).trans k2⟩
   have HZ:=Lib.hid hZ;have HWX:=Lib.hid hWx;have HWS:=Lib.hid hWs;have HX0:=Lib.hid hx0;rw [hW];clear hW hZ hWx hWs hx0;have y0:Ext W W.drew:=(Ext.refl W).drew;have Y0:=Lib.hid y0;clear y0
   go_region_held3 (fun W' => Ext w W' /\ W'.cell? ⟨w.heap.size + 1, 0, none⟩ = some (.iface T x) /\ W'.cell? ⟨w.heap.size + 1, 1, none⟩ = some (.int .i64 n))
    (first | with_reducible exact HB.out _ Y0.out | with_reducible exact HB.out _ y1 | with_reducible exact HB.out _ (y1.alloc _) | exact HB2.out _ y1 _ _ _ _ _ _ _ _ _ _ _ rfl)
    (first
      | (go_at_call_of 229 (Value.iface T x)
         refine (IHA.out _ _ (HX0.out.trans (HWX.out.trans Y0.out)) HX.out).mono ?_;rintro e v1 ⟨z1,rfl,m1,x1⟩;obtain ⟨A0,n0,c0,A1,c1,rfl,-⟩:=m1.open_;unfold ndV;have y1:Ext W v1:=Ext.trans Y0.out x1;have hz2:qj v1 w.heap.size:=HZ.out.ext y1 (by have:=HWS.out; omega);have hza:∀ o,qj (v1.alloc o) w.heap.size:=fun o=>hz2.ext ((Ext.refl v1).alloc o) (by have:=y1.size; have:=HWS.out; omega)
         have r0:=fun o=>(hza o).1.1
         have r1:=fun o=>(hza o).1.2.1
         have r2:=fun o=>(hza o).1.2.2.1
         have r3:=fun o=>(hza o).1.2.2.2.1
         have r4:=fun o=>(hza o).1.2.2.2.2.1
         have r5:=fun o=>(hza o).1.2.2.2.2.2.1
         have r6:=fun o=>(hza o).1.2.2.2.2.2.2.1
         have r7:=fun o=>(hza o).1.2.2.2.2.2.2.2.1
         have r8:=fun o=>(hza o).1.2.2.2.2.2.2.2.2
         have rf:=fun o i=>(hza o).2 i
         have HZA:=Lib.hid hza;clear hz2 hza
         have hv2:w.heap.size+1 < v1.heap.size:=by have:=y1.size; have:=HWS.out; omega))
   all_goals
    have HF:Hid (uh (Tr.mk { nd0 with kind:=7,exp:=0 } [a.plain]) w (.returned (ndV { nd0 with kind:=7,exp:=0 } (.slice none 0 0) (.slice (some ⟨v1.heap.size,0,none⟩) 1 1))) (set9 (v1.alloc (.cells #[.int .i64 a.plain.d.kind,.bool a.plain.d.neg,.slice A0 n0 c0,.string a.plain.d.name,.int .i64 a.plain.d.exp,.int .i64 a.plain.d.rel,.bool a.plain.d.truth,.bool a.plain.d.all,.slice A1 a.plain.ks.length c1] 254)) w.heap.size (.int .i64 (7)) (.bool false) (.slice none 0 0) (.string ⟨#[]⟩) (.int .i64 (0)) (.int .i64 (0)) (.bool false) (.bool false) (.slice (some ⟨v1.heap.size,0,none⟩) 1 1))):=
     kaa (B := W.heap.size) ((HWX.out.trans y1).alloc _) (Nat.le_refl _) (by have := HWS.out; omega) (hi := v1.heap.size + 1) (by simp) (HZA.out _)
      (TrO.mk (t := (Tr.mk { nd0 with kind := 7, exp := 0 } [a.plain])) (c := 1) (jb.nil _) (by simp [Tm.plain, Tr.ks]) (by simp)
        (.inr (qaq v1 W.heap.size _ a.plain _ _ m1 y1.size)))
    clear HZ HWX HWS HX0 IHA HX m1 x1 y1 HZA HB HB2 Y0;go_wp2_with fail;exact bodyPost_ret (v:=ndV { nd0 with kind:=7,exp:=0 } (.slice none 0 0) (.slice (some ⟨v1.heap.size,0,none⟩) 1 1)) (by simp [results,Tryz.results229,go_sem,r0,r1,r2,r3,r4,r5,r6,r7,r8,ndV,nd0]) rfl HF.out
 · have hm:xw n 0=n:=if_neg hlt;have hge:0<=n:=by omega
   have hif:(if n < 0 then (0:Int) else n)=n:=if_neg hlt;have hde:decide (n < 0)=false:=by simpa using hlt
   have hma:max n 0=n:=by omega
   have hpl:(Tm.pow a n).plain=.mk { nd0 with kind:=7,exp:=n } [a.plain]:=by show Tr.mk { nd0 with kind:=7,exp:=xw n 0 } [a.plain]=_; rw [hm]
   rw [hpl];clear hm hlt hpl;go_enter Tryz.func229,Tryz.ntmps229;go_wp2_with fail;obtain ⟨W,hW⟩:∃ W,(w.alloc (.cells #[.int .i64 0,.bool false,.slice none 0 0,.string ⟨#[]⟩,.int .i64 0,.int .i64 0,.bool false,.bool false,.slice none 0 0] 254)).alloc (.cells #[.iface T x,.int .i64 n] 264)=W:=⟨_,rfl⟩;have hWx:Ext w W:=by rw [<- hW]; exact ((Ext.refl w).alloc _).alloc _
   have hWs:W.heap.size=w.heap.size+1+1:=by rw [<- hW]; simp
   have hZ:qj W w.heap.size:=by rw [<- hW]; exact (qy w _).ext ((Ext.refl _).alloc _) (by simp)
   have HB:Hid (∀ W',Ext W W'->(Ext w W'/\W'.cell? ⟨w.heap.size+1,0,none⟩=some (.iface T x)/\W'.cell? ⟨w.heap.size+1,1,none⟩=some (.int .i64 n))):=by
    intro W' hx;obtain ⟨hc,hf⟩:=hx.cells;refine ⟨hWx.trans hx,?_,?_⟩ <;> (rw [hc _ _ (by omega),<- hW]; simp [go_sem])
   have HB2:Hid (∀ W',Ext W W'->∀ o u0 u1 u2 u3 u4 u5 u6 u7 u8 W2,W2=set9 (W'.alloc o) w.heap.size u0 u1 u2 u3 u4 u5 u6 u7 u8->(Ext w W2/\W2.cell? ⟨w.heap.size+1,0,none⟩=some (.iface T x)/\W2.cell? ⟨w.heap.size+1,1,none⟩=some (.int .i64 n))):=by
    intro W' hx o u0 u1 u2 u3 u4 u5 u6 u7 u8 W2 e;obtain ⟨k0,k1,k2⟩:=HB.out _ (hx.alloc o);rw [e];exact ⟨wac k0 (Nat.le_refl _) _ _ _ _ _ _ _ _ _,(zn _ _ _ _ _ _ _ _ _ _ _ _ (by simp)).trans k1,(zn _ _ _ _ _ _ _ _ _ _ _ _ (by simp)).trans k2⟩
   have HZ:=Lib.hid hZ;have HWX:=Lib.hid hWx;have HWS:=Lib.hid hWs;have HX0:=Lib.hid hx0;rw [hW];clear hW hZ hWx hWs hx0;have y0:Ext W W.drew:=(Ext.refl W).drew;have Y0:=Lib.hid y0;clear y0
   go_region_held3 (fun W' => Ext w W' /\ W'.cell? ⟨w.heap.size + 1, 0, none⟩ = some (.iface T x) /\ W'.cell? ⟨w.heap.size + 1, 1, none⟩ = some (.int .i64 n))
    (first | with_reducible exact HB.out _ Y0.out | with_reducible exact HB.out _ y1 | with_reducible exact HB.out _ (y1.alloc _) | exact HB2.out _ y1 _ _ _ _ _ _ _ _ _ _ _ rfl)
    (first
      | (go_at_call_of 229 (Value.iface T x)
         refine (IHA.out _ _ (HX0.out.trans (HWX.out.trans Y0.out)) HX.out).mono ?_;rintro e v1 ⟨z1,rfl,m1,x1⟩;obtain ⟨A0,n0,c0,A1,c1,rfl,-⟩:=m1.open_;unfold ndV;have y1:Ext W v1:=Ext.trans Y0.out x1;have hz2:qj v1 w.heap.size:=HZ.out.ext y1 (by have:=HWS.out; omega);have hza:∀ o,qj (v1.alloc o) w.heap.size:=fun o=>hz2.ext ((Ext.refl v1).alloc o) (by have:=y1.size; have:=HWS.out; omega)
         have r0:=fun o=>(hza o).1.1
         have r1:=fun o=>(hza o).1.2.1
         have r2:=fun o=>(hza o).1.2.2.1
         have r3:=fun o=>(hza o).1.2.2.2.1
         have r4:=fun o=>(hza o).1.2.2.2.2.1
         have r5:=fun o=>(hza o).1.2.2.2.2.2.1
         have r6:=fun o=>(hza o).1.2.2.2.2.2.2.1
         have r7:=fun o=>(hza o).1.2.2.2.2.2.2.2.1
         have r8:=fun o=>(hza o).1.2.2.2.2.2.2.2.2
         have rf:=fun o i=>(hza o).2 i
         have HZA:=Lib.hid hza;clear hz2 hza
         have hv2:w.heap.size+1 < v1.heap.size:=by have:=y1.size; have:=HWS.out; omega))
   all_goals
    have HF:Hid (uh (Tr.mk { nd0 with kind:=7,exp:=n } [a.plain]) w (.returned (ndV { nd0 with kind:=7,exp:=n } (.slice none 0 0) (.slice (some ⟨v1.heap.size,0,none⟩) 1 1))) (set9 (v1.alloc (.cells #[.int .i64 a.plain.d.kind,.bool a.plain.d.neg,.slice A0 n0 c0,.string a.plain.d.name,.int .i64 a.plain.d.exp,.int .i64 a.plain.d.rel,.bool a.plain.d.truth,.bool a.plain.d.all,.slice A1 a.plain.ks.length c1] 254)) w.heap.size (.int .i64 (7)) (.bool false) (.slice none 0 0) (.string ⟨#[]⟩) (.int .i64 (n)) (.int .i64 (0)) (.bool false) (.bool false) (.slice (some ⟨v1.heap.size,0,none⟩) 1 1))):=
     kaa (B := W.heap.size) ((HWX.out.trans y1).alloc _) (Nat.le_refl _) (by have := HWS.out; omega) (hi := v1.heap.size + 1) (by simp) (HZA.out _)
      (TrO.mk (t := (Tr.mk { nd0 with kind := 7, exp := n } [a.plain])) (c := 1) (jb.nil _) (by simp [Tm.plain, Tr.ks]) (by simp)
        (.inr (qaq v1 W.heap.size _ a.plain _ _ m1 y1.size)))
    clear HZ HWX HWS HX0 IHA HX m1 x1 y1 HZA HB HB2 Y0;go_wp2_with fail;exact bodyPost_ret (v:=ndV { nd0 with kind:=7,exp:=n } (.slice none 0 0) (.slice (some ⟨v1.heap.size,0,none⟩) 1 1)) (by simp [results,Tryz.results229,go_sem,r0,r1,r2,r3,r4,r5,r6,r7,r8,ndV,nd0]) rfl HF.out
theorem zcv {w0 w:World} {L:Nat} {f g:Fm} {v:Value} (h:FmV w0 L (.and f g) v) (hx0:Ext w0 w) (ihf:∀ (v:Value) (w:World),Ext w0 w->FmV w0 L f v->Calls Tryz.prog 193 #[v] w (uh f.plain w)) (ihg:∀ (v:Value) (w:World),Ext w0 w->FmV w0 L g v->Calls Tryz.prog 193 #[v] w (uh g.plain w)) :
 Calls Tryz.prog 193 #[v] w (uh (Fm.and f g).plain w):=by
 have IHF:=Lib.hid ihf;have IHG:=Lib.hid ihg;obtain ⟨x,y,rfl,hx,hy⟩:=h;have HX:=Lib.hid hx;obtain ⟨T,x,rfl⟩:=hx.iface;have HY:=Lib.hid hy;obtain ⟨U,y,rfl⟩:=hy.iface;clear hx hy ihf ihg;go_enter Tryz.func193,Tryz.ntmps193;go_wp2_with fail;obtain ⟨W,hW⟩:∃ W,(w.alloc (.cells #[.int .i64 0,.bool false,.slice none 0 0,.string ⟨#[]⟩,.int .i64 0,.int .i64 0,.bool false,.bool false,.slice none 0 0] 254)).alloc (.cells #[.iface T x,.iface U y] 223)=W:=⟨_,rfl⟩;have hWx:Ext w W:=by rw [<- hW]; exact ((Ext.refl w).alloc _).alloc _
 have hWs:W.heap.size=w.heap.size+1+1:=by rw [<- hW]; simp
 have hZ:qj W w.heap.size:=by rw [<- hW]; exact (qy w _).ext ((Ext.refl _).alloc _) (by simp)
 have HB:Hid (∀ W',Ext W W'->(Ext w W'/\W'.cell? ⟨w.heap.size+1,0,none⟩=some (.iface T x)/\W'.cell? ⟨w.heap.size+1,1,none⟩=some (.iface U y))):=by
  intro W' hx;obtain ⟨hc,hf⟩:=hx.cells;refine ⟨hWx.trans hx,?_,?_⟩ <;> (rw [hc _ _ (by omega),<- hW]; simp [go_sem])
 have HB2:Hid (∀ W',Ext W W'->∀ o u0 u1 u2 u3 u4 u5 u6 u7 u8 W2,W2=set9 (W'.alloc o) w.heap.size u0 u1 u2 u3 u4 u5 u6 u7 u8->(Ext w W2/\W2.cell? ⟨w.heap.size+1,0,none⟩=some (.iface T x)/\W2.cell? ⟨w.heap.size+1,1,none⟩=some (.iface U y))):=by
  intro W' hx o u0 u1 u2 u3 u4 u5 u6 u7 u8 W2 e;obtain ⟨k0,k1,k2⟩:=HB.out _ (hx.alloc o);rw [e];exact ⟨wac k0 (Nat.le_refl _) _ _ _ _ _ _ _ _ _,(zn _ _ _ _ _ _ _ _ _ _ _ _ (by simp)).trans k1,(zn _ _ _ _ _ _ _ _ _ _ _ _ (by simp)).trans k2⟩
 have HZ:=Lib.hid hZ;have HWX:=Lib.hid hWx;have HWS:=Lib.hid hWs;have HX0:=Lib.hid hx0;rw [hW];clear hW hZ hWx hWs hx0;have y0:Ext W W.drew:=(Ext.refl W).drew;have Y0:=Lib.hid y0;clear y0
 go_region_held3 (fun W' => Ext w W' /\ W'.cell? ⟨w.heap.size + 1, 0, none⟩ = some (.iface T x) /\ W'.cell? ⟨w.heap.size + 1, 1, none⟩ = some (.iface U y))
  (first | with_reducible exact HB.out _ Y0.out | with_reducible exact HB.out _ y1 | with_reducible exact HB.out _ y2 | with_reducible exact HB.out _ (y2.alloc _) | exact HB2.out _ y2 _ _ _ _ _ _ _ _ _ _ _ rfl)
  (first
    | (go_at_call_of 193 (Value.iface T x)
       refine (IHF.out _ _ (HX0.out.trans (HWX.out.trans Y0.out)) HX.out).mono ?_;rintro e v1 ⟨z1,rfl,m1,x1⟩;obtain ⟨A0,n0,c0,A1,c1,rfl,-⟩:=m1.open_;unfold ndV
       have y1:Ext W v1:=Ext.trans Y0.out x1)
    | (go_at_call_of 193 (Value.iface U y)
       refine (IHG.out _ _ (HX0.out.trans (HWX.out.trans y1)) HY.out).mono ?_;rintro e v2 ⟨z2,rfl,m2,x2⟩;obtain ⟨B0,k0,d0,B1,d1,rfl,-⟩:=m2.open_;unfold ndV;have y2:Ext W v2:=Ext.trans (y1) x2;have hz2:qj v2 w.heap.size:=HZ.out.ext y2 (by have:=HWS.out; omega);have hza:∀ o,qj (v2.alloc o) w.heap.size:=fun o=>hz2.ext ((Ext.refl v2).alloc o) (by have:=y2.size; have:=HWS.out; omega)
       have r0:=fun o=>(hza o).1.1
       have r1:=fun o=>(hza o).1.2.1
       have r2:=fun o=>(hza o).1.2.2.1
       have r3:=fun o=>(hza o).1.2.2.2.1
       have r4:=fun o=>(hza o).1.2.2.2.2.1
       have r5:=fun o=>(hza o).1.2.2.2.2.2.1
       have r6:=fun o=>(hza o).1.2.2.2.2.2.2.1
       have r7:=fun o=>(hza o).1.2.2.2.2.2.2.2.1
       have r8:=fun o=>(hza o).1.2.2.2.2.2.2.2.2
       have rf:=fun o i=>(hza o).2 i
       have HZA:=Lib.hid hza;clear hz2 hza
       have hv2:w.heap.size+1 < v2.heap.size:=by have:=y2.size; have:=HWS.out; omega))
 have HF:Hid (uh (Fm.and f g).plain w (.returned (ndV { nd0 with kind:=11 } (.slice none 0 0) (.slice (some ⟨v2.heap.size,0,none⟩) 2 2))) (set9 (v2.alloc (.cells #[.int .i64 f.plain.d.kind,.bool f.plain.d.neg,.slice A0 n0 c0,.string f.plain.d.name,.int .i64 f.plain.d.exp,.int .i64 f.plain.d.rel,.bool f.plain.d.truth,.bool f.plain.d.all,.slice A1 f.plain.ks.length c1,.int .i64 g.plain.d.kind,.bool g.plain.d.neg,.slice B0 k0 d0,.string g.plain.d.name,.int .i64 g.plain.d.exp,.int .i64 g.plain.d.rel,.bool g.plain.d.truth,.bool g.plain.d.all,.slice B1 g.plain.ks.length d1] 254)) w.heap.size (.int .i64 (11)) (.bool false) (.slice none 0 0) (.string ⟨#[]⟩) (.int .i64 (0)) (.int .i64 (0)) (.bool false) (.bool false) (.slice (some ⟨v2.heap.size,0,none⟩) 2 2))):=
  kaa (B := W.heap.size) ((HWX.out.trans y2).alloc _) (Nat.le_refl _) (by have := HWS.out; omega) (hi := v2.heap.size + 1) (by simp) (HZA.out _)
   (TrO.mk (t := (Fm.and f g).plain) (c := 2) (jb.nil _) (by simp [Fm.plain, Tr.ks]) (by simp)
     (.inr (kag v2 W.heap.size v1.heap.size _ f.plain g.plain _ _ _ _ (m1.ext x2) m2 y1.size x2.size)))
 clear HZ HWX HWS HX0 IHF IHG HX HY m1 x1 y1 m2 x2 y2 HZA HB HB2 Y0;go_wp2_with fail;exact bodyPost_ret (v:=ndV { nd0 with kind:=11 } (.slice none 0 0) (.slice (some ⟨v2.heap.size,0,none⟩) 2 2)) (by simp [results,Tryz.results193,go_sem,r0,r1,r2,r3,r4,r5,r6,r7,r8,ndV,nd0]) rfl HF.out
theorem zcy {w0 w:World} {L:Nat} {f g:Fm} {v:Value} (h:FmV w0 L (.or f g) v) (hx0:Ext w0 w) (ihf:∀ (v:Value) (w:World),Ext w0 w->FmV w0 L f v->Calls Tryz.prog 193 #[v] w (uh f.plain w)) (ihg:∀ (v:Value) (w:World),Ext w0 w->FmV w0 L g v->Calls Tryz.prog 193 #[v] w (uh g.plain w)) :
 Calls Tryz.prog 193 #[v] w (uh (Fm.or f g).plain w):=by
 have IHF:=Lib.hid ihf;have IHG:=Lib.hid ihg;obtain ⟨x,y,rfl,hx,hy⟩:=h;have HX:=Lib.hid hx;obtain ⟨T,x,rfl⟩:=hx.iface;have HY:=Lib.hid hy;obtain ⟨U,y,rfl⟩:=hy.iface;clear hx hy ihf ihg;go_enter Tryz.func193,Tryz.ntmps193;go_wp2_with fail;obtain ⟨W,hW⟩:∃ W,(w.alloc (.cells #[.int .i64 0,.bool false,.slice none 0 0,.string ⟨#[]⟩,.int .i64 0,.int .i64 0,.bool false,.bool false,.slice none 0 0] 254)).alloc (.cells #[.iface T x,.iface U y] 224)=W:=⟨_,rfl⟩;have hWx:Ext w W:=by rw [<- hW]; exact ((Ext.refl w).alloc _).alloc _
 have hWs:W.heap.size=w.heap.size+1+1:=by rw [<- hW]; simp
 have hZ:qj W w.heap.size:=by rw [<- hW]; exact (qy w _).ext ((Ext.refl _).alloc _) (by simp)
 have HB:Hid (∀ W',Ext W W'->(Ext w W'/\W'.cell? ⟨w.heap.size+1,0,none⟩=some (.iface T x)/\W'.cell? ⟨w.heap.size+1,1,none⟩=some (.iface U y))):=by
  intro W' hx;obtain ⟨hc,hf⟩:=hx.cells;refine ⟨hWx.trans hx,?_,?_⟩ <;> (rw [hc _ _ (by omega),<- hW]; simp [go_sem])
 have HB2:Hid (∀ W',Ext W W'->∀ o u0 u1 u2 u3 u4 u5 u6 u7 u8 W2,W2=set9 (W'.alloc o) w.heap.size u0 u1 u2 u3 u4 u5 u6 u7 u8->(Ext w W2/\W2.cell? ⟨w.heap.size+1,0,none⟩=some (.iface T x)/\W2.cell? ⟨w.heap.size+1,1,none⟩=some (.iface U y))):=by
  intro W' hx o u0 u1 u2 u3 u4 u5 u6 u7 u8 W2 e;obtain ⟨k0,k1,k2⟩:=HB.out _ (hx.alloc o);rw [e];exact ⟨wac k0 (Nat.le_refl _) _ _ _ _ _ _ _ _ _,(zn _ _ _ _ _ _ _ _ _ _ _ _ (by simp)).trans k1,(zn _ _ _ _ _ _ _ _ _ _ _ _ (by simp)).trans k2⟩
 have HZ:=Lib.hid hZ;have HWX:=Lib.hid hWx;have HWS:=Lib.hid hWs;have HX0:=Lib.hid hx0;rw [hW];clear hW hZ hWx hWs hx0;have y0:Ext W W.drew:=(Ext.refl W).drew;have Y0:=Lib.hid y0;clear y0
 go_region_held3 (fun W' => Ext w W' /\ W'.cell? ⟨w.heap.size + 1, 0, none⟩ = some (.iface T x) /\ W'.cell? ⟨w.heap.size + 1, 1, none⟩ = some (.iface U y))
  (first | with_reducible exact HB.out _ Y0.out | with_reducible exact HB.out _ y1 | with_reducible exact HB.out _ y2 | with_reducible exact HB.out _ (y2.alloc _) | exact HB2.out _ y2 _ _ _ _ _ _ _ _ _ _ _ rfl)
  (first
    | (go_at_call_of 193 (Value.iface T x)
       refine (IHF.out _ _ (HX0.out.trans (HWX.out.trans Y0.out)) HX.out).mono ?_;rintro e v1 ⟨z1,rfl,m1,x1⟩;obtain ⟨A0,n0,c0,A1,c1,rfl,-⟩:=m1.open_;unfold ndV
       have y1:Ext W v1:=Ext.trans Y0.out x1)
    | (go_at_call_of 193 (Value.iface U y)
       refine (IHG.out _ _ (HX0.out.trans (HWX.out.trans y1)) HY.out).mono ?_;rintro e v2 ⟨z2,rfl,m2,x2⟩;obtain ⟨B0,k0,d0,B1,d1,rfl,-⟩:=m2.open_;unfold ndV;have y2:Ext W v2:=Ext.trans (y1) x2;have hz2:qj v2 w.heap.size:=HZ.out.ext y2 (by have:=HWS.out; omega);have hza:∀ o,qj (v2.alloc o) w.heap.size:=fun o=>hz2.ext ((Ext.refl v2).alloc o) (by have:=y2.size; have:=HWS.out; omega)
       have r0:=fun o=>(hza o).1.1
       have r1:=fun o=>(hza o).1.2.1
       have r2:=fun o=>(hza o).1.2.2.1
       have r3:=fun o=>(hza o).1.2.2.2.1
       have r4:=fun o=>(hza o).1.2.2.2.2.1
       have r5:=fun o=>(hza o).1.2.2.2.2.2.1
       have r6:=fun o=>(hza o).1.2.2.2.2.2.2.1
       have r7:=fun o=>(hza o).1.2.2.2.2.2.2.2.1
       have r8:=fun o=>(hza o).1.2.2.2.2.2.2.2.2
       have rf:=fun o i=>(hza o).2 i
       have HZA:=Lib.hid hza;clear hz2 hza
       have hv2:w.heap.size+1 < v2.heap.size:=by have:=y2.size; have:=HWS.out; omega))
 have HF:Hid (uh (Fm.or f g).plain w (.returned (ndV { nd0 with kind:=12 } (.slice none 0 0) (.slice (some ⟨v2.heap.size,0,none⟩) 2 2))) (set9 (v2.alloc (.cells #[.int .i64 f.plain.d.kind,.bool f.plain.d.neg,.slice A0 n0 c0,.string f.plain.d.name,.int .i64 f.plain.d.exp,.int .i64 f.plain.d.rel,.bool f.plain.d.truth,.bool f.plain.d.all,.slice A1 f.plain.ks.length c1,.int .i64 g.plain.d.kind,.bool g.plain.d.neg,.slice B0 k0 d0,.string g.plain.d.name,.int .i64 g.plain.d.exp,.int .i64 g.plain.d.rel,.bool g.plain.d.truth,.bool g.plain.d.all,.slice B1 g.plain.ks.length d1] 254)) w.heap.size (.int .i64 (12)) (.bool false) (.slice none 0 0) (.string ⟨#[]⟩) (.int .i64 (0)) (.int .i64 (0)) (.bool false) (.bool false) (.slice (some ⟨v2.heap.size,0,none⟩) 2 2))):=
  kaa (B := W.heap.size) ((HWX.out.trans y2).alloc _) (Nat.le_refl _) (by have := HWS.out; omega) (hi := v2.heap.size + 1) (by simp) (HZA.out _)
   (TrO.mk (t := (Fm.or f g).plain) (c := 2) (jb.nil _) (by simp [Fm.plain, Tr.ks]) (by simp)
     (.inr (kag v2 W.heap.size v1.heap.size _ f.plain g.plain _ _ _ _ (m1.ext x2) m2 y1.size x2.size)))
 clear HZ HWX HWS HX0 IHF IHG HX HY m1 x1 y1 m2 x2 y2 HZA HB HB2 Y0;go_wp2_with fail;exact bodyPost_ret (v:=ndV { nd0 with kind:=12 } (.slice none 0 0) (.slice (some ⟨v2.heap.size,0,none⟩) 2 2)) (by simp [results,Tryz.results193,go_sem,r0,r1,r2,r3,r4,r5,r6,r7,r8,ndV,nd0]) rfl HF.out
theorem gcu {w0 w:World} {L:Nat} {f g:Fm} {v:Value} (h:FmV w0 L (.imp f g) v) (hx0:Ext w0 w) (ihf:∀ (v:Value) (w:World),Ext w0 w->FmV w0 L f v->Calls Tryz.prog 193 #[v] w (uh f.plain w)) (ihg:∀ (v:Value) (w:World),Ext w0 w->FmV w0 L g v->Calls Tryz.prog 193 #[v] w (uh g.plain w)) :
 Calls Tryz.prog 193 #[v] w (uh (Fm.imp f g).plain w):=by
 have IHF:=Lib.hid ihf;have IHG:=Lib.hid ihg;obtain ⟨x,y,rfl,hx,hy⟩:=h;have HX:=Lib.hid hx;obtain ⟨T,x,rfl⟩:=hx.iface;have HY:=Lib.hid hy;obtain ⟨U,y,rfl⟩:=hy.iface;clear hx hy ihf ihg;go_enter Tryz.func193,Tryz.ntmps193;go_wp2_with fail;obtain ⟨W,hW⟩:∃ W,(w.alloc (.cells #[.int .i64 0,.bool false,.slice none 0 0,.string ⟨#[]⟩,.int .i64 0,.int .i64 0,.bool false,.bool false,.slice none 0 0] 254)).alloc (.cells #[.iface T x,.iface U y] 225)=W:=⟨_,rfl⟩;have hWx:Ext w W:=by rw [<- hW]; exact ((Ext.refl w).alloc _).alloc _
 have hWs:W.heap.size=w.heap.size+1+1:=by rw [<- hW]; simp
 have hZ:qj W w.heap.size:=by rw [<- hW]; exact (qy w _).ext ((Ext.refl _).alloc _) (by simp)
 have HB:Hid (∀ W',Ext W W'->(Ext w W'/\W'.cell? ⟨w.heap.size+1,0,none⟩=some (.iface T x)/\W'.cell? ⟨w.heap.size+1,1,none⟩=some (.iface U y))):=by
  intro W' hx;obtain ⟨hc,hf⟩:=hx.cells;refine ⟨hWx.trans hx,?_,?_⟩ <;> (rw [hc _ _ (by omega),<- hW]; simp [go_sem])
 have HB2:Hid (∀ W',Ext W W'->∀ o u0 u1 u2 u3 u4 u5 u6 u7 u8 W2,W2=set9 (W'.alloc o) w.heap.size u0 u1 u2 u3 u4 u5 u6 u7 u8->(Ext w W2/\W2.cell? ⟨w.heap.size+1,0,none⟩=some (.iface T x)/\W2.cell? ⟨w.heap.size+1,1,none⟩=some (.iface U y))):=by
  intro W' hx o u0 u1 u2 u3 u4 u5 u6 u7 u8 W2 e;obtain ⟨k0,k1,k2⟩:=HB.out _ (hx.alloc o);rw [e];exact ⟨wac k0 (Nat.le_refl _) _ _ _ _ _ _ _ _ _,(zn _ _ _ _ _ _ _ _ _ _ _ _ (by simp)).trans k1,(zn _ _ _ _ _ _ _ _ _ _ _ _ (by simp)).trans k2⟩
 have HZ:=Lib.hid hZ;have HWX:=Lib.hid hWx;have HWS:=Lib.hid hWs;have HX0:=Lib.hid hx0;rw [hW];clear hW hZ hWx hWs hx0;have y0:Ext W W.drew:=(Ext.refl W).drew;have Y0:=Lib.hid y0;clear y0
 go_region_held3 (fun W' => Ext w W' /\ W'.cell? ⟨w.heap.size + 1, 0, none⟩ = some (.iface T x) /\ W'.cell? ⟨w.heap.size + 1, 1, none⟩ = some (.iface U y))
  (first | with_reducible exact HB.out _ Y0.out | with_reducible exact HB.out _ y1 | with_reducible exact HB.out _ y2 | with_reducible exact HB.out _ (y2.alloc _) | exact HB2.out _ y2 _ _ _ _ _ _ _ _ _ _ _ rfl)
  (first
    | (go_at_call_of 193 (Value.iface T x)
       refine (IHF.out _ _ (HX0.out.trans (HWX.out.trans Y0.out)) HX.out).mono ?_;rintro e v1 ⟨z1,rfl,m1,x1⟩;obtain ⟨A0,n0,c0,A1,c1,rfl,-⟩:=m1.open_;unfold ndV
       have y1:Ext W v1:=Ext.trans Y0.out x1)
    | (go_at_call_of 193 (Value.iface U y)
       refine (IHG.out _ _ (HX0.out.trans (HWX.out.trans y1)) HY.out).mono ?_;rintro e v2 ⟨z2,rfl,m2,x2⟩;obtain ⟨B0,k0,d0,B1,d1,rfl,-⟩:=m2.open_;unfold ndV;have y2:Ext W v2:=Ext.trans (y1) x2;have hz2:qj v2 w.heap.size:=HZ.out.ext y2 (by have:=HWS.out; omega);have hza:∀ o,qj (v2.alloc o) w.heap.size:=fun o=>hz2.ext ((Ext.refl v2).alloc o) (by have:=y2.size; have:=HWS.out; omega)
       have r0:=fun o=>(hza o).1.1
       have r1:=fun o=>(hza o).1.2.1
       have r2:=fun o=>(hza o).1.2.2.1
       have r3:=fun o=>(hza o).1.2.2.2.1
       have r4:=fun o=>(hza o).1.2.2.2.2.1
       have r5:=fun o=>(hza o).1.2.2.2.2.2.1
       have r6:=fun o=>(hza o).1.2.2.2.2.2.2.1
       have r7:=fun o=>(hza o).1.2.2.2.2.2.2.2.1
       have r8:=fun o=>(hza o).1.2.2.2.2.2.2.2.2
       have rf:=fun o i=>(hza o).2 i
       have HZA:=Lib.hid hza;clear hz2 hza
       have hv2:w.heap.size+1 < v2.heap.size:=by have:=y2.size; have:=HWS.out; omega))
 have HF:Hid (uh (Fm.imp f g).plain w (.returned (ndV { nd0 with kind:=13 } (.slice none 0 0) (.slice (some ⟨v2.heap.size,0,none⟩) 2 2))) (set9 (v2.alloc (.cells #[.int .i64 f.plain.d.kind,.bool f.plain.d.neg,.slice A0 n0 c0,.string f.plain.d.name,.int .i64 f.plain.d.exp,.int .i64 f.plain.d.rel,.bool f.plain.d.truth,.bool f.plain.d.all,.slice A1 f.plain.ks.length c1,.int .i64 g.plain.d.kind,.bool g.plain.d.neg,.slice B0 k0 d0,.string g.plain.d.name,.int .i64 g.plain.d.exp,.int .i64 g.plain.d.rel,.bool g.plain.d.truth,.bool g.plain.d.all,.slice B1 g.plain.ks.length d1] 254)) w.heap.size (.int .i64 (13)) (.bool false) (.slice none 0 0) (.string ⟨#[]⟩) (.int .i64 (0)) (.int .i64 (0)) (.bool false) (.bool false) (.slice (some ⟨v2.heap.size,0,none⟩) 2 2))):=
  kaa (B := W.heap.size) ((HWX.out.trans y2).alloc _) (Nat.le_refl _) (by have := HWS.out; omega) (hi := v2.heap.size + 1) (by simp) (HZA.out _)
   (TrO.mk (t := (Fm.imp f g).plain) (c := 2) (jb.nil _) (by simp [Fm.plain, Tr.ks]) (by simp)
     (.inr (kag v2 W.heap.size v1.heap.size _ f.plain g.plain _ _ _ _ (m1.ext x2) m2 y1.size x2.size)))
 clear HZ HWX HWS HX0 IHF IHG HX HY m1 x1 y1 m2 x2 y2 HZA HB HB2 Y0;go_wp2_with fail;exact bodyPost_ret (v:=ndV { nd0 with kind:=13 } (.slice none 0 0) (.slice (some ⟨v2.heap.size,0,none⟩) 2 2)) (by simp [results,Tryz.results193,go_sem,r0,r1,r2,r3,r4,r5,r6,r7,r8,ndV,nd0]) rfl HF.out
theorem wcu {w0 w:World} {L:Nat} {f g:Fm} {v:Value} (h:FmV w0 L (.iff f g) v) (hx0:Ext w0 w) (ihf:∀ (v:Value) (w:World),Ext w0 w->FmV w0 L f v->Calls Tryz.prog 193 #[v] w (uh f.plain w)) (ihg:∀ (v:Value) (w:World),Ext w0 w->FmV w0 L g v->Calls Tryz.prog 193 #[v] w (uh g.plain w)) :
 Calls Tryz.prog 193 #[v] w (uh (Fm.iff f g).plain w):=by
 have IHF:=Lib.hid ihf;have IHG:=Lib.hid ihg;obtain ⟨x,y,rfl,hx,hy⟩:=h;have HX:=Lib.hid hx;obtain ⟨T,x,rfl⟩:=hx.iface;have HY:=Lib.hid hy;obtain ⟨U,y,rfl⟩:=hy.iface;clear hx hy ihf ihg;go_enter Tryz.func193,Tryz.ntmps193;go_wp2_with fail;obtain ⟨W,hW⟩:∃ W,(w.alloc (.cells #[.int .i64 0,.bool false,.slice none 0 0,.string ⟨#[]⟩,.int .i64 0,.int .i64 0,.bool false,.bool false,.slice none 0 0] 254)).alloc (.cells #[.iface T x,.iface U y] 226)=W:=⟨_,rfl⟩;have hWx:Ext w W:=by rw [<- hW]; exact ((Ext.refl w).alloc _).alloc _
 have hWs:W.heap.size=w.heap.size+1+1:=by rw [<- hW]; simp
 have hZ:qj W w.heap.size:=by rw [<- hW]; exact (qy w _).ext ((Ext.refl _).alloc _) (by simp)
 have HB:Hid (∀ W',Ext W W'->(Ext w W'/\W'.cell? ⟨w.heap.size+1,0,none⟩=some (.iface T x)/\W'.cell? ⟨w.heap.size+1,1,none⟩=some (.iface U y))):=by
  intro W' hx;obtain ⟨hc,hf⟩:=hx.cells;refine ⟨hWx.trans hx,?_,?_⟩ <;> (rw [hc _ _ (by omega),<- hW]; simp [go_sem])
 have HB2:Hid (∀ W',Ext W W'->∀ o u0 u1 u2 u3 u4 u5 u6 u7 u8 W2,W2=set9 (W'.alloc o) w.heap.size u0 u1 u2 u3 u4 u5 u6 u7 u8->(Ext w W2/\W2.cell? ⟨w.heap.size+1,0,none⟩=some (.iface T x)/\W2.cell? ⟨w.heap.size+1,1,none⟩=some (.iface U y))):=by
  intro W' hx o u0 u1 u2 u3 u4 u5 u6 u7 u8 W2 e;obtain ⟨k0,k1,k2⟩:=HB.out _ (hx.alloc o);rw [e];exact ⟨wac k0 (Nat.le_refl _) _ _ _ _ _ _ _ _ _,(zn _ _ _ _ _ _ _ _ _ _ _ _ (by simp)).trans k1,(zn _ _ _ _ _ _ _ _ _ _ _ _ (by simp)).trans k2⟩
 have HZ:=Lib.hid hZ;have HWX:=Lib.hid hWx;have HWS:=Lib.hid hWs;have HX0:=Lib.hid hx0;rw [hW];clear hW hZ hWx hWs hx0;have y0:Ext W W.drew:=(Ext.refl W).drew;have Y0:=Lib.hid y0;clear y0
 go_region_held3 (fun W' => Ext w W' /\ W'.cell? ⟨w.heap.size + 1, 0, none⟩ = some (.iface T x) /\ W'.cell? ⟨w.heap.size + 1, 1, none⟩ = some (.iface U y))
  (first | with_reducible exact HB.out _ Y0.out | with_reducible exact HB.out _ y1 | with_reducible exact HB.out _ y2 | with_reducible exact HB.out _ (y2.alloc _) | exact HB2.out _ y2 _ _ _ _ _ _ _ _ _ _ _ rfl)
  (first
    | (go_at_call_of 193 (Value.iface T x)
       refine (IHF.out _ _ (HX0.out.trans (HWX.out.trans Y0.out)) HX.out).mono ?_;rintro e v1 ⟨z1,rfl,m1,x1⟩;obtain ⟨A0,n0,c0,A1,c1,rfl,-⟩:=m1.open_;unfold ndV
       have y1:Ext W v1:=Ext.trans Y0.out x1)
    | (go_at_call_of 193 (Value.iface U y)
       refine (IHG.out _ _ (HX0.out.trans (HWX.out.trans y1)) HY.out).mono ?_;rintro e v2 ⟨z2,rfl,m2,x2⟩;obtain ⟨B0,k0,d0,B1,d1,rfl,-⟩:=m2.open_;unfold ndV;have y2:Ext W v2:=Ext.trans (y1) x2;have hz2:qj v2 w.heap.size:=HZ.out.ext y2 (by have:=HWS.out; omega);have hza:∀ o,qj (v2.alloc o) w.heap.size:=fun o=>hz2.ext ((Ext.refl v2).alloc o) (by have:=y2.size; have:=HWS.out; omega)
       have r0:=fun o=>(hza o).1.1
       have r1:=fun o=>(hza o).1.2.1
       have r2:=fun o=>(hza o).1.2.2.1
       have r3:=fun o=>(hza o).1.2.2.2.1
       have r4:=fun o=>(hza o).1.2.2.2.2.1
       have r5:=fun o=>(hza o).1.2.2.2.2.2.1
       have r6:=fun o=>(hza o).1.2.2.2.2.2.2.1
       have r7:=fun o=>(hza o).1.2.2.2.2.2.2.2.1
       have r8:=fun o=>(hza o).1.2.2.2.2.2.2.2.2
       have rf:=fun o i=>(hza o).2 i
       have HZA:=Lib.hid hza;clear hz2 hza
       have hv2:w.heap.size+1 < v2.heap.size:=by have:=y2.size; have:=HWS.out; omega))
 have HF:Hid (uh (Fm.iff f g).plain w (.returned (ndV { nd0 with kind:=14 } (.slice none 0 0) (.slice (some ⟨v2.heap.size,0,none⟩) 2 2))) (set9 (v2.alloc (.cells #[.int .i64 f.plain.d.kind,.bool f.plain.d.neg,.slice A0 n0 c0,.string f.plain.d.name,.int .i64 f.plain.d.exp,.int .i64 f.plain.d.rel,.bool f.plain.d.truth,.bool f.plain.d.all,.slice A1 f.plain.ks.length c1,.int .i64 g.plain.d.kind,.bool g.plain.d.neg,.slice B0 k0 d0,.string g.plain.d.name,.int .i64 g.plain.d.exp,.int .i64 g.plain.d.rel,.bool g.plain.d.truth,.bool g.plain.d.all,.slice B1 g.plain.ks.length d1] 254)) w.heap.size (.int .i64 (14)) (.bool false) (.slice none 0 0) (.string ⟨#[]⟩) (.int .i64 (0)) (.int .i64 (0)) (.bool false) (.bool false) (.slice (some ⟨v2.heap.size,0,none⟩) 2 2))):=
  kaa (B := W.heap.size) ((HWX.out.trans y2).alloc _) (Nat.le_refl _) (by have := HWS.out; omega) (hi := v2.heap.size + 1) (by simp) (HZA.out _)
   (TrO.mk (t := (Fm.iff f g).plain) (c := 2) (jb.nil _) (by simp [Fm.plain, Tr.ks]) (by simp)
     (.inr (kag v2 W.heap.size v1.heap.size _ f.plain g.plain _ _ _ _ (m1.ext x2) m2 y1.size x2.size)))
 clear HZ HWX HWS HX0 IHF IHG HX HY m1 x1 y1 m2 x2 y2 HZA HB HB2 Y0;go_wp2_with fail;exact bodyPost_ret (v:=ndV { nd0 with kind:=14 } (.slice none 0 0) (.slice (some ⟨v2.heap.size,0,none⟩) 2 2)) (by simp [results,Tryz.results193,go_sem,r0,r1,r2,r3,r4,r5,r6,r7,r8,ndV,nd0]) rfl HF.out
theorem kcu {w0 w:World} {L:Nat} {f:Fm} {v:Value} (h:FmV w0 L (.not f) v) (hx0:Ext w0 w) (ihf:∀ (v:Value) (w:World),Ext w0 w->FmV w0 L f v->Calls Tryz.prog 193 #[v] w (uh f.plain w)) :
 Calls Tryz.prog 193 #[v] w (uh (Fm.not f).plain w):=by
 have IHF:=Lib.hid ihf;obtain ⟨x,rfl,hx⟩:=h;have HX:=Lib.hid hx;obtain ⟨T,x,rfl⟩:=hx.iface;clear hx ihf;go_enter Tryz.func193,Tryz.ntmps193;go_wp2_with fail;obtain ⟨W,hW⟩:∃ W,(w.alloc (.cells #[.int .i64 0,.bool false,.slice none 0 0,.string ⟨#[]⟩,.int .i64 0,.int .i64 0,.bool false,.bool false,.slice none 0 0] 254)).alloc (.cells #[.iface T x] 221)=W:=⟨_,rfl⟩;have hWx:Ext w W:=by rw [<- hW]; exact ((Ext.refl w).alloc _).alloc _
 have hWs:W.heap.size=w.heap.size+1+1:=by rw [<- hW]; simp
 have hZ:qj W w.heap.size:=by rw [<- hW]; exact (qy w _).ext ((Ext.refl _).alloc _) (by simp)
 have HZ:=Lib.hid hZ;have HWX:=Lib.hid hWx;have HWS:=Lib.hid hWs;have HX0:=Lib.hid hx0;rw [hW];have b0:W.cell? ⟨w.heap.size+1,0,none⟩=some (.iface T x):=by rw [<- hW]; simp [go_sem]
 clear hW hZ hWx hWs hx0;go_wp2_with fail;refine (IHF.out _ _ (HX0.out.trans HWX.out) HX.out).mono ?_;rintro e v1 ⟨z1,rfl,m1,x1⟩;obtain ⟨A0,n0,c0,A1,c1,rfl,-⟩:=m1.open_;unfold ndV;have y1:Ext W v1:=Ext.trans (Ext.refl W) x1;have hz2:qj v1 w.heap.size:=HZ.out.ext y1 (by have:=HWS.out; omega);have hza:∀ o,qj (v1.alloc o) w.heap.size:=fun o=>hz2.ext ((Ext.refl v1).alloc o) (by have:=y1.size; have:=HWS.out; omega)
 have r0:=fun o=>(hza o).1.1
 have r1:=fun o=>(hza o).1.2.1
 have r2:=fun o=>(hza o).1.2.2.1
 have r3:=fun o=>(hza o).1.2.2.2.1
 have r4:=fun o=>(hza o).1.2.2.2.2.1
 have r5:=fun o=>(hza o).1.2.2.2.2.2.1
 have r6:=fun o=>(hza o).1.2.2.2.2.2.2.1
 have r7:=fun o=>(hza o).1.2.2.2.2.2.2.2.1
 have r8:=fun o=>(hza o).1.2.2.2.2.2.2.2.2
 have rf:=fun o i=>(hza o).2 i
 have HZA:=Lib.hid hza;clear hz2 hza;have hv2:w.heap.size+1 < v1.heap.size:=by have:=y1.size; have:=HWS.out; omega
 clear b0
 have HF:Hid (uh (Fm.not f).plain w (.returned (ndV { nd0 with kind:=10 } (.slice none 0 0) (.slice (some ⟨v1.heap.size,0,none⟩) 1 1))) (set9 (v1.alloc (.cells #[.int .i64 f.plain.d.kind,.bool f.plain.d.neg,.slice A0 n0 c0,.string f.plain.d.name,.int .i64 f.plain.d.exp,.int .i64 f.plain.d.rel,.bool f.plain.d.truth,.bool f.plain.d.all,.slice A1 f.plain.ks.length c1] 254)) w.heap.size (.int .i64 (10)) (.bool false) (.slice none 0 0) (.string ⟨#[]⟩) (.int .i64 (0)) (.int .i64 (0)) (.bool false) (.bool false) (.slice (some ⟨v1.heap.size,0,none⟩) 1 1))):=
  kaa (B := W.heap.size) ((HWX.out.trans y1).alloc _) (Nat.le_refl _) (by have := HWS.out; omega) (hi := v1.heap.size + 1) (by simp) (HZA.out _)
   (TrO.mk (t := (Fm.not f).plain) (c := 1) (jb.nil _) (by simp [Fm.plain, Tr.ks]) (by simp)
     (.inr (qaq v1 W.heap.size _ f.plain _ _ m1 y1.size)))
 clear HZ HWX HWS HX0 IHF HX m1 x1 y1 HZA;go_wp2_with fail;exact bodyPost_ret (v:=ndV { nd0 with kind:=10 } (.slice none 0 0) (.slice (some ⟨v1.heap.size,0,none⟩) 1 1)) (by simp [results,Tryz.results193,go_sem,r0,r1,r2,r3,r4,r5,r6,r7,r8,ndV,nd0]) rfl HF.out
theorem qce {w0 w:World} {L:Nat} {al:Bool} {q:ByteArray} {f:Fm} {v:Value} (h:FmV w0 L (.quant al q f) v) (hx0:Ext w0 w) (ihf:∀ (v:Value) (w:World),Ext w0 w->FmV w0 L f v->Calls Tryz.prog 193 #[v] w (uh f.plain w)) :
 Calls Tryz.prog 193 #[v] w (uh (Fm.quant al q f).plain w):=by
 have IHF:=Lib.hid ihf;obtain ⟨x,rfl,hx⟩:=h;have HX:=Lib.hid hx;obtain ⟨T,x,rfl⟩:=hx.iface;clear hx ihf;go_enter Tryz.func193,Tryz.ntmps193;go_wp2_with fail;obtain ⟨W,hW⟩:∃ W,(w.alloc (.cells #[.int .i64 0,.bool false,.slice none 0 0,.string ⟨#[]⟩,.int .i64 0,.int .i64 0,.bool false,.bool false,.slice none 0 0] 254)).alloc (.cells #[.bool al,.string q,.iface T x] 245)=W:=⟨_,rfl⟩;have hWx:Ext w W:=by rw [<- hW]; exact ((Ext.refl w).alloc _).alloc _
 have hWs:W.heap.size=w.heap.size+1+1:=by rw [<- hW]; simp
 have hZ:qj W w.heap.size:=by rw [<- hW]; exact (qy w _).ext ((Ext.refl _).alloc _) (by simp)
 have HB:Hid (∀ W',Ext W W'->(Ext w W'/\W'.cell? ⟨w.heap.size+1,0,none⟩=some (.bool al)/\W'.cell? ⟨w.heap.size+1,1,none⟩=some (.string q)/\W'.cell? ⟨w.heap.size+1,2,none⟩=some (.iface T x))):=by
  intro W' hx;obtain ⟨hc,hf⟩:=hx.cells;refine ⟨hWx.trans hx,?_,?_,?_⟩ <;> (rw [hc _ _ (by omega),<- hW]; simp [go_sem])
 have HB2:Hid (∀ W',Ext W W'->∀ o u0 u1 u2 u3 u4 u5 u6 u7 u8 W2,W2=set9 (W'.alloc o) w.heap.size u0 u1 u2 u3 u4 u5 u6 u7 u8->(Ext w W2/\W2.cell? ⟨w.heap.size+1,0,none⟩=some (.bool al)/\W2.cell? ⟨w.heap.size+1,1,none⟩=some (.string q)/\W2.cell? ⟨w.heap.size+1,2,none⟩=some (.iface T x))):=by
  intro W' hx o u0 u1 u2 u3 u4 u5 u6 u7 u8 W2 e;obtain ⟨k0,k1,k2,k3⟩:=HB.out _ (hx.alloc o);rw [e];exact ⟨wac k0 (Nat.le_refl _) _ _ _ _ _ _ _ _ _,(zn _ _ _ _ _ _ _ _ _ _ _ _ (by simp)).trans k1,(zn _ _ _ _ _ _ _ _ _ _ _ _ (by simp)).trans k2,(zn _ _ _ _ _ _ _ _ _ _ _ _ (by simp)).trans k3⟩
 have HZ:=Lib.hid hZ;have HWX:=Lib.hid hWx;have HWS:=Lib.hid hWs;have HX0:=Lib.hid hx0;rw [hW];clear hW hZ hWx hWs hx0;have y0:Ext W W.drew:=(Ext.refl W).drew;have Y0:=Lib.hid y0;clear y0
 go_region_held3 (fun W' => Ext w W' /\ W'.cell? ⟨w.heap.size + 1, 0, none⟩ = some (.bool al) /\ W'.cell? ⟨w.heap.size + 1, 1, none⟩ = some (.string q) /\ W'.cell? ⟨w.heap.size + 1, 2, none⟩ = some (.iface T x))
  (first | with_reducible exact HB.out _ Y0.out | with_reducible exact HB.out _ y1 | with_reducible exact HB.out _ (y1.alloc _) | exact HB2.out _ y1 _ _ _ _ _ _ _ _ _ _ _ rfl)
  (first
    | (go_at_call_of 193 (Value.iface T x)
       refine (IHF.out _ _ (HX0.out.trans (HWX.out.trans Y0.out)) HX.out).mono ?_;rintro e v1 ⟨z1,rfl,m1,x1⟩;obtain ⟨A0,n0,c0,A1,c1,rfl,-⟩:=m1.open_;unfold ndV;have y1:Ext W v1:=Ext.trans Y0.out x1;have hz2:qj v1 w.heap.size:=HZ.out.ext y1 (by have:=HWS.out; omega);have hza:∀ o,qj (v1.alloc o) w.heap.size:=fun o=>hz2.ext ((Ext.refl v1).alloc o) (by have:=y1.size; have:=HWS.out; omega)
       have r0:=fun o=>(hza o).1.1
       have r1:=fun o=>(hza o).1.2.1
       have r2:=fun o=>(hza o).1.2.2.1
       have r3:=fun o=>(hza o).1.2.2.2.1
       have r4:=fun o=>(hza o).1.2.2.2.2.1
       have r5:=fun o=>(hza o).1.2.2.2.2.2.1
       have r6:=fun o=>(hza o).1.2.2.2.2.2.2.1
       have r7:=fun o=>(hza o).1.2.2.2.2.2.2.2.1
       have r8:=fun o=>(hza o).1.2.2.2.2.2.2.2.2
       have rf:=fun o i=>(hza o).2 i
       have HZA:=Lib.hid hza;clear hz2 hza
       have hv2:w.heap.size+1 < v1.heap.size:=by have:=y1.size; have:=HWS.out; omega))
 have HF:Hid (uh (Fm.quant al q f).plain w (.returned (ndV { nd0 with kind:=15,all:=al,name:=q } (.slice none 0 0) (.slice (some ⟨v1.heap.size,0,none⟩) 1 1))) (set9 (v1.alloc (.cells #[.int .i64 f.plain.d.kind,.bool f.plain.d.neg,.slice A0 n0 c0,.string f.plain.d.name,.int .i64 f.plain.d.exp,.int .i64 f.plain.d.rel,.bool f.plain.d.truth,.bool f.plain.d.all,.slice A1 f.plain.ks.length c1] 254)) w.heap.size (.int .i64 (15)) (.bool false) (.slice none 0 0) (.string q) (.int .i64 (0)) (.int .i64 (0)) (.bool false) (.bool al) (.slice (some ⟨v1.heap.size,0,none⟩) 1 1))):=
  kaa (B := W.heap.size) ((HWX.out.trans y1).alloc _) (Nat.le_refl _) (by have := HWS.out; omega) (hi := v1.heap.size + 1) (by simp) (HZA.out _)
   (TrO.mk (t := (Fm.quant al q f).plain) (c := 1) (jb.nil _) (by simp [Fm.plain, Tr.ks]) (by simp)
     (.inr (qaq v1 W.heap.size _ f.plain _ _ m1 y1.size)))
 clear HZ HWX HWS HX0 IHF HX m1 x1 y1 HZA HB HB2 Y0;go_wp2_with fail;exact bodyPost_ret (v:=ndV { nd0 with kind:=15,all:=al,name:=q } (.slice none 0 0) (.slice (some ⟨v1.heap.size,0,none⟩) 1 1)) (by simp [results,Tryz.results193,go_sem,r0,r1,r2,r3,r4,r5,r6,r7,r8,ndV,nd0]) rfl HF.out
theorem ybj (r:Int) (w:World):Calls Tryz.prog 228 #[.int .i64 r] w fun e w'=>e=.returned (.int .i64 (yat r))/\w'=w:=by
 by_cases h1:r < 1
 · have hr:yat r=3:=if_pos (.inl h1);rw [hr];have hd:decide (r < 1)=true:=by simpa using h1
   clear hr;go_enter Tryz.func228,Tryz.ntmps228;go_wp2_with fail;go_ret;exact ⟨rfl,rfl⟩
 · have hd:decide (r < 1)=false:=by simpa using h1
   by_cases h2:6 < r
   · have hr:yat r=3:=if_pos (.inr h2);rw [hr];have hd2:decide (6 < r)=true:=by simpa using h2
     clear hr;go_enter Tryz.func228,Tryz.ntmps228;go_wp2_with fail;go_ret;exact ⟨rfl,rfl⟩
   · have hr:yat r=r:=if_neg (by omega);rw [hr];have hd2:decide (6 < r)=false:=by simpa using h2
     clear hr;go_enter Tryz.func228,Tryz.ntmps228;go_wp2_with fail;go_ret;exact ⟨rfl,rfl⟩
theorem gcm {w0 w:World} {L:Nat} {l k:Tm} {rr:Int} {v:Value} (h:FmV w0 L (.atom l rr k) v) (hx0:Ext w0 w) (ihl:∀ (v:Value) (w:World),Ext w0 w->TmV w0 L l v->Calls Tryz.prog 229 #[v] w (uh l.plain w)) (ihk:∀ (v:Value) (w:World),Ext w0 w->TmV w0 L k v->Calls Tryz.prog 229 #[v] w (uh k.plain w)) :
 Calls Tryz.prog 193 #[v] w (uh (Fm.atom l rr k).plain w):=by
 have IHL:=Lib.hid ihl;have IHK:=Lib.hid ihk;obtain ⟨x,y,rfl,hx,hy⟩:=h;have HX:=Lib.hid hx;obtain ⟨T,x,rfl⟩:=hx.iface;have HY:=Lib.hid hy;obtain ⟨U,y,rfl⟩:=hy.iface;clear hx hy ihl ihk;go_enter Tryz.func193,Tryz.ntmps193;go_wp2_with fail;obtain ⟨W,hW⟩:∃ W,(w.alloc (.cells #[.int .i64 0,.bool false,.slice none 0 0,.string ⟨#[]⟩,.int .i64 0,.int .i64 0,.bool false,.bool false,.slice none 0 0] 254)).alloc (.cells #[.iface T x,.int .i64 rr,.iface U y] 109)=W:=⟨_,rfl⟩;have hWx:Ext w W:=by rw [<- hW]; exact ((Ext.refl w).alloc _).alloc _
 have hWs:W.heap.size=w.heap.size+1+1:=by rw [<- hW]; simp
 have hZ:qj W w.heap.size:=by rw [<- hW]; exact (qy w _).ext ((Ext.refl _).alloc _) (by simp)
 have HB:Hid (∀ W',Ext W W'->(Ext w W'/\W'.cell? ⟨w.heap.size+1,0,none⟩=some (.iface T x)/\W'.cell? ⟨w.heap.size+1,1,none⟩=some (.int .i64 rr)/\W'.cell? ⟨w.heap.size+1,2,none⟩=some (.iface U y))):=by
  intro W' hx;obtain ⟨hc,hf⟩:=hx.cells;refine ⟨hWx.trans hx,?_,?_,?_⟩ <;> (rw [hc _ _ (by omega),<- hW]; simp [go_sem])
 have HB2:Hid (∀ W',Ext W W'->∀ o u0 u1 u2 u3 u4 u5 u6 u7 u8 W2,W2=set9 (W'.alloc o) w.heap.size u0 u1 u2 u3 u4 u5 u6 u7 u8->(Ext w W2/\W2.cell? ⟨w.heap.size+1,0,none⟩=some (.iface T x)/\W2.cell? ⟨w.heap.size+1,1,none⟩=some (.int .i64 rr)/\W2.cell? ⟨w.heap.size+1,2,none⟩=some (.iface U y))):=by
  intro W' hx o u0 u1 u2 u3 u4 u5 u6 u7 u8 W2 e;obtain ⟨k0,k1,k2,k3⟩:=HB.out _ (hx.alloc o);rw [e];exact ⟨wac k0 (Nat.le_refl _) _ _ _ _ _ _ _ _ _,(zn _ _ _ _ _ _ _ _ _ _ _ _ (by simp)).trans k1,(zn _ _ _ _ _ _ _ _ _ _ _ _ (by simp)).trans k2,(zn _ _ _ _ _ _ _ _ _ _ _ _ (by simp)).trans k3⟩
 have HZ:=Lib.hid hZ;have HWX:=Lib.hid hWx;have HWS:=Lib.hid hWs;have HX0:=Lib.hid hx0;rw [hW];clear hW hZ hWx hWs hx0;have y0:Ext W W.drew:=(Ext.refl W).drew;have Y0:=Lib.hid y0;clear y0
 go_region_held3 (fun W' => Ext w W' /\ W'.cell? ⟨w.heap.size + 1, 0, none⟩ = some (.iface T x) /\ W'.cell? ⟨w.heap.size + 1, 1, none⟩ = some (.int .i64 rr) /\ W'.cell? ⟨w.heap.size + 1, 2, none⟩ = some (.iface U y))
  (first | with_reducible exact HB.out _ Y0.out | with_reducible exact HB.out _ y1 | with_reducible exact HB.out _ y2 | with_reducible exact HB.out _ (y2.alloc _) | exact HB2.out _ y2 _ _ _ _ _ _ _ _ _ _ _ rfl)
  (first
    | (go_at_call 228
       refine (ybj _ _).mono ?_
       rintro e v0 ⟨rfl,rfl⟩)
    | (go_at_call_of 229 (Value.iface T x)
       refine (IHL.out _ _ (HX0.out.trans (HWX.out.trans Y0.out)) HX.out).mono ?_;rintro e v1 ⟨z1,rfl,m1,x1⟩;obtain ⟨A0,n0,c0,A1,c1,rfl,-⟩:=m1.open_;unfold ndV
       have y1:Ext W v1:=Ext.trans Y0.out x1)
    | (go_at_call_of 229 (Value.iface U y)
       refine (IHK.out _ _ (HX0.out.trans (HWX.out.trans y1)) HY.out).mono ?_;rintro e v2 ⟨z2,rfl,m2,x2⟩;obtain ⟨B0,k0,d0,B1,d1,rfl,-⟩:=m2.open_;unfold ndV;have y2:Ext W v2:=Ext.trans (y1) x2;have hz2:qj v2 w.heap.size:=HZ.out.ext y2 (by have:=HWS.out; omega);have hza:∀ o,qj (v2.alloc o) w.heap.size:=fun o=>hz2.ext ((Ext.refl v2).alloc o) (by have:=y2.size; have:=HWS.out; omega)
       have r0:=fun o=>(hza o).1.1
       have r1:=fun o=>(hza o).1.2.1
       have r2:=fun o=>(hza o).1.2.2.1
       have r3:=fun o=>(hza o).1.2.2.2.1
       have r4:=fun o=>(hza o).1.2.2.2.2.1
       have r5:=fun o=>(hza o).1.2.2.2.2.2.1
       have r6:=fun o=>(hza o).1.2.2.2.2.2.2.1
       have r7:=fun o=>(hza o).1.2.2.2.2.2.2.2.1
       have r8:=fun o=>(hza o).1.2.2.2.2.2.2.2.2
       have rf:=fun o i=>(hza o).2 i
       have HZA:=Lib.hid hza;clear hz2 hza
       have hv2:w.heap.size+1 < v2.heap.size:=by have:=y2.size; have:=HWS.out; omega))
 have HF:Hid (uh (Fm.atom l rr k).plain w (.returned (ndV { nd0 with kind:=9,rel:=yat rr } (.slice none 0 0) (.slice (some ⟨v2.heap.size,0,none⟩) 2 2))) (set9 (v2.alloc (.cells #[.int .i64 l.plain.d.kind,.bool l.plain.d.neg,.slice A0 n0 c0,.string l.plain.d.name,.int .i64 l.plain.d.exp,.int .i64 l.plain.d.rel,.bool l.plain.d.truth,.bool l.plain.d.all,.slice A1 l.plain.ks.length c1,.int .i64 k.plain.d.kind,.bool k.plain.d.neg,.slice B0 k0 d0,.string k.plain.d.name,.int .i64 k.plain.d.exp,.int .i64 k.plain.d.rel,.bool k.plain.d.truth,.bool k.plain.d.all,.slice B1 k.plain.ks.length d1] 254)) w.heap.size (.int .i64 (9)) (.bool false) (.slice none 0 0) (.string ⟨#[]⟩) (.int .i64 (0)) (.int .i64 (yat rr)) (.bool false) (.bool false) (.slice (some ⟨v2.heap.size,0,none⟩) 2 2))):=
  kaa (B := W.heap.size) ((HWX.out.trans y2).alloc _) (Nat.le_refl _) (by have := HWS.out; omega) (hi := v2.heap.size + 1) (by simp) (HZA.out _)
   (TrO.mk (t := (Fm.atom l rr k).plain) (c := 2) (jb.nil _) (by simp [Fm.plain, Tr.ks]) (by simp)
     (.inr (kag v2 W.heap.size v1.heap.size _ l.plain k.plain _ _ _ _ (m1.ext x2) m2 y1.size x2.size)))
 clear HZ HWX HWS HX0 IHL IHK HX HY m1 x1 y1 m2 x2 y2 HZA HB HB2 Y0;go_wp2_with fail;exact bodyPost_ret (v:=ndV { nd0 with kind:=9,rel:=yat rr } (.slice none 0 0) (.slice (some ⟨v2.heap.size,0,none⟩) 2 2)) (by simp [results,Tryz.results193,go_sem,r0,r1,r2,r3,r4,r5,r6,r7,r8,ndV,nd0]) rfl HF.out
theorem ucm {w0 w:World} {L:Nat} {s:ByteArray} {v:Value} (h:TmV w0 L (.name s) v) :
 Calls Tryz.prog 229 #[v] w (uh (Tm.name s).plain w):=by
 obtain rfl:=h
 have HF:Hid (uh (Tm.name s).plain w (.returned (ndV { nd0 with kind:=2,name:=s } (.slice none 0 0) (.slice none 0 0))) ((w.alloc (.cells #[.int .i64 (2),.bool false,.slice none 0 0,.string s,.int .i64 (0),.int .i64 (0),.bool false,.bool false,.slice none 0 0] 254)).alloc (.cells #[.string s] 102))):=
  ⟨_,rfl,TrO.mk (t:=(Tm.name s).plain) (c:=0) (A:=none) (jb.nil _) (by simp [Tm.plain,Tr.ks]) (by simp) (.inl rfl),((Ext.refl w).alloc _).alloc _⟩
 go_enter Tryz.func229,Tryz.ntmps229;go_wp2_with fail;exact bodyPost_ret (v:=ndV { nd0 with kind:=2,name:=s } (.slice none 0 0) (.slice none 0 0)) (by simp [results,Tryz.results229,go_sem,ndV,nd0]) rfl (HF.out)
theorem jcu {w0 w:World} {L:Nat} {z:Int} {v:Value} (h:TmV w0 L (.num z) v) (hx0:Ext w0 w) (hL:L<=35184372088000) :
 Calls Tryz.prog 229 #[v] w (uh (Tm.num z).plain w):=by
 obtain ⟨x,rfl,hx⟩:=h;have HX:=Lib.hid (hx.ext hx0);obtain ⟨b,A,n,c,rfl⟩:=hx.unpack;clear hx;go_enter Tryz.func229,Tryz.ntmps229;go_wp2_with fail;obtain ⟨W,hW⟩:∃ W,(w.alloc (.cells #[.int .i64 0,.bool false,.slice none 0 0,.string ⟨#[]⟩,.int .i64 0,.int .i64 0,.bool false,.bool false,.slice none 0 0] 254)).alloc (.cells #[.bool b,.slice A n c] 105)=W:=⟨_,rfl⟩;have hWx:Ext w W:=by rw [<- hW]; exact ((Ext.refl w).alloc _).alloc _
 have hWs:W.heap.size=w.heap.size+1+1:=by rw [<- hW]; simp
 have hZ:qj W w.heap.size:=by rw [<- hW]; exact (qy w _).ext ((Ext.refl _).alloc _) (by simp)
 rw [hW];clear hW;refine (gak _ z L _ (HX.out.ext hWx) (by omega)).mono ?_;rintro e v1 ⟨x1,rfl,m1,y1⟩;have hz1:=hZ.ext y1 (by omega);obtain ⟨s1,rfl,ms⟩:=m1;have HF:=Lib.hid (kaa (B:=w.heap.size+1) (hWx.trans y1) (Nat.le_refl _) (by omega) (hi:=v1.heap.size) (Nat.le_refl _) hz1 (TrO.mk (t:=(Tm.num z).plain) (c:=0) (A:=none) ms (by simp [Tm.plain,Tr.ks]) (by simp) (.inl rfl)));obtain ⟨A1,c1,rfl,-⟩:=ms;obtain ⟨⟨r0,r1,r2,r3,r4,r5,r6,r7,r8⟩,rf⟩:=hz1;clear hWx hWs hZ y1;go_wp2_with fail;exact bodyPost_ret (v:=ndV { nd0 with kind:=1,neg:=decide (z < 0),ds:=dg z.natAbs } (.slice A1 (dg z.natAbs).length c1) (.slice none 0 0)) (by simp [results,Tryz.results229,go_sem,r0,r1,r2,r3,r4,r5,r6,r7,r8,ndV,nd0]) rfl HF.out
theorem xce {w0 w:World} {L:Nat} {b:Bool} {v:Value} (h:FmV w0 L (.truth b) v) :
 Calls Tryz.prog 193 #[v] w (uh (Fm.truth b).plain w):=by
 obtain rfl:=h
 have HF:Hid (uh (Fm.truth b).plain w (.returned (ndV { nd0 with kind:=8,truth:=b } (.slice none 0 0) (.slice none 0 0))) ((w.alloc (.cells #[.int .i64 (8),.bool false,.slice none 0 0,.string ⟨#[]⟩,.int .i64 (0),.int .i64 (0),.bool b,.bool false,.slice none 0 0] 254)).alloc (.cells #[.bool b] 217))):=
  ⟨_,rfl,TrO.mk (t:=(Fm.truth b).plain) (c:=0) (A:=none) (jb.nil _) (by simp [Fm.plain,Tr.ks]) (by simp) (.inl rfl),((Ext.refl w).alloc _).alloc _⟩
 go_enter Tryz.func193,Tryz.ntmps193;go_wp2_with fail;exact bodyPost_ret (v:=ndV { nd0 with kind:=8,truth:=b } (.slice none 0 0) (.slice none 0 0)) (by simp [results,Tryz.results193,go_sem,ndV,nd0]) rfl (HF.out)
theorem yay {w0:World} {L:Nat} (hL:L<=35184372088000) (t:Tm):∀ (v:Value) (w:World),Ext w0 w->TmV w0 L t v->Calls Tryz.prog 229 #[v] w (uh t.plain w):=by
 induction t with
 | num z=>exact fun v w hx h=>jcu h hx hL
 | name s=>exact fun v w hx h=>ucm h
 | add a b iha ihb=>exact fun v w hx h=>xcv h hx iha ihb
 | sub a b iha ihb=>exact fun v w hx h=>xcu h hx iha ihb
 | mul a b iha ihb=>exact fun v w hx h=>ucu h hx iha ihb
 | neg a iha=>exact fun v w hx h=>vcu h hx iha
 | pow a n iha=>exact fun v w hx h=>qcu h hx iha
theorem gb4 {w0:World} {L:Nat} (hL:L<=35184372088000) (t:Fm):∀ (v:Value) (w:World),Ext w0 w->FmV w0 L t v->Calls Tryz.prog 193 #[v] w (uh t.plain w):=by
 induction t with
 | truth b=>exact fun v w hx h=>xce h
 | atom l r k=>exact fun v w hx h=>gcm h hx (yay hL l) (yay hL k)
 | not f ihf=>exact fun v w hx h=>kcu h hx ihf
 | and f g ihf ihg=>exact fun v w hx h=>zcv h hx ihf ihg
 | or f g ihf ihg=>exact fun v w hx h=>zcy h hx ihf ihg
 | imp f g ihf ihg=>exact fun v w hx h=>gcu h hx ihf ihg
 | iff f g ihf ihg=>exact fun v w hx h=>wcu h hx ihf ihg
 | quant a s f ihf=>exact fun v w hx h=>qce h hx ihf
end Go.Proofs.YtcfcjabgkfehlaaGreat
