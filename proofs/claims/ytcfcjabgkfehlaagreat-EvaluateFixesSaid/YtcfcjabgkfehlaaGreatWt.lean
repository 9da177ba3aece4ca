/- Layer 34: formula.Weight; evaluate.large. -/
import Derived.Test.YtcfcjabgkfehlaaGreatDeg
import Derived.Test.YtcfcjabgkfehlaaGreatMf24
import Derived.Lib.MinMax
set_option linter.unusedSimpArgs false
set_option linter.unusedVariables false

set_option maxRecDepth 100000
set_option maxHeartbeats 8000000
namespace Go.Proofs.YtcfcjabgkfehlaaGreat
open Go.RowKit
attribute [local go_sem] xaj gaf gaj zaj kaj jaj yaj wad waf qaj uaj jao vaa vaj zae
def Tm.wt : Tm -> Int
 | .num z=>zab (yal z.natAbs:Nat)
 | .name _=>1
 | .add a b=>zab (xw a.wt b.wt+1)
 | .sub a b=>zab (xw a.wt b.wt+1)
 | .mul a b=>zab (a.wt+b.wt)
 | .neg a=>a.wt
 | .pow a e=>uar (xw e 1) a.wt
theorem jam {n:Int} (h:1<=n):1<=zab n/\zab n<=2147483647:=by unfold zab; split <;> omega
theorem kb4 {a b:Int} (h:1<=a) (k:1<=b):1<=uar a b/\uar a b<=2147483647:=by
 have h1:=jam h;have h2:=jam k;have:=Int.mul_le_mul h1.1 h2.1 (by omega) (by omega);exact jam (by simpa using this)
theorem Tm.wt_bd (t:Tm):1<=t.wt/\t.wt<=2147483647:=by
 induction t with
 | num z=>exact jam (by have:=jbk z.natAbs; omega)
 | name s=>simp [Tm.wt]
 | add a b iha ihb=>have:=kas iha.1 iha.2 ihb.1 ihb.2; exact jam (by omega)
 | sub a b iha ihb=>have:=kas iha.1 iha.2 ihb.1 ihb.2; exact jam (by omega)
 | mul a b iha ihb=>exact jam (by omega)
 | neg a iha=>exact iha
 | pow a e iha=>exact kb4 (by unfold xw; split <;> omega) iha.1
theorem jct {w0 w:World} {L:Nat} {a b:Tm} {v:Value} (h:TmV w0 L (.add a b) v) (iha:∀ (v:Value) (w:World),Ext w0 w->TmV w0 L a v->Calls Tryz.prog 170 #[v] w (jo a.wt w)) (ihb:∀ (v:Value) (w:World),Ext w0 w->TmV w0 L b v->Calls Tryz.prog 170 #[v] w (jo b.wt w)) (hx0:Ext w0 w) :
 Calls Tryz.prog 170 #[v] w (jo (zab (xw a.wt b.wt+1)) w):=by
 have ha:=a.wt_bd;have hb:=b.wt_bd;have IHA:=Lib.hid iha;have IHB:=Lib.hid ihb;obtain ⟨x,y,rfl,hx,hy⟩:=h;have HX:=Lib.hid hx;have HY:=Lib.hid hy;obtain ⟨T,x,rfl⟩:=hx.iface;obtain ⟨U,y,rfl⟩:=hy.iface;clear hx hy iha ihb;generalize a.wt=da at *;generalize b.wt=db at *;have hwm:IntKind.i64.wrap (max da db+1)=xw da db+1:=by
  have hm:max da db=xw da db:=by rw [Int.max_def]; unfold xw; split <;> split <;> omega
  have hm':=kas ha.1 ha.2 hb.1 hb.2;rw [hm]; exact IntWalk.i64_in _ (by omega)
 go_enter Tryz.func170,Tryz.ntmps170;go_wp2_with fail;obtain ⟨W,hW⟩:∃ W,w.alloc (.cells #[.iface T x,.iface U y] 259)=W:=⟨_,rfl⟩;have HB:Hid (∀ W',Ext W W'->(Ext W W'/\W'.cell? ⟨w.heap.size,0,none⟩=some (.iface T x)/\W'.cell? ⟨w.heap.size,1,none⟩=some (.iface U y))):=by
  intro W' hx;obtain ⟨hc,hf⟩:=hx.cells;refine ⟨hx,?_,?_⟩ <;> (rw [hc _ _ (by rw [<- hW]; simp),<- hW]; simp [go_sem])
 have HX0:Hid (Ext w W):=by
  have:Ext w W:=by rw [<- hW]; exact (Ext.refl w).alloc _
  exact this
 have HXW:=Lib.hid (hx0.trans HX0.out);clear hx0;rw [hW];clear hW
 go_region_held3 (fun W' => Ext W W' /\ W'.cell? ⟨w.heap.size, 0, none⟩ = some (.iface T x) /\ W'.cell? ⟨w.heap.size, 1, none⟩ = some (.iface U y))
  (first | exact HB.out _ ((Ext.refl W).drew) | exact HB.out _ (by assumption))
  (first
    | (go_at_call_of 170 (Value.iface T x)
       refine (IHA.out _ _ (HXW.out.trans ((Ext.refl W).drew)) HX.out).mono ?_;rintro e v1 ⟨rfl,x1⟩
       have y1:Ext W v1:=Ext.trans ((Ext.refl W).drew) x1)
    | (go_at_call_of 170 (Value.iface U y)
       refine (IHB.out _ _ (HXW.out.trans y1) HY.out).mono ?_;rintro e v2 ⟨rfl,x2⟩
       have y2:Ext W v2:=Ext.trans y1 x2)
    | (go_at_call 194
       refine (gae _ _).mono ?_
       rintro e v3 ⟨rfl,rfl⟩))
 have HY2:=Lib.hid (HX0.out.trans y2);clear y1 y2 x1 x2 HB HX0;go_wp2_with fail;go_ret;exact ⟨rfl,HY2.out⟩
theorem wcs {w0 w:World} {L:Nat} {a b:Tm} {v:Value} (h:TmV w0 L (.sub a b) v) (iha:∀ (v:Value) (w:World),Ext w0 w->TmV w0 L a v->Calls Tryz.prog 170 #[v] w (jo a.wt w)) (ihb:∀ (v:Value) (w:World),Ext w0 w->TmV w0 L b v->Calls Tryz.prog 170 #[v] w (jo b.wt w)) (hx0:Ext w0 w) :
 Calls Tryz.prog 170 #[v] w (jo (zab (xw a.wt b.wt+1)) w):=by
 have ha:=a.wt_bd;have hb:=b.wt_bd;have IHA:=Lib.hid iha;have IHB:=Lib.hid ihb;obtain ⟨x,y,rfl,hx,hy⟩:=h;have HX:=Lib.hid hx;have HY:=Lib.hid hy;obtain ⟨T,x,rfl⟩:=hx.iface;obtain ⟨U,y,rfl⟩:=hy.iface;clear hx hy iha ihb;generalize a.wt=da at *;generalize b.wt=db at *;have hwm:IntKind.i64.wrap (max da db+1)=xw da db+1:=by
  have hm:max da db=xw da db:=by rw [Int.max_def]; unfold xw; split <;> split <;> omega
  have hm':=kas ha.1 ha.2 hb.1 hb.2;rw [hm]; exact IntWalk.i64_in _ (by omega)
 go_enter Tryz.func170,Tryz.ntmps170;go_wp2_with fail;obtain ⟨W,hW⟩:∃ W,w.alloc (.cells #[.iface T x,.iface U y] 260)=W:=⟨_,rfl⟩;have HB:Hid (∀ W',Ext W W'->(Ext W W'/\W'.cell? ⟨w.heap.size,0,none⟩=some (.iface T x)/\W'.cell? ⟨w.heap.size,1,none⟩=some (.iface U y))):=by
  intro W' hx;obtain ⟨hc,hf⟩:=hx.cells;refine ⟨hx,?_,?_⟩ <;> (rw [hc _ _ (by rw [<- hW]; simp),<- hW]; simp [go_sem])
 have HX0:Hid (Ext w W):=by
  have:Ext w W:=by rw [<- hW]; exact (Ext.refl w).alloc _
  exact this
 have HXW:=Lib.hid (hx0.trans HX0.out);clear hx0;rw [hW];clear hW
 go_region_held3 (fun W' => Ext W W' /\ W'.cell? ⟨w.heap.size, 0, none⟩ = some (.iface T x) /\ W'.cell? ⟨w.heap.size, 1, none⟩ = some (.iface U y))
  (first | exact HB.out _ ((Ext.refl W).drew) | exact HB.out _ (by assumption))
  (first
    | (go_at_call_of 170 (Value.iface T x)
       refine (IHA.out _ _ (HXW.out.trans ((Ext.refl W).drew)) HX.out).mono ?_;rintro e v1 ⟨rfl,x1⟩
       have y1:Ext W v1:=Ext.trans ((Ext.refl W).drew) x1)
    | (go_at_call_of 170 (Value.iface U y)
       refine (IHB.out _ _ (HXW.out.trans y1) HY.out).mono ?_;rintro e v2 ⟨rfl,x2⟩
       have y2:Ext W v2:=Ext.trans y1 x2)
    | (go_at_call 194
       refine (gae _ _).mono ?_
       rintro e v3 ⟨rfl,rfl⟩))
 have HY2:=Lib.hid (HX0.out.trans y2);clear y1 y2 x1 x2 HB HX0;go_wp2_with fail;go_ret;exact ⟨rfl,HY2.out⟩
theorem qct {w0 w:World} {L:Nat} {a b:Tm} {v:Value} (h:TmV w0 L (.mul a b) v) (iha:∀ (v:Value) (w:World),Ext w0 w->TmV w0 L a v->Calls Tryz.prog 170 #[v] w (jo a.wt w)) (ihb:∀ (v:Value) (w:World),Ext w0 w->TmV w0 L b v->Calls Tryz.prog 170 #[v] w (jo b.wt w)) (hx0:Ext w0 w) :
 Calls Tryz.prog 170 #[v] w (jo (zab (a.wt+b.wt)) w):=by
 have ha:=a.wt_bd;have hb:=b.wt_bd;have IHA:=Lib.hid iha;have IHB:=Lib.hid ihb;obtain ⟨x,y,rfl,hx,hy⟩:=h;have HX:=Lib.hid hx;have HY:=Lib.hid hy;obtain ⟨T,x,rfl⟩:=hx.iface;obtain ⟨U,y,rfl⟩:=hy.iface;clear hx hy iha ihb;generalize a.wt=da at *;generalize b.wt=db at *;have hwr:IntKind.i64.wrap (da+db)=da+db:=IntWalk.i64_in _ (by omega);go_enter Tryz.func170,Tryz.ntmps170;go_wp2_with fail;obtain ⟨W,hW⟩:∃ W,w.alloc (.cells #[.iface T x,.iface U y] 261)=W:=⟨_,rfl⟩;have HB:Hid (∀ W',Ext W W'->(Ext W W'/\W'.cell? ⟨w.heap.size,0,none⟩=some (.iface T x)/\W'.cell? ⟨w.heap.size,1,none⟩=some (.iface U y))):=by
  intro W' hx;obtain ⟨hc,hf⟩:=hx.cells;refine ⟨hx,?_,?_⟩ <;> (rw [hc _ _ (by rw [<- hW]; simp),<- hW]; simp [go_sem])
 have HX0:Hid (Ext w W):=by
  have:Ext w W:=by rw [<- hW]; exact (Ext.refl w).alloc _
  exact this
 have HXW:=Lib.hid (hx0.trans HX0.out);clear hx0;rw [hW];clear hW
 go_region_held3 (fun W' => Ext W W' /\ W'.cell? ⟨w.heap.size, 0, none⟩ = some (.iface T x) /\ W'.cell? ⟨w.heap.size, 1, none⟩ = some (.iface U y))
  (first | exact HB.out _ ((Ext.refl W).drew) | exact HB.out _ (by assumption))
  (first
    | (go_at_call_of 170 (Value.iface T x)
       refine (IHA.out _ _ (HXW.out.trans ((Ext.refl W).drew)) HX.out).mono ?_;rintro e v1 ⟨rfl,x1⟩
       have y1:Ext W v1:=Ext.trans ((Ext.refl W).drew) x1)
    | (go_at_call_of 170 (Value.iface U y)
       refine (IHB.out _ _ (HXW.out.trans y1) HY.out).mono ?_;rintro e v2 ⟨rfl,x2⟩
       have y2:Ext W v2:=Ext.trans y1 x2)
    | (go_at_call 194
       refine (gae _ _).mono ?_
       rintro e v3 ⟨rfl,rfl⟩))
 have HY2:=Lib.hid (HX0.out.trans y2);clear y1 y2 x1 x2 HB HX0;go_wp2_with fail;go_ret;exact ⟨rfl,HY2.out⟩
theorem xct {w0 w:World} {L:Nat} {a:Tm} {v:Value} (h:TmV w0 L (.neg a) v) (iha:∀ (v:Value) (w:World),Ext w0 w->TmV w0 L a v->Calls Tryz.prog 170 #[v] w (jo a.wt w)) (hx0:Ext w0 w) :
 Calls Tryz.prog 170 #[v] w (jo a.wt w):=by
 have IHA:=Lib.hid iha;obtain ⟨x,rfl,hx⟩:=h;have HX:=Lib.hid hx;obtain ⟨T,x,rfl⟩:=hx.iface;clear hx iha;go_enter Tryz.func170,Tryz.ntmps170;go_wp2_with fail;refine (IHA.out _ _ (hx0.trans ((Ext.refl w).alloc _)) HX.out).mono ?_;rintro e v1 ⟨rfl,x1⟩;have X1:=Lib.hid (Ext.trans ((Ext.refl w).alloc _) x1);clear x1;go_wp2_with fail;go_ret;exact ⟨rfl,X1.out⟩
theorem zct {w0 w:World} {L:Nat} {a:Tm} {n:Int} {v:Value} (h:TmV w0 L (.pow a n) v) (iha:∀ (v:Value) (w:World),Ext w0 w->TmV w0 L a v->Calls Tryz.prog 170 #[v] w (jo a.wt w)) (hx0:Ext w0 w) :
 Calls Tryz.prog 170 #[v] w (jo (uar (xw n 1) a.wt) w):=by
 have ha:=a.wt_bd;have IHA:=Lib.hid iha;obtain ⟨x,rfl,hx⟩:=h;have HX:=Lib.hid hx;obtain ⟨T,x,rfl⟩:=hx.iface;clear hx iha;generalize a.wt=da at *
 by_cases hlt:n < 1
 · rw [show xw n 1=1 from if_pos hlt];have hif:(if n < 1 then (1:Int) else n)=1:=if_pos hlt;have hde:decide (n < 1)=true:=by simpa using hlt
   have hma:max n 1=1:=by omega
   go_enter Tryz.func170,Tryz.ntmps170;go_wp2_with fail;obtain ⟨W,hW⟩:∃ W,w.alloc (.cells #[.iface T x,.int .i64 n] 264)=W:=⟨_,rfl⟩;have HB:Hid (∀ W',Ext W W'->(Ext W W'/\W'.cell? ⟨w.heap.size,0,none⟩=some (.iface T x)/\W'.cell? ⟨w.heap.size,1,none⟩=some (.int .i64 n))):=by
    intro W' hx;obtain ⟨hc,hf⟩:=hx.cells;refine ⟨hx,?_,?_⟩ <;> (rw [hc _ _ (by rw [<- hW]; simp),<- hW]; simp [go_sem])
   have HX0:Hid (Ext w W):=by
    have:Ext w W:=by rw [<- hW]; exact (Ext.refl w).alloc _
    exact this
   have HXW:=Lib.hid (hx0.trans HX0.out);clear hx0;rw [hW];clear hW
   go_region_held3 (fun W' => Ext W W' /\ W'.cell? ⟨w.heap.size, 0, none⟩ = some (.iface T x) /\ W'.cell? ⟨w.heap.size, 1, none⟩ = some (.int .i64 n))
    (first | exact HB.out _ ((Ext.refl W).drew) | exact HB.out _ (by assumption))
    (first
      | (go_at_call 170
         refine (IHA.out _ _ (HXW.out.trans ((Ext.refl W).drew)) HX.out).mono ?_;rintro e v1 ⟨rfl,x1⟩
         have y1:Ext W v1:=Ext.trans ((Ext.refl W).drew) x1)
      | (go_at_call 195
         refine (xaq (1) da _ (by omega) (by omega)).mono ?_
         rintro e v2 ⟨rfl,rfl⟩))
   all_goals
    have HY2:=Lib.hid (HX0.out.trans y1);clear y1 x1 HB HX0;go_wp2_with fail;go_ret;exact ⟨rfl,HY2.out⟩
 · rw [show xw n 1=n from if_neg hlt];have hge:1<=n:=by omega
   have hif:(if n < 1 then (1:Int) else n)=n:=if_neg hlt;have hde:decide (n < 1)=false:=by simpa using hlt
   have hma:max n 1=n:=by omega
   go_enter Tryz.func170,Tryz.ntmps170;go_wp2_with fail;obtain ⟨W,hW⟩:∃ W,w.alloc (.cells #[.iface T x,.int .i64 n] 264)=W:=⟨_,rfl⟩;have HB:Hid (∀ W',Ext W W'->(Ext W W'/\W'.cell? ⟨w.heap.size,0,none⟩=some (.iface T x)/\W'.cell? ⟨w.heap.size,1,none⟩=some (.int .i64 n))):=by
    intro W' hx;obtain ⟨hc,hf⟩:=hx.cells;refine ⟨hx,?_,?_⟩ <;> (rw [hc _ _ (by rw [<- hW]; simp),<- hW]; simp [go_sem])
   have HX0:Hid (Ext w W):=by
    have:Ext w W:=by rw [<- hW]; exact (Ext.refl w).alloc _
    exact this
   have HXW:=Lib.hid (hx0.trans HX0.out);clear hx0;rw [hW];clear hW
   go_region_held3 (fun W' => Ext W W' /\ W'.cell? ⟨w.heap.size, 0, none⟩ = some (.iface T x) /\ W'.cell? ⟨w.heap.size, 1, none⟩ = some (.int .i64 n))
    (first | exact HB.out _ ((Ext.refl W).drew) | exact HB.out _ (by assumption))
    (first
      | (go_at_call 170
         refine (IHA.out _ _ (HXW.out.trans ((Ext.refl W).drew)) HX.out).mono ?_;rintro e v1 ⟨rfl,x1⟩
         have y1:Ext W v1:=Ext.trans ((Ext.refl W).drew) x1)
      | (go_at_call 195
         refine (xaq (n) da _ (by omega) (by omega)).mono ?_
         rintro e v2 ⟨rfl,rfl⟩))
   all_goals
    have HY2:=Lib.hid (HX0.out.trans y1);clear y1 x1 HB HX0;go_wp2_with fail;go_ret;exact ⟨rfl,HY2.out⟩
theorem yct {w0 w:World} {L:Nat} {z:Int} {v:Value} (h:TmV w0 L (.num z) v) (hx0:Ext w0 w) (hs:L<=1000000000000):Calls Tryz.prog 170 #[v] w (jo (zab (yal z.natAbs:Nat)) w):=by
 obtain ⟨x,rfl,hx⟩:=h;have HX:=Lib.hid (hx.ext hx0);obtain ⟨b,A,n,c,rfl⟩:=hx.unpack;clear hx;go_enter Tryz.func170,Tryz.ntmps170;go_wp2_with fail;refine (kb1 _ z L _ (HX.out.ext ((Ext.refl w).alloc _)) hs).mono ?_;rintro e w1 ⟨rfl,x1⟩;have X1:=Lib.hid (Ext.trans ((Ext.refl w).alloc _) x1);clear x1;go_wp2_with fail;refine (gae _ _).mono ?_;rintro e w1 ⟨rfl,rfl⟩;go_wp2_with fail;go_ret;exact ⟨rfl,X1.out⟩
theorem qck {w0 w:World} {L:Nat} {s:ByteArray} {v:Value} (h:TmV w0 L (.name s) v):Calls Tryz.prog 170 #[v] w (jo 1 w):=by
 obtain rfl:=h;go_enter Tryz.func170,Tryz.ntmps170;go_wp2_with fail;go_ret;exact ⟨rfl,Ext.refl _⟩
theorem zbv {w0:World} {L:Nat} (hs:L<=1000000000000) (t:Tm):∀ (v:Value) (w:World),Ext w0 w->TmV w0 L t v->Calls Tryz.prog 170 #[v] w (jo t.wt w):=by
 induction t with
 | num z=>exact fun v w hx h=>yct h hx hs
 | name s=>exact fun v w hx h=>qck h
 | add a b iha ihb=>exact fun v w hx h=>jct h iha ihb hx
 | sub a b iha ihb=>exact fun v w hx h=>wcs h iha ihb hx
 | mul a b iha ihb=>exact fun v w hx h=>qct h iha ihb hx
 | neg a iha=>exact fun v w hx h=>xct (a:=a) h iha hx
 | pow a n iha=>exact fun v w hx h=>zct h iha hx
end Go.Proofs.YtcfcjabgkfehlaaGreat
