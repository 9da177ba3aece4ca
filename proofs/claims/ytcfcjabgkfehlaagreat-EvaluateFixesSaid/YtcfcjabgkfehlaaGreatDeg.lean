/- Layer 34: formula.Degree. -/
import Derived.Test.YtcfcjabgkfehlaaGreatForm
set_option linter.unusedSimpArgs false
set_option linter.unusedVariables false

set_option maxRecDepth 100000
set_option maxHeartbeats 8000000
namespace Go.Proofs.YtcfcjabgkfehlaaGreat
open Go.RowKit
attribute [local go_sem] xaj gaf gaj zaj kaj jaj yaj wad waf qaj uaj jao vaa vaj zae
def zab (n:Int):Int:=if n<=2147483647 then n else 2147483647
theorem ya2 {n:Int} (h:0<=n):0<=zab n/\zab n<=2147483647/\zab n<=n:=by unfold zab; split <;> omega
def uar (a b:Int):Int:=zab (zab a * zab b)
theorem vbn {a b:Int} (h:0<=a) (k:0<=b):0<=zab a * zab b/\zab a * zab b<=4611686014132420609:=by
 obtain ⟨h1,h2,-⟩:=ya2 h;obtain ⟨k1,k2,-⟩:=ya2 k;refine ⟨Int.mul_nonneg h1 k1,?_⟩;have:=Int.mul_le_mul h2 k2 k1 (by omega);simpa using this
theorem jcd {a b:Int} (h:0<=a) (k:0<=b):0<=uar a b/\uar a b<=2147483647:=by
 have:=ya2 (vbn h k).1;exact ⟨this.1,this.2.1⟩
def xw (a b:Int):Int:=if a < b then b else a
theorem kas {a b c d:Int} (h1:c<=a) (h2:a<=d) (h3:c<=b) (h4:b<=d):c<=xw a b/\xw a b<=d:=by unfold xw; split <;> omega
theorem gae (n:Int) (w:World):Calls Tryz.prog 194 #[.int .i64 n] w fun e w'=>e=.returned (.int .i64 (zab n))/\w'=w:=by
 by_cases h:n<=2147483647
 · have hc:zab n=n:=if_pos h;rw [hc];go_enter Tryz.func194,Tryz.ntmps194;go_wp2_with fail;go_ret;exact ⟨rfl,rfl⟩
 · have hc:zab n=2147483647:=if_neg h;rw [hc];go_enter Tryz.func194,Tryz.ntmps194;go_wp2_with fail;go_ret;exact ⟨rfl,rfl⟩
theorem xaq (a b:Int) (w:World) (h:0<=a) (k:0<=b):Calls Tryz.prog 195 #[.int .i64 a,.int .i64 b] w fun e w'=>e=.returned (.int .i64 (uar a b))/\w'=w:=by
 have hm:=vbn h k;go_enter Tryz.func195,Tryz.ntmps195;go_wp2_with fail;refine (gae a _).mono ?_;rintro e w1 ⟨rfl,rfl⟩;go_wp2_with fail;refine (gae b _).mono ?_;rintro e w1 ⟨rfl,rfl⟩;go_wp2_with fail;refine (gae _ _).mono ?_;rintro e w1 ⟨rfl,rfl⟩;go_wp2_with fail;go_ret;exact ⟨rfl,rfl⟩
def Tm.deg : Tm -> Int
 | .num _=>0
 | .name _=>1
 | .add a b=>xw a.deg b.deg
 | .sub a b=>xw a.deg b.deg
 | .mul a b=>zab (a.deg+b.deg)
 | .neg a=>a.deg
 | .pow a e=>uar (xw e 0) a.deg
theorem Tm.deg_bd (t:Tm):0<=t.deg/\t.deg<=2147483647:=by
 induction t with
 | num z=>simp [Tm.deg]
 | name s=>simp [Tm.deg]
 | add a b iha ihb=>exact kas iha.1 iha.2 ihb.1 ihb.2
 | sub a b iha ihb=>exact kas iha.1 iha.2 ihb.1 ihb.2
 | mul a b iha ihb=>have:=ya2 (n:=a.deg+b.deg) (by omega); exact ⟨this.1,this.2.1⟩
 | neg a iha=>exact iha
 | pow a e iha=>exact jcd (by unfold xw; split <;> omega) iha.1
def jo (n:Int) (w:World) (e:Ending) (w':World):Prop:=e=.returned (.int .i64 n)/\Ext w w'
theorem ycr {w0 w:World} {L:Nat} {a b:Tm} {v:Value} (h:TmV w0 L (.add a b) v) (iha:∀ (v:Value) (w:World),TmV w0 L a v->Calls Tryz.prog 169 #[v] w (jo a.deg w)) (ihb:∀ (v:Value) (w:World),TmV w0 L b v->Calls Tryz.prog 169 #[v] w (jo b.deg w)) :
 Calls Tryz.prog 169 #[v] w (jo (xw a.deg b.deg) w):=by
 have ha:=a.deg_bd;have hb:=b.deg_bd;have IHA:=Lib.hid iha;have IHB:=Lib.hid ihb;obtain ⟨x,y,rfl,hx,hy⟩:=h;have HX:=Lib.hid hx;have HY:=Lib.hid hy;obtain ⟨T,x,rfl⟩:=hx.iface;obtain ⟨U,y,rfl⟩:=hy.iface;clear hx hy iha ihb;generalize a.deg=da at *;generalize b.deg=db at *
 by_cases hlt:da < db
 · rw [show xw da db=db from if_pos hlt];go_enter Tryz.func169,Tryz.ntmps169;go_wp2_with fail;obtain ⟨W,hW⟩:∃ W,w.alloc (.cells #[.iface T x,.iface U y] 259)=W:=⟨_,rfl⟩;have HB:Hid (∀ W',Ext W W'->(Ext W W'/\W'.cell? ⟨w.heap.size,0,none⟩=some (.iface T x)/\W'.cell? ⟨w.heap.size,1,none⟩=some (.iface U y))):=by
    intro W' hx;obtain ⟨hc,hf⟩:=hx.cells;refine ⟨hx,?_,?_⟩ <;> (rw [hc _ _ (by rw [<- hW]; simp),<- hW]; simp [go_sem])
   have HX0:Hid (Ext w W):=by
    have:Ext w W:=by rw [<- hW]; exact (Ext.refl w).alloc _
    exact this
   rw [hW];clear hW
   go_region_held3 (fun W' => Ext W W' /\ W'.cell? ⟨w.heap.size, 0, none⟩ = some (.iface T x) /\ W'.cell? ⟨w.heap.size, 1, none⟩ = some (.iface U y))
    (first | exact HB.out _ ((Ext.refl W).drew) | exact HB.out _ (by assumption))
    (first
      | (go_at_call_of 169 (Value.iface T x)
         refine (IHA.out _ _ HX.out).mono ?_;rintro e v1 ⟨rfl,x1⟩
         have y1:Ext W v1:=Ext.trans ((Ext.refl W).drew) x1)
      | (go_at_call_of 169 (Value.iface U y)
         refine (IHB.out _ _ HY.out).mono ?_;rintro e v2 ⟨rfl,x2⟩
         have y2:Ext W v2:=Ext.trans y1 x2))
   have HY2:=Lib.hid (HX0.out.trans y2);clear y1 y2 x1 x2 HB HX0;go_wp2_with fail;go_ret;exact ⟨rfl,HY2.out⟩
 · rw [show xw da db=da from if_neg hlt];have hge:db<=da:=by omega
   go_enter Tryz.func169,Tryz.ntmps169;go_wp2_with fail;obtain ⟨W,hW⟩:∃ W,w.alloc (.cells #[.iface T x,.iface U y] 259)=W:=⟨_,rfl⟩;have HB:Hid (∀ W',Ext W W'->(Ext W W'/\W'.cell? ⟨w.heap.size,0,none⟩=some (.iface T x)/\W'.cell? ⟨w.heap.size,1,none⟩=some (.iface U y))):=by
    intro W' hx;obtain ⟨hc,hf⟩:=hx.cells;refine ⟨hx,?_,?_⟩ <;> (rw [hc _ _ (by rw [<- hW]; simp),<- hW]; simp [go_sem])
   have HX0:Hid (Ext w W):=by
    have:Ext w W:=by rw [<- hW]; exact (Ext.refl w).alloc _
    exact this
   rw [hW];clear hW
   go_region_held3 (fun W' => Ext W W' /\ W'.cell? ⟨w.heap.size, 0, none⟩ = some (.iface T x) /\ W'.cell? ⟨w.heap.size, 1, none⟩ = some (.iface U y))
    (first | exact HB.out _ ((Ext.refl W).drew) | exact HB.out _ (by assumption))
    (first
      | (go_at_call_of 169 (Value.iface T x)
         refine (IHA.out _ _ HX.out).mono ?_;rintro e v1 ⟨rfl,x1⟩
         have y1:Ext W v1:=Ext.trans ((Ext.refl W).drew) x1)
      | (go_at_call_of 169 (Value.iface U y)
         refine (IHB.out _ _ HY.out).mono ?_;rintro e v2 ⟨rfl,x2⟩
         have y2:Ext W v2:=Ext.trans y1 x2))
   have HY2:=Lib.hid (HX0.out.trans y2);clear y1 y2 x1 x2 HB HX0;go_wp2_with fail;go_ret;exact ⟨rfl,HY2.out⟩
theorem vcq {w0 w:World} {L:Nat} {a b:Tm} {v:Value} (h:TmV w0 L (.sub a b) v) (iha:∀ (v:Value) (w:World),TmV w0 L a v->Calls Tryz.prog 169 #[v] w (jo a.deg w)) (ihb:∀ (v:Value) (w:World),TmV w0 L b v->Calls Tryz.prog 169 #[v] w (jo b.deg w)) :
 Calls Tryz.prog 169 #[v] w (jo (xw a.deg b.deg) w):=by
 have ha:=a.deg_bd;have hb:=b.deg_bd;have IHA:=Lib.hid iha;have IHB:=Lib.hid ihb;obtain ⟨x,y,rfl,hx,hy⟩:=h;have HX:=Lib.hid hx;have HY:=Lib.hid hy;obtain ⟨T,x,rfl⟩:=hx.iface;obtain ⟨U,y,rfl⟩:=hy.iface;clear hx hy iha ihb;generalize a.deg=da at *;generalize b.deg=db at *
 by_cases hlt:da < db
 · rw [show xw da db=db from if_pos hlt];go_enter Tryz.func169,Tryz.ntmps169;go_wp2_with fail;obtain ⟨W,hW⟩:∃ W,w.alloc (.cells #[.iface T x,.iface U y] 260)=W:=⟨_,rfl⟩;have HB:Hid (∀ W',Ext W W'->(Ext W W'/\W'.cell? ⟨w.heap.size,0,none⟩=some (.iface T x)/\W'.cell? ⟨w.heap.size,1,none⟩=some (.iface U y))):=by
    intro W' hx;obtain ⟨hc,hf⟩:=hx.cells;refine ⟨hx,?_,?_⟩ <;> (rw [hc _ _ (by rw [<- hW]; simp),<- hW]; simp [go_sem])
   have HX0:Hid (Ext w W):=by
    have:Ext w W:=by rw [<- hW]; exact (Ext.refl w).alloc _
    exact this
   rw [hW];clear hW
   go_region_held3 (fun W' => Ext W W' /\ W'.cell? ⟨w.heap.size, 0, none⟩ = some (.iface T x) /\ W'.cell? ⟨w.heap.size, 1, none⟩ = some (.iface U y))
    (first | exact HB.out _ ((Ext.refl W).drew) | exact HB.out _ (by assumption))
    (first
      | (go_at_call_of 169 (Value.iface T x)
         refine (IHA.out _ _ HX.out).mono ?_;rintro e v1 ⟨rfl,x1⟩
         have y1:Ext W v1:=Ext.trans ((Ext.refl W).drew) x1)
      | (go_at_call_of 169 (Value.iface U y)
         refine (IHB.out _ _ HY.out).mono ?_;rintro e v2 ⟨rfl,x2⟩
         have y2:Ext W v2:=Ext.trans y1 x2))
   have HY2:=Lib.hid (HX0.out.trans y2);clear y1 y2 x1 x2 HB HX0;go_wp2_with fail;go_ret;exact ⟨rfl,HY2.out⟩
 · rw [show xw da db=da from if_neg hlt];have hge:db<=da:=by omega
   go_enter Tryz.func169,Tryz.ntmps169;go_wp2_with fail;obtain ⟨W,hW⟩:∃ W,w.alloc (.cells #[.iface T x,.iface U y] 260)=W:=⟨_,rfl⟩;have HB:Hid (∀ W',Ext W W'->(Ext W W'/\W'.cell? ⟨w.heap.size,0,none⟩=some (.iface T x)/\W'.cell? ⟨w.heap.size,1,none⟩=some (.iface U y))):=by
    intro W' hx;obtain ⟨hc,hf⟩:=hx.cells;refine ⟨hx,?_,?_⟩ <;> (rw [hc _ _ (by rw [<- hW]; simp),<- hW]; simp [go_sem])
   have HX0:Hid (Ext w W):=by
    have:Ext w W:=by rw [<- hW]; exact (Ext.refl w).alloc _
    exact this
   rw [hW];clear hW
   go_region_held3 (fun W' => Ext W W' /\ W'.cell? ⟨w.heap.size, 0, none⟩ = some (.iface T x) /\ W'.cell? ⟨w.heap.size, 1, none⟩ = some (.iface U y))
    (first | exact HB.out _ ((Ext.refl W).drew) | exact HB.out _ (by assumption))
    (first
      | (go_at_call_of 169 (Value.iface T x)
         refine (IHA.out _ _ HX.out).mono ?_;rintro e v1 ⟨rfl,x1⟩
         have y1:Ext W v1:=Ext.trans ((Ext.refl W).drew) x1)
      | (go_at_call_of 169 (Value.iface U y)
         refine (IHB.out _ _ HY.out).mono ?_;rintro e v2 ⟨rfl,x2⟩
         have y2:Ext W v2:=Ext.trans y1 x2))
   have HY2:=Lib.hid (HX0.out.trans y2);clear y1 y2 x1 x2 HB HX0;go_wp2_with fail;go_ret;exact ⟨rfl,HY2.out⟩
theorem zcr {w0 w:World} {L:Nat} {a b:Tm} {v:Value} (h:TmV w0 L (.mul a b) v) (iha:∀ (v:Value) (w:World),TmV w0 L a v->Calls Tryz.prog 169 #[v] w (jo a.deg w)) (ihb:∀ (v:Value) (w:World),TmV w0 L b v->Calls Tryz.prog 169 #[v] w (jo b.deg w)) :
 Calls Tryz.prog 169 #[v] w (jo (zab (a.deg+b.deg)) w):=by
 have ha:=a.deg_bd;have hb:=b.deg_bd;have IHA:=Lib.hid iha;have IHB:=Lib.hid ihb;obtain ⟨x,y,rfl,hx,hy⟩:=h;have HX:=Lib.hid hx;have HY:=Lib.hid hy;obtain ⟨T,x,rfl⟩:=hx.iface;obtain ⟨U,y,rfl⟩:=hy.iface;clear hx hy iha ihb;generalize a.deg=da at *;generalize b.deg=db at *;have hwr:IntKind.i64.wrap (da+db)=da+db:=IntWalk.i64_in _ (by omega);go_enter Tryz.func169,Tryz.ntmps169;go_wp2_with fail;obtain ⟨W,hW⟩:∃ W,w.alloc (.cells #[.iface T x,.iface U y] 261)=W:=⟨_,rfl⟩;have HB:Hid (∀ W',Ext W W'->(Ext W W'/\W'.cell? ⟨w.heap.size,0,none⟩=some (.iface T x)/\W'.cell? ⟨w.heap.size,1,none⟩=some (.iface U y))):=by
  intro W' hx;obtain ⟨hc,hf⟩:=hx.cells;refine ⟨hx,?_,?_⟩ <;> (rw [hc _ _ (by rw [<- hW]; simp),<- hW]; simp [go_sem])
 have HX0:Hid (Ext w W):=by
  have:Ext w W:=by rw [<- hW]; exact (Ext.refl w).alloc _
  exact this
 rw [hW];clear hW
 go_region_held3 (fun W' => Ext W W' /\ W'.cell? ⟨w.heap.size, 0, none⟩ = some (.iface T x) /\ W'.cell? ⟨w.heap.size, 1, none⟩ = some (.iface U y))
  (first | exact HB.out _ ((Ext.refl W).drew) | exact HB.out _ (by assumption))
  (first
    | (go_at_call_of 169 (Value.iface T x)
       refine (IHA.out _ _ HX.out).mono ?_;rintro e v1 ⟨rfl,x1⟩
       have y1:Ext W v1:=Ext.trans ((Ext.refl W).drew) x1)
    | (go_at_call_of 169 (Value.iface U y)
       refine (IHB.out _ _ HY.out).mono ?_;rintro e v2 ⟨rfl,x2⟩
       have y2:Ext W v2:=Ext.trans y1 x2)
    | (go_at_call 194
       refine (gae (da+db) _).mono ?_
       rintro e v3 ⟨rfl,rfl⟩))
 have HY2:=Lib.hid (HX0.out.trans y2);clear y1 y2 x1 x2 HB HX0;go_wp2_with fail;go_ret;exact ⟨rfl,HY2.out⟩
theorem wcq {w0 w:World} {L:Nat} {a:Tm} {v:Value} (h:TmV w0 L (.neg a) v) (iha:∀ (v:Value) (w:World),TmV w0 L a v->Calls Tryz.prog 169 #[v] w (jo a.deg w)) :
 Calls Tryz.prog 169 #[v] w (jo a.deg w):=by
 have IHA:=Lib.hid iha;obtain ⟨x,rfl,hx⟩:=h;have HX:=Lib.hid hx;obtain ⟨T,x,rfl⟩:=hx.iface;clear hx iha;go_enter Tryz.func169,Tryz.ntmps169;go_wp2_with fail;refine (IHA.out _ _ HX.out).mono ?_;rintro e v1 ⟨rfl,x1⟩;have X1:=Lib.hid (Ext.trans ((Ext.refl w).alloc _) x1);clear x1;go_wp2_with fail;go_ret;exact ⟨rfl,X1.out⟩
theorem ucq {w0 w:World} {L:Nat} {a:Tm} {n:Int} {v:Value} (h:TmV w0 L (.pow a n) v) (iha:∀ (v:Value) (w:World),TmV w0 L a v->Calls Tryz.prog 169 #[v] w (jo a.deg w)) :
 Calls Tryz.prog 169 #[v] w (jo (uar (xw n 0) a.deg) w):=by
 have ha:=a.deg_bd;have IHA:=Lib.hid iha;obtain ⟨x,rfl,hx⟩:=h;have HX:=Lib.hid hx;obtain ⟨T,x,rfl⟩:=hx.iface;clear hx iha;generalize a.deg=da at *
 by_cases hlt:n < 0
 · rw [show xw n 0=0 from if_pos hlt];have hif:(if n < 0 then (0:Int) else n)=0:=if_pos hlt;have hde:decide (n < 0)=true:=by simpa using hlt
   have hma:max n 0=0:=by omega
   go_enter Tryz.func169,Tryz.ntmps169;go_wp2_with fail;obtain ⟨W,hW⟩:∃ W,w.alloc (.cells #[.iface T x,.int .i64 n] 264)=W:=⟨_,rfl⟩;have HB:Hid (∀ W',Ext W W'->(Ext W W'/\W'.cell? ⟨w.heap.size,0,none⟩=some (.iface T x)/\W'.cell? ⟨w.heap.size,1,none⟩=some (.int .i64 n))):=by
    intro W' hx;obtain ⟨hc,hf⟩:=hx.cells;refine ⟨hx,?_,?_⟩ <;> (rw [hc _ _ (by rw [<- hW]; simp),<- hW]; simp [go_sem])
   have HX0:Hid (Ext w W):=by
    have:Ext w W:=by rw [<- hW]; exact (Ext.refl w).alloc _
    exact this
   rw [hW];clear hW
   go_region_held3 (fun W' => Ext W W' /\ W'.cell? ⟨w.heap.size, 0, none⟩ = some (.iface T x) /\ W'.cell? ⟨w.heap.size, 1, none⟩ = some (.int .i64 n))
    (first | exact HB.out _ ((Ext.refl W).drew) | exact HB.out _ (by assumption))
    (first
      | (go_at_call 169
         refine (IHA.out _ _ HX.out).mono ?_;rintro e v1 ⟨rfl,x1⟩
         have y1:Ext W v1:=Ext.trans ((Ext.refl W).drew) x1)
      | (go_at_call 195
         refine (xaq (0) da _ (by omega) (by omega)).mono ?_
         rintro e v2 ⟨rfl,rfl⟩))
   all_goals
    have HY2:=Lib.hid (HX0.out.trans y1);clear y1 x1 HB HX0;go_wp2_with fail;go_ret;exact ⟨rfl,HY2.out⟩
 · rw [show xw n 0=n from if_neg hlt];have hge:0<=n:=by omega
   have hif:(if n < 0 then (0:Int) else n)=n:=if_neg hlt;have hde:decide (n < 0)=false:=by simpa using hlt
   have hma:max n 0=n:=by omega
   go_enter Tryz.func169,Tryz.ntmps169;go_wp2_with fail;obtain ⟨W,hW⟩:∃ W,w.alloc (.cells #[.iface T x,.int .i64 n] 264)=W:=⟨_,rfl⟩;have HB:Hid (∀ W',Ext W W'->(Ext W W'/\W'.cell? ⟨w.heap.size,0,none⟩=some (.iface T x)/\W'.cell? ⟨w.heap.size,1,none⟩=some (.int .i64 n))):=by
    intro W' hx;obtain ⟨hc,hf⟩:=hx.cells;refine ⟨hx,?_,?_⟩ <;> (rw [hc _ _ (by rw [<- hW]; simp),<- hW]; simp [go_sem])
   have HX0:Hid (Ext w W):=by
    have:Ext w W:=by rw [<- hW]; exact (Ext.refl w).alloc _
    exact this
   rw [hW];clear hW
   go_region_held3 (fun W' => Ext W W' /\ W'.cell? ⟨w.heap.size, 0, none⟩ = some (.iface T x) /\ W'.cell? ⟨w.heap.size, 1, none⟩ = some (.int .i64 n))
    (first | exact HB.out _ ((Ext.refl W).drew) | exact HB.out _ (by assumption))
    (first
      | (go_at_call 169
         refine (IHA.out _ _ HX.out).mono ?_;rintro e v1 ⟨rfl,x1⟩
         have y1:Ext W v1:=Ext.trans ((Ext.refl W).drew) x1)
      | (go_at_call 195
         refine (xaq (n) da _ (by omega) (by omega)).mono ?_
         rintro e v2 ⟨rfl,rfl⟩))
   all_goals
    have HY2:=Lib.hid (HX0.out.trans y1);clear y1 x1 HB HX0;go_wp2_with fail;go_ret;exact ⟨rfl,HY2.out⟩
theorem gcq {w0 w:World} {L:Nat} {z:Int} {v:Value} (h:TmV w0 L (.num z) v):Calls Tryz.prog 169 #[v] w (jo 0 w):=by
 obtain ⟨x,rfl,hx⟩:=h;go_enter Tryz.func169,Tryz.ntmps169;go_wp2_with fail;go_ret;exact ⟨rfl,Ext.refl _⟩
theorem vci {w0 w:World} {L:Nat} {s:ByteArray} {v:Value} (h:TmV w0 L (.name s) v):Calls Tryz.prog 169 #[v] w (jo 1 w):=by
 obtain rfl:=h;go_enter Tryz.func169,Tryz.ntmps169;go_wp2_with fail;go_ret;exact ⟨rfl,(Ext.refl _).alloc _⟩
theorem ga9 {w0:World} {L:Nat} (t:Tm):∀ (v:Value) (w:World),TmV w0 L t v->Calls Tryz.prog 169 #[v] w (jo t.deg w):=by
 induction t with
 | num z=>exact fun v w h=>gcq h
 | name s=>exact fun v w h=>vci h
 | add a b iha ihb=>exact fun v w h=>ycr h iha ihb
 | sub a b iha ihb=>exact fun v w h=>vcq h iha ihb
 | mul a b iha ihb=>exact fun v w h=>zcr h iha ihb
 | neg a iha=>exact fun v w h=>wcq (a:=a) h iha
 | pow a n iha=>exact fun v w h=>ucq h iha
end Go.Proofs.YtcfcjabgkfehlaaGreat
