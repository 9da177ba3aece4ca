/- Layer 34: formula.Degree. -/
import Derived.Test.YtheefiaoimbeiaaGreatDoorMp5
set_option linter.unusedSimpArgs false
set_option linter.unusedVariables false

set_option maxRecDepth 100000
set_option maxHeartbeats 8000000
namespace Go.Proofs.YtheefiaoimbeiaaGreatDoor
open Lib (hid)
open Go.RowKit
attribute [local go_sem] uds ydr qdt kds zdt wds vds ydp xdr gds xdt udv qdn ydt xdp
def xdm (n:Int):Int:=if n<=2147483647 then n else 2147483647
theorem zem {n:Int} (h:0<=n):0<=xdm n/\xdm n<=2147483647/\xdm n<=n:=by unfold xdm; split <;> omega
def kdx (a b:Int):Int:=xdm (xdm a * xdm b)
theorem ue7 {a b:Int} (h:0<=a) (k:0<=b):0<=xdm a * xdm b/\xdm a * xdm b<=4611686014132420609:=by
 obtain ⟨h1,h2,-⟩:=zem h;obtain ⟨k1,k2,-⟩:=zem k;refine ⟨Int.mul_nonneg h1 k1,?_⟩;have:=tQ h2 k2 k1 (by omega);simpa using this
theorem kfy {a b:Int} (h:0<=a) (k:0<=b):0<=kdx a b/\kdx a b<=2147483647:=by
 have:=zem (ue7 h k).1;exact ⟨this.1,this.2.1⟩
def wdj (a b:Int):Int:=if a < b then b else a
theorem geb {a b c d:Int} (h1:c<=a) (h2:a<=d) (h3:c<=b) (h4:b<=d):c<=wdj a b/\wdj a b<=d:=by unfold wdj; split <;> omega
theorem zdy (n:Int) (w:World):Calls Tryz.prog 107 #[.int .i64 n] w fun e w'=>e=.returned (.int .i64 (xdm n))/\w'=w:=by
 by_cases h:n<=2147483647
 · have hc:xdm n=n:=if_pos h;rw [hc];go_enter Tryz.func107,Tryz.ntmps107;go_wp2_with fail;go_ret;exact ⟨rfl,rfl⟩
 · have hc:xdm n=2147483647:=if_neg h;rw [hc];go_enter Tryz.func107,Tryz.ntmps107;go_wp2_with fail;go_ret;exact ⟨rfl,rfl⟩
theorem vd9 (a b:Int) (w:World) (h:0<=a) (k:0<=b):Calls Tryz.prog 108 #[.int .i64 a,.int .i64 b] w fun e w'=>e=.returned (.int .i64 (kdx a b))/\w'=w:=by
 have hm:=ue7 h k;go_enter Tryz.func108,Tryz.ntmps108;go_wp2_with fail;refine (zdy a _).mono ?_;rintro e w1 ⟨rfl,rfl⟩;go_wp2_with fail;refine (zdy b _).mono ?_;rintro e w1 ⟨rfl,rfl⟩;go_wp2_with fail;refine (zdy _ _).mono ?_;rintro e w1 ⟨rfl,rfl⟩;go_wp2_with fail;go_ret;exact ⟨rfl,rfl⟩
def Tm.qw : Tm -> Int
 | .num _=>0
 | .name _=>1
 | .add a b=>wdj a.qw b.qw
 | .sub a b=>wdj a.qw b.qw
 | .mul a b=>xdm (a.qw+b.qw)
 | .neg a=>a.qw
 | .pow a e=>kdx (wdj e 0) a.qw
theorem Tm.qT (t:Tm):0<=t.qw/\t.qw<=2147483647:=by
 induction t with
 | num z=>simp [Tm.qw]
 | name s=>simp [Tm.qw]
 | add a b iha ihb=>exact geb iha.1 iha.2 ihb.1 ihb.2
 | sub a b iha ihb=>exact geb iha.1 iha.2 ihb.1 ihb.2
 | mul a b iha ihb=>have:=zem (n:=a.qw+b.qw) (by omega); exact ⟨this.1,this.2.1⟩
 | neg a iha=>exact iha
 | pow a e iha=>exact kfy (by unfold wdj; split <;> omega) iha.1
def zdn (n:Int) (w:World) (e:Ending) (w':World):Prop:=e=.returned (.int .i64 n)/\Ext w w'
theorem kgh {w0 w:World} {L:Nat} {a b:Tm} {v:Value} (h:TmV w0 L (.add a b) v) (iha:∀ (v:Value) (w:World),TmV w0 L a v->Calls Tryz.prog 73 #[v] w (zdn a.qw w)) (ihb:∀ (v:Value) (w:World),TmV w0 L b v->Calls Tryz.prog 73 #[v] w (zdn b.qw w)) :
 Calls Tryz.prog 73 #[v] w (zdn (wdj a.qw b.qw) w):=by
 have ha:=a.qT;have hb:=b.qT;have IHA:=hid iha;have IHB:=hid ihb;obtain ⟨x,y,rfl,hx,hy⟩:=h;have HX:=hid hx;have HY:=hid hy;obtain ⟨T,x,rfl⟩:=hx.iface;obtain ⟨U,y,rfl⟩:=hy.iface;clear hx hy iha ihb;generalize a.qw=da at *;generalize b.qw=db at *
 by_cases hlt:da < db
 · rw [show wdj da db=db from if_pos hlt];go_enter tB,tp;go_wp2_with fail;obtain ⟨W,hW⟩:=n_m (w.alloc (.cells #[.iface T x,.iface U y] 175));have HB:Hid (∀ W',Ext W W'->(Ext W W'/\W'.cell? ⟨w.heap.size,0,none⟩=some (.iface T x)/\W'.cell? ⟨w.heap.size,1,none⟩=some (.iface U y))):=by
    intro W' hx;obtain ⟨hc,hf⟩:=hx.cells;refine ⟨hx,?_,?_⟩ <;> (rw [hc _ _ (by rw [<- hW]; simp),<- hW]; simp [go_sem])
   have HX0:Hid (Ext w W):=by
    have:Ext w W:=by rw [<- hW]; exact (Ext.refl w).alloc _
    exact this
   rw [hW];clear hW
   go_region_held3 (fun W' => Ext W W' /\ W'.cell? ⟨w.heap.size, 0, none⟩ = some (.iface T x) /\ W'.cell? ⟨w.heap.size, 1, none⟩ = some (.iface U y))
    (first | exact HB.out _ ((Ext.refl W).drew) | exact HB.out _ (by assumption))
    (first
      | (go_at_call_of 73 (Value.iface T x)
         refine (IHA.out _ _ HX.out).mono ?_;rintro e v1 ⟨rfl,x1⟩
         have y1:Ext W v1:=Ext.trans ((Ext.refl W).drew) x1)
      | (go_at_call_of 73 (Value.iface U y)
         refine (IHB.out _ _ HY.out).mono ?_;rintro e v2 ⟨rfl,x2⟩
         have y2:Ext W v2:=Ext.trans y1 x2))
   have HY2:=hid (HX0.out.trans y2);clear y1 y2 x1 x2 HB HX0;go_wp2_with fail;go_ret;exact ⟨rfl,HY2.out⟩
 · rw [show wdj da db=da from if_neg hlt];have hge:db<=da:=by omega
   go_enter tB,tp;go_wp2_with fail;obtain ⟨W,hW⟩:=n_m (w.alloc (.cells #[.iface T x,.iface U y] 175));have HB:Hid (∀ W',Ext W W'->(Ext W W'/\W'.cell? ⟨w.heap.size,0,none⟩=some (.iface T x)/\W'.cell? ⟨w.heap.size,1,none⟩=some (.iface U y))):=by
    intro W' hx;obtain ⟨hc,hf⟩:=hx.cells;refine ⟨hx,?_,?_⟩ <;> (rw [hc _ _ (by rw [<- hW]; simp),<- hW]; simp [go_sem])
   have HX0:Hid (Ext w W):=by
    have:Ext w W:=by rw [<- hW]; exact (Ext.refl w).alloc _
    exact this
   rw [hW];clear hW
   go_region_held3 (fun W' => Ext W W' /\ W'.cell? ⟨w.heap.size, 0, none⟩ = some (.iface T x) /\ W'.cell? ⟨w.heap.size, 1, none⟩ = some (.iface U y))
    (first | exact HB.out _ ((Ext.refl W).drew) | exact HB.out _ (by assumption))
    (first
      | (go_at_call_of 73 (Value.iface T x)
         refine (IHA.out _ _ HX.out).mono ?_;rintro e v1 ⟨rfl,x1⟩
         have y1:Ext W v1:=Ext.trans ((Ext.refl W).drew) x1)
      | (go_at_call_of 73 (Value.iface U y)
         refine (IHB.out _ _ HY.out).mono ?_;rintro e v2 ⟨rfl,x2⟩
         have y2:Ext W v2:=Ext.trans y1 x2))
   have HY2:=hid (HX0.out.trans y2);clear y1 y2 x1 x2 HB HX0;go_wp2_with fail;go_ret;exact ⟨rfl,HY2.out⟩
theorem zgh {w0 w:World} {L:Nat} {a b:Tm} {v:Value} (h:TmV w0 L (.sub a b) v) (iha:∀ (v:Value) (w:World),TmV w0 L a v->Calls Tryz.prog 73 #[v] w (zdn a.qw w)) (ihb:∀ (v:Value) (w:World),TmV w0 L b v->Calls Tryz.prog 73 #[v] w (zdn b.qw w)) :
 Calls Tryz.prog 73 #[v] w (zdn (wdj a.qw b.qw) w):=by
 have ha:=a.qT;have hb:=b.qT;have IHA:=hid iha;have IHB:=hid ihb;obtain ⟨x,y,rfl,hx,hy⟩:=h;have HX:=hid hx;have HY:=hid hy;obtain ⟨T,x,rfl⟩:=hx.iface;obtain ⟨U,y,rfl⟩:=hy.iface;clear hx hy iha ihb;generalize a.qw=da at *;generalize b.qw=db at *
 by_cases hlt:da < db
 · rw [show wdj da db=db from if_pos hlt];go_enter tB,tp;go_wp2_with fail;obtain ⟨W,hW⟩:=n_m (w.alloc (.cells #[.iface T x,.iface U y] 176));have HB:Hid (∀ W',Ext W W'->(Ext W W'/\W'.cell? ⟨w.heap.size,0,none⟩=some (.iface T x)/\W'.cell? ⟨w.heap.size,1,none⟩=some (.iface U y))):=by
    intro W' hx;obtain ⟨hc,hf⟩:=hx.cells;refine ⟨hx,?_,?_⟩ <;> (rw [hc _ _ (by rw [<- hW]; simp),<- hW]; simp [go_sem])
   have HX0:Hid (Ext w W):=by
    have:Ext w W:=by rw [<- hW]; exact (Ext.refl w).alloc _
    exact this
   rw [hW];clear hW
   go_region_held3 (fun W' => Ext W W' /\ W'.cell? ⟨w.heap.size, 0, none⟩ = some (.iface T x) /\ W'.cell? ⟨w.heap.size, 1, none⟩ = some (.iface U y))
    (first | exact HB.out _ ((Ext.refl W).drew) | exact HB.out _ (by assumption))
    (first
      | (go_at_call_of 73 (Value.iface T x)
         refine (IHA.out _ _ HX.out).mono ?_;rintro e v1 ⟨rfl,x1⟩
         have y1:Ext W v1:=Ext.trans ((Ext.refl W).drew) x1)
      | (go_at_call_of 73 (Value.iface U y)
         refine (IHB.out _ _ HY.out).mono ?_;rintro e v2 ⟨rfl,x2⟩
         have y2:Ext W v2:=Ext.trans y1 x2))
   have HY2:=hid (HX0.out.trans y2);clear y1 y2 x1 x2 HB HX0;go_wp2_with fail;go_ret;exact ⟨rfl,HY2.out⟩
 · rw [show wdj da db=da from if_neg hlt];have hge:db<=da:=by omega
   go_enter tB,tp;go_wp2_with fail;obtain ⟨W,hW⟩:=n_m (w.alloc (.cells #[.iface T x,.iface U y] 176));have HB:Hid (∀ W',Ext W W'->(Ext W W'/\W'.cell? ⟨w.heap.size,0,none⟩=some (.iface T x)/\W'.cell? ⟨w.heap.size,1,none⟩=some (.iface U y))):=by
    intro W' hx;obtain ⟨hc,hf⟩:=hx.cells;refine ⟨hx,?_,?_⟩ <;> (rw [hc _ _ (by rw [<- hW]; simp),<- hW]; simp [go_sem])
   have HX0:Hid (Ext w W):=by
    have:Ext w W:=by rw [<- hW]; exact (Ext.refl w).alloc _
    exact this
   rw [hW];clear hW
   go_region_held3 (fun W' => Ext W W' /\ W'.cell? ⟨w.heap.size, 0, none⟩ = some (.iface T x) /\ W'.cell? ⟨w.heap.size, 1, none⟩ = some (.iface U y))
    (first | exact HB.out _ ((Ext.refl W).drew) | exact HB.out _ (by assumption))
    (first
      | (go_at_call_of 73 (Value.iface T x)
         refine (IHA.out _ _ HX.out).mono ?_;rintro e v1 ⟨rfl,x1⟩
         have y1:Ext W v1:=Ext.trans ((Ext.refl W).drew) x1)
      | (go_at_call_of 73 (Value.iface U y)
         refine (IHB.out _ _ HY.out).mono ?_;rintro e v2 ⟨rfl,x2⟩
         have y2:Ext W v2:=Ext.trans y1 x2))
   have HY2:=hid (HX0.out.trans y2);clear y1 y2 x1 x2 HB HX0;go_wp2_with fail;go_ret;exact ⟨rfl,HY2.out⟩
theorem jgh {w0 w:World} {L:Nat} {a b:Tm} {v:Value} (h:TmV w0 L (.mul a b) v) (iha:∀ (v:Value) (w:World),TmV w0 L a v->Calls Tryz.prog 73 #[v] w (zdn a.qw w)) (ihb:∀ (v:Value) (w:World),TmV w0 L b v->Calls Tryz.prog 73 #[v] w (zdn b.qw w)) :
 Calls Tryz.prog 73 #[v] w (zdn (xdm (a.qw+b.qw)) w):=by
 have ha:=a.qT;have hb:=b.qT;have IHA:=hid iha;have IHB:=hid ihb;obtain ⟨x,y,rfl,hx,hy⟩:=h;have HX:=hid hx;have HY:=hid hy;obtain ⟨T,x,rfl⟩:=hx.iface;obtain ⟨U,y,rfl⟩:=hy.iface;clear hx hy iha ihb;generalize a.qw=da at *;generalize b.qw=db at *;have hwr:IntKind.i64.wrap (da+db)=da+db:=so _ (by omega);go_enter tB,tp;go_wp2_with fail;obtain ⟨W,hW⟩:=n_m (w.alloc (.cells #[.iface T x,.iface U y] 177));have HB:Hid (∀ W',Ext W W'->(Ext W W'/\W'.cell? ⟨w.heap.size,0,none⟩=some (.iface T x)/\W'.cell? ⟨w.heap.size,1,none⟩=some (.iface U y))):=by
  intro W' hx;obtain ⟨hc,hf⟩:=hx.cells;refine ⟨hx,?_,?_⟩ <;> (rw [hc _ _ (by rw [<- hW]; simp),<- hW]; simp [go_sem])
 have HX0:Hid (Ext w W):=by
  have:Ext w W:=by rw [<- hW]; exact (Ext.refl w).alloc _
  exact this
 rw [hW];clear hW
 go_region_held3 (fun W' => Ext W W' /\ W'.cell? ⟨w.heap.size, 0, none⟩ = some (.iface T x) /\ W'.cell? ⟨w.heap.size, 1, none⟩ = some (.iface U y))
  (first | exact HB.out _ ((Ext.refl W).drew) | exact HB.out _ (by assumption))
  (first
    | (go_at_call_of 73 (Value.iface T x)
       refine (IHA.out _ _ HX.out).mono ?_;rintro e v1 ⟨rfl,x1⟩
       have y1:Ext W v1:=Ext.trans ((Ext.refl W).drew) x1)
    | (go_at_call_of 73 (Value.iface U y)
       refine (IHB.out _ _ HY.out).mono ?_;rintro e v2 ⟨rfl,x2⟩
       have y2:Ext W v2:=Ext.trans y1 x2)
    | (go_at_call 107
       refine (zdy (da+db) _).mono ?_
       rintro e v3 ⟨rfl,rfl⟩))
 have HY2:=hid (HX0.out.trans y2);clear y1 y2 x1 x2 HB HX0;go_wp2_with fail;go_ret;exact ⟨rfl,HY2.out⟩
theorem qgh {w0 w:World} {L:Nat} {a:Tm} {v:Value} (h:TmV w0 L (.neg a) v) (iha:∀ (v:Value) (w:World),TmV w0 L a v->Calls Tryz.prog 73 #[v] w (zdn a.qw w)) :
 Calls Tryz.prog 73 #[v] w (zdn a.qw w):=by
 have IHA:=hid iha;obtain ⟨x,rfl,hx⟩:=h;have HX:=hid hx;obtain ⟨T,x,rfl⟩:=hx.iface;clear hx iha;go_enter tB,tp;go_wp2_with fail;refine (IHA.out _ _ HX.out).mono ?_;rintro e v1 ⟨rfl,x1⟩;have X1:=hid (Ext.trans ((Ext.refl w).alloc _) x1);clear x1;go_wp2_with fail;go_ret;exact ⟨rfl,X1.out⟩
theorem ygh {w0 w:World} {L:Nat} {a:Tm} {n:Int} {v:Value} (h:TmV w0 L (.pow a n) v) (iha:∀ (v:Value) (w:World),TmV w0 L a v->Calls Tryz.prog 73 #[v] w (zdn a.qw w)) :
 Calls Tryz.prog 73 #[v] w (zdn (kdx (wdj n 0) a.qw) w):=by
 have ha:=a.qT;have IHA:=hid iha;obtain ⟨x,rfl,hx⟩:=h;have HX:=hid hx;obtain ⟨T,x,rfl⟩:=hx.iface;clear hx iha;generalize a.qw=da at *
 by_cases hlt:n < 0
 · rw [show wdj n 0=0 from if_pos hlt];have hif:(if n < 0 then (0:Int) else n)=0:=if_pos hlt;have hde:decide (n < 0)=true:=by simpa using hlt
   have hma:max n 0=0:=by omega
   go_enter tB,tp;go_wp2_with fail;obtain ⟨W,hW⟩:=n_m (w.alloc (.cells #[.iface T x,.int .i64 n] 173));have HB:Hid (∀ W',Ext W W'->(Ext W W'/\W'.cell? ⟨w.heap.size,0,none⟩=some (.iface T x)/\W'.cell? ⟨w.heap.size,1,none⟩=some (.int .i64 n))):=by
    intro W' hx;obtain ⟨hc,hf⟩:=hx.cells;refine ⟨hx,?_,?_⟩ <;> (rw [hc _ _ (by rw [<- hW]; simp),<- hW]; simp [go_sem])
   have HX0:Hid (Ext w W):=by
    have:Ext w W:=by rw [<- hW]; exact (Ext.refl w).alloc _
    exact this
   rw [hW];clear hW
   go_region_held3 (fun W' => Ext W W' /\ W'.cell? ⟨w.heap.size, 0, none⟩ = some (.iface T x) /\ W'.cell? ⟨w.heap.size, 1, none⟩ = some (.int .i64 n))
    (first | exact HB.out _ ((Ext.refl W).drew) | exact HB.out _ (by assumption))
    (first
      | (go_at_call 73
         refine (IHA.out _ _ HX.out).mono ?_;rintro e v1 ⟨rfl,x1⟩
         have y1:Ext W v1:=Ext.trans ((Ext.refl W).drew) x1)
      | (go_at_call 108
         refine (vd9 (0) da _ (by omega) (by omega)).mono ?_
         rintro e v2 ⟨rfl,rfl⟩))
   all_goals
    have HY2:=hid (HX0.out.trans y1);clear y1 x1 HB HX0;go_wp2_with fail;go_ret;exact ⟨rfl,HY2.out⟩
 · rw [show wdj n 0=n from if_neg hlt];have hge:0<=n:=by omega
   have hif:(if n < 0 then (0:Int) else n)=n:=if_neg hlt;have hde:decide (n < 0)=false:=by simpa using hlt
   have hma:max n 0=n:=by omega
   go_enter tB,tp;go_wp2_with fail;obtain ⟨W,hW⟩:=n_m (w.alloc (.cells #[.iface T x,.int .i64 n] 173));have HB:Hid (∀ W',Ext W W'->(Ext W W'/\W'.cell? ⟨w.heap.size,0,none⟩=some (.iface T x)/\W'.cell? ⟨w.heap.size,1,none⟩=some (.int .i64 n))):=by
    intro W' hx;obtain ⟨hc,hf⟩:=hx.cells;refine ⟨hx,?_,?_⟩ <;> (rw [hc _ _ (by rw [<- hW]; simp),<- hW]; simp [go_sem])
   have HX0:Hid (Ext w W):=by
    have:Ext w W:=by rw [<- hW]; exact (Ext.refl w).alloc _
    exact this
   rw [hW];clear hW
   go_region_held3 (fun W' => Ext W W' /\ W'.cell? ⟨w.heap.size, 0, none⟩ = some (.iface T x) /\ W'.cell? ⟨w.heap.size, 1, none⟩ = some (.int .i64 n))
    (first | exact HB.out _ ((Ext.refl W).drew) | exact HB.out _ (by assumption))
    (first
      | (go_at_call 73
         refine (IHA.out _ _ HX.out).mono ?_;rintro e v1 ⟨rfl,x1⟩
         have y1:Ext W v1:=Ext.trans ((Ext.refl W).drew) x1)
      | (go_at_call 108
         refine (vd9 (n) da _ (by omega) (by omega)).mono ?_
         rintro e v2 ⟨rfl,rfl⟩))
   all_goals
    have HY2:=hid (HX0.out.trans y1);clear y1 x1 HB HX0;go_wp2_with fail;go_ret;exact ⟨rfl,HY2.out⟩
theorem xgh {w0 w:World} {L:Nat} {z:Int} {v:Value} (h:TmV w0 L (.num z) v):Calls Tryz.prog 73 #[v] w (zdn 0 w):=by
 obtain ⟨x,rfl,hx⟩:=h;go_enter tB,tp;go_wp2_with fail;go_ret;exact ⟨rfl,Ext.refl _⟩
theorem jf5 {w0 w:World} {L:Nat} {s:ByteArray} {v:Value} (h:TmV w0 L (.name s) v):Calls Tryz.prog 73 #[v] w (zdn 1 w):=by
 obtain rfl:=h;go_enter tB,tp;go_wp2_with fail;go_ret;exact ⟨rfl,(Ext.refl _).alloc _⟩
theorem qei {w0:World} {L:Nat} (t:Tm):∀ (v:Value) (w:World),TmV w0 L t v->Calls Tryz.prog 73 #[v] w (zdn t.qw w):=by
 induction t with
 | num z=>exact fun v w h=>xgh h
 | name s=>exact fun v w h=>jf5 h
 | add a b iha ihb=>exact fun v w h=>kgh h iha ihb
 | sub a b iha ihb=>exact fun v w h=>zgh h iha ihb
 | mul a b iha ihb=>exact fun v w h=>jgh h iha ihb
 | neg a iha=>exact fun v w h=>qgh (a:=a) h iha
 | pow a n iha=>exact fun v w h=>ygh h iha
end Go.Proofs.YtheefiaoimbeiaaGreatDoor

namespace Go.Proofs.YtheefiaoimbeiaaGreatDoor
open Lib (hid)
open Go.RowKit
theorem xf5 (d r x q:Nat) (hq:q=(r * B32+x) / d) (V Z X:Nat) (h:V=d * Z+r) (hX:X=x+B32 * V):X=d * (q+B32 * Z)+(r * B32+x) % d:=by
 have e:=Nat.div_add_mod (r * B32+x) d;rw [<- hq] at e;have e2:B32 * V=d * (B32 * Z)+r * B32:=by rw [h,pD,sT,re B32 r]
 rw [hX,pD];omega
def we8 (w0:World) (g:Nat) (E:List Nat) (d k r:Nat) (wr:World):Prop:=
 ∃ zs:List Nat,Row wr g zs/\zs.length=E.length/\kdk zs/\val (E.drop k)=d * val (zs.drop k)+r/\Ext w0 wr
def ugp (q r:Nat) (w:World) (e:Ending) (w':World):Prop:=∃ v,e=.returned (.tuple #[v,.int .u32 (r:Nat),.bool true])/\zb1 w' v (dg q)/\zdo w.heap.size v/\Ext w w'
theorem gek (u:Value) (ds:List Nat) (d:Nat) (w:World) (h:zb1 w u ds) (hs:ds.length<=35184372088832) (hd:0 < d) (hd1:d < 4294967296) :
 Calls Tryz.prog 164 #[u,.int .u32 (d:Nat)] w (ugp (val ds / d) (val ds % d) w):=by
 have hls:(dg (val ds)).length<=ds.length:=xdk h.xi;have hdb:((d:Int) == 0)=false:=by simp; omega
 go_enter Tryz.func164,Tryz.ntmps164;go_wp2_with fail;refine (vdr u ds _ h).mono ?_;rintro e w' ⟨u',rfl,hu,rfl⟩;obtain ⟨A,c,rfl,h1,h2,h3⟩:=hu;have G5:=hid h3;have HVD:=hid (zdk (val ds));clear h3 h;generalize hE:dg (val ds)=E at *;have HE:=hid hE;clear hE;have hmk:=fun W=>xdu (E.length:Int) (by omega) (by omega) W
 go_wp2_with fail
 have hinv:we8 w w.heap.size E d E.length 0 (w.alloc (Obj.cells (jdq (List.replicate E.length 0)).toArray 108)):=
  ⟨List.replicate E.length 0,Row.new w _,by simp,kdk.replicate _,by simp,(Ext.refl _).alloc _⟩
 have ace:=hid hinv;clear hinv
 go_loopw [8,9] (fun rv iv wr=>∃ k r:Nat,k<=E.length/\iv=.int .i64 ((k:Int) - 1)/\rv=.int .u32 r/\r < d/\Hid (we8 w w.heap.size E d k r wr)) (fun _ iv _=>(intOf iv+1).toNat)
 case atStart=>exact ⟨E.length,0,pf _,rfl,rfl,hd,ace⟩
 case round =>
  clear ace;obtain ⟨k,r,hk,rfl,rfl,hr,HI⟩:=hrel;obtain ⟨zs,aaC,hzl,hzd,ab2,ab1⟩:=HI.out;rcases k with _ | k
  · have HN:Hid (zb1 wr (.slice (some ⟨w.heap.size,0,none⟩) E.length E.length) zs):=aaC.xO hzd _ _ hzl (pf _) (by omega);have hq:val zs=val ds / d/\r=val ds % d:=by
     rw [rU,rU,HVD.out] at ab2;rw [ab2];exact ⟨by rw [Nat.mul_add_div hd,sE hr,sx],by rw [Nat.mul_add_mod,tS hr]⟩
    have HQ:=hid hq;have HX:=hid ab1;clear HI aaC hzl hzd ab2 ab1 hq;go_wp2_with fail;refine (kej w.heap.size _ _ _ HN.out (zdo.mk _ _ _ _ (pf _))).mono ?_;rintro e w' ⟨v',rfl,hv,hfr,rfl⟩;have HV2:=hid hv;have HFR:=hid hfr;clear hv hfr;go_wp2_with fail
    go_ret3
    refine ⟨v',by rw [<- HQ.out.2]; rfl,?_,HFR.out,HX.out⟩;rw [<- HQ.out.1];exact HV2.out
  · obtain ⟨ad,x,rfl,hb,abZ,hx1,HX⟩:=(G5.out.ext ab1).qt k (by omega);obtain ⟨z,hzc,hzf,_⟩:=aaC.qt k (by omega);have avZ:r * B32+x < d * B32:=by
     have:(r+1) * B32<=d * B32:=pE _ hr;rw [pT,sw] at this;rw [vdk] at *; omega
    have au6:(r * B32+x) / d < B32:=sO avZ;have HS:Hid (∀ wq,Ext wr wq->we8 w w.heap.size E d k ((r * B32+x) % d) (wq.setCell ⟨w.heap.size,k,none⟩ (.int .u32 (((r * B32+x) / d:Nat):Int)))):=by
     intro wq hx;refine ⟨zs.set k ((r * B32+x) / d),(aaC.ext hx).qG _ _,by rw [pN]; exact hzl,hzd.set _ _ au6,?_,(ab1.trans hx).setCell (by simp) _⟩;obtain ⟨hkl,hxe⟩:=ti.1 HX.out;rw [pY hkl,val_cons,hxe,tF,if_neg (by omega),Nat.sub_self];have hkz:k < zs.length:=by omega
     rw [pY hkz,tx,val_cons];exact xf5 d r x _ rfl _ _ _ ab2 rfl
    clear HI aaC hzl hzd ab2 ab1;go_wp2_with fail;refine (kf7 _ _ _ _ (by omega) (by omega) (by omega) (by omega) (by omega)).mono ?_;rintro e w2 ⟨rfl,n2,rfl⟩;have hx2:Ext wr (wr.drewN n2):=(Ext.refl wr).drewN n2;have HS2:=hid (HS.out _ hx2);clear hx2 HS;go_wp2_with fail
    go_roundw
    case rel =>
     have e1:((r:Int) * 4294967296+x) % d=(((r * B32+x) % d:Nat):Int):=by rw [vdk]; simp
     have e2:((r:Int) * 4294967296+x) / d=(((r * B32+x) / d:Nat):Int):=by rw [vdk]; simp
     rw [e1,e2];exact ⟨k,_,by omega,by go_num,rfl,rN _ hd,HS2⟩
    case measure=>simp [intOf]
theorem zgi (w:World):Calls Tryz.prog 163 #[.int .i64 10] w fun e w'=>e=.returned (.tuple #[.int .u32 1000000000,.int .i64 9])/\w=w':=by
 go_enter Tryz.func163,Tryz.ntmps163;go_wp2_with fail
 go_loop [4,5] (fun p c=>∃ k:Nat,k<=8/\p=.int .u64 ((10 ^ (k+1):Nat):Int)/\c=.int .i64 ((k+1:Nat):Int)) (fun _ c=>9 - (intOf c).toNat)
 case atStart=>exact ⟨0,by omega,rfl,rfl⟩
 case round =>
  obtain ⟨k,hk,rfl,rfl⟩:=hrel;have ao8:k=0\/k=1\/k=2\/k=3\/k=4\/k=5\/k=6\/k=7\/k=8:=by omega
  rcases ao8 with rfl | rfl | rfl | rfl | rfl | rfl | rfl | rfl | rfl
  all_goals
   go_wp2_with fail
   first
    | (go_ret2; exact ⟨rfl,rfl⟩)
    | (go_round
       case rel=>first | exact ⟨1,by omega,rfl,rfl⟩ | exact ⟨2,by omega,rfl,rfl⟩ | exact ⟨3,by omega,rfl,rfl⟩ | exact ⟨4,by omega,rfl,rfl⟩ | exact ⟨5,by omega,rfl,rfl⟩ | exact ⟨6,by omega,rfl,rfl⟩ | exact ⟨7,by omega,rfl,rfl⟩ | exact ⟨8,by omega,rfl,rfl⟩
       case measure=>simp [intOf])
def xdx (w:World) (g n:Nat):Prop:=∃ arr:Array Value,w.heap[g]?=some (.cells arr 5 (0,0))/\n<=arr.size/\∀ i,i < n->∃ b:Nat,b < 256/\arr[i]?=some (.int .u8 (b:Nat))
theorem xdx.get {w:World} {g n:Nat} (h:xdx w g n) (i:Nat) (hi:i < n):∃ b:Nat,b < 256/\w.cell? ⟨g,i,none⟩=some (.int .u8 (b:Nat))/\w.frozen? ⟨g,i,none⟩=false:=by
 obtain ⟨arr,h1,h2,h3⟩:=h;obtain ⟨b,hb,hg⟩:=h3 i hi;exact ⟨b,hb,by rw [cell_of_row w g i arr _ (0,0) h1,hg],by simp [World.frozen?,h1]⟩
theorem xdx.set {w:World} {g n:Nat} (h:xdx w g n) (i b:Nat) (hb:b < 256):xdx (w.setCell ⟨g,i,none⟩ (.int .u8 (b:Nat))) g n:=by
 obtain ⟨arr,h1,h2,h3⟩:=h;refine ⟨arr.setIfInBounds i (.int .u8 (b:Nat)),by simp [World.setCell,sN,h1],by simpa using h2,fun k hk=>?_⟩;rw [tA]
 by_cases hik:i=k
 · subst hik;rw [if_pos rfl,if_pos (by omega)];exact ⟨b,hb,rfl⟩
 · rw [if_neg hik];exact h3 k hk
theorem xdx.drewN {w:World} {g n:Nat} (h:xdx w g n) (k:Nat):xdx (w.drewN k) g n:=h
theorem ue9 (g n cap:Nat) (w:World) (h:xdx w g n) (hc:n<=cap) (hc':cap<=9223372036854775807) :
 Calls Tryz.prog 165 #[.slice (some ⟨g,0,none⟩) n cap] w fun e w'=>e=.returned (.tuple #[])/\xdx w' g n/\Only g w w':=by
 have H:=hid h;clear h;go_enter Tryz.func165,Tryz.ntmps165;go_wp2_with fail
 go_loopw [2,3] (fun iv jv wr=>∃ i j:Nat,i+j=n/\iv=.int .i64 i/\jv=.int .i64 ((j:Int) - 1)/\Hid (xdx wr g n/\Only g w wr)) (fun iv jv _=>n - (intOf iv).toNat)
 case atStart=>exact ⟨0,n,by omega,rfl,rfl,hid ⟨H.out,Only.refl _ _⟩⟩
 case round =>
  obtain ⟨i,j,hij,rfl,rfl,HI⟩:=hrel
  by_cases hlt:i+1 < j
  · obtain ⟨j,rfl⟩:∃ k,j=k+1:=⟨j - 1,by omega⟩;rw [show (((j+1:Nat):Int) - 1)=(j:Int) from by omega];have hjn:j < n:=by omega
    obtain ⟨x,hx,cx,fx⟩:=HI.out.1.get i (by omega);obtain ⟨y,hy,cy,fy⟩:=HI.out.1.get j (by omega);have hne:¬ (i=j):=by omega
    go_wp2_with fail
    go_region
    go_wp2_with fail
    go_roundw
    case rel=>exact ⟨i+1,j,by omega,by go_num,by go_num,hid ⟨((HI.out.1.drewN 1).set i y hy).set j x hx,((HI.out.2.drewN 1).setCell i _).setCell j _⟩⟩
    case measure=>simp [intOf]; omega
  · go_wp2_with fail
    go_end0
    exact ⟨rfl,HI.out.1,HI.out.2⟩
def qdx (n:Nat):Nat:=if _h:n < 10 then 1 else qdx (n / 10)+1
termination_by n
decreasing_by omega
theorem gef {n:Nat} (h:n < 10):qdx n=1:=by rw [qdx]; simp [h]
theorem jev {n:Nat} (h:10<=n):qdx n=qdx (n / 10)+1:=by rw [qdx]; simp [show ¬ n < 10 by omega]
theorem xe5 (n:Nat):1<=qdx n:=by
 rcases rz n 10 with h | h
 · rw [gef h]; omega
 · rw [jev h]; omega
def more (n:Nat):Nat:=if n=0 then 0 else qdx n
theorem wej:more 0=0:=rfl
theorem uep {n:Nat} (h:n ≠ 0):more n=qdx n:=if_neg h
theorem zek {n:Nat} (h:n ≠ 0):more n=more (n / 10)+1:=by
 rw [uep h];rcases rz n 10 with h1 | h1
 · rw [gef h1,sE h1,wej]
 · rw [jev h1,uep (by omega)]
theorem gfi (k:Nat):∀ n,10 ^ k<=n->more n=more (n / 10 ^ k)+k:=by
 induction k with
 | zero=>intro n _; simp
 | succ k ih =>
   intro n h;have hp:0 < 10 ^ k:=rF (by omega);have h1:10 ^ k<=n / 10:=by
    rw [td (by omega)];rw [pP] at h;exact h
   have hn:n ≠ 0:=by
    rintro rfl;have:0 < 10 ^ (k+1):=rF (by omega);omega
   rw [zek hn,ih _ h1,Nat.div_div_eq_div_mul,pP,re 10];omega
theorem uev (n k:Nat) (h:n < 10 ^ k):more n<=k:=by
 induction k generalizing n with
 | zero => have : n = 0 := by simpa using h
           subst this; simp [more]
 | succ k ih =>
   by_cases hn:n=0
   · subst hn; simp [more]
   · rw [zek hn];have:n / 10 < 10 ^ k:=by
      rw [uN (by omega)];rw [pP] at h;exact h
     have:=ih _ this;omega
end Go.Proofs.YtheefiaoimbeiaaGreatDoor
