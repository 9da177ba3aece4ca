/- Layer 34: formula.Degree. -/
import Derived.Test.YtopddaabiinboaaGreatMp9
import Derived.Test.YtopddaabiinboaaGreatMp2
import Derived.Test.YtopddaabiinboaaGreatMp5
import Derived.Maps.AppendAt
import Derived.Deep.AppendLies
import Derived.LoopTactic
set_option linter.unusedSimpArgs false
set_option linter.unusedVariables false

set_option maxRecDepth 100000
set_option maxHeartbeats 8000000
namespace Go.Proofs.YtopddaabiinboaaGreat
open Go.RowKit
attribute [local go_sem] gdg jde jdh vdg ydh zdh udg gdb kde wdg qdh wgt uc9 xdh wdb
def qdb (n:Int):Int:=if n<=2147483647 then n else 2147483647
theorem yhd {n:Int} (h:0<=n):0<=qdb n/\qdb n<=2147483647/\qdb n<=n:=by unfold qdb; split <;> omega
def vg0 (a b:Int):Int:=qdb (qdb a * qdb b)
theorem jhz {a b:Int} (h:0<=a) (k:0<=b):0<=qdb a * qdb b/\qdb a * qdb b<=4611686014132420609:=by
 obtain ⟨h1,h2,-⟩:=yhd h;obtain ⟨k1,k2,-⟩:=yhd k;refine ⟨Int.mul_nonneg h1 k1,?_⟩;have:=Int.mul_le_mul h2 k2 k1 (by omega);simpa using this
theorem gip {a b:Int} (h:0<=a) (k:0<=b):0<=vg0 a b/\vg0 a b<=2147483647:=by
 have:=yhd (jhz h k).1;exact ⟨this.1,this.2.1⟩
def wc8 (a b:Int):Int:=if a < b then b else a
theorem kg1 {a b c d:Int} (h1:c<=a) (h2:a<=d) (h3:c<=b) (h4:b<=d):c<=wc8 a b/\wc8 a b<=d:=by unfold wc8; split <;> omega
theorem udf (n:Int) (w:World):Calls Tryz.prog 117 #[.int .i64 n] w fun e w'=>e=.returned (.int .i64 (qdb n))/\w'=w:=by
 by_cases h:n<=2147483647
 · have hc:qdb n=n:=if_pos h;have hma:min n 2147483647=n:=by omega
   rw [hc];go_enter Tryz.func117,Tryz.ntmps117;go_wp2_with fail;go_ret;exact ⟨rfl,rfl⟩
 · have hc:qdb n=2147483647:=if_neg h;have hma:min n 2147483647=2147483647:=by omega
   rw [hc];go_enter Tryz.func117,Tryz.ntmps117;go_wp2_with fail;go_ret;exact ⟨rfl,rfl⟩
theorem xgz (a b:Int) (w:World) (h:0<=a) (k:0<=b):Calls Tryz.prog 118 #[.int .i64 a,.int .i64 b] w fun e w'=>e=.returned (.int .i64 (vg0 a b))/\w'=w:=by
 have hm:=jhz h k;go_enter Tryz.func118,Tryz.ntmps118;go_wp2_with fail;refine (udf a _).mono ?_;rintro e w1 ⟨rfl,rfl⟩;go_wp2_with fail;refine (udf b _).mono ?_;rintro e w1 ⟨rfl,rfl⟩;go_wp2_with fail;refine (udf _ _).mono ?_;rintro e w1 ⟨rfl,rfl⟩;go_wp2_with fail;go_ret;exact ⟨rfl,rfl⟩
def Tm.deg : Tm -> Int
 | .num _=>0
 | .name _=>1
 | .add a b=>wc8 a.deg b.deg
 | .sub a b=>wc8 a.deg b.deg
 | .mul a b=>qdb (a.deg+b.deg)
 | .neg a=>a.deg
 | .pow a e=>vg0 (wc8 e 0) a.deg
theorem Tm.deg_bd (t:Tm):0<=t.deg/\t.deg<=2147483647:=by
 induction t with
 | num z=>simp [Tm.deg]
 | name s=>simp [Tm.deg]
 | add a b iha ihb=>exact kg1 iha.1 iha.2 ihb.1 ihb.2
 | sub a b iha ihb=>exact kg1 iha.1 iha.2 ihb.1 ihb.2
 | mul a b iha ihb=>have:=yhd (n:=a.deg+b.deg) (by omega); exact ⟨this.1,this.2.1⟩
 | neg a iha=>exact iha
 | pow a e iha=>exact gip (by unfold wc8; split <;> omega) iha.1
def vc5 (n:Int) (w:World) (e:Ending) (w':World):Prop:=e=.returned (.int .i64 n)/\Ext w w'
theorem wi3 {w0 w:World} {L:Nat} {a b:Tm} {v:Value} (h:TmV w0 L (.add a b) v) (iha:∀ (v:Value) (w:World),TmV w0 L a v->Calls Tryz.prog 85 #[v] w (vc5 a.deg w)) (ihb:∀ (v:Value) (w:World),TmV w0 L b v->Calls Tryz.prog 85 #[v] w (vc5 b.deg w)) :
 Calls Tryz.prog 85 #[v] w (vc5 (wc8 a.deg b.deg) w):=by
 have ha:=a.deg_bd;have hb:=b.deg_bd;have IHA:=Lib.hid iha;have IHB:=Lib.hid ihb;obtain ⟨x,y,rfl,hx,hy⟩:=h;have HX:=Lib.hid hx;have HY:=Lib.hid hy;obtain ⟨T,x,rfl⟩:=hx.iface;obtain ⟨U,y,rfl⟩:=hy.iface;clear hx hy iha ihb;generalize a.deg=da at *;generalize b.deg=db at *
 by_cases hlt:da < db
 · rw [show wc8 da db=db from if_pos hlt];have hma:max da db=db:=by omega
   go_enter Tryz.func85,Tryz.ntmps85;go_wp2_with fail;obtain ⟨W,hW⟩:=n_m (w.alloc (.cells #[.iface T x,.iface U y] 199));have HB:Hid (∀ W',Ext W W'->(Ext W W'/\W'.cell? ⟨w.heap.size,0,none⟩=some (.iface T x)/\W'.cell? ⟨w.heap.size,1,none⟩=some (.iface U y))):=by
    intro W' hx;obtain ⟨hc,hf⟩:=hx.cells;refine ⟨hx,?_,?_⟩ <;> (rw [hc _ _ (by rw [<- hW]; simp),<- hW]; simp [go_sem])
   have HX0:Hid (Ext w W):=by
    have:Ext w W:=by rw [<- hW]; exact (Ext.refl w).alloc _
    exact this
   rw [hW];clear hW
   go_region_held3 (fun W' => Ext W W' /\ W'.cell? ⟨w.heap.size, 0, none⟩ = some (.iface T x) /\ W'.cell? ⟨w.heap.size, 1, none⟩ = some (.iface U y))
    (first | exact HB.out _ ((Ext.refl W).drew) | exact HB.out _ (by assumption))
    (first
      | (go_at_call_of 85 (Value.iface T x)
         refine (IHA.out _ _ HX.out).mono ?_;rintro e v1 ⟨rfl,x1⟩
         have y1:Ext W v1:=Ext.trans ((Ext.refl W).drew) x1)
      | (go_at_call_of 85 (Value.iface U y)
         refine (IHB.out _ _ HY.out).mono ?_;rintro e v2 ⟨rfl,x2⟩
         have y2:Ext W v2:=Ext.trans y1 x2))
   have HY2:=Lib.hid (HX0.out.trans y2);clear y1 y2 x1 x2 HB HX0;go_wp2_with fail;go_ret;exact ⟨rfl,HY2.out⟩
 · rw [show wc8 da db=da from if_neg hlt];have hge:db<=da:=by omega
   have hma:max da db=da:=by omega
   go_enter Tryz.func85,Tryz.ntmps85;go_wp2_with fail;obtain ⟨W,hW⟩:=n_m (w.alloc (.cells #[.iface T x,.iface U y] 199));have HB:Hid (∀ W',Ext W W'->(Ext W W'/\W'.cell? ⟨w.heap.size,0,none⟩=some (.iface T x)/\W'.cell? ⟨w.heap.size,1,none⟩=some (.iface U y))):=by
    intro W' hx;obtain ⟨hc,hf⟩:=hx.cells;refine ⟨hx,?_,?_⟩ <;> (rw [hc _ _ (by rw [<- hW]; simp),<- hW]; simp [go_sem])
   have HX0:Hid (Ext w W):=by
    have:Ext w W:=by rw [<- hW]; exact (Ext.refl w).alloc _
    exact this
   rw [hW];clear hW
   go_region_held3 (fun W' => Ext W W' /\ W'.cell? ⟨w.heap.size, 0, none⟩ = some (.iface T x) /\ W'.cell? ⟨w.heap.size, 1, none⟩ = some (.iface U y))
    (first | exact HB.out _ ((Ext.refl W).drew) | exact HB.out _ (by assumption))
    (first
      | (go_at_call_of 85 (Value.iface T x)
         refine (IHA.out _ _ HX.out).mono ?_;rintro e v1 ⟨rfl,x1⟩
         have y1:Ext W v1:=Ext.trans ((Ext.refl W).drew) x1)
      | (go_at_call_of 85 (Value.iface U y)
         refine (IHB.out _ _ HY.out).mono ?_;rintro e v2 ⟨rfl,x2⟩
         have y2:Ext W v2:=Ext.trans y1 x2))
   have HY2:=Lib.hid (HX0.out.trans y2);clear y1 y2 x1 x2 HB HX0;go_wp2_with fail;go_ret;exact ⟨rfl,HY2.out⟩
theorem ji3 {w0 w:World} {L:Nat} {a b:Tm} {v:Value} (h:TmV w0 L (.sub a b) v) (iha:∀ (v:Value) (w:World),TmV w0 L a v->Calls Tryz.prog 85 #[v] w (vc5 a.deg w)) (ihb:∀ (v:Value) (w:World),TmV w0 L b v->Calls Tryz.prog 85 #[v] w (vc5 b.deg w)) :
 Calls Tryz.prog 85 #[v] w (vc5 (wc8 a.deg b.deg) w):=by
 have ha:=a.deg_bd;have hb:=b.deg_bd;have IHA:=Lib.hid iha;have IHB:=Lib.hid ihb;obtain ⟨x,y,rfl,hx,hy⟩:=h;have HX:=Lib.hid hx;have HY:=Lib.hid hy;obtain ⟨T,x,rfl⟩:=hx.iface;obtain ⟨U,y,rfl⟩:=hy.iface;clear hx hy iha ihb;generalize a.deg=da at *;generalize b.deg=db at *
 by_cases hlt:da < db
 · rw [show wc8 da db=db from if_pos hlt];have hma:max da db=db:=by omega
   go_enter Tryz.func85,Tryz.ntmps85;go_wp2_with fail;obtain ⟨W,hW⟩:=n_m (w.alloc (.cells #[.iface T x,.iface U y] 200));have HB:Hid (∀ W',Ext W W'->(Ext W W'/\W'.cell? ⟨w.heap.size,0,none⟩=some (.iface T x)/\W'.cell? ⟨w.heap.size,1,none⟩=some (.iface U y))):=by
    intro W' hx;obtain ⟨hc,hf⟩:=hx.cells;refine ⟨hx,?_,?_⟩ <;> (rw [hc _ _ (by rw [<- hW]; simp),<- hW]; simp [go_sem])
   have HX0:Hid (Ext w W):=by
    have:Ext w W:=by rw [<- hW]; exact (Ext.refl w).alloc _
    exact this
   rw [hW];clear hW
   go_region_held3 (fun W' => Ext W W' /\ W'.cell? ⟨w.heap.size, 0, none⟩ = some (.iface T x) /\ W'.cell? ⟨w.heap.size, 1, none⟩ = some (.iface U y))
    (first | exact HB.out _ ((Ext.refl W).drew) | exact HB.out _ (by assumption))
    (first
      | (go_at_call_of 85 (Value.iface T x)
         refine (IHA.out _ _ HX.out).mono ?_;rintro e v1 ⟨rfl,x1⟩
         have y1:Ext W v1:=Ext.trans ((Ext.refl W).drew) x1)
      | (go_at_call_of 85 (Value.iface U y)
         refine (IHB.out _ _ HY.out).mono ?_;rintro e v2 ⟨rfl,x2⟩
         have y2:Ext W v2:=Ext.trans y1 x2))
   have HY2:=Lib.hid (HX0.out.trans y2);clear y1 y2 x1 x2 HB HX0;go_wp2_with fail;go_ret;exact ⟨rfl,HY2.out⟩
 · rw [show wc8 da db=da from if_neg hlt];have hge:db<=da:=by omega
   have hma:max da db=da:=by omega
   go_enter Tryz.func85,Tryz.ntmps85;go_wp2_with fail;obtain ⟨W,hW⟩:=n_m (w.alloc (.cells #[.iface T x,.iface U y] 200));have HB:Hid (∀ W',Ext W W'->(Ext W W'/\W'.cell? ⟨w.heap.size,0,none⟩=some (.iface T x)/\W'.cell? ⟨w.heap.size,1,none⟩=some (.iface U y))):=by
    intro W' hx;obtain ⟨hc,hf⟩:=hx.cells;refine ⟨hx,?_,?_⟩ <;> (rw [hc _ _ (by rw [<- hW]; simp),<- hW]; simp [go_sem])
   have HX0:Hid (Ext w W):=by
    have:Ext w W:=by rw [<- hW]; exact (Ext.refl w).alloc _
    exact this
   rw [hW];clear hW
   go_region_held3 (fun W' => Ext W W' /\ W'.cell? ⟨w.heap.size, 0, none⟩ = some (.iface T x) /\ W'.cell? ⟨w.heap.size, 1, none⟩ = some (.iface U y))
    (first | exact HB.out _ ((Ext.refl W).drew) | exact HB.out _ (by assumption))
    (first
      | (go_at_call_of 85 (Value.iface T x)
         refine (IHA.out _ _ HX.out).mono ?_;rintro e v1 ⟨rfl,x1⟩
         have y1:Ext W v1:=Ext.trans ((Ext.refl W).drew) x1)
      | (go_at_call_of 85 (Value.iface U y)
         refine (IHB.out _ _ HY.out).mono ?_;rintro e v2 ⟨rfl,x2⟩
         have y2:Ext W v2:=Ext.trans y1 x2))
   have HY2:=Lib.hid (HX0.out.trans y2);clear y1 y2 x1 x2 HB HX0;go_wp2_with fail;go_ret;exact ⟨rfl,HY2.out⟩
theorem gi3 {w0 w:World} {L:Nat} {a b:Tm} {v:Value} (h:TmV w0 L (.mul a b) v) (iha:∀ (v:Value) (w:World),TmV w0 L a v->Calls Tryz.prog 85 #[v] w (vc5 a.deg w)) (ihb:∀ (v:Value) (w:World),TmV w0 L b v->Calls Tryz.prog 85 #[v] w (vc5 b.deg w)) :
 Calls Tryz.prog 85 #[v] w (vc5 (qdb (a.deg+b.deg)) w):=by
 have ha:=a.deg_bd;have hb:=b.deg_bd;have IHA:=Lib.hid iha;have IHB:=Lib.hid ihb;obtain ⟨x,y,rfl,hx,hy⟩:=h;have HX:=Lib.hid hx;have HY:=Lib.hid hy;obtain ⟨T,x,rfl⟩:=hx.iface;obtain ⟨U,y,rfl⟩:=hy.iface;clear hx hy iha ihb;generalize a.deg=da at *;generalize b.deg=db at *;have hwr:IntKind.i64.wrap (da+db)=da+db:=IntWalk.i64_in _ (by omega);go_enter Tryz.func85,Tryz.ntmps85;go_wp2_with fail;obtain ⟨W,hW⟩:=n_m (w.alloc (.cells #[.iface T x,.iface U y] 201));have HB:Hid (∀ W',Ext W W'->(Ext W W'/\W'.cell? ⟨w.heap.size,0,none⟩=some (.iface T x)/\W'.cell? ⟨w.heap.size,1,none⟩=some (.iface U y))):=by
  intro W' hx;obtain ⟨hc,hf⟩:=hx.cells;refine ⟨hx,?_,?_⟩ <;> (rw [hc _ _ (by rw [<- hW]; simp),<- hW]; simp [go_sem])
 have HX0:Hid (Ext w W):=by
  have:Ext w W:=by rw [<- hW]; exact (Ext.refl w).alloc _
  exact this
 rw [hW];clear hW
 go_region_held3 (fun W' => Ext W W' /\ W'.cell? ⟨w.heap.size, 0, none⟩ = some (.iface T x) /\ W'.cell? ⟨w.heap.size, 1, none⟩ = some (.iface U y))
  (first | exact HB.out _ ((Ext.refl W).drew) | exact HB.out _ (by assumption))
  (first
    | (go_at_call_of 85 (Value.iface T x)
       refine (IHA.out _ _ HX.out).mono ?_;rintro e v1 ⟨rfl,x1⟩
       have y1:Ext W v1:=Ext.trans ((Ext.refl W).drew) x1)
    | (go_at_call_of 85 (Value.iface U y)
       refine (IHB.out _ _ HY.out).mono ?_;rintro e v2 ⟨rfl,x2⟩
       have y2:Ext W v2:=Ext.trans y1 x2)
    | (go_at_call 117
       refine (udf (da+db) _).mono ?_
       rintro e v3 ⟨rfl,rfl⟩))
 have HY2:=Lib.hid (HX0.out.trans y2);clear y1 y2 x1 x2 HB HX0;go_wp2_with fail;go_ret;exact ⟨rfl,HY2.out⟩
theorem ui3 {w0 w:World} {L:Nat} {a:Tm} {v:Value} (h:TmV w0 L (.neg a) v) (iha:∀ (v:Value) (w:World),TmV w0 L a v->Calls Tryz.prog 85 #[v] w (vc5 a.deg w)) :
 Calls Tryz.prog 85 #[v] w (vc5 a.deg w):=by
 have IHA:=Lib.hid iha;obtain ⟨x,rfl,hx⟩:=h;have HX:=Lib.hid hx;obtain ⟨T,x,rfl⟩:=hx.iface;clear hx iha;go_enter Tryz.func85,Tryz.ntmps85;go_wp2_with fail;refine (IHA.out _ _ HX.out).mono ?_;rintro e v1 ⟨rfl,x1⟩;have X1:=Lib.hid (Ext.trans ((Ext.refl w).alloc _) x1);clear x1;go_wp2_with fail;go_ret;exact ⟨rfl,X1.out⟩
theorem ki3 {w0 w:World} {L:Nat} {a:Tm} {n:Int} {v:Value} (h:TmV w0 L (.pow a n) v) (iha:∀ (v:Value) (w:World),TmV w0 L a v->Calls Tryz.prog 85 #[v] w (vc5 a.deg w)) :
 Calls Tryz.prog 85 #[v] w (vc5 (vg0 (wc8 n 0) a.deg) w):=by
 have ha:=a.deg_bd;have IHA:=Lib.hid iha;obtain ⟨x,rfl,hx⟩:=h;have HX:=Lib.hid hx;obtain ⟨T,x,rfl⟩:=hx.iface;clear hx iha;generalize a.deg=da at *
 by_cases hlt:n < 0
 · rw [show wc8 n 0=0 from if_pos hlt];have hif:(if n < 0 then (0:Int) else n)=0:=if_pos hlt;have hde:decide (n < 0)=true:=by simpa using hlt
   have hma:max n 0=0:=by omega
   go_enter Tryz.func85,Tryz.ntmps85;go_wp2_with fail;obtain ⟨W,hW⟩:=n_m (w.alloc (.cells #[.iface T x,.int .i64 n] 204));have HB:Hid (∀ W',Ext W W'->(Ext W W'/\W'.cell? ⟨w.heap.size,0,none⟩=some (.iface T x)/\W'.cell? ⟨w.heap.size,1,none⟩=some (.int .i64 n))):=by
    intro W' hx;obtain ⟨hc,hf⟩:=hx.cells;refine ⟨hx,?_,?_⟩ <;> (rw [hc _ _ (by rw [<- hW]; simp),<- hW]; simp [go_sem])
   have HX0:Hid (Ext w W):=by
    have:Ext w W:=by rw [<- hW]; exact (Ext.refl w).alloc _
    exact this
   rw [hW];clear hW
   go_region_held3 (fun W' => Ext W W' /\ W'.cell? ⟨w.heap.size, 0, none⟩ = some (.iface T x) /\ W'.cell? ⟨w.heap.size, 1, none⟩ = some (.int .i64 n))
    (first | exact HB.out _ ((Ext.refl W).drew) | exact HB.out _ (by assumption))
    (first
      | (go_at_call 85
         refine (IHA.out _ _ HX.out).mono ?_;rintro e v1 ⟨rfl,x1⟩
         have y1:Ext W v1:=Ext.trans ((Ext.refl W).drew) x1)
      | (go_at_call 118
         refine (xgz (0) da _ (by omega) (by omega)).mono ?_
         rintro e v2 ⟨rfl,rfl⟩))
   all_goals
    have HY2:=Lib.hid (HX0.out.trans y1);clear y1 x1 HB HX0;go_wp2_with fail;go_ret;exact ⟨rfl,HY2.out⟩
 · rw [show wc8 n 0=n from if_neg hlt];have hge:0<=n:=by omega
   have hif:(if n < 0 then (0:Int) else n)=n:=if_neg hlt;have hde:decide (n < 0)=false:=by simpa using hlt
   have hma:max n 0=n:=by omega
   go_enter Tryz.func85,Tryz.ntmps85;go_wp2_with fail;obtain ⟨W,hW⟩:=n_m (w.alloc (.cells #[.iface T x,.int .i64 n] 204));have HB:Hid (∀ W',Ext W W'->(Ext W W'/\W'.cell? ⟨w.heap.size,0,none⟩=some (.iface T x)/\W'.cell? ⟨w.heap.size,1,none⟩=some (.int .i64 n))):=by
    intro W' hx;obtain ⟨hc,hf⟩:=hx.cells;refine ⟨hx,?_,?_⟩ <;> (rw [hc _ _ (by rw [<- hW]; simp),<- hW]; simp [go_sem])
   have HX0:Hid (Ext w W):=by
    have:Ext w W:=by rw [<- hW]; exact (Ext.refl w).alloc _
    exact this
   rw [hW];clear hW
   go_region_held3 (fun W' => Ext W W' /\ W'.cell? ⟨w.heap.size, 0, none⟩ = some (.iface T x) /\ W'.cell? ⟨w.heap.size, 1, none⟩ = some (.int .i64 n))
    (first | exact HB.out _ ((Ext.refl W).drew) | exact HB.out _ (by assumption))
    (first
      | (go_at_call 85
         refine (IHA.out _ _ HX.out).mono ?_;rintro e v1 ⟨rfl,x1⟩
         have y1:Ext W v1:=Ext.trans ((Ext.refl W).drew) x1)
      | (go_at_call 118
         refine (xgz (n) da _ (by omega) (by omega)).mono ?_
         rintro e v2 ⟨rfl,rfl⟩))
   all_goals
    have HY2:=Lib.hid (HX0.out.trans y1);clear y1 x1 HB HX0;go_wp2_with fail;go_ret;exact ⟨rfl,HY2.out⟩
theorem vi3 {w0 w:World} {L:Nat} {z:Int} {v:Value} (h:TmV w0 L (.num z) v):Calls Tryz.prog 85 #[v] w (vc5 0 w):=by
 obtain ⟨x,rfl,hx⟩:=h;go_enter Tryz.func85,Tryz.ntmps85;go_wp2_with fail;go_ret;exact ⟨rfl,Ext.refl _⟩
theorem wiu {w0 w:World} {L:Nat} {s:ByteArray} {v:Value} (h:TmV w0 L (.name s) v):Calls Tryz.prog 85 #[v] w (vc5 1 w):=by
 obtain rfl:=h;go_enter Tryz.func85,Tryz.ntmps85;go_wp2_with fail;go_ret;exact ⟨rfl,(Ext.refl _).alloc _⟩
theorem uhk {w0:World} {L:Nat} (t:Tm):∀ (v:Value) (w:World),TmV w0 L t v->Calls Tryz.prog 85 #[v] w (vc5 t.deg w):=by
 induction t with
 | num z=>exact fun v w h=>vi3 h
 | name s=>exact fun v w h=>wiu h
 | add a b iha ihb=>exact fun v w h=>wi3 h iha ihb
 | sub a b iha ihb=>exact fun v w h=>ji3 h iha ihb
 | mul a b iha ihb=>exact fun v w h=>gi3 h iha ihb
 | neg a iha=>exact fun v w h=>ui3 (a:=a) h iha
 | pow a n iha=>exact fun v w h=>ki3 h iha
end Go.Proofs.YtopddaabiinboaaGreat

/- Layer 4 (decimal): how many digits a number has. -/
set_option maxRecDepth 100000
set_option maxHeartbeats 8000000
namespace Go.Proofs.YtopddaabiinboaaGreat
open Go.RowKit
theorem ji4 (w:World):Calls Tryz.prog 243 #[.int .i64 10] w fun e w'=>e=.returned (.tuple #[.int .u32 1000000000,.int .i64 9])/\w=w':=by
 go_enter Tryz.func243,Tryz.ntmps243;go_wp2_with fail
 go_loop [4,5] (fun p c=>∃ k:Nat,k<=8/\p=.int .u64 ((10 ^ (k+1):Nat):Int)/\c=.int .i64 ((k+1:Nat):Int)) (fun _ c=>9 - (intOf c).toNat)
 case atStart=>exact ⟨0,by omega,rfl,rfl⟩
 case round =>
  obtain ⟨k,hk,rfl,rfl⟩:=hrel;have hcases:k=0\/k=1\/k=2\/k=3\/k=4\/k=5\/k=6\/k=7\/k=8:=by omega
  rcases hcases with rfl | rfl | rfl | rfl | rfl | rfl | rfl | rfl | rfl
  all_goals
   go_wp2_with fail
   first
    | (go_ret2; exact ⟨rfl,rfl⟩)
    | (go_round
       case rel=>first | exact ⟨1,by omega,rfl,rfl⟩ | exact ⟨2,by omega,rfl,rfl⟩ | exact ⟨3,by omega,rfl,rfl⟩ | exact ⟨4,by omega,rfl,rfl⟩ | exact ⟨5,by omega,rfl,rfl⟩ | exact ⟨6,by omega,rfl,rfl⟩ | exact ⟨7,by omega,rfl,rfl⟩ | exact ⟨8,by omega,rfl,rfl⟩
       case measure=>simp [intOf])
def vde (w:World) (g n:Nat):Prop:=∃ arr:Array Value,w.heap[g]?=some (.cells arr 5 (0,0))/\n<=arr.size/\∀ i,i < n->∃ b:Nat,b < 256/\arr[i]?=some (.int .u8 (b:Nat))
theorem vde.get {w:World} {g n:Nat} (h:vde w g n) (i:Nat) (hi:i < n):∃ b:Nat,b < 256/\w.cell? ⟨g,i,none⟩=some (.int .u8 (b:Nat))/\w.frozen? ⟨g,i,none⟩=false:=by
 obtain ⟨arr,h1,h2,h3⟩:=h;obtain ⟨b,hb,hg⟩:=h3 i hi;exact ⟨b,hb,by rw [cell_of_row w g i arr _ (0,0) h1,hg],by simp [World.frozen?,h1]⟩
theorem vde.set {w:World} {g n:Nat} (h:vde w g n) (i b:Nat) (hb:b < 256):vde (w.setCell ⟨g,i,none⟩ (.int .u8 (b:Nat))) g n:=by
 obtain ⟨arr,h1,h2,h3⟩:=h;refine ⟨arr.setIfInBounds i (.int .u8 (b:Nat)),by simp [World.setCell,Array.getElem?_modify,h1],by simpa using h2,fun k hk=>?_⟩;rw [Array.getElem?_setIfInBounds]
 by_cases hik:i=k
 · subst hik;rw [if_pos rfl,if_pos (by omega)];exact ⟨b,hb,rfl⟩
 · rw [if_neg hik];exact h3 k hk
theorem vde.drewN {w:World} {g n:Nat} (h:vde w g n) (k:Nat):vde (w.drewN k) g n:=h
theorem jh1 (g n cap:Nat) (w:World) (h:vde w g n) (hc:n<=cap) (hc':cap<=9223372036854775807) :
 Calls Tryz.prog 244 #[.slice (some ⟨g,0,none⟩) n cap] w fun e w'=>e=.returned (.tuple #[])/\vde w' g n/\Only g w w':=by
 have H:=Lib.hid h;clear h;go_enter Tryz.func244,Tryz.ntmps244;go_wp2_with fail
 go_loopw [2,3] (fun iv jv wr=>∃ i j:Nat,i+j=n/\iv=.int .i64 i/\jv=.int .i64 ((j:Int) - 1)/\Hid (vde wr g n/\Only g w wr)) (fun iv jv _=>n - (intOf iv).toNat)
 case atStart=>exact ⟨0,n,by omega,rfl,rfl,Lib.hid ⟨H.out,Only.refl _ _⟩⟩
 case round =>
  obtain ⟨i,j,hij,rfl,rfl,HI⟩:=hrel
  by_cases hlt:i+1 < j
  · obtain ⟨j,rfl⟩:∃ k,j=k+1:=⟨j - 1,by omega⟩;rw [show (((j+1:Nat):Int) - 1)=(j:Int) from by omega];have hjn:j < n:=by omega
    obtain ⟨x,hx,cx,fx⟩:=HI.out.1.get i (by omega);obtain ⟨y,hy,cy,fy⟩:=HI.out.1.get j (by omega);have hne:¬ (i=j):=by omega
    go_wp2_with fail
    go_region
    go_wp2_with fail
    go_roundw
    case rel=>exact ⟨i+1,j,by omega,by go_num,by go_num,Lib.hid ⟨((HI.out.1.drewN 1).set i y hy).set j x hx,((HI.out.2.drewN 1).setCell i _).setCell j _⟩⟩
    case measure=>simp [intOf]; omega
  · go_wp2_with fail
    go_end0
    exact ⟨rfl,HI.out.1,HI.out.2⟩
end Go.Proofs.YtopddaabiinboaaGreat

/- How many decimal digits a number has. No program in sight. -/
namespace Go.Proofs.YtopddaabiinboaaGreat
def ygu (n:Nat):Nat:=if _h:n < 10 then 1 else ygu (n / 10)+1
termination_by n
decreasing_by omega
theorem whc {n:Nat} (h:n < 10):ygu n=1:=by rw [ygu]; simp [h]
theorem uh5 {n:Nat} (h:10<=n):ygu n=ygu (n / 10)+1:=by rw [ygu]; simp [show ¬ n < 10 by omega]
theorem yhw (n:Nat):1<=ygu n:=by
 rcases Nat.lt_or_ge n 10 with h | h
 · rw [whc h]; omega
 · rw [uh5 h]; omega
def more (n:Nat):Nat:=if n=0 then 0 else ygu n
theorem gha:more 0=0:=rfl
theorem yhh {n:Nat} (h:n ≠ 0):more n=ygu n:=if_neg h
theorem wha {n:Nat} (h:n ≠ 0):more n=more (n / 10)+1:=by
 rw [yhh h];rcases Nat.lt_or_ge n 10 with h1 | h1
 · rw [whc h1,Nat.div_eq_of_lt h1,gha]
 · rw [uh5 h1,yhh (by omega)]
theorem gh9 (k:Nat):∀ n,10 ^ k<=n->more n=more (n / 10 ^ k)+k:=by
 induction k with
 | zero=>intro n _; simp
 | succ k ih =>
   intro n h;have hp:0 < 10 ^ k:=Nat.pow_pos (by omega);have h1:10 ^ k<=n / 10:=by
    rw [Nat.le_div_iff_mul_le (by omega)];rw [Nat.pow_succ] at h;exact h
   have hn:n ≠ 0:=by
    rintro rfl;have:0 < 10 ^ (k+1):=Nat.pow_pos (by omega);omega
   rw [wha hn,ih _ h1,Nat.div_div_eq_div_mul,Nat.pow_succ,Nat.mul_comm 10];omega
theorem uhm (n k:Nat) (h:n < 10 ^ k):more n<=k:=by
 induction k generalizing n with
 | zero => have : n = 0 := by simpa using h
           subst this; simp [more]
 | succ k ih =>
   by_cases hn:n=0
   · subst hn; simp [more]
   · rw [wha hn];have:n / 10 < 10 ^ k:=by
      rw [Nat.div_lt_iff_lt_mul (by omega)];rw [Nat.pow_succ] at h;exact h
     have:=ih _ this;omega
end Go.Proofs.YtopddaabiinboaaGreat

/- Layer 4 (decimal): Format, its length; Digits. -/
set_option maxRecDepth 100000
set_option maxHeartbeats 8000000
namespace Go.Proofs.YtopddaabiinboaaGreat
open Go.RowKit
def wgs (w:World) (base:Nat) (v:Value) (len:Nat):Prop:=∃ xs:List Value,w.ownsRow base 5 1 v len xs/\∀ u ∈ xs,∃ b:Nat,b < 256/\u=.int .u8 (b:Nat)
theorem ui2:(Tryz.prog.info? 5).map (fun i=>(i.zero,i.size,i.bytes))=some (some (.int .u8 0),1,1):=by kernel_rfl
def ugs (w:World) (v s8:Value) (R:Nat):Prop:=∃ (A:Option Addr) (c:Nat) (ds:List Nat),s8=.slice A ds.length c/\ds.length<=c/\c<=9223372036854775807/\ds.length<=17592186044416/\wc4 w A ds/\val ds=R/\(0 < ds.length->∀ ad,A=some ad->v.ownBlock ≠ some ad.block)
theorem ugs.natV {w:World} {v s8:Value} {R:Nat} (h:ugs w v s8 R):∃ ds,vc2 w s8 ds/\val ds=R/\ds.length<=17592186044416:=by
 obtain ⟨A,c,ds,e,h1,h2,h3,h4,h5,h6⟩:=h;exact ⟨ds,⟨A,c,e,h1,h2,h4⟩,h5,h3⟩
theorem uh4 {w w' : World} {base len R b : Nat} {v v' s8 : Value} {xs : List Value} (hown : w'.ownsRow base 5 1 v' (len + 1) (xs ++ [.int .u8 (b : Nat)])) (hx : ∀ u ∈ xs, ∃ b : Nat, b < 256 /\ u = .int .u8 (b : Nat)) (hb : b < 256)
 (hg:w.grownBy w' v.ownBlock) (hat:v'.ownBlock=v.ownBlock\/v'.ownBlock=some w.heap.size) (hr:ugs w v s8 R):wgs w' base v' (len+1)/\ugs w' v' s8 R:=by
 refine ⟨⟨_,hown,fun u hu=>?_⟩,?_⟩
 · rcases List.mem_append.1 hu with h | h
   · exact hx u h
   · exact ⟨b,hb,by simpa using h⟩
 · obtain ⟨A,c,ds,e,h1,h2,h3,h4,h5,h6⟩:=hr;refine ⟨A,c,ds,e,h1,h2,h3,⟨h4.1,fun hl=>?_⟩,h5,fun hl ad e'=>?_⟩
   · obtain ⟨ad,e',hb',hc'⟩:=h4.2 hl;refine ⟨ad,e',Nat.lt_of_lt_of_le hb' hg.size,fun j hj=>?_⟩;have hne:=h6 hl ad e';rw [World.cell?_of_block (hg.block _ (by rw [uc2]; exact hb') (by rw [uc2]; exact fun e=>hne e.symm))];exact hc' j hj
   · rcases hat with h | h
     · rw [h]; exact h6 hl ad e'
     · rw [h];intro e2;injection e2 with e2
       obtain ⟨ad',e3,hb',-⟩:=h4.2 hl;rw [e'] at e3;injection e3 with e3
       subst e3;omega
theorem wh9 (n:Nat):more n<=10 * (dg n).length:=by
 apply uhm;have h:=ydb n;have h2:B32 ^ (dg n).length<=(10 ^ 10) ^ (dg n).length:=Nat.pow_le_pow_left (by decide) _;rw [<- Nat.pow_mul] at h2;omega
def FmtInv (w0:World) (N R:Nat) (s7 s8:Value) (wr:World):Prop:=∃ len,wgs wr w0.heap.size s7 len/\ugs wr s7 s8 R/\len+more R=more N/\Ext w0 wr
def uhn (last:Bool) (len' len p p0 i:Nat):Prop:=if last then len'+more p=len+more p0/\i+more p<=9 else len'=len+i
def zie (w0:World) (R' len p0:Nat) (last:Bool) (vq:Value) (i p:Nat) (s7:Value) (wr:World):Prop:=
 ∃ len',wgs wr w0.heap.size s7 len'/\ugs wr s7 vq R'/\uhn last len' len p p0 i/\Ext w0 wr
theorem ugs.kept {w w':World} {v s8:Value} {R:Nat} (h:ugs w v s8 R) (hx:Ext w w'):ugs w' v s8 R:=by
 obtain ⟨A,c,ds,e,h1,h2,h3,h4,h5,h6⟩:=h;exact ⟨A,c,ds,e,h1,h2,h3,h4.ext hx,h5,h6⟩
theorem wgs.lt {w:World} {base len:Nat} {v:Value} (h:wgs w base v len):∀ g,v.ownBlock=some g->g < w.heap.size:=by
 intro g hg;obtain ⟨xs,⟨-,h2⟩,-⟩:=h;rcases h2 with ⟨rfl,-⟩ | ⟨g',cap,cur,rfl,-,hh,-⟩
 · simp [Value.ownBlock] at hg
 · have:g'=g:=by simpa [Value.ownBlock] using hg
   subst this;rcases Nat.lt_or_ge g' w.heap.size with hlt | hge
   · exact hlt
   · rw [Array.getElem?_eq_none hge] at hh; cases hh
theorem wgs.kept {w w':World} {base len:Nat} {v:Value} (h:wgs w base v len) (hx:Ext w w'):wgs w' base v len:=by
 have hlt:=h.lt;obtain ⟨xs,h1,h2⟩:=h;exact ⟨xs,h1.kept (row:=none) ⟨hx.below.os,hx.below.tape,hx.below.output,hx.size,fun k hk _=>hx.below.block k hk⟩ (by cases hv:v.ownBlock <;> simp),h2⟩
theorem wgs.base_le {w:World} {base len:Nat} {v:Value} (h:wgs w base v len):∀ g,v.ownBlock=some g->base<=g:=by
 intro g hg;obtain ⟨xs,⟨-,h2⟩,-⟩:=h;rcases h2 with ⟨rfl,-⟩ | ⟨g',cap,cur,rfl,hb,-⟩
 · simp [Value.ownBlock] at hg
 · have:g'=g:=by simpa [Value.ownBlock] using hg
   subst this;exact hb
theorem Ext.grown {w0 w w':World} {row:Option Nat} (hx:Ext w0 w) (hg:w.grownBy w' row) (hr:∀ g,row=some g->w0.heap.size<=g):Ext w0 w':=
 Below.grown hx hg hx.size hr
theorem ghj (ns:List Int) (s:ByteArray):(ns.foldl (fun r n=>r.push (UInt8.ofNat n.toNat)) s).size=s.size+ns.length:=by
 induction ns generalizing s with
 | nil=>simp
 | cons n r ih=>rw [List.foldl_cons,ih,ByteArray.size_push,List.length_cons]; omega
theorem zhm {w:World} {g n:Nat} (h:vde w g n) (cap:Nat) :
 ∃ s:ByteArray,s.size=n/\(convert 309 9 (.slice (some ⟨g,0,none⟩) n cap)).run Tryz.prog w=.ok (.string s) w:=by
 have hex:∀ i,∃ b:Int,i < n->w.cell? ⟨g,i,none⟩=some (.int .u8 b):=fun i=>by
  by_cases hi:i < n
  · obtain ⟨b,-,hc,-⟩:=h.get i hi;exact ⟨b,fun _=>hc⟩
  · exact ⟨0,fun hh=>absurd hh hi⟩
 let f:Nat->Int:=fun i=>Classical.choose (hex i)
 have hf:∀ i,i < n->w.cell? ⟨g,i,none⟩=some (.int .u8 (f i)):=fun i hi=>Classical.choose_spec (hex i) hi
 have hl:=run_loadCells (P:=Tryz.prog) w ⟨g,0,none⟩ n (fun j=>.int .u8 (f j)) (fun j hj=>by rw [zc9,Nat.zero_add]; exact hf j hj);have hl2:(loadCells ⟨g,0,none⟩ n).run Tryz.prog w=.ok (((List.range n).map f).map (Value.int .u8)).toArray w:=by
  rw [hl,List.map_map]; rfl
 refine ⟨((List.range n).map f).foldl (fun r n=>r.push (UInt8.ofNat n.toNat)) ByteArray.empty,?_,?_⟩
 · rw [ghj]; simp
 · rw [run_convert_bytes_string w 309 9 5 _ _ _ Tryz.underlying309 Tryz.underlying5 Tryz.underlying9];exact run_bytesToString w _ n cap _ hl2
theorem uhp {w0 wr wq : World} {R' len p0 i p len' b : Nat} {last : Bool} {vq v v' : Value} {xs : List Value} {o : Obj} (hown : (wr.ownsRow w0.heap.size 5 1 v len' xs)) (hxs : ∀ u ∈ xs, ∃ b : Nat, b < 256 /\ u = .int .u8 (b : Nat))
 (hr:ugs wr v vq R') (hc:uhn last len' len p p0 i) (hx:Ext w0 wr) (hgo:last=false\/p ≠ 0)
 (hown':wq.ownsRow w0.heap.size 5 1 v' (len'+1) (xs ++ [.int .u8 (b:Nat)])) (hb:b < 256) (hg:(wr.alloc o).grownBy wq v.ownBlock) (hat:v'.ownBlock=v.ownBlock\/v'.ownBlock=some (wr.heap.size+1)) :
 zie w0 R' len p0 last vq (i+1) (p / 10) v' wq:=by
 have hbase:∀ g,v.ownBlock=some g->w0.heap.size<=g:=wgs.base_le ⟨xs,hown,hxs⟩;obtain ⟨s1,s2⟩:=uh4 hown' hxs hb hg (by simpa using hat) (hr.kept ((Ext.refl wr).alloc o));refine ⟨len'+1,s1,s2,?_,(hx.alloc o).grown hg hbase⟩;unfold uhn at hc ⊢;cases last
 · simp at hc ⊢; omega
 · rcases hgo with h | h
   · cases h
   · simp only [if_true] at hc ⊢;have:=wha h;omega
theorem uib (x:Value) (z:Int) (L:Nat) (w:World) (h:xc4 w x z L) (hs:L<=1000000000000) (hz0:0<=z) :
 Calls Tryz.prog 207 #[x,.int .i64 10] w fun e w'=>(∃ s:ByteArray,s.size=ygu z.natAbs/\e=.returned (.string s))/\Ext w w':=by
 have H:=Lib.hid h;obtain ⟨neg,v,ds,rfl,⟨A,c,rfl,h1,h2,h3⟩,hz,hl⟩:=h;have H3:=Lib.hid h3;clear h3
 by_cases hzz:z=0
 · subst hzz;have hsz:(sgI 0 == 0)=true:=by decide
   have x0:Ext w (w.alloc (Obj.cells #[.bool neg,.slice A ds.length c] 27)):=(Ext.refl w).alloc _;have X0:=Lib.hid x0;clear x0 hz;go_enter Tryz.func207,Tryz.ntmps207;go_wp2_with fail;refine (wgr _ 0 L _ (H.out.ext X0.out)).mono ?_;rintro e w1 ⟨rfl,y1⟩;have Y1:=Lib.hid y1;clear y1;go_wp2_with fail;go_ret;exact ⟨⟨_,by rw [whc (by decide)]; rfl,rfl⟩,X0.out.trans Y1.out⟩
 · have hneg:neg=false:=by
    cases neg
    · rfl
    · exfalso; simp [sgn] at hz; omega
   subst hneg;have hzv:z.natAbs=val ds:=by rw [hz]; exact qc7 _ _
   have HZV:=Lib.hid hzv;have hsz:(sgI z == 0)=false:=by
    unfold sgI; rw [qgw (by omega)]; rfl
   have HNZ:Hid (val ds ≠ 0):=by
    intro e;rw [e] at hzv;omega
   clear hz hzv hzz hz0;go_enter Tryz.func207,Tryz.ntmps207;go_wp2_with fail;have x0:Ext w (w.alloc (Obj.cells #[.bool false,.slice A ds.length c] 27)):=(Ext.refl w).alloc _;have hcA:∀ w',Ext (w.alloc (Obj.cells #[.bool false,.slice A ds.length c] 27)) w'->w'.cell? ⟨w.heap.size,0,none⟩=some (.bool false)/\w'.cell? ⟨w.heap.size,1,none⟩=some (.slice A ds.length c):=by
    intro w' hx;obtain ⟨hc,-⟩:=hx.cells;exact ⟨by rw [hc _ _ (by simp)]; simp [World.cell?_alloc_new],by rw [hc _ _ (by simp)]; simp [World.cell?_alloc_new]⟩
   have HCA:=Lib.hid hcA;have X0:=Lib.hid x0;refine (wgr _ z L _ (H.out.ext x0)).mono ?_;generalize w.alloc (Obj.cells #[.bool false,.slice A ds.length c] 27)=W at *;clear hcA x0;rintro e w1 ⟨rfl,y1⟩;obtain ⟨c0,c1⟩:=HCA.out w1 y1;have Y1:=Lib.hid y1;clear y1;go_wp2_with (go_at_call 243; refine (ji4 _).mono ?_; rintro e w' ⟨rfl,rfl⟩)
   have HI0:Hid (FmtInv w1 (val ds) (val ds) (.slice none 0 0) (.slice A ds.length c) w1):=
    ⟨0,⟨[],⟨by simp,.inl ⟨rfl,rfl⟩⟩,by simp⟩,⟨A,c,ds,rfl,h1,h2,by omega,H3.out.ext (X0.out.trans Y1.out),rfl,fun _ ad _=>by simp [Value.ownBlock]⟩,by omega,Ext.refl _⟩
   have hmb:more (val ds)<=10000000000000:=by
    have h4:=wh9 (val ds);have h5:=vc3 H3.out.1;omega
   go_loopg [7,8] (val ds) (fun gk s7 s8 wr=>Hid (FmtInv w1 (val ds) gk s7 s8 wr))
   case atStart=>exact HI0
   case round =>
    clear HI0;obtain ⟨len,ho,hr,hlen,hx⟩:=hrel.out;obtain ⟨d8,n8,v8,l8⟩:=hr.natV
    by_cases hR:gk=0
    · have hb8:(val d8 == 0)=true:=by rw [v8]; simp [hR]
      obtain ⟨c0,c1⟩:=HCA.out wr (Y1.out.trans hx);have hlenN:len=ygu z.natAbs:=by
       rw [hR,gha,yhh HNZ.out] at hlen;rw [HZV.out];omega
      have HLEN:=Lib.hid hlenN;have hlp:1<=len:=by rw [hlenN]; exact yhw _
      have HX:=Lib.hid (X0.out.trans (Y1.out.trans hx));have hbl:w.heap.size<=w1.heap.size:=by have:=X0.out.size; have:=Y1.out.size; omega
      have hl10:len<=10000000000000:=by omega
      obtain ⟨xs,⟨hxl,hown⟩,hxs⟩:=ho;rcases hown with ⟨-,h0⟩ | ⟨g,cap,cur,rfl,hbg,hh,hnc,hcm,hcs,htk⟩
      · omega
      have hBB:vde wr g len:=by
       refine ⟨cur,hh,by omega,fun i hi=>?_⟩;have hil:i < xs.length:=by omega
       obtain ⟨b,hb,hu⟩:=hxs xs[i] (List.getElem_mem hil);refine ⟨b,hb,?_⟩;have h5:(cur.toList.take (len * 1))[i]?=some xs[i]:=by rw [htk,List.getElem?_eq_getElem hil]
       rw [List.getElem?_take_of_lt (by omega)] at h5;simpa [hu] using h5
      have HBB:=Lib.hid hBB;clear hrel hr hlen hx v8 hlenN hxl hxs hh hcs htk hBB;unfold maxLen at hcm;go_wp2_with fail;refine (qdi _ _ _ n8).mono ?_;rintro e w' ⟨rfl,rfl⟩;go_wp2_with fail;refine (jh1 g len cap _ HBB.out hnc hcm).mono ?_;rintro e w5 ⟨rfl,hB5,hO5⟩;have HB5:=Lib.hid hB5;have HO5:=Lib.hid hO5;clear hB5 hO5;obtain ⟨str,hsl,hrun⟩:=zhm HB5.out cap;have HSL:=Lib.hid hsl;clear hsl;go_wp2_with fail;go_ret;exact ⟨⟨str,by rw [HSL.out]; exact HLEN.out,rfl⟩,HO5.out.ext HX.out (by omega)⟩
    · have hb8:(val d8 == 0)=false:=by rw [v8]; simp [hR]
      have HO:=Lib.hid ho;have HR:=Lib.hid hr;have HL:=Lib.hid hlen;have HX:=Lib.hid hx;have V8:=Lib.hid v8;have N8:=Lib.hid n8;clear hrel ho hr hlen hx v8 n8;go_wp2_with fail;refine (qdi _ _ _ N8.out).mono ?_;rintro e w' ⟨rfl,rfl⟩;go_wp2_with fail;refine (zhc _ _ 1000000000 _ N8.out (by omega) (by omega) (by omega)).mono ?_;rw [V8.out];rintro e w2 ⟨vq,rfl,nq,fq,y2⟩;have hp0:gk % 1000000000 < 1000000000:=Nat.mod_lt _ (by omega);have HR2:Hid (ugs w2 u7 vq (gk / 1000000000)):=by
       obtain ⟨Aq,cq,rfl,i1,i2,i3⟩:=nq;refine ⟨Aq,cq,_,rfl,i1,i2,?_,i3,jc3 _,fun _ ad e hh=>?_⟩
       · have h6:=xc6 (Nat.div_le_self gk 1000000000);have h7:=vc3 N8.out.digs;rw [V8.out] at h7;omega
       · subst e;have h8:=fq ad _ _ rfl;have h9:=HO.out.lt _ hh;omega
      have HO2:=Lib.hid (HO.out.kept y2);have HX2:=Lib.hid (HX.out.trans y2);have NQ:=Lib.hid nq;clear nq fq y2;go_wp2_with fail;refine (qdi _ _ _ NQ.out).mono ?_;rw [jc3];rintro e w' ⟨rfl,rfl⟩;obtain ⟨last,hlast⟩:∃ last,last=(gk / 1000000000 == 0):=⟨_,rfl⟩;rw [<- hlast];have HLAST:=Lib.hid hlast;clear hlast;go_wp2_with fail;have HIN:Hid (zie w1 (gk / 1000000000) len (gk % 1000000000) last vq 0 (gk % 1000000000) u7 w2):=by
       refine ⟨len,HO2.out,HR2.out,?_,HX2.out⟩;unfold uhn;cases last
       · simp
       · simp only [if_true];exact ⟨trivial,by have:=uhm _ 9 hp0; omega⟩
      obtain ⟨wo,rfl⟩:∃ wo:World,wo=wr:=⟨_,rfl⟩;obtain ⟨i0,hi0,hz0,hz1,hz2⟩:=info_parts ui2;have HI0:=Lib.hid (And.intro hi0 (And.intro hz0 (And.intro hz1 hz2)));clear hi0 hz0 hz1 hz2;have hlen10:len<=10000000000000:=by have:=HL.out; omega
      go_loopw [7,9,11] (fun s7 pv iv wq=>∃ i p:Nat,i<=9/\iv=.int .i64 i/\pv=.int .u32 p/\p < 1000000000/\Hid (zie w1 (gk / 1000000000) len (gk % 1000000000) last vq i p s7 wq)) (fun _ _ iv _=>9 - (intOf iv).toNat)
      case atStart=>exact ⟨0,gk % 1000000000,by omega,rfl,by simp,hp0,HIN⟩
      case round =>
       clear HIN;obtain ⟨i,p,hi,rfl,rfl,hp,HI⟩:=hrel;obtain ⟨len',ho',hr',hc',hx'⟩:=HI.out;have hl':len'<=20000000000000:=by
        unfold uhn at hc';cases last
        · simp at hc'; omega
        · simp at hc';have:=uhm _ 9 hp0;omega
       by_cases hgo:i < 9/\(last=false\/p ≠ 0)
       · obtain ⟨hi9,hgo⟩:=hgo;obtain ⟨xs,hown,hxs⟩:=ho';have HS:=Lib.hid hr';have HC:=Lib.hid hc';have HX':=Lib.hid hx';have HXS:=Lib.hid hxs;have HOWN:=Lib.hid hown;clear HI hr' hc' hx' hxs hown;have hp10:p % 10 < 10:=Nat.mod_lt _ (by omega)
         by_cases hgo2:last=false
         · subst hgo2;clear hgo
           go_wp2_with (at_builtin
                        refine wpList_append_own_at _ rfl (.tmp 47) (.tmp 53) _ rfl w1.heap.size 5 i0 (.int .u8 0) 1 1 Tryz.underlying309 HI0.out.1 HI0.out.2.1 HI0.out.2.2.1 HI0.out.2.2.2 rfl (by omega) _ len' xs rfl (HOWN.out.alloc _) ⟨wr.heap.size,0,none⟩ 1 1 _ rfl rfl (World.news_of_block (heap_alloc_new wr _)) ?_ ?_ ?_ ?_ ?_)
           · simp [Value.oneCell']
           · unfold maxLen; omega
           · omega
           · have:=HX'.out.size; simp; omega
           · intro v' wq hown' hg' _ hat';have HSTEP:=Lib.hid (uhp HOWN.out HXS.out HS.out HC.out HX'.out (.inl rfl) hown' (UInt8.toNat_lt _) hg' hat');clear hown' hg' hat' HOWN HXS HS HC HX';go_wp2_with fail
             go_roundw
             case rel=>exact ⟨i+1,p / 10,by omega,by go_num,by simp,by omega,HSTEP⟩
             case measure=>simp [intOf]; omega
         · have hpne:p ≠ 0:=by
             rcases hgo with h | h
             · exact absurd h hgo2
             · exact h
           clear hgo;cases last
           · exact absurd rfl hgo2
           · clear hgo2;have hpb:((p:Int) != 0)=true:=by simp; omega
             go_wp2_with (at_builtin
                          refine wpList_append_own_at _ rfl (.tmp 47) (.tmp 53) _ rfl w1.heap.size 5 i0 (.int .u8 0) 1 1 Tryz.underlying309 HI0.out.1 HI0.out.2.1 HI0.out.2.2.1 HI0.out.2.2.2 rfl (by omega) _ len' xs rfl (HOWN.out.alloc _) ⟨wr.heap.size,0,none⟩ 1 1 _ rfl rfl (World.news_of_block (heap_alloc_new wr _)) ?_ ?_ ?_ ?_ ?_)
             · simp [Value.oneCell']
             · unfold maxLen; omega
             · omega
             · have:=HX'.out.size; simp; omega
             · intro v' wq hown' hg' _ hat';have HSTEP:=Lib.hid (uhp HOWN.out HXS.out HS.out HC.out HX'.out (.inr hpne) hown' (UInt8.toNat_lt _) hg' hat');clear hown' hg' hat' HOWN HXS HS HC HX';go_wp2_with fail
               go_roundw
               case rel=>exact ⟨i+1,p / 10,by omega,by go_num,by simp,by omega,HSTEP⟩
               case measure=>simp [intOf]; omega
       · have hend:len'+more (gk / 1000000000)=more (val ds):=by
          have hL:=HL.out;unfold uhn at hc';cases last
          · have h9:i=9:=by
             rcases Nat.lt_or_ge i 9 with h | h
             · exact absurd ⟨h,.inl rfl⟩ hgo
             · omega
            have hq:gk / 1000000000 ≠ 0:=by
             have:=HLAST.out;intro e;rw [e] at this;simp at this
            have h10:10 ^ 9<=gk:=by
             rcases Nat.lt_or_ge gk (10 ^ 9) with h | h
             · exact absurd (Nat.div_eq_of_lt h) hq
             · exact h
            have h11:=gh9 9 gk h10;simp at hc';have h12:(10:Nat) ^ 9=1000000000:=by decide
            rw [h12] at h11;omega
          · have hq:gk / 1000000000=0:=by
             have:=HLAST.out;simpa using this.symm
            have hgp:gk % 1000000000=gk:=by omega
            have hp0':more p=0:=by
             rcases Nat.lt_or_ge i 9 with h | h
             · have:p=0:=Decidable.byContradiction fun hne=>hgo ⟨h,.inr hne⟩
               rw [this]; rfl
             · simp only [if_true] at hc'; omega
            simp only [if_true] at hc';rw [hq,hgp] at *;rw [gha];omega
         have HS2:Hid (FmtInv w1 (val ds) (gk / 1000000000) u7 vq wr):=⟨len',ho',hr',hend,hx'⟩;have hlt2:gk / 1000000000 < gk:=Nat.div_lt_self (by omega) (by omega);have hb:(decide ((i:Int) < 9)=false)\/(decide ((i:Int) < 9)=true/\last=true/\p=0):=by
          rcases Nat.lt_or_ge i 9 with h | h
          · right
            refine ⟨by simp; omega,?_,Decidable.byContradiction fun hne=>hgo ⟨h,.inr hne⟩⟩;cases last
            · exact absurd ⟨h,.inl rfl⟩ hgo
            · rfl
          · left; simp; omega
         clear HI ho' hr' hc' hx' hend hgo;rcases hb with hb | ⟨hb,hb2,hb3⟩
         · go_wp2_with fail
           go_roundg (gk / 1000000000)
           case rel=>exact HS2
           case measure=>exact hlt2
         · subst hb2;subst hb3;go_wp2_with fail
           go_roundg (gk / 1000000000)
           case rel=>exact HS2
           case measure=>exact hlt2
end Go.Proofs.YtopddaabiinboaaGreat

/- Layer 4 (decimal): Format and Digits. -/
namespace Go.Proofs.YtopddaabiinboaaGreat
open Go.RowKit
theorem vid (x:Value) (z:Int) (L:Nat) (w:World) (h:xc4 w x z L) (hs:L<=1000000000000) (hz0:0<=z) :
 Calls Tryz.prog 164 #[x] w fun e w'=>(∃ s:ByteArray,s.size=ygu z.natAbs/\e=.returned (.string s))/\Ext w w':=by
 have H:=Lib.hid h;obtain ⟨neg,v,ds,rfl,⟨A,c,rfl,h1,h2,h3⟩,hz,hl⟩:=h;clear h3 hz;go_enter Tryz.func164,Tryz.ntmps164;go_wp2_with fail;generalize hW:w.alloc (Obj.cells #[.bool neg,.slice A ds.length c] 27)=W;have HX0:Hid (Ext w W):=by
  have:Ext w W:=by rw [<- hW]; exact (Ext.refl w).alloc _
  exact this
 have HWS:Hid (W.heap.size=w.heap.size+1):=by
  have:W.heap.size=w.heap.size+1:=by rw [<- hW]; simp
  exact this
 have HS:Hid (∀ W',Ext W W'->(Ext w W'/\W'.cell? ⟨w.heap.size,0,none⟩=some (.bool neg)/\W'.cell? ⟨w.heap.size,1,none⟩=some (.slice A ds.length c))):=by
  intro W' hx;obtain ⟨hc,hf⟩:=hx.cells;have hsz:=HWS.out;refine ⟨HX0.out.trans hx,?_,?_⟩ <;> (rw [hc _ _ (by omega),<- hW]; simp [go_sem])
 clear hW;obtain ⟨e0,b0,b1⟩:=HS.out W (Ext.refl W);refine (uib _ z L _ (H.out.ext e0) hs hz0).mono ?_;rintro e w2 ⟨⟨s,hs1,rfl⟩,y2⟩;have HS1:=Lib.hid hs1;clear e0 b0 b1 hs1;go_wp2_with fail;go_ret;exact ⟨⟨s,HS1.out,rfl⟩,HX0.out.trans y2⟩
theorem yie (x:Value) (z:Int) (L:Nat) (w:World) (h:xc4 w x z L) (hs:L<=1000000000000) :
 Calls Tryz.prog 119 #[x] w fun e w'=>e=.returned (.int .i64 (ygu z.natAbs:Nat))/\Ext w w':=by
 have H:=Lib.hid h;obtain ⟨neg,v,ds,rfl,⟨A,c,rfl,h1,h2,h3⟩,hz,hl⟩:=h;have HL:Hid ((dg z.natAbs).length<=L):=H.out.len;clear h3 hz;go_enter Tryz.func119,Tryz.ntmps119;go_wp2_with fail;generalize hW:w.alloc (Obj.cells #[.bool neg,.slice A ds.length c] 27)=W;have HX0:Hid (Ext w W):=by
  have:Ext w W:=by rw [<- hW]; exact (Ext.refl w).alloc _
  exact this
 have HWS:Hid (W.heap.size=w.heap.size+1):=by
  have:W.heap.size=w.heap.size+1:=by rw [<- hW]; simp
  exact this
 have HS:Hid (∀ W',Ext W W'->(Ext w W'/\W'.cell? ⟨w.heap.size,0,none⟩=some (.bool neg)/\W'.cell? ⟨w.heap.size,1,none⟩=some (.slice A ds.length c))):=by
  intro W' hx;obtain ⟨hc,hf⟩:=hx.cells;have hsz:=HWS.out;refine ⟨HX0.out.trans hx,?_,?_⟩ <;> (rw [hc _ _ (by omega),<- hW]; simp [go_sem])
 clear hW;obtain ⟨e0,b0,b1⟩:=HS.out W (Ext.refl W);refine (yi5 _ z L _ (H.out.ext e0) (by omega)).mono ?_;rintro e w1 ⟨x1,rfl,n1,y1⟩;have Y1:=Lib.hid y1;have N1:=Lib.hid n1;clear e0 b0 b1 y1 n1;go_wp2_with fail;refine (vid _ (z.natAbs:Int) L _ (N1.out.raw.mono HL.out) hs (by omega)).mono ?_;rw [Int.natAbs_natCast];rintro e w2 ⟨⟨s,hs1,rfl⟩,y2⟩;go_wp2_with fail;go_ret;exact ⟨rfl,HX0.out.trans (Y1.out.trans y2)⟩
end Go.Proofs.YtopddaabiinboaaGreat

/- Layer 34: the names that occur in terms and formulas, passed to a function. -/
set_option maxRecDepth 100000
set_option maxHeartbeats 8000000
namespace Go.Proofs.YtopddaabiinboaaGreat
open Go.RowKit
attribute [local go_sem] gdg jde jdh vdg ydh zdh udg gdb kde wdg qdh wgt uc9 xdh wdb
structure jc4 (own : Nat -> Prop) (W : World) (own' : Nat -> Prop) (W' : World) : Prop where
 os:W'.os=W.os
 tape:W'.tape=W.tape
 output:W'.output=W.output
 size:W.heap.size<=W'.heap.size
 block:∀ i,i < W.heap.size->¬ own i->W'.heap[i]?=W.heap[i]?
 own:∀ i,i < W.heap.size->own' i->own i
theorem jc4.refl (own:Nat->Prop) (W:World):jc4 own W own W:=⟨rfl,rfl,rfl,Nat.le_refl _,fun _ _ _=>rfl,fun _ _ h=>h⟩
theorem jc4.trans {o1 o2 o3:Nat->Prop} {a b c:World} (h:jc4 o1 a o2 b) (k:jc4 o2 b o3 c):jc4 o1 a o3 c:=
 ⟨k.os.trans h.os,k.tape.trans h.tape,k.output.trans h.output,Nat.le_trans h.size k.size,
   fun i hi hn=>(k.block i (Nat.lt_of_lt_of_le hi h.size) (fun ho=>hn (h.own i hi ho))).trans (h.block i hi hn),
   fun i hi ho=>h.own i hi (k.own i (Nat.lt_of_lt_of_le hi h.size) ho)⟩
theorem jc4.of_ext {o:Nat->Prop} {a b:World} (h:Ext a b):jc4 o a o b:=
 ⟨h.below.os,h.below.tape,h.below.output,h.size,fun i hi _=>h.below.block i hi,fun _ _ h=>h⟩
theorem jc4.ext {w0 a b:World} {o1 o2:Nat->Prop} (h:jc4 o1 a o2 b) (hx:Ext w0 a) (ho:∀ i,o1 i->w0.heap.size<=i):Ext w0 b:=
 ⟨h.os.trans hx.below.os,h.tape.trans hx.below.tape,h.output.trans hx.below.output,Nat.le_trans hx.size h.size,
   fun i hi=>(h.block i (Nat.lt_of_lt_of_le hi hx.size) (fun hh=>by have:=ho i hh; omega)).trans (hx.below.block i hi)⟩
theorem jc4.cell {o1 o2:Nat->Prop} {a b:World} (h:jc4 o1 a o2 b) {p:Addr} (hp:p.block < a.heap.size) (hn:¬ o1 p.block):b.cell? p=a.cell? p:=World.cell?_of_block (h.block _ hp hn)
theorem SlR.keeps {α:Type} {P:α->Value->Prop} {w w':World} {v:Value} {l:List α} {o1 o2:Nat->Prop} (h:SlR (fun _=>P) w v l) (k:jc4 o1 w o2 w') (hn:∀ ad n c,v=.slice (some ad) n c->¬ o1 ad.block):SlR (fun _=>P) w' v l:=by
 obtain ⟨A,c,e,h1,h2,h3⟩:=h;refine ⟨A,c,e,h1,h2,fun j hj=>?_⟩;obtain ⟨ad,x,rfl,hb,hc,hp⟩:=h3 j hj;exact ⟨ad,x,rfl,Nat.lt_of_lt_of_le hb k.size,(k.cell (by rw [uc2]; exact hb) (by rw [uc2]; exact hn _ _ _ e)).trans hc,hp⟩
theorem SlR.get_ {α:Type} {P:α->Value->Prop} {w:World} {A:Option Addr} {n c:Nat} {l:List α} (h:SlR (fun _=>P) w (.slice A n c) l) (j:Nat) (hj:j < l.length):∃ ad x,A=some ad/\w.cell? (ad.add j)=some x/\P l[j] x:=by
 obtain ⟨A',c',e,-,-,h3⟩:=h;obtain ⟨ad,x,rfl,-,hc,hp⟩:=h3 j hj;injection e with e1 e2 e3
 exact ⟨ad,x,e1,hc,hp⟩
theorem SlR.len {α:Type} {P:World->α->Value->Prop} {w:World} {v:Value} {l:List α} (h:SlR P w v l):∃ A c,v=.slice A l.length c:=by
 obtain ⟨A',c',e,-⟩:=h;exact ⟨A',c',e⟩
structure uil {α : Type} (K : Nat) (caps : Array Value) (I : Nat -> World -> (Nat -> Prop) -> α -> Prop) (step : ByteArray -> α -> α) : Prop where
 enter:∀ args W,(callFunc K args).run Tryz.prog W=.ok (.enter K args) W
 ext:∀ b W W' own acc,I b W own acc->Ext W W'->I b W' own acc
 less:∀ b b' W own acc,I b W own acc->b'<=b->I b' W own acc
 lt:∀ b W own acc,I b W own acc->∀ i,own i->i < W.heap.size
 call:∀ b W own acc s,I (b+1) W own acc->Calls Tryz.prog K (#[.string s] ++ caps) W fun e W'=>(∃ v,e=.returned v)/\∃ own',I b W' own' (step s acc)/\jc4 own W own' W'
def Tm.fold {α : Type} (st : ByteArray -> α -> α) : Tm -> α -> α
 | .num _,x=>x
 | .name s,x=>st s x
 | .add a b,x=>b.fold st (a.fold st x)
 | .sub a b,x=>b.fold st (a.fold st x)
 | .mul a b,x=>b.fold st (a.fold st x)
 | .neg a,x=>a.fold st x
 | .pow a _,x=>a.fold st x
def jg1 {α:Type} (st:ByteArray->α->α) (l:List Tm) (x:α):α:=l.foldl (fun acc k=>k.fold st acc) x
theorem yhs {α:Type} (st:ByteArray->α->α) (l:List Tm) (x:α) (k:Nat) (h:k < l.length):jg1 st (l.take (k+1)) x=(l[k]).fold st (jg1 st (l.take k) x):=by
 unfold jg1;rw [List.take_succ_eq_append_getElem h,List.foldl_append]; rfl
def Tm.isName : Tm -> Bool
 | .name _=>true
 | _=>false
theorem Tm.fold_kids {α:Type} (st:ByteArray->α->α) (t:Tm) (x:α) (h:t.isName=false):t.fold st x=jg1 st t.kids x:=by
 cases t <;> simp_all [Tm.fold,Tm.kids,jg1,Tm.isName]
def Tm.sz : Tm -> Nat
 | .num _=>1
 | .name _=>1
 | .add a b=>a.sz+b.sz+1
 | .sub a b=>a.sz+b.sz+1
 | .mul a b=>a.sz+b.sz+1
 | .neg a=>a.sz+1
 | .pow a _=>a.sz+1
theorem Tm.kids_lt (t k:Tm) (h:k ∈ t.kids):k.sz < t.sz:=by
 cases t <;> simp [Tm.kids] at h
 · rcases h with rfl | rfl <;> simp [Tm.sz] <;> omega
 · rcases h with rfl | rfl <;> simp [Tm.sz] <;> omega
 · rcases h with rfl | rfl <;> simp [Tm.sz] <;> omega
 · subst h; simp [Tm.sz]
 · subst h; simp [Tm.sz]
def ghc (l:List Tm):Nat:=(l.map Tm.sz).sum
theorem qh7 (t:Tm):ghc t.kids+1=t.sz:=by cases t <;> simp [Tm.kids,ghc,Tm.sz] <;> omega
theorem jh7 (l:List Tm) (k:Nat) (h:k < l.length):ghc (l.drop k)=l[k].sz+ghc (l.drop (k+1)):=by
 unfold ghc;rw [List.drop_eq_getElem_cons h,List.map_cons,List.sum_cons]
theorem Tm.kids_len (t:Tm):t.kids.length<=2:=by cases t <;> simp [Tm.kids]
theorem TmV.notName {w:World} {L:Nat} {t:Tm} {v:Value} (h:TmV w L t v) (hn:t.isName=false):∃ T x,v=.iface T x/\¬ T=60:=by
 cases t <;> (simp only [TmV] at h) <;> first | (cases hn; done) | (obtain ⟨_,e,_⟩:=h; exact ⟨_,_,e,by decide⟩) | (obtain ⟨_,_,e,_⟩:=h; exact ⟨_,_,e,by decide⟩)
theorem vh5 {α:Type} {K:Nat} {caps:Array Value} {I:Nat->World->(Nat->Prop)->α->Prop} {step:ByteArray->α->α} (V:uil K caps I step) {w0:World} {L:Nat} (n:Nat) :
 ∀ (t:Tm) (v:Value),t.sz < n->TmV w0 L t v->∀ (b:Nat) (W:World) (own:Nat->Prop) (acc:α),I (b+t.sz) W own acc ->
 Calls Tryz.prog 114 #[v,.func (.func K) #[] caps] W fun e W'=>(∃ v,e=.returned v)/\∃ own',I b W' own' (t.fold step acc)/\jc4 own W own' W':=by
 induction n with
 | zero=>intro t v ht; omega
 | succ n ih =>
 intro t v ht h b W own acc hI;have IH:=Lib.hid ih;have hK:=V.enter;have HV:=Lib.hid V;have HI:=Lib.hid hI;have H:=Lib.hid h;clear ih V hI
 by_cases hn:t.isName=true
 · cases t with
   | name s =>
     obtain rfl:=h;go_enter Tryz.func114,Tryz.ntmps114;go_wp2_with fail;refine (HV.out.call b _ _ _ s (HV.out.ext _ _ _ _ _ HI.out ((Ext.refl W).alloc _))).mono ?_;rintro e w1 ⟨⟨v1,rfl⟩,own1,hI1,hk1⟩;have HI1:=Lib.hid hI1;have HK1:=Lib.hid (jc4.trans (jc4.of_ext ((Ext.refl W).alloc _)) hk1);clear hI1 hk1;go_wp2_with fail;refine (xha (.name s) H.out).mono ?_;rintro e w2 ⟨s2,rfl,hs,-,hx⟩;obtain ⟨A,c,rfl⟩:=hs.len;have HX:=Lib.hid hx;clear hs hx;simp only [Tm.kids,List.length_nil];go_wp2_with fail;refine wp_loop_rounds 1 ?_;rw [rounds_succ];go_wp2_with fail
     go_end0
     exact ⟨⟨_,rfl⟩,own1,HV.out.ext _ _ _ _ _ HI1.out HX.out,HK1.out.trans (jc4.of_ext HX.out)⟩
   | _=>simp [Tm.isName] at hn
 · obtain ⟨T,x,rfl,hT⟩:=h.notName (by simpa using hn);have HN:Hid (t.isName=false):=by
    have:t.isName=false:=by simpa using hn
    exact this
   clear h hn;have hlen:=t.kids_len;go_enter Tryz.func114,Tryz.ntmps114;go_wp2_with fail;refine (xha t H.out).mono ?_;rintro e w1 ⟨s,rfl,hs,hf,hx⟩;obtain ⟨A,c,rfl⟩:=hs.len;have HX:Hid (Ext W w1):=by
    have:Ext W w1:=((Ext.refl W).alloc _).trans hx;exact this
   have HS:=Lib.hid hs;have HF:=Lib.hid hf;clear hs hf hx;go_wp2_with fail
   go_loopw [21] (fun iv wr=>∃ k:Nat,k<=t.kids.length/\iv=.int .i64 k/\Hid (∃ own',I (b+ghc (t.kids.drop k)) wr own' (jg1 step (t.kids.take k) acc)/\jc4 own w1 own' wr)) (fun iv _=>t.kids.length - (intOf iv).toNat)
   case atStart =>
    exact ⟨0,Nat.zero_le _,rfl,⟨own,HV.out.less _ _ _ _ _ (HV.out.ext _ _ _ _ _ HI.out HX.out) (by have:=qh7 t; simp only [List.drop_zero]; omega),jc4.refl _ _⟩⟩
   case round =>
    obtain ⟨k,hk,rfl,⟨own',hI',hk'⟩⟩:=hrel;have HI':=Lib.hid hI';have HK':=Lib.hid hk';clear hI' hk'
    by_cases hlt:k < t.kids.length
    · obtain ⟨ad,y,rfl,hc,hp⟩:=SlR.get_ (SlR.keeps HS.out HK'.out (fun ad n c e=>fun ho=>by
       have h1:=HF.out ad n c e;have h2:=HV.out.lt _ _ _ _ HI.out _ ho
       simp at h1; omega)) k hlt
      have HP:=Lib.hid hp;obtain ⟨U,y,rfl⟩:=hp.iface;clear hp;go_wp2_with fail;refine (IH.out (t.kids[k]) _ (by have:=t.kids_lt _ (List.getElem_mem hlt); omega) HP.out _ _ _ _ (by rw [jh7 _ _ hlt,Nat.add_comm (t.kids[k]).sz,<- Nat.add_assoc] at HI'; exact HI'.out)).mono ?_;rintro e w2 ⟨⟨v2,rfl⟩,own2,hI2,hk2⟩;have HI2:=Lib.hid hI2;have HK2:=Lib.hid hk2;clear hI2 hk2 hc;go_wp2_with fail
      go_roundw
      case rel=>exact ⟨k+1,by omega,by go_num,⟨own2,by rw [yhs step _ _ _ hlt]; exact HI2.out,HK'.out.trans HK2.out⟩⟩
      case measure=>simp [intOf]; omega
    · have hke:k=t.kids.length:=by omega
      have HD:Hid (I b wr own' (t.fold step acc)):=by
       have:=HV.out.less _ b _ _ _ HI'.out (by omega);rw [hke,List.take_length,<- Tm.fold_kids step t acc HN.out] at this;exact this
      clear hke;go_wp2_with fail
      go_end0
      exact ⟨⟨_,rfl⟩,own',HD.out,(jc4.of_ext HX.out).trans HK'.out⟩
end Go.Proofs.YtopddaabiinboaaGreat
