/- Layer 34: formula.Degree. -/
import Derived.Test.YtheefiaoimbeiaaGreatDoorMt2
import Derived.Test.YtheefiaoimbeiaaGreatDoorMt1
import Derived.Maps.AppendAt
import Derived.Deep.AppendLies
set_option linter.unusedSimpArgs false
set_option linter.unusedVariables false

set_option maxRecDepth 100000
set_option maxHeartbeats 8000000
namespace Go.Proofs.YtheefiaoimbeiaaGreatDoor
open Go.RowKit
attribute [local go_sem] xaa xy gaa zaa kaa jaa yaa yt qy qaa uaa yad qm vaa ut
def ui (n:Int):Int:=if n<=2147483647 then n else 2147483647
theorem va2 {n:Int} (h:0<=n):0<=ui n/\ui n<=2147483647/\ui n<=n:=by unfold ui; split <;> omega
def uae (a b:Int):Int:=ui (ui a * ui b)
theorem wbm {a b:Int} (h:0<=a) (k:0<=b):0<=ui a * ui b/\ui a * ui b<=4611686014132420609:=by
 obtain ⟨h1,h2,-⟩:=va2 h;obtain ⟨k1,k2,-⟩:=va2 k;refine ⟨Int.mul_nonneg h1 k1,?_⟩;have:=Int.mul_le_mul h2 k2 k1 (by omega);simpa using this
theorem ycd {a b:Int} (h:0<=a) (k:0<=b):0<=uae a b/\uae a b<=2147483647:=by
 have:=va2 (wbm h k).1;exact ⟨this.1,this.2.1⟩
def jc (a b:Int):Int:=if a < b then b else a
theorem vas {a b c d:Int} (h1:c<=a) (h2:a<=d) (h3:c<=b) (h4:b<=d):c<=jc a b/\jc a b<=d:=by unfold jc; split <;> omega
theorem jaf (n:Int) (w:World):Calls Tryz.prog 107 #[.int .i64 n] w fun e w'=>e=.returned (.int .i64 (ui n))/\w'=w:=by
 by_cases h:n<=2147483647
 · have hc:ui n=n:=if_pos h;rw [hc];go_enter Tryz.func107,Tryz.ntmps107;go_wp2_with fail;go_ret;exact ⟨rfl,rfl⟩
 · have hc:ui n=2147483647:=if_neg h;rw [hc];go_enter Tryz.func107,Tryz.ntmps107;go_wp2_with fail;go_ret;exact ⟨rfl,rfl⟩
theorem qaq (a b:Int) (w:World) (h:0<=a) (k:0<=b):Calls Tryz.prog 108 #[.int .i64 a,.int .i64 b] w fun e w'=>e=.returned (.int .i64 (uae a b))/\w'=w:=by
 have hm:=wbm h k;go_enter Tryz.func108,Tryz.ntmps108;go_wp2_with fail;refine (jaf a _).mono ?_;rintro e w1 ⟨rfl,rfl⟩;go_wp2_with fail;refine (jaf b _).mono ?_;rintro e w1 ⟨rfl,rfl⟩;go_wp2_with fail;refine (jaf _ _).mono ?_;rintro e w1 ⟨rfl,rfl⟩;go_wp2_with fail;go_ret;exact ⟨rfl,rfl⟩
def Tm.deg : Tm -> Int
 | .num _=>0
 | .name _=>1
 | .add a b=>jc a.deg b.deg
 | .sub a b=>jc a.deg b.deg
 | .mul a b=>ui (a.deg+b.deg)
 | .neg a=>a.deg
 | .pow a e=>uae (jc e 0) a.deg
theorem Tm.deg_bd (t:Tm):0<=t.deg/\t.deg<=2147483647:=by
 induction t with
 | num z=>simp [Tm.deg]
 | name s=>simp [Tm.deg]
 | add a b iha ihb=>exact vas iha.1 iha.2 ihb.1 ihb.2
 | sub a b iha ihb=>exact vas iha.1 iha.2 ihb.1 ihb.2
 | mul a b iha ihb=>have:=va2 (n:=a.deg+b.deg) (by omega); exact ⟨this.1,this.2.1⟩
 | neg a iha=>exact iha
 | pow a e iha=>exact ycd (by unfold jc; split <;> omega) iha.1
def qp (n:Int) (w:World) (e:Ending) (w':World):Prop:=e=.returned (.int .i64 n)/\Ext w w'
theorem qct {w0 w:World} {L:Nat} {a b:Tm} {v:Value} (h:TmV w0 L (.add a b) v) (iha:∀ (v:Value) (w:World),TmV w0 L a v->Calls Tryz.prog 73 #[v] w (qp a.deg w)) (ihb:∀ (v:Value) (w:World),TmV w0 L b v->Calls Tryz.prog 73 #[v] w (qp b.deg w)) :
 Calls Tryz.prog 73 #[v] w (qp (jc a.deg b.deg) w):=by
 have ha:=a.deg_bd;have hb:=b.deg_bd;have IHA:=Lib.hid iha;have IHB:=Lib.hid ihb;obtain ⟨x,y,rfl,hx,hy⟩:=h;have HX:=Lib.hid hx;have HY:=Lib.hid hy;obtain ⟨T,x,rfl⟩:=hx.iface;obtain ⟨U,y,rfl⟩:=hy.iface;clear hx hy iha ihb;generalize a.deg=da at *;generalize b.deg=db at *
 by_cases hlt:da < db
 · rw [show jc da db=db from if_pos hlt];go_enter Tryz.func73,Tryz.ntmps73;go_wp2_with fail;obtain ⟨W,hW⟩:=n_m (w.alloc (.cells #[.iface T x,.iface U y] 175));have HB:Hid (∀ W',Ext W W'->(Ext W W'/\W'.cell? ⟨w.heap.size,0,none⟩=some (.iface T x)/\W'.cell? ⟨w.heap.size,1,none⟩=some (.iface U y))):=by
    intro W' hx;obtain ⟨hc,hf⟩:=hx.cells;refine ⟨hx,?_,?_⟩ <;> (rw [hc _ _ (by rw [<- hW]; simp),<- hW]; simp [go_sem])
   have HX0:Hid (Ext w W):=by
    have:Ext w W:=by rw [<- hW]; exact (Ext.refl w).alloc _
    exact this
   rw [hW];clear hW
   go_region_held3 (fun W' => Ext W W' /\ W'.cell? ⟨w.heap.size, 0, none⟩ = some (.iface T x) /\ W'.cell? ⟨w.heap.size, 1, none⟩ = some (.iface U y))
    (first | exact HB.out _ ((Ext.refl W).drew) | exact HB.out _ (by assumption))
    (first
      | (go_at_call_of 73 (Value.iface T x)
         refine (IHA.out _ _ HX.out).mono ?_;rintro e v1 ⟨rfl,x1⟩
         have y1:Ext W v1:=Ext.trans ((Ext.refl W).drew) x1)
      | (go_at_call_of 73 (Value.iface U y)
         refine (IHB.out _ _ HY.out).mono ?_;rintro e v2 ⟨rfl,x2⟩
         have y2:Ext W v2:=Ext.trans y1 x2))
   have HY2:=Lib.hid (HX0.out.trans y2);clear y1 y2 x1 x2 HB HX0;go_wp2_with fail;go_ret;exact ⟨rfl,HY2.out⟩
 · rw [show jc da db=da from if_neg hlt];have hge:db<=da:=by omega
   go_enter Tryz.func73,Tryz.ntmps73;go_wp2_with fail;obtain ⟨W,hW⟩:=n_m (w.alloc (.cells #[.iface T x,.iface U y] 175));have HB:Hid (∀ W',Ext W W'->(Ext W W'/\W'.cell? ⟨w.heap.size,0,none⟩=some (.iface T x)/\W'.cell? ⟨w.heap.size,1,none⟩=some (.iface U y))):=by
    intro W' hx;obtain ⟨hc,hf⟩:=hx.cells;refine ⟨hx,?_,?_⟩ <;> (rw [hc _ _ (by rw [<- hW]; simp),<- hW]; simp [go_sem])
   have HX0:Hid (Ext w W):=by
    have:Ext w W:=by rw [<- hW]; exact (Ext.refl w).alloc _
    exact this
   rw [hW];clear hW
   go_region_held3 (fun W' => Ext W W' /\ W'.cell? ⟨w.heap.size, 0, none⟩ = some (.iface T x) /\ W'.cell? ⟨w.heap.size, 1, none⟩ = some (.iface U y))
    (first | exact HB.out _ ((Ext.refl W).drew) | exact HB.out _ (by assumption))
    (first
      | (go_at_call_of 73 (Value.iface T x)
         refine (IHA.out _ _ HX.out).mono ?_;rintro e v1 ⟨rfl,x1⟩
         have y1:Ext W v1:=Ext.trans ((Ext.refl W).drew) x1)
      | (go_at_call_of 73 (Value.iface U y)
         refine (IHB.out _ _ HY.out).mono ?_;rintro e v2 ⟨rfl,x2⟩
         have y2:Ext W v2:=Ext.trans y1 x2))
   have HY2:=Lib.hid (HX0.out.trans y2);clear y1 y2 x1 x2 HB HX0;go_wp2_with fail;go_ret;exact ⟨rfl,HY2.out⟩
theorem gcs {w0 w:World} {L:Nat} {a b:Tm} {v:Value} (h:TmV w0 L (.sub a b) v) (iha:∀ (v:Value) (w:World),TmV w0 L a v->Calls Tryz.prog 73 #[v] w (qp a.deg w)) (ihb:∀ (v:Value) (w:World),TmV w0 L b v->Calls Tryz.prog 73 #[v] w (qp b.deg w)) :
 Calls Tryz.prog 73 #[v] w (qp (jc a.deg b.deg) w):=by
 have ha:=a.deg_bd;have hb:=b.deg_bd;have IHA:=Lib.hid iha;have IHB:=Lib.hid ihb;obtain ⟨x,y,rfl,hx,hy⟩:=h;have HX:=Lib.hid hx;have HY:=Lib.hid hy;obtain ⟨T,x,rfl⟩:=hx.iface;obtain ⟨U,y,rfl⟩:=hy.iface;clear hx hy iha ihb;generalize a.deg=da at *;generalize b.deg=db at *
 by_cases hlt:da < db
 · rw [show jc da db=db from if_pos hlt];go_enter Tryz.func73,Tryz.ntmps73;go_wp2_with fail;obtain ⟨W,hW⟩:=n_m (w.alloc (.cells #[.iface T x,.iface U y] 176));have HB:Hid (∀ W',Ext W W'->(Ext W W'/\W'.cell? ⟨w.heap.size,0,none⟩=some (.iface T x)/\W'.cell? ⟨w.heap.size,1,none⟩=some (.iface U y))):=by
    intro W' hx;obtain ⟨hc,hf⟩:=hx.cells;refine ⟨hx,?_,?_⟩ <;> (rw [hc _ _ (by rw [<- hW]; simp),<- hW]; simp [go_sem])
   have HX0:Hid (Ext w W):=by
    have:Ext w W:=by rw [<- hW]; exact (Ext.refl w).alloc _
    exact this
   rw [hW];clear hW
   go_region_held3 (fun W' => Ext W W' /\ W'.cell? ⟨w.heap.size, 0, none⟩ = some (.iface T x) /\ W'.cell? ⟨w.heap.size, 1, none⟩ = some (.iface U y))
    (first | exact HB.out _ ((Ext.refl W).drew) | exact HB.out _ (by assumption))
    (first
      | (go_at_call_of 73 (Value.iface T x)
         refine (IHA.out _ _ HX.out).mono ?_;rintro e v1 ⟨rfl,x1⟩
         have y1:Ext W v1:=Ext.trans ((Ext.refl W).drew) x1)
      | (go_at_call_of 73 (Value.iface U y)
         refine (IHB.out _ _ HY.out).mono ?_;rintro e v2 ⟨rfl,x2⟩
         have y2:Ext W v2:=Ext.trans y1 x2))
   have HY2:=Lib.hid (HX0.out.trans y2);clear y1 y2 x1 x2 HB HX0;go_wp2_with fail;go_ret;exact ⟨rfl,HY2.out⟩
 · rw [show jc da db=da from if_neg hlt];have hge:db<=da:=by omega
   go_enter Tryz.func73,Tryz.ntmps73;go_wp2_with fail;obtain ⟨W,hW⟩:=n_m (w.alloc (.cells #[.iface T x,.iface U y] 176));have HB:Hid (∀ W',Ext W W'->(Ext W W'/\W'.cell? ⟨w.heap.size,0,none⟩=some (.iface T x)/\W'.cell? ⟨w.heap.size,1,none⟩=some (.iface U y))):=by
    intro W' hx;obtain ⟨hc,hf⟩:=hx.cells;refine ⟨hx,?_,?_⟩ <;> (rw [hc _ _ (by rw [<- hW]; simp),<- hW]; simp [go_sem])
   have HX0:Hid (Ext w W):=by
    have:Ext w W:=by rw [<- hW]; exact (Ext.refl w).alloc _
    exact this
   rw [hW];clear hW
   go_region_held3 (fun W' => Ext W W' /\ W'.cell? ⟨w.heap.size, 0, none⟩ = some (.iface T x) /\ W'.cell? ⟨w.heap.size, 1, none⟩ = some (.iface U y))
    (first | exact HB.out _ ((Ext.refl W).drew) | exact HB.out _ (by assumption))
    (first
      | (go_at_call_of 73 (Value.iface T x)
         refine (IHA.out _ _ HX.out).mono ?_;rintro e v1 ⟨rfl,x1⟩
         have y1:Ext W v1:=Ext.trans ((Ext.refl W).drew) x1)
      | (go_at_call_of 73 (Value.iface U y)
         refine (IHB.out _ _ HY.out).mono ?_;rintro e v2 ⟨rfl,x2⟩
         have y2:Ext W v2:=Ext.trans y1 x2))
   have HY2:=Lib.hid (HX0.out.trans y2);clear y1 y2 x1 x2 HB HX0;go_wp2_with fail;go_ret;exact ⟨rfl,HY2.out⟩
theorem xct {w0 w:World} {L:Nat} {a b:Tm} {v:Value} (h:TmV w0 L (.mul a b) v) (iha:∀ (v:Value) (w:World),TmV w0 L a v->Calls Tryz.prog 73 #[v] w (qp a.deg w)) (ihb:∀ (v:Value) (w:World),TmV w0 L b v->Calls Tryz.prog 73 #[v] w (qp b.deg w)) :
 Calls Tryz.prog 73 #[v] w (qp (ui (a.deg+b.deg)) w):=by
 have ha:=a.deg_bd;have hb:=b.deg_bd;have IHA:=Lib.hid iha;have IHB:=Lib.hid ihb;obtain ⟨x,y,rfl,hx,hy⟩:=h;have HX:=Lib.hid hx;have HY:=Lib.hid hy;obtain ⟨T,x,rfl⟩:=hx.iface;obtain ⟨U,y,rfl⟩:=hy.iface;clear hx hy iha ihb;generalize a.deg=da at *;generalize b.deg=db at *;have hwr:IntKind.i64.wrap (da+db)=da+db:=IntWalk.i64_in _ (by omega);go_enter Tryz.func73,Tryz.ntmps73;go_wp2_with fail;obtain ⟨W,hW⟩:=n_m (w.alloc (.cells #[.iface T x,.iface U y] 177));have HB:Hid (∀ W',Ext W W'->(Ext W W'/\W'.cell? ⟨w.heap.size,0,none⟩=some (.iface T x)/\W'.cell? ⟨w.heap.size,1,none⟩=some (.iface U y))):=by
  intro W' hx;obtain ⟨hc,hf⟩:=hx.cells;refine ⟨hx,?_,?_⟩ <;> (rw [hc _ _ (by rw [<- hW]; simp),<- hW]; simp [go_sem])
 have HX0:Hid (Ext w W):=by
  have:Ext w W:=by rw [<- hW]; exact (Ext.refl w).alloc _
  exact this
 rw [hW];clear hW
 go_region_held3 (fun W' => Ext W W' /\ W'.cell? ⟨w.heap.size, 0, none⟩ = some (.iface T x) /\ W'.cell? ⟨w.heap.size, 1, none⟩ = some (.iface U y))
  (first | exact HB.out _ ((Ext.refl W).drew) | exact HB.out _ (by assumption))
  (first
    | (go_at_call_of 73 (Value.iface T x)
       refine (IHA.out _ _ HX.out).mono ?_;rintro e v1 ⟨rfl,x1⟩
       have y1:Ext W v1:=Ext.trans ((Ext.refl W).drew) x1)
    | (go_at_call_of 73 (Value.iface U y)
       refine (IHB.out _ _ HY.out).mono ?_;rintro e v2 ⟨rfl,x2⟩
       have y2:Ext W v2:=Ext.trans y1 x2)
    | (go_at_call 107
       refine (jaf (da+db) _).mono ?_
       rintro e v3 ⟨rfl,rfl⟩))
 have HY2:=Lib.hid (HX0.out.trans y2);clear y1 y2 x1 x2 HB HX0;go_wp2_with fail;go_ret;exact ⟨rfl,HY2.out⟩
theorem yct {w0 w:World} {L:Nat} {a:Tm} {v:Value} (h:TmV w0 L (.neg a) v) (iha:∀ (v:Value) (w:World),TmV w0 L a v->Calls Tryz.prog 73 #[v] w (qp a.deg w)) :
 Calls Tryz.prog 73 #[v] w (qp a.deg w):=by
 have IHA:=Lib.hid iha;obtain ⟨x,rfl,hx⟩:=h;have HX:=Lib.hid hx;obtain ⟨T,x,rfl⟩:=hx.iface;clear hx iha;go_enter Tryz.func73,Tryz.ntmps73;go_wp2_with fail;refine (IHA.out _ _ HX.out).mono ?_;rintro e v1 ⟨rfl,x1⟩;have X1:=Lib.hid (Ext.trans ((Ext.refl w).alloc _) x1);clear x1;go_wp2_with fail;go_ret;exact ⟨rfl,X1.out⟩
theorem wcs {w0 w:World} {L:Nat} {a:Tm} {n:Int} {v:Value} (h:TmV w0 L (.pow a n) v) (iha:∀ (v:Value) (w:World),TmV w0 L a v->Calls Tryz.prog 73 #[v] w (qp a.deg w)) :
 Calls Tryz.prog 73 #[v] w (qp (uae (jc n 0) a.deg) w):=by
 have ha:=a.deg_bd;have IHA:=Lib.hid iha;obtain ⟨x,rfl,hx⟩:=h;have HX:=Lib.hid hx;obtain ⟨T,x,rfl⟩:=hx.iface;clear hx iha;generalize a.deg=da at *
 by_cases hlt:n < 0
 · rw [show jc n 0=0 from if_pos hlt];have hif:(if n < 0 then (0:Int) else n)=0:=if_pos hlt;have hde:decide (n < 0)=true:=by simpa using hlt
   have hma:max n 0=0:=by omega
   go_enter Tryz.func73,Tryz.ntmps73;go_wp2_with fail;obtain ⟨W,hW⟩:=n_m (w.alloc (.cells #[.iface T x,.int .i64 n] 173));have HB:Hid (∀ W',Ext W W'->(Ext W W'/\W'.cell? ⟨w.heap.size,0,none⟩=some (.iface T x)/\W'.cell? ⟨w.heap.size,1,none⟩=some (.int .i64 n))):=by
    intro W' hx;obtain ⟨hc,hf⟩:=hx.cells;refine ⟨hx,?_,?_⟩ <;> (rw [hc _ _ (by rw [<- hW]; simp),<- hW]; simp [go_sem])
   have HX0:Hid (Ext w W):=by
    have:Ext w W:=by rw [<- hW]; exact (Ext.refl w).alloc _
    exact this
   rw [hW];clear hW
   go_region_held3 (fun W' => Ext W W' /\ W'.cell? ⟨w.heap.size, 0, none⟩ = some (.iface T x) /\ W'.cell? ⟨w.heap.size, 1, none⟩ = some (.int .i64 n))
    (first | exact HB.out _ ((Ext.refl W).drew) | exact HB.out _ (by assumption))
    (first
      | (go_at_call 73
         refine (IHA.out _ _ HX.out).mono ?_;rintro e v1 ⟨rfl,x1⟩
         have y1:Ext W v1:=Ext.trans ((Ext.refl W).drew) x1)
      | (go_at_call 108
         refine (qaq (0) da _ (by omega) (by omega)).mono ?_
         rintro e v2 ⟨rfl,rfl⟩))
   all_goals
    have HY2:=Lib.hid (HX0.out.trans y1);clear y1 x1 HB HX0;go_wp2_with fail;go_ret;exact ⟨rfl,HY2.out⟩
 · rw [show jc n 0=n from if_neg hlt];have hge:0<=n:=by omega
   have hif:(if n < 0 then (0:Int) else n)=n:=if_neg hlt;have hde:decide (n < 0)=false:=by simpa using hlt
   have hma:max n 0=n:=by omega
   go_enter Tryz.func73,Tryz.ntmps73;go_wp2_with fail;obtain ⟨W,hW⟩:=n_m (w.alloc (.cells #[.iface T x,.int .i64 n] 173));have HB:Hid (∀ W',Ext W W'->(Ext W W'/\W'.cell? ⟨w.heap.size,0,none⟩=some (.iface T x)/\W'.cell? ⟨w.heap.size,1,none⟩=some (.int .i64 n))):=by
    intro W' hx;obtain ⟨hc,hf⟩:=hx.cells;refine ⟨hx,?_,?_⟩ <;> (rw [hc _ _ (by rw [<- hW]; simp),<- hW]; simp [go_sem])
   have HX0:Hid (Ext w W):=by
    have:Ext w W:=by rw [<- hW]; exact (Ext.refl w).alloc _
    exact this
   rw [hW];clear hW
   go_region_held3 (fun W' => Ext W W' /\ W'.cell? ⟨w.heap.size, 0, none⟩ = some (.iface T x) /\ W'.cell? ⟨w.heap.size, 1, none⟩ = some (.int .i64 n))
    (first | exact HB.out _ ((Ext.refl W).drew) | exact HB.out _ (by assumption))
    (first
      | (go_at_call 73
         refine (IHA.out _ _ HX.out).mono ?_;rintro e v1 ⟨rfl,x1⟩
         have y1:Ext W v1:=Ext.trans ((Ext.refl W).drew) x1)
      | (go_at_call 108
         refine (qaq (n) da _ (by omega) (by omega)).mono ?_
         rintro e v2 ⟨rfl,rfl⟩))
   all_goals
    have HY2:=Lib.hid (HX0.out.trans y1);clear y1 x1 HB HX0;go_wp2_with fail;go_ret;exact ⟨rfl,HY2.out⟩
theorem zct {w0 w:World} {L:Nat} {z:Int} {v:Value} (h:TmV w0 L (.num z) v):Calls Tryz.prog 73 #[v] w (qp 0 w):=by
 obtain ⟨x,rfl,hx⟩:=h;go_enter Tryz.func73,Tryz.ntmps73;go_wp2_with fail;go_ret;exact ⟨rfl,Ext.refl _⟩
theorem ubm {w0 w:World} {L:Nat} {s:ByteArray} {v:Value} (h:TmV w0 L (.name s) v):Calls Tryz.prog 73 #[v] w (qp 1 w):=by
 obtain rfl:=h;go_enter Tryz.func73,Tryz.ntmps73;go_wp2_with fail;go_ret;exact ⟨rfl,(Ext.refl _).alloc _⟩
theorem kbz {w0:World} {L:Nat} (t:Tm):∀ (v:Value) (w:World),TmV w0 L t v->Calls Tryz.prog 73 #[v] w (qp t.deg w):=by
 induction t with
 | num z=>exact fun v w h=>zct h
 | name s=>exact fun v w h=>ubm h
 | add a b iha ihb=>exact fun v w h=>qct h iha ihb
 | sub a b iha ihb=>exact fun v w h=>gcs h iha ihb
 | mul a b iha ihb=>exact fun v w h=>xct h iha ihb
 | neg a iha=>exact fun v w h=>yct (a:=a) h iha
 | pow a n iha=>exact fun v w h=>wcs h iha
end Go.Proofs.YtheefiaoimbeiaaGreatDoor

/- Layer 1 (natural): division by one digit, shifts. -/
set_option maxRecDepth 100000
set_option maxHeartbeats 8000000
namespace Go.Proofs.YtheefiaoimbeiaaGreatDoor
open Go.RowKit
theorem xcj (d r x q:Nat) (hq:q=(r * B32+x) / d) (V Z X:Nat) (h:V=d * Z+r) (hX:X=x+B32 * V):X=d * (q+B32 * Z)+(r * B32+x) % d:=by
 have e:=Nat.div_add_mod (r * B32+x) d;rw [<- hq] at e;have e2:B32 * V=d * (B32 * Z)+r * B32:=by rw [h,Nat.mul_add,Nat.mul_left_comm,Nat.mul_comm B32 r]
 rw [hX,Nat.mul_add];omega
def wbn (w0:World) (g:Nat) (E:List Nat) (d k r:Nat) (wr:World):Prop:=
 ∃ zs:List Nat,Row wr g zs/\zs.length=E.length/\zg zs/\val (E.drop k)=d * val (zs.drop k)+r/\Ext w0 wr
def vc0 (q r:Nat) (w:World) (e:Ending) (w':World):Prop:=∃ v,e=.returned (.tuple #[v,.int .u32 (r:Nat),.bool true])/\ja w' v (dg q)/\zo w.heap.size v/\Ext w w'
theorem wa0 (u:Value) (ds:List Nat) (d:Nat) (w:World) (h:ja w u ds) (hs:ds.length<=35184372088832) (hd:0 < d) (hd1:d < 4294967296) :
 Calls Tryz.prog 164 #[u,.int .u32 (d:Nat)] w (vc0 (val ds / d) (val ds % d) w):=by
 have hls:(dg (val ds)).length<=ds.length:=ve h.digs;have hdb:((d:Int) == 0)=false:=by simp; omega
 go_enter Tryz.func164,Tryz.ntmps164;go_wp2_with fail;refine (yz u ds _ h).mono ?_;rintro e w' ⟨u',rfl,hu,rfl⟩;obtain ⟨A,c,rfl,h1,h2,h3⟩:=hu;have G5:=Lib.hid h3;have HVD:=Lib.hid (je (val ds));clear h3 h;generalize hE:dg (val ds)=E at *;have HE:=Lib.hid hE;clear hE;have hmk:=fun W=>vab (E.length:Int) (by omega) (by omega) W
 go_wp2_with fail
 have hinv:wbn w w.heap.size E d E.length 0 (w.alloc (Obj.cells (jw (List.replicate E.length 0)).toArray 108)):=
  ⟨List.replicate E.length 0,Row.new w _,by simp,zg.replicate _,by simp,(Ext.refl _).alloc _⟩
 have HINV:=Lib.hid hinv;clear hinv
 go_loopw [8,9] (fun rv iv wr=>∃ k r:Nat,k<=E.length/\iv=.int .i64 ((k:Int) - 1)/\rv=.int .u32 r/\r < d/\Hid (wbn w w.heap.size E d k r wr)) (fun _ iv _=>(intOf iv+1).toNat)
 case atStart=>exact ⟨E.length,0,Nat.le_refl _,rfl,rfl,hd,HINV⟩
 case round =>
  clear HINV;obtain ⟨k,r,hk,rfl,rfl,hr,HI⟩:=hrel;obtain ⟨zs,hrow,hzl,hzd,hval,hext⟩:=HI.out;rcases k with _ | k
  · have HN:Hid (ja wr (.slice (some ⟨w.heap.size,0,none⟩) E.length E.length) zs):=hrow.natVn hzd _ _ hzl (Nat.le_refl _) (by omega);have hq:val zs=val ds / d/\r=val ds % d:=by
     rw [List.drop_zero,List.drop_zero,HVD.out] at hval;rw [hval];exact ⟨by rw [Nat.mul_add_div hd,Nat.div_eq_of_lt hr,Nat.add_zero],by rw [Nat.mul_add_mod,Nat.mod_eq_of_lt hr]⟩
    have HQ:=Lib.hid hq;have HX:=Lib.hid hext;clear HI hrow hzl hzd hval hext hq;go_wp2_with fail;refine (jaz w.heap.size _ _ _ HN.out (zo.mk _ _ _ _ (Nat.le_refl _))).mono ?_;rintro e w' ⟨v',rfl,hv,hfr,rfl⟩;have HV2:=Lib.hid hv;have HFR:=Lib.hid hfr;clear hv hfr;go_wp2_with fail
    go_ret3
    refine ⟨v',by rw [<- HQ.out.2]; rfl,?_,HFR.out,HX.out⟩;rw [<- HQ.out.1];exact HV2.out
  · obtain ⟨ad,x,rfl,hb,hcell,hx1,HX⟩:=(G5.out.ext hext).get_ k (by omega);obtain ⟨z,hzc,hzf,_⟩:=hrow.get_ k (by omega);have hcur:r * B32+x < d * B32:=by
     have:(r+1) * B32<=d * B32:=Nat.mul_le_mul_right _ hr;rw [Nat.add_mul,Nat.one_mul] at this;rw [yg] at *; omega
    have hqlt:(r * B32+x) / d < B32:=Nat.div_lt_of_lt_mul hcur;have HS:Hid (∀ wq,Ext wr wq->wbn w w.heap.size E d k ((r * B32+x) % d) (wq.setCell ⟨w.heap.size,k,none⟩ (.int .u32 (((r * B32+x) / d:Nat):Int)))):=by
     intro wq hx;refine ⟨zs.set k ((r * B32+x) / d),(hrow.ext hx).set_ _ _,by rw [List.length_set]; exact hzl,hzd.set _ _ hqlt,?_,(hext.trans hx).setCell (by simp) _⟩;obtain ⟨hkl,hxe⟩:=List.getElem?_eq_some_iff.1 HX.out;rw [List.drop_eq_getElem_cons hkl,val_cons,hxe,List.drop_set,if_neg (by omega),Nat.sub_self];have hkz:k < zs.length:=by omega
     rw [List.drop_eq_getElem_cons hkz,List.set_cons_zero,val_cons];exact xcj d r x _ rfl _ _ _ hval rfl
    clear HI hrow hzl hzd hval hext;go_wp2_with fail;refine (vcl _ _ _ _ (by omega) (by omega) (by omega) (by omega) (by omega)).mono ?_;rintro e w2 ⟨rfl,n2,rfl⟩;have hx2:Ext wr (wr.drewN n2):=(Ext.refl wr).drewN n2;have HS2:=Lib.hid (HS.out _ hx2);clear hx2 HS;go_wp2_with fail
    go_roundw
    case rel =>
     have e1:((r:Int) * 4294967296+x) % d=(((r * B32+x) % d:Nat):Int):=by rw [yg]; simp
     have e2:((r:Int) * 4294967296+x) / d=(((r * B32+x) / d:Nat):Int):=by rw [yg]; simp
     rw [e1,e2];exact ⟨k,_,by omega,by go_num,rfl,Nat.mod_lt _ hd,HS2⟩
    case measure=>simp [intOf]
end Go.Proofs.YtheefiaoimbeiaaGreatDoor

/- Layer 4 (decimal): how many digits a number has. -/
set_option maxRecDepth 100000
set_option maxHeartbeats 8000000
namespace Go.Proofs.YtheefiaoimbeiaaGreatDoor
open Go.RowKit
theorem vct (w:World):Calls Tryz.prog 163 #[.int .i64 10] w fun e w'=>e=.returned (.tuple #[.int .u32 1000000000,.int .i64 9])/\w=w':=by
 go_enter Tryz.func163,Tryz.ntmps163;go_wp2_with fail
 go_loop [4,5] (fun p c=>∃ k:Nat,k<=8/\p=.int .u64 ((10 ^ (k+1):Nat):Int)/\c=.int .i64 ((k+1:Nat):Int)) (fun _ c=>9 - (intOf c).toNat)
 case atStart=>exact ⟨0,by omega,rfl,rfl⟩
 case round =>
  obtain ⟨k,hk,rfl,rfl⟩:=hrel;have hcases:k=0\/k=1\/k=2\/k=3\/k=4\/k=5\/k=6\/k=7\/k=8:=by omega
  rcases hcases with rfl | rfl | rfl | rfl | rfl | rfl | rfl | rfl | rfl
  all_goals
   go_wp2_with fail
   first
    | (go_ret2; exact ⟨rfl,rfl⟩)
    | (go_round
       case rel=>first | exact ⟨1,by omega,rfl,rfl⟩ | exact ⟨2,by omega,rfl,rfl⟩ | exact ⟨3,by omega,rfl,rfl⟩ | exact ⟨4,by omega,rfl,rfl⟩ | exact ⟨5,by omega,rfl,rfl⟩ | exact ⟨6,by omega,rfl,rfl⟩ | exact ⟨7,by omega,rfl,rfl⟩ | exact ⟨8,by omega,rfl,rfl⟩
       case measure=>simp [intOf])
def qae (w:World) (g n:Nat):Prop:=∃ arr:Array Value,w.heap[g]?=some (.cells arr 5 (0,0))/\n<=arr.size/\∀ i,i < n->∃ b:Nat,b < 256/\arr[i]?=some (.int .u8 (b:Nat))
theorem qae.get {w:World} {g n:Nat} (h:qae w g n) (i:Nat) (hi:i < n):∃ b:Nat,b < 256/\w.cell? ⟨g,i,none⟩=some (.int .u8 (b:Nat))/\w.frozen? ⟨g,i,none⟩=false:=by
 obtain ⟨arr,h1,h2,h3⟩:=h;obtain ⟨b,hb,hg⟩:=h3 i hi;exact ⟨b,hb,by rw [cell_of_row w g i arr _ (0,0) h1,hg],by simp [World.frozen?,h1]⟩
theorem qae.set {w:World} {g n:Nat} (h:qae w g n) (i b:Nat) (hb:b < 256):qae (w.setCell ⟨g,i,none⟩ (.int .u8 (b:Nat))) g n:=by
 obtain ⟨arr,h1,h2,h3⟩:=h;refine ⟨arr.setIfInBounds i (.int .u8 (b:Nat)),by simp [World.setCell,Array.getElem?_modify,h1],by simpa using h2,fun k hk=>?_⟩;rw [Array.getElem?_setIfInBounds]
 by_cases hik:i=k
 · subst hik;rw [if_pos rfl,if_pos (by omega)];exact ⟨b,hb,rfl⟩
 · rw [if_neg hik];exact h3 k hk
theorem qae.drewN {w:World} {g n:Nat} (h:qae w g n) (k:Nat):qae (w.drewN k) g n:=h
theorem wbo (g n cap:Nat) (w:World) (h:qae w g n) (hc:n<=cap) (hc':cap<=9223372036854775807) :
 Calls Tryz.prog 165 #[.slice (some ⟨g,0,none⟩) n cap] w fun e w'=>e=.returned (.tuple #[])/\qae w' g n/\Only g w w':=by
 have H:=Lib.hid h;clear h;go_enter Tryz.func165,Tryz.ntmps165;go_wp2_with fail
 go_loopw [2,3] (fun iv jv wr=>∃ i j:Nat,i+j=n/\iv=.int .i64 i/\jv=.int .i64 ((j:Int) - 1)/\Hid (qae wr g n/\Only g w wr)) (fun iv jv _=>n - (intOf iv).toNat)
 case atStart=>exact ⟨0,n,by omega,rfl,rfl,Lib.hid ⟨H.out,Only.refl _ _⟩⟩
 case round =>
  obtain ⟨i,j,hij,rfl,rfl,HI⟩:=hrel
  by_cases hlt:i+1 < j
  · obtain ⟨j,rfl⟩:∃ k,j=k+1:=⟨j - 1,by omega⟩;rw [show (((j+1:Nat):Int) - 1)=(j:Int) from by omega];have hjn:j < n:=by omega
    obtain ⟨x,hx,cx,fx⟩:=HI.out.1.get i (by omega);obtain ⟨y,hy,cy,fy⟩:=HI.out.1.get j (by omega);have hne:¬ (i=j):=by omega
    go_wp2_with fail
    go_region
    go_wp2_with fail
    go_roundw
    case rel=>exact ⟨i+1,j,by omega,by go_num,by go_num,Lib.hid ⟨((HI.out.1.drewN 1).set i y hy).set j x hx,((HI.out.2.drewN 1).setCell i _).setCell j _⟩⟩
    case measure=>simp [intOf]; omega
  · go_wp2_with fail
    go_end0
    exact ⟨rfl,HI.out.1,HI.out.2⟩
end Go.Proofs.YtheefiaoimbeiaaGreatDoor

/- How many decimal digits a number has. No program in sight. -/
namespace Go.Proofs.YtheefiaoimbeiaaGreatDoor
def wae (n:Nat):Nat:=if _h:n < 10 then 1 else wae (n / 10)+1
termination_by n
decreasing_by omega
theorem ya2 {n:Nat} (h:n < 10):wae n=1:=by rw [wae]; simp [h]
theorem uba {n:Nat} (h:10<=n):wae n=wae (n / 10)+1:=by rw [wae]; simp [show ¬ n < 10 by omega]
theorem jbk (n:Nat):1<=wae n:=by
 rcases Nat.lt_or_ge n 10 with h | h
 · rw [ya2 h]; omega
 · rw [uba h]; omega
def more (n:Nat):Nat:=if n=0 then 0 else wae n
theorem waz:more 0=0:=rfl
theorem ya6 {n:Nat} (h:n ≠ 0):more n=wae n:=if_neg h
theorem za0 {n:Nat} (h:n ≠ 0):more n=more (n / 10)+1:=by
 rw [ya6 h];rcases Nat.lt_or_ge n 10 with h1 | h1
 · rw [ya2 h1,Nat.div_eq_of_lt h1,waz]
 · rw [uba h1,ya6 (by omega)]
theorem jbx (k:Nat):∀ n,10 ^ k<=n->more n=more (n / 10 ^ k)+k:=by
 induction k with
 | zero=>intro n _; simp
 | succ k ih =>
   intro n h;have hp:0 < 10 ^ k:=Nat.pow_pos (by omega);have h1:10 ^ k<=n / 10:=by
    rw [Nat.le_div_iff_mul_le (by omega)];rw [Nat.pow_succ] at h;exact h
   have hn:n ≠ 0:=by
    rintro rfl;have:0 < 10 ^ (k+1):=Nat.pow_pos (by omega);omega
   rw [za0 hn,ih _ h1,Nat.div_div_eq_div_mul,Nat.pow_succ,Nat.mul_comm 10];omega
theorem zbb (n k:Nat) (h:n < 10 ^ k):more n<=k:=by
 induction k generalizing n with
 | zero => have : n = 0 := by simpa using h
           subst this; simp [more]
 | succ k ih =>
   by_cases hn:n=0
   · subst hn; simp [more]
   · rw [za0 hn];have:n / 10 < 10 ^ k:=by
      rw [Nat.div_lt_iff_lt_mul (by omega)];rw [Nat.pow_succ] at h;exact h
     have:=ih _ this;omega
end Go.Proofs.YtheefiaoimbeiaaGreatDoor

/- Layer 4 (decimal): Format, its length; Digits. -/
set_option maxRecDepth 100000
set_option maxHeartbeats 8000000
namespace Go.Proofs.YtheefiaoimbeiaaGreatDoor
open Go.RowKit
def yak (w:World) (base:Nat) (v:Value) (len:Nat):Prop:=∃ xs:List Value,w.ownsRow base 5 1 v len xs/\∀ u ∈ xs,∃ b:Nat,b < 256/\u=.int .u8 (b:Nat)
theorem gcr:(Tryz.prog.info? 5).map (fun i=>(i.zero,i.size,i.bytes))=some (some (.int .u8 0),1,1):=by kernel_rfl
def zak (w:World) (v s8:Value) (R:Nat):Prop:=∃ (A:Option Addr) (c:Nat) (ds:List Nat),s8=.slice A ds.length c/\ds.length<=c/\c<=9223372036854775807/\ds.length<=17592186044416/\jk w A ds/\val ds=R/\(0 < ds.length->∀ ad,A=some ad->v.ownBlock ≠ some ad.block)
theorem zak.natV {w:World} {v s8:Value} {R:Nat} (h:zak w v s8 R):∃ ds,ja w s8 ds/\val ds=R/\ds.length<=17592186044416:=by
 obtain ⟨A,c,ds,e,h1,h2,h3,h4,h5,h6⟩:=h;exact ⟨ds,⟨A,c,e,h1,h2,h4⟩,h5,h3⟩
theorem ubq {w w' : World} {base len R b : Nat} {v v' s8 : Value} {xs : List Value} (hown : w'.ownsRow base 5 1 v' (len + 1) (xs ++ [.int .u8 (b : Nat)])) (hx : ∀ u ∈ xs, ∃ b : Nat, b < 256 /\ u = .int .u8 (b : Nat)) (hb : b < 256)
 (hg:w.grownBy w' v.ownBlock) (hat:v'.ownBlock=v.ownBlock\/v'.ownBlock=some w.heap.size) (hr:zak w v s8 R):yak w' base v' (len+1)/\zak w' v' s8 R:=by
 refine ⟨⟨_,hown,fun u hu=>?_⟩,?_⟩
 · rcases List.mem_append.1 hu with h | h
   · exact hx u h
   · exact ⟨b,hb,by simpa using h⟩
 · obtain ⟨A,c,ds,e,h1,h2,h3,h4,h5,h6⟩:=hr;refine ⟨A,c,ds,e,h1,h2,h3,⟨h4.1,fun hl=>?_⟩,h5,fun hl ad e'=>?_⟩
   · obtain ⟨ad,e',hb',hc'⟩:=h4.2 hl;refine ⟨ad,e',Nat.lt_of_lt_of_le hb' hg.size,fun j hj=>?_⟩;have hne:=h6 hl ad e';rw [World.cell?_of_block (hg.block _ (by rw [jb]; exact hb') (by rw [jb]; exact fun e=>hne e.symm))];exact hc' j hj
   · rcases hat with h | h
     · rw [h]; exact h6 hl ad e'
     · rw [h];intro e2;injection e2 with e2
       obtain ⟨ad',e3,hb',-⟩:=h4.2 hl;rw [e'] at e3;injection e3 with e3
       subst e3;omega
theorem kbx (n:Nat):more n<=10 * (dg n).length:=by
 apply zbb;have h:=xac n;have h2:B32 ^ (dg n).length<=(10 ^ 10) ^ (dg n).length:=Nat.pow_le_pow_left (by decide) _;rw [<- Nat.pow_mul] at h2;omega
def FmtInv (w0:World) (N R:Nat) (s7 s8:Value) (wr:World):Prop:=∃ len,yak wr w0.heap.size s7 len/\zak wr s7 s8 R/\len+more R=more N/\Ext w0 wr
def kbc (last:Bool) (len' len p p0 i:Nat):Prop:=if last then len'+more p=len+more p0/\i+more p<=9 else len'=len+i
def kb0 (w0:World) (R' len p0:Nat) (last:Bool) (vq:Value) (i p:Nat) (s7:Value) (wr:World):Prop:=
 ∃ len',yak wr w0.heap.size s7 len'/\zak wr s7 vq R'/\kbc last len' len p p0 i/\Ext w0 wr
theorem zak.kept {w w':World} {v s8:Value} {R:Nat} (h:zak w v s8 R) (hx:Ext w w'):zak w' v s8 R:=by
 obtain ⟨A,c,ds,e,h1,h2,h3,h4,h5,h6⟩:=h;exact ⟨A,c,ds,e,h1,h2,h3,h4.ext hx,h5,h6⟩
theorem yak.lt {w:World} {base len:Nat} {v:Value} (h:yak w base v len):∀ g,v.ownBlock=some g->g < w.heap.size:=by
 intro g hg;obtain ⟨xs,⟨-,h2⟩,-⟩:=h;rcases h2 with ⟨rfl,-⟩ | ⟨g',cap,cur,rfl,-,hh,-⟩
 · simp [Value.ownBlock] at hg
 · have:g'=g:=by simpa [Value.ownBlock] using hg
   subst this;rcases Nat.lt_or_ge g' w.heap.size with hlt | hge
   · exact hlt
   · rw [Array.getElem?_eq_none hge] at hh; cases hh
theorem yak.kept {w w':World} {base len:Nat} {v:Value} (h:yak w base v len) (hx:Ext w w'):yak w' base v len:=by
 have hlt:=h.lt;obtain ⟨xs,h1,h2⟩:=h;exact ⟨xs,h1.kept (row:=none) ⟨hx.below.os,hx.below.tape,hx.below.output,hx.size,fun k hk _=>hx.below.block k hk⟩ (by cases hv:v.ownBlock <;> simp),h2⟩
theorem yak.base_le {w:World} {base len:Nat} {v:Value} (h:yak w base v len):∀ g,v.ownBlock=some g->base<=g:=by
 intro g hg;obtain ⟨xs,⟨-,h2⟩,-⟩:=h;rcases h2 with ⟨rfl,-⟩ | ⟨g',cap,cur,rfl,hb,-⟩
 · simp [Value.ownBlock] at hg
 · have:g'=g:=by simpa [Value.ownBlock] using hg
   subst this;exact hb
theorem Ext.grown {w0 w w':World} {row:Option Nat} (hx:Ext w0 w) (hg:w.grownBy w' row) (hr:∀ g,row=some g->w0.heap.size<=g):Ext w0 w':=
 Below.grown hx hg hx.size hr
theorem va8 (ns:List Int) (s:ByteArray):(ns.foldl (fun r n=>r.push (UInt8.ofNat n.toNat)) s).size=s.size+ns.length:=by
 induction ns generalizing s with
 | nil=>simp
 | cons n r ih=>rw [List.foldl_cons,ih,ByteArray.size_push,List.length_cons]; omega
theorem xba {w:World} {g n:Nat} (h:qae w g n) (cap:Nat) :
 ∃ s:ByteArray,s.size=n/\(convert 243 9 (.slice (some ⟨g,0,none⟩) n cap)).run Tryz.prog w=.ok (.string s) w:=by
 have hex:∀ i,∃ b:Int,i < n->w.cell? ⟨g,i,none⟩=some (.int .u8 b):=fun i=>by
  by_cases hi:i < n
  · obtain ⟨b,-,hc,-⟩:=h.get i hi;exact ⟨b,fun _=>hc⟩
  · exact ⟨0,fun hh=>absurd hh hi⟩
 let f:Nat->Int:=fun i=>Classical.choose (hex i)
 have hf:∀ i,i < n->w.cell? ⟨g,i,none⟩=some (.int .u8 (f i)):=fun i hi=>Classical.choose_spec (hex i) hi
 have hl:=run_loadCells (P:=Tryz.prog) w ⟨g,0,none⟩ n (fun j=>.int .u8 (f j)) (fun j hj=>by rw [yx,Nat.zero_add]; exact hf j hj);have hl2:(loadCells ⟨g,0,none⟩ n).run Tryz.prog w=.ok (((List.range n).map f).map (Value.int .u8)).toArray w:=by
  rw [hl,List.map_map]; rfl
 refine ⟨((List.range n).map f).foldl (fun r n=>r.push (UInt8.ofNat n.toNat)) ByteArray.empty,?_,?_⟩
 · rw [va8]; simp
 · rw [run_convert_bytes_string w 243 9 5 _ _ _ Tryz.underlying243 Tryz.underlying5 Tryz.underlying9];exact run_bytesToString w _ n cap _ hl2
theorem gbe {w0 wr wq : World} {R' len p0 i p len' b : Nat} {last : Bool} {vq v v' : Value} {xs : List Value} {o : Obj} (hown : (wr.ownsRow w0.heap.size 5 1 v len' xs)) (hxs : ∀ u ∈ xs, ∃ b : Nat, b < 256 /\ u = .int .u8 (b : Nat))
 (hr:zak wr v vq R') (hc:kbc last len' len p p0 i) (hx:Ext w0 wr) (hgo:last=false\/p ≠ 0)
 (hown':wq.ownsRow w0.heap.size 5 1 v' (len'+1) (xs ++ [.int .u8 (b:Nat)])) (hb:b < 256) (hg:(wr.alloc o).grownBy wq v.ownBlock) (hat:v'.ownBlock=v.ownBlock\/v'.ownBlock=some (wr.heap.size+1)) :
 kb0 w0 R' len p0 last vq (i+1) (p / 10) v' wq:=by
 have hbase:∀ g,v.ownBlock=some g->w0.heap.size<=g:=yak.base_le ⟨xs,hown,hxs⟩;obtain ⟨s1,s2⟩:=ubq hown' hxs hb hg (by simpa using hat) (hr.kept ((Ext.refl wr).alloc o));refine ⟨len'+1,s1,s2,?_,(hx.alloc o).grown hg hbase⟩;unfold kbc at hc ⊢;cases last
 · simp at hc ⊢; omega
 · rcases hgo with h | h
   · cases h
   · simp only [if_true] at hc ⊢;have:=za0 h;omega
theorem vby (x:Value) (z:Int) (L:Nat) (w:World) (h:jg w x z L) (hs:L<=1000000000000) (hz0:0<=z) :
 Calls Tryz.prog 152 #[x,.int .i64 10] w fun e w'=>(∃ s:ByteArray,s.size=wae z.natAbs/\e=.returned (.string s))/\Ext w w':=by
 have H:=Lib.hid h;obtain ⟨neg,v,ds,rfl,⟨A,c,rfl,h1,h2,h3⟩,hz,hl⟩:=h;have H3:=Lib.hid h3;clear h3
 by_cases hzz:z=0
 · subst hzz;have hsz:(sgI 0 == 0)=true:=by decide
   have x0:Ext w (w.alloc (Obj.cells #[.bool neg,.slice A ds.length c] 25)):=(Ext.refl w).alloc _;have X0:=Lib.hid x0;clear x0 hz;go_enter Tryz.func152,Tryz.ntmps152;go_wp2_with fail;refine (jao _ 0 L _ (H.out.ext X0.out)).mono ?_;rintro e w1 ⟨rfl,y1⟩;have Y1:=Lib.hid y1;clear y1;go_wp2_with fail;go_ret;exact ⟨⟨_,by rw [ya2 (by decide)]; rfl,rfl⟩,X0.out.trans Y1.out⟩
 · have hneg:neg=false:=by
    cases neg
    · rfl
    · exfalso; simp [sgn] at hz; omega
   subst hneg;have hzv:z.natAbs=val ds:=by rw [hz]; exact uq _ _
   have HZV:=Lib.hid hzv;have hsz:(sgI z == 0)=false:=by
    unfold sgI; rw [vap (by omega)]; rfl
   have HNZ:Hid (val ds ≠ 0):=by
    intro e;rw [e] at hzv;omega
   clear hz hzv hzz hz0;go_enter Tryz.func152,Tryz.ntmps152;go_wp2_with fail;have x0:Ext w (w.alloc (Obj.cells #[.bool false,.slice A ds.length c] 25)):=(Ext.refl w).alloc _;have hcA:∀ w',Ext (w.alloc (Obj.cells #[.bool false,.slice A ds.length c] 25)) w'->w'.cell? ⟨w.heap.size,0,none⟩=some (.bool false)/\w'.cell? ⟨w.heap.size,1,none⟩=some (.slice A ds.length c):=by
    intro w' hx;obtain ⟨hc,-⟩:=hx.cells;exact ⟨by rw [hc _ _ (by simp)]; simp [World.cell?_alloc_new],by rw [hc _ _ (by simp)]; simp [World.cell?_alloc_new]⟩
   have HCA:=Lib.hid hcA;have X0:=Lib.hid x0;refine (jao _ z L _ (H.out.ext x0)).mono ?_;generalize w.alloc (Obj.cells #[.bool false,.slice A ds.length c] 25)=W at *;clear hcA x0;rintro e w1 ⟨rfl,y1⟩;obtain ⟨c0,c1⟩:=HCA.out w1 y1;have Y1:=Lib.hid y1;clear y1;go_wp2_with (go_at_call 163; refine (vct _).mono ?_; rintro e w' ⟨rfl,rfl⟩)
   have HI0:Hid (FmtInv w1 (val ds) (val ds) (.slice none 0 0) (.slice A ds.length c) w1):=
    ⟨0,⟨[],⟨by simp,.inl ⟨rfl,rfl⟩⟩,by simp⟩,⟨A,c,ds,rfl,h1,h2,by omega,H3.out.ext (X0.out.trans Y1.out),rfl,fun _ ad _=>by simp [Value.ownBlock]⟩,by omega,Ext.refl _⟩
   have hmb:more (val ds)<=10000000000000:=by
    have h4:=kbx (val ds);have h5:=ve H3.out.1;omega
   go_loopg [7,8] (val ds) (fun gk s7 s8 wr=>Hid (FmtInv w1 (val ds) gk s7 s8 wr))
   case atStart=>exact HI0
   case round =>
    clear HI0;obtain ⟨len,ho,hr,hlen,hx⟩:=hrel.out;obtain ⟨d8,n8,v8,l8⟩:=hr.natV
    by_cases hR:gk=0
    · have hb8:(val d8 == 0)=true:=by rw [v8]; simp [hR]
      obtain ⟨c0,c1⟩:=HCA.out wr (Y1.out.trans hx);have hlenN:len=wae z.natAbs:=by
       rw [hR,waz,ya6 HNZ.out] at hlen;rw [HZV.out];omega
      have HLEN:=Lib.hid hlenN;have hlp:1<=len:=by rw [hlenN]; exact jbk _
      have HX:=Lib.hid (X0.out.trans (Y1.out.trans hx));have hbl:w.heap.size<=w1.heap.size:=by have:=X0.out.size; have:=Y1.out.size; omega
      have hl10:len<=10000000000000:=by omega
      obtain ⟨xs,⟨hxl,hown⟩,hxs⟩:=ho;rcases hown with ⟨-,h0⟩ | ⟨g,cap,cur,rfl,hbg,hh,hnc,hcm,hcs,htk⟩
      · omega
      have hBB:qae wr g len:=by
       refine ⟨cur,hh,by omega,fun i hi=>?_⟩;have hil:i < xs.length:=by omega
       obtain ⟨b,hb,hu⟩:=hxs xs[i] (List.getElem_mem hil);refine ⟨b,hb,?_⟩;have h5:(cur.toList.take (len * 1))[i]?=some xs[i]:=by rw [htk,List.getElem?_eq_getElem hil]
       rw [List.getElem?_take_of_lt (by omega)] at h5;simpa [hu] using h5
      have HBB:=Lib.hid hBB;clear hrel hr hlen hx v8 hlenN hxl hxs hh hcs htk hBB;unfold maxLen at hcm;go_wp2_with fail;refine (vah _ _ _ n8).mono ?_;rintro e w' ⟨rfl,rfl⟩;go_wp2_with fail;refine (wbo g len cap _ HBB.out hnc hcm).mono ?_;rintro e w5 ⟨rfl,hB5,hO5⟩;have HB5:=Lib.hid hB5;have HO5:=Lib.hid hO5;clear hB5 hO5;obtain ⟨str,hsl,hrun⟩:=xba HB5.out cap;have HSL:=Lib.hid hsl;clear hsl;go_wp2_with fail;go_ret;exact ⟨⟨str,by rw [HSL.out]; exact HLEN.out,rfl⟩,HO5.out.ext HX.out (by omega)⟩
    · have hb8:(val d8 == 0)=false:=by rw [v8]; simp [hR]
      have HO:=Lib.hid ho;have HR:=Lib.hid hr;have HL:=Lib.hid hlen;have HX:=Lib.hid hx;have V8:=Lib.hid v8;have N8:=Lib.hid n8;clear hrel ho hr hlen hx v8 n8;go_wp2_with fail;refine (vah _ _ _ N8.out).mono ?_;rintro e w' ⟨rfl,rfl⟩;go_wp2_with fail;refine (wa0 _ _ 1000000000 _ N8.out (by omega) (by omega) (by omega)).mono ?_;rw [V8.out];rintro e w2 ⟨vq,rfl,nq,fq,y2⟩;have hp0:gk % 1000000000 < 1000000000:=Nat.mod_lt _ (by omega);have HR2:Hid (zak w2 u7 vq (gk / 1000000000)):=by
       obtain ⟨Aq,cq,rfl,i1,i2,i3⟩:=nq;refine ⟨Aq,cq,_,rfl,i1,i2,?_,i3,je _,fun _ ad e hh=>?_⟩
       · have h6:=yw (Nat.div_le_self gk 1000000000);have h7:=ve N8.out.digs;rw [V8.out] at h7;omega
       · subst e;have h8:=fq ad _ _ rfl;have h9:=HO.out.lt _ hh;omega
      have HO2:=Lib.hid (HO.out.kept y2);have HX2:=Lib.hid (HX.out.trans y2);have NQ:=Lib.hid nq;clear nq fq y2;go_wp2_with fail;refine (vah _ _ _ NQ.out).mono ?_;rw [je];rintro e w' ⟨rfl,rfl⟩;obtain ⟨last,hlast⟩:∃ last,last=(gk / 1000000000 == 0):=⟨_,rfl⟩;rw [<- hlast];have HLAST:=Lib.hid hlast;clear hlast;go_wp2_with fail;have HIN:Hid (kb0 w1 (gk / 1000000000) len (gk % 1000000000) last vq 0 (gk % 1000000000) u7 w2):=by
       refine ⟨len,HO2.out,HR2.out,?_,HX2.out⟩;unfold kbc;cases last
       · simp
       · simp only [if_true];exact ⟨trivial,by have:=zbb _ 9 hp0; omega⟩
      obtain ⟨wo,rfl⟩:∃ wo:World,wo=wr:=⟨_,rfl⟩;obtain ⟨i0,hi0,hz0,hz1,hz2⟩:=info_parts gcr;have HI0:=Lib.hid (And.intro hi0 (And.intro hz0 (And.intro hz1 hz2)));clear hi0 hz0 hz1 hz2;have hlen10:len<=10000000000000:=by have:=HL.out; omega
      go_loopw [7,9,11] (fun s7 pv iv wq=>∃ i p:Nat,i<=9/\iv=.int .i64 i/\pv=.int .u32 p/\p < 1000000000/\Hid (kb0 w1 (gk / 1000000000) len (gk % 1000000000) last vq i p s7 wq)) (fun _ _ iv _=>9 - (intOf iv).toNat)
      case atStart=>exact ⟨0,gk % 1000000000,by omega,rfl,by simp,hp0,HIN⟩
      case round =>
       clear HIN;obtain ⟨i,p,hi,rfl,rfl,hp,HI⟩:=hrel;obtain ⟨len',ho',hr',hc',hx'⟩:=HI.out;have hl':len'<=20000000000000:=by
        unfold kbc at hc';cases last
        · simp at hc'; omega
        · simp at hc';have:=zbb _ 9 hp0;omega
       by_cases hgo:i < 9/\(last=false\/p ≠ 0)
       · obtain ⟨hi9,hgo⟩:=hgo;obtain ⟨xs,hown,hxs⟩:=ho';have HS:=Lib.hid hr';have HC:=Lib.hid hc';have HX':=Lib.hid hx';have HXS:=Lib.hid hxs;have HOWN:=Lib.hid hown;clear HI hr' hc' hx' hxs hown;have hp10:p % 10 < 10:=Nat.mod_lt _ (by omega)
         by_cases hgo2:last=false
         · subst hgo2;clear hgo
           go_wp2_with (at_builtin
                        refine wpList_append_own_at _ rfl (.tmp 47) (.tmp 53) _ rfl w1.heap.size 5 i0 (.int .u8 0) 1 1 Tryz.underlying243 HI0.out.1 HI0.out.2.1 HI0.out.2.2.1 HI0.out.2.2.2 rfl (by omega) _ len' xs rfl (HOWN.out.alloc _) ⟨wr.heap.size,0,none⟩ 1 1 _ rfl rfl (World.news_of_block (heap_alloc_new wr _)) ?_ ?_ ?_ ?_ ?_)
           · simp [Value.oneCell']
           · unfold maxLen; omega
           · omega
           · have:=HX'.out.size; simp; omega
           · intro v' wq hown' hg' _ hat';have HSTEP:=Lib.hid (gbe HOWN.out HXS.out HS.out HC.out HX'.out (.inl rfl) hown' (UInt8.toNat_lt _) hg' hat');clear hown' hg' hat' HOWN HXS HS HC HX';go_wp2_with fail
             go_roundw
             case rel=>exact ⟨i+1,p / 10,by omega,by go_num,by simp,by omega,HSTEP⟩
             case measure=>simp [intOf]; omega
         · have hpne:p ≠ 0:=by
             rcases hgo with h | h
             · exact absurd h hgo2
             · exact h
           clear hgo;cases last
           · exact absurd rfl hgo2
           · clear hgo2;have hpb:((p:Int) != 0)=true:=by simp; omega
             go_wp2_with (at_builtin
                          refine wpList_append_own_at _ rfl (.tmp 47) (.tmp 53) _ rfl w1.heap.size 5 i0 (.int .u8 0) 1 1 Tryz.underlying243 HI0.out.1 HI0.out.2.1 HI0.out.2.2.1 HI0.out.2.2.2 rfl (by omega) _ len' xs rfl (HOWN.out.alloc _) ⟨wr.heap.size,0,none⟩ 1 1 _ rfl rfl (World.news_of_block (heap_alloc_new wr _)) ?_ ?_ ?_ ?_ ?_)
             · simp [Value.oneCell']
             · unfold maxLen; omega
             · omega
             · have:=HX'.out.size; simp; omega
             · intro v' wq hown' hg' _ hat';have HSTEP:=Lib.hid (gbe HOWN.out HXS.out HS.out HC.out HX'.out (.inr hpne) hown' (UInt8.toNat_lt _) hg' hat');clear hown' hg' hat' HOWN HXS HS HC HX';go_wp2_with fail
               go_roundw
               case rel=>exact ⟨i+1,p / 10,by omega,by go_num,by simp,by omega,HSTEP⟩
               case measure=>simp [intOf]; omega
       · have hend:len'+more (gk / 1000000000)=more (val ds):=by
          have hL:=HL.out;unfold kbc at hc';cases last
          · have h9:i=9:=by
             rcases Nat.lt_or_ge i 9 with h | h
             · exact absurd ⟨h,.inl rfl⟩ hgo
             · omega
            have hq:gk / 1000000000 ≠ 0:=by
             have:=HLAST.out;intro e;rw [e] at this;simp at this
            have h10:10 ^ 9<=gk:=by
             rcases Nat.lt_or_ge gk (10 ^ 9) with h | h
             · exact absurd (Nat.div_eq_of_lt h) hq
             · exact h
            have h11:=jbx 9 gk h10;simp at hc';have h12:(10:Nat) ^ 9=1000000000:=by decide
            rw [h12] at h11;omega
          · have hq:gk / 1000000000=0:=by
             have:=HLAST.out;simpa using this.symm
            have hgp:gk % 1000000000=gk:=by omega
            have hp0':more p=0:=by
             rcases Nat.lt_or_ge i 9 with h | h
             · have:p=0:=Decidable.byContradiction fun hne=>hgo ⟨h,.inr hne⟩
               rw [this]; rfl
             · simp only [if_true] at hc'; omega
            simp only [if_true] at hc';rw [hq,hgp] at *;rw [waz];omega
         have HS2:Hid (FmtInv w1 (val ds) (gk / 1000000000) u7 vq wr):=⟨len',ho',hr',hend,hx'⟩;have hlt2:gk / 1000000000 < gk:=Nat.div_lt_self (by omega) (by omega);have hb:(decide ((i:Int) < 9)=false)\/(decide ((i:Int) < 9)=true/\last=true/\p=0):=by
          rcases Nat.lt_or_ge i 9 with h | h
          · right
            refine ⟨by simp; omega,?_,Decidable.byContradiction fun hne=>hgo ⟨h,.inr hne⟩⟩;cases last
            · exact absurd ⟨h,.inl rfl⟩ hgo
            · rfl
          · left; simp; omega
         clear HI ho' hr' hc' hx' hend hgo;rcases hb with hb | ⟨hb,hb2,hb3⟩
         · go_wp2_with fail
           go_roundg (gk / 1000000000)
           case rel=>exact HS2
           case measure=>exact hlt2
         · subst hb2;subst hb3;go_wp2_with fail
           go_roundg (gk / 1000000000)
           case rel=>exact HS2
           case measure=>exact hlt2
end Go.Proofs.YtheefiaoimbeiaaGreatDoor

/- Layer 4 (decimal): Format and Digits. -/
namespace Go.Proofs.YtheefiaoimbeiaaGreatDoor
open Go.RowKit
theorem jb0 (x:Value) (z:Int) (L:Nat) (w:World) (h:jg w x z L) (hs:L<=1000000000000) (hz0:0<=z) :
 Calls Tryz.prog 135 #[x] w fun e w'=>(∃ s:ByteArray,s.size=wae z.natAbs/\e=.returned (.string s))/\Ext w w':=by
 have H:=Lib.hid h;obtain ⟨neg,v,ds,rfl,⟨A,c,rfl,h1,h2,h3⟩,hz,hl⟩:=h;clear h3 hz;go_enter Tryz.func135,Tryz.ntmps135;go_wp2_with fail;generalize hW:w.alloc (Obj.cells #[.bool neg,.slice A ds.length c] 25)=W;have HX0:Hid (Ext w W):=by
  have:Ext w W:=by rw [<- hW]; exact (Ext.refl w).alloc _
  exact this
 have HWS:Hid (W.heap.size=w.heap.size+1):=by
  have:W.heap.size=w.heap.size+1:=by rw [<- hW]; simp
  exact this
 have HS:Hid (∀ W',Ext W W'->(Ext w W'/\W'.cell? ⟨w.heap.size,0,none⟩=some (.bool neg)/\W'.cell? ⟨w.heap.size,1,none⟩=some (.slice A ds.length c))):=by
  intro W' hx;obtain ⟨hc,hf⟩:=hx.cells;have hsz:=HWS.out;refine ⟨HX0.out.trans hx,?_,?_⟩ <;> (rw [hc _ _ (by omega),<- hW]; simp [go_sem])
 clear hW;obtain ⟨e0,b0,b1⟩:=HS.out W (Ext.refl W);refine (vby _ z L _ (H.out.ext e0) hs hz0).mono ?_;rintro e w2 ⟨⟨s,hs1,rfl⟩,y2⟩;have HS1:=Lib.hid hs1;clear e0 b0 b1 hs1;go_wp2_with fail;go_ret;exact ⟨⟨s,HS1.out,rfl⟩,HX0.out.trans y2⟩
theorem ga9 (x:Value) (z:Int) (L:Nat) (w:World) (h:jg w x z L) (hs:L<=1000000000000) :
 Calls Tryz.prog 109 #[x] w fun e w'=>e=.returned (.int .i64 (wae z.natAbs:Nat))/\Ext w w':=by
 have H:=Lib.hid h;obtain ⟨neg,v,ds,rfl,⟨A,c,rfl,h1,h2,h3⟩,hz,hl⟩:=h;have HL:Hid ((dg z.natAbs).length<=L):=H.out.len;clear h3 hz;go_enter Tryz.func109,Tryz.ntmps109;go_wp2_with fail;generalize hW:w.alloc (Obj.cells #[.bool neg,.slice A ds.length c] 25)=W;have HX0:Hid (Ext w W):=by
  have:Ext w W:=by rw [<- hW]; exact (Ext.refl w).alloc _
  exact this
 have HWS:Hid (W.heap.size=w.heap.size+1):=by
  have:W.heap.size=w.heap.size+1:=by rw [<- hW]; simp
  exact this
 have HS:Hid (∀ W',Ext W W'->(Ext w W'/\W'.cell? ⟨w.heap.size,0,none⟩=some (.bool neg)/\W'.cell? ⟨w.heap.size,1,none⟩=some (.slice A ds.length c))):=by
  intro W' hx;obtain ⟨hc,hf⟩:=hx.cells;have hsz:=HWS.out;refine ⟨HX0.out.trans hx,?_,?_⟩ <;> (rw [hc _ _ (by omega),<- hW]; simp [go_sem])
 clear hW;obtain ⟨e0,b0,b1⟩:=HS.out W (Ext.refl W);refine (ycu _ z L _ (H.out.ext e0) (by omega)).mono ?_;rintro e w1 ⟨x1,rfl,n1,y1⟩;have Y1:=Lib.hid y1;have N1:=Lib.hid n1;clear e0 b0 b1 y1 n1;go_wp2_with fail;refine (jb0 _ (z.natAbs:Int) L _ (N1.out.raw.mono HL.out) hs (by omega)).mono ?_;rw [Int.natAbs_natCast];rintro e w2 ⟨⟨s,hs1,rfl⟩,y2⟩;go_wp2_with fail;go_ret;exact ⟨rfl,HX0.out.trans (Y1.out.trans y2)⟩
end Go.Proofs.YtheefiaoimbeiaaGreatDoor
