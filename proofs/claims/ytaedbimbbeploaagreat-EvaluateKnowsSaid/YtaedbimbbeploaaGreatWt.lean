/- Layer 34: formula.Weight; evaluate.large. -/
import Derived.Test.YtaedbimbbeploaaGreatDeg
import Derived.Test.YtaedbimbbeploaaGreatMz28
import Derived.Lib.MinMax
set_option linter.unusedSimpArgs false
set_option linter.unusedVariables false

set_option maxRecDepth 100000
set_option maxHeartbeats 8000000
namespace Go.Proofs.YtaedbimbbeploaaGreat
open Go.RowKit
attribute [local go_sem] kah kae yai qah gah uah jah wac vae vah zai gal kz wah zad
def Tm.wt : Tm -> Int
 | .num z=>wz (xaj z.natAbs:Nat)
 | .name _=>1
 | .add a b=>wz (ut a.wt b.wt+1)
 | .sub a b=>wz (ut a.wt b.wt+1)
 | .mul a b=>wz (a.wt+b.wt)
 | .neg a=>a.wt
 | .pow a e=>uao (ut e 1) a.wt
theorem waj {n:Int} (h:1<=n):1<=wz n/\wz n<=2147483647:=by unfold wz; split <;> omega
theorem wbx {a b:Int} (h:1<=a) (k:1<=b):1<=uao a b/\uao a b<=2147483647:=by
 have h1:=waj h;have h2:=waj k;have:=Int.mul_le_mul h1.1 h2.1 (by omega) (by omega);exact waj (by simpa using this)
theorem Tm.wt_bd (t:Tm):1<=t.wt/\t.wt<=2147483647:=by
 induction t with
 | num z=>exact waj (by have:=wbf z.natAbs; omega)
 | name s=>simp [Tm.wt]
 | add a b iha ihb=>have:=vap iha.1 iha.2 ihb.1 ihb.2; exact waj (by omega)
 | sub a b iha ihb=>have:=vap iha.1 iha.2 ihb.1 ihb.2; exact waj (by omega)
 | mul a b iha ihb=>exact waj (by omega)
 | neg a iha=>exact iha
 | pow a e iha=>exact wbx (by unfold ut; split <;> omega) iha.1
theorem gcl {w0 w:World} {L:Nat} {a b:Tm} {v:Value} (h:TmV w0 L (.add a b) v) (iha:∀ (v:Value) (w:World),Ext w0 w->TmV w0 L a v->Calls Tryz.prog 81 #[v] w (jl a.wt w)) (ihb:∀ (v:Value) (w:World),Ext w0 w->TmV w0 L b v->Calls Tryz.prog 81 #[v] w (jl b.wt w)) (hx0:Ext w0 w) :
 Calls Tryz.prog 81 #[v] w (jl (wz (ut a.wt b.wt+1)) w):=by
 have ha:=a.wt_bd;have hb:=b.wt_bd;have IHA:=Lib.hid iha;have IHB:=Lib.hid ihb;obtain ⟨x,y,rfl,hx,hy⟩:=h;have HX:=Lib.hid hx;have HY:=Lib.hid hy;obtain ⟨T,x,rfl⟩:=hx.iface;obtain ⟨U,y,rfl⟩:=hy.iface;clear hx hy iha ihb;generalize a.wt=da at *;generalize b.wt=db at *;have hwm:IntKind.i64.wrap (max da db+1)=ut da db+1:=by
  have hm:max da db=ut da db:=by rw [Int.max_def]; unfold ut; split <;> split <;> omega
  have hm':=vap ha.1 ha.2 hb.1 hb.2;rw [hm]; exact IntWalk.i64_in _ (by omega)
 go_enter Tryz.func81,Tryz.ntmps81;go_wp2_with fail;obtain ⟨W,hW⟩:∃ W,w.alloc (.cells #[.iface T x,.iface U y] 182)=W:=⟨_,rfl⟩;have HB:Hid (∀ W',Ext W W'->(Ext W W'/\W'.cell? ⟨w.heap.size,0,none⟩=some (.iface T x)/\W'.cell? ⟨w.heap.size,1,none⟩=some (.iface U y))):=by
  intro W' hx;obtain ⟨hc,hf⟩:=hx.cells;refine ⟨hx,?_,?_⟩ <;> (rw [hc _ _ (by rw [<- hW]; simp),<- hW]; simp [go_sem])
 have HX0:Hid (Ext w W):=by
  have:Ext w W:=by rw [<- hW]; exact (Ext.refl w).alloc _
  exact this
 have HXW:=Lib.hid (hx0.trans HX0.out);clear hx0;rw [hW];clear hW
 go_region_held3 (fun W' => Ext W W' /\ W'.cell? ⟨w.heap.size, 0, none⟩ = some (.iface T x) /\ W'.cell? ⟨w.heap.size, 1, none⟩ = some (.iface U y))
  (first | exact HB.out _ ((Ext.refl W).drew) | exact HB.out _ (by assumption))
  (first
    | (go_at_call_of 81 (Value.iface T x)
       refine (IHA.out _ _ (HXW.out.trans ((Ext.refl W).drew)) HX.out).mono ?_;rintro e v1 ⟨rfl,x1⟩
       have y1:Ext W v1:=Ext.trans ((Ext.refl W).drew) x1)
    | (go_at_call_of 81 (Value.iface U y)
       refine (IHB.out _ _ (HXW.out.trans y1) HY.out).mono ?_;rintro e v2 ⟨rfl,x2⟩
       have y2:Ext W v2:=Ext.trans y1 x2)
    | (go_at_call 101
       refine (kad _ _).mono ?_
       rintro e v3 ⟨rfl,rfl⟩))
 have HY2:=Lib.hid (HX0.out.trans y2);clear y1 y2 x1 x2 HB HX0;go_wp2_with fail;go_ret;exact ⟨rfl,HY2.out⟩
theorem qcl {w0 w:World} {L:Nat} {a b:Tm} {v:Value} (h:TmV w0 L (.sub a b) v) (iha:∀ (v:Value) (w:World),Ext w0 w->TmV w0 L a v->Calls Tryz.prog 81 #[v] w (jl a.wt w)) (ihb:∀ (v:Value) (w:World),Ext w0 w->TmV w0 L b v->Calls Tryz.prog 81 #[v] w (jl b.wt w)) (hx0:Ext w0 w) :
 Calls Tryz.prog 81 #[v] w (jl (wz (ut a.wt b.wt+1)) w):=by
 have ha:=a.wt_bd;have hb:=b.wt_bd;have IHA:=Lib.hid iha;have IHB:=Lib.hid ihb;obtain ⟨x,y,rfl,hx,hy⟩:=h;have HX:=Lib.hid hx;have HY:=Lib.hid hy;obtain ⟨T,x,rfl⟩:=hx.iface;obtain ⟨U,y,rfl⟩:=hy.iface;clear hx hy iha ihb;generalize a.wt=da at *;generalize b.wt=db at *;have hwm:IntKind.i64.wrap (max da db+1)=ut da db+1:=by
  have hm:max da db=ut da db:=by rw [Int.max_def]; unfold ut; split <;> split <;> omega
  have hm':=vap ha.1 ha.2 hb.1 hb.2;rw [hm]; exact IntWalk.i64_in _ (by omega)
 go_enter Tryz.func81,Tryz.ntmps81;go_wp2_with fail;obtain ⟨W,hW⟩:∃ W,w.alloc (.cells #[.iface T x,.iface U y] 183)=W:=⟨_,rfl⟩;have HB:Hid (∀ W',Ext W W'->(Ext W W'/\W'.cell? ⟨w.heap.size,0,none⟩=some (.iface T x)/\W'.cell? ⟨w.heap.size,1,none⟩=some (.iface U y))):=by
  intro W' hx;obtain ⟨hc,hf⟩:=hx.cells;refine ⟨hx,?_,?_⟩ <;> (rw [hc _ _ (by rw [<- hW]; simp),<- hW]; simp [go_sem])
 have HX0:Hid (Ext w W):=by
  have:Ext w W:=by rw [<- hW]; exact (Ext.refl w).alloc _
  exact this
 have HXW:=Lib.hid (hx0.trans HX0.out);clear hx0;rw [hW];clear hW
 go_region_held3 (fun W' => Ext W W' /\ W'.cell? ⟨w.heap.size, 0, none⟩ = some (.iface T x) /\ W'.cell? ⟨w.heap.size, 1, none⟩ = some (.iface U y))
  (first | exact HB.out _ ((Ext.refl W).drew) | exact HB.out _ (by assumption))
  (first
    | (go_at_call_of 81 (Value.iface T x)
       refine (IHA.out _ _ (HXW.out.trans ((Ext.refl W).drew)) HX.out).mono ?_;rintro e v1 ⟨rfl,x1⟩
       have y1:Ext W v1:=Ext.trans ((Ext.refl W).drew) x1)
    | (go_at_call_of 81 (Value.iface U y)
       refine (IHB.out _ _ (HXW.out.trans y1) HY.out).mono ?_;rintro e v2 ⟨rfl,x2⟩
       have y2:Ext W v2:=Ext.trans y1 x2)
    | (go_at_call 101
       refine (kad _ _).mono ?_
       rintro e v3 ⟨rfl,rfl⟩))
 have HY2:=Lib.hid (HX0.out.trans y2);clear y1 y2 x1 x2 HB HX0;go_wp2_with fail;go_ret;exact ⟨rfl,HY2.out⟩
theorem ucl {w0 w:World} {L:Nat} {a b:Tm} {v:Value} (h:TmV w0 L (.mul a b) v) (iha:∀ (v:Value) (w:World),Ext w0 w->TmV w0 L a v->Calls Tryz.prog 81 #[v] w (jl a.wt w)) (ihb:∀ (v:Value) (w:World),Ext w0 w->TmV w0 L b v->Calls Tryz.prog 81 #[v] w (jl b.wt w)) (hx0:Ext w0 w) :
 Calls Tryz.prog 81 #[v] w (jl (wz (a.wt+b.wt)) w):=by
 have ha:=a.wt_bd;have hb:=b.wt_bd;have IHA:=Lib.hid iha;have IHB:=Lib.hid ihb;obtain ⟨x,y,rfl,hx,hy⟩:=h;have HX:=Lib.hid hx;have HY:=Lib.hid hy;obtain ⟨T,x,rfl⟩:=hx.iface;obtain ⟨U,y,rfl⟩:=hy.iface;clear hx hy iha ihb;generalize a.wt=da at *;generalize b.wt=db at *;have hwr:IntKind.i64.wrap (da+db)=da+db:=IntWalk.i64_in _ (by omega);go_enter Tryz.func81,Tryz.ntmps81;go_wp2_with fail;obtain ⟨W,hW⟩:∃ W,w.alloc (.cells #[.iface T x,.iface U y] 184)=W:=⟨_,rfl⟩;have HB:Hid (∀ W',Ext W W'->(Ext W W'/\W'.cell? ⟨w.heap.size,0,none⟩=some (.iface T x)/\W'.cell? ⟨w.heap.size,1,none⟩=some (.iface U y))):=by
  intro W' hx;obtain ⟨hc,hf⟩:=hx.cells;refine ⟨hx,?_,?_⟩ <;> (rw [hc _ _ (by rw [<- hW]; simp),<- hW]; simp [go_sem])
 have HX0:Hid (Ext w W):=by
  have:Ext w W:=by rw [<- hW]; exact (Ext.refl w).alloc _
  exact this
 have HXW:=Lib.hid (hx0.trans HX0.out);clear hx0;rw [hW];clear hW
 go_region_held3 (fun W' => Ext W W' /\ W'.cell? ⟨w.heap.size, 0, none⟩ = some (.iface T x) /\ W'.cell? ⟨w.heap.size, 1, none⟩ = some (.iface U y))
  (first | exact HB.out _ ((Ext.refl W).drew) | exact HB.out _ (by assumption))
  (first
    | (go_at_call_of 81 (Value.iface T x)
       refine (IHA.out _ _ (HXW.out.trans ((Ext.refl W).drew)) HX.out).mono ?_;rintro e v1 ⟨rfl,x1⟩
       have y1:Ext W v1:=Ext.trans ((Ext.refl W).drew) x1)
    | (go_at_call_of 81 (Value.iface U y)
       refine (IHB.out _ _ (HXW.out.trans y1) HY.out).mono ?_;rintro e v2 ⟨rfl,x2⟩
       have y2:Ext W v2:=Ext.trans y1 x2)
    | (go_at_call 101
       refine (kad _ _).mono ?_
       rintro e v3 ⟨rfl,rfl⟩))
 have HY2:=Lib.hid (HX0.out.trans y2);clear y1 y2 x1 x2 HB HX0;go_wp2_with fail;go_ret;exact ⟨rfl,HY2.out⟩
theorem vcl {w0 w:World} {L:Nat} {a:Tm} {v:Value} (h:TmV w0 L (.neg a) v) (iha:∀ (v:Value) (w:World),Ext w0 w->TmV w0 L a v->Calls Tryz.prog 81 #[v] w (jl a.wt w)) (hx0:Ext w0 w) :
 Calls Tryz.prog 81 #[v] w (jl a.wt w):=by
 have IHA:=Lib.hid iha;obtain ⟨x,rfl,hx⟩:=h;have HX:=Lib.hid hx;obtain ⟨T,x,rfl⟩:=hx.iface;clear hx iha;go_enter Tryz.func81,Tryz.ntmps81;go_wp2_with fail;refine (IHA.out _ _ (hx0.trans ((Ext.refl w).alloc _)) HX.out).mono ?_;rintro e v1 ⟨rfl,x1⟩;have X1:=Lib.hid (Ext.trans ((Ext.refl w).alloc _) x1);clear x1;go_wp2_with fail;go_ret;exact ⟨rfl,X1.out⟩
theorem jcl {w0 w:World} {L:Nat} {a:Tm} {n:Int} {v:Value} (h:TmV w0 L (.pow a n) v) (iha:∀ (v:Value) (w:World),Ext w0 w->TmV w0 L a v->Calls Tryz.prog 81 #[v] w (jl a.wt w)) (hx0:Ext w0 w) :
 Calls Tryz.prog 81 #[v] w (jl (uao (ut n 1) a.wt) w):=by
 have ha:=a.wt_bd;have IHA:=Lib.hid iha;obtain ⟨x,rfl,hx⟩:=h;have HX:=Lib.hid hx;obtain ⟨T,x,rfl⟩:=hx.iface;clear hx iha;generalize a.wt=da at *
 by_cases hlt:n < 1
 · rw [show ut n 1=1 from if_pos hlt];have hif:(if n < 1 then (1:Int) else n)=1:=if_pos hlt;have hde:decide (n < 1)=true:=by simpa using hlt
   have hma:max n 1=1:=by omega
   go_enter Tryz.func81,Tryz.ntmps81;go_wp2_with fail;obtain ⟨W,hW⟩:∃ W,w.alloc (.cells #[.iface T x,.int .i64 n] 187)=W:=⟨_,rfl⟩;have HB:Hid (∀ W',Ext W W'->(Ext W W'/\W'.cell? ⟨w.heap.size,0,none⟩=some (.iface T x)/\W'.cell? ⟨w.heap.size,1,none⟩=some (.int .i64 n))):=by
    intro W' hx;obtain ⟨hc,hf⟩:=hx.cells;refine ⟨hx,?_,?_⟩ <;> (rw [hc _ _ (by rw [<- hW]; simp),<- hW]; simp [go_sem])
   have HX0:Hid (Ext w W):=by
    have:Ext w W:=by rw [<- hW]; exact (Ext.refl w).alloc _
    exact this
   have HXW:=Lib.hid (hx0.trans HX0.out);clear hx0;rw [hW];clear hW
   go_region_held3 (fun W' => Ext W W' /\ W'.cell? ⟨w.heap.size, 0, none⟩ = some (.iface T x) /\ W'.cell? ⟨w.heap.size, 1, none⟩ = some (.int .i64 n))
    (first | exact HB.out _ ((Ext.refl W).drew) | exact HB.out _ (by assumption))
    (first
      | (go_at_call 81
         refine (IHA.out _ _ (HXW.out.trans ((Ext.refl W).drew)) HX.out).mono ?_;rintro e v1 ⟨rfl,x1⟩
         have y1:Ext W v1:=Ext.trans ((Ext.refl W).drew) x1)
      | (go_at_call 102
         refine (qan (1) da _ (by omega) (by omega)).mono ?_
         rintro e v2 ⟨rfl,rfl⟩))
   all_goals
    have HY2:=Lib.hid (HX0.out.trans y1);clear y1 x1 HB HX0;go_wp2_with fail;go_ret;exact ⟨rfl,HY2.out⟩
 · rw [show ut n 1=n from if_neg hlt];have hge:1<=n:=by omega
   have hif:(if n < 1 then (1:Int) else n)=n:=if_neg hlt;have hde:decide (n < 1)=false:=by simpa using hlt
   have hma:max n 1=n:=by omega
   go_enter Tryz.func81,Tryz.ntmps81;go_wp2_with fail;obtain ⟨W,hW⟩:∃ W,w.alloc (.cells #[.iface T x,.int .i64 n] 187)=W:=⟨_,rfl⟩;have HB:Hid (∀ W',Ext W W'->(Ext W W'/\W'.cell? ⟨w.heap.size,0,none⟩=some (.iface T x)/\W'.cell? ⟨w.heap.size,1,none⟩=some (.int .i64 n))):=by
    intro W' hx;obtain ⟨hc,hf⟩:=hx.cells;refine ⟨hx,?_,?_⟩ <;> (rw [hc _ _ (by rw [<- hW]; simp),<- hW]; simp [go_sem])
   have HX0:Hid (Ext w W):=by
    have:Ext w W:=by rw [<- hW]; exact (Ext.refl w).alloc _
    exact this
   have HXW:=Lib.hid (hx0.trans HX0.out);clear hx0;rw [hW];clear hW
   go_region_held3 (fun W' => Ext W W' /\ W'.cell? ⟨w.heap.size, 0, none⟩ = some (.iface T x) /\ W'.cell? ⟨w.heap.size, 1, none⟩ = some (.int .i64 n))
    (first | exact HB.out _ ((Ext.refl W).drew) | exact HB.out _ (by assumption))
    (first
      | (go_at_call 81
         refine (IHA.out _ _ (HXW.out.trans ((Ext.refl W).drew)) HX.out).mono ?_;rintro e v1 ⟨rfl,x1⟩
         have y1:Ext W v1:=Ext.trans ((Ext.refl W).drew) x1)
      | (go_at_call 102
         refine (qan (n) da _ (by omega) (by omega)).mono ?_
         rintro e v2 ⟨rfl,rfl⟩))
   all_goals
    have HY2:=Lib.hid (HX0.out.trans y1);clear y1 x1 HB HX0;go_wp2_with fail;go_ret;exact ⟨rfl,HY2.out⟩
theorem kcl {w0 w:World} {L:Nat} {z:Int} {v:Value} (h:TmV w0 L (.num z) v) (hx0:Ext w0 w) (hs:L<=1000000000000):Calls Tryz.prog 81 #[v] w (jl (wz (xaj z.natAbs:Nat)) w):=by
 obtain ⟨x,rfl,hx⟩:=h;have HX:=Lib.hid (hx.ext hx0);obtain ⟨b,A,n,c,rfl⟩:=hx.unpack;clear hx;go_enter Tryz.func81,Tryz.ntmps81;go_wp2_with fail;refine (kbv _ z L _ (HX.out.ext ((Ext.refl w).alloc _)) hs).mono ?_;rintro e w1 ⟨rfl,x1⟩;have X1:=Lib.hid (Ext.trans ((Ext.refl w).alloc _) x1);clear x1;go_wp2_with fail;refine (kad _ _).mono ?_;rintro e w1 ⟨rfl,rfl⟩;go_wp2_with fail;go_ret;exact ⟨rfl,X1.out⟩
theorem jcd {w0 w:World} {L:Nat} {s:ByteArray} {v:Value} (h:TmV w0 L (.name s) v):Calls Tryz.prog 81 #[v] w (jl 1 w):=by
 obtain rfl:=h;go_enter Tryz.func81,Tryz.ntmps81;go_wp2_with fail;go_ret;exact ⟨rfl,Ext.refl _⟩
theorem kbp {w0:World} {L:Nat} (hs:L<=1000000000000) (t:Tm):∀ (v:Value) (w:World),Ext w0 w->TmV w0 L t v->Calls Tryz.prog 81 #[v] w (jl t.wt w):=by
 induction t with
 | num z=>exact fun v w hx h=>kcl h hx hs
 | name s=>exact fun v w hx h=>jcd h
 | add a b iha ihb=>exact fun v w hx h=>gcl h iha ihb hx
 | sub a b iha ihb=>exact fun v w hx h=>qcl h iha ihb hx
 | mul a b iha ihb=>exact fun v w hx h=>ucl h iha ihb hx
 | neg a iha=>exact fun v w hx h=>vcl (a:=a) h iha hx
 | pow a n iha=>exact fun v w hx h=>jcl h iha hx
end Go.Proofs.YtaedbimbbeploaaGreat
