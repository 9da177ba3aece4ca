/- Layer 34: formula.Weight; evaluate.large. -/
import Derived.Test.YtopddaabiinboaaGreatMp14
import Derived.Lib.MinMax
import Derived.Test.YtopddaabiinboaaGreatMp6
import Derived.Test.YtopddaabiinboaaGreatMp16
import Derived.Test.YtopddaabiinboaaGreatMp13
import Derived.Test.YtopddaabiinboaaGreatMp7
import Derived.Test.YtopddaabiinboaaGreatMp10
set_option linter.unusedSimpArgs false
set_option linter.unusedVariables false

set_option maxRecDepth 100000
set_option maxHeartbeats 8000000
namespace Go.Proofs.YtopddaabiinboaaGreat
open Go.RowKit
attribute [local go_sem] gdg jde jdh vdg ydh zdh udg gdb kde wdg qdh wgt uc9 xdh wdb
def Tm.wt : Tm -> Int
 | .num z=>qdb (ygu z.natAbs:Nat)
 | .name _=>1
 | .add a b=>qdb (wc8 a.wt b.wt+1)
 | .sub a b=>qdb (wc8 a.wt b.wt+1)
 | .mul a b=>qdb (a.wt+b.wt)
 | .neg a=>a.wt
 | .pow a e=>vg0 (wc8 e 1) a.wt
theorem jgv {n:Int} (h:1<=n):1<=qdb n/\qdb n<=2147483647:=by unfold qdb; split <;> omega
theorem uig {a b:Int} (h:1<=a) (k:1<=b):1<=vg0 a b/\vg0 a b<=2147483647:=by
 have h1:=jgv h;have h2:=jgv k;have:=Int.mul_le_mul h1.1 h2.1 (by omega) (by omega);exact jgv (by simpa using this)
theorem Tm.wt_bd (t:Tm):1<=t.wt/\t.wt<=2147483647:=by
 induction t with
 | num z=>exact jgv (by have:=yhw z.natAbs; omega)
 | name s=>simp [Tm.wt]
 | add a b iha ihb=>have:=kg1 iha.1 iha.2 ihb.1 ihb.2; exact jgv (by omega)
 | sub a b iha ihb=>have:=kg1 iha.1 iha.2 ihb.1 ihb.2; exact jgv (by omega)
 | mul a b iha ihb=>exact jgv (by omega)
 | neg a iha=>exact iha
 | pow a e iha=>exact uig (by unfold wc8; split <;> omega) iha.1
theorem zi6 {w0 w:World} {L:Nat} {a b:Tm} {v:Value} (h:TmV w0 L (.add a b) v) (iha:∀ (v:Value) (w:World),Ext w0 w->TmV w0 L a v->Calls Tryz.prog 86 #[v] w (vc5 a.wt w)) (ihb:∀ (v:Value) (w:World),Ext w0 w->TmV w0 L b v->Calls Tryz.prog 86 #[v] w (vc5 b.wt w)) (hx0:Ext w0 w) :
 Calls Tryz.prog 86 #[v] w (vc5 (qdb (wc8 a.wt b.wt+1)) w):=by
 have ha:=a.wt_bd;have hb:=b.wt_bd;have IHA:=Lib.hid iha;have IHB:=Lib.hid ihb;obtain ⟨x,y,rfl,hx,hy⟩:=h;have HX:=Lib.hid hx;have HY:=Lib.hid hy;obtain ⟨T,x,rfl⟩:=hx.iface;obtain ⟨U,y,rfl⟩:=hy.iface;clear hx hy iha ihb;generalize a.wt=da at *;generalize b.wt=db at *;have hwm:IntKind.i64.wrap (max da db+1)=wc8 da db+1:=by
  have hm:max da db=wc8 da db:=by rw [Int.max_def]; unfold wc8; split <;> split <;> omega
  have hm':=kg1 ha.1 ha.2 hb.1 hb.2;rw [hm]; exact IntWalk.i64_in _ (by omega)
 go_enter Tryz.func86,Tryz.ntmps86;go_wp2_with fail;obtain ⟨W,hW⟩:=n_m (w.alloc (.cells #[.iface T x,.iface U y] 199));have HB:Hid (∀ W',Ext W W'->(Ext W W'/\W'.cell? ⟨w.heap.size,0,none⟩=some (.iface T x)/\W'.cell? ⟨w.heap.size,1,none⟩=some (.iface U y))):=by
  intro W' hx;obtain ⟨hc,hf⟩:=hx.cells;refine ⟨hx,?_,?_⟩ <;> (rw [hc _ _ (by rw [<- hW]; simp),<- hW]; simp [go_sem])
 have HX0:Hid (Ext w W):=by
  have:Ext w W:=by rw [<- hW]; exact (Ext.refl w).alloc _
  exact this
 have HXW:=Lib.hid (hx0.trans HX0.out);clear hx0;rw [hW];clear hW
 go_region_held3 (fun W' => Ext W W' /\ W'.cell? ⟨w.heap.size, 0, none⟩ = some (.iface T x) /\ W'.cell? ⟨w.heap.size, 1, none⟩ = some (.iface U y))
  (first | exact HB.out _ ((Ext.refl W).drew) | exact HB.out _ (by assumption))
  (first
    | (go_at_call_of 86 (Value.iface T x)
       refine (IHA.out _ _ (HXW.out.trans ((Ext.refl W).drew)) HX.out).mono ?_;rintro e v1 ⟨rfl,x1⟩
       have y1:Ext W v1:=Ext.trans ((Ext.refl W).drew) x1)
    | (go_at_call_of 86 (Value.iface U y)
       refine (IHB.out _ _ (HXW.out.trans y1) HY.out).mono ?_;rintro e v2 ⟨rfl,x2⟩
       have y2:Ext W v2:=Ext.trans y1 x2)
    | (go_at_call 117
       refine (udf _ _).mono ?_
       rintro e v3 ⟨rfl,rfl⟩))
 have HY2:=Lib.hid (HX0.out.trans y2);clear y1 y2 x1 x2 HB HX0;go_wp2_with fail;go_ret;exact ⟨rfl,HY2.out⟩
theorem ki5 {w0 w:World} {L:Nat} {a b:Tm} {v:Value} (h:TmV w0 L (.sub a b) v) (iha:∀ (v:Value) (w:World),Ext w0 w->TmV w0 L a v->Calls Tryz.prog 86 #[v] w (vc5 a.wt w)) (ihb:∀ (v:Value) (w:World),Ext w0 w->TmV w0 L b v->Calls Tryz.prog 86 #[v] w (vc5 b.wt w)) (hx0:Ext w0 w) :
 Calls Tryz.prog 86 #[v] w (vc5 (qdb (wc8 a.wt b.wt+1)) w):=by
 have ha:=a.wt_bd;have hb:=b.wt_bd;have IHA:=Lib.hid iha;have IHB:=Lib.hid ihb;obtain ⟨x,y,rfl,hx,hy⟩:=h;have HX:=Lib.hid hx;have HY:=Lib.hid hy;obtain ⟨T,x,rfl⟩:=hx.iface;obtain ⟨U,y,rfl⟩:=hy.iface;clear hx hy iha ihb;generalize a.wt=da at *;generalize b.wt=db at *;have hwm:IntKind.i64.wrap (max da db+1)=wc8 da db+1:=by
  have hm:max da db=wc8 da db:=by rw [Int.max_def]; unfold wc8; split <;> split <;> omega
  have hm':=kg1 ha.1 ha.2 hb.1 hb.2;rw [hm]; exact IntWalk.i64_in _ (by omega)
 go_enter Tryz.func86,Tryz.ntmps86;go_wp2_with fail;obtain ⟨W,hW⟩:=n_m (w.alloc (.cells #[.iface T x,.iface U y] 200));have HB:Hid (∀ W',Ext W W'->(Ext W W'/\W'.cell? ⟨w.heap.size,0,none⟩=some (.iface T x)/\W'.cell? ⟨w.heap.size,1,none⟩=some (.iface U y))):=by
  intro W' hx;obtain ⟨hc,hf⟩:=hx.cells;refine ⟨hx,?_,?_⟩ <;> (rw [hc _ _ (by rw [<- hW]; simp),<- hW]; simp [go_sem])
 have HX0:Hid (Ext w W):=by
  have:Ext w W:=by rw [<- hW]; exact (Ext.refl w).alloc _
  exact this
 have HXW:=Lib.hid (hx0.trans HX0.out);clear hx0;rw [hW];clear hW
 go_region_held3 (fun W' => Ext W W' /\ W'.cell? ⟨w.heap.size, 0, none⟩ = some (.iface T x) /\ W'.cell? ⟨w.heap.size, 1, none⟩ = some (.iface U y))
  (first | exact HB.out _ ((Ext.refl W).drew) | exact HB.out _ (by assumption))
  (first
    | (go_at_call_of 86 (Value.iface T x)
       refine (IHA.out _ _ (HXW.out.trans ((Ext.refl W).drew)) HX.out).mono ?_;rintro e v1 ⟨rfl,x1⟩
       have y1:Ext W v1:=Ext.trans ((Ext.refl W).drew) x1)
    | (go_at_call_of 86 (Value.iface U y)
       refine (IHB.out _ _ (HXW.out.trans y1) HY.out).mono ?_;rintro e v2 ⟨rfl,x2⟩
       have y2:Ext W v2:=Ext.trans y1 x2)
    | (go_at_call 117
       refine (udf _ _).mono ?_
       rintro e v3 ⟨rfl,rfl⟩))
 have HY2:=Lib.hid (HX0.out.trans y2);clear y1 y2 x1 x2 HB HX0;go_wp2_with fail;go_ret;exact ⟨rfl,HY2.out⟩
theorem wi5 {w0 w:World} {L:Nat} {a b:Tm} {v:Value} (h:TmV w0 L (.mul a b) v) (iha:∀ (v:Value) (w:World),Ext w0 w->TmV w0 L a v->Calls Tryz.prog 86 #[v] w (vc5 a.wt w)) (ihb:∀ (v:Value) (w:World),Ext w0 w->TmV w0 L b v->Calls Tryz.prog 86 #[v] w (vc5 b.wt w)) (hx0:Ext w0 w) :
 Calls Tryz.prog 86 #[v] w (vc5 (qdb (a.wt+b.wt)) w):=by
 have ha:=a.wt_bd;have hb:=b.wt_bd;have IHA:=Lib.hid iha;have IHB:=Lib.hid ihb;obtain ⟨x,y,rfl,hx,hy⟩:=h;have HX:=Lib.hid hx;have HY:=Lib.hid hy;obtain ⟨T,x,rfl⟩:=hx.iface;obtain ⟨U,y,rfl⟩:=hy.iface;clear hx hy iha ihb;generalize a.wt=da at *;generalize b.wt=db at *;have hwr:IntKind.i64.wrap (da+db)=da+db:=IntWalk.i64_in _ (by omega);go_enter Tryz.func86,Tryz.ntmps86;go_wp2_with fail;obtain ⟨W,hW⟩:=n_m (w.alloc (.cells #[.iface T x,.iface U y] 201));have HB:Hid (∀ W',Ext W W'->(Ext W W'/\W'.cell? ⟨w.heap.size,0,none⟩=some (.iface T x)/\W'.cell? ⟨w.heap.size,1,none⟩=some (.iface U y))):=by
  intro W' hx;obtain ⟨hc,hf⟩:=hx.cells;refine ⟨hx,?_,?_⟩ <;> (rw [hc _ _ (by rw [<- hW]; simp),<- hW]; simp [go_sem])
 have HX0:Hid (Ext w W):=by
  have:Ext w W:=by rw [<- hW]; exact (Ext.refl w).alloc _
  exact this
 have HXW:=Lib.hid (hx0.trans HX0.out);clear hx0;rw [hW];clear hW
 go_region_held3 (fun W' => Ext W W' /\ W'.cell? ⟨w.heap.size, 0, none⟩ = some (.iface T x) /\ W'.cell? ⟨w.heap.size, 1, none⟩ = some (.iface U y))
  (first | exact HB.out _ ((Ext.refl W).drew) | exact HB.out _ (by assumption))
  (first
    | (go_at_call_of 86 (Value.iface T x)
       refine (IHA.out _ _ (HXW.out.trans ((Ext.refl W).drew)) HX.out).mono ?_;rintro e v1 ⟨rfl,x1⟩
       have y1:Ext W v1:=Ext.trans ((Ext.refl W).drew) x1)
    | (go_at_call_of 86 (Value.iface U y)
       refine (IHB.out _ _ (HXW.out.trans y1) HY.out).mono ?_;rintro e v2 ⟨rfl,x2⟩
       have y2:Ext W v2:=Ext.trans y1 x2)
    | (go_at_call 117
       refine (udf _ _).mono ?_
       rintro e v3 ⟨rfl,rfl⟩))
 have HY2:=Lib.hid (HX0.out.trans y2);clear y1 y2 x1 x2 HB HX0;go_wp2_with fail;go_ret;exact ⟨rfl,HY2.out⟩
theorem gi5 {w0 w:World} {L:Nat} {a:Tm} {v:Value} (h:TmV w0 L (.neg a) v) (iha:∀ (v:Value) (w:World),Ext w0 w->TmV w0 L a v->Calls Tryz.prog 86 #[v] w (vc5 a.wt w)) (hx0:Ext w0 w) :
 Calls Tryz.prog 86 #[v] w (vc5 a.wt w):=by
 have IHA:=Lib.hid iha;obtain ⟨x,rfl,hx⟩:=h;have HX:=Lib.hid hx;obtain ⟨T,x,rfl⟩:=hx.iface;clear hx iha;go_enter Tryz.func86,Tryz.ntmps86;go_wp2_with fail;refine (IHA.out _ _ (hx0.trans ((Ext.refl w).alloc _)) HX.out).mono ?_;rintro e v1 ⟨rfl,x1⟩;have X1:=Lib.hid (Ext.trans ((Ext.refl w).alloc _) x1);clear x1;go_wp2_with fail;go_ret;exact ⟨rfl,X1.out⟩
theorem vi5 {w0 w:World} {L:Nat} {a:Tm} {n:Int} {v:Value} (h:TmV w0 L (.pow a n) v) (iha:∀ (v:Value) (w:World),Ext w0 w->TmV w0 L a v->Calls Tryz.prog 86 #[v] w (vc5 a.wt w)) (hx0:Ext w0 w) :
 Calls Tryz.prog 86 #[v] w (vc5 (vg0 (wc8 n 1) a.wt) w):=by
 have ha:=a.wt_bd;have IHA:=Lib.hid iha;obtain ⟨x,rfl,hx⟩:=h;have HX:=Lib.hid hx;obtain ⟨T,x,rfl⟩:=hx.iface;clear hx iha;generalize a.wt=da at *
 by_cases hlt:n < 1
 · rw [show wc8 n 1=1 from if_pos hlt];have hif:(if n < 1 then (1:Int) else n)=1:=if_pos hlt;have hde:decide (n < 1)=true:=by simpa using hlt
   have hma:max n 1=1:=by omega
   go_enter Tryz.func86,Tryz.ntmps86;go_wp2_with fail;obtain ⟨W,hW⟩:=n_m (w.alloc (.cells #[.iface T x,.int .i64 n] 204));have HB:Hid (∀ W',Ext W W'->(Ext W W'/\W'.cell? ⟨w.heap.size,0,none⟩=some (.iface T x)/\W'.cell? ⟨w.heap.size,1,none⟩=some (.int .i64 n))):=by
    intro W' hx;obtain ⟨hc,hf⟩:=hx.cells;refine ⟨hx,?_,?_⟩ <;> (rw [hc _ _ (by rw [<- hW]; simp),<- hW]; simp [go_sem])
   have HX0:Hid (Ext w W):=by
    have:Ext w W:=by rw [<- hW]; exact (Ext.refl w).alloc _
    exact this
   have HXW:=Lib.hid (hx0.trans HX0.out);clear hx0;rw [hW];clear hW
   go_region_held3 (fun W' => Ext W W' /\ W'.cell? ⟨w.heap.size, 0, none⟩ = some (.iface T x) /\ W'.cell? ⟨w.heap.size, 1, none⟩ = some (.int .i64 n))
    (first | exact HB.out _ ((Ext.refl W).drew) | exact HB.out _ (by assumption))
    (first
      | (go_at_call 86
         refine (IHA.out _ _ (HXW.out.trans ((Ext.refl W).drew)) HX.out).mono ?_;rintro e v1 ⟨rfl,x1⟩
         have y1:Ext W v1:=Ext.trans ((Ext.refl W).drew) x1)
      | (go_at_call 118
         refine (xgz (1) da _ (by omega) (by omega)).mono ?_
         rintro e v2 ⟨rfl,rfl⟩))
   all_goals
    have HY2:=Lib.hid (HX0.out.trans y1);clear y1 x1 HB HX0;go_wp2_with fail;go_ret;exact ⟨rfl,HY2.out⟩
 · rw [show wc8 n 1=n from if_neg hlt];have hge:1<=n:=by omega
   have hif:(if n < 1 then (1:Int) else n)=n:=if_neg hlt;have hde:decide (n < 1)=false:=by simpa using hlt
   have hma:max n 1=n:=by omega
   go_enter Tryz.func86,Tryz.ntmps86;go_wp2_with fail;obtain ⟨W,hW⟩:=n_m (w.alloc (.cells #[.iface T x,.int .i64 n] 204));have HB:Hid (∀ W',Ext W W'->(Ext W W'/\W'.cell? ⟨w.heap.size,0,none⟩=some (.iface T x)/\W'.cell? ⟨w.heap.size,1,none⟩=some (.int .i64 n))):=by
    intro W' hx;obtain ⟨hc,hf⟩:=hx.cells;refine ⟨hx,?_,?_⟩ <;> (rw [hc _ _ (by rw [<- hW]; simp),<- hW]; simp [go_sem])
   have HX0:Hid (Ext w W):=by
    have:Ext w W:=by rw [<- hW]; exact (Ext.refl w).alloc _
    exact this
   have HXW:=Lib.hid (hx0.trans HX0.out);clear hx0;rw [hW];clear hW
   go_region_held3 (fun W' => Ext W W' /\ W'.cell? ⟨w.heap.size, 0, none⟩ = some (.iface T x) /\ W'.cell? ⟨w.heap.size, 1, none⟩ = some (.int .i64 n))
    (first | exact HB.out _ ((Ext.refl W).drew) | exact HB.out _ (by assumption))
    (first
      | (go_at_call 86
         refine (IHA.out _ _ (HXW.out.trans ((Ext.refl W).drew)) HX.out).mono ?_;rintro e v1 ⟨rfl,x1⟩
         have y1:Ext W v1:=Ext.trans ((Ext.refl W).drew) x1)
      | (go_at_call 118
         refine (xgz (n) da _ (by omega) (by omega)).mono ?_
         rintro e v2 ⟨rfl,rfl⟩))
   all_goals
    have HY2:=Lib.hid (HX0.out.trans y1);clear y1 x1 HB HX0;go_wp2_with fail;go_ret;exact ⟨rfl,HY2.out⟩
theorem ui5 {w0 w:World} {L:Nat} {z:Int} {v:Value} (h:TmV w0 L (.num z) v) (hx0:Ext w0 w) (hs:L<=1000000000000):Calls Tryz.prog 86 #[v] w (vc5 (qdb (ygu z.natAbs:Nat)) w):=by
 obtain ⟨x,rfl,hx⟩:=h;have HX:=Lib.hid (hx.ext hx0);obtain ⟨b,A,n,c,rfl⟩:=hx.unpack;clear hx;go_enter Tryz.func86,Tryz.ntmps86;go_wp2_with fail;refine (yie _ z L _ (HX.out.ext ((Ext.refl w).alloc _)) hs).mono ?_;rintro e w1 ⟨rfl,x1⟩;have X1:=Lib.hid (Ext.trans ((Ext.refl w).alloc _) x1);clear x1;go_wp2_with fail;refine (udf _ _).mono ?_;rintro e w1 ⟨rfl,rfl⟩;go_wp2_with fail;go_ret;exact ⟨rfl,X1.out⟩
theorem zix {w0 w:World} {L:Nat} {s:ByteArray} {v:Value} (h:TmV w0 L (.name s) v):Calls Tryz.prog 86 #[v] w (vc5 1 w):=by
 obtain rfl:=h;go_enter Tryz.func86,Tryz.ntmps86;go_wp2_with fail;go_ret;exact ⟨rfl,Ext.refl _⟩
theorem zh7 {w0:World} {L:Nat} (hs:L<=1000000000000) (t:Tm):∀ (v:Value) (w:World),Ext w0 w->TmV w0 L t v->Calls Tryz.prog 86 #[v] w (vc5 t.wt w):=by
 induction t with
 | num z=>exact fun v w hx h=>ui5 h hx hs
 | name s=>exact fun v w hx h=>zix h
 | add a b iha ihb=>exact fun v w hx h=>zi6 h iha ihb hx
 | sub a b iha ihb=>exact fun v w hx h=>ki5 h iha ihb hx
 | mul a b iha ihb=>exact fun v w hx h=>wi5 h iha ihb hx
 | neg a iha=>exact fun v w hx h=>gi5 (a:=a) h iha hx
 | pow a n iha=>exact fun v w hx h=>vi5 h iha hx
end Go.Proofs.YtopddaabiinboaaGreat

/- How many digits sums, differences, products and powers of fractions have; values of terms. No program in sight. -/
namespace Go.Proofs.YtopddaabiinboaaGreat
open Go.RowKit
theorem khm (n:Int) (d:Nat) (h:d ≠ 0):(Rat.normalize n d h).num.natAbs<=n.natAbs/\(Rat.normalize n d h).den<=d:=by
 rw [Rat.normalize_eq];exact ⟨by show (n / _).natAbs<=_; exact Int.natAbs_ediv_le_natAbs _ _,Nat.div_le_self _ _⟩
theorem yhm {q:Rat} {n d K:Nat} (hn:q.num.natAbs<=n) (hd:q.den<=d) (h1:(dg n).length<=K) (h2:(dg d).length<=K):rlen q<=K:=by
 have:=Nat.le_trans (xc6 hn) h1;have:=Nat.le_trans (xc6 hd) h2;unfold rlen;omega
theorem zg2 (q:Rat):(dg q.num.natAbs).length<=rlen q:=Nat.le_max_left _ _
theorem ygv (q:Rat):(dg q.den).length<=rlen q:=Nat.le_max_right _ _
theorem uc8 (q:Rat):1<=rlen q:=Nat.le_trans (yg0 q.den_nz) (ygv q)
theorem zhq (a b:Rat):(dg (a.num.natAbs * b.den)).length<=rlen a+rlen b:=Nat.le_trans (wgu _ _) (Nat.add_le_add (zg2 a) (ygv b))
theorem yh6 (a b:Rat):(dg (a.den * b.den)).length<=rlen a+rlen b:=Nat.le_trans (wgu _ _) (Nat.add_le_add (ygv a) (ygv b))
theorem whg (a b:Rat):rlen (a+b)<=rlen a+rlen b+1:=by
 rw [Rat.add_def];have h:=khm (a.num * b.den+b.num * a.den) (a.den * b.den) (Nat.mul_ne_zero a.den_nz b.den_nz);have h1:(a.num * b.den+b.num * a.den).natAbs<=a.num.natAbs * b.den+b.num.natAbs * a.den:=by
  refine Nat.le_trans (Int.natAbs_add_le _ _) ?_;rw [Int.natAbs_mul,Int.natAbs_mul,Int.natAbs_natCast,Int.natAbs_natCast];exact Nat.le_refl _
 refine yhm (Nat.le_trans h.1 h1) h.2 ?_ (Nat.le_trans (yh6 a b) (by omega));have h2:=zgv (a.num.natAbs * b.den) (b.num.natAbs * a.den);have h3:=zhq a b;have h4:=zhq b a;omega
theorem uhu (a:Rat):rlen (-a)=rlen a:=by unfold rlen; rw [Rat.neg_num,Rat.neg_den,Int.natAbs_neg]
theorem jip (a b:Rat):rlen (a - b)<=rlen a+rlen b+1:=by
 rw [Rat.sub_eq_add_neg];have:=whg a (-b)
 rwa [uhu] at this
theorem jg7 (a b:Rat):rlen (a * b)<=rlen a+rlen b:=by
 rw [Rat.mul_def];have h:=khm (a.num * b.num) (a.den * b.den) (Nat.mul_ne_zero a.den_nz b.den_nz);rw [Int.natAbs_mul] at h;exact yhm h.1 h.2 (Nat.le_trans (wgu _ _) (Nat.add_le_add (zg2 a) (zg2 b))) (yh6 a b)
theorem vhk:(dg 1).length=1:=by rw [ugy (by decide) (by decide)]; rfl
theorem zdi (z:Int) {L:Nat} (h:(dg z.natAbs).length<=L) (hL:1<=L):rlen (z:Rat)<=L:=by
 unfold rlen;rw [Rat.num_intCast,Rat.den_intCast,vhk];omega
theorem kip:rlen (1:Rat)=1:=by
 have h:=zdi 1 (L:=1) (by show (dg 1).length<=1; rw [vhk]; exact Nat.le_refl _) (by omega);have:=uc8 (1:Rat);have h':rlen (1:Rat)<=1:=by simpa using h
 omega
theorem vhu (a:Rat) (n:Nat):rlen (a ^ n)<=max n 1 * rlen a:=by
 have hp:=uc8 a
 induction n with
 | zero=>rw [Rat.pow_zero,kip]; simpa using hp
 | succ n ih =>
   cases n with
   | zero=>rw [Rat.pow_succ,Rat.pow_zero,Rat.one_mul]; simp
   | succ n =>
     rw [Rat.pow_succ];have h1:=jg7 (a ^ (n+1)) a;rw [show max (n+1+1) 1=n+1+1 by omega,Nat.succ_mul (n+1)];rw [show max (n+1) 1=n+1 by omega] at ih;omega
def Tm.val (g : ByteArray -> Option Rat) : Tm -> Rat
 | .num z=>(z:Rat)
 | .name s=>(g s).getD 0
 | .add a b=>a.val g+b.val g
 | .sub a b=>a.val g - b.val g
 | .mul a b=>a.val g * b.val g
 | .neg a=>-a.val g
 | .pow a e=>a.val g ^ e.toNat
def Tm.bt (L : Nat) : Tm -> Nat
 | .num _=>L
 | .name _=>L
 | .add a b=>a.bt L+b.bt L+1
 | .sub a b=>a.bt L+b.bt L+1
 | .mul a b=>a.bt L+b.bt L
 | .neg a=>a.bt L
 | .pow a e=>max e.toNat 1 * a.bt L
def Tm.covered (g : ByteArray -> Option Rat) : Tm -> Prop
 | .num _=>True
 | .name s=>(g s).isSome=true
 | .add a b=>a.covered g/\b.covered g
 | .sub a b=>a.covered g/\b.covered g
 | .mul a b=>a.covered g/\b.covered g
 | .neg a=>a.covered g
 | .pow a _=>a.covered g
theorem Tm.bt_pos (L:Nat) (hL:1<=L) (t:Tm):1<=t.bt L:=by
 induction t with
 | num z=>exact hL
 | name s=>exact hL
 | add a b iha ihb=>simp only [Tm.bt]; omega
 | sub a b iha ihb=>simp only [Tm.bt]; omega
 | mul a b iha ihb=>simp only [Tm.bt]; omega
 | neg a iha=>exact iha
 | pow a e iha=>simp only [Tm.bt]; exact Nat.le_trans iha (Nat.le_mul_of_pos_left _ (by omega))
theorem wc7.rlen_le {w:World} {x:Value} {q:Rat} {L:Nat} (h:wc7 w x q L) (hL:1<=L):rlen q<=L:=by
 obtain ⟨neg,s1,s2,ds,es,e,h1,h2,rfl,h4,h5⟩:=h
 by_cases h0:val es=0
 · rw [h0,Rat.mkRat_zero];have:=zdi 0 (L:=L) (by show (dg 0).length<=L; rw [uc5]; simp) hL;simpa using this
 · rw [<- Rat.normalize_eq_mkRat h0];have h:=khm (sgn neg (val ds)) (val es) h0;rw [qc7] at h;exact yhm h.1 h.2 (Nat.le_trans (vc3 h1.digs) h4) (Nat.le_trans (vc3 h2.digs) h5)
theorem wdi {w:World} {L:Nat} (hL:1<=L) {g:ByteArray->Option Rat} (hg:∀ s q,g s=some q->rlen q<=L) {t:Tm} {v:Value} (h:TmV w L t v) (hc:t.covered g):rlen (t.val g)<=t.bt L:=by
 induction t generalizing v with
 | num z=>obtain ⟨x,e,h⟩:=h; exact zdi z h.len hL
 | name s =>
   simp only [Tm.covered] at hc;simp only [Tm.val,Tm.bt];cases hh:g s with
   | none=>rw [hh] at hc; cases hc
   | some q=>exact hg s q hh
 | add a b iha ihb =>
   obtain ⟨x,y,e,h,k⟩:=h;have h1:=iha h hc.1;have h2:=ihb k hc.2;have h3:=whg (a.val g) (b.val g);simp only [Tm.val,Tm.bt]; omega
 | sub a b iha ihb =>
   obtain ⟨x,y,e,h,k⟩:=h;have h1:=iha h hc.1;have h2:=ihb k hc.2;have h3:=jip (a.val g) (b.val g);simp only [Tm.val,Tm.bt]; omega
 | mul a b iha ihb =>
   obtain ⟨x,y,e,h,k⟩:=h;have h1:=iha h hc.1;have h2:=ihb k hc.2;have h3:=jg7 (a.val g) (b.val g);simp only [Tm.val,Tm.bt]; omega
 | neg a iha =>
   obtain ⟨x,e,h⟩:=h;have h1:=iha h hc;simp only [Tm.val,Tm.bt]; rw [uhu]; exact h1
 | pow a n iha =>
   obtain ⟨x,e,h⟩:=h;have h1:=iha h hc;have h2:=vhu (a.val g) n.toNat;simp only [Tm.val,Tm.bt];exact Nat.le_trans h2 (Nat.mul_le_mul_left _ h1)
end Go.Proofs.YtopddaabiinboaaGreat

/- Values of polynomials: their size; a slice of fractions. -/
namespace Go.Proofs.YtopddaabiinboaaGreat
open Go.RowKit
def rho (xs:List Rat) (i:Int):Rat:=xs.getD (i - 1).toNat 0
theorem xiz (xs:List Rat) (l:Int) (h:(xs.length:Int) < l):rho xs l=0:=by
 unfold rho;rw [List.getD_eq_getElem?_getD,List.getElem?_eq_none (by omega)]; rfl
mutual
def Pl.eb (L : Nat) : Pl -> Nat
 | .mk _ _ d cs=>max d.length (ydi L cs)+1
def ydi (L : Nat) : List Pl -> Nat
 | []=>1
 | c :: r=>c.eb L+ydi L r+L+2
end
theorem jiq (L:Nat) (cs:List Pl):1<=ydi L cs:=by cases cs <;> simp only [ydi] <;> omega
theorem giz (L:Nat) (cs:List Pl):∀ k,ydi L (cs.drop k)<=ydi L cs:=by
 induction cs with
 | nil=>intro k; simp
 | cons c r ih =>
   intro k;cases k with
   | zero=>exact Nat.le_refl _
   | succ k=>have:=ih k; rw [List.drop_succ_cons,ydi]; omega
theorem kiq (L:Nat) {cs:List Pl} {c:Pl} (h:c ∈ cs):c.eb L<=ydi L cs:=by
 induction cs with
 | nil=>cases h
 | cons x r ih =>
   rcases List.mem_cons.1 h with rfl | h
   · rw [ydi]; omega
   · have:=ih h; rw [ydi]; omega
mutual
theorem Pl.eb_sz (L : Nat) : ∀ (p : Pl) (D : Nat), p.dm <= D -> p.eb L + L + 2 <= p.sz * (D + L + 4)
 | .mk l n d cs,D,h=>by
   rw [Pl.dm] at h;have:=jh5 L cs D (by omega);rw [Pl.eb,Pl.sz,Nat.add_mul,Nat.one_mul];omega
theorem jh5 (L : Nat) : ∀ (cs : List Pl) (D : Nat), xdb cs <= D -> ydi L cs <= kc5 cs * (D + L + 4) + 1
 | [],D,h=>by rw [ydi,kc5]; omega
 | c :: r,D,h=>by
   rw [xdb] at h;have h1:=Pl.eb_sz L c D (by omega);have h2:=jh5 L r D (by omega);rw [ydi,kc5,Nat.add_mul];omega
end
mutual
theorem Pl.val_rlen (ρ : Int -> Rat) (L : Nat) (hρ : ∀ i, rlen (ρ i) <= L) : ∀ p : Pl, p.dig -> rlen (p.val ρ) <= p.eb L
 | .mk l n d cs,h=>by
   rw [Pl.dig] at h;rw [Pl.val,Pl.eb]
   by_cases h1:l<=0
   · rw [if_pos h1];refine zdi _ ?_ (by have:=jiq L cs; omega);rw [qc7];have:=vc3 h.1;omega
   · rw [if_neg h1]
     by_cases h4:4 < l
     · rw [if_pos h4];have:rlen ((0:Int):Rat)<=max d.length (ydi L cs)+1:=zdi 0 (by simp [uc5]) (by omega);exact this
     · rw [if_neg h4];have:=vg7 ρ L hρ l cs h.2;omega
theorem vg7 (ρ : Int -> Rat) (L : Nat) (hρ : ∀ i, rlen (ρ i) <= L) (l : Int) : ∀ cs : List Pl, wde cs -> rlen (zc3 ρ l cs) <= ydi L cs
 | [],h=>by
   rw [zc3,ydi];have:rlen ((0:Int):Rat)<=1:=zdi 0 (by simp [uc5]) (Nat.le_refl _);exact this
 | c :: r,h=>by
   rw [wde] at h;rw [zc3,ydi];have h1:=Pl.val_rlen ρ L hρ c h.1;have h2:=vg7 ρ L hρ l r h.2;have h3:=whg (c.val ρ) (ρ l * zc3 ρ l r);have h4:=jg7 (ρ l) (zc3 ρ l r);have h5:=hρ l;omega
end
theorem vih {cs:List Pl} {c:Pl} (hd:wde cs) (h:c ∈ cs):c.dig:=by
 induction cs with
 | nil=>cases h
 | cons x r ih =>
   rw [wde] at hd;rcases List.mem_cons.1 h with rfl | h
   · exact hd.1
   · exact ih hd.2 h
theorem qh9 {cs:List Pl} (hd:wde cs):∀ k,wde (cs.drop k):=by
 induction cs with
 | nil=>intro k; simp [wde]
 | cons x r ih =>
   rw [wde] at hd;intro k;cases k with
   | zero=>rw [List.drop_zero,wde]; exact hd
   | succ k=>exact ih hd.2 k
theorem xh9 (ρ:Int->Rat) (l:Int) (cs:List Pl) (k:Nat) (h:k < cs.length):zc3 ρ l (cs.drop k)=cs[k].val ρ+ρ l * zc3 ρ l (cs.drop (k+1)):=by
 rw [List.drop_eq_getElem_cons h,zc3]
def RsV (w:World) (L:Nat) (v:Value) (l:List Rat):Prop:=
 ∃ A c,v=.slice A l.length c/\l.length<=c/\c<=9223372036854775807/\∀ j (h:j < l.length),∃ ad bb A1 n1 c1 A2 n2 c2,A=some ad/\ad.block < w.heap.size/\(w.cell? (ad.add (j * 3))=some (.bool bb)/\w.cell? ⟨(ad.add (j * 3)).block,(ad.add (j * 3)).off+1,none⟩=some (.slice A1 n1 c1)/\w.cell? ⟨(ad.add (j * 3)).block,(ad.add (j * 3)).off+2,none⟩=some (.slice A2 n2 c2))/\wc7 w (.agg #[.bool bb,.slice A1 n1 c1,.slice A2 n2 c2]) l[j] L
theorem RsV.ext {w w':World} {L:Nat} {v:Value} {l:List Rat} (h:RsV w L v l) (hx:Ext w w'):RsV w' L v l:=by
 obtain ⟨A,c,e,h1,h2,h3⟩:=h;refine ⟨A,c,e,h1,h2,fun j hj=>?_⟩;obtain ⟨ad,bb,A1,n1,c1,A2,n2,c2,e,hb,⟨k0,k1,k2⟩,hr⟩:=h3 j hj;have hb':(ad.add (j * 3)).block < w.heap.size:=by rw [uc2]; exact hb
 exact ⟨ad,bb,A1,n1,c1,A2,n2,c2,e,Nat.lt_of_lt_of_le hb hx.size,⟨(hx.cell hb').trans k0,(hx.cell (p:=⟨(ad.add (j * 3)).block,(ad.add (j * 3)).off+1,none⟩) hb').trans k1,(hx.cell (p:=⟨(ad.add (j * 3)).block,(ad.add (j * 3)).off+2,none⟩) hb').trans k2⟩,hr.ext hx⟩
theorem qiz {w:World} {L:Nat} {v:Value} {l:List Rat} (hL:1<=L) (h:RsV w L v l) (i:Int):rlen (rho l i)<=L:=by
 obtain ⟨A,c,e,h1,h2,h3⟩:=h;unfold rho
 by_cases hi:(i - 1).toNat < l.length
 · obtain ⟨ad,bb,A1,n1,c1,A2,n2,c2,-,-,-,hr⟩:=h3 _ hi;rw [List.getD_eq_getElem?_getD,List.getElem?_eq_getElem hi];exact hr.rlen_le hL
 · rw [List.getD_eq_getElem?_getD,List.getElem?_eq_none (by omega)];have:rlen ((0:Int):Rat)<=L:=zdi 0 (by simp [uc5]) hL;exact this
end Go.Proofs.YtopddaabiinboaaGreat

/- Layer 31: rational coordinates: point.Rat, IsRational, Of, Normal. -/
set_option maxRecDepth 100000
set_option maxHeartbeats 8000000
namespace Go.Proofs.YtopddaabiinboaaGreat
open Go.RowKit
theorem wc7.unpk {w:World} {x:Value} {q:Rat} {L:Nat} (h:wc7 w x q L):∃ b A n c B m d,x=.agg #[.bool b,.slice A n c,.slice B m d]:=by
 obtain ⟨neg,s1,s2,ds,es,rfl,⟨A,c,rfl,-⟩,⟨B,d,rfl,-⟩,-⟩:=h;exact ⟨_,A,_,c,B,_,d,rfl⟩
def CoV (w:World) (v:Value) (q:Rat):Prop:=∃ b1 A1 n1 c1 B1 m1 d1 b2 A2 n2 c2 B2 m2 d2,v=.agg #[.int .i64 0,.bool false,.slice none 0 0,.slice none 0 0,.bool b1,.slice A1 n1 c1,.slice B1 m1 d1,.bool b2,.slice A2 n2 c2,.slice B2 m2 d2]/\uc7 w (.agg #[.bool b1,.slice A1 n1 c1,.slice B1 m1 d1]) q/\uc7 w (.agg #[.bool b2,.slice A2 n2 c2,.slice B2 m2 d2]) q
theorem CoV.ext {w w':World} {v:Value} {q:Rat} (h:CoV w v q) (hx:Ext w w'):CoV w' v q:=by
 obtain ⟨b1,A1,n1,c1,B1,m1,d1,b2,A2,n2,c2,B2,m2,d2,e,h1,h2⟩:=h;exact ⟨b1,A1,n1,c1,B1,m1,d1,b2,A2,n2,c2,B2,m2,d2,e,h1.ext hx,h2.ext hx⟩
def qg4 (W:World) (g:Nat):Prop:=(W.cell? ⟨g,0,none⟩=some (.int .i64 0)/\W.cell? ⟨g,1,none⟩=some (.bool false)/\W.cell? ⟨g,2,none⟩=some (.slice none 0 0)/\W.cell? ⟨g,3,none⟩=some (.slice none 0 0)/\W.cell? ⟨g,4,none⟩=some (.bool false)/\W.cell? ⟨g,5,none⟩=some (.slice none 0 0)/\W.cell? ⟨g,6,none⟩=some (.slice none 0 0)/\W.cell? ⟨g,7,none⟩=some (.bool false)/\W.cell? ⟨g,8,none⟩=some (.slice none 0 0)/\W.cell? ⟨g,9,none⟩=some (.slice none 0 0))/\∀ i,W.frozen? ⟨g,i,none⟩=false
theorem qg4.new (w:World) (T:TypeId):qg4 (w.alloc (.cells #[.int .i64 0,.bool false,.slice none 0 0,.slice none 0 0,.bool false,.slice none 0 0,.slice none 0 0,.bool false,.slice none 0 0,.slice none 0 0] T)) w.heap.size:=by
 refine ⟨⟨?_,?_,?_,?_,?_,?_,?_,?_,?_,?_⟩,fun i=>?_⟩ <;> simp [go_sem]
theorem qg4.ext {w w':World} {g:Nat} (h:qg4 w g) (hx:Ext w w') (hg:g < w.heap.size):qg4 w' g:=by
 obtain ⟨⟨h0,h1,h2,h3,h4,h5,h6,h7,h8,h9⟩,f⟩:=h;have k:∀ i,w'.cell? ⟨g,i,none⟩=w.cell? ⟨g,i,none⟩:=fun i=>hx.cell (p:=⟨g,i,none⟩) hg
 exact ⟨⟨(k _).trans h0,(k _).trans h1,(k _).trans h2,(k _).trans h3,(k _).trans h4,(k _).trans h5,(k _).trans h6,(k _).trans h7,(k _).trans h8,(k _).trans h9⟩,fun i=>(hx.frozen (p:=⟨g,i,none⟩) hg).trans (f i)⟩
def wiw (q:Rat) (w:World) (e:Ending) (w':World):Prop:=∃ v,e=.returned v/\CoV w' v q/\Ext w w'
theorem kiv {w W:World} {g:Nat} {q:Rat} (b1:Bool) (A1:Option Addr) (n1 c1:Nat) (B1:Option Addr) (m1 d1:Nat) (b2:Bool) (A2:Option Addr) (n2 c2:Nat) (B2:Option Addr) (m2 d2:Nat) (hx:Ext w W) (hg:w.heap.size<=g) (hz:qg4 W g) (h1:uc7 W (.agg #[.bool b1,.slice A1 n1 c1,.slice B1 m1 d1]) q) (h2:uc7 W (.agg #[.bool b2,.slice A2 n2 c2,.slice B2 m2 d2]) q) :
 wiw q w (.returned (.agg #[.int .i64 0,.bool false,.slice none 0 0,.slice none 0 0,.bool b1,.slice A1 n1 c1,.slice B1 m1 d1,.bool b2,.slice A2 n2 c2,.slice B2 m2 d2])) (yh8 W g (.int .i64 0) (.bool false) (.slice none 0 0) (.slice none 0 0) (.bool b1) (.slice A1 n1 c1) (.slice B1 m1 d1) (.bool b2) (.slice A2 n2 c2) (.slice B2 m2 d2)):=by
 obtain ⟨⟨z0,z1,z2,z3,z4,z5,z6,z7,z8,z9⟩,-⟩:=hz;rw [xhe];have hn:=ug9 g [.int .i64 0,.bool false,.slice none 0 0,.slice none 0 0,.bool b1,.slice A1 n1 c1,.slice B1 m1 d1,.bool b2,.slice A2 n2 c2,.slice B2 m2 d2] 0 W (fun j hj=>by
  rw [Nat.zero_add];have hj':j < 10:=by simpa using hj
  rcases (show j=0\/j=1\/j=2\/j=3\/j=4\/j=5\/j=6\/j=7\/j=8\/j=9 by omega) with rfl | rfl | rfl | rfl | rfl | rfl | rfl | rfl | rfl | rfl
  · exact ⟨_,z0,rfl⟩
  · exact ⟨_,z1,rfl⟩
  · exact ⟨_,z2,rfl⟩
  · exact ⟨_,z3,rfl⟩
  · exact ⟨_,z4,rfl⟩
  · exact ⟨_,z5,rfl⟩
  · exact ⟨_,z6,rfl⟩
  · exact ⟨_,z7,rfl⟩
  · exact ⟨_,z8,rfl⟩
  · exact ⟨_,z9,rfl⟩)
 exact ⟨_,rfl,⟨b1,A1,n1,c1,B1,m1,d1,b2,A2,n2,c2,B2,m2,d2,rfl,h1.natq hn,h2.natq hn⟩,whb hg _ _ _ hx⟩
theorem gho {w:World} {x:Value} {q:Rat} {L:Nat} (h1:1<=L) (h:wc7 w x q L) (hL:L<=1000000):Calls Tryz.prog 42 #[x] w (wiw q w):=by
 have H:=Lib.hid h;obtain ⟨b,A,n,c,B,m,d,rfl⟩:=h.unpk;clear h;obtain ⟨W,hW⟩:=n_m ((w.alloc (.cells #[.bool b,.slice A n c,.slice B m d] 37)).alloc (.cells #[.int .i64 0,.bool false,.slice none 0 0,.slice none 0 0,.bool false,.slice none 0 0,.slice none 0 0,.bool false,.slice none 0 0,.slice none 0 0] 40));have hWx:Ext w W:=by rw [<- hW]; exact ((Ext.refl w).alloc _).alloc _
 have hWs:W.heap.size=w.heap.size+1+1:=by rw [<- hW]; simp
 have hbx:W.heap[w.heap.size]?=some (.cells #[.bool b,.slice A n c,.slice B m d] 37):=by rw [<- hW,Below.heap_alloc _ _ _ (by simp)]; exact heap_alloc_new w _
 have hZ:qg4 W (w.heap.size+1):=by
  rw [<- hW];have:=qg4.new (w.alloc (.cells #[.bool b,.slice A n c,.slice B m d] 37)) 40
  rwa [World.size_alloc] at this
 have HB:Hid (∀ W':World,W'.heap[w.heap.size]?=some (.cells #[.bool b,.slice A n c,.slice B m d] 37)->(W'.cell? ⟨w.heap.size,0,none⟩=some (.bool b)/\W'.cell? ⟨w.heap.size,1,none⟩=some (.slice A n c)/\W'.cell? ⟨w.heap.size,2,none⟩=some (.slice B m d))):=by
  intro W' k;refine ⟨?_,?_,?_⟩ <;> simp [World.cell?,k]
 have HBE:Hid (∀ W',Ext W W'->W'.heap[w.heap.size]?=some (.cells #[.bool b,.slice A n c,.slice B m d] 37)):=Lib.hid (fun W' hx=>(hx.below.block _ (by omega)).trans hbx);have HZ:=Lib.hid hZ;have HWX:=Lib.hid hWx;have HRT:=Lib.hid (fun W' (hx:Ext W W')=>zg8 _ q L W' (H.out.ext (HWX.out.trans hx)) h1 (by omega));have Y0:=Lib.hid ((Ext.refl W).drew);clear hbx hZ hWx H;go_enter Tryz.func42,Tryz.ntmps42;go_upto_region 1 with fail
 try rw [hW]
 clear hW;refine wp_region_held_drew (S:=fun W'=>W'.heap[w.heap.size]?=some (.cells #[.bool b,.slice A n c,.slice B m d] 37)) (by kernel_rfl) (HBE.out _ Y0.out) (fun hHeld=>?_);refine tk 0 ?_ (hy:=Or.inl ⟨by rfl,by intro w' hSw; obtain ⟨k0,k1,k2⟩:=HB.out w' hSw; go_simp; (try (with_reducible rfl))⟩);refine tk 2 ?_ (hy:=Or.inl ⟨by rfl,by intro w' hSw; obtain ⟨k0,k1,k2⟩:=HB.out w' hSw; go_simp; (try (with_reducible rfl))⟩);refine r_1 1 fun K hK=>?_
 go_simp
 go_at_call 78
 refine (HRT.out _ Y0.out).mono ?_;rintro e w1 ⟨v1,rfl,m1,x1⟩;obtain ⟨b1,A1,n1,c1,B1,k1',d1,rfl⟩:=m1.unpack;have Y1:=Lib.hid (Y0.out.trans x1);have M1:=Lib.hid m1;clear x1 m1;refine k_t hK (HBE.out _ Y1.out) fun hHeld=>?_
 clear hK K;refine r_1 3 fun K hK=>?_
 go_simp
 go_at_call 78
 refine (HRT.out _ Y1.out).mono ?_;rintro e w2 ⟨v2,rfl,m2,x2⟩;obtain ⟨b2,A2,n2,c2,B2,k2',d2,rfl⟩:=m2.unpack;have Y2:=Lib.hid (Y1.out.trans x2);have HF:=Lib.hid (kiv b1 A1 n1 c1 B1 k1' d1 b2 A2 n2 c2 B2 k2' d2 (g:=w.heap.size+1) (HWX.out.trans Y2.out) (by omega) (HZ.out.ext Y2.out (by omega)) (M1.out.ext x2) m2);have HSTO:Hid ((yh8 w2 (w.heap.size+1) (.int .i64 0) (.bool false) (.slice none 0 0) (.slice none 0 0) (.bool b1) (.slice A1 n1 c1) (.slice B1 k1' d1) (.bool b2) (.slice A2 n2 c2) (.slice B2 k2' d2)).heap[w.heap.size]?=some (.cells #[.bool b,.slice A n c,.slice B m d] 37)):=Lib.hid (by rw [xhe,kg6 (by omega)]; exact HBE.out _ Y2.out);clear x2 m2 M1;refine k_t hK (HBE.out _ Y2.out) fun hHeld=>?_
 clear hK K;refine tk 4 ?_;obtain ⟨⟨z0,z1,z2,z3,z4,z5,z6,z7,z8,z9⟩,zf⟩:=HZ.out.ext Y2.out (by omega);refine r_1 5 fun K hK=>?_
 have f0:=zf 0;have f1:=zf 1;have f2:=zf 2;have f3:=zf 3;have f4:=zf 4;have f5:=zf 5;have f6:=zf 6;have f7:=zf 7;have f8:=zf 8;have f9:=zf 9;go_simp;refine k_t hK HSTO.out fun hHeld=>?_
 clear hK K;refine w_d ?_;go_wp2_with fail;exact bodyPost_ret (v:=.agg #[.int .i64 0,.bool false,.slice none 0 0,.slice none 0 0,.bool b1,.slice A1 n1 c1,.slice B1 k1' d1,.bool b2,.slice A2 n2 c2,.slice B2 k2' d2]) (by simp [results,Tryz.results42,go_sem,z0,z1,z2,z3,z4,z5,z6,z7,z8,z9]) rfl HF.out
theorem ugt {w:World} {v:Value} {q:Rat} (h:CoV w v q) (hq:rlen q<=1000000):Calls Tryz.prog 96 #[v] w (ydd true w):=by
 obtain ⟨b1,A1,n1,c1,B1,m1,d1,b2,A2,n2,c2,B2,m2,d2,rfl,h1,h2⟩:=h;obtain ⟨W,hW⟩:=n_m (w.alloc (.cells #[.int .i64 0,.bool false,.slice none 0 0,.slice none 0 0,.bool b1,.slice A1 n1 c1,.slice B1 m1 d1,.bool b2,.slice A2 n2 c2,.slice B2 m2 d2] 40));have hWx:Ext w W:=by rw [<- hW]; exact (Ext.refl w).alloc _
 have hbx:W.heap[w.heap.size]?=some (.cells #[.int .i64 0,.bool false,.slice none 0 0,.slice none 0 0,.bool b1,.slice A1 n1 c1,.slice B1 m1 d1,.bool b2,.slice A2 n2 c2,.slice B2 m2 d2] 40 (0,0)):=by rw [<- hW]; exact heap_alloc_new w _
 have a4:W.cell? ⟨w.heap.size,4,none⟩=some (.bool b1):=by simp [World.cell?,hbx]
 have a5:W.cell? ⟨w.heap.size,5,none⟩=some (.slice A1 n1 c1):=by simp [World.cell?,hbx]
 have a6:W.cell? ⟨w.heap.size,6,none⟩=some (.slice B1 m1 d1):=by simp [World.cell?,hbx]
 have a7:W.cell? ⟨w.heap.size,7,none⟩=some (.bool b2):=by simp [World.cell?,hbx]
 have a8:W.cell? ⟨w.heap.size,8,none⟩=some (.slice A2 n2 c2):=by simp [World.cell?,hbx]
 have a9:W.cell? ⟨w.heap.size,9,none⟩=some (.slice B2 m2 d2):=by simp [World.cell?,hbx]
 have hp:=uc8 q;have HC:=Lib.hid (xh6 _ _ q q _ _ W (h1.raw.ext hWx) (h2.raw.ext hWx) hp hp (by omega));have HWX:=Lib.hid hWx;clear hbx hWx h1 h2;have hz:(vg2 q q == 0)=true:=by simp [vg2]
 go_enter Tryz.func96,Tryz.ntmps96;go_wp2_with fail;clear hW;refine HC.out.mono ?_;rintro e w1 ⟨rfl,x1⟩;have X1:=Lib.hid (HWX.out.trans x1);clear x1 HC a4 a5 a6 a7 a8 a9;go_wp2_with fail;go_ret;exact ⟨by first | rfl | simp [vg2],X1.out⟩
end Go.Proofs.YtopddaabiinboaaGreat

/- Layer 31: point.Of and point.Normal at rational coordinates. -/
set_option maxRecDepth 100000
set_option maxHeartbeats 8000000
namespace Go.Proofs.YtopddaabiinboaaGreat
open Go.RowKit
theorem zia (n:Nat):∀ u ∈ (madeCells (Value.agg #[.int .i64 0,.bool false,.slice none 0 0,.slice none 0 0,.bool false,.slice none 0 0,.slice none 0 0,.bool false,.slice none 0 0,.slice none 0 0]).cells (n * 10)).toList,gc6 u=false:=by
 intro u hu;unfold madeCells at hu;simp only [Array.toList_map,List.mem_map] at hu;obtain ⟨i,-,rfl⟩:=hu;have hlt:i % 10 < 10:=Nat.mod_lt _ (by omega);show gc6 ((#[.int .i64 0,.bool false,.slice none 0 0,.slice none 0 0,.bool false,.slice none 0 0,.slice none 0 0,.bool false,.slice none 0 0,.slice none 0 0]:Array Value)[i % 10]!)=false;rcases (show i % 10=0\/i % 10=1\/i % 10=2\/i % 10=3\/i % 10=4\/i % 10=5\/i % 10=6\/i % 10=7\/i % 10=8\/i % 10=9 by omega) with e | e | e | e | e | e | e | e | e | e <;> rw [e] <;> rfl
theorem xhi (n:Nat) (h1:n<=1000000) (w:World) :
 ∃ w',(Instr.makeSlice 42 (.int .i64 0) (.int .i64 (n:Int))).run Tryz.prog w=.ok (.slice (some ⟨w.heap.size,0,none⟩) 0 n) w'/\Ext w w'/\gc8 w.heap.size w' (.slice (some ⟨w.heap.size,0,none⟩) 0 n) []:=by
 obtain ⟨i0,hi,hz0,hz1,hz2⟩:=info_parts jhj;have hr:=run_make w 42 40 i0 _ Tryz.underlying42 hi hz0 .i64 .i64 0 (n:Int) (by omega) (by omega) (by rw [hz2]; omega) (by omega);rw [hz1] at hr;simp only [Int.toNat_natCast,Int.toNat_zero] at hr;refine ⟨_,hr,(Ext.refl w).alloc _,[],rfl,⟨World.ownsRow_made w _ n (Nat.le_refl _) (by unfold maxLen; omega) ?_,fun R cur T fr e hb u hu=>?_⟩,by simp⟩
 · unfold madeCells; simp
 · have hR:w.heap.size=R:=by simpa [Value.ownBlock] using e
   subst hR;rw [heap_alloc_new w _] at hb;simp only [Option.some.injEq,Obj.cells.injEq] at hb;rw [<- hb.1] at hu;exact zia n u hu
theorem uip {w:World} {L:Nat} {xv:Value} {xs:List Rat} (hL:1<=L) (hL2:L<=1000000) (hn:xs.length<=1000) (hxs:RsV w L xv xs):Calls Tryz.prog 19 #[xv] w fun e w'=>∃ v,e=.returned v/\gc8 w.heap.size w' v xs/\Ext w w':=by
 have HXS:=Lib.hid hxs;obtain ⟨Ax,cx,rfl,hx1,hx2,-⟩:=hxs;obtain ⟨W,hmk,hWx,hrow⟩:=xhi xs.length (by omega) w;have HWX:=Lib.hid hWx;have HR0:=Lib.hid hrow;clear hWx hrow;go_enter Tryz.func19,Tryz.ntmps19;go_wp2_with fail;clear hmk
 go_loopw [3,11] (fun rv iv wr=>∃ (k:Nat),k<=xs.length/\iv=.int .i64 k/\Hid (gc8 w.heap.size wr rv (xs.take k)/\Ext w wr)) (fun _ iv _=>xs.length - (intOf iv).toNat)
 case atStart=>exact ⟨0,by omega,rfl,Lib.hid ⟨HR0.out,HWX.out⟩⟩
 case round =>
  obtain ⟨k,hk,rfl,HI⟩:=hrel;have HQ:=Lib.hid HI.out.1;have HE:=Lib.hid HI.out.2;obtain ⟨RA,rc,rfl,hr1,hr2⟩:=HI.out.1.len;have hlen:(xs.take k).length=k:=by rw [List.length_take]; omega
  rw [hlen] at hr1 HQ ⊢;clear HI HR0 hlen
  by_cases hlt:k < xs.length
  · obtain ⟨A',c',e',-,-,h3⟩:=HXS.out.ext HE.out;injection e' with e1 e2 e3
    obtain ⟨ad,bb,C1,i1,j1,C2,i2,j2,e4,hb,⟨a0,a1,a2⟩,hr⟩:=h3 k hlt;obtain rfl:Ax=some ad:=e1.trans e4;have HS:Hid (xs.take (k+1)=xs.take k ++ [xs[k]]):=Lib.hid (List.take_succ_eq_append_getElem hlt);generalize xs[k]=z at *;have hki:(k:Int) < (xs.length:Int):=by omega
    have hk0:(0:Int)<=(k:Int):=by omega
    have HRZ:=Lib.hid hr;clear h3 e1 e3 e4 hr;go_wp2_with fail;clear a0 a1 a2
    · have hxa:Ext wr (wr.alloc (.cells #[.bool bb,.slice C1 i1 j1,.slice C2 i2 j2] 37)):=(Ext.refl wr).alloc _;refine (gho hL (HRZ.out.ext hxa) hL2).mono ?_;rintro e w4 ⟨v4,rfl,⟨b1,A1,n1,c1,B1,m1,d1,b2,A2,n2,c2,B2,m2,d2,rfl,h3,h4⟩,x4⟩;have hx4:=hxa.trans x4;clear x4 hxa;obtain ⟨v6,w6,hrun,hrow6,hg6,-,-⟩:=(HQ.out.ext hx4).push_ (by have:=hx4.size; have:=HE.out.size; omega) h3 h4 (by rw [List.length_take]; omega) 42;rw [<- HS.out] at hrow6;have hx6:Ext w w6:=Below.grown (HE.out.trans hx4).below hg6 (HE.out.trans hx4).size (fun j e=>by have:=((HQ.out.ext hx4).own e).1; omega);have HN:=Lib.hid (And.intro hrow6 hx6);clear hrow6 hg6 hx6 hx4 h3 h4
      go_wp2_with (at_builtin
                   refine wpList_append_run rfl (.tmp 15) (.tmp 18) _ _ rfl _ _ _ _ rfl rfl hrun ?_)
      clear hrun
      go_roundw
      case rel=>exact ⟨k+1,by omega,by go_num,HN⟩
      case measure=>simp [intOf]; omega
  · obtain rfl:k=xs.length:=by omega
    have HV:=HQ.out;rw [List.take_length] at HV;have HF:=Lib.hid (And.intro HV HE.out);clear HQ HV;go_wp2_with fail;go_ret;exact ⟨_,rfl,HF.out.1,HF.out.2⟩
theorem whu {w:World} {base L:Nat} {xv:Value} {xs:List Rat} (hL2:L<=1000000) (hq:∀ q ∈ xs,rlen q<=L) (hn:xs.length<=1000) (hxs:gc8 base w xv xs):Calls Tryz.prog 63 #[xv] w fun e w'=>∃ v,e=.returned v/\gc8 w.heap.size w' v xs/\Ext w w':=by
 have HXS:=Lib.hid hxs;obtain ⟨Ax,cx,rfl,hx1,hx2⟩:=hxs.len;obtain ⟨W,hmk,hWx,hrow⟩:=xhi xs.length (by omega) w;have HWX:=Lib.hid hWx;have HR0:=Lib.hid hrow;have HL:=Lib.hid hq;clear hWx hrow hxs hq;go_enter Tryz.func63,Tryz.ntmps63;go_wp2_with fail;clear hmk
 go_loopw [3,11] (fun rv iv wr=>∃ (k:Nat),k<=xs.length/\iv=.int .i64 k/\Hid (gc8 w.heap.size wr rv (xs.take k)/\Ext w wr)) (fun _ iv _=>xs.length - (intOf iv).toNat)
 case atStart=>exact ⟨0,by omega,rfl,Lib.hid ⟨HR0.out,HWX.out⟩⟩
 case round =>
  obtain ⟨k,hk,rfl,HI⟩:=hrel;have HQ:=Lib.hid HI.out.1;have HE:=Lib.hid HI.out.2;obtain ⟨RA,rc,rfl,hr1,hr2⟩:=HI.out.1.len;have hlen:(xs.take k).length=k:=by rw [List.length_take]; omega
  rw [hlen] at hr1 HQ ⊢;clear HI HR0 hlen
  by_cases hlt:k < xs.length
  · obtain ⟨g,c',b1,A1,n1,c1,B1,m1,d1,b2,A2,n2,c2,B2,m2,d2,e',-,hg,⟨a0,a1,a2,a3,a4,a5,a6,a7,a8,a9⟩,hlo,hhi⟩:=(HXS.out.ext HE.out).get_ k hlt;injection e' with e1 e2 e3
    subst e1;have HS:Hid (xs.take (k+1)=xs.take k ++ [xs[k]]):=Lib.hid (List.take_succ_eq_append_getElem hlt);have hzl:=HL.out _ (List.getElem_mem hlt);generalize xs[k]=z at *;have HZL:=Lib.hid hzl;have hki:(k:Int) < (xs.length:Int):=by omega
    have hk0:(0:Int)<=(k:Int):=by omega
    have hxa:Ext wr (wr.alloc (.cells #[.int .i64 0,.bool false,.slice none 0 0,.slice none 0 0,.bool b1,.slice A1 n1 c1,.slice B1 m1 d1,.bool b2,.slice A2 n2 c2,.slice B2 m2 d2] 40)):=(Ext.refl wr).alloc _;have HC:Hid (CoV (wr.alloc (.cells #[.int .i64 0,.bool false,.slice none 0 0,.slice none 0 0,.bool b1,.slice A1 n1 c1,.slice B1 m1 d1,.bool b2,.slice A2 n2 c2,.slice B2 m2 d2] 40)) (.agg #[.int .i64 0,.bool false,.slice none 0 0,.slice none 0 0,.bool b1,.slice A1 n1 c1,.slice B1 m1 d1,.bool b2,.slice A2 n2 c2,.slice B2 m2 d2]) z):=⟨b1,A1,n1,c1,B1,m1,d1,b2,A2,n2,c2,B2,m2,d2,rfl,hlo.ext hxa,hhi.ext hxa⟩;have HLO:=Lib.hid (hlo.ext hxa);obtain ⟨V,hV⟩:=n_m (wr.alloc (.cells #[.int .i64 0,.bool false,.slice none 0 0,.slice none 0 0,.bool b1,.slice A1 n1 c1,.slice B1 m1 d1,.bool b2,.slice A2 n2 c2,.slice B2 m2 d2] 40));have hbx:V.heap[wr.heap.size]?=some (.cells #[.int .i64 0,.bool false,.slice none 0 0,.slice none 0 0,.bool b1,.slice A1 n1 c1,.slice B1 m1 d1,.bool b2,.slice A2 n2 c2,.slice B2 m2 d2] 40 (0,0)):=by rw [<- hV]; exact heap_alloc_new wr _
    have hVs:V.heap.size=wr.heap.size+1:=by rw [<- hV]; simp
    rw [hV] at HC HLO hxa;have HXA:=Lib.hid hxa;have HBX:=Lib.hid hbx;have k0:V.cell? ⟨wr.heap.size,0,none⟩=some (.int .i64 0):=by simp [World.cell?,hbx]
    have k1:V.cell? ⟨wr.heap.size,1,none⟩=some (.bool false):=by simp [World.cell?,hbx]
    have k2:V.cell? ⟨wr.heap.size,2,none⟩=some (.slice none 0 0):=by simp [World.cell?,hbx]
    have k3:V.cell? ⟨wr.heap.size,3,none⟩=some (.slice none 0 0):=by simp [World.cell?,hbx]
    have k4:V.cell? ⟨wr.heap.size,4,none⟩=some (.bool b1):=by simp [World.cell?,hbx]
    have k5:V.cell? ⟨wr.heap.size,5,none⟩=some (.slice A1 n1 c1):=by simp [World.cell?,hbx]
    have k6:V.cell? ⟨wr.heap.size,6,none⟩=some (.slice B1 m1 d1):=by simp [World.cell?,hbx]
    have k7:V.cell? ⟨wr.heap.size,7,none⟩=some (.bool b2):=by simp [World.cell?,hbx]
    have k8:V.cell? ⟨wr.heap.size,8,none⟩=some (.slice A2 n2 c2):=by simp [World.cell?,hbx]
    have k9:V.cell? ⟨wr.heap.size,9,none⟩=some (.slice B2 m2 d2):=by simp [World.cell?,hbx]
    clear e2 e3 hlo hhi hzl hxa hbx;go_wp2_with fail;clear hV a0 a1 a2 a3 a4 a5 a6 a7 a8 a9 k0 k1 k2 k3 k4 k5 k6 k7 k8 k9;refine (ugt HC.out (by have:=HZL.out; omega)).mono ?_;rintro e w3 ⟨rfl,x3⟩;have hbx:=(x3.below.block _ (by omega)).trans HBX.out;have k0:w3.cell? ⟨wr.heap.size,0,none⟩=some (.int .i64 0):=by simp [World.cell?,hbx]
    have k1:w3.cell? ⟨wr.heap.size,1,none⟩=some (.bool false):=by simp [World.cell?,hbx]
    have k2:w3.cell? ⟨wr.heap.size,2,none⟩=some (.slice none 0 0):=by simp [World.cell?,hbx]
    have k3:w3.cell? ⟨wr.heap.size,3,none⟩=some (.slice none 0 0):=by simp [World.cell?,hbx]
    have k4:w3.cell? ⟨wr.heap.size,4,none⟩=some (.bool b1):=by simp [World.cell?,hbx]
    have k5:w3.cell? ⟨wr.heap.size,5,none⟩=some (.slice A1 n1 c1):=by simp [World.cell?,hbx]
    have k6:w3.cell? ⟨wr.heap.size,6,none⟩=some (.slice B1 m1 d1):=by simp [World.cell?,hbx]
    have k7:w3.cell? ⟨wr.heap.size,7,none⟩=some (.bool b2):=by simp [World.cell?,hbx]
    have k8:w3.cell? ⟨wr.heap.size,8,none⟩=some (.slice A2 n2 c2):=by simp [World.cell?,hbx]
    have k9:w3.cell? ⟨wr.heap.size,9,none⟩=some (.slice B2 m2 d2):=by simp [World.cell?,hbx]
    have HX3:=Lib.hid x3;have HLO3:=Lib.hid (HLO.out.ext x3);clear x3 hbx HC HLO;go_wp2_with fail;clear k0 k1 k2 k3 k4 k5 k6 k7 k8 k9
    · refine (gho (uc8 z) HLO3.out.raw (by have:=HZL.out; omega)).mono ?_;rintro e w4 ⟨v4,rfl,⟨b3,A3,n3,c3,B3,m3,d3,b4,A4,n4,c4,B4,m4,d4,rfl,h3,h4⟩,x4⟩;have hx4:=HXA.out.trans (HX3.out.trans x4);clear x4;obtain ⟨v6,w6,hrun,hrow6,hg6,-,-⟩:=(HQ.out.ext hx4).push_ (by have:=hx4.size; have:=HE.out.size; omega) h3 h4 (by rw [List.length_take]; omega) 42;rw [<- HS.out] at hrow6;have hx6:Ext w w6:=Below.grown (HE.out.trans hx4).below hg6 (HE.out.trans hx4).size (fun j e=>by have:=((HQ.out.ext hx4).own e).1; omega);have HN:=Lib.hid (And.intro hrow6 hx6);clear hrow6 hg6 hx6 hx4 h3 h4
      go_wp2_with (at_builtin
                   refine wpList_append_run rfl (.tmp 17) (.tmp 21) _ _ rfl _ _ _ _ rfl rfl hrun ?_)
      clear hrun
      go_roundw
      case rel=>exact ⟨k+1,by omega,by go_num,HN⟩
      case measure=>simp [intOf]; omega
  · obtain rfl:k=xs.length:=by omega
    have HV:=HQ.out;rw [List.take_length] at HV;have HF:=Lib.hid (And.intro HV HE.out);clear HQ HV;go_wp2_with fail;go_ret;exact ⟨_,rfl,HF.out.1,HF.out.2⟩
end Go.Proofs.YtopddaabiinboaaGreat
