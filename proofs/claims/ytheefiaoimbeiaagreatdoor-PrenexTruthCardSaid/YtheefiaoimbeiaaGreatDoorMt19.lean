/- Layer 34: formula.Weight; evaluate.large. -/
import Derived.Test.YtheefiaoimbeiaaGreatDoorMt3
import Derived.Lib.MinMax
import Derived.Test.YtheefiaoimbeiaaGreatDoorMt4
import Derived.Test.YtheefiaoimbeiaaGreatDoorMt7
set_option linter.unusedSimpArgs false
set_option linter.unusedVariables false

set_option maxRecDepth 100000
set_option maxHeartbeats 8000000
namespace Go.Proofs.YtheefiaoimbeiaaGreatDoor
open Go.RowKit
attribute [local go_sem] xaa xy gaa zaa kaa jaa yaa yt qy qaa uaa yad qm vaa ut
def Tm.wt : Tm -> Int
 | .num z=>ui (wae z.natAbs:Nat)
 | .name _=>1
 | .add a b=>ui (jc a.wt b.wt+1)
 | .sub a b=>ui (jc a.wt b.wt+1)
 | .mul a b=>ui (a.wt+b.wt)
 | .neg a=>a.wt
 | .pow a e=>uae (jc e 1) a.wt
theorem waf {n:Int} (h:1<=n):1<=ui n/\ui n<=2147483647:=by unfold ui; split <;> omega
theorem yb4 {a b:Int} (h:1<=a) (k:1<=b):1<=uae a b/\uae a b<=2147483647:=by
 have h1:=waf h;have h2:=waf k;have:=Int.mul_le_mul h1.1 h2.1 (by omega) (by omega);exact waf (by simpa using this)
theorem Tm.wt_bd (t:Tm):1<=t.wt/\t.wt<=2147483647:=by
 induction t with
 | num z=>exact waf (by have:=jbk z.natAbs; omega)
 | name s=>simp [Tm.wt]
 | add a b iha ihb=>have:=vas iha.1 iha.2 ihb.1 ihb.2; exact waf (by omega)
 | sub a b iha ihb=>have:=vas iha.1 iha.2 ihb.1 ihb.2; exact waf (by omega)
 | mul a b iha ihb=>exact waf (by omega)
 | neg a iha=>exact iha
 | pow a e iha=>exact yb4 (by unfold jc; split <;> omega) iha.1
theorem ucv {w0 w:World} {L:Nat} {a b:Tm} {v:Value} (h:TmV w0 L (.add a b) v) (iha:∀ (v:Value) (w:World),Ext w0 w->TmV w0 L a v->Calls Tryz.prog 74 #[v] w (qp a.wt w)) (ihb:∀ (v:Value) (w:World),Ext w0 w->TmV w0 L b v->Calls Tryz.prog 74 #[v] w (qp b.wt w)) (hx0:Ext w0 w) :
 Calls Tryz.prog 74 #[v] w (qp (ui (jc a.wt b.wt+1)) w):=by
 have ha:=a.wt_bd;have hb:=b.wt_bd;have IHA:=Lib.hid iha;have IHB:=Lib.hid ihb;obtain ⟨x,y,rfl,hx,hy⟩:=h;have HX:=Lib.hid hx;have HY:=Lib.hid hy;obtain ⟨T,x,rfl⟩:=hx.iface;obtain ⟨U,y,rfl⟩:=hy.iface;clear hx hy iha ihb;generalize a.wt=da at *;generalize b.wt=db at *;have hwm:IntKind.i64.wrap (max da db+1)=jc da db+1:=by
  have hm:max da db=jc da db:=by rw [Int.max_def]; unfold jc; split <;> split <;> omega
  have hm':=vas ha.1 ha.2 hb.1 hb.2;rw [hm]; exact IntWalk.i64_in _ (by omega)
 go_enter Tryz.func74,Tryz.ntmps74;go_wp2_with fail;obtain ⟨W,hW⟩:=n_m (w.alloc (.cells #[.iface T x,.iface U y] 175));have HB:Hid (∀ W',Ext W W'->(Ext W W'/\W'.cell? ⟨w.heap.size,0,none⟩=some (.iface T x)/\W'.cell? ⟨w.heap.size,1,none⟩=some (.iface U y))):=by
  intro W' hx;obtain ⟨hc,hf⟩:=hx.cells;refine ⟨hx,?_,?_⟩ <;> (rw [hc _ _ (by rw [<- hW]; simp),<- hW]; simp [go_sem])
 have HX0:Hid (Ext w W):=by
  have:Ext w W:=by rw [<- hW]; exact (Ext.refl w).alloc _
  exact this
 have HXW:=Lib.hid (hx0.trans HX0.out);clear hx0;rw [hW];clear hW
 go_region_held3 (fun W' => Ext W W' /\ W'.cell? ⟨w.heap.size, 0, none⟩ = some (.iface T x) /\ W'.cell? ⟨w.heap.size, 1, none⟩ = some (.iface U y))
  (first | exact HB.out _ ((Ext.refl W).drew) | exact HB.out _ (by assumption))
  (first
    | (go_at_call_of 74 (Value.iface T x)
       refine (IHA.out _ _ (HXW.out.trans ((Ext.refl W).drew)) HX.out).mono ?_;rintro e v1 ⟨rfl,x1⟩
       have y1:Ext W v1:=Ext.trans ((Ext.refl W).drew) x1)
    | (go_at_call_of 74 (Value.iface U y)
       refine (IHB.out _ _ (HXW.out.trans y1) HY.out).mono ?_;rintro e v2 ⟨rfl,x2⟩
       have y2:Ext W v2:=Ext.trans y1 x2)
    | (go_at_call 107
       refine (jaf _ _).mono ?_
       rintro e v3 ⟨rfl,rfl⟩))
 have HY2:=Lib.hid (HX0.out.trans y2);clear y1 y2 x1 x2 HB HX0;go_wp2_with fail;go_ret;exact ⟨rfl,HY2.out⟩
theorem xcv {w0 w:World} {L:Nat} {a b:Tm} {v:Value} (h:TmV w0 L (.sub a b) v) (iha:∀ (v:Value) (w:World),Ext w0 w->TmV w0 L a v->Calls Tryz.prog 74 #[v] w (qp a.wt w)) (ihb:∀ (v:Value) (w:World),Ext w0 w->TmV w0 L b v->Calls Tryz.prog 74 #[v] w (qp b.wt w)) (hx0:Ext w0 w) :
 Calls Tryz.prog 74 #[v] w (qp (ui (jc a.wt b.wt+1)) w):=by
 have ha:=a.wt_bd;have hb:=b.wt_bd;have IHA:=Lib.hid iha;have IHB:=Lib.hid ihb;obtain ⟨x,y,rfl,hx,hy⟩:=h;have HX:=Lib.hid hx;have HY:=Lib.hid hy;obtain ⟨T,x,rfl⟩:=hx.iface;obtain ⟨U,y,rfl⟩:=hy.iface;clear hx hy iha ihb;generalize a.wt=da at *;generalize b.wt=db at *;have hwm:IntKind.i64.wrap (max da db+1)=jc da db+1:=by
  have hm:max da db=jc da db:=by rw [Int.max_def]; unfold jc; split <;> split <;> omega
  have hm':=vas ha.1 ha.2 hb.1 hb.2;rw [hm]; exact IntWalk.i64_in _ (by omega)
 go_enter Tryz.func74,Tryz.ntmps74;go_wp2_with fail;obtain ⟨W,hW⟩:=n_m (w.alloc (.cells #[.iface T x,.iface U y] 176));have HB:Hid (∀ W',Ext W W'->(Ext W W'/\W'.cell? ⟨w.heap.size,0,none⟩=some (.iface T x)/\W'.cell? ⟨w.heap.size,1,none⟩=some (.iface U y))):=by
  intro W' hx;obtain ⟨hc,hf⟩:=hx.cells;refine ⟨hx,?_,?_⟩ <;> (rw [hc _ _ (by rw [<- hW]; simp),<- hW]; simp [go_sem])
 have HX0:Hid (Ext w W):=by
  have:Ext w W:=by rw [<- hW]; exact (Ext.refl w).alloc _
  exact this
 have HXW:=Lib.hid (hx0.trans HX0.out);clear hx0;rw [hW];clear hW
 go_region_held3 (fun W' => Ext W W' /\ W'.cell? ⟨w.heap.size, 0, none⟩ = some (.iface T x) /\ W'.cell? ⟨w.heap.size, 1, none⟩ = some (.iface U y))
  (first | exact HB.out _ ((Ext.refl W).drew) | exact HB.out _ (by assumption))
  (first
    | (go_at_call_of 74 (Value.iface T x)
       refine (IHA.out _ _ (HXW.out.trans ((Ext.refl W).drew)) HX.out).mono ?_;rintro e v1 ⟨rfl,x1⟩
       have y1:Ext W v1:=Ext.trans ((Ext.refl W).drew) x1)
    | (go_at_call_of 74 (Value.iface U y)
       refine (IHB.out _ _ (HXW.out.trans y1) HY.out).mono ?_;rintro e v2 ⟨rfl,x2⟩
       have y2:Ext W v2:=Ext.trans y1 x2)
    | (go_at_call 107
       refine (jaf _ _).mono ?_
       rintro e v3 ⟨rfl,rfl⟩))
 have HY2:=Lib.hid (HX0.out.trans y2);clear y1 y2 x1 x2 HB HX0;go_wp2_with fail;go_ret;exact ⟨rfl,HY2.out⟩
theorem vcv {w0 w:World} {L:Nat} {a b:Tm} {v:Value} (h:TmV w0 L (.mul a b) v) (iha:∀ (v:Value) (w:World),Ext w0 w->TmV w0 L a v->Calls Tryz.prog 74 #[v] w (qp a.wt w)) (ihb:∀ (v:Value) (w:World),Ext w0 w->TmV w0 L b v->Calls Tryz.prog 74 #[v] w (qp b.wt w)) (hx0:Ext w0 w) :
 Calls Tryz.prog 74 #[v] w (qp (ui (a.wt+b.wt)) w):=by
 have ha:=a.wt_bd;have hb:=b.wt_bd;have IHA:=Lib.hid iha;have IHB:=Lib.hid ihb;obtain ⟨x,y,rfl,hx,hy⟩:=h;have HX:=Lib.hid hx;have HY:=Lib.hid hy;obtain ⟨T,x,rfl⟩:=hx.iface;obtain ⟨U,y,rfl⟩:=hy.iface;clear hx hy iha ihb;generalize a.wt=da at *;generalize b.wt=db at *;have hwr:IntKind.i64.wrap (da+db)=da+db:=IntWalk.i64_in _ (by omega);go_enter Tryz.func74,Tryz.ntmps74;go_wp2_with fail;obtain ⟨W,hW⟩:=n_m (w.alloc (.cells #[.iface T x,.iface U y] 177));have HB:Hid (∀ W',Ext W W'->(Ext W W'/\W'.cell? ⟨w.heap.size,0,none⟩=some (.iface T x)/\W'.cell? ⟨w.heap.size,1,none⟩=some (.iface U y))):=by
  intro W' hx;obtain ⟨hc,hf⟩:=hx.cells;refine ⟨hx,?_,?_⟩ <;> (rw [hc _ _ (by rw [<- hW]; simp),<- hW]; simp [go_sem])
 have HX0:Hid (Ext w W):=by
  have:Ext w W:=by rw [<- hW]; exact (Ext.refl w).alloc _
  exact this
 have HXW:=Lib.hid (hx0.trans HX0.out);clear hx0;rw [hW];clear hW
 go_region_held3 (fun W' => Ext W W' /\ W'.cell? ⟨w.heap.size, 0, none⟩ = some (.iface T x) /\ W'.cell? ⟨w.heap.size, 1, none⟩ = some (.iface U y))
  (first | exact HB.out _ ((Ext.refl W).drew) | exact HB.out _ (by assumption))
  (first
    | (go_at_call_of 74 (Value.iface T x)
       refine (IHA.out _ _ (HXW.out.trans ((Ext.refl W).drew)) HX.out).mono ?_;rintro e v1 ⟨rfl,x1⟩
       have y1:Ext W v1:=Ext.trans ((Ext.refl W).drew) x1)
    | (go_at_call_of 74 (Value.iface U y)
       refine (IHB.out _ _ (HXW.out.trans y1) HY.out).mono ?_;rintro e v2 ⟨rfl,x2⟩
       have y2:Ext W v2:=Ext.trans y1 x2)
    | (go_at_call 107
       refine (jaf _ _).mono ?_
       rintro e v3 ⟨rfl,rfl⟩))
 have HY2:=Lib.hid (HX0.out.trans y2);clear y1 y2 x1 x2 HB HX0;go_wp2_with fail;go_ret;exact ⟨rfl,HY2.out⟩
theorem kcv {w0 w:World} {L:Nat} {a:Tm} {v:Value} (h:TmV w0 L (.neg a) v) (iha:∀ (v:Value) (w:World),Ext w0 w->TmV w0 L a v->Calls Tryz.prog 74 #[v] w (qp a.wt w)) (hx0:Ext w0 w) :
 Calls Tryz.prog 74 #[v] w (qp a.wt w):=by
 have IHA:=Lib.hid iha;obtain ⟨x,rfl,hx⟩:=h;have HX:=Lib.hid hx;obtain ⟨T,x,rfl⟩:=hx.iface;clear hx iha;go_enter Tryz.func74,Tryz.ntmps74;go_wp2_with fail;refine (IHA.out _ _ (hx0.trans ((Ext.refl w).alloc _)) HX.out).mono ?_;rintro e v1 ⟨rfl,x1⟩;have X1:=Lib.hid (Ext.trans ((Ext.refl w).alloc _) x1);clear x1;go_wp2_with fail;go_ret;exact ⟨rfl,X1.out⟩
theorem qcv {w0 w:World} {L:Nat} {a:Tm} {n:Int} {v:Value} (h:TmV w0 L (.pow a n) v) (iha:∀ (v:Value) (w:World),Ext w0 w->TmV w0 L a v->Calls Tryz.prog 74 #[v] w (qp a.wt w)) (hx0:Ext w0 w) :
 Calls Tryz.prog 74 #[v] w (qp (uae (jc n 1) a.wt) w):=by
 have ha:=a.wt_bd;have IHA:=Lib.hid iha;obtain ⟨x,rfl,hx⟩:=h;have HX:=Lib.hid hx;obtain ⟨T,x,rfl⟩:=hx.iface;clear hx iha;generalize a.wt=da at *
 by_cases hlt:n < 1
 · rw [show jc n 1=1 from if_pos hlt];have hif:(if n < 1 then (1:Int) else n)=1:=if_pos hlt;have hde:decide (n < 1)=true:=by simpa using hlt
   have hma:max n 1=1:=by omega
   go_enter Tryz.func74,Tryz.ntmps74;go_wp2_with fail;obtain ⟨W,hW⟩:=n_m (w.alloc (.cells #[.iface T x,.int .i64 n] 173));have HB:Hid (∀ W',Ext W W'->(Ext W W'/\W'.cell? ⟨w.heap.size,0,none⟩=some (.iface T x)/\W'.cell? ⟨w.heap.size,1,none⟩=some (.int .i64 n))):=by
    intro W' hx;obtain ⟨hc,hf⟩:=hx.cells;refine ⟨hx,?_,?_⟩ <;> (rw [hc _ _ (by rw [<- hW]; simp),<- hW]; simp [go_sem])
   have HX0:Hid (Ext w W):=by
    have:Ext w W:=by rw [<- hW]; exact (Ext.refl w).alloc _
    exact this
   have HXW:=Lib.hid (hx0.trans HX0.out);clear hx0;rw [hW];clear hW
   go_region_held3 (fun W' => Ext W W' /\ W'.cell? ⟨w.heap.size, 0, none⟩ = some (.iface T x) /\ W'.cell? ⟨w.heap.size, 1, none⟩ = some (.int .i64 n))
    (first | exact HB.out _ ((Ext.refl W).drew) | exact HB.out _ (by assumption))
    (first
      | (go_at_call 74
         refine (IHA.out _ _ (HXW.out.trans ((Ext.refl W).drew)) HX.out).mono ?_;rintro e v1 ⟨rfl,x1⟩
         have y1:Ext W v1:=Ext.trans ((Ext.refl W).drew) x1)
      | (go_at_call 108
         refine (qaq (1) da _ (by omega) (by omega)).mono ?_
         rintro e v2 ⟨rfl,rfl⟩))
   all_goals
    have HY2:=Lib.hid (HX0.out.trans y1);clear y1 x1 HB HX0;go_wp2_with fail;go_ret;exact ⟨rfl,HY2.out⟩
 · rw [show jc n 1=n from if_neg hlt];have hge:1<=n:=by omega
   have hif:(if n < 1 then (1:Int) else n)=n:=if_neg hlt;have hde:decide (n < 1)=false:=by simpa using hlt
   have hma:max n 1=n:=by omega
   go_enter Tryz.func74,Tryz.ntmps74;go_wp2_with fail;obtain ⟨W,hW⟩:=n_m (w.alloc (.cells #[.iface T x,.int .i64 n] 173));have HB:Hid (∀ W',Ext W W'->(Ext W W'/\W'.cell? ⟨w.heap.size,0,none⟩=some (.iface T x)/\W'.cell? ⟨w.heap.size,1,none⟩=some (.int .i64 n))):=by
    intro W' hx;obtain ⟨hc,hf⟩:=hx.cells;refine ⟨hx,?_,?_⟩ <;> (rw [hc _ _ (by rw [<- hW]; simp),<- hW]; simp [go_sem])
   have HX0:Hid (Ext w W):=by
    have:Ext w W:=by rw [<- hW]; exact (Ext.refl w).alloc _
    exact this
   have HXW:=Lib.hid (hx0.trans HX0.out);clear hx0;rw [hW];clear hW
   go_region_held3 (fun W' => Ext W W' /\ W'.cell? ⟨w.heap.size, 0, none⟩ = some (.iface T x) /\ W'.cell? ⟨w.heap.size, 1, none⟩ = some (.int .i64 n))
    (first | exact HB.out _ ((Ext.refl W).drew) | exact HB.out _ (by assumption))
    (first
      | (go_at_call 74
         refine (IHA.out _ _ (HXW.out.trans ((Ext.refl W).drew)) HX.out).mono ?_;rintro e v1 ⟨rfl,x1⟩
         have y1:Ext W v1:=Ext.trans ((Ext.refl W).drew) x1)
      | (go_at_call 108
         refine (qaq (n) da _ (by omega) (by omega)).mono ?_
         rintro e v2 ⟨rfl,rfl⟩))
   all_goals
    have HY2:=Lib.hid (HX0.out.trans y1);clear y1 x1 HB HX0;go_wp2_with fail;go_ret;exact ⟨rfl,HY2.out⟩
theorem jcv {w0 w:World} {L:Nat} {z:Int} {v:Value} (h:TmV w0 L (.num z) v) (hx0:Ext w0 w) (hs:L<=1000000000000):Calls Tryz.prog 74 #[v] w (qp (ui (wae z.natAbs:Nat)) w):=by
 obtain ⟨x,rfl,hx⟩:=h;have HX:=Lib.hid (hx.ext hx0);obtain ⟨b,A,n,c,rfl⟩:=hx.unpack;clear hx;go_enter Tryz.func74,Tryz.ntmps74;go_wp2_with fail;refine (ga9 _ z L _ (HX.out.ext ((Ext.refl w).alloc _)) hs).mono ?_;rintro e w1 ⟨rfl,x1⟩;have X1:=Lib.hid (Ext.trans ((Ext.refl w).alloc _) x1);clear x1;go_wp2_with fail;refine (jaf _ _).mono ?_;rintro e w1 ⟨rfl,rfl⟩;go_wp2_with fail;go_ret;exact ⟨rfl,X1.out⟩
theorem gbq {w0 w:World} {L:Nat} {s:ByteArray} {v:Value} (h:TmV w0 L (.name s) v):Calls Tryz.prog 74 #[v] w (qp 1 w):=by
 obtain rfl:=h;go_enter Tryz.func74,Tryz.ntmps74;go_wp2_with fail;go_ret;exact ⟨rfl,Ext.refl _⟩
theorem wbt {w0:World} {L:Nat} (hs:L<=1000000000000) (t:Tm):∀ (v:Value) (w:World),Ext w0 w->TmV w0 L t v->Calls Tryz.prog 74 #[v] w (qp t.wt w):=by
 induction t with
 | num z=>exact fun v w hx h=>jcv h hx hs
 | name s=>exact fun v w hx h=>gbq h
 | add a b iha ihb=>exact fun v w hx h=>ucv h iha ihb hx
 | sub a b iha ihb=>exact fun v w hx h=>xcv h iha ihb hx
 | mul a b iha ihb=>exact fun v w hx h=>vcv h iha ihb hx
 | neg a iha=>exact fun v w hx h=>kcv (a:=a) h iha hx
 | pow a n iha=>exact fun v w hx h=>qcv h iha hx
end Go.Proofs.YtheefiaoimbeiaaGreatDoor

/- Formulas all of whose terms are as P says. -/
namespace Go.Proofs.YtheefiaoimbeiaaGreatDoor
open Go.RowKit
def Fm.terms (P : Tm -> Prop) : Fm -> Prop
 | .truth _=>True
 | .atom l _ k=>P l/\P k
 | .not f=>f.terms P
 | .and f g=>f.terms P/\g.terms P
 | .or f g=>f.terms P/\g.terms P
 | .imp f g=>f.terms P/\g.terms P
 | .iff f g=>f.terms P/\g.terms P
 | .quant _ _ f=>f.terms P
theorem Fm.terms_kids {P:Tm->Prop} (f:Fm) (h:f.terms P):∀ g ∈ f.kids,g.terms P:=by
 cases f with
 | truth b=>intro g hg; cases hg
 | atom l r k=>intro g hg; cases hg
 | not f=>intro g hg; obtain rfl:=List.mem_singleton.1 hg; exact h
 | and f k =>
   intro g hg;simp only [Fm.kids,List.mem_cons,List.not_mem_nil,or_false] at hg;rcases hg with rfl | rfl
   · exact h.1
   · exact h.2
 | or f k =>
   intro g hg;simp only [Fm.kids,List.mem_cons,List.not_mem_nil,or_false] at hg;rcases hg with rfl | rfl
   · exact h.1
   · exact h.2
 | imp f k =>
   intro g hg;simp only [Fm.kids,List.mem_cons,List.not_mem_nil,or_false] at hg;rcases hg with rfl | rfl
   · exact h.1
   · exact h.2
 | iff f k =>
   intro g hg;simp only [Fm.kids,List.mem_cons,List.not_mem_nil,or_false] at hg;rcases hg with rfl | rfl
   · exact h.1
   · exact h.2
 | quant a s f=>intro g hg; obtain rfl:=List.mem_singleton.1 hg; exact h
theorem Fm.terms_of {P:Tm->Prop} (hP:∀ t,P t) (f:Fm):f.terms P:=by
 induction f <;> simp_all [Fm.terms]
end Go.Proofs.YtheefiaoimbeiaaGreatDoor

/- Layer 22: recpoly.add. -/
set_option maxRecDepth 100000
set_option maxHeartbeats 8000000
namespace Go.Proofs.YtheefiaoimbeiaaGreatDoor
open Go.RowKit
def ub0 (E D:Nat) (n:Int):Prop:=∀ (l:List Pl) (A:Option Addr) (c:Nat) (w:World),(∀ p ∈ l,p.Can/\p.ex E)->(∀ p ∈ l,p.lv < n)->lnr l < B32 ^ D->l.length<=1000000->l.length<=c->c<=9223372036854775807->jf w (fun _=>True) l A 0 ->
 Calls Tryz.prog 96 #[.slice A l.length c] w (ji (fun b=>w.heap.size<=b) (waa l) w)
theorem uaq {V W w4:World} {ov:Value} (hx:Ext V W) (hg:W.grownBy w4 ov.ownBlock) (ho:∀ R,ov.ownBlock=some R->V.heap.size<=R):Ext V w4:=
 Below.grown hx hg hx.size ho
theorem xbn {E D:Nat} (hE:E<=1000000) (hD:D<=17592186044000) (n:Int) (ih:∀ m,0 < m->m < n->ub0 E D m):ub0 E D n:=by
 intro l A c w hl hlv hnr hlen hc1 hc2 hat;have hcl:∀ p ∈ l,0<=p.lv/\p.lv<=4/\p.cs.length<=E+1/\(0 < p.lv->2<=p.cs.length):=fun p hp=>by
  obtain ⟨h1,h2⟩:=hl p hp;refine ⟨h1.lv_nonneg.1,h1.lv_nonneg.2,?_,fun h0=>?_⟩
  · obtain ⟨lv,ng,ds,cs⟩:=p;rw [Pl.ex] at h2;rcases h2 with h2 | h2
    · unfold Pl.Can at h1;rcases h1 with h | h
      · simp [Pl.cs,h.2.1]
      · omega
    · exact h2.1
  · obtain ⟨lv,ng,ds,cs⟩:=p;exact (h1.kids h0).2.2.1
 obtain ⟨hts,htp⟩:=wb1 l (E+1) hcl;have HAT:=Lib.hid hat;have HL:=Lib.hid hl;have HLV:=Lib.hid hlv;have HNR:=Lib.hid hnr;have IH:=Lib.hid ih;have HTS:=Lib.hid hts;have HTP:=Lib.hid htp;have HTA:=Lib.hid (qcm l);obtain ⟨W,hW⟩:=n_m (w.alloc (.cells #[.int .i64 0,.bool false,.slice none 0 0,.slice none 0 0] 44));have hWx:Ext w W:=by rw [<- hW]; exact (Ext.refl w).alloc _
 have hWs:W.heap.size=w.heap.size+1:=by rw [<- hW]; simp
 have hz:yh W w.heap.size:=by rw [<- hW]; exact yh.new w _
 have HWX:=Lib.hid hWx;have HZ:=Lib.hid hz;clear hat hl hlv hnr ih hts htp hWx hz hcl;go_enter Tryz.func96,Tryz.ntmps96;go_wp2_with fail;clear hW
 go_loopw [3,4,17] (fun av bv iv wr=>∃ k:Nat,k<=l.length/\iv=.int .i64 k/\av=.int .i64 (kag (l.take k)).1/\bv=.int .i64 (kag (l.take k)).2/\Hid (Ext W wr)) (fun _ _ iv _=>l.length - (intOf iv).toNat)
 case atStart=>exact ⟨0,Nat.zero_le _,rfl,by simp [kag],by simp [kag],Ext.refl W⟩
 case round =>
  obtain ⟨k,hk,rfl,rfl,rfl,hx0⟩:=hrel;have hx:Ext W wr:=hx0.out;have HX:=Lib.hid hx;have hws:=hx.size;clear hx0 hx
  by_cases hlt:k < l.length
  · obtain ⟨ad,C0,j0,g0,C1,j1,g1,rfl,hadb,hnd,hkt⟩:=jf.kid HAT.out k hlt;obtain ⟨a0,a1,a2,a3⟩:=hnd.ext (HWX.out.trans HX.out) (by rw [jb]; exact hadb);have hj1:j1=l[k].cs.length:=by
     obtain ⟨A1,n1,c1',A2,c2,e,-⟩:=hkt.open_;unfold plV at e;simp only [Value.agg.injEq,Array.mk.injEq,List.cons.injEq,and_true,true_and,Value.slice.injEq] at e;exact e.2.2.1
    subst hj1;have HST:=Lib.hid (gb1 l k hlt);obtain ⟨U,hU⟩:=n_m (wr.alloc (.cells #[.int .i64 l[k].lv,.bool l[k].neg,.slice C0 j0 g0,.slice C1 l[k].cs.length g1] 44));have hUx:Ext wr U:=by rw [<- hU]; exact (Ext.refl _).alloc _
    obtain ⟨u0,u1,u2,u3⟩:ql U wr.heap.size l[k] (.slice C0 j0 g0) (.slice C1 l[k].cs.length g1):=by rw [<- hU]; exact ql.new wr l[k] _ _ _
    have XU:=Lib.hid (HX.out.trans hUx);clear hnd hkt hadb hUx;obtain ⟨ta,tb,ht⟩:∃ ta tb,kag (l.take k)=(ta,tb):=⟨_,_,rfl⟩;rw [ht] at HST ⊢;clear ht;simp only at HST ⊢;generalize l[k]=p at *;rcases Int.lt_trichotomy ta p.lv with h | h | h
    · have HS2:=Lib.hid (HST.out.trans (kbi h));have hmx:max (0:Int) (p.cs.length:Int)=(p.cs.length:Int):=by omega
      go_wp2_with fail
      go_roundw
      case rel=>exact ⟨k+1,by omega,by go_num,by rw [HS2.out],by rw [HS2.out],XU⟩
      case measure=>simp [intOf]; omega
    · have HS2:=Lib.hid (HST.out.trans (vbi (a:=(ta,tb)) h.symm));have hnl:¬ ta < p.lv:=by omega
      have heq:(p.lv == ta)=true:=by simp [h]
      have HMX:Hid (max (tb:Int) (p.cs.length:Int)=((max tb p.cs.length:Nat):Int)):=Lib.hid (by omega);clear h;go_wp2_with fail
      go_roundw
      case rel=>exact ⟨k+1,by omega,by go_num,by rw [HS2.out],by rw [HS2.out]; simp only; rw [HMX.out],XU⟩
      case measure=>simp [intOf]; omega
    · have HS2:=Lib.hid (HST.out.trans (jbi (a:=(ta,tb)) h));have hnl:¬ ta < p.lv:=by omega
      have heq:(p.lv == ta)=false:=by simp; omega
      go_wp2_with fail
      go_roundw
      case rel=>exact ⟨k+1,by omega,by go_num,by rw [HS2.out],by rw [HS2.out],XU⟩
      case measure=>simp [intOf]; omega
  · have hke:k=l.length:=by omega
    rw [hke,List.take_length];obtain ⟨lv,sz,hts⟩:∃ lv sz,kag l=(lv,sz):=⟨_,_,rfl⟩;rw [hts] at HTS HTP HTA ⊢;simp only at HTS HTP HTA ⊢;obtain ⟨t1,t2,t3,t4⟩:=HTS.out;have HX2:=Lib.hid (HWX.out.trans HX.out);have HZ2:=Lib.hid (HZ.out.ext HX.out (by omega));have hws2:w.heap.size < wr.heap.size:=by omega
    clear hke hts hlt hk HX HWX HZ hws hWs HTS;obtain ⟨w1,rfl⟩:∃ w1,w1=wr:=⟨wr,rfl⟩
    by_cases h0:lv=0
    · have HLZ:Hid (∀ p ∈ l,p.Can/\p.lv=0):=Lib.hid (fun p hp=>⟨(HL.out p hp).1,by have h1:=(HTP.out p hp).1; have h2:=(HL.out p hp).1.lv_nonneg.1; omega⟩);have hlz2:(lv == 0)=true:=by simp [h0]
      have HAL:=Lib.hid (zb9 HLZ.out);have hnr2:inr (l.map Pl.z) < B32 ^ D:=by rw [zc2 HLZ.out]; exact HNR.out
      have HN2:=Lib.hid hnr2;obtain ⟨V,hmk,hVx,hVs,hrow⟩:=ybj (l.length:Int) (by omega) (by omega) w1;rw [Int.toNat_natCast] at hmk hrow;have HROW:=Lib.hid hrow;have HVX:=Lib.hid hVx;subst h0;clear hrow hVx hnr2;go_wp2_with fail;clear hmk
      go_loopw [44] (fun iv wx=>∃ k:Nat,k<=l.length/\iv=.int .i64 k/\Hid ((∃ L:List Int,L.length=l.length/\L.take k=(l.map Pl.z).take k/\vav wx w1.heap.size L)/\Ext w1 wx)) (fun iv _=>l.length - (intOf iv).toNat)
      case atStart=>exact ⟨0,Nat.zero_le _,rfl,⟨⟨_,List.length_replicate,by simp,HROW.out⟩,HVX.out⟩⟩
      case round =>
       obtain ⟨k,hk,rfl,⟨⟨L,hLl,hLt,hrow⟩,hx⟩⟩:=hrel;have HX:=Lib.hid hx;have HROWk:=Lib.hid hrow;have HLT:=Lib.hid hLt;have hRlt:w1.heap.size < wr.heap.size:=hrow.1;clear hx hrow hLt HVX HROW
       by_cases hlt:k < l.length
       · obtain ⟨ad,C0,j0,g0,C1,j1,g1,rfl,hadb,hnd,hkt⟩:=jf.kid HAT.out k hlt;obtain ⟨a0,a1,a2,a3⟩:=hnd.ext (HX2.out.trans HX.out) (by rw [jb]; exact hadb);have hcf:=HLZ.out l[k] (List.getElem_mem hlt);have hfl:=gav hcf.1 hcf.2;have hng:l[k].neg=decide (l[k].z < 0):=congrArg Pl.neg hfl;have hds:l[k].ds=dg l[k].z.natAbs:=congrArg Pl.ds hfl;have hnat:ja wr (.slice C0 j0 g0) (dg l[k].z.natAbs):=by
          obtain ⟨A1,n1,c1',A2,c2,e,hn,-⟩:=hkt.open_;unfold plV at e;simp only [Value.agg.injEq,Array.mk.injEq,List.cons.injEq,and_true,true_and] at e;rw [e.1,<- hds];exact hn.ext (HX2.out.trans HX.out)
         have HSET:Hid ((L.set k l[k].z).take (k+1)=(l.map Pl.z).take (k+1)):=by
          have h1:=xai L (l.map Pl.z) k HLT.out (by omega) (by rw [List.length_map]; exact hlt);rw [List.getElem_map] at h1;exact h1
         obtain ⟨U,hU⟩:=n_m (wr.alloc (.cells #[.int .i64 l[k].lv,.bool (decide (l[k].z < 0)),.slice C0 j0 g0,.slice C1 j1 g1] 44));have hUx:Ext wr U:=by rw [<- hU]; exact (Ext.refl _).alloc _
         have u1:U.cell? ⟨wr.heap.size,1,none⟩=some (.bool (decide (l[k].z < 0))):=by rw [<- hU]; simp [go_sem]
         have u2:U.cell? ⟨wr.heap.size,2,none⟩=some (.slice C0 j0 g0):=by rw [<- hU]; simp [go_sem]
         have hru:=HROWk.out.ext hUx;have HST:=Lib.hid (hru.set_ k (by omega) l[k].z (hnat.ext hUx));have XU:=Lib.hid (HX.out.trans hUx);obtain ⟨D0,n2,d2,r0,r1,-⟩:=hru.2.2 k (by omega);have hfr:=hru.2.1;rw [hng] at a1;clear hnd hkt hadb hcf hfl hng hds hnat hru hUx HLT HROWk;generalize l[k].z=z at *;generalize l[k]=p at *;go_wp2_with fail
         go_roundw
         case rel=>exact ⟨k+1,by omega,by go_num,⟨_,by rw [List.length_set]; exact hLl,HSET.out,HST.out⟩,(XU.out.setCell (Nat.le_refl _) _).setCell (Nat.le_refl _) _⟩
         case measure=>simp [intOf]; omega
       · have hke:k=l.length:=by omega
         have hLe:L=l.map Pl.z:=by
          have h:=HLT.out;rw [hke,show l.length=(l.map Pl.z).length by rw [List.length_map],List.take_length,List.length_map,<- hLl,List.take_length] at h;exact h
         have hfin:=HROWk.out.fin l.length (by omega) (by omega);rw [hLe,List.length_map] at hfin;have HSU:=Lib.hid (jcm hfin HN2.out hD);have HZ3:=Lib.hid (HZ2.out.ext HX.out hws2);clear hfin HROWk HLT hLe hke;go_wp2_with fail;refine HSU.out.mono ?_;rintro e w2 ⟨z2,rfl,⟨y2,rfl,m2⟩,x2⟩;obtain ⟨C2,k2,rfl,-⟩:=id m2;have hzn:=HZ3.out.ext x2 (by omega);have HF:Hid (ji (fun b=>w.heap.size<=b) (waa l) w (.returned (plV (Pl.const (qab (l.map Pl.z))) (.slice C2 (dg (qab (l.map Pl.z)).natAbs).length k2) (.slice none 0 0))) ((((w2.setCell ⟨w.heap.size,0,none⟩ (.int .i64 0)).setCell ⟨w.heap.size,1,none⟩ (.bool (decide (qab (l.map Pl.z) < 0)))).setCell ⟨w.heap.size,2,none⟩ (.slice C2 (dg (qab (l.map Pl.z)).natAbs).length k2)).setCell ⟨w.heap.size,3,none⟩ (.slice none 0 0))):=by
          rw [HAL.out];exact qi (p:=Pl.const (qab (l.map Pl.z))) (q:=fun _=>False) ((HX2.out.trans HX.out).trans x2) (Nat.le_refl _) hzn (PlV.mk (t:=Pl.const (qab (l.map Pl.z))) (A:=none) (c:=0) m2 (Nat.le_refl _) (by omega) (by unfold Pl.const Pl.cs jf; trivial)) (fun b _ h=>h.elim)
         obtain ⟨⟨z0,z1,z2',z3⟩,zf⟩:=hzn;clear x2 m2 HSU;generalize qab (l.map Pl.z)=S at *;go_wp2_with fail;exact bodyPost_ret (v:=plV (Pl.const S) (.slice C2 (dg S.natAbs).length k2) (.slice none 0 0)) (by simp [results,Tryz.results96,go_sem,z0,z1,z2',z3,plV,Pl.const,Pl.lv,Pl.neg]) rfl HF.out
    · have hlz2:(lv == 0)=false:=by simp [h0]
      have hpos:0 < lv:=by omega
      have hlvn:lv < n:=by
       obtain ⟨p,hp,e⟩:=HTA.out hpos;have:=HLV.out p hp;omega
      have hsz1:1<=sz:=by have:=t4 hpos; omega
      have HLE:=Lib.hid (zb0 hpos t2 hsz1 HL.out HTP.out);obtain ⟨V,hmk,hVx,hVs,hrow⟩:=xaq (sz:Int) (by omega) (by omega) w1;rw [Int.toNat_natCast] at hmk hrow;have HROW:=Lib.hid (hrow (fun i=>w1.heap.size<=i));have HVX:=Lib.hid hVx;have HH:=Lib.hid h0;have HLN:=Lib.hid hlvn;have hatl:jf w (fun b=>b < w.heap.size) l A 0:=jf.turn (Nat.le_refl _) (fun _ _ h=>h) (fun b hb _=>⟨hb,rfl⟩) l A 0 HAT.out;have HATL:=Lib.hid hatl;clear hrow hVx h0 hlvn hatl;go_wp2_with fail;clear hmk
      go_loopw [62] (fun iv wx=>∃ i:Nat,i<=sz/\iv=.int .i64 i/\Hid ((∃ L:List Pl,L.length=sz/\L.take i=((List.range sz).map fun i=>waa (um lv i l)).take i/\wap wx (fun b=>w1.heap.size<=b) w1.heap.size L)/\Ext w1 wx)) (fun iv _=>sz - (intOf iv).toNat)
      case atStart=>exact ⟨0,Nat.zero_le _,rfl,⟨⟨_,List.length_replicate,by simp,HROW.out⟩,HVX.out⟩⟩
      case round =>
       obtain ⟨i,hi,rfl,⟨⟨L,hLl,hLt,hrow⟩,hx⟩⟩:=hrel;have HX:=Lib.hid hx;have HROWk:=Lib.hid hrow;have HLT:=Lib.hid hLt;have hRlt:w1.heap.size < wr.heap.size:=hrow.1;clear hx hrow hLt HVX HROW;obtain ⟨w2,rfl⟩:∃ w2,w2=wr:=⟨wr,rfl⟩
       by_cases hlt:i < sz
       · have HX3:=Lib.hid (HX2.out.trans HX.out);have hws3:w.heap.size<=w2.heap.size:=HX3.out.size;go_wp2_with fail
         go_loopw [12,67] (fun pv kv wx=>∃ k:Nat,k<=l.length/\kv=.int .i64 k/\Hid (kw w2.heap.size (fun b=>b < w2.heap.size) wx pv (um lv i (l.take k))/\Ext w2 wx)) (fun _ kv _=>l.length - (intOf kv).toNat)
         case atStart=>exact ⟨0,Nat.zero_le _,rfl,⟨by simpa [um] using kw.nil _ _ _,Ext.refl _⟩⟩
         case round =>
          obtain ⟨k,hk,rfl,⟨hq,hx⟩⟩:=hrel;have HQ:=Lib.hid hq;have HXI:=Lib.hid hx;have hws4:=hx.size;obtain ⟨PA,pc,rfl,hp1,hp2⟩:=hq.len;have hpl:=ga7 lv i (l.take k);rw [List.length_take] at hpl;clear hx hq
          by_cases hltk:k < l.length
          · obtain ⟨ad,C0,j0,g0,C1,j1,g1,rfl,hadb,hnd,hkt⟩:=jf.kid HATL.out k hltk;have hxx:=HX3.out.trans HXI.out;obtain ⟨a0,a1,a2,a3⟩:=hnd.ext hxx (by rw [jb]; exact hadb);have hj1:j1=l[k].cs.length:=by
             obtain ⟨A1,n1,c1',A2,c2,e,-⟩:=hkt.open_;unfold plV at e;simp only [Value.agg.injEq,Array.mk.injEq,List.cons.injEq,and_true,true_and,Value.slice.injEq] at e;exact e.2.2.1
            subst hj1;have HTK:=Lib.hid (vbp lv i l k hltk);have hple:=(HTP.out l[k] (List.getElem_mem hltk)).1;obtain ⟨U,hU⟩:=n_m (wr.alloc (.cells #[.int .i64 l[k].lv,.bool l[k].neg,.slice C0 j0 g0,.slice C1 l[k].cs.length g1] 44));have hUx:Ext wr U:=by rw [<- hU]; exact (Ext.refl _).alloc _
            obtain ⟨u0,u1,u2,u3⟩:ql U wr.heap.size l[k] (.slice C0 j0 g0) (.slice C1 l[k].cs.length g1):=by rw [<- hU]; exact ql.new wr l[k] _ _ _
            have XU:=Lib.hid (HXI.out.trans hUx);have HKT:=Lib.hid (hkt.ext (hxx.trans hUx));have HQU:=Lib.hid (HQ.out.ext hUx);have hUs:=hUx.size;have HPUSH:Hid (∀ (x:Pl) (E0 E1:Option Addr) (q0 r0 q1 r1:Nat),PlV U (fun b=>b < w.heap.size) x (plV x (.slice E0 q0 r0) (.slice E1 q1 r1))->partsOf lv i l[k]=[x]->∃ v4 w4,(Builtin.append_ #[42,42] 42 #[.slice PA (um lv i (l.take k)).length pc,.slice (some ⟨U.heap.size,0,none⟩) 1 1]).run Tryz.prog (U.alloc (.cells #[.int .i64 x.lv,.bool x.neg,.slice E0 q0 r0,.slice E1 q1 r1] 44))=.ok v4 w4/\kw w2.heap.size (fun b=>b < w2.heap.size) w4 v4 (um lv i (l.take (k+1)))/\Ext w2 w4):=by
             refine Lib.hid ?_;intro x E0 E1 q0 r0 q1 r1 hxv hpo;obtain ⟨v4,w4,hrun,g4,n4,r4,o4⟩:=HQU.out.push (by have:=XU.out.size; omega) (hxv.mono fun b hb=>⟨fun e=>by have:=(HQU.out.own e).1; omega,by omega⟩) (by omega) 42;exact ⟨v4,w4,hrun,by rw [HTK.out,hpo]; exact r4,uaq XU.out g4 (fun R hR=>(HQU.out.own hR).1)⟩
            clear hnd hUx HQ
            by_cases he:l[k].lv=lv
            · have heq:(l[k].lv == lv)=true:=by simp [he]
              by_cases hic:i < l[k].cs.length
              · have hpo:partsOf lv i l[k]=[l[k].cs[i]]:=by unfold partsOf; rw [if_pos he,List.getElem?_eq_getElem hic]; rfl
                obtain ⟨A1,n1,c1',A2,c2,e,-,-,-,hat2⟩:=HKT.out.open_;unfold plV at e;simp only [Value.agg.injEq,Array.mk.injEq,List.cons.injEq,and_true,true_and,Value.slice.injEq] at e;obtain ⟨-,rfl,rfl⟩:=e;obtain ⟨ad2,D0,i0,h0',D1,i1,h1',rfl,hadb2,hnd2,hkt2⟩:=jf.kid hat2 i hic;obtain ⟨v0,v1,v2,v3⟩:=hnd2;obtain ⟨v4,w4,hrun,r4,x4⟩:=HPUSH.out _ _ _ _ _ _ _ hkt2 hpo;obtain ⟨TB,Td,rfl,-,-⟩:=r4.len;have HN:=Lib.hid r4;have HX4:=Lib.hid x4;have HRUN:=Lib.hid hrun;clear hpo hat2 hkt2 r4 x4 HPUSH hkt he hrun;generalize l[k].cs[i]=pk at *;generalize l[k]=p at *;go_upto_region 27 with fail
                iterate 30 (first | at_builtin | go_values | go_skip | go_guarded | go_step | go_upon | go_back | go_simp)
                refine wpList_append_run rfl (.tmp 83) (.tmp 89) _ _ rfl _ _ _ _ rfl rfl HRUN.out ?_;clear HRUN HTK HQU HKT hU
                iterate 18 (first | go_values | go_skip | go_guarded | go_step | go_upon | go_back | go_simp)
                exact ⟨⟨k+1,by omega,by omega,⟨HN.out,HX4.out⟩⟩,by simp [intOf]; omega⟩
              · have hpo:partsOf lv i l[k]=[]:=by unfold partsOf; rw [if_pos he,List.getElem?_eq_none (by omega)]; rfl
                have HN:Hid (kw w2.heap.size (fun b=>b < w2.heap.size) U (.slice PA (um lv i (l.take k)).length pc) (um lv i (l.take (k+1)))):=Lib.hid (by rw [HTK.out,hpo,List.append_nil]; exact HQU.out);have hnl:¬ l[k].lv < lv:=by omega
                clear hpo HPUSH hkt he;generalize l[k]=p at *;go_wp2_with fail
                go_roundw
                case rel=>exact ⟨k+1,by omega,by go_num,⟨HN.out,XU.out⟩⟩
                case measure=>simp [intOf]; omega
            · have heq:(l[k].lv == lv)=false:=by simp [he]
              have hnl:l[k].lv < lv:=by omega
              by_cases hi0:i=0
              · have hpo:partsOf lv i l[k]=[l[k]]:=by unfold partsOf; rw [if_neg he,if_pos ⟨hnl,hi0⟩]
                obtain ⟨v4,w4,hrun,r4,x4⟩:=HPUSH.out _ _ _ _ _ _ _ HKT.out hpo;obtain ⟨TB,Td,rfl,-,-⟩:=r4.len;have HN:=Lib.hid r4;have HX4:=Lib.hid x4;have HRUN:=Lib.hid hrun;have hi02:((i:Int) == 0)=true:=by simp [hi0]
                clear hpo r4 x4 HPUSH hkt he hrun hi0;generalize l[k]=p at *;go_upto_region 29 with fail
                iterate 30 (first | at_builtin | go_values | go_skip | go_guarded | go_step | go_upon | go_back | go_simp)
                refine wpList_append_run rfl (.tmp 100) (.tmp 102) _ _ rfl _ _ _ _ rfl rfl HRUN.out ?_;clear HRUN HTK HQU HKT hU
                iterate 18 (first | go_values | go_skip | go_guarded | go_step | go_upon | go_back | go_simp)
                exact ⟨⟨k+1,by omega,by omega,⟨HN.out,HX4.out⟩⟩,by simp [intOf]; omega⟩
              · have hpo:partsOf lv i l[k]=[]:=by unfold partsOf; rw [if_neg he,if_neg (by omega)]
                have HN:Hid (kw w2.heap.size (fun b=>b < w2.heap.size) U (.slice PA (um lv i (l.take k)).length pc) (um lv i (l.take (k+1)))):=Lib.hid (by rw [HTK.out,hpo,List.append_nil]; exact HQU.out);have hi02:((i:Int) == 0)=false:=by simp [hi0]
                clear hpo HPUSH hkt he;generalize l[k]=p at *;go_wp2_with fail
                go_roundw
                case rel=>exact ⟨k+1,by omega,by go_num,⟨HN.out,XU.out⟩⟩
                case measure=>simp [intOf]; omega
          · have hke:k=l.length:=by omega
            have hq2:=HQ.out;rw [hke,List.take_length] at hq2 hp1;have hat3:jf wr (fun _=>True) (um lv i l) PA 0:=jf.turn (Nat.le_refl _) (fun _ _ h=>h) (fun b _ _=>⟨trivial,rfl⟩) _ _ _ hq2.at_;have HC:=Lib.hid (IH.out lv hpos HLN.out (um lv i l) PA pc wr (fun p hp=>⟨(van hpos HL.out hp).1,(van hpos HL.out hp).2.2⟩) (fun p hp=>(van hpos HL.out hp).2.1) (Nat.lt_of_le_of_lt (wb4 hpos HL.out) HNR.out) (by have:=ga7 lv i l; omega) hp1 hp2 hat3);rw [hke,List.take_length];have HSET:Hid ((L.set i (waa (um lv i l))).take (i+1)=((List.range sz).map fun i=>waa (um lv i l)).take (i+1)):=by
             have h1:=xai L ((List.range sz).map fun i=>waa (um lv i l)) i HLT.out (by omega) (by rw [List.length_map,List.length_range]; exact hlt);rw [List.getElem_map,List.getElem_range] at h1;exact h1
            have hltk2:¬ (l.length:Int) < (l.length:Int):=by omega
            have HRW:=Lib.hid (HROWk.out.ext HXI.out);clear hq2 hat3 hke hltk hp1 hpl HQ HROWk HLT hk;generalize (um lv i l).length=pn at *;generalize waa (um lv i l)=res at *;go_wp2_with fail;refine HC.out.mono ?_;rintro e w3 ⟨v3,rfl,p3,x3⟩;obtain ⟨C0,j0,f0,C1,f1,rfl,-⟩:=id p3.open_;have hr3:=HRW.out.ext x3;obtain ⟨D0,n2,g0,D1,n3,g1,⟨r0,r1,r2,r3⟩,-⟩:=hr3.2.2 i (by omega);have hfr:=hr3.2.1;have hst:=(hr3.set_ i (by omega) res (p3.mono fun b hb=>by
             have hb':wr.heap.size<=b:=hb
             exact ⟨by omega,by omega⟩)).1
            simp only at r0 r1 r2 r3;have HST:=Lib.hid hst;have X3:=Lib.hid ((HX.out.trans HXI.out).trans x3);unfold plV;clear hr3 hst p3 x3 HC HRW;go_wp2_with fail
            go_roundw
            case rel=>exact ⟨i+1,by omega,by go_num,⟨_,by rw [List.length_set]; exact hLl,HSET.out,HST.out⟩,(((X3.out.setCell (Nat.le_refl _) _).setCell (Nat.le_refl _) _).setCell (Nat.le_refl _) _).setCell (Nat.le_refl _) _⟩
            case measure=>simp [intOf]; omega
       · have hie:i=sz:=by omega
         have hLe:L=(List.range sz).map fun i=>waa (um lv i l):=by
          have h:=HLT.out;rw [hie,List.take_of_length_le (by omega),List.take_of_length_le (by simp)] at h;exact h
         have hfin:=HROWk.out.fin (Nat.le_refl _);have htr:=vbd lv L _ sz hfin (by omega) (by omega);rw [hLl,hLe,<- HLE.out] at htr;have HTR:=Lib.hid htr;have hz4:=HZ2.out.ext HX.out hws2;have HZ4:=Lib.hid hz4;have hws5:=HX.out.size;clear hfin htr hie hLe HROWk HLT hz4;obtain ⟨res,hres⟩:=n_m (waa l);rw [hres] at HTR;have HRS:=Lib.hid hres;clear hres;go_wp2_with fail;refine HTR.out.mono ?_;rintro e w3 ⟨v3,rfl,p3,x3⟩;obtain ⟨C0,j0,f0,C1,f1,rfl,-⟩:=id p3.open_;have hzn:=HZ4.out.ext x3 (by omega);have hcl:=qi (q':=fun b=>w.heap.size<=b) ((HX2.out.trans HX.out).trans x3) (Nat.le_refl _) hzn p3 (fun b _ hb=>⟨by omega,by omega⟩);have hcl2:=hcl;have HF:Hid (ji (fun b=>w.heap.size<=b) (waa l) w (.returned (plV res (.slice C0 j0 f0) (.slice C1 res.cs.length f1))) ((((w3.setCell ⟨w.heap.size,0,none⟩ (.int .i64 res.lv)).setCell ⟨w.heap.size,1,none⟩ (.bool res.neg)).setCell ⟨w.heap.size,2,none⟩ (.slice C0 j0 f0)).setCell ⟨w.heap.size,3,none⟩ (.slice C1 res.cs.length f1))):=by
          rw [HRS.out];exact hcl2
         clear hcl2;clear hcl;obtain ⟨⟨z0,z1,z2,z3⟩,zf⟩:=hzn;clear x3 p3 HTR;unfold plV;go_wp2_with fail;exact bodyPost_ret (v:=plV res (.slice C0 j0 f0) (.slice C1 res.cs.length f1)) (by simp [results,Tryz.results96,go_sem,z0,z1,z2,z3,plV]) rfl HF.out
theorem jc0 {E D:Nat} (hE:E<=1000000) (hD:D<=17592186044000) (k:Nat):∀ n:Int,n<=k->ub0 E D n:=by
 induction k with
 | zero=>exact fun n hn=>xbn hE hD n fun m h0 hm=>by omega
 | succ k ih=>exact fun n hn=>xbn hE hD n fun m h0 hm=>ih m (by omega)
theorem qbt {w:World} {q:Nat->Prop} {E D:Nat} (l:List Pl) (A:Option Addr) (c:Nat) (hE:E<=1000000) (hD:D<=17592186044000) (hl:∀ p ∈ l,p.Can/\p.ex E) (hn:lnr l < B32 ^ D) (hlen:l.length<=1000000) (hc1:l.length<=c) (hc2:c<=9223372036854775807) (h:jf w q l A 0) :
 Calls Tryz.prog 96 #[.slice A l.length c] w (ji (fun b=>w.heap.size<=b) (waa l) w):=
 jc0 hE hD 5 5 (by omega) l A c w hl (fun p hp=>by have:=(hl p hp).1.lv_nonneg.2; omega) hn hlen hc1 hc2 (jf.turn (Nat.le_refl _) (fun _ _ h=>h) (fun b _ _=>⟨trivial,rfl⟩) l A 0 h)
end Go.Proofs.YtheefiaoimbeiaaGreatDoor

/- Layer 22: recpoly.present. -/
set_option maxRecDepth 100000
set_option maxHeartbeats 8000000
namespace Go.Proofs.YtheefiaoimbeiaaGreatDoor
open Go.RowKit
theorem ub6:(Tryz.prog.info? 3).map (fun i=>(i.zero,i.size,i.bytes))=some (some (.int .i64 0),1,8):=by kernel_rfl
theorem vcr : yas 81 3 1 8 (.int .i64 0) where
 und:=Tryz.underlying81
 info:=ub6
 cells:=rfl
 pos:=by omega
 nodig:=by
  intro u hu;simp only [Value.cells,List.mem_singleton] at hu;rw [hu]
  rfl
def zai (base:Nat) (W:World) (v:Value) (l:List Nat):Prop:=yj 3 1 base W v l.length (l.map fun n:Nat=>.int .i64 n)
theorem zai.nil (base:Nat) (W:World):zai base W (.slice none 0 0) []:=yj.nil _ _ _ _
theorem zai.len {base:Nat} {W:World} {v:Value} {l:List Nat} (h:zai base W v l):∃ A c,v=.slice A l.length c/\l.length<=c/\c<=9223372036854775807:=yj.len h
theorem zai.at_ {base:Nat} {W:World} {v:Value} {l:List Nat} (h:zai base W v l) (k:Nat) (hk:k < l.length):∃ g c,v=.slice (some ⟨g,0,none⟩) l.length c/\base<=g/\g < W.heap.size/\W.cell? ⟨g,k,none⟩=some (.int .i64 l[k]):=by
 obtain ⟨g,c,e,h1,h2,h3,h4,-⟩:=yj.pos h (by omega);unfold zai at h;rw [e] at h;refine ⟨g,c,e,h3,h4,?_⟩;rw [yj.cell h k (by omega),List.getElem?_map,List.getElem?_eq_getElem hk]
 rfl
theorem zai.push {base:Nat} {W:World} {ov:Value} {l:List Nat} (h:zai base W ov l) (hbase:base<=W.heap.size) (n:Nat) (hlen:l.length+1<=1000000000) (ty:TypeId) :
 ∃ v4 w4,(Builtin.append_ #[81,81] ty #[ov,.slice (some ⟨W.heap.size,0,none⟩) 1 1]).run Tryz.prog (W.alloc (.cells #[.int .i64 n] 3))=.ok v4 w4/\W.grownBy w4 ov.ownBlock/\zai base w4 v4 (l ++ [n]):=by
 obtain ⟨v4,w4,h1,h2,h3,-,-⟩:=yj.push vcr h hbase [.int .i64 n] rfl (by
  intro u hu;rw [List.mem_singleton.1 hu]
  exact ⟨rfl,rfl⟩) (by omega) (by omega) ty
 refine ⟨v4,w4,h1,h3,?_⟩;unfold zai;rw [List.length_append,List.map_append];exact h2
def prs (cs:List Pl) (n:Nat):List Nat:=(List.range n).filter fun i=>match cs[i]? with
 | some c=>!c.isZ
 | none=>false
theorem wa5 (cs:List Pl) (k:Nat) (h:k < cs.length):prs cs (k+1)=prs cs k ++ if cs[k].isZ then [] else [k]:=by
 unfold prs;rw [List.range_succ,List.filter_append]
 congr 1
 simp only [List.filter_cons,List.getElem?_eq_getElem h,List.filter_nil];cases cs[k].isZ <;> rfl
theorem uav (cs:List Pl) (n:Nat):(prs cs n).length<=n:=by
 unfold prs;have:=List.length_filter_le (fun i=>match cs[i]? with | some c=>!c.isZ | none=>false) (List.range n);rw [List.length_range] at this;exact this
theorem ua3 {w:World} {q:Nat->Prop} (cs:List Pl) (A:Option Addr) (c:Nat) (h:jf w q cs A 0) (hlen:cs.length<=1000000):Calls Tryz.prog 150 #[.slice A cs.length c] w fun e w'=>∃ v,e=.returned v/\zai w.heap.size w' v (prs cs cs.length)/\Ext w w':=by
 have HH:=Lib.hid h;clear h;go_enter Tryz.func150,Tryz.ntmps150;go_wp2_with fail
 go_loopw [3,8] (fun rv iv wr=>∃ k:Nat,k<=cs.length/\iv=.int .i64 k/\Hid (zai w.heap.size wr rv (prs cs k)/\Ext w wr)) (fun _ iv _=>cs.length - (intOf iv).toNat)
 case atStart=>exact ⟨0,Nat.zero_le _,rfl,⟨by simpa [prs] using zai.nil _ _,Ext.refl w⟩⟩
 case round =>
  obtain ⟨k,hk,rfl,⟨hr,hx⟩⟩:=hrel;have HR:=Lib.hid hr;have HX:=Lib.hid hx;have hws:=hx.size;obtain ⟨RA,rc,rfl,hc1,hc2⟩:=hr.len;have hpl:=uav cs k;clear hr hx
  by_cases hlt:k < cs.length
  · obtain ⟨ad,C0,j0,g0,C1,j1,g1,rfl,hadb,hnd,hkt⟩:=jf.kid HH.out k hlt;obtain ⟨a0,a1,a2,a3⟩:=hnd.ext HX.out (by rw [jb]; exact hadb);have HST:=Lib.hid (wa5 cs k hlt);obtain ⟨U,hU⟩:=n_m (wr.alloc (.cells #[.int .i64 cs[k].lv,.bool cs[k].neg,.slice C0 j0 g0,.slice C1 j1 g1] 44));have hUx:Ext wr U:=by rw [<- hU]; exact (Ext.refl _).alloc _
    obtain ⟨u0,u1,u2,u3⟩:ql U wr.heap.size cs[k] (.slice C0 j0 g0) (.slice C1 j1 g1):=by rw [<- hU]; exact ql.new wr cs[k] _ _ _
    have HIZ:=Lib.hid (uah _ _ (hkt.ext (HX.out.trans hUx)));have XU:=Lib.hid (HX.out.trans hUx);have HRU:=Lib.hid (HR.out.ext hUx);unfold plV at HIZ;clear hnd hkt hadb hUx HR;generalize cs[k].isZ=bz at *;generalize cs[k]=p at *;go_wp2_with fail;clear hU u0 u1 u2 u3 a0 a1 a2 a3;refine HIZ.out.mono ?_;rintro e w2 ⟨rfl,x2⟩;have X2:=Lib.hid (XU.out.trans x2);have HR2:=Lib.hid (yj.ext HRU.out x2);clear x2 HIZ HRU;cases bz
    · obtain ⟨v4,w4,hrun,hg,hr4⟩:=zai.push HR2.out X2.out.size k (by omega) 81;obtain ⟨TB,Td,rfl,-,-⟩:=hr4.len;have HN:Hid (zai w.heap.size w4 (.slice TB ((prs cs k).length+1) Td) (prs cs (k+1))):=Lib.hid (by
       rw [HST.out];rw [List.length_append] at hr4
       exact hr4)
      have HX4:=Lib.hid (uaq X2.out hg (fun R hR=>(yj.own HR2.out hR).1));have HRUN:=Lib.hid hrun;clear hrun hg hr4;go_upto_region 6 with fail
      iterate 12 (first | at_builtin | go_values | go_skip | go_guarded | go_step | go_upon | go_back | go_simp)
      refine wpList_append_run rfl (.tmp 16) (.tmp 18) _ _ rfl _ _ _ _ rfl rfl HRUN.out ?_;clear HRUN
      iterate 18 (first | go_values | go_skip | go_guarded | go_step | go_upon | go_back | go_simp)
      exact ⟨⟨k+1,by omega,by omega,⟨HN.out,HX4.out⟩⟩,by simp [intOf]; omega⟩
    · have HN:Hid (zai w.heap.size w2 (.slice RA (prs cs k).length rc) (prs cs (k+1))):=Lib.hid (by rw [HST.out,if_pos rfl,List.append_nil]; exact HR2.out);go_wp2_with fail
      go_roundw
      case rel=>exact ⟨k+1,by omega,by go_num,⟨HN.out,X2.out⟩⟩
      case measure=>simp [intOf]; omega
  · have hke:k=cs.length:=by omega
    subst hke;go_wp2_with fail;go_ret;exact ⟨_,rfl,HR.out,HX.out⟩
end Go.Proofs.YtheefiaoimbeiaaGreatDoor

/- Products of polynomials of one level, plain: as recpoly.mul goes. No program in sight. -/
namespace Go.Proofs.YtheefiaoimbeiaaGreatDoor
def Pl.at_ (cs:List Pl) (i:Nat):Pl:=cs.getD i Pl.zero
def zq (ps qs:List Pl) (l:List (Nat × Nat)) (k:Nat):List Pl:=(l.filter fun x=>decide (x.1+x.2=k)).map fun x=>(Pl.at_ ps x.1).mul (Pl.at_ qs x.2)
theorem qat (ps qs:List Pl) (l r:List (Nat × Nat)) (k:Nat):zq ps qs (l ++ r) k=zq ps qs l k ++ zq ps qs r k:=by
 unfold zq;rw [List.filter_append,List.map_append]
theorem uaz (ps qs:List Pl) (i j k:Nat):zq ps qs [(i,j)] k=if i+j=k then [(Pl.at_ ps i).mul (Pl.at_ qs j)] else []:=by
 unfold zq
 by_cases h:i+j=k
 · simp [h]
 · simp [h]
def jan (x : Rat) (f : Nat -> Nat -> Rat) : List (Nat × Nat) -> Rat
 | []=>0
 | (i,j) :: r=>x ^ (i+j) * f i j+jan x f r
theorem zcs (x:Rat) (c:Rat):∀ (t n:Nat),t < n->hsm x (fun k=>if t=k then c else 0) n=x ^ t * c:=by
 intro t
 induction t with
 | zero =>
   intro n hn;obtain ⟨m,rfl⟩:∃ m,n=m+1:=⟨n - 1,by omega⟩;have e:(fun k:Nat=>if 0=k+1 then c else 0)=fun _=>0:=by funext k; rw [if_neg (by omega)]
   rw [hsm,e,vat,if_pos rfl];simp
   grind
 | succ t ih =>
   intro n hn;obtain ⟨m,rfl⟩:∃ m,n=m+1:=⟨n - 1,by omega⟩;have e:(fun k:Nat=>if t+1=k+1 then c else 0)=fun k=>if t=k then c else 0:=by
    funext k
    by_cases h:t=k
    · rw [if_pos (by omega),if_pos h]
    · rw [if_neg (by omega),if_neg h]
   rw [hsm,e,ih m (by omega),if_neg (by omega),Rat.pow_succ]
   grind
theorem yb7 (x:Rat) (ρ:Int->Rat) (ps qs:List Pl) (N:Nat) (l:List (Nat × Nat)) (h:∀ y ∈ l,y.1+y.2 < N) :
 hsm x (fun k=>uz ρ (zq ps qs l k)) N=jan x (fun i j=>(Pl.at_ ps i).val ρ * (Pl.at_ qs j).val ρ) l:=by
 induction l with
 | nil =>
   rw [jan,<- vat x N]
   congr 1
 | cons y l ih =>
   obtain ⟨i,j⟩:=y;have e:(fun k=>uz ρ (zq ps qs ((i,j) :: l) k))=fun k=>(if i+j=k then (Pl.at_ ps i).val ρ * (Pl.at_ qs j).val ρ else 0)+uz ρ (zq ps qs l k):=by
    funext k
    rw [show ((i,j) :: l)=[(i,j)] ++ l from rfl,qat,ja3,uaz]
    congr 1
    by_cases hk:i+j=k
    · rw [if_pos hk,if_pos hk,uz,uz,Pl.mul_val]; grind
    · rw [if_neg hk,if_neg hk,uz]
   rw [e,wbs,ih fun z hz=>h z (by simp [hz]),zcs x _ (i+j) N (h (i,j) (by simp)),jan]
theorem xbp (x:Rat) (f:Nat->Nat->Rat) (a b:List (Nat × Nat)):jan x f (a ++ b)=jan x f a+jan x f b:=by
 induction a with
 | nil=>simp [jan]; grind
 | cons y a ih=>obtain ⟨i,j⟩:=y; simp only [List.cons_append,jan,ih]; grind
def kah (x : Rat) (f : Nat -> Rat) : List Nat -> Rat
 | []=>0
 | i :: r=>x ^ i * f i+kah x f r
theorem gbp (x:Rat) (f:Nat->Rat) (a b:List Nat):kah x f (a ++ b)=kah x f a+kah x f b:=by
 induction a with
 | nil=>simp [kah]; grind
 | cons y a ih=>simp only [List.cons_append,kah,ih]; grind
def zu (a b:List Nat):List (Nat × Nat):=a.flatMap fun i=>b.map fun j=>(i,j)
theorem qbw (x:Rat) (f g:Nat->Rat) (a b:List Nat):jan x (fun i j=>f i * g j) (zu a b)=kah x f a * kah x g b:=by
 unfold zu
 induction a with
 | nil=>simp [jan,kah]
 | cons i a ih =>
   rw [List.flatMap_cons,xbp,ih,kah];have:jan x (fun i j=>f i * g j) (b.map fun j=>(i,j))=x ^ i * f i * kah x g b:=by
    clear ih
    induction b with
    | nil=>simp [jan,kah]
    | cons j b ihb=>rw [List.map_cons,jan,ihb,kah,xat]; grind
   rw [this]
   grind
theorem qbk (ρ:Int->Rat) (l:Int) (cs:List Pl) (hc:∀ c ∈ cs,c.Can):kah (ρ l) (fun i=>(Pl.at_ cs i).val ρ) (prs cs cs.length)=uf ρ l cs:=by
 have key:∀ k,k<=cs.length->kah (ρ l) (fun i=>(Pl.at_ cs i).val ρ) (prs cs k)=uf ρ l (cs.take k):=by
  intro k
  induction k with
  | zero=>intro _; simp [prs,kah,uf]
  | succ k ih =>
    intro hk;have hk':k < cs.length:=by omega
    rw [wa5 cs k hk',gbp,ih (by omega),List.take_succ_eq_append_getElem hk'];have hval:∀ (a:List Pl) (c:Pl),uf ρ l (a ++ [c])=uf ρ l a+ρ l ^ a.length * c.val ρ:=by
     intro a c
     induction a with
     | nil=>simp [uf]; grind
     | cons y a iha=>rw [List.cons_append,uf,uf,iha,List.length_cons,Rat.pow_succ]; grind
    rw [hval,List.length_take,Nat.min_eq_left (by omega)];have hat:Pl.at_ cs k=cs[k]:=by unfold Pl.at_; rw [List.getD_eq_getElem?_getD,List.getElem?_eq_getElem hk']; rfl
    by_cases hz:cs[k].isZ=true
    · rw [if_pos hz,(Pl.zero_isZ (hc _ (List.getElem_mem hk'))).1 hz,Pl.zero_val,kah]; grind
    · rw [if_neg hz,kah,kah,hat]; grind
 have:=key cs.length (Nat.le_refl _);rw [List.take_length] at this;exact this
theorem Pl.mul_level {p q:Pl} (hp:p.Can) (hq:q.Can) (h0:0 < p.lv) (he:p.lv=q.lv) :
 p.mul q=xaf p.lv ((List.range (p.cs.length+q.cs.length - 1)).map fun k=>waa (zq p.cs q.cs (zu (prs p.cs p.cs.length) (prs q.cs q.cs.length)) k)):=by
 obtain ⟨l,n,d,ps⟩:=p;obtain ⟨l',n',d',qs⟩:=q
 change l=l' at he
 subst he;simp only [Pl.cs,Pl.lv] at *;have h4:l<=4:=hp.lv_nonneg.2;have hpk:=(hp.kids h0).2.2.2.1;have hqk:=(hq.kids h0).2.2.2.1;have hp2:=(hp.kids h0).2.2.1;have hq2:=(hq.kids h0).2.2.1;have hat:∀ (cs:List Pl),ku l cs->∀ i,(Pl.at_ cs i).Can/\(Pl.at_ cs i).lv<=l - 1:=fun cs hk i=>by
  unfold Pl.at_;rw [List.getD_eq_getElem?_getD];cases hi:cs[i]? with
  | none=>exact ⟨Pl.zero_can,by show (0:Int)<=l - 1; omega⟩
  | some c=>have:=hk.mem c (List.mem_of_getElem? hi); exact ⟨this.2,by simp only [Option.getD_some]; omega⟩
 have hk:ku l ((List.range (ps.length+qs.length - 1)).map fun k=>waa (zq ps qs (zu (prs ps ps.length) (prs qs qs.length)) k)):=jah fun c hc=>by
  obtain ⟨k,-,rfl⟩:=List.mem_map.1 hc;have h1:=jbt (l:=zq ps qs (zu (prs ps ps.length) (prs qs qs.length)) k) (n:=l - 1) (fun r hr=>by
   unfold zq at hr;obtain ⟨x,-,rfl⟩:=List.mem_map.1 hr
   exact ⟨Pl.mul_can _ _,Pl.mul_lv (hat ps hpk x.1).1 (hat qs hqk x.2).1 (hat ps hpk x.1).2 (hat qs hqk x.2).2 (by omega)⟩) (by omega) (by omega)
  exact ⟨by omega,yau _⟩
 obtain ⟨g1,-,g3⟩:=zbd h0 h4 hk;refine Pl.val_uniq (Pl.mul_can _ _) g1 fun ρ=>?_
 rw [g3,gbd];simp only [zau];rw [yb7,qbw,qbk ρ l ps fun c hc=>(hpk.mem c hc).2,qbk ρ l qs fun c hc=>(hqk.mem c hc).2,Pl.mul_val,Pl.mk_val ρ _ _ _ h0 h4,Pl.mk_val ρ _ _ _ h0 h4];intro y hy;unfold zu at hy;obtain ⟨i,hi,hy⟩:=List.mem_flatMap.1 hy;obtain ⟨j,hj,rfl⟩:=List.mem_map.1 hy;have h1:i < ps.length:=by unfold prs at hi; have:=(List.mem_filter.1 hi).1; simpa using this
 have h2:j < qs.length:=by unfold prs at hj; have:=(List.mem_filter.1 hj).1; simpa using this
 simp only;omega
theorem Pl.mul_nr {p q:Pl} (hp:p.Can) (hq:q.Can):(p.mul q).nr<=p.nr * q.nr:=by
 have h1:=Pl.ofS_nr (zan (p.terms Mo.one) (q.terms Mo.one));rw [ubi,Pl.terms_nr p _ hp,Pl.terms_nr q _ hq] at h1;exact h1
def snr (cs : List Pl) : List Nat -> Nat
 | []=>0
 | i :: r=>(Pl.at_ cs i).nr+snr cs r
theorem xbv (cs:List Pl) (a b:List Nat):snr cs (a ++ b)=snr cs a+snr cs b:=by
 induction a with
 | nil=>simp [snr]
 | cons y a ih=>simp only [List.cons_append,snr,ih]; omega
theorem xbr (cs:List Pl) (k:Nat) (hk:k<=cs.length):snr cs (prs cs k)<=wab (cs.take k):=by
 induction k with
 | zero=>simp [prs,snr]
 | succ k ih =>
   have hk':k < cs.length:=by omega
   have hat:Pl.at_ cs k=cs[k]:=by unfold Pl.at_; rw [List.getD_eq_getElem?_getD,List.getElem?_eq_getElem hk']; rfl
   rw [wa5 cs k hk',xbv,List.take_succ_eq_append_getElem hk',wa3];have:=ih (by omega)
   split
   · simp only [snr,wab]; omega
   · simp only [snr,wab,hat]; omega
theorem zcd {ps qs:List Pl} (hp:∀ i,(Pl.at_ ps i).Can) (hq:∀ i,(Pl.at_ qs i).Can) (k:Nat) (a b:List Nat):lnr (zq ps qs (zu a b) k)<=snr ps a * snr qs b:=by
 have h1:∀ l:List (Nat × Nat),lnr (zq ps qs l k)<=(l.map fun x=>(Pl.at_ ps x.1).nr * (Pl.at_ qs x.2).nr).sum:=by
  intro l
  induction l with
  | nil=>simp [zq,lnr]
  | cons x l ih =>
    rw [show x :: l=[x] ++ l from rfl,qat,xa8,List.map_append,List.sum_append];obtain ⟨i,j⟩:=x;rw [uaz];have:=Pl.mul_nr (hp i) (hq j)
    split
    · simp only [lnr,List.map_cons,List.map_nil,List.sum_cons,List.sum_nil]; omega
    · simp only [lnr]; omega
 refine Nat.le_trans (h1 _) ?_;unfold zu
 induction a with
 | nil=>simp [snr]
 | cons i a ih =>
   rw [List.flatMap_cons,List.map_append,List.sum_append,snr,Nat.add_mul];have:((b.map fun j=>(i,j)).map fun x=>(Pl.at_ ps x.1).nr * (Pl.at_ qs x.2).nr).sum=(Pl.at_ ps i).nr * snr qs b:=by
    clear ih
    induction b with
    | nil=>simp [snr]
    | cons j b ihb=>simp only [List.map_cons,List.sum_cons,snr] at ihb ⊢; rw [ihb,Nat.mul_add]
   omega
theorem ubd (ps qs:List Pl) (l:List (Nat × Nat)) (k:Nat):(zq ps qs l k).length<=l.length:=by
 unfold zq;rw [List.length_map];exact List.length_filter_le _ _
theorem wa7 (a b:List Nat):(zu a b).length=a.length * b.length:=by
 unfold zu
 induction a with
 | nil=>simp
 | cons i a ih=>rw [List.flatMap_cons,List.length_append,ih,List.length_map,List.length_cons,Nat.add_mul]; omega
theorem zb4 {cs:List Pl} {n i:Nat} (h:i ∈ prs cs n):i < n:=by
 unfold prs at h;have:=(List.mem_filter.1 h).1;simpa using this
theorem kbw (ps qs:List Pl) (l:List (Nat × Nat)) (i j k:Nat):zq ps qs (l ++ [(i,j)]) k=if i+j=k then zq ps qs l k ++ [(Pl.at_ ps i).mul (Pl.at_ qs j)] else zq ps qs l k:=by
 rw [qat,uaz]
 split
 · rfl
 · rw [List.append_nil]
end Go.Proofs.YtheefiaoimbeiaaGreatDoor

/- Powers of canonical polynomials, plain. No program in sight. -/
namespace Go.Proofs.YtheefiaoimbeiaaGreatDoor
def Pl.pow (p : Pl) : Nat -> Pl
 | 0=>Pl.const 1
 | n+1=>(p.pow n).mul p
theorem Pl.pow_can (p : Pl) : ∀ n, (p.pow n).Can
 | 0=>xae 1
 | _+1=>Pl.mul_can _ _
theorem Pl.pow_val (ρ:Int->Rat) (p:Pl) (n:Nat):(p.pow n).val ρ=p.val ρ ^ n:=by
 induction n with
 | zero=>rw [Pl.pow,Pl.const_val]; simp
 | succ n ih=>rw [Pl.pow,Pl.mul_val,ih,Rat.pow_succ]
theorem Pl.pow_twice (p:Pl) (n:Nat):(p.pow n).mul (p.pow n)=p.pow (2 * n):=Pl.val_uniq (Pl.mul_can _ _) (Pl.pow_can _ _) fun ρ=>by
 rw [Pl.mul_val,Pl.pow_val,Pl.pow_val,Nat.two_mul,xat]
theorem Fit.pow {p:Pl} {E D:Nat} (h:Fit p E D) (n:Nat):Fit (p.pow n) (n * E) (n * D+1):=by
 induction n with
 | zero=>exact Fit.const (by rw [Nat.zero_mul]; decide)
 | succ n ih=>exact (ih.mul h).mono (by rw [Nat.succ_mul]; omega) (by rw [Nat.succ_mul]; omega)
theorem Fit.pow_le {p:Pl} {E D n m:Nat} (h:Fit p E D) (hn:n<=m):Fit (p.pow n) (m * E) (m * D+1):=
 (h.pow n).mono (Nat.mul_le_mul_right _ hn) (Nat.add_le_add_right (Nat.mul_le_mul_right _ hn) 1)
theorem qck (n k:Nat):n / 2 ^ k=2 * (n / 2 ^ (k+1))+n / 2 ^ k % 2:=by
 have:n / 2 ^ (k+1)=n / 2 ^ k / 2:=by rw [Nat.pow_succ,Nat.div_div_eq_div_mul]
 omega
theorem uct (n k:Nat):n &&& 2 ^ k=2 ^ k * (n / 2 ^ k % 2):=by
 apply Nat.eq_of_testBit_eq;intro i;have h1:n.testBit k=decide (n / 2 ^ k % 2=1):=Nat.testBit_eq_decide_div_mod_eq;rw [Nat.testBit_and,Nat.testBit_two_pow]
 by_cases hi:k=i
 · subst hi;rw [h1];rcases Nat.mod_two_eq_zero_or_one (n / 2 ^ k) with h | h <;> rw [h] <;> simp [Nat.testBit_two_pow]
 · rcases Nat.mod_two_eq_zero_or_one (n / 2 ^ k) with h | h <;> rw [h] <;> simp [Nat.testBit_two_pow,hi]
end Go.Proofs.YtheefiaoimbeiaaGreatDoor
