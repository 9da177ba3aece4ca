/- Reference 34: room: how many trees a tree has in it, up to a limit. -/
import Derived.Test.YtaedbimbbeploaaGreatDoorMb10
import Derived.Test.YtaedbimbbeploaaGreatDoorMb18
import Derived.Test.YtaedbimbbeploaaGreatDoorMb24
import Derived.Test.YtaedbimbbeploaaGreatDoorMb49
import Derived.Lib.MinMax
import Derived.Test.YtaedbimbbeploaaGreatDoorMb11
import Derived.Test.YtaedbimbbeploaaGreatDoorMb22
import Derived.Test.YtaedbimbbeploaaGreatDoorMb23
set_option linter.unusedSimpArgs false
set_option linter.unusedVariables false

namespace Go.Proofs.YtaedbimbbeploaaGreatDoor
open Go.RowKit
end Go.Proofs.YtaedbimbbeploaaGreatDoor

/- Reference 34: kids, isTerm, Is. -/
namespace Go.Proofs.YtaedbimbbeploaaGreatDoor
open Go.RowKit
end Go.Proofs.YtaedbimbbeploaaGreatDoor

/- Reference 34: Degree. -/
set_option maxRecDepth 100000
set_option maxHeartbeats 8000000
namespace Go.Proofs.YtaedbimbbeploaaGreatDoor
open Go.RowKit
theorem yal (n:Int) (w:World):Calls Tryz.prog 55 #[.int .i64 n] w fun e w'=>e=.returned (.int .i64 (uf n))/\w=w':=by
 by_cases h:n<=2147483647
 · have hc:uf n=n:=if_pos h;rw [hc];have hm:min n 2147483647=n:=by omega
   go_enter Tryz.func55,Tryz.ntmps55;go_wp2_with fail;go_ret;exact ⟨rfl,rfl⟩
 · have hc:uf n=2147483647:=if_neg h;rw [hc];have hm:min n 2147483647=2147483647:=by omega
   go_enter Tryz.func55,Tryz.ntmps55;go_wp2_with fail;go_ret;exact ⟨rfl,rfl⟩
theorem gbo (a b:Int):max a b=je a b:=by rw [Int.max_def]; unfold je; split <;> split <;> omega
def xn (fn:Nat) (L:Nat) (p:Nat->Prop) (m:Tm) (r:Int):Prop:=∀ (t:Tr) (v:Value) (w:World),vw L m t->TrV w p t v->Calls Tryz.prog fn #[v] w (waa r w)
section
variable {L:Nat} {p:Nat->Prop}
theorem ya7 {a b : Tm} {k r : Int} (hk : (k = 3 /\ r = je a.deg b.deg) \/ (k = 4 /\ r = je a.deg b.deg) \/ (k = 5 /\ r = uf (a.deg + b.deg))) (iha : xn 18 L p a a.deg) (ihb : xn 18 L p b b.deg)
 (t:Tr) (v:Value) (w:World) (h:t.d.kind=k/\∃ x y,t.ks=[x,y]/\vw L a x/\vw L b y) (hv:TrV w p t v):Calls Tryz.prog 18 #[v] w (waa r w):=by
 have IHA:=Lib.hid iha;have IHB:=Lib.hid ihb;have ha:=a.deg_bd;have hb:=b.deg_bd;clear iha ihb;obtain ⟨⟨kind,neg,ds,name,exp,rel,truth,all⟩,ks⟩:=t;obtain ⟨hkind,t0,t1,hks,h0,h1⟩:=h;simp only [Tr.d] at hkind;simp only [Tr.ks] at hks;subst hkind hks;obtain ⟨A0,n0,c0,A,c,rfl,hnat,hc1,hc2,hat⟩:=hv.open_
 change ui w p [t0,t1] A 0 at hat
 clear hv hnat;unfold ndV;simp only [Tr.d,Tr.ks,List.length_cons,List.length_nil,Nat.zero_add,Nat.reduceAdd] at hc1 ⊢;obtain ⟨W,hW⟩:∃ W,w.alloc (.cells #[.int .i64 kind,.bool neg,.slice A0 n0 c0,.string name,.int .i64 exp,.int .i64 rel,.bool truth,.bool all,.slice A 2 c] 29)=W:=⟨_,rfl⟩;have hWx:Ext w W:=by rw [<- hW]; exact (Ext.refl w).alloc _
 have hWs:w.heap.size < W.heap.size:=by rw [<- hW]; simp
 have hat2:=hat.ext hWx;obtain ⟨ad,B0,m0,d0,B1,m1,d1,hA,hadb,hn0,hk0⟩:=hat2.kid0 (by simp);subst hA;obtain ⟨ad',C0,p0,q0,C1,p1,q1,hA,-,hn1',hk1⟩:=hat2.kid 1 (by simp);injection hA with hA
 subst hA;have hn1:=hn1'.nine;have HK0:=Lib.hid hk0;have HK1:=Lib.hid hk1;have HB:Hid (∀ W',Ext W W'->(Ext W W'/\W'.cell? ⟨w.heap.size,4,none⟩=some (.int .i64 exp)/\W'.cell? ⟨w.heap.size,5,none⟩=some (.int .i64 rel)/\W'.cell? ⟨w.heap.size,8,none⟩=some (.slice (some ad) 2 c)/\W'.cell? ad=some (.int .i64 t0.d.kind)/\W'.cell? ⟨ad.block,ad.off+1,none⟩=some (.bool t0.d.neg)/\W'.cell? ⟨ad.block,ad.off+2,none⟩=some (.slice B0 m0 d0)/\W'.cell? ⟨ad.block,ad.off+3,none⟩=some (.string t0.d.name)/\W'.cell? ⟨ad.block,ad.off+4,none⟩=some (.int .i64 t0.d.exp)/\W'.cell? ⟨ad.block,ad.off+5,none⟩=some (.int .i64 t0.d.rel)/\W'.cell? ⟨ad.block,ad.off+6,none⟩=some (.bool t0.d.truth)/\W'.cell? ⟨ad.block,ad.off+7,none⟩=some (.bool t0.d.all)/\W'.cell? ⟨ad.block,ad.off+8,none⟩=some (.slice B1 m1 d1)/\W'.cell? ⟨ad.block,ad.off+9,none⟩=some (.int .i64 t1.d.kind)/\W'.cell? ⟨ad.block,ad.off+9+1,none⟩=some (.bool t1.d.neg)/\W'.cell? ⟨ad.block,ad.off+9+2,none⟩=some (.slice C0 p0 q0)/\W'.cell? ⟨ad.block,ad.off+9+3,none⟩=some (.string t1.d.name)/\W'.cell? ⟨ad.block,ad.off+9+4,none⟩=some (.int .i64 t1.d.exp)/\W'.cell? ⟨ad.block,ad.off+9+5,none⟩=some (.int .i64 t1.d.rel)/\W'.cell? ⟨ad.block,ad.off+9+6,none⟩=some (.bool t1.d.truth)/\W'.cell? ⟨ad.block,ad.off+9+7,none⟩=some (.bool t1.d.all)/\W'.cell? ⟨ad.block,ad.off+9+8,none⟩=some (.slice C1 p1 q1))):=by
  intro W' hx;obtain ⟨hc,-⟩:=hx.cells;obtain ⟨k0,k1,k2,k3,k4,k5,k6,k7,k8⟩:=uad.ext hn0 hx hadb;obtain ⟨l0,l1,l2,l3,l4,l5,l6,l7,l8⟩:=(uad.ext hn1' hx (by rw [ja]; exact hadb)).nine;refine ⟨hx,?_,?_,?_,k0,k1,k2,k3,k4,k5,k6,k7,k8,l0,l1,l2,l3,l4,l5,l6,l7,l8⟩ <;> (rw [hc _ _ hWs,<- hW]; simp [go_sem])
 have HWX:=Lib.hid hWx;clear hat hat2 hn0 hk0 hWx hn1' hn1 hk1;have H0:=Lib.hid h0;have H1:=Lib.hid h1;clear h0 h1;generalize a.deg=da at *;generalize b.deg=db at *;have hwr:IntKind.i64.wrap (da+db)=da+db:=IntWalk.i64_in _ (by omega);have hmx:max da db=je da db:=gbo da db;have z0:W.cell? ⟨w.heap.size,0,none⟩=some (.int .i64 kind):=by rw [<- hW]; simp [go_sem]
 obtain ⟨-,z4,z5,z8,-⟩:=HB.out W (Ext.refl W);rcases hk with ⟨rfl,rfl⟩ | ⟨rfl,rfl⟩ | ⟨rfl,rfl⟩
 all_goals
  go_enter Tryz.func18,Tryz.ntmps18;go_wp2_with fail;clear hW z0 z4 z5 z8;have y0:Ext W W.drew:=(Ext.refl W).drew;have Y0:=Lib.hid y0;clear y0
  go_region_held3 (fun W' => Ext W W' /\ W'.cell? ⟨w.heap.size, 4, none⟩ = some (.int .i64 exp) /\ W'.cell? ⟨w.heap.size, 5, none⟩ = some (.int .i64 rel) /\ W'.cell? ⟨w.heap.size, 8, none⟩ = some (.slice (some ad) 2 c) /\ W'.cell? ad = some (.int .i64 t0.d.kind) /\ W'.cell? ⟨ad.block, ad.off + 1, none⟩ = some (.bool t0.d.neg) /\ W'.cell? ⟨ad.block, ad.off + 2, none⟩ = some (.slice B0 m0 d0) /\ W'.cell? ⟨ad.block, ad.off + 3, none⟩ = some (.string t0.d.name) /\ W'.cell? ⟨ad.block, ad.off + 4, none⟩ = some (.int .i64 t0.d.exp) /\ W'.cell? ⟨ad.block, ad.off + 5, none⟩ = some (.int .i64 t0.d.rel) /\ W'.cell? ⟨ad.block, ad.off + 6, none⟩ = some (.bool t0.d.truth) /\ W'.cell? ⟨ad.block, ad.off + 7, none⟩ = some (.bool t0.d.all) /\ W'.cell? ⟨ad.block, ad.off + 8, none⟩ = some (.slice B1 m1 d1) /\ W'.cell? ⟨ad.block, ad.off + 9, none⟩ = some (.int .i64 t1.d.kind) /\ W'.cell? ⟨ad.block, ad.off + 9 + 1, none⟩ = some (.bool t1.d.neg) /\ W'.cell? ⟨ad.block, ad.off + 9 + 2, none⟩ = some (.slice C0 p0 q0) /\ W'.cell? ⟨ad.block, ad.off + 9 + 3, none⟩ = some (.string t1.d.name) /\ W'.cell? ⟨ad.block, ad.off + 9 + 4, none⟩ = some (.int .i64 t1.d.exp) /\ W'.cell? ⟨ad.block, ad.off + 9 + 5, none⟩ = some (.int .i64 t1.d.rel) /\ W'.cell? ⟨ad.block, ad.off + 9 + 6, none⟩ = some (.bool t1.d.truth) /\ W'.cell? ⟨ad.block, ad.off + 9 + 7, none⟩ = some (.bool t1.d.all) /\ W'.cell? ⟨ad.block, ad.off + 9 + 8, none⟩ = some (.slice C1 p1 q1))
   (first | with_reducible exact HB.out _ Y0.out | with_reducible exact HB.out _ y1 | with_reducible exact HB.out _ y2)
   (first
     | (go_at_call_of 18 (Value.agg #[.int .i64 t0.d.kind,.bool t0.d.neg,.slice B0 m0 d0,.string t0.d.name,.int .i64 t0.d.exp,.int .i64 t0.d.rel,.bool t0.d.truth,.bool t0.d.all,.slice B1 m1 d1])
        refine (IHA.out t0 _ _ H0.out (HK0.out.ext Y0.out)).mono ?_;rintro e v1 ⟨rfl,x1⟩
        have y1:Ext W v1:=Ext.trans Y0.out x1)
     | (go_at_call_of 18 (Value.agg #[.int .i64 t1.d.kind,.bool t1.d.neg,.slice C0 p0 q0,.string t1.d.name,.int .i64 t1.d.exp,.int .i64 t1.d.rel,.bool t1.d.truth,.bool t1.d.all,.slice C1 p1 q1])
        refine (IHB.out t1 _ _ H1.out (HK1.out.ext y1)).mono ?_;rintro e v2 ⟨rfl,x2⟩
        have y2:Ext W v2:=Ext.trans y1 x2)
     | (go_at_call 55
        refine (yal _ _).mono ?_
        rintro e v3 ⟨rfl,rfl⟩))
  all_goals
   have X2:=Lib.hid (HWX.out.trans y2);clear y1 y2 x1 x2 HB HWX Y0;go_wp2_with fail;go_ret;exact ⟨rfl,X2.out⟩
theorem zcg {a b:Tm} (iha:xn 18 L p a a.deg) (ihb:xn 18 L p b b.deg):xn 18 L p (.add a b) (je a.deg b.deg):=fun t v w h hv=>ya7 (.inl ⟨rfl,rfl⟩) iha ihb t v w h hv
theorem kcf {a b:Tm} (iha:xn 18 L p a a.deg) (ihb:xn 18 L p b b.deg):xn 18 L p (.sub a b) (je a.deg b.deg):=fun t v w h hv=>ya7 (.inr (.inl ⟨rfl,rfl⟩)) iha ihb t v w h hv
theorem wcf {a b:Tm} (iha:xn 18 L p a a.deg) (ihb:xn 18 L p b b.deg):xn 18 L p (.mul a b) (uf (a.deg+b.deg)):=fun t v w h hv=>ya7 (.inr (.inr ⟨rfl,rfl⟩)) iha ihb t v w h hv
theorem gcf {a:Tm} (iha:xn 18 L p a a.deg):xn 18 L p (.neg a) a.deg:=by
 intro t v w h hv;have IHA:=Lib.hid iha;clear iha;obtain ⟨⟨kind,neg,ds,name,exp,rel,truth,all⟩,ks⟩:=t;obtain ⟨hkind,t0,hks,h0⟩:=h;simp only [Tr.d] at hkind;simp only [Tr.ks] at hks;subst hkind hks;obtain ⟨A0,n0,c0,A,c,rfl,hnat,hc1,hc2,hat⟩:=hv.open_
 change ui w p [t0] A 0 at hat
 clear hv hnat;unfold ndV;simp only [Tr.d,Tr.ks,List.length_cons,List.length_nil,Nat.zero_add,Nat.reduceAdd] at hc1 ⊢;obtain ⟨W,hW⟩:∃ W,w.alloc (.cells #[.int .i64 6,.bool neg,.slice A0 n0 c0,.string name,.int .i64 exp,.int .i64 rel,.bool truth,.bool all,.slice A 1 c] 29)=W:=⟨_,rfl⟩;have hWx:Ext w W:=by rw [<- hW]; exact (Ext.refl w).alloc _
 have hWs:w.heap.size < W.heap.size:=by rw [<- hW]; simp
 have hat2:=hat.ext hWx;obtain ⟨ad,B0,m0,d0,B1,m1,d1,hA,hadb,hn0,hk0⟩:=hat2.kid0 (by simp);subst hA;have HK0:=Lib.hid hk0;have HB:Hid (∀ W',Ext W W'->(Ext W W'/\W'.cell? ⟨w.heap.size,0,none⟩=some (.int .i64 6)/\W'.cell? ⟨w.heap.size,4,none⟩=some (.int .i64 exp)/\W'.cell? ⟨w.heap.size,5,none⟩=some (.int .i64 rel)/\W'.cell? ⟨w.heap.size,8,none⟩=some (.slice (some ad) 1 c)/\W'.cell? ad=some (.int .i64 t0.d.kind)/\W'.cell? ⟨ad.block,ad.off+1,none⟩=some (.bool t0.d.neg)/\W'.cell? ⟨ad.block,ad.off+2,none⟩=some (.slice B0 m0 d0)/\W'.cell? ⟨ad.block,ad.off+3,none⟩=some (.string t0.d.name)/\W'.cell? ⟨ad.block,ad.off+4,none⟩=some (.int .i64 t0.d.exp)/\W'.cell? ⟨ad.block,ad.off+5,none⟩=some (.int .i64 t0.d.rel)/\W'.cell? ⟨ad.block,ad.off+6,none⟩=some (.bool t0.d.truth)/\W'.cell? ⟨ad.block,ad.off+7,none⟩=some (.bool t0.d.all)/\W'.cell? ⟨ad.block,ad.off+8,none⟩=some (.slice B1 m1 d1))):=by
  intro W' hx;obtain ⟨hc,-⟩:=hx.cells;obtain ⟨k0,k1,k2,k3,k4,k5,k6,k7,k8⟩:=uad.ext hn0 hx hadb;refine ⟨hx,?_,?_,?_,?_,k0,k1,k2,k3,k4,k5,k6,k7,k8⟩ <;> (rw [hc _ _ hWs,<- hW]; simp [go_sem])
 have HWX:=Lib.hid hWx;clear hat hat2 hn0 hk0 hWx;have H0:=Lib.hid h0;clear h0;obtain ⟨-,z0,z4,z5,z8,k0,k1,k2,k3,k4,k5,k6,k7,k8⟩:=HB.out W (Ext.refl W);go_enter Tryz.func18,Tryz.ntmps18;go_wp2_with fail;refine (IHA.out t0 _ _ H0.out HK0.out).mono ?_;rintro e w1 ⟨rfl,x1⟩;have X1:=Lib.hid (HWX.out.trans x1);clear x1 hW z0 z4 z5 z8 k0 k1 k2 k3 k4 k5 k6 k7 k8;go_wp2_with fail;go_ret;exact ⟨rfl,X1.out⟩
theorem vcf {a:Tm} {ex:Int} (iha:xn 18 L p a a.deg):xn 18 L p (.pow a ex) ((Tm.pow a ex).deg):=by
 intro t v w h hv;have IHA:=Lib.hid iha;have ha:=a.deg_bd;clear iha;obtain ⟨⟨kind,neg,ds,name,exp,rel,truth,all⟩,ks⟩:=t;obtain ⟨hkind,hexp,hpos,t0,hks,h0⟩:=h;simp only [Tr.d] at hkind hexp;simp only [Tr.ks] at hks;subst hkind hks hexp;obtain ⟨A0,n0,c0,A,c,rfl,hnat,hc1,hc2,hat⟩:=hv.open_
 change ui w p [t0] A 0 at hat
 clear hv hnat;unfold ndV;simp only [Tr.d,Tr.ks,List.length_cons,List.length_nil,Nat.zero_add,Nat.reduceAdd] at hc1 ⊢;obtain ⟨W,hW⟩:∃ W,w.alloc (.cells #[.int .i64 7,.bool neg,.slice A0 n0 c0,.string name,.int .i64 exp,.int .i64 rel,.bool truth,.bool all,.slice A 1 c] 29)=W:=⟨_,rfl⟩;have hWx:Ext w W:=by rw [<- hW]; exact (Ext.refl w).alloc _
 have hWs:w.heap.size < W.heap.size:=by rw [<- hW]; simp
 have hat2:=hat.ext hWx;obtain ⟨ad,B0,m0,d0,B1,m1,d1,hA,hadb,hn0,hk0⟩:=hat2.kid0 (by simp);subst hA;have HK0:=Lib.hid hk0;have HB:Hid (∀ W',Ext W W'->(Ext W W'/\W'.cell? ⟨w.heap.size,0,none⟩=some (.int .i64 7)/\W'.cell? ⟨w.heap.size,4,none⟩=some (.int .i64 exp)/\W'.cell? ⟨w.heap.size,5,none⟩=some (.int .i64 rel)/\W'.cell? ⟨w.heap.size,8,none⟩=some (.slice (some ad) 1 c)/\W'.cell? ad=some (.int .i64 t0.d.kind)/\W'.cell? ⟨ad.block,ad.off+1,none⟩=some (.bool t0.d.neg)/\W'.cell? ⟨ad.block,ad.off+2,none⟩=some (.slice B0 m0 d0)/\W'.cell? ⟨ad.block,ad.off+3,none⟩=some (.string t0.d.name)/\W'.cell? ⟨ad.block,ad.off+4,none⟩=some (.int .i64 t0.d.exp)/\W'.cell? ⟨ad.block,ad.off+5,none⟩=some (.int .i64 t0.d.rel)/\W'.cell? ⟨ad.block,ad.off+6,none⟩=some (.bool t0.d.truth)/\W'.cell? ⟨ad.block,ad.off+7,none⟩=some (.bool t0.d.all)/\W'.cell? ⟨ad.block,ad.off+8,none⟩=some (.slice B1 m1 d1))):=by
  intro W' hx;obtain ⟨hc,-⟩:=hx.cells;obtain ⟨k0,k1,k2,k3,k4,k5,k6,k7,k8⟩:=uad.ext hn0 hx hadb;refine ⟨hx,?_,?_,?_,?_,k0,k1,k2,k3,k4,k5,k6,k7,k8⟩ <;> (rw [hc _ _ hWs,<- hW]; simp [go_sem])
 have HWX:=Lib.hid hWx;clear hat hat2 hn0 hk0 hWx;have H0:=Lib.hid h0;clear h0;have HRES:Hid ((Tm.pow a exp).deg=uf (uf exp * a.deg)):=by
  have:(Tm.pow a exp).deg=uf (uf exp * a.deg):=by
   simp only [Tm.deg,xal];rw [show je exp 0=exp from if_neg (by omega),show uf a.deg=a.deg from if_pos ha.2]
  exact this
 rw [HRES.out];generalize a.deg=da at *;have hce:=kam hpos;have hmul:0<=uf exp * da/\uf exp * da<=4611686014132420609:=by
  refine ⟨Int.mul_nonneg hce.1 ha.1,?_⟩;have:=Int.mul_le_mul hce.2.1 ha.2 ha.1 (by omega);simpa using this
 have hwr:IntKind.i64.wrap (uf exp * da)=uf exp * da:=IntWalk.i64_in _ (by omega);obtain ⟨-,z0,z4,z5,z8,-⟩:=HB.out W (Ext.refl W);go_enter Tryz.func18,Tryz.ntmps18;go_wp2_with fail;clear hW z0 z4 z5 z8;have y0:Ext W W.drew:=(Ext.refl W).drew;have Y0:=Lib.hid y0;clear y0
 go_region_held3 (fun W' => Ext W W' /\ W'.cell? ⟨w.heap.size, 0, none⟩ = some (.int .i64 7) /\ W'.cell? ⟨w.heap.size, 4, none⟩ = some (.int .i64 exp) /\ W'.cell? ⟨w.heap.size, 5, none⟩ = some (.int .i64 rel) /\ W'.cell? ⟨w.heap.size, 8, none⟩ = some (.slice (some ad) 1 c) /\ W'.cell? ad = some (.int .i64 t0.d.kind) /\ W'.cell? ⟨ad.block, ad.off + 1, none⟩ = some (.bool t0.d.neg) /\ W'.cell? ⟨ad.block, ad.off + 2, none⟩ = some (.slice B0 m0 d0) /\ W'.cell? ⟨ad.block, ad.off + 3, none⟩ = some (.string t0.d.name) /\ W'.cell? ⟨ad.block, ad.off + 4, none⟩ = some (.int .i64 t0.d.exp) /\ W'.cell? ⟨ad.block, ad.off + 5, none⟩ = some (.int .i64 t0.d.rel) /\ W'.cell? ⟨ad.block, ad.off + 6, none⟩ = some (.bool t0.d.truth) /\ W'.cell? ⟨ad.block, ad.off + 7, none⟩ = some (.bool t0.d.all) /\ W'.cell? ⟨ad.block, ad.off + 8, none⟩ = some (.slice B1 m1 d1))
  (first | with_reducible exact HB.out _ Y0.out | with_reducible exact HB.out _ y1)
  (first
    | (go_at_call 18
       refine (IHA.out t0 _ _ H0.out (HK0.out.ext Y0.out)).mono ?_;rintro e v1 ⟨rfl,x1⟩
       have y1:Ext W v1:=Ext.trans Y0.out x1)
    | (go_at_call 55
       refine (yal _ _).mono ?_
       rintro e v3 ⟨rfl,rfl⟩))
 all_goals
  have X2:=Lib.hid (HWX.out.trans y1);clear y1 x1 HB HWX Y0;go_wp2_with fail;go_ret;exact ⟨by first | rfl | (rw [HRES.out]; rfl),X2.out⟩
theorem ucf {z:Int}:xn 18 L p (.num z) (0):=by
 intro t v w h hv;obtain ⟨⟨kind,neg,ds,name,exp,rel,truth,all⟩,ks⟩:=t;obtain ⟨hkind,hks,-⟩:=h;simp only [Tr.d] at hkind;simp only [Tr.ks] at hks;subst hkind hks;obtain ⟨A0,n0,c0,A,c,rfl,-⟩:=hv.open_;clear hv;unfold ndV;simp only [Tr.d,Tr.ks,List.length_nil];go_enter Tryz.func18,Tryz.ntmps18;go_wp2_with fail;go_ret;exact ⟨rfl,(Ext.refl w).alloc _⟩
theorem zb8 {s:ByteArray}:xn 18 L p (.name s) (1):=by
 intro t v w h hv;obtain ⟨⟨kind,neg,ds,name,exp,rel,truth,all⟩,ks⟩:=t;obtain ⟨hkind,hks,-⟩:=h;simp only [Tr.d] at hkind;simp only [Tr.ks] at hks;subst hkind hks;obtain ⟨A0,n0,c0,A,c,rfl,-⟩:=hv.open_;clear hv;unfold ndV;simp only [Tr.d,Tr.ks,List.length_nil];go_enter Tryz.func18,Tryz.ntmps18;go_wp2_with fail;go_ret;exact ⟨rfl,(Ext.refl w).alloc _⟩
theorem vbi (m:Tm):xn 18 L p m m.deg:=by
 induction m with
 | num z=>exact ucf
 | name s=>exact zb8
 | add a b iha ihb=>exact zcg iha ihb
 | sub a b iha ihb=>exact kcf iha ihb
 | mul a b iha ihb=>exact wcf iha ihb
 | neg a iha=>exact gcf iha
 | pow a e iha=>exact vcf iha
end
end Go.Proofs.YtaedbimbbeploaaGreatDoor

/- Reference 34: Int. -/
set_option maxRecDepth 100000
set_option maxHeartbeats 8000000
namespace Go.Proofs.YtaedbimbbeploaaGreatDoor
open Go.RowKit
def gcy (z:Int) (w:World) (e:Ending) (w':World):Prop:=∃ v,e=.returned (.agg #[.bool (decide (z < 0)),v])/\jb w' v (dg z.natAbs)/\Ext w w'
def gbd (z:Int) (w:World) (e:Ending) (w':World):Prop:=∃ v,e=.returned (.agg #[.bool (decide (z < 0)),v])/\jb w' v (dg z.natAbs)/\Ext w w'/\zk w.heap.size v
theorem zbn (neg:Bool) (v:Value) (ds:List Nat) (w:World) (h:jb w v ds) (hL:ds.length<=35184372088):Calls Tryz.prog 111 #[.agg #[.bool neg,v]] w (gbd (sgn neg (val ds)) w):=by
 obtain ⟨A,c,rfl,h1,h2,h3⟩:=h;have H3:=Lib.hid h3;obtain ⟨W,hW⟩:∃ W,(w.alloc (.cells #[.bool neg,.slice A ds.length c] 25)).alloc (.cells #[.bool false,.slice none 0 0] 25)=W:=⟨_,rfl⟩;have hWx:Ext w W:=by rw [<- hW]; exact ((Ext.refl w).alloc _).alloc _
 have hWs:W.heap.size=w.heap.size+1+1:=by rw [<- hW]; simp
 have a0:W.cell? ⟨w.heap.size,0,none⟩=some (.bool neg):=by rw [<- hW]; simp [go_sem]
 have a1:W.cell? ⟨w.heap.size,1,none⟩=some (.slice A ds.length c):=by rw [<- hW]; simp [go_sem]
 have r0:W.cell? ⟨w.heap.size+1,0,none⟩=some (.bool false):=by rw [<- hW]; simp [go_sem]
 have r1:W.cell? ⟨w.heap.size+1,1,none⟩=some (.slice none 0 0):=by rw [<- hW]; simp [go_sem]
 have f0:W.frozen? ⟨w.heap.size+1,0,none⟩=false:=by rw [<- hW]; simp [go_sem]
 have f1:W.frozen? ⟨w.heap.size+1,1,none⟩=false:=by rw [<- hW]; simp [go_sem]
 have HWX:=Lib.hid hWx;clear hWx h3;go_enter Tryz.func111,Tryz.ntmps111;go_wp2_with fail;clear hW
 go_loop [3] (fun i=>∃ k:Nat,k<=ds.length/\i=.int .i64 k/\Hid (ql ds k=ql ds ds.length)) (fun i=>(intOf i).toNat)
 case atStart=>exact ⟨ds.length,Nat.le_refl _,rfl,(rfl:ql ds ds.length=ql ds ds.length)⟩
 case round =>
  obtain ⟨k,hk,rfl,HT⟩:=hrel;rcases k with _ | k
  · have hz:sgn neg (val ds)=0:=by
     have:(dg (val ds)).length=0:=by rw [kaf H3.out.1,<- HT.out]; rfl
     rw [gao this]; cases neg <;> rfl
    have HF:Hid (gbd (sgn neg (val ds)) w (.returned (.agg #[.bool false,.slice none 0 0])) ((W.setCell ⟨w.heap.size+1,0,none⟩ (.bool false)).setCell ⟨w.heap.size+1,1,none⟩ (.slice none 0 0))):=by
     rw [hz];exact ⟨_,rfl,by show jb _ _ (dg 0); rw [qm]; exact jb.nil _,(HWX.out.setCell (Nat.le_succ _) _).setCell (Nat.le_succ _) _,zk.nil _ _ _⟩
    clear hz;go_wp2_with fail;exact bodyPost_ret (v:=.agg #[.bool false,.slice none 0 0]) (by simp [results,Tryz.results111,go_sem,r0,r1]) rfl HF.out
  · have hkl:k < ds.length:=by omega
    obtain ⟨ad,rfl,hb,hcell,hlt⟩:=(H3.out.ext HWX.out).at_ k hkl
    by_cases h0:ds[k]'hkl=0
    · rw [h0] at hcell;go_wp2_with fail
      go_round
      case rel=>exact ⟨k,by omega,rfl,(show ql ds k=ql ds ds.length by rw [<- HT.out,ql,if_pos]; rw [List.getD_eq_getElem?_getD,List.getElem?_eq_getElem hkl]; exact h0)⟩
      case measure=>simp [intOf]
    · have htl:ql ds ds.length=k+1:=by rw [<- HT.out,ql,if_neg]; rw [List.getD_eq_getElem?_getD,List.getElem?_eq_getElem hkl]; exact h0
      have hdv:=uaw H3.out.1;rw [htl] at hdv;have hnz:val ds ≠ 0:=fun e=>by rw [e,qm] at hdv; have:=congrArg List.length hdv; rw [List.length_take] at this; simp at this; omega
      have hsg:decide (sgn neg (val ds) < 0)=neg:=by cases neg <;> simp [sgn] <;> omega
      have HCOPY:Hid (∀ (b:Addr) W',Ext W W'->∃ g' cap w',(Builtin.append_ #[22,23] 22 #[.slice (some b) 0 0,.slice (some ad) (k+1) c]).run Tryz.prog W'=.ok (.slice (some ⟨g',0,none⟩) (k+1) cap) w'/\jb w' (.slice (some ⟨g',0,none⟩) (k+1) cap) (dg (val ds))/\Ext W w'/\W.heap.size<=g'):=by
       intro b W' hx;have hnat:jb W' (.slice (some ad) (k+1) c) (ds.take (k+1)):=⟨_,c,by rw [List.length_take,Nat.min_eq_left (by omega)],by rw [List.length_take]; omega,h2,(H3.out.ext (HWX.out.trans hx)).take _⟩;obtain ⟨g',cap,w',q1,q2,q3⟩:=xa4 hnat (by rw [List.length_take]; omega) (by rw [List.length_take]; omega) b 22;refine ⟨g',cap,w',q1,?_,hx.trans q3,Nat.le_trans hx.size (jb.of_own q2 (H3.out.1.take _)).2⟩;rw [hdv];exact (jb.of_own q2 (H3.out.1.take _)).1
      have hp0:(0:Int)<=(k:Int)+1:=by omega
      have hp1:(k:Int)+1<=(c:Int):=by omega
      clear hdv htl hnz;go_wp2_with fail
      go_region_law (first
       | (obtain ⟨g',cap,w',q1,q2,q3,q4⟩:=HCOPY.out ⟨w.heap.size+1+1,0,none⟩ _ (((Ext.refl W).alloc (.cells #[] 180)).drew)
          refine yab rfl (.tmp 25) (.tmp 29) 22 23 rfl _ _ _ _ (by simp [Act.eval,Act.put]) (by simp [Act.eval,Act.put]) q1 ?_;have a0':w'.cell? ⟨w.heap.size,0,none⟩=some (.bool neg):=(q3.cell (p:=⟨w.heap.size,0,none⟩) (by simp; omega)).trans a0;have r0':w'.cell? ⟨w.heap.size+1,0,none⟩=some (.bool false):=(q3.cell (p:=⟨w.heap.size+1,0,none⟩) (by simp; omega)).trans r0;have r1':w'.cell? ⟨w.heap.size+1,1,none⟩=some (.slice none 0 0):=(q3.cell (p:=⟨w.heap.size+1,1,none⟩) (by simp; omega)).trans r1;have f0':w'.frozen? ⟨w.heap.size+1,0,none⟩=false:=(q3.frozen (p:=⟨w.heap.size+1,0,none⟩) (by simp; omega)).trans f0
          have f1':w'.frozen? ⟨w.heap.size+1,1,none⟩=false:=(q3.frozen (p:=⟨w.heap.size+1,1,none⟩) (by simp; omega)).trans f1))
      all_goals
       have k0:=q2.box r0' rfl (.bool neg);have r1'':(w'.setCell ⟨w.heap.size+1,0,none⟩ (.bool neg)).cell? ⟨w.heap.size+1,1,none⟩=some (.slice none 0 0):=by rw [World.cell?_setCell_other _ _ _ _ (by simp)]; exact r1'
       have k1:=k0.box r1'' rfl (.slice (some ⟨g',0,none⟩) (k+1) cap)
       have HF:Hid (gbd (sgn neg (val ds)) w (.returned (.agg #[.bool neg,.slice (some ⟨g',0,none⟩) (k+1) cap])) ((w'.setCell ⟨w.heap.size+1,0,none⟩ (.bool neg)).setCell ⟨w.heap.size+1,1,none⟩ (.slice (some ⟨g',0,none⟩) (k+1) cap))):=
        ⟨_,by rw [hsg],by rw [qp]; exact k1,((HWX.out.trans q3).setCell (Nat.le_succ _) _).setCell (Nat.le_succ _) _,zk.mk _ _ _ _ (by show w.heap.size<=g'; omega)⟩
       clear k0 k1 q1 q2 q3 q4 HCOPY hsg r1'';go_wp2_with fail;exact bodyPost_ret (v:=.agg #[.bool neg,.slice (some ⟨g',0,none⟩) (k+1) cap]) (by simp [results,Tryz.results111,go_sem,r0',r1']) rfl HF.out
theorem za9 (neg:Bool) (v:Value) (ds:List Nat) (w:World) (h:jb w v ds) (hL:ds.length<=35184372088):Calls Tryz.prog 111 #[.agg #[.bool neg,v]] w (gcy (sgn neg (val ds)) w):=
 (zbn neg v ds w h hL).mono (fun _ _ ⟨v,h1,h2,h3,_⟩=>⟨v,h1,h2,h3⟩)
end Go.Proofs.YtaedbimbbeploaaGreatDoor

/- Reference 34: Digits: how many decimal digits a number has, by dividing it by ten again and again. -/
set_option maxRecDepth 100000
set_option maxHeartbeats 8000000
namespace Go.Proofs.YtaedbimbbeploaaGreatDoor
open Go.RowKit
def DR (w:World) (g:Nat) (zs:List Nat):Prop:=xg zs/\∀ j (h:j < zs.length),w.cell? ⟨g,j,none⟩=some (.int .u32 (zs[j]:Nat))/\w.frozen? ⟨g,j,none⟩=false
theorem DR.take {w:World} {g:Nat} {zs:List Nat} (h:DR w g zs) (k:Nat):DR w g (zs.take k):=
 ⟨h.1.take k,fun j hj=>by rw [List.length_take] at hj; rw [List.getElem_take]; exact h.2 j (by omega)⟩
theorem DR.set_ {w:World} {g:Nat} {zs:List Nat} (h:DR w g zs) (k d:Nat) (hk:k < zs.length) (hd:d < B32):DR (w.setCell ⟨g,k,none⟩ (.int .u32 (d:Nat))) g (zs.set k d):=by
 refine ⟨h.1.set k d hd,fun j hj0=>?_⟩;have hj:j < zs.length:=by rwa [List.length_set] at hj0
 refine ⟨?_,by rw [World.frozen?_setCell]; exact (h.2 j hj).2⟩
 by_cases hjk:j=k
 · subst hjk;rw [World.cell?_setCell_same' _ _ _ (by rw [(h.2 j hj).1]; rfl)];simp
 · rw [World.cell?_setCell_other _ _ _ _ (by intro e; injection e; omega),(h.2 j hj).1,List.getElem_set_ne (by omega)]
theorem DR.get_ {w:World} {g:Nat} {zs:List Nat} (h:DR w g zs) (k:Nat) (hk:k < zs.length):∃ x:Nat,w.cell? ⟨g,k,none⟩=some (.int .u32 (x:Nat))/\w.frozen? ⟨g,k,none⟩=false/\x < 4294967296/\Hid (zs[k]?=some x):=
 ⟨zs[k],(h.2 k hk).1,(h.2 k hk).2,h.1.get k hk,List.getElem?_eq_getElem hk⟩
theorem DR.of_own {w:World} {base g n cap:Nat} {ds:List Nat} (h:w.ownsRow base 180 1 (.slice (some ⟨g,0,none⟩) n cap) n (yw ds)) (hd:xg ds):DR w g ds/\base<=g/\n=ds.length/\n<=cap/\cap<=9223372036854775807:=by
 have h':=h;obtain ⟨hl,hr⟩:=h;rw [zu,Nat.mul_one] at hl;rcases hr with ⟨hr,-⟩ | ⟨g',cap',cur,e,hb,hg,hc,hm,-⟩
 · cases hr
 · injection e with e1 e2 e3
   injection e1 with e1
   injection e1 with e1
   subst e1 e3;refine ⟨⟨hd,fun j hj=>⟨?_,by simp [World.frozen?,hg]⟩⟩,hb,hl.symm,hc,by unfold maxLen at hm; omega⟩;rw [World.ownsRow.cellAt h' j (by omega)];exact kal ds j hj
theorem jbt {P:Program} {t t' e e' ty:TypeId} {i:TypeInfo} (ht:P.underlying t=some (.slice e)) (ht':P.underlying t'=some (.slice e')) (hi:P.info? e=some i) (b:Addr) (A:Option Addr) (c:Nat) (w:World) :
 (Builtin.append_ #[t,t'] ty #[.slice (some b) 0 0,.slice A 0 c]).run P w=.ok (.slice (some b) 0 0) w:=by
 rw [uas ht ht'];cases A <;> simp [Builtin.append_,run_underlying ht,sizeOf,typeInfo,hi,Builtin.lenOf,Builtin.firstCells,loadCells,loadCellsFrom,storeCells]
theorem qbh (b:Bool) (A:Option Addr) (n c:Nat) (w:World):(Instr.field 25 (.agg #[.bool b,.slice A n c]) 1).run Tryz.prog w=.ok (.slice A n c) w:=by kernel_rfl
theorem ybc (neg:Bool) (v:Value) (ds:List Nat) (w:World) (h:jb w v ds) (hL:ds.length<=35184372088) (hz:val ds=0):Calls Tryz.prog 56 #[.agg #[.bool neg,v]] w (waa 1 w):=by
 have HN:=Lib.hid h;have HZ:=Lib.hid hz;obtain ⟨A,c,rfl,h1,h2,h3⟩:=h;obtain ⟨i0,hi,-⟩:=info_parts gbg;have HI:=Lib.hid hi;clear h3 hz hi;go_enter Tryz.func56,Tryz.ntmps56;go_wp2_with fail;have hX0:Ext w ((w.alloc (.cells #[.bool neg,.slice A ds.length c] 25)).alloc (.cells #[] 180)):=((Ext.refl w).alloc _).alloc _;refine (za9 neg _ ds _ (HN.out.ext hX0) hL).mono ?_;rintro e w1 ⟨v1,rfl,n1,x1⟩;have X1:=Lib.hid (hX0.trans x1);obtain ⟨A1,c1,rfl,-⟩:=n1;have hl0:(dg (sgn neg (val ds)).natAbs).length=0:=by rw [qp,HZ.out,qm]; rfl
 rw [hl0];clear hX0 x1 hl0;have hfa:=fun b W=>qbh b A1 0 c1 W
 go_wp2_with (at_builtin
              refine wpList_append_run rfl (.tmp 8) (.tmp 11) 22 23 rfl _ _ _ _ rfl rfl (jbt Tryz.underlying22 Tryz.underlying23 HI.out _ A1 c1 w1) ?_)
 refine wp_loop_rounds 1 ?_;rw [rounds_succ];go_wp2_with fail;go_ret;exact ⟨rfl,X1.out⟩
def wbr (w0:World) (g:Nat) (E:List Nat) (k r:Nat) (wr:World):Prop:=
 ∃ zs:List Nat,DR wr g zs/\zs.length=E.length/\zs.take k=E.take k/\val (E.drop k)=10 * val (zs.drop k)+r/\Ext w0 wr
def jbs (w:World) (g cap N0 gk:Nat) (lv nv:Value) (wr:World):Prop:=
 ∃ n:Nat,lv=.slice (some ⟨g,0,none⟩) (dg gk).length cap/\nv=.int .i64 n/\DR wr g (dg gk)/\more gk+n=qo N0/\gk<=N0/\Ext w wr
theorem za3 (n:Nat):qo n<=10 * (dg n).length+1:=by
 by_cases h:n=0
 · subst h; rw [kaw (by omega)]; omega
 · rw [<- zay h];refine Nat.le_trans (jct n (10 * (dg n).length) ?_) (by omega);refine Nat.lt_of_lt_of_le (uau n) ?_;rw [Nat.pow_mul];exact Nat.pow_le_pow_left (by decide) _
theorem kbi (neg:Bool) (v:Value) (ds:List Nat) (w:World) (h:jb w v ds) (hL:ds.length<=35184372) (hz:val ds ≠ 0):Calls Tryz.prog 56 #[.agg #[.bool neg,v]] w (waa (qo (val ds):Nat) w):=by
 have HN:=Lib.hid h;have HZ:=Lib.hid hz;have hld:(dg (val ds)).length<=ds.length:=yh h.digs;have hlp:=vaf hz;obtain ⟨A,c,rfl,h1,h2,h3⟩:=h;clear h3 hz;go_enter Tryz.func56,Tryz.ntmps56;go_wp2_with fail;have hX0:Ext w ((w.alloc (.cells #[.bool neg,.slice A ds.length c] 25)).alloc (.cells #[] 180)):=((Ext.refl w).alloc _).alloc _;refine (za9 neg _ ds _ (HN.out.ext hX0) (by omega)).mono ?_;rintro e w1 ⟨v1,rfl,n1,x1⟩;rw [qp] at n1;have N1:=Lib.hid n1;obtain ⟨A1,c1,rfl,-⟩:=n1;have hfa:=fun b W=>qbh b A1 (dg (val ds)).length c1 W
 obtain ⟨g,cap,w2,q1,q2,x2⟩:=xa4 N1.out hlp (by omega) ⟨w.heap.size+1,0,none⟩ 22;obtain ⟨hdr,hgb,-,hcap,hcm⟩:=DR.of_own q2 (waw _);have hX2:=hX0.trans (x1.trans x2);have hwg:w.heap.size<=g:=by have:=(hX0.trans x1).size; omega
 have HDR:=Lib.hid hdr;have HX2:=Lib.hid hX2;clear hX0 x1 x2 q2 hdr hX2 N1
 go_wp2_with (at_builtin
              refine wpList_append_run rfl (.tmp 8) (.tmp 11) 22 23 rfl _ _ _ _ rfl rfl q1 ?_)
 clear q1 hfa;have HI0:Hid (jbs w g cap (val ds) (val ds) (.slice (some ⟨g,0,none⟩) (dg (val ds)).length cap) (.int .i64 0) w2):=⟨0,rfl,rfl,HDR.out,by rw [zay HZ.out]; rfl,Nat.le_refl _,HX2.out⟩
 go_loopg [3,4] (val ds) (fun gk lv nv wr=>Hid (jbs w g cap (val ds) gk lv nv wr))
 case atStart=>exact HI0
 case round =>
  clear HI0;obtain ⟨n,rfl,rfl,hdr,hmo,hle,hx⟩:=hrel.out;have hgl:(dg gk).length<=ds.length:=Nat.le_trans (jh hle) hld;have HDR1:=Lib.hid hdr;have HMO:=Lib.hid hmo;have HX1:=Lib.hid hx;clear hrel hdr hx HDR HX2
  by_cases hg0:gk=0
  · have hl0:(dg gk).length=0:=by rw [hg0,qm]; rfl
    have hn:n=qo (val ds):=by rw [hg0,ybg] at hmo; omega
    have hn1:=qbo (val ds);rw [hl0];have hmx:max (n:Int) 1=n:=by omega
    have hif:(if (n:Int) < 1 then (1:Int) else n)=n:=if_neg (by omega);have hn2:1<=n:=by omega
    have HE:=Lib.hid hn;clear hn hmo hg0 hl0 hn1;go_wp2_with fail;go_ret;exact ⟨by rw [<- HE.out]; rfl,HX1.out⟩
  · have hgp:=vaf hg0;have hn3:n<=9223372036854775806:=by
     have h5:=za3 (val ds);omega
    have HT0:Hid (wbr w g (dg gk) (dg gk).length 0 wr):=⟨dg gk,HDR1.out,rfl,rfl,by simp [val],HX1.out⟩;clear hmo;generalize hE:dg gk=E at *;have HE:=Lib.hid hE;clear hE;go_wp2_with fail;obtain ⟨wo,rfl⟩:∃ wo:World,wo=wr:=⟨_,rfl⟩
    go_loopw [5,6] (fun rv iv wr=>∃ k r:Nat,k<=E.length/\iv=.int .i64 ((k:Int) - 1)/\rv=.int .u64 (r:Nat)/\r < 10/\Hid (wbr w g E k r wr)) (fun _ iv _=>(intOf iv+1).toNat)
    case atStart=>exact ⟨E.length,0,Nat.le_refl _,rfl,rfl,by omega,HT0⟩
    case round =>
     obtain ⟨k,r,hk,rfl,rfl,hr,HI⟩:=hrel;obtain ⟨zs,hdr,hzl,hzt,hval,hext⟩:=HI.out;rcases k with _ | k
     · have hq:val zs=gk / 10:=by
        rw [List.drop_zero,List.drop_zero,<- HE.out,zi] at hval;omega
       have HNX:Hid (∀ j,j<=zs.length->ql zs j=ql zs zs.length->(j=0\/∃ h:j - 1 < zs.length,zs[j - 1] ≠ 0)->jbs w g cap (val ds) (gk / 10) (.slice (some ⟨g,0,none⟩) j cap) (.int .i64 ((n:Int)+1)) wr):=by
        intro j hj ht hlast;have htj:ql zs j=j:=by
         rcases hlast with rfl | ⟨hh,hne⟩
         · rfl
         · cases j with
           | zero=>rfl
           | succ j =>
             simp only [Nat.add_sub_cancel] at hh hne;rw [ql,if_neg];rw [List.getD_eq_getElem?_getD,List.getElem?_eq_getElem hh];exact hne
        have hd1:=uaw hdr.1;rw [<- ht,htj,hq] at hd1;have hl1:(dg (gk / 10)).length=j:=by rw [hd1,List.length_take]; omega
        refine ⟨n+1,by rw [hl1],by simp,by rw [hd1]; exact hdr.take j,?_,by omega,hext⟩;have:=xbg hg0;have:=HMO.out;omega
       have HDR2:=Lib.hid hdr;have hzl2:zs.length<=cap:=by have:=HE.out; have h6:=jh hle; rw [this] at h6; omega
       clear HI hdr hzt hval hext;go_wp2_with fail;obtain ⟨wi,hwi⟩:∃ wi:World,wi=wr:=⟨_,rfl⟩;rw [<- hzl]
       go_loop [3] (fun lv=>∃ j:Nat,j<=zs.length/\lv=.slice (some ⟨g,0,none⟩) j cap/\Hid (ql zs j=ql zs zs.length)) (fun lv=>match lv with | .slice _ j _=>j | _=>0)
       case atStart=>exact ⟨zs.length,Nat.le_refl _,rfl,(rfl:ql zs zs.length=ql zs zs.length)⟩
       case round =>
        obtain ⟨j,hj,rfl,HTJ⟩:=hrel;rcases j with _ | j
        · have HFIN:=Lib.hid (HNX.out 0 (Nat.zero_le _) HTJ.out (.inl rfl));go_wp2_with fail
          go_roundg (gk / 10)
          case rel=>exact HFIN
          case measure=>exact Nat.div_lt_self (Nat.pos_of_ne_zero hg0) (by omega)
        · obtain ⟨x,hcell,hfro,hx1,HXk⟩:=HDR2.out.get_ j (by omega)
          by_cases hx0:x=0
          · subst hx0;have HTN:Hid (ql zs j=ql zs zs.length):=by
             have:ql zs j=ql zs zs.length:=by
              rw [<- HTJ.out,ql,if_pos];rw [List.getD_eq_getElem?_getD,HXk.out]; rfl
             exact this
            go_wp2_with fail;exact ⟨⟨j,by omega,rfl,HTN⟩,by simp⟩
          · have hxb:((x:Int) == 0)=false:=by simp; omega
            have HFIN:=Lib.hid (HNX.out (j+1) hj HTJ.out (.inr ⟨by simp; omega,by
             obtain ⟨hh,he⟩:=List.getElem?_eq_some_iff.1 HXk.out;simp only [Nat.add_sub_cancel]
             rw [he]; exact hx0⟩))
            go_wp2_with fail
            go_roundg (gk / 10)
            case rel=>exact HFIN
            case measure=>exact Nat.div_lt_self (Nat.pos_of_ne_zero hg0) (by omega)
     · obtain ⟨x,hcell,hfro,hx1,HXk⟩:=hdr.get_ k (by omega);have hcur:r * B32+x < 10 * B32:=by rw [gy]; omega
       have hqlt:(r * B32+x) / 10 < B32:=Nat.div_lt_of_lt_mul hcur;have HS:Hid (wbr w g E k ((r * B32+x) % 10) (wr.setCell ⟨g,k,none⟩ (.int .u32 (((r * B32+x) / 10:Nat):Int)))):=by
        refine ⟨zs.set k ((r * B32+x) / 10),hdr.set_ _ _ (by omega) hqlt,by rw [List.length_set]; exact hzl,?_,?_,hext.setCell hwg _⟩
        · rw [List.take_set_of_le (Nat.le_refl _)];have:=congrArg (List.take k) hzt
          rwa [List.take_take,List.take_take,Nat.min_eq_left (by omega)] at this
        · obtain ⟨hkl,hxe⟩:=List.getElem?_eq_some_iff.1 HXk.out;have hkE:k < E.length:=by omega
          have hEk:E[k]=x:=by
           have h1:=congrArg (fun l=>l[k]?) hzt;simp only [List.getElem?_take,Nat.lt_succ_self,if_true,List.getElem?_eq_getElem hkl,List.getElem?_eq_getElem hkE] at h1;injection h1 with h1
           rw [<- h1,hxe]
          rw [List.drop_eq_getElem_cons hkE,val_cons,hEk,List.drop_set,if_neg (by omega),Nat.sub_self];rw [List.drop_eq_getElem_cons hkl,List.set_cons_zero,val_cons];exact ycm 10 r x _ rfl _ _ _ hval rfl
       clear HI hdr hzl hzt hval hext;go_wp2_with fail
       go_roundw
       case rel =>
        have e1:((r:Int) * 4294967296+x) % 10=(((r * B32+x) % 10:Nat):Int):=by rw [gy]; simp
        have e2:((r:Int) * 4294967296+x) / 10=(((r * B32+x) / 10:Nat):Int):=by rw [gy]; simp
        rw [e1,e2];exact ⟨k,_,by omega,rfl,rfl,Nat.mod_lt _ (by omega),HS⟩
       case measure=>simp [intOf]
theorem zaz (neg:Bool) (v:Value) (ds:List Nat) (w:World) (h:jb w v ds) (hL:ds.length<=35184372):Calls Tryz.prog 56 #[.agg #[.bool neg,v]] w (waa (qo (val ds):Nat) w):=by
 by_cases hz:val ds=0
 · have e:((qo (val ds):Nat):Int)=1:=by rw [hz,kaw (by omega)]; rfl
   rw [e];exact ybc neg v ds w h (by omega) hz
 · exact kbi neg v ds w h hL hz
end Go.Proofs.YtaedbimbbeploaaGreatDoor

/- Reference 34: Weight; reference 40: exceeds. -/
set_option maxRecDepth 100000
set_option maxHeartbeats 8000000
namespace Go.Proofs.YtaedbimbbeploaaGreatDoor
open Go.RowKit
section
variable {L:Nat} {p:Nat->Prop}
theorem zbc {a b : Tm} {k r : Int} (hk : (k = 3 /\ r = uf (je a.wt b.wt + 1)) \/ (k = 4 /\ r = uf (je a.wt b.wt + 1)) \/ (k = 5 /\ r = uf (a.wt + b.wt))) (iha : xn 19 L p a a.wt) (ihb : xn 19 L p b b.wt)
 (t:Tr) (v:Value) (w:World) (h:t.d.kind=k/\∃ x y,t.ks=[x,y]/\vw L a x/\vw L b y) (hv:TrV w p t v):Calls Tryz.prog 19 #[v] w (waa r w):=by
 have IHA:=Lib.hid iha;have IHB:=Lib.hid ihb;have ha:=a.wt_bd;have hb:=b.wt_bd;clear iha ihb;obtain ⟨⟨kind,neg,ds,name,exp,rel,truth,all⟩,ks⟩:=t;obtain ⟨hkind,t0,t1,hks,h0,h1⟩:=h;simp only [Tr.d] at hkind;simp only [Tr.ks] at hks;subst hkind hks;obtain ⟨A0,n0,c0,A,c,rfl,hnat,hc1,hc2,hat⟩:=hv.open_
 change ui w p [t0,t1] A 0 at hat
 clear hv hnat;unfold ndV;simp only [Tr.d,Tr.ks,List.length_cons,List.length_nil,Nat.zero_add,Nat.reduceAdd] at hc1 ⊢;obtain ⟨W,hW⟩:∃ W,w.alloc (.cells #[.int .i64 kind,.bool neg,.slice A0 n0 c0,.string name,.int .i64 exp,.int .i64 rel,.bool truth,.bool all,.slice A 2 c] 29)=W:=⟨_,rfl⟩;have hWx:Ext w W:=by rw [<- hW]; exact (Ext.refl w).alloc _
 have hWs:w.heap.size < W.heap.size:=by rw [<- hW]; simp
 have hat2:=hat.ext hWx;obtain ⟨ad,B0,m0,d0,B1,m1,d1,hA,hadb,hn0,hk0⟩:=hat2.kid0 (by simp);subst hA;obtain ⟨ad',C0,p0,q0,C1,p1,q1,hA,-,hn1',hk1⟩:=hat2.kid 1 (by simp);injection hA with hA
 subst hA;have hn1:=hn1'.nine;have HK0:=Lib.hid hk0;have HK1:=Lib.hid hk1;have HB:Hid (∀ W',Ext W W'->(Ext W W'/\W'.cell? ⟨w.heap.size,4,none⟩=some (.int .i64 exp)/\W'.cell? ⟨w.heap.size,5,none⟩=some (.int .i64 rel)/\W'.cell? ⟨w.heap.size,8,none⟩=some (.slice (some ad) 2 c)/\W'.cell? ad=some (.int .i64 t0.d.kind)/\W'.cell? ⟨ad.block,ad.off+1,none⟩=some (.bool t0.d.neg)/\W'.cell? ⟨ad.block,ad.off+2,none⟩=some (.slice B0 m0 d0)/\W'.cell? ⟨ad.block,ad.off+3,none⟩=some (.string t0.d.name)/\W'.cell? ⟨ad.block,ad.off+4,none⟩=some (.int .i64 t0.d.exp)/\W'.cell? ⟨ad.block,ad.off+5,none⟩=some (.int .i64 t0.d.rel)/\W'.cell? ⟨ad.block,ad.off+6,none⟩=some (.bool t0.d.truth)/\W'.cell? ⟨ad.block,ad.off+7,none⟩=some (.bool t0.d.all)/\W'.cell? ⟨ad.block,ad.off+8,none⟩=some (.slice B1 m1 d1)/\W'.cell? ⟨ad.block,ad.off+9,none⟩=some (.int .i64 t1.d.kind)/\W'.cell? ⟨ad.block,ad.off+9+1,none⟩=some (.bool t1.d.neg)/\W'.cell? ⟨ad.block,ad.off+9+2,none⟩=some (.slice C0 p0 q0)/\W'.cell? ⟨ad.block,ad.off+9+3,none⟩=some (.string t1.d.name)/\W'.cell? ⟨ad.block,ad.off+9+4,none⟩=some (.int .i64 t1.d.exp)/\W'.cell? ⟨ad.block,ad.off+9+5,none⟩=some (.int .i64 t1.d.rel)/\W'.cell? ⟨ad.block,ad.off+9+6,none⟩=some (.bool t1.d.truth)/\W'.cell? ⟨ad.block,ad.off+9+7,none⟩=some (.bool t1.d.all)/\W'.cell? ⟨ad.block,ad.off+9+8,none⟩=some (.slice C1 p1 q1))):=by
  intro W' hx;obtain ⟨hc,-⟩:=hx.cells;obtain ⟨k0,k1,k2,k3,k4,k5,k6,k7,k8⟩:=uad.ext hn0 hx hadb;obtain ⟨l0,l1,l2,l3,l4,l5,l6,l7,l8⟩:=(uad.ext hn1' hx (by rw [ja]; exact hadb)).nine;refine ⟨hx,?_,?_,?_,k0,k1,k2,k3,k4,k5,k6,k7,k8,l0,l1,l2,l3,l4,l5,l6,l7,l8⟩ <;> (rw [hc _ _ hWs,<- hW]; simp [go_sem])
 have HWX:=Lib.hid hWx;clear hat hat2 hn0 hk0 hWx hn1' hn1 hk1;have H0:=Lib.hid h0;have H1:=Lib.hid h1;clear h0 h1;generalize a.wt=da at *;generalize b.wt=db at *;have hwr:IntKind.i64.wrap (da+db)=da+db:=IntWalk.i64_in _ (by omega);have hmx:IntKind.i64.wrap (1+max da db)=je da db+1:=by
  have hm':=vaw ha.1 ha.2 hb.1 hb.2;rw [gbo,IntWalk.i64_in _ (by omega)]; omega
 have z0:W.cell? ⟨w.heap.size,0,none⟩=some (.int .i64 kind):=by rw [<- hW]; simp [go_sem]
 obtain ⟨-,z4,z5,z8,-⟩:=HB.out W (Ext.refl W);rcases hk with ⟨rfl,rfl⟩ | ⟨rfl,rfl⟩ | ⟨rfl,rfl⟩
 all_goals
  go_enter Tryz.func19,Tryz.ntmps19;go_wp2_with fail;clear hW z0 z4 z5 z8;have y0:Ext W W.drew:=(Ext.refl W).drew;have Y0:=Lib.hid y0;clear y0
  go_region_held3 (fun W' => Ext W W' /\ W'.cell? ⟨w.heap.size, 4, none⟩ = some (.int .i64 exp) /\ W'.cell? ⟨w.heap.size, 5, none⟩ = some (.int .i64 rel) /\ W'.cell? ⟨w.heap.size, 8, none⟩ = some (.slice (some ad) 2 c) /\ W'.cell? ad = some (.int .i64 t0.d.kind) /\ W'.cell? ⟨ad.block, ad.off + 1, none⟩ = some (.bool t0.d.neg) /\ W'.cell? ⟨ad.block, ad.off + 2, none⟩ = some (.slice B0 m0 d0) /\ W'.cell? ⟨ad.block, ad.off + 3, none⟩ = some (.string t0.d.name) /\ W'.cell? ⟨ad.block, ad.off + 4, none⟩ = some (.int .i64 t0.d.exp) /\ W'.cell? ⟨ad.block, ad.off + 5, none⟩ = some (.int .i64 t0.d.rel) /\ W'.cell? ⟨ad.block, ad.off + 6, none⟩ = some (.bool t0.d.truth) /\ W'.cell? ⟨ad.block, ad.off + 7, none⟩ = some (.bool t0.d.all) /\ W'.cell? ⟨ad.block, ad.off + 8, none⟩ = some (.slice B1 m1 d1) /\ W'.cell? ⟨ad.block, ad.off + 9, none⟩ = some (.int .i64 t1.d.kind) /\ W'.cell? ⟨ad.block, ad.off + 9 + 1, none⟩ = some (.bool t1.d.neg) /\ W'.cell? ⟨ad.block, ad.off + 9 + 2, none⟩ = some (.slice C0 p0 q0) /\ W'.cell? ⟨ad.block, ad.off + 9 + 3, none⟩ = some (.string t1.d.name) /\ W'.cell? ⟨ad.block, ad.off + 9 + 4, none⟩ = some (.int .i64 t1.d.exp) /\ W'.cell? ⟨ad.block, ad.off + 9 + 5, none⟩ = some (.int .i64 t1.d.rel) /\ W'.cell? ⟨ad.block, ad.off + 9 + 6, none⟩ = some (.bool t1.d.truth) /\ W'.cell? ⟨ad.block, ad.off + 9 + 7, none⟩ = some (.bool t1.d.all) /\ W'.cell? ⟨ad.block, ad.off + 9 + 8, none⟩ = some (.slice C1 p1 q1))
   (first | with_reducible exact HB.out _ Y0.out | with_reducible exact HB.out _ y1 | with_reducible exact HB.out _ y2)
   (first
     | (go_at_call_of 19 (Value.agg #[.int .i64 t0.d.kind,.bool t0.d.neg,.slice B0 m0 d0,.string t0.d.name,.int .i64 t0.d.exp,.int .i64 t0.d.rel,.bool t0.d.truth,.bool t0.d.all,.slice B1 m1 d1])
        refine (IHA.out t0 _ _ H0.out (HK0.out.ext Y0.out)).mono ?_;rintro e v1 ⟨rfl,x1⟩
        have y1:Ext W v1:=Ext.trans Y0.out x1)
     | (go_at_call_of 19 (Value.agg #[.int .i64 t1.d.kind,.bool t1.d.neg,.slice C0 p0 q0,.string t1.d.name,.int .i64 t1.d.exp,.int .i64 t1.d.rel,.bool t1.d.truth,.bool t1.d.all,.slice C1 p1 q1])
        refine (IHB.out t1 _ _ H1.out (HK1.out.ext y1)).mono ?_;rintro e v2 ⟨rfl,x2⟩
        have y2:Ext W v2:=Ext.trans y1 x2)
     | (go_at_call 55
        refine (yal _ _).mono ?_
        rintro e v3 ⟨rfl,rfl⟩))
  all_goals
   have X2:=Lib.hid (HWX.out.trans y2);clear y1 y2 x1 x2 HB HWX Y0;go_wp2_with fail;go_ret;exact ⟨rfl,X2.out⟩
theorem qcr {a b:Tm} (iha:xn 19 L p a a.wt) (ihb:xn 19 L p b b.wt):xn 19 L p (.add a b) (uf (je a.wt b.wt+1)):=fun t v w h hv=>zbc (.inl ⟨rfl,rfl⟩) iha ihb t v w h hv
theorem gcq {a b:Tm} (iha:xn 19 L p a a.wt) (ihb:xn 19 L p b b.wt):xn 19 L p (.sub a b) (uf (je a.wt b.wt+1)):=fun t v w h hv=>zbc (.inr (.inl ⟨rfl,rfl⟩)) iha ihb t v w h hv
theorem xcr {a b:Tm} (iha:xn 19 L p a a.wt) (ihb:xn 19 L p b b.wt):xn 19 L p (.mul a b) (uf (a.wt+b.wt)):=fun t v w h hv=>zbc (.inr (.inr ⟨rfl,rfl⟩)) iha ihb t v w h hv
theorem ycr {a:Tm} (iha:xn 19 L p a a.wt):xn 19 L p (.neg a) a.wt:=by
 intro t v w h hv;have IHA:=Lib.hid iha;clear iha;obtain ⟨⟨kind,neg,ds,name,exp,rel,truth,all⟩,ks⟩:=t;obtain ⟨hkind,t0,hks,h0⟩:=h;simp only [Tr.d] at hkind;simp only [Tr.ks] at hks;subst hkind hks;obtain ⟨A0,n0,c0,A,c,rfl,hnat,hc1,hc2,hat⟩:=hv.open_
 change ui w p [t0] A 0 at hat
 clear hv hnat;unfold ndV;simp only [Tr.d,Tr.ks,List.length_cons,List.length_nil,Nat.zero_add,Nat.reduceAdd] at hc1 ⊢;obtain ⟨W,hW⟩:∃ W,w.alloc (.cells #[.int .i64 6,.bool neg,.slice A0 n0 c0,.string name,.int .i64 exp,.int .i64 rel,.bool truth,.bool all,.slice A 1 c] 29)=W:=⟨_,rfl⟩;have hWx:Ext w W:=by rw [<- hW]; exact (Ext.refl w).alloc _
 have hWs:w.heap.size < W.heap.size:=by rw [<- hW]; simp
 have hat2:=hat.ext hWx;obtain ⟨ad,B0,m0,d0,B1,m1,d1,hA,hadb,hn0,hk0⟩:=hat2.kid0 (by simp);subst hA;have HK0:=Lib.hid hk0;have HB:Hid (∀ W',Ext W W'->(Ext W W'/\W'.cell? ⟨w.heap.size,0,none⟩=some (.int .i64 6)/\W'.cell? ⟨w.heap.size,4,none⟩=some (.int .i64 exp)/\W'.cell? ⟨w.heap.size,5,none⟩=some (.int .i64 rel)/\W'.cell? ⟨w.heap.size,8,none⟩=some (.slice (some ad) 1 c)/\W'.cell? ad=some (.int .i64 t0.d.kind)/\W'.cell? ⟨ad.block,ad.off+1,none⟩=some (.bool t0.d.neg)/\W'.cell? ⟨ad.block,ad.off+2,none⟩=some (.slice B0 m0 d0)/\W'.cell? ⟨ad.block,ad.off+3,none⟩=some (.string t0.d.name)/\W'.cell? ⟨ad.block,ad.off+4,none⟩=some (.int .i64 t0.d.exp)/\W'.cell? ⟨ad.block,ad.off+5,none⟩=some (.int .i64 t0.d.rel)/\W'.cell? ⟨ad.block,ad.off+6,none⟩=some (.bool t0.d.truth)/\W'.cell? ⟨ad.block,ad.off+7,none⟩=some (.bool t0.d.all)/\W'.cell? ⟨ad.block,ad.off+8,none⟩=some (.slice B1 m1 d1))):=by
  intro W' hx;obtain ⟨hc,-⟩:=hx.cells;obtain ⟨k0,k1,k2,k3,k4,k5,k6,k7,k8⟩:=uad.ext hn0 hx hadb;refine ⟨hx,?_,?_,?_,?_,k0,k1,k2,k3,k4,k5,k6,k7,k8⟩ <;> (rw [hc _ _ hWs,<- hW]; simp [go_sem])
 have HWX:=Lib.hid hWx;clear hat hat2 hn0 hk0 hWx;have H0:=Lib.hid h0;clear h0;obtain ⟨-,z0,z4,z5,z8,k0,k1,k2,k3,k4,k5,k6,k7,k8⟩:=HB.out W (Ext.refl W);go_enter Tryz.func19,Tryz.ntmps19;go_wp2_with fail;refine (IHA.out t0 _ _ H0.out HK0.out).mono ?_;rintro e w1 ⟨rfl,x1⟩;have X1:=Lib.hid (HWX.out.trans x1);clear x1 hW z0 z4 z5 z8 k0 k1 k2 k3 k4 k5 k6 k7 k8;go_wp2_with fail;go_ret;exact ⟨rfl,X1.out⟩
theorem wcq {a:Tm} {ex:Int} (iha:xn 19 L p a a.wt):xn 19 L p (.pow a ex) ((Tm.pow a ex).wt):=by
 intro t v w h hv;have IHA:=Lib.hid iha;have ha:=a.wt_bd;clear iha;obtain ⟨⟨kind,neg,ds,name,exp,rel,truth,all⟩,ks⟩:=t;obtain ⟨hkind,hexp,hpos,t0,hks,h0⟩:=h;simp only [Tr.d] at hkind hexp;simp only [Tr.ks] at hks;subst hkind hks hexp;obtain ⟨A0,n0,c0,A,c,rfl,hnat,hc1,hc2,hat⟩:=hv.open_
 change ui w p [t0] A 0 at hat
 clear hv hnat;unfold ndV;simp only [Tr.d,Tr.ks,List.length_cons,List.length_nil,Nat.zero_add,Nat.reduceAdd] at hc1 ⊢;obtain ⟨W,hW⟩:∃ W,w.alloc (.cells #[.int .i64 7,.bool neg,.slice A0 n0 c0,.string name,.int .i64 exp,.int .i64 rel,.bool truth,.bool all,.slice A 1 c] 29)=W:=⟨_,rfl⟩;have hWx:Ext w W:=by rw [<- hW]; exact (Ext.refl w).alloc _
 have hWs:w.heap.size < W.heap.size:=by rw [<- hW]; simp
 have hat2:=hat.ext hWx;obtain ⟨ad,B0,m0,d0,B1,m1,d1,hA,hadb,hn0,hk0⟩:=hat2.kid0 (by simp);subst hA;have HK0:=Lib.hid hk0;have HB:Hid (∀ W',Ext W W'->(Ext W W'/\W'.cell? ⟨w.heap.size,0,none⟩=some (.int .i64 7)/\W'.cell? ⟨w.heap.size,4,none⟩=some (.int .i64 exp)/\W'.cell? ⟨w.heap.size,5,none⟩=some (.int .i64 rel)/\W'.cell? ⟨w.heap.size,8,none⟩=some (.slice (some ad) 1 c)/\W'.cell? ad=some (.int .i64 t0.d.kind)/\W'.cell? ⟨ad.block,ad.off+1,none⟩=some (.bool t0.d.neg)/\W'.cell? ⟨ad.block,ad.off+2,none⟩=some (.slice B0 m0 d0)/\W'.cell? ⟨ad.block,ad.off+3,none⟩=some (.string t0.d.name)/\W'.cell? ⟨ad.block,ad.off+4,none⟩=some (.int .i64 t0.d.exp)/\W'.cell? ⟨ad.block,ad.off+5,none⟩=some (.int .i64 t0.d.rel)/\W'.cell? ⟨ad.block,ad.off+6,none⟩=some (.bool t0.d.truth)/\W'.cell? ⟨ad.block,ad.off+7,none⟩=some (.bool t0.d.all)/\W'.cell? ⟨ad.block,ad.off+8,none⟩=some (.slice B1 m1 d1))):=by
  intro W' hx;obtain ⟨hc,-⟩:=hx.cells;obtain ⟨k0,k1,k2,k3,k4,k5,k6,k7,k8⟩:=uad.ext hn0 hx hadb;refine ⟨hx,?_,?_,?_,?_,k0,k1,k2,k3,k4,k5,k6,k7,k8⟩ <;> (rw [hc _ _ hWs,<- hW]; simp [go_sem])
 have HWX:=Lib.hid hWx;clear hat hat2 hn0 hk0 hWx;have H0:=Lib.hid h0;clear h0;have HRES:Hid ((Tm.pow a exp).wt=uf (max 1 (uf exp) * a.wt)):=by
  have:(Tm.pow a exp).wt=uf (max 1 (uf exp) * a.wt):=by
   simp only [Tm.wt,xal];rw [show uf a.wt=a.wt from if_pos ha.2];have:uf (je exp 1)=max 1 (uf exp):=by unfold uf je; split <;> split <;> omega
   rw [this]
  exact this
 rw [HRES.out];generalize a.wt=da at *;have hce:=kam hpos;have hme:1<=max 1 (uf exp)/\max 1 (uf exp)<=2147483647:=by omega
 have hmul:0<=max 1 (uf exp) * da/\max 1 (uf exp) * da<=4611686014132420609:=by
  refine ⟨Int.mul_nonneg (by omega) (by omega),?_⟩;have:=Int.mul_le_mul hme.2 ha.2 (by omega) (by omega);simpa using this
 have hwr:IntKind.i64.wrap (max 1 (uf exp) * da)=max 1 (uf exp) * da:=IntWalk.i64_in _ (by omega);obtain ⟨-,z0,z4,z5,z8,-⟩:=HB.out W (Ext.refl W);go_enter Tryz.func19,Tryz.ntmps19;go_wp2_with fail;clear hW z0 z4 z5 z8;have y0:Ext W W.drew:=(Ext.refl W).drew;have Y0:=Lib.hid y0;clear y0
 go_region_held3 (fun W' => Ext W W' /\ W'.cell? ⟨w.heap.size, 0, none⟩ = some (.int .i64 7) /\ W'.cell? ⟨w.heap.size, 4, none⟩ = some (.int .i64 exp) /\ W'.cell? ⟨w.heap.size, 5, none⟩ = some (.int .i64 rel) /\ W'.cell? ⟨w.heap.size, 8, none⟩ = some (.slice (some ad) 1 c) /\ W'.cell? ad = some (.int .i64 t0.d.kind) /\ W'.cell? ⟨ad.block, ad.off + 1, none⟩ = some (.bool t0.d.neg) /\ W'.cell? ⟨ad.block, ad.off + 2, none⟩ = some (.slice B0 m0 d0) /\ W'.cell? ⟨ad.block, ad.off + 3, none⟩ = some (.string t0.d.name) /\ W'.cell? ⟨ad.block, ad.off + 4, none⟩ = some (.int .i64 t0.d.exp) /\ W'.cell? ⟨ad.block, ad.off + 5, none⟩ = some (.int .i64 t0.d.rel) /\ W'.cell? ⟨ad.block, ad.off + 6, none⟩ = some (.bool t0.d.truth) /\ W'.cell? ⟨ad.block, ad.off + 7, none⟩ = some (.bool t0.d.all) /\ W'.cell? ⟨ad.block, ad.off + 8, none⟩ = some (.slice B1 m1 d1))
  (first | with_reducible exact HB.out _ Y0.out | with_reducible exact HB.out _ y1)
  (first
    | (go_at_call 19
       refine (IHA.out t0 _ _ H0.out (HK0.out.ext Y0.out)).mono ?_;rintro e v1 ⟨rfl,x1⟩
       have y1:Ext W v1:=Ext.trans Y0.out x1)
    | (go_at_call 55
       refine (yal _ _).mono ?_
       rintro e v3 ⟨rfl,rfl⟩))
 all_goals
  have X2:=Lib.hid (HWX.out.trans y1);clear y1 x1 HB HWX Y0;go_wp2_with fail;go_ret;exact ⟨by first | rfl | (rw [HRES.out]; rfl),X2.out⟩
theorem wce {s:ByteArray}:xn 19 L p (.name s) (1):=by
 intro t v w h hv;obtain ⟨⟨kind,neg,ds,name,exp,rel,truth,all⟩,ks⟩:=t;obtain ⟨hkind,hks,-⟩:=h;simp only [Tr.d] at hkind;simp only [Tr.ks] at hks;subst hkind hks;obtain ⟨A0,n0,c0,A,c,rfl,-⟩:=hv.open_;clear hv;unfold ndV;simp only [Tr.d,Tr.ks,List.length_nil];go_enter Tryz.func19,Tryz.ntmps19;go_wp2_with fail;go_ret;exact ⟨rfl,(Ext.refl w).alloc _⟩
theorem zcr {z:Int} (hL:L<=1000000):xn 19 L p (.num z) ((Tm.num z).wt):=by
 intro t v w h hv;obtain ⟨⟨kind,neg,ds,name,exp,rel,truth,all⟩,ks⟩:=t;obtain ⟨hkind,hks,hz,hlen⟩:=h;simp only [Tr.d] at hkind hz hlen;simp only [Tr.ks] at hks;subst hkind hks;obtain ⟨A0,n0,c0,A,c,rfl,hnat,-⟩:=hv.open_;have HN:=Lib.hid hnat;have hw:(Tm.num z).wt=(qo (val ds):Nat):=by
  have h1:=za3 (val ds);have h2:(dg (val ds)).length<=ds.length:=yh hnat.digs;show uf (qo z.natAbs:Nat)=_;rw [hz,qp];exact if_pos (by omega)
 rw [hw];clear hv hz hw hnat;unfold ndV;simp only [Tr.d,Tr.ks,List.length_nil];go_enter Tryz.func19,Tryz.ntmps19;go_wp2_with fail;refine (zaz neg _ ds _ (jb.ext HN.out ((Ext.refl w).alloc _)) (by omega)).mono ?_;rintro e w1 ⟨rfl,x1⟩;have X1:=Lib.hid (((Ext.refl w).alloc _).trans x1);clear x1;go_wp2_with fail;go_ret;exact ⟨rfl,X1.out⟩
theorem jbi (hL:L<=1000000) (m:Tm):xn 19 L p m m.wt:=by
 induction m with
 | num z=>exact zcr hL
 | name s=>exact wce
 | add a b iha ihb=>exact qcr iha ihb
 | sub a b iha ihb=>exact gcq iha ihb
 | mul a b iha ihb=>exact xcr iha ihb
 | neg a iha=>exact ycr iha
 | pow a e iha=>exact wcq iha
end
end Go.Proofs.YtaedbimbbeploaaGreatDoor
