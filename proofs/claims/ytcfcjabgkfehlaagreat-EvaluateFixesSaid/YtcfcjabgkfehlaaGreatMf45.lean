/- Layer 34: formula.OfTerm, formula.Of: the term, the formula of a tree. -/
import Derived.Test.YtcfcjabgkfehlaaGreatMf32
import Derived.Test.YtcfcjabgkfehlaaGreatDeg
import Derived.Test.YtcfcjabgkfehlaaGreatMf26
import Derived.RangeFuncNested
import Derived.RangeFuncBound
import Derived.RangeFuncCalls
import Derived.RangeFuncLeaves
import Derived.Shelf.Abstract
import Derived.Shelf.RegionOpen
import Derived.OwnWalkIn
import Derived.TacticsInMore
import Derived.LoopNIn
import Derived.LoopIn
set_option linter.unusedSimpArgs false
set_option linter.unusedVariables false

set_option maxRecDepth 100000
set_option maxHeartbeats 8000000
namespace Go.Proofs.YtcfcjabgkfehlaaGreat
open Go.RowKit
attribute [local go_sem] xaj gaf gaj zaj kaj jaj yaj wad waf qaj uaj jao vaa vaj zae
def zaa (L : Nat) : Tm -> Tr -> Prop
 | .num z,t=>t.d.kind=1/\t.ks=[]/\z=sgn t.d.neg (val t.d.ds)/\t.d.ds.length<=L
 | .name s,t=>t.d.kind=2/\t.ks=[]/\t.d.name=s
 | .add a b,t=>t.d.kind=3/\∃ x y,t.ks=[x,y]/\zaa L a x/\zaa L b y
 | .sub a b,t=>t.d.kind=4/\∃ x y,t.ks=[x,y]/\zaa L a x/\zaa L b y
 | .mul a b,t=>t.d.kind=5/\∃ x y,t.ks=[x,y]/\zaa L a x/\zaa L b y
 | .neg a,t=>t.d.kind=6/\∃ x,t.ks=[x]/\zaa L a x
 | .pow a e,t=>t.d.kind=7/\t.d.exp=e/\0<=e/\∃ x,t.ks=[x]/\zaa L a x
def yas (L:Nat) (m:Tm) (w:World) (e:Ending) (w':World):Prop:=∃ v,e=.returned (.tuple #[v,.int .i64 0])/\TmV w' L m v/\Ext w w'
theorem TmV.box {w:World} {L:Nat} {a:Addr} {u:Value} (ha:w.cell? a=some u) (hu:ku u=false) (u':Value) {t:Tm} {v:Value} (h:TmV w L t v):TmV (w.setCell a u') L t v:=by
 induction t generalizing v with
 | num z=>obtain ⟨x,e,h⟩:=h; exact ⟨x,e,h.box ha hu u'⟩
 | name s=>exact h
 | add a b iha ihb=>obtain ⟨x,y,e,h,k⟩:=h; exact ⟨x,y,e,iha h,ihb k⟩
 | sub a b iha ihb=>obtain ⟨x,y,e,h,k⟩:=h; exact ⟨x,y,e,iha h,ihb k⟩
 | mul a b iha ihb=>obtain ⟨x,y,e,h,k⟩:=h; exact ⟨x,y,e,iha h,ihb k⟩
 | neg a iha=>obtain ⟨x,e,h⟩:=h; exact ⟨x,e,iha h⟩
 | pow a n iha=>obtain ⟨x,e,h⟩:=h; exact ⟨x,e,iha h⟩
def gbb : Value -> Bool
 | .iface _ _=>true
 | .nilIface=>true
 | _=>false
theorem ycg {u:Value} (h:gbb u=true):ku u=false:=by cases u <;> simp_all [gbb,ku]
def vab (L:Nat) (w:World) (g g':Nat) (o:Obj) (xs:List Tm) (k:Nat) (wr:World):Prop:=
 Ext w wr/\wr.heap[g']?=some o/\∃ u0 u1,wr.heap[g]?=some (.cells #[u0,u1] 307 (0,0))/\gbb u0=true/\gbb u1=true/\(∀ x,0 < k->xs[0]?=some x->TmV wr L x u0)/\(∀ x,1 < k->xs[1]?=some x->TmV wr L x u1)
theorem vab.cell {L:Nat} {w:World} {g g':Nat} {o:Obj} {xs:List Tm} {k:Nat} {wr:World} (h:vab L w g g' o xs k wr) (j:Nat) (hj:j < 2):∃ u,wr.cell? ⟨g,j,none⟩=some u/\gbb u=true/\wr.frozen? ⟨g,j,none⟩=false:=by
 obtain ⟨-,-,u0,u1,h1,h2,h3,-⟩:=h;rcases (show j=0\/j=1 by omega) with rfl | rfl
 · exact ⟨u0,by simp [World.cell?,h1],h2,by simp [World.frozen?,h1]⟩
 · exact ⟨u1,by simp [World.cell?,h1],h3,by simp [World.frozen?,h1]⟩
theorem vab.ext {L:Nat} {w:World} {g g':Nat} {o:Obj} {xs:List Tm} {k:Nat} {wr w':World} (h:vab L w g g' o xs k wr) (hx:Ext wr w'):vab L w g g' o xs k w':=by
 obtain ⟨h0,h0',u0,u1,h1,h2,h3,h4,h5⟩:=h;have lt:∀ {i:Nat} {o:Obj},wr.heap[i]?=some o->i < wr.heap.size:=fun {i o} h=>(Array.getElem?_eq_some_iff.1 h).1
 exact ⟨h0.trans hx,(hx.below.block _ (lt h0')).trans h0',u0,u1,(hx.below.block _ (lt h1)).trans h1,h2,h3,fun x hk hxs=>(h4 x hk hxs).ext hx,fun x hk hxs=>(h5 x hk hxs).ext hx⟩
theorem vab.put {L:Nat} {w:World} {g g':Nat} {o:Obj} {xs:List Tm} {k:Nat} {wr:World} (h:vab L w g g' o xs k wr) (hk:k < 2) (hg:w.heap.size<=g) (hne:g' ≠ g) {u:Value} (hu:gbb u=true) (hx:∀ x,xs[k]?=some x->TmV wr L x u) :
 vab L w g g' o xs (k+1) (wr.setCell ⟨g,k,none⟩ u):=by
 obtain ⟨uk,ck,ik,-⟩:=h.cell k hk;obtain ⟨h0,h0',u0,u1,h1,h2,h3,h4,h5⟩:=h;have bx:∀ {x v},TmV wr L x v->TmV (wr.setCell ⟨g,k,none⟩ u) L x v:=fun {x v} hv=>hv.box ck (ycg ik) u
 refine ⟨h0.setCell hg _,(Below.heap_setCell wr ⟨g,k,none⟩ u g' hne).trans h0',?_⟩;have hs:∀ c:Array Value,wr.heap[g]?=some (.cells c 307 (0,0))->(wr.setCell ⟨g,k,none⟩ u).heap[g]?=some (.cells (c.setIfInBounds k u) 307 (0,0)):=fun c hc=>by
  simp [World.setCell,Array.getElem?_modify,hc]
 rcases (show k=0\/k=1 by omega) with rfl | rfl
 · exact ⟨u,u1,by rw [hs _ h1]; rfl,hu,h3,fun x _ hxs=>bx (hx x hxs),fun x hk=>absurd hk (by omega)⟩
 · exact ⟨u0,u,by rw [hs _ h1]; rfl,h2,hu,fun x _ hxs=>bx (h4 x (by omega) hxs),fun x _ hxs=>bx (hx x hxs)⟩
def kau (L n:Nat):Prop:=∀ (m:Tm) (t:Tr),m.sz < n->zaa L m t->∀ (v:Value) (w:World),TrV w (fun _=>True) t v->Calls Tryz.prog 240 #[v] w (yas L m w)
theorem vcn {L n:Nat} (ih:kau L n) {a b:Tm} (t:Tr) (hsz:(Tm.add a b).sz < n+1) (h:zaa L (.add a b) t) (v:Value) (w:World) (hv:TrV w (fun _=>True) t v):Calls Tryz.prog 240 #[v] w (yas L (.add a b) w):=by
 have IH:=Lib.hid ih;clear ih;obtain ⟨⟨kind,neg,ds,name,exp,rel,truth,all⟩,ks⟩:=t;obtain ⟨hkind,t0,t1,hks,h0,h1⟩:=h;simp only [Tr.d] at hkind;simp only [Tr.ks] at hks;subst hkind hks;obtain ⟨A0,n0,c0,A,c,rfl,hnat,hc1,hc2,hat⟩:=hv.open_
 change ul w _ [t0,t1] A 0 at hat
 have HAT:=Lib.hid hat;clear hv hat hnat;unfold ndV;simp only [Tr.d,Tr.ks,List.length_cons,List.length_nil,Nat.zero_add,Nat.reduceAdd] at hc1 ⊢;have HIS:Hid (∀ i (hi:i < 2),zaa L ([a,b][i]'(by simpa using hi)) ([t0,t1][i]'(by simpa using hi))):=by
  intro i hi;rcases (show i=0\/i=1 by omega) with rfl | rfl
  · exact h0
  · exact h1
 clear h0 h1;have hsz':∀ i (hi:i < 2),([a,b][i]'(by simpa using hi)).sz < n:=by
  intro i hi;simp only [Tm.sz] at hsz;rcases (show i=0\/i=1 by omega) with rfl | rfl <;> simp <;> omega
 have HSZ:=Lib.hid hsz';clear hsz';go_enter Tryz.func240,Tryz.ntmps240;go_wp2_with fail
 go_loopw [40] (fun iv wr=>∃ k:Nat,k<=2/\iv=.int .i64 k/\Hid (vab L w (w.heap.size+1) w.heap.size (.cells #[.int .i64 3,.bool neg,.slice A0 n0 c0,.string name,.int .i64 exp,.int .i64 rel,.bool truth,.bool all,.slice A 2 c] 254) [a,b] k wr)) (fun iv _=>2 - (intOf iv).toNat)
 case atStart =>
  refine ⟨0,by omega,rfl,⟨((Ext.refl w).alloc _).alloc _,?_,.nilIface,.nilIface,?_,rfl,rfl,fun x hk=>absurd hk (by omega),fun x hk=>absurd hk (by omega)⟩⟩
  · rw [Below.heap_alloc _ _ _ (by simp)]; exact heap_alloc_new w _
  · have:=heap_alloc_new (w.alloc (.cells #[.int .i64 3,.bool neg,.slice A0 n0 c0,.string name,.int .i64 exp,.int .i64 rel,.bool truth,.bool all,.slice A 2 c] 254)) (.cells #[.nilIface,.nilIface] 307)
    rwa [World.size_alloc] at this
 case round =>
  obtain ⟨k,hk,rfl,hinv⟩:=hrel;have HINV:=Lib.hid hinv;have hwx:=hinv.1;have hat2:=HAT.out.ext hwx;have hb8:=hinv.2.1;clear hinv
  by_cases hlt:k < 2
  · obtain ⟨ad,B0,m0,d0,B1,m1,d1,rfl,hadb,⟨e0,e1,e2,e3,e4,e5,e6,e7,e8⟩,hkt⟩:=hat2.kid k (by simpa using hlt);have HKT:=Lib.hid hkt;clear hkt hat2 hb8 hwx;have hisk:=HIS.out k hlt;have hszk:=HSZ.out k hlt;have HISK:=Lib.hid hisk;have HXK:Hid (∃ x,[a,b][k]?=some x/\zaa L x ([t0,t1][k]'(by simpa using hlt))/\x.sz < n):=⟨_,List.getElem?_eq_getElem (by simpa using hlt),hisk,hszk⟩;clear hisk hszk HISK;generalize ([t0,t1][k]'(by simpa using hlt))=tk at *;obtain ⟨x,hxk,hisx,hszx⟩:=HXK;have HXK:=Lib.hid hxk;have HISX:=Lib.hid hisx;clear hxk hisx;go_wp2_with fail;refine (IH.out x tk hszx HISX.out _ _ (HKT.out.ext ((Ext.refl wr).alloc _))).mono ?_;rintro e w2 ⟨v2,rfl,htm,hx2⟩;have hinv2:=HINV.out.ext (((Ext.refl wr).alloc _).trans hx2);obtain ⟨T2,u2,rfl⟩:=htm.iface;obtain ⟨uk,ck,ik,fk⟩:=hinv2.cell k (by omega);have HNEXT:=Lib.hid (hinv2.put (u:=.iface T2 u2) (by omega) (by omega) (by omega) rfl (fun y hy=>by rw [HXK.out] at hy; injection hy with hy; subst hy; exact htm));clear hinv2 htm hx2 e0 e1 e2 e3 e4 e5 e6 e7 e8;go_wp2_with fail
    go_roundw
    case rel=>exact ⟨k+1,by omega,by go_num,HNEXT⟩
    case measure=>simp [intOf]; omega
  · clear hat2 hwx;have hk2:2<=k:=by omega
    obtain ⟨hwx,-,u0,u1,hpar,i0,i1,p0,p1⟩:=HINV.out;have c0:wr.cell? ⟨w.heap.size,0,none⟩=some (.int .i64 3):=by simp [World.cell?,hb8]
    have c4:wr.cell? ⟨w.heap.size,4,none⟩=some (.int .i64 exp):=by simp [World.cell?,hb8]
    have q0:wr.cell? ⟨w.heap.size+1,0,none⟩=some u0:=by simp [World.cell?,hpar]
    have q1:wr.cell? ⟨w.heap.size+1,1,none⟩=some u1:=by simp [World.cell?,hpar]
    have f0:=p0 a (by omega) rfl;obtain ⟨T0,u0,rfl⟩:=f0.iface;have f1:=p1 b (by omega) rfl;obtain ⟨T1,u1,rfl⟩:=f1.iface;have HFIN:Hid (TmV wr L (.add a b) (.iface 259 (.agg #[.iface T0 u0,.iface T1 u1]))):=⟨_,_,rfl,f0,f1⟩;clear f0 f1;have HWX:=Lib.hid hwx;clear hb8 hpar hwx HINV i0 i1 p0 p1;go_wp2_with fail
    go_ret2
    exact ⟨_,rfl,HFIN.out,HWX.out⟩
theorem ycn {L n:Nat} (ih:kau L n) {a b:Tm} (t:Tr) (hsz:(Tm.sub a b).sz < n+1) (h:zaa L (.sub a b) t) (v:Value) (w:World) (hv:TrV w (fun _=>True) t v):Calls Tryz.prog 240 #[v] w (yas L (.sub a b) w):=by
 have IH:=Lib.hid ih;clear ih;obtain ⟨⟨kind,neg,ds,name,exp,rel,truth,all⟩,ks⟩:=t;obtain ⟨hkind,t0,t1,hks,h0,h1⟩:=h;simp only [Tr.d] at hkind;simp only [Tr.ks] at hks;subst hkind hks;obtain ⟨A0,n0,c0,A,c,rfl,hnat,hc1,hc2,hat⟩:=hv.open_
 change ul w _ [t0,t1] A 0 at hat
 have HAT:=Lib.hid hat;clear hv hat hnat;unfold ndV;simp only [Tr.d,Tr.ks,List.length_cons,List.length_nil,Nat.zero_add,Nat.reduceAdd] at hc1 ⊢;have HIS:Hid (∀ i (hi:i < 2),zaa L ([a,b][i]'(by simpa using hi)) ([t0,t1][i]'(by simpa using hi))):=by
  intro i hi;rcases (show i=0\/i=1 by omega) with rfl | rfl
  · exact h0
  · exact h1
 clear h0 h1;have hsz':∀ i (hi:i < 2),([a,b][i]'(by simpa using hi)).sz < n:=by
  intro i hi;simp only [Tm.sz] at hsz;rcases (show i=0\/i=1 by omega) with rfl | rfl <;> simp <;> omega
 have HSZ:=Lib.hid hsz';clear hsz';go_enter Tryz.func240,Tryz.ntmps240;go_wp2_with fail
 go_loopw [40] (fun iv wr=>∃ k:Nat,k<=2/\iv=.int .i64 k/\Hid (vab L w (w.heap.size+1) w.heap.size (.cells #[.int .i64 4,.bool neg,.slice A0 n0 c0,.string name,.int .i64 exp,.int .i64 rel,.bool truth,.bool all,.slice A 2 c] 254) [a,b] k wr)) (fun iv _=>2 - (intOf iv).toNat)
 case atStart =>
  refine ⟨0,by omega,rfl,⟨((Ext.refl w).alloc _).alloc _,?_,.nilIface,.nilIface,?_,rfl,rfl,fun x hk=>absurd hk (by omega),fun x hk=>absurd hk (by omega)⟩⟩
  · rw [Below.heap_alloc _ _ _ (by simp)]; exact heap_alloc_new w _
  · have:=heap_alloc_new (w.alloc (.cells #[.int .i64 4,.bool neg,.slice A0 n0 c0,.string name,.int .i64 exp,.int .i64 rel,.bool truth,.bool all,.slice A 2 c] 254)) (.cells #[.nilIface,.nilIface] 307)
    rwa [World.size_alloc] at this
 case round =>
  obtain ⟨k,hk,rfl,hinv⟩:=hrel;have HINV:=Lib.hid hinv;have hwx:=hinv.1;have hat2:=HAT.out.ext hwx;have hb8:=hinv.2.1;clear hinv
  by_cases hlt:k < 2
  · obtain ⟨ad,B0,m0,d0,B1,m1,d1,rfl,hadb,⟨e0,e1,e2,e3,e4,e5,e6,e7,e8⟩,hkt⟩:=hat2.kid k (by simpa using hlt);have HKT:=Lib.hid hkt;clear hkt hat2 hb8 hwx;have hisk:=HIS.out k hlt;have hszk:=HSZ.out k hlt;have HISK:=Lib.hid hisk;have HXK:Hid (∃ x,[a,b][k]?=some x/\zaa L x ([t0,t1][k]'(by simpa using hlt))/\x.sz < n):=⟨_,List.getElem?_eq_getElem (by simpa using hlt),hisk,hszk⟩;clear hisk hszk HISK;generalize ([t0,t1][k]'(by simpa using hlt))=tk at *;obtain ⟨x,hxk,hisx,hszx⟩:=HXK;have HXK:=Lib.hid hxk;have HISX:=Lib.hid hisx;clear hxk hisx;go_wp2_with fail;refine (IH.out x tk hszx HISX.out _ _ (HKT.out.ext ((Ext.refl wr).alloc _))).mono ?_;rintro e w2 ⟨v2,rfl,htm,hx2⟩;have hinv2:=HINV.out.ext (((Ext.refl wr).alloc _).trans hx2);obtain ⟨T2,u2,rfl⟩:=htm.iface;obtain ⟨uk,ck,ik,fk⟩:=hinv2.cell k (by omega);have HNEXT:=Lib.hid (hinv2.put (u:=.iface T2 u2) (by omega) (by omega) (by omega) rfl (fun y hy=>by rw [HXK.out] at hy; injection hy with hy; subst hy; exact htm));clear hinv2 htm hx2 e0 e1 e2 e3 e4 e5 e6 e7 e8;go_wp2_with fail
    go_roundw
    case rel=>exact ⟨k+1,by omega,by go_num,HNEXT⟩
    case measure=>simp [intOf]; omega
  · clear hat2 hwx;have hk2:2<=k:=by omega
    obtain ⟨hwx,-,u0,u1,hpar,i0,i1,p0,p1⟩:=HINV.out;have c0:wr.cell? ⟨w.heap.size,0,none⟩=some (.int .i64 4):=by simp [World.cell?,hb8]
    have c4:wr.cell? ⟨w.heap.size,4,none⟩=some (.int .i64 exp):=by simp [World.cell?,hb8]
    have q0:wr.cell? ⟨w.heap.size+1,0,none⟩=some u0:=by simp [World.cell?,hpar]
    have q1:wr.cell? ⟨w.heap.size+1,1,none⟩=some u1:=by simp [World.cell?,hpar]
    have f0:=p0 a (by omega) rfl;obtain ⟨T0,u0,rfl⟩:=f0.iface;have f1:=p1 b (by omega) rfl;obtain ⟨T1,u1,rfl⟩:=f1.iface;have HFIN:Hid (TmV wr L (.sub a b) (.iface 260 (.agg #[.iface T0 u0,.iface T1 u1]))):=⟨_,_,rfl,f0,f1⟩;clear f0 f1;have HWX:=Lib.hid hwx;clear hb8 hpar hwx HINV i0 i1 p0 p1;go_wp2_with fail
    go_ret2
    exact ⟨_,rfl,HFIN.out,HWX.out⟩
theorem kcn {L n:Nat} (ih:kau L n) {a b:Tm} (t:Tr) (hsz:(Tm.mul a b).sz < n+1) (h:zaa L (.mul a b) t) (v:Value) (w:World) (hv:TrV w (fun _=>True) t v):Calls Tryz.prog 240 #[v] w (yas L (.mul a b) w):=by
 have IH:=Lib.hid ih;clear ih;obtain ⟨⟨kind,neg,ds,name,exp,rel,truth,all⟩,ks⟩:=t;obtain ⟨hkind,t0,t1,hks,h0,h1⟩:=h;simp only [Tr.d] at hkind;simp only [Tr.ks] at hks;subst hkind hks;obtain ⟨A0,n0,c0,A,c,rfl,hnat,hc1,hc2,hat⟩:=hv.open_
 change ul w _ [t0,t1] A 0 at hat
 have HAT:=Lib.hid hat;clear hv hat hnat;unfold ndV;simp only [Tr.d,Tr.ks,List.length_cons,List.length_nil,Nat.zero_add,Nat.reduceAdd] at hc1 ⊢;have HIS:Hid (∀ i (hi:i < 2),zaa L ([a,b][i]'(by simpa using hi)) ([t0,t1][i]'(by simpa using hi))):=by
  intro i hi;rcases (show i=0\/i=1 by omega) with rfl | rfl
  · exact h0
  · exact h1
 clear h0 h1;have hsz':∀ i (hi:i < 2),([a,b][i]'(by simpa using hi)).sz < n:=by
  intro i hi;simp only [Tm.sz] at hsz;rcases (show i=0\/i=1 by omega) with rfl | rfl <;> simp <;> omega
 have HSZ:=Lib.hid hsz';clear hsz';go_enter Tryz.func240,Tryz.ntmps240;go_wp2_with fail
 go_loopw [40] (fun iv wr=>∃ k:Nat,k<=2/\iv=.int .i64 k/\Hid (vab L w (w.heap.size+1) w.heap.size (.cells #[.int .i64 5,.bool neg,.slice A0 n0 c0,.string name,.int .i64 exp,.int .i64 rel,.bool truth,.bool all,.slice A 2 c] 254) [a,b] k wr)) (fun iv _=>2 - (intOf iv).toNat)
 case atStart =>
  refine ⟨0,by omega,rfl,⟨((Ext.refl w).alloc _).alloc _,?_,.nilIface,.nilIface,?_,rfl,rfl,fun x hk=>absurd hk (by omega),fun x hk=>absurd hk (by omega)⟩⟩
  · rw [Below.heap_alloc _ _ _ (by simp)]; exact heap_alloc_new w _
  · have:=heap_alloc_new (w.alloc (.cells #[.int .i64 5,.bool neg,.slice A0 n0 c0,.string name,.int .i64 exp,.int .i64 rel,.bool truth,.bool all,.slice A 2 c] 254)) (.cells #[.nilIface,.nilIface] 307)
    rwa [World.size_alloc] at this
 case round =>
  obtain ⟨k,hk,rfl,hinv⟩:=hrel;have HINV:=Lib.hid hinv;have hwx:=hinv.1;have hat2:=HAT.out.ext hwx;have hb8:=hinv.2.1;clear hinv
  by_cases hlt:k < 2
  · obtain ⟨ad,B0,m0,d0,B1,m1,d1,rfl,hadb,⟨e0,e1,e2,e3,e4,e5,e6,e7,e8⟩,hkt⟩:=hat2.kid k (by simpa using hlt);have HKT:=Lib.hid hkt;clear hkt hat2 hb8 hwx;have hisk:=HIS.out k hlt;have hszk:=HSZ.out k hlt;have HISK:=Lib.hid hisk;have HXK:Hid (∃ x,[a,b][k]?=some x/\zaa L x ([t0,t1][k]'(by simpa using hlt))/\x.sz < n):=⟨_,List.getElem?_eq_getElem (by simpa using hlt),hisk,hszk⟩;clear hisk hszk HISK;generalize ([t0,t1][k]'(by simpa using hlt))=tk at *;obtain ⟨x,hxk,hisx,hszx⟩:=HXK;have HXK:=Lib.hid hxk;have HISX:=Lib.hid hisx;clear hxk hisx;go_wp2_with fail;refine (IH.out x tk hszx HISX.out _ _ (HKT.out.ext ((Ext.refl wr).alloc _))).mono ?_;rintro e w2 ⟨v2,rfl,htm,hx2⟩;have hinv2:=HINV.out.ext (((Ext.refl wr).alloc _).trans hx2);obtain ⟨T2,u2,rfl⟩:=htm.iface;obtain ⟨uk,ck,ik,fk⟩:=hinv2.cell k (by omega);have HNEXT:=Lib.hid (hinv2.put (u:=.iface T2 u2) (by omega) (by omega) (by omega) rfl (fun y hy=>by rw [HXK.out] at hy; injection hy with hy; subst hy; exact htm));clear hinv2 htm hx2 e0 e1 e2 e3 e4 e5 e6 e7 e8;go_wp2_with fail
    go_roundw
    case rel=>exact ⟨k+1,by omega,by go_num,HNEXT⟩
    case measure=>simp [intOf]; omega
  · clear hat2 hwx;have hk2:2<=k:=by omega
    obtain ⟨hwx,-,u0,u1,hpar,i0,i1,p0,p1⟩:=HINV.out;have c0:wr.cell? ⟨w.heap.size,0,none⟩=some (.int .i64 5):=by simp [World.cell?,hb8]
    have c4:wr.cell? ⟨w.heap.size,4,none⟩=some (.int .i64 exp):=by simp [World.cell?,hb8]
    have q0:wr.cell? ⟨w.heap.size+1,0,none⟩=some u0:=by simp [World.cell?,hpar]
    have q1:wr.cell? ⟨w.heap.size+1,1,none⟩=some u1:=by simp [World.cell?,hpar]
    have f0:=p0 a (by omega) rfl;obtain ⟨T0,u0,rfl⟩:=f0.iface;have f1:=p1 b (by omega) rfl;obtain ⟨T1,u1,rfl⟩:=f1.iface;have HFIN:Hid (TmV wr L (.mul a b) (.iface 261 (.agg #[.iface T0 u0,.iface T1 u1]))):=⟨_,_,rfl,f0,f1⟩;clear f0 f1;have HWX:=Lib.hid hwx;clear hb8 hpar hwx HINV i0 i1 p0 p1;go_wp2_with fail
    go_ret2
    exact ⟨_,rfl,HFIN.out,HWX.out⟩
theorem jcn {L n:Nat} (ih:kau L n) {a:Tm} (t:Tr) (hsz:(Tm.neg a).sz < n+1) (h:zaa L (.neg a) t) (v:Value) (w:World) (hv:TrV w (fun _=>True) t v):Calls Tryz.prog 240 #[v] w (yas L (.neg a) w):=by
 have IH:=Lib.hid ih;clear ih;obtain ⟨⟨kind,neg,ds,name,exp,rel,truth,all⟩,ks⟩:=t;obtain ⟨hkind,t0,hks,h0⟩:=h;simp only [Tr.d] at hkind;simp only [Tr.ks] at hks;subst hkind hks;obtain ⟨A0,n0,c0,A,c,rfl,hnat,hc1,hc2,hat⟩:=hv.open_
 change ul w _ [t0] A 0 at hat
 have HAT:=Lib.hid hat;clear hv hat hnat;unfold ndV;simp only [Tr.d,Tr.ks,List.length_cons,List.length_nil,Nat.zero_add,Nat.reduceAdd] at hc1 ⊢;have HIS:Hid (∀ i (hi:i < 1),zaa L ([a][i]'(by simpa using hi)) ([t0][i]'(by simpa using hi))):=by
  intro i hi;obtain rfl:i=0:=by omega
  exact h0
 clear h0;have hsz':∀ i (hi:i < 1),([a][i]'(by simpa using hi)).sz < n:=by
  intro i hi;simp only [Tm.sz] at hsz;obtain rfl:i=0:=by omega
  simp; omega
 have HSZ:=Lib.hid hsz';clear hsz';go_enter Tryz.func240,Tryz.ntmps240;go_wp2_with fail
 go_loopw [40] (fun iv wr=>∃ k:Nat,k<=1/\iv=.int .i64 k/\Hid (vab L w (w.heap.size+1) w.heap.size (.cells #[.int .i64 6,.bool neg,.slice A0 n0 c0,.string name,.int .i64 exp,.int .i64 rel,.bool truth,.bool all,.slice A 1 c] 254) [a] k wr)) (fun iv _=>1 - (intOf iv).toNat)
 case atStart =>
  refine ⟨0,by omega,rfl,⟨((Ext.refl w).alloc _).alloc _,?_,.nilIface,.nilIface,?_,rfl,rfl,fun x hk=>absurd hk (by omega),fun x hk=>absurd hk (by omega)⟩⟩
  · rw [Below.heap_alloc _ _ _ (by simp)]; exact heap_alloc_new w _
  · have:=heap_alloc_new (w.alloc (.cells #[.int .i64 6,.bool neg,.slice A0 n0 c0,.string name,.int .i64 exp,.int .i64 rel,.bool truth,.bool all,.slice A 1 c] 254)) (.cells #[.nilIface,.nilIface] 307)
    rwa [World.size_alloc] at this
 case round =>
  obtain ⟨k,hk,rfl,hinv⟩:=hrel;have HINV:=Lib.hid hinv;have hwx:=hinv.1;have hat2:=HAT.out.ext hwx;have hb8:=hinv.2.1;clear hinv
  by_cases hlt:k < 1
  · obtain ⟨ad,B0,m0,d0,B1,m1,d1,rfl,hadb,⟨e0,e1,e2,e3,e4,e5,e6,e7,e8⟩,hkt⟩:=hat2.kid k (by simpa using hlt);have HKT:=Lib.hid hkt;clear hkt hat2 hb8 hwx;have hisk:=HIS.out k hlt;have hszk:=HSZ.out k hlt;have HISK:=Lib.hid hisk;have HXK:Hid (∃ x,[a][k]?=some x/\zaa L x ([t0][k]'(by simpa using hlt))/\x.sz < n):=⟨_,List.getElem?_eq_getElem (by simpa using hlt),hisk,hszk⟩;clear hisk hszk HISK;generalize ([t0][k]'(by simpa using hlt))=tk at *;obtain ⟨x,hxk,hisx,hszx⟩:=HXK;have HXK:=Lib.hid hxk;have HISX:=Lib.hid hisx;clear hxk hisx;go_wp2_with fail;refine (IH.out x tk hszx HISX.out _ _ (HKT.out.ext ((Ext.refl wr).alloc _))).mono ?_;rintro e w2 ⟨v2,rfl,htm,hx2⟩;have hinv2:=HINV.out.ext (((Ext.refl wr).alloc _).trans hx2);obtain ⟨T2,u2,rfl⟩:=htm.iface;obtain ⟨uk,ck,ik,fk⟩:=hinv2.cell k (by omega);have HNEXT:=Lib.hid (hinv2.put (u:=.iface T2 u2) (by omega) (by omega) (by omega) rfl (fun y hy=>by rw [HXK.out] at hy; injection hy with hy; subst hy; exact htm));clear hinv2 htm hx2 e0 e1 e2 e3 e4 e5 e6 e7 e8;go_wp2_with fail
    go_roundw
    case rel=>exact ⟨k+1,by omega,by go_num,HNEXT⟩
    case measure=>simp [intOf]; omega
  · clear hat2 hwx;have hk2:1<=k:=by omega
    obtain ⟨hwx,-,u0,u1,hpar,i0,i1,p0,p1⟩:=HINV.out;have c0:wr.cell? ⟨w.heap.size,0,none⟩=some (.int .i64 6):=by simp [World.cell?,hb8]
    have c4:wr.cell? ⟨w.heap.size,4,none⟩=some (.int .i64 exp):=by simp [World.cell?,hb8]
    have q0:wr.cell? ⟨w.heap.size+1,0,none⟩=some u0:=by simp [World.cell?,hpar]
    have q1:wr.cell? ⟨w.heap.size+1,1,none⟩=some u1:=by simp [World.cell?,hpar]
    have f0:=p0 a (by omega) rfl;obtain ⟨T0,u0,rfl⟩:=f0.iface;have HFIN:Hid (TmV wr L (.neg a) (.iface 257 (.agg #[.iface T0 u0]))):=⟨_,rfl,f0⟩;clear f0;have HWX:=Lib.hid hwx;clear hb8 hpar hwx HINV i0 i1 p0 p1;go_wp2_with fail
    go_ret2
    exact ⟨_,rfl,HFIN.out,HWX.out⟩
theorem xcn {L n:Nat} (ih:kau L n) {a:Tm} {ex:Int} (t:Tr) (hsz:(Tm.pow a ex).sz < n+1) (h:zaa L (.pow a ex) t) (v:Value) (w:World) (hv:TrV w (fun _=>True) t v):Calls Tryz.prog 240 #[v] w (yas L (.pow a ex) w):=by
 have IH:=Lib.hid ih;clear ih;obtain ⟨⟨kind,neg,ds,name,exp,rel,truth,all⟩,ks⟩:=t;obtain ⟨hkind,hexp,hpos,t0,hks,h0⟩:=h;simp only [Tr.d] at hexp;subst hexp;have hpd:decide (exp < 0)=false:=by simpa using hpos
 simp only [Tr.d] at hkind;simp only [Tr.ks] at hks;subst hkind hks;obtain ⟨A0,n0,c0,A,c,rfl,hnat,hc1,hc2,hat⟩:=hv.open_
 change ul w _ [t0] A 0 at hat
 have HAT:=Lib.hid hat;clear hv hat hnat;unfold ndV;simp only [Tr.d,Tr.ks,List.length_cons,List.length_nil,Nat.zero_add,Nat.reduceAdd] at hc1 ⊢;have HIS:Hid (∀ i (hi:i < 1),zaa L ([a][i]'(by simpa using hi)) ([t0][i]'(by simpa using hi))):=by
  intro i hi;obtain rfl:i=0:=by omega
  exact h0
 clear h0;have hsz':∀ i (hi:i < 1),([a][i]'(by simpa using hi)).sz < n:=by
  intro i hi;simp only [Tm.sz] at hsz;obtain rfl:i=0:=by omega
  simp; omega
 have HSZ:=Lib.hid hsz';clear hsz';go_enter Tryz.func240,Tryz.ntmps240;go_wp2_with fail
 go_loopw [40] (fun iv wr=>∃ k:Nat,k<=1/\iv=.int .i64 k/\Hid (vab L w (w.heap.size+1) w.heap.size (.cells #[.int .i64 7,.bool neg,.slice A0 n0 c0,.string name,.int .i64 exp,.int .i64 rel,.bool truth,.bool all,.slice A 1 c] 254) [a] k wr)) (fun iv _=>1 - (intOf iv).toNat)
 case atStart =>
  refine ⟨0,by omega,rfl,⟨((Ext.refl w).alloc _).alloc _,?_,.nilIface,.nilIface,?_,rfl,rfl,fun x hk=>absurd hk (by omega),fun x hk=>absurd hk (by omega)⟩⟩
  · rw [Below.heap_alloc _ _ _ (by simp)]; exact heap_alloc_new w _
  · have:=heap_alloc_new (w.alloc (.cells #[.int .i64 7,.bool neg,.slice A0 n0 c0,.string name,.int .i64 exp,.int .i64 rel,.bool truth,.bool all,.slice A 1 c] 254)) (.cells #[.nilIface,.nilIface] 307)
    rwa [World.size_alloc] at this
 case round =>
  obtain ⟨k,hk,rfl,hinv⟩:=hrel;have HINV:=Lib.hid hinv;have hwx:=hinv.1;have hat2:=HAT.out.ext hwx;have hb8:=hinv.2.1;clear hinv
  by_cases hlt:k < 1
  · obtain ⟨ad,B0,m0,d0,B1,m1,d1,rfl,hadb,⟨e0,e1,e2,e3,e4,e5,e6,e7,e8⟩,hkt⟩:=hat2.kid k (by simpa using hlt);have HKT:=Lib.hid hkt;clear hkt hat2 hb8 hwx;have hisk:=HIS.out k hlt;have hszk:=HSZ.out k hlt;have HISK:=Lib.hid hisk;have HXK:Hid (∃ x,[a][k]?=some x/\zaa L x ([t0][k]'(by simpa using hlt))/\x.sz < n):=⟨_,List.getElem?_eq_getElem (by simpa using hlt),hisk,hszk⟩;clear hisk hszk HISK;generalize ([t0][k]'(by simpa using hlt))=tk at *;obtain ⟨x,hxk,hisx,hszx⟩:=HXK;have HXK:=Lib.hid hxk;have HISX:=Lib.hid hisx;clear hxk hisx;go_wp2_with fail;refine (IH.out x tk hszx HISX.out _ _ (HKT.out.ext ((Ext.refl wr).alloc _))).mono ?_;rintro e w2 ⟨v2,rfl,htm,hx2⟩;have hinv2:=HINV.out.ext (((Ext.refl wr).alloc _).trans hx2);obtain ⟨T2,u2,rfl⟩:=htm.iface;obtain ⟨uk,ck,ik,fk⟩:=hinv2.cell k (by omega);have HNEXT:=Lib.hid (hinv2.put (u:=.iface T2 u2) (by omega) (by omega) (by omega) rfl (fun y hy=>by rw [HXK.out] at hy; injection hy with hy; subst hy; exact htm));clear hinv2 htm hx2 e0 e1 e2 e3 e4 e5 e6 e7 e8;go_wp2_with fail
    go_roundw
    case rel=>exact ⟨k+1,by omega,by go_num,HNEXT⟩
    case measure=>simp [intOf]; omega
  · clear hat2 hwx;have hk2:1<=k:=by omega
    obtain ⟨hwx,-,u0,u1,hpar,i0,i1,p0,p1⟩:=HINV.out;have c0:wr.cell? ⟨w.heap.size,0,none⟩=some (.int .i64 7):=by simp [World.cell?,hb8]
    have c4:wr.cell? ⟨w.heap.size,4,none⟩=some (.int .i64 exp):=by simp [World.cell?,hb8]
    have q0:wr.cell? ⟨w.heap.size+1,0,none⟩=some u0:=by simp [World.cell?,hpar]
    have q1:wr.cell? ⟨w.heap.size+1,1,none⟩=some u1:=by simp [World.cell?,hpar]
    have f0:=p0 a (by omega) rfl;obtain ⟨T0,u0,rfl⟩:=f0.iface;have HFIN:Hid (TmV wr L (.pow a exp) (.iface 264 (.agg #[.iface T0 u0,.int .i64 exp]))):=⟨_,rfl,f0⟩;clear f0;have HWX:=Lib.hid hwx;clear hb8 hpar hwx HINV i0 i1 p0 p1;go_wp2_with fail
    go_ret2
    exact ⟨_,rfl,HFIN.out,HWX.out⟩
theorem gce {L n:Nat} (ih:kau L n) {s:ByteArray} (t:Tr) (hsz:(Tm.name s).sz < n+1) (h:zaa L (.name s) t) (v:Value) (w:World) (hv:TrV w (fun _=>True) t v):Calls Tryz.prog 240 #[v] w (yas L (.name s) w):=by
 have IH:=Lib.hid ih;clear ih;obtain ⟨⟨kind,neg,ds,name,exp,rel,truth,all⟩,ks⟩:=t;obtain ⟨hkind,hks,hname⟩:=h;simp only [Tr.d] at hname;subst hname;simp only [Tr.d] at hkind;simp only [Tr.ks] at hks;subst hkind hks;obtain ⟨A0,n0,c0,A,c,rfl,hnat,hc1,hc2,hat⟩:=hv.open_
 change ul w _ [] A 0 at hat
 have HAT:=Lib.hid hat;clear hv hat;unfold ndV;simp only [Tr.d,Tr.ks,List.length_cons,List.length_nil,Nat.zero_add,Nat.reduceAdd] at hc1 ⊢;go_enter Tryz.func240,Tryz.ntmps240;go_wp2_with fail;refine wp_loop_rounds 1 ?_;rw [rounds_succ];go_wp2_with fail
 go_ret2
 exact ⟨_,rfl,rfl,((Ext.refl w).alloc _).alloc _⟩
theorem qcn {L n:Nat} (hL:L<=35184372088000) (ih:kau L n) {z:Int} (t:Tr) (hsz:(Tm.num z).sz < n+1) (h:zaa L (.num z) t) (v:Value) (w:World) (hv:TrV w (fun _=>True) t v):Calls Tryz.prog 240 #[v] w (yas L (.num z) w):=by
 have IH:=Lib.hid ih;clear ih;obtain ⟨⟨kind,neg,ds,name,exp,rel,truth,all⟩,ks⟩:=t;obtain ⟨hkind,hks,hz,hlen⟩:=h;simp only [Tr.d] at hz hlen;simp only [Tr.d] at hkind;simp only [Tr.ks] at hks;subst hkind hks;obtain ⟨A0,n0,c0,A,c,rfl,hnat,hc1,hc2,hat⟩:=hv.open_
 change ul w _ [] A 0 at hat
 have HAT:=Lib.hid hat;clear hv hat;unfold ndV;simp only [Tr.d,Tr.ks,List.length_cons,List.length_nil,Nat.zero_add,Nat.reduceAdd] at hc1 ⊢;go_enter Tryz.func240,Tryz.ntmps240;go_wp2_with fail;refine wp_loop_rounds 1 ?_;rw [rounds_succ];go_wp2_with fail;obtain ⟨W,hW⟩:∃ W,(w.alloc (.cells #[.int .i64 1,.bool neg,.slice A0 n0 c0,.string name,.int .i64 exp,.int .i64 rel,.bool truth,.bool all,.slice A 0 c] 254)).alloc (.cells #[.nilIface,.nilIface] 307)=W:=⟨_,rfl⟩;have hWx:Ext w W:=by rw [<- hW]; exact ((Ext.refl w).alloc _).alloc _
 rw [hW];clear hW;have hint:yh W (.agg #[.bool neg,.slice A0 n0 c0]) z L:=⟨neg,_,ds,rfl,hnat.ext hWx,hz,hlen⟩;refine (gak _ z L _ hint (by omega)).mono ?_;rintro e w1 ⟨x1,rfl,m1,y1⟩;have HFIN:Hid (TmV w1 L (.num z) (.iface 105 x1)):=⟨x1,rfl,m1.raw.mono (by rw [hz,jr]; exact Nat.le_trans (ve hnat.digs) hlen)⟩;have HX:=Lib.hid (hWx.trans y1);obtain ⟨b1,A1,n1,c1,rfl⟩:=m1.unpack;clear hint hz hnat hWx m1 y1;go_wp2_with fail
 go_ret2
 exact ⟨_,rfl,HFIN.out,HX.out⟩
theorem qcv (L:Nat) (hL:L<=35184372088000) (n:Nat):kau L n:=by
 induction n with
 | zero=>intro m t h; omega
 | succ n ih =>
   intro m t hsz h v w hv;cases m with
   | num z=>exact qcn hL ih t hsz h v w hv
   | name s=>exact gce ih t hsz h v w hv
   | add a b=>exact vcn ih t hsz h v w hv
   | sub a b=>exact ycn ih t hsz h v w hv
   | mul a b=>exact kcn ih t hsz h v w hv
   | neg a=>exact jcn ih t hsz h v w hv
   | pow a e=>exact xcn ih t hsz h v w hv
theorem za8 {L:Nat} (hL:L<=35184372088000) (m:Tm) (t:Tr) (h:zaa L m t) (v:Value) (w:World) {p:Nat->Prop} (hv:TrV w p t v):Calls Tryz.prog 240 #[v] w (yas L m w):=
 qcv L hL (m.sz+1) m t (Nat.lt_succ_self _) h v w (hv.mono fun _ _=>trivial)
end Go.Proofs.YtcfcjabgkfehlaaGreat

/- Layer 34: formula.Of: the formula of a tree. -/
set_option maxRecDepth 100000
set_option maxHeartbeats 8000000
namespace Go.Proofs.YtcfcjabgkfehlaaGreat
open Go.RowKit
def yab (L : Nat) : Fm -> Tr -> Prop
 | .truth b,t=>t.d.kind=8/\t.ks=[]/\t.d.truth=b
 | .atom l r k,t=>t.d.kind=9/\t.d.rel=r/\1<=r/\r<=6/\∃ x y,t.ks=[x,y]/\zaa L l x/\zaa L k y
 | .not f,t=>t.d.kind=10/\∃ x,t.ks=[x]/\yab L f x
 | .and f g,t=>t.d.kind=11/\∃ x y,t.ks=[x,y]/\yab L f x/\yab L g y
 | .or f g,t=>t.d.kind=12/\∃ x y,t.ks=[x,y]/\yab L f x/\yab L g y
 | .imp f g,t=>t.d.kind=13/\∃ x y,t.ks=[x,y]/\yab L f x/\yab L g y
 | .iff f g,t=>t.d.kind=14/\∃ x y,t.ks=[x,y]/\yab L f x/\yab L g y
 | .quant a s f,t=>t.d.kind=15/\t.d.all=a/\t.d.name=s/\∃ x,t.ks=[x]/\yab L f x
def wae (L:Nat) (f:Fm) (w:World) (e:Ending) (w':World):Prop:=∃ v,e=.returned (.tuple #[v,.int .i64 0])/\FmV w' L f v/\Ext w w'
def kam (L n:Nat):Prop:=∀ (f:Fm) (t:Tr),f.sz < n->yab L f t->∀ (v:Value) (w:World),TrV w (fun _=>True) t v->Calls Tryz.prog 192 #[v] w (wae L f w)
theorem ul.kid0 {w:World} {p:Nat->Prop} {l:List Tr} {A:Option Addr} (h:ul w p l A 0) (hk:0 < l.length):∃ ad A0 n0 c0 A1 n1 c1,A=some ad/\ad.block < w.heap.size/\xak w ad l[0].d (.slice A0 n0 c0) (.slice A1 n1 c1)/\TrV w p l[0] (ndV l[0].d (.slice A0 n0 c0) (.slice A1 n1 c1)):=by
 obtain ⟨ad,A0,n0,c0,A1,n1,c1,e,hb,h1,h2⟩:=h.kid 0 hk;exact ⟨ad,A0,n0,c0,A1,n1,c1,e,hb,h1,h2⟩
theorem xak.nine {w:World} {ad:Addr} {d:Nd} {s A:Value} (h:xak w (ad.add (1 * 9)) d s A):w.cell? ⟨ad.block,ad.off+9,none⟩=some (.int .i64 d.kind)/\w.cell? ⟨ad.block,ad.off+9+1,none⟩=some (.bool d.neg)/\w.cell? ⟨ad.block,ad.off+9+2,none⟩=some s/\w.cell? ⟨ad.block,ad.off+9+3,none⟩=some (.string d.name)/\w.cell? ⟨ad.block,ad.off+9+4,none⟩=some (.int .i64 d.exp)/\w.cell? ⟨ad.block,ad.off+9+5,none⟩=some (.int .i64 d.rel)/\w.cell? ⟨ad.block,ad.off+9+6,none⟩=some (.bool d.truth)/\w.cell? ⟨ad.block,ad.off+9+7,none⟩=some (.bool d.all)/\w.cell? ⟨ad.block,ad.off+9+8,none⟩=some A:=h
theorem jco {L n:Nat} (ih:kam L n) {f g:Fm} (t:Tr) (hsz:(Fm.and f g).sz < n+1) (h:yab L (.and f g) t) (v:Value) (w:World) (hv:TrV w (fun _=>True) t v):Calls Tryz.prog 227 #[v] w (wae L (.and f g) w):=by
 have IH:=Lib.hid ih;clear ih;obtain ⟨⟨kind,neg,ds,name,exp,rel,truth,all⟩,ks⟩:=t;obtain ⟨hkind,t0,t1,hks,h0,h1⟩:=h;simp only [Tr.d] at hkind;simp only [Tr.ks] at hks;subst hkind hks;simp only [Fm.sz] at hsz;obtain ⟨A0,n0,c0,A,c,rfl,hnat,hc1,hc2,hat⟩:=hv.open_
 change ul w _ [t0,t1] A 0 at hat
 have HAT:=Lib.hid hat;clear hv hat hnat;unfold ndV;simp only [Tr.d,Tr.ks,List.length_cons,List.length_nil,Nat.zero_add,Nat.reduceAdd] at hc1 ⊢;obtain ⟨W,hW⟩:∃ W,w.alloc (.cells #[.int .i64 11,.bool neg,.slice A0 n0 c0,.string name,.int .i64 exp,.int .i64 rel,.bool truth,.bool all,.slice A 2 c] 254)=W:=⟨_,rfl⟩;have hWx:Ext w W:=by rw [<- hW]; exact (Ext.refl w).alloc _
 have hbx:W.heap[w.heap.size]?=some (.cells #[.int .i64 11,.bool neg,.slice A0 n0 c0,.string name,.int .i64 exp,.int .i64 rel,.bool truth,.bool all,.slice A 2 c] 254):=by rw [<- hW]; exact heap_alloc_new w _
 have hws:w.heap.size < W.heap.size:=by rw [<- hW]; simp
 have b0W:W.cell? ⟨w.heap.size,0,none⟩=some (.int .i64 11):=by simp [World.cell?,hbx]
 have b3W:W.cell? ⟨w.heap.size,3,none⟩=some (.string name):=by simp [World.cell?,hbx]
 have b5W:W.cell? ⟨w.heap.size,5,none⟩=some (.int .i64 rel):=by simp [World.cell?,hbx]
 have b7W:W.cell? ⟨w.heap.size,7,none⟩=some (.bool all):=by simp [World.cell?,hbx]
 have b8W:W.cell? ⟨w.heap.size,8,none⟩=some (.slice A 2 c):=by simp [World.cell?,hbx]
 obtain ⟨ad,B0,m0,d0,B1,m1,d1',hA,hadb,⟨e0,e1,e2,e3,e4,e5,e6,e7,e8⟩,hkt⟩:=(HAT.out.ext hWx).kid0 (by simp);subst hA;have HKT:=Lib.hid hkt;have HWX:=Lib.hid hWx;have HBX:=Lib.hid hbx;clear hkt hWx hbx;simp only [List.getElem_cons_zero] at e0 e1 e3 e4 e5 e6 e7;go_enter Tryz.func227,Tryz.ntmps227;go_wp2_with fail;refine (IH.out f t0 (by omega) h0 _ _ HKT.out).mono ?_;rintro e w1 ⟨v1,rfl,f1,x1⟩;have F1:=Lib.hid f1;obtain ⟨T1,u1,rfl⟩:=f1.iface;clear f1 b0W b3W b5W b7W b8W e0 e1 e2 e3 e4 e5 e6 e7 e8;have X1:=Lib.hid x1;have hbx_w1:w1.heap[w.heap.size]?=some (.cells #[.int .i64 11,.bool neg,.slice A0 n0 c0,.string name,.int .i64 exp,.int .i64 rel,.bool truth,.bool all,.slice (some ad) 2 c] 254):=(x1.below.block _ hws).trans HBX.out;have b0w1:w1.cell? ⟨w.heap.size,0,none⟩=some (.int .i64 11):=by simp [World.cell?,hbx_w1]
 have b3w1:w1.cell? ⟨w.heap.size,3,none⟩=some (.string name):=by simp [World.cell?,hbx_w1]
 have b5w1:w1.cell? ⟨w.heap.size,5,none⟩=some (.int .i64 rel):=by simp [World.cell?,hbx_w1]
 have b7w1:w1.cell? ⟨w.heap.size,7,none⟩=some (.bool all):=by simp [World.cell?,hbx_w1]
 have b8w1:w1.cell? ⟨w.heap.size,8,none⟩=some (.slice (some ad) 2 c):=by simp [World.cell?,hbx_w1]
 obtain ⟨ad',B0,m0,d0,B1,m1,d1',hA,hadb,hnd,hkt⟩:=(HAT.out.ext (HWX.out.trans X1.out)).kid 1 (by simp);obtain ⟨e0,e1,e2,e3,e4,e5,e6,e7,e8⟩:=hnd.nine;clear hnd;injection hA with hA
 subst hA;have HKT2:=Lib.hid hkt;simp only [List.getElem_cons_succ,List.getElem_cons_zero] at e0 e1 e3 e4 e5 e6 e7;clear hkt x1 hbx_w1;go_wp2_with fail;refine (IH.out g t1 (by omega) h1 _ _ HKT2.out).mono ?_;rintro e w2 ⟨v2,rfl,f2,x2⟩;have F2:=Lib.hid f2;obtain ⟨T2,u2,rfl⟩:=f2.iface;clear f2 b0w1 b3w1 b5w1 b7w1 b8w1 e0 e1 e2 e3 e4 e5 e6 e7 e8;have X2:=Lib.hid (X1.out.trans x2);have hbx_w2:w2.heap[w.heap.size]?=some (.cells #[.int .i64 11,.bool neg,.slice A0 n0 c0,.string name,.int .i64 exp,.int .i64 rel,.bool truth,.bool all,.slice (some ad) 2 c] 254):=(X2.out.below.block _ hws).trans HBX.out;have F1':=Lib.hid (F1.out.ext x2);have b0w2:w2.cell? ⟨w.heap.size,0,none⟩=some (.int .i64 11):=by simp [World.cell?,hbx_w2]
 have b3w2:w2.cell? ⟨w.heap.size,3,none⟩=some (.string name):=by simp [World.cell?,hbx_w2]
 have b5w2:w2.cell? ⟨w.heap.size,5,none⟩=some (.int .i64 rel):=by simp [World.cell?,hbx_w2]
 have b7w2:w2.cell? ⟨w.heap.size,7,none⟩=some (.bool all):=by simp [World.cell?,hbx_w2]
 have b8w2:w2.cell? ⟨w.heap.size,8,none⟩=some (.slice (some ad) 2 c):=by simp [World.cell?,hbx_w2]
 clear x2 hbx_w2;have HFIN:Hid (FmV w2 L (.and f g) (.iface 223 (.agg #[.iface T1 u1,.iface T2 u2]))):=⟨_,_,rfl,F1'.out,F2.out⟩;have HX:=Lib.hid (HWX.out.trans X2.out);go_wp2_with fail
 go_ret2
 exact ⟨_,rfl,HFIN.out,HX.out⟩
theorem zco {L n:Nat} (ih:kam L n) {f g:Fm} (t:Tr) (hsz:(Fm.and f g).sz < n+1) (h:yab L (.and f g) t) (v:Value) (w:World) (hv:TrV w (fun _=>True) t v):Calls Tryz.prog 192 #[v] w (wae L (.and f g) w):=by
 have H:=Lib.hid (fun w' (hx:Ext w w')=>jco ih t hsz h v w' (hv.ext hx));have hkind:t.d.kind=11:=h.1;clear h ih hsz;obtain ⟨⟨kind,neg,ds,name,exp,rel,truth,all⟩,ks⟩:=t;simp only [Tr.d] at hkind;subst hkind;obtain ⟨A0,n0,c0,A,c,rfl,hnat,hc1,hc2,hat⟩:=hv.open_;clear hv hat hnat hc1 hc2;unfold ndV at H ⊢;simp only [Tr.d,Tr.ks] at H ⊢;go_enter Tryz.func192,Tryz.ntmps192;go_wp2_with fail;refine (H.out _ ((Ext.refl w).alloc _)).mono ?_;rintro e w1 ⟨v1,rfl,f1,x1⟩;have F1:=Lib.hid f1;have X1:=Lib.hid (((Ext.refl w).alloc _).trans x1);obtain ⟨T1,u1,rfl⟩:=f1.iface;clear f1 x1 H;go_wp2_with fail
 go_ret2
 exact ⟨_,rfl,F1.out,X1.out⟩
theorem kcv {L n:Nat} (ih:kam L n) {f g:Fm} (t:Tr) (hsz:(Fm.or f g).sz < n+1) (h:yab L (.or f g) t) (v:Value) (w:World) (hv:TrV w (fun _=>True) t v):Calls Tryz.prog 227 #[v] w (wae L (.or f g) w):=by
 have IH:=Lib.hid ih;clear ih;obtain ⟨⟨kind,neg,ds,name,exp,rel,truth,all⟩,ks⟩:=t;obtain ⟨hkind,t0,t1,hks,h0,h1⟩:=h;simp only [Tr.d] at hkind;simp only [Tr.ks] at hks;subst hkind hks;simp only [Fm.sz] at hsz;obtain ⟨A0,n0,c0,A,c,rfl,hnat,hc1,hc2,hat⟩:=hv.open_
 change ul w _ [t0,t1] A 0 at hat
 have HAT:=Lib.hid hat;clear hv hat hnat;unfold ndV;simp only [Tr.d,Tr.ks,List.length_cons,List.length_nil,Nat.zero_add,Nat.reduceAdd] at hc1 ⊢;obtain ⟨W,hW⟩:∃ W,w.alloc (.cells #[.int .i64 12,.bool neg,.slice A0 n0 c0,.string name,.int .i64 exp,.int .i64 rel,.bool truth,.bool all,.slice A 2 c] 254)=W:=⟨_,rfl⟩;have hWx:Ext w W:=by rw [<- hW]; exact (Ext.refl w).alloc _
 have hbx:W.heap[w.heap.size]?=some (.cells #[.int .i64 12,.bool neg,.slice A0 n0 c0,.string name,.int .i64 exp,.int .i64 rel,.bool truth,.bool all,.slice A 2 c] 254):=by rw [<- hW]; exact heap_alloc_new w _
 have hws:w.heap.size < W.heap.size:=by rw [<- hW]; simp
 have b0W:W.cell? ⟨w.heap.size,0,none⟩=some (.int .i64 12):=by simp [World.cell?,hbx]
 have b3W:W.cell? ⟨w.heap.size,3,none⟩=some (.string name):=by simp [World.cell?,hbx]
 have b5W:W.cell? ⟨w.heap.size,5,none⟩=some (.int .i64 rel):=by simp [World.cell?,hbx]
 have b7W:W.cell? ⟨w.heap.size,7,none⟩=some (.bool all):=by simp [World.cell?,hbx]
 have b8W:W.cell? ⟨w.heap.size,8,none⟩=some (.slice A 2 c):=by simp [World.cell?,hbx]
 obtain ⟨ad,B0,m0,d0,B1,m1,d1',hA,hadb,⟨e0,e1,e2,e3,e4,e5,e6,e7,e8⟩,hkt⟩:=(HAT.out.ext hWx).kid0 (by simp);subst hA;have HKT:=Lib.hid hkt;have HWX:=Lib.hid hWx;have HBX:=Lib.hid hbx;clear hkt hWx hbx;simp only [List.getElem_cons_zero] at e0 e1 e3 e4 e5 e6 e7;go_enter Tryz.func227,Tryz.ntmps227;go_wp2_with fail;refine (IH.out f t0 (by omega) h0 _ _ HKT.out).mono ?_;rintro e w1 ⟨v1,rfl,f1,x1⟩;have F1:=Lib.hid f1;obtain ⟨T1,u1,rfl⟩:=f1.iface;clear f1 b0W b3W b5W b7W b8W e0 e1 e2 e3 e4 e5 e6 e7 e8;have X1:=Lib.hid x1;have hbx_w1:w1.heap[w.heap.size]?=some (.cells #[.int .i64 12,.bool neg,.slice A0 n0 c0,.string name,.int .i64 exp,.int .i64 rel,.bool truth,.bool all,.slice (some ad) 2 c] 254):=(x1.below.block _ hws).trans HBX.out;have b0w1:w1.cell? ⟨w.heap.size,0,none⟩=some (.int .i64 12):=by simp [World.cell?,hbx_w1]
 have b3w1:w1.cell? ⟨w.heap.size,3,none⟩=some (.string name):=by simp [World.cell?,hbx_w1]
 have b5w1:w1.cell? ⟨w.heap.size,5,none⟩=some (.int .i64 rel):=by simp [World.cell?,hbx_w1]
 have b7w1:w1.cell? ⟨w.heap.size,7,none⟩=some (.bool all):=by simp [World.cell?,hbx_w1]
 have b8w1:w1.cell? ⟨w.heap.size,8,none⟩=some (.slice (some ad) 2 c):=by simp [World.cell?,hbx_w1]
 obtain ⟨ad',B0,m0,d0,B1,m1,d1',hA,hadb,hnd,hkt⟩:=(HAT.out.ext (HWX.out.trans X1.out)).kid 1 (by simp);obtain ⟨e0,e1,e2,e3,e4,e5,e6,e7,e8⟩:=hnd.nine;clear hnd;injection hA with hA
 subst hA;have HKT2:=Lib.hid hkt;simp only [List.getElem_cons_succ,List.getElem_cons_zero] at e0 e1 e3 e4 e5 e6 e7;clear hkt x1 hbx_w1;go_wp2_with fail;refine (IH.out g t1 (by omega) h1 _ _ HKT2.out).mono ?_;rintro e w2 ⟨v2,rfl,f2,x2⟩;have F2:=Lib.hid f2;obtain ⟨T2,u2,rfl⟩:=f2.iface;clear f2 b0w1 b3w1 b5w1 b7w1 b8w1 e0 e1 e2 e3 e4 e5 e6 e7 e8;have X2:=Lib.hid (X1.out.trans x2);have hbx_w2:w2.heap[w.heap.size]?=some (.cells #[.int .i64 12,.bool neg,.slice A0 n0 c0,.string name,.int .i64 exp,.int .i64 rel,.bool truth,.bool all,.slice (some ad) 2 c] 254):=(X2.out.below.block _ hws).trans HBX.out;have F1':=Lib.hid (F1.out.ext x2);have b0w2:w2.cell? ⟨w.heap.size,0,none⟩=some (.int .i64 12):=by simp [World.cell?,hbx_w2]
 have b3w2:w2.cell? ⟨w.heap.size,3,none⟩=some (.string name):=by simp [World.cell?,hbx_w2]
 have b5w2:w2.cell? ⟨w.heap.size,5,none⟩=some (.int .i64 rel):=by simp [World.cell?,hbx_w2]
 have b7w2:w2.cell? ⟨w.heap.size,7,none⟩=some (.bool all):=by simp [World.cell?,hbx_w2]
 have b8w2:w2.cell? ⟨w.heap.size,8,none⟩=some (.slice (some ad) 2 c):=by simp [World.cell?,hbx_w2]
 clear x2 hbx_w2;have HFIN:Hid (FmV w2 L (.or f g) (.iface 224 (.agg #[.iface T1 u1,.iface T2 u2]))):=⟨_,_,rfl,F1'.out,F2.out⟩;have HX:=Lib.hid (HWX.out.trans X2.out);go_wp2_with fail
 go_ret2
 exact ⟨_,rfl,HFIN.out,HX.out⟩
theorem jcv {L n:Nat} (ih:kam L n) {f g:Fm} (t:Tr) (hsz:(Fm.or f g).sz < n+1) (h:yab L (.or f g) t) (v:Value) (w:World) (hv:TrV w (fun _=>True) t v):Calls Tryz.prog 192 #[v] w (wae L (.or f g) w):=by
 have H:=Lib.hid (fun w' (hx:Ext w w')=>kcv ih t hsz h v w' (hv.ext hx));have hkind:t.d.kind=12:=h.1;clear h ih hsz;obtain ⟨⟨kind,neg,ds,name,exp,rel,truth,all⟩,ks⟩:=t;simp only [Tr.d] at hkind;subst hkind;obtain ⟨A0,n0,c0,A,c,rfl,hnat,hc1,hc2,hat⟩:=hv.open_;clear hv hat hnat hc1 hc2;unfold ndV at H ⊢;simp only [Tr.d,Tr.ks] at H ⊢;go_enter Tryz.func192,Tryz.ntmps192;go_wp2_with fail;refine (H.out _ ((Ext.refl w).alloc _)).mono ?_;rintro e w1 ⟨v1,rfl,f1,x1⟩;have F1:=Lib.hid f1;have X1:=Lib.hid (((Ext.refl w).alloc _).trans x1);obtain ⟨T1,u1,rfl⟩:=f1.iface;clear f1 x1 H;go_wp2_with fail
 go_ret2
 exact ⟨_,rfl,F1.out,X1.out⟩
theorem xco {L n:Nat} (ih:kam L n) {f g:Fm} (t:Tr) (hsz:(Fm.imp f g).sz < n+1) (h:yab L (.imp f g) t) (v:Value) (w:World) (hv:TrV w (fun _=>True) t v):Calls Tryz.prog 227 #[v] w (wae L (.imp f g) w):=by
 have IH:=Lib.hid ih;clear ih;obtain ⟨⟨kind,neg,ds,name,exp,rel,truth,all⟩,ks⟩:=t;obtain ⟨hkind,t0,t1,hks,h0,h1⟩:=h;simp only [Tr.d] at hkind;simp only [Tr.ks] at hks;subst hkind hks;simp only [Fm.sz] at hsz;obtain ⟨A0,n0,c0,A,c,rfl,hnat,hc1,hc2,hat⟩:=hv.open_
 change ul w _ [t0,t1] A 0 at hat
 have HAT:=Lib.hid hat;clear hv hat hnat;unfold ndV;simp only [Tr.d,Tr.ks,List.length_cons,List.length_nil,Nat.zero_add,Nat.reduceAdd] at hc1 ⊢;obtain ⟨W,hW⟩:∃ W,w.alloc (.cells #[.int .i64 13,.bool neg,.slice A0 n0 c0,.string name,.int .i64 exp,.int .i64 rel,.bool truth,.bool all,.slice A 2 c] 254)=W:=⟨_,rfl⟩;have hWx:Ext w W:=by rw [<- hW]; exact (Ext.refl w).alloc _
 have hbx:W.heap[w.heap.size]?=some (.cells #[.int .i64 13,.bool neg,.slice A0 n0 c0,.string name,.int .i64 exp,.int .i64 rel,.bool truth,.bool all,.slice A 2 c] 254):=by rw [<- hW]; exact heap_alloc_new w _
 have hws:w.heap.size < W.heap.size:=by rw [<- hW]; simp
 have b0W:W.cell? ⟨w.heap.size,0,none⟩=some (.int .i64 13):=by simp [World.cell?,hbx]
 have b3W:W.cell? ⟨w.heap.size,3,none⟩=some (.string name):=by simp [World.cell?,hbx]
 have b5W:W.cell? ⟨w.heap.size,5,none⟩=some (.int .i64 rel):=by simp [World.cell?,hbx]
 have b7W:W.cell? ⟨w.heap.size,7,none⟩=some (.bool all):=by simp [World.cell?,hbx]
 have b8W:W.cell? ⟨w.heap.size,8,none⟩=some (.slice A 2 c):=by simp [World.cell?,hbx]
 obtain ⟨ad,B0,m0,d0,B1,m1,d1',hA,hadb,⟨e0,e1,e2,e3,e4,e5,e6,e7,e8⟩,hkt⟩:=(HAT.out.ext hWx).kid0 (by simp);subst hA;have HKT:=Lib.hid hkt;have HWX:=Lib.hid hWx;have HBX:=Lib.hid hbx;clear hkt hWx hbx;simp only [List.getElem_cons_zero] at e0 e1 e3 e4 e5 e6 e7;go_enter Tryz.func227,Tryz.ntmps227;go_wp2_with fail;refine (IH.out f t0 (by omega) h0 _ _ HKT.out).mono ?_;rintro e w1 ⟨v1,rfl,f1,x1⟩;have F1:=Lib.hid f1;obtain ⟨T1,u1,rfl⟩:=f1.iface;clear f1 b0W b3W b5W b7W b8W e0 e1 e2 e3 e4 e5 e6 e7 e8;have X1:=Lib.hid x1;have hbx_w1:w1.heap[w.heap.size]?=some (.cells #[.int .i64 13,.bool neg,.slice A0 n0 c0,.string name,.int .i64 exp,.int .i64 rel,.bool truth,.bool all,.slice (some ad) 2 c] 254):=(x1.below.block _ hws).trans HBX.out;have b0w1:w1.cell? ⟨w.heap.size,0,none⟩=some (.int .i64 13):=by simp [World.cell?,hbx_w1]
 have b3w1:w1.cell? ⟨w.heap.size,3,none⟩=some (.string name):=by simp [World.cell?,hbx_w1]
 have b5w1:w1.cell? ⟨w.heap.size,5,none⟩=some (.int .i64 rel):=by simp [World.cell?,hbx_w1]
 have b7w1:w1.cell? ⟨w.heap.size,7,none⟩=some (.bool all):=by simp [World.cell?,hbx_w1]
 have b8w1:w1.cell? ⟨w.heap.size,8,none⟩=some (.slice (some ad) 2 c):=by simp [World.cell?,hbx_w1]
 obtain ⟨ad',B0,m0,d0,B1,m1,d1',hA,hadb,hnd,hkt⟩:=(HAT.out.ext (HWX.out.trans X1.out)).kid 1 (by simp);obtain ⟨e0,e1,e2,e3,e4,e5,e6,e7,e8⟩:=hnd.nine;clear hnd;injection hA with hA
 subst hA;have HKT2:=Lib.hid hkt;simp only [List.getElem_cons_succ,List.getElem_cons_zero] at e0 e1 e3 e4 e5 e6 e7;clear hkt x1 hbx_w1;go_wp2_with fail;refine (IH.out g t1 (by omega) h1 _ _ HKT2.out).mono ?_;rintro e w2 ⟨v2,rfl,f2,x2⟩;have F2:=Lib.hid f2;obtain ⟨T2,u2,rfl⟩:=f2.iface;clear f2 b0w1 b3w1 b5w1 b7w1 b8w1 e0 e1 e2 e3 e4 e5 e6 e7 e8;have X2:=Lib.hid (X1.out.trans x2);have hbx_w2:w2.heap[w.heap.size]?=some (.cells #[.int .i64 13,.bool neg,.slice A0 n0 c0,.string name,.int .i64 exp,.int .i64 rel,.bool truth,.bool all,.slice (some ad) 2 c] 254):=(X2.out.below.block _ hws).trans HBX.out;have F1':=Lib.hid (F1.out.ext x2);have b0w2:w2.cell? ⟨w.heap.size,0,none⟩=some (.int .i64 13):=by simp [World.cell?,hbx_w2]
 have b3w2:w2.cell? ⟨w.heap.size,3,none⟩=some (.string name):=by simp [World.cell?,hbx_w2]
 have b5w2:w2.cell? ⟨w.heap.size,5,none⟩=some (.int .i64 rel):=by simp [World.cell?,hbx_w2]
 have b7w2:w2.cell? ⟨w.heap.size,7,none⟩=some (.bool all):=by simp [World.cell?,hbx_w2]
 have b8w2:w2.cell? ⟨w.heap.size,8,none⟩=some (.slice (some ad) 2 c):=by simp [World.cell?,hbx_w2]
 clear x2 hbx_w2;have HFIN:Hid (FmV w2 L (.imp f g) (.iface 225 (.agg #[.iface T1 u1,.iface T2 u2]))):=⟨_,_,rfl,F1'.out,F2.out⟩;have HX:=Lib.hid (HWX.out.trans X2.out);go_wp2_with fail
 go_ret2
 exact ⟨_,rfl,HFIN.out,HX.out⟩
theorem gcn {L n:Nat} (ih:kam L n) {f g:Fm} (t:Tr) (hsz:(Fm.imp f g).sz < n+1) (h:yab L (.imp f g) t) (v:Value) (w:World) (hv:TrV w (fun _=>True) t v):Calls Tryz.prog 192 #[v] w (wae L (.imp f g) w):=by
 have H:=Lib.hid (fun w' (hx:Ext w w')=>xco ih t hsz h v w' (hv.ext hx));have hkind:t.d.kind=13:=h.1;clear h ih hsz;obtain ⟨⟨kind,neg,ds,name,exp,rel,truth,all⟩,ks⟩:=t;simp only [Tr.d] at hkind;subst hkind;obtain ⟨A0,n0,c0,A,c,rfl,hnat,hc1,hc2,hat⟩:=hv.open_;clear hv hat hnat hc1 hc2;unfold ndV at H ⊢;simp only [Tr.d,Tr.ks] at H ⊢;go_enter Tryz.func192,Tryz.ntmps192;go_wp2_with fail;refine (H.out _ ((Ext.refl w).alloc _)).mono ?_;rintro e w1 ⟨v1,rfl,f1,x1⟩;have F1:=Lib.hid f1;have X1:=Lib.hid (((Ext.refl w).alloc _).trans x1);obtain ⟨T1,u1,rfl⟩:=f1.iface;clear f1 x1 H;go_wp2_with fail
 go_ret2
 exact ⟨_,rfl,F1.out,X1.out⟩
theorem qco {L n:Nat} (ih:kam L n) {f g:Fm} (t:Tr) (hsz:(Fm.iff f g).sz < n+1) (h:yab L (.iff f g) t) (v:Value) (w:World) (hv:TrV w (fun _=>True) t v):Calls Tryz.prog 227 #[v] w (wae L (.iff f g) w):=by
 have IH:=Lib.hid ih;clear ih;obtain ⟨⟨kind,neg,ds,name,exp,rel,truth,all⟩,ks⟩:=t;obtain ⟨hkind,t0,t1,hks,h0,h1⟩:=h;simp only [Tr.d] at hkind;simp only [Tr.ks] at hks;subst hkind hks;simp only [Fm.sz] at hsz;obtain ⟨A0,n0,c0,A,c,rfl,hnat,hc1,hc2,hat⟩:=hv.open_
 change ul w _ [t0,t1] A 0 at hat
 have HAT:=Lib.hid hat;clear hv hat hnat;unfold ndV;simp only [Tr.d,Tr.ks,List.length_cons,List.length_nil,Nat.zero_add,Nat.reduceAdd] at hc1 ⊢;obtain ⟨W,hW⟩:∃ W,w.alloc (.cells #[.int .i64 14,.bool neg,.slice A0 n0 c0,.string name,.int .i64 exp,.int .i64 rel,.bool truth,.bool all,.slice A 2 c] 254)=W:=⟨_,rfl⟩;have hWx:Ext w W:=by rw [<- hW]; exact (Ext.refl w).alloc _
 have hbx:W.heap[w.heap.size]?=some (.cells #[.int .i64 14,.bool neg,.slice A0 n0 c0,.string name,.int .i64 exp,.int .i64 rel,.bool truth,.bool all,.slice A 2 c] 254):=by rw [<- hW]; exact heap_alloc_new w _
 have hws:w.heap.size < W.heap.size:=by rw [<- hW]; simp
 have b0W:W.cell? ⟨w.heap.size,0,none⟩=some (.int .i64 14):=by simp [World.cell?,hbx]
 have b3W:W.cell? ⟨w.heap.size,3,none⟩=some (.string name):=by simp [World.cell?,hbx]
 have b5W:W.cell? ⟨w.heap.size,5,none⟩=some (.int .i64 rel):=by simp [World.cell?,hbx]
 have b7W:W.cell? ⟨w.heap.size,7,none⟩=some (.bool all):=by simp [World.cell?,hbx]
 have b8W:W.cell? ⟨w.heap.size,8,none⟩=some (.slice A 2 c):=by simp [World.cell?,hbx]
 obtain ⟨ad,B0,m0,d0,B1,m1,d1',hA,hadb,⟨e0,e1,e2,e3,e4,e5,e6,e7,e8⟩,hkt⟩:=(HAT.out.ext hWx).kid0 (by simp);subst hA;have HKT:=Lib.hid hkt;have HWX:=Lib.hid hWx;have HBX:=Lib.hid hbx;clear hkt hWx hbx;simp only [List.getElem_cons_zero] at e0 e1 e3 e4 e5 e6 e7;go_enter Tryz.func227,Tryz.ntmps227;go_wp2_with fail;refine (IH.out f t0 (by omega) h0 _ _ HKT.out).mono ?_;rintro e w1 ⟨v1,rfl,f1,x1⟩;have F1:=Lib.hid f1;obtain ⟨T1,u1,rfl⟩:=f1.iface;clear f1 b0W b3W b5W b7W b8W e0 e1 e2 e3 e4 e5 e6 e7 e8;have X1:=Lib.hid x1;have hbx_w1:w1.heap[w.heap.size]?=some (.cells #[.int .i64 14,.bool neg,.slice A0 n0 c0,.string name,.int .i64 exp,.int .i64 rel,.bool truth,.bool all,.slice (some ad) 2 c] 254):=(x1.below.block _ hws).trans HBX.out;have b0w1:w1.cell? ⟨w.heap.size,0,none⟩=some (.int .i64 14):=by simp [World.cell?,hbx_w1]
 have b3w1:w1.cell? ⟨w.heap.size,3,none⟩=some (.string name):=by simp [World.cell?,hbx_w1]
 have b5w1:w1.cell? ⟨w.heap.size,5,none⟩=some (.int .i64 rel):=by simp [World.cell?,hbx_w1]
 have b7w1:w1.cell? ⟨w.heap.size,7,none⟩=some (.bool all):=by simp [World.cell?,hbx_w1]
 have b8w1:w1.cell? ⟨w.heap.size,8,none⟩=some (.slice (some ad) 2 c):=by simp [World.cell?,hbx_w1]
 obtain ⟨ad',B0,m0,d0,B1,m1,d1',hA,hadb,hnd,hkt⟩:=(HAT.out.ext (HWX.out.trans X1.out)).kid 1 (by simp);obtain ⟨e0,e1,e2,e3,e4,e5,e6,e7,e8⟩:=hnd.nine;clear hnd;injection hA with hA
 subst hA;have HKT2:=Lib.hid hkt;simp only [List.getElem_cons_succ,List.getElem_cons_zero] at e0 e1 e3 e4 e5 e6 e7;clear hkt x1 hbx_w1;go_wp2_with fail;refine (IH.out g t1 (by omega) h1 _ _ HKT2.out).mono ?_;rintro e w2 ⟨v2,rfl,f2,x2⟩;have F2:=Lib.hid f2;obtain ⟨T2,u2,rfl⟩:=f2.iface;clear f2 b0w1 b3w1 b5w1 b7w1 b8w1 e0 e1 e2 e3 e4 e5 e6 e7 e8;have X2:=Lib.hid (X1.out.trans x2);have hbx_w2:w2.heap[w.heap.size]?=some (.cells #[.int .i64 14,.bool neg,.slice A0 n0 c0,.string name,.int .i64 exp,.int .i64 rel,.bool truth,.bool all,.slice (some ad) 2 c] 254):=(X2.out.below.block _ hws).trans HBX.out;have F1':=Lib.hid (F1.out.ext x2);have b0w2:w2.cell? ⟨w.heap.size,0,none⟩=some (.int .i64 14):=by simp [World.cell?,hbx_w2]
 have b3w2:w2.cell? ⟨w.heap.size,3,none⟩=some (.string name):=by simp [World.cell?,hbx_w2]
 have b5w2:w2.cell? ⟨w.heap.size,5,none⟩=some (.int .i64 rel):=by simp [World.cell?,hbx_w2]
 have b7w2:w2.cell? ⟨w.heap.size,7,none⟩=some (.bool all):=by simp [World.cell?,hbx_w2]
 have b8w2:w2.cell? ⟨w.heap.size,8,none⟩=some (.slice (some ad) 2 c):=by simp [World.cell?,hbx_w2]
 clear x2 hbx_w2;have HFIN:Hid (FmV w2 L (.iff f g) (.iface 226 (.agg #[.iface T1 u1,.iface T2 u2]))):=⟨_,_,rfl,F1'.out,F2.out⟩;have HX:=Lib.hid (HWX.out.trans X2.out);go_wp2_with fail
 go_ret2
 exact ⟨_,rfl,HFIN.out,HX.out⟩
theorem wcn {L n:Nat} (ih:kam L n) {f g:Fm} (t:Tr) (hsz:(Fm.iff f g).sz < n+1) (h:yab L (.iff f g) t) (v:Value) (w:World) (hv:TrV w (fun _=>True) t v):Calls Tryz.prog 192 #[v] w (wae L (.iff f g) w):=by
 have H:=Lib.hid (fun w' (hx:Ext w w')=>qco ih t hsz h v w' (hv.ext hx));have hkind:t.d.kind=14:=h.1;clear h ih hsz;obtain ⟨⟨kind,neg,ds,name,exp,rel,truth,all⟩,ks⟩:=t;simp only [Tr.d] at hkind;subst hkind;obtain ⟨A0,n0,c0,A,c,rfl,hnat,hc1,hc2,hat⟩:=hv.open_;clear hv hat hnat hc1 hc2;unfold ndV at H ⊢;simp only [Tr.d,Tr.ks] at H ⊢;go_enter Tryz.func192,Tryz.ntmps192;go_wp2_with fail;refine (H.out _ ((Ext.refl w).alloc _)).mono ?_;rintro e w1 ⟨v1,rfl,f1,x1⟩;have F1:=Lib.hid f1;have X1:=Lib.hid (((Ext.refl w).alloc _).trans x1);obtain ⟨T1,u1,rfl⟩:=f1.iface;clear f1 x1 H;go_wp2_with fail
 go_ret2
 exact ⟨_,rfl,F1.out,X1.out⟩
theorem yco {L n:Nat} (ih:kam L n) {f:Fm} (t:Tr) (hsz:(Fm.not f).sz < n+1) (h:yab L (.not f) t) (v:Value) (w:World) (hv:TrV w (fun _=>True) t v):Calls Tryz.prog 226 #[v] w (wae L (.not f) w):=by
 have IH:=Lib.hid ih;clear ih;obtain ⟨⟨kind,neg,ds,name,exp,rel,truth,all⟩,ks⟩:=t;obtain ⟨hkind,t0,hks,h0⟩:=h;simp only [Tr.d] at hkind;simp only [Tr.ks] at hks;subst hkind hks;simp only [Fm.sz] at hsz;obtain ⟨A0,n0,c0,A,c,rfl,hnat,hc1,hc2,hat⟩:=hv.open_
 change ul w _ [t0] A 0 at hat
 have HAT:=Lib.hid hat;clear hv hat hnat;unfold ndV;simp only [Tr.d,Tr.ks,List.length_cons,List.length_nil,Nat.zero_add,Nat.reduceAdd] at hc1 ⊢;obtain ⟨W,hW⟩:∃ W,w.alloc (.cells #[.int .i64 10,.bool neg,.slice A0 n0 c0,.string name,.int .i64 exp,.int .i64 rel,.bool truth,.bool all,.slice A 1 c] 254)=W:=⟨_,rfl⟩;have hWx:Ext w W:=by rw [<- hW]; exact (Ext.refl w).alloc _
 have hbx:W.heap[w.heap.size]?=some (.cells #[.int .i64 10,.bool neg,.slice A0 n0 c0,.string name,.int .i64 exp,.int .i64 rel,.bool truth,.bool all,.slice A 1 c] 254):=by rw [<- hW]; exact heap_alloc_new w _
 have hws:w.heap.size < W.heap.size:=by rw [<- hW]; simp
 have b0W:W.cell? ⟨w.heap.size,0,none⟩=some (.int .i64 10):=by simp [World.cell?,hbx]
 have b3W:W.cell? ⟨w.heap.size,3,none⟩=some (.string name):=by simp [World.cell?,hbx]
 have b5W:W.cell? ⟨w.heap.size,5,none⟩=some (.int .i64 rel):=by simp [World.cell?,hbx]
 have b7W:W.cell? ⟨w.heap.size,7,none⟩=some (.bool all):=by simp [World.cell?,hbx]
 have b8W:W.cell? ⟨w.heap.size,8,none⟩=some (.slice A 1 c):=by simp [World.cell?,hbx]
 obtain ⟨ad,B0,m0,d0,B1,m1,d1',hA,hadb,⟨e0,e1,e2,e3,e4,e5,e6,e7,e8⟩,hkt⟩:=(HAT.out.ext hWx).kid0 (by simp);subst hA;have HKT:=Lib.hid hkt;have HWX:=Lib.hid hWx;have HBX:=Lib.hid hbx;clear hkt hWx hbx;simp only [List.getElem_cons_zero] at e0 e1 e3 e4 e5 e6 e7;go_enter Tryz.func226,Tryz.ntmps226;go_wp2_with fail;refine (IH.out f t0 (by omega) h0 _ _ HKT.out).mono ?_;rintro e w1 ⟨v1,rfl,f1,x1⟩;have F1:=Lib.hid f1;obtain ⟨T1,u1,rfl⟩:=f1.iface;clear f1 b0W b3W b5W b7W b8W e0 e1 e2 e3 e4 e5 e6 e7 e8;have X1:=Lib.hid x1;have hbx_w1:w1.heap[w.heap.size]?=some (.cells #[.int .i64 10,.bool neg,.slice A0 n0 c0,.string name,.int .i64 exp,.int .i64 rel,.bool truth,.bool all,.slice (some ad) 1 c] 254):=(x1.below.block _ hws).trans HBX.out;have b0w1:w1.cell? ⟨w.heap.size,0,none⟩=some (.int .i64 10):=by simp [World.cell?,hbx_w1]
 have b3w1:w1.cell? ⟨w.heap.size,3,none⟩=some (.string name):=by simp [World.cell?,hbx_w1]
 have b5w1:w1.cell? ⟨w.heap.size,5,none⟩=some (.int .i64 rel):=by simp [World.cell?,hbx_w1]
 have b7w1:w1.cell? ⟨w.heap.size,7,none⟩=some (.bool all):=by simp [World.cell?,hbx_w1]
 have b8w1:w1.cell? ⟨w.heap.size,8,none⟩=some (.slice (some ad) 1 c):=by simp [World.cell?,hbx_w1]
 clear x1 hbx_w1;have HFIN:Hid (FmV w1 L (.not f) (.iface 221 (.agg #[.iface T1 u1]))):=⟨_,rfl,F1.out⟩;have HX:=Lib.hid (HWX.out.trans X1.out);go_wp2_with fail
 go_ret2
 exact ⟨_,rfl,HFIN.out,HX.out⟩
theorem ucn {L n:Nat} (ih:kam L n) {f:Fm} (t:Tr) (hsz:(Fm.not f).sz < n+1) (h:yab L (.not f) t) (v:Value) (w:World) (hv:TrV w (fun _=>True) t v):Calls Tryz.prog 192 #[v] w (wae L (.not f) w):=by
 have H:=Lib.hid (fun w' (hx:Ext w w')=>yco ih t hsz h v w' (hv.ext hx));have hkind:t.d.kind=10:=h.1;clear h ih hsz;obtain ⟨⟨kind,neg,ds,name,exp,rel,truth,all⟩,ks⟩:=t;simp only [Tr.d] at hkind;subst hkind;obtain ⟨A0,n0,c0,A,c,rfl,hnat,hc1,hc2,hat⟩:=hv.open_;clear hv hat hnat hc1 hc2;unfold ndV at H ⊢;simp only [Tr.d,Tr.ks] at H ⊢;go_enter Tryz.func192,Tryz.ntmps192;go_wp2_with fail;refine (H.out _ ((Ext.refl w).alloc _)).mono ?_;rintro e w1 ⟨v1,rfl,f1,x1⟩;have F1:=Lib.hid f1;have X1:=Lib.hid (((Ext.refl w).alloc _).trans x1);obtain ⟨T1,u1,rfl⟩:=f1.iface;clear f1 x1 H;go_wp2_with fail
 go_ret2
 exact ⟨_,rfl,F1.out,X1.out⟩
theorem xb6 {L n:Nat} (ih:kam L n) {al:Bool} {q:ByteArray} {f:Fm} (t:Tr) (hsz:(Fm.quant al q f).sz < n+1) (h:yab L (.quant al q f) t) (v:Value) (w:World) (hv:TrV w (fun _=>True) t v):Calls Tryz.prog 226 #[v] w (wae L (.quant al q f) w):=by
 have IH:=Lib.hid ih;clear ih;obtain ⟨⟨kind,neg,ds,name,exp,rel,truth,all⟩,ks⟩:=t;obtain ⟨hkind,hall,hname,t0,hks,h0⟩:=h;simp only [Tr.d] at hall hname;subst hall hname;simp only [Tr.d] at hkind;simp only [Tr.ks] at hks;subst hkind hks;simp only [Fm.sz] at hsz;obtain ⟨A0,n0,c0,A,c,rfl,hnat,hc1,hc2,hat⟩:=hv.open_
 change ul w _ [t0] A 0 at hat
 have HAT:=Lib.hid hat;clear hv hat hnat;unfold ndV;simp only [Tr.d,Tr.ks,List.length_cons,List.length_nil,Nat.zero_add,Nat.reduceAdd] at hc1 ⊢;obtain ⟨W,hW⟩:∃ W,w.alloc (.cells #[.int .i64 15,.bool neg,.slice A0 n0 c0,.string name,.int .i64 exp,.int .i64 rel,.bool truth,.bool all,.slice A 1 c] 254)=W:=⟨_,rfl⟩;have hWx:Ext w W:=by rw [<- hW]; exact (Ext.refl w).alloc _
 have hbx:W.heap[w.heap.size]?=some (.cells #[.int .i64 15,.bool neg,.slice A0 n0 c0,.string name,.int .i64 exp,.int .i64 rel,.bool truth,.bool all,.slice A 1 c] 254):=by rw [<- hW]; exact heap_alloc_new w _
 have hws:w.heap.size < W.heap.size:=by rw [<- hW]; simp
 have b0W:W.cell? ⟨w.heap.size,0,none⟩=some (.int .i64 15):=by simp [World.cell?,hbx]
 have b3W:W.cell? ⟨w.heap.size,3,none⟩=some (.string name):=by simp [World.cell?,hbx]
 have b5W:W.cell? ⟨w.heap.size,5,none⟩=some (.int .i64 rel):=by simp [World.cell?,hbx]
 have b7W:W.cell? ⟨w.heap.size,7,none⟩=some (.bool all):=by simp [World.cell?,hbx]
 have b8W:W.cell? ⟨w.heap.size,8,none⟩=some (.slice A 1 c):=by simp [World.cell?,hbx]
 obtain ⟨ad,B0,m0,d0,B1,m1,d1',hA,hadb,⟨e0,e1,e2,e3,e4,e5,e6,e7,e8⟩,hkt⟩:=(HAT.out.ext hWx).kid0 (by simp);subst hA;have HKT:=Lib.hid hkt;have HWX:=Lib.hid hWx;have HBX:=Lib.hid hbx;clear hkt hWx hbx;simp only [List.getElem_cons_zero] at e0 e1 e3 e4 e5 e6 e7;go_enter Tryz.func226,Tryz.ntmps226;go_wp2_with fail;refine (IH.out f t0 (by omega) h0 _ _ HKT.out).mono ?_;rintro e w1 ⟨v1,rfl,f1,x1⟩;have F1:=Lib.hid f1;obtain ⟨T1,u1,rfl⟩:=f1.iface;clear f1 b0W b3W b5W b7W b8W e0 e1 e2 e3 e4 e5 e6 e7 e8;have X1:=Lib.hid x1;have hbx_w1:w1.heap[w.heap.size]?=some (.cells #[.int .i64 15,.bool neg,.slice A0 n0 c0,.string name,.int .i64 exp,.int .i64 rel,.bool truth,.bool all,.slice (some ad) 1 c] 254):=(x1.below.block _ hws).trans HBX.out;have b0w1:w1.cell? ⟨w.heap.size,0,none⟩=some (.int .i64 15):=by simp [World.cell?,hbx_w1]
 have b3w1:w1.cell? ⟨w.heap.size,3,none⟩=some (.string name):=by simp [World.cell?,hbx_w1]
 have b5w1:w1.cell? ⟨w.heap.size,5,none⟩=some (.int .i64 rel):=by simp [World.cell?,hbx_w1]
 have b7w1:w1.cell? ⟨w.heap.size,7,none⟩=some (.bool all):=by simp [World.cell?,hbx_w1]
 have b8w1:w1.cell? ⟨w.heap.size,8,none⟩=some (.slice (some ad) 1 c):=by simp [World.cell?,hbx_w1]
 clear x1 hbx_w1;have HFIN:Hid (FmV w1 L (.quant all name f) (.iface 245 (.agg #[.bool all,.string name,.iface T1 u1]))):=⟨_,rfl,F1.out⟩;have HX:=Lib.hid (HWX.out.trans X1.out);go_wp2_with fail
 go_ret2
 exact ⟨_,rfl,HFIN.out,HX.out⟩
theorem yb6 {L n:Nat} (ih:kam L n) {al:Bool} {q:ByteArray} {f:Fm} (t:Tr) (hsz:(Fm.quant al q f).sz < n+1) (h:yab L (.quant al q f) t) (v:Value) (w:World) (hv:TrV w (fun _=>True) t v):Calls Tryz.prog 192 #[v] w (wae L (.quant al q f) w):=by
 have H:=Lib.hid (fun w' (hx:Ext w w')=>xb6 ih t hsz h v w' (hv.ext hx));have hkind:t.d.kind=15:=h.1;clear h ih hsz;obtain ⟨⟨kind,neg,ds,name,exp,rel,truth,all⟩,ks⟩:=t;simp only [Tr.d] at hkind;subst hkind;obtain ⟨A0,n0,c0,A,c,rfl,hnat,hc1,hc2,hat⟩:=hv.open_;clear hv hat hnat hc1 hc2;unfold ndV at H ⊢;simp only [Tr.d,Tr.ks] at H ⊢;go_enter Tryz.func192,Tryz.ntmps192;go_wp2_with fail;refine (H.out _ ((Ext.refl w).alloc _)).mono ?_;rintro e w1 ⟨v1,rfl,f1,x1⟩;have F1:=Lib.hid f1;have X1:=Lib.hid (((Ext.refl w).alloc _).trans x1);obtain ⟨T1,u1,rfl⟩:=f1.iface;clear f1 x1 H;go_wp2_with fail
 go_ret2
 exact ⟨_,rfl,F1.out,X1.out⟩
theorem zcf {L n:Nat} (hL:L<=35184372088000) (ih:kam L n) {l k:Tm} {rr:Int} (t:Tr) (hsz:(Fm.atom l rr k).sz < n+1) (h:yab L (.atom l rr k) t) (v:Value) (w:World) (hv:TrV w (fun _=>True) t v):Calls Tryz.prog 225 #[v] w (wae L (.atom l rr k) w):=by
 have IH:=Lib.hid ih;clear ih;obtain ⟨⟨kind,neg,ds,name,exp,rel,truth,all⟩,ks⟩:=t;obtain ⟨hkind,hrel,hr1,hr6,t0,t1,hks,h0,h1⟩:=h;simp only [Tr.d] at hrel;subst hrel;have d1:decide (rel < 1)=false:=by simp; omega
 have d6:decide (6 < rel)=false:=by simp; omega
 simp only [Tr.d] at hkind;simp only [Tr.ks] at hks;subst hkind hks;simp only [Fm.sz] at hsz;obtain ⟨A0,n0,c0,A,c,rfl,hnat,hc1,hc2,hat⟩:=hv.open_
 change ul w _ [t0,t1] A 0 at hat
 have HAT:=Lib.hid hat;clear hv hat hnat;unfold ndV;simp only [Tr.d,Tr.ks,List.length_cons,List.length_nil,Nat.zero_add,Nat.reduceAdd] at hc1 ⊢;obtain ⟨W,hW⟩:∃ W,w.alloc (.cells #[.int .i64 9,.bool neg,.slice A0 n0 c0,.string name,.int .i64 exp,.int .i64 rel,.bool truth,.bool all,.slice A 2 c] 254)=W:=⟨_,rfl⟩;have hWx:Ext w W:=by rw [<- hW]; exact (Ext.refl w).alloc _
 have hbx:W.heap[w.heap.size]?=some (.cells #[.int .i64 9,.bool neg,.slice A0 n0 c0,.string name,.int .i64 exp,.int .i64 rel,.bool truth,.bool all,.slice A 2 c] 254):=by rw [<- hW]; exact heap_alloc_new w _
 have hws:w.heap.size < W.heap.size:=by rw [<- hW]; simp
 have b0W:W.cell? ⟨w.heap.size,0,none⟩=some (.int .i64 9):=by simp [World.cell?,hbx]
 have b3W:W.cell? ⟨w.heap.size,3,none⟩=some (.string name):=by simp [World.cell?,hbx]
 have b5W:W.cell? ⟨w.heap.size,5,none⟩=some (.int .i64 rel):=by simp [World.cell?,hbx]
 have b7W:W.cell? ⟨w.heap.size,7,none⟩=some (.bool all):=by simp [World.cell?,hbx]
 have b8W:W.cell? ⟨w.heap.size,8,none⟩=some (.slice A 2 c):=by simp [World.cell?,hbx]
 obtain ⟨ad,B0,m0,d0,B1,m1,d1',hA,hadb,⟨e0,e1,e2,e3,e4,e5,e6,e7,e8⟩,hkt⟩:=(HAT.out.ext hWx).kid0 (by simp);subst hA;have HKT:=Lib.hid hkt;have HWX:=Lib.hid hWx;have HBX:=Lib.hid hbx;clear hkt hWx hbx;simp only [List.getElem_cons_zero] at e0 e1 e3 e4 e5 e6 e7;go_enter Tryz.func225,Tryz.ntmps225;go_wp2_with fail;refine (za8 hL l t0 h0 _ _ HKT.out).mono ?_;rintro e w1 ⟨v1,rfl,f1,x1⟩;have F1:=Lib.hid f1;obtain ⟨T1,u1,rfl⟩:=f1.iface;clear f1 b0W b3W b5W b7W b8W e0 e1 e2 e3 e4 e5 e6 e7 e8;have X1:=Lib.hid x1;have hbx_w1:w1.heap[w.heap.size]?=some (.cells #[.int .i64 9,.bool neg,.slice A0 n0 c0,.string name,.int .i64 exp,.int .i64 rel,.bool truth,.bool all,.slice (some ad) 2 c] 254):=(x1.below.block _ hws).trans HBX.out;have b0w1:w1.cell? ⟨w.heap.size,0,none⟩=some (.int .i64 9):=by simp [World.cell?,hbx_w1]
 have b3w1:w1.cell? ⟨w.heap.size,3,none⟩=some (.string name):=by simp [World.cell?,hbx_w1]
 have b5w1:w1.cell? ⟨w.heap.size,5,none⟩=some (.int .i64 rel):=by simp [World.cell?,hbx_w1]
 have b7w1:w1.cell? ⟨w.heap.size,7,none⟩=some (.bool all):=by simp [World.cell?,hbx_w1]
 have b8w1:w1.cell? ⟨w.heap.size,8,none⟩=some (.slice (some ad) 2 c):=by simp [World.cell?,hbx_w1]
 obtain ⟨ad',B0,m0,d0,B1,m1,d1',hA,hadb,hnd,hkt⟩:=(HAT.out.ext (HWX.out.trans X1.out)).kid 1 (by simp);obtain ⟨e0,e1,e2,e3,e4,e5,e6,e7,e8⟩:=hnd.nine;clear hnd;injection hA with hA
 subst hA;have HKT2:=Lib.hid hkt;simp only [List.getElem_cons_succ,List.getElem_cons_zero] at e0 e1 e3 e4 e5 e6 e7;clear hkt x1 hbx_w1;go_wp2_with fail;refine (za8 hL k t1 h1 _ _ HKT2.out).mono ?_;rintro e w2 ⟨v2,rfl,f2,x2⟩;have F2:=Lib.hid f2;obtain ⟨T2,u2,rfl⟩:=f2.iface;clear f2 b0w1 b3w1 b5w1 b7w1 b8w1 e0 e1 e2 e3 e4 e5 e6 e7 e8;have X2:=Lib.hid (X1.out.trans x2);have hbx_w2:w2.heap[w.heap.size]?=some (.cells #[.int .i64 9,.bool neg,.slice A0 n0 c0,.string name,.int .i64 exp,.int .i64 rel,.bool truth,.bool all,.slice (some ad) 2 c] 254):=(X2.out.below.block _ hws).trans HBX.out;have F1':=Lib.hid (F1.out.ext x2);have b0w2:w2.cell? ⟨w.heap.size,0,none⟩=some (.int .i64 9):=by simp [World.cell?,hbx_w2]
 have b3w2:w2.cell? ⟨w.heap.size,3,none⟩=some (.string name):=by simp [World.cell?,hbx_w2]
 have b5w2:w2.cell? ⟨w.heap.size,5,none⟩=some (.int .i64 rel):=by simp [World.cell?,hbx_w2]
 have b7w2:w2.cell? ⟨w.heap.size,7,none⟩=some (.bool all):=by simp [World.cell?,hbx_w2]
 have b8w2:w2.cell? ⟨w.heap.size,8,none⟩=some (.slice (some ad) 2 c):=by simp [World.cell?,hbx_w2]
 clear x2 hbx_w2;have HFIN:Hid (FmV w2 L (.atom l rel k) (.iface 109 (.agg #[.iface T1 u1,.int .i64 rel,.iface T2 u2]))):=⟨_,_,rfl,F1'.out,F2.out⟩;have HX:=Lib.hid (HWX.out.trans X2.out);go_wp2_with fail
 go_ret2
 exact ⟨_,rfl,HFIN.out,HX.out⟩
theorem wce {L n:Nat} (hL:L<=35184372088000) (ih:kam L n) {l k:Tm} {rr:Int} (t:Tr) (hsz:(Fm.atom l rr k).sz < n+1) (h:yab L (.atom l rr k) t) (v:Value) (w:World) (hv:TrV w (fun _=>True) t v):Calls Tryz.prog 192 #[v] w (wae L (.atom l rr k) w):=by
 have H:=Lib.hid (fun w' (hx:Ext w w')=>zcf hL ih t hsz h v w' (hv.ext hx));have hkind:t.d.kind=9:=h.1;clear h ih hsz;obtain ⟨⟨kind,neg,ds,name,exp,rel,truth,all⟩,ks⟩:=t;simp only [Tr.d] at hkind;subst hkind;obtain ⟨A0,n0,c0,A,c,rfl,hnat,hc1,hc2,hat⟩:=hv.open_;clear hv hat hnat hc1 hc2;unfold ndV at H ⊢;simp only [Tr.d,Tr.ks] at H ⊢;go_enter Tryz.func192,Tryz.ntmps192;go_wp2_with fail;refine (H.out _ ((Ext.refl w).alloc _)).mono ?_;rintro e w1 ⟨v1,rfl,f1,x1⟩;have F1:=Lib.hid f1;have X1:=Lib.hid (((Ext.refl w).alloc _).trans x1);obtain ⟨T1,u1,rfl⟩:=f1.iface;clear f1 x1 H;go_wp2_with fail
 go_ret2
 exact ⟨_,rfl,F1.out,X1.out⟩
theorem zb6 {L:Nat} {b:Bool} (t:Tr) (h:yab L (.truth b) t) (v:Value) (w:World) (hv:TrV w (fun _=>True) t v):Calls Tryz.prog 192 #[v] w (wae L (.truth b) w):=by
 obtain ⟨⟨kind,neg,ds,name,exp,rel,truth,all⟩,ks⟩:=t;obtain ⟨hkind,hks,ht⟩:=h;simp only [Tr.d] at hkind ht;simp only [Tr.ks] at hks;subst hkind hks ht;obtain ⟨A0,n0,c0,A,c,rfl,hnat,hc1,hc2,hat⟩:=hv.open_;clear hv hat hnat hc1 hc2;unfold ndV;simp only [Tr.d,Tr.ks,List.length_nil];go_enter Tryz.func192,Tryz.ntmps192;go_wp2_with fail
 go_ret2
 exact ⟨_,rfl,rfl,(Ext.refl w).alloc _⟩
theorem ycy (L:Nat) (hL:L<=35184372088000) (n:Nat):kam L n:=by
 induction n with
 | zero=>intro m t h; omega
 | succ n ih =>
   intro m t hsz h v w hv;cases m with
   | truth b=>exact zb6 t h v w hv
   | atom l r k=>exact wce hL ih t hsz h v w hv
   | not f=>exact ucn ih t hsz h v w hv
   | and f g=>exact zco ih t hsz h v w hv
   | or f g=>exact jcv ih t hsz h v w hv
   | imp f g=>exact gcn ih t hsz h v w hv
   | iff f g=>exact wcn ih t hsz h v w hv
   | quant a s f=>exact yb6 ih t hsz h v w hv
theorem ycq {L:Nat} (hL:L<=35184372088000) (f:Fm) (t:Tr) (h:yab L f t) (v:Value) (w:World) {p:Nat->Prop} (hv:TrV w p t v):Calls Tryz.prog 192 #[v] w (wae L f w):=
 ycy L hL (f.sz+1) f t (Nat.lt_succ_self _) h v w (hv.mono fun _ _=>trivial)
end Go.Proofs.YtcfcjabgkfehlaaGreat

/- Layer 34: formula.visit: the subformulas, passed to a function. -/
set_option maxRecDepth 100000
set_option maxHeartbeats 8000000
namespace Go.Proofs.YtcfcjabgkfehlaaGreat
open Go.RowKit Go.Shelf
theorem room_of_none {F:Fence} (hd:F.depth=none) (k:Nat):F.room k:=fun d h=>by rw [hd] at h; cases h
theorem RoundIn.anyDepth {F : Fence} (hd : F.depth = none) {m m' : Nat} {P : Program} {l : Nat} {f : FuncId} {tmps : Array Value} {assign body : Code} {w : World} {R : Ending -> World -> Prop}
 (h:RoundIn F m P l f tmps assign body w R):RoundIn F m' P l f tmps assign body w R:=⟨h.1,fun c cs _=>h.2 c cs (room_of_none hd _)⟩
theorem YieldAt.anyDepth {F:Fence} (hd:F.depth=none) {m:Nat} (m':Nat) {P:Program} {l:Nat} {args:Array Value} {W:World} {R:Ending->World->Prop} (h:YieldAt F m P l args W R):YieldAt F m' P l args W R:=by
 obtain ⟨fn,tmps,assign,body,hy,hR⟩:=h;exact ⟨fn,tmps,assign,body,hy,RoundIn.anyDepth hd hR⟩
def yj (W W':World):Prop:=W.heap.size<=W'.heap.size/\∀ (i:Nat) (o:Obj),W.heap[i]?=some o->o.isCells=true->W'.heap[i]?=some o
theorem yj.refl (W:World):yj W W:=⟨Nat.le_refl _,fun _ _ h _=>h⟩
theorem yj.trans {A B C:World} (h:yj A B) (k:yj B C):yj A C:=⟨Nat.le_trans h.1 k.1,fun i o hi ho=>k.2 i o (h.2 i o hi ho) ho⟩
theorem yj.of_ext {A B:World} (h:Ext A B):yj A B:=⟨h.size,fun i o hi _=>(h.below.block i (Array.getElem?_eq_some_iff.1 hi).1).trans hi⟩
theorem yj.putObj (W:World) (l:Nat) (o o':Obj) (h:W.heap[l]?=some o) (ho:o.isCells=false):yj W (W.putObj l o'):=by
 refine ⟨by simp [World.putObj],fun i x hi hx=>?_⟩;have hne:i ≠ l:=fun e=>by subst e; rw [h] at hi; injection hi with hi; subst hi; rw [ho] at hx; cases hx
 rw [World.putObj_heap_other hne]; exact hi
theorem yj.cell {A B:World} (h:yj A B) {a:Addr} {v:Value} (hc:A.cell? a=some v):B.cell? a=some v:=by
 obtain ⟨o,ho,hoc⟩:=cells_of_cell hc;rw [World.cell?_of_block ((h.2 _ _ ho hoc).trans ho.symm)]; exact hc
theorem SlR.keepsCells {α:Type} {P:α->Value->Prop} {w w':World} {v:Value} {l:List α} (h:SlR (fun _=>P) w v l) (k:yj w w'):SlR (fun _=>P) w' v l:=by
 obtain ⟨A,c,e,h1,h2,h3⟩:=h;refine ⟨A,c,e,h1,h2,fun j hj=>?_⟩;obtain ⟨ad,x,rfl,hb,hc,hp⟩:=h3 j hj;exact ⟨ad,x,rfl,Nat.lt_of_lt_of_le hb k.1,k.cell hc,hp⟩
structure It (w0 : World) (L : Nat) where
 depth:Int
 f:Fm
 v:Value
 h:FmV w0 L f v
def It.enc {w0:World} {L:Nat} (x:It w0 L):Array Value:=#[.int .i64 x.depth,x.v]
def Fm.pre : Fm -> List Fm
 | .truth b=>[.truth b]
 | .atom l r k=>[.atom l r k]
 | .not f=>.not f :: f.pre
 | .and f g=>.and f g :: (f.pre ++ g.pre)
 | .or f g=>.or f g :: (f.pre ++ g.pre)
 | .imp f g=>.imp f g :: (f.pre ++ g.pre)
 | .iff f g=>.iff f g :: (f.pre ++ g.pre)
 | .quant a s f=>.quant a s f :: f.pre
def jac (l:List Fm):List Fm:=l.flatMap Fm.pre
theorem Fm.pre_kids (f:Fm):f.pre=f :: jac f.kids:=by cases f <;> simp [Fm.pre,Fm.kids,jac]
theorem kbr (l:List Fm) (k:Nat) (h:k < l.length):jac (l.take (k+1))=jac (l.take k) ++ (l[k]).pre:=by
 unfold jac;rw [List.take_succ_eq_append_getElem h,List.flatMap_append,List.flatMap_singleton]
theorem ja0 (l:List Fm) (k:Nat):jac l=jac (l.take k) ++ jac (l.drop k):=by
 unfold jac;rw [<- List.flatMap_append,List.take_append_drop]
theorem va4 (l:List Fm) (k:Nat) (h:k < l.length):jac (l.drop k)=(l[k]).pre ++ jac (l.drop (k+1)):=by
 unfold jac;rw [List.drop_eq_getElem_cons h,List.flatMap_cons]
def wb9 {w0:World} {L:Nat} (J Jx:List (It w0 L)->World->Prop) (pre:List (It w0 L)) (l:List Fm) (W:World) (e:Ending) (W':World):Prop:=
 (e=.returned (.bool true)/\∃ q,q.map It.f=l/\J (pre ++ q) W'/\yj W W')\/(e=.returned (.bool false)/\∃ q,q.map It.f <+: l/\Jx (pre ++ q) W')
theorem jca {w0 : World} {L : Nat} (l N : Nat) (J Jx : List (It w0 L) -> World -> Prop) (hJ : ∀ pre W W', J pre W -> Ext W W' -> J pre W')
 (hY:∀ m pre x W,J pre W->pre.length < N->YieldAt Fence.wide m Tryz.prog l x.enc W fun e W'=>(e=.returned (.bool true)/\J (pre ++ [x]) W'/\yj W W')\/(e=.returned (.bool false)/\Jx (pre ++ [x]) W')) (n:Nat) :
 ∀ (f:Fm) (v:Value) (m:Nat) (dep:Int) (pre:List (It w0 L)) (W:World),f.sz < n->FmV w0 L f v->J pre W->pre.length+f.pre.length<=N->0<=dep->dep+f.sz<=4611686018427387904 ->
   CallsIn Fence.wide m Tryz.prog 168 #[v,.int .i64 dep,.func (.yield l) #[] #[]] W (wb9 J Jx pre f.pre W):=by
 induction n with
 | zero=>intro f v m dep pre W h; omega
 | succ n ih =>
 intro f v m dep pre W hsz h hJ0 hN hd1 hd2;have IH:=Lib.hid ih;have HJ:=Lib.hid hJ;have HY:=Lib.hid hY;have H:=Lib.hid h;clear ih hJ hY;obtain ⟨T,x,rfl⟩:=h.iface;clear h;have hdd:∀ k:Nat,(Fence.wide.depth.isSome=true->1<=k):=fun k h=>by cases h
 obtain ⟨fn,tmps,assign,body,hy,hR⟩:=HY.out (m - 1) pre ⟨dep,f,.iface T x,H.out⟩ W hJ0 (by rw [Fm.pre_kids] at hN; simp at hN; omega);have HR:=Lib.hid hR;clear hR;dsimp only [It.enc] at hy;refine callsIn_of_wp Tryz.func168 rfl trivial ?_ rfl;simp only [Tryz.ntmps168,List.size_toArray,List.length_cons,List.length_nil,Nat.reduceAdd,Nat.reduceSub,Array.replicate_succ,Array.replicate_zero,List.push_toArray,List.append_toArray,List.nil_append,List.cons_append]
 gi_wp2_with fail
 refine ⟨hdd _,?_⟩;refine HR.out.mono ?_;rintro e W1 (⟨rfl,hJ1,hk1⟩ | ⟨rfl,hjx⟩)
 · have HJ1:=Lib.hid hJ1;have HK1:=Lib.hid hk1;clear hJ1 hk1 HR hy hJ0
   gi_wp2_with fail
   refine ⟨trivial,hdd _,?_⟩;refine (callsIn_wide.2 (vam f H.out)).mono ?_;rintro e w2 ⟨s,rfl,hs,hf,hx⟩;obtain ⟨A,c,rfl⟩:=hs.len;have hlen:=f.kids_len;have HS:=Lib.hid hs;have HX:=Lib.hid hx;clear hs hf hx
   gi_wp2_with fail
   gi_loopw [17] (fun iv wr=>∃ k:Nat,k<=f.kids.length/\iv=.int .i64 k/\Hid (∃ q,q.map It.f=f :: jac (f.kids.take k)/\J (pre ++ q) wr/\yj w2 wr)) (fun iv _=>f.kids.length - (intOf iv).toNat)
   case atStart =>
    exact ⟨0,Nat.zero_le _,rfl,⟨[⟨dep,f,_,H.out⟩],by simp [jac],HJ.out _ _ _ HJ1.out HX.out,yj.refl _⟩⟩
   case round =>
    obtain ⟨k,hk,rfl,⟨q,hq,hJk,hkk⟩⟩:=hrel;have HQ:=Lib.hid hq;have HJK:=Lib.hid hJk;have HKK:=Lib.hid hkk;clear hq hJk hkk
    by_cases hlt:k < f.kids.length
    · obtain ⟨ad,y,rfl,hc,hp⟩:=SlR.get_ (SlR.keepsCells HS.out HKK.out) k hlt;have HP:=Lib.hid hp;obtain ⟨U,y,rfl⟩:=hp.iface;clear hp;have hkl:=f.kids_lt _ (List.getElem_mem hlt);have HLEN:Hid ((pre ++ q).length+(f.kids[k]).pre.length<=N):=by
       have h1:q.length=(f :: jac (f.kids.take k)).length:=by rw [<- HQ.out,List.length_map]
       rw [Fm.pre_kids,ja0 f.kids k,va4 _ _ hlt] at hN;simp only [List.length_cons,List.length_append] at hN h1;have:(pre ++ q).length+(f.kids[k]).pre.length<=N:=by rw [List.length_append]; omega
       exact this
      gi_wp2_with fail
      refine ⟨trivial,hdd _,?_⟩;refine (IH.out (f.kids[k]) _ _ (dep+1) (pre ++ q) _ (by omega) HP.out HJK.out HLEN.out (by omega) (by omega)).mono ?_;rintro e w3 (⟨rfl,q2,hq2,hJ2,hk2⟩ | ⟨rfl,q2,hq2,hx2⟩)
      · have HQ2:=Lib.hid hq2;have HJ2:=Lib.hid hJ2;have HK2:=Lib.hid hk2;clear hq2 hJ2 hk2 hc
        gi_wp2_with fail
        go_roundw
        case rel=>exact ⟨k+1,by omega,by go_num,⟨q ++ q2,by rw [List.map_append,HQ.out,HQ2.out,kbr _ _ hlt]; rfl,by rw [<- List.append_assoc]; exact HJ2.out,HKK.out.trans HK2.out⟩⟩
        case measure=>simp [intOf]; omega
      · have HQ2:=Lib.hid hq2;have HX2:=Lib.hid hx2;clear hq2 hx2 hc
        gi_wp2_with fail
        go_ret;refine .inr ⟨rfl,q ++ q2,?_,by rw [<- List.append_assoc]; exact HX2.out⟩;obtain ⟨r,hr⟩:=HQ2.out;refine ⟨r ++ jac (f.kids.drop (k+1)),?_⟩;rw [List.map_append,HQ.out,Fm.pre_kids,ja0 f.kids k,va4 _ _ hlt,<- hr];simp
    · have hke:k=f.kids.length:=by omega
      have HD:Hid (q.map It.f=f.pre):=by
       have:=HQ.out;rw [hke,List.take_length,<- Fm.pre_kids] at this;exact this
      clear hke
      gi_wp2_with fail
      go_ret;exact .inl ⟨rfl,q,HD.out,HJK.out,(HK1.out.trans (yj.of_ext HX.out)).trans HKK.out⟩
 · have HX1:=Lib.hid hjx;clear hjx HR hy hJ0
   gi_wp2_with fail
   go_ret;refine .inr ⟨rfl,[⟨dep,f,_,H.out⟩],?_,HX1.out⟩;rw [Fm.pre_kids];exact ⟨jac f.kids,rfl⟩
end Go.Proofs.YtcfcjabgkfehlaaGreat
